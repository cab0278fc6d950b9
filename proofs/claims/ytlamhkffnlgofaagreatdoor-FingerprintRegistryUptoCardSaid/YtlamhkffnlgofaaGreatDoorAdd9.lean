/- What fingerprint.Add computes. Condition: what fingerprint.Bytes computes. -/
import Derived.Test.YtlamhkffnlgofaaGreatDoorHBJ
import Derived.Test.YtlamhkffnlgofaaGreatDoorFpb
set_option maxHeartbeats 800000
set_option maxRecDepth 100000
namespace Go.Proofs.YtlamhkffnlgofaaGreatDoor
open Go.ChangeShapes Go.WideShapes Go.ChangeAt Go.RowKit
theorem axg:(Tryz.prog.info? 27).map (fun i => (i.zero,i.size,i.bytes))=some (some (.agg #[.slice none 0 0,.int .i64 0]),2,32):=by kernel_rfl
theorem aIu (n:Nat) (A:Option Addr) (cap:Nat) (xs:List Value) (w:World) (hn:n≤1000000) (hA:A=none→n=0) (hl:xs.length=n*2) (hr:∀ a,A=some a→∀ j u,xs[j]?=some u→w.cell? (a.add j)=some u) (hlt:∀ a,A=some a→0 < n→a.block < w.heap.size) (h1:∀ u ∈ xs,u.oneCell'=true) :
  Calls Tryz.prog 37 #[.slice A n cap] w (DJ w 27 2 n xs):=by
 have heq:=fun (W:World) => Lib.run_eql_slice_nil (P:=Tryz.prog) W 22 27 A n cap 0 0 Tryz.underlying22;cases A with
 | none =>
  obtain rfl:=hA rfl;simp only [Option.isNone_none] at heq;have hx:xs = []:=by simpa using hl
  subst hx;clear hr hlt h1;go_enter Tryz.func37,Tryz.ntmps37
  exact zEa
 | some a =>
  simp only [Option.isNone_some] at heq;have hcell:∀ j u,xs[j]?=some u→(w.alloc (.cells #[] 27)).cell? (a.add j)=some u:=by
   exact zDf
  have HR:=hiQ hcell;have hown:(w.alloc (.cells #[] 27)).ownsRow w.heap.size 27 2 (.slice (some ⟨w.heap.size,0,none⟩) 0 0) 0 [] :=
   ⟨rfl,.inr ⟨w.heap.size,0,#[],rfl,Nat.le_refl _,heap_alloc_new w _,Nat.le_refl _,by simp [maxLen],rfl,rfl⟩⟩
  have h01:=(Below.refl w.heap.size w).alloc (Nat.le_refl _) (.cells #[] 27);have Lc:=hiQ hown;have H1:=hiQ h1;have HL:=hiQ hl;obtain ⟨i0,hi,hz0,hz1,hz2⟩:=info_parts axg;have Hi:=hiQ hi;have Hz0:=hiQ hz0;have Hz1:=hiQ hz1;have Hz2:=hiQ hz2;clear hr hcell hown h1 hl hlt hA hi hz0 hz1 hz2;go_enter Tryz.func37,Tryz.ntmps37
  go_wp2_with (at_builtin;refine wpList_append_own _ rfl _ _ _ rfl w.heap.size 27 i0 _ 2 32 Tryz.underlying22 Hi.out Hz0.out Hz1.out Hz2.out rfl (by decide) _ 0 [] rfl Lc.out a n cap xs rfl HL.out HR.out H1.out (by simp only [maxLen];omega) (by omega) (by simp) ?_;intro v' w2 hown2 hgrow _)
  exact zCn
theorem aKk (us ts:List ay) (E A:Option Addr) (d c:Nat) (u t:Int) (g:Nat) (w:World) (hs:Sizes us) (hs':Sizes ts) (hu:aU w w.heap.size (.slice E us.length d) us) (ht:aU w w.heap.size (.slice A ts.length c) ts) (G:Has w g 27 #[.slice A ts.length c,.int .i64 t]) :
  Calls Tryz.prog 39 #[.agg #[.slice E us.length d,.int .i64 u],.pointer (some ⟨g,0,none⟩)] w fun e w' => e = .returned (.bool (aot us u ts t))∧Below w.heap.size w w':=by
 have HU:=hiQ hu;have HT:=hiQ ht;have HW:=hiQ (fun W h1 h2 => aKl us ts E A d c u t W hs hs' h1 h2);clear hu ht hs hs';generalize aot us u ts t=b at *;replace G:=hiQ G;go_enter Tryz.func39,Tryz.ntmps39
 go_upto_region 1 with fail;refine aO (fun wd2 hb1 X => ?_);replace G:=b1 G hb1;have hw3:=hb1;clear hb1;obtain ⟨aK,bJ⟩:=X.out.c2;obtain ⟨aEl,aEm⟩:=G.out.c2;go_wp2_with fail;clear aK bJ aEl aEm;((with_reducible refine (HW.out _ (HU.out.on hw3) (HT.out.on hw3)).mono ?_);rintro e wd4 ⟨rfl,hb5⟩);obtain ⟨G,X⟩:=b2 G X hb5;exact zIg
def axi (g:OB→Bool):List OB→Nat→Option Nat
 | [],_ => none
 | x :: r,k => if g x=true then some k else axi g r (k+1)
theorem aJa (rs:List OB) (cs:List Value) (A:Option Addr) (c:Nat) (ts:List ay) (E:Option Addr) (d:Nat) (t:Int) (g:Nat) (w:World) (hl:rs.length≤140737488351232) (hS:∀ x ∈ rs,Sizes x.1) (hs:Sizes ts) (hr:Rd w w.heap.size 2 (.slice A rs.length c) rs.length cs) (hrt:AV w w.heap.size cs rs) (ht:aU w w.heap.size (.slice E ts.length d) ts) (G:Has w g 27 #[.slice E ts.length d,.int .i64 t]) :
  Calls Tryz.prog 38 #[.slice A rs.length c,.func (.func 39) #[] #[.pointer (some ⟨g,0,none⟩)]] w fun e w' => e = .returned (.int .i64 (Jc (axi (fun x => aot x.1 x.2 ts t) rs 0)))∧Below w.heap.size w w':=by
 have HR:=hiQ hr;have HT:=hiQ hrt;have HU:=hiQ ht;have HS:=hiQ hS;have HC:=hiQ (fun us E' d' u W h0 h1 h2 h3 => aKk us ts E' E d' d u t g W h0 hs h1 h2 h3);have hG0:=G;obtain ⟨p,hp⟩ : ∃ p,p=fun x:OB => aot x.1 x.2 ts t:=⟨_,rfl⟩
 have hpx:∀ us u,aot us u ts t=p (us,u):=fun us u => by rw [hp]
 simp only [hpx] at HC;rw [← hp];clear hr hrt ht hS hs hp hpx;replace G:=hiQ G;go_enter Tryz.func38,Tryz.ntmps38
 go_upto_region 2 with fail;have aD4:Below w.heap.size w w:=Below.refl _ _;go_loopw [8] (fun s8 wr => ∃ k:Nat,s8 = .int .i64 k∧k≤rs.length∧axi p rs 0=axi p (rs.drop k) k∧Below w.heap.size w wr∧Has wr g 27 #[.slice E ts.length d,.int .i64 t]) (fun s8 _ => rs.length - (intOf s8).toNat)
 case atStart => exact ⟨0,rfl,by omega,rfl,aD4,hG0⟩
 case round =>
  clear G hG0 aD4;obtain ⟨k,rfl,hk,hix,hb,G⟩:=hrel;replace G:=hiQ G;by_cases hlt:k < rs.length
  ·
   obtain ⟨b,o,A1,c1,hA,hbb,x0,x1,hx⟩:=Y7 HR.out HT.out k hlt;have hsx:=HS.out _ (List.getElem_mem hlt);rw [List.drop_eq_getElem_cons hlt,axi] at hix;replace x0:=(hb.cell (p:=⟨b,_,none⟩) hbb).trans x0;replace x1:=(hb.cell (p:=⟨b,_,none⟩) hbb).trans x1;generalize rs[k]=x at *;obtain ⟨us,u⟩:=x;simp only at x0 x1 hx hsx;have HX:=hiQ hx;have HSX:=hiQ hsx;have hi1:(k:Int) < rs.length:=by omega
   have hd0:decide ((k:Int) < 0)=false:=by simp
   have hd1:decide (rs.length≤k)=false:=by simpa using hlt
   clear hx hsx;subst hA;obtain ⟨q,hq⟩ : ∃ q,p (us,u)=q:=⟨_,rfl⟩
   have HQ:=hiQ (HC.out us A1 c1 u);rw [hq] at hix HQ;clear hq;cases q with
   | true =>
    rw [if_pos rfl] at hix;have jB:=hiQ hix;clear hix;go_wp2_with fail;clear x0 x1;((with_reducible refine (HQ.out _ HSX.out (HX.out.on hb) (HU.out.on hb) G.out).mono ?_);rintro e wd1 ⟨rfl,hb2⟩);replace G:=b1 G hb2;replace hb:=dT hb hb2;clear hb2;go_wp2_with fail;go_ret;exact ⟨by rw [jB.out];rfl,hb⟩
   | false =>
    rw [if_neg (by simp)] at hix;have jB:=hiQ hix;clear hix;go_wp2_with fail;clear x0 x1;((with_reducible refine (HQ.out _ HSX.out (HX.out.on hb) (HU.out.on hb) G.out).mono ?_);rintro e wd1 ⟨rfl,hb2⟩);replace G:=b1 G hb2;replace hb:=dT hb hb2;clear hb2;go_wp2_with fail;go_roundw
    case rel => exact ⟨k+1,by go_num,by omega,jB.out,hb,G.out⟩
    case measure => simp [intOf];omega
  obtain rfl:k=rs.length:=by omega
  rw [List.drop_eq_nil_of_le (Nat.le_refl _),axi] at hix;have jB:=hiQ hix;clear hix;go_wp2_with fail;go_ret;exact ⟨by rw [jB.out];rfl,hb⟩
noncomputable def atd (rs:List OB) (cs:List Value) (ts:List ay) (A:Option Addr) (c:Nat) (t:Int):List OB × List Value × Int :=
 if (aj2 ts t).2≠0 then ([],[],0) else match axi (fun x => aot x.1 x.2 ts t) rs 0 with
  | some i => (rs,cs,(i:Nat))
  | none => (rs ++ [(ts,t)],cs ++ [.slice A ts.length c,.int .i64 t],(rs.length:Nat))
def azx (q:List OB × List Value × Int) (n:Int) (w:World) (e:Ending) (w':World):Prop :=
 (∃ v,e = .returned (.tuple #[v,.int .i64 q.2.2,.int .i64 n])∧Rd w' w'.heap.size 2 v q.1.length q.2.1)∧Below w.heap.size w w'
theorem aIL {rs:List OB} {cs:List Value} {ts:List ay} {A:Option Addr} {c:Nat} {t:Int} {w:World} {B:Nat} (h:AV w B cs rs) (ht:aU w B (.slice A ts.length c) ts):AV w B (atd rs cs ts A c t).2.1 (atd rs cs ts A c t).1:=by
 unfold atd;split
 · exact AV.nil w B
 split
 · exact h
 exact h.snoc ht
theorem aKm (rs:List OB) (cs:List Value) (ts:List ay) (A:Option Addr) (c:Nat) (t:Int):(atd rs cs ts A c t).1.length≤rs.length+1:=by
 unfold atd;split
 · simp
 split
 · simp
 simp
theorem ayc {w w':World} {size n:Nat} {v:Value} {xs:List Value} (h:Rd w w.heap.size size v n xs) (hb:Below w.heap.size w w'):Rd w' w'.heap.size size v n xs:=(h.below hb).mono hb.size
theorem zFw {p:Prop} (h:p:=by
 rw [if_pos hn0] at hq;subst hq;have t1:(n == 0)=false:=by simpa using hn0
 clear hn0;go_wp2_with fail;go_ret3;exact ⟨⟨_,rfl,Rd.nil_ _ _ _⟩,hw3⟩):p:=h
theorem aHM (rs:List OB) (cs:List Value) (vl:Value) (ts:List ay) (E:Option Addr) (d:Nat) (t:Int) (w:World) (hn:rs.length≤1000) (hS:∀ x ∈ rs,Sizes x.1) (hs:Sizes ts) (hr:Rd w w.heap.size 2 vl rs.length cs) (hrt:AV w w.heap.size cs rs) (ht:aU w w.heap.size (.slice E ts.length d) ts)
  (hby:∀ W,Below w.heap.size w W→Calls Tryz.prog 22 #[.agg #[.slice E ts.length d,.int .i64 t]] W fun e w' => e = .returned (.tuple #[.string ⟨(aj2 ts t).1.toArray⟩,.int .i64 (aj2 ts t).2])∧Below W.heap.size W w') :
  Calls Tryz.prog 12 #[vl,.agg #[.slice E ts.length d,.int .i64 t]] w (azx (atd rs cs ts E d t) (aj2 ts t).2 w):=by
 obtain ⟨A,c,rfl,hcap⟩:=hr.form;have hcl:∀ W,Below w.heap.size w W→Calls Tryz.prog 37 #[.slice A rs.length c] W (DJ W 27 2 rs.length cs):=fun W hb => by
  have hr2:=hr.below hb;refine aIu rs.length A c cs W (by omega) ?_ hrt.1 ?_ ?_ hrt.one
  ·
   intro hA;by_cases h0:rs.length=0
   · exact h0
   obtain ⟨b,o,e,_⟩:=hr2.at_ (by omega);rw [e] at hA;cases hA
  ·
   intro a ha j u hu;have hj:j < cs.length:=(List.getElem?_eq_some_iff.1 hu).1;have hl:=hrt.1;obtain ⟨b,o,e,hb2,hc⟩:=hr2.at_ (by omega);rw [ha] at e;injection e with e;subst e;have e1:(⟨b,o,none⟩ : Addr).add j=⟨b,o+j,none⟩:=by unfold Addr.add;split <;> simp_all
   rw [e1];exact hc j u hu
  intro a ha h0;obtain ⟨b,o,e,hb2,_⟩:=hr2.at_ h0;rw [ha] at e;injection e with e;subst e;have:=hb.size;show b < _;omega
 unfold DJ at hcl;have HBY:=hiQ hby
 have HCL:=hiQ hcl;have HIX:=hiQ (fun g W h1 h2 h3 h4 => aJa rs cs A c ts E d t g W (by omega) hS hs h1 h2 h3 h4);have HR:=hiQ hr;have HRT:=hiQ hrt;have HT:=hiQ ht;have hq:atd rs cs ts E d t=(if (aj2 ts t).2≠0 then (([],[],0):List OB × List Value × Int) else match axi (fun x => aot x.1 x.2 ts t) rs 0 with
  | some i => (rs,cs,((i:Nat):Int))
  | none => (rs ++ [(ts,t)],cs ++ [.slice E ts.length d,.int .i64 t],((rs.length:Nat):Int))):=rfl
 generalize atd rs cs ts E d t=q at *;generalize aj2 ts t=y at *;obtain ⟨l,n⟩:=y;simp only at HBY hq;generalize axi (fun x => aot x.1 x.2 ts t) rs 0=o at *;clear hby hcl hr hrt ht hS hs;unfold azx;go_enter Tryz.func12,Tryz.ntmps12
 go_upto_region 1 with fail;refine aO (fun wd2 hb1 P => ?_);have hw3:=hb1;clear hb1;obtain ⟨afM,XD⟩:=P.out.c2;go_wp2_with fail;clear afM XD;((with_reducible refine (HBY.out _ hw3).mono ?_);rintro e wd4 ⟨rfl,hb5⟩);replace P:=b1 P hb5;replace hw3:=dT hw3 hb5;clear hb5;by_cases hn0:n=0
 ·
  subst hn0;rw [if_neg (by simp)] at hq;go_wp2_with fail;have hzc:=(hw3).size;((with_reducible refine (HCL.out _ hw3).mono ?_);rintro e wL ⟨vc,rfl,hown,hb7⟩);replace P:=b1 P hb7;replace hw3:=dT hw3 hb7;clear hb7;have hown2:wL.ownsRow w.heap.size 27 2 vc rs.length cs:=own_base hown hzc;have O:=hiQ (Kept.own hown2);clear hown hown2;go_wp2_with fail;((with_reducible refine (HIX.out _ _ (ayc HR.out hw3) (HRT.out.on hw3) (HT.out.on hw3) P.out).mono ?_);rintro e qP ⟨rfl,zU⟩);obtain ⟨P,O⟩:=b2 P O zU;replace hw3:=dT hw3 zU;clear zU;cases o with
  | some i =>
   subst hq;rw [show Jc (some i)=(i:Int) from rfl];have hd1:decide ((0:Int)≤(i:Int))=true:=by simp
   have hd2:¬ ((i:Int) < 0):=by omega
   go_wp2_with fail;go_ret3;exact ⟨⟨vc,rfl,Rd.uX O.out.now⟩,hw3⟩
  | none =>
   subst hq;rw [show Jc none = -1 from rfl];obtain ⟨afM,XD⟩:=P.out.c2;go_upto_region 8 with fail;go_wp2_with (at_builtin;refine fA rfl _ _ _ rfl w.heap.size 27 _ 2 32 Tryz.underlying22 axg rfl (by decide) vc rs.length _ rfl O.out.now [_,_] _ 1 _ rfl rfl rfl (by simp [Value.oneCell']) (by omega) (by omega) (hw3).size ?_;intro g2 cap w4 hown4 hg4 hgat hb4)
   have hfb:Below w.heap.size w w4:=(hw3).trans hb4;go_wp2_with fail;go_ret3;exact ⟨⟨_,rfl,Rd.uX hown4⟩,hfb⟩
 exact zFw
end Go.Proofs.YtlamhkffnlgofaaGreatDoor
