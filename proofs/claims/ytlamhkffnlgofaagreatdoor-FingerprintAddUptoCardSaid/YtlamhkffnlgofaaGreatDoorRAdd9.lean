/- What sheaveref19.Add and Roots compute. Condition: what sheaveref19.Bytes computes. -/
import Derived.Test.YtlamhkffnlgofaaGreatDoorAdd9
import Derived.Test.YtlamhkffnlgofaaGreatDoorHBA
import Derived.Test.YtlamhkffnlgofaaGreatDoorHBB
import Derived.Test.YtlamhkffnlgofaaGreatDoorHAT
set_option maxHeartbeats 1600000
set_option maxRecDepth 100000
namespace Go.Proofs.YtlamhkffnlgofaaGreatDoor
open Go.ChangeShapes Go.WideShapes Go.ChangeAt Go.RowKit
theorem aFM {w:World} {g base size:Nat} {T:TypeId} (h:Has w g T #[]) (hb:base≤g):w.ownsRow base T size (.slice (some ⟨g,0,none⟩) 0 0) 0 [] :=
 ⟨by simp,.inr ⟨g,0,#[],rfl,hb,h,Nat.le_refl _,by simp [maxLen],by simp,by simp⟩⟩
theorem zAs {p:Prop} (h:p:=by exact ⟨P.out.cell 0,P.out.cell 1⟩):p:=h
theorem zCf {p:Prop} (h:p:=by
 clear E;replace P:=dG P hkk (fun hh => by have:=hvv _ hh;omega);replace L:=dG L hkk (fun hh => by have:=hvv _ hh;omega);replace hb:=hb.trans (hbm.mono (show w.heap.size≤gE by omega));have OW:=hiQ (Kept.ai9 hown1);clear hown1 hgr hat hkk hvv hbm;(try clear hHeld);refine hK.out _ _ zAs (fun hHeld => ?_);clear hK K;refine iE 5 fun K hK => ?_;have hzP:=P.out.here;refine adw (by rfl) _ _ _ (by rfl) w.heap.size 27 _ 2 32 Tryz.underlying22 axg rfl (by decide) (by rfl) OW.out.now (by rfl) (aEA L.out (HT.out.on hb)).1 (by simp [Value.oneCell']) (by simp only [maxLen];omega) (by omega) (hb).size ?_;intro g2 cp2 w2 hown2 aGb aIm;have hb5:Below (w.heap.size+1) w1 w2:=(Below.refl (w.heap.size+1) w1).grown aGb (by omega) (fun k hk => by injection hk with hk;omega);clear L OW;replace P:=hiQ (P.out.below hb5 (show w.heap.size < w.heap.size+1 by omega));replace hb:=hb.trans (hb5.mono (show w.heap.size≤w.heap.size+1 by omega));clear aGb aIm hb5;(try clear hHeld);refine hK.out _ _ zAs (fun hHeld => ?_);clear hK K;refine tk 8 ?_;refine tk 9 ?_;refine tk 10 ?_;refine wpAnyH_done (by kernel_rfl) ?_ _;(try clear hHeld);have hfb:Below w.heap.size w w2:=hb;go_wp2_with fail;go_ret3;exact ⟨⟨_,rfl,Rd.uX hown2⟩,hfb⟩):p:=h
theorem aKh (rs:List OB) (cs:List Value) (vl:Value) (ts:List ay) (E0:Option Addr) (d:Nat) (t:Int) (w:World) (hn:rs.length≤1000) (hS:∀ x ∈ rs,Sizes x.1) (hs:Sizes ts) (hr:Rd w w.heap.size 2 vl rs.length cs) (hrt:AV w w.heap.size cs rs) (ht:aU w w.heap.size (.slice E0 ts.length d) ts)
  (hby:∀ W,Below w.heap.size w W→Calls Tryz.prog 23 #[.agg #[.slice E0 ts.length d,.int .i64 t]] W fun e w' => e = .returned (.tuple #[.string ⟨(aj2 ts t).1.toArray⟩,.int .i64 (aj2 ts t).2])∧Below W.heap.size W w') :
  Calls Tryz.prog 13 #[vl,.agg #[.slice E0 ts.length d,.int .i64 t]] w (azx (atd rs cs ts E0 d t) (aj2 ts t).2 w):=by
 obtain ⟨A,c,rfl,hcap⟩:=hr.form;have HBY:=hiQ hby
 have HR:=hiQ hr;have HRT:=hiQ hrt;have HT:=hiQ ht;have HS:=hiQ hS;have aGC:=hiQ hrt.one;have HW:=hiQ (fun (us:List ay) E' d' u W h0 h1 h2 => azz us ts E' E0 d' d u t W h0 hs h1 h2);have hq:atd rs cs ts E0 d t=(if (aj2 ts t).2≠0 then (([],[],0):List OB × List Value × Int) else match axi (fun x => aot x.1 x.2 ts t) rs 0 with
  | some i => (rs,cs,((i:Nat):Int))
  | none => (rs ++ [(ts,t)],cs ++ [.slice E0 ts.length d,.int .i64 t],((rs.length:Nat):Int))):=rfl
 generalize atd rs cs ts E0 d t=q at *;generalize aj2 ts t=y at *;obtain ⟨l,n⟩:=y;simp only at HBY hq;obtain ⟨p,hp⟩ : ∃ p,p=fun x:OB => aot x.1 x.2 ts t:=⟨_,rfl⟩
 have hpx:∀ us u,aot us u ts t=p (us,u):=fun us u => by rw [hp]
 simp only [hpx] at HW;rw [← hp] at hq;clear hby hr hrt ht hS hs hp hpx;unfold azx;go_enter Tryz.func13,Tryz.ntmps13
 go_upto_region 1 with fail;refine aO (fun wd2 hb1 P => ?_);have hw3:=hb1;clear hb1;obtain ⟨afM,XD⟩:=P.out.c2;go_wp2_with fail;clear afM XD;((with_reducible refine (HBY.out _ hw3).mono ?_);rintro e wd4 ⟨rfl,hb5⟩);replace P:=b1 P hb5;replace hw3:=dT hw3 hb5;clear hb5;by_cases hn0:n=0
 ·
  subst hn0;rw [if_neg (by simp)] at hq;have HQ:=hiQ hq;clear hq;go_upto_region 5 with fail;have hP0:=P.out;have aD4:=hw3;go_loopw [9] (fun s9 wr => ∃ k:Nat,s9 = .int .i64 k∧k≤rs.length∧axi p rs 0=axi p (rs.drop k) k∧Below w.heap.size w wr∧Has wr w.heap.size 27 #[.slice E0 ts.length d,.int .i64 t]) (fun s9 _ => rs.length - (intOf s9).toNat)
  case atStart => exact ⟨0,rfl,by omega,rfl,aD4,hP0⟩
  case round =>
   clear P hP0 aD4;obtain ⟨k,rfl,hk,hix,hb,P⟩:=hrel;replace P:=hiQ P;by_cases hlt:k < rs.length
   ·
    obtain ⟨b,o,A1,c1,hA,hbb,x0,x1,hx⟩:=Y7 HR.out HRT.out k hlt;have hsx:=HS.out _ (List.getElem_mem hlt);rw [List.drop_eq_getElem_cons hlt,axi] at hix;generalize rs[k]=x at *;obtain ⟨us,u⟩:=x;simp only at x0 x1 hx hsx;have HX:=hiQ hx;have HSX:=hiQ hsx;have hi1:(k:Int) < rs.length:=by omega
    have hd0:decide ((k:Int) < 0)=false:=by simp
    have hd1:decide (rs.length≤k)=false:=by simpa using hlt
    clear hx hsx;subst hA;obtain ⟨qb,JY⟩ : ∃ q,p (us,u)=q:=⟨_,rfl⟩
    have HC:=hiQ (HW.out us A1 c1 u);rw [JY] at hix HC;clear JY;have jB:=hiQ hix;clear hix;go_upto_region 7 with fail;obtain ⟨afM,XD⟩:=P.out.c2;refine wp_region_held_drew (S:=(fun w' => w'.cell? ⟨w.heap.size,0,none⟩=some (.slice E0 ts.length d)∧w'.cell? ⟨w.heap.size,1,none⟩=some (.int .i64 t)∧(∀ (b o:Nat),b < w.heap.size→w'.cell? ⟨b,o,none⟩=w.cell? ⟨b,o,none⟩))) (by kernel_rfl) ⟨afM,XD,(fun b o hlt => hb.cell (p:=⟨b,o,none⟩) hlt)⟩ (fun hHeld => ?_);clear afM XD;have hb6:Below wr.heap.size wr (wr.drew):=(Below.refl _ _).drew;replace P:=b1 P hb6;replace hb:=dT hb hb6;clear hb6;generalize wr.drew=jC at *;refine tk 0 ?_;refine tk 1 ?_;refine tk 2 ?_;refine tk 3 ?_;refine tk 4 ?_;refine iE 5 fun K hK => ?_;go_simp;((with_reducible refine (HC.out _ HSX.out (HX.out.on hb) (HT.out.on hb)).mono ?_);rintro e qP ⟨rfl,zU⟩);replace P:=b1 P zU;replace hb:=dT hb zU;clear zU;(try clear hHeld);refine hK.out _ _ (⟨P.out.cell 0,⟨P.out.cell 1,(fun b o hlt => hb.cell (p:=⟨b,o,none⟩) hlt)⟩⟩) (fun hHeld => ?_);clear hK K;refine wpAnyH_done (by kernel_rfl) ?_ _;(try clear hHeld);clear x0 x1;cases qb with
    | true =>
     have hq:=HQ.out;rw [jB.out,if_pos rfl] at hq;subst hq;clear HQ;go_wp2_with (at_builtin;refine ac3 rfl _ _ _ rfl qP.heap.size 27 _ 2 32 Tryz.underlying22 axg rfl (by decide) rfl (World.ownsRow_made qP #[] 0 (Nat.le_refl _) (by decide) rfl) rfl (((ayc HR.out hb).alloc (Nat.le_refl _) _).mono (by simp)) aGC.out (by simp only [maxLen];omega) (by omega) (by simp) ?_;intro nb cap w3 hown3 hg3 ak6;rw [Nat.zero_add,List.nil_append] at hown3;rw [Nat.zero_add])
     have hb3:Below qP.heap.size qP w3:=((Below.refl _ qP).alloc (Nat.le_refl _) _).grown hg3 (by simp) (fun k hk => by injection hk with hk;omega);have hfb:Below w.heap.size w w3:=(hb).trans (hb3.mono (hb).size);clear hg3 ak6;go_wp2_with fail;go_ret3;exact ⟨⟨_,rfl,Rd.uX hown3⟩,hfb⟩
    | false =>
     have hix:=jB.out;rw [if_neg (by simp)] at hix;have aMK:=hiQ hix;clear hix jB;go_wp2_with fail;go_roundw
     case rel => exact ⟨k+1,by go_num,by omega,aMK.out,hb,P.out⟩
     case measure => simp [intOf];omega
   obtain rfl:k=rs.length:=by omega
   rw [List.drop_eq_nil_of_le (Nat.le_refl _),axi] at hix;have hq:=HQ.out;rw [hix] at hq;subst hq;clear hix HQ;go_upto_region 9 with fail;obtain ⟨afM,XD⟩:=P.out.c2;refine wp_region_held_drew (S:=(fun w' => w'.cell? ⟨w.heap.size,0,none⟩=some (.slice E0 ts.length d)∧w'.cell? ⟨w.heap.size,1,none⟩=some (.int .i64 t))) (by kernel_rfl) ⟨afM,XD⟩ (fun hHeld => ?_);clear afM XD;have hb6:Below wr.heap.size wr (wr.drew):=(Below.refl _ _).drew;replace P:=b1 P hb6;replace hb:=dT hb hb6;clear hb6;generalize wr.drew=jC at *;refine tk 1 ?_;refine tk 3 ?_;refine tk 6 ?_;refine tk 7 ?_;refine wpAnyH_ready (rs:=[0,4]) (by kernel_rfl) (by simp) ?_;refine AllReadyH.cons rfl (fun K hK => ?_) (AllReadyH.cons rfl (fun K hK => ?_) (AllReadyH.nil))
   ·
    skip
    have hgw:w.heap.size≤jC.heap.size:=(hb).size;have hgp:=P.out.here;go_simp;refine aO (fun nM hb8 E => ?_);have sH:=P.out.here;have hl12:=hb.size;replace P:=b1 P hb8;replace hb:=dT hb hb8;clear hb8;generalize jC.heap.size=g10 at *;(try clear hHeld);refine hK.out _ _ zAs (fun hHeld => ?_);clear hK K;obtain ⟨gE,rfl⟩ : ∃ g,g=g10:=⟨_,rfl⟩
    have hge:w.heap.size < gE:=by omega
    have hwe:w.heap.size≤gE:=by omega
    refine wpAnyH_ready (rs:=[2,4]) (by kernel_rfl) (by simp) ?_;refine AllReadyH.cons rfl (fun K hK => ?_) (AllReadyH.cons rfl (fun K hK => ?_) (AllReadyH.nil))
    ·
     skip
     have hzE:=E.out.here;refine adw (by rfl) _ _ _ (by rfl) w.heap.size 27 _ 2 32 Tryz.underlying22 axg rfl (by decide) (by rfl) (aFM E.out hwe) (by rfl) (ayc HR.out hb) aGC.out (by simp only [maxLen];omega) (by omega) (by omega) ?_;intro gg cp w1 hown1 hgr hat;rw [Nat.zero_add,List.nil_append] at hown1;rw [Nat.zero_add];have hkk:∀ q,q < nM.heap.size→some gE≠some q→w1.heap[q]?=nM.heap[q]?:=fun q hq hne => hgr.block q hq (fun e => hne e.symm);have hvv:∀ q,some gE=some q→q=gE:=fun q h => by injection h with h;exact h.symm
     have hbm:Below gE nM w1:=(Below.refl gE nM).grown hgr (by omega) (fun k hk => by injection hk with hk;omega);have aLI:=hown1.lt gg rfl;have hzQ:=P.out.here;have aLJ:w.heap.size < gg:=by rcases hat with h | h <;> omega
     have aLK:True:=trivial;clear E;replace P:=dG P hkk (fun hh => by have:=hvv _ hh;omega);replace hb:=hb.trans (hbm.mono (show w.heap.size≤gE by omega));have OW:=hiQ (Kept.ai9 hown1);clear hown1 hgr hat hkk hvv hbm;(try clear hHeld);refine hK.out _ _ zAs (fun hHeld => ?_);clear hK K;refine iE 4 fun K hK => ?_;go_simp;refine aO (fun oZ kR L => ?_);have alj:=P.out.here;have sO:=OW.out.le;have sW:=hb.size;obtain ⟨P,OW⟩:=b2 P OW kR;replace hb:=dT hb kR;clear kR;generalize w1.heap.size=g15 at *;(try clear hHeld);refine hK.out _ _ zAs (fun hHeld => ?_);clear hK K;refine iE 5 fun K hK => ?_;have hzP:=P.out.here;refine adw (by rfl) _ _ _ (by rfl) w.heap.size 27 _ 2 32 Tryz.underlying22 axg rfl (by decide) (by rfl) OW.out.now (by rfl) (aEA L.out (HT.out.on hb)).1 (by simp [Value.oneCell']) (by simp only [maxLen];omega) (by omega) (hb).size ?_;intro g2 cp2 w2 hown2 aGb aIm;have hb5:Below (w.heap.size+1) oZ w2:=(Below.refl (w.heap.size+1) oZ).grown aGb (by omega) (fun k hk => by injection hk with hk;omega);clear L OW;replace P:=hiQ (P.out.below hb5 (show w.heap.size < w.heap.size+1 by omega));replace hb:=hb.trans (hb5.mono (show w.heap.size≤w.heap.size+1 by omega));clear aGb aIm hb5;(try clear hHeld);refine hK.out _ _ zAs (fun hHeld => ?_);clear hK K;refine tk 8 ?_;refine tk 9 ?_;refine tk 10 ?_;refine wpAnyH_done (by kernel_rfl) ?_ _;(try clear hHeld);have hfb:Below w.heap.size w w2:=hb;go_wp2_with fail;go_ret3;exact ⟨⟨_,rfl,Rd.uX hown2⟩,hfb⟩
    skip
    go_simp;refine aO (fun oZ kR L => ?_);have alj:=P.out.here;have sO:=E.out.here;have sW:=hb.size;obtain ⟨P,E⟩:=b2 P E kR;replace hb:=dT hb kR;clear kR;generalize nM.heap.size=g15 at *;(try clear hHeld);refine hK.out _ _ zAs (fun hHeld => ?_);clear hK K;refine iE 2 fun K hK => ?_;have hzE:=E.out.here;refine adw (by rfl) _ _ _ (by rfl) w.heap.size 27 _ 2 32 Tryz.underlying22 axg rfl (by decide) (by rfl) (aFM E.out hwe) (by rfl) (ayc HR.out hb) aGC.out (by simp only [maxLen];omega) (by omega) (by omega) ?_;intro gg cp w1 hown1 hgr hat;rw [Nat.zero_add,List.nil_append] at hown1;rw [Nat.zero_add];have hkk:∀ q,q < oZ.heap.size→some gE≠some q→w1.heap[q]?=oZ.heap[q]?:=fun q hq hne => hgr.block q hq (fun e => hne e.symm);have hvv:∀ q,some gE=some q→q=gE:=fun q h => by injection h with h;exact h.symm
    have hbm:Below gE oZ w1:=(Below.refl gE oZ).grown hgr (by omega) (fun k hk => by injection hk with hk;omega);have aLI:=hown1.lt gg rfl;have hzQ:=P.out.here;have aLJ:w.heap.size < gg:=by rcases hat with h | h <;> omega
    have aLK:gE < g15:=by omega
    exact zCf
   skip
   go_simp;refine aO (fun nM hb8 L => ?_);have sH:=P.out.here;have hl12:=hb.size;replace P:=b1 P hb8;replace hb:=dT hb hb8;clear hb8;generalize jC.heap.size=g10 at *;(try clear hHeld);refine hK.out _ _ zAs (fun hHeld => ?_);clear hK K;refine iE 0 fun K hK => ?_;have hgw:w.heap.size≤nM.heap.size:=(hb).size;have hgp:=P.out.here;go_simp;refine aO (fun oZ kR E => ?_);have alj:=P.out.here;have sO:=L.out.here;have sW:=hb.size;obtain ⟨P,L⟩:=b2 P L kR;replace hb:=dT hb kR;clear kR;generalize nM.heap.size=g15 at *;(try clear hHeld);refine hK.out _ _ zAs (fun hHeld => ?_);clear hK K;obtain ⟨gE,rfl⟩ : ∃ g,g=g15:=⟨_,rfl⟩
   have hge:w.heap.size < gE:=by omega
   have hwe:w.heap.size≤gE:=by omega
   refine iE 2 fun K hK => ?_;have hzE:=E.out.here;refine adw (by rfl) _ _ _ (by rfl) w.heap.size 27 _ 2 32 Tryz.underlying22 axg rfl (by decide) (by rfl) (aFM E.out hwe) (by rfl) (ayc HR.out hb) aGC.out (by simp only [maxLen];omega) (by omega) (by omega) ?_;intro gg cp w1 hown1 hgr hat;rw [Nat.zero_add,List.nil_append] at hown1;rw [Nat.zero_add];have hkk:∀ q,q < oZ.heap.size→some gE≠some q→w1.heap[q]?=oZ.heap[q]?:=fun q hq hne => hgr.block q hq (fun e => hne e.symm);have hvv:∀ q,some gE=some q→q=gE:=fun q h => by injection h with h;exact h.symm
   have hbm:Below gE oZ w1:=(Below.refl gE oZ).grown hgr (by omega) (fun k hk => by injection hk with hk;omega);have aLI:=hown1.lt gg rfl;have hzQ:=P.out.here;have aLJ:w.heap.size < gg:=by rcases hat with h | h <;> omega
   have aLK:g10 < gE:=by omega
   exact zCf
 exact zFw
theorem aI9 (rs:List OB) (cs:List Value) (va vb:Value) (w:World) (hn:rs.length≤1000) (h8:∀ x ∈ rs,x.1.length≤1000) (ha:Rd w w.heap.size 2 va rs.length cs) (hb:Rd w w.heap.size 2 vb rs.length cs) (hrt:AV w w.heap.size cs rs) :
  Calls Tryz.prog 14 #[va,vb] w fun e w' => e = .returned (.bool true)∧Below w.heap.size w w':=by
 obtain ⟨A,c,rfl,_⟩:=ha.form;obtain ⟨E,d,rfl,_⟩:=hb.form;have HA:=hiQ ha;have HE:=hiQ hb;have HRT:=hiQ hrt;have H8:=hiQ h8;clear ha hb hrt h8;go_enter Tryz.func14,Tryz.ntmps14
 go_upto_region 4 with fail;have aD4:Below w.heap.size w w:=Below.refl _ _;go_loopw [5] (fun s5 wr => ∃ k:Nat,s5 = .int .i64 k∧k≤rs.length∧Below w.heap.size w wr) (fun s5 _ => rs.length - (intOf s5).toNat)
 case atStart => exact ⟨0,rfl,by omega,aD4⟩
 case round =>
  clear aD4;obtain ⟨k,rfl,hk,hb⟩:=hrel;by_cases hlt:k < rs.length
  ·
   obtain ⟨b,o,A1,c1,hA,hbb,x0,x1,hx⟩:=Y7 HA.out HRT.out k hlt;obtain ⟨b2,o2,A2,c2,hE,Ew,z0,z1,hz⟩:=Y7 HE.out HRT.out k hlt;have hsx:=H8.out _ (List.getElem_mem hlt);generalize rs[k]=x at *;obtain ⟨us,u⟩:=x;simp only at x0 x1 z0 z1 hx hz hsx;have HX:=hiQ hx;have HZ:=hiQ hz;have HSM:=hiQ (fun W h1 h2 => aBU us A1 A2 c1 c2 u W hsx h1 h2);have hi1:(k:Int) < rs.length:=by omega
   have hd0:decide ((k:Int) < 0)=false:=by simp
   have hd1:decide (rs.length≤k)=false:=by simpa using hlt
   clear hx hz hsx;subst hA hE;go_upto_region 6 with fail;refine wp_region_held_drew (S:=(fun w' => (∀ (b o:Nat),b < w.heap.size→w'.cell? ⟨b,o,none⟩=w.cell? ⟨b,o,none⟩))) (by kernel_rfl) (fun b o hlt => hb.cell (p:=⟨b,o,none⟩) hlt) (fun hHeld => ?_);have hb1:Below wr.heap.size wr (wr.drew):=(Below.refl _ _).drew;replace hb:=dT hb hb1;clear hb1;generalize wr.drew=wd2 at *;refine tk 0 ?_;refine tk 1 ?_;refine tk 2 ?_;refine tk 3 ?_;refine tk 4 ?_;refine tk 5 ?_;refine tk 6 ?_;refine tk 7 ?_;refine iE 8 fun K hK => ?_;go_simp;((with_reducible refine (HSM.out _ (HX.out.on hb) (HZ.out.on hb)).mono ?_);rintro e wd3 ⟨rfl,hb4⟩);replace hb:=dT hb hb4;clear hb4;(try clear hHeld);refine hK.out _ _ ((fun b o hlt => hb.cell (p:=⟨b,o,none⟩) hlt)) (fun hHeld => ?_);clear hK K;refine tk 9 ?_;refine wpAnyH_done (by kernel_rfl) ?_ _;(try clear hHeld);clear x0 x1 z0 z1;go_wp2_with fail;go_roundw
   case rel => exact ⟨k+1,by go_num,by omega,hb⟩
   case measure => simp [intOf];omega
  obtain rfl:k=rs.length:=by omega
  go_wp2_with fail;go_ret;exact ⟨rfl,hb⟩
end Go.Proofs.YtlamhkffnlgofaaGreatDoor
