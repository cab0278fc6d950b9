/- What next, odd, unknown, raw and text of sheaveref08's maker leave. No condition. -/
import Derived.Test.YtkaedmpppnnamaaGreatDoorShelf
import Derived.Test.YtkaedmpppnnamaaGreatDoorHAG
import Derived.Test.YtkaedmpppnnamaaGreatDoorJAA
set_option maxHeartbeats 800000
set_option maxRecDepth 100000
namespace Go.Proofs.YtkaedmpppnnamaaGreatDoor
open ChangeShapes WideShapes ChangeAt RowKit
theorem an3 {β:Type} {F:World->β->Prop} {q:β} {w:World} {cs0:Array Value} {T0:TypeId} (h:∀ W,Below w.heap.size w W->Hid (Has W (w.heap.size) T0 cs0)->F W q):F (w.alloc (.cells cs0 T0)) q:=aO (F:=fun W => F W q) h
structure uG (w:World) (B gm:Nat) (vt:Value) (odd:Bool) (l:List UInt8):Prop where
 blk:∃ A c,Has w gm 96 #[vt,.slice A l.length c,.bool odd]/\Rd w B 1 (.slice A l.length c) l.length (l.map B8)
 le:B<=gm
 len:l.length<=60
theorem uG.keep {w w':World} {B gm:Nat} {vt:Value} {odd:Bool} {l:List UInt8} (h:uG w B gm vt odd l) (hk:∀ k,k<=gm->w'.heap[k]?=w.heap[k]?):uG w' B gm vt odd l:=by
 obtain ⟨⟨A,c,h1,h2⟩,h3,h4⟩:=h;exact ⟨⟨A,c,(hk gm (b_ _)).trans h1,h2.keep fun p hp => D_ (hk p.block (by omega))⟩,h3,h4⟩
theorem uG.here {w:World} {B gm:Nat} {vt:Value} {odd:Bool} {l:List UInt8} (h:uG w B gm vt odd l):gm < w.heap.size:=by
 obtain ⟨⟨A,c,h1,_⟩,_⟩:=h;exact h1.here
structure kC (w:World) (B gm:Nat) (vt:Value) (odd:Bool) (l l':List UInt8) (w':World):Prop where
 at_:uG w' B gm vt odd l'
 gr:w.grownBy w' (some gm)
 len:l'.length<=l.length
theorem ahu (w:World) (r:Option Nat):w.grownBy w r:=⟨rfl,rfl,rfl,b_ _,fun _ _ _ => rfl⟩
theorem Xw {a b c:World} {r:Option Nat} (h:a.grownBy b r) (k:b.grownBy c r):a.grownBy c r :=
 ⟨k.os.trans h.os,k.tape.trans h.tape,k.output.trans h.output,Jh h.size k.size,fun i hi hr => (k.block i (u_ hi h.size) hr).trans (h.block i hi hr)⟩
theorem aft {a b:World} {r:Option Nat} (h:Below a.heap.size a b):a.grownBy b r:=⟨h.os,h.tape,h.output,h.size,fun k hk _ => h.block k hk⟩
theorem Xx {a b:World} {g:Nat} (h:a.grownBy b (some g)) (hg:g<=a.heap.size):Below g a b:=⟨h.os,h.tape,h.output,h.size,fun k hk => h.block k (by omega) (fun e => by injection e;omega)⟩
theorem kC.refl {w:World} {B gm:Nat} {vt:Value} {odd:Bool} {l:List UInt8} (h:uG w B gm vt odd l):kC w B gm vt odd l l w:=⟨h,ahu _ _,b_ _⟩
theorem kC.trans {w w1 w2:World} {B gm:Nat} {vt:Value} {odd:Bool} {l l1 l2:List UInt8} (h:kC w B gm vt odd l l1 w1) (k:kC w1 B gm vt odd l1 l2 w2):kC w B gm vt odd l l2 w2 :=
 ⟨k.at_,Xw h.gr k.gr,Jh k.len h.len⟩
theorem kC.below {w w1 w2:World} {B gm:Nat} {vt:Value} {odd:Bool} {l l1:List UInt8} (h:kC w B gm vt odd l l1 w1) (k:Below w1.heap.size w1 w2):kC w B gm vt odd l l1 w2 :=
 ⟨h.at_.keep fun i hi => k.block i (Nat.lt_of_le_of_lt hi h.at_.here),Xw h.gr (aft k),h.len⟩
theorem ada (w:World) (g i:Nat) (u:Value):w.grownBy (w.setCell ⟨g,i,none⟩ u) (some g) :=
 ⟨rfl,rfl,rfl,by simp [World.setCell],fun k _ hne => Below.heap_setCell w ⟨g,i,none⟩ u k (fun e => hne (by rw [e]))⟩
theorem Za (w:World) (g i:Nat) (u:Value) (B:Nat) (hB:B<=g):∀ p:Addr,p.block < B->(w.setCell ⟨g,i,none⟩ u).cell? p=w.cell? p:=fun p hp => cell_far w g i u p (by omega)
theorem kC.iw {w w1 w2:World} {B gm L:Nat} {vt:Value} {odd:Bool} {l l1:List UInt8} (h:kC w B gm vt odd l l1 w1) (k:Below L w1 w2) (hL:w.heap.size<=L) (hg:gm < w.heap.size:=by assumption):kC w B gm vt odd l l1 w2 :=
 ⟨h.at_.keep fun i hi => k.block i (by omega),⟨k.os.trans h.gr.os,k.tape.trans h.gr.tape,k.output.trans h.gr.output,Jh h.gr.size k.size,fun i hi hr => (k.block i (by omega)).trans (h.gr.block i hi hr)⟩,h.len⟩
theorem jd (g:Nat) (w:World) (cs:Array Value):Below g w (w.setRow g cs):=below_setRow (g_ g w) (b_ _) cs
theorem Has.gr {w w':World} {g k:Nat} {T:TypeId} {cs:Array Value} (h:Has w k T cs) (hg:w.grownBy w' (some g)) (hne:k≠g):Has w' k T cs:=(hg.block k h.here (fun e => hne (by injection e))).trans h
theorem Kept.gr {P:World->Prop} {w w':World} {L B g:Nat} (h:Kept P w L B) (hg:w.grownBy w' (some g)) (hd:B<=g\/g < L):Kept P w' L B :=
 h.move (fun k hl hk => hg.block k (u_ hk h.le) (fun e => by injection e;omega)) hg.size
def afu (w:World) (B gm:Nat) (vt:Value) (odd:Bool) (l:List UInt8) (n:Nat) (e:Ending) (w':World):Prop :=
 ∃ (k:Nat) (l':List UInt8),k < n/\(l = []->k=0)/\(l≠[]->l'.length < l.length)/\e = .returned (.int .i64 k)/\kC w B gm vt odd l l' w'
theorem oQ (B gm:Nat) (vt:Value) (odd:Bool) (l:List UInt8) (n:Nat) (ni:Int) (w:World) (hni:ni=n) (h0:0 < n) (hn:n<=256) (hM:uG w B gm vt odd l) :
  Calls Tryz.prog 62 #[.pointer (some ⟨gm,0,none⟩),.int .i64 ni] w (afu w B gm vt odd l n):=by
 subst hni;have HM:=hiQ hM;obtain ⟨⟨A,c,M,hr⟩,hB,Zv⟩:=hM;cases l with
 | nil =>
  clear hr Zv;replace M:=hiQ M;have iD:=M.out.e1;go_enter Tryz.func62,Tryz.ntmps62
  go_wp2_with fail;go_ret;exact ⟨0,[],h0,fun _ => rfl,fun h => absurd rfl h,rfl,kC.refl HM.out⟩
 | cons b r =>
  obtain ⟨bb,o,rfl,hbb,hcell⟩:=hr.at_ (by simp);obtain ⟨_,A',c',hv,hcap,_⟩:=hr;have hc:r.length+1<=c:=by injection hv with h1 h2 h3;subst h3;simpa using hcap
  have ajN:r.length<=60:=by simp at Zv;omega
  clear hv hcap Zv;have x0:w.cell? ⟨bb,o,none⟩=some (.int .u8 (b.toNat:Int)):=hcell 0 _ rfl;have hbl:b.toNat < 256:=b.toNat_lt;have hnz:¬ (n:Int)=0:=by omega
  have hnp:(0:Int) < (n:Int):=by omega
  have hrm:(b.toNat:Int) % (n:Int)=((b.toNat % n:Nat):Int):=by simp
  have hlt:b.toNat % n < n:=Qo _ h0;generalize b.toNat % n=k at *;generalize b.toNat=bn at *;have HR:Hid (∀ (w':World) (A2:Option Addr) (c2:Nat),(∀ p:Addr,p.block < B->w'.cell? p=w.cell? p)->(r.length<=c2)->(r = []\/A2=some ⟨bb,o+1,none⟩)->Rd w' B 1 (.slice A2 r.length c2) r.length (r.map B8)):=fun w' A2 c2 h1 h2 h3 =>
   ⟨by simp,A2,c2,rfl,h2,by
    rcases h3 with h3 | h3
    . exact .inl (by simp [h3])
    refine .inr ⟨bb,o+1,h3,hbb,fun j u hu => (h1 _ hbb).trans ?_⟩;have:=hcell (j+1) u (by simpa using hu);rwa [Nat.add_comm j 1,<- Us] at this⟩
  clear hcell HM;simp only [z_] at M;replace M:=hiQ M;have iD:=M.out.e1;have ap8:=M.out.free 1;by_cases hc1:c=1
  .
   subst hc1;have hr0:r.length=0:=by omega
   go_enter Tryz.func62,Tryz.ntmps62
   go_wp2_with fail;go_ret;exact ⟨k,r,hlt,(fun h => by cases h),(fun _ => by simp),bC hrm,⟨⟨some ⟨bb,o,none⟩,0,by have:=M.out.set 1 (.slice (some ⟨bb,o,none⟩) 0 0);simpa [hr0] using this,HR.out _ _ _ (Za w gm 1 _ B hB) (by omega) (.inl (yS hr0))⟩,hB,ajN⟩,ada w gm 1 _,by simp⟩
  go_enter Tryz.func62,Tryz.ntmps62
  go_wp2_with fail;go_ret;exact ⟨k,r,hlt,(fun h => by cases h),(fun _ => by simp),bC hrm,⟨⟨some ⟨bb,o+1,none⟩,c - 1,by have:=M.out.set 1 (.slice (some ⟨bb,o+1,none⟩) r.length (c - 1));simpa using this,HR.out _ _ _ (Za w gm 1 _ B hB) (by omega) (.inr rfl)⟩,hB,ajN⟩,ada w gm 1 _,by simp⟩
def ahv (w:World) (B gm:Nat) (vt:Value) (odd:Bool) (l:List UInt8) (e:Ending) (w':World):Prop :=
 ∃ (b:Bool) (l':List UInt8),(odd=false->b=false)/\e = .returned (.bool b)/\kC w B gm vt odd l l' w'
theorem Tj (B gm:Nat) (vt:Value) (odd:Bool) (l:List UInt8) (w:World) (hM:uG w B gm vt odd l) :
  Calls Tryz.prog 64 #[.pointer (some ⟨gm,0,none⟩)] w (ahv w B gm vt odd l):=by
 have HM:=hiQ hM;obtain ⟨⟨A,c,M,_⟩,hB,_⟩:=hM;cases odd with
 | false =>
  replace M:=hiQ M;have je:=M.out.e2;go_enter Tryz.func64,Tryz.ntmps64
  go_wp2_with fail;go_ret;exact ⟨false,l,fun _ => rfl,rfl,kC.refl HM.out⟩
 | true =>
  replace M:=hiQ M;have je:=M.out.e2;go_enter Tryz.func64,Tryz.ntmps64
  go_wp2_with fail;clear je;((with_reducible refine (oQ B gm vt true l 4 4 _ rfl (by omega) (by omega) HM.out).mono ?_);rintro e wd1 ⟨k,l',hk,hk0,hkl,rfl,ht⟩);clear hk0 hkl;go_wp2_with fail
  all_goals
   go_ret;exact ⟨_,l',(fun h => by cases h),rfl,ht⟩
theorem Zb (o:Option Nat):∃ p:Int,xg o = .tuple #[.int .i64 p,.bool o.isSome]:=⟨_,rfl⟩
def yC (t:ay) (n:Int):Bool:=(dN t n).isSome || (qm t n).isSome
theorem Xy (t:ay) (vs vm:Value) (n:Int) (w:World) (ht:jc w w.heap.size t vs vm) :
  Calls Tryz.prog 90 #[dA t vs vm,.int .i64 n] w (RT w (.bool (yC t n))):=by
 obtain ⟨C1,m1,C2,m2,rfl,rfl,-,-⟩:=ht.forms;have HT:=hiQ ht;clear ht;go_enter Tryz.func90,Tryz.ntmps90
 go_upto_region 1 with fail;refine aO (fun wd2 hb1 T => ?_);have hw3:=hb1;clear hb1;obtain ⟨aC,bH,bQ,acX,aW,bP,bf,bF,aV,aJ⟩:=T.out.c10;go_wp2_with fail;obtain ⟨p1,hp1⟩:=Zb (dN t n);obtain ⟨p2,hp2⟩:=Zb (qm t n);have h1:=fun W h => xC t (.slice C1 t.syms.length m1) (.slice C2 t.ah.length m2) n W h;have h2:=fun W h => Ol t (.slice C1 t.syms.length m1) (.slice C2 t.ah.length m2) n W h;simp only [hp1] at h1;simp only [hp2] at h2;have H1:=hiQ h1;have H2:=hiQ h2;have HU:Hid (yC t n=((dN t n).isSome || (qm t n).isSome)):=rfl;clear h1 h2 hp1 hp2;generalize (dN t n).isSome=a1 at *;generalize (qm t n).isSome=Zc at *;clear aC bH bQ acX aW bP bf bF aV aJ;((with_reducible refine (H1.out _ (HT.out.on hw3)).mono ?_);rintro e wd4 ⟨rfl,hb5⟩);replace T:=b1 T hb5;replace hw3:=dT hw3 hb5;clear hb5;obtain ⟨aC,bH,bQ,acX,aW,bP,bf,bF,aV,aJ⟩:=T.out.c10;go_wp2_with fail;clear aC bH bQ acX aW bP bf bF aV aJ;((with_reducible refine (H2.out _ (HT.out.on hw3)).mono ?_);rintro e wL ⟨rfl,hb7⟩);replace T:=b1 T hb7;replace hw3:=dT hw3 hb7;clear hb7;cases a1 <;> cases Zc
 all_goals
  go_wp2_with fail;go_ret;exact ⟨au HU.out.symm,hw3⟩
def ahw (w:World) (B gm:Nat) (vt:Value) (odd:Bool) (l:List UInt8) (t:ay) (e:Ending) (w':World):Prop :=
 ∃ (n:Nat) (l':List UInt8),1<=n/\n<=15/\yC t n=false/\e = .returned (.int .i64 n)/\kC w B gm vt odd l l' w'
theorem P5 (B gm:Nat) (vt:Value) (odd:Bool) (l:List UInt8) (t:ay) (vs vm:Value) (w:World) (hu:∀ n:Nat,15<=n->yC t n=false) (hM:uG w B gm vt odd l) (ht:jc w gm t vs vm) :
  Calls Tryz.prog 65 #[.pointer (some ⟨gm,0,none⟩),dA t vs vm] w (ahw w B gm vt odd l t):=by
 have hgw:=hM.here;obtain ⟨C1,m1,C2,m2,rfl,rfl,-,-⟩:=ht.forms;have HT:Hid (∀ W l1,kC w B gm vt odd l l1 W->jc W W.heap.size t (.slice C1 t.syms.length m1) (.slice C2 t.ah.length m2)):=fun W l1 h => ht.keep (fun p hp => D_ (h.gr.block p.block (by omega) (fun e => by injection e;omega))) (by have:=h.at_.here;omega);have HU:=hiQ hu;clear ht hu;have K:=hiQ (kC.refl hM);clear hM;go_enter Tryz.func65,Tryz.ntmps65
 go_upto_region 1 with fail;refine aO (fun wd2 hb1 T => ?_);replace K:=hiQ (K.out.below hb1);clear hb1;go_wp2_with fail;((with_reducible refine (oQ B gm vt odd l 14 14 _ rfl (by omega) (by omega) K.out.at_).mono ?_);rintro e wd3 ⟨k,l',hk,hk0,hkl,rfl,hT⟩);clear hk0 hkl;replace T:=hiQ (T.out.gr hT.gr (show w.heap.size≠gm by omega));replace K:=hiQ (K.out.trans hT);clear hT;obtain ⟨n0,hn0⟩ : ∃ n:Nat,n=k+1:=⟨_,rfl⟩
 have hsum:(1:Int)+(k:Int)=(n0:Int):=by omega
 have hn1:1<=n0/\n0<=14:=by omega
 clear hn0 hk;have HK0:=hiQ K.out;have HT0:=hiQ T.out;have ap9:=hgw;clear K T;go_upto_region 2 with fail;go_loopw [5] (fun i wr => ∃ n:Nat,1<=n/\n<=15/\i = .int .i64 n/\Has wr w.heap.size 72 #[.int .i64 t.kind,.string ⟨t.name.toArray⟩,.int .i64 t.low,.int .i64 t.high,.int .i64 t.max,.slice C1 t.syms.length m1,.slice C2 t.ah.length m2,.int .i64 t.key,.int .i64 t.elem,.bool t.opn]/\kC w B gm vt odd l l' wr) (fun i _ => 15 - (intOf i).toNat)
 case atStart => exact ⟨n0,hn1.1,by omega,by simp,HT0.out,HK0.out⟩
 case round =>
  clear HK0 HT0;obtain ⟨n,hn1,hn2,rfl,T,hK⟩:=hrel;replace T:=hiQ T;have K:=hiQ (hK);clear hK;obtain ⟨aC,bH,bQ,acX,aW,bP,bf,bF,aV,aJ⟩:=T.out.c10;cases hub:yC t n with
  | true =>
   have hn3:n < 15:=by
    rcases QC n 15 with h | h
    . exact h
    rw [HU.out n h] at hub;cases hub
   have HX:=hiQ (Xy t (.slice C1 t.syms.length m1) (.slice C2 t.ah.length m2) n wr (HT.out _ _ K.out));rw [hub] at HX;clear hub;go_wp2_with fail;clear aC bH bQ acX aW bP bf bF aV aJ;((with_reducible refine (HX.out).mono ?_);rintro e fG ⟨rfl,hb6⟩);replace T:=b1 T hb6;replace K:=hiQ (K.out.below hb6);clear hb6;go_wp2_with fail;go_roundw
   case rel => exact ⟨n+1,by omega,by omega,by go_num,T.out,K.out⟩
   case measure => simp [intOf];omega
  | false =>
   have HX:=hiQ (Xy t (.slice C1 t.syms.length m1) (.slice C2 t.ah.length m2) n wr (HT.out _ _ K.out));rw [hub] at HX;go_wp2_with fail;clear aC bH bQ acX aW bP bf bF aV aJ;((with_reducible refine (HX.out).mono ?_);rintro e fG ⟨rfl,hb6⟩);replace T:=b1 T hb6;replace K:=hiQ (K.out.below hb6);clear hb6;go_wp2_with fail;go_ret;exact ⟨n,l',hn1,hn2,hub,rfl,K.out⟩
def ahx (w:World) (B gm:Nat) (vt:Value) (odd:Bool) (l:List UInt8) (n:Int) (e:Ending) (w':World):Prop :=
 ∃ (s l':List UInt8),s.length<=3/\e = .returned (rU (n,s))/\kC w B gm vt odd l l' w'
theorem Zd (B gm:Nat) (vt:Value) (odd:Bool) (l:List UInt8) (n:Int) (w:World) (hM:uG w B gm vt odd l) :
  Calls Tryz.prog 66 #[.pointer (some ⟨gm,0,none⟩),.int .i64 n] w (ahx w B gm vt odd l n):=by
 have hgw:=hM.here;have K:=hiQ (kC.refl hM);clear hM;go_enter Tryz.func66,Tryz.ntmps66
 go_upto_region 1 with fail;refine aO (fun wd2 hb1 R => ?_);replace K:=hiQ (K.out.below hb1);clear hb1;go_wp2_with fail;refine an3 (fun wd4 hb3 S => ?_);have Ox:=R.out.here;have nI:=K.out.gr.size;replace R:=b1 R hb3;replace K:=hiQ (K.out.below hb3);clear hb3;generalize wd2.heap.size=g5 at *;((with_reducible refine (oQ B gm vt odd l 4 4 _ rfl (by omega) (by omega) K.out.at_).mono ?_);rintro e qP ⟨k,l',hk,hk0,hkl,rfl,hT⟩);clear hk0 hkl;replace R:=hiQ (R.out.gr hT.gr (show w.heap.size≠gm by omega));replace S:=hiQ (S.out.gr hT.gr (show g5≠gm by omega));replace K:=hiQ (K.out.trans hT);clear hT;have aH:=S.out.e0;have aaE:=S.out.e1;have aaF:=S.out.e2;have aaG:=S.out.e3;have hk4:k=0\/k=1\/k=2\/k=3:=by omega
 clear hk;rcases hk4 with rfl | rfl | rfl | rfl
 .
  skip
  go_wp2_with (refine sR R.out ?_)
  clear aH aaE aaF aaG;generalize kQ:qP.setRow _ _=kL;replace S:=f1 S (eR kQ);replace R:=dV R kQ;replace K:=hiQ (K.out.iw (kQ ▸ jd (w.heap.size) qP #[.int .i64 n,.string ⟨#[]⟩]) (show w.heap.size<=w.heap.size by omega));clear kQ;exact vJ (v:=.agg #[.int .i64 n,.string ⟨#[]⟩]) (by simp [results,Tryz.results66,go_sem,R.out.c2]) rfl (⟨#[].toList,l',by decide,rfl,K.out⟩)
 .
  skip
  go_wp2_with (refine sR R.out ?_)
  clear aH aaE aaF aaG;generalize kQ:qP.setRow _ _=kL;replace S:=f1 S (eR kQ);replace R:=dV R kQ;replace K:=hiQ (K.out.iw (kQ ▸ jd (w.heap.size) qP #[.int .i64 n,.string ⟨#[1]⟩]) (show w.heap.size<=w.heap.size by omega));clear kQ;exact vJ (v:=.agg #[.int .i64 n,.string ⟨#[1]⟩]) (by simp [results,Tryz.results66,go_sem,R.out.c2]) rfl (⟨#[1].toList,l',by decide,rfl,K.out⟩)
 .
  skip
  go_wp2_with (refine sR R.out ?_)
  clear aH aaE aaF aaG;generalize kQ:qP.setRow _ _=kL;replace S:=f1 S (eR kQ);replace R:=dV R kQ;replace K:=hiQ (K.out.iw (kQ ▸ jd (w.heap.size) qP #[.int .i64 n,.string ⟨#[97]⟩]) (show w.heap.size<=w.heap.size by omega));clear kQ;exact vJ (v:=.agg #[.int .i64 n,.string ⟨#[97]⟩]) (by simp [results,Tryz.results66,go_sem,R.out.c2]) rfl (⟨#[97].toList,l',by decide,rfl,K.out⟩)
 skip
 go_wp2_with (refine sR R.out ?_)
 clear aH aaE aaF aaG;generalize kQ:qP.setRow _ _=kL;replace S:=f1 S (eR kQ);replace R:=dV R kQ;replace K:=hiQ (K.out.iw (kQ ▸ jd (w.heap.size) qP #[.int .i64 n,.string ⟨#[3,1,2]⟩]) (show w.heap.size<=w.heap.size by omega));clear kQ;exact vJ (v:=.agg #[.int .i64 n,.string ⟨#[3,1,2]⟩]) (by simp [results,Tryz.results66,go_sem,R.out.c2]) rfl (⟨#[3,1,2].toList,l',by decide,rfl,K.out⟩)
def afv (w:World) (B gm:Nat) (vt:Value) (odd:Bool) (l:List UInt8) (most:Int) (e:Ending) (w':World):Prop :=
 ∃ (s l':List UInt8),s.length<=3/\(s.length:Int)<=most/\e = .returned (.string ⟨s.toArray⟩)/\kC w B gm vt odd l l' w'
theorem agz (c:Nat) (h:c < 128):Utf8.encode (c:Int) = { data:=[UInt8.ofNat c].toArray }:=by
 have:∀ i:Fin 128,Utf8.encode ((i.val:Nat):Int) = { data:=[UInt8.ofNat i.val].toArray }:=by decide +kernel
 exact this ⟨c,h⟩
theorem afw (B gm:Nat) (vt:Value) (odd:Bool) (l:List UInt8) (m:Nat) (w:World) (hm:m<=3) (hM:uG w B gm vt odd l) :
  Calls Tryz.prog 63 #[.pointer (some ⟨gm,0,none⟩),.int .i64 m] w (afv w B gm vt odd l m):=by
 have hgw:=hM.here;have lY:(m:Int)<=3:=by omega
 have K:=hiQ (kC.refl hM);clear hM;go_enter Tryz.func63,Tryz.ntmps63
 go_wp2_with fail;((with_reducible refine (oQ B gm vt odd l (m+1) _ _ (by omega) (by omega) (by omega) K.out.at_).mono ?_);rintro e wd1 ⟨k,l',hk,hk0,hkl,rfl,hT⟩);clear hk0 hkl;replace K:=hiQ (K.out.trans hT);clear hT;have HK0:=hiQ K.out;clear K;go_wp2_with fail;go_loopw [5,6] (fun s j wr => ∃ (q:List UInt8) (i:Nat) (lc:List UInt8),q.length+i=k/\s = .string ⟨q.toArray⟩/\j = .int .i64 i/\kC w B gm vt odd l lc wr) (fun _ j _ => (intOf j).toNat)
 case atStart => exact ⟨[],k,l',by simp,rfl,rfl,HK0.out⟩
 case round =>
  clear HK0;obtain ⟨q,i,lc,hqi,rfl,rfl,hK⟩:=hrel;have tV:q.length<=3:=by omega
  have K:=hiQ (hK);clear hK;by_cases hi:0 < i
  .
   have hi1:(0:Int) < (i:Int):=by omega
   have hi2:(i:Int)<=3:=by omega
   go_wp2_with fail;((with_reducible refine (oQ B gm vt odd lc 3 3 _ rfl (by omega) (by omega) K.out.at_).mono ?_);rintro e wd3 ⟨k2,l2,hk2,hk0,hkl,rfl,hT⟩);clear hk0 hkl;replace K:=hiQ (K.out.trans hT);clear hT;obtain ⟨c,hc,Hc⟩ : ∃ c:Nat,97+(k2:Int)=(c:Int)/\Hid (c=97+k2):=⟨97+k2,by omega,rfl⟩
   have hcb:(c:Int) < 128:=by have:=Hc.out;omega
   have hs:(Utf8.encode (c:Int)).size=1:=by rw [agz c (by omega)];rfl
   have anl:(k2:Int) < 3:=by omega
   go_wp2_with fail;have hstr:({ data:=q.toArray } : ByteArray) ++ Utf8.encode (c:Int) = { data:=(q ++ [UInt8.ofNat c]).toArray }:=by
    rw [agz c (by omega)];exact qO q [UInt8.ofNat c]
   rw [hstr];clear hstr hs hcb Hc hc anl;go_roundw
   case rel => exact ⟨q ++ [UInt8.ofNat c],i - 1,l2,by simp;omega,rfl,by go_num,K.out⟩
   case measure => simp [intOf];omega
  obtain rfl:i=0:=by omega
  go_wp2_with fail;go_ret;exact ⟨q,lc,by omega,by omega,rfl,K.out⟩
