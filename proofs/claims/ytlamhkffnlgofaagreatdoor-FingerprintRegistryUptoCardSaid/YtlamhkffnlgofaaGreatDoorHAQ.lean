/- What Root restores from canonical bytes: the canonical root. The hash of a string. What fingerprint.Of computes: the hash of the canonical bytes, or an error. What Wrap and Unwrap compute. Plain: the canonical bytes of the document's examples. No condition. -/
import Derived.Test.YtlamhkffnlgofaaGreatDoorFpb
import Derived.OwnWalk
set_option maxHeartbeats 1600000
set_option maxRecDepth 100000
namespace Go.Proofs.YtlamhkffnlgofaaGreatDoor
open Go.ChangeShapes Go.WideShapes Go.ChangeAt Go.RowKit
theorem F7 (k:Int) (h:0≤k∧k≤9:=by decide):I64 k:=by unfold I64;omega
structure arx (us:List ay):Prop where
 valid:fF us=0
 pos:0 < us.length
 canon:Canon us
 ints:akg us
 dfl:acM us
 bare:aqB us
theorem az4 {us:List ay} (h:arx us) (n:Nat) (hn:n < us.length):aAZ n us[n]:=by
 have hm:=List.getElem_mem hn;have hti:=anY h.valid h.ints _ hm;obtain ⟨c1,c2,c3⟩:=h.canon n _ (List.getElem?_eq_getElem hn);obtain ⟨hkd,_,hu⟩:=akc h.valid _ hm;have h32:=(ni h.valid).1;have hmx:=asx h.valid hm;obtain ⟨_,z2,z3,_,_⟩:=U0 hti.form;refine ⟨hti.form,hti.ints,hmx.1,hmx.2,⟨hti.syms.1,fun q hq => by have:=hti.syms.2 q hq;omega⟩,⟨hti.ah.1,fun q hq => ⟨hti.ah.2 q hq,?_⟩⟩,?_,?_,c1,c2,c3⟩
 · obtain ⟨k,hk1,hk2⟩:=hu q.ty (alE _ q hq);omega
 ·
  by_cases h8:us[n].kind=8
  · obtain ⟨k,hk1,hk2⟩:=hu _ (aon _ h8);omega
  rw [z2 h8];omega
 by_cases h7:7≤us[n].kind
 · obtain ⟨k,hk1,hk2⟩:=hu _ (aqY _ h7);omega
 rw [z3 (by omega)];omega
theorem avD {us:List ay} (hv:fF us=0) {x:ay} (hx:x ∈ us) {m:Mem} (hm:m ∈ x.ah) (hd:m.eG=false):m.dflt=jm:=by
 have hf:=((ni hv).2 x hx).1;obtain ⟨_,_,_,z4,_⟩:=U0 hf;by_cases hk:x.kind=5∨x.kind=6
 ·
  unfold dY rD at hf;rw [if_neg (by omega),if_neg (by omega),if_neg (by omega),if_pos hk] at hf;simp only [Bool.and_eq_true] at hf;have:=hf.2.1.2;unfold iQ at this;simp only [Bool.and_eq_true] at this;have h3:=List.all_eq_true.1 this.1 m hm;unfold jf at h3;rw [hd] at h3;simp only [Bool.false_or,Bool.and_eq_true] at h3;exact (vM _ _).1 h3.2.2
 rw [z4 hk] at hm;simp at hm
theorem ayH {m:Mem} (h:aqZ m) (hn:m.name=rF 102 m.id) (hd:m.dflt=jm):ar4 m:=by
 obtain ⟨h1,h2,_⟩:=h;refine ⟨⟨by unfold I64;omega,by unfold I64;omega⟩,?_,by rw [hd];exact ⟨rfl,rfl,rfl⟩,by rw [hd];exact ⟨F7 0,F7 0,F7 0⟩,by rw [hd];decide⟩;have:=af5 102 m.id (by unfold I64;omega);rw [hn];omega
theorem auD {us:List ay} {x:ay} {m:Mem} (hv:fF us=0) (hx:x ∈ us) (hm:m ∈ x.ah):∃ y,bM us m.ty=some y:=by
 obtain ⟨_,_,hu⟩:=akc hv x hx;obtain ⟨k,hk1,hk2⟩:=hu m.ty (alE x m hm);exact ⟨us[k],by rw [hk1,akQ,List.getElem?_eq_getElem hk2]⟩
theorem aw3 {us:List ay} (h:arx us) {n:Nat} (hn:n < us.length) {m:Mem} (hm:m ∈ us[n].ah):ar4 m:=by
 have hx:=List.getElem_mem hn;have hti:=(anY h.valid h.ints _ hx).ah.2 m hm;obtain ⟨_,_,c3⟩:=h.canon n _ (List.getElem?_eq_getElem hn);cases hd:m.eG with
 | false => exact ayH hti (c3 m hm) (avD h.valid hx hm hd)
 | true =>
  obtain ⟨h1,h2,_⟩:=hti;have hf:=h.dfl _ hx m hm hd;obtain ⟨y,hy⟩:=auD h.valid hx hm;have h0:=h.bare _ hx m hm hd;have hform:=arz h.valid hy hf h0;have hyi:=h.ints y (aoa hy);have hnl:=af5 102 m.id (by unfold I64;omega);refine ⟨⟨by unfold I64;omega,by unfold I64;omega⟩,by rw [c3 m hm];omega,⟨h0.1,h0.2.1,h0.2.2.1⟩,?_,?_⟩
  ·
   cases hform with
   | bool bb hk hd he => rw [hd];exact ⟨F7 1,F7 0,F7 0⟩
   | int n hk hd he hn => rw [hd];refine ⟨F7 2,?_,F7 0⟩;show I64 n;unfold I64 at *;omega
   | str s hk hd he hn => rw [hd];exact ⟨F7 3,F7 0,F7 0⟩
   | enum n hk hd he hn => rw [hd];refine ⟨F7 4,F7 0,?_⟩;show I64 n;unfold I64;omega
   | list k hk h7 hd he => rw [hd];refine ⟨?_,F7 0,F7 0⟩;show I64 k;unfold I64;omega
  cases hform with
  | bool bb hk hd he => rw [hd];show (0:Nat)≤_;omega
  | int n hk hd he hn => rw [hd];show (0:Nat)≤_;omega
  | str s hk hd he hn => rw [hd];show s.length≤_;omega
  | enum n hk hd he hn => rw [hd];show (0:Nat)≤_;omega
  | list k hk h7 hd he => rw [hd];show (0:Nat)≤_;omega
theorem aBv {m:Mem} (h:ar4 m):ar4 (unM m):=⟨h.ints,h.GI,⟨rfl,rfl,rfl⟩,⟨F7 0,F7 0,F7 0⟩,by show (0:Nat)≤_;omega⟩
theorem asy {us:List ay} (h:arx us) (t i:Nat):∀ x ∈ LK us t i,aq2 x:=by
 intro x hx;obtain ⟨j,hj⟩:=List.mem_iff_getElem?.1 hx;have hjl:j < us.length:=by
  have:=(List.getElem?_eq_some_iff.1 hj).1;rwa [Si] at this
 rw [an4 us t i j hjl] at hj;obtain rfl:=Option.some.inj hj;have hti:=anY h.valid h.ints _ (List.getElem_mem hjl);obtain ⟨c1,c2,c3⟩:=h.canon j _ (List.getElem?_eq_getElem hjl);have hk:=Us hti.form;have hm:=hti.max;have hke:=hti.key;have hel:=hti.elem;have h32:=(ni h.valid).1;refine ⟨⟨?_,hti.ints.1,hti.ints.2,?_,?_,?_⟩,?_,⟨?_,?_⟩,fun r hr => ?_,fun m hm1 => ?_⟩
 · show I64 us[j].kind;unfold I64;omega
 · show I64 us[j].max;unfold I64;omega
 · show I64 us[j].key;unfold I64;omega
 · show I64 us[j].elem;unfold I64;omega
 ·
  show us[j].name.length≤_;have:=af5 84 (j:Int) (by unfold I64;omega);rw [c1];split <;> simp <;> omega
 ·
  show us[j].syms.length≤_;have:=hti.syms.1;omega
 ·
  show (LJ us[j].ah _).length≤_;rw [an5];have:=hti.ah.1;omega
 ·
  have hr2:r ∈ us[j].syms:=hr;have h1:=hti.syms.2 r hr2;have:=af5 115 r.1 (by unfold I64;omega);exact ⟨by unfold I64;omega,by rw [c2 r hr2];omega⟩
 have hm2:m ∈ LJ us[j].ah (alz us[j] t i j):=hm1;unfold LJ at hm2;rcases List.mem_append.1 hm2 with h3 | h3
 · exact aw3 h hjl (List.mem_of_mem_take h3)
 obtain ⟨q,hq,rfl⟩:=List.mem_map.1 h3;exact aBv (aw3 h hjl (List.mem_of_mem_drop hq))
abbrev aKy (us:List ay):Prop := ∀ (n:Nat) (_:n < us.length) (r:List UInt8) (k gr:Nat) (w:World),(∀ W,Below gr w W→ar5 W)→Y6 w gr (dF us[n] ++ r) k →
 Calls Tryz.prog 62 #[.pointer (some ⟨gr,0,none⟩),.int .i64 (n:Nat)] w (akU gr r (unT us[n]) w)
abbrev aLQ (us:List ay):Prop := ∀ (n:Nat) (hn:n < us.length) (m:Mem) (_:m ∈ us[n].ah) (_:m.eG=true) (y:ay) (ty:Nat) (_:m.ty=(ty:Int)) (_:ty < us.length) (_:y.kind=us[ty].kind)
  (b o c k gr:Nat) (r:List UInt8) (w:World) (C1:Option Addr) (n1 l1:Nat) (C2:Option Addr) (n2 l2:Nat) (_:b < w.heap.size) (_:NI w b (o+ty*10) y (.slice C1 n1 l1) (.slice C2 n2 l2)) (_:r.length≤1000000000000) (_:Y6 w gr (Ap us m ++ r) k),
  Calls Tryz.prog 64 #[.pointer (some ⟨gr,0,none⟩),.agg #[.slice (some ⟨b,o,none⟩) us.length c],.int .i64 (ty:Nat)] w (anM gr (aS m.dflt (.slice none 0 0) (.slice none 0 0) (.slice none 0 0)) r 0 w)
def az5 (us:List ay) (w:World) (e:Ending) (w':World):Prop := ∃ A c,e = .returned (.tuple #[.agg #[.slice A us.length c,.int .i64 0],.int .i64 0])∧aU w' w'.heap.size (.slice A us.length c) us∧Below w.heap.size w w'
theorem aJQ (us:List ay) (hus:arx us) (hfm:aKy us) (hfl:aLQ us) (hl:(Lp us).length≤1000000000000) (w:World) (hp:aj0 w)
  (hb:∀ W A c,Below w.heap.size w W→aU W W.heap.size (.slice A us.length c) us→Calls Tryz.prog 22 #[.agg #[.slice A us.length c,.int .i64 0]] W fun e w' => e = .returned (.tuple #[.string ⟨(Lp us).toArray⟩,.int .i64 0])∧Below W.heap.size W w') :
  Calls Tryz.prog 28 #[.string ⟨(Lp us).toArray⟩] w (az5 us w):=by
 have HU:=hiQ hus;have HFM:=hiQ hfm;have HFL:=hiQ hfl;have HBY:=hiQ hb;have HP:=hiQ hp;have hpos:=hus.pos;have h32:=(ni hus.valid).1;obtain ⟨D,hD⟩ : ∃ D,D=us.flatMap (BX us):=⟨_,rfl⟩
 obtain ⟨q,hq⟩ : ∃ q,q=Lp us:=⟨_,rfl⟩
 have hq2:q=pJ 9 us.length ++ (us.flatMap dF ++ D):=by rw [hq,hD];rfl
 have hDl:D.length≤1000000000000:=by
  have e:q.length=(pJ 9 us.length).length+((us.flatMap dF).length+D.length):=by rw [hq2,List.length_append,List.length_append]
  rw [← hq] at hl;omega
 have HQ2:=hiQ hq2;have HD:=hiQ hD;rw [← hq] at HBY ⊢;clear hus hb hp hD hq2 hl hq hfm hfl;go_enter Tryz.func28,Tryz.ntmps28
 go_upto_region 1 with fail;refine aO (fun wd2 hb1 Z => ?_);have hw3:=hb1;clear hb1;go_upto_region 2 with fail;refine aO (fun fG hb4 X => ?_);have nI:=Z.out.here;have mO:=hw3.size;replace Z:=b1 Z hb4;replace hw3:=dT hw3 hb4;clear hb4;generalize wd2.heap.size=g6 at *;obtain ⟨gr,rfl⟩ : ∃ g,g=g6:=⟨_,rfl⟩
 obtain ⟨aoP,hWS⟩ : ∃ x,x=fG:=⟨_,rfl⟩
 subst hWS;have aDA:=hw3;clear hw3;have hW0:=aDA;have Yu:=Z.out;have hgr:=X.out.here;have hR0:Y6 aoP gr (pJ 9 us.length ++ (us.flatMap dF ++ D)) 0:=by rw [← HQ2.out];exact X.out
 clear Z X;have R:=hR0;have Z:=Yu;have KG:=qR0 aoP (some gr);have HPW:Hid (∀ W,Below gr aoP W→ar5 W):=fun W h => aj0.on HP.out (hW0.trans (h.mono (by omega)));replace R:=hiQ R;replace Z:=hiQ Z;clear hR0 Yu;go_upto_region 3 with fail;refine aO (fun aGJ au1 S => ?_);replace Z:=b1 Z au1;replace R:=qB R au1;replace KG:=qkB KG au1;clear au1;obtain ⟨gS,hgS⟩ : ∃ g,g=aoP.heap.size:=⟨_,rfl⟩
 have hS9:=S.out;have aG0:aoP.heap.size≤gS:=by omega
 have aG1:gr < gS:=by omega
 rw [← hgS] at hS9 ⊢;clear S;have S:=hS9;replace S:=hiQ S;clear hgS hS9;have hgS:=S.out.here;go_wp2_with fail;((with_reducible refine (an1 32 (by decide) (us.length:Nat) us.length rfl (by omega) _ 0 gr _ R.out).mono ?_);rintro e aA0 ⟨rfl,aA1,au2⟩);replace Z:=qH Z au2 (by omega);replace S:=qH S au2 (by omega);replace R:=hiQ aA1;replace KG:=qT KG au2;clear aA1 au2;go_upto_region 4 with fail;have Yu:=Z.out;have hS0:=S.out;have hR0:=R.out;have hT0:=MO.nil aA0 (gS+1) aA0.heap.size S.out.here;go_loopw [18] (fun s18 wr => ∃ (k:Nat) (A:Option Addr) (c:Nat),k≤us.length∧s18 = .int .i64 k∧Has wr w.heap.size 27 #[.slice none 0 0,.int .i64 0]∧Has wr gS 25 #[.slice A k c]∧MO wr (gS+1) wr.heap.size (.slice A k c) ((us.take k).map unT)∧Y6 wr gr ((us.drop k).flatMap dF ++ D) 0∧aoP.grownBy wr (some gr)) (fun s18 _ => us.length - (intOf s18).toNat)
 case atStart => exact ⟨0,none,0,Nat.zero_le _,rfl,Yu,hS0,hT0,hR0,KG⟩
 case round =>
  clear Z S R KG Yu hS0 hR0 hT0;obtain ⟨k,A,c,hkl,rfl,Z,S,hT,R,KG⟩:=hrel;by_cases hlt:k < us.length
  ·
   have hfr:=HFM.out k hlt;have htk:(us.take (k+1)).map unT=(us.take k).map unT ++ [unT us[k]]:=by
    rw [List.take_add_one,List.map_append,List.getElem?_eq_getElem hlt];rfl
   have htl:((us.take k).map unT).length=k:=by rw [List.length_map,List.length_take];omega
   rw [List.drop_eq_getElem_cons hlt,List.flatMap_cons,List.append_assoc] at R;generalize us[k]=x at *;have HFR:=hiQ hfr;clear hfr;have wO:=hiQ htk;have HTL:=hiQ htl;have hlt':(k:Int) < us.length:=by omega
   clear htk htl;replace R:=hiQ R;replace Z:=hiQ Z;replace S:=hiQ S;have T:=hiQ (hT.kept (Nat.le_refl _));clear hT;go_upto_region 6 with fail;have aH:=S.out.e0;refine l9 (S:=(fun w' => w'.cell? ⟨gS,0,none⟩=some (.slice A k c))) (fun j => j == 8) (by kernel_rfl) aH (fun hHeld => ?_);clear aH;have au3:Below wr.heap.size wr (wr.drew):=(Below.refl _ _).drew;obtain ⟨Z,S,T⟩:=b3 Z S T au3;replace R:=qB R au3;replace KG:=qkB KG au3;clear au3;generalize wr.drew=aDB at *;refine eH 0 ?_;refine eH 1 ?_;refine eH 2 ?_;refine eH 3 ?_;refine gJ 4 fun K hK => ?_;go_simp;obtain ⟨z6,Dn⟩ : ∃ z,z=(aDB).heap.size:=⟨_,rfl⟩
   have hz6:=S.out.here;have hzB:=T.out.le;rw [← Dn] at hz6 hzB;have MK:=hiQ (Kept.mark Dn);((with_reducible refine (HFR.out _ 0 gr _ (fun W' h => HPW.out W' ((arA KG (by omega)).trans h)) R.out).mono ?_);rintro e aA2 ⟨vs,vm,rfl,hte,aA3,asz⟩);replace Z:=qH Z asz (by omega);replace S:=qH S asz (by omega);replace T:=qN T asz (by omega);replace MK:=qN MK asz (by omega);replace R:=hiQ aA3;replace KG:=qT KG asz;clear aA3 asz;obtain ⟨A5,c5,rfl⟩:=jF hte.syms;obtain ⟨A6,c6,rfl⟩:=jF hte.ah;obtain ⟨y,hy⟩ : ∃ y,y=unT x:=⟨_,rfl⟩
   rw [← hy] at hte wO ⊢;obtain ⟨z7,Fb⟩ : ∃ z,z=(aA2).heap.size:=⟨_,rfl⟩
   rw [← Dn,← Fb] at hte;have HY:=hiQ (hte.kept (Nat.le_of_eq Fb));have hz7:z6≤z7:=by rw [Fb];exact MK.out.le
   clear hte Dn Fb hy;(try clear hHeld);refine hK.out _ _ (S.out.cell 0) (fun hHeld => ?_);clear hK K;refine gJ 5 fun K hK => ?_;go_simp;refine aO (fun au4 au5 N => ?_);have aDC:=Z.out.here;have aGK:=S.out.here;have aGL:=T.out.le;have aGM:=MK.out.le;have aGN:=HY.out.le;have aGO:=KG.size;obtain ⟨Z,S,T,MK,HY⟩:=b5 Z S T MK HY au5;replace R:=qB R au5;replace KG:=qkB KG au5;clear au5;generalize aA2.heap.size=aEW at *;(try clear hHeld);refine hK.out _ _ (S.out.cell 0) (fun hHeld => ?_);clear hK K;refine gJ 6 fun K hK => ?_;have hNh:=N.out.here;obtain ⟨cs,hown,hvB,happ⟩:=T.out.now.row;rw [HTL.out] at hown happ;obtain ⟨i0,hi,hi0,hi1,hi2⟩:=info_parts auu;refine step_append_lies (P:=Tryz.prog) au4 (by rfl) _ _ _ (by rfl) (gS+1) 71 i0 _ 10 120 Tryz.underlying23 hi hi0 hi1 hi2 rfl (by decide) (.slice A k c) k _ rfl hown ⟨aEW,0,none⟩ 1 1 (Pq y (.slice A5 y.syms.length c5) (.slice A6 y.ah.length c6)) rfl rfl (World.news_of_block N.out) (by simp [Pq,Value.oneCell']) (by omega) (by simp only [maxLen];omega) (by omega) (by omega) au4.heap.size rfl ?_;intro g cap w1 hown1 hgrow hat hgl;have hg1:=hown1.lt g rfl;have hsz:=hgrow.size;have hyle:=HY.out.le;have hT1:=happ w1 (.slice (some ⟨g,0,none⟩) (k+1) cap) y _ _ w1.heap.size z6 z7 hgrow hown1 (fun b hb => by simp only [Value.ownBlock,Option.some.injEq] at hb;omega) hzB hz7 hyle (by omega) HY.out.now;rw [← wO.out] at hT1;have hb4:Below (gS+1) au4 w1:=(Below.refl _ au4).grown hgrow (by omega) (fun q hq => (hown.lt q hq).1);clear hown hvB happ hown1 hgrow hat hgl hg1 hsz hyle hNh hi hi0 hi1 hi2 T N HY MK
   replace Z:=hiQ (Z.out.below hb4 (show w.heap.size < gS+1 by omega));replace S:=hiQ (S.out.below hb4 (show gS < gS+1 by omega));replace R:=qBL R hb4 (show gr < gS+1 by omega);replace KG:=avE KG hb4 (show aoP.heap.size≤gS+1 by omega);have T:=hiQ (hT1.kept (Nat.le_refl _));clear hT1 hb4;(try clear hHeld);refine hK.out _ _ (S.out.cell 0) (fun hHeld => ?_);clear hK K;refine eH 7 ?_;refine pG 8 fun K hK => ?_;have aH:=S.out.e0;have akO:=S.out.free 0;go_simp;clear aH akO;generalize atF:w1.setCell _ _=aGP;obtain ⟨Z,T⟩:=f2 Z T (eF atF);replace R:=qS R atF (by omega);replace KG:=qkS KG atF (by omega);replace S:=xR S atF;clear atF;(try clear hHeld);refine hK.out _ _ ?_;clear hK K;refine akJ (by kernel_rfl) ?_ _;(try clear hHeld);go_wp2_with fail;go_roundw
   case rel => exact ⟨k+1,some ⟨g,0,none⟩,cap,by omega,by go_num,Z.out,S.out,T.out.now.mono T.out.le,R.out,KG⟩
   case measure => simp [intOf];omega
  obtain rfl:k=us.length:=by omega
  rw [List.drop_eq_nil_of_le (Nat.le_refl _),List.flatMap_nil,List.nil_append] at R;rw [List.take_of_length_le (Nat.le_refl _),atG] at hT;have hvd:=az7 HU.out.valid;rw [atG] at hvd;have HVD:=hiQ hvd;clear hvd;replace R:=hiQ R;replace Z:=hiQ Z;replace S:=hiQ S;have T:=hiQ (hT.kept (Nat.le_refl _));clear hT;have cR1:=Y6.c1 R.out;have aH:=S.out.e0;have hn0:((us.length:Int) == 0)=false:=beq_eq_false_iff_ne.2 (by omega);go_wp2_with fail;have hsz:Sizes (LK us 0 0):=fun x hx => by have:=(asy HU.out 0 0 x hx).lens;exact ⟨by omega,by omega⟩
  have hval:=fun W (h:MO W (gS+1) wr.heap.size (.slice A us.length c) (LK us 0 0)) => ab6 (LK us 0 0) A c W hsz (by rw [Si];exact h.rd (asy HU.out 0 0));simp only [Si,HVD.out] at hval;have aCC:=hiQ hval;clear hsz hval aH;((with_reducible refine (aCC.out _ T.out.now).mono ?_);rintro e aGQ ⟨rfl,au6⟩);obtain ⟨Z,S,T⟩:=b3 Z S T au6;replace R:=qB R au6;replace KG:=qkB KG au6;clear au6;have aH:=S.out.e0;go_upto_region 11 with fail;clear aH;have Yu:=Z.out;have hS0:=S.out;have hR0:=R.out;have hT0:=T.out.now.mono T.out.le;go_loopw [49] (fun s49 wr => ∃ (t kk:Nat),t≤us.length∧s49 = .int .i64 t∧Has wr w.heap.size 27 #[.slice none 0 0,.int .i64 0]∧Has wr gS 25 #[.slice A us.length c]∧MO wr (gS+1) wr.heap.size (.slice A us.length c) (LK us t 0)∧Y6 wr gr ((us.drop t).flatMap (BX us)) kk∧aoP.grownBy wr (some gr)) (fun s49 _ => us.length - (intOf s49).toNat)
  case atStart => exact ⟨0,0,Nat.zero_le _,rfl,Yu,hS0,hT0,by rw [List.drop_zero,← HD.out];exact hR0,KG⟩
  case round =>
   clear Z S R KG T Yu hS0 hR0 hT0 aCC;obtain ⟨t,kk,htl,rfl,Z,S,hT,R,KG⟩:=hrel;by_cases hlt:t < us.length
   ·
    have hlt':(t:Int) < us.length:=by omega
    have hd0:decide ((t:Int) < 0)=false:=by simp
    have hd1:decide (us.length≤t)=false:=by simpa using hlt
    have hml:=(HU.out |> fun h => (anY h.valid h.ints _ (List.getElem_mem hlt)).ah.1)
    have az8:=ali (BX us) us (t+1);rw [List.drop_eq_getElem_cons hlt,List.flatMap_cons] at R;obtain ⟨xm,hxm⟩ : ∃ l,l=us[t].ah:=⟨_,rfl⟩
    rw [show BX us us[t]=us[t].ah.flatMap (Ap us) from rfl,← hxm] at R;rw [← hxm] at hml;obtain ⟨D2,hD2⟩ : ∃ D,D=(us.drop (t+1)).flatMap (BX us):=⟨_,rfl⟩
    have aEX:(xm.flatMap (Ap us)).length+D2.length≤1000000000000:=by
     have e:D=(us.take t).flatMap (BX us) ++ (BX us us[t] ++ D2):=by
      rw [HD.out,hD2,← List.flatMap_cons,← List.drop_eq_getElem_cons hlt,← List.flatMap_append,List.take_append_drop]
     rw [e,List.length_append,List.length_append,show BX us us[t]=us[t].ah.flatMap (Ap us) from rfl,← hxm] at hDl;omega
    rw [← hD2] at R;have HD2:=hiQ hD2;have HXM:=hiQ hxm;clear az8 hD2 hxm;obtain ⟨g,c9,y,C1,n1,l1,C2,l2,hA,Eo,hgB,hct,-⟩:=auE hT hlt;injection hA with hA1 hA2 hA3;subst hA1;subst hA3;have x6:=hct.2.2.2.2.2.2.1;rw [← HXM.out,Nat.zero_add] at x6;clear hct;replace R:=hiQ R;replace Z:=hiQ Z;replace S:=hiQ S;have T:=hiQ (hT.kept (Nat.le_refl _));clear hT;have aH:=S.out.e0;go_upto_region 14 with fail;clear aH x6;have Yu:=Z.out;have hS0:=S.out;have hR0:=R.out;have hT0:=T.out.now;go_loopw [59] (fun s59 wr => ∃ (i kk:Nat),i≤xm.length∧s59 = .int .i64 i∧Has wr w.heap.size 27 #[.slice none 0 0,.int .i64 0]∧Has wr gS 25 #[.slice (some ⟨g,0,none⟩) us.length c]∧MO wr (gS+1) wr.heap.size (.slice (some ⟨g,0,none⟩) us.length c) (LK us t i)∧Y6 wr gr ((xm.drop i).flatMap (Ap us) ++ D2) kk∧aoP.grownBy wr (some gr)) (fun s59 _ => xm.length - (intOf s59).toNat)
    case atStart => exact ⟨0,kk,Nat.zero_le _,rfl,Yu,hS0,hT0,by rw [List.drop_zero];exact hR0,KG⟩
    case round =>
     clear Z S R KG T Yu hS0 hR0 hT0 kk;obtain ⟨i,kk,hil,rfl,Z,S,hT,R,KG⟩:=hrel;by_cases BG:i < xm.length
     ·
      have aG2:(i:Int) < xm.length:=by omega
      have hd2:decide ((i:Int) < 0)=false:=by simp
      have hd3:decide (xm.length≤i)=false:=by simpa using BG
      have az8:=ali (Ap us) xm (i+1);rw [List.drop_eq_getElem_cons BG,List.flatMap_cons,List.append_assoc] at R;obtain ⟨D3,hD3⟩ : ∃ D,D=(xm.drop (i+1)).flatMap (Ap us) ++ D2:=⟨_,rfl⟩
      have aEY:D3.length≤1000000000000:=by
       have e:xm.flatMap (Ap us)=(xm.take (i+1)).flatMap (Ap us) ++ (xm.drop (i+1)).flatMap (Ap us):=by rw [← List.flatMap_append,List.take_append_drop]
       rw [e,List.length_append] at aEX;rw [hD3,List.length_append];omega
      rw [← hD3] at R;have HD3:=hiQ hD3;have hiu:i < us[t].ah.length:=by rw [← HXM.out];exact BG
      have hmt:=az9 hlt hiu;have hrow:=aAa hlt hiu;have axB:=fun hu => axC us t i hlt hiu hu;obtain ⟨g',c',gm,cm,lo,hA,x6,hown,hlo,hgm,hgs,hset⟩:=aw4 hT hlt hiu;injection hA with hA1 hA2 hA3;injection hA1 with hA1;injection hA1 with hA1 _ _;subst hA1;have hmem:us[t].ah[i]=xm[i]:=by simp only [HXM.out]
      have hmm:xm[i] ∈ us[t].ah:=by rw [← hmem];exact List.getElem_mem hiu
      have hdv:=avD HU.out.valid (List.getElem_mem hlt) hmm;have hty:=auD HU.out.valid (List.getElem_mem hlt) hmm;rw [← HXM.out] at x6 hown;rw [hmem] at hmt hrow axB;rw [← HXM.out] at hmt;generalize xm[i]=m at *;obtain ⟨y,hy⟩:=hty;obtain ⟨mg,aAb,-⟩:=atl hy;obtain ⟨ty,hty⟩ : ∃ ty:Nat,m.ty=(ty:Int):=⟨m.ty.toNat,by omega⟩
      rw [hty,Int.toNat_natCast] at aAb;have atH:aoJ wr lo gm xm.length cm i ((LJ xm i).flatMap ail) [.int .i64 m.id,.string ⟨m.name.toArray⟩,.int .i64 (ty:Nat),.bool m.akb,.bool m.eG,.int .i64 0,.bool false,.int .i64 0,.string ⟨#[]⟩,.int .i64 0,.slice none 0 0,.slice none 0 0,.slice none 0 0]:=⟨hown,BG,rfl,fun j u hu => hmt j u (by rw [← hu,← hty];rfl)⟩
      have HMM:=hiQ hmm;have Hg:=hiQ hty;have HDV:=hiQ hdv;have HSK:=hiQ axB;have HRW:=hiQ hrow;have aCD:=hiQ aAb;clear az8 hD3 hmt hrow axB hA2 hA3 hset hown hmem hmm hdv hy mg hty aAb;replace R:=hiQ R;replace Z:=hiQ Z;replace S:=hiQ S;have T:=hiQ (hT.kept (Nat.le_refl _));have MR:=hiQ (atH.kept);have KX:=hiQ (Af x6);clear hT atH;have aH:=S.out.e0;go_upto_region 17 with fail;clear aH x6;have x4:=MR.out.now.c 4 rfl;cases hdd:m.eG with
      | false =>
       have hun:unM m=m:=by
        have:=HDV.out hdd;obtain ⟨m1,m2,m3,m4,m5,m6⟩:=m;simp only at this;subst this;rfl
       have hdm:Hid (Ap us m = []):=by show _=_;unfold Ap;rw [hdd];rfl
       have hsk:=HSK.out hun;have HS2:=hiQ hsk;rw [hdd] at x4;clear hdd hun hsk;go_wp2_with fail;clear x4;go_roundw
       case rel => exact ⟨i+1,kk,by omega,by go_num,Z.out,S.out,by rw [← HS2.out];exact T.out.now.mono T.out.le,by have h9:=R.out;rw [hdm.out,List.nil_append,HD3.out] at h9;exact h9,KG⟩
       case measure => simp [intOf];omega
      | true =>
       have HDD:=hiQ hdd;rw [hdd] at x4;clear hdd;go_upto_region 18 with fail;clear x4;have aH:=S.out.e0;refine l9 (S:=(fun w' => w'.cell? ⟨gS,0,none⟩=some (.slice (some ⟨g,0,none⟩) us.length c)∧(w'.cell? ⟨gm,i*13+2,none⟩=some (.int .i64 (ty:Nat))))) (fun j => j == 8 || j == 9 || j == 10) (by kernel_rfl) ⟨aH,(MR.out.now.c 2 rfl)⟩ (fun hHeld => ?_);clear aH;have aoQ:Below wr.heap.size wr (wr.drew):=(Below.refl _ _).drew;obtain ⟨Z,S,T,MR,KX⟩:=b5 Z S T MR KX aoQ;replace R:=qB R aoQ;replace KG:=qkB KG aoQ;clear aoQ;generalize wr.drew=aA4 at *;refine eH 0 ?_;refine eH 1 ?_;refine eH 2 ?_;refine eH 3 ?_;refine eH 4 ?_;refine eH 5 ?_;refine eH 6 ?_;refine gJ 7 fun K hK => ?_;go_simp;obtain ⟨g3,c3,y3,C3,n3,l3,C4,l4,hA4,-,aCF,aCG,hk4⟩:=auE T.out.now aCD.out;obtain ⟨hA4,hA5⟩ : g=g3∧c=c3:=by
        injection hA4 with h1 _ h2;injection h1 with h1;injection h1 with h1 _ _;exact ⟨h1,h2⟩
       subst hA4;((with_reducible refine (HFL.out _ hlt _ HMM.out HDD.out _ _ Hg.out aCD.out hk4 _ 0 _ kk gr D3 _ C3 n3 l3 C4 _ l4 (Nat.lt_of_lt_of_le aCF T.out.le) aCG aEY R.out).mono ?_);rintro e au7 ⟨rfl,aA5,arB⟩);replace Z:=qH Z arB (by omega);replace S:=qH S arB (by omega);replace T:=qN T arB (by omega);replace MR:=qN MR arB (by omega);replace KX:=qN KX arB (by omega);replace R:=hiQ aA5;replace KG:=qT KG arB;clear aA5 arB aCG hk4 aCF;(try clear hHeld);refine hK.out _ _ (⟨S.out.cell 0,(MR.out.now.c 2 rfl)⟩) (fun hHeld => ?_);clear hK K;refine pG 8 fun K hK => ?_;go_simp;(try clear hHeld);refine hK.out _ _ ?_;clear hK K;refine pG 9 fun K hK => ?_;go_simp;(try clear hHeld);refine hK.out _ _ ?_;clear hK K;refine pG 10 fun K hK => ?_;obtain ⟨g5,c5,gm5,cm5,lo5,hA5,x65,hown5,aG3,aG4,aG5,aA6⟩:=aw4 T.out.now hlt hiu;have eg:g=g5:=by injection hA5 with h1 _ _;injection h1 with h1;injection h1 with h1 _ _
       subst eg;obtain ⟨e6,e7⟩ : gm=gm5∧cm=cm5:=by
        have e6:=(KX.out.now).symm.trans x65;injection e6 with e6;injection e6 with e6 _ e7;injection e6 with e6;injection e6 with e6 _ _;exact ⟨e6,e7⟩
       subst e6;subst e7;have hxl:xm.length=us[t].ah.length:=by rw [HXM.out]
       have aEZ:=T.out.le;refine IE rfl 81 _ _ rfl gm (i*13+5) _ rfl rfl (Ue hown5 (i*13+5) 8 (by omega)) (by kernel_rfl) (by simp [Value.oneCell']) ?_;have aq0:=FM (oD m.dflt (.slice none 0 0) (.slice none 0 0) (.slice none 0 0)) _ (i*13+5) _ hown5;rw [HRW.out] at aq0
       change K _ (au7.setCells gm (i*13+5) (oD m.dflt (.slice none 0 0) (.slice none 0 0) (.slice none 0 0)))
       clear T MR KX;obtain ⟨asA,HEX⟩ : ∃ ww,ww=au7.setCells gm (i*13+5) (oD m.dflt (.slice none 0 0) (.slice none 0 0) (.slice none 0 0)):=⟨_,rfl⟩
       rw [← HEX];have hkX:∀ k,k≠gm→asA.heap[k]?=au7.heap[k]?:=fun k hk => by rw [HEX];exact DN gm _ _ _ k hk
       have hbX:Below gm au7 asA:=by rw [HEX];exact below_setCells (Nat.le_refl _) _ _ _ (Below.refl _ _)
       replace Z:=hiQ ((hkX (w.heap.size) (by omega)).trans Z.out);replace Z:Hid (Has asA (w.heap.size) 27 #[.slice none 0 0,.int .i64 0]):=Z;replace S:=hiQ ((hkX (gS) (by omega)).trans S.out);replace S:Hid (Has asA (gS) 25 #[.slice (some ⟨g,0,none⟩) us.length c]):=S;rw [← HEX] at aq0;have hT9:=aA6 asA (fun k hkl hne => hkX k hne) aq0;replace R:=qBL R hbX (by omega);replace KG:=avE KG hbX (by omega);have aE0:=hbX.size;clear HEX hkX hbX aq0 hown5 aA6 x65 hxl;have T:=hiQ ((hT9.mono (show wr.heap.size≤asA.heap.size by omega)).kept (Nat.le_refl _));clear hT9 aE0 aEZ;(try clear hHeld);refine hK.out _ _ ?_;clear hK K;refine akJ (by kernel_rfl) ?_ _;(try clear hHeld);go_wp2_with fail;go_roundw
       case rel => exact ⟨i+1,0,by omega,by go_num,Z.out,S.out,T.out.now,by have h9:=R.out;rw [HD3.out] at h9;exact h9,KG⟩
       case measure => simp [intOf];omega
     obtain rfl:i=xm.length:=by omega
     rw [List.drop_eq_nil_of_le (Nat.le_refl _),List.flatMap_nil,List.nil_append] at R;have hrw:=ayL us t hlt;rw [← HXM.out] at hrw;rw [hrw] at hT;rw [HD2.out] at R;go_wp2_with fail;go_roundw
     case rel => exact ⟨t+1,kk,by omega,by go_num,Z,S,hT,R,KG⟩
     case measure => simp [intOf];omega
   obtain rfl:t=us.length:=by omega
   rw [List.drop_eq_nil_of_le (Nat.le_refl _),List.flatMap_nil] at R;rw [← ar6] at hT;replace R:=hiQ R;replace Z:=hiQ Z;replace S:=hiQ S;have T:=hiQ (hT.kept (Nat.le_refl _));clear hT;have aH:=S.out.e0;go_upto_region 22 with fail;clear aH;refine aO (fun aA4 aoQ Y => ?_);have aGR:=Z.out.here;have aGS:=S.out.here;have aGT:=T.out.le;have aDC:=KG.size;obtain ⟨Z,S,T⟩:=b3 Z S T aoQ;replace R:=qB R aoQ;replace KG:=qkB KG aoQ;clear aoQ;generalize wr.heap.size=aE1 at *;obtain ⟨gY,rfl⟩ : ∃ g,g=aE1:=⟨_,rfl⟩
   have cR0:=Y6.c0 R.out;have cR1:=Y6.c1 R.out;obtain ⟨kT,kU⟩:=Y.out.c2;go_upto_region 24 with fail;clear cR0 cR1;have hxe:∀ x ∈ us,aq2 x:=by
    have h:=asy HU.out us.length 0;rw [← ar6] at h;exact h
   have HXE:=hiQ hxe;clear hxe;go_wp2_with fail;have hlw:Below w.heap.size w aA4:=hW0.trans ((arA KG (by omega)).mono (by omega));clear kT kU;((with_reducible refine (HBY.out _ A c hlw (T.out.now.rd HXE.out)).mono ?_);rintro e aDD ⟨rfl,au8⟩);obtain ⟨Z,S,Y,T⟩:=b4 Z S Y T au8;replace R:=qB R au8;replace KG:=qkB KG au8;clear au8 hlw;obtain ⟨kT,kU⟩:=Y.out.c2;go_upto_region 27 with fail;clear kT kU;obtain ⟨nJ,hWS⟩ : ∃ x,x=aDD:=⟨_,rfl⟩
   subst hWS;have hfw:Below w.heap.size w nJ:=hW0.trans ((arA KG (by omega)).mono (by omega));have hZ9:=Z.out;have hY9:=Y.out;have hT9:=T.out.now.mono T.out.le;clear Z Y T S R KG;have Z:=hZ9;have Y:=hY9;replace Z:=hiQ Z;replace Y:=hiQ Y;have T:=hiQ (hT9.kept (Nat.le_refl _));clear hZ9 hY9 hT9;obtain ⟨kT,kU⟩:=Y.out.c2;go_wp2_with (refine sR Z.out ?_)
   clear kT kU;generalize iZ:nJ.setRow _ _=DY;obtain ⟨Y,T⟩:=f2 Y T (eR iZ);replace Z:=dV Z iZ;replace hfw:=tr hfw iZ;clear iZ;exact bodyPost_ret (v:=.tuple #[.agg #[.slice A us.length c,.int .i64 0],.int .i64 0]) (by simp [results,Tryz.results28,go_sem,Z.out.c2]) rfl (⟨A,c,rfl,T.out.now.rd HXE.out,hfw⟩)
def hstep (h:Nat) (b:UInt8):Nat:=(h ^^^ b.toNat)*1099511628211 % 18446744073709551616
def ak1 (h:Nat) (l:List UInt8):Nat:=l.foldl hstep h
def ak4:Nat:=14695981039346656037
theorem auP (h:Nat) (b:UInt8):oV (hstep h b):=by unfold hstep oV;exact Nat.mod_lt _ (by omega)
theorem atW (h:Nat) (hh:oV h) (b:UInt8):∃ m:Nat,IntKind.u64.wrap (bits .xor .u64 (h:Int) (b.toNat:Int)*1099511628211)=(m:Int)∧Hid (m=hstep h b):=by
 have hb:=b.toNat_lt;refine ⟨hstep h b,?_,rfl⟩;rw [u64_xor_nat h b.toNat hh (by omega),IntKind.wrap_u64];unfold hstep;omega
theorem zDd {p:Prop} (h:p:=by
 obtain ⟨k,x,hk,rfl,rfl,hp,hx⟩:=hrel;have Hp:=hiQ hp;clear hp;by_cases hlt:k < l.length
 ·
  obtain ⟨b,r,hd,hb,hr⟩:=byte_at l k hlt;have Hd:=hiQ hd;have Hr:=hiQ hr;clear hd hr;have hbl:b.toNat < 256:=b.toNat_lt;obtain ⟨y,hy,Hy⟩:=atW x hx.out b;go_wp2
  go_round
  case rel => exact ⟨k+1,y,by omega,rfl,by go_num,by rw [Hp.out,Hd.out,Hr.out,ak1,List.foldl_cons,Hy.out];rfl,by rw [Hy.out];exact auP x b⟩
  case measure => simp [intOf];omega
 go_wp2
 go_ret;exact ⟨bC (by rw [Hp.out,List.drop_of_length_le (by omega)];rfl),rfl⟩):p:=h
theorem azm (l:List UInt8) (hlen:l.length≤9223372036854775807) (w:World) :
  Calls Tryz.prog 42 #[.string ⟨l.toArray⟩] w fun e w' => e = .returned (.int .u64 (ak1 ak4 l))∧w=w':=by
 go_enter Tryz.func42,Tryz.ntmps42
 go_wp2
 go_loop [3,7] (fun a i => ∃ k x:Nat,k≤l.length∧a = .int .u64 x∧i = .int .i64 k∧ak1 ak4 l=ak1 x (l.drop k)∧Hid (oV x)) (fun _ i => l.length - (intOf i).toNat)
 case atStart => exact ⟨0,ak4,by omega,rfl,rfl,rfl,by show oV _;unfold oV ak4;omega⟩
 case round =>
  exact zDd
theorem azn (l:List UInt8) (hlen:l.length≤9223372036854775807) (w:World) :
  Calls Tryz.prog 36 #[.string ⟨l.toArray⟩] w fun e w' => e = .returned (.int .u64 (ak1 ak4 l))∧w=w':=by
 go_enter Tryz.func36,Tryz.ntmps36
 go_wp2
 go_loop [3,4] (fun a i => ∃ k x:Nat,k≤l.length∧a = .int .u64 x∧i = .int .i64 k∧ak1 ak4 l=ak1 x (l.drop k)∧Hid (oV x)) (fun _ i => l.length - (intOf i).toNat)
 case atStart => exact ⟨0,ak4,by omega,rfl,rfl,rfl,by show oV _;unfold oV ak4;omega⟩
 case round =>
  exact zDd
noncomputable def fpE (ts:List ay) (t:Int):Nat × Int:=if (aj2 ts t).2≠0 then (0,(aj2 ts t).2) else (ak1 ak4 (aj2 ts t).1,0)
theorem aAp (ts:List ay) (A:Option Addr) (c:Nat) (t:Int) (w:World) (hl:(aj2 ts t).1.length≤1000000000000)
  (hb:∀ W,Below w.heap.size w W→Calls Tryz.prog 22 #[.agg #[.slice A ts.length c,.int .i64 t]] W fun e w' => e = .returned (.tuple #[.string ⟨(aj2 ts t).1.toArray⟩,.int .i64 (aj2 ts t).2])∧Below W.heap.size W w') :
  Calls Tryz.prog 16 #[.agg #[.slice A ts.length c,.int .i64 t]] w fun e w' => e = .returned (.tuple #[.int .u64 ((fpE ts t).1:Nat),.int .i64 (fpE ts t).2])∧Below w.heap.size w w':=by
 have hf:fpE ts t=if (aj2 ts t).2≠0 then (0,(aj2 ts t).2) else (ak1 ak4 (aj2 ts t).1,0):=rfl
 generalize fpE ts t=q at *;generalize aj2 ts t=p at *;obtain ⟨l,n⟩:=p;simp only at hf hb hl;have HB:=hiQ hb;clear hb;go_enter Tryz.func16,Tryz.ntmps16
 go_upto_region 1 with fail;refine aO (fun wd2 hb1 P => ?_);have hw3:=hb1;clear hb1;obtain ⟨afM,XD⟩:=P.out.c2;go_wp2_with fail;clear afM XD;((with_reducible refine (HB.out _ hw3).mono ?_);rintro e wd4 ⟨rfl,hb5⟩);replace P:=b1 P hb5;replace hw3:=dT hw3 hb5;clear hb5;by_cases hn:n=0
 ·
  subst hn;rw [if_neg (by simp)] at hf;subst hf;go_wp2_with fail;((with_reducible refine (azm l (by omega) _).mono ?_);rintro e wL ⟨rfl,rfl⟩);go_wp2_with fail;exact bodyPost_ret (v:=.tuple #[.int .u64 (ak1 ak4 l:Nat),.int .i64 0]) (by simp [results,Tryz.results16,go_sem]) rfl (⟨rfl,hw3⟩)
 rw [if_pos hn] at hf;have t1:(n == 0)=false:=by simpa using hn
 subst hf;clear hn;go_wp2_with fail;exact bodyPost_ret (v:=.tuple #[.int .u64 0,.int .i64 n]) (by simp [results,Tryz.results16,go_sem]) rfl (⟨rfl,hw3⟩)
def beF:Nat→Nat→List UInt8
 | 0,_ => []
 | k+1,n => UInt8.ofNat (n / 256 ^ k) :: beF k n
theorem aoV:∀ (k n:Nat),(beF k n).length=k
 | 0,_ => rfl
 | k+1,n => by rw [beF,List.length_cons,aoV k n]
def asD (f:Nat) (m:List UInt8):List UInt8 × Int:=if 4096 < m.length then ([],3) else (beF 8 f ++ m,0)
def anH (e:List UInt8):Nat × List UInt8 × Int:=if e.length < 8 then (0,[],10) else if 4104 < e.length then (0,[],3) else (Ci (e.take 8) 0,e.drop 8,0)
theorem axU (l:List UInt8) (hl:l.length≤9223372036854775000) (w:World) :
  Calls Tryz.prog 33 #[.string ⟨l.toArray⟩] w fun e w' => e = .returned (.tuple #[.int .u64 ((anH l).1:Nat),.string ⟨(anH l).2.1.toArray⟩,.int .i64 (anH l).2.2])∧Below w.heap.size w w':=by
 by_cases hs:l.length < 8
 ·
  have he:Hid (anH l=(0,[],10)):=by show _=_;unfold anH;rw [if_pos hs]
  have h1:(l.length:Int) < 8:=by omega
  go_enter Tryz.func33,Tryz.ntmps33
  go_wp2
  exact bodyPost_ret (v:=.tuple #[.int .u64 0,.string ⟨#[]⟩,.int .i64 10]) (by simp [results,Tryz.results33,go_sem]) rfl (⟨by rw [he.out];rfl,Below.refl _ _⟩)
 by_cases hg:4104 < l.length
 ·
  have he:Hid (anH l=(0,[],3)):=by show _=_;unfold anH;rw [if_neg hs,if_pos hg]
  have h1:¬ (l.length:Int) < 8:=by omega
  have h2:(4104:Int) < l.length:=by omega
  go_enter Tryz.func33,Tryz.ntmps33
  go_wp2
  exact bodyPost_ret (v:=.tuple #[.int .u64 0,.string ⟨#[]⟩,.int .i64 3]) (by simp [results,Tryz.results33,go_sem]) rfl (⟨by rw [he.out];rfl,Below.refl _ _⟩)
 have he:Hid (anH l=(Ci (l.take 8) 0,l.drop 8,0)):=by show _=_;unfold anH;rw [if_neg hs,if_neg hg]
 have h1:¬ (l.length:Int) < 8:=by omega
 have h2:¬ (4104:Int) < l.length:=by omega
 go_enter Tryz.func33,Tryz.ntmps33
 go_upto_region 7 with fail;go_loopw [5,13] (fun a s wr => ∃ k n:Nat,k≤8∧a = .int .u64 (n:Nat)∧s = .int .i64 k∧Ci (l.take 8) 0=Ci ((l.take 8).drop k) n∧Hid (n < 256 ^ k)∧Below w.heap.size w wr) (fun _ s _ => 8 - (intOf s).toNat)
 case atStart => exact ⟨0,0,by omega,rfl,rfl,rfl,by show _ < _;omega,Below.refl _ _⟩
 case round =>
  obtain ⟨k,n,hk,rfl,rfl,hp,hm,hb⟩:=hrel;have Hp:=hiQ hp;clear hp;by_cases hk8:k < 8
  ·
   have aFb:(k:Int) < 8:=by omega
   obtain ⟨x,q,hd,hx,hq⟩:=byte_at l k (by omega);have hd2:(l.take 8).drop k=x :: (l.take 8).drop (k+1):=by
    rw [List.drop_take,hd,List.drop_take,hq];obtain ⟨j,hj⟩ : ∃ j,8 - k=j+1:=⟨7 - k,by omega⟩
    rw [hj,List.take_succ_cons]
    congr 2
    omega
   have Hd:=hiQ hd2;clear hd hq hd2;obtain ⟨mm,hmv,Hm⟩ : ∃ mm:Nat,bits .or .u64 (IntKind.u64.wrap ((n:Int)*256)) (x.toNat:Int)=(mm:Int)∧Hid (mm=n*256+x.toNat):=⟨_,(YC n x k hm.out (by omega)).1,rfl⟩
   have hxl:x.toNat < 256:=x.toNat_lt;have hlk:(k:Int) < l.length:=by omega
   have hlk2:decide (l.length≤k)=false:=by simp;omega
   go_wp2
   go_roundw
   case rel => exact ⟨k+1,mm,by omega,rfl,by go_num,by rw [Hp.out,Hd.out,Ci,Hm.out],by have:=(YC n x k hm.out (by omega)).2;have e:=Hm.out;show mm < _;omega,hb⟩
   case measure => simp [intOf];omega
  obtain rfl:k=8:=by omega
  have hfin:Ci (l.take 8) 0=n:=by rw [Hp.out,List.drop_eq_nil_of_le (by rw [List.length_take];omega),Ci]
  have HFI:=hiQ hfin;clear hfin;have hsl:ByteArray.extract ⟨l.toArray⟩ 8 l.length=⟨(l.drop 8).toArray⟩:=Pg l 8 l.length rfl;go_upto_region 11 with fail;go_region
  all_goals
   go_wp2
   exact bodyPost_ret (v:=.tuple #[.int .u64 (n:Nat),.string ⟨(l.drop 8).toArray⟩,.int .i64 0]) (by simp [results,Tryz.results33,go_sem]) rfl (⟨by rw [he.out,HFI.out],hb.drew⟩)
theorem awk:(Tryz.prog.info? 5).map (fun i => (i.zero,i.size,i.bytes))=some (some (.int .u8 0),1,1):=by kernel_rfl
def aoK (k f c:Nat):Array Value:=(((beF 8 f).take k).map B8 ++ List.replicate (c - k) (B8 0)).toArray
theorem aAq (k f c:Nat) (hk:k < 8) (hc:8≤c):(aoK k f c)[k]?=some (B8 0):=by
 have hl:(((beF 8 f).take k).map B8).length=k:=by rw [List.length_map,List.length_take,aoV];omega
 unfold aoK;rw [List.getElem?_toArray,List.getElem?_append_right (by omega),hl,List.getElem?_replicate,if_pos (by omega)]
theorem axh:∀ (k n i:Nat),i < k→(beF k n)[i]?=some (UInt8.ofNat (n / 256 ^ (k - 1 - i)))
 | 0,_,_,h => by omega
 | k+1,n,0,_ => by simp [beF]
 | k+1,n,i+1,h => by
  rw [beF,List.getElem?_cons_succ,axh k n i (by omega)]
  congr 4
  omega
theorem aAr (k f c:Nat) (hk:k < 8) (hc:8≤c):(aoK k f c).setIfInBounds k (B8 (UInt8.ofNat (f / 256 ^ (7 - k))))=aoK (k+1) f c:=by
 have hl:(((beF 8 f).take k).map B8).length=k:=by rw [List.length_map,List.length_take,aoV];omega
 unfold aoK;rw [List.setIfInBounds_toArray]
 congr 1
 rw [List.set_append_right _ _ (by omega),hl,Nat.sub_self];obtain ⟨j,hj⟩ : ∃ j,c - k=j+1:=⟨c - k - 1,by omega⟩
 rw [hj,List.replicate_succ,List.set_cons_zero,List.take_add_one,List.map_append,axh 8 f k hk,List.append_assoc];have e:c - (k+1)=j:=by omega
 rw [e];rfl
theorem azo (f c:Nat):madeCells #[B8 0] (c*1)=aoK 0 f c:=by
 unfold aoK madeCells;simp only [List.take_zero,List.map_nil,List.nil_append,Nat.mul_one,Nat.sub_zero];apply Array.ext
 · simp
 intro i h1 h2;simp [Nat.mod_one]
theorem aAs {w:World} {g f c:Nat} (h:Has w g 5 (aoK 8 f c)) (hc:8≤c) (hb:c≤maxLen):w.ownsRow g 5 1 (.slice (some ⟨g,0,none⟩) 8 c) 8 ((beF 8 f).map B8):=by
 have hl:((beF 8 f).map B8).length=8:=by rw [List.length_map,aoV]
 refine ⟨by rw [hl],.inr ⟨g,c,_,rfl,Nat.le_refl _,h,hc,hb,?_,?_⟩⟩
 · unfold aoK;simp [aoV];omega
 unfold aoK;have e:(beF 8 f).take 8=beF 8 f:=List.take_of_length_le (by rw [aoV];omega);rw [e];simp [List.take_left' hl]
theorem wrap_any (f:Nat) (hf:oV f) (m:List UInt8) (hm:m.length≤9223372036854775000) (w:World) :
  Calls Tryz.prog 31 #[.int .u64 (f:Nat),.string ⟨m.toArray⟩] w fun e w' => e = .returned (.tuple #[.string ⟨(asD f m).1.toArray⟩,.int .i64 (asD f m).2])∧Below w.heap.size w w':=by
 by_cases hlt:4096 < m.length
 ·
  have he:Hid (asD f m=([],3)):=by show _=_;unfold asD;rw [if_pos hlt]
  have h1:(4096:Int) < m.length:=by omega
  go_enter Tryz.func31,Tryz.ntmps31
  go_wp2
  exact bodyPost_ret (v:=.tuple #[.string ⟨#[]⟩,.int .i64 3]) (by simp [results,Tryz.results31,go_sem]) rfl (⟨by rw [he.out],Below.refl _ _⟩)
 have he:Hid (asD f m=(beF 8 f ++ m,0)):=by show _=_;unfold asD;rw [if_neg hlt]
 have h1:¬ (4096:Int) < m.length:=by omega
 obtain ⟨i0,hi0,hz0,hz1,hz2⟩:=info_parts awk;have hmk:∀ W:World,(Instr.makeSlice 87 (.int .i64 8) (.int .i64 (8+(m.length:Int)))).run Tryz.prog W = .ok (.slice (some ⟨W.heap.size,0,none⟩) 8 (8+m.length)) (W.alloc (.cells (aoK 0 f (8+m.length)) 5)):=fun W => by
  have h:=run_make (P:=Tryz.prog) W 87 5 i0 _ Tryz.underlying87 hi0 hz0 .i64 .i64 8 (8+(m.length:Int)) (by omega) (by omega) (by rw [hz2];omega) (by omega);rw [hz1] at h;have e1:(8+(m.length:Int)).toNat=8+m.length:=by omega
  rw [e1,show (Value.int IntKind.u8 0).cells = #[B8 0] from rfl,azo f] at h;exact h
 have HF:=hiQ hf;clear hf hi0 hz0 hz1 hz2;have hadd:IntKind.i64.wrap (8+(m.length:Int))=8+(m.length:Int):=by rw [IntKind.wrap_i64];omega
 go_enter Tryz.func31,Tryz.ntmps31
 go_wp2
 refine aO (fun w1 hb0 B => ?_);have hB:=B.out;clear B;go_loopw [17] (fun s17 wr => ∃ k:Nat,k≤8∧s17 = .int .i64 k∧Has wr w.heap.size 5 (aoK k f (8+m.length))∧Below w.heap.size w wr) (fun s17 _ => 8 - (intOf s17).toNat)
 case atStart => exact ⟨0,by omega,rfl,hB,hb0⟩
 case round =>
  clear hB hb0;obtain ⟨k,hk,rfl,B,hb⟩:=hrel;by_cases hk8:k < 8
  ·
   have aFb:(k:Int) < 8:=by omega
   have cB:=(B.cell k).trans (aAq k f _ hk8 (by omega));have fB:=B.free k;have hst:Value.int IntKind.u8 ((f:Int) / 2 ^ (56 - 8*k) % 256)=B8 (UInt8.ofNat (f / 256 ^ (7 - k))):=by
    have e1:(2:Nat) ^ (56 - 8*k)=256 ^ (7 - k):=by
     rw [show (256:Nat)=2 ^ 8 from rfl,← Nat.pow_mul];congr 1;omega
    have e2:((f:Int) / 2 ^ (56 - 8*k))=((f / 256 ^ (7 - k):Nat):Int):=by
     rw [← e1];norm_cast
    rw [e2];generalize f / 256 ^ (7 - k)=q;rw [ZC _ (by omega) (by omega)];have e3:((q:Int) % 256).toNat=q % 256:=by omega
    rw [e3]
    congr 1
    apply UInt8.toNat_inj.1;simp
   have HST:=hiQ hst;clear hst;go_wp2
   go_roundw
   case rel =>
    rw [HST.out];exact ⟨k+1,by omega,by go_num,by rw [← aAr k f _ hk8 (by omega)];exact Has.set B k _,jS hb (Nat.le_refl _) _ _⟩
   case measure => simp [intOf];omega
  obtain rfl:k=8:=by omega
  have hown:=aAs B (by omega) (by simp only [maxLen];omega);go_wp2_with (at_builtin;refine asE rfl _ _ _ _ rfl w.heap.size 5 Tryz.underlying87 Tryz.underlying9 awk (.slice (some ⟨w.heap.size,0,none⟩) 8 (8+m.length)) 8 (beF 8 f) rfl hown m rfl (by omega) hb.size ?_;intro v2 w2 hown2 hb2;have hcv:=ZE 87 9 5 Tryz.underlying87 Tryz.underlying5 Tryz.underlying9 hown2)
  exact bodyPost_ret (v:=.tuple #[.string ⟨(beF 8 f ++ m).toArray⟩,.int .i64 0]) (by simp [results,Tryz.results31,go_sem]) rfl (⟨by rw [he.out],hb.trans hb2⟩)
def awI:ay:=⟨2,[],-10,10,0,[],[],0,0,false⟩
def awB:ay:=⟨1,[],0,0,0,[],[],0,0,false⟩
def awD:Val:=.mk 1 true 0 [] 0 [] [] []
def awM (nm:List UInt8):Mem:={ id:=3,name:=nm,ty:=0,akb:=false,eG:=true,dflt:=awD }
def awR (nm:List UInt8):ay:=⟨5,[82],0,0,0,[],[awM nm],0,0,false⟩
def V4 (nm:List UInt8):List ay:=[awB,awR nm]
theorem as7 {ts:List ay} (hv:fF ts=0) {t:Nat} (ht:t < ts.length) (h:aqB ts):aqB (jk ts t):=by
 intro y hy m hm hd;obtain ⟨n,hn⟩:=List.mem_iff_getElem?.1 hy;obtain ⟨a,x,_,hx,rfl⟩:=aqN hv ht hn;obtain ⟨q,hq,rfl⟩:=List.mem_map.1 (show m ∈ x.ah.map (aoc _) from hm);exact h x (List.mem_of_getElem? hx) q hq hd
theorem aAt {ts:List ay} (hv:fF ts=0) {t:Nat} (ht:t < ts.length) (hI:akg ts) (hD:acM ts) (h0:aqB ts):arx (jk ts t) :=
 ⟨akP hv ht,(aqC (FP hv) ht).lt.2,ash hv ht,ari hv ht hI,aoU hv ht hD,as7 hv ht h0⟩
theorem asl:fF [awI]=0:=by kernel_rfl
theorem aoF (nm:List UInt8) (h:nm = [97]∨nm = [98]):fF (V4 nm)=0:=by
 rcases h with rfl | rfl <;> kernel_rfl
theorem aBK:jk [awI] 0 = [awI]:=by
 have hc:dR [awI] 0=0:=by have:=aqA (FP asl) (i:=0) (by simp);simp at this;omega
 have ho:Ht [awI] 0 = [0]:=by
  unfold Ht;simp only [hc,List.length_singleton,bfs,List.getElem?_cons_zero,og]
  rfl
 unfold jk;rw [ho]
 rfl
theorem aBL (nm:List UInt8) (h:nm = [97]∨nm = [98]):dR (V4 nm) 0=0∧dR (V4 nm) 1=1:=by
 have hin:=FP (aoF nm h);have h0:=atO (Y5.refl hin (i:=0) (by simp [V4]));have h1:=atO (Y5.refl hin (i:=1) (by simp [V4]));refine ⟨by omega,?_⟩;rcases Nat.lt_or_ge (dR (V4 nm) 1) 1 with h2 | h2
 ·
  have h3:dR (V4 nm) 1=0:=by omega
  have h4:=alk hin (i:=1) (by simp [V4]);rw [h3] at h4;obtain ⟨x,y,hx,hy,ha,_⟩:=abg _ _ 1 0 h4;simp only [V4,List.getElem?_cons_succ,List.getElem?_cons_zero,Option.some.injEq] at hx hy;subst hx;subst hy;have:=ha.kind;simp [awR,awB] at this
 omega
def as9:List ay:=[⟨5,rF 84 0,0,0,0,[],[{ id:=3,name:=rF 102 3,ty:=1,akb:=false,eG:=true,dflt:=awD }],0,0,false⟩,awB]
theorem aui (nm:List UInt8) (h:nm = [97]∨nm = [98]):jk (V4 nm) 1=as9:=by
 obtain ⟨h0,h1⟩:=aBL nm h;have ho:Ht (V4 nm) 1 = [1,0]:=by
  unfold Ht;rw [h1,show (V4 nm).length=2 from rfl];have o1:og (V4 nm) 1 = [0]:=rfl;have o0:og (V4 nm) 0 = []:=rfl;simp only [bfs,List.getElem?_cons_zero,o1,ajJ,h0];simp [o0,ajJ]
 have i0:ixN (V4 nm) 1 0=1:=by unfold ixN;rw [ho,h0];rfl
 unfold jk;rw [ho];have hr:Aq 0 (ixN (V4 nm) 1) (awR nm)=⟨5,rF 84 0,0,0,0,[],[{ id:=3,name:=rF 102 3,ty:=1,akb:=false,eG:=true,dflt:=awD }],0,0,false⟩:=by
  have e:aoc (ixN (V4 nm) 1) (awM nm) = { id:=3,name:=rF 102 3,ty:=1,akb:=false,eG:=true,dflt:=awD }:=by
   unfold aoc awM;simp only [Int.toNat_zero,i0]
   rfl
  unfold Aq awR;simp only [List.map_cons,List.map_nil,e]
  rfl
 show [Aq 0 (ixN (V4 nm) 1) (awR nm),Aq 1 (ixN (V4 nm) 1) awB]=_;rw [hr]
 rfl
theorem axj:acM [awI]:=by
 intro x hx m hm _;obtain rfl:=List.mem_singleton.1 hx;simp [awI] at hm
theorem aoq (nm:List UInt8):acM (V4 nm)∧aqB (V4 nm)∧akg (V4 nm):=by
 refine ⟨fun x hx m hm _ => ?_,fun x hx m hm _ => ?_,fun x hx => ?_⟩
 ·
  simp only [V4,List.mem_cons,List.not_mem_nil,or_false] at hx;rcases hx with rfl | rfl
  · simp [awB] at hm
  simp only [awR,List.mem_singleton] at hm;subst hm
  rfl
 ·
  simp only [V4,List.mem_cons,List.not_mem_nil,or_false] at hx;rcases hx with rfl | rfl
  · simp [awB] at hm
  simp only [awR,List.mem_singleton] at hm;subst hm;exact ⟨rfl,rfl,rfl,by show (1:Int)≠5;decide⟩
 simp only [V4,List.mem_cons,List.not_mem_nil,or_false] at hx;rcases hx with rfl | rfl <;> exact ⟨F7 0,F7 0⟩
theorem azp:aj2 [awI] 0=([1,2,19,20],0):=by
 have h:=arh asl (t:=0) (by simp) axj;rw [aBK] at h;exact h.trans (by rfl)
theorem auQ (nm:List UInt8) (h:nm = [97]∨nm = [98]):aj2 (V4 nm) 1=([2,5,1,3,2,1,1,1],0):=by
 have h:=arh (aoF nm h) (t:=1) (by simp [V4]) (aoq nm).1;rename_i h2;rw [aui nm h2] at h;exact h.trans (by rfl)
theorem auj:Lp as9 = [2,5,1,3,2,1,1,1]:=by rfl
theorem azq:arx as9:=by
 have h:=aui [97] (.inl rfl);rw [← h];exact aAt (aoF _ (.inl rfl)) (by simp [V4]) (aoq _).2.2 (aoq _).1 (aoq _).2.1
end Go.Proofs.YtlamhkffnlgofaaGreatDoor
