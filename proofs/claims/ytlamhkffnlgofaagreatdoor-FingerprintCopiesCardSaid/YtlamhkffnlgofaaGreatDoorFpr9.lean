/- What Root restores from canonical bytes: the canonical root. No condition. -/
import Derived.Test.YtlamhkffnlgofaaGreatDoorFpb
set_option maxHeartbeats 1600000
set_option maxRecDepth 100000
namespace Go.Proofs.YtlamhkffnlgofaaGreatDoor
open Go.ChangeShapes Go.WideShapes Go.ChangeAt Go.RowKit
theorem F6 (k:Int) (h:0≤k∧k≤9:=by decide):I64 k:=by unfold I64;omega
structure arx (us:List ay):Prop where
 valid:fF us=0
 pos:0 < us.length
 canon:Canon us
 ints:akg us
 dfl:acM us
 bare:aqB us
theorem az4 {us:List ay} (h:arx us) (n:Nat) (hn:n < us.length):aAZ n us[n]:=by
 have hm:=List.getElem_mem hn;have hti:=anY h.valid h.ints _ hm;obtain ⟨c1,c2,c3⟩:=h.canon n _ (List.getElem?_eq_getElem hn);obtain ⟨hkd,_,hu⟩:=akc h.valid _ hm;have h32:=(nG h.valid).1;have hmx:=asx h.valid hm;obtain ⟨_,z2,z3,_,_⟩:=V4 hti.form;refine ⟨hti.form,hti.ints,hmx.1,hmx.2,⟨hti.syms.1,fun q hq => by have:=hti.syms.2 q hq;omega⟩,⟨hti.ah.1,fun q hq => ⟨hti.ah.2 q hq,?_⟩⟩,?_,?_,c1,c2,c3⟩
 · obtain ⟨k,hk1,hk2⟩:=hu q.ty (alE _ q hq);omega
 ·
  by_cases h8:us[n].kind=8
  · obtain ⟨k,hk1,hk2⟩:=hu _ (aon _ h8);omega
  rw [z2 h8];omega
 by_cases h7:7≤us[n].kind
 · obtain ⟨k,hk1,hk2⟩:=hu _ (aqY _ h7);omega
 rw [z3 (by omega)];omega
theorem avD {us:List ay} (hv:fF us=0) {x:ay} (hx:x ∈ us) {m:Mem} (hm:m ∈ x.ah) (hd:m.eG=false):m.dflt=jm:=by
 have hf:=((nG hv).2 x hx).1;obtain ⟨_,_,_,z4,_⟩:=V4 hf;by_cases hk:x.kind=5∨x.kind=6
 ·
  unfold dY rD at hf;rw [if_neg (by omega),if_neg (by omega),if_neg (by omega),if_pos hk] at hf;simp only [Bool.and_eq_true] at hf;have:=hf.2.1.2;unfold iQ at this;simp only [Bool.and_eq_true] at this;have h3:=List.all_eq_true.1 this.1 m hm;unfold jf at h3;rw [hd] at h3;simp only [Bool.false_or,Bool.and_eq_true] at h3;exact (vM _ _).1 h3.2.2
 rw [z4 hk] at hm;simp at hm
theorem ayH {m:Mem} (h:aqZ m) (hn:m.name=jk 102 m.id) (hd:m.dflt=jm):ar4 m:=by
 obtain ⟨h1,h2,_⟩:=h;refine ⟨⟨by unfold I64;omega,by unfold I64;omega⟩,?_,by rw [hd];exact ⟨rfl,rfl,rfl⟩,by rw [hd];exact ⟨F6 0,F6 0,F6 0⟩,by rw [hd];decide⟩;have:=af5 102 m.id (by unfold I64;omega);rw [hn];omega
theorem auD {us:List ay} {x:ay} {m:Mem} (hv:fF us=0) (hx:x ∈ us) (hm:m ∈ x.ah):∃ y,bM us m.ty=some y:=by
 obtain ⟨_,_,hu⟩:=akc hv x hx;obtain ⟨k,hk1,hk2⟩:=hu m.ty (alE x m hm);exact ⟨us[k],by rw [hk1,akQ,List.getElem?_eq_getElem hk2]⟩
theorem aw3 {us:List ay} (h:arx us) {n:Nat} (hn:n < us.length) {m:Mem} (hm:m ∈ us[n].ah):ar4 m:=by
 have hx:=List.getElem_mem hn;have hti:=(anY h.valid h.ints _ hx).ah.2 m hm;obtain ⟨_,_,c3⟩:=h.canon n _ (List.getElem?_eq_getElem hn);cases hd:m.eG with
 | false => exact ayH hti (c3 m hm) (avD h.valid hx hm hd)
 | true =>
  obtain ⟨h1,h2,_⟩:=hti;have hf:=h.dfl _ hx m hm hd;obtain ⟨y,hy⟩:=auD h.valid hx hm;have h0:=h.bare _ hx m hm hd;have hform:=arz h.valid hy hf h0;have hyi:=h.ints y (aoa hy);have hnl:=af5 102 m.id (by unfold I64;omega);refine ⟨⟨by unfold I64;omega,by unfold I64;omega⟩,by rw [c3 m hm];omega,⟨h0.1,h0.2.1,h0.2.2.1⟩,?_,?_⟩
  ·
   cases hform with
   | bool bb hk hd he => rw [hd];exact ⟨F6 1,F6 0,F6 0⟩
   | int n hk hd he hn => rw [hd];refine ⟨F6 2,?_,F6 0⟩;show I64 n;unfold I64 at *;omega
   | str s hk hd he hn => rw [hd];exact ⟨F6 3,F6 0,F6 0⟩
   | enum n hk hd he hn => rw [hd];refine ⟨F6 4,F6 0,?_⟩;show I64 n;unfold I64;omega
   | list k hk h7 hd he => rw [hd];refine ⟨?_,F6 0,F6 0⟩;show I64 k;unfold I64;omega
  cases hform with
  | bool bb hk hd he => rw [hd];show (0:Nat)≤_;omega
  | int n hk hd he hn => rw [hd];show (0:Nat)≤_;omega
  | str s hk hd he hn => rw [hd];show s.length≤_;omega
  | enum n hk hd he hn => rw [hd];show (0:Nat)≤_;omega
  | list k hk h7 hd he => rw [hd];show (0:Nat)≤_;omega
theorem aBv {m:Mem} (h:ar4 m):ar4 (unM m):=⟨h.ints,h.GI,⟨rfl,rfl,rfl⟩,⟨F6 0,F6 0,F6 0⟩,by show (0:Nat)≤_;omega⟩
theorem asy {us:List ay} (h:arx us) (t i:Nat):∀ x ∈ MF us t i,aq2 x:=by
 intro x hx;obtain ⟨j,hj⟩:=List.mem_iff_getElem?.1 hx;have hjl:j < us.length:=by
  have:=(List.getElem?_eq_some_iff.1 hj).1;rwa [Z7] at this
 rw [an4 us t i j hjl] at hj;obtain rfl:=Option.some.inj hj;have hti:=anY h.valid h.ints _ (List.getElem_mem hjl);obtain ⟨c1,c2,c3⟩:=h.canon j _ (List.getElem?_eq_getElem hjl);have hk:=Us hti.form;have hm:=hti.max;have hke:=hti.key;have hel:=hti.elem;have h32:=(nG h.valid).1;refine ⟨⟨?_,hti.ints.1,hti.ints.2,?_,?_,?_⟩,?_,⟨?_,?_⟩,fun r hr => ?_,fun m hm1 => ?_⟩
 · show I64 us[j].kind;unfold I64;omega
 · show I64 us[j].max;unfold I64;omega
 · show I64 us[j].key;unfold I64;omega
 · show I64 us[j].elem;unfold I64;omega
 ·
  show us[j].name.length≤_;have:=af5 84 (j:Int) (by unfold I64;omega);rw [c1];split <;> simp <;> omega
 ·
  show us[j].syms.length≤_;have:=hti.syms.1;omega
 ·
  show (LX us[j].ah _).length≤_;rw [an5];have:=hti.ah.1;omega
 ·
  have hr2:r ∈ us[j].syms:=hr;have h1:=hti.syms.2 r hr2;have:=af5 115 r.1 (by unfold I64;omega);exact ⟨by unfold I64;omega,by rw [c2 r hr2];omega⟩
 have hm2:m ∈ LX us[j].ah (alz us[j] t i j):=hm1;unfold LX at hm2;rcases List.mem_append.1 hm2 with h3 | h3
 · exact aw3 h hjl (List.mem_of_mem_take h3)
 obtain ⟨q,hq,rfl⟩:=List.mem_map.1 h3;exact aBv (aw3 h hjl (List.mem_of_mem_drop hq))
theorem aCr {us:List ay} (h:arx us) {n:Nat} (hn:n < us.length) {m:Mem} (hm:m ∈ us[n].ah) (hd:m.eG=true) {y:ay} {ty:Nat} (hty:m.ty=(ty:Int)) (hyl:ty < us.length) (hyk:y.kind=us[ty].kind)
  (b o c k gr:Nat) (r:List UInt8) (w:World) (C1:Option Addr) (n1 l1:Nat) (C2:Option Addr) (n2 l2:Nat) (hbw:b < w.heap.size) (hx:NI w b (o+ty*10) y (.slice C1 n1 l1) (.slice C2 n2 l2)) (hrl:r.length≤1000000000000) (hr:Af w gr (FP us m ++ r) k) :
  Calls Tryz.prog 64 #[.pointer (some ⟨gr,0,none⟩),.agg #[.slice (some ⟨b,o,none⟩) us.length c],.int .i64 (ty:Nat)] w (anM gr (aS m.dflt (.slice none 0 0) (.slice none 0 0) (.slice none 0 0)) r 0 w):=by
 have hxm:=List.getElem_mem hn;have hf:=h.dfl _ hxm m hm hd;have h0:=h.bare _ hxm m hm hd;have hy:bM us m.ty=some us[ty]:=by rw [hty,akQ,List.getElem?_eq_getElem hyl]
 have hform:=arz h.valid hy hf h0;have hyi:=h.ints _ (aoa hy);have hdm:FP us m=Ai us m.dflt m.ty:=by unfold FP;rw [hd];rfl
 rw [hdm] at hr;cases hform with
 | bool bb hk hd he => rw [he] at hr;rw [hd];exact aCs bb y (hyk.trans hk) b o us.length c ty C1 n1 l1 C2 n2 l2 hyl r k gr w hbw hx hr
 | int q hk hd he hq => rw [he] at hr;rw [hd];exact aCt q (by unfold I64 at *;omega) y (hyk.trans hk) b o us.length c ty C1 n1 l1 C2 n2 l2 hyl r k gr w hbw hx hr
 | str s hk hd he hs => rw [he,List.append_assoc] at hr;rw [hd];exact aCu s (by omega) y (hyk.trans hk) b o us.length c ty C1 n1 l1 C2 n2 l2 hyl r k gr w hbw hx hrl hr
 | enum q hk hd he hq =>
  obtain ⟨u,rfl⟩ : ∃ u:Nat,q=(u:Int):=⟨q.toNat,by omega⟩
  rw [he,Int.toNat_natCast] at hr;rw [hd];exact aCv u (by omega) y (hyk.trans hk) b o us.length c ty C1 n1 l1 C2 n2 l2 hyl r k gr w hbw hx hr
 | list q hk h7 hd he =>
  rw [he] at hr;rw [hd];have hcs:q=7∨q=8∨q=9:=by omega
  rcases hcs with rfl | rfl | rfl
  · exact aCw y (hyk.trans hk) b o us.length c ty C1 n1 l1 C2 n2 l2 hyl r k gr w hbw hx hr
  · exact aCx y (hyk.trans hk) b o us.length c ty C1 n1 l1 C2 n2 l2 hyl r k gr w hbw hx hr
  exact aCy y (hyk.trans hk) b o us.length c ty C1 n1 l1 C2 n2 l2 hyl r k gr w hbw hx hr
def az5 (us:List ay) (w:World) (e:Ending) (w':World):Prop := ∃ A c,e = .returned (.tuple #[.agg #[.slice A us.length c,.int .i64 0],.int .i64 0])∧aU w' w'.heap.size (.slice A us.length c) us∧Below w.heap.size w w'
theorem az6 (us:List ay) (hus:arx us) (hl:(BN us).length≤1000000000000) (w:World) (hp:aj0 w)
  (hb:∀ W A c,Below w.heap.size w W→aU W W.heap.size (.slice A us.length c) us→Calls Tryz.prog 22 #[.agg #[.slice A us.length c,.int .i64 0]] W fun e w' => e = .returned (.tuple #[.string ⟨(BN us).toArray⟩,.int .i64 0])∧Below W.heap.size W w') :
  Calls Tryz.prog 28 #[.string ⟨(BN us).toArray⟩] w (az5 us w):=by
 have HU:=hiQ hus;have HBY:=hiQ hb;have HP:=hiQ hp;have hpos:=hus.pos;have h32:=(nG hus.valid).1;obtain ⟨D,hD⟩ : ∃ D,D=us.flatMap (Y0 us):=⟨_,rfl⟩
 obtain ⟨q,hq⟩ : ∃ q,q=BN us:=⟨_,rfl⟩
 have hq2:q=pJ 9 us.length ++ (us.flatMap kS ++ D):=by rw [hq,hD];rfl
 have hDl:D.length≤1000000000000:=by
  have e:q.length=(pJ 9 us.length).length+((us.flatMap kS).length+D.length):=by rw [hq2,List.length_append,List.length_append]
  rw [← hq] at hl;omega
 have HQ2:=hiQ hq2;have HD:=hiQ hD;rw [← hq] at HBY ⊢;clear hus hb hp hD hq2 hl hq;go_enter Tryz.func28,Tryz.ntmps28
 go_upto_region 1 with fail;refine aO (fun wd2 hb1 Z => ?_);have hw3:=hb1;clear hb1;go_upto_region 2 with fail;refine aO (fun fG hb4 X => ?_);have nI:=Z.out.here;have mO:=hw3.size;replace Z:=b1 Z hb4;replace hw3:=dT hw3 hb4;clear hb4;generalize wd2.heap.size=g6 at *;obtain ⟨gr,rfl⟩ : ∃ g,g=g6:=⟨_,rfl⟩
 obtain ⟨aoP,hWS⟩ : ∃ x,x=fG:=⟨_,rfl⟩
 subst hWS;have aDA:=hw3;clear hw3;have hW0:=aDA;have Yu:=Z.out;have hgr:=X.out.here;have hR0:Af aoP gr (pJ 9 us.length ++ (us.flatMap kS ++ D)) 0:=by rw [← HQ2.out];exact X.out
 clear Z X;have R:=hR0;have Z:=Yu;have KG:=qR0 aoP (some gr);have HPW:Hid (∀ W,Below gr aoP W→ar5 W):=fun W h => aj0.on HP.out (hW0.trans (h.mono (by omega)));replace R:=hiQ R;replace Z:=hiQ Z;clear hR0 Yu;go_upto_region 3 with fail;refine aO (fun aGJ au1 S => ?_);replace Z:=b1 Z au1;replace R:=qB R au1;replace KG:=BX KG au1;clear au1;obtain ⟨gS,hgS⟩ : ∃ g,g=aoP.heap.size:=⟨_,rfl⟩
 have hS9:=S.out;have aG0:aoP.heap.size≤gS:=by omega
 have aG1:gr < gS:=by omega
 rw [← hgS] at hS9 ⊢;clear S;have S:=hS9;replace S:=hiQ S;clear hgS hS9;have hgS:=S.out.here;go_wp2_with fail;((with_reducible refine (bn 32 (by decide) (us.length:Nat) us.length rfl (by omega) _ 0 gr _ R.out).mono ?_);rintro e aA0 ⟨rfl,aA1,au2⟩);replace Z:=qH Z au2 (by omega);replace S:=qH S au2 (by omega);replace R:=hiQ aA1;replace KG:=qT KG au2;clear aA1 au2;go_upto_region 4 with fail;have Yu:=Z.out;have hS0:=S.out;have hR0:=R.out;have hT0:=TK.nil aA0 (gS+1) aA0.heap.size S.out.here;go_loopw [18] (fun s18 wr => ∃ (k:Nat) (A:Option Addr) (c:Nat),k≤us.length∧s18 = .int .i64 k∧Has wr w.heap.size 27 #[.slice none 0 0,.int .i64 0]∧Has wr gS 25 #[.slice A k c]∧TK wr (gS+1) wr.heap.size (.slice A k c) ((us.take k).map unT)∧Af wr gr ((us.drop k).flatMap kS ++ D) 0∧aoP.grownBy wr (some gr)) (fun s18 _ => us.length - (intOf s18).toNat)
 case atStart => exact ⟨0,none,0,Nat.zero_le _,rfl,Yu,hS0,hT0,hR0,KG⟩
 case round =>
  clear Z S R KG Yu hS0 hR0 hT0;obtain ⟨k,A,c,hkl,rfl,Z,S,hT,R,KG⟩:=hrel;by_cases hlt:k < us.length
  ·
   have hfr:=az4 HU.out k hlt;have htk:(us.take (k+1)).map unT=(us.take k).map unT ++ [unT us[k]]:=by
    rw [List.take_add_one,List.map_append,List.getElem?_eq_getElem hlt];rfl
   have htl:((us.take k).map unT).length=k:=by rw [List.length_map,List.length_take];omega
   rw [List.drop_eq_getElem_cons hlt,List.flatMap_cons,List.append_assoc] at R;generalize us[k]=x at *;have wO:=hiQ htk;have HTL:=hiQ htl;have hlt':(k:Int) < us.length:=by omega
   clear htk htl;replace R:=hiQ R;replace Z:=hiQ Z;replace S:=hiQ S;have T:=hiQ (hT.kept (Nat.le_refl _));clear hT;go_upto_region 6 with fail;have aH:=S.out.e0;refine l9 (S:=(fun w' => w'.cell? ⟨gS,0,none⟩=some (.slice A k c))) (fun j => j == 8) (by kernel_rfl) aH (fun hHeld => ?_);clear aH;have au3:Below wr.heap.size wr (wr.drew):=(Below.refl _ _).drew;obtain ⟨Z,S,T⟩:=b3 Z S T au3;replace R:=qB R au3;replace KG:=BX KG au3;clear au3;generalize wr.drew=aDB at *;refine eH 0 ?_;refine eH 1 ?_;refine eH 2 ?_;refine eH 3 ?_;refine gJ 4 fun K hK => ?_;go_simp;obtain ⟨z6,Dn⟩ : ∃ z,z=(aDB).heap.size:=⟨_,rfl⟩
   have hz6:=S.out.here;have hzB:=T.out.le;rw [← Dn] at hz6 hzB;have MK:=hiQ (Kept.mark Dn);((with_reducible refine (ayI k (by omega) x hfr _ 0 gr _ (fun W' h => HPW.out W' ((arA KG (by omega)).trans h)) R.out).mono ?_);rintro e aA2 ⟨vs,vm,rfl,hte,aA3,asz⟩);replace Z:=qH Z asz (by omega);replace S:=qH S asz (by omega);replace T:=qN T asz (by omega);replace MK:=qN MK asz (by omega);replace R:=hiQ aA3;replace KG:=qT KG asz;clear aA3 asz;obtain ⟨A5,c5,rfl⟩:=jF hte.syms;obtain ⟨A6,c6,rfl⟩:=jF hte.ah;obtain ⟨y,hy⟩ : ∃ y,y=unT x:=⟨_,rfl⟩
   rw [← hy] at hte wO ⊢;obtain ⟨z7,Fb⟩ : ∃ z,z=(aA2).heap.size:=⟨_,rfl⟩
   rw [← Dn,← Fb] at hte;have HY:=hiQ (hte.kept (Nat.le_of_eq Fb));have hz7:z6≤z7:=by rw [Fb];exact MK.out.le
   clear hte Dn Fb hy;(try clear hHeld);refine hK.out _ _ (S.out.cell 0) (fun hHeld => ?_);clear hK K;refine gJ 5 fun K hK => ?_;go_simp;refine aO (fun au4 au5 N => ?_);have aDC:=Z.out.here;have aGK:=S.out.here;have aGL:=T.out.le;have aGM:=MK.out.le;have aGN:=HY.out.le;have aGO:=KG.size;obtain ⟨Z,S,T,MK,HY⟩:=b5 Z S T MK HY au5;replace R:=qB R au5;replace KG:=BX KG au5;clear au5;generalize aA2.heap.size=aEW at *;(try clear hHeld);refine hK.out _ _ (S.out.cell 0) (fun hHeld => ?_);clear hK K;refine gJ 6 fun K hK => ?_;have hNh:=N.out.here;obtain ⟨cs,hown,hvB,happ⟩:=T.out.now.row;rw [HTL.out] at hown happ;obtain ⟨i0,hi,hi0,hi1,hi2⟩:=info_parts auu;refine step_append_lies (P:=Tryz.prog) au4 (by rfl) _ _ _ (by rfl) (gS+1) 71 i0 _ 10 120 Tryz.underlying23 hi hi0 hi1 hi2 rfl (by decide) (.slice A k c) k _ rfl hown ⟨aEW,0,none⟩ 1 1 (Pq y (.slice A5 y.syms.length c5) (.slice A6 y.ah.length c6)) rfl rfl (World.news_of_block N.out) (by simp [Pq,Value.oneCell']) (by omega) (by simp only [maxLen];omega) (by omega) (by omega) au4.heap.size rfl ?_;intro g cap w1 hown1 hgrow hat hgl;have hg1:=hown1.lt g rfl;have hsz:=hgrow.size;have hyle:=HY.out.le;have hT1:=happ w1 (.slice (some ⟨g,0,none⟩) (k+1) cap) y _ _ w1.heap.size z6 z7 hgrow hown1 (fun b hb => by simp only [Value.ownBlock,Option.some.injEq] at hb;omega) hzB hz7 hyle (by omega) HY.out.now;rw [← wO.out] at hT1;have hb4:Below (gS+1) au4 w1:=(Below.refl _ au4).grown hgrow (by omega) (fun q hq => (hown.lt q hq).1);clear hown hvB happ hown1 hgrow hat hgl hg1 hsz hyle hNh hi hi0 hi1 hi2 T N HY MK
   replace Z:=hiQ (Z.out.below hb4 (show w.heap.size < gS+1 by omega));replace S:=hiQ (S.out.below hb4 (show gS < gS+1 by omega));replace R:=qBL R hb4 (show gr < gS+1 by omega);replace KG:=avE KG hb4 (show aoP.heap.size≤gS+1 by omega);have T:=hiQ (hT1.kept (Nat.le_refl _));clear hT1 hb4;(try clear hHeld);refine hK.out _ _ (S.out.cell 0) (fun hHeld => ?_);clear hK K;refine eH 7 ?_;refine pG 8 fun K hK => ?_;have aH:=S.out.e0;have akO:=S.out.free 0;go_simp;clear aH akO;generalize atF:w1.setCell _ _=aGP;obtain ⟨Z,T⟩:=f2 Z T (eF atF);replace R:=qS R atF (by omega);replace KG:=qkS KG atF (by omega);replace S:=xR S atF;clear atF;(try clear hHeld);refine hK.out _ _ ?_;clear hK K;refine akJ (by kernel_rfl) ?_ _;(try clear hHeld);go_wp2_with fail;go_roundw
   case rel => exact ⟨k+1,some ⟨g,0,none⟩,cap,by omega,by go_num,Z.out,S.out,T.out.now.mono T.out.le,R.out,KG⟩
   case measure => simp [intOf];omega
  obtain rfl:k=us.length:=by omega
  rw [List.drop_eq_nil_of_le (Nat.le_refl _),List.flatMap_nil,List.nil_append] at R;rw [List.take_of_length_le (Nat.le_refl _),atG] at hT;have hvd:=az7 HU.out.valid;rw [atG] at hvd;have HVD:=hiQ hvd;clear hvd;replace R:=hiQ R;replace Z:=hiQ Z;replace S:=hiQ S;have T:=hiQ (hT.kept (Nat.le_refl _));clear hT;have cR1:=Af.c1 R.out;have aH:=S.out.e0;have hn0:((us.length:Int) == 0)=false:=beq_eq_false_iff_ne.2 (by omega);go_wp2_with fail;have hsz:Sizes (MF us 0 0):=fun x hx => by have:=(asy HU.out 0 0 x hx).lens;exact ⟨by omega,by omega⟩
  have hval:=fun W (h:TK W (gS+1) wr.heap.size (.slice A us.length c) (MF us 0 0)) => ab6 (MF us 0 0) A c W hsz (by rw [Z7];exact h.rd (asy HU.out 0 0));simp only [Z7,HVD.out] at hval;have aCC:=hiQ hval;clear hsz hval aH;((with_reducible refine (aCC.out _ T.out.now).mono ?_);rintro e aGQ ⟨rfl,au6⟩);obtain ⟨Z,S,T⟩:=b3 Z S T au6;replace R:=qB R au6;replace KG:=BX KG au6;clear au6;have aH:=S.out.e0;go_upto_region 11 with fail;clear aH;have Yu:=Z.out;have hS0:=S.out;have hR0:=R.out;have hT0:=T.out.now.mono T.out.le;go_loopw [49] (fun s49 wr => ∃ (t kk:Nat),t≤us.length∧s49 = .int .i64 t∧Has wr w.heap.size 27 #[.slice none 0 0,.int .i64 0]∧Has wr gS 25 #[.slice A us.length c]∧TK wr (gS+1) wr.heap.size (.slice A us.length c) (MF us t 0)∧Af wr gr ((us.drop t).flatMap (Y0 us)) kk∧aoP.grownBy wr (some gr)) (fun s49 _ => us.length - (intOf s49).toNat)
  case atStart => exact ⟨0,0,Nat.zero_le _,rfl,Yu,hS0,hT0,by rw [List.drop_zero,← HD.out];exact hR0,KG⟩
  case round =>
   clear Z S R KG T Yu hS0 hR0 hT0 aCC;obtain ⟨t,kk,htl,rfl,Z,S,hT,R,KG⟩:=hrel;by_cases hlt:t < us.length
   ·
    have hlt':(t:Int) < us.length:=by omega
    have hd0:decide ((t:Int) < 0)=false:=by simp
    have hd1:decide (us.length≤t)=false:=by simpa using hlt
    have hml:=(HU.out |> fun h => (anY h.valid h.ints _ (List.getElem_mem hlt)).ah.1)
    have az8:=ali (Y0 us) us (t+1);rw [List.drop_eq_getElem_cons hlt,List.flatMap_cons] at R;obtain ⟨xm,hxm⟩ : ∃ l,l=us[t].ah:=⟨_,rfl⟩
    rw [show Y0 us us[t]=us[t].ah.flatMap (FP us) from rfl,← hxm] at R;rw [← hxm] at hml;obtain ⟨D2,hD2⟩ : ∃ D,D=(us.drop (t+1)).flatMap (Y0 us):=⟨_,rfl⟩
    have aEX:(xm.flatMap (FP us)).length+D2.length≤1000000000000:=by
     have e:D=(us.take t).flatMap (Y0 us) ++ (Y0 us us[t] ++ D2):=by
      rw [HD.out,hD2,← List.flatMap_cons,← List.drop_eq_getElem_cons hlt,← List.flatMap_append,List.take_append_drop]
     rw [e,List.length_append,List.length_append,show Y0 us us[t]=us[t].ah.flatMap (FP us) from rfl,← hxm] at hDl;omega
    rw [← hD2] at R;have HD2:=hiQ hD2;have HXM:=hiQ hxm;clear az8 hD2 hxm;obtain ⟨g,c9,y,C1,n1,l1,C2,l2,hA,Eo,hgB,hct,-⟩:=auE hT hlt;injection hA with hA1 hA2 hA3;subst hA1;subst hA3;have x6:=hct.2.2.2.2.2.2.1;rw [← HXM.out,Nat.zero_add] at x6;clear hct;replace R:=hiQ R;replace Z:=hiQ Z;replace S:=hiQ S;have T:=hiQ (hT.kept (Nat.le_refl _));clear hT;have aH:=S.out.e0;go_upto_region 14 with fail;clear aH x6;have Yu:=Z.out;have hS0:=S.out;have hR0:=R.out;have hT0:=T.out.now;go_loopw [59] (fun s59 wr => ∃ (i kk:Nat),i≤xm.length∧s59 = .int .i64 i∧Has wr w.heap.size 27 #[.slice none 0 0,.int .i64 0]∧Has wr gS 25 #[.slice (some ⟨g,0,none⟩) us.length c]∧TK wr (gS+1) wr.heap.size (.slice (some ⟨g,0,none⟩) us.length c) (MF us t i)∧Af wr gr ((xm.drop i).flatMap (FP us) ++ D2) kk∧aoP.grownBy wr (some gr)) (fun s59 _ => xm.length - (intOf s59).toNat)
    case atStart => exact ⟨0,kk,Nat.zero_le _,rfl,Yu,hS0,hT0,by rw [List.drop_zero];exact hR0,KG⟩
    case round =>
     clear Z S R KG T Yu hS0 hR0 hT0 kk;obtain ⟨i,kk,hil,rfl,Z,S,hT,R,KG⟩:=hrel;by_cases BG:i < xm.length
     ·
      have aG2:(i:Int) < xm.length:=by omega
      have hd2:decide ((i:Int) < 0)=false:=by simp
      have hd3:decide (xm.length≤i)=false:=by simpa using BG
      have az8:=ali (FP us) xm (i+1);rw [List.drop_eq_getElem_cons BG,List.flatMap_cons,List.append_assoc] at R;obtain ⟨D3,hD3⟩ : ∃ D,D=(xm.drop (i+1)).flatMap (FP us) ++ D2:=⟨_,rfl⟩
      have aEY:D3.length≤1000000000000:=by
       have e:xm.flatMap (FP us)=(xm.take (i+1)).flatMap (FP us) ++ (xm.drop (i+1)).flatMap (FP us):=by rw [← List.flatMap_append,List.take_append_drop]
       rw [e,List.length_append] at aEX;rw [hD3,List.length_append];omega
      rw [← hD3] at R;have HD3:=hiQ hD3;have hiu:i < us[t].ah.length:=by rw [← HXM.out];exact BG
      have hmt:=az9 hlt hiu;have hrow:=aAa hlt hiu;have axB:=fun hu => axC us t i hlt hiu hu;obtain ⟨g',c',gm,cm,lo,hA,x6,hown,hlo,hgm,hgs,hset⟩:=aw4 hT hlt hiu;injection hA with hA1 hA2 hA3;injection hA1 with hA1;injection hA1 with hA1 _ _;subst hA1;have hmem:us[t].ah[i]=xm[i]:=by simp only [HXM.out]
      have hmm:xm[i] ∈ us[t].ah:=by rw [← hmem];exact List.getElem_mem hiu
      have hdv:=avD HU.out.valid (List.getElem_mem hlt) hmm;have hty:=auD HU.out.valid (List.getElem_mem hlt) hmm;rw [← HXM.out] at x6 hown;rw [hmem] at hmt hrow axB;rw [← HXM.out] at hmt;generalize xm[i]=m at *;obtain ⟨y,hy⟩:=hty;obtain ⟨mg,aAb,-⟩:=atl hy;obtain ⟨ty,hty⟩ : ∃ ty:Nat,m.ty=(ty:Int):=⟨m.ty.toNat,by omega⟩
      rw [hty,Int.toNat_natCast] at aAb;have atH:aoJ wr lo gm xm.length cm i ((LX xm i).flatMap ail) [.int .i64 m.id,.string ⟨m.name.toArray⟩,.int .i64 (ty:Nat),.bool m.akb,.bool m.eG,.int .i64 0,.bool false,.int .i64 0,.string ⟨#[]⟩,.int .i64 0,.slice none 0 0,.slice none 0 0,.slice none 0 0]:=⟨hown,BG,rfl,fun j u hu => hmt j u (by rw [← hu,← hty];rfl)⟩
      have HMM:=hiQ hmm;have Hg:=hiQ hty;have HDV:=hiQ hdv;have HSK:=hiQ axB;have HRW:=hiQ hrow;have aCD:=hiQ aAb;clear az8 hD3 hmt hrow axB hA2 hA3 hset hown hmem hmm hdv hy mg hty aAb;replace R:=hiQ R;replace Z:=hiQ Z;replace S:=hiQ S;have T:=hiQ (hT.kept (Nat.le_refl _));have MR:=hiQ (atH.kept);have KX:=hiQ (RX x6);clear hT atH;have aH:=S.out.e0;go_upto_region 17 with fail;clear aH x6;have x4:=MR.out.now.c 4 rfl;cases hdd:m.eG with
      | false =>
       have hun:unM m=m:=by
        have:=HDV.out hdd;obtain ⟨m1,m2,m3,m4,m5,m6⟩:=m;simp only at this;subst this;rfl
       have hdm:Hid (FP us m = []):=by show _=_;unfold FP;rw [hdd];rfl
       have hsk:=HSK.out hun;have HS2:=hiQ hsk;rw [hdd] at x4;clear hdd hun hsk;go_wp2_with fail;clear x4;go_roundw
       case rel => exact ⟨i+1,kk,by omega,by go_num,Z.out,S.out,by rw [← HS2.out];exact T.out.now.mono T.out.le,by have h9:=R.out;rw [hdm.out,List.nil_append,HD3.out] at h9;exact h9,KG⟩
       case measure => simp [intOf];omega
      | true =>
       have HDD:=hiQ hdd;rw [hdd] at x4;clear hdd;go_upto_region 18 with fail;clear x4;have aH:=S.out.e0;refine l9 (S:=(fun w' => w'.cell? ⟨gS,0,none⟩=some (.slice (some ⟨g,0,none⟩) us.length c)∧(w'.cell? ⟨gm,i*13+2,none⟩=some (.int .i64 (ty:Nat))))) (fun j => j == 8 || j == 9 || j == 10) (by kernel_rfl) ⟨aH,(MR.out.now.c 2 rfl)⟩ (fun hHeld => ?_);clear aH;have aoQ:Below wr.heap.size wr (wr.drew):=(Below.refl _ _).drew;obtain ⟨Z,S,T,MR,KX⟩:=b5 Z S T MR KX aoQ;replace R:=qB R aoQ;replace KG:=BX KG aoQ;clear aoQ;generalize wr.drew=aA4 at *;refine eH 0 ?_;refine eH 1 ?_;refine eH 2 ?_;refine eH 3 ?_;refine eH 4 ?_;refine eH 5 ?_;refine eH 6 ?_;refine gJ 7 fun K hK => ?_;go_simp;obtain ⟨g3,c3,y3,C3,n3,l3,C4,l4,hA4,-,aCF,aCG,hk4⟩:=auE T.out.now aCD.out;obtain ⟨hA4,hA5⟩ : g=g3∧c=c3:=by
        injection hA4 with h1 _ h2;injection h1 with h1;injection h1 with h1 _ _;exact ⟨h1,h2⟩
       subst hA4;((with_reducible refine (aCr HU.out hlt HMM.out HDD.out Hg.out aCD.out hk4 _ 0 _ kk gr D3 _ C3 n3 l3 C4 _ l4 (Nat.lt_of_lt_of_le aCF T.out.le) aCG aEY R.out).mono ?_);rintro e au7 ⟨rfl,aA5,arB⟩);replace Z:=qH Z arB (by omega);replace S:=qH S arB (by omega);replace T:=qN T arB (by omega);replace MR:=qN MR arB (by omega);replace KX:=qN KX arB (by omega);replace R:=hiQ aA5;replace KG:=qT KG arB;clear aA5 arB aCG hk4 aCF;(try clear hHeld);refine hK.out _ _ (⟨S.out.cell 0,(MR.out.now.c 2 rfl)⟩) (fun hHeld => ?_);clear hK K;refine pG 8 fun K hK => ?_;go_simp;(try clear hHeld);refine hK.out _ _ ?_;clear hK K;refine pG 9 fun K hK => ?_;go_simp;(try clear hHeld);refine hK.out _ _ ?_;clear hK K;refine pG 10 fun K hK => ?_;obtain ⟨g5,c5,gm5,cm5,lo5,hA5,x65,hown5,aG3,aG4,aG5,aA6⟩:=aw4 T.out.now hlt hiu;have eg:g=g5:=by injection hA5 with h1 _ _;injection h1 with h1;injection h1 with h1 _ _
       subst eg;obtain ⟨e6,e7⟩ : gm=gm5∧cm=cm5:=by
        have e6:=(KX.out.now).symm.trans x65;injection e6 with e6;injection e6 with e6 _ e7;injection e6 with e6;injection e6 with e6 _ _;exact ⟨e6,e7⟩
       subst e6;subst e7;have hxl:xm.length=us[t].ah.length:=by rw [HXM.out]
       have aEZ:=T.out.le;refine IE rfl 81 _ _ rfl gm (i*13+5) _ rfl rfl (Ue hown5 (i*13+5) 8 (by omega)) (by kernel_rfl) (by simp [Value.oneCell']) ?_;have aq0:=FM (oD m.dflt (.slice none 0 0) (.slice none 0 0) (.slice none 0 0)) _ (i*13+5) _ hown5;rw [HRW.out] at aq0
       change K _ (au7.setCells gm (i*13+5) (oD m.dflt (.slice none 0 0) (.slice none 0 0) (.slice none 0 0)))
       clear T MR KX;obtain ⟨asA,HEX⟩ : ∃ ww,ww=au7.setCells gm (i*13+5) (oD m.dflt (.slice none 0 0) (.slice none 0 0) (.slice none 0 0)):=⟨_,rfl⟩
       rw [← HEX];have hkX:∀ k,k≠gm→asA.heap[k]?=au7.heap[k]?:=fun k hk => by rw [HEX];exact DN gm _ _ _ k hk
       have hbX:Below gm au7 asA:=by rw [HEX];exact below_setCells (Nat.le_refl _) _ _ _ (Below.refl _ _)
       replace Z:=hiQ ((hkX (w.heap.size) (by omega)).trans Z.out);replace Z:Hid (Has asA (w.heap.size) 27 #[.slice none 0 0,.int .i64 0]):=Z;replace S:=hiQ ((hkX (gS) (by omega)).trans S.out);replace S:Hid (Has asA (gS) 25 #[.slice (some ⟨g,0,none⟩) us.length c]):=S;rw [← HEX] at aq0;have hT9:=aA6 asA (fun k hkl hne => hkX k hne) aq0;replace R:=qBL R hbX (by omega);replace KG:=avE KG hbX (by omega);have aE0:=hbX.size;clear HEX hkX hbX aq0 hown5 aA6 x65 hxl;have T:=hiQ ((hT9.mono (show wr.heap.size≤asA.heap.size by omega)).kept (Nat.le_refl _));clear hT9 aE0 aEZ;(try clear hHeld);refine hK.out _ _ ?_;clear hK K;refine akJ (by kernel_rfl) ?_ _;(try clear hHeld);go_wp2_with fail;go_roundw
       case rel => exact ⟨i+1,0,by omega,by go_num,Z.out,S.out,T.out.now,by have h9:=R.out;rw [HD3.out] at h9;exact h9,KG⟩
       case measure => simp [intOf];omega
     obtain rfl:i=xm.length:=by omega
     rw [List.drop_eq_nil_of_le (Nat.le_refl _),List.flatMap_nil,List.nil_append] at R;have hrw:=ayL us t hlt;rw [← HXM.out] at hrw;rw [hrw] at hT;rw [HD2.out] at R;go_wp2_with fail;go_roundw
     case rel => exact ⟨t+1,kk,by omega,by go_num,Z,S,hT,R,KG⟩
     case measure => simp [intOf];omega
   obtain rfl:t=us.length:=by omega
   rw [List.drop_eq_nil_of_le (Nat.le_refl _),List.flatMap_nil] at R;rw [← ar6] at hT;replace R:=hiQ R;replace Z:=hiQ Z;replace S:=hiQ S;have T:=hiQ (hT.kept (Nat.le_refl _));clear hT;have aH:=S.out.e0;go_upto_region 22 with fail;clear aH;refine aO (fun aA4 aoQ Y => ?_);have aGR:=Z.out.here;have aGS:=S.out.here;have aGT:=T.out.le;have aDC:=KG.size;obtain ⟨Z,S,T⟩:=b3 Z S T aoQ;replace R:=qB R aoQ;replace KG:=BX KG aoQ;clear aoQ;generalize wr.heap.size=aE1 at *;obtain ⟨gY,rfl⟩ : ∃ g,g=aE1:=⟨_,rfl⟩
   have cR0:=Af.c0 R.out;have cR1:=Af.c1 R.out;obtain ⟨kT,kU⟩:=Y.out.c2;go_upto_region 24 with fail;clear cR0 cR1;have hxe:∀ x ∈ us,aq2 x:=by
    have h:=asy HU.out us.length 0;rw [← ar6] at h;exact h
   have HXE:=hiQ hxe;clear hxe;go_wp2_with fail;have hlw:Below w.heap.size w aA4:=hW0.trans ((arA KG (by omega)).mono (by omega));clear kT kU;((with_reducible refine (HBY.out _ A c hlw (T.out.now.rd HXE.out)).mono ?_);rintro e aDD ⟨rfl,au8⟩);obtain ⟨Z,S,Y,T⟩:=b4 Z S Y T au8;replace R:=qB R au8;replace KG:=BX KG au8;clear au8 hlw;obtain ⟨kT,kU⟩:=Y.out.c2;go_upto_region 27 with fail;clear kT kU;obtain ⟨nJ,hWS⟩ : ∃ x,x=aDD:=⟨_,rfl⟩
   subst hWS;have hfw:Below w.heap.size w nJ:=hW0.trans ((arA KG (by omega)).mono (by omega));have hZ9:=Z.out;have hY9:=Y.out;have hT9:=T.out.now.mono T.out.le;clear Z Y T S R KG;have Z:=hZ9;have Y:=hY9;replace Z:=hiQ Z;replace Y:=hiQ Y;have T:=hiQ (hT9.kept (Nat.le_refl _));clear hZ9 hY9 hT9;obtain ⟨kT,kU⟩:=Y.out.c2;go_wp2_with (refine sR Z.out ?_)
   clear kT kU;generalize iZ:nJ.setRow _ _=DY;obtain ⟨Y,T⟩:=f2 Y T (eR iZ);replace Z:=dV Z iZ;replace hfw:=tr hfw iZ;clear iZ;exact bodyPost_ret (v:=.tuple #[.agg #[.slice A us.length c,.int .i64 0],.int .i64 0]) (by simp [results,Tryz.results28,go_sem,Z.out.c2]) rfl (⟨A,c,rfl,T.out.now.rd HXE.out,hfw⟩)
end Go.Proofs.YtlamhkffnlgofaaGreatDoor
