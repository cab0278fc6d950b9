/- What schema.members computes. No condition. -/
import Derived.Test.YtlamhkffnlgofaaGreatDoorHAX
import Derived.Test.YtlamhkffnlgofaaGreatDoorEqZ
set_option maxHeartbeats 4000000
set_option maxRecDepth 100000
namespace Go.Proofs.YtlamhkffnlgofaaGreatDoor
open Go.ChangeShapes Go.WideShapes Go.ChangeAt Go.RowKit
theorem Two.amD {w:World} {B n1 n2:Nat} {v1 v2:Value} {xs1 xs2:List Value} (h:Two w B v1 n1 xs1 v2 n2 xs2):∀ k,v1.ownBlock=some k→B≤k∧k < w.heap.size:=fun k hk => h.o1.lt k hk
theorem Two.amE {w:World} {B n1 n2:Nat} {v1 v2:Value} {xs1 xs2:List Value} (h:Two w B v1 n1 xs1 v2 n2 xs2):∀ k,v2.ownBlock=some k→B≤k∧k < w.heap.size:=fun k hk => h.o2.lt k hk
def bW (m:Mem):Raw:=(m.id,m.name)
def jf (un:Bool) (m:Mem):Bool := !(un && (m.akb || m.eG)) && (!(m.akb && m.eG) && (m.eG || iK m.dflt jm))
def iQ (x:ay):Bool:=x.ah.all (jf (decide (x.kind=6))) && ((decide (x.kind=5) || decide (0 < x.ah.length)) && nP (x.ah.map bW))
theorem yu (x:ay) (m:Mem) (hm:m ∈ x.ah) (h:jf (decide (x.kind=6)) m=false):iQ x=false:=by
 have:x.ah.all (jf (decide (x.kind=6)))=false:=by
  rw [List.all_eq_false];exact ⟨m,hm,by simp [h]⟩
 unfold iQ;rw [this];rfl
theorem aej (f:Mem→Bool) (l:List Mem) (k:Nat) (h:k < l.length):(l.take (k+1)).all f=((l.take k).all f && f l[k]):=by
 rw [List.take_succ_eq_append_getElem h,List.all_append];simp
theorem agZ {w:World} {B:Nat} {v:Value} {ms:List Mem} (h:rW w B v ms):∀ r ∈ ms.map bW,yR r:=by
 intro r hr;obtain ⟨m,hm,rfl⟩:=List.mem_map.1 hr;obtain ⟨i,hi,rfl⟩:=List.getElem_of_mem hm;obtain ⟨c,_,h2⟩:=h;obtain ⟨_,_,_,_,hma⟩:=h2 i hi;exact ⟨hma.ints.1,hma.GI⟩
theorem zAb {p:Prop} (h:p:=by exact ⟨M.out.cell 0,M.out.cell 1⟩):p:=h
theorem zIi {p:Prop} (h:p:=by
 go_wp2_with fail;go_roundw
 case rel => exact ⟨k+1,by omega,by go_num,by rw [HAL.out,Hm.out,Bool.and_true];exact yP.out,TW.out.now,T.out,hb⟩
 case measure => simp [intOf];omega):p:=h
theorem zBw {p:Prop} (h:p:=by
 have Uc:=hiQ hcr;have Ud:=hiQ hhd;have aC:=T.out.e0;obtain ⟨-,-,-,mQ,kK,qU,qV,qW,qX,qY,oK,oL,oM⟩:=M.out.c13;go_wp2_with fail;clear aC mQ kK qU qV qW qX qY oK oL oM;((with_reducible refine (Ld m.dflt _ _ _ _ (Oo.out.on hb)).mono ?_);rintro e kL ⟨rfl,iR⟩);obtain ⟨T,M,TW⟩:=b3 T M TW iR;replace hb:=dT hb iR;clear iR;cases hbl:iK m.dflt jm with
 | true =>
  have Hm:Hid (jf (decide (x.kind=6)) m=true):=by show _=_;unfold jf;rw [Le.out,Uc.out,Ud.out,hbl];rfl
  clear hbl;exact zIi
 | false =>
  have Hm:Hid (jf (decide (x.kind=6)) m=false):=by show _=_;unfold jf;rw [Le.out,Uc.out,Ud.out,hbl];simp
  clear hbl;have Hno:Hid (iQ x=false):=yu x m xE.out Hm.out;have aC:=T.out.e0;go_wp2_with fail;go_ret;exact ⟨au Hno.out.symm,hb⟩):p:=h
theorem zBx {p:Prop} (h:p:=by
 replace hb:=hb.trans (hbB.mono (show w.heap.size≤w.heap.size+1 by omega));have TW:=hiQ (Two.kept htw);clear htw hkk hbB;(try clear hHeld);refine hK.out _ _ zAb (fun hHeld => ?_);clear hK K;refine wpAnyH_take (i:=10) (v := ?_) rfl (by kernel_rfl) (by kernel_rfl) (by kernel_rfl) (fun _ _ _ h => h) (Or.inl ⟨by rfl,?_⟩) (by assumption) ?_
 case refine_2 => (intro w hSw;(try dsimp only at hSw);go_simp;(first | done | with_reducible rfl))
 try simp only [kM]
 refine wpAnyH_take (i:=11) (v := ?_) rfl (by kernel_rfl) (by kernel_rfl) (by kernel_rfl) (fun _ _ _ h => h) (Or.inl ⟨by rfl,?_⟩) (by assumption) ?_
 case refine_2 => (intro w hSw;(try dsimp only at hSw);go_simp;(first | done | with_reducible rfl))
 try simp only [kM]
 refine wpAnyH_done (by kernel_rfl) ?_ _;(try clear hHeld);go_wp2_with fail;go_meet
 exact ⟨by rw [HT1.out,HT2.out];exact TW.out.now,T.out,M.out,hb⟩):p:=h
theorem zEl {p:Prop} (h:p:=by
 have aC:=T.out.e0;go_wp2_with fail;clear aC;((with_reducible refine (HI.out _ (Below.refl _ _)).mono ?_);rintro e wd4 ⟨rfl,hb5⟩);replace T:=b1 T hb5;replace hb:=dT hb hb5;clear hb5;go_wp2_with fail;go_ret;exact ⟨au Hs.out.symm,hb⟩):p:=h
theorem zHf {p:Prop} (h:p:=by
 refine hK.out _ _ zAb (fun hHeld => ?_);clear hK K;refine wpAnyH_ready (rs:=[9]) (by kernel_rfl) (by simp) ?_;refine AllReadyH.cons rfl (fun K hK => ?_) (AllReadyH.nil);refine BK (by rfl) _ _ (by rfl) TW.out.now (.string ⟨m.name.toArray⟩) (by rfl) N2.out (by rfl) rfl (by omega) T.out.here ?_;intro v2' w1 htw hbB hkk;clear TW;replace T:=dG T hkk (fun hh => by have:=hZ2 _ hh;omega);replace M:=dG M hkk (fun hh => by have:=hZ2 _ hh;omega);replace N1:=dG N1 hkk (fun hh => by have:=hZ2 _ hh;omega);replace N2:=dG N2 hkk (fun hh => by have:=hZ2 _ hh;omega);exact zBx):p:=h
theorem DZ (x:ay) (vs vm:Value) (w:World) (hl:x.ah.length≤6000000000000) (ht:jc w w.heap.size x vs vm) :
  Calls Tryz.prog 119 #[dA x vs vm] w (RTq w (.bool (iQ x))):=by
 obtain ⟨C1,m1,C2,m2,rfl,rfl,-,-⟩:=ht.forms;have HT:=hiQ ht;have FI:=hiQ (agZ ht.ah);clear ht;go_enter Tryz.func119,Tryz.ntmps119
 go_upto_region 3 with fail;refine aO (fun wd2 hb1 T => ?_);have hw3:=hb1;clear hb1;have bf:=T.out.e6;have hT0:=T.out;have hB0:=hw3;have HT0:=hiQ hT0;clear hT0;go_wp2_with fail;go_loopw [3,4,10] (fun s3 s4 i wr => ∃ k:Nat,k≤x.ah.length∧i = .int .i64 k∧(x.ah.take k).all (jf (decide (x.kind=6)))=true∧Two wr (w.heap.size+1) s3 k (((x.ah.map bW).take k).map Jr) s4 k (((x.ah.map bW).take k).map EL)∧Has wr w.heap.size 71 #[.int .i64 x.kind,.string ⟨x.name.toArray⟩,.int .i64 x.low,.int .i64 x.high,.int .i64 x.max,.slice C1 x.syms.length m1,.slice C2 x.ah.length m2,.int .i64 x.key,.int .i64 x.elem,.bool x.opn]∧Below w.heap.size w wr) (fun _ _ i _ => x.ah.length - (intOf i).toNat)
 case atStart => exact ⟨0,by omega,rfl,rfl,Two.nil _ _,HT0.out,hB0⟩
 case round =>
  clear T hB0 HT0;obtain ⟨k,hk,rfl,hall,htw,T,hb⟩:=hrel;by_cases hlt:k < x.ah.length
  ·
   obtain ⟨b,o,hC2,hb1,hel⟩:=HT.out.ah.elem (by omega);obtain ⟨dk,di,dr,hcells,hma⟩:=hel k hlt;have hlk:k < (x.ah.map bW).length:=by simpa using hlt
   have HT1:Hid (((x.ah.map bW).take (k+1)).map Jr=((x.ah.map bW).take k).map Jr ++ [.int .i64 x.ah[k].id]):=by have h:=Bj Jr (x.ah.map bW) k hlk;rw [List.getElem_map] at h;exact h
   have HT2:Hid (((x.ah.map bW).take (k+1)).map EL=((x.ah.map bW).take k).map EL ++ [.string ⟨x.ah[k].name.toArray⟩]):=by have h:=Bj EL (x.ah.map bW) k hlk;rw [List.getElem_map] at h;exact h
   have HAL:=hiQ (aej (jf (decide (x.kind=6))) x.ah k hlt);have xE:=hiQ (List.getElem_mem hlt);generalize x.ah[k]=m at *;have yP:=hiQ hall;obtain ⟨D1,d1,D2,d2,D3,d3,rfl,rfl,rfl,-,-,-⟩:=hma.dflt.forms;obtain ⟨y0,y1,y2,y3,y4,y5,y6,y7,y8,y9,GN,GR,GU⟩:=hcells;have x0:=(hb.cell (p:=⟨b,_,none⟩) hb1).trans y0;have x1:=(hb.cell (p:=⟨b,_,none⟩) hb1).trans y1;have x2:=(hb.cell (p:=⟨b,_,none⟩) hb1).trans y2;have x3:=(hb.cell (p:=⟨b,_,none⟩) hb1).trans y3;have x4:=(hb.cell (p:=⟨b,_,none⟩) hb1).trans y4;have x5:=(hb.cell (p:=⟨b,_,none⟩) hb1).trans y5;have x6:=(hb.cell (p:=⟨b,_,none⟩) hb1).trans y6;have x7:=(hb.cell (p:=⟨b,_,none⟩) hb1).trans y7;have x8:=(hb.cell (p:=⟨b,_,none⟩) hb1).trans y8;have x9:=(hb.cell (p:=⟨b,_,none⟩) hb1).trans y9;have x10:=(hb.cell (p:=⟨b,_,none⟩) hb1).trans GN;have x11:=(hb.cell (p:=⟨b,_,none⟩) hb1).trans GR;have x12:=(hb.cell (p:=⟨b,_,none⟩) hb1).trans GU;clear y0 y1 y2 y3 y4 y5 y6 y7 y8 y9 GN GR GU;have hi1:(k:Int) < x.ah.length:=by omega
   have hZ1:=htw.amD;have hZ2:=htw.amE;have Oo:=hiQ hma.dflt;clear hel hall hma;replace T:=hiQ T;have TW:=hiQ (Two.kept htw);clear htw;go_upto_region 6 with fail;refine aO (fun fG hb4 M => ?_);have nI:=T.out.here;have mO:=TW.out.le;have kH:=hb.size;obtain ⟨T,TW⟩:=b2 T TW hb4;replace hb:=dT hb hb4;clear hb4;generalize wr.heap.size=g6 at *;clear x0 x1 x2 x3 x4 x5 x6 x7 x8 x9 x10 x11 x12 hC2;obtain ⟨gM,hgM⟩ : ∃ g,g=g6:=⟨_,rfl⟩
   go_cut [3,4] from 14 to 54 (fun s3 s4 wx => Two wx (w.heap.size+1) s3 (k+1) (((x.ah.map bW).take (k+1)).map Jr) s4 (k+1) (((x.ah.map bW).take (k+1)).map EL)∧Has wx w.heap.size 71 #[.int .i64 x.kind,.string ⟨x.name.toArray⟩,.int .i64 x.low,.int .i64 x.high,.int .i64 x.max,.slice C1 x.syms.length m1,.slice C2 x.ah.length m2,.int .i64 x.key,.int .i64 x.elem,.bool x.opn]∧Has wx g6 83 #[.int .i64 m.id,.string ⟨m.name.toArray⟩,.int .i64 m.ty,.bool m.akb,.bool m.eG,.int .i64 m.dflt.kind,.bool m.dflt.bool,.int .i64 m.dflt.num,.string ⟨m.dflt.str.toArray⟩,.int .i64 m.dflt.id,.slice D1 m.dflt.keys.length d1,.slice D2 m.dflt.items.length d2,.slice D3 m.dflt.rest.length d3]∧Below w.heap.size w wx)
   case first =>
    clear hgM;have iU:=M.out.e0;have iD:=M.out.e1;refine wp_region_held_drew (S:=(fun w' => w'.cell? ⟨g6,0,none⟩=some (.int .i64 m.id)∧w'.cell? ⟨g6,1,none⟩=some (.string ⟨m.name.toArray⟩))) (by kernel_rfl) ⟨iU,iD⟩ (fun hHeld => ?_);clear iU iD;have aY:Below fG.heap.size fG (fG.drew):=(Below.refl _ _).drew;obtain ⟨T,M,TW⟩:=b3 T M TW aY;replace hb:=dT hb aY;clear aY;generalize fG.drew=dw at *;refine wpAnyH_take (i:=0) (v := ?_) rfl (by kernel_rfl) (by kernel_rfl) (by kernel_rfl) (fun _ _ _ h => h) (Or.inl ⟨by rfl,?_⟩) (by assumption) ?_
    case refine_2 => (intro w hSw;(try dsimp only at hSw);go_simp;(first | done | with_reducible rfl))
    try simp only [kM]
    refine wpAnyH_take (i:=1) (v := ?_) rfl (by kernel_rfl) (by kernel_rfl) (by kernel_rfl) (fun _ _ _ h => h) (Or.inl ⟨by rfl,?_⟩) (by assumption) ?_
    case refine_2 => (intro w hSw;(try dsimp only at hSw);go_simp;(first | done | with_reducible rfl))
    try simp only [kM]
    refine wpAnyH_take (i:=2) (v := ?_) rfl (by kernel_rfl) (by kernel_rfl) (by kernel_rfl) (fun _ _ _ h => h) (Or.inl ⟨by rfl,?_⟩) (by assumption) ?_
    case refine_2 => (intro w hSw;(try dsimp only at hSw);go_simp;(first | done | with_reducible rfl))
    try simp only [kM]
    refine wpAnyH_take (i:=5) (v := ?_) rfl (by kernel_rfl) (by kernel_rfl) (by kernel_rfl) (fun _ _ _ h => h) (Or.inl ⟨by rfl,?_⟩) (by assumption) ?_
    case refine_2 => (intro w hSw;(try dsimp only at hSw);go_simp;(first | done | with_reducible rfl))
    try simp only [kM]
    refine wpAnyH_take (i:=6) (v := ?_) rfl (by kernel_rfl) (by kernel_rfl) (by kernel_rfl) (fun _ _ _ h => h) (Or.inl ⟨by rfl,?_⟩) (by assumption) ?_
    case refine_2 => (intro w hSw;(try dsimp only at hSw);go_simp;(first | done | with_reducible rfl))
    try simp only [kM]
    refine wpAnyH_take (i:=7) (v := ?_) rfl (by kernel_rfl) (by kernel_rfl) (by kernel_rfl) (fun _ _ _ h => h) (Or.inl ⟨by rfl,?_⟩) (by assumption) ?_
    case refine_2 => (intro w hSw;(try dsimp only at hSw);go_simp;(first | done | with_reducible rfl))
    try simp only [kM]
    refine wpAnyH_ready (rs:=[3,8]) (by kernel_rfl) (by simp) ?_;refine AllReadyH.cons rfl (fun K hK => ?_) (AllReadyH.cons rfl (fun K hK => ?_) (AllReadyH.nil))
    ·
     skip
     go_simp;refine aO (fun dQ fV N1 => ?_);have qA:=T.out.here;have alj:=M.out.here;have sO:=TW.out.le;have sW:=hb.size;obtain ⟨T,M,TW⟩:=b3 T M TW fV;replace hb:=dT hb fV;clear fV;generalize dw.heap.size=g14 at *;(try clear hHeld);refine hK.out _ _ zAb (fun hHeld => ?_);clear hK K;refine wpAnyH_ready (rs:=[4,8]) (by kernel_rfl) (by simp) ?_;refine AllReadyH.cons rfl (fun K hK => ?_) (AllReadyH.cons rfl (fun K hK => ?_) (AllReadyH.nil))
     ·
      skip
      refine BJ (by rfl) _ _ (by rfl) TW.out.now (.int .i64 m.id) (by rfl) N1.out (by rfl) rfl (by omega) T.out.here ?_;intro v1' w1 htw hbB hkk;clear TW;replace T:=dG T hkk (fun hh => by have:=hZ1 _ hh;omega);replace M:=dG M hkk (fun hh => by have:=hZ1 _ hh;omega);replace N1:=dG N1 hkk (fun hh => by have:=hZ1 _ hh;omega);replace hb:=hb.trans (hbB.mono (show w.heap.size≤w.heap.size+1 by omega));have TW:=hiQ (Two.kept htw);clear htw hkk hbB;(try clear hHeld);refine hK.out _ _ zAb (fun hHeld => ?_);clear hK K;refine wpAnyH_ready (rs:=[8]) (by kernel_rfl) (by simp) ?_;refine AllReadyH.cons rfl (fun K hK => ?_) (AllReadyH.nil);go_simp;refine aO (fun yO aln N2 => ?_);have Dw:=T.out.here;have Es:=M.out.here;have sJ:=N1.out.here;have uP:=TW.out.le;have sN:=hb.size;obtain ⟨T,M,N1,TW⟩:=b4 T M N1 TW aln;replace hb:=dT hb aln;clear aln;generalize w1.heap.size=g21 at *;(try clear hHeld);exact zHf
     skip
     go_simp;refine aO (fun yO aln N2 => ?_);have Dw:=T.out.here;have Es:=M.out.here;have sJ:=N1.out.here;have uP:=TW.out.le;have sN:=hb.size;obtain ⟨T,M,N1,TW⟩:=b4 T M N1 TW aln;replace hb:=dT hb aln;clear aln;generalize dQ.heap.size=g21 at *;(try clear hHeld);refine hK.out _ _ zAb (fun hHeld => ?_);clear hK K;refine wpAnyH_ready (rs:=[4]) (by kernel_rfl) (by simp) ?_;refine AllReadyH.cons rfl (fun K hK => ?_) (AllReadyH.nil);refine BJ (by rfl) _ _ (by rfl) TW.out.now (.int .i64 m.id) (by rfl) N1.out (by rfl) rfl (by omega) T.out.here ?_;intro v1' w1 htw hbB hkk;clear TW;replace T:=dG T hkk (fun hh => by have:=hZ1 _ hh;omega);replace M:=dG M hkk (fun hh => by have:=hZ1 _ hh;omega);replace N1:=dG N1 hkk (fun hh => by have:=hZ1 _ hh;omega);replace N2:=dG N2 hkk (fun hh => by have:=hZ1 _ hh;omega);replace hb:=hb.trans (hbB.mono (show w.heap.size≤w.heap.size+1 by omega));have TW:=hiQ (Two.kept htw);clear htw hkk hbB;(try clear hHeld);exact zHf
    skip
    go_simp;refine aO (fun dQ fV N2 => ?_);have qA:=T.out.here;have alj:=M.out.here;have sO:=TW.out.le;have sW:=hb.size;obtain ⟨T,M,TW⟩:=b3 T M TW fV;replace hb:=dT hb fV;clear fV;generalize dw.heap.size=g14 at *;(try clear hHeld);refine hK.out _ _ zAb (fun hHeld => ?_);clear hK K;refine wpAnyH_ready (rs:=[3]) (by kernel_rfl) (by simp) ?_;refine AllReadyH.cons rfl (fun K hK => ?_) (AllReadyH.nil);go_simp;refine aO (fun yO aln N1 => ?_);have Dw:=T.out.here;have Es:=M.out.here;have sJ:=N2.out.here;have uP:=TW.out.le;have sN:=hb.size;obtain ⟨T,M,N2,TW⟩:=b4 T M N2 TW aln;replace hb:=dT hb aln;clear aln;generalize dQ.heap.size=g21 at *;(try clear hHeld);refine hK.out _ _ zAb (fun hHeld => ?_);clear hK K;refine wpAnyH_ready (rs:=[4]) (by kernel_rfl) (by simp) ?_;refine AllReadyH.cons rfl (fun K hK => ?_) (AllReadyH.nil);refine BJ (by rfl) _ _ (by rfl) TW.out.now (.int .i64 m.id) (by rfl) N1.out (by rfl) rfl (by omega) T.out.here ?_;intro v1' w1 htw hbB hkk;clear TW;replace T:=dG T hkk (fun hh => by have:=hZ1 _ hh;omega);replace M:=dG M hkk (fun hh => by have:=hZ1 _ hh;omega);replace N2:=dG N2 hkk (fun hh => by have:=hZ1 _ hh;omega);replace N1:=dG N1 hkk (fun hh => by have:=hZ1 _ hh;omega);replace hb:=hb.trans (hbB.mono (show w.heap.size≤w.heap.size+1 by omega));have TW:=hiQ (Two.kept htw);clear htw hkk hbB;(try clear hHeld);refine hK.out _ _ zAb (fun hHeld => ?_);clear hK K;refine wpAnyH_ready (rs:=[9]) (by kernel_rfl) (by simp) ?_;refine AllReadyH.cons rfl (fun K hK => ?_) (AllReadyH.nil)
    refine BK (by rfl) _ _ (by rfl) TW.out.now (.string ⟨m.name.toArray⟩) (by rfl) N2.out (by rfl) rfl (by omega) T.out.here ?_;intro v2' w1 htw hbB hkk;clear TW;replace T:=dG T hkk (fun hh => by have:=hZ2 _ hh;omega);replace M:=dG M hkk (fun hh => by have:=hZ2 _ hh;omega);replace N2:=dG N2 hkk (fun hh => by have:=hZ2 _ hh;omega);replace N1:=dG N1 hkk (fun hh => by have:=hZ2 _ hh;omega);exact zBx
   case rest =>
    clear T M TW hb;subst hgM;obtain ⟨htw,T,M,hb⟩:=hcut;replace T:=hiQ T;replace M:=hiQ M;have TW:=hiQ (Two.kept htw);clear htw hZ1 hZ2;have hcr:m.akb=true∨m.akb=false:=by cases m.akb <;> simp
    have hhd:m.eG=true∨m.eG=false:=by cases m.eG <;> simp
    by_cases hun:x.kind=6
    ·
     have tun:(x.kind == 6)=true:=by simp [hun]
     have Le:Hid (decide (x.kind=6)=true):=decide_eq_true hun;clear hun;rcases hhd with hhd | hhd
     ·
      have Hm:Hid (jf (decide (x.kind=6)) m=false):=by show _=_;unfold jf;rw [Le.out,hhd];simp
      rcases hcr with hcr | hcr
      ·
       have aC:=T.out.e0;have mQ:=M.out.e3;have kK:=M.out.e4;have Hno:Hid (iQ x=false):=yu x m xE.out Hm.out;exact zCc
      have aC:=T.out.e0;have mQ:=M.out.e3;have kK:=M.out.e4;have Hno:Hid (iQ x=false):=yu x m xE.out Hm.out;exact zCc
     rcases hcr with hcr | hcr
     ·
      have Hm:Hid (jf (decide (x.kind=6)) m=false):=by show _=_;unfold jf;rw [Le.out,hcr];simp
      have aC:=T.out.e0;have mQ:=M.out.e3;have kK:=M.out.e4;have Hno:Hid (iQ x=false):=yu x m xE.out Hm.out;exact zCc
     exact zBw
    have tun:(x.kind == 6)=false:=by simpa using hun
    have Le:Hid (decide (x.kind=6)=false):=decide_eq_false hun;clear hun;rcases hhd with hhd | hhd
    ·
     rcases hcr with hcr | hcr
     ·
      have Hm:Hid (jf (decide (x.kind=6)) m=false):=by show _=_;unfold jf;rw [Le.out,hhd,hcr];rfl
      have aC:=T.out.e0;have mQ:=M.out.e3;have kK:=M.out.e4;have Hno:Hid (iQ x=false):=yu x m xE.out Hm.out;exact zCc
     have Hm:Hid (jf (decide (x.kind=6)) m=true):=by show _=_;unfold jf;rw [Le.out,hhd,hcr];rfl
     have aC:=T.out.e0;have mQ:=M.out.e3;have kK:=M.out.e4;exact zIi
    rcases hcr with hcr | hcr
    · exact zBw
    exact zBw
  obtain rfl:k=x.ah.length:=by omega
  rw [List.take_of_length_le (Nat.le_refl _)] at hall;rw [List.take_of_length_le (by simp)] at htw;have hlm:(x.ah.map bW).length=x.ah.length:=by simp
  obtain ⟨S3,c3,rfl⟩:=jF htw.o1;obtain ⟨S4,c4,rfl⟩:=jF htw.o2;have hr1:=Rd.uX htw.o1;have hr2:=Rd.uX htw.o2;have Ib:∀ W,Below wr.heap.size wr W→Calls Tryz.prog 146 #[.slice S3 x.ah.length c3,.slice S4 x.ah.length c4] W fun e w' => e = .returned (.bool (nP (x.ah.map bW)))∧Below W.heap.size W w':=fun W hW =>
   VY (x.ah.map bW) _ _ W (by omega) FI.out (by rw [hlm];exact (hr1.below hW).mono hW.size) (by rw [hlm];exact (hr2.below hW).mono hW.size)
  have HI:=hiQ Ib;have hmb:iQ x=((decide (x.kind=5) || decide (0 < x.ah.length)) && nP (x.ah.map bW)):=by unfold iQ;rw [hall];rfl
  clear htw hr1 hr2 Ib hall hlm;replace T:=hiQ T;by_cases h5:x.kind=5
  ·
   have t5:(x.kind == 5)=true:=by simp [h5]
   have Hs:Hid (iQ x=nP (x.ah.map bW)):=by show _=_;rw [hmb,decide_eq_true h5];rfl
   clear hmb h5;exact zEl
  have t5:(x.kind == 5)=false:=by simpa using h5
  by_cases h0:x.ah.length=0
  ·
   have Hs:Hid (iQ x=false):=by show _=_;rw [hmb,decide_eq_false h5,h0];rfl
   have hd:decide (0 < x.ah.length)=false:=decide_eq_false (by omega);have Hn:=hiQ h0;clear hmb h5 h0;have aC:=T.out.e0;go_wp2_with fail;go_ret;exact ⟨au Hs.out.symm,hb⟩
  have Hs:Hid (iQ x=nP (x.ah.map bW)):=by show _=_;rw [hmb,decide_eq_true (show 0 < x.ah.length by omega),Bool.or_true];rfl
  have hd:decide (0 < x.ah.length)=true:=decide_eq_true (by omega);have hd2:(0:Int) < x.ah.length:=by omega
  clear hmb h5 h0;exact zEl
end Go.Proofs.YtlamhkffnlgofaaGreatDoor
