/- What sheaveref07.own computes. No condition. -/
import Derived.Test.YthkfapcadhnaeaaGreatDoorHAP
import Derived.Test.YthkfapcadhnaeaaGreatDoorHAI
set_option maxHeartbeats 8000000
namespace Go.Proofs.YthkfapcadhnaeaaGreatDoor
open Go.ChangeShapes Go.WideShapes Go.ChangeAt Go.RowKit
theorem OV (x:aC) (b:Bool) (h:ownB x=b):dH x=b:=by rw [← WY];exact h
set_option maxRecDepth 100000 in
theorem aee (x:aC) (A1 A2:Option Addr) (c1 c2:Nat) (w:World) (JH:fJ x.kind) (ht:eX w w.heap.size x (.slice A1 x.syms.length c1) (.slice A2 x.aj.length c2)) :
  Calls Tryz.prog 84 #[aS x (.slice A1 x.syms.length c1) (.slice A2 x.aj.length c2)] w fun e w' => e = .returned (.bool (dH x))∧Below w.heap.size w w':=by
 have HP:=Lib.hid fun W => ab2 x (.slice A1 x.syms.length c1) (.slice A2 x.aj.length c2) W JH ⟨_,_,rfl⟩ ⟨_,_,rfl⟩
 have hs:=fun W hW => ab4 x (gU x) _ _ _ _ W (ht.on (w':=W) hW) (W9 (ht.on (w':=W) hW) JH)
 have hn:=fun W => Ig x.kind W
 have HNM:=Lib.hid fun W => AL x.name W
 have hob:ownB x=(jO x (gU x) && ((!lQ x.kind || nameB x.name) && pK x)):=by unfold ownB;rw [decide_eq_true (by unfold fJ at JH;exact JH)];rfl
 have d1:decide (x.kind < 1)=false:=decide_eq_false (by unfold fJ at JH;omega)
 have d9:decide (9 < x.kind)=false:=decide_eq_false (by unfold fJ at JH;omega)
 have HT:=Lib.hid ht
 have HKI:=Lib.hid (sN JH)
 clear ht JH
 obtain ⟨nk,hnk⟩ : ∃ nk,lQ x.kind=nk:=⟨_,rfl⟩
 simp only [hnk] at hn hob
 generalize jO x (gU x)=st at *
 have HS:=Lib.hid hs
 have HN:=Lib.hid hn
 have OX:=Lib.hid hnk
 clear hs hn hnk
 cases st with
 | false =>
  have Ho:Hid (dH x=false):=by show _=_;exact OV x _ (by rw [hob];rfl)
  clear hob
  go_enter Tryz.func84,Tryz.ntmps84
  go_upto_region 1 with fail
  generalize dJ:w.alloc _=wd2
  have ⟨hb1,T⟩:=bH dJ
  clear dJ
  have hw4:=hb1
  clear hb1
  obtain ⟨aA,dA,dn,dw,bV,dh,bP,cZ,bU,aJ⟩:=T.out.c10
  refine wp_region_held_drew (S:=(fun w' => w'.cell? ⟨w.heap.size,0,none⟩=some (.int .i64 x.kind)∧w'.cell? ⟨w.heap.size,1,none⟩=some (.string ⟨x.name.toArray⟩)∧w'.cell? ⟨w.heap.size,2,none⟩=some (.int .i64 x.low)∧w'.cell? ⟨w.heap.size,3,none⟩=some (.int .i64 x.high)∧w'.cell? ⟨w.heap.size,4,none⟩=some (.int .i64 x.max)∧w'.cell? ⟨w.heap.size,5,none⟩=some (.slice A1 x.syms.length c1)∧w'.cell? ⟨w.heap.size,6,none⟩=some (.slice A2 x.aj.length c2)∧w'.cell? ⟨w.heap.size,7,none⟩=some (.int .i64 x.key)∧w'.cell? ⟨w.heap.size,8,none⟩=some (.int .i64 x.elem)∧w'.cell? ⟨w.heap.size,9,none⟩=some (.bool x.opn))) (by kernel_rfl) ⟨aA,dA,dn,dw,bV,dh,bP,cZ,bU,aJ⟩ (fun hHeld => ?_)
  clear aA dA dn dw bV dh bP cZ bU aJ
  have hb5:Below wd2.heap.size wd2 (wd2.drew):=(Below.refl _ _).drew
  replace T:=b1 T hb5
  replace hw4:=dT hw4 hb5
  clear hb5
  generalize wd2.drew=wV at *
  refine tk (i:=0) (v := ?k7) ?_
  simp only [ah]
  refine tk (i:=1) (v := ?k8) ?_
  simp only [ah]
  refine tk (i:=2) (v := ?k9) ?_
  simp only [ah]
  refine tk (i:=3) (v := ?k10) ?_
  simp only [ah]
  refine tk (i:=4) (v := ?k11) ?_
  simp only [ah]
  refine tk (i:=5) (v := ?k12) ?_
  simp only [ah]
  refine tk (i:=6) (v := ?k13) ?_
  simp only [ah]
  refine tk (i:=7) (v := ?k14) ?_
  simp only [ah]
  refine tk (i:=8) (v := ?k15) ?_
  simp only [ah]
  refine tk (i:=9) (v := ?k16) ?_
  simp only [ah]
  refine tk (i:=10) (v := ?k17) ?_
  simp only [ah]
  refine fH (i:=11) (fun K hK => ?_)
  go_simp
  ((with_reducible refine (HP.out _).mono ?_);rintro e qY ⟨rfl,pz⟩)
  replace T:=b1 T pz
  replace hw4:=dT hw4 pz
  clear pz
  try clear hHeld
  refine hK.out _ _ (⟨T.out.cell 0,⟨T.out.cell 1,⟨T.out.cell 2,⟨T.out.cell 3,⟨T.out.cell 4,⟨T.out.cell 5,⟨T.out.cell 6,⟨T.out.cell 7,⟨T.out.cell 8,T.out.cell 9⟩⟩⟩⟩⟩⟩⟩⟩⟩) (fun hHeld => ?_)
  clear hK K
  refine fH (i:=12) (fun K hK => ?_)
  go_simp
  ((with_reducible refine (HS.out _ hw4).mono ?_);rintro e nS ⟨rfl,mQ⟩)
  replace T:=b1 T mQ
  replace hw4:=dT hw4 mQ
  clear mQ
  try clear hHeld
  refine hK.out _ _ (⟨T.out.cell 0,⟨T.out.cell 1,⟨T.out.cell 2,⟨T.out.cell 3,⟨T.out.cell 4,⟨T.out.cell 5,⟨T.out.cell 6,⟨T.out.cell 7,⟨T.out.cell 8,T.out.cell 9⟩⟩⟩⟩⟩⟩⟩⟩⟩) (fun hHeld => ?_)
  clear hK K
  refine tk (i:=13) (v := ?k22) ?_
  simp only [ah]
  refine tk (i:=14) (v := ?k23) ?_
  simp only [ah]
  refine tk (i:=15) (v := ?k24) ?_
  simp only [ah]
  refine tks (i:=16) ?_
  simp only [ah]
  refine tks (i:=17) ?_
  simp only [ah]
  refine tks (i:=18) ?_
  simp only [ah]
  refine tks (i:=19) ?_
  simp only [ah]
  refine tks (i:=20) ?_
  simp only [ah]
  refine tks (i:=21) ?_
  simp only [ah]
  refine tks (i:=22) ?_
  simp only [ah]
  refine tks (i:=23) ?_
  simp only [ah]
  refine tks (i:=24) ?_
  simp only [ah]
  refine tk (i:=25) (v := ?k25) ?_
  simp only [ah]
  refine wpAnyH_done (by kernel_rfl) ?_ _
  try clear hHeld
  go_wp2_with fail
  go_ret
  exact ⟨au Ho.out.symm,hw4⟩
 | true =>
  rw [Bool.true_and] at hob
  cases nk with
  | false =>
   have BO:Hid (dH x=pK x):=by show _=_;exact OV x _ (by rw [hob];rfl)
   clear hob
   go_enter Tryz.func84,Tryz.ntmps84
   go_upto_region 1 with fail
   generalize tY:w.alloc _=uX
   have ⟨Fp,T⟩:=bH tY
   clear tY
   have sU:=Fp
   clear Fp
   obtain ⟨aA,dA,dn,dw,bV,dh,bP,cZ,bU,aJ⟩:=T.out.c10
   refine wp_region_held_drew (S:=(fun w' => w'.cell? ⟨w.heap.size,0,none⟩=some (.int .i64 x.kind)∧w'.cell? ⟨w.heap.size,1,none⟩=some (.string ⟨x.name.toArray⟩)∧w'.cell? ⟨w.heap.size,2,none⟩=some (.int .i64 x.low)∧w'.cell? ⟨w.heap.size,3,none⟩=some (.int .i64 x.high)∧w'.cell? ⟨w.heap.size,4,none⟩=some (.int .i64 x.max)∧w'.cell? ⟨w.heap.size,5,none⟩=some (.slice A1 x.syms.length c1)∧w'.cell? ⟨w.heap.size,6,none⟩=some (.slice A2 x.aj.length c2)∧w'.cell? ⟨w.heap.size,7,none⟩=some (.int .i64 x.key)∧w'.cell? ⟨w.heap.size,8,none⟩=some (.int .i64 x.elem)∧w'.cell? ⟨w.heap.size,9,none⟩=some (.bool x.opn))) (by kernel_rfl) ⟨aA,dA,dn,dw,bV,dh,bP,cZ,bU,aJ⟩ (fun hHeld => ?_)
   clear aA dA dn dw bV dh bP cZ bU aJ
   have wQ:Below uX.heap.size uX (uX.drew):=(Below.refl _ _).drew
   replace T:=b1 T wQ
   replace sU:=dT sU wQ
   clear wQ
   generalize uX.drew=wP at *
   refine tk (i:=0) (v := ?k32) ?_
   simp only [ah]
   refine tk (i:=1) (v := ?k33) ?_
   simp only [ah]
   refine tk (i:=2) (v := ?k34) ?_
   simp only [ah]
   refine tk (i:=3) (v := ?k35) ?_
   simp only [ah]
   refine tk (i:=4) (v := ?k36) ?_
   simp only [ah]
   refine tk (i:=5) (v := ?k37) ?_
   simp only [ah]
   refine tk (i:=6) (v := ?k38) ?_
   simp only [ah]
   refine tk (i:=7) (v := ?k39) ?_
   simp only [ah]
   refine tk (i:=8) (v := ?k40) ?_
   simp only [ah]
   refine tk (i:=9) (v := ?Xk) ?_
   simp only [ah]
   refine tk (i:=10) (v := ?Xl) ?_
   simp only [ah]
   refine fH (i:=11) (fun K hK => ?_)
   go_simp
   ((with_reducible refine (HP.out _).mono ?_);rintro e uP ⟨rfl,NI⟩)
   replace T:=b1 T NI
   replace sU:=dT sU NI
   clear NI
   try clear hHeld
   refine hK.out _ _ (⟨T.out.cell 0,⟨T.out.cell 1,⟨T.out.cell 2,⟨T.out.cell 3,⟨T.out.cell 4,⟨T.out.cell 5,⟨T.out.cell 6,⟨T.out.cell 7,⟨T.out.cell 8,T.out.cell 9⟩⟩⟩⟩⟩⟩⟩⟩⟩) (fun hHeld => ?_)
   clear hK K
   refine fH (i:=12) (fun K hK => ?_)
   go_simp
   ((with_reducible refine (HS.out _ sU).mono ?_);rintro e zT ⟨rfl,qC⟩)
   replace T:=b1 T qC
   replace sU:=dT sU qC
   clear qC
   try clear hHeld
   refine hK.out _ _ (⟨T.out.cell 0,⟨T.out.cell 1,⟨T.out.cell 2,⟨T.out.cell 3,⟨T.out.cell 4,⟨T.out.cell 5,⟨T.out.cell 6,⟨T.out.cell 7,⟨T.out.cell 8,T.out.cell 9⟩⟩⟩⟩⟩⟩⟩⟩⟩) (fun hHeld => ?_)
   clear hK K
   refine tk (i:=13) (v := ?k47) ?_
   simp only [ah]
   refine tk (i:=14) (v := ?k48) ?_
   simp only [ah]
   refine tk (i:=15) (v := ?k49) ?_
   simp only [ah]
   refine tk (i:=16) (v := ?k50) ?_
   simp only [ah]
   refine tk (i:=17) (v := ?k51) ?_
   simp only [ah]
   refine fH (i:=18) (fun K hK => ?_)
   go_simp
   ((with_reducible refine (HN.out _).mono ?_);rintro e xO ⟨rfl,rfl⟩)
   try clear hHeld
   refine hK.out _ _ (⟨T.out.cell 0,⟨T.out.cell 1,⟨T.out.cell 2,⟨T.out.cell 3,⟨T.out.cell 4,⟨T.out.cell 5,⟨T.out.cell 6,⟨T.out.cell 7,⟨T.out.cell 8,T.out.cell 9⟩⟩⟩⟩⟩⟩⟩⟩⟩) (fun hHeld => ?_)
   clear hK K
   refine tk (i:=19) (v := ?k54) ?_
   simp only [ah]
   refine tks (i:=20) ?_
   simp only [ah]
   refine tks (i:=21) ?_
   simp only [ah]
   refine tks (i:=22) ?_
   simp only [ah]
   refine tks (i:=23) ?_
   simp only [ah]
   refine tk (i:=24) (v := ?k55) ?_
   simp only [ah]
   refine tk (i:=25) (v := ?k56) ?_
   simp only [ah]
   refine wpAnyH_done (by kernel_rfl) ?_ _
   try clear hHeld
   have hkc:=HKI.out
   rcases hkc with h | h | h | h | h | h | h | h | h
   ·
    have oP:Hid (pK x=true):=by show _=_;unfold pK;simp [h]
    have aA:=T.out.e0
    go_wp2_with fail
    go_ret
    exact ⟨au (BO.out.trans oP.out).symm,sU⟩
   ·
    have oP:Hid (pK x=decide (x.low≤x.high)):=by show _=_;unfold pK;simp [h]
    obtain ⟨aA,-,dn,dw,-,-,-,-,-,-⟩:=T.out.c10
    go_wp2_with fail
    go_ret
    exact ⟨au (BO.out.trans oP.out).symm,sU⟩
   ·
    skip
    have oP:Hid (pK x=(decide (0≤x.max) && decide (x.max≤200))):=by show _=_;unfold pK;simp [h]
    by_cases h0:0≤x.max
    ·
     have d0:decide (0≤x.max)=true:=decide_eq_true h0
     by_cases h1:x.max≤200
     ·
      have d1:decide (x.max≤200)=true:=decide_eq_true h1
      rw [d0,d1] at oP
      have aA:=T.out.e0
      have bV:=T.out.e4
      go_wp2_with fail
      go_ret
      exact ⟨au (BO.out.trans oP.out).symm,sU⟩
     have d1:decide (x.max≤200)=false:=decide_eq_false h1
     rw [d0,d1] at oP
     have aA:=T.out.e0
     have bV:=T.out.e4
     go_wp2_with fail
     go_ret
     exact ⟨au (BO.out.trans oP.out).symm,sU⟩
    have d0:decide (0≤x.max)=false:=decide_eq_false h0
    rw [d0] at oP
    have aA:=T.out.e0
    have bV:=T.out.e4
    go_wp2_with fail
    go_ret
    exact ⟨au (BO.out.trans oP.out).symm,sU⟩
   · have:=OX.out;simp [lQ,h] at this
   · have:=OX.out;simp [lQ,h] at this
   · have:=OX.out;simp [lQ,h] at this
   ·
    skip
    have oP:Hid (pK x=(decide (0≤x.max) && decide (x.max≤50))):=by show _=_;unfold pK;simp [h]
    by_cases h0:0≤x.max
    ·
     have d0:decide (0≤x.max)=true:=decide_eq_true h0
     by_cases h1:x.max≤50
     ·
      have d1:decide (x.max≤50)=true:=decide_eq_true h1
      rw [d0,d1] at oP
      have aA:=T.out.e0
      have bV:=T.out.e4
      go_wp2_with fail
      go_ret
      exact ⟨au (BO.out.trans oP.out).symm,sU⟩
     have d1:decide (x.max≤50)=false:=decide_eq_false h1
     rw [d0,d1] at oP
     have aA:=T.out.e0
     have bV:=T.out.e4
     go_wp2_with fail
     go_ret
     exact ⟨au (BO.out.trans oP.out).symm,sU⟩
    have d0:decide (0≤x.max)=false:=decide_eq_false h0
    rw [d0] at oP
    have aA:=T.out.e0
    have bV:=T.out.e4
    go_wp2_with fail
    go_ret
    exact ⟨au (BO.out.trans oP.out).symm,sU⟩
   ·
    skip
    have oP:Hid (pK x=(decide (0≤x.max) && decide (x.max≤50))):=by show _=_;unfold pK;simp [h]
    by_cases h0:0≤x.max
    ·
     have d0:decide (0≤x.max)=true:=decide_eq_true h0
     by_cases h1:x.max≤50
     ·
      have d1:decide (x.max≤50)=true:=decide_eq_true h1
      rw [d0,d1] at oP
      have aA:=T.out.e0
      have bV:=T.out.e4
      go_wp2_with fail
      go_ret
      exact ⟨au (BO.out.trans oP.out).symm,sU⟩
     have d1:decide (x.max≤50)=false:=decide_eq_false h1
     rw [d0,d1] at oP
     have aA:=T.out.e0
     have bV:=T.out.e4
     go_wp2_with fail
     go_ret
     exact ⟨au (BO.out.trans oP.out).symm,sU⟩
    have d0:decide (0≤x.max)=false:=decide_eq_false h0
    rw [d0] at oP
    have aA:=T.out.e0
    have bV:=T.out.e4
    go_wp2_with fail
    go_ret
    exact ⟨au (BO.out.trans oP.out).symm,sU⟩
   have oP:Hid (pK x=true):=by show _=_;unfold pK;simp [h]
   have aA:=T.out.e0
   go_wp2_with fail
   go_ret
   exact ⟨au (BO.out.trans oP.out).symm,sU⟩
  | true =>
   obtain ⟨nb,hnb⟩ : ∃ nb,nameB x.name=nb:=⟨_,rfl⟩
   rw [hnb] at hob HNM
   clear hnb
   cases nb with
   | false =>
    have Ho:Hid (dH x=false):=by show _=_;exact OV x _ (by rw [hob];rfl)
    clear hob
    go_enter Tryz.func84,Tryz.ntmps84
    go_upto_region 1 with fail
    generalize kH:w.alloc _=oL
    have ⟨qI,T⟩:=bH kH
    clear kH
    have jc:=qI
    clear qI
    obtain ⟨aA,dA,dn,dw,bV,dh,bP,cZ,bU,aJ⟩:=T.out.c10
    refine wp_region_held_drew (S:=(fun w' => w'.cell? ⟨w.heap.size,0,none⟩=some (.int .i64 x.kind)∧w'.cell? ⟨w.heap.size,1,none⟩=some (.string ⟨x.name.toArray⟩)∧w'.cell? ⟨w.heap.size,2,none⟩=some (.int .i64 x.low)∧w'.cell? ⟨w.heap.size,3,none⟩=some (.int .i64 x.high)∧w'.cell? ⟨w.heap.size,4,none⟩=some (.int .i64 x.max)∧w'.cell? ⟨w.heap.size,5,none⟩=some (.slice A1 x.syms.length c1)∧w'.cell? ⟨w.heap.size,6,none⟩=some (.slice A2 x.aj.length c2)∧w'.cell? ⟨w.heap.size,7,none⟩=some (.int .i64 x.key)∧w'.cell? ⟨w.heap.size,8,none⟩=some (.int .i64 x.elem)∧w'.cell? ⟨w.heap.size,9,none⟩=some (.bool x.opn))) (by kernel_rfl) ⟨aA,dA,dn,dw,bV,dh,bP,cZ,bU,aJ⟩ (fun hHeld => ?_)
    clear aA dA dn dw bV dh bP cZ bU aJ
    have pF:Below oL.heap.size oL (oL.drew):=(Below.refl _ _).drew
    replace T:=b1 T pF
    replace jc:=dT jc pF
    clear pF
    generalize oL.drew=wG at *
    refine tk (i:=0) (v := ?k63) ?_
    simp only [ah]
    refine tk (i:=1) (v := ?k64) ?_
    simp only [ah]
    refine tk (i:=2) (v := ?k65) ?_
    simp only [ah]
    refine tk (i:=3) (v := ?k66) ?_
    simp only [ah]
    refine tk (i:=4) (v := ?k67) ?_
    simp only [ah]
    refine tk (i:=5) (v := ?k68) ?_
    simp only [ah]
    refine tk (i:=6) (v := ?k69) ?_
    simp only [ah]
    refine tk (i:=7) (v := ?k70) ?_
    simp only [ah]
    refine tk (i:=8) (v := ?k71) ?_
    simp only [ah]
    refine tk (i:=9) (v := ?k72) ?_
    simp only [ah]
    refine tk (i:=10) (v := ?k73) ?_
    simp only [ah]
    refine fH (i:=11) (fun K hK => ?_)
    go_simp
    ((with_reducible refine (HP.out _).mono ?_);rintro e WI ⟨rfl,aef⟩)
    replace T:=b1 T aef
    replace jc:=dT jc aef
    clear aef
    try clear hHeld
    refine hK.out _ _ (⟨T.out.cell 0,⟨T.out.cell 1,⟨T.out.cell 2,⟨T.out.cell 3,⟨T.out.cell 4,⟨T.out.cell 5,⟨T.out.cell 6,⟨T.out.cell 7,⟨T.out.cell 8,T.out.cell 9⟩⟩⟩⟩⟩⟩⟩⟩⟩) (fun hHeld => ?_)
    clear hK K
    refine fH (i:=12) (fun K hK => ?_)
    go_simp
    ((with_reducible refine (HS.out _ jc).mono ?_);rintro e P8 ⟨rfl,aeg⟩)
    replace T:=b1 T aeg
    replace jc:=dT jc aeg
    clear aeg
    try clear hHeld
    refine hK.out _ _ (⟨T.out.cell 0,⟨T.out.cell 1,⟨T.out.cell 2,⟨T.out.cell 3,⟨T.out.cell 4,⟨T.out.cell 5,⟨T.out.cell 6,⟨T.out.cell 7,⟨T.out.cell 8,T.out.cell 9⟩⟩⟩⟩⟩⟩⟩⟩⟩) (fun hHeld => ?_)
    clear hK K
    refine tk (i:=13) (v := ?k78) ?_
    simp only [ah]
    refine tk (i:=14) (v := ?k79) ?_
    simp only [ah]
    refine tk (i:=15) (v := ?k80) ?_
    simp only [ah]
    refine tk (i:=16) (v := ?k81) ?_
    simp only [ah]
    refine tk (i:=17) (v := ?k82) ?_
    simp only [ah]
    refine fH (i:=18) (fun K hK => ?_)
    go_simp
    ((with_reducible refine (HN.out _).mono ?_);rintro e MW ⟨rfl,rfl⟩)
    try clear hHeld
    refine hK.out _ _ (⟨T.out.cell 0,⟨T.out.cell 1,⟨T.out.cell 2,⟨T.out.cell 3,⟨T.out.cell 4,⟨T.out.cell 5,⟨T.out.cell 6,⟨T.out.cell 7,⟨T.out.cell 8,T.out.cell 9⟩⟩⟩⟩⟩⟩⟩⟩⟩) (fun hHeld => ?_)
    clear hK K
    refine tk (i:=19) (v := ?k85) ?_
    simp only [ah]
    refine tk (i:=20) (v := ?k86) ?_
    simp only [ah]
    refine tk (i:=21) (v := ?k87) ?_
    simp only [ah]
    refine fH (i:=22) (fun K hK => ?_)
    go_simp
    ((with_reducible refine (HNM.out _).mono ?_);rintro e P9 ⟨rfl,rfl⟩)
    try clear hHeld
    refine hK.out _ _ (⟨T.out.cell 0,⟨T.out.cell 1,⟨T.out.cell 2,⟨T.out.cell 3,⟨T.out.cell 4,⟨T.out.cell 5,⟨T.out.cell 6,⟨T.out.cell 7,⟨T.out.cell 8,T.out.cell 9⟩⟩⟩⟩⟩⟩⟩⟩⟩) (fun hHeld => ?_)
    clear hK K
    refine tk (i:=23) (v := ?k90) ?_
    simp only [ah]
    refine tk (i:=24) (v := ?k91) ?_
    simp only [ah]
    refine tk (i:=25) (v := ?k92) ?_
    simp only [ah]
    refine wpAnyH_done (by kernel_rfl) ?_ _
    try clear hHeld
    go_wp2_with fail
    go_ret
    exact ⟨au Ho.out.symm,jc⟩
   | true =>
    have BO:Hid (dH x=pK x):=by show _=_;exact OV x _ (by rw [hob];rfl)
    clear hob
    go_enter Tryz.func84,Tryz.ntmps84
    go_upto_region 1 with fail
    generalize zY:w.alloc _=DV
    have ⟨Vt,T⟩:=bH zY
    clear zY
    have iD:=Vt
    clear Vt
    obtain ⟨aA,dA,dn,dw,bV,dh,bP,cZ,bU,aJ⟩:=T.out.c10
    refine wp_region_held_drew (S:=(fun w' => w'.cell? ⟨w.heap.size,0,none⟩=some (.int .i64 x.kind)∧w'.cell? ⟨w.heap.size,1,none⟩=some (.string ⟨x.name.toArray⟩)∧w'.cell? ⟨w.heap.size,2,none⟩=some (.int .i64 x.low)∧w'.cell? ⟨w.heap.size,3,none⟩=some (.int .i64 x.high)∧w'.cell? ⟨w.heap.size,4,none⟩=some (.int .i64 x.max)∧w'.cell? ⟨w.heap.size,5,none⟩=some (.slice A1 x.syms.length c1)∧w'.cell? ⟨w.heap.size,6,none⟩=some (.slice A2 x.aj.length c2)∧w'.cell? ⟨w.heap.size,7,none⟩=some (.int .i64 x.key)∧w'.cell? ⟨w.heap.size,8,none⟩=some (.int .i64 x.elem)∧w'.cell? ⟨w.heap.size,9,none⟩=some (.bool x.opn))) (by kernel_rfl) ⟨aA,dA,dn,dw,bV,dh,bP,cZ,bU,aJ⟩ (fun hHeld => ?_)
    clear aA dA dn dw bV dh bP cZ bU aJ
    have DZ:Below DV.heap.size DV (DV.drew):=(Below.refl _ _).drew
    replace T:=b1 T DZ
    replace iD:=dT iD DZ
    clear DZ
    generalize DV.drew=Ji at *
    refine tk (i:=0) (v := ?k99) ?_
    simp only [ah]
    refine tk (i:=1) (v := ?arX) ?_
    simp only [ah]
    refine tk (i:=2) (v := ?arY) ?_
    simp only [ah]
    refine tk (i:=3) (v := ?alM) ?_
    simp only [ah]
    refine tk (i:=4) (v := ?alN) ?_
    simp only [ah]
    refine tk (i:=5) (v := ?alO) ?_
    simp only [ah]
    refine tk (i:=6) (v := ?arZ) ?_
    simp only [ah]
    refine tk (i:=7) (v := ?ar0) ?_
    simp only [ah]
    refine tk (i:=8) (v := ?ag5) ?_
    simp only [ah]
    refine tk (i:=9) (v := ?alv) ?_
    simp only [ah]
    refine tk (i:=10) (v := ?alx) ?_
    simp only [ah]
    refine fH (i:=11) (fun K hK => ?_)
    go_simp
    ((with_reducible refine (HP.out _).mono ?_);rintro e Yi ⟨rfl,ZE⟩)
    replace T:=b1 T ZE
    replace iD:=dT iD ZE
    clear ZE
    try clear hHeld
    refine hK.out _ _ (⟨T.out.cell 0,⟨T.out.cell 1,⟨T.out.cell 2,⟨T.out.cell 3,⟨T.out.cell 4,⟨T.out.cell 5,⟨T.out.cell 6,⟨T.out.cell 7,⟨T.out.cell 8,T.out.cell 9⟩⟩⟩⟩⟩⟩⟩⟩⟩) (fun hHeld => ?_)
    clear hK K
    refine fH (i:=12) (fun K hK => ?_)
    go_simp
    ((with_reducible refine (HS.out _ iD).mono ?_);rintro e Gv ⟨rfl,qO⟩)
    replace T:=b1 T qO
    replace iD:=dT iD qO
    clear qO
    try clear hHeld
    refine hK.out _ _ (⟨T.out.cell 0,⟨T.out.cell 1,⟨T.out.cell 2,⟨T.out.cell 3,⟨T.out.cell 4,⟨T.out.cell 5,⟨T.out.cell 6,⟨T.out.cell 7,⟨T.out.cell 8,T.out.cell 9⟩⟩⟩⟩⟩⟩⟩⟩⟩) (fun hHeld => ?_)
    clear hK K
    refine tk (i:=13) (v := ?aly) ?_
    simp only [ah]
    refine tk (i:=14) (v := ?alz) ?_
    simp only [ah]
    refine tk (i:=15) (v := ?alP) ?_
    simp only [ah]
    refine tk (i:=16) (v := ?alQ) ?_
    simp only [ah]
    refine tk (i:=17) (v := ?alR) ?_
    simp only [ah]
    refine fH (i:=18) (fun K hK => ?_)
    go_simp
    ((with_reducible refine (HN.out _).mono ?_);rintro e YL ⟨rfl,rfl⟩)
    try clear hHeld
    refine hK.out _ _ (⟨T.out.cell 0,⟨T.out.cell 1,⟨T.out.cell 2,⟨T.out.cell 3,⟨T.out.cell 4,⟨T.out.cell 5,⟨T.out.cell 6,⟨T.out.cell 7,⟨T.out.cell 8,T.out.cell 9⟩⟩⟩⟩⟩⟩⟩⟩⟩) (fun hHeld => ?_)
    clear hK K
    refine tk (i:=19) (v := ?ar1) ?_
    simp only [ah]
    refine tk (i:=20) (v := ?ar2) ?_
    simp only [ah]
    refine tk (i:=21) (v := ?ar4) ?_
    simp only [ah]
    refine fH (i:=22) (fun K hK => ?_)
    go_simp
    ((with_reducible refine (HNM.out _).mono ?_);rintro e J7 ⟨rfl,rfl⟩)
    try clear hHeld
    refine hK.out _ _ (⟨T.out.cell 0,⟨T.out.cell 1,⟨T.out.cell 2,⟨T.out.cell 3,⟨T.out.cell 4,⟨T.out.cell 5,⟨T.out.cell 6,⟨T.out.cell 7,⟨T.out.cell 8,T.out.cell 9⟩⟩⟩⟩⟩⟩⟩⟩⟩) (fun hHeld => ?_)
    clear hK K
    refine tk (i:=23) (v := ?ar5) ?_
    simp only [ah]
    refine tk (i:=24) (v := ?ar6) ?_
    simp only [ah]
    refine tk (i:=25) (v := ?ar7) ?_
    simp only [ah]
    refine wpAnyH_done (by kernel_rfl) ?_ _
    try clear hHeld
    have hkc:=HKI.out
    rcases hkc with h | h | h | h | h | h | h | h | h
    · have:=OX.out;simp [lQ,h] at this
    · have:=OX.out;simp [lQ,h] at this
    · have:=OX.out;simp [lQ,h] at this
    ·
     have oP:Hid (pK x=sH x.syms):=by show _=_;unfold pK;simp [h]
     have aA:=T.out.e0
     have dh:=T.out.e5
     go_wp2_with fail
     clear aA dh
     ((with_reducible refine (Wq x.syms _ _ HT.out.lens.1 ((HT.out.syms.below iD).mono (iD).size)).mono ?_);rintro e ZF ⟨rfl,xI⟩)
     replace T:=b1 T xI
     replace iD:=dT iD xI
     clear xI
     go_wp2_with fail
     go_ret
     exact ⟨au (BO.out.trans oP.out).symm,iD⟩
    ·
     have oP:Hid (pK x=gK true x.aj):=by show _=_;unfold pK;simp [h]
     have aA:=T.out.e0
     have bP:=T.out.e6
     go_wp2_with fail
     clear aA bP
     ((with_reducible refine (NJ x.aj _ _ HT.out.lens.2 (HT.out.aj.on iD)).mono ?_);rintro e G5 ⟨rfl,Il⟩)
     replace T:=b1 T Il
     replace iD:=dT iD Il
     clear Il
     go_wp2_with fail
     go_ret
     exact ⟨au (BO.out.trans oP.out).symm,iD⟩
    ·
     have oP:Hid (pK x=gK false x.aj):=by show _=_;unfold pK;simp [h]
     have aA:=T.out.e0
     have bP:=T.out.e6
     go_wp2_with fail
     clear aA bP
     ((with_reducible refine (KH x.aj _ _ HT.out.lens.2 (HT.out.aj.on iD)).mono ?_);rintro e YC ⟨rfl,ZG⟩)
     replace T:=b1 T ZG
     replace iD:=dT iD ZG
     clear ZG
     go_wp2_with fail
     go_ret
     exact ⟨au (BO.out.trans oP.out).symm,iD⟩
    · have:=OX.out;simp [lQ,h] at this
    · have:=OX.out;simp [lQ,h] at this
    have:=OX.out;simp [lQ,h] at this
set_option maxRecDepth 100000 in
theorem aeh (x:aC) (A1 A2:Option Addr) (c1 c2:Nat) (w:World) (h:¬ fJ x.kind) :
  Calls Tryz.prog 84 #[aS x (.slice A1 x.syms.length c1) (.slice A2 x.aj.length c2)] w fun e w' => e = .returned (.bool (dH x))∧Below w.heap.size w w':=by
 have Ho:Hid (dH x=false):=by show _=_;unfold dH;rw [decide_eq_false (by unfold fJ at h;exact h)];rfl
 by_cases h1:x.kind < 1
 ·
  have d1:decide (x.kind < 1)=true:=decide_eq_true h1
  clear h h1
  go_enter Tryz.func84,Tryz.ntmps84
  go_upto_region 1 with fail
  generalize OY:w.alloc _=ER
  have ⟨KA,T⟩:=bH OY
  clear OY
  have dX:=KA
  clear KA
  obtain ⟨aA,dA,dn,dw,bV,dh,bP,cZ,bU,aJ⟩:=T.out.c10
  refine wp_region_held_drew (S:=(fun w' => w'.cell? ⟨w.heap.size,0,none⟩=some (.int .i64 x.kind)∧w'.cell? ⟨w.heap.size,1,none⟩=some (.string ⟨x.name.toArray⟩)∧w'.cell? ⟨w.heap.size,2,none⟩=some (.int .i64 x.low)∧w'.cell? ⟨w.heap.size,3,none⟩=some (.int .i64 x.high)∧w'.cell? ⟨w.heap.size,4,none⟩=some (.int .i64 x.max)∧w'.cell? ⟨w.heap.size,5,none⟩=some (.slice A1 x.syms.length c1)∧w'.cell? ⟨w.heap.size,6,none⟩=some (.slice A2 x.aj.length c2)∧w'.cell? ⟨w.heap.size,7,none⟩=some (.int .i64 x.key)∧w'.cell? ⟨w.heap.size,8,none⟩=some (.int .i64 x.elem)∧w'.cell? ⟨w.heap.size,9,none⟩=some (.bool x.opn))) (by kernel_rfl) ⟨aA,dA,dn,dw,bV,dh,bP,cZ,bU,aJ⟩ (fun hHeld => ?_)
  clear aA dA dn dw bV dh bP cZ bU aJ
  have Io:Below ER.heap.size ER (ER.drew):=(Below.refl _ _).drew
  replace T:=b1 T Io
  replace dX:=dT dX Io
  clear Io
  generalize ER.drew=Sm at *
  refine tk (i:=0) (v := ?alT) ?_
  simp only [ah]
  refine tk (i:=1) (v := ?alU) ?_
  simp only [ah]
  refine tk (i:=2) (v := ?alV) ?_
  simp only [ah]
  refine tk (i:=3) (v := ?alW) ?_
  simp only [ah]
  refine tks (i:=4) ?_
  simp only [ah]
  refine tks (i:=5) ?_
  simp only [ah]
  refine tks (i:=6) ?_
  simp only [ah]
  refine tk (i:=7) (v := ?ahr) ?_
  simp only [ah]
  refine tk (i:=8) (v := ?ahs) ?_
  simp only [ah]
  refine tks (i:=9) ?_
  simp only [ah]
  refine tks (i:=10) ?_
  simp only [ah]
  refine tks (i:=11) ?_
  simp only [ah]
  refine tks (i:=12) ?_
  simp only [ah]
  refine tks (i:=13) ?_
  simp only [ah]
  refine tk (i:=14) (v := ?ag7) ?_
  simp only [ah]
  refine tk (i:=15) (v := ?am2) ?_
  simp only [ah]
  refine tks (i:=16) ?_
  simp only [ah]
  refine tks (i:=17) ?_
  simp only [ah]
  refine tks (i:=18) ?_
  simp only [ah]
  refine tks (i:=19) ?_
  simp only [ah]
  refine tks (i:=20) ?_
  simp only [ah]
  refine tks (i:=21) ?_
  simp only [ah]
  refine tks (i:=22) ?_
  simp only [ah]
  refine tks (i:=23) ?_
  simp only [ah]
  refine tks (i:=24) ?_
  simp only [ah]
  refine tk (i:=25) (v := ?am3) ?_
  simp only [ah]
  refine wpAnyH_done (by kernel_rfl) ?_ _
  try clear hHeld
  go_wp2_with fail
  go_ret
  exact ⟨au Ho.out.symm,dX⟩
 have d1:decide (x.kind < 1)=false:=decide_eq_false h1
 have d9:decide (9 < x.kind)=true:=decide_eq_true (by unfold fJ at h;omega)
 clear h h1
 go_enter Tryz.func84,Tryz.ntmps84
 go_upto_region 1 with fail
 generalize Hl:w.alloc _=ED
 have ⟨Am,T⟩:=bH Hl
 clear Hl
 have ZH:=Am
 clear Am
 obtain ⟨aA,dA,dn,dw,bV,dh,bP,cZ,bU,aJ⟩:=T.out.c10
 refine wp_region_held_drew (S:=(fun w' => w'.cell? ⟨w.heap.size,0,none⟩=some (.int .i64 x.kind)∧w'.cell? ⟨w.heap.size,1,none⟩=some (.string ⟨x.name.toArray⟩)∧w'.cell? ⟨w.heap.size,2,none⟩=some (.int .i64 x.low)∧w'.cell? ⟨w.heap.size,3,none⟩=some (.int .i64 x.high)∧w'.cell? ⟨w.heap.size,4,none⟩=some (.int .i64 x.max)∧w'.cell? ⟨w.heap.size,5,none⟩=some (.slice A1 x.syms.length c1)∧w'.cell? ⟨w.heap.size,6,none⟩=some (.slice A2 x.aj.length c2)∧w'.cell? ⟨w.heap.size,7,none⟩=some (.int .i64 x.key)∧w'.cell? ⟨w.heap.size,8,none⟩=some (.int .i64 x.elem)∧w'.cell? ⟨w.heap.size,9,none⟩=some (.bool x.opn))) (by kernel_rfl) ⟨aA,dA,dn,dw,bV,dh,bP,cZ,bU,aJ⟩ (fun hHeld => ?_)
 clear aA dA dn dw bV dh bP cZ bU aJ
 have Ip:Below ED.heap.size ED (ED.drew):=(Below.refl _ _).drew
 replace T:=b1 T Ip
 replace ZH:=dT ZH Ip
 clear Ip
 generalize ED.drew=afr at *
 refine tk (i:=0) (v := ?aio) ?_
 simp only [ah]
 refine tk (i:=1) (v := ?aip) ?_
 simp only [ah]
 refine tk (i:=2) (v := ?am4) ?_
 simp only [ah]
 refine tk (i:=3) (v := ?am5) ?_
 simp only [ah]
 refine tk (i:=4) (v := ?am6) ?_
 simp only [ah]
 refine tk (i:=5) (v := ?am7) ?_
 simp only [ah]
 refine tk (i:=6) (v := ?am8) ?_
 simp only [ah]
 refine tk (i:=7) (v := ?am9) ?_
 simp only [ah]
 refine tk (i:=8) (v := ?ana) ?_
 simp only [ah]
 refine tks (i:=9) ?_
 simp only [ah]
 refine tks (i:=10) ?_
 simp only [ah]
 refine tks (i:=11) ?_
 simp only [ah]
 refine tks (i:=12) ?_
 simp only [ah]
 refine tks (i:=13) ?_
 simp only [ah]
 refine tk (i:=14) (v := ?ar8) ?_
 simp only [ah]
 refine tk (i:=15) (v := ?ar9) ?_
 simp only [ah]
 refine tks (i:=16) ?_
 simp only [ah]
 refine tks (i:=17) ?_
 simp only [ah]
 refine tks (i:=18) ?_
 simp only [ah]
 refine tks (i:=19) ?_
 simp only [ah]
 refine tks (i:=20) ?_
 simp only [ah]
 refine tks (i:=21) ?_
 simp only [ah]
 refine tks (i:=22) ?_
 simp only [ah]
 refine tks (i:=23) ?_
 simp only [ah]
 refine tks (i:=24) ?_
 simp only [ah]
 refine tk (i:=25) (v := ?anb) ?_
 simp only [ah]
 refine wpAnyH_done (by kernel_rfl) ?_ _
 try clear hHeld
 go_wp2_with fail
 go_ret
 exact ⟨au Ho.out.symm,ZH⟩
theorem agZ (x:aC) (vs vm:Value) (w:World) (ht:eX w w.heap.size x vs vm) :
  Calls Tryz.prog 84 #[aS x vs vm] w fun e w' => e = .returned (.bool (dH x))∧Below w.heap.size w w':=by
 obtain ⟨A1,c1,A2,c2,rfl,rfl,-,-⟩:=ht.forms
 by_cases hk:fJ x.kind
 · exact aee x A1 A2 c1 c2 w hk ht
 exact aeh x A1 A2 c1 c2 w hk
end Go.Proofs.YthkfapcadhnaeaaGreatDoor
