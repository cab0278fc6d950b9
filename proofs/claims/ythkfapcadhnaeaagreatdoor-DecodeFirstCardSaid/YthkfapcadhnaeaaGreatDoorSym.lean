/- What schema.symbols computes. No condition. -/
import Derived.Test.YthkfapcadhnaeaaGreatDoorHAE
import Derived.Test.YthkfapcadhnaeaaGreatDoorHAF
set_option maxHeartbeats 1600000
namespace Go.Proofs.YthkfapcadhnaeaaGreatDoor
open Go.ChangeShapes Go.WideShapes Go.ChangeAt Go.RowKit
theorem Two.kept {w:World} {B n1 n2:Nat} {v1 v2:Value} {xs1 xs2:List Value} (h:Two w B v1 n1 xs1 v2 n2 xs2):Kept (fun w => Two w B v1 n1 xs1 v2 n2 xs2) w B w.heap.size :=
 ⟨h,fun _ hk => h.heap hk,Nat.le_refl _⟩
def sH (l:List Raw):Bool:=decide (0 < l.length) && kG l
theorem yh {α β:Type} (f:α→β) (l:List α) (k:Nat) (h:k < l.length):(l.take (k+1)).map f=(l.take k).map f ++ [f l[k]]:=by
 rw [List.take_succ_eq_append_getElem h,List.map_append];rfl
def Ik (r:Raw):Value:=.int .i64 r.1
def CY (r:Raw):Value:=.string ⟨r.2.toArray⟩
set_option maxRecDepth 100000 in
theorem WS (l:List Raw) (va:Value) (w:World) (hl:l.length≤6000000000000) (kT:∀ r ∈ l,pV r) (h1:Rd w w.heap.size 2 va l.length (iV l)) :
  Calls Tryz.prog 127 #[va] w fun e w' => e = .returned (.bool (sH l))∧Below w.heap.size w w':=by
 obtain ⟨A,c,rfl,hca⟩:=h1.form
 have H1:=Lib.hid h1
 have HRI:=Lib.hid kT
 clear h1 kT
 go_enter Tryz.func127,Tryz.ntmps127
 go_wp2_with fail
 go_loopw [3,4,9] (fun s3 s4 i wr => ∃ k:Nat,k≤l.length∧i = .int .i64 k∧Two wr w.heap.size s3 k ((l.take k).map Ik) s4 k ((l.take k).map CY)∧Below w.heap.size w wr) (fun _ _ i _ => l.length - (intOf i).toNat)
 case atStart => exact ⟨0,by omega,rfl,Two.nil _ _,Below.refl _ _⟩
 case round =>
  obtain ⟨k,hk,rfl,htw,hb⟩:=hrel
  by_cases hlt:k < l.length
  ·
   obtain ⟨b,o,rfl,hb1,hc1⟩:=(H1.out.below hb).at_ (by omega)
   obtain ⟨x1,x2⟩:=nP hc1 k hlt
   have HT1:Hid ((l.take (k+1)).map Ik=(l.take k).map Ik ++ [.int .i64 l[k].1]):=yh Ik l k hlt
   have HT2:Hid ((l.take (k+1)).map CY=(l.take k).map CY ++ [.string ⟨l[k].2.toArray⟩]):=yh CY l k hlt
   have hi1:(k:Int) < l.length:=by omega
   have hZ1:=htw.lt1
   have hZ2:=htw.lt2
   generalize l[k].1=a at *
   generalize l[k].2=s at *
   clear hc1
   have TW:=Lib.hid (Two.kept htw)
   clear htw
   go_upto_region 6 with fail
   generalize dJ:wr.alloc _=wd2
   have ⟨hb1,X⟩:=bH dJ
   clear dJ
   have hl5:=TW.out.le
   have hl6:=hb.size
   replace TW:=b1 TW hb1
   replace hb:=dT hb hb1
   clear hb1
   generalize wr.heap.size=g4 at *
   clear x1 x2
   obtain ⟨aI,bI⟩:=X.out.c2
   refine wp_region_held_drew (S:=(fun w' => w'.cell? ⟨g4,0,none⟩=some (.int .i64 a)∧w'.cell? ⟨g4,1,none⟩=some (.string ⟨s.toArray⟩))) (by kernel_rfl) ⟨aI,bI⟩ (fun hHeld => ?_)
   clear aI bI
   have hb7:Below wd2.heap.size wd2 (wd2.drew):=(Below.refl _ _).drew
   obtain ⟨X,TW⟩:=b2 X TW hb7
   replace hb:=dT hb hb7
   clear hb7
   generalize wd2.drew=uJ at *
   refine wpAnyH_take (i:=0) (v := ?vk9) rfl (by kernel_rfl) (by kernel_rfl) (by kernel_rfl) (fun _ _ _ h => h) (Or.inl ⟨by rfl,?hk9⟩) (by assumption) ?rk9
   case hk9 => (intro w hSw;(try dsimp only at hSw);go_simp;(first | done | with_reducible rfl))
   try simp only [dQ]
   refine wpAnyH_take (i:=1) (v := ?asQ) rfl (by kernel_rfl) (by kernel_rfl) (by kernel_rfl) (fun _ _ _ h => h) (Or.inl ⟨by rfl,?hk10⟩) (by assumption) ?asR
   case hk10 => (intro w hSw;(try dsimp only at hSw);go_simp;(first | done | with_reducible rfl))
   try simp only [dQ]
   refine wpAnyH_take (i:=2) (v := ?asT) rfl (by kernel_rfl) (by kernel_rfl) (by kernel_rfl) (fun _ _ _ h => h) (Or.inl ⟨by rfl,?anK⟩) (by assumption) ?asU
   case anK => (intro w hSw;(try dsimp only at hSw);go_simp;(first | done | with_reducible rfl))
   try simp only [dQ]
   refine wpAnyH_take (i:=5) (v := ?asV) rfl (by kernel_rfl) (by kernel_rfl) (by kernel_rfl) (fun _ _ _ h => h) (Or.inl ⟨by rfl,?hk12⟩) (by assumption) ?asW
   case hk12 => (intro w hSw;(try dsimp only at hSw);go_simp;(first | done | with_reducible rfl))
   try simp only [dQ]
   refine wpAnyH_take (i:=6) (v := ?asX) rfl (by kernel_rfl) (by kernel_rfl) (by kernel_rfl) (fun _ _ _ h => h) (Or.inl ⟨by rfl,?anL⟩) (by assumption) ?asY
   case anL => (intro w hSw;(try dsimp only at hSw);go_simp;(first | done | with_reducible rfl))
   try simp only [dQ]
   refine wpAnyH_take (i:=7) (v := ?amR) rfl (by kernel_rfl) (by kernel_rfl) (by kernel_rfl) (fun _ _ _ h => h) (Or.inl ⟨by rfl,?aed⟩) (by assumption) ?amS
   case aed => (intro w hSw;(try dsimp only at hSw);go_simp;(first | done | with_reducible rfl))
   try simp only [dQ]
   refine wpAnyH_ready (rs:=[3,8]) (by kernel_rfl) (by simp) ?_
   refine AllReadyH.cons rfl (fun K hK => ?_) (AllReadyH.cons rfl (fun K hK => ?_) (AllReadyH.nil))
   ·
    skip
    go_simp
    generalize mZ:uJ.alloc _=qH
    have ⟨uV,N1⟩:=bH mZ
    clear mZ
    have UG:=X.out.here
    have XO:=TW.out.le
    have LH:=hb.size
    obtain ⟨X,TW⟩:=b2 X TW uV
    replace hb:=dT hb uV
    clear uV
    generalize uJ.heap.size=g18 at *
    try clear hHeld
    refine hK.out _ _ (⟨X.out.cell 0,X.out.cell 1⟩) (fun hHeld => ?_)
    clear hK K
    refine wpAnyH_ready (rs:=[4,8]) (by kernel_rfl) (by simp) ?_
    refine AllReadyH.cons rfl (fun K hK => ?_) (AllReadyH.cons rfl (fun K hK => ?_) (AllReadyH.nil))
    ·
     skip
     refine yF (by rfl) _ _ (by rfl) TW.out.now (.int .i64 a) (by rfl) N1.out (by rfl) rfl (by omega) (hb).size ?_
     intro v1' w1 htw hbB hkk
     clear TW
     replace X:=dG X hkk (fun hh => by have:=hZ1 _ hh;omega)
     replace N1:=dG N1 hkk (fun hh => by have:=hZ1 _ hh;omega)
     replace hb:=hb.trans (hbB.mono (show w.heap.size≤w.heap.size by omega))
     have TW:=Lib.hid (Two.kept htw)
     clear htw hkk hbB
     try clear hHeld
     refine hK.out _ _ (⟨X.out.cell 0,X.out.cell 1⟩) (fun hHeld => ?_)
     clear hK K
     refine wpAnyH_ready (rs:=[8]) (by kernel_rfl) (by simp) ?_
     refine AllReadyH.cons rfl (fun K hK => ?_) (AllReadyH.nil)
     go_simp
     generalize BG:w1.alloc _=ah8
     have ⟨yj,N2⟩:=bH BG
     clear BG
     have Vb:=X.out.here
     have Gq:=N1.out.here
     have Gs:=TW.out.le
     have Fb:=hb.size
     obtain ⟨X,N1,TW⟩:=b3 X N1 TW yj
     replace hb:=dT hb yj
     clear yj
     generalize w1.heap.size=g25 at *
     try clear hHeld
     refine hK.out _ _ (⟨X.out.cell 0,X.out.cell 1⟩) (fun hHeld => ?_)
     clear hK K
     refine wpAnyH_ready (rs:=[9]) (by kernel_rfl) (by simp) ?_
     refine AllReadyH.cons rfl (fun K hK => ?_) (AllReadyH.nil)
     refine yG (by rfl) _ _ (by rfl) TW.out.now (.string ⟨s.toArray⟩) (by rfl) N2.out (by rfl) rfl (by omega) (hb).size ?_
     intro v2' w1 htw hbB hkk
     clear TW
     replace X:=dG X hkk (fun hh => by have:=hZ2 _ hh;omega)
     replace N1:=dG N1 hkk (fun hh => by have:=hZ2 _ hh;omega)
     replace N2:=dG N2 hkk (fun hh => by have:=hZ2 _ hh;omega)
     replace hb:=hb.trans (hbB.mono (show w.heap.size≤w.heap.size by omega))
     have TW:=Lib.hid (Two.kept htw)
     clear htw hkk hbB
     try clear hHeld
     refine hK.out _ _ (⟨X.out.cell 0,X.out.cell 1⟩) (fun hHeld => ?_)
     clear hK K
     refine wpAnyH_take (i:=10) (v := ?amr) rfl (by kernel_rfl) (by kernel_rfl) (by kernel_rfl) (fun _ _ _ h => h) (Or.inl ⟨by rfl,?adV⟩) (by assumption) ?ams
     case adV => (intro w hSw;(try dsimp only at hSw);go_simp;(first | done | with_reducible rfl))
     try simp only [dQ]
     refine wpAnyH_take (i:=11) (v := ?amu) rfl (by kernel_rfl) (by kernel_rfl) (by kernel_rfl) (fun _ _ _ h => h) (Or.inl ⟨by rfl,?hk31⟩) (by assumption) ?amv
     case hk31 => (intro w hSw;(try dsimp only at hSw);go_simp;(first | done | with_reducible rfl))
     try simp only [dQ]
     refine wpAnyH_done (by kernel_rfl) ?_ _
     try clear hHeld
     go_wp2_with fail
     go_roundw
     case rel => exact ⟨k+1,by omega,by go_num,by rw [HT1.out,HT2.out];exact TW.out.now,hb⟩
     case measure => simp [intOf];omega
    skip
    go_simp
    generalize mY:qH.alloc _=mW
    have ⟨rJ,N2⟩:=bH mY
    clear mY
    have Ym:=X.out.here
    have adg:=N1.out.here
    have aiu:=TW.out.le
    have acB:=hb.size
    obtain ⟨X,N1,TW⟩:=b3 X N1 TW rJ
    replace hb:=dT hb rJ
    clear rJ
    generalize qH.heap.size=g35 at *
    try clear hHeld
    refine hK.out _ _ (⟨X.out.cell 0,X.out.cell 1⟩) (fun hHeld => ?_)
    clear hK K
    refine wpAnyH_ready (rs:=[4]) (by kernel_rfl) (by simp) ?_
    refine AllReadyH.cons rfl (fun K hK => ?_) (AllReadyH.nil)
    refine yF (by rfl) _ _ (by rfl) TW.out.now (.int .i64 a) (by rfl) N1.out (by rfl) rfl (by omega) (hb).size ?_
    intro v1' w1 htw hbB hkk
    clear TW
    replace X:=dG X hkk (fun hh => by have:=hZ1 _ hh;omega)
    replace N1:=dG N1 hkk (fun hh => by have:=hZ1 _ hh;omega)
    replace N2:=dG N2 hkk (fun hh => by have:=hZ1 _ hh;omega)
    replace hb:=hb.trans (hbB.mono (show w.heap.size≤w.heap.size by omega))
    have TW:=Lib.hid (Two.kept htw)
    clear htw hkk hbB
    try clear hHeld
    refine hK.out _ _ (⟨X.out.cell 0,X.out.cell 1⟩) (fun hHeld => ?_)
    clear hK K
    refine wpAnyH_ready (rs:=[9]) (by kernel_rfl) (by simp) ?_
    refine AllReadyH.cons rfl (fun K hK => ?_) (AllReadyH.nil)
    refine yG (by rfl) _ _ (by rfl) TW.out.now (.string ⟨s.toArray⟩) (by rfl) N2.out (by rfl) rfl (by omega) (hb).size ?_
    intro v2' w1 htw hbB hkk
    clear TW
    replace X:=dG X hkk (fun hh => by have:=hZ2 _ hh;omega)
    replace N1:=dG N1 hkk (fun hh => by have:=hZ2 _ hh;omega)
    replace N2:=dG N2 hkk (fun hh => by have:=hZ2 _ hh;omega)
    replace hb:=hb.trans (hbB.mono (show w.heap.size≤w.heap.size by omega))
    have TW:=Lib.hid (Two.kept htw)
    clear htw hkk hbB
    try clear hHeld
    refine hK.out _ _ (⟨X.out.cell 0,X.out.cell 1⟩) (fun hHeld => ?_)
    clear hK K
    refine wpAnyH_take (i:=10) (v := ?asZ) rfl (by kernel_rfl) (by kernel_rfl) (by kernel_rfl) (fun _ _ _ h => h) (Or.inl ⟨by rfl,?anM⟩) (by assumption) ?as1
    case anM => (intro w hSw;(try dsimp only at hSw);go_simp;(first | done | with_reducible rfl))
    try simp only [dQ]
    refine wpAnyH_take (i:=11) (v := ?amG) rfl (by kernel_rfl) (by kernel_rfl) (by kernel_rfl) (fun _ _ _ h => h) (Or.inl ⟨by rfl,?adY⟩) (by assumption) ?amH
    case adY => (intro w hSw;(try dsimp only at hSw);go_simp;(first | done | with_reducible rfl))
    try simp only [dQ]
    refine wpAnyH_done (by kernel_rfl) ?_ _
    try clear hHeld
    go_wp2_with fail
    go_roundw
    case rel => exact ⟨k+1,by omega,by go_num,by rw [HT1.out,HT2.out];exact TW.out.now,hb⟩
    case measure => simp [intOf];omega
   skip
   go_simp
   generalize xW:uJ.alloc _=uP
   have ⟨sF,N2⟩:=bH xW
   clear xW
   have acI:=X.out.here
   have acJ:=TW.out.le
   have anB:=hb.size
   obtain ⟨X,TW⟩:=b2 X TW sF
   replace hb:=dT hb sF
   clear sF
   generalize uJ.heap.size=g45 at *
   try clear hHeld
   refine hK.out _ _ (⟨X.out.cell 0,X.out.cell 1⟩) (fun hHeld => ?_)
   clear hK K
   refine wpAnyH_ready (rs:=[3]) (by kernel_rfl) (by simp) ?_
   refine AllReadyH.cons rfl (fun K hK => ?_) (AllReadyH.nil)
   go_simp
   generalize qg:uP.alloc _=Dp
   have ⟨vK,N1⟩:=bH qg
   clear qg
   have LD:=X.out.here
   have Fa:=N2.out.here
   have IZ:=TW.out.le
   have PN:=hb.size
   obtain ⟨X,N2,TW⟩:=b3 X N2 TW vK
   replace hb:=dT hb vK
   clear vK
   generalize uP.heap.size=g52 at *
   try clear hHeld
   refine hK.out _ _ (⟨X.out.cell 0,X.out.cell 1⟩) (fun hHeld => ?_)
   clear hK K
   refine wpAnyH_ready (rs:=[4]) (by kernel_rfl) (by simp) ?_
   refine AllReadyH.cons rfl (fun K hK => ?_) (AllReadyH.nil)
   refine yF (by rfl) _ _ (by rfl) TW.out.now (.int .i64 a) (by rfl) N1.out (by rfl) rfl (by omega) (hb).size ?_
   intro v1' w1 htw hbB hkk
   clear TW
   replace X:=dG X hkk (fun hh => by have:=hZ1 _ hh;omega)
   replace N2:=dG N2 hkk (fun hh => by have:=hZ1 _ hh;omega)
   replace N1:=dG N1 hkk (fun hh => by have:=hZ1 _ hh;omega)
   replace hb:=hb.trans (hbB.mono (show w.heap.size≤w.heap.size by omega))
   have TW:=Lib.hid (Two.kept htw)
   clear htw hkk hbB
   try clear hHeld
   refine hK.out _ _ (⟨X.out.cell 0,X.out.cell 1⟩) (fun hHeld => ?_)
   clear hK K
   refine wpAnyH_ready (rs:=[9]) (by kernel_rfl) (by simp) ?_
   refine AllReadyH.cons rfl (fun K hK => ?_) (AllReadyH.nil)
   refine yG (by rfl) _ _ (by rfl) TW.out.now (.string ⟨s.toArray⟩) (by rfl) N2.out (by rfl) rfl (by omega) (hb).size ?_
   intro v2' w1 htw hbB hkk
   clear TW
   replace X:=dG X hkk (fun hh => by have:=hZ2 _ hh;omega)
   replace N2:=dG N2 hkk (fun hh => by have:=hZ2 _ hh;omega)
   replace N1:=dG N1 hkk (fun hh => by have:=hZ2 _ hh;omega)
   replace hb:=hb.trans (hbB.mono (show w.heap.size≤w.heap.size by omega))
   have TW:=Lib.hid (Two.kept htw)
   clear htw hkk hbB
   try clear hHeld
   refine hK.out _ _ (⟨X.out.cell 0,X.out.cell 1⟩) (fun hHeld => ?_)
   clear hK K
   refine wpAnyH_take (i:=10) (v := ?as2) rfl (by kernel_rfl) (by kernel_rfl) (by kernel_rfl) (fun _ _ _ h => h) (Or.inl ⟨by rfl,?anN⟩) (by assumption) ?as3
   case anN => (intro w hSw;(try dsimp only at hSw);go_simp;(first | done | with_reducible rfl))
   try simp only [dQ]
   refine wpAnyH_take (i:=11) (v := ?as4) rfl (by kernel_rfl) (by kernel_rfl) (by kernel_rfl) (fun _ _ _ h => h) (Or.inl ⟨by rfl,?anO⟩) (by assumption) ?as5
   case anO => (intro w hSw;(try dsimp only at hSw);go_simp;(first | done | with_reducible rfl))
   try simp only [dQ]
   refine wpAnyH_done (by kernel_rfl) ?_ _
   try clear hHeld
   go_wp2_with fail
   go_roundw
   case rel => exact ⟨k+1,by omega,by go_num,by rw [HT1.out,HT2.out];exact TW.out.now,hb⟩
   case measure => simp [intOf];omega
  obtain rfl:k=l.length:=by omega
  rw [List.take_of_length_le (Nat.le_refl _)] at htw
  have hr1:=Rd.pq htw.o1
  have hr2:=Rd.pq htw.o2
  have HI:=Lib.hid (VW l _ _ wr (by omega) HRI.out hr1 hr2)
  clear htw hr1 hr2
  by_cases h0:l.length=0
  ·
   have Hs:Hid (sH l=false):=by show _=_;unfold sH;rw [h0];rfl
   have Hn:=Lib.hid (List.eq_nil_of_length_eq_zero h0)
   have hd:decide (0 < l.length)=false:=decide_eq_false (by omega)
   clear h0
   go_wp2_with fail
   go_ret
   exact ⟨au Hs.out.symm,hb⟩
  have Hs:Hid (sH l=kG l):=by show _=_;unfold sH;rw [decide_eq_true (by omega)];rfl
  have hd:decide (0 < l.length)=true:=decide_eq_true (by omega)
  have hd2:(0:Int) < l.length:=by omega
  clear h0
  go_wp2_with fail
  refine HI.out.mono ?_
  rintro e w2 ⟨rfl,hb2⟩
  go_wp2_with fail
  go_ret
  exact ⟨au Hs.out.symm,hb.trans (hb2.mono hb.size)⟩
end Go.Proofs.YthkfapcadhnaeaaGreatDoor
