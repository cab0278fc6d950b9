/- What schema.members computes. No condition. -/
import Derived.Test.YthkfapcadhnaeaaGreatDoorSym
import Derived.Test.YthkfapcadhnaeaaGreatDoorEqZ
set_option maxHeartbeats 4000000
namespace Go.Proofs.YthkfapcadhnaeaaGreatDoor
open Go.ChangeShapes Go.WideShapes Go.ChangeAt Go.RowKit
theorem Two.amP {w:World} {B n1 n2:Nat} {v1 v2:Value} {xs1 xs2:List Value} (h:Two w B v1 n1 xs1 v2 n2 xs2):∀ k,v1.ownBlock=some k→B≤k∧k < w.heap.size:=fun k hk => h.o1.lt k hk
theorem Two.amQ {w:World} {B n1 n2:Nat} {v1 v2:Value} {xs1 xs2:List Value} (h:Two w B v1 n1 xs1 v2 n2 xs2):∀ k,v2.ownBlock=some k→B≤k∧k < w.heap.size:=fun k hk => h.o2.lt k hk
def aO (m:Mem):Raw:=(m.id,m.name)
def fF (un:Bool) (m:Mem):Bool := !(un && (m.jR || m.iR)) && (!(m.jR && m.iR) && (m.iR || iH m.dflt kJ))
def fU (x:aC):Bool:=x.aj.all (fF (decide (x.kind=6))) && ((decide (x.kind=5) || decide (0 < x.aj.length)) && kG (x.aj.map aO))
theorem sS (x:aC) (m:Mem) (hm:m ∈ x.aj) (h:fF (decide (x.kind=6)) m=false):fU x=false:=by
 have:x.aj.all (fF (decide (x.kind=6)))=false:=by
  rw [List.all_eq_false]
  exact ⟨m,hm,by simp [h]⟩
 unfold fU;rw [this];rfl
theorem aec (f:Mem→Bool) (l:List Mem) (k:Nat) (h:k < l.length):(l.take (k+1)).all f=((l.take k).all f && f l[k]):=by
 rw [List.take_succ_eq_append_getElem h,List.all_append];simp
theorem agY {w:World} {B:Nat} {v:Value} {ms:List Mem} (h:lN w B v ms):∀ r ∈ ms.map aO,pV r:=by
 intro r hr
 obtain ⟨m,hm,rfl⟩:=List.mem_map.1 hr
 obtain ⟨i,hi,rfl⟩:=List.getElem_of_mem hm
 obtain ⟨c,_,h2⟩:=h
 obtain ⟨_,_,_,_,hma⟩:=h2 i hi
 exact ⟨hma.ints.1,hma.EI⟩
set_option maxRecDepth 100000 in
theorem Aw (x:aC) (vs vm:Value) (w:World) (hl:x.aj.length≤6000000000000) (ht:eX w w.heap.size x vs vm) :
  Calls Tryz.prog 128 #[aS x vs vm] w fun e w' => e = .returned (.bool (fU x))∧Below w.heap.size w w':=by
 obtain ⟨C1,m1,C2,m2,rfl,rfl,-,-⟩:=ht.forms
 have HT:=Lib.hid ht
 have F8:=Lib.hid (agY ht.aj)
 clear ht
 go_enter Tryz.func128,Tryz.ntmps128
 go_upto_region 3 with fail
 generalize dJ:w.alloc _=wd2
 have ⟨hb1,T⟩:=bH dJ
 clear dJ
 have hw4:=hb1
 clear hb1
 have bP:=T.out.e6
 have hT0:=T.out
 have hB0:=hw4
 have HT0:=Lib.hid hT0
 clear hT0
 go_wp2_with fail
 go_loopw [3,4,10] (fun s3 s4 i wr => ∃ k:Nat,k≤x.aj.length∧i = .int .i64 k∧(x.aj.take k).all (fF (decide (x.kind=6)))=true∧Two wr (w.heap.size+1) s3 k (((x.aj.map aO).take k).map Ik) s4 k (((x.aj.map aO).take k).map CY)∧Has wr w.heap.size 69 #[.int .i64 x.kind,.string ⟨x.name.toArray⟩,.int .i64 x.low,.int .i64 x.high,.int .i64 x.max,.slice C1 x.syms.length m1,.slice C2 x.aj.length m2,.int .i64 x.key,.int .i64 x.elem,.bool x.opn]∧Below w.heap.size w wr) (fun _ _ i _ => x.aj.length - (intOf i).toNat)
 case atStart => exact ⟨0,by omega,rfl,rfl,Two.nil _ _,HT0.out,hB0⟩
 case round =>
  clear T hB0 HT0
  obtain ⟨k,hk,rfl,hall,htw,T,hb⟩:=hrel
  by_cases hlt:k < x.aj.length
  ·
   obtain ⟨b,o,hC2,hb1,hel⟩:=HT.out.aj.elem (by omega)
   obtain ⟨dk,di,dr,hcells,hma⟩:=hel k hlt
   have hlk:k < (x.aj.map aO).length:=by simpa using hlt
   have HT1:Hid (((x.aj.map aO).take (k+1)).map Ik=((x.aj.map aO).take k).map Ik ++ [.int .i64 x.aj[k].id]):=by have h:=yh Ik (x.aj.map aO) k hlk;rw [List.getElem_map] at h;exact h
   have HT2:Hid (((x.aj.map aO).take (k+1)).map CY=((x.aj.map aO).take k).map CY ++ [.string ⟨x.aj[k].name.toArray⟩]):=by have h:=yh CY (x.aj.map aO) k hlk;rw [List.getElem_map] at h;exact h
   have HAL:=Lib.hid (aec (fF (decide (x.kind=6))) x.aj k hlt)
   have xU:=Lib.hid (List.getElem_mem hlt)
   generalize x.aj[k]=m at *
   have tZ:=Lib.hid hall
   obtain ⟨D1,d1,D2,d2,D3,d3,rfl,rfl,rfl,-,-,-⟩:=hma.dflt.forms
   obtain ⟨y0,y1,y2,y3,y4,y5,y6,y7,y8,y9,BJ,BK,BL⟩:=hcells
   have x0:=(hb.cell (p:=⟨b,_,none⟩) hb1).trans y0
   have x1:=(hb.cell (p:=⟨b,_,none⟩) hb1).trans y1
   have x2:=(hb.cell (p:=⟨b,_,none⟩) hb1).trans y2
   have x3:=(hb.cell (p:=⟨b,_,none⟩) hb1).trans y3
   have x4:=(hb.cell (p:=⟨b,_,none⟩) hb1).trans y4
   have x5:=(hb.cell (p:=⟨b,_,none⟩) hb1).trans y5
   have x6:=(hb.cell (p:=⟨b,_,none⟩) hb1).trans y6
   have x7:=(hb.cell (p:=⟨b,_,none⟩) hb1).trans y7
   have x8:=(hb.cell (p:=⟨b,_,none⟩) hb1).trans y8
   have x9:=(hb.cell (p:=⟨b,_,none⟩) hb1).trans y9
   have x10:=(hb.cell (p:=⟨b,_,none⟩) hb1).trans BJ
   have x11:=(hb.cell (p:=⟨b,_,none⟩) hb1).trans BK
   have x12:=(hb.cell (p:=⟨b,_,none⟩) hb1).trans BL
   clear y0 y1 y2 y3 y4 y5 y6 y7 y8 y9 BJ BK BL
   have hi1:(k:Int) < x.aj.length:=by omega
   have hZ1:=htw.amP
   have hZ2:=htw.amQ
   have Lh:=Lib.hid hma.dflt
   clear hel hall hma
   replace T:=Lib.hid T
   have TW:=Lib.hid (Two.kept htw)
   clear htw
   go_upto_region 6 with fail
   generalize iT:wr.alloc _=wV
   have ⟨hb5,M⟩:=bH iT
   clear iT
   have hl9:=T.out.here
   have Ls:=TW.out.le
   have Pq:=hb.size
   obtain ⟨T,TW⟩:=b2 T TW hb5
   replace hb:=dT hb hb5
   clear hb5
   generalize wr.heap.size=g8 at *
   clear x0 x1 x2 x3 x4 x5 x6 x7 x8 x9 x10 x11 x12 hC2
   obtain ⟨gM,hgM⟩ : ∃ g,g=g8:=⟨_,rfl⟩
   go_cut [3,4] from 14 to 54 (fun s3 s4 wx => Two wx (w.heap.size+1) s3 (k+1) (((x.aj.map aO).take (k+1)).map Ik) s4 (k+1) (((x.aj.map aO).take (k+1)).map CY)∧Has wx w.heap.size 69 #[.int .i64 x.kind,.string ⟨x.name.toArray⟩,.int .i64 x.low,.int .i64 x.high,.int .i64 x.max,.slice C1 x.syms.length m1,.slice C2 x.aj.length m2,.int .i64 x.key,.int .i64 x.elem,.bool x.opn]∧Has wx g8 77 #[.int .i64 m.id,.string ⟨m.name.toArray⟩,.int .i64 m.ty,.bool m.jR,.bool m.iR,.int .i64 m.dflt.kind,.bool m.dflt.bool,.int .i64 m.dflt.num,.string ⟨m.dflt.str.toArray⟩,.int .i64 m.dflt.id,.slice D1 m.dflt.keys.length d1,.slice D2 m.dflt.items.length d2,.slice D3 m.dflt.rest.length d3]∧Below w.heap.size w wx)
   case first =>
    clear hgM
    have lW:=M.out.e0
    have nH:=M.out.e1
    refine wp_region_held_drew (S:=(fun w' => w'.cell? ⟨g8,0,none⟩=some (.int .i64 m.id)∧w'.cell? ⟨g8,1,none⟩=some (.string ⟨m.name.toArray⟩))) (by kernel_rfl) ⟨lW,nH⟩ (fun hHeld => ?_)
    clear lW nH
    have jl:Below wV.heap.size wV (wV.drew):=(Below.refl _ _).drew
    obtain ⟨T,M,TW⟩:=b3 T M TW jl
    replace hb:=dT hb jl
    clear jl
    generalize wV.drew=tN at *
    refine wpAnyH_take (i:=0) (v := ?amR) rfl (by kernel_rfl) (by kernel_rfl) (by kernel_rfl) (fun _ _ _ h => h) (Or.inl ⟨by rfl,?aed⟩) (by assumption) ?amS
    case aed => (intro w hSw;(try dsimp only at hSw);go_simp;(first | done | with_reducible rfl))
    try simp only [dQ]
    refine wpAnyH_take (i:=1) (v := ?arF) rfl (by kernel_rfl) (by kernel_rfl) (by kernel_rfl) (fun _ _ _ h => h) (Or.inl ⟨by rfl,?amT⟩) (by assumption) ?arG
    case amT => (intro w hSw;(try dsimp only at hSw);go_simp;(first | done | with_reducible rfl))
    try simp only [dQ]
    refine wpAnyH_take (i:=2) (v := ?arH) rfl (by kernel_rfl) (by kernel_rfl) (by kernel_rfl) (fun _ _ _ h => h) (Or.inl ⟨by rfl,?amU⟩) (by assumption) ?arI
    case amU => (intro w hSw;(try dsimp only at hSw);go_simp;(first | done | with_reducible rfl))
    try simp only [dQ]
    refine wpAnyH_take (i:=5) (v := ?arJ) rfl (by kernel_rfl) (by kernel_rfl) (by kernel_rfl) (fun _ _ _ h => h) (Or.inl ⟨by rfl,?amV⟩) (by assumption) ?arK
    case amV => (intro w hSw;(try dsimp only at hSw);go_simp;(first | done | with_reducible rfl))
    try simp only [dQ]
    refine wpAnyH_take (i:=6) (v := ?arL) rfl (by kernel_rfl) (by kernel_rfl) (by kernel_rfl) (fun _ _ _ h => h) (Or.inl ⟨by rfl,?amW⟩) (by assumption) ?arM
    case amW => (intro w hSw;(try dsimp only at hSw);go_simp;(first | done | with_reducible rfl))
    try simp only [dQ]
    refine wpAnyH_take (i:=7) (v := ?arN) rfl (by kernel_rfl) (by kernel_rfl) (by kernel_rfl) (fun _ _ _ h => h) (Or.inl ⟨by rfl,?amX⟩) (by assumption) ?arO
    case amX => (intro w hSw;(try dsimp only at hSw);go_simp;(first | done | with_reducible rfl))
    try simp only [dQ]
    refine wpAnyH_ready (rs:=[3,8]) (by kernel_rfl) (by simp) ?_
    refine AllReadyH.cons rfl (fun K hK => ?_) (AllReadyH.cons rfl (fun K hK => ?_) (AllReadyH.nil))
    ·
     skip
     go_simp
     generalize qF:tN.alloc _=qj
     have ⟨jw,N1⟩:=bH qF
     clear qF
     have Gf:=T.out.here
     have PW:=M.out.here
     have Vb:=TW.out.le
     have Gq:=hb.size
     obtain ⟨T,M,TW⟩:=b3 T M TW jw
     replace hb:=dT hb jw
     clear jw
     generalize tN.heap.size=g23 at *
     try clear hHeld
     refine hK.out _ _ (⟨M.out.cell 0,M.out.cell 1⟩) (fun hHeld => ?_)
     clear hK K
     refine wpAnyH_ready (rs:=[4,8]) (by kernel_rfl) (by simp) ?_
     refine AllReadyH.cons rfl (fun K hK => ?_) (AllReadyH.cons rfl (fun K hK => ?_) (AllReadyH.nil))
     ·
      skip
      refine yF (by rfl) _ _ (by rfl) TW.out.now (.int .i64 m.id) (by rfl) N1.out (by rfl) rfl (by omega) T.out.here ?_
      intro v1' w1 htw hbB hkk
      clear TW
      replace T:=dG T hkk (fun hh => by have:=hZ1 _ hh;omega)
      replace M:=dG M hkk (fun hh => by have:=hZ1 _ hh;omega)
      replace N1:=dG N1 hkk (fun hh => by have:=hZ1 _ hh;omega)
      replace hb:=hb.trans (hbB.mono (show w.heap.size≤w.heap.size+1 by omega))
      have TW:=Lib.hid (Two.kept htw)
      clear htw hkk hbB
      try clear hHeld
      refine hK.out _ _ (⟨M.out.cell 0,M.out.cell 1⟩) (fun hHeld => ?_)
      clear hK K
      refine wpAnyH_ready (rs:=[8]) (by kernel_rfl) (by simp) ?_
      refine AllReadyH.cons rfl (fun K hK => ?_) (AllReadyH.nil)
      go_simp
      generalize tJ:w1.alloc _=Bo
      have ⟨LV,N2⟩:=bH tJ
      clear tJ
      have UH:=T.out.here
      have PK:=M.out.here
      have XP:=N1.out.here
      have aik:=TW.out.le
      have Ym:=hb.size
      obtain ⟨T,M,N1,TW⟩:=b4 T M N1 TW LV
      replace hb:=dT hb LV
      clear LV
      generalize w1.heap.size=g31 at *
      try clear hHeld
      refine hK.out _ _ (⟨M.out.cell 0,M.out.cell 1⟩) (fun hHeld => ?_)
      clear hK K
      refine wpAnyH_ready (rs:=[9]) (by kernel_rfl) (by simp) ?_
      refine AllReadyH.cons rfl (fun K hK => ?_) (AllReadyH.nil)
      refine yG (by rfl) _ _ (by rfl) TW.out.now (.string ⟨m.name.toArray⟩) (by rfl) N2.out (by rfl) rfl (by omega) T.out.here ?_
      intro v2' w1 htw hbB hkk
      clear TW
      replace T:=dG T hkk (fun hh => by have:=hZ2 _ hh;omega)
      replace M:=dG M hkk (fun hh => by have:=hZ2 _ hh;omega)
      replace N1:=dG N1 hkk (fun hh => by have:=hZ2 _ hh;omega)
      replace N2:=dG N2 hkk (fun hh => by have:=hZ2 _ hh;omega)
      replace hb:=hb.trans (hbB.mono (show w.heap.size≤w.heap.size+1 by omega))
      have TW:=Lib.hid (Two.kept htw)
      clear htw hkk hbB
      try clear hHeld
      refine hK.out _ _ (⟨M.out.cell 0,M.out.cell 1⟩) (fun hHeld => ?_)
      clear hK K
      refine wpAnyH_take (i:=10) (v := ?amC) rfl (by kernel_rfl) (by kernel_rfl) (by kernel_rfl) (fun _ _ _ h => h) (Or.inl ⟨by rfl,?adW⟩) (by assumption) ?amD
      case adW => (intro w hSw;(try dsimp only at hSw);go_simp;(first | done | with_reducible rfl))
      try simp only [dQ]
      refine wpAnyH_take (i:=11) (v := ?amE) rfl (by kernel_rfl) (by kernel_rfl) (by kernel_rfl) (fun _ _ _ h => h) (Or.inl ⟨by rfl,?adX⟩) (by assumption) ?amF
      case adX => (intro w hSw;(try dsimp only at hSw);go_simp;(first | done | with_reducible rfl))
      try simp only [dQ]
      refine wpAnyH_done (by kernel_rfl) ?_ _
      try clear hHeld
      go_wp2_with fail
      go_meet
      exact ⟨by rw [HT1.out,HT2.out];exact TW.out.now,T.out,M.out,hb⟩
     skip
     go_simp
     generalize Fh:qj.alloc _=MG
     have ⟨Dy,N2⟩:=bH Fh
     clear Fh
     have PL:=T.out.here
     have XQ:=M.out.here
     have XR:=N1.out.here
     have acI:=TW.out.le
     have acJ:=hb.size
     obtain ⟨T,M,N1,TW⟩:=b4 T M N1 TW Dy
     replace hb:=dT hb Dy
     clear Dy
     generalize qj.heap.size=g42 at *
     try clear hHeld
     refine hK.out _ _ (⟨M.out.cell 0,M.out.cell 1⟩) (fun hHeld => ?_)
     clear hK K
     refine wpAnyH_ready (rs:=[4]) (by kernel_rfl) (by simp) ?_
     refine AllReadyH.cons rfl (fun K hK => ?_) (AllReadyH.nil)
     refine yF (by rfl) _ _ (by rfl) TW.out.now (.int .i64 m.id) (by rfl) N1.out (by rfl) rfl (by omega) T.out.here ?_
     intro v1' w1 htw hbB hkk
     clear TW
     replace T:=dG T hkk (fun hh => by have:=hZ1 _ hh;omega)
     replace M:=dG M hkk (fun hh => by have:=hZ1 _ hh;omega)
     replace N1:=dG N1 hkk (fun hh => by have:=hZ1 _ hh;omega)
     replace N2:=dG N2 hkk (fun hh => by have:=hZ1 _ hh;omega)
     replace hb:=hb.trans (hbB.mono (show w.heap.size≤w.heap.size+1 by omega))
     have TW:=Lib.hid (Two.kept htw)
     clear htw hkk hbB
     try clear hHeld
     refine hK.out _ _ (⟨M.out.cell 0,M.out.cell 1⟩) (fun hHeld => ?_)
     clear hK K
     refine wpAnyH_ready (rs:=[9]) (by kernel_rfl) (by simp) ?_
     refine AllReadyH.cons rfl (fun K hK => ?_) (AllReadyH.nil)
     refine yG (by rfl) _ _ (by rfl) TW.out.now (.string ⟨m.name.toArray⟩) (by rfl) N2.out (by rfl) rfl (by omega) T.out.here ?_
     intro v2' w1 htw hbB hkk
     clear TW
     replace T:=dG T hkk (fun hh => by have:=hZ2 _ hh;omega)
     replace M:=dG M hkk (fun hh => by have:=hZ2 _ hh;omega)
     replace N1:=dG N1 hkk (fun hh => by have:=hZ2 _ hh;omega)
     replace N2:=dG N2 hkk (fun hh => by have:=hZ2 _ hh;omega)
     replace hb:=hb.trans (hbB.mono (show w.heap.size≤w.heap.size+1 by omega))
     have TW:=Lib.hid (Two.kept htw)
     clear htw hkk hbB
     try clear hHeld
     refine hK.out _ _ (⟨M.out.cell 0,M.out.cell 1⟩) (fun hHeld => ?_)
     clear hK K
     refine wpAnyH_take (i:=10) (v := ?arP) rfl (by kernel_rfl) (by kernel_rfl) (by kernel_rfl) (fun _ _ _ h => h) (Or.inl ⟨by rfl,?amY⟩) (by assumption) ?arQ
     case amY => (intro w hSw;(try dsimp only at hSw);go_simp;(first | done | with_reducible rfl))
     try simp only [dQ]
     refine wpAnyH_take (i:=11) (v := ?arR) rfl (by kernel_rfl) (by kernel_rfl) (by kernel_rfl) (fun _ _ _ h => h) (Or.inl ⟨by rfl,?amZ⟩) (by assumption) ?arS
     case amZ => (intro w hSw;(try dsimp only at hSw);go_simp;(first | done | with_reducible rfl))
     try simp only [dQ]
     refine wpAnyH_done (by kernel_rfl) ?_ _
     try clear hHeld
     go_wp2_with fail
     go_meet
     exact ⟨by rw [HT1.out,HT2.out];exact TW.out.now,T.out,M.out,hb⟩
    skip
    go_simp
    generalize Fj:tN.alloc _=DL
    have ⟨NG,N2⟩:=bH Fj
    clear Fj
    have Fa:=T.out.here
    have IZ:=M.out.here
    have PN:=TW.out.le
    have UL:=hb.size
    obtain ⟨T,M,TW⟩:=b3 T M TW NG
    replace hb:=dT hb NG
    clear NG
    generalize tN.heap.size=g53 at *
    try clear hHeld
    refine hK.out _ _ (⟨M.out.cell 0,M.out.cell 1⟩) (fun hHeld => ?_)
    clear hK K
    refine wpAnyH_ready (rs:=[3]) (by kernel_rfl) (by simp) ?_
    refine AllReadyH.cons rfl (fun K hK => ?_) (AllReadyH.nil)
    go_simp
    generalize UA:DL.alloc _=acC
    have ⟨Bh,N1⟩:=bH UA
    clear UA
    have XH:=T.out.here
    have hl63:=M.out.here
    have UC:=N2.out.here
    have IW:=TW.out.le
    have Gt:=hb.size
    obtain ⟨T,M,N2,TW⟩:=b4 T M N2 TW Bh
    replace hb:=dT hb Bh
    clear Bh
    generalize DL.heap.size=g61 at *
    try clear hHeld
    refine hK.out _ _ (⟨M.out.cell 0,M.out.cell 1⟩) (fun hHeld => ?_)
    clear hK K
    refine wpAnyH_ready (rs:=[4]) (by kernel_rfl) (by simp) ?_
    refine AllReadyH.cons rfl (fun K hK => ?_) (AllReadyH.nil)
    refine yF (by rfl) _ _ (by rfl) TW.out.now (.int .i64 m.id) (by rfl) N1.out (by rfl) rfl (by omega) T.out.here ?_
    intro v1' w1 htw hbB hkk
    clear TW
    replace T:=dG T hkk (fun hh => by have:=hZ1 _ hh;omega)
    replace M:=dG M hkk (fun hh => by have:=hZ1 _ hh;omega)
    replace N2:=dG N2 hkk (fun hh => by have:=hZ1 _ hh;omega)
    replace N1:=dG N1 hkk (fun hh => by have:=hZ1 _ hh;omega)
    replace hb:=hb.trans (hbB.mono (show w.heap.size≤w.heap.size+1 by omega))
    have TW:=Lib.hid (Two.kept htw)
    clear htw hkk hbB
    try clear hHeld
    refine hK.out _ _ (⟨M.out.cell 0,M.out.cell 1⟩) (fun hHeld => ?_)
    clear hK K
    refine wpAnyH_ready (rs:=[9]) (by kernel_rfl) (by simp) ?_
    refine AllReadyH.cons rfl (fun K hK => ?_) (AllReadyH.nil)
    refine yG (by rfl) _ _ (by rfl) TW.out.now (.string ⟨m.name.toArray⟩) (by rfl) N2.out (by rfl) rfl (by omega) T.out.here ?_
    intro v2' w1 htw hbB hkk
    clear TW
    replace T:=dG T hkk (fun hh => by have:=hZ2 _ hh;omega)
    replace M:=dG M hkk (fun hh => by have:=hZ2 _ hh;omega)
    replace N2:=dG N2 hkk (fun hh => by have:=hZ2 _ hh;omega)
    replace N1:=dG N1 hkk (fun hh => by have:=hZ2 _ hh;omega)
    replace hb:=hb.trans (hbB.mono (show w.heap.size≤w.heap.size+1 by omega))
    have TW:=Lib.hid (Two.kept htw)
    clear htw hkk hbB
    try clear hHeld
    refine hK.out _ _ (⟨M.out.cell 0,M.out.cell 1⟩) (fun hHeld => ?_)
    clear hK K
    refine wpAnyH_take (i:=10) (v := ?arT) rfl (by kernel_rfl) (by kernel_rfl) (by kernel_rfl) (fun _ _ _ h => h) (Or.inl ⟨by rfl,?am0⟩) (by assumption) ?arU
    case am0 => (intro w hSw;(try dsimp only at hSw);go_simp;(first | done | with_reducible rfl))
    try simp only [dQ]
    refine wpAnyH_take (i:=11) (v := ?arV) rfl (by kernel_rfl) (by kernel_rfl) (by kernel_rfl) (fun _ _ _ h => h) (Or.inl ⟨by rfl,?am1⟩) (by assumption) ?arW
    case am1 => (intro w hSw;(try dsimp only at hSw);go_simp;(first | done | with_reducible rfl))
    try simp only [dQ]
    refine wpAnyH_done (by kernel_rfl) ?_ _
    try clear hHeld
    go_wp2_with fail
    go_meet
    exact ⟨by rw [HT1.out,HT2.out];exact TW.out.now,T.out,M.out,hb⟩
   case rest =>
    clear T M TW hb
    subst hgM
    obtain ⟨htw,T,M,hb⟩:=hcut
    replace T:=Lib.hid T
    replace M:=Lib.hid M
    have TW:=Lib.hid (Two.kept htw)
    clear htw hZ1 hZ2
    have hcr:m.jR=true∨m.jR=false:=by cases m.jR <;> simp
    have hhd:m.iR=true∨m.iR=false:=by cases m.iR <;> simp
    by_cases hun:x.kind=6
    ·
     have tun:(x.kind == 6)=true:=by simp [hun]
     have JG:Hid (decide (x.kind=6)=true):=decide_eq_true hun
     clear hun
     rcases hhd with hhd | hhd
     ·
      have Hm:Hid (fF (decide (x.kind=6)) m=false):=by show _=_;unfold fF;rw [JG.out,hhd];simp
      rcases hcr with hcr | hcr
      ·
       have aA:=T.out.e0
       have qo:=M.out.e3
       have kQ:=M.out.e4
       have Hno:Hid (fU x=false):=sS x m xU.out Hm.out
       go_wp2_with fail
       go_ret
       exact ⟨au Hno.out.symm,hb⟩
      have aA:=T.out.e0
      have qo:=M.out.e3
      have kQ:=M.out.e4
      have Hno:Hid (fU x=false):=sS x m xU.out Hm.out
      go_wp2_with fail
      go_ret
      exact ⟨au Hno.out.symm,hb⟩
     rcases hcr with hcr | hcr
     ·
      have Hm:Hid (fF (decide (x.kind=6)) m=false):=by show _=_;unfold fF;rw [JG.out,hcr];simp
      have aA:=T.out.e0
      have qo:=M.out.e3
      have kQ:=M.out.e4
      have Hno:Hid (fU x=false):=sS x m xU.out Hm.out
      go_wp2_with fail
      go_ret
      exact ⟨au Hno.out.symm,hb⟩
     have Ru:=Lib.hid hcr
     have Rw:=Lib.hid hhd
     have aA:=T.out.e0
     obtain ⟨-,-,-,qo,kQ,wJ,wK,wL,wM,wO,qP,qQ,qR⟩:=M.out.c13
     go_wp2_with fail
     clear aA qo kQ wJ wK wL wM wO qP qQ qR
     ((with_reducible refine (Jj m.dflt _ _ _ _ (Lh.out.on hb)).mono ?_);rintro e DU ⟨rfl,NH⟩)
     obtain ⟨T,M,TW⟩:=b3 T M TW NH
     replace hb:=dT hb NH
     clear NH
     cases hbl:iH m.dflt kJ with
     | true =>
      have Hm:Hid (fF (decide (x.kind=6)) m=true):=by show _=_;unfold fF;rw [JG.out,Ru.out,Rw.out,hbl];rfl
      clear hbl
      go_wp2_with fail
      go_roundw
      case rel => exact ⟨k+1,by omega,by go_num,by rw [HAL.out,Hm.out,Bool.and_true];exact tZ.out,TW.out.now,T.out,hb⟩
      case measure => simp [intOf];omega
     | false =>
      have Hm:Hid (fF (decide (x.kind=6)) m=false):=by show _=_;unfold fF;rw [JG.out,Ru.out,Rw.out,hbl];simp
      clear hbl
      have Hno:Hid (fU x=false):=sS x m xU.out Hm.out
      have aA:=T.out.e0
      go_wp2_with fail
      go_ret
      exact ⟨au Hno.out.symm,hb⟩
    have tun:(x.kind == 6)=false:=by simpa using hun
    have JG:Hid (decide (x.kind=6)=false):=decide_eq_false hun
    clear hun
    rcases hhd with hhd | hhd
    ·
     rcases hcr with hcr | hcr
     ·
      have Hm:Hid (fF (decide (x.kind=6)) m=false):=by show _=_;unfold fF;rw [JG.out,hhd,hcr];rfl
      have aA:=T.out.e0
      have qo:=M.out.e3
      have kQ:=M.out.e4
      have Hno:Hid (fU x=false):=sS x m xU.out Hm.out
      go_wp2_with fail
      go_ret
      exact ⟨au Hno.out.symm,hb⟩
     have Hm:Hid (fF (decide (x.kind=6)) m=true):=by show _=_;unfold fF;rw [JG.out,hhd,hcr];rfl
     have aA:=T.out.e0
     have qo:=M.out.e3
     have kQ:=M.out.e4
     go_wp2_with fail
     go_roundw
     case rel => exact ⟨k+1,by omega,by go_num,by rw [HAL.out,Hm.out,Bool.and_true];exact tZ.out,TW.out.now,T.out,hb⟩
     case measure => simp [intOf];omega
    rcases hcr with hcr | hcr
    ·
     have Ru:=Lib.hid hcr
     have Rw:=Lib.hid hhd
     have aA:=T.out.e0
     obtain ⟨-,-,-,qo,kQ,wJ,wK,wL,wM,wO,qP,qQ,qR⟩:=M.out.c13
     go_wp2_with fail
     clear aA qo kQ wJ wK wL wM wO qP qQ qR
     ((with_reducible refine (Jj m.dflt _ _ _ _ (Lh.out.on hb)).mono ?_);rintro e YH ⟨rfl,ND⟩)
     obtain ⟨T,M,TW⟩:=b3 T M TW ND
     replace hb:=dT hb ND
     clear ND
     cases hbl:iH m.dflt kJ with
     | true =>
      have Hm:Hid (fF (decide (x.kind=6)) m=true):=by show _=_;unfold fF;rw [JG.out,Ru.out,Rw.out,hbl];rfl
      clear hbl
      go_wp2_with fail
      go_roundw
      case rel => exact ⟨k+1,by omega,by go_num,by rw [HAL.out,Hm.out,Bool.and_true];exact tZ.out,TW.out.now,T.out,hb⟩
      case measure => simp [intOf];omega
     | false =>
      have Hm:Hid (fF (decide (x.kind=6)) m=false):=by show _=_;unfold fF;rw [JG.out,Ru.out,Rw.out,hbl];simp
      clear hbl
      have Hno:Hid (fU x=false):=sS x m xU.out Hm.out
      have aA:=T.out.e0
      go_wp2_with fail
      go_ret
      exact ⟨au Hno.out.symm,hb⟩
    have Ru:=Lib.hid hcr
    have Rw:=Lib.hid hhd
    have aA:=T.out.e0
    obtain ⟨-,-,-,qo,kQ,wJ,wK,wL,wM,wO,qP,qQ,qR⟩:=M.out.c13
    go_wp2_with fail
    clear aA qo kQ wJ wK wL wM wO qP qQ qR
    ((with_reducible refine (Jj m.dflt _ _ _ _ (Lh.out.on hb)).mono ?_);rintro e Jb ⟨rfl,NC⟩)
    obtain ⟨T,M,TW⟩:=b3 T M TW NC
    replace hb:=dT hb NC
    clear NC
    cases hbl:iH m.dflt kJ with
    | true =>
     have Hm:Hid (fF (decide (x.kind=6)) m=true):=by show _=_;unfold fF;rw [JG.out,Ru.out,Rw.out,hbl];rfl
     clear hbl
     go_wp2_with fail
     go_roundw
     case rel => exact ⟨k+1,by omega,by go_num,by rw [HAL.out,Hm.out,Bool.and_true];exact tZ.out,TW.out.now,T.out,hb⟩
     case measure => simp [intOf];omega
    | false =>
     have Hm:Hid (fF (decide (x.kind=6)) m=false):=by show _=_;unfold fF;rw [JG.out,Ru.out,Rw.out,hbl];simp
     clear hbl
     have Hno:Hid (fU x=false):=sS x m xU.out Hm.out
     have aA:=T.out.e0
     go_wp2_with fail
     go_ret
     exact ⟨au Hno.out.symm,hb⟩
  obtain rfl:k=x.aj.length:=by omega
  rw [List.take_of_length_le (Nat.le_refl _)] at hall
  rw [List.take_of_length_le (by simp)] at htw
  have hlm:(x.aj.map aO).length=x.aj.length:=by simp
  obtain ⟨S3,c3,rfl⟩:=aF htw.o1
  obtain ⟨S4,c4,rfl⟩:=aF htw.o2
  have hr1:=Rd.pq htw.o1
  have hr2:=Rd.pq htw.o2
  have ail:∀ W,Below wr.heap.size wr W→Calls Tryz.prog 155 #[.slice S3 x.aj.length c3,.slice S4 x.aj.length c4] W fun e w' => e = .returned (.bool (kG (x.aj.map aO)))∧Below W.heap.size W w':=fun W hW =>
   VW (x.aj.map aO) _ _ W (by omega) F8.out (by rw [hlm];exact (hr1.below hW).mono hW.size) (by rw [hlm];exact (hr2.below hW).mono hW.size)
  have HI:=Lib.hid ail
  have hmb:fU x=((decide (x.kind=5) || decide (0 < x.aj.length)) && kG (x.aj.map aO)):=by unfold fU;rw [hall];rfl
  clear htw hr1 hr2 ail hall hlm
  replace T:=Lib.hid T
  by_cases h5:x.kind=5
  ·
   have t5:(x.kind == 5)=true:=by simp [h5]
   have Hs:Hid (fU x=kG (x.aj.map aO)):=by show _=_;rw [hmb,decide_eq_true h5];rfl
   clear hmb h5
   have aA:=T.out.e0
   go_wp2_with fail
   clear aA
   ((with_reducible refine (HI.out _ (Below.refl _ _)).mono ?_);rintro e UR ⟨rfl,qG⟩)
   replace T:=b1 T qG
   replace hb:=dT hb qG
   clear qG
   go_wp2_with fail
   go_ret
   exact ⟨au Hs.out.symm,hb⟩
  have t5:(x.kind == 5)=false:=by simpa using h5
  by_cases h0:x.aj.length=0
  ·
   have Hs:Hid (fU x=false):=by show _=_;rw [hmb,decide_eq_false h5,h0];rfl
   have hd:decide (0 < x.aj.length)=false:=decide_eq_false (by omega)
   have Hn:=Lib.hid h0
   clear hmb h5 h0
   have aA:=T.out.e0
   go_wp2_with fail
   go_ret
   exact ⟨au Hs.out.symm,hb⟩
  have Hs:Hid (fU x=kG (x.aj.map aO)):=by show _=_;rw [hmb,decide_eq_true (show 0 < x.aj.length by omega),Bool.or_true];rfl
  have hd:decide (0 < x.aj.length)=true:=decide_eq_true (by omega)
  have hd2:(0:Int) < x.aj.length:=by omega
  clear hmb h5 h0
  have aA:=T.out.e0
  go_wp2_with fail
  clear aA
  ((with_reducible refine (HI.out _ (Below.refl _ _)).mono ?_);rintro e Jc ⟨rfl,FD⟩)
  replace T:=b1 T FD
  replace hb:=dT hb FD
  clear FD
  go_wp2_with fail
  go_ret
  exact ⟨au Hs.out.symm,hb⟩
end Go.Proofs.YthkfapcadhnaeaaGreatDoor
