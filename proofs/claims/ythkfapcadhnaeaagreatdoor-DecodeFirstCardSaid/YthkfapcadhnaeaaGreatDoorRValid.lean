/- What sheaveref07.Valid computes. No condition. -/
import Derived.Test.YthkfapcadhnaeaaGreatDoorOwn
import Derived.Test.YthkfapcadhnaeaaGreatDoorHAQ
import Derived.Test.YthkfapcadhnaeaaGreatDoorValid
import Derived.Test.YthkfapcadhnaeaaGreatDoorHAI
set_option maxHeartbeats 4000000
namespace Go.Proofs.YthkfapcadhnaeaaGreatDoor
open Go.ChangeShapes Go.WideShapes Go.ChangeAt Go.RowKit
theorem Rx {x:aC} (h:dH x=true):fJ x.kind:=by
 unfold dH at h;unfold fJ
 simp only [Bool.and_eq_true,decide_eq_true_eq] at h
 exact h.1
theorem ag0 {l:List UInt8} (h:nameB l=true):l≠[]:=by
 rintro rfl
 rw [Qm [] (.inl rfl)] at h;cases h
theorem ab6 {x:aC} (h:dH x=true):lQ x.kind=true↔x.name≠[]:=by
 have hk:=Rx h
 rw [qw x hk] at h
 simp only [Bool.and_eq_true] at h
 obtain ⟨h1,h2⟩:=h
 unfold rM at h1
 unfold gy fQ at h2
 unfold lQ
 rcases sN hk with k | k | k | k | k | k | k | k | k <;> simp [k] at h1 h2 ⊢ <;> first | exact ag0 h1.1 | (simp [fZ] at h2;simp [h2])
theorem WJ (L:List (List UInt8)) (q:Nat) (h:q < L.length) (n:List UInt8) (h1:(L.take q).contains n=false) (h2:¬ L[q]=n):(L.take (q+1)).contains n=false:=by
 rw [List.take_succ_eq_append_getElem h,List.contains_eq_mem] at *
 simp only [List.mem_append,List.mem_singleton,decide_eq_false_iff_not] at *
 rintro (h3 | h3)
 · exact h1 h3
 exact h2 h3.symm
theorem aei (L:List (List UInt8)) (q k:Nat) (h:q < L.length) (hk:q < k) (n:List UInt8) (h2:L[q]=n):(L.take k).contains n=true:=by
 rw [List.contains_eq_mem,decide_eq_true_eq,← h2]
 rw [List.mem_take_iff_getElem]
 exact ⟨q,by omega,rfl⟩
set_option maxRecDepth 100000 in
theorem ZI (ts:List aC) (A:Option Addr) (c:Nat) (w:World) (hs:Sizes ts) (ht:bG w w.heap.size (.slice A ts.length c) ts) :
  Calls Tryz.prog 59 #[.agg #[.slice A ts.length c]] w fun e w' => e = .returned (.int .i64 (eY ts))∧Below w.heap.size w w':=by
 have HT:=Lib.hid ht
 have HS:=Lib.hid hs
 by_cases h32:32 < ts.length
 ·
  have Hv:Hid (eY ts=3):=by show _=_;unfold eY;rw [if_pos h32]
  have hd:(32:Int) < ts.length:=by omega
  have hd2:decide ((32:Int) < ts.length)=true:=decide_eq_true hd
  clear ht hs
  go_enter Tryz.func59,Tryz.ntmps59
  go_upto_region 1 with fail
  generalize dJ:w.alloc _=wd2
  have ⟨hb1,S⟩:=bH dJ
  clear dJ
  have hw4:=hb1
  clear hb1
  have ay:=S.out.e0
  go_wp2_with fail
  go_ret
  exact ⟨aV (Hv.out.symm),hw4⟩
 have Hv:Hid (eY ts=jE ts ts []):=by show _=_;unfold eY;rw [if_neg h32]
 have hd:(ts.length:Int)≤32:=by omega
 have hd2:decide ((32:Int) < ts.length)=false:=decide_eq_false (by omega)
 clear hs h32
 by_cases hz:ts.length=0
 ·
  have QJ:Hid (eY ts=0):=by show _=_;rw [Hv.out,List.eq_nil_of_length_eq_zero hz,jE]
  rw [hz]
  clear ht hd hd2
  go_enter Tryz.func59,Tryz.ntmps59
  go_upto_region 1 with fail
  generalize iT:w.alloc _=wV
  have ⟨hb5,S⟩:=bH iT
  clear iT
  have hw8:=hb5
  clear hb5
  have ay:=S.out.e0
  go_wp2_with fail
  refine wp_loop_rounds 1 ?_
  rw [rounds_succ]
  go_wp2_with fail
  go_ret
  exact ⟨aV QJ.out.symm,hw8⟩
 obtain ⟨b,o,rfl,hbb,hel⟩:=ht.elem (by omega)
 have BP:=Lib.hid hel
 clear ht hel
 go_enter Tryz.func59,Tryz.ntmps59
 go_upto_region 1 with fail
 generalize jZ:w.alloc _=kE
 have ⟨zB,S⟩:=bH jZ
 clear jZ
 have jS:=zB
 clear zB
 have ay:=S.out.e0
 have vM:=Lib.hid S.out
 have hB0:=jS
 go_wp2_with fail
 clear ay
 go_loopw [3] (fun i wr => ∃ k:Nat,k≤ts.length∧i = .int .i64 k∧Has wr w.heap.size 24 #[.slice (some ⟨b,o,none⟩) ts.length c]∧jE ts ts []=jE ts (ts.drop k) ((ts.take k).map aC.name)∧Below w.heap.size w wr) (fun i _ => ts.length - (intOf i).toNat)
 case atStart => exact ⟨0,by omega,rfl,vM.out,rfl,hB0⟩
 case round =>
  clear S hB0 vM
  obtain ⟨k,hk,rfl,S,hvk,hw⟩:=hrel
  replace S:=Lib.hid S
  by_cases hlt:k < ts.length
  ·
   obtain ⟨vs,vm,hcells,hxa⟩:=BP.out k hlt
   have hsz:=HS.out _ (List.getElem_mem hlt)
   have ES:=Lib.hid (Lr ts k hlt)
   rw [List.drop_eq_getElem_cons hlt] at hvk
   obtain ⟨x,hxq⟩ : ∃ x,ts[k]=x:=⟨_,rfl⟩
   rw [hxq] at hcells hxa hsz ES hvk
   clear hxq
   obtain ⟨C1,m1,C2,m2,rfl,rfl,-,-⟩:=hxa.forms
   obtain ⟨c0,c1,c2,c3,c4,c5,c6,c7,c8,c9⟩:=hcells.below hw hbb
   have OO:=Lib.hid hxa
   have vN:=Lib.hid hvk
   have hi1:(k:Int) < ts.length:=by omega
   have hi0:(0:Int)≤(k:Int):=by omega
   have hnl:=hxa.EI
   clear hxa hvk hcells
   have ay:=S.out.e0
   go_upto_region 7 with fail
   clear ay
   generalize ng:wr.alloc _=xP
   have ⟨qL,X⟩:=bH ng
   clear ng
   have PV:=S.out.here
   have PG:=hw.size
   replace S:=b1 S qL
   replace hw:=dT hw qL
   clear qL
   generalize wr.heap.size=g16 at *
   clear c0 c1 c2 c3 c4 c5 c6 c7 c8 c9
   obtain ⟨aI,bI,bQ,bT,bW,dD,bK,bJ,bZ,bM⟩:=X.out.c10
   go_wp2_with fail
   clear aI bI bQ bT bW dD bK bJ bZ bM
   ((with_reducible refine (agZ x _ _ _ (OO.out.on hw)).mono ?_);rintro e nY ⟨rfl,jw⟩)
   obtain ⟨S,X⟩:=b2 S X jw
   replace hw:=dT hw jw
   clear jw
   cases hf:dH x with
   | false =>
    have Hr:Hid (eY ts=1):=by show _=_;rw [Hv.out,vN.out,yM ts _ x _ (.inl hf)]
    clear hf
    go_wp2_with fail
    go_ret
    exact ⟨aV (Hr.out.symm),hw⟩
   | true =>
    have hfn:=ab6 hf
    have HKI:=Lib.hid (Rx hf)
    have Hf:=Lib.hid hf
    clear hf
    cases hnm:lQ x.kind with
    | false =>
     have hnn:x.name = []:=by
      rcases Classical.em (x.name = []) with h | h
      · exact h
      rw [hfn.2 h] at hnm;cases hnm
     have xq:Hid (¬ (dH x=false∨(x.name≠[]∧((ts.take k).map aC.name).contains x.name=true))):=fun h => by
      rcases h with h | h
      · rw [Hf.out] at h;cases h
      exact h.1 hnn
     clear hnn hfn
     have HN:=Lib.hid (fun W => Ig x.kind W)
     rw [hnm] at HN
     have HX0:=Lib.hid X.out
     have vM:=Lib.hid S.out
     have hB0:=hw
     obtain ⟨gX,Rj⟩ : ∃ g,g=g16:=⟨_,rfl⟩
     subst Rj
     go_wp2_with fail
     go_loopw [5] (fun j ws => ∃ q:Nat,q≤k∧j = .int .i64 q∧True∧Has ws w.heap.size 24 #[.slice (some ⟨b,o,none⟩) ts.length c]∧Has ws gX 69 #[.int .i64 x.kind,.string ⟨x.name.toArray⟩,.int .i64 x.low,.int .i64 x.high,.int .i64 x.max,.slice C1 x.syms.length m1,.slice C2 x.aj.length m2,.int .i64 x.key,.int .i64 x.elem,.bool x.opn]∧Below w.heap.size w ws) (fun j _ => k - (intOf j).toNat)
     case atStart => exact ⟨0,by omega,rfl,trivial,vM.out,HX0.out,hB0⟩
     case round =>
      clear X S HX0 vM hB0
      obtain ⟨q,hq,rfl,hnc,S,X,hb⟩:=hrel
      replace S:=Lib.hid S
      replace X:=Lib.hid X
      by_cases hqk:q < k
      ·
       have nD:q < ts.length:=by omega
       have hq1:(q:Int) < k:=by omega
       have hq2:(q:Int) < ts.length:=by omega
       have hq0:(0:Int)≤(q:Int):=by omega
       have aI:=X.out.e0
       go_upto_region 12 with fail
       refine wp_region_held_drew (S:=(fun w' => w'.cell? ⟨gX,0,none⟩=some (.int .i64 x.kind)∧(∀ (b o:Nat),b < w.heap.size→w'.cell? ⟨b,o,none⟩=w.cell? ⟨b,o,none⟩))) (by kernel_rfl) ⟨aI,(fun b o hlt => hb.cell (p:=⟨b,o,none⟩) hlt)⟩ (fun hHeld => ?_)
       clear aI
       have mQ:Below wr.heap.size wr (wr.drew):=(Below.refl _ _).drew
       obtain ⟨S,X⟩:=b2 S X mQ
       replace hb:=dT hb mQ
       clear mQ
       generalize wr.drew=rC at *
       refine tk (i:=0) (v := ?k23) ?_
       simp only [ah]
       refine tk (i:=1) (v := ?k24) ?_
       simp only [ah]
       refine fH (i:=2) (fun K hK => ?_)
       go_simp
       ((with_reducible refine (HN.out _).mono ?_);rintro e Bj ⟨rfl,rfl⟩)
       try clear hHeld
       refine hK.out _ _ (⟨X.out.cell 0,(fun b o hlt => hb.cell (p:=⟨b,o,none⟩) hlt)⟩) (fun hHeld => ?_)
       clear hK K
       refine tk (i:=3) (v := ?k27) ?_
       simp only [ah]
       refine tks (i:=4) ?_
       simp only [ah]
       refine tks (i:=5) ?_
       simp only [ah]
       refine tks (i:=6) ?_
       simp only [ah]
       refine tks (i:=7) ?_
       simp only [ah]
       refine tks (i:=8) ?_
       simp only [ah]
       refine tks (i:=9) ?_
       simp only [ah]
       refine tks (i:=10) ?_
       simp only [ah]
       refine tks (i:=11) ?_
       simp only [ah]
       refine tks (i:=12) ?_
       simp only [ah]
       refine tk (i:=13) (v := ?k28) ?_
       simp only [ah]
       refine wpAnyH_done (by kernel_rfl) ?_ _
       try clear hHeld
       go_wp2_with fail
       go_roundw
       case rel => exact ⟨q+1,by omega,by go_num,trivial,S.out,X.out,hb⟩
       case measure => simp [intOf];omega
      obtain rfl:k=q:=by omega
      clear hnc
      obtain ⟨aI,bI,bQ,bT,bW,dD,bK,bJ,bZ,bM⟩:=X.out.c10
      go_wp2_with fail
      clear aI bI bQ bT bW dD bK bJ bZ bM
      ((with_reducible refine (Rl x _ _ _ HKI.out hsz.2 (OO.out.on hb)).mono ?_);rintro e Bo ⟨vu,rfl,nI,wQ⟩)
      obtain ⟨S,X⟩:=b2 S X wQ
      replace hb:=dT hb wQ
      clear wQ
      have WL:=Iq x hsz.2
      have F8:=Lib.hid (Jf x)
      obtain ⟨l,hlq⟩ : ∃ l,jm x=l:=⟨_,rfl⟩
      rw [hlq] at nI WL F8
      have JL:=Lib.hid hlq
      obtain ⟨Au,cu,rfl,_⟩:=nI.form
      clear hlq
      have HX0:=Lib.hid X.out
      have vM:=Lib.hid S.out
      have hB0:=hb
      have HU0:=Lib.hid nI
      clear nI
      go_wp2_with fail
      go_loopw [7] (fun j ws => ∃ q:Nat,q≤l.length∧j = .int .i64 q∧(l.take q).all (inB ts.length)=true∧Has ws w.heap.size 24 #[.slice (some ⟨b,o,none⟩) ts.length c]∧Has ws gX 69 #[.int .i64 x.kind,.string ⟨x.name.toArray⟩,.int .i64 x.low,.int .i64 x.high,.int .i64 x.max,.slice C1 x.syms.length m1,.slice C2 x.aj.length m2,.int .i64 x.key,.int .i64 x.elem,.bool x.opn]∧Rd ws ws.heap.size 1 (.slice Au l.length cu) l.length (l.map (Value.int .i64))∧Below w.heap.size w ws) (fun j _ => l.length - (intOf j).toNat)
      case atStart => exact ⟨0,by omega,rfl,rfl,vM.out,HX0.out,HU0.out,hB0⟩
      case round =>
       clear X S HX0 vM HU0 hB0
       obtain ⟨q,hq,rfl,hall,S,X,nI,hb⟩:=hrel
       replace S:=Lib.hid S
       replace X:=Lib.hid X
       by_cases nD:q < l.length
       ·
        obtain ⟨bu,ou,rfl,hbu,JM⟩:=nI.at_ (by omega)
        have cu0:=ints_at JM q nD
        have hmem:=List.getElem_mem nD
        have htk:(l.take (q+1)).all (inB ts.length)=((l.take q).all (inB ts.length) && inB ts.length l[q]):=by rw [List.take_succ_eq_append_getElem nD,List.all_append];simp
        have hq1:(q:Int) < l.length:=by omega
        have hq0:(0:Int)≤(q:Int):=by omega
        generalize l[q]=u at *
        clear JM
        cases hin:inB ts.length u with
        | true =>
         obtain ⟨un,rfl,hun⟩:=vW hin
         have tZ:Hid ((l.take (q+1)).all (inB ts.length)=true):=by show _=_;rw [htk,hall,hin];rfl
         have hu0:decide ((un:Int) < 0)=false:=decide_eq_false (by omega)
         have hu1:decide (ts.length≤un)=false:=decide_eq_false (by omega)
         have hu2:decide ((ts.length:Int)≤(un:Int))=false:=decide_eq_false (by omega)
         have HRU:=Lib.hid nI
         clear hall htk hin hmem nI
         have ay:=S.out.e0
         go_upto_region 18 with fail
         go_quiet (fail)
         go_wp2_with fail
         go_roundw
         case rel => exact ⟨q+1,by omega,by go_num,tZ.out,S.out.drewN _,X.out.drewN _,HRU.out.keep (fun _ _ => rfl),below_drewN hb _⟩
         case measure => simp [intOf];omega
        | false =>
         have Hr:Hid (eY ts=4):=by show _=_;rw [Hv.out,vN.out,vk4 ts _ x _ xq.out (by rw [JL.out];exact KC l _ u hmem hin)]
         by_cases hu0:u < 0
         ·
          have hu1:decide (u < 0)=true:=decide_eq_true hu0
          clear hall htk hin hmem nI
          have ay:=S.out.e0
          go_upto_region 18 with fail
          go_quiet (fail)
          go_wp2_with fail
          go_ret
          exact ⟨aV Hr.out.symm,below_drewN hb _⟩
         obtain ⟨un,rfl⟩ : ∃ un:Nat,u=un:=⟨u.toNat,by omega⟩
         have hu2:ts.length≤un:=by
          rcases Nat.lt_or_ge un ts.length with h | h
          · exfalso;unfold inB at hin;simp at hin;omega
          exact h
         have hu1:decide ((un:Int) < 0)=false:=decide_eq_false (by omega)
         have hu3:decide (ts.length≤un)=true:=decide_eq_true hu2
         have hu4:decide ((ts.length:Int)≤(un:Int))=true:=decide_eq_true (by omega)
         clear hall htk hin hmem hu0 nI
         have ay:=S.out.e0
         go_upto_region 18 with fail
         go_quiet (fail)
         go_wp2_with fail
         go_ret
         exact ⟨aV Hr.out.symm,below_drewN hb _⟩
       obtain rfl:q=l.length:=by omega
       rw [List.take_of_length_le (Nat.le_refl _)] at hall
       have vO:Hid ((jm x).all (inB ts.length)=true):=by show _=_;rw [JL.out];exact hall
       clear nI
       by_cases h8:x.kind=8
       ·
        have t8:(x.kind == 8)=true:=by simp [h8]
        obtain ⟨kn,hkn,hkl⟩:=vW (List.all_eq_true.1 hall x.key (F8.out h8))
        have hko:=Ir ts x kn hkl hkn
        obtain ⟨ys,ym,ET,-⟩:=BP.out kn hkl
        have d0:=((hb).cell (p:=⟨b,_,none⟩) hbb).trans ET.1
        have aej:(kn:Int) < ts.length:=by omega
        have anc:(0:Int)≤(kn:Int):=by omega
        have H8:=Lib.hid h8
        have ay:=S.out.e0
        have aI:=X.out.e0
        have bJ:=X.out.e7
        rw [hkn] at bJ
        have HK:=fun W => Lj ts[kn].kind W
        generalize ts[kn].kind=yk at *
        have HK:=Lib.hid HK
        clear hall h8 ET hkn
        cases hy:(decide (1≤yk) && decide (yk≤4)) with
        | false =>
         have Hr:Hid (eY ts=1):=by show _=_;rw [Hv.out,vN.out,Me ts _ x _ xq.out vO.out ⟨H8.out,by rw [hko,hy]⟩]
         rw [hy] at HK
         clear hko hy
         go_wp2_with fail
         clear ay aI bJ
         ((with_reducible refine (HK.out _).mono ?_);rintro e wP ⟨rfl,rfl⟩)
         go_wp2_with fail
         go_ret
         exact ⟨aV Hr.out.symm,hb⟩
        | true =>
         have Ee:Hid (¬ (x.kind=8∧uj ts x=false)):=fun h => by
          have h2:=h.2
          rw [hko,hy] at h2
          cases h2
         rw [hy] at HK
         clear hko hy
         go_wp2_with fail
         clear ay aI bJ
         ((with_reducible refine (HK.out _).mono ?_);rintro e mW ⟨rfl,rfl⟩)
         go_wp2_with fail
         go_roundw
         case rel => exact ⟨k+1,by omega,by go_num,S.out,by rw [vN.out,Oi ts _ x _ xq.out vO.out Ee.out,ES.out],hb⟩
         case measure => simp [intOf];omega
       have t8:(x.kind == 8)=false:=by simpa using h8
       have Ee:Hid (¬ (x.kind=8∧uj ts x=false)):=fun h => h8 h.1
       clear hall h8
       have aI:=X.out.e0
       go_wp2_with fail
       go_roundw
       case rel => exact ⟨k+1,by omega,by go_num,S.out,by rw [vN.out,Oi ts _ x _ xq.out vO.out Ee.out,ES.out],hb⟩
       case measure => simp [intOf];omega
    | true =>
     have hne:=hfn.1 hnm
     clear hfn
     have HN:=Lib.hid (fun W => Ig x.kind W)
     rw [hnm] at HN
     have HX0:=Lib.hid X.out
     have vM:=Lib.hid S.out
     have hB0:=hw
     obtain ⟨gX,Rj⟩ : ∃ g,g=g16:=⟨_,rfl⟩
     subst Rj
     go_wp2_with fail
     go_loopw [5] (fun j ws => ∃ q:Nat,q≤k∧j = .int .i64 q∧((ts.map aC.name).take q).contains x.name=false∧Has ws w.heap.size 24 #[.slice (some ⟨b,o,none⟩) ts.length c]∧Has ws gX 69 #[.int .i64 x.kind,.string ⟨x.name.toArray⟩,.int .i64 x.low,.int .i64 x.high,.int .i64 x.max,.slice C1 x.syms.length m1,.slice C2 x.aj.length m2,.int .i64 x.key,.int .i64 x.elem,.bool x.opn]∧Below w.heap.size w ws) (fun j _ => k - (intOf j).toNat)
     case atStart => exact ⟨0,by omega,rfl,rfl,vM.out,HX0.out,hB0⟩
     case round =>
      clear X S HX0 vM hB0
      obtain ⟨q,hq,rfl,hnc,S,X,hb⟩:=hrel
      replace S:=Lib.hid S
      replace X:=Lib.hid X
      by_cases hqk:q < k
      ·
       have nD:q < ts.length:=by omega
       have hq1:(q:Int) < k:=by omega
       have hq2:(q:Int) < ts.length:=by omega
       have hq0:(0:Int)≤(q:Int):=by omega
       obtain ⟨ys,ym,ET,-⟩:=BP.out q nD
       have y1:=ET.2.1
       obtain ⟨p,hp⟩ : ∃ p,ts[q].name=p:=⟨_,rfl⟩
       rw [hp] at y1
       clear ET
       by_cases hps:p=x.name
       ·
        have BM:(p == x.name)=true:=by simp [hps]
        have hin:=aei (ts.map aC.name) q k (by simpa using nD) hqk x.name (by simpa [hp] using hps)
        rw [← List.map_take] at hin
        have Hr:Hid (eY ts=1):=by show _=_;rw [Hv.out,vN.out,yM ts _ x _ (.inr ⟨hne,hin⟩)]
        have Hp:=Lib.hid hp
        clear hin hps hnc hp
        have ay:=S.out.e0
        have aI:=X.out.e0
        have bI:=X.out.e1
        go_upto_region 12 with fail
        refine wp_region_held_drew (S:=(fun w' => w'.cell? ⟨w.heap.size,0,none⟩=some (.slice (some ⟨b,o,none⟩) ts.length c)∧w'.cell? ⟨gX,0,none⟩=some (.int .i64 x.kind)∧w'.cell? ⟨gX,1,none⟩=some (.string ⟨x.name.toArray⟩)∧(∀ (b o:Nat),b < w.heap.size→w'.cell? ⟨b,o,none⟩=w.cell? ⟨b,o,none⟩))) (by kernel_rfl) ⟨ay,aI,bI,(fun b o hlt => hb.cell (p:=⟨b,o,none⟩) hlt)⟩ (fun hHeld => ?_)
        clear ay aI bI
        have jL:Below wr.heap.size wr (wr.drew):=(Below.refl _ _).drew
        obtain ⟨S,X⟩:=b2 S X jL
        replace hb:=dT hb jL
        clear jL
        generalize wr.drew=o9 at *
        refine tk (i:=0) (v := ?k37) ?_
        simp only [ah]
        refine tk (i:=1) (v := ?k38) ?_
        simp only [ah]
        refine fH (i:=2) (fun K hK => ?_)
        go_simp
        ((with_reducible refine (HN.out _).mono ?_);rintro e MN ⟨rfl,rfl⟩)
        try clear hHeld
        refine hK.out _ _ (⟨S.out.cell 0,⟨X.out.cell 0,⟨X.out.cell 1,(fun b o hlt => hb.cell (p:=⟨b,o,none⟩) hlt)⟩⟩⟩) (fun hHeld => ?_)
        clear hK K
        refine tk (i:=3) (v := ?Xk) ?_
        simp only [ah]
        refine tk (i:=4) (v := ?Xl) ?_
        simp only [ah]
        refine tk (i:=5) (v := ?k43) ?_
        simp only [ah]
        refine tk (i:=6) (v := ?k44) ?_
        simp only [ah]
        refine tk (i:=7) (v := ?k45) ?_
        simp only [ah]
        refine tk (i:=8) (v := ?k46) ?_
        simp only [ah]
        refine tk (i:=9) (v := ?k47) ?_
        simp only [ah]
        refine tk (i:=10) (v := ?k48) ?_
        simp only [ah]
        refine tk (i:=11) (v := ?k49) ?_
        simp only [ah]
        refine tk (i:=12) (v := ?k50) ?_
        simp only [ah]
        refine tk (i:=13) (v := ?k51) ?_
        simp only [ah]
        refine wpAnyH_done (by kernel_rfl) ?_ _
        try clear hHeld
        clear y1
        go_wp2_with fail
        go_ret
        exact ⟨aV Hr.out.symm,hb⟩
       have BM:(p == x.name)=false:=by simpa using hps
       have JC:Hid (((ts.map aC.name).take (q+1)).contains x.name=false):=WJ (ts.map aC.name) q (by simpa using nD) x.name hnc (by simpa [hp] using hps)
       have Hp:=Lib.hid hp
       clear hps hnc hp
       have ay:=S.out.e0
       have aI:=X.out.e0
       have bI:=X.out.e1
       go_upto_region 12 with fail
       refine wp_region_held_drew (S:=(fun w' => w'.cell? ⟨w.heap.size,0,none⟩=some (.slice (some ⟨b,o,none⟩) ts.length c)∧w'.cell? ⟨gX,0,none⟩=some (.int .i64 x.kind)∧w'.cell? ⟨gX,1,none⟩=some (.string ⟨x.name.toArray⟩)∧(∀ (b o:Nat),b < w.heap.size→w'.cell? ⟨b,o,none⟩=w.cell? ⟨b,o,none⟩))) (by kernel_rfl) ⟨ay,aI,bI,(fun b o hlt => hb.cell (p:=⟨b,o,none⟩) hlt)⟩ (fun hHeld => ?_)
       clear ay aI bI
       have MR:Below wr.heap.size wr (wr.drew):=(Below.refl _ _).drew
       obtain ⟨S,X⟩:=b2 S X MR
       replace hb:=dT hb MR
       clear MR
       generalize wr.drew=adt at *
       refine tk (i:=0) (v := ?k54) ?_
       simp only [ah]
       refine tk (i:=1) (v := ?k55) ?_
       simp only [ah]
       refine fH (i:=2) (fun K hK => ?_)
       go_simp
       ((with_reducible refine (HN.out _).mono ?_);rintro e Bq ⟨rfl,rfl⟩)
       try clear hHeld
       refine hK.out _ _ (⟨S.out.cell 0,⟨X.out.cell 0,⟨X.out.cell 1,(fun b o hlt => hb.cell (p:=⟨b,o,none⟩) hlt)⟩⟩⟩) (fun hHeld => ?_)
       clear hK K
       refine tk (i:=3) (v := ?k58) ?_
       simp only [ah]
       refine tk (i:=4) (v := ?k59) ?_
       simp only [ah]
       refine tk (i:=5) (v := ?k60) ?_
       simp only [ah]
       refine tk (i:=6) (v := ?k61) ?_
       simp only [ah]
       refine tk (i:=7) (v := ?k62) ?_
       simp only [ah]
       refine tk (i:=8) (v := ?k63) ?_
       simp only [ah]
       refine tk (i:=9) (v := ?k64) ?_
       simp only [ah]
       refine tk (i:=10) (v := ?k65) ?_
       simp only [ah]
       refine tk (i:=11) (v := ?k66) ?_
       simp only [ah]
       refine tk (i:=12) (v := ?k67) ?_
       simp only [ah]
       refine tk (i:=13) (v := ?k68) ?_
       simp only [ah]
       refine wpAnyH_done (by kernel_rfl) ?_ _
       try clear hHeld
       clear y1
       go_wp2_with fail
       go_roundw
       case rel => exact ⟨q+1,by omega,by go_num,JC.out,S.out,X.out,hb⟩
       case measure => simp [intOf];omega
      obtain rfl:k=q:=by omega
      have xq:Hid (¬ (dH x=false∨(x.name≠[]∧((ts.take k).map aC.name).contains x.name=true))):=fun h => by
       rcases h with h | h
       · rw [Hf.out] at h;cases h
       rw [List.map_take,hnc] at h;cases h.2
      clear hnc
      obtain ⟨aI,bI,bQ,bT,bW,dD,bK,bJ,bZ,bM⟩:=X.out.c10
      go_wp2_with fail
      clear aI bI bQ bT bW dD bK bJ bZ bM
      ((with_reducible refine (Rl x _ _ _ HKI.out hsz.2 (OO.out.on hb)).mono ?_);rintro e DU ⟨vu,rfl,nI,NH⟩)
      obtain ⟨S,X⟩:=b2 S X NH
      replace hb:=dT hb NH
      clear NH
      have WL:=Iq x hsz.2
      have F8:=Lib.hid (Jf x)
      obtain ⟨l,hlq⟩ : ∃ l,jm x=l:=⟨_,rfl⟩
      rw [hlq] at nI WL F8
      have JL:=Lib.hid hlq
      obtain ⟨Au,cu,rfl,_⟩:=nI.form
      clear hlq
      have HX0:=Lib.hid X.out
      have vM:=Lib.hid S.out
      have hB0:=hb
      have HU0:=Lib.hid nI
      clear nI
      go_wp2_with fail
      go_loopw [7] (fun j ws => ∃ q:Nat,q≤l.length∧j = .int .i64 q∧(l.take q).all (inB ts.length)=true∧Has ws w.heap.size 24 #[.slice (some ⟨b,o,none⟩) ts.length c]∧Has ws gX 69 #[.int .i64 x.kind,.string ⟨x.name.toArray⟩,.int .i64 x.low,.int .i64 x.high,.int .i64 x.max,.slice C1 x.syms.length m1,.slice C2 x.aj.length m2,.int .i64 x.key,.int .i64 x.elem,.bool x.opn]∧Rd ws ws.heap.size 1 (.slice Au l.length cu) l.length (l.map (Value.int .i64))∧Below w.heap.size w ws) (fun j _ => l.length - (intOf j).toNat)
      case atStart => exact ⟨0,by omega,rfl,rfl,vM.out,HX0.out,HU0.out,hB0⟩
      case round =>
       clear X S HX0 vM HU0 hB0
       obtain ⟨q,hq,rfl,hall,S,X,nI,hb⟩:=hrel
       replace S:=Lib.hid S
       replace X:=Lib.hid X
       by_cases nD:q < l.length
       ·
        obtain ⟨bu,ou,rfl,hbu,JM⟩:=nI.at_ (by omega)
        have cu0:=ints_at JM q nD
        have hmem:=List.getElem_mem nD
        have htk:(l.take (q+1)).all (inB ts.length)=((l.take q).all (inB ts.length) && inB ts.length l[q]):=by rw [List.take_succ_eq_append_getElem nD,List.all_append];simp
        have hq1:(q:Int) < l.length:=by omega
        have hq0:(0:Int)≤(q:Int):=by omega
        generalize l[q]=u at *
        clear JM
        cases hin:inB ts.length u with
        | true =>
         obtain ⟨un,rfl,hun⟩:=vW hin
         have tZ:Hid ((l.take (q+1)).all (inB ts.length)=true):=by show _=_;rw [htk,hall,hin];rfl
         have hu0:decide ((un:Int) < 0)=false:=decide_eq_false (by omega)
         have hu1:decide (ts.length≤un)=false:=decide_eq_false (by omega)
         have hu2:decide ((ts.length:Int)≤(un:Int))=false:=decide_eq_false (by omega)
         have HRU:=Lib.hid nI
         clear hall htk hin hmem nI
         have ay:=S.out.e0
         go_upto_region 18 with fail
         go_quiet (fail)
         go_wp2_with fail
         go_roundw
         case rel => exact ⟨q+1,by omega,by go_num,tZ.out,S.out.drewN _,X.out.drewN _,HRU.out.keep (fun _ _ => rfl),below_drewN hb _⟩
         case measure => simp [intOf];omega
        | false =>
         have Hr:Hid (eY ts=4):=by show _=_;rw [Hv.out,vN.out,vk4 ts _ x _ xq.out (by rw [JL.out];exact KC l _ u hmem hin)]
         by_cases hu0:u < 0
         ·
          have hu1:decide (u < 0)=true:=decide_eq_true hu0
          clear hall htk hin hmem nI
          have ay:=S.out.e0
          go_upto_region 18 with fail
          go_quiet (fail)
          go_wp2_with fail
          go_ret
          exact ⟨aV Hr.out.symm,below_drewN hb _⟩
         obtain ⟨un,rfl⟩ : ∃ un:Nat,u=un:=⟨u.toNat,by omega⟩
         have hu2:ts.length≤un:=by
          rcases Nat.lt_or_ge un ts.length with h | h
          · exfalso;unfold inB at hin;simp at hin;omega
          exact h
         have hu1:decide ((un:Int) < 0)=false:=decide_eq_false (by omega)
         have hu3:decide (ts.length≤un)=true:=decide_eq_true hu2
         have hu4:decide ((ts.length:Int)≤(un:Int))=true:=decide_eq_true (by omega)
         clear hall htk hin hmem hu0 nI
         have ay:=S.out.e0
         go_upto_region 18 with fail
         go_quiet (fail)
         go_wp2_with fail
         go_ret
         exact ⟨aV Hr.out.symm,below_drewN hb _⟩
       obtain rfl:q=l.length:=by omega
       rw [List.take_of_length_le (Nat.le_refl _)] at hall
       have vO:Hid ((jm x).all (inB ts.length)=true):=by show _=_;rw [JL.out];exact hall
       clear nI
       by_cases h8:x.kind=8
       ·
        have t8:(x.kind == 8)=true:=by simp [h8]
        obtain ⟨kn,hkn,hkl⟩:=vW (List.all_eq_true.1 hall x.key (F8.out h8))
        have hko:=Ir ts x kn hkl hkn
        obtain ⟨ys,ym,ET,-⟩:=BP.out kn hkl
        have d0:=((hb).cell (p:=⟨b,_,none⟩) hbb).trans ET.1
        have aej:(kn:Int) < ts.length:=by omega
        have anc:(0:Int)≤(kn:Int):=by omega
        have H8:=Lib.hid h8
        have ay:=S.out.e0
        have aI:=X.out.e0
        have bJ:=X.out.e7
        rw [hkn] at bJ
        have HK:=fun W => Lj ts[kn].kind W
        generalize ts[kn].kind=yk at *
        have HK:=Lib.hid HK
        clear hall h8 ET hkn
        cases hy:(decide (1≤yk) && decide (yk≤4)) with
        | false =>
         have Hr:Hid (eY ts=1):=by show _=_;rw [Hv.out,vN.out,Me ts _ x _ xq.out vO.out ⟨H8.out,by rw [hko,hy]⟩]
         rw [hy] at HK
         clear hko hy
         go_wp2_with fail
         clear ay aI bJ
         ((with_reducible refine (HK.out _).mono ?_);rintro e YH ⟨rfl,rfl⟩)
         go_wp2_with fail
         go_ret
         exact ⟨aV Hr.out.symm,hb⟩
        | true =>
         have Ee:Hid (¬ (x.kind=8∧uj ts x=false)):=fun h => by
          have h2:=h.2
          rw [hko,hy] at h2
          cases h2
         rw [hy] at HK
         clear hko hy
         go_wp2_with fail
         clear ay aI bJ
         ((with_reducible refine (HK.out _).mono ?_);rintro e Jb ⟨rfl,rfl⟩)
         go_wp2_with fail
         go_roundw
         case rel => exact ⟨k+1,by omega,by go_num,S.out,by rw [vN.out,Oi ts _ x _ xq.out vO.out Ee.out,ES.out],hb⟩
         case measure => simp [intOf];omega
       have t8:(x.kind == 8)=false:=by simpa using h8
       have Ee:Hid (¬ (x.kind=8∧uj ts x=false)):=fun h => h8 h.1
       clear hall h8
       have aI:=X.out.e0
       go_wp2_with fail
       go_roundw
       case rel => exact ⟨k+1,by omega,by go_num,S.out,by rw [vN.out,Oi ts _ x _ xq.out vO.out Ee.out,ES.out],hb⟩
       case measure => simp [intOf];omega
  obtain rfl:k=ts.length:=by omega
  have Hr:Hid (eY ts=0):=by show _=_;rw [Hv.out,hvk,List.drop_eq_nil_of_le (Nat.le_refl _),jE]
  clear hvk
  have ay:=S.out.e0
  go_wp2_with fail
  go_ret
  exact ⟨aV Hr.out.symm,hw⟩
end Go.Proofs.YthkfapcadhnaeaaGreatDoor
