/- What schema.Valid computes. No condition. -/
import Derived.Test.YthkfapcadhnaeaaGreatDoorForm
import Derived.Test.YthkfapcadhnaeaaGreatDoorHAH
set_option maxHeartbeats 4000000
namespace Go.Proofs.YthkfapcadhnaeaaGreatDoor
open Go.ChangeShapes Go.WideShapes Go.ChangeAt Go.RowKit
def inB (n:Nat) (u:Int):Bool:=decide (0≤u) && decide (u < n)
def uj (ts:List aC) (x:aC):Bool:=match fB ts x.key with | some y => decide (1≤y.kind) && decide (y.kind≤4) | none => false
def jE (ts:List aC):List aC→List (List UInt8)→Int
 | [],_ => 0
 | x :: r,S => if dH x=false∨(x.name≠[]∧S.contains x.name=true) then 1
  else if (jm x).all (inB ts.length)=false then 4
  else if x.kind=8∧uj ts x=false then 1
  else jE ts r (S ++ [x.name])
def eY (ts:List aC):Int:=if 32 < ts.length then 3 else jE ts ts []
def Sizes (ts:List aC):Prop := ∀ x ∈ ts,x.syms.length≤6000000000000∧x.aj.length≤6000000000000
theorem kK.kept {w:World} {b n:Nat} {S:List (List UInt8)} (h:kK w b n S):Kept (fun w => kK w b n S) w b (b+1) :=
 ⟨h,fun _ hk => h.keep (hk b (Nat.le_refl _) (Nat.lt_succ_self _)),h.here⟩
theorem Lr (l:List aC) (k:Nat) (h:k < l.length):(l.take k).map aC.name ++ [l[k].name]=(l.take (k+1)).map aC.name:=(yh aC.name l k h).symm
theorem yM (ts r:List aC) (x:aC) (S:List (List UInt8)) (h:dH x=false∨(x.name≠[]∧S.contains x.name=true)):jE ts (x :: r) S=1:=by rw [jE,if_pos h]
theorem vk4 (ts r:List aC) (x:aC) (S:List (List UInt8)) (h:¬ (dH x=false∨(x.name≠[]∧S.contains x.name=true))) (h2:(jm x).all (inB ts.length)=false):jE ts (x :: r) S=4:=by rw [jE,if_neg h,if_pos h2]
theorem Me (ts r:List aC) (x:aC) (S:List (List UInt8)) (h:¬ (dH x=false∨(x.name≠[]∧S.contains x.name=true))) (h2:(jm x).all (inB ts.length)=true) (h3:x.kind=8∧uj ts x=false):jE ts (x :: r) S=1:=by rw [jE,if_neg h,h2,if_neg (by simp),if_pos h3]
theorem Oi (ts r:List aC) (x:aC) (S:List (List UInt8)) (h:¬ (dH x=false∨(x.name≠[]∧S.contains x.name=true))) (h2:(jm x).all (inB ts.length)=true) (h3:¬ (x.kind=8∧uj ts x=false)):jE ts (x :: r) S=jE ts r (S ++ [x.name]):=by rw [jE,if_neg h,h2,if_neg (by simp),if_neg h3]
theorem KC (l:List Int) (n:Nat) (u:Int) (h:u ∈ l) (hb:inB n u=false):l.all (inB n)=false:=by
 rw [List.all_eq_false];exact ⟨u,h,by simp [hb]⟩
theorem Iq (x:aC) (h:x.aj.length≤6000000000000):(jm x).length≤6000000000002:=by
 unfold jm;simp only [List.length_append,List.length_map]
 split <;> split <;> simp <;> omega
theorem Jf (x:aC) (h8:x.kind=8):x.key ∈ jm x:=by
 unfold jm;rw [if_pos h8];simp
theorem vW {n:Nat} {u:Int} (h:inB n u=true):∃ k:Nat,u=k∧k < n:=by
 unfold inB at h
 simp only [Bool.and_eq_true,decide_eq_true_eq] at h
 exact ⟨u.toNat,by omega,by omega⟩
theorem Ir (ts:List aC) (x:aC) (kn:Nat) (hk:kn < ts.length) (h:x.key=kn):uj ts x=(decide (1≤ts[kn].kind) && decide (ts[kn].kind≤4)):=by
 unfold uj fB;rw [h];simp [hk]
set_option maxRecDepth 100000 in
theorem abg (ts:List aC) (A:Option Addr) (c:Nat) (w:World) (hs:Sizes ts) (ht:bG w w.heap.size (.slice A ts.length c) ts) :
  Calls Tryz.prog 68 #[.agg #[.slice A ts.length c]] w fun e w' => e = .returned (.int .i64 (eY ts))∧Below w.heap.size w w':=by
 have HT:=Lib.hid ht
 have HS:=Lib.hid hs
 by_cases h32:32 < ts.length
 ·
  have Hv:Hid (eY ts=3):=by show _=_;unfold eY;rw [if_pos h32]
  have hd:(32:Int) < ts.length:=by omega
  have hd2:decide ((32:Int) < ts.length)=true:=decide_eq_true hd
  clear ht hs
  go_enter Tryz.func68,Tryz.ntmps68
  go_upto_region 1 with fail
  generalize dJ:w.alloc _=wd2
  have ⟨hb1,S⟩:=bH dJ
  clear dJ
  have hw4:=hb1
  clear hb1
  have ay:=S.out.e0
  go_wp2_with fail
  go_ret
  exact ⟨aV Hv.out.symm,hw4⟩
 have Hv:Hid (eY ts=jE ts ts []):=by show _=_;unfold eY;rw [if_neg h32]
 have hd:(ts.length:Int)≤32:=by omega
 have hd2:decide ((32:Int) < ts.length)=false:=decide_eq_false (by omega)
 have hmm:=@run_makeMap Tryz.prog
 clear hs
 by_cases hz:ts.length=0
 ·
  have QJ:Hid (eY ts=0):=by show _=_;rw [Hv.out,List.eq_nil_of_length_eq_zero hz,jE]
  rw [hz]
  clear ht h32 hd hd2
  go_enter Tryz.func68,Tryz.ntmps68
  go_upto_region 1 with fail
  generalize iT:w.alloc _=wV
  have ⟨hb5,S⟩:=bH iT
  clear iT
  have hw8:=hb5
  clear hb5
  have hS0:=S.out.alloc (.map #[] 0)
  have cS:=hS0.cell 0
  simp only [FW] at cS
  have ay:=S.out.e0
  go_wp2_with fail
  refine wp_loop_rounds 1 ?_
  rw [rounds_succ]
  go_wp2_with fail
  go_ret
  exact ⟨aV QJ.out.symm,Nl hw8 (Nat.le_refl _) _⟩
 obtain ⟨b,o,rfl,hbb,hel⟩:=ht.elem (by omega)
 have BP:=Lib.hid hel
 clear ht hel
 go_enter Tryz.func68,Tryz.ntmps68
 go_upto_region 1 with fail
 generalize jZ:w.alloc _=kE
 have ⟨zB,S⟩:=bH jZ
 clear jZ
 have jS:=zB
 clear zB
 have agH:=kK.made kE
 have hS0:=S.out.alloc (.map #[] 0)
 have hlt0:=S.out.here
 have hb0:=Nl jS (Nat.le_refl _) (.map #[] 0)
 have cS:=hS0.cell 0
 simp only [FW] at cS
 have ay:=S.out.e0
 go_upto_region 4 with fail
 clear ay
 generalize kE.alloc (.map #[] 0)=wm at *
 generalize kE.heap.size=gm at *
 have agI:=Lib.hid agH
 have vM:=Lib.hid hS0
 clear hmm agH hS0 S
 go_wp2_with fail
 clear cS
 go_loopw [16] (fun i wr => ∃ k:Nat,k≤ts.length∧i = .int .i64 k∧kK wr gm k ((ts.take k).map aC.name)∧Has wr w.heap.size 24 #[.slice (some ⟨b,o,none⟩) ts.length c]∧jE ts ts []=jE ts (ts.drop k) ((ts.take k).map aC.name)∧Below w.heap.size w wr) (fun i _ => ts.length - (intOf i).toNat)
 case atStart => exact ⟨0,by omega,rfl,agI.out,vM.out,rfl,hb0⟩
 case round =>
  clear hb0 agI vM
  obtain ⟨k,hk,rfl,hset,S,hvk,hw⟩:=hrel
  by_cases hlt:k < ts.length
  ·
   obtain ⟨vs,vm,hcells,hxa⟩:=BP.out k hlt
   have hsz:=HS.out _ (List.getElem_mem hlt)
   have ES:=Lib.hid (Lr ts k hlt)
   rw [List.drop_eq_getElem_cons hlt] at hvk
   generalize ts[k]=x at *
   obtain ⟨C1,m1,C2,m2,rfl,rfl,-,-⟩:=hxa.forms
   obtain ⟨y0,y1,y2,y3,y4,y5,y6,y7,y8,y9⟩:=hcells
   have c0:=(hw.cell (p:=⟨b,_,none⟩) hbb).trans y0
   have c1:=(hw.cell (p:=⟨b,_,none⟩) hbb).trans y1
   have c2:=(hw.cell (p:=⟨b,_,none⟩) hbb).trans y2
   have c3:=(hw.cell (p:=⟨b,_,none⟩) hbb).trans y3
   have c4:=(hw.cell (p:=⟨b,_,none⟩) hbb).trans y4
   have c5:=(hw.cell (p:=⟨b,_,none⟩) hbb).trans y5
   have c6:=(hw.cell (p:=⟨b,_,none⟩) hbb).trans y6
   have c7:=(hw.cell (p:=⟨b,_,none⟩) hbb).trans y7
   have c8:=(hw.cell (p:=⟨b,_,none⟩) hbb).trans y8
   have c9:=(hw.cell (p:=⟨b,_,none⟩) hbb).trans y9
   clear y0 y1 y2 y3 y4 y5 y6 y7 y8 y9
   have OO:=Lib.hid hxa
   have vN:=Lib.hid hvk
   have hi1:(k:Int) < ts.length:=by omega
   have hnl:=hxa.EI
   clear hxa hvk
   replace S:=Lib.hid S
   have M:=Lib.hid (kK.kept hset)
   clear hset
   go_upto_region 7 with fail
   generalize ng:wr.alloc _=xP
   have ⟨qL,X⟩:=bH ng
   clear ng
   have PV:=S.out.here
   have PG:=M.out.le
   have UG:=hw.size
   obtain ⟨S,M⟩:=b2 S M qL
   replace hw:=dT hw qL
   clear qL
   generalize wr.heap.size=g16 at *
   clear c0 c1 c2 c3 c4 c5 c6 c7 c8 c9
   obtain ⟨aI,bI,bQ,bT,bW,dD,bK,bJ,bZ,bM⟩:=X.out.c10
   go_wp2_with fail
   clear aI bI bQ bT bW dD bK bJ bZ bM
   ((with_reducible refine (ady x _ _ _ hsz (OO.out.on hw)).mono ?_);rintro e nS ⟨rfl,mQ⟩)
   obtain ⟨S,X,M⟩:=b3 S X M mQ
   replace hw:=dT hw mQ
   clear mQ
   have hlook:=M.out.now.look x.name (by unfold maxLen;omega)
   cases hf:dH x with
   | false =>
    have Hr:Hid (eY ts=1):=by show _=_;rw [Hv.out,vN.out,yM ts _ x _ (.inl hf)]
    clear hf hlook
    have bI:=X.out.e1
    go_wp2_with fail
    go_ret
    exact ⟨aV Hr.out.symm,hw⟩
   | true =>
    by_cases hn:x.name = []
    ·
     have hie:x.name.isEmpty=true:=by rw [hn];rfl
     have xq:Hid (¬ (dH x=false∨(x.name≠[]∧((ts.take k).map aC.name).contains x.name=true))):=fun h => by
      rcases h with h | h
      · rw [hf] at h;cases h
      exact h.1 hn
     clear hf hlook hn
     have bI:=X.out.e1
     go_upto_region 9 with fail
     have hgW:=M.out.le
     go_upto_region 10 with (at_mapUpdate;refine vY rfl _ _ _ rfl gm k _ rfl M.out.now (by unfold maxLen;omega) x.name rfl rfl (by unfold maxLen;omega) ?_;intro w3 zo hg3)
     have hbm:=Ba hg3 (Nat.le_of_lt hgW) (fun j hj => by cases hj;exact Nat.le_refl _)
     have hkk:∀ q,q < nS.heap.size→some gm≠some q→w3.heap[q]?=nS.heap[q]?:=fun q hq hne => hg3.block q hq (fun e => hne e.symm)
     have hvv:∀ q,some gm=some q→q=gm:=fun q h => by injection h with h;exact h.symm
     clear M
     clear bI
     replace S:=dG S hkk (fun hh => by have:=hvv _ hh;omega)
     replace X:=dG X hkk (fun hh => by have:=hvv _ hh;omega)
     replace hw:=hw.trans (hbm.mono (show w.heap.size≤gm by omega))
     have M:=Lib.hid (kK.kept zo)
     clear zo hg3 hkk hvv hbm hgW
     obtain ⟨aI,bI,bQ,bT,bW,dD,bK,bJ,bZ,bM⟩:=X.out.c10
     go_wp2_with fail
     clear aI bI bQ bT bW dD bK bJ bZ bM
     ((with_reducible refine (VY x _ _ _ hsz.2 (OO.out.on hw)).mono ?_);rintro e rC ⟨vu,rfl,nI,jB⟩)
     obtain ⟨S,X,M⟩:=b3 S X M jB
     replace hw:=dT hw jB
     clear jB
     have WL:=Iq x hsz.2
     have F8:=Lib.hid (Jf x)
     obtain ⟨l,hlq⟩ : ∃ l,jm x=l:=⟨_,rfl⟩
     rw [hlq] at nI WL F8
     have JL:=Lib.hid hlq
     obtain ⟨Au,cu,rfl,_⟩:=nI.form
     clear hlq
     have U:=Lib.hid (Kept.rd (P:=fun w B => Rd w B 1 (.slice Au l.length cu) l.length (l.map (Value.int .i64))) nI (Nat.le_refl _) (fun _ hk => nI.keep hk))
     clear nI
     have ay:=S.out.e0
     have aI:=X.out.e0
     have bJ:=X.out.e7
     go_wp2_with fail
     go_loop [40] (fun j => ∃ q:Nat,q≤l.length∧j = .int .i64 q∧(l.take q).all (inB ts.length)=true) (fun j => l.length - (intOf j).toNat)
     case atStart => exact ⟨0,by omega,rfl,rfl⟩
     case round =>
      obtain ⟨q,hq,rfl,hall⟩:=hrel
      by_cases nD:q < l.length
      ·
       obtain ⟨bu,ou,rfl,hbu,JM⟩:=U.out.now.at_ (by omega)
       have cu0:=ints_at JM q nD
       have hmem:=List.getElem_mem nD
       have htk:(l.take (q+1)).all (inB ts.length)=((l.take q).all (inB ts.length) && inB ts.length l[q]):=by rw [List.take_succ_eq_append_getElem nD,List.all_append];simp
       have hq1:(q:Int) < l.length:=by omega
       generalize l[q]=u at *
       clear JM
       cases hin:inB ts.length u with
       | true =>
        obtain ⟨un,rfl,hun⟩:=vW hin
        have tZ:Hid ((l.take (q+1)).all (inB ts.length)=true):=by show _=_;rw [htk,hall,hin];rfl
        have hu0:decide ((un:Int) < 0)=false:=decide_eq_false (by omega)
        have hu1:decide (ts.length≤un)=false:=decide_eq_false (by omega)
        clear hall htk hin hmem
        go_wp2_with fail
        go_round
        case rel => exact ⟨q+1,by omega,by go_num,tZ.out⟩
        case measure => simp [intOf];omega
       | false =>
        have Hr:Hid (eY ts=4):=by show _=_;rw [Hv.out,vN.out,vk4 ts _ x _ xq.out (by rw [JL.out];exact KC l _ u hmem hin)]
        by_cases hu0:u < 0
        ·
         have hu1:decide (u < 0)=true:=decide_eq_true hu0
         clear hall htk hin hmem
         go_wp2_with fail
         go_ret
         exact ⟨aV Hr.out.symm,hw⟩
        obtain ⟨un,rfl⟩ : ∃ un:Nat,u=un:=⟨u.toNat,by omega⟩
        have hu2:ts.length≤un:=by
         rcases Nat.lt_or_ge un ts.length with h | h
         · exfalso;unfold inB at hin;simp at hin;omega
         exact h
        have hu1:decide ((un:Int) < 0)=false:=decide_eq_false (by omega)
        have hu3:decide (ts.length≤un)=true:=decide_eq_true hu2
        clear hall htk hin hmem hu0
        go_wp2_with fail
        go_ret
        exact ⟨aV Hr.out.symm,hw⟩
      obtain rfl:q=l.length:=by omega
      rw [List.take_of_length_le (Nat.le_refl _)] at hall
      have vO:Hid ((jm x).all (inB ts.length)=true):=by show _=_;rw [JL.out];exact hall
      by_cases h8:x.kind=8
      ·
       have t8:(x.kind == 8)=true:=by simp [h8]
       obtain ⟨kn,hkn,hkl⟩:=vW (List.all_eq_true.1 hall x.key (F8.out h8))
       have hko:=Ir ts x kn hkl hkn
       obtain ⟨ys,ym,ET,-⟩:=BP.out kn hkl
       have d0:=((hw).cell (p:=⟨b,_,none⟩) hbb).trans ET.1
       have aej:(kn:Int) < ts.length:=by omega
       have H8:=Lib.hid h8
       have cX7:=X.out.cell 7
       simp only [FW] at cX7
       rw [hkn] at bJ cX7
       generalize ts[kn].kind=yk at *
       clear hall h8 ET hkn
       by_cases hy1:yk < 1
       ·
        have ty:decide (yk < 1)=true:=decide_eq_true hy1
        have Hr:Hid (eY ts=1):=by show _=_;rw [Hv.out,vN.out,Me ts _ x _ xq.out vO.out ⟨H8.out,by rw [hko,decide_eq_false (by omega)];rfl⟩]
        clear hko
        go_wp2_with fail
        go_ret
        exact ⟨aV Hr.out.symm,hw⟩
       have ty:decide (yk < 1)=false:=decide_eq_false hy1
       by_cases hy4:4 < yk
       ·
        have ty4:decide (4 < yk)=true:=decide_eq_true hy4
        have Hr:Hid (eY ts=1):=by show _=_;rw [Hv.out,vN.out,Me ts _ x _ xq.out vO.out ⟨H8.out,by rw [hko,decide_eq_false (show ¬ yk≤4 by omega)];simp⟩]
        clear hko
        go_wp2_with fail
        go_ret
        exact ⟨aV Hr.out.symm,hw⟩
       have ty4:decide (4 < yk)=false:=decide_eq_false hy4
       have Ee:Hid (¬ (x.kind=8∧uj ts x=false)):=fun h => by
        have h2:=h.2
        rw [hko,decide_eq_true (show 1≤yk by omega),decide_eq_true (show yk≤4 by omega)] at h2
        cases h2
       clear hko
       go_wp2_with fail
       clear ay aI bJ
       go_wp2_with fail
       go_roundw
       case rel => exact ⟨k+1,by omega,by go_num,by have h:=M.out.now;rw [ES.out] at h;exact h,S.out,by rw [vN.out,Oi ts _ x _ xq.out vO.out Ee.out,ES.out],hw⟩
       case measure => simp [intOf];omega
      have t8:(x.kind == 8)=false:=by simpa using h8
      have Ee:Hid (¬ (x.kind=8∧uj ts x=false)):=fun h => h8 h.1
      clear hall h8
      go_wp2_with fail
      clear ay aI bJ
      go_wp2_with fail
      go_roundw
      case rel => exact ⟨k+1,by omega,by go_num,by have h:=M.out.now;rw [ES.out] at h;exact h,S.out,by rw [vN.out,Oi ts _ x _ xq.out vO.out Ee.out,ES.out],hw⟩
      case measure => simp [intOf];omega
    have hie:x.name.isEmpty=false:=by cases hq:x.name with | nil => exact absurd hq hn | cons _ _ => rfl
    cases hc:((ts.take k).map aC.name).contains x.name with
    | true =>
     have Hr:Hid (eY ts=1):=by show _=_;rw [Hv.out,vN.out,yM ts _ x _ (.inr ⟨hn,hc⟩)]
     rw [hc] at hlook
     clear hf hc
     have bI:=X.out.e1
     go_wp2_with fail
     go_ret
     exact ⟨aV Hr.out.symm,hw⟩
    | false =>
     have xq:Hid (¬ (dH x=false∨(x.name≠[]∧((ts.take k).map aC.name).contains x.name=true))):=fun h => by
      rcases h with h | h
      · rw [hf] at h;cases h
      rw [hc] at h;cases h.2
     rw [hc] at hlook
     clear hf hc
     have bI:=X.out.e1
     go_upto_region 9 with fail
     clear hlook
     have hgW:=M.out.le
     go_upto_region 10 with (at_mapUpdate;refine vY rfl _ _ _ rfl gm k _ rfl M.out.now (by unfold maxLen;omega) x.name rfl rfl (by unfold maxLen;omega) ?_;intro w3 zo hg3)
     have hbm:=Ba hg3 (Nat.le_of_lt hgW) (fun j hj => by cases hj;exact Nat.le_refl _)
     have hkk:∀ q,q < nS.heap.size→some gm≠some q→w3.heap[q]?=nS.heap[q]?:=fun q hq hne => hg3.block q hq (fun e => hne e.symm)
     have hvv:∀ q,some gm=some q→q=gm:=fun q h => by injection h with h;exact h.symm
     clear M
     clear bI
     replace S:=dG S hkk (fun hh => by have:=hvv _ hh;omega)
     replace X:=dG X hkk (fun hh => by have:=hvv _ hh;omega)
     replace hw:=hw.trans (hbm.mono (show w.heap.size≤gm by omega))
     have M:=Lib.hid (kK.kept zo)
     clear zo hg3 hkk hvv hbm hgW
     obtain ⟨aI,bI,bQ,bT,bW,dD,bK,bJ,bZ,bM⟩:=X.out.c10
     go_wp2_with fail
     clear aI bI bQ bT bW dD bK bJ bZ bM
     ((with_reducible refine (VY x _ _ _ hsz.2 (OO.out.on hw)).mono ?_);rintro e kF ⟨vu,rfl,nI,pY⟩)
     obtain ⟨S,X,M⟩:=b3 S X M pY
     replace hw:=dT hw pY
     clear pY
     have WL:=Iq x hsz.2
     have F8:=Lib.hid (Jf x)
     obtain ⟨l,hlq⟩ : ∃ l,jm x=l:=⟨_,rfl⟩
     rw [hlq] at nI WL F8
     have JL:=Lib.hid hlq
     obtain ⟨Au,cu,rfl,_⟩:=nI.form
     clear hlq
     have U:=Lib.hid (Kept.rd (P:=fun w B => Rd w B 1 (.slice Au l.length cu) l.length (l.map (Value.int .i64))) nI (Nat.le_refl _) (fun _ hk => nI.keep hk))
     clear nI
     have ay:=S.out.e0
     have aI:=X.out.e0
     have bJ:=X.out.e7
     go_wp2_with fail
     go_loop [40] (fun j => ∃ q:Nat,q≤l.length∧j = .int .i64 q∧(l.take q).all (inB ts.length)=true) (fun j => l.length - (intOf j).toNat)
     case atStart => exact ⟨0,by omega,rfl,rfl⟩
     case round =>
      obtain ⟨q,hq,rfl,hall⟩:=hrel
      by_cases nD:q < l.length
      ·
       obtain ⟨bu,ou,rfl,hbu,JM⟩:=U.out.now.at_ (by omega)
       have cu0:=ints_at JM q nD
       have hmem:=List.getElem_mem nD
       have htk:(l.take (q+1)).all (inB ts.length)=((l.take q).all (inB ts.length) && inB ts.length l[q]):=by rw [List.take_succ_eq_append_getElem nD,List.all_append];simp
       have hq1:(q:Int) < l.length:=by omega
       generalize l[q]=u at *
       clear JM
       cases hin:inB ts.length u with
       | true =>
        obtain ⟨un,rfl,hun⟩:=vW hin
        have tZ:Hid ((l.take (q+1)).all (inB ts.length)=true):=by show _=_;rw [htk,hall,hin];rfl
        have hu0:decide ((un:Int) < 0)=false:=decide_eq_false (by omega)
        have hu1:decide (ts.length≤un)=false:=decide_eq_false (by omega)
        clear hall htk hin hmem
        go_wp2_with fail
        go_round
        case rel => exact ⟨q+1,by omega,by go_num,tZ.out⟩
        case measure => simp [intOf];omega
       | false =>
        have Hr:Hid (eY ts=4):=by show _=_;rw [Hv.out,vN.out,vk4 ts _ x _ xq.out (by rw [JL.out];exact KC l _ u hmem hin)]
        by_cases hu0:u < 0
        ·
         have hu1:decide (u < 0)=true:=decide_eq_true hu0
         clear hall htk hin hmem
         go_wp2_with fail
         go_ret
         exact ⟨aV Hr.out.symm,hw⟩
        obtain ⟨un,rfl⟩ : ∃ un:Nat,u=un:=⟨u.toNat,by omega⟩
        have hu2:ts.length≤un:=by
         rcases Nat.lt_or_ge un ts.length with h | h
         · exfalso;unfold inB at hin;simp at hin;omega
         exact h
        have hu1:decide ((un:Int) < 0)=false:=decide_eq_false (by omega)
        have hu3:decide (ts.length≤un)=true:=decide_eq_true hu2
        clear hall htk hin hmem hu0
        go_wp2_with fail
        go_ret
        exact ⟨aV Hr.out.symm,hw⟩
      obtain rfl:q=l.length:=by omega
      rw [List.take_of_length_le (Nat.le_refl _)] at hall
      have vO:Hid ((jm x).all (inB ts.length)=true):=by show _=_;rw [JL.out];exact hall
      by_cases h8:x.kind=8
      ·
       have t8:(x.kind == 8)=true:=by simp [h8]
       obtain ⟨kn,hkn,hkl⟩:=vW (List.all_eq_true.1 hall x.key (F8.out h8))
       have hko:=Ir ts x kn hkl hkn
       obtain ⟨ys,ym,ET,-⟩:=BP.out kn hkl
       have d0:=((hw).cell (p:=⟨b,_,none⟩) hbb).trans ET.1
       have aej:(kn:Int) < ts.length:=by omega
       have H8:=Lib.hid h8
       have cX7:=X.out.cell 7
       simp only [FW] at cX7
       rw [hkn] at bJ cX7
       generalize ts[kn].kind=yk at *
       clear hall h8 ET hkn
       by_cases hy1:yk < 1
       ·
        have ty:decide (yk < 1)=true:=decide_eq_true hy1
        have Hr:Hid (eY ts=1):=by show _=_;rw [Hv.out,vN.out,Me ts _ x _ xq.out vO.out ⟨H8.out,by rw [hko,decide_eq_false (by omega)];rfl⟩]
        clear hko
        go_wp2_with fail
        go_ret
        exact ⟨aV Hr.out.symm,hw⟩
       have ty:decide (yk < 1)=false:=decide_eq_false hy1
       by_cases hy4:4 < yk
       ·
        have ty4:decide (4 < yk)=true:=decide_eq_true hy4
        have Hr:Hid (eY ts=1):=by show _=_;rw [Hv.out,vN.out,Me ts _ x _ xq.out vO.out ⟨H8.out,by rw [hko,decide_eq_false (show ¬ yk≤4 by omega)];simp⟩]
        clear hko
        go_wp2_with fail
        go_ret
        exact ⟨aV Hr.out.symm,hw⟩
       have ty4:decide (4 < yk)=false:=decide_eq_false hy4
       have Ee:Hid (¬ (x.kind=8∧uj ts x=false)):=fun h => by
        have h2:=h.2
        rw [hko,decide_eq_true (show 1≤yk by omega),decide_eq_true (show yk≤4 by omega)] at h2
        cases h2
       clear hko
       go_wp2_with fail
       clear ay aI bJ
       go_wp2_with fail
       go_roundw
       case rel => exact ⟨k+1,by omega,by go_num,by have h:=M.out.now;rw [ES.out] at h;exact h,S.out,by rw [vN.out,Oi ts _ x _ xq.out vO.out Ee.out,ES.out],hw⟩
       case measure => simp [intOf];omega
      have t8:(x.kind == 8)=false:=by simpa using h8
      have Ee:Hid (¬ (x.kind=8∧uj ts x=false)):=fun h => h8 h.1
      clear hall h8
      go_wp2_with fail
      clear ay aI bJ
      go_wp2_with fail
      go_roundw
      case rel => exact ⟨k+1,by omega,by go_num,by have h:=M.out.now;rw [ES.out] at h;exact h,S.out,by rw [vN.out,Oi ts _ x _ xq.out vO.out Ee.out,ES.out],hw⟩
      case measure => simp [intOf];omega
  obtain rfl:k=ts.length:=by omega
  have Hr:Hid (eY ts=0):=by show _=_;rw [Hv.out,hvk,List.drop_eq_nil_of_le (Nat.le_refl _),jE]
  clear hvk
  go_wp2_with fail
  go_ret
  exact ⟨aV Hr.out.symm,hw⟩
end Go.Proofs.YthkfapcadhnaeaaGreatDoor
