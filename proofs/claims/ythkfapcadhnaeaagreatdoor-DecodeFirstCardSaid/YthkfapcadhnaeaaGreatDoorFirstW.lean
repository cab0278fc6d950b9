/- The walk of DecodeFirst, given what its callees compute. No condition. -/
import Derived.Test.YthkfapcadhnaeaaGreatDoorFirst
import Derived.Test.YthkfapcadhnaeaaGreatDoorFirstQ
import Derived.Test.YthkfapcadhnaeaaGreatDoorDecO
import Derived.Test.YthkfapcadhnaeaaGreatDoorShelf
import Derived.Test.YthkfapcadhnaeaaGreatDoorHAK
set_option maxHeartbeats 1600000
namespace Go.Proofs.YthkfapcadhnaeaaGreatDoor
open Go.ChangeShapes Go.WideShapes Go.ChangeAt Go.RowKit
theorem ahE:(Tryz.prog.info? 9).map (fun i => (i.zero,i.size,i.bytes))=some (some (.string ByteArray.empty),1,16):=by kernel_rfl
theorem ahF (l:List (List UInt8)):∀ u ∈ l.map SB,u.oneCell'=true:=by
 intro u hu;obtain ⟨z,_,rfl⟩:=List.mem_map.1 hu;rfl
theorem afX {w:World} {b o:Nat} {l:List (List UInt8)} (h:∀ j u,(l.map SB)[j]?=some u→w.cell? ⟨b,o+j,none⟩=some u) (j:Nat) (hj:j < l.length):w.cell? ⟨b,o+j,none⟩=some (.string ((l.map fun p => (⟨p.toArray⟩ : ByteArray)).getD j ByteArray.empty)):=by
 rw [h j _ (by rw [List.getElem?_map,List.getElem?_eq_getElem hj];rfl),List.getD_eq_getElem?_getD,List.getElem?_map,List.getElem?_eq_getElem hj]
 rfl
theorem af2 (l:List (List UInt8)) (k:Nat):((l.map fun p => (⟨p.toArray⟩ : ByteArray)).take k).map Value.string=(l.take k).map SB:=by
 rw [← List.map_take,List.map_map];rfl
theorem aa4 {P:Program} {w:World} {ops:Array Oper} {rest:List Oper} {o:Oper} {a:Act} {Q:Exit→Act→World→Prop} (hgd:o.guard=none) (s x:Operand) (t:TypeId)
  (ho:o.op = .call { callee:=.builtin .append,args:=#[s,x],argTypes:=#[t,t] })
  (base c:Nat) (e:TypeId) (i:TypeInfo) (size:Nat) (ht:P.underlying t=some (.slice e)) (hi:P.info? e=some i)
  (v:Value) (n:Nat) (xs:List Value) (hs:a.eval s=v) (hown:w.ownsRow base e size v n xs) (hx:a.eval x = .slice none 0 c)
  (h:wpList P ops Q rest (a.put o.dst v) w):wpList P ops Q (o :: rest) a w:=by
 refine wpList_plain hgd fun K hK => ?_
 have hrun:(Builtin.append_ #[t,t] o.type #[v,.slice none 0 c]).run P w = .ok v w:=by
  rcases hown.2 with ⟨rfl,rfl⟩ | ⟨g,cap,cur,rfl,_,_,hnc,_⟩
  · simp [Builtin.append_,run_underlying ht,sizeOf,typeInfo,hi,Builtin.lenOf,Builtin.firstCells]
  simp [Builtin.append_,run_underlying ht,sizeOf,typeInfo,hi,Builtin.lenOf,Builtin.firstCells,hnc,storeCells]
 unfold Oper.wp
 simp [execOp,ho,resolve,invoke,builtin,hs,hx,hrun,Result.andThen]
 exact hK _ _ h
theorem aa3 {ops:Array Oper} {rest:List Oper} {o:Oper} {a:Act} {w:World} {Q:Exit→Act→World→Prop} (hgd:o.guard=none) (s x:Operand)
  (ho:o.op = .call { callee:=.builtin .append,args:=#[s,x],argTypes:=#[63,63] })
  (L:Nat) (v:Value) (n:Nat) (xs:List Value) (hs:a.eval s=v) (hown:w.ownsRow L 9 1 v n xs)
  (B:Nat) (vx:Value) (m:Nat) (ys:List Value) (hx:a.eval x=vx) (hsrc:Rd w B 1 vx m ys) (h1:∀ u ∈ ys,u.oneCell'=true)
  (hsm:n+m≤1000000) (hbase:L≤w.heap.size)
  (h:∀ v' w',w'.ownsRow L 9 1 v' (n+m) (xs ++ ys)→Below L w w'→wpList Tryz.prog ops Q rest (a.put o.dst v') w'):wpList Tryz.prog ops Q (o :: rest) a w:=by
 obtain ⟨i0,hi,hz0,hz1,hz2⟩:=info_parts ahE
 obtain ⟨hl,A,c,rfl,hmc,hr⟩:=hsrc
 cases A with
 | none =>
  have hm:m=0:=by
   rcases hr with h | ⟨b,o,h,_⟩
   · exact h
   cases h
  subst hm
  have hy:ys = []:=by simpa using hl
  subst hy
  exact aa4 hgd s x _ ho L c 9 i0 1 Tryz.underlying63 hi v n xs hs hown hx (h v w (by simpa using hown) (Below.refl _ _))
 | some ad =>
  refine wpList_append_own w hgd s x _ ho L 9 i0 _ 1 16 Tryz.underlying63 hi hz0 hz1 hz2 rfl (by decide) v n xs hs hown ad m c ys hx hl ?_ h1 (by simp only [maxLen];omega) (by omega) hbase ?_
  ·
   intro j u hu
   rcases hr with rfl | ⟨b,o,hA,_,hc⟩
   ·
    have:ys = []:=by simpa using hl
    subst this;simp at hu
   cases hA
   have e:(⟨b,o,none⟩ : Addr).add j=⟨b,o+j,none⟩:=by unfold Addr.add;split <;> simp_all
   rw [e];exact hc j u hu
  intro v' w' h2 h3 _
  exact h v' w' h2 ((Below.refl L w).grown h3 hbase (fun k hk => (hown.lt k hk).1))
theorem ak8 {w:World} {base n c g m:Nat} {e:TypeId} {xs:List Value} (h:w.ownsRow base e 1 (.slice (some ⟨g,0,none⟩) n c) n xs) (hm:m≤n):Rd w w.heap.size 1 (.slice (some ⟨g,0,none⟩) m c) m (xs.take m):=by
 have h0:=h
 have hl:=h.1
 obtain ⟨_,A,c2,hv,hnc,h2⟩:=Rd.pq h
 injection hv with h3 _ h5
 subst h5
 refine ⟨by rw [List.length_take];omega,_,c,rfl,by omega,.inr ⟨g,0,rfl,(h0.lt g rfl).2,fun j u hu => ?_⟩⟩
 have hj:j < m:=by have:=(List.getElem?_eq_some_iff.1 hu).1;rw [List.length_take] at this;omega
 rw [List.getElem?_take_of_lt hj] at hu
 have:=h0.cells (g:=g) rfl j u hu
 have e2:(⟨g,0,none⟩ : Addr).add j=⟨g,0+j,none⟩:=by unfold Addr.add;split <;> simp_all
 rwa [e2] at this
def qOf (R:fO):List Int × Int × Int:=match R with | .ok _ => ([],0,15) | .error (q,n) => (q,n,0)
def aeG (w:World) (q:List Int) (n er:Int) (e:Ending) (w':World):Prop:=Below w.heap.size w w'∧∃ A c,e = .returned (.tuple #[.agg #[.slice A q.length c,.int .i64 n],.int .i64 er])∧w'.ownsRow w.heap.size 3 1 (.slice A q.length c) q.length (q.map iZ)
def af6 (L:Nat) (q:List Int) (n er:Int) (s8 s9:Value) (W:World):Prop := ∃ g A c,s8 = .pointer (some ⟨g,0,none⟩)∧s9 = .int .i64 er∧L≤g∧Has W g 38 #[.slice A q.length c,.int .i64 n]∧W.ownsRow 0 3 1 (.slice A q.length c) q.length (q.map iZ)
set_option maxRecDepth 100000 in
theorem walk_first (ts:List aC) (A:Option Addr) (c:Nat) (va:Value) (a:List (List UInt8)) (hza:∀ p ∈ a,p.length≤140737488351232) (vb:Value) (b:List (List UInt8)) (hzb:∀ p ∈ b,p.length≤140737488351232) (w:World)
  (ht:bG w w.heap.size (.slice A ts.length c) ts) (ha:Rd w w.heap.size 1 va a.length (a.map SB)) (hb:Rd w w.heap.size 1 vb b.length (b.map SB)) (er:Int) (her:er=0→eY ts=0∧∃ h:0 < ts.length,fB ts 0=some ts[0])
  (hAw:∀ W,Below w.heap.size w W→Calls Tryz.prog 9 #[] W fun e w' => e = .returned (.bool true)∧Below W.heap.size W w')
  (hFw:∀ W,bG W W.heap.size (.slice A ts.length c) ts→Calls Tryz.prog 27 #[.agg #[.slice A ts.length c]] W fun e w' => (∃ f:Bool,e = .returned (.bool f))∧Below W.heap.size W w')
  (hEr:∀ W,bG W W.heap.size (.slice A ts.length c) ts→Calls Tryz.prog 28 #[.agg #[.slice A ts.length c],.int .i64 0] W fun e w' => e = .returned (.int .i64 er)∧Below W.heap.size W w')
  (hEx:∀ m R,iE ts 0 m = .ok R→(qOf R).1.length≤1000∧∀ W,bG W W.heap.size (.slice A ts.length c) ts→Calls Tryz.prog 15 #[.agg #[.slice A ts.length c],.int .i64 0,.string ⟨m.toArray⟩] W (aeG W (qOf R).1 (qOf R).2.1 (qOf R).2.2))
  (hSm:∀ (p q:List Int) (n k:Int) (vp vq:Value) (W:World),p.length≤1000→q.length≤1000→W.ownsRow 0 3 1 vp p.length (p.map iZ)→W.ownsRow 0 3 1 vq q.length (q.map iZ)→Calls Tryz.prog 17 #[.agg #[vp,.int .i64 n],.agg #[vq,.int .i64 k]] W fun e w' => e = .returned (.bool (decide (n=k∧p=q)))∧Below W.heap.size W w') :
  Calls Tryz.prog 7 #[.agg #[.slice A ts.length c],va,vb] w fun e w' => e = .returned (.bool true)∧Below w.heap.size w w':=by
 obtain ⟨A1,c1,rfl,hc1⟩:=ha.form
 obtain ⟨A2,c2,rfl,hc2⟩:=hb.form
 have HT:=Lib.hid ht
 have HA:=Lib.hid ha
 have HB0:=Lib.hid hb
 have HZA:=Lib.hid hza
 have HZB:=Lib.hid hzb
 have HAw:=Lib.hid hAw
 have HFw:=Lib.hid hFw
 have HEr:=Lib.hid hEr
 have HEx:=Lib.hid hEx
 have HSm:=Lib.hid hSm
 clear ht ha hb hza hzb hAw hFw hEr hEx hSm
 go_enter Tryz.func7,Tryz.ntmps7
 go_upto_region 1 with fail
 generalize dJ:w.alloc _=wd2
 have ⟨hb1,S⟩:=bH dJ
 clear dJ
 have hw4:=hb1
 clear hb1
 have ay:=S.out.e0
 go_wp2_with fail
 clear ay
 ((with_reducible refine (HAw.out _ hw4).mono ?_);rintro e qM ⟨rfl,hb6⟩)
 replace S:=b1 S hb6
 replace hw4:=dT hw4 hb6
 clear hb6
 have ay:=S.out.e0
 go_wp2_with fail
 clear ay
 ((with_reducible refine (HFw.out _ (HT.out.on hw4)).mono ?_);rintro e oW ⟨⟨fb,rfl⟩,hb8⟩)
 replace S:=b1 S hb8
 replace hw4:=dT hw4 hb8
 clear hb8
 cases fb with
 | false =>
  go_wp2_with fail
  ((with_reducible refine (HAw.out _ hw4).mono ?_);rintro e AY ⟨rfl,mG⟩)
  replace S:=b1 S mG
  replace hw4:=dT hw4 mG
  clear mG
  go_wp2_with fail
  go_ret
  exact ⟨rfl,hw4⟩
 | true =>
  by_cases h6:a.length≤6
  ·
   have h6i:decide ((6:Int) < a.length)=false:=decide_eq_false (by omega)
   by_cases h7:b.length≤6
   ·
    have h7i:decide ((6:Int) < b.length)=false:=decide_eq_false (by omega)
    have ay:=S.out.e0
    go_wp2_with fail
    clear ay
    ((with_reducible refine (HEr.out _ (HT.out.on hw4)).mono ?_);rintro e rO ⟨rfl,jl⟩)
    replace S:=b1 S jl
    replace hw4:=dT hw4 jl
    clear jl
    by_cases he0:er=0
    ·
     subst he0
     obtain ⟨hv0,hp0,hx0⟩:=her rfl
     clear her
     obtain ⟨b0,o0,rfl,hb0,hel⟩:=HT.out.elem hp0
     obtain ⟨vs,vm,hcs,-⟩:=hel 0 hp0
     have HK:=Lib.hid hcs.1
     have HM:=Lib.hid hcs.2.2.2.2.1
     simp only [Nat.zero_mul,Nat.add_zero] at HK HM
     clear hel hcs
     have k0:=((hw4).cell (p:=⟨b0,o0,none⟩) hb0).trans HK.out
     have auC:(0:Int) < ts.length:=by omega
     have ay:=S.out.e0
     by_cases hk:ts[0].kind=7
     ·
      rw [hk] at k0
      obtain ⟨R,hR⟩ : ∃ R:fO,iE ts 0 (pack a) = .ok R:=⟨_,aa1 hv0 hx0 hk a (by omega)⟩
      have hsm:=fun (q:List Int) (n:Int) (h:R = .error (q,n)) (k:Nat) (hq:q.head?=some (k:Int)) => acz hv0 hx0 hk h6 h7 (hR.trans (by rw [h])) hq
      have hmx:=fun (q:List Int) (n:Int) (h:R = .error (q,n)) (hq:q≠[]) => aa6 hv0 hx0 hk h6 (hR.trans (by rw [h])) hq
      obtain ⟨nD,ak9⟩:=HEx.out _ _ hR
      have HSM:=Lib.hid hsm
      have HMX:=Lib.hid hmx
      obtain ⟨m,HMe,HE⟩ : ∃ m:List UInt8,Hid (∀ W,Rd W W.heap.size 1 (.slice A1 a.length c1) a.length (a.map SB)→Calls Tryz.prog 29 #[.slice A1 a.length c1] W fun e w' => e = .returned (.string ⟨m.toArray⟩)∧Below W.heap.size W w') ∧
        Hid (∀ W,bG W W.heap.size (.slice (some ⟨b0,o0,none⟩) ts.length c) ts→Calls Tryz.prog 15 #[.agg #[.slice (some ⟨b0,o0,none⟩) ts.length c],.int .i64 0,.string ⟨m.toArray⟩] W (aeG W (qOf R).1 (qOf R).2.1 (qOf R).2.2)) :=
       ⟨pack a,Lib.hid (fun W h => aiN a A1 c1 W h (by omega) HZA.out),Lib.hid ak9⟩
      clear ak9 hsm hmx hv0 hx0 hk hR
      have Hqe:Hid ((∃ v,R = .ok v∧qOf R=([],0,15))∨∃ q n,R = .error (q,n)∧qOf R=(q,n,0)):=by
       rcases R with ⟨q,n⟩ | v
       · exact .inr ⟨q,n,rfl,rfl⟩
       exact .inl ⟨v,rfl,rfl⟩
      generalize qOf R=z at *
      obtain ⟨q,n,er⟩:=z
      simp only at *
      go_upto_region 4 with fail
      go_cut [8,9] from 45 to 53 (fun s8 s9 wx => af6 (w.heap.size+1) q n er s8 s9 wx∧Below w.heap.size w wx∧Has wx w.heap.size 24 #[.slice (some ⟨b0,o0,none⟩) ts.length c])
      case first =>
       refine wp_region_held_drew (S:=(fun w' => w'.cell? ⟨w.heap.size,0,none⟩=some (.slice (some ⟨b0,o0,none⟩) ts.length c))) (by kernel_rfl) ay (fun hHeld => ?_)
       clear ay
       have qL:Below rO.heap.size rO (rO.drew):=(Below.refl _ _).drew
       replace S:=b1 S qL
       replace hw4:=dT hw4 qL
       clear qL
       generalize rO.drew=xP at *
       refine tk (i:=0) (v := ?k15) ?_
       simp only [ah]
       refine tk (i:=1) (v := ?k16) ?_
       simp only [ah]
       refine tk (i:=2) (v := ?k17) ?_
       simp only [ah]
       refine wpAnyH_ready (rs:=[3,8]) (by kernel_rfl) (by simp) ?_
       refine AllReadyH.cons rfl (fun K hK => ?_) (AllReadyH.cons rfl (fun K hK => ?_) (AllReadyH.nil))
       ·
        skip
        go_simp
        ((with_reducible refine (HMe.out _ ((HA.out.below hw4).mono (hw4).size)).mono ?_);rintro e qY ⟨rfl,pz⟩)
        replace S:=b1 S pz
        replace hw4:=dT hw4 pz
        clear pz
        try clear hHeld
        refine hK.out _ _ (S.out.cell 0) (fun hHeld => ?_)
        clear hK K
        refine wpAnyH_ready (rs:=[4,8]) (by kernel_rfl) (by simp) ?_
        refine AllReadyH.cons rfl (fun K hK => ?_) (AllReadyH.cons rfl (fun K hK => ?_) (AllReadyH.nil))
        ·
         skip
         go_simp
         obtain ⟨LX,rP⟩ : ∃ n,n=(qY).heap.size:=⟨_,rfl⟩
         have hzl:=(hw4).size
         have hSl:=S.out.here
         skip
         rw [← rP] at hzl hSl
         ((with_reducible refine (HE.out _ (HT.out.on hw4)).mono ?_);rintro e nS ⟨mQ,A2,c2,rfl,hown⟩)
         replace S:=b1 S mQ
         replace hw4:=dT hw4 mQ
         clear mQ
         rw [← rP] at hown
         clear rP
         obtain ⟨BX,yU⟩ : ∃ n,n=(nS).heap.size:=⟨_,rfl⟩
         have N:=Lib.hid (Kept.kM hown yU)
         clear hown yU
         try clear hHeld
         refine hK.out _ _ (S.out.cell 0) (fun hHeld => ?_)
         clear hK K
         refine tk (i:=5) (v := ?k22) ?_
         simp only [ah]
         refine tk (i:=6) (v := ?k23) ?_
         simp only [ah]
         refine tk (i:=7) (v := ?k24) ?_
         simp only [ah]
         refine fH (i:=8) (fun K hK => ?_)
         go_simp
         generalize oJ:nS.alloc _=qZ
         have ⟨pY,F⟩:=bH oJ
         clear oJ
         have Fb:=S.out.here
         have PI:=N.out.le
         have acH:=hw4.size
         obtain ⟨S,N⟩:=b2 S N pY
         replace hw4:=dT hw4 pY
         clear pY
         generalize nS.heap.size=g28 at *
         try clear hHeld
         refine hK.out _ _ (S.out.cell 0) (fun hHeld => ?_)
         clear hK K
         refine fH (i:=9) (fun K hK => ?_)
         refine aU (by rfl) 38 _ _ (by rfl) (g28) #[.slice A2 q.length c2,.int .i64 n] (by rfl) (by rfl) 38 _ F.out (by kernel_rfl) rfl (by first | assumption | simp [Value.oneCell']) ?_
         generalize DW:qZ.setRow _ _=zC
         obtain ⟨S,N⟩:=f2 S N (eR DW)
         replace F:=aK F DW
         replace hw4:=tr hw4 DW
         clear DW
         try clear hHeld
         refine hK.out _ _ (S.out.cell 0) (fun hHeld => ?_)
         clear hK K
         refine tk (i:=10) (v := ?k34) ?_
         simp only [ah]
         refine wpAnyH_done (by kernel_rfl) ?_ _
         try clear hHeld
         go_wp2_with fail
         go_meet
         exact ⟨⟨_,_,_,rfl,rfl,(by omega),F.out,aH N.out.now (Nat.zero_le _)⟩,hw4,S.out⟩
        skip
        go_simp
        generalize rD:qY.alloc _=o9
        have ⟨jL,F⟩:=bH rD
        clear rD
        have acB:=S.out.here
        have ag3:=hw4.size
        replace S:=b1 S jL
        replace hw4:=dT hw4 jL
        clear jL
        generalize qY.heap.size=g38 at *
        try clear hHeld
        refine hK.out _ _ (S.out.cell 0) (fun hHeld => ?_)
        clear hK K
        refine fH (i:=4) (fun K hK => ?_)
        go_simp
        obtain ⟨LX,rP⟩ : ∃ n,n=(o9).heap.size:=⟨_,rfl⟩
        have hzl:=(hw4).size
        have hSl:=S.out.here
        have hFl:=F.out.here
        rw [← rP] at hzl hSl hFl
        ((with_reducible refine (HE.out _ (HT.out.on hw4)).mono ?_);rintro e kX ⟨sF,A2,c2,rfl,hown⟩)
        obtain ⟨S,F⟩:=b2 S F sF
        replace hw4:=dT hw4 sF
        clear sF
        rw [← rP] at hown
        clear rP
        obtain ⟨BX,yU⟩ : ∃ n,n=(kX).heap.size:=⟨_,rfl⟩
        have N:=Lib.hid (Kept.kM hown yU)
        clear hown yU
        try clear hHeld
        refine hK.out _ _ (S.out.cell 0) (fun hHeld => ?_)
        clear hK K
        refine tk (i:=5) (v := ?k43) ?_
        simp only [ah]
        refine tk (i:=6) (v := ?k44) ?_
        simp only [ah]
        refine tk (i:=7) (v := ?k45) ?_
        simp only [ah]
        refine fH (i:=9) (fun K hK => ?_)
        refine aU (by rfl) 38 _ _ (by rfl) (g38) #[.slice A2 q.length c2,.int .i64 n] (by rfl) (by rfl) 38 _ F.out (by kernel_rfl) rfl (by first | assumption | simp [Value.oneCell']) ?_
        generalize nU:kX.setRow _ _=wF
        obtain ⟨S,N⟩:=f2 S N (eR nU)
        replace F:=aK F nU
        replace hw4:=tr hw4 nU
        clear nU
        try clear hHeld
        refine hK.out _ _ (S.out.cell 0) (fun hHeld => ?_)
        clear hK K
        refine tk (i:=10) (v := ?k48) ?_
        simp only [ah]
        refine wpAnyH_done (by kernel_rfl) ?_ _
        try clear hHeld
        go_wp2_with fail
        go_meet
        exact ⟨⟨_,_,_,rfl,rfl,(by omega),F.out,aH N.out.now (Nat.zero_le _)⟩,hw4,S.out⟩
       skip
       go_simp
       generalize qg:xP.alloc _=Dp
       have ⟨vK,F⟩:=bH qg
       clear qg
       have LD:=S.out.here
       have Fa:=hw4.size
       replace S:=b1 S vK
       replace hw4:=dT hw4 vK
       clear vK
       generalize xP.heap.size=g52 at *
       try clear hHeld
       refine hK.out _ _ (S.out.cell 0) (fun hHeld => ?_)
       clear hK K
       refine fH (i:=3) (fun K hK => ?_)
       go_simp
       ((with_reducible refine (HMe.out _ ((HA.out.below hw4).mono (hw4).size)).mono ?_);rintro e qE ⟨rfl,ahL⟩)
       obtain ⟨S,F⟩:=b2 S F ahL
       replace hw4:=dT hw4 ahL
       clear ahL
       try clear hHeld
       refine hK.out _ _ (S.out.cell 0) (fun hHeld => ?_)
       clear hK K
       refine fH (i:=4) (fun K hK => ?_)
       go_simp
       obtain ⟨LX,rP⟩ : ∃ n,n=(qE).heap.size:=⟨_,rfl⟩
       have hzl:=(hw4).size
       have hSl:=S.out.here
       have hFl:=F.out.here
       rw [← rP] at hzl hSl hFl
       ((with_reducible refine (HE.out _ (HT.out.on hw4)).mono ?_);rintro e al6 ⟨Bh,A2,c2,rfl,hown⟩)
       obtain ⟨S,F⟩:=b2 S F Bh
       replace hw4:=dT hw4 Bh
       clear Bh
       rw [← rP] at hown
       clear rP
       obtain ⟨BX,yU⟩ : ∃ n,n=(al6).heap.size:=⟨_,rfl⟩
       have N:=Lib.hid (Kept.kM hown yU)
       clear hown yU
       try clear hHeld
       refine hK.out _ _ (S.out.cell 0) (fun hHeld => ?_)
       clear hK K
       refine tk (i:=5) (v := ?k59) ?_
       simp only [ah]
       refine tk (i:=6) (v := ?k60) ?_
       simp only [ah]
       refine tk (i:=7) (v := ?k61) ?_
       simp only [ah]
       refine fH (i:=9) (fun K hK => ?_)
       refine aU (by rfl) 38 _ _ (by rfl) (g52) #[.slice A2 q.length c2,.int .i64 n] (by rfl) (by rfl) 38 _ F.out (by kernel_rfl) rfl (by first | assumption | simp [Value.oneCell']) ?_
       generalize nV:al6.setRow _ _=wG
       obtain ⟨S,N⟩:=f2 S N (eR nV)
       replace F:=aK F nV
       replace hw4:=tr hw4 nV
       clear nV
       try clear hHeld
       refine hK.out _ _ (S.out.cell 0) (fun hHeld => ?_)
       clear hK K
       refine tk (i:=10) (v := ?k64) ?_
       simp only [ah]
       refine wpAnyH_done (by kernel_rfl) ?_ _
       try clear hHeld
       go_wp2_with fail
       go_meet
       exact ⟨⟨_,_,_,rfl,rfl,(by omega),F.out,aH N.out.now (Nat.zero_le _)⟩,hw4,S.out⟩
      case rest =>
       obtain ⟨⟨gF,A3,c3,rfl,rfl,hgF,P,hown⟩,hw,S⟩:=hcut
       replace S:=Lib.hid S
       replace P:=Lib.hid P
       obtain ⟨BX,yU⟩ : ∃ n,n=(wc).heap.size:=⟨_,rfl⟩
       have N0:=Lib.hid (Kept.kM hown yU)
       rcases Hqe.out with ⟨v,hRv,hqe⟩ | ⟨q',n',hRv,hqe⟩
       ·
        injection hqe with e1 e2
        injection e2 with e2 e3
        subst e1 e2 e3
        clear hown yU Hqe hRv HSM HMX nD
        obtain ⟨abL,abM⟩:=P.out.c2
        go_wp2_with fail
        go_ret
        exact ⟨rfl,hw⟩
       injection hqe with e1 e2
       injection e2 with e2 e3
       subst e1 e2 e3
       by_cases hq0:q = []
       ·
        subst hq0
        clear hown yU Hqe hRv HSM HMX nD
        obtain ⟨abL,abM⟩:=P.out.c2
        go_wp2_with fail
        go_ret
        exact ⟨rfl,hw⟩
       have hq1:0 < q.length:=List.length_pos_iff.2 hq0
       have hq2:¬ (q.length:Int)=0:=by omega
       obtain ⟨k,hk1,hk2,hk3,-⟩:=HMX.out q n hRv hq0
       have hsame:=(HSM.out q n hRv k hk1).2
       obtain ⟨g3,c3',e3,-,hg3,-,hcell⟩:=ru hown hq1
       injection e3 with e3 _ e4
       subst e3 e4
       have p0:wc.cell? ⟨g3,0,none⟩=some (.int .i64 (k:Int)):=hcell 0 _ (by
        rw [List.getElem?_map,← List.head?_eq_getElem?,hk1];rfl)
       obtain ⟨ba,oa,rfl,hba,hac⟩:=HA.out.at_ (by omega)
       obtain ⟨K,hK,HKe⟩ : ∃ K:Nat,(k:Int)+1=(K:Int)∧Hid (K=k+1):=⟨k+1,by omega,rfl⟩
       have hKa:K≤a.length:=by omega
       have hK1:1≤K:=by omega
       have hKi:¬ (a.length:Int) < (K:Int):=by omega
       have hkb:(k:Int) < 6:=by omega
       rw [hK] at hsame
       have HAC:=Lib.hid hac
       have HS1:=Lib.hid hsame
       have HK3:=Lib.hid hk3
       clear hown yU Hqe hRv HSM HMX hcell hac hk1 hk3 hsame HMe HE hq0
       obtain ⟨abL,abM⟩:=P.out.c2
       go_upto_region 10 with fail
       clear hK hkb p0
       obtain ⟨aa0,hLQ⟩ : ∃ n,n=(wc).heap.size:=⟨_,rfl⟩
       have hl1:=(hw).size
       have hl2:=P.out.here
       have hl3:=S.out.here
       have hl4:=N0.out.le
       rw [← hLQ] at hl1 hl2 hl3 hl4
       go_wp2_with fail
       clear abL abM
       ((with_reducible refine (Tryz.slices_Clone_string ba oa K c1 (a.map fun p => ⟨p.toArray⟩) _ (by simp;omega) (by omega) (fun j hj => ((hw).cell (p:=⟨ba,oa+j,none⟩) hba).trans (afX HAC.out j (by simpa using hj)))).mono ?_);rintro e Fq ⟨v',rfl,hown2,-,DR⟩)
       obtain ⟨S,P,N0⟩:=b3 S P N0 DR
       replace hw:=dT hw DR
       clear DR
       rw [af2,← hLQ] at hown2
       clear hLQ
       obtain ⟨gv,cv,rfl,hv1,hv2,-,-⟩:=ru hown2 (by omega)
       have HO2:=Lib.hid hown2
       clear hown2
       go_wp2_with (at_builtin;refine aa3 rfl _ _ rfl aa0 _ K _ rfl HO2.out _ (.slice A2 b.length c2) b.length (b.map SB) rfl (HB0.out.below hw) (ahF b) (by omega) (by omega) ?_;intro v3 w3 hown3 hb3)
       rw [← List.map_append] at hown3
       obtain ⟨g4,c4,rfl,hg4,auD,hc4,-⟩:=ru hown3 (by omega)
       obtain ⟨l,abN⟩ : ∃ l,Hid (l=a.take K ++ b):=⟨_,rfl⟩
       rw [← abN.out] at hown3
       obtain ⟨n2,hn2⟩ : ∃ n2,K+b.length=n2:=⟨_,rfl⟩
       have hll:l.length=n2:=by rw [abN.out,List.length_append,List.length_take];omega
       rw [hn2] at hown3 hc4 ⊢
       have auE:K≤n2∧n2≤12:=by omega
       replace S:=Lib.hid (S.out.below hb3 (show w.heap.size < aa0 by omega))
       replace P:=Lib.hid (P.out.below hb3 (show gF < aa0 by omega))
       replace N0:=Lib.hid (N0.out.EL hb3 (show BX≤aa0 by omega))
       replace hw:=hw.trans (hb3.mono (show w.heap.size≤aa0 by omega))
       clear hv1 hv2 HO2 hn2 hb3
       have k4:=((hw).cell (p:=⟨b0,o0+4,none⟩) hb0).trans HM.out
       generalize ts[0].max=mx at *
       obtain ⟨L2,HL2⟩ : ∃ L2,Hid (L2=behind a b (K:Int) mx):=⟨_,rfl⟩
       have hL2:L2=l.take L2.length∧L2.length≤n2∧(mx < n2→mx=(L2.length:Int))∧(¬ mx < n2→L2.length=n2):=by
        have h3:=HK3.out
        rw [HL2.out];unfold behind
        rw [show ((K:Int)).toNat=K by omega,← abN.out]
        rw [hll]
        by_cases hm:mx < (n2:Int)
        ·
         rw [if_pos hm,show (if (K:Int) < mx then mx else (K:Int))=mx by split <;> omega,List.length_take,hll]
         exact ⟨by congr 1;omega,by omega,fun _ => by omega,fun h => absurd hm h⟩
        rw [if_neg hm,hll]
        exact ⟨by rw [← hll,List.take_length],by omega,fun h => absurd h hm,fun _ => rfl⟩
       obtain ⟨hT2,UK,alc,ald⟩:=hL2
       have hrd:=ak8 hown3 (m:=L2.length) UK
       rw [← List.map_take,← hT2] at hrd
       have RW:=Lib.hid (Kept.rd (P:=fun w B => Rd w B 1 (.slice (some ⟨g4,0,none⟩) L2.length c4) L2.length (L2.map SB)) hrd (Nat.le_refl _) (fun _ hk => hrd.keep hk))
       have HR2:Hid (iE ts 0 (pack L2) = .ok (.error (q,n))):=by
        show _=_
        rw [HL2.out];exact HS1.out
       have HZ2:Hid (∀ p ∈ L2,p.length≤140737488351232):=by
        intro p hp
        rw [hT2] at hp
        have hp:=List.mem_of_mem_take hp
        rw [abN.out] at hp
        rcases List.mem_append.1 hp with h | h
        · exact HZA.out p (List.mem_of_mem_take h)
        exact HZB.out p h
       have HX1:=Lib.hid alc
       have QU:=Lib.hid ald
       clear hrd hT2 HL2 HS1 abN hll alc ald
       have ay:=S.out.e0
       go_upto_if 89 with fail
       go_cut [11] from 90 to 99 (fun s11 wx => s11 = .slice (some ⟨g4,0,none⟩) L2.length c4∧wx=w3)
       case first =>
        by_cases hm:mx < (n2:Int)
        ·
         have aoY:=HX1.out (by omega)
         have hK3:=HK3.out
         clear HX1 QU HM HK3
         subst aoY
         go_wp2_with fail
         go_meet
         exact ⟨by rw [show (max (K:Int) L2.length).toNat=L2.length by omega],rfl⟩
        have h:=Lib.hid (QU.out (by omega))
        clear HX1 QU HM HK3
        go_wp2_with fail
        go_meet
        exact ⟨by rw [h.out],rfl⟩
       case rest =>
        obtain ⟨rfl,hwc⟩:=hcut
        replace hwc:=hwc.symm
        subst hwc
        obtain ⟨m,HMe,HE⟩ : ∃ m:List UInt8,Hid (∀ W,Rd W W.heap.size 1 (.slice (some ⟨g4,0,none⟩) L2.length c4) L2.length (L2.map SB)→Calls Tryz.prog 29 #[.slice (some ⟨g4,0,none⟩) L2.length c4] W fun e w' => e = .returned (.string ⟨m.toArray⟩)∧Below W.heap.size W w') ∧
          Hid (∀ W,bG W W.heap.size (.slice (some ⟨b0,o0,none⟩) ts.length c) ts→Calls Tryz.prog 15 #[.agg #[.slice (some ⟨b0,o0,none⟩) ts.length c],.int .i64 0,.string ⟨m.toArray⟩] W (aeG W q n 0)) :=
         ⟨pack L2,Lib.hid (fun W h => aiN L2 (some ⟨g4,0,none⟩) c4 W h (by omega) HZ2.out),Lib.hid (HEx.out _ _ HR2.out).2⟩
        clear HX1 QU HK3 HR2 HZ2 HEx
        have auF:=RW.out.le
        have hgP:=P.out.here
        have hl7:=N0.out.le
        obtain ⟨gz,hgz⟩ : ∃ n,n=(w3).heap.size:=⟨_,rfl⟩
        go_upto_region 13 with fail
        go_cut [12,13] from 99 to 107 (fun s12 s13 wx => af6 (w.heap.size+1) q n 0 s12 s13 wx∧Below w.heap.size w wx∧Has wx gF 38 #[.slice (some ⟨g3,0,none⟩) q.length c3,.int .i64 n]∧wx.ownsRow 0 3 1 (.slice (some ⟨g3,0,none⟩) q.length c3) q.length (q.map iZ))
        case first =>
         refine wp_region_held_drew (S:=(fun w' => w'.cell? ⟨w.heap.size,0,none⟩=some (.slice (some ⟨b0,o0,none⟩) ts.length c))) (by kernel_rfl) ay (fun hHeld => ?_)
         clear ay
         have adu:Below w3.heap.size w3 (w3.drew):=(Below.refl _ _).drew
         obtain ⟨S,P,N0,RW⟩:=b4 S P N0 RW adu
         replace hw:=dT hw adu
         clear adu
         generalize w3.drew=MO at *
         refine tk (i:=0) (v := ?k69) ?_
         simp only [ah]
         refine tk (i:=1) (v := ?k70) ?_
         simp only [ah]
         refine tk (i:=2) (v := ?k71) ?_
         simp only [ah]
         refine wpAnyH_ready (rs:=[3,8]) (by kernel_rfl) (by simp) ?_
         refine AllReadyH.cons rfl (fun K hK => ?_) (AllReadyH.cons rfl (fun K hK => ?_) (AllReadyH.nil))
         ·
          skip
          go_simp
          ((with_reducible refine (HMe.out _ (RW.out.now.mono RW.out.le)).mono ?_);rintro e Ec ⟨rfl,aea⟩)
          obtain ⟨S,P,N0,RW⟩:=b4 S P N0 RW aea
          replace hw:=dT hw aea
          clear aea
          try clear hHeld
          refine hK.out _ _ (S.out.cell 0) (fun hHeld => ?_)
          clear hK K
          refine wpAnyH_ready (rs:=[4,8]) (by kernel_rfl) (by simp) ?_
          refine AllReadyH.cons rfl (fun K hK => ?_) (AllReadyH.cons rfl (fun K hK => ?_) (AllReadyH.nil))
          ·
           skip
           go_simp
           obtain ⟨LX,rP⟩ : ∃ n,n=(Ec).heap.size:=⟨_,rfl⟩
           have hzl:=(hw).size
           have hSl:=S.out.here
           skip
           rw [← rP] at hzl hSl
           ((with_reducible refine (HE.out _ (HT.out.on hw)).mono ?_);rintro e WI ⟨aef,A2,c2,rfl,hown⟩)
           obtain ⟨S,P,N0,RW⟩:=b4 S P N0 RW aef
           replace hw:=dT hw aef
           clear aef
           rw [← rP] at hown
           clear rP
           obtain ⟨BX,yU⟩ : ∃ n,n=(WI).heap.size:=⟨_,rfl⟩
           have N:=Lib.hid (Kept.kM hown yU)
           clear hown yU
           try clear hHeld
           refine hK.out _ _ (S.out.cell 0) (fun hHeld => ?_)
           clear hK K
           refine tk (i:=5) (v := ?k76) ?_
           simp only [ah]
           refine tk (i:=6) (v := ?k77) ?_
           simp only [ah]
           refine tk (i:=7) (v := ?k78) ?_
           simp only [ah]
           refine fH (i:=8) (fun K hK => ?_)
           go_simp
           generalize GN:WI.alloc _=Yr
           have ⟨ahM,F⟩:=bH GN
           clear GN
           have ag4:=S.out.here
           have acM:=P.out.here
           have acN:=N0.out.le
           have acO:=RW.out.le
           have acP:=N.out.le
           have XJ:=hw.size
           obtain ⟨S,P,N0,RW,N⟩:=b5 S P N0 RW N ahM
           replace hw:=dT hw ahM
           clear ahM
           generalize WI.heap.size=g82 at *
           try clear hHeld
           refine hK.out _ _ (S.out.cell 0) (fun hHeld => ?_)
           clear hK K
           refine fH (i:=9) (fun K hK => ?_)
           refine aU (by rfl) 38 _ _ (by rfl) (g82) #[.slice A2 q.length c2,.int .i64 n] (by rfl) (by rfl) 38 _ F.out (by kernel_rfl) rfl (by first | assumption | simp [Value.oneCell']) ?_
           generalize G9:Yr.setRow _ _=al9
           obtain ⟨S,P,N0,RW,N⟩:=f5 S P N0 RW N (eR G9)
           replace F:=aK F G9
           replace hw:=tr hw G9
           clear G9
           try clear hHeld
           refine hK.out _ _ (S.out.cell 0) (fun hHeld => ?_)
           clear hK K
           refine tk (i:=10) (v := ?k91) ?_
           simp only [ah]
           refine wpAnyH_done (by kernel_rfl) ?_ _
           try clear hHeld
           go_wp2_with fail
           go_meet
           exact ⟨⟨_,_,_,rfl,rfl,(by omega),F.out,aH N.out.now (Nat.zero_le _)⟩,hw,P.out,N0.out.now⟩
          skip
          go_simp
          generalize tH:Ec.alloc _=PE
          have ⟨DY,F⟩:=bH tH
          clear tH
          have ac7:=S.out.here
          have ac8:=P.out.here
          have ac9:=N0.out.le
          have ada:=RW.out.le
          have ae7:=hw.size
          obtain ⟨S,P,N0,RW⟩:=b4 S P N0 RW DY
          replace hw:=dT hw DY
          clear DY
          generalize Ec.heap.size=g95 at *
          try clear hHeld
          refine hK.out _ _ (S.out.cell 0) (fun hHeld => ?_)
          clear hK K
          refine fH (i:=4) (fun K hK => ?_)
          go_simp
          obtain ⟨LX,rP⟩ : ∃ n,n=(PE).heap.size:=⟨_,rfl⟩
          have hzl:=(hw).size
          have hSl:=S.out.here
          have hFl:=F.out.here
          rw [← rP] at hzl hSl hFl
          ((with_reducible refine (HE.out _ (HT.out.on hw)).mono ?_);rintro e XZ ⟨Eh,A2,c2,rfl,hown⟩)
          obtain ⟨S,P,F,N0,RW⟩:=b5 S P F N0 RW Eh
          replace hw:=dT hw Eh
          clear Eh
          rw [← rP] at hown
          clear rP
          obtain ⟨BX,yU⟩ : ∃ n,n=(XZ).heap.size:=⟨_,rfl⟩
          have N:=Lib.hid (Kept.kM hown yU)
          clear hown yU
          try clear hHeld
          refine hK.out _ _ (S.out.cell 0) (fun hHeld => ?_)
          clear hK K
          refine tk (i:=5) (v := ?alN) ?_
          simp only [ah]
          refine tk (i:=6) (v := ?alO) ?_
          simp only [ah]
          refine tk (i:=7) (v := ?arZ) ?_
          simp only [ah]
          refine fH (i:=9) (fun K hK => ?_)
          refine aU (by rfl) 38 _ _ (by rfl) (g95) #[.slice A2 q.length c2,.int .i64 n] (by rfl) (by rfl) 38 _ F.out (by kernel_rfl) rfl (by first | assumption | simp [Value.oneCell']) ?_
          generalize abB:XZ.setRow _ _=X3
          obtain ⟨S,P,N0,RW,N⟩:=f5 S P N0 RW N (eR abB)
          replace F:=aK F abB
          replace hw:=tr hw abB
          clear abB
          try clear hHeld
          refine hK.out _ _ (S.out.cell 0) (fun hHeld => ?_)
          clear hK K
          refine tk (i:=10) (v := ?alv) ?_
          simp only [ah]
          refine wpAnyH_done (by kernel_rfl) ?_ _
          try clear hHeld
          go_wp2_with fail
          go_meet
          exact ⟨⟨_,_,_,rfl,rfl,(by omega),F.out,aH N.out.now (Nat.zero_le _)⟩,hw,P.out,N0.out.now⟩
         skip
         go_simp
         generalize Et:MO.alloc _=Yi
         have ⟨aaU,F⟩:=bH Et
         clear Et
         have akc:=S.out.here
         have aqy:=P.out.here
         have aj2:=N0.out.le
         have aj3:=RW.out.le
         have aj6:=hw.size
         obtain ⟨S,P,N0,RW⟩:=b4 S P N0 RW aaU
         replace hw:=dT hw aaU
         clear aaU
         generalize MO.heap.size=asO at *
         try clear hHeld
         refine hK.out _ _ (S.out.cell 0) (fun hHeld => ?_)
         clear hK K
         refine fH (i:=3) (fun K hK => ?_)
         go_simp
         ((with_reducible refine (HMe.out _ (RW.out.now.mono RW.out.le)).mono ?_);rintro e Yz ⟨rfl,E5⟩)
         obtain ⟨S,P,F,N0,RW⟩:=b5 S P F N0 RW E5
         replace hw:=dT hw E5
         clear E5
         try clear hHeld
         refine hK.out _ _ (S.out.cell 0) (fun hHeld => ?_)
         clear hK K
         refine fH (i:=4) (fun K hK => ?_)
         go_simp
         obtain ⟨LX,rP⟩ : ∃ n,n=(Yz).heap.size:=⟨_,rfl⟩
         have hzl:=(hw).size
         have hSl:=S.out.here
         have hFl:=F.out.here
         rw [← rP] at hzl hSl hFl
         ((with_reducible refine (HE.out _ (HT.out.on hw)).mono ?_);rintro e Oe ⟨Eu,A2,c2,rfl,hown⟩)
         obtain ⟨S,P,F,N0,RW⟩:=b5 S P F N0 RW Eu
         replace hw:=dT hw Eu
         clear Eu
         rw [← rP] at hown
         clear rP
         obtain ⟨BX,yU⟩ : ∃ n,n=(Oe).heap.size:=⟨_,rfl⟩
         have N:=Lib.hid (Kept.kM hown yU)
         clear hown yU
         try clear hHeld
         refine hK.out _ _ (S.out.cell 0) (fun hHeld => ?_)
         clear hK K
         refine tk (i:=5) (v := ?ar2) ?_
         simp only [ah]
         refine tk (i:=6) (v := ?ar4) ?_
         simp only [ah]
         refine tk (i:=7) (v := ?auG) ?_
         simp only [ah]
         refine fH (i:=9) (fun K hK => ?_)
         refine aU (by rfl) 38 _ _ (by rfl) (asO) #[.slice A2 q.length c2,.int .i64 n] (by rfl) (by rfl) 38 _ F.out (by kernel_rfl) rfl (by first | assumption | simp [Value.oneCell']) ?_
         generalize SE:Oe.setRow _ _=Ov
         obtain ⟨S,P,N0,RW,N⟩:=f5 S P N0 RW N (eR SE)
         replace F:=aK F SE
         replace hw:=tr hw SE
         clear SE
         try clear hHeld
         refine hK.out _ _ (S.out.cell 0) (fun hHeld => ?_)
         clear hK K
         refine tk (i:=10) (v := ?ar6) ?_
         simp only [ah]
         refine wpAnyH_done (by kernel_rfl) ?_ _
         try clear hHeld
         go_wp2_with fail
         go_meet
         exact ⟨⟨_,_,_,rfl,rfl,(by omega),F.out,aH N.out.now (Nat.zero_le _)⟩,hw,P.out,N0.out.now⟩
        case rest =>
         obtain ⟨⟨auB,A4,c4',rfl,rfl,hgG,G,hown4⟩,hw,P,hown⟩:=hcut
         replace P:=Lib.hid P
         replace G:=Lib.hid G
         have HO3:=Lib.hid hown
         have HO4:=Lib.hid hown4
         clear hown hown4
         obtain ⟨abL,abM⟩:=P.out.c2
         obtain ⟨amN,amO⟩:=G.out.c2
         go_wp2_with fail
         clear abL abM amN amO
         ((with_reducible refine (HSm.out q q n n _ _ _ (by omega) (by omega) HO3.out HO4.out).mono ?_);rintro e apL ⟨rfl,afp⟩)
         obtain ⟨P,G⟩:=b2 P G afp
         replace hw:=dT hw afp
         clear afp
         go_wp2_with fail
         go_ret
         exact ⟨au (by simp),hw⟩
     have hkn:(ts[0].kind == 7)=false:=by simpa using hk
     go_wp2_with fail
     go_wp2_with fail
     clear ay
     ((with_reducible refine (HAw.out _ hw4).mono ?_);rintro e SG ⟨rfl,aag⟩)
     replace S:=b1 S aag
     replace hw4:=dT hw4 aag
     clear aag
     go_wp2_with fail
     go_ret
     exact ⟨rfl,hw4⟩
    have he1:(er == 0)=false:=by simpa using he0
    go_wp2_with fail
    go_wp2_with fail
    ((with_reducible refine (HAw.out _ hw4).mono ?_);rintro e apM ⟨rfl,xA⟩)
    replace S:=b1 S xA
    replace hw4:=dT hw4 xA
    clear xA
    go_wp2_with fail
    go_ret
    exact ⟨rfl,hw4⟩
   have h7i:decide ((6:Int) < b.length)=true:=decide_eq_true (by omega)
   go_wp2_with fail
   go_wp2_with fail
   ((with_reducible refine (HAw.out _ hw4).mono ?_);rintro e NV ⟨rfl,KA⟩)
   replace S:=b1 S KA
   replace hw4:=dT hw4 KA
   clear KA
   go_wp2_with fail
   go_ret
   exact ⟨rfl,hw4⟩
  have h6i:decide ((6:Int) < a.length)=true:=decide_eq_true (by omega)
  go_wp2_with fail
  go_wp2_with fail
  ((with_reducible refine (HAw.out _ hw4).mono ?_);rintro e ER ⟨rfl,Gx⟩)
  replace S:=b1 S Gx
  replace hw4:=dT hw4 Gx
  clear Gx
  go_wp2_with fail
  go_ret
  exact ⟨rfl,hw4⟩
end Go.Proofs.YthkfapcadhnaeaaGreatDoor
