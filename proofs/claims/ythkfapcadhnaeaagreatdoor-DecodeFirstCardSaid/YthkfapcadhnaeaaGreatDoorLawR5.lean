/- The statement DecodeFirst: whatever is changed in the payloads behind the first failure of a list does not matter. No condition. -/
import Derived.Test.YthkfapcadhnaeaaGreatDoorFirstW
import Derived.Test.YthkfapcadhnaeaaGreatDoorLawR0
import Derived.Test.YthkfapcadhnaeaaGreatDoorRefI
import Derived.Test.YthkfapcadhnaeaaGreatDoorHAR
import Derived.Test.YthkfapcadhnaeaaGreatDoorHAM
namespace Go.Proofs.YthkfapcadhnaeaaGreatDoor
open Go.ChangeMaps (open_string shut_string)
open Go.ChangeShapes Go.WideShapes Go.ChangeAt Go.RowKit
theorem abD:∀ xs:List (List UInt8),xs.flatMap (fun x => [SB x])=xs.map SB
 | [] => rfl
 | x :: r => by rw [List.flatMap_cons,abD r];rfl
set_option maxRecDepth 100000 in
theorem abh {H:Type} {enc:TypeId × Value→H} {W:World} {base0:Nat} {v:Value} {d:DataW H} {p:List MemPlace} (hv:Value.okWide Tryz.prog W .any base0 63 v) (h:DataW.Trod enc Tryz.prog W 0 (fun _ => true) true 63 v d p) (hs:Sz 63 d) :
  ∃ xs:List (List UInt8),xs.length≤140737488351232∧(∀ x ∈ xs,x.length≤140737488351232)∧Rd W W.heap.size 1 v xs.length (xs.map SB):=by
 obtain ⟨a0,len0,cap0,rfl⟩:=okWide_slice Tryz.underlying63 hv
 obtain ⟨fuel,hf⟩:=h
 obtain ⟨v',xs,h1,h2,h3,h4⟩:=open_list (f:=fun x:List UInt8 => [SB x]) Tryz.underlying63 (by kernel_rfl) (by decide) (fun _ => rfl) hf hs (good:=fun x => x.length≤140737488351232) (fun N cs' D Q hl ht hsz => by
  obtain ⟨c0,rfl⟩:=List.length_eq_one_iff.1 hl
  obtain ⟨s1,e1,e1',_⟩:=DataW.trod_string Tryz.underlying9 ht
  obtain ⟨l1,rfl,_⟩:=yg s1
  injection e1' with e1' _
  subst e1'
  refine ⟨l1,e1,?_⟩
  simpa using hsz.str)
 simp only [Value.cells,List.cons.injEq,and_true] at h1
 have hb:Tryz.prog.bytesOf 9=16:=by kernel_rfl
 rw [hb] at h2
 subst h1
 rw [abD] at h4
 exact ⟨xs,by omega,h3,h4⟩
theorem ahO {ts:List aC} (h:yx ts 0=0):eY ts=0∧∃ h:0 < ts.length,fB ts 0=some ts[0]:=by
 unfold yx at h
 by_cases h1:eY ts≠0
 · rw [if_pos h1] at h;exact absurd h h1
 rw [if_neg h1] at h
 refine ⟨by simpa using h1,?_⟩
 cases ht:fB ts 0 with
 | none => rw [ht] at h;simp at h
 | some x =>
  unfold fB at ht
  rw [if_pos (by omega)] at ht
  obtain ⟨h2,h3⟩:=List.getElem?_eq_some_iff.1 ht
  exact ⟨h2,by simp at h3;rw [← h3]⟩
theorem aa8 (ts:List aC) (A:Option Addr) (c:Nat) (hs:Sizes ts) (va:Value) (a:List (List UInt8)) (_:a.length≤140737488351232) (hza:∀ p ∈ a,p.length≤140737488351232) (vb:Value) (b:List (List UInt8)) (_:b.length≤140737488351232) (hzb:∀ p ∈ b,p.length≤140737488351232) (w:World) (hL:AP w)
  (ht:bG w w.heap.size (.slice A ts.length c) ts) (ha:Rd w w.heap.size 1 va a.length (a.map SB)) (hb:Rd w w.heap.size 1 vb b.length (b.map SB)) :
  Calls Tryz.prog 7 #[.agg #[.slice A ts.length c],va,vb] w fun e w' => e = .returned (.bool true)∧Below w.heap.size w w' :=
 walk_first ts A c va a hza vb b hzb w ht ha hb (yx ts 0) ahO (fun W h => EM W (hL.on h)) (fun W h => agU ts A c W h) (fun W h => aaT ts A c 0 W hs h)
  (fun m R hR => by
   refine ⟨?_,fun W h => ?_⟩
   ·
    rcases R with ⟨q,n⟩ | v
    · exact ZC hR _ _ rfl
    exact Nat.zero_le _
   have:=KT ts A c 0 m W hs h
   rw [hR] at this
   refine this.mono ?_
   rcases R with ⟨q,n⟩ | v
   ·
    rintro e w' ⟨hb,fp,rfl,hown⟩
    obtain ⟨A2,c2,rfl⟩:=aF hown
    exact ⟨hb,A2,c2,rfl,hown⟩
   rintro e w' ⟨hb,rfl⟩
   exact ⟨hb,none,0,rfl,World.ownsRow_nil _ _ _ _⟩)
  (fun p q n k vp vq W h1 h2 h3 h4 => Ii p q n k vp vq W h1 h2 h3 h4)

namespace fr_DecodeFirst
set_option maxRecDepth 100000 in
theorem lifted (os:Os) (started:os.Started) (H:Type) (enc:TypeId × Value→H) :
    ReturnsInHanded {} Tryz.checked os 7 .any (fun w args => (Rows.decodeFirstSpec.pre enc Tryz.prog Tryz.f7 [] false w args∧laidMetH Tryz.prog EO w)∧sizedMet enc Tryz.prog Tryz.f7 (OpenSpec.ofChange Rows.decodeFirstSpec) false w args) (Rows.decodeFirstSpec.post enc Tryz.prog Tryz.f7 false true false false):=by
  refine returnsInHanded_of_change_and (C:=Tryz.checked) (X:=fun w _ => laidMetH Tryz.prog EO w) (fun _ _ _ hh h => h.of_heap hh) Vx started (by kernel_rfl) Tryz.func7
    (ChangeSpec.witness_shaped (enc:=enc) (C:=Tryz.checked) (os:=os) (X:=fun w _ => laidMetH Tryz.prog EO w) false (World.doorLaid Tryz.prog 400 os) #[.agg #[.slice none 0 0],.slice none 0 0,.slice none 0 0] 8 rfl (World.shaped_of_RefB (by kernel_rfl) (by kernel_rfl)) (by kernel_rfl) (by kernel_rfl) (by kernel_rfl) (door_met os _)) ?_
  intro W base args ds gs before hval0 hW hcnd hsz0 hLd _
  have hsz:(DataW.weightsEach Tryz.prog (Tryz.f7.params.toList ++ Rows.decodeFirstSpec.plain.varTypes Tryz.prog) (ds ++ gs)).all (· ≤ reachBytes)=true:=hsz0
  have hval:∀ (j:Nat) t v,Tryz.f7.params[j]?=some t→args[j]?=some v→Value.okWide Tryz.prog W .any base t v:=hval0
  have hW':=hW
  have hlt:∀ p ∈ before,p.block < W.heap.size:=fun p hp => hW.lt p hp
  obtain ⟨p,q,hA0,hV,rfl,hfz,hnd⟩:=hW
  have hA:DataW.TrodAll enc Tryz.prog W 0 (fun _ => true) true Tryz.f7.params.toList args.toList ds p:=hA0
  have hA2:=hA
  rw [Tryz.params7] at hA hval hsz
  obtain ⟨v0,vs0,d0,ds0,p0,q0,hargs,rfl,hpq,h0,r0⟩:=trodAll_cons hA
  obtain ⟨v1,vs1,d1,ds1,p1,q1,rfl,rfl,rfl,h1,r1⟩:=trodAll_cons r0
  obtain ⟨v2,vs2,d2,ds2,p2,q2,rfl,rfl,rfl,h2,r2⟩:=trodAll_cons r1
  obtain ⟨rfl,rfl,rfl⟩:=trodAll_nil r2
  obtain rfl:args = #[v0,v1,v2]:=by cases args;simp_all
  obtain ⟨rfl,rfl⟩:=trodVars_none hV
  obtain ⟨a0,A0,c0,rfl,z0,u0⟩:=Le (hval 0 24 v0 rfl rfl) h0 (Oz hsz (j:=0) rfl (by simp))
  obtain ⟨a1,m1,u1,w1⟩:=abh (hval 1 63 v1 rfl rfl) h1 (Oz hsz (j:=1) rfl (by simp))
  obtain ⟨a2,m2,u2,w2⟩:=abh (hval 2 63 v2 rfl rfl) h2 (Oz hsz (j:=2) rfl (by simp))
  clear hA0 hval0
  refine (aa8 a0 A0 c0 z0 v1 a1 m1 u1 v2 a2 m2 u2 W (XB hLd) u0 w1 w2).mono fun e W' ⟨he,bel⟩ => ?_
  subst he
  exact ⟨_,rfl,_,_,_,[],_,[],hW',trodAll_mk1 (shut_bool Tryz.underlying4 _),IK Vy bel _ _ _ _ (by kernel_rfl) hA2 (fun x hx => hlt x (by simpa using hx)),rfl,bel.frame _,fun h => by cases h⟩
theorem proved:Rows.DecodeFirstSaid :=
  OpenClaim.holds_of_wide 7 Tryz.f7 rfl rfl rfl rfl rfl rfl rfl ⟨rfl,rfl,rfl,rfl,rfl⟩ rfl rfl rfl rfl rfl (by kernel_rfl) Tryz.func7 (by kernel_rfl)
    (of_decide_eq_true (by kernel_rfl)) (by unfold Func.isWrapper;first | (rw [if_pos (by decide +kernel)];kernel_rfl) | (rw [if_neg (by decide +kernel)];exact ⟨rfl,rfl⟩))
    (fun os started H enc _ => lifted os started H enc)
#print axioms proved
theorem card:Rows.DecodeFirstCardSaid :=
  Claim7.holds_tied_plain_at .later [] [.data,.data,.data,.data] true _ false proved (fun _ h => by cases h) (by kernel_rfl) (fun _ h => by cases h) decodeFirst_row_tie rfl ⟨rfl,rfl⟩ (by kernel_rfl) rfl
    (fun f fn hf hfn => by
      obtain rfl:f=7:=Option.some.inj ((show Tryz.prog.funcNamed "sheave/sheavelaw10.DecodeFirst" = some 7 by kernel_rfl).symm.trans hf) |>.symm
      obtain rfl:fn=Tryz.f7:=(Option.some.inj (Tryz.func7.symm.trans hfn)).symm
      exact ⟨by kernel_rfl,fun j t ht => by
        rw [Tryz.params7] at ht
        have hm:t ∈ [24,63,63]:=by simpa using Array.mem_of_getElem? ht
        have hall:([24,63,63].all fun u => !Tryz.prog.wantsStandIn u)=true:=by kernel_rfl
        exact (show Tryz.prog.wantsStandIn t=false by simpa using List.all_eq_true.1 hall t hm)⟩)
    (by kernel_rfl)
#print axioms card
end fr_DecodeFirst
end Go.Proofs.YthkfapcadhnaeaaGreatDoor
