/- The statement FingerprintCopies: copies of types and other names do not change the canonical bytes. No condition. -/
import Derived.Test.YtlamhkffnlgofaaGreatDoorHBC
import Derived.Test.YtlamhkffnlgofaaGreatDoorCopd
set_option maxRecDepth 100000
namespace Go.Proofs.YtlamhkffnlgofaaGreatDoor
open Go.ChangeMaps (open_string shut_string)
open Go.ChangeShapes Go.WideShapes Go.ChangeAt Go.RowKit
theorem aBh {H:Type} {enc:TypeId × Value→H} {W:World} {base0:Nat} {v:Value} {d:DataW H} {p:List MemPlace} (hv:Value.okWide Tryz.prog W .any base0 49 v) (h:DataW.Trod enc Tryz.prog W 0 (fun _ => true) true 49 v d p) (hs:Sz 49 d) :
  ∃ (xs:List fJ) (vn:Value),v = .agg #[vn]∧xs.length≤140737488351232∧jR W W.heap.size vn xs:=by
 obtain ⟨cs,rfl,hsz⟩:=okWide_struct Tryz.underlying49 hv;obtain ⟨fuel,hf⟩:=h;have hC:Tryz.prog.cellsOf 49=1:=by kernel_rfl
 obtain ⟨xs,n,rfl,hx,_,hxl,hg⟩:=DataW.trod_struct Tryz.underlying49 hf
 match xs,hxl with
 | [y0],_ =>
  injection hx with hx1 hx2;have k0:Tryz.prog.cellsOf 47=1:=by kernel_rfl
  have h0:DataW.trod enc Tryz.prog W 0 (fun _ => true) true n 47 (((Value.agg cs).cells.toList.drop 0).take (Tryz.prog.cellsOf 47))=some y0:=hg 0 _ rfl;subst hx1;have sz0:=Sz.field hs Tryz.underlying49 (i:=0) rfl rfl;obtain ⟨vn,ns,e,l,r⟩:=ahi h0 sz0;refine ⟨ns,vn,?_,by omega,r⟩;rw [k0] at e;have hl:cs.toList.length=1:=by simpa [hC] using hsz
  congr 1
  apply Array.toList_inj.1
  simp only [Value.cells,List.drop_zero] at e;rw [List.take_of_length_le (by omega)] at e;exact e
theorem wf_u8 {a:Int} (h:(Lit.int .u8 a).wf=true):∃ n:Nat,a=(n:Int)∧n < 256:=CS h
theorem awj (xs:List fJ) (vn:Value) (_:xs.length≤140737488351232) (p:Nat) (hpb:p < 256) (bits:Nat) (_:oV bits) (w:World) (hp:aj0 w) (hr:jR w w.heap.size vn xs) :
  Calls Tryz.prog 7 #[.agg #[vn],.int .u8 p,.int .u64 (bits:Nat)] w (RT w (.bool true)) :=
 aHz xs vn p hpb bits w hp hr fun W ts A c h1 h2 h3 h4 h5 => aDW ts A c bits W h1 h2 h3 h4 h5

namespace fr_FingerprintCopies
theorem lifted (os:Os) (started:os.Started) (H:Type) (enc:TypeId × Value→H) :
    ReturnsInHanded {} Tryz.checked os 7 .any (fun w args => (Rows.fingerprintCopiesSpec.pre enc Tryz.prog Tryz.f7 [] false w args∧laidMetH Tryz.prog Ry w)∧sizedMet enc Tryz.prog Tryz.f7 (OpenSpec.ofChange Rows.fingerprintCopiesSpec) false w args) (Rows.fingerprintCopiesSpec.post enc Tryz.prog Tryz.f7 false true false false):=by
  refine returnsInHanded_of_change_and (C:=Tryz.checked) (X:=fun w _ => laidMetH Tryz.prog Ry w) (fun _ _ _ hh h => h.of_heap hh) ad3 started (by kernel_rfl) Tryz.func7
    (ChangeSpec.witness_shaped (enc:=enc) (C:=Tryz.checked) (os:=os) (X:=fun w _ => laidMetH Tryz.prog Ry w) false (World.doorLaid Tryz.prog 400 os) #[.agg #[.slice none 0 0],.int .u8 0,.int .u64 0] 8 rfl (World.shaped_of_RefB (by kernel_rfl) (by kernel_rfl)) (by kernel_rfl) (by kernel_rfl) (by kernel_rfl) (door_met os _)) ?_
  intro W base args ds gs before hval0 hW hcnd hsz0 hLd _;have hsz:(DataW.weightsEach Tryz.prog (Tryz.f7.params.toList ++ Rows.fingerprintCopiesSpec.plain.varTypes Tryz.prog) (ds ++ gs)).all (· ≤ reachBytes)=true:=hsz0;have hval:∀ (j:Nat) t v,Tryz.f7.params[j]?=some t→args[j]?=some v→Value.okWide Tryz.prog W .any base t v:=hval0;have hW':=hW;have hlt:∀ p ∈ before,p.block < W.heap.size:=fun p hp => hW.lt p hp;obtain ⟨p,q,hA0,hV,rfl,hfz,hnd⟩:=hW;have hA:DataW.TrodAll enc Tryz.prog W 0 (fun _ => true) true Tryz.f7.params.toList args.toList ds p:=hA0;have hA2:=hA;rw [Tryz.params7] at hA hval hsz;obtain ⟨v0,vs0,d0,ds0,p0,q0,hargs,rfl,hpq,h0,r0⟩:=trodAll_cons hA;obtain ⟨v1,vs1,d1,ds1,p1,q1,rfl,rfl,rfl,h1,r1⟩:=trodAll_cons r0;obtain ⟨v2,vs2,d2,ds2,p2,q2,rfl,rfl,rfl,h2,r2⟩:=trodAll_cons r1;obtain ⟨rfl,rfl,rfl⟩:=trodAll_nil r2;obtain rfl:args = #[v0,v1,v2]:=by cases args;simp_all
  obtain ⟨rfl,rfl⟩:=trodVars_none hV;obtain ⟨a0,n0,rfl,m0,u0⟩:=aBh (hval 0 49 v0 rfl rfl) h0 (ZG hsz (j:=0) rfl (by simp));obtain ⟨x1,rfl,rfl,rfl,w1⟩:=open_int Tryz.underlying5 (hval 1 5 v1 rfl rfl) h1;obtain ⟨a1,rfl,u1⟩:=wf_u8 w1;obtain ⟨x2,rfl,rfl,rfl,w2⟩:=open_int Tryz.underlying36 (hval 2 36 v2 rfl rfl) h2;obtain ⟨a2,rfl,u2⟩:=wf_u64 w2;clear hA0 hval0;refine (awj a0 n0 m0 a1 u1 a2 u2 W (aho hLd) u0).mono fun e W' ⟨he,bel⟩ => ?_;subst he;exact ⟨_,rfl,_,_,_,[],_,[],hW',trodAll_mk1 (shut_bool Tryz.underlying4 _),UN ad4 bel _ _ _ _ (by kernel_rfl) hA2 (fun x hx => hlt x (by simpa using hx)),rfl,bel.frame _,fun h => by cases h⟩
theorem proved:Rows.FingerprintCopiesSaid :=
  OpenClaim.holds_of_wide 7 Tryz.f7 rfl rfl rfl rfl rfl rfl rfl ⟨rfl,rfl,rfl,rfl,rfl⟩ rfl rfl rfl rfl rfl (by kernel_rfl) Tryz.func7 (by kernel_rfl)
    (of_decide_eq_true (by kernel_rfl)) (by unfold Func.isWrapper;first | (rw [if_pos (by decide +kernel)];kernel_rfl) | (rw [if_neg (by decide +kernel)];exact ⟨rfl,rfl⟩))
    (fun os started H enc _ => lifted os started H enc)
#print axioms proved
theorem card:Rows.FingerprintCopiesCardSaid :=
  Claim7.holds_tied_plain_at .later [] [.data,.data,.data] true _ false proved (fun _ h => by cases h) (by kernel_rfl) (fun _ h => by cases h) fingerprintCopies_row_tie rfl ⟨rfl,rfl⟩ (by kernel_rfl) rfl
    (fun f fn hf hfn => by
      obtain rfl:f=7:=Option.some.inj ((show Tryz.prog.funcNamed "sheave/sheavelaw19.FingerprintCopies" = some 7 by kernel_rfl).symm.trans hf) |>.symm;obtain rfl:fn=Tryz.f7:=(Option.some.inj (Tryz.func7.symm.trans hfn)).symm;exact ⟨by kernel_rfl,fun j t ht => by
        rw [Tryz.params7] at ht;have hm:t ∈ [49,5,36]:=by simpa using Array.mem_of_getElem? ht
        have hall:([49,5,36].all fun u => !Tryz.prog.wantsStandIn u)=true:=by kernel_rfl
        exact (show Tryz.prog.wantsStandIn t=false by simpa using List.all_eq_true.1 hall t hm)⟩)
    (by kernel_rfl)
#print axioms card
end fr_FingerprintCopies
end Go.Proofs.YtlamhkffnlgofaaGreatDoor
