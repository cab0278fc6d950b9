/- Facts carried through calls that decode. No condition. -/
import Derived.Test.YtlamhkffnlgofaaGreatDoorHAL
namespace Go.Proofs.YtlamhkffnlgofaaGreatDoor
open Go.ChangeShapes Go.WideShapes Go.ChangeAt Go.RowKit
theorem cZ.above {w W W':World} {gr B:Nat} (K:cZ w gr W) (hb:Below B W W') (hB:w.heap.size≤B) (hg:gr≤B):cZ w gr W' :=
 ⟨K.low.trans (hb.mono hg),fun b h1 h2 h3 => (hb.block b (Nat.lt_of_lt_of_le h2 hB)).trans (K.block b h1 h2 h3)⟩
theorem cZ.drew {w W:World} {gr:Nat} (K:cZ w gr W):cZ w gr W.drew:=⟨K.low.trans (Below.refl gr W).drew,fun b h1 h2 h3 => K.block b h1 h2 h3⟩
structure jJ (P:World→Prop) (w:World) (L B:Nat):Prop where
 now:P w
 st:∀ w',(∀ k:Nat,L≤k→k < B→jQ w k→w'.heap[k]?=w.heap[k]?)→P w'
 le:B≤w.heap.size
theorem jQ.same {w w':World} {k:Nat} (h:w'.heap[k]?=w.heap[k]?) (h':jQ w' k):jQ w k:=fun c f e => h' c f (h.trans e)
theorem jJ.move {P:World→Prop} {w w':World} {L B:Nat} (h:jJ P w L B) (hk:∀ k:Nat,L≤k→k < B→jQ w k→w'.heap[k]?=w.heap[k]?) (hs:w.heap.size≤w'.heap.size):jJ P w' L B :=
 ⟨h.st w' hk,fun w2 h2 => h.st w2 fun p hl hp hn => (h2 p hl hp (fun c f e => hn c f ((hk p hl hp hn).symm.trans e))).trans (hk p hl hp hn),Nat.le_trans h.le hs⟩
section
variable {w w' W W':World} {g g' gr i L B:Nat} {T T':TypeId} {cs cs':Array Value} {P:World→Prop} {v tv fp:Value} {fn:Int} {path:List Int} {o:Obj}
theorem nB (h:Hid (jJ P w L B)) (hb:Below w.heap.size w w'):Hid (jJ P w' L B):=h.out.move (fun _ _ hp _ => hb.block _ (Nat.lt_of_lt_of_le hp h.out.le)) hb.size
instance apY:iT w w' (jJ P w L B) (jJ P w' L B):=⟨fun hb h => (nB (hiQ h) hb).out⟩
instance apZ:jI w w' g' (jJ P w L B) (jJ P w' L B) (B≤g'∨g' < L):=⟨fun e hn h => h.move (fun k hl hk _ => e.blk k (by omega)) e.sz⟩
end
def yh (L B:Nat) (v:Val) (vk vi vr:Value) (W:World):Prop := ∃ S:Nat→Prop,jq W S v vk vi vr∧∀ k,S k→L≤k∧k < B∧jQ W k
theorem jQ.to {w w':World} {k:Nat} (h:w'.heap[k]?=w.heap[k]?) (h':jQ w k):jQ w' k:=fun c f e => h' c f (h.symm.trans e)
theorem yh.kept {L B:Nat} {v:Val} {vk vi vr:Value} {W:World} (h:yh L B v vk vi vr W) (hB:B≤W.heap.size):jJ (yh L B v vk vi vr) W L B :=
 ⟨h,fun w' hk => by
  obtain ⟨S,h1,h2⟩:=h;have hs:∀ k,S k→w'.heap[k]?=W.heap[k]?:=fun k hS => hk k (h2 k hS).1 (h2 k hS).2.1 (h2 k hS).2.2;exact ⟨S,h1.keep (fun p hp => World.cell?_of_block (hs p.block hp)) (fun _ h => h),fun k hS => ⟨(h2 k hS).1,(h2 k hS).2.1,jQ.to (hs k hS) (h2 k hS).2.2⟩⟩,hB⟩
theorem ag6 {w w':World} {k:Nat} (h:w'.heap[k]?=w.heap[k]?) (hk:k < w.heap.size):k < w'.heap.size:=by
 rcases Nat.lt_or_ge k w'.heap.size with h1 | h1
 · exact h1
 rw [Array.getElem?_eq_none h1,Array.getElem?_eq_getElem hk] at h;cases h
theorem Fh {W:World} {base n size k:Nat} {e:TypeId} {v:Value} {xs:List Value} (h:W.ownsRow base e size v n xs) (he:e≠3) (hk:v.ownBlock=some k):jQ W k:=by
 rcases h.2 with ⟨rfl,_⟩ | ⟨g,cap,cur,rfl,_,hh,_⟩
 · simp [Value.ownBlock] at hk
 simp only [Value.ownBlock,Option.some.injEq] at hk;subst hk;intro c f e2;rw [hh] at e2;injection e2 with e3;injection e3 with _ e4;exact he e4
theorem jJ.own {w:World} {base n size:Nat} {e:TypeId} {v:Value} {xs:List Value} (h:w.ownsRow base e size v n xs) (he:e≠3):jJ (fun w => w.ownsRow base e size v n xs) w base w.heap.size :=
 ⟨h,fun _ hk => qo h fun k hb => hk k (h.lt k hb).1 (h.lt k hb).2 (Fh h he hb),Nat.le_refl _⟩
def oJ (L:Nat) (v:Value) (xs:List Val) (W:World):Prop := ∃ S:Nat→Prop,aG W L S v xs∧∀ k,S k→L≤k∧jQ W k
theorem oJ.nil (L:Nat) (W:World):oJ L (.slice none 0 0) [] W:=⟨_,aG.nil W L,fun _ h => h.elim⟩
theorem aG.IG {W:World} {L k:Nat} {S:Nat→Prop} {v:Value} {xs:List Val} (h:aG W L S v xs) (hk:v.ownBlock=some k):jQ W k:=by
 obtain ⟨⟨cs,h1,_⟩,_⟩:=h;exact Fh h1 (by decide) hk
theorem oJ.kept {L:Nat} {v:Value} {xs:List Val} {W:World} (h:oJ L v xs W):jJ (oJ L v xs) W L W.heap.size:=⟨h,fun w' hk => by
 obtain ⟨S,h1,h2⟩:=h;have hS:∀ k,S k→w'.heap[k]?=W.heap[k]?:=fun k hs => hk k (h2 k hs).1 (h1.sep k hs).1 (h2 k hs).2;have hO:∀ k,v.ownBlock=some k→w'.heap[k]?=W.heap[k]?:=fun k ho => hk k (h1.lt k ho).1 (h1.lt k ho).2 (h1.IG ho);obtain ⟨⟨cs,h3,h4⟩,h5⟩:=h1;exact ⟨S,⟨⟨cs,qo h3 hO,fun i hi => (h4 i hi).keep (fun p hp => World.cell?_of_block (hS p.block hp)) (fun _ h => h)⟩,fun k hs => ⟨ag6 (hS k hs) (h5 k hs).1,(h5 k hs).2⟩⟩,fun k hs => ⟨(h2 k hs).1,jQ.to (hS k hs) (h2 k hs).2⟩⟩,Nat.le_refl _⟩
theorem oJ.lt {L:Nat} {v:Value} {xs:List Val} {W:World} (h:oJ L v xs W):∀ k,v.ownBlock=some k→L≤k∧k < W.heap.size∧jQ W k:=fun k hk => by
 obtain ⟨S,h1,_⟩:=h;exact ⟨(h1.lt k hk).1,(h1.lt k hk).2,h1.IG hk⟩
theorem oJ.form {L:Nat} {v:Value} {xs:List Val} {W:World} (h:oJ L v xs W):∃ A c,v = .slice A xs.length c:=by
 obtain ⟨S,h1,_⟩:=h;exact h1.form
theorem oJ.row {L:Nat} {v:Value} {xs:List Val} {w W:World} (h:oJ L v xs W) (hL:w.heap.size≤L):lM W (sQ w W) v xs:=by
 obtain ⟨S,h1,h2⟩:=h;exact h1.row.keep (fun _ _ => rfl) fun k hk => hk.elim (fun hs => ⟨Nat.le_trans hL (h2 k hs).1,(h1.sep k hs).1,(h2 k hs).2⟩) (fun ho => ⟨Nat.le_trans hL (h1.lt k ho).1,(h1.lt k ho).2,h1.IG ho⟩)
section
variable {w W W':World} {gr L B:Nat} {P:World→Prop} {tv fp:Value} {fn:Int} {path:List Int} {row:Option Nat}
end
end Go.Proofs.YtlamhkffnlgofaaGreatDoor
