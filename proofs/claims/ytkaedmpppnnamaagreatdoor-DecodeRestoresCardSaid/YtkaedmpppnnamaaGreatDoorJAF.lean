/- The example schema and example values of layer 8. No condition. -/
import Derived.Test.YtkaedmpppnnamaaGreatDoorHAD
namespace Go.Proofs.YtkaedmpppnnamaaGreatDoor
open ChangeShapes WideShapes ChangeAt RowKit
def Tc (n:Int):Val:=.mk 2 false n [] 0 [] [] []
def ajy (s:List UInt8):Val:=.mk 3 false 0 s 0 [] [] []
theorem Rw (w:World) (B:Nat):qF w B (.slice none 0 0) []:=⟨fun _ => [],⟨none,0,rfl,b_ _,.inl rfl⟩,fun i h => by simp at h⟩
theorem JJ (w:World) (B:Nat):rW w B (.slice none 0 0) []:=⟨fun _ => [],⟨none,0,rfl,b_ _,.inl rfl⟩,fun i h => by simp at h⟩
theorem Y8 (w:World) (B:Nat) (k:Int) (b:Bool) (n:Int) (s:List UInt8) (id:Int) (h:I64 k/\I64 n/\I64 id) (hs:s.length<=140737488351232):ValAt w B (.mk k b n s id [] [] []) (.slice none 0 0) (.slice none 0 0) (.slice none 0 0) :=
 ⟨h,hs,⟨by simp [Val.keys],by simp [Val.items],by simp [Val.rest]⟩,by simp [Val.rest],Rw w B,Rw w B,Rd.nil_ w B 2⟩
theorem ajz (w:World) (B:Nat) (n:Int) (h:I64 n):ValAt w B (Tc n) (.slice none 0 0) (.slice none 0 0) (.slice none 0 0):=Y8 w B 2 false n [] 0 ⟨by simp [I64],h,by simp [I64]⟩ (by simp)
theorem Y9 (w:World) (B:Nat):ValAt w B jm (.slice none 0 0) (.slice none 0 0) (.slice none 0 0):=Y8 w B 0 false 0 [] 0 ⟨by simp [I64],by simp [I64],by simp [I64]⟩ (by simp)
theorem KC (w:World) (o:Obj):(w.alloc o).heap.size=w.heap.size+1:=by simp
theorem Xp {w:World} {B g size n:Nat} {T:TypeId} {c:Nat->List Value} (h:Has w g T (nN c n).toArray) (hB:g < B) (hc:∀ i,i < n->(c i).length=size):Row w B size (.slice (some ⟨g,0,none⟩) n n) n c:=by
 refine ⟨_,n,rfl,b_ _,?_⟩;refine .inr ⟨g,0,rfl,hB,fun i hi j u hu => ?_⟩;have hj:j < size:=by rw [<- hc i hi];exact (C_.1 hu).1
 have h1:=h.cell (i*size+j);rw [List.getElem?_toArray,zN c size n hc i j hi hj,hu] at h1;rw [show 0+i*size+j=i*size+j by omega];exact h1
