/- The index of a field. No condition. -/
import Derived.Test.YthkfapcadhnaeaaGreatDoorHAI
import Derived.Test.YthkfapcadhnaeaaGreatDoorHAD
set_option maxHeartbeats 400000
namespace Go.Proofs.YthkfapcadhnaeaaGreatDoor
open Go.ChangeShapes Go.WideShapes Go.ChangeAt Go.RowKit
theorem Ep:∀ (fs:List nN) (k j:Nat) (u:Value) (hk:k < fs.length),(Gm fs[k])[j]?=some u→(lX fs)[k*3+j]?=some u
 | f :: r,0,j,u,_,h => by
  have hj:j < 3:=(List.getElem?_eq_some_iff.1 h).1
  rw [lX,List.flatMap_cons,List.getElem?_append_left (by simp [Gm];omega)]
  simpa using h
 | f :: r,k+1,j,u,hk,h => by
  have:=Ep r k j u (by simpa using hk) h
  rw [lX,List.flatMap_cons,List.getElem?_append_right (by simp [Gm];omega)]
  simp only [Gm,List.length_cons,List.length_nil]
  rw [show (k+1)*3+j - (0+1+1+1)=k*3+j by omega];exact this
theorem PU {w:World} {b o:Nat} {fs:List nN} (h:∀ (j:Nat) (u:Value),(lX fs)[j]?=some u→w.cell? ⟨b,o+j,none⟩=some u) (k:Nat) (hk:k < fs.length) :
  w.cell? ⟨b,o+k*3,none⟩=some (.int .i64 fs[k].id)∧w.cell? ⟨b,o+k*3+1,none⟩=some (.bool fs[k].jR)∧w.cell? ⟨b,o+k*3+2,none⟩=some (.string ⟨fs[k].data.toArray⟩) :=
 ⟨h _ _ (Ep fs k 0 _ hk rfl),h _ _ (Ep fs k 1 _ hk rfl),h _ _ (Ep fs k 2 _ hk rfl)⟩
def fidx (l:List nN) (id:Int):Option Nat:=mX (l.map (fun f => (f.id:Int))) id 0
theorem I9:∀ (l:List nN) (id:Int) (k:Nat),match mX (l.map (fun f => (f.id:Int))) id k with
  | some j => ∃ h:j - k < l.length,k≤j∧yQ l id=some l[j - k]
  | none => yQ l id=none
 | [],id,k => by simp [mX,yQ]
 | f :: r,id,k => by
  rw [List.map_cons,uQ]
  by_cases h:(f.id:Int)=id
  ·
   rw [if_pos h]
   exact ⟨by simp,Nat.le_refl _,by simp [yQ,h]⟩
  rw [if_neg h]
  have ih:=I9 r id (k+1)
  have hf:yQ (f :: r) id=yQ r id:=by simp [yQ,h]
  rw [hf]
  cases hi:mX (r.map (fun f => (f.id:Int))) id (k+1) with
  | none => rw [hi] at ih;exact ih
  | some j =>
   rw [hi] at ih
   obtain ⟨h1,h2,h3⟩:=ih
   refine ⟨by simp only [List.length_cons];omega,by omega,?_⟩
   rw [h3]
   have e:j - k=(j - (k+1))+1:=by omega
   simp only [e,List.getElem_cons_succ]
theorem Qy {l:List nN} {id:Int} {k:Nat} (h:fidx l id=some k):∃ hk:k < l.length,yQ l id=some l[k]:=by
 have:=I9 l id 0
 unfold fidx at h
 rw [h] at this
 obtain ⟨h1,_,h3⟩:=this
 exact ⟨by simpa using h1,by simpa using h3⟩
theorem Qz {l:List nN} {id:Int} (h:fidx l id=none):yQ l id=none:=by
 have:=I9 l id 0
 unfold fidx at h
 rw [h] at this
 exact this
set_option maxRecDepth 100000 in
theorem U9 (f:nN) (p:Nat) (id:Int) (w:World) (hp:w.cell? ⟨p,0,none⟩=some (.int .i64 id)) (hlt:p < w.heap.size) :
  Calls Tryz.prog 136 #[.agg #[.int .i64 f.id,.bool f.jR,.string ⟨f.data.toArray⟩],.pointer (some ⟨p,0,none⟩)] w fun e w' => e = .returned (.bool ((f.id:Int) == id))∧Below w.heap.size w w':=by
 go_enter Tryz.func136,Tryz.ntmps136
 go_wp2
 go_ret
 exact ⟨rfl,(Below.refl _ _).alloc (Nat.le_refl _) _⟩
set_option maxRecDepth 100000 in
theorem Yc (fs:List nN) (va:Value) (p:Nat) (id:Int) (w:World) (hl:fs.length≤140737488351232) (hr:Rd w w.heap.size 3 va fs.length (lX fs)) (hp:w.cell? ⟨p,0,none⟩=some (.int .i64 id)) (hlt:p < w.heap.size) :
  Calls Tryz.prog 135 #[va,.func (.func 136) #[] #[.pointer (some ⟨p,0,none⟩)]] w fun e w' => e = .returned (.int .i64 (Bv (fidx fs id)))∧Below w.heap.size w w':=by
 obtain ⟨A,c,rfl,hc⟩:=hr.form
 have HR:=Lib.hid hr
 have Hp:=Lib.hid hp
 clear hr hp
 unfold fidx
 go_enter Tryz.func135,Tryz.ntmps135
 go_wp2
 go_loopw [8] (fun i wr => ∃ k:Nat,i = .int .i64 k∧k≤fs.length∧mX (fs.map (fun f => (f.id:Int))) id 0=mX ((fs.drop k).map (fun f => (f.id:Int))) id k∧Below w.heap.size w wr) (fun i _ => fs.length - (intOf i).toNat)
 case atStart => exact ⟨0,rfl,by omega,rfl,Below.refl _ _⟩
 case round =>
  obtain ⟨k,rfl,hk,hix,hb⟩:=hrel
  by_cases hlk:k < fs.length
  ·
   obtain ⟨b,o,rfl,hbb,hcell⟩:=(HR.out.below hb).at_ (by have:=QA fs;omega)
   obtain ⟨c0,c1,c2⟩:=PU hcell k hlk
   rw [List.drop_eq_getElem_cons hlk,List.map_cons,uQ] at hix
   generalize fs[k]=m at *
   have hpw:wr.cell? ⟨p,0,none⟩=some (.int .i64 id):=(hb.cell hlt).trans Hp.out
   have QB:p < wr.heap.size:=Nat.lt_of_lt_of_le hlt hb.size
   have hi1:(k:Int) < fs.length:=by omega
   clear hcell
   by_cases he:(m.id:Int)=id
   ·
    rw [if_pos he] at hix
    have jo:=Lib.hid hix
    have ht:((m.id:Int) == id)=true:=by simp [he]
    clear hix he
    go_wp2_with fail
    refine (U9 m p id _ hpw QB).mono ?_
    rintro e w2 ⟨rfl,hb2⟩
    go_wp2_with fail
    go_ret
    exact ⟨aV (by rw [jo.out];rfl),hb.trans (hb2.mono hb.size)⟩
   rw [if_neg he] at hix
   have jo:=Lib.hid hix
   have ht:((m.id:Int) == id)=false:=by simpa using he
   clear hix he
   go_wp2_with fail
   refine (U9 m p id _ hpw QB).mono ?_
   rintro e w2 ⟨rfl,hb2⟩
   have yR:=hb.trans (hb2.mono hb.size)
   clear hb2 hb hpw
   go_wp2_with fail
   go_roundw
   case rel => exact ⟨k+1,by go_num,by omega,jo.out,yR⟩
   case measure => simp [intOf];omega
  rw [List.drop_eq_nil_of_le (by omega)] at hix
  have jo:=Lib.hid hix
  clear hix
  go_wp2
  go_ret
  exact ⟨aV (by rw [jo.out];rfl),hb⟩
end Go.Proofs.YthkfapcadhnaeaaGreatDoor
