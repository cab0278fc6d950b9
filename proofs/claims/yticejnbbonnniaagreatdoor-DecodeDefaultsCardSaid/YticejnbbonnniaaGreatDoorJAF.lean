/- WriteString of strings.Builder. String of strings.Builder, with all that it leaves. The example schema and example values of layer 8. No condition. -/
import Derived.Test.YticejnbbonnniaaGreatDoorHAF
import Derived.Shelf.Strings.Builder1
set_option maxHeartbeats 2000000
set_option maxRecDepth 100000
namespace Go.Proofs.YticejnbbonnniaaGreatDoor
open Go.ChangeShapes Go.WideShapes Go.ChangeAt Go.RowKit
theorem ac2:(Tryz.prog.info? 61).map (·.size)=some 2:=by kernel_rfl
theorem ajx:liesAt Tryz.prog Tryz.prog.depth 61 (2 / Tryz.prog.cellsOf 61) 0 61 1=true:=by kernel_rfl
theorem Ya (b:Nat) (w:World) (h0:w.cell? ⟨b,0,none⟩=some (.pointer (some ⟨b,0,none⟩))) :
  Calls Tryz.prog 50 #[.pointer (some ⟨b,0,none⟩)] w fun e w' => e = .returned (.tuple #[])∧w'=w:=by
 obtain ⟨j,hj,_⟩:=Option.map_eq_some_iff.1 ac2;go_enter Tryz.func50,Tryz.ntmps50
 go_wp2
 rw [Lib.run_neq_ptr_same w _ Tryz.underlying59 hj];go_wp2
 go_end0
 exact ⟨rfl,rfl⟩
theorem Xm (b:Nat) (w:World) (h0:w.cell? ⟨b,0,none⟩=some (.pointer none)) (hsh:w.shape? b=some (61,2)) (hfz:w.frozen? ⟨b,0,none⟩=false) :
  Calls Tryz.prog 50 #[.pointer (some ⟨b,0,none⟩)] w fun e w' => e = .returned (.tuple #[])∧w'=w.setCell ⟨b,0,none⟩ (.pointer (some ⟨b,0,none⟩)):=by
 obtain ⟨j,hj,hjs⟩:=Option.map_eq_some_iff.1 ac2;go_enter Tryz.func50,Tryz.ntmps50
 go_wp2
 rw [Lib.run_to_unsafe w ⟨b,0,none⟩ Tryz.underlying59 Tryz.underlying132 hj (by rw [hjs];decide) hsh (Nat.zero_lt_succ 1)];simp only [Result.andThen];rw [Oper.upon_value];go_wp2
 rw [run_callFunc_extern Tryz.func68 (by kernel_rfl) (by kernel_rfl) (by kernel_rfl) (e:=Extern.AbiNoEscape.same) (by kernel_rfl)];rw [Lib.run_noEscape];simp only [Result.andThen];rw [Oper.upon_value];go_wp2
 rw [Lib.run_from_unsafe w ⟨b,0,none⟩ Tryz.underlying132 Tryz.underlying59 hj hsh ajx];simp only [Result.andThen];rw [Oper.upon_value];go_wp2
 go_end0
 exact ⟨rfl,rfl⟩
theorem aaz (B b:Nat) (bs:List Value) (w:World) (h:Lib.IsBuilder 61 5 B b bs w) :
  Calls Tryz.prog 50 #[.pointer (some ⟨b,0,none⟩)] w fun e w' => e = .returned (.tuple #[])∧(Lib.BuilderAt 61 5 B b (.pointer (some ⟨b,0,none⟩)) bs w'∧Below B w w'):=by
 rcases h with h | h
 ·
  refine (Xm b w h.cell0 h.shape h.frozen0).mono ?_;rintro e w' ⟨rfl,rfl⟩;exact ⟨rfl,h.used _,(Below.refl B w).setCell (p:=⟨b,0,none⟩) h.1 _⟩
 refine (Ya b w h.cell0).mono ?_;rintro e w' ⟨rfl,rfl⟩;exact ⟨rfl,h,Below.refl B _⟩
theorem adK (B b:Nat) (bs:List Value) (s:ByteArray) (w:World) (h:Lib.IsBuilder 61 5 B b bs w) (hlen:bs.length+s.size≤140737488355328) (hBw:B≤w.heap.size) :
  Calls Tryz.prog 20 #[.pointer (some ⟨b,0,none⟩),.string s] w fun e w' => e = .returned (.tuple #[.int .i64 s.size,.nilIface])∧(Lib.BuilderAt 61 5 B b (.pointer (some ⟨b,0,none⟩)) (bs ++ Lib.strCells s) w'∧Below B w w'):=by
 obtain ⟨i0,hi,hz0,hz1,hz2⟩:=info_parts SN;go_enter Tryz.func20,Tryz.ntmps20
 go_wp2_with fail;refine (aaz B b bs _ h).mono ?_;rintro e w1 ⟨rfl,h1,hb1⟩;obtain ⟨hB,v,hbk,hown,hne⟩:=h1;have c0:w1.cell? ⟨b,0,none⟩=some (.pointer (some ⟨b,0,none⟩)):=by rw [Lib.cell_of_heap hbk];rfl
 have c1:w1.cell? ⟨b,1,none⟩=some v:=by rw [Lib.cell_of_heap hbk];rfl
 go_wp2_with (at_builtin;refine Lib.wpList_append_own_string _ rfl _ _ 25 9 rfl B 5 i0 Tryz.underlying25 Tryz.underlying9 hi hz0 hz1 hz2 _ _ _ rfl hown s rfl ?c3 ?c4 ?c5 ?_)
 case c3 => unfold maxLen;omega
 case c4 => omega
 case c5 => have:=hb1.size;omega
 intro v' w2 hown' hgrow _;have hlt:b < w1.heap.size:=by
  rcases Nat.lt_or_ge b w1.heap.size with h' | h'
  · exact h'
  simp [Array.getElem?_eq_none h'] at hbk
 have hb2:w2.heap[b]?=some (.cells #[.pointer (some ⟨b,0,none⟩),v] 61 (0,0)):=by
  rw [hgrow.block b hlt (fun e => hne e.symm)];exact hbk
 have d0:w2.cell? ⟨b,0,none⟩=some (.pointer (some ⟨b,0,none⟩)):=by rw [Lib.cell_of_heap hb2];rfl
 have d1:w2.cell? ⟨b,1,none⟩=some v:=by rw [Lib.cell_of_heap hb2];rfl
 have f1:w2.frozen? ⟨b,1,none⟩=false:=Lib.frozen_of_heap hb2 1;obtain ⟨ao,n',cap,rfl⟩ : ∃ ao n' cap,v' = .slice ao n' cap:=by
  rcases hown'.2 with ⟨hv,_⟩ | ⟨g,cap,cur,hv,_⟩
  · exact ⟨_,_,_,hv⟩
  exact ⟨_,_,_,hv⟩
 go_wp2_with fail;go_ret2;refine ⟨rfl,?_,?_⟩
 · exact Lib.BuilderAt.put (T:=61) (e:=5) hB hb2 (bs':=bs ++ Lib.strCells s) (by simpa [Lib.strCells_length] using hown') (by decide)
 exact (hb1.grown hgrow (by have:=hb1.size;omega) (fun k hk => (hown.lt k hk).1)).setCell (p:=⟨b,1,none⟩) hB _
theorem ahk:Tryz.prog.cellsOf 5=1:=by kernel_rfl
theorem Xn (w:World) (g n:Nat) (k:Nat) (h:k≠g):(w.freeze ⟨g,0,none⟩ n).heap[k]?=w.heap[k]?:=by
 unfold World.freeze;split
 · rfl
 simp only [Array.getElem?_modify];rw [if_neg (fun h2 => h h2.symm)]
theorem ae8 (B b:Nat) (l:List UInt8) (w:World) (h:Lib.IsBuilder 61 5 B b (Lib.byteCells l) w) (h0:l≠[]) :
  Calls Tryz.prog 22 #[.pointer (some ⟨b,0,none⟩)] w fun e w' => e = .returned (.string ⟨l.toArray⟩)∧∃ g cap,B≤g∧w.cell? ⟨b,1,none⟩=some (.slice (some ⟨g,0,none⟩) l.length cap)∧(∀ k,k≠g→w'.heap[k]?=w.heap[k]?)∧Below B w w':=by
 obtain ⟨p,hB,v,hbk,hown,hne⟩ : ∃ p,Lib.BuilderAt 61 5 B b p (Lib.byteCells l) w:=by
  rcases h with h | h
  · exact ⟨_,h⟩
  exact ⟨_,h⟩
 have hl0:l.length≠0:=by simpa using h0
 rw [Lib.byteCells_length] at hown;obtain ⟨g,cap,cur,rfl,hbg,hg,hnc,hcm,hcs,-⟩ : ∃ g cap cur,v = .slice (some ⟨g,0,none⟩) l.length cap∧B≤g∧w.heap[g]?=some (.cells cur 5 (0,0))∧l.length≤cap∧cap≤maxLen∧cur.size=cap*1∧True:=by
  rcases hown.2 with ⟨_,hz⟩ | ⟨g,cap,cur,hv,h1,h2,h3,h4,h5,_⟩
  · exact absurd hz hl0
  exact ⟨g,cap,cur,hv,h1,h2,h3,h4,h5,trivial⟩
 have c0:w.cell? ⟨b,1,none⟩=some (.slice (some ⟨g,0,none⟩) l.length cap):=by rw [Lib.cell_of_heap hbk];rfl
 have c1:w.drew.cell? ⟨b,1,none⟩=some (.slice (some ⟨g,0,none⟩) l.length cap):=c0;have hSD:(Builtin.unsafeSliceData_ #[25] 111 #[.slice (some ⟨g,0,none⟩) l.length cap]).run Tryz.prog w.drew = .ok (.pointer (some ⟨g,0,none⟩)) w.drew:=Lib.run_unsafeSliceData_row _ _ _ _ _ _ (by omega);have hUS:(Builtin.unsafeString_ #[111,3] 9 #[.pointer (some ⟨g,0,none⟩),.int .i64 l.length]).run Tryz.prog w.drew = .ok (.string ⟨l.toArray⟩) (w.drew.freeze ⟨g,0,none⟩ l.length):=by
  refine Lib.run_unsafeString_row w.drew 111 3 9 5 Tryz.underlying111 ahk g cur.size (by have hg':w.drew.heap[g]?=some (.cells cur 5 (0,0)):=hg;simp [World.shape?,hg']) l h0 (by omega) (by unfold maxLen at hcm;omega) ?_;intro j x hx;exact hown.cells (g:=g) rfl j (.int .u8 x.toNat) (by simp [Lib.byteCells,hx])
 have hE:Below B w (w.drew.freeze ⟨g,0,none⟩ l.length):=Lib.below_freeze (Below.drew (Below.refl B w)) (p:=⟨g,0,none⟩) hbg _;have hK:∀ k,k≠g→(w.drew.freeze ⟨g,0,none⟩ l.length).heap[k]?=w.heap[k]?:=fun k hk => Xn w.drew g _ k hk;have hC:=hiQ c0;clear hg hnc hcm hcs hown hbk hne h c0;have mixed:Tryz.prog.follows Departure.mixedOrders=true:=by kernel_rfl
 go_enter Tryz.func22,Tryz.ntmps22
 go_wp2
 go_region_o
 all_goals (go_wp2;go_ret;exact ⟨rfl,g,cap,hbg,hC.out,hK,hE⟩)
theorem ae9 (b:Nat) (w:World) (hbk:Has w b 61 #[.pointer none,.slice none 0 0]) :
  Calls Tryz.prog 22 #[.pointer (some ⟨b,0,none⟩)] w (RT w (.string ⟨#[]⟩)):=by
 have c1:w.drew.cell? ⟨b,1,none⟩=some (.slice none 0 0):=hbk.e1;have hSD:(Builtin.unsafeSliceData_ #[25] 111 #[.slice none 0 0]).run Tryz.prog w.drew = .ok (.pointer none) w.drew:=rfl;have hUS:(Builtin.unsafeString_ #[111,3] 9 #[.pointer none,.int .i64 0]).run Tryz.prog w.drew = .ok (.string .empty) w.drew:=Lib.run_unsafeString_none w.drew _ _ _ none;have hE:Below w.heap.size w w.drew:=(Below.refl _ w).drew;clear hbk;have mixed:Tryz.prog.follows Departure.mixedOrders=true:=by kernel_rfl
 go_enter Tryz.func22,Tryz.ntmps22
 go_wp2
 go_region_o
 all_goals (go_wp2;go_ret;exact ⟨rfl,hE⟩)
def Tc (n:Int):Val:=.mk 2 false n [] 0 [] [] []
def ajy (s:List UInt8):Val:=.mk 3 false 0 s 0 [] [] []
theorem Rw (w:World) (B:Nat):qF w B (.slice none 0 0) []:=⟨fun _ => [],⟨none,0,rfl,Nat.le_refl _,.inl rfl⟩,fun i h => by simp at h⟩
theorem JJ (w:World) (B:Nat):rW w B (.slice none 0 0) []:=⟨fun _ => [],⟨none,0,rfl,Nat.le_refl _,.inl rfl⟩,fun i h => by simp at h⟩
theorem Y8 (w:World) (B:Nat) (k:Int) (b:Bool) (n:Int) (s:List UInt8) (id:Int) (h:I64 k∧I64 n∧I64 id) (hs:s.length≤140737488351232):ValAt w B (.mk k b n s id [] [] []) (.slice none 0 0) (.slice none 0 0) (.slice none 0 0) :=
 ⟨h,hs,⟨by simp [Val.keys],by simp [Val.items],by simp [Val.rest]⟩,by simp [Val.rest],Rw w B,Rw w B,Rd.nil_ w B 2⟩
theorem ajz (w:World) (B:Nat) (n:Int) (h:I64 n):ValAt w B (Tc n) (.slice none 0 0) (.slice none 0 0) (.slice none 0 0):=Y8 w B 2 false n [] 0 ⟨by simp [I64],h,by simp [I64]⟩ (by simp)
theorem Y9 (w:World) (B:Nat):ValAt w B jm (.slice none 0 0) (.slice none 0 0) (.slice none 0 0):=Y8 w B 0 false 0 [] 0 ⟨by simp [I64],by simp [I64],by simp [I64]⟩ (by simp)
theorem MK (w:World) (o:Obj):(w.alloc o).heap.size=w.heap.size+1:=by simp
theorem Xp {w:World} {B g size n:Nat} {T:TypeId} {c:Nat→List Value} (h:Has w g T (nN c n).toArray) (hB:g < B) (hc:∀ i,i < n→(c i).length=size):Row w B size (.slice (some ⟨g,0,none⟩) n n) n c:=by
 refine ⟨_,n,rfl,Nat.le_refl _,?_⟩;refine .inr ⟨g,0,rfl,hB,fun i hi j u hu => ?_⟩;have hj:j < size:=by rw [← hc i hi];exact (List.getElem?_eq_some_iff.1 hu).1
 have h1:=h.cell (i*size+j);rw [List.getElem?_toArray,zN c size n hc i j hi hj,hu] at h1;rw [show 0+i*size+j=i*size+j by omega];exact h1
end Go.Proofs.YticejnbbonnniaaGreatDoor
