/- Members in a row of the call's own that are changed in place; symbols whose names are changed one by one. No condition. -/
import Derived.Test.YtlamhkffnlgofaaGreatDoorHAN
import Derived.Test.YtlamhkffnlgofaaGreatDoorCopP
namespace Go.Proofs.YtlamhkffnlgofaaGreatDoor
open Go.ChangeShapes Go.WideShapes Go.ChangeAt Go.RowKit
theorem Row.aIo {w:World} {B size n:Nat} {v:Value} {c:Nat→List Value} (h:Row w B size v n c) (hs:0 < size) (hc:∀ i,i < n→(c i).length=size):Rd w B size v n (nN c n):=by
 obtain ⟨A,cap,hv,hcap,h2⟩:=h;refine ⟨arY c size n hc,A,cap,hv,hcap,?_⟩;rcases h2 with h2 | ⟨b,o,hA,hb,hcell⟩
 · exact .inl h2
 refine .inr ⟨b,o,hA,hb,fun j u hu => ?_⟩;obtain ⟨h3,h4⟩:=Ub c size n hs hc j u hu;have h5:=hcell (j / size) h3 (j % size) u h4;rwa [show o+j / size*size+j % size=o+j by rw [Nat.add_assoc,Nat.mul_comm,Nat.div_add_mod]] at h5
structure anJ (w0 wr:World) (L:Nat) (v:Value) (ms:List Mem):Prop where
 ex:∃ (c:Nat→List Value) (xs:List Value),wr.ownsRow L 83 13 v ms.length xs∧EM 13 ms.length xs c ∧
  ∀ (i:Nat) (h:i < ms.length),∃ vk vi vr,c i=ZK ms[i] vk vi vr∧GH w0 w0.heap.size ms[i] vk vi vr
section
variable {w0 wr:World} {L g cap k:Nat} {v:Value} {ms:List Mem}
theorem anJ.kept (h:anJ w0 wr L v ms):Kept (fun W => anJ w0 W L v ms) wr L wr.heap.size:=by
 obtain ⟨c,xs,h1,h2⟩:=h.ex;exact ⟨h,fun _ hk => ⟨⟨c,xs,DI h1 hk,h2⟩⟩,Nat.le_refl _⟩
theorem anJ.all (h:anJ w0 wr L v ms) (hb:Below w0.heap.size w0 wr):als wr (fun b => b < w0.heap.size∨(L≤b∧b < wr.heap.size)) v ms:=by
 obtain ⟨c,xs,h1,h2,h3⟩:=h.ex;refine ⟨c,(Bh.aek h1 h2).keep (fun _ _ => rfl) (fun b hb => .inr (h1.lt b hb)),fun i hi => ?_⟩;obtain ⟨a,b,d,h4,h5⟩:=h3 i hi;exact ⟨a,b,d,h4,h5.toP.keep (fun p hp => hb.cell hp) fun b hb => .inl hb⟩
theorem anJ.at_ {m:Mem} (h:anJ w0 wr L (.slice (some ⟨g,0,none⟩) ms.length cap) ms) (hm:ms[k]?=some m):L≤g∧g < wr.heap.size∧wr.cell? ⟨g,k*13+1,none⟩=some (.string ⟨m.name.toArray⟩)∧wr.cell? ⟨g,k*13+2,none⟩=some (.int .i64 m.ty)∧∀ j,wr.frozen? ⟨g,j,none⟩=false:=by
 obtain ⟨c,xs,h1,h2,h3⟩:=h.ex;obtain ⟨hk,rfl⟩:=List.getElem?_eq_some_iff.1 hm;obtain ⟨a,b,d,h4,h5⟩:=h3 k hk;have hg:=h1.lt g rfl;have hl:=IC (size:=13) hk;have hx:xs.length=ms.length*13:=h2.1;refine ⟨hg.1,hg.2,?_,?_,fun j => h1.frozenAt j⟩
 ·
  rw [h1.cellAt (k*13+1) (by omega)];exact h2.2.2 k hk 1 _ (by rw [h4];rfl)
 rw [h1.cellAt (k*13+2) (by omega)];exact h2.2.2 k hk 2 _ (by rw [h4];rfl)
theorem zLl {p:Prop} (h:p:=by
 refine ⟨a,b,d,?_,?_⟩
 ·
  dsimp only;rw [if_neg e,h4,List.getElem_set_ne (fun h => e h.symm)]
 rw [List.getElem_set_ne (fun h => e h.symm)];exact h5):p:=h
theorem anJ.name {m:Mem} (h:anJ w0 wr L (.slice (some ⟨g,0,none⟩) ms.length cap) ms) (hm:ms[k]?=some m) (nm:List UInt8) (hn:nm.length≤140737488351232):anJ w0 (wr.setCell ⟨g,k*13+1,none⟩ (.string ⟨nm.toArray⟩)) L (.slice (some ⟨g,0,none⟩) ms.length cap) (ms.set k { m with name:=nm }):=by
 obtain ⟨c,xs,h1,h2,h3⟩:=h.ex;obtain ⟨hk,rfl⟩:=List.getElem?_eq_some_iff.1 hm;refine ⟨⟨fun i => if i=k then (c i).set 1 (.string ⟨nm.toArray⟩) else c i,xs.set (k*13+1) (.string ⟨nm.toArray⟩),by rw [List.length_set];exact (h1.stored (k*13+1) (.string ⟨nm.toArray⟩)).1,by rw [List.length_set];exact h2.set1 k 1 (.string ⟨nm.toArray⟩) hk (by omega),fun i hi => ?_⟩⟩;rw [List.length_set] at hi;obtain ⟨a,b,d,h4,h5⟩:=h3 i hi;by_cases e:i=k
 ·
  subst e;refine ⟨a,b,d,?_,?_⟩
  ·
   dsimp only;rw [if_pos rfl,h4,List.getElem_set_self];rfl
  rw [List.getElem_set_self];exact ⟨h5.ints,hn,h5.dflt⟩
 exact zLl
theorem anJ.ty {m:Mem} (h:anJ w0 wr L (.slice (some ⟨g,0,none⟩) ms.length cap) ms) (hm:ms[k]?=some m) (nm:Int) (hn:I64 nm):anJ w0 (wr.setCell ⟨g,k*13+2,none⟩ (.int .i64 nm)) L (.slice (some ⟨g,0,none⟩) ms.length cap) (ms.set k { m with ty:=nm }):=by
 obtain ⟨c,xs,h1,h2,h3⟩:=h.ex;obtain ⟨hk,rfl⟩:=List.getElem?_eq_some_iff.1 hm;refine ⟨⟨fun i => if i=k then (c i).set 2 (.int .i64 nm) else c i,xs.set (k*13+2) (.int .i64 nm),by rw [List.length_set];exact (h1.stored (k*13+2) (.int .i64 nm)).1,by rw [List.length_set];exact h2.set1 k 2 (.int .i64 nm) hk (by omega),fun i hi => ?_⟩⟩;rw [List.length_set] at hi;obtain ⟨a,b,d,h4,h5⟩:=h3 i hi;by_cases e:i=k
 ·
  subst e;refine ⟨a,b,d,?_,?_⟩
  ·
   dsimp only;rw [if_pos rfl,h4,List.getElem_set_self];rfl
  rw [List.getElem_set_self];exact ⟨⟨h5.ints.1,hn⟩,h5.GI,h5.dflt⟩
 exact zLl
end
def aEb (s:Raw):Raw:=(s.1,s.2 ++ [120])
def auo (ss:List Raw) (k:Nat):List Value:=jO ((ss.take k).map aEb ++ ss.drop k)
theorem aEc (ss:List Raw):auo ss 0=jO ss:=by simp [auo]
theorem aFp (ss:List Raw):auo ss ss.length=jO (ss.map aEb):=by simp [auo]
theorem avU (ss:List Raw) (k:Nat) (h:k < ss.length):(jO ((ss.take k).map aEb)).length=k*2:=by
 show ((((ss.take k).map aEb)).flatMap Kw).length=_;rw [VN Jl,List.length_map,List.length_take];rw [Nat.min_eq_left (by omega)]
theorem aEd (ss:List Raw) (k:Nat) (h:k < ss.length):(auo ss k).set (k*2+1) (.string ⟨(ss[k].2 ++ [120]).toArray⟩)=auo ss (k+1):=by
 unfold auo;rw [List.drop_eq_getElem_cons h,aoz,aoz,List.take_succ_eq_append_getElem h,List.map_append,aoz,List.append_assoc];rw [List.set_append_right _ _ (by rw [avU ss k h];omega),avU ss k h,show k*2+1 - k*2=1 by omega]
 rfl
theorem aFu (ss:List Raw) (k:Nat) (h:k < ss.length):(auo ss k)[k*2+1]?=some (.string ⟨ss[k].2.toArray⟩):=by
 unfold auo;rw [List.drop_eq_getElem_cons h,aoz,List.getElem?_append_right (by rw [avU ss k h];omega),avU ss k h,show k*2+1 - k*2=1 by omega];rfl
def ayd (n:Nat) (sx:Bool) (j:Nat) (xs ms:List Mem):Prop:=ms.length=xs.length∧∀ (q:Nat) (m m':Mem),xs[q]?=some m→ms[q]?=some m'→if q < j then aF4 n sx m m' else m'=m
theorem ayd.zero (n:Nat) (sx:Bool) (xs:List Mem):ayd n sx 0 xs xs:=⟨rfl,fun q m m' h1 h2 => by rw [h1] at h2;rw [if_neg (by omega)];exact (Option.some.inj h2).symm⟩
theorem ayd.at_ {n:Nat} {sx:Bool} {j:Nat} {xs ms:List Mem} (h:ayd n sx j xs ms) (hj:j < xs.length):ms[j]?=some xs[j]:=by
 have h2:=List.getElem?_eq_getElem (show j < ms.length by rw [h.1];exact hj);have h3:=h.2 j _ _ (List.getElem?_eq_getElem hj) h2;rw [if_neg (by omega)] at h3;rw [h2,h3]
theorem ayd.next {n:Nat} {sx:Bool} {j:Nat} {xs ms:List Mem} {m m1:Mem} (h:ayd n sx j xs ms) (hm:xs[j]?=some m) (h1:aF4 n sx m m1):ayd n sx (j+1) xs (ms.set j m1):=by
 obtain ⟨hl,h⟩:=h;refine ⟨by rw [List.length_set];exact hl,fun q a b ha hb => ?_⟩;by_cases e:q=j
 ·
  subst e;have hq:q < ms.length:=by rw [hl];exact (List.getElem?_eq_some_iff.1 ha).1
  rw [List.getElem?_set_self hq] at hb;rw [hm] at ha;obtain rfl:=Option.some.inj ha;obtain rfl:=Option.some.inj hb;rw [if_pos (by omega)];exact h1
 rw [List.getElem?_set_ne (fun h => e h.symm)] at hb;have h2:=h q a b ha hb;by_cases h3:q < j
 · rw [if_pos h3] at h2;rw [if_pos (by omega)];exact h2
 rw [if_neg h3] at h2;rw [if_neg (by omega)];exact h2
theorem aFq {ms:List Mem} {j:Nat} {m:Mem} (h:ms[j]?=some m):ms.set j m=ms:=by
 apply List.ext_getElem?
 intro q;by_cases e:q=j
 · subst e;rw [List.getElem?_set_self (List.getElem?_eq_some_iff.1 h).1,h]
 rw [List.getElem?_set_ne (fun h => e h.symm)]
theorem ayJ (u:Nat):((u:Nat):Int).tmod 64=((u % 64:Nat):Int):=by rw [Int.tmod_eq_emod_of_nonneg (by omega)];omega
theorem ayK (b r:Nat):∃ q:Nat,q≤1∧((b:Int) / 2 ^ r).tmod 2=(q:Int):=by
 have h:((b:Int) / 2 ^ r)=((b / 2 ^ r:Nat):Int):=by push_cast;rfl
 rw [h];generalize b / 2 ^ r=z;refine ⟨z % 2,by omega,?_⟩;rw [Int.tmod_eq_emod_of_nonneg (Int.natCast_nonneg z)];omega
end Go.Proofs.YtlamhkffnlgofaaGreatDoor
