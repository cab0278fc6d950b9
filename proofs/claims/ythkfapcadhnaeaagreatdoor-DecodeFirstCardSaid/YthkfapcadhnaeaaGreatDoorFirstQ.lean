/- Plain: what stands behind the first failure of a list does not matter. No condition. -/
import Derived.Test.YthkfapcadhnaeaaGreatDoorHAI
namespace Go.Proofs.YthkfapcadhnaeaaGreatDoor
open Go.ChangeShapes Go.WideShapes Go.ChangeAt Go.RowKit
theorem ahv (b:UInt8) (r:List UInt8) (h:b.toNat < 128):jV 0 0 (b :: r)=(b.toNat,1,0):=by
 simp [jV,show ¬ 128≤b.toNat by omega]
theorem acy (p r:List UInt8):uF (UInt8.ofNat (Aq p).length :: (Aq p ++ r))=some (Aq p,r):=by
 have hl:=QN p
 have hb:(UInt8.ofNat (Aq p).length).toNat=(Aq p).length:=by simp;omega
 have hn:qW (UInt8.ofNat (Aq p).length :: (Aq p ++ r))=some ((Aq p).length,Aq p ++ r):=by
  simp only [qW,ahv _ _ (by omega:(UInt8.ofNat (Aq p).length).toNat < 128),hb]
  simp
 simp only [uF,hn]
 rw [if_pos (by simp)]
 simp
theorem aa5:∀ (l:List (List UInt8)) (f:Nat) (acc:List (List UInt8)),(pack l).length≤f→wU f (pack l) acc=some (acc ++ l.map Aq)
 | [],f,acc,_ => by cases f <;> simp [wU,pack]
 | p :: l,0,acc,h => by simp [pack] at h
 | p :: l,f+1,acc,h => by
  have e:pack (p :: l)=UInt8.ofNat (Aq p).length :: (Aq p ++ pack l):=by simp [pack]
  rw [e] at h ⊢
  simp only [wU,acy]
  rw [if_neg (by simp),aa5 l f _ (by simp at h;omega)]
  simp
theorem abQ (l:List (List UInt8)):sV (pack l)=some (l.map Aq):=by
 have:=aa5 l (pack l).length [] (Nat.le_refl _)
 simpa [sV] using this
theorem abd {f:Nat→fO} : ∀ (n i:Nat) (acc:List Val) (e:List Int × Int),gB f n i acc = .error e→∃ k,i≤k∧k < i+n∧f k = .error e∧∀ j,i≤j→j < k→∃ v,f j = .ok v
 | 0,i,acc,e,h => by simp [gB] at h
 | n+1,i,acc,e,h => by
  simp only [gB] at h
  cases hf:f i with
  | error e' => rw [hf] at h;cases h;exact ⟨i,Nat.le_refl _,by omega,hf,fun j h1 h2 => by omega⟩
  | ok v =>
   rw [hf] at h
   obtain ⟨k,h1,h2,h3,h4⟩:=abd n (i+1) _ e h
   refine ⟨k,by omega,by omega,h3,fun j hj1 hj2 => ?_⟩
   by_cases hj:j=i
   · subst hj;exact ⟨v,hf⟩
   exact h4 j (by omega) hj2
theorem ab5 {f:Nat→fO} {e:List Int × Int} : ∀ (n i k:Nat) (acc:List Val),i≤k→k < i+n→f k = .error e→(∀ j,i≤j→j < k→∃ v,f j = .ok v)→gB f n i acc = .error e
 | 0,i,k,acc,h1,h2,_,_ => by omega
 | n+1,i,k,acc,h1,h2,h3,h4 => by
  simp only [gB]
  by_cases hk:k=i
  · subst hk;rw [h3]
  obtain ⟨v,hv⟩:=h4 i (Nat.le_refl _) (by omega)
  rw [hv]
  exact ab5 n (i+1) k _ (by omega) (by omega) h3 (fun j hj1 hj2 => h4 j (by omega) hj2)
def Pre {α:Type} (N:List Int) (r:Except (List Int × Int) α):Prop := ∀ p n,r = .error (p,n)→p = []∨N <+: p
theorem aaV {α:Type} {N:List Int} (v:α):Pre N (.ok v):=fun _ _ h => by cases h
theorem aaX {α:Type} {N:List Int} {p:List Int} (n:Int) (h:p = []∨N <+: p):Pre N (.error (p,n):Except (List Int × Int) α):=fun _ _ e => by cases e;exact h
theorem aaW {α β:Type} {N:List Int} {r:Except (List Int × Int) α} {e:List Int × Int} (h:Pre N r) (he:r = .error e):Pre N (.error e:Except (List Int × Int) β):=fun p n e' => by cases e';exact h p n he
theorem aaY {N:List Int} {f:Nat→fO} (hf:∀ i,Pre N (f i)):∀ (n i:Nat) (acc:List Val),Pre N (gB f n i acc)
 | 0,i,acc => by rw [gB];exact aaV _
 | n+1,i,acc => by
  rw [gB]
  cases h:f i with
  | error e => exact aaW (hf i) h
  | ok v => exact aaY hf n (i+1) _
theorem aa2 {N:List Int} {x:aC} {path:List Int} (hN:N <+: path):∀ (l:List nN) (acc:List Raw),Pre N (jG x path l acc)
 | [],acc => by rw [jG];exact aaV _
 | f :: r,acc => by
  rw [jG]
  split
  · exact aa2 hN r acc
  split
  · exact aaX _ (.inr (hN.trans (List.prefix_append _ _)))
  exact aa2 hN r _
theorem ahw {N:List Int} {rec:Int→List UInt8→List Int→fO} {x:aC} {l:List nN} {path:List Int} (hr:∀ t q s,Pre N (rec t q (path ++ [s]))) (hN:N <+: path) (i:Nat):Pre N (wH rec x l path i):=by
 unfold wH
 split
 · exact aaX _ (.inl rfl)
 split
 · exact hr _ _ _
 split
 · exact aaV _
 exact aaX _ (.inr (hN.trans (List.prefix_append _ _)))
theorem ahy {N:List Int} {rec:Int→List UInt8→List Int→fO} {path:List Int} (hr:∀ t q s,Pre N (rec t q (path ++ [s]))) (hN:N <+: path) (x:aC) (p:List UInt8):Pre N (aG rec x p path):=by
 have h0:∀ n,Pre N (.error (path,n):fO):=fun n => aaX n (.inr hN)
 unfold aG
 by_cases k1:x.kind=1
 · rw [if_pos k1];split;exact aaV _;split;exact aaV _;exact h0 _
 rw [if_neg k1]
 by_cases k2:x.kind=2
 · rw [if_pos k2];split;exact h0 _;split;exact h0 _;exact aaV _
 rw [if_neg k2]
 by_cases k3:x.kind=3
 · rw [if_pos k3];split;exact h0 _;exact aaV _
 rw [if_neg k3]
 by_cases k4:x.kind=4
 · rw [if_pos k4];split;exact h0 _;split;exact h0 _;exact aaV _
 rw [if_neg k4]
 by_cases k5:x.kind=5
 ·
  rw [if_pos k5]
  split
  · exact h0 _
  split
  · rename_i he;exact aaW (aaY (fun i => ahw hr hN i) _ _ _) he
  split
  · rename_i he;exact aaW (aa2 hN _ _) he
  exact aaV _
 rw [if_neg k5]
 by_cases k6:x.kind=6
 ·
  rw [if_pos k6]
  split
  · exact h0 _
  split
  · split;exact aaV _;exact h0 _
  split
  · rename_i he;exact aaW (hr _ _ _) he
  exact aaV _
 rw [if_neg k6]
 by_cases k7:x.kind=7
 ·
  rw [if_pos k7]
  split
  · exact h0 _
  split
  · exact h0 _
  split
  · rename_i he;exact aaW (aaY (fun i => hr _ _ _) _ _ _) he
  exact aaV _
 rw [if_neg k7]
 by_cases k8:x.kind=8
 ·
  rw [if_pos k8]
  split
  · exact h0 _
  split
  · exact h0 _
  split
  · exact h0 _
  split
  · rename_i he;exact aaW (aaY (fun i => hr _ _ _) _ _ _) he
  split
  · exact h0 _
  split
  · rename_i he;exact aaW (aaY (fun i => hr _ _ _) _ _ _) he
  exact aaV _
 rw [if_neg k8]
 split
 · exact aaV _
 split
 · exact h0 _
 split
 · rename_i he;exact aaW (hr _ _ _) he
 exact aaV _
theorem abC (ts:List aC):∀ (n:Nat) (t:Int) (p:List UInt8) (path N:List Int),N <+: path→Pre N (decP ts n t p path)
 | 0,t,p,path,N,h => by rw [decP];exact aaX _ (.inr h)
 | n+1,t,p,path,N,h => by
  rw [decP]
  split
  · exact aaX _ (.inl rfl)
  exact ahy (fun t q s => abC ts n t q (path ++ [s]) N (h.trans (List.prefix_append _ _))) h _ _
theorem aa1 {ts:List aC} {x:aC} (hv:eY ts=0) (hx:fB ts 0=some x) (hk:x.kind=7) (l:List (List UInt8)) (hl:l.length≤300) :
  iE ts 0 (pack l) = .ok (if x.max < l.length then .error ([],3) else match gB (fun i => decP ts 199 x.elem ((l.map Aq).getD i []) ([(i:Int)])) l.length 0 [] with
   | .error e => .error e
   | .ok is => .ok (.mk 7 false 0 [] 0 [] is [])):=by
 have h1:=Vr l
 unfold iE
 rw [if_neg (by simp [hv]),if_neg (by simp [hx]),if_neg (by omega)]
 have:decP ts 200 0 (pack l) []=aG (decP ts 199) x (pack l) []:=by rw [decP,hx]
 rw [this]
 unfold aG
 rw [if_neg (by omega),if_neg (by omega),if_neg (by omega),if_neg (by omega),if_neg (by omega),if_neg (by omega),if_pos hk,abQ]
 simp only [List.length_map,List.nil_append]
 rfl
theorem aa6 {ts:List aC} {x:aC} (hv:eY ts=0) (hx:fB ts 0=some x) (hk:x.kind=7) {a:List (List UInt8)} (ha:a.length≤6) {q:List Int} {n:Int} (h:iE ts 0 (pack a) = .ok (.error (q,n))) (hq:q≠[]) :
  ∃ k:Nat,q.head?=some (k:Int)∧k+1≤a.length∧(a.length:Int)≤x.max∧decP ts 199 x.elem ((a.map Aq).getD k []) [(k:Int)] = .error (q,n)∧∀ j,j < k→∃ v,decP ts 199 x.elem ((a.map Aq).getD j []) [(j:Int)] = .ok v:=by
 rw [aa1 hv hx hk a (by omega)] at h
 injection h with h
 by_cases hm:x.max < a.length
 · rw [if_pos hm] at h;injection h with h;injection h with h _;exact absurd h.symm hq
 rw [if_neg hm] at h
 split at h
 ·
  rename_i e he
  injection h with h;subst h
  obtain ⟨k,h1,h2,h3,h4⟩:=abd _ _ _ _ he
  refine ⟨k,?_,by omega,by omega,h3,fun j hj => h4 j (by omega) hj⟩
  rcases abC ts 199 _ _ _ [(k:Int)] (List.prefix_refl _) q n h3 with e | ⟨r,e⟩
  · exact absurd e hq
  subst e;rfl
 cases h
theorem acz {ts:List aC} {x:aC} (hv:eY ts=0) (hx:fB ts 0=some x) (hk:x.kind=7) {a b:List (List UInt8)} (ha:a.length≤6) (hb:b.length≤6) {q:List Int} {n:Int} (h:iE ts 0 (pack a) = .ok (.error (q,n))) {k:Nat} (hq:q.head?=some (k:Int)) :
  k+1≤a.length∧iE ts 0 (pack (behind a b ((k:Int)+1) x.max)) = .ok (.error (q,n)):=by
 obtain ⟨k',e,h1,h2,h3,h4⟩:=aa6 hv hx hk ha h (by rintro rfl;cases hq)
 have:k'=k:=by rw [e] at hq;injection hq with hq;omega
 subst this
 refine ⟨h1,?_⟩
 have ht:((k':Int)+1).toNat=k'+1:=by omega
 have hL:((behind a b ((k':Int)+1) x.max).length:Int)≤x.max∧(behind a b ((k':Int)+1) x.max).length≤12∧k'+1≤(behind a b ((k':Int)+1) x.max).length∧∀ j,j≤k'→(behind a b ((k':Int)+1) x.max)[j]?=a[j]?:=by
  unfold behind
  rw [ht]
  have hl:(a.take (k'+1) ++ b).length=k'+1+b.length:=by simp;omega
  have hg:∀ j,j≤k'→(a.take (k'+1) ++ b)[j]?=a[j]?:=fun j hj => by
   rw [List.getElem?_append_left (by simp;omega),List.getElem?_take,if_pos (by omega)]
  split
  ·
   have hmx:(if (k':Int)+1 < x.max then x.max else (k':Int)+1)=x.max:=by split <;> omega
   rw [hmx]
   refine ⟨by rw [List.length_take];omega,by rw [List.length_take];omega,by rw [List.length_take];omega,fun j hj => ?_⟩
   rw [List.getElem?_take,if_pos (by omega),hg j hj]
  exact ⟨by omega,by omega,by omega,hg⟩
 obtain ⟨l1,l2,l3,l4⟩:=hL
 generalize behind a b ((k':Int)+1) x.max=l at l1 l2 l3 l4
 have hg:∀ j,j≤k'→(l.map Aq).getD j []=(a.map Aq).getD j []:=fun j hj => by
  simp only [List.getD_eq_getElem?_getD,List.getElem?_map,l4 j hj]
 rw [aa1 hv hx hk l (by omega),if_neg (by omega),ab5 (e:=(q,n)) l.length 0 k' [] (by omega) (by omega) (by simp only [hg k' (Nat.le_refl _)];exact h3) (fun j _ hj => by simp only [hg j (by omega)];exact h4 j hj)]
end Go.Proofs.YthkfapcadhnaeaaGreatDoor
