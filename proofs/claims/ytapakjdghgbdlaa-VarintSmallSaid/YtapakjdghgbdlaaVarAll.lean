/- What PutAll, GetAll, their references and Same compute. No condition. -/
import Derived.Test.YtapakjdghgbdlaaVarBig
import Derived.Test.YtapakjdghgbdlaaVarRGet
namespace Go.Proofs.Ytapakjdghgbdlaa
open Go.ChangeShapes Go.WideShapes Go.ChangeAt Go.RowKit

def V64 (n : Nat) : Value := .int .u64 (n : Int)
def putAll (ns : List Nat) : List UInt8 := ns.flatMap (putF 9)
theorem putF_len (f n : Nat) : (putF f n).length ≤ f + 1 := by
  induction f generalizing n with
  | zero => simp [putF]
  | succ f ih =>
    rw [putF]; split
    · simp
    · have := ih (n / 128); simp; omega
theorem putAll_len (ns : List Nat) : (putAll ns).length ≤ 10 * ns.length := by
  induction ns with
  | nil => simp [putAll]
  | cons n r ih =>
    have := putF_len 9 n
    simp only [putAll, List.flatMap_cons, List.length_append, List.length_cons] at *
    omega
theorem putAll_take (ns : List Nat) (k : Nat) (h : k < ns.length) : putAll (ns.take (k+1)) = putAll (ns.take k) ++ putF 9 ns[k] := by
  unfold putAll
  rw [List.take_succ_eq_append_getElem h, List.flatMap_append]
  simp only [List.flatMap_cons, List.flatMap_nil, List.append_nil]
theorem v64_get (ns : List Nat) (k : Nat) (h : k < ns.length) : (ns.map V64)[k]? = some (.int .u64 (ns[k] : Int)) := by
  simp [h, V64]

theorem cells_u64 : Try.prog.cellsOf 23 = 1 := by kernel_rfl
theorem open_slice_u64 {H : Type} {enc : TypeId × Value → H} {W : World} {base0 : Nat} {v : Value} {d : DataW H} {p : List MemPlace} (hv : Value.okWide Try.prog W .any base0 38 v) (h : DataW.Trod enc Try.prog W 0 (fun _ => true) true 38 v d p) :
    ∃ ns : List Nat, ns.length ≤ maxLen ∧ (∀ n ∈ ns, U64 n) ∧ Rd W W.heap.size 1 v ns.length (ns.map V64) := by
  obtain ⟨zs, h1, h2, h3⟩ := open_ints_rd Try.underlying38 Try.underlying23 cells_u64 hv h
  refine ⟨zs.map Int.toNat, by simpa using h1, ?_, ?_⟩
  · intro n hn
    obtain ⟨z, hz, rfl⟩ := List.mem_map.1 hn
    obtain ⟨m, rfl, hm⟩ := wf_u64 (h2 z hz)
    exact hm
  · have e : (zs.map Int.toNat).map V64 = zs.map (Value.int .u64) := by
      rw [List.map_map]
      refine List.map_congr_left fun z hz => ?_
      obtain ⟨m, rfl, hm⟩ := wf_u64 (h2 z hz)
      rfl
    rw [e, List.length_map]
    exact h3

set_option maxRecDepth 100000 in
set_option maxHeartbeats 400000 in
theorem putall_any (ns : List Nat) (hns : ∀ n ∈ ns, U64 n) (hlen : ns.length ≤ 1000) (v : Value) (w : World) (hr : Rd w w.heap.size 1 v ns.length (ns.map V64)) :
    Calls Try.prog 26 #[v] w fun e w' => e = .returned (.string ⟨(putAll ns).toArray⟩) ∧ Below w.heap.size w w' := by
  obtain ⟨A, c, rfl, hc⟩ := hr.form
  have Hns := Lib.hid hns
  clear hns
  go_enter Try.func26, Try.ntmps26
  go_wp2
  go_loopw [3, 8] (fun o i wr => ∃ k m : Nat, k ≤ ns.length ∧ i = .int .i64 k ∧ wr.ownsRow w.heap.size 5 1 o m ((putAll (ns.take k)).map B8) ∧ m ≤ 10 * k ∧ Below w.heap.size w wr)
     (fun _ i _ => ns.length - (intOf i).toNat)
  case atStart => exact ⟨0, 0, by omega, rfl, World.ownsRow_nil _ _ _ _, by omega, Below.refl _ _⟩
  case round =>
    obtain ⟨k, m, hk, rfl, hown, hm, hb⟩ := hrel
    by_cases hlt : k < ns.length
    · obtain ⟨b, o, rfl, hbb, hcell⟩ := (hr.below hb).at_ (by omega)
      have hc1 : wr.cell? ⟨b, o + k, none⟩ = some (.int .u64 (ns[k] : Int)) := hcell k _ (v64_get ns k hlt)
      have hcell' := Lib.hid hcell
      have hu : U64 ns[k] := Hns.out _ (List.getElem_mem hlt)
      generalize hx : ns[k] = x at *
      have Hx := Lib.hid hx
      clear hcell hx
      have hpl := putF_len 9 x
      go_wp2_with first
        | (go_at_call 14; refine (put x hu _).mono ?_; rintro e w1 ⟨rfl, hb1⟩)
        | (at_builtin
           refine wpList_append_str rfl _ _ _ _ rfl w.heap.size 5 Try.underlying46 Try.underlying9 info_u8 _ m _ rfl (own_below hown hb1) _ rfl (by omega) (by have := hb.size; have := hb1.size; omega) ?_
           intro v' w2 hown2 hb2)
      go_roundw
      case rel =>
        refine ⟨k + 1, m + (putF 9 x).length, by omega, by go_num, ?_, by omega, hb.trans ((hb1.mono hb.size).trans hb2)⟩
        rw [putAll_take ns k hlt, Hx.out]
        exact hown2
      case measure => simp [intOf]; omega
    · have hk2 : k = ns.length := by omega
      have hcv := conv_owned 46 9 5 Try.underlying46 Try.underlying5 Try.underlying9 hown
      clear hown hk2
      go_wp2
      go_ret
      exact ⟨by rw [List.take_of_length_le (by omega)]; rfl, hb⟩

def strLen : Value → Nat | .string s => s.size | _ => 0
theorem getF_ok (l : List UInt8) : ∀ (i n : Nat), i ≤ 9 → n < 128 ^ i → (getF i n l).2.2 = 0 → i < (getF i n l).2.1 ∧ (getF i n l).2.1 ≤ i + l.length ∧ U64 (getF i n l).1 := by
  induction l with
  | nil => intro i n _ _ h; simp [getF] at h
  | cons b r ih =>
    intro i n hi hn h
    by_cases h1 : i = 9 ∧ 1 < b.toNat
    · rw [getF_range i n b r h1.1 h1.2] at h; simp at h
    by_cases h2 : 128 ≤ b.toNat
    · have hg := or_group n (b.toNat % 128) i hn (Nat.mod_lt _ (by omega)) (by omega)
      rw [getF_more i n b r h1 h2] at h ⊢
      have := ih (i+1) _ (by omega) hg.2.1 h
      refine ⟨by omega, by simp only [List.length_cons]; omega, this.2.2⟩
    by_cases h3 : b.toNat = 0 ∧ 0 < i
    · rw [getF_syntax i n b r h1 h3.1 h3.2] at h; simp at h
    have hg := or_group n b.toNat i hn (by omega) (by omega)
    rw [getF_done i n b r h1 (by omega) h3]
    refine ⟨by show i < i + 1; omega, by show i + 1 ≤ _; simp only [List.length_cons]; omega, hg.2.2⟩

def getAllF : Nat → List UInt8 → List Nat → List Nat × Nat
  | 0, _, acc => (acc, 0)
  | f+1, l, acc => if l = [] then (acc, 0) else if (getF 0 0 l).2.2 = 0 then getAllF f (l.drop (getF 0 0 l).2.1) (acc ++ [(getF 0 0 l).1]) else ([], (getF 0 0 l).2.2)
def getAll (l : List UInt8) : List Nat × Nat := getAllF l.length l []

theorem info_u64 : (Try.prog.info? 23).map (fun i => (i.zero, i.size, i.bytes)) = some (some (.int .u64 0), 1, 8) := by kernel_rfl

set_option maxRecDepth 100000 in
set_option maxHeartbeats 400000 in
theorem getall_any (L : List UInt8) (hlen : L.length ≤ 1000) (w : World) :
    Calls Try.prog 27 #[.string ⟨L.toArray⟩] w fun e w' => ∃ v, e = .returned (.tuple #[v, .int .i64 (getAll L).2]) ∧ w'.ownsRow w.heap.size 23 1 v (getAll L).1.length ((getAll L).1.map V64) ∧ Below w.heap.size w w' := by
  go_enter Try.func27, Try.ntmps27
  go_wp2
  go_loopw [0, 4] (fun s v wr => ∃ f l acc, l.length ≤ f ∧ l.length + acc.length ≤ 1000 ∧ s = .string ⟨l.toArray⟩ ∧ getAll L = getAllF f l acc ∧ wr.ownsRow w.heap.size 23 1 v acc.length (acc.map V64) ∧ Below w.heap.size w wr)
     (fun s _ _ => strLen s)
  case atStart => exact ⟨L.length, L, [], by omega, by simpa using hlen, rfl, rfl, World.ownsRow_nil _ _ _ _, Below.refl _ _⟩
  case round =>
    obtain ⟨f, l, acc, hf, hla, rfl, hp, hown, hb⟩ := hrel
    have Hp := Lib.hid hp
    clear hp
    rcases l with _ | ⟨b, r⟩
    · go_wp2
      go_ret2
      refine ⟨u4, ?_, ?_, hb⟩
      · rw [Hp.out]; cases f <;> rfl
      · rw [Hp.out]; cases f <;> exact hown
    · simp only [List.length_cons] at hf hla
      obtain ⟨f, rfl⟩ : ∃ g, f = g + 1 := ⟨f - 1, by omega⟩
      have HP : Hid (getAll L = if (getF 0 0 (b :: r)).2.2 = 0 then getAllF f ((b :: r).drop (getF 0 0 (b :: r)).2.1) (acc ++ [(getF 0 0 (b :: r)).1]) else ([], (getF 0 0 (b :: r)).2.2)) := by
        show _ = _
        rw [Hp.out, getAllF, if_neg (by simp)]
      clear Hp
      have hok := getF_ok (b :: r) 0 0 (by omega) (by decide)
      have hget := get_any (b :: r) wr
      generalize hg : getF 0 0 (b :: r) = g at *
      obtain ⟨n, k, e⟩ := g
      clear hg
      by_cases he : e = 0
      · subst he
        obtain ⟨hk1, hk2, hn⟩ := hok rfl
        simp only [List.length_cons, Nat.zero_add] at hk2
        clear hok
        have Hget := Lib.hid hget
        clear hget
        go_wp2_with first
          | (go_at_call 12; refine Hget.out.mono ?_; rintro e w1 ⟨rfl, rfl⟩)
          | (at_builtin; refine wpList_append_one rfl _ _ _ rfl w.heap.size 23 _ 1 8 Try.underlying38 info_u64 rfl (by decide) _ acc.length (acc.map V64) rfl hown [_] _ 1 rfl rfl (by simp [Value.oneCell']) (by omega) (by omega) hb.size ?_; intro v' w1 hown1 hb1)
        go_roundw
        case rel =>
          refine ⟨f, (b :: r).drop k, acc ++ [n], by simp; omega, by simp; omega, congrArg Value.string (str_from _ _ _ (by simp)), ?_, ?_, hb.trans hb1⟩
          · rw [HP.out, if_pos trivial]
          · simpa [V64] using hown1
        case measure =>
          rw [str_from _ _ _ (by simp)]
          simp [strLen, ByteArray.size]; omega
      · have he1 : ((e : Int) != 0) = true := by rw [bne_iff_ne]; omega
        have He := Lib.hid he
        clear he hok
        have Hget := Lib.hid hget
        clear hget
        go_wp2_with (go_at_call 12; refine Hget.out.mono ?_; rintro e w1 ⟨rfl, rfl⟩)
        go_ret2
        refine ⟨.slice none 0 0, ?_, ?_, hb⟩
        · rw [HP.out, if_neg He.out]; rfl
        · rw [HP.out, if_neg He.out]; exact World.ownsRow_nil _ _ _ _

set_option maxRecDepth 100000 in
set_option maxHeartbeats 400000 in
theorem rgetall_any (L : List UInt8) (hlen : L.length ≤ 1000) (w : World) :
    Calls Try.prog 30 #[.string ⟨L.toArray⟩] w fun e w' => ∃ v, e = .returned (.tuple #[v, .int .i64 (getAll L).2]) ∧ w'.ownsRow w.heap.size 23 1 v (getAll L).1.length ((getAll L).1.map V64) ∧ Below w.heap.size w w' := by
  go_enter Try.func30, Try.ntmps30
  go_wp2
  go_loopw [0, 4] (fun s v wr => ∃ f l acc, l.length ≤ f ∧ l.length + acc.length ≤ 1000 ∧ s = .string ⟨l.toArray⟩ ∧ getAll L = getAllF f l acc ∧ wr.ownsRow w.heap.size 23 1 v acc.length (acc.map V64) ∧ Below w.heap.size w wr)
     (fun s _ _ => strLen s)
  case atStart => exact ⟨L.length, L, [], by omega, by simpa using hlen, rfl, rfl, World.ownsRow_nil _ _ _ _, Below.refl _ _⟩
  case round =>
    obtain ⟨f, l, acc, hf, hla, rfl, hp, hown, hb⟩ := hrel
    have Hp := Lib.hid hp
    clear hp
    rcases l with _ | ⟨b, r⟩
    · go_wp2
      go_ret2
      refine ⟨u4, ?_, ?_, hb⟩
      · rw [Hp.out]; cases f <;> rfl
      · rw [Hp.out]; cases f <;> exact hown
    · simp only [List.length_cons] at hf hla
      obtain ⟨f, rfl⟩ : ∃ g, f = g + 1 := ⟨f - 1, by omega⟩
      have HP : Hid (getAll L = if (getF 0 0 (b :: r)).2.2 = 0 then getAllF f ((b :: r).drop (getF 0 0 (b :: r)).2.1) (acc ++ [(getF 0 0 (b :: r)).1]) else ([], (getF 0 0 (b :: r)).2.2)) := by
        show _ = _
        rw [Hp.out, getAllF, if_neg (by simp)]
      clear Hp
      have hok := getF_ok (b :: r) 0 0 (by omega) (by decide)
      have hget := rget_any (b :: r) wr (by simp; omega)
      generalize hg : getF 0 0 (b :: r) = g at *
      obtain ⟨n, k, e⟩ := g
      clear hg
      by_cases he : e = 0
      · subst he
        obtain ⟨hk1, hk2, hn⟩ := hok rfl
        simp only [List.length_cons, Nat.zero_add] at hk2
        clear hok
        have Hget := Lib.hid hget
        clear hget
        go_wp2_with first
          | (go_at_call 13; refine Hget.out.mono ?_; rintro e w1 ⟨rfl, rfl⟩)
          | (at_builtin; refine wpList_append_one rfl _ _ _ rfl w.heap.size 23 _ 1 8 Try.underlying38 info_u64 rfl (by decide) _ acc.length (acc.map V64) rfl hown [_] _ 1 rfl rfl (by simp [Value.oneCell']) (by omega) (by omega) hb.size ?_; intro v' w1 hown1 hb1)
        go_roundw
        case rel =>
          refine ⟨f, (b :: r).drop k, acc ++ [n], by simp; omega, by simp; omega, congrArg Value.string (str_from _ _ _ (by simp)), ?_, ?_, hb.trans hb1⟩
          · rw [HP.out, if_pos trivial]
          · simpa [V64] using hown1
        case measure =>
          rw [str_from _ _ _ (by simp)]
          simp [strLen, ByteArray.size]; omega
      · have he1 : ((e : Int) != 0) = true := by rw [bne_iff_ne]; omega
        have He := Lib.hid he
        clear he hok
        have Hget := Lib.hid hget
        clear hget
        go_wp2_with (go_at_call 13; refine Hget.out.mono ?_; rintro e w1 ⟨rfl, rfl⟩)
        go_ret2
        refine ⟨.slice none 0 0, ?_, ?_, hb⟩
        · rw [HP.out, if_neg He.out]; rfl
        · rw [HP.out, if_neg He.out]; exact World.ownsRow_nil _ _ _ _

set_option maxRecDepth 100000 in
set_option maxHeartbeats 400000 in
theorem rputall_any (ns : List Nat) (hns : ∀ n ∈ ns, U64 n) (hlen : ns.length ≤ 1000) (v : Value) (w : World) (hr : Rd w w.heap.size 1 v ns.length (ns.map V64)) :
    Calls Try.prog 28 #[v] w fun e w' => e = .returned (.string ⟨(putAll ns).toArray⟩) ∧ Below w.heap.size w w' := by
  obtain ⟨A, c, rfl, hc⟩ := hr.form
  have Hns := Lib.hid hns
  clear hns
  go_enter Try.func28, Try.ntmps28
  go_wp2
  go_loopw [3, 4] (fun o i wr => ∃ k : Nat, k ≤ ns.length ∧ i = .int .i64 k ∧ o = .string ⟨(putAll (ns.take k)).toArray⟩ ∧ Below w.heap.size w wr)
     (fun _ i _ => ns.length - (intOf i).toNat)
  case atStart => exact ⟨0, by omega, rfl, rfl, Below.refl _ _⟩
  case round =>
    obtain ⟨k, hk, rfl, rfl, hb⟩ := hrel
    have hpl2 := putAll_len (ns.take k)
    have htl : (ns.take k).length ≤ k := List.length_take_le _ _
    have hpl3 : (putAll (ns.take k)).length ≤ 10000 := by omega
    clear hpl2 htl
    by_cases hlt : k < ns.length
    · obtain ⟨b, o, rfl, hbb, hcell⟩ := (hr.below hb).at_ (by omega)
      have hc1 : wr.cell? ⟨b, o + k, none⟩ = some (.int .u64 (ns[k] : Int)) := hcell k _ (v64_get ns k hlt)
      have hu : U64 ns[k] := Hns.out _ (List.getElem_mem hlt)
      have Ht := Lib.hid (putAll_take ns k hlt)
      generalize hx : ns[k] = x at *
      generalize hy : putAll (ns.take k) = y at *
      clear hcell hx hy
      have hpl := putF_len 9 x
      go_wp2_with (go_at_call 24; refine (rput_any x hu _).mono ?_; rintro e w1 ⟨rfl, hb1⟩)
      go_roundw
      case rel =>
        refine ⟨k + 1, by omega, by go_num, ?_, hb.trans (hb1.mono hb.size)⟩
        rw [Ht.out]
        exact congrArg Value.string (str_app _ _)
      case measure => simp [intOf]; omega
    · go_wp2
      go_ret
      exact ⟨by rw [List.take_of_length_le (by omega)]; rfl, hb⟩

set_option maxRecDepth 100000 in
set_option maxHeartbeats 400000 in
theorem same_any (xs ys : List Nat) (va vb : Value) (w : World) (hlx : xs.length ≤ 1048576) (hly : ys.length ≤ 1048576) (hx : Rd w w.heap.size 1 va xs.length (xs.map V64)) (hy : Rd w w.heap.size 1 vb ys.length (ys.map V64)) :
    Calls Try.prog 29 #[va, vb] w fun e w' => e = .returned (.bool (decide (xs = ys))) ∧ Below w.heap.size w w' := by
  obtain ⟨A, c, rfl, hc⟩ := hx.form
  obtain ⟨B, d, rfl, hd⟩ := hy.form
  by_cases hl : xs.length = ys.length
  · have HL := Lib.hid hl
    have h1 : ((xs.length : Int) != (ys.length : Int)) = false := by simp [hl]
    have hl' : (xs.length : Int) ≤ ys.length := by omega
    clear hl
    go_enter Try.func29, Try.ntmps29
    go_wp2
    go_loopw [5] (fun i wr => ∃ k : Nat, k ≤ xs.length ∧ i = .int .i64 k ∧ xs.take k = ys.take k ∧ Below w.heap.size w wr) (fun i _ => xs.length - (intOf i).toNat)
    case atStart => exact ⟨0, by omega, rfl, rfl, Below.refl _ _⟩
    case round =>
      obtain ⟨k, hk, rfl, hp, hb⟩ := hrel
      have Hp := Lib.hid hp
      clear hp
      by_cases hlt : k < xs.length
      · obtain ⟨b, o, rfl, hbb, hcell⟩ := (hx.below hb).at_ (by omega)
        obtain ⟨b', o', rfl, hbb', hcell'⟩ := (hy.below hb).at_ (by omega)
        have hlt' : k < ys.length := by omega
        have hc1 : wr.cell? ⟨b, o + k, none⟩ = some (.int .u64 (xs[k] : Int)) := hcell k _ (v64_get xs k hlt)
        have hc2 : wr.cell? ⟨b', o' + k, none⟩ = some (.int .u64 (ys[k] : Int)) := hcell' k _ (v64_get ys k hlt')
        clear hcell hcell'
        have hi1 : (k : Int) < xs.length := by omega
        have hi2 : (k : Int) < ys.length := by omega
        by_cases he : xs[k] = ys[k]
        · have h2 : ((xs[k] : Int) != (ys[k] : Int)) = false := by simp [he]
          have He := Lib.hid he
          clear he
          go_wp2
          go_quiet (fail)
          go_wp2
          go_roundw
          case rel =>
            refine ⟨k + 1, by omega, by go_num, ?_, below_drewN hb _⟩
            rw [List.take_succ_eq_append_getElem hlt, List.take_succ_eq_append_getElem hlt', Hp.out, He.out]
          case measure => simp [intOf]; omega
        · have h2 : ((xs[k] : Int) != (ys[k] : Int)) = true := by rw [bne_iff_ne]; omega
          have He := Lib.hid he
          clear he
          go_wp2
          go_quiet (fail)
          go_wp2
          go_ret
          refine ⟨ret_bool ?_, below_drewN hb _⟩
          refine (decide_eq_false fun e => ?_).symm
          subst e
          exact He.out rfl
      · go_wp2
        go_ret
        refine ⟨ret_bool ?_, hb⟩
        have e1 := Hp.out
        rw [List.take_of_length_le (by omega), List.take_of_length_le (by have := HL.out; omega)] at e1
        exact (decide_eq_true e1).symm
  · have h1 : ((xs.length : Int) != (ys.length : Int)) = true := by rw [bne_iff_ne]; omega
    have HL := Lib.hid hl
    clear hl
    go_enter Try.func29, Try.ntmps29
    go_wp2
    go_ret
    refine ⟨ret_bool ?_, Below.refl _ _⟩
    exact (decide_eq_false fun e => HL.out (by rw [e])).symm
end Go.Proofs.Ytapakjdghgbdlaa
