import Derived.Test.YtbpbhipjpjjcaaaDoorO
import Derived.Test.YtbpbhipjpjjcaaaDoorPHeapPlaysx1
namespace Go.Proofs.YtbpbhipjpjjcaaaDoor
open Go.RowKit Go.Proofs.YtbpbhipjpjjcaaaDoorW.PrintWords
set_option linter.unusedVariables false
set_option linter.unusedSimpArgs false

/-! ## words, same: what they answer -/
theorem rd_get (l : List Int) (i : Nat) (h : i < l.length) : rd l (i : Int) = l[i] := by
  unfold rd
  rw [Int.toNat_natCast, List.getD_eq_getElem?_getD, List.getElem?_eq_getElem h]
  rfl
theorem words_l0 (l : List Int) (hl : l.length ≤ 1048576 * 4) : ∀ d i k : Nat, i + d = l.length → d < k → PHeapPlays.battledorelaw09_words.l0 k l (l.take i) (i : Int) = some l := by
  intro d
  induction d with
  | zero =>
    intro i k hi hk
    obtain ⟨k, rfl⟩ : ∃ j, k = j + 1 := ⟨k - 1, by omega⟩
    simp only [PHeapPlays.battledorelaw09_words.l0]
    rw [if_neg (by omega), List.take_of_length_le (by omega)]
  | succ d ih =>
    intro i k hi hk
    obtain ⟨k, rfl⟩ : ∃ j, k = j + 1 := ⟨k - 1, by omega⟩
    simp only [PHeapPlays.battledorelaw09_words.l0]
    rw [if_pos (by omega), if_pos (by omega), if_pos (by simp; omega)]
    have e : l.take i ++ [rd l (i : Int)] = l.take (i + 1) := by
      rw [rd_get l i (by omega), List.take_succ_eq_append_getElem]
    have e2 : wrap64 ((i : Int) + 1) = ((i + 1 : Nat) : Int) := by unfold wrap64; omega
    rw [e, e2]
    exact ih (i + 1) k (by omega) (by omega)
theorem words_f (l : List Int) (hl : l.length ≤ 1048576 * 4) : PHeapPlays.battledorelaw09_words.f (l.length + 1) l = some l := by
  unfold PHeapPlays.battledorelaw09_words.f
  exact words_l0 l hl l.length 0 _ (by omega) (by omega)
theorem same_l0 (l : List Int) (hl : l.length ≤ 1048576 * 4) : ∀ d i k : Nat, i + d = l.length → d < k → PHeapPlays.battledorelaw09_same.l0 k l l (i : Int) = some true := by
  intro d
  induction d with
  | zero =>
    intro i k hi hk
    obtain ⟨k, rfl⟩ : ∃ j, k = j + 1 := ⟨k - 1, by omega⟩
    simp only [PHeapPlays.battledorelaw09_same.l0]
    rw [if_neg (by omega)]
  | succ d ih =>
    intro i k hi hk
    obtain ⟨k, rfl⟩ : ∃ j, k = j + 1 := ⟨k - 1, by omega⟩
    simp only [PHeapPlays.battledorelaw09_same.l0]
    have e2 : wrap64 ((i : Int) + 1) = ((i + 1 : Nat) : Int) := by unfold wrap64; omega
    rw [if_pos (by omega), if_pos (by omega), if_pos (by omega), if_pos trivial, e2]
    exact ih (i + 1) k (by omega) (by omega)
theorem same_f (l : List Int) (hl : l.length ≤ 1048576 * 4) : PHeapPlays.battledorelaw09_same.f (l.length + 1) l l = some true := by
  unfold PHeapPlays.battledorelaw09_same.f
  rw [if_pos rfl]
  exact same_l0 l hl l.length 0 _ (by omega) (by omega)

/-! ## rows of words -/
theorem C_own {w : World} {base e n c : Nat} {k : IntKind} {A : Option Addr} {l : List Int} (h : w.ownsRow base e 1 (.slice A n c) n (nums k l)) : n = l.length ∧ l.length ≤ c ∧ Kd.C (Kd.int k) w A l.length l := by
  obtain ⟨A', c', hv, hr⟩ := own_reads h
  injection hv with h1 h2 h3
  subst h1
  have hl : l.length = n := hr.1
  refine ⟨hl.symm, ?_, ⟨rfl, by have := hr.2.1; omega, fun hp => ?_⟩⟩
  · rcases h.2 with ⟨hv2, hz⟩ | ⟨g, cap, cur, hv2, _, _, hnc, _⟩
    · omega
    · injection hv2 with _ _ h6
      omega
  · obtain ⟨ad, he, hc⟩ := hr.2.2 (by omega)
    refine ⟨ad, he, fun j p hj => ⟨[.int k p], rfl, rfl, fun i u hu => ?_⟩⟩
    match i, hu with
    | 0, hu =>
      simp at hu
      subst hu
      obtain ⟨hj2, _⟩ := (List.getElem?_eq_some_iff.1 hj)
      have := hc j (by omega)
      show w.cell? (ad.add (j * 1 + 0)) = _
      rw [Nat.mul_one, Nat.add_zero, this, List.getD_eq_getElem?_getD, hj]
      rfl
/-- append(l, x) to a row of words. -/
theorem op_push {W : World} {base : Nat} {v : Value} {l : List Int} {o : Oper} {a : Act} {K : Act → World → Prop} {Q : Exit → Act → World → Prop} (hown : W.ownsRow base 23 1 v l.length (nums .u64 l)) (hbase : base ≤ W.heap.size) (hsm : l.length < 17592186044416)
    (s x : Operand) (ho : o.op = .call { callee := .builtin .append, args := #[s, x], argTypes := #[34, 34] }) (hs : a.eval s = v) (ad : Addr) (y : Int) (hx : a.eval x = .slice (some ad) 1 1)
    (hc : ∀ j u, (nums .u64 [y])[j]? = some u → W.cell? (ad.add j) = some u)
    (hK : ∀ A' n' c' w', n' = l.length + 1 → w'.ownsRow base 23 1 (.slice A' n' c') (l ++ [y]).length (nums .u64 (l ++ [y])) → W.grownBy w' v.ownBlock → ((Value.slice A' n' c').ownBlock = v.ownBlock ∨ (Value.slice A' n' c').ownBlock = some W.heap.size) → K (a.put o.dst (.slice A' n' c')) w') :
    o.wp Tryd.prog a W K Q := by
  obtain ⟨i0, hi, hz0, hz1, hz2⟩ := info_parts info23
  obtain ⟨v', w', hr, hown', hg, _, hat⟩ := run_append_own_at (P := Tryd.prog) W base 34 o.type 23 i0 (.int .u64 0) 1 8 Tryd.underlying34 hi hz0 hz1 hz2 rfl (by decide) v l.length (nums .u64 l) hown ad 1 1 (nums .u64 [y]) rfl hc
    (fun u hu => by obtain ⟨y, _, rfl⟩ := List.mem_map.1 hu; rfl) (by unfold maxLen; omega) (by omega) hbase
  unfold Oper.wp execOp
  simp only [ho, resolve, invoke, builtin, Sem.run_bind, Sem.run_pure, Result.andThen_ok, List.map_toArray, List.map_cons, List.map_nil, hs, hx, hr]
  rw [← nums_append] at hown'
  obtain ⟨A', c', rfl, _⟩ := own_reads hown'
  exact hK A' _ c' w' rfl (by simpa using hown') hg hat
theorem wp_push {W : World} {base : Nat} {v : Value} {l : List Int} {ops : Array Oper} {rest : List Oper} {o : Oper} {a : Act} {Q : Exit → Act → World → Prop} (hown : W.ownsRow base 23 1 v l.length (nums .u64 l)) (hbase : base ≤ W.heap.size) (hsm : l.length < 17592186044416)
    (hgd : o.guard = none) (s x : Operand) (ho : o.op = .call { callee := .builtin .append, args := #[s, x], argTypes := #[34, 34] }) (hs : a.eval s = v) (ad : Addr) (y : Int) (hx : a.eval x = .slice (some ad) 1 1)
    (hc : ∀ j u, (nums .u64 [y])[j]? = some u → W.cell? (ad.add j) = some u)
    (hK : ∀ A' n' c' w', n' = l.length + 1 → w'.ownsRow base 23 1 (.slice A' n' c') (l ++ [y]).length (nums .u64 (l ++ [y])) → W.grownBy w' v.ownBlock → ((Value.slice A' n' c').ownBlock = v.ownBlock ∨ (Value.slice A' n' c').ownBlock = some W.heap.size) → wpList Tryd.prog ops Q rest (a.put o.dst (.slice A' n' c')) w') :
    wpList Tryd.prog ops Q (o :: rest) a W :=
  wpList_plain hgd fun K hK2 => op_push hown hbase hsm s x ho hs ad y hx hc (fun A' n' c' w' h1 h2 h3 h4 => hK2 _ _ (hK A' n' c' w' h1 h2 h3 h4))

/-! ## texts, one behind the other -/
def cat (ss : List ByteArray) (k : Nat) : List Int := ((ss.take k).map twrds).flatten
def rts (ss : List ByteArray) (k : Nat) : List Int := (List.range k).map (fun j => ((cat ss j).length : Int) * 2)
theorem cat_succ (ss : List ByteArray) (k : Nat) (h : k < ss.length) : cat ss (k + 1) = cat ss k ++ twrds (ss.getD k ⟨#[]⟩) := by
  unfold cat
  rw [List.take_succ_eq_append_getElem h, List.map_append, List.flatten_append, List.getD_eq_getElem?_getD, List.getElem?_eq_getElem h]
  simp
theorem rts_succ (ss : List ByteArray) (k : Nat) : rts ss (k + 1) = rts ss k ++ [((cat ss k).length : Int) * 2] := by simp [rts, List.range_succ]
theorem rts_length (ss : List ByteArray) (k : Nat) : (rts ss k).length = k := by simp [rts]
theorem rts_get (ss : List ByteArray) (k j : Nat) (h : j < k) : rd (rts ss k) (j : Int) = ((cat ss j).length : Int) * 2 := by
  rw [rd_get _ _ (by rw [rts_length]; exact h)]
  simp [rts]
theorem cat_split (ss : List ByteArray) (n j : Nat) (h : j < n) (hn : n ≤ ss.length) : ∃ post, cat ss n = cat ss j ++ twrds (ss.getD j ⟨#[]⟩) ++ post := by
  induction n with
  | zero => omega
  | succ n ih =>
    rw [cat_succ ss n (by omega)]
    by_cases hj : j < n
    · obtain ⟨post, e⟩ := ih hj (by omega)
      exact ⟨post ++ twrds (ss.getD n ⟨#[]⟩), by rw [e, List.append_assoc]⟩
    · have : j = n := by omega
      subst this
      exact ⟨[], by simp⟩
theorem cat_len (ss : List ByteArray) (k : Nat) (hs : ∀ j, j < k → (ss.getD j ⟨#[]⟩).size ≤ 1000) (hk : k ≤ ss.length) : (cat ss k).length ≤ 126 * k := by
  induction k with
  | zero => simp [cat]
  | succ k ih =>
    have h1 := ih (fun j hj => hs j (by omega)) (by omega)
    have h2 := hs k (by omega)
    rw [cat_succ ss k (by omega), List.length_append, twrds_length]
    omega
end Go.Proofs.YtbpbhipjpjjcaaaDoor
