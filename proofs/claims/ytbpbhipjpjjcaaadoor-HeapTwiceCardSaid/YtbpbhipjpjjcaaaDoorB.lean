import Derived.Test.YtbpbhipjpjjcaaaDoorA
namespace Go.Proofs.YtbpbhipjpjjcaaaDoor
set_option linter.unusedVariables false
set_option linter.unusedSimpArgs false
open Go.RowKit Go.Proofs.YtbpbhipjpjjcaaaDoorW.PrintWords

/-- Every number is a word's. -/
def Wd (m : List Int) : Prop := ∀ x ∈ m, 0 ≤ x ∧ x < 18446744073709551616
theorem Wd.at_ {m : List Int} (h : Wd m) (i : Int) : 0 ≤ rd m i ∧ rd m i < 18446744073709551616 := by
  unfold rd
  by_cases hi : i.toNat < m.length
  · rw [List.getD_eq_getElem?_getD, List.getElem?_eq_getElem hi]
    exact h _ (List.getElem_mem hi)
  · rw [List.getD_eq_getElem?_getD, List.getElem?_eq_none (by omega)]
    simp
/-- Block b is a heap whose words are m (the slice v), of quota q, collected c times. -/
structure HpIs (w : World) (b : Nat) (v : Value) (m : List Int) (q c : Int) : Prop where
  blk : w.heap[b]? = some (.cells #[v, .int .i64 q, .int .i64 c] 77 (0, 0))
  row : w.ownsRow 0 23 1 v m.length (nums .u64 m)
  small : m.length ≤ 1048576
  wd : Wd m
theorem HpIs.cell0 {w : World} {b : Nat} {v : Value} {m : List Int} {q c : Int} (h : HpIs w b v m q c) : w.cell? ⟨b, 0, none⟩ = some v := by simp [World.cell?, h.blk]
theorem HpIs.cell1 {w : World} {b : Nat} {v : Value} {m : List Int} {q c : Int} (h : HpIs w b v m q c) : w.cell? ⟨b, 1, none⟩ = some (.int .i64 q) := by simp [World.cell?, h.blk]
theorem HpIs.cell2 {w : World} {b : Nat} {v : Value} {m : List Int} {q c : Int} (h : HpIs w b v m q c) : w.cell? ⟨b, 2, none⟩ = some (.int .i64 c) := by simp [World.cell?, h.blk]
theorem HpIs.lt {w : World} {b : Nat} {v : Value} {m : List Int} {q c : Int} (h : HpIs w b v m q c) : b < w.heap.size := (Array.getElem?_eq_some_iff.1 h.blk).1
theorem HpIs.ne {w : World} {b : Nat} {v : Value} {m : List Int} {q c : Int} (h : HpIs w b v m q c) : v.ownBlock ≠ some b := by
  intro hk
  obtain ⟨cells, hc⟩ := own_typed h.row b hk
  rw [h.blk] at hc
  injection hc with hc
  injection hc with _ hc
  exact absurd hc (by decide)
theorem HpIs.opens {w : World} {b : Nat} {v : Value} {m : List Int} {q c : Int} (h : HpIs w b v m q c) : ∃ A cp, v = .slice A m.length cp ∧ ∀ i : Int, 0 ≤ i → i < m.length → ∃ ad, A = some ad ∧ w.cell? (ad.add i.toNat) = some (.int .u64 (rd m i)) := by
  obtain ⟨A, cp, hv, hr⟩ := own_reads h.row
  exact ⟨A, cp, hv, fun i h0 h1 => hr.at_ i h0 h1⟩

/-! ## at -/
set_option maxHeartbeats 400000 in
theorem c45_nil (x : Int) (w : World) : Calls Tryd.prog 45 #[.pointer none, .int .u64 x] w fun e w' => e = .returned (.int .i64 (-1)) ∧ w = w' := by
  go_enter Tryd.func45, Tryd.ntmps45
  go_wp2
  go_ret
  exact ⟨rfl, rfl⟩
section
variable {b : Nat} {v : Value} {m : List Int} {q c : Int}
set_option maxHeartbeats 400000 in
theorem c45_odd (x : Int) (w : World) (h0 : 0 ≤ x) (h1 : x < 18446744073709551616) (hx : x % 2 = 1) :
    Calls Tryd.prog 45 #[.pointer (some ⟨b, 0, none⟩), .int .u64 x] w fun e w' => e = .returned (.int .i64 (-1)) ∧ w = w' := by
  have hc := c11_odd x w h0 h1 hx
  have HC := Lib.hid hc
  clear hc hx
  go_enter Tryd.func45, Tryd.ntmps45
  go_wp2_with (go_at_call 11; refine HC.out.mono ?_; rintro e w' ⟨rfl, rfl⟩)
  go_ret
  exact ⟨rfl, rfl⟩
set_option maxHeartbeats 400000 in
theorem c45_far (x : Int) (w : World) (hh : HpIs w b v m q c) (h0 : 0 ≤ x) (h1 : x < 18446744073709551616) (hx : x % 2 = 0) (hf : (m.length : Int) ≤ x / 2) :
    Calls Tryd.prog 45 #[.pointer (some ⟨b, 0, none⟩), .int .u64 x] w fun e w' => e = .returned (.int .i64 (-1)) ∧ w = w' := by
  have hc := c11_even x w h0 h1 hx
  have HC := Lib.hid hc
  clear hc hx
  have hsm := hh.small
  have hc0 := hh.cell0
  obtain ⟨A, cp, hv, -⟩ := hh.opens
  clear hh
  subst hv
  go_enter Tryd.func45, Tryd.ntmps45
  go_wp2_with (go_at_call 11; refine HC.out.mono ?_; rintro e w' ⟨rfl, rfl⟩)
  go_ret
  exact ⟨rfl, rfl⟩
set_option maxHeartbeats 400000 in
theorem c45_in (x : Int) (w : World) (hh : HpIs w b v m q c) (h0 : 0 ≤ x) (h1 : x < 18446744073709551616) (hx : x % 2 = 0) (hf : x / 2 < (m.length : Int)) :
    Calls Tryd.prog 45 #[.pointer (some ⟨b, 0, none⟩), .int .u64 x] w fun e w' => e = .returned (.int .i64 (x / 2)) ∧ w = w' := by
  have hc := c11_even x w h0 h1 hx
  have HC := Lib.hid hc
  clear hc hx
  have hsm := hh.small
  have hc0 := hh.cell0
  obtain ⟨A, cp, hv, -⟩ := hh.opens
  clear hh
  subst hv
  go_enter Tryd.func45, Tryd.ntmps45
  go_wp2_with (go_at_call 11; refine HC.out.mono ?_; rintro e w' ⟨rfl, rfl⟩)
  go_ret
  exact ⟨rfl, rfl⟩
end
end Go.Proofs.YtbpbhipjpjjcaaaDoor
