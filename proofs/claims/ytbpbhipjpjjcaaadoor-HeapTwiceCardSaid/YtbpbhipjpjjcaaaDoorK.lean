import Derived.Test.YtbpbhipjpjjcaaaDoorJ
namespace Go.Proofs.YtbpbhipjpjjcaaaDoor
set_option linter.unusedVariables false
set_option linter.unusedSimpArgs false
open Go.RowKit Go.Proofs.YtbpbhipjpjjcaaaDoorW.PrintWords

/-- A number as a word. -/
def numW (n : Int) : Int := (2 * n) % 18446744073709551616 + 1
theorem numW_range (n : Int) : 0 ≤ numW n ∧ numW n < 18446744073709551616 ∧ numW n % 2 = 1 := by unfold numW; omega
set_option maxHeartbeats 400000 in
theorem c8 (n : Int) (w : World) (h0 : -9223372036854775808 ≤ n) (h1 : n ≤ 9223372036854775807) :
    Calls Tryd.prog 8 #[.int .i64 n] w fun e w' => e = .returned (.int .u64 (numW n)) ∧ w = w' := by
  have hb : bits .or .u64 (IntKind.u64.wrap (IntKind.u64.wrap n * 2)) 1 = numW n := by
    have e : IntKind.u64.wrap (IntKind.u64.wrap n * 2) = (2 * n) % 18446744073709551616 := by simp only [IntKind.wrap_u64]; omega
    rw [e, or1 _ (by omega) (by omega) (by omega)]
    rfl
  have Hb := Lib.hid hb
  clear hb
  go_enter Tryd.func8, Tryd.ntmps8
  go_wp2
  go_ret
  refine ⟨?_, rfl⟩
  rw [← Hb.out]
  simp
/-- .. and back. -/
def wordN (x : Int) : Int := wrap64 x / 2
set_option maxHeartbeats 400000 in
theorem c9 (x : Int) (w : World) (h0 : 0 ≤ x) (h1 : x < 18446744073709551616) :
    Calls Tryd.prog 9 #[.int .u64 x] w fun e w' => e = .returned (.int .i64 (wordN x)) ∧ w = w' := by
  go_enter Tryd.func9, Tryd.ntmps9
  go_wp2
  go_ret
  exact ⟨rfl, rfl⟩
theorem numW_back (n : Int) (h0 : -4611686018427387904 ≤ n) (h1 : n ≤ 4611686018427387903) : wordN (numW n) = n := by
  unfold wordN numW wrap64
  omega
theorem numW_low (n : Int) (h0 : -9223372036854775808 ≤ n) (h1 : n ≤ 9223372036854775807) : IntKind.u64.wrap (IntKind.u64.wrap (wordN (numW n)) * 2) = IntKind.u64.wrap (IntKind.u64.wrap n * 2) := by
  unfold wordN numW wrap64
  simp only [IntKind.wrap_u64]
  omega
theorem numW_is (n : Int) : numW n = IntKind.u64.wrap (IntKind.u64.wrap (IntKind.u64.wrap n * 2) + 1) := by
  unfold numW
  simp only [IntKind.wrap_u64]
  omega
set_option maxHeartbeats 1000000 in
theorem c3_in (n : Int) (w : World) (h0 : -4611686018427387904 ≤ n) (h1 : n ≤ 4611686018427387903) :
    Calls Tryd.prog 3 #[.int .i64 n] w fun e w' => e = .returned (.bool true) ∧ Below w.heap.size w w' := by
  have R := numW_range n
  have C8 := Lib.hid (c8 n w (by omega) (by omega))
  have C9 : Hid (∀ w0, Calls Tryd.prog 9 #[.int .u64 (numW n)] w0 fun e w' => e = .returned (.int .i64 n) ∧ w0 = w') := fun w0 => (c9 _ w0 R.1 R.2.1).mono fun e w' h => by rw [numW_back n h0 h1] at h; exact h
  have C11 := Lib.hid (fun w0 => c11_odd (numW n) w0 R.1 R.2.1 R.2.2)
  have hE : (numW n == IntKind.u64.wrap (IntKind.u64.wrap (IntKind.u64.wrap n * 2) + 1)) = true := by simpa using numW_is n
  clear R
  generalize numW n = x at *
  go_enter Tryd.func3, Tryd.ntmps3
  go_wp2_with (first
    | (go_at_call 8; refine C8.out.mono ?_; rintro e w' ⟨rfl, rfl⟩)
    | (go_at_call 9; refine (C9.out _).mono ?_; rintro e w' ⟨rfl, rfl⟩)
    | (go_at_call 10; refine (c10 w).mono ?_; rintro e w1 ⟨rfl, hb⟩)
    | (go_at_call 11; refine (C11.out _).mono ?_; rintro e w' ⟨rfl, rfl⟩))
  go_ret
  exact ⟨rfl, hb⟩
set_option maxHeartbeats 1000000 in
theorem c3_out (n : Int) (w : World) (hw0 : -9223372036854775808 ≤ n) (hw1 : n ≤ 9223372036854775807) (h : n < -4611686018427387904 ∨ 4611686018427387903 < n) :
    Calls Tryd.prog 3 #[.int .i64 n] w fun e w' => e = .returned (.bool true) ∧ Below w.heap.size w w' := by
  have R := numW_range n
  have C8 := Lib.hid (c8 n w (by omega) (by omega))
  have C9 := Lib.hid (fun w0 => c9 (numW n) w0 R.1 R.2.1)
  have C11 := Lib.hid (fun w0 => c11_odd (numW n) w0 R.1 R.2.1 R.2.2)
  have hE : (IntKind.u64.wrap (IntKind.u64.wrap (wordN (numW n)) * 2) == IntKind.u64.wrap (IntKind.u64.wrap n * 2)) = true := by simpa using numW_low n hw0 hw1
  have hE2 : 4611686018427387903 < n → (IntKind.u64.wrap (IntKind.u64.wrap (wordN (numW n)) * 2) == n * 2) = true := fun hn => by
    have e : IntKind.u64.wrap (IntKind.u64.wrap n * 2) = n * 2 := by simp only [IntKind.wrap_u64]; omega
    rw [← e]
    exact hE
  clear R
  generalize wordN (numW n) = k at *
  generalize numW n = x at *
  rcases h with h | h
  have hE3 := True.intro
  clear hE2
  rotate_left
  have hE3 := hE2 h
  clear hE hE2
  all_goals
    go_enter Tryd.func3, Tryd.ntmps3
    go_wp2_with (first
      | (go_at_call 8; refine C8.out.mono ?_; rintro e w' ⟨rfl, rfl⟩)
      | (go_at_call 9; refine (C9.out _).mono ?_; rintro e w' ⟨rfl, rfl⟩)
      | (go_at_call 10; refine (c10 w).mono ?_; rintro e w1 ⟨rfl, hb⟩)
      | (go_at_call 11; refine (C11.out _).mono ?_; rintro e w' ⟨rfl, rfl⟩))
    go_ret
    exact ⟨rfl, hb⟩
theorem c3 (n : Int) (w : World) (h0 : -9223372036854775808 ≤ n) (h1 : n ≤ 9223372036854775807) :
    Calls Tryd.prog 3 #[.int .i64 n] w fun e w' => e = .returned (.bool true) ∧ Below w.heap.size w w' := by
  by_cases h : n < -4611686018427387904 ∨ 4611686018427387903 < n
  · exact c3_out n w h0 h1 h
  · exact c3_in n w (by omega) (by omega)
end Go.Proofs.YtbpbhipjpjjcaaaDoor
