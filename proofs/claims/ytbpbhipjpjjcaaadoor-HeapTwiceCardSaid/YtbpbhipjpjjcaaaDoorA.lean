import Derived.Test.YtbpbhipjpjjcaaaDoorProg
import Derived.Test.YtbpbhipjpjjcaaaDoorWMore
import Derived.WalkKit
import Derived.WalkSpells
import Derived.WalkLawsBesides
import Derived.Lib.Hide
namespace Go.Proofs.YtbpbhipjpjjcaaaDoor
set_option linter.unusedVariables false
set_option linter.unusedSimpArgs false
open Go.RowKit Go.Proofs.YtbpbhipjpjjcaaaDoorW.PrintWords

/-! ## bits of words -/
theorem and1 (n : Int) (h0 : 0 ≤ n) (h1 : n < 18446744073709551616) : bits .and .u64 n 1 = n % 2 := by
  rw [u64_and n 1 h0 h1 (by omega) (by omega)]
  show ((n.toNat &&& 1 : Nat) : Int) = n % 2
  rw [Nat.and_one_is_mod]
  omega
theorem or1 (n : Int) (h0 : 0 ≤ n) (h1 : n < 18446744073709551616) (he : n % 2 = 0) : bits .or .u64 n 1 = n + 1 := by
  rw [u64_or n 1 h0 h1 (by omega) (by omega)]
  have e : n.toNat ||| 1 = n.toNat + 1 := by
    have h2 : n.toNat = 2 * (n.toNat / 2) := by omega
    rw [h2]
    have := Nat.two_pow_add_eq_or_of_lt (i := 1) (b := 1) (by omega) (n.toNat / 2)
    simpa using this.symm
  show ((n.toNat ||| 1 : Nat) : Int) = n + 1
  rw [e]
  omega
theorem andNot1 (n : Int) (h0 : 0 ≤ n) (h1 : n < 18446744073709551616) : bits .andNot .u64 n 1 = n - n % 2 := by
  rw [u64_andNot n 1 h0 h1 (by omega) (by omega)]
  have e : n.toNat &&& (18446744073709551615 - 1) = 2 * (n.toNat / 2) := by
    apply Nat.eq_of_testBit_eq
    intro i
    rw [Nat.testBit_and]
    cases i with
    | zero => simp
    | succ i =>
      rw [Nat.testBit_succ, Nat.testBit_succ (2 * _), Nat.testBit_succ (18446744073709551615 - 1)]
      have e1 : (18446744073709551615 - 1) / 2 = 2 ^ 63 - 1 := by decide
      rw [e1, Nat.testBit_two_pow_sub_one, Nat.mul_div_cancel_left _ (by omega)]
      by_cases hi : i < 63
      · simp [hi]
      · have : (n.toNat / 2).testBit i = false := by
          apply Nat.testBit_lt_two_pow
          have : (2:Nat) ^ 63 ≤ 2 ^ i := Nat.pow_le_pow_right (by omega) (by omega)
          omega
        simp [this]
  show ((n.toNat &&& (18446744073709551615 - 1) : Nat) : Int) = n - n % 2
  rw [e]
  omega

/-! ## the small functions -/
set_option maxHeartbeats 400000 in
theorem c11_odd (n : Int) (w : World) (h0 : 0 ≤ n) (h1 : n < 18446744073709551616) (he : n % 2 = 1) :
    Calls Tryd.prog 11 #[.int .u64 n] w fun e w' => e = .returned (.bool true) ∧ w = w' := by
  have hb : (bits .and .u64 n 1 == 1) = true := by rw [and1 n h0 h1, he]; rfl
  clear he h0 h1
  go_enter Tryd.func11, Tryd.ntmps11
  go_wp2
  go_ret
  exact ⟨rfl, rfl⟩
set_option maxHeartbeats 400000 in
theorem c11_even (n : Int) (w : World) (h0 : 0 ≤ n) (h1 : n < 18446744073709551616) (he : n % 2 = 0) :
    Calls Tryd.prog 11 #[.int .u64 n] w fun e w' => e = .returned (.bool false) ∧ w = w' := by
  have hb : (bits .and .u64 n 1 == 1) = false := by rw [and1 n h0 h1, he]; rfl
  clear he h0 h1
  go_enter Tryd.func11, Tryd.ntmps11
  go_wp2
  go_ret
  exact ⟨rfl, rfl⟩
set_option maxHeartbeats 400000 in
theorem c39 (k n : Int) (w : World) (hk : (k == 3) = false) (h0 : 0 ≤ n) (h1 : n ≤ 1000000000000000) :
    Calls Tryd.prog 39 #[.int .u8 k, .int .i64 n] w fun e w' => e = .returned (.int .i64 (1 + n)) ∧ w = w' := by
  go_enter Tryd.func39, Tryd.ntmps39
  go_wp2
  go_ret
  exact ⟨rfl, rfl⟩
set_option maxHeartbeats 400000 in
theorem c39t (n : Int) (w : World) (h0 : 0 ≤ n) (h1 : n ≤ 1000000000000000) :
    Calls Tryd.prog 39 #[.int .u8 3, .int .i64 n] w fun e w' => e = .returned (.int .i64 (1 + (n + 7) / 8)) ∧ w = w' := by
  go_enter Tryd.func39, Tryd.ntmps39
  go_wp2
  go_ret
  exact ⟨rfl, rfl⟩
set_option maxHeartbeats 400000 in
theorem c12 (q : Int) (w : World) (h0 : 1 ≤ q) (h1 : q ≤ 1048576) :
    Calls Tryd.prog 12 #[.int .i64 q] w fun e w' => e = .returned (.tuple #[.pointer (some ⟨w.heap.size, 0, none⟩), .int .i64 0]) ∧ w' = w.alloc (.cells #[.slice none 0 0, .int .i64 q, .int .i64 0] 77) := by
  go_enter Tryd.func12, Tryd.ntmps12
  go_wp2
  go_ret2
  exact ⟨rfl, rfl⟩
set_option maxHeartbeats 400000 in
theorem c12_lo (q : Int) (w : World) (h0 : q < 1) :
    Calls Tryd.prog 12 #[.int .i64 q] w fun e w' => e = .returned (.tuple #[.pointer none, .int .i64 1]) ∧ w = w' := by
  go_enter Tryd.func12, Tryd.ntmps12
  go_wp2
  go_ret2
  exact ⟨rfl, rfl⟩
set_option maxHeartbeats 400000 in
theorem c12_hi (q : Int) (w : World) (h0 : 1048576 < q) :
    Calls Tryd.prog 12 #[.int .i64 q] w fun e w' => e = .returned (.tuple #[.pointer none, .int .i64 1]) ∧ w = w' := by
  go_enter Tryd.func12, Tryd.ntmps12
  go_wp2
  go_ret2
  exact ⟨rfl, rfl⟩
set_option maxHeartbeats 400000 in
theorem c41 (k n : Int) (w : World) (hk0 : 0 ≤ k) (hk : k < 256) (h0 : 0 ≤ n) (h1 : n ≤ 1000000000000000) :
    Calls Tryd.prog 41 #[.int .u8 k, .int .i64 n] w fun e w' => e = .returned (.int .u64 (n * 256 + k)) ∧ w = w' := by
  have hb : bits .or .u64 (n * 256) k = n * 256 + k := by
    rw [u64_or (n * 256) k (by omega) (by omega) hk0 (by omega)]
    have e : (n * 256).toNat ||| k.toNat = (n * 256).toNat + k.toNat := by
      have := Nat.two_pow_add_eq_or_of_lt (i := 8) (b := k.toNat) (by omega) n.toNat
      have e2 : (n * 256).toNat = 2 ^ 8 * n.toNat := by omega
      rw [e2, ← this]
    show (((n * 256).toNat ||| k.toNat : Nat) : Int) = n * 256 + k
    rw [e]; omega
  have Hb := Lib.hid hb
  clear hb
  go_enter Tryd.func41, Tryd.ntmps41
  go_wp2
  go_ret
  refine ⟨?_, rfl⟩
  rw [← Hb.out]
  simp
end Go.Proofs.YtbpbhipjpjjcaaaDoor
