import Derived.Test.YtbpbhipjpjjcaaaDoorG
namespace Go.Proofs.YtbpbhipjpjjcaaaDoor
set_option linter.unusedVariables false
set_option linter.unusedSimpArgs false
open Go.RowKit Go.Proofs.YtbpbhipjpjjcaaaDoorW.PrintWords

/-! ## texts as words -/
/-- The first k of the bytes from i on, the lowest first, as a number. -/
def wpart (s : ByteArray) (i : Nat) : Nat → Nat
  | 0 => 0
  | k + 1 => wpart s i k + (bt s (i + k : Nat)).toNat * 2 ^ (8 * k)
theorem wpart_lt (s : ByteArray) (i k : Nat) : wpart s i k < 2 ^ (8 * k) := by
  induction k with
  | zero => simp [wpart]
  | succ k ih =>
    have h := bt_range s (i + k : Nat)
    have h2 : (bt s (i + k : Nat)).toNat ≤ 255 := by omega
    have h3 : (bt s (i + k : Nat)).toNat * 2 ^ (8 * k) ≤ 255 * 2 ^ (8 * k) := Nat.mul_le_mul_right _ h2
    have h4 : 2 ^ (8 * (k + 1)) = 256 * 2 ^ (8 * k) := by rw [show 8 * (k + 1) = 8 * k + 8 from by omega, Nat.pow_add]; omega
    simp only [wpart]
    omega
theorem wpart_stop (s : ByteArray) (i : Nat) : ∀ k j, s.size ≤ i + k → wpart s i (k + j) = wpart s i k := by
  intro k j h
  induction j with
  | zero => rfl
  | succ j ih =>
    show wpart s i (k + j) + (bt s (i + (k + j) : Nat)).toNat * 2 ^ (8 * (k + j)) = _
    have e : bt s (i + (k + j) : Nat) = 0 := by
      unfold bt
      rw [dif_neg (by omega)]
    rw [e, ih]
    simp
/-- The words of a text, behind its head. -/
def twords (s : ByteArray) (n : Nat) : List Int := (List.range n).map (fun j => (wpart s (8 * j) 8 : Int))
theorem twords_succ (s : ByteArray) (n : Nat) : twords s (n + 1) = twords s n ++ [(wpart s (8 * n) 8 : Int)] := by simp [twords, List.range_succ]
theorem twords_length (s : ByteArray) (n : Nat) : (twords s n).length = n := by simp [twords]
theorem twords_wd (s : ByteArray) (n : Nat) : Wd (twords s n) := by
  intro x hx
  obtain ⟨j, _, rfl⟩ := List.mem_map.1 hx
  have := wpart_lt s (8 * j) 8
  have e : (2 : Nat) ^ (8 * 8) = 18446744073709551616 := by decide
  rw [e] at this
  omega
/-- All words of a text. -/
def twrds (s : ByteArray) : List Int := ((s.size : Int) * 256 + 3) :: twords s ((s.size + 7) / 8)
theorem or_shift (x y k : Nat) (hx : x < 2 ^ (8 * k)) (hk : k < 8) (hy : y < 256) : bits .or .u64 (x : Int) (IntKind.u64.wrap ((y : Int) * 2 ^ (8 * k))) = ((x + y * 2 ^ (8 * k) : Nat) : Int) := by
  have hp : (2:Nat) ^ (8 * k) ≤ 2 ^ 56 := Nat.pow_le_pow_right (by omega) (by omega)
  have hm : y * 2 ^ (8 * k) ≤ 255 * 2 ^ 56 := Nat.mul_le_mul (by omega) hp
  have hw : IntKind.u64.wrap ((y : Int) * 2 ^ (8 * k)) = ((y * 2 ^ (8 * k) : Nat) : Int) := by
    have : ((y : Int) * 2 ^ (8 * k)) = ((y * 2 ^ (8 * k) : Nat) : Int) := by simp
    rw [this, IntKind.wrap_u64]
    omega
  rw [hw, u64_or_nat _ _ (by omega) (by omega)]
  have e := Nat.two_pow_add_eq_or_of_lt (i := 8 * k) (b := x) hx y
  rw [Nat.mul_comm] at e
  rw [Nat.or_comm, ← e]
  congr 1
  omega
end Go.Proofs.YtbpbhipjpjjcaaaDoor
