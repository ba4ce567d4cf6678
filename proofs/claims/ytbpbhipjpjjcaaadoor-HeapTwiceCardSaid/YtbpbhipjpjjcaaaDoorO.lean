import Derived.Test.YtbpbhipjpjjcaaaDoorN
namespace Go.Proofs.YtbpbhipjpjjcaaaDoor
open Go.RowKit Go.Proofs.YtbpbhipjpjjcaaaDoorW.PrintWords
set_option linter.unusedVariables false
set_option linter.unusedSimpArgs false

/-! ## a text's words tell its bytes -/
theorem wpart_byte (s : ByteArray) (p : Nat) : ∀ n k, k < n → wpart s p n / 2 ^ (8 * k) % 256 = (bt s (p + k : Nat)).toNat := by
  intro n
  induction n with
  | zero => intro k hk; omega
  | succ n ih =>
    intro k hk
    have hr := bt_range s (p + n : Nat)
    by_cases hkn : k < n
    · rw [← ih k hkn]
      show (wpart s p n + (bt s (p + n : Nat)).toNat * 2 ^ (8 * n)) / 2 ^ (8 * k) % 256 = _
      have e : 2 ^ (8 * n) = 2 ^ (8 * k) * (256 * 2 ^ (8 * (n - k - 1))) := by
        rw [show (256 : Nat) = 2 ^ 8 from rfl, ← Nat.pow_add, ← Nat.pow_add]
        congr 1
        omega
      rw [e, show (bt s (p + n : Nat)).toNat * (2 ^ (8 * k) * (256 * 2 ^ (8 * (n - k - 1)))) = 2 ^ (8 * k) * (256 * ((bt s (p + n : Nat)).toNat * 2 ^ (8 * (n - k - 1)))) by
        rw [Nat.mul_left_comm, Nat.mul_left_comm _ 256]]
      rw [Nat.add_mul_div_left _ _ (Nat.two_pow_pos _), Nat.add_mul_mod_self_left]
    · have hk2 : k = n := by omega
      subst hk2
      show (wpart s p k + (bt s (p + k : Nat)).toNat * 2 ^ (8 * k)) / 2 ^ (8 * k) % 256 = _
      rw [Nat.add_mul_div_right _ _ (Nat.two_pow_pos _), Nat.div_eq_of_lt (wpart_lt s p k)]
      omega
theorem rd_mid (pre post l : List Int) (j : Nat) (h : j < l.length) (i : Int) (hi : i = (pre.length : Int) + j) : rd (pre ++ l ++ post) i = l.getD j 0 := by
  subst hi
  unfold rd
  have e : ((pre.length : Int) + (j : Int)).toNat = pre.length + j := by omega
  rw [e, List.getD_eq_getElem?_getD, List.append_assoc, List.getElem?_append_right (by omega), List.getElem?_append_left (by omega), List.getD_eq_getElem?_getD]
  congr 2
  omega
theorem twrds_length (s : ByteArray) : (twrds s).length = 1 + (s.size + 7) / 8 := by simp [twrds, twords_length]; omega
theorem twrds_head (s : ByteArray) : (twrds s).getD 0 0 = (s.size : Int) * 256 + 3 := rfl
theorem twrds_word (s : ByteArray) (j : Nat) (h : j < (s.size + 7) / 8) : (twrds s).getD (1 + j) 0 = (wpart s (8 * j) 8 : Int) := by
  unfold twrds
  rw [Nat.add_comm 1 j]
  simp [twords, h]
theorem txt_mid (pre post : List Int) (s : ByteArray) : txt (pre ++ twrds s ++ post) (pre.length : Int) s.size = s.data.toList := by
  apply List.ext_getElem
  · rw [txt_length]; simp
  · intro i h1 h2
    rw [txt_length] at h1
    simp only [txt, List.getElem_map, List.getElem_range]
    unfold txb
    have hj : i / 8 < (s.size + 7) / 8 := by omega
    rw [rd_mid pre post (twrds s) (1 + i / 8) (by rw [twrds_length]; omega) _ (by omega), twrds_word s _ hj]
    have hp : (2 : Int) ^ (8 * (i % 8)) = ((2 ^ (8 * (i % 8)) : Nat) : Int) := by simp
    have hb := wpart_byte s (8 * (i / 8)) 8 (i % 8) (by omega)
    rw [hp, show ((wpart s (8 * (i / 8)) 8 : Nat) : Int) / ((2 ^ (8 * (i % 8)) : Nat) : Int) % 256 = ((wpart s (8 * (i / 8)) 8 / 2 ^ (8 * (i % 8)) % 256 : Nat) : Int) by omega, hb]
    rw [show 8 * (i / 8) + i % 8 = i by omega]
    unfold bt
    rw [dif_pos (by rw [Int.toNat_natCast]; exact h1)]
    simp only [Int.toNat_natCast]
    simp
    rfl
theorem rd_head (pre post : List Int) (s : ByteArray) : rd (pre ++ twrds s ++ post) (pre.length : Int) = (s.size : Int) * 256 + 3 := by
  rw [rd_mid pre post (twrds s) 0 (by rw [twrds_length]; omega) _ (by omega)]
  exact twrds_head s
end Go.Proofs.YtbpbhipjpjjcaaaDoor
