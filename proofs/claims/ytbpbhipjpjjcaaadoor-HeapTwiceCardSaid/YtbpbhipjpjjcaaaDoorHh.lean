import Derived.Test.YtbpbhipjpjjcaaaDoorE
import Derived.Test.YtbpbhipjpjjcaaaDoorGg
import Derived.Test.YtbpbhipjpjjcaaaDoorPHeapTwicex2
import Derived.Test.YtbpbhipjpjjcaaaDoorPHeapTwicex3
namespace Go.Proofs.YtbpbhipjpjjcaaaDoor.Ha
open Go.RowKit Go.Proofs.YtbpbhipjpjjcaaaDoorW.PrintWords
set_option linter.unusedVariables false
set_option linter.unusedSimpArgs false

theorem lift {α : Type} {f : Nat → Option α} (hm : ∀ k, LeO (f k) (f (k + 1))) {k : Nat} {r : α} (h : f k = some r) : ∀ d, f (k + d) = some r := by
  intro d
  induction d with
  | zero => exact h
  | succ d ih => exact hm _ _ ih
theorem lift_le {α : Type} {f : Nat → Option α} (hm : ∀ k, LeO (f k) (f (k + 1))) {k k2 : Nat} {r : α} (h : f k = some r) (hk : k ≤ k2) : f k2 = some r := by
  have := lift hm h (k2 - k)
  rwa [show k + (k2 - k) = k2 by omega] at this
def none_ : Int × List Int × ByteArray × Int := (0, [], ⟨#[]⟩, 0)
def bytesOf (l : List UInt8) : ByteArray := ⟨l.toArray⟩
theorem bytesOf_size (l : List UInt8) : (bytesOf l).size = l.length := by simp [bytesOf, ByteArray.size]
/-- What the reference's At answers. -/
def atv (l : List Int) (p : Nat) : Int × List Int × ByteArray × Int :=
  if l.length ≤ p then none_ else
  if Gc.gd l p % 256 < 1 ∨ 6 < Gc.gd l p % 256 ∨ 8 * (l.length : Int) < Gc.gd l p / 256 then none_ else
  if l.length < p + Gc.sz l p then none_ else
  (Gc.gd l p % 256, Gc.parts l p, if Gc.gd l p % 256 = 3 then bytesOf (txt l p (Gc.gd l p / 256).toNat) else ⟨#[]⟩, (Gc.sz l p : Int))
section
variable {l : List Int} {p : Nat}
theorem rd_nat (l : List Int) (i : Nat) (h : i < l.length) : rd l (i : Int) = l[i] := by
  unfold rd
  rw [Int.toNat_natCast, List.getD_eq_getElem?_getD, List.getElem?_eq_getElem h]
  rfl
theorem rd_gd' (m : List Int) (a : Nat) : rd m (a : Int) = Gc.gd m a := by unfold rd Gc.gd; rw [Int.toNat_natCast]
theorem str_one (l : List Int) (p : Nat) (i : Nat) (hw : Wd l) : ∀ x : Int, x = rd l ((p : Int) + 1 + ((i / 8 : Nat) : Int)) / 2 ^ (8 * (i % 8)) → strOfNums [Int.tmod x 256 % 256] = bytesOf [txb l p i] := by
  intro x hx
  have hb := hw.at_ ((p : Int) + 1 + ((i / 8 : Nat) : Int))
  have h0 : 0 ≤ x := by rw [hx]; exact Int.ediv_nonneg hb.1 (by exact Int.le_of_lt (Int.pow_pos (by omega)))
  have e : Int.tmod x 256 % 256 = x % 256 := by rw [Int.tmod_eq_emod_of_nonneg h0]; omega
  rw [e]
  unfold strOfNums bytesOf txb
  rw [← hx]
  rfl
theorem parts_l0 (hw : Wd l) (hs : l.length ≤ 2097152) (K n kd : Nat) (hk3 : kd ≠ 3) (hK : p + 1 + K ≤ l.length) : ∀ d j k : Nat, j + d = K → d < k →
    PHeapTwice.battledoreref09_At.l0 k l (p : Int) (kd : Int) (n : Int) (K : Int) (j : Int) (kd : Int) ((l.drop (p + 1)).take j) (⟨#[]⟩ : ByteArray) = some ((kd : Int), (l.drop (p + 1)).take K, (⟨#[]⟩ : ByteArray), ((1 + K : Nat) : Int)) := by
  intro d
  induction d with
  | zero =>
    intro j k hj hk
    obtain ⟨k, rfl⟩ : ∃ i, k = i + 1 := ⟨k - 1, by omega⟩
    rw [PHeapTwice.battledoreref09_At.l0]
    rw [if_neg (by omega)]
    have e : j = K := by omega
    have e2 : wrap64 (1 + (K : Int)) = ((1 + K : Nat) : Int) := by unfold wrap64; omega
    rw [e, e2]
  | succ d ih =>
    intro j k hj hk
    obtain ⟨k, rfl⟩ : ∃ i, k = i + 1 := ⟨k - 1, by omega⟩
    rw [PHeapTwice.battledoreref09_At.l0]
    have e1 : wrap64 ((p : Int) + 1) = (p : Int) + 1 := by unfold wrap64; omega
    have e2 : wrap64 ((p : Int) + 1 + (j : Int)) = ((p + 1 + j : Nat) : Int) := by unfold wrap64; omega
    have e3 : wrap64 ((j : Int) + 1) = ((j + 1 : Nat) : Int) := by unfold wrap64; omega
    rw [e1, e2, e3, if_pos (by omega), if_pos (by omega), if_pos (by omega), if_neg (by omega), if_pos (by simp; omega)]
    have e : (l.drop (p + 1)).take j ++ [rd l ((p + 1 + j : Nat) : Int)] = (l.drop (p + 1)).take (j + 1) := by
      rw [rd_nat l _ (by omega), List.take_succ_eq_append_getElem (by rw [List.length_drop]; omega), List.getElem_drop]
    rw [e]
    exact ih (j + 1) k (by omega) (by omega)
/-- The text after some bytes. -/
def S (l : List Int) (p n j : Nat) : ByteArray := bytesOf (txt l p (min n j))
theorem S_size (l : List Int) (p n j : Nat) : (S l p n j).size = min n j := by unfold S; rw [bytesOf_size, txt_length]
theorem S_next (l : List Int) (p n j : Nat) (h : j < n) : S l p n j ++ bytesOf [txb l p j] = S l p n (j + 1) := by
  unfold S
  rw [Nat.min_eq_right (by omega), Nat.min_eq_right (by omega), txt_succ]
  unfold bytesOf
  apply ByteArray.ext
  simp
theorem div8 (j b : Nat) (h : b < 8) : (8 * j + b) / 8 = j := by omega
theorem mod8 (j b : Nat) (h : b < 8) : (8 * j + b) % 8 = b := by omega
theorem l1_go (k : Nat) (x1 x6 n K j x b x0 : Int) (l2 : List Int) (s : ByteArray) (hb : b < 8) (hn : wrap64 n = n) (hs : (s.size : Int) < n) (h64 : n < 100000000) (hb0 : wrap64 (b + 1) = b + 1) (t : ByteArray) (ht : strOfNums [Int.tmod x 256 % 256] = t) (ht1 : t.size = 1) (y : Int) (hy : IntKind.u64.wrap (Int.tdiv x 256) = y) :
    PHeapTwice.battledoreref09_At.l1 (k + 1) l x1 x6 n K j x b x0 l2 s = PHeapTwice.battledoreref09_At.l1 k l x1 x6 n K j y (b + 1) x0 l2 (s ++ t) := by
  rw [PHeapTwice.battledoreref09_At.l1, if_pos hb, hn, if_pos hs, Option.bind_some, ht, ht1, if_pos (by omega), hy, hb0]
theorem l1_out (k : Nat) (x1 x6 n K j x b x0 : Int) (l2 : List Int) (s : ByteArray) (hn : wrap64 n = n) (hs : ¬ b < 8 ∨ ¬ (s.size : Int) < n) (hj : wrap64 (j + 1) = j + 1) :
    PHeapTwice.battledoreref09_At.l1 (k + 1) l x1 x6 n K j x b x0 l2 s = PHeapTwice.battledoreref09_At.l0 k l x1 x6 n K (j + 1) x0 l2 s := by
  rw [PHeapTwice.battledoreref09_At.l1]
  by_cases hb : b < 8
  · rw [if_pos hb, hn, if_neg (hs.resolve_left (fun h => h hb)), hj]
  · rw [if_neg hb, hj]
theorem shift8 (X : Int) (b : Nat) (h0 : 0 ≤ X) (h1 : X < 18446744073709551616) : IntKind.u64.wrap (Int.tdiv (X / 2 ^ (8 * b)) 256) = X / 2 ^ (8 * (b + 1)) := by
  have e : (2 : Int) ^ (8 * (b + 1)) = 2 ^ (8 * b) * 256 := by
    rw [Nat.mul_add, Int.pow_add]
    rfl
  have h2 : (0 : Int) < 2 ^ (8 * b) := Int.pow_pos (by decide)
  rw [e]
  generalize (2 : Int) ^ (8 * b) = d at h2
  rw [← Int.ediv_ediv_of_nonneg (Int.le_of_lt h2)]
  have h3 : 0 ≤ X / d := Int.ediv_nonneg h0 (Int.le_of_lt h2)
  have h4 : X / d < 18446744073709551616 := Int.lt_of_le_of_lt (Int.ediv_le_self _ h0) h1
  generalize X / d = y at h3 h4
  rw [Int.tdiv_eq_ediv_of_nonneg h3, IntKind.wrap_u64]
  omega
theorem text_l1 (n K : Nat) (hn : n ≤ 16777216) (hK : p + 1 + K ≤ l.length) (hs : l.length ≤ 2097152) (j : Nat) (hj : j < K) (r : Int × List Int × ByteArray × Int) (Q : Nat → Int)
    (hQ : ∀ b, IntKind.u64.wrap (Int.tdiv (Q b) 256) = Q (b + 1)) (hS : ∀ b, b < 8 → strOfNums [Int.tmod (Q b) 256 % 256] = bytesOf [txb l p (8 * j + b)])
    (h : ∃ k, PHeapTwice.battledoreref09_At.l0 k l (p : Int) 3 (n : Int) (K : Int) ((j + 1 : Nat) : Int) 3 [] (S l p n (8 * (j + 1))) = some r) :
    ∀ c b : Nat, b + c = 8 → ∃ k, PHeapTwice.battledoreref09_At.l1 k l (p : Int) 3 (n : Int) (K : Int) (j : Int) (Q b) (b : Int) 3 [] (S l p n (8 * j + b)) = some r := by
  have e3 : wrap64 ((j : Int) + 1) = (j : Int) + 1 := by unfold wrap64; omega
  have e4 : wrap64 (n : Int) = (n : Int) := by unfold wrap64; omega
  obtain ⟨k0, h0⟩ := h
  have ej : ((j + 1 : Nat) : Int) = (j : Int) + 1 := by omega
  rw [ej] at h0
  intro c
  induction c with
  | zero =>
    intro b hb
    refine ⟨k0 + 1, ?_⟩
    rw [l1_out k0 _ _ _ _ _ _ _ _ _ _ e4 (.inl (by omega)) e3]
    have e : 8 * j + b = 8 * (j + 1) := by omega
    rw [e]
    exact h0
  | succ c ih =>
    intro b hb
    have hb8 : b < 8 := by omega
    have e5 : wrap64 ((b : Int) + 1) = (b : Int) + 1 := by unfold wrap64; omega
    have hb9 : (b : Int) < 8 := by omega
    by_cases hlt : 8 * j + b < n
    · have hsz : ((S l p n (8 * j + b)).size : Int) < (n : Int) := by rw [S_size]; omega
      have hn9 : (n : Int) < 100000000 := by omega
      obtain ⟨k, hk⟩ := ih (b + 1) (by omega)
      refine ⟨k + 1, ?_⟩
      have eb : ((b + 1 : Nat) : Int) = (b : Int) + 1 := by omega
      rw [l1_go k _ _ _ _ _ _ _ _ _ _ hb9 e4 hsz hn9 e5 _ (hS b hb8) (by rw [bytesOf_size]; rfl) _ (hQ b), S_next _ _ _ _ hlt]
      rw [eb, ← Nat.add_assoc] at hk
      exact hk
    · refine ⟨k0 + 1, ?_⟩
      rw [l1_out k0 _ _ _ _ _ _ _ _ _ _ e4 (.inr (by rw [S_size]; omega)) e3]
      have e : S l p n (8 * j + b) = S l p n (8 * (j + 1)) := by unfold S; rw [Nat.min_eq_left (by omega), Nat.min_eq_left (by omega)]
      rw [e]
      exact h0
theorem text_l0 (hw : Wd l) (hs : l.length ≤ 2097152) (K n : Nat) (hn : n ≤ 16777216) (hK : p + 1 + K ≤ l.length) (hKn : n ≤ 8 * K) : ∀ d j : Nat, j + d = K → ∃ k,
    PHeapTwice.battledoreref09_At.l0 k l (p : Int) 3 (n : Int) (K : Int) (j : Int) 3 [] (S l p n (8 * j)) = some ((3 : Int), ([] : List Int), bytesOf (txt l p n), ((1 + K : Nat) : Int)) := by
  intro d
  induction d with
  | zero =>
    intro j hj
    refine ⟨1, ?_⟩
    have e : j = K := by omega
    have e2 : wrap64 (1 + (K : Int)) = ((1 + K : Nat) : Int) := by unfold wrap64; omega
    rw [PHeapTwice.battledoreref09_At.l0, if_neg (by omega), e2, e]
    unfold S
    rw [Nat.min_eq_left hKn]
  | succ d ih =>
    intro j hj
    have hxb := hw.at_ ((p : Int) + 1 + (j : Int))
    obtain ⟨k, hk⟩ := text_l1 n K hn hK hs j (by omega) _ (fun b => rd l ((p : Int) + 1 + (j : Int)) / 2 ^ (8 * b)) (fun b => shift8 _ b hxb.1 hxb.2) (fun b hb => str_one l p (8 * j + b) hw _ (by rw [div8 j b hb, mod8 j b hb])) (ih (j + 1) (by omega)) 8 0 rfl
    have e0 : rd l ((p : Int) + 1 + (j : Int)) / 2 ^ (8 * 0) = rd l ((p : Int) + 1 + (j : Int)) := by rw [Nat.mul_zero, Int.pow_zero, Int.ediv_one]
    simp only [e0] at hk
    refine ⟨k + 1, ?_⟩
    have e1 : wrap64 ((p : Int) + 1) = (p : Int) + 1 := by unfold wrap64; omega
    have e2 : wrap64 ((p : Int) + 1 + (j : Int)) = (p : Int) + 1 + (j : Int) := by unfold wrap64; omega
    rw [PHeapTwice.battledoreref09_At.l0, e1, e2, if_pos (by omega), if_pos (by omega), if_pos (by omega), if_pos rfl]
    exact hk
theorem At_f (hw : Wd l) (hs : l.length ≤ 2097152) : ∃ k, PHeapTwice.battledoreref09_At.f k l (p : Int) = some (atv l p) := by
  unfold atv
  by_cases h1 : l.length ≤ p
  · refine ⟨1, ?_⟩
    rw [if_pos h1]
    unfold PHeapTwice.battledoreref09_At.f
    rw [if_neg (by omega), decide_eq_true (by omega), PHeapTwice.battledoreref09_At.j0, if_pos rfl]
    rfl
  · rw [if_neg h1]
    have hb := hw.at_ (p : Int)
    rw [rd_gd'] at hb
    have hm : Int.tmod (Gc.gd l p) 256 % 256 = Gc.gd l p % 256 := by rw [Int.tmod_eq_emod_of_nonneg hb.1]; omega
    have hd : IntKind.u64.wrap (Int.tdiv (Gc.gd l p) 256) = Gc.gd l p / 256 := by rw [Int.tdiv_eq_ediv_of_nonneg hb.1, IntKind.wrap_u64]; omega
    have h8 : IntKind.u64.wrap (wrap64 (8 * (l.length : Int))) = 8 * (l.length : Int) := by rw [IntKind.wrap_u64]; unfold wrap64; omega
    have start : ∀ k, PHeapTwice.battledoreref09_At.f (k + 1) l (p : Int) = if Gc.gd l p % 256 < 1 ∨ 6 < Gc.gd l p % 256 ∨ 8 * (l.length : Int) < Gc.gd l p / 256 then PHeapTwice.battledoreref09_At.j1 k l p (Gc.gd l p % 256) (Gc.gd l p / 256) true else PHeapTwice.battledoreref09_At.j1 k l p (Gc.gd l p % 256) (Gc.gd l p / 256) false := by
      intro k
      unfold PHeapTwice.battledoreref09_At.f
      rw [if_neg (by omega), decide_eq_false (by omega), PHeapTwice.battledoreref09_At.j0, if_neg (by simp), if_pos (by omega), if_pos (by omega), rd_gd', hm, hd, h8]
      by_cases c1 : Gc.gd l p % 256 < 1
      · rw [if_pos c1, if_pos (.inl c1)]
      · rw [if_neg c1]
        by_cases c2 : Gc.gd l p % 256 > 6
        · rw [if_pos c2, if_pos (.inr (.inl c2))]
        · rw [if_neg c2]
          by_cases c3 : 8 * (l.length : Int) < Gc.gd l p / 256
          · rw [if_pos (.inr (.inr c3)), decide_eq_true (by omega)]
          · rw [if_neg (by omega), decide_eq_false (by omega)]
    by_cases h2 : Gc.gd l p % 256 < 1 ∨ 6 < Gc.gd l p % 256 ∨ 8 * (l.length : Int) < Gc.gd l p / 256
    · rw [if_pos h2]
      refine ⟨2, ?_⟩
      rw [start, if_pos h2, PHeapTwice.battledoreref09_At.j1, if_pos rfl]
      rfl
    · rw [if_neg h2]
      have start2 : ∀ k, PHeapTwice.battledoreref09_At.f (k + 1 + 1) l (p : Int) = PHeapTwice.battledoreref09_At.j2 k l p (Gc.gd l p % 256) (Gc.gd l p / 256) (Gc.np (Gc.gd l p) : Int) (Gc.gd l p % 256) ⟨#[]⟩ := by
        intro k
        rw [start, if_neg h2, PHeapTwice.battledoreref09_At.j1, if_neg (by simp)]
        have e1 : wrap64 (Gc.gd l p / 256) = Gc.gd l p / 256 := by unfold wrap64; omega
        rw [e1]
        unfold Gc.np
        by_cases c : Gc.gd l p % 256 = 3
        · rw [if_pos c, if_pos c]
          have e2 : wrap64 (Gc.gd l p / 256 + 7) = Gc.gd l p / 256 + 7 := by unfold wrap64; omega
          rw [e2, Int.tdiv_eq_ediv_of_nonneg (by omega)]
          have e3 : wrap64 ((Gc.gd l p / 256 + 7) / 8) = (((Gc.gd l p / 256 + 7) / 8).toNat : Int) := by unfold wrap64; omega
          rw [e3]
        · rw [if_neg c, if_neg c]
          have e3 : Gc.gd l p / 256 = ((Gc.gd l p / 256).toNat : Int) := by omega
          rw [← e3]
      have e4 : wrap64 (wrap64 ((l.length : Int) - (p : Int)) - 1) = (l.length : Int) - p - 1 := by unfold wrap64; omega
      by_cases h3 : l.length < p + Gc.sz l p
      · rw [if_pos h3]
        refine ⟨3, ?_⟩
        rw [start2, PHeapTwice.battledoreref09_At.j2, e4, if_pos (by unfold Gc.sz at h3; omega)]
        rfl
      · rw [if_neg h3]
        have hz : p + 1 + Gc.np (Gc.gd l p) ≤ l.length := by unfold Gc.sz at h3; omega
        have start3 : ∀ k, PHeapTwice.battledoreref09_At.f (k + 1 + 1 + 1) l (p : Int) = PHeapTwice.battledoreref09_At.l0 k l p (Gc.gd l p % 256) (Gc.gd l p / 256) (Gc.np (Gc.gd l p) : Int) 0 (Gc.gd l p % 256) [] ⟨#[]⟩ := by
          intro k
          rw [start2, PHeapTwice.battledoreref09_At.j2, e4, if_neg (by omega)]
        have es : ((1 + Gc.np (Gc.gd l p) : Nat) : Int) = (Gc.sz l p : Int) := rfl
        have en : Gc.gd l p / 256 = ((Gc.gd l p / 256).toNat : Int) := by omega
        by_cases c : Gc.gd l p % 256 = 3
        · obtain ⟨k, hk⟩ := text_l0 hw hs (Gc.np (Gc.gd l p)) (Gc.gd l p / 256).toNat (by omega) hz (by unfold Gc.np; rw [if_pos c]; omega) _ 0 (Nat.zero_add _) (p := p)
          refine ⟨k + 1 + 1 + 1, ?_⟩
          rw [start3, c, if_pos rfl]
          rw [← en] at hk
          have e0 : S l p (Gc.gd l p / 256).toNat (8 * 0) = ⟨#[]⟩ := by unfold S; rw [Nat.mul_zero, Nat.min_zero]; rfl
          rw [e0] at hk
          have ep : Gc.parts l p = [] := by unfold Gc.parts; rw [if_pos c]
          rw [ep]
          exact hk
        · have ek : Gc.gd l p % 256 = ((Gc.gd l p % 256).toNat : Int) := by omega
          have hk := parts_l0 hw hs (Gc.np (Gc.gd l p)) (Gc.gd l p / 256).toNat (Gc.gd l p % 256).toNat (by omega) hz _ 0 (Gc.np (Gc.gd l p) + 1) (Nat.zero_add _) (by omega) (p := p)
          refine ⟨Gc.np (Gc.gd l p) + 1 + 1 + 1 + 1, ?_⟩
          rw [start3, if_neg c]
          rw [← en, ← ek, List.take_zero] at hk
          have ep : Gc.parts l p = (l.drop (p + 1)).take (Gc.np (Gc.gd l p)) := by unfold Gc.parts Gc.body; rw [if_neg c]
          rw [ep]
          exact hk
end
end Go.Proofs.YtbpbhipjpjjcaaaDoor.Ha
namespace Go.Proofs.YtbpbhipjpjjcaaaDoor.Ha
open Go.RowKit Go.Proofs.YtbpbhipjpjjcaaaDoorW.PrintWords PHeapTwice
set_option linter.unusedVariables false
set_option linter.unusedSimpArgs false
section
variable {l : List Int}
theorem atv_good {p : Nat} (h0 : p + Gc.sz l p ≤ l.length) (h1 : 1 ≤ Gc.gd l p % 256 ∧ Gc.gd l p % 256 ≤ 6) (h2 : 0 ≤ Gc.gd l p) : ∃ s, atv l p = (Gc.gd l p % 256, Gc.parts l p, s, (Gc.sz l p : Int)) := by
  have hz := Gc.sz_pos l p
  unfold atv
  rw [if_neg (by omega), if_neg, if_neg (by omega)]
  · exact ⟨_, rfl⟩
  · unfold Gc.sz Gc.np at h0
    split at h0 <;> omega
theorem atv_bad {p : Nat} : (atv l p).2.2.2 = 0 ∨ (p + Gc.sz l p ≤ l.length ∧ (1 ≤ Gc.gd l p % 256 ∧ Gc.gd l p % 256 ≤ 6)) := by
  unfold atv
  split
  · exact .inl rfl
  · split
    · exact .inl rfl
    · split
      · exact .inl rfl
      · exact .inr (by omega)
theorem At_lift (hw : Wd l) (hs : l.length ≤ 2097152) (p : Nat) : ∃ K, ∀ k, K ≤ k → battledoreref09_At.f k l (p : Int) = some (atv l p) := by
  obtain ⟨K, hK⟩ := At_f hw hs (p := p)
  exact ⟨K, fun k hk => lift_le (f := fun k => battledoreref09_At.f k l (p : Int)) (fun k => battledoreref09_At.mono l (p : Int) k) hK hk⟩
theorem l1_lift {x3 : List Bool} {p : Int} {r : Bool} (h : ∃ k, battledoreref09_Right.l1 k l x3 p = some r) : ∃ K, ∀ k, K ≤ k → battledoreref09_Right.l1 k l x3 p = some r := by
  obtain ⟨K, hK⟩ := h
  exact ⟨K, fun k hk => lift_le (f := fun k => battledoreref09_Right.l1 k l x3 p) (fun k => (battledoreref09_Right.mono_l k).2.1 _ _ _) hK hk⟩
theorem l0_lift {x3 : List Bool} {p : Int} {r : Bool} (h : ∃ k, battledoreref09_Right.l0 k l x3 p = some r) : ∃ K, ∀ k, K ≤ k → battledoreref09_Right.l0 k l x3 p = some r := by
  obtain ⟨K, hK⟩ := h
  exact ⟨K, fun k hk => lift_le (f := fun k => battledoreref09_Right.l0 k l x3 p) (fun k => (battledoreref09_Right.mono_l k).1 _ _ _) hK hk⟩
theorem l2_lift {x3 : List Bool} {p n j kd : Int} {ps : List Int} {s : ByteArray} {r : Bool} (h : ∃ k, battledoreref09_Right.l2 k l x3 p n j kd ps s = some r) : ∃ K, ∀ k, K ≤ k → battledoreref09_Right.l2 k l x3 p n j kd ps s = some r := by
  obtain ⟨K, hK⟩ := h
  exact ⟨K, fun k hk => lift_le (f := fun k => battledoreref09_Right.l2 k l x3 p n j kd ps s) (fun k => (battledoreref09_Right.mono_l k).2.2 _ _ _ _ _ _ _ _) hK hk⟩
theorem right_l0 (hw : Wd l) (hs : l.length ≤ 2097152) : ∀ (d p : Nat) (fl : List Bool) (St0 : List Nat), p ≤ l.length → l.length - p ≤ d → fl.length = l.length → (∀ i : Nat, fl.getD i false = true → i ∈ St0) →
    (∃ k, battledoreref09_Right.l0 k l fl (p : Int) = some false) ∨ (∃ St2 fl2, Gc.Lay l p St2 ∧ fl2.length = l.length ∧ (∀ i : Nat, fl2.getD i false = true → i ∈ St0 ++ St2) ∧ ∀ r, (∃ k, battledoreref09_Right.l1 k l fl2 0 = some r) → ∃ k, battledoreref09_Right.l0 k l fl (p : Int) = some r) := by
  intro d
  induction d with
  | zero =>
    intro p fl St0 hp hd hf hi
    refine .inr ⟨[], fl, .nil (by omega), hf, fun i h => by rw [List.append_nil]; exact hi i h, fun r ⟨k, hk⟩ => ⟨k + 1, ?_⟩⟩
    rw [battledoreref09_Right.l0, if_neg (by omega)]
    exact hk
  | succ d ih =>
    intro p fl St0 hp hd hf hi
    by_cases hlt : p < l.length
    · obtain ⟨K, hK⟩ := At_lift hw hs p
      have hb := hw.at_ (p : Int)
      rw [rd_gd'] at hb
      rcases atv_bad (l := l) (p := p) with h0 | ⟨h1, h2⟩
      · refine .inl ⟨K + 1, ?_⟩
        rw [battledoreref09_Right.l0, if_pos (by omega), hK K (Nat.le_refl _), Option.bind_some, if_pos h0]
      · obtain ⟨s, hs2⟩ := atv_good h1 h2 hb.1
        have hz := Gc.sz_pos l p
        have e1 : wrap64 ((p : Int) + (Gc.sz l p : Int)) = ((p + Gc.sz l p : Nat) : Int) := by unfold wrap64; omega
        have step : ∀ k, K ≤ k → battledoreref09_Right.l0 (k + 1) l fl (p : Int) = battledoreref09_Right.l0 k l (fl.set p true) ((p + Gc.sz l p : Nat) : Int) := by
          intro k hk
          rw [battledoreref09_Right.l0, if_pos (by omega), hK k hk, Option.bind_some, hs2, if_neg (by show ¬ (Gc.sz l p : Int) = 0; omega), if_pos (by omega), if_pos (by omega)]
          show battledoreref09_Right.l0 k l (fl.set (p : Int).toNat true) (wrap64 ((p : Int) + (Gc.sz l p : Int))) = _
          rw [e1, Int.toNat_natCast]
        have hset : ∀ i : Nat, (fl.set p true).getD i false = true → i ∈ St0 ++ [p] := by
          intro i h
          rw [List.getD_eq_getElem?_getD, List.getElem?_set] at h
          by_cases hpi : p = i
          · rw [hpi]; simp
          · rw [if_neg hpi, ← List.getD_eq_getElem?_getD] at h
            exact List.mem_append_left _ (hi i h)
        rcases ih (p + Gc.sz l p) (fl.set p true) (St0 ++ [p]) h1 (by omega) (by rw [List.length_set]; exact hf) hset with h3 | ⟨St2, fl2, hl, hf2, hi2, hr⟩
        · obtain ⟨K2, hK2⟩ := l0_lift h3
          refine .inl ⟨max K K2 + 1, ?_⟩
          rw [step _ (Nat.le_max_left _ _)]
          exact hK2 _ (Nat.le_max_right _ _)
        · refine .inr ⟨p :: St2, fl2, .cons h1 h2 hb.1 hl, hf2, fun i h => by have := hi2 i h; simpa using this, fun r hr1 => ?_⟩
          obtain ⟨K2, hK2⟩ := l0_lift (hr r hr1)
          refine ⟨max K K2 + 1, ?_⟩
          rw [step _ (Nat.le_max_left _ _)]
          exact hK2 _ (Nat.le_max_right _ _)
    · refine .inr ⟨[], fl, .nil (by omega), hf, fun i h => by rw [List.append_nil]; exact hi i h, fun r ⟨k, hk⟩ => ⟨k + 1, ?_⟩⟩
      rw [battledoreref09_Right.l0, if_neg (by omega)]
      exact hk
theorem right_l2 (hs : l.length ≤ 2097152) (fl : List Bool) (St : List Nat) (hf : fl.length = l.length) (hi : ∀ i : Nat, fl.getD i false = true → i ∈ St) (p n kd : Int) (ps : List Int) (hps : ps.length ≤ 2097152) (hpw : Wd ps) (s : ByteArray) (r : Bool)
    (hr : ∃ k, battledoreref09_Right.l1 k l fl (wrap64 (p + n)) = some r) : ∀ d j : Nat, j + d = ps.length →
    (∃ k, battledoreref09_Right.l2 k l fl p n (j : Int) kd ps s = some false) ∨ ((∃ k, battledoreref09_Right.l2 k l fl p n (j : Int) kd ps s = some r) ∧ ∀ x ∈ ps.drop j, Gc.Ok St x) := by
  intro d
  induction d with
  | zero =>
    intro j hj
    obtain ⟨k, hk⟩ := hr
    refine .inr ⟨⟨k + 1, ?_⟩, fun x hx => ?_⟩
    · rw [battledoreref09_Right.l2, if_neg (by omega)]
      exact hk
    · rw [List.drop_of_length_le (by omega)] at hx
      cases hx
  | succ d ih =>
    intro j hj
    have hjl : j < ps.length := by omega
    have hx := hpw ps[j] (List.getElem_mem hjl)
    have e3 : wrap64 ((j : Int) + 1) = ((j + 1 : Nat) : Int) := by unfold wrap64; omega
    have e4 : Int.tmod ps[j] 2 = ps[j] % 2 := Int.tmod_eq_emod_of_nonneg hx.1
    have e5 : IntKind.u64.wrap (Int.tdiv ps[j] 2) = ps[j] / 2 := by rw [Int.tdiv_eq_ediv_of_nonneg hx.1, IntKind.wrap_u64]; omega
    have e6 : IntKind.u64.wrap (l.length : Int) = (l.length : Int) := by rw [IntKind.wrap_u64]; omega
    have hd : ps.drop j = ps[j] :: ps.drop (j + 1) := List.drop_eq_getElem_cons hjl
    have step : ∀ k, battledoreref09_Right.l2 (k + 1) l fl p n (j : Int) kd ps s = if ps[j] % 2 = 0 then (if ps[j] / 2 ≥ (l.length : Int) then some false else if fl.getD (ps[j] / 2).toNat false = true then battledoreref09_Right.l2 k l fl p n ((j + 1 : Nat) : Int) kd ps s else some false) else battledoreref09_Right.l2 k l fl p n ((j + 1 : Nat) : Int) kd ps s := by
      intro k
      rw [battledoreref09_Right.l2, if_pos (by omega), if_pos (by omega), rd_nat ps j hjl, e4, e5, e6, e3]
      by_cases c1 : ps[j] % 2 = 0
      · rw [if_pos c1, if_pos c1]
        by_cases c2 : ps[j] / 2 ≥ (l.length : Int)
        · rw [if_pos c2, if_pos c2]
        · rw [if_neg c2, if_neg c2, if_pos (by omega), if_pos (by omega)]
          rfl
      · rw [if_neg c1, if_neg c1]
    have go : ps[j] % 2 = 1 ∨ (ps[j] % 2 = 0 ∧ ¬ ps[j] / 2 ≥ (l.length : Int) ∧ fl.getD (ps[j] / 2).toNat false = true) → (∀ k, battledoreref09_Right.l2 (k + 1) l fl p n (j : Int) kd ps s = battledoreref09_Right.l2 k l fl p n ((j + 1 : Nat) : Int) kd ps s) ∧ Gc.Ok St ps[j] := by
      rintro (c | ⟨c1, c2, c3⟩)
      · exact ⟨fun k => by rw [step, if_neg (by omega)], .inl c⟩
      · exact ⟨fun k => by rw [step, if_pos c1, if_neg c2, if_pos c3], .inr ⟨_, hi _ c3, by omega⟩⟩
    by_cases c1 : ps[j] % 2 = 0
    · by_cases c2 : ps[j] / 2 ≥ (l.length : Int)
      · exact .inl ⟨1, by rw [step, if_pos c1, if_pos c2]⟩
      · by_cases c3 : fl.getD (ps[j] / 2).toNat false = true
        · obtain ⟨g1, g2⟩ := go (.inr ⟨c1, c2, c3⟩)
          rcases ih (j + 1) (by omega) with ⟨k, hk⟩ | ⟨⟨k, hk⟩, hall⟩
          · exact .inl ⟨k + 1, by rw [g1]; exact hk⟩
          · refine .inr ⟨⟨k + 1, by rw [g1]; exact hk⟩, fun x hx2 => ?_⟩
            rw [hd] at hx2
            rcases List.mem_cons.1 hx2 with rfl | hx2
            · exact g2
            · exact hall x hx2
        · exact .inl ⟨1, by rw [step, if_pos c1, if_neg c2, if_neg c3]⟩
    · obtain ⟨g1, g2⟩ := go (.inl (by omega))
      rcases ih (j + 1) (by omega) with ⟨k, hk⟩ | ⟨⟨k, hk⟩, hall⟩
      · exact .inl ⟨k + 1, by rw [g1]; exact hk⟩
      · refine .inr ⟨⟨k + 1, by rw [g1]; exact hk⟩, fun x hx2 => ?_⟩
        rw [hd] at hx2
        rcases List.mem_cons.1 hx2 with rfl | hx2
        · exact g2
        · exact hall x hx2
theorem parts_sub (m : List Int) (a : Nat) : ∀ x ∈ Gc.parts m a, x ∈ m := by
  intro x hx
  unfold Gc.parts at hx
  split at hx
  · cases hx
  · exact List.mem_of_mem_drop (List.mem_of_mem_take hx)
theorem parts_len (m : List Int) (a : Nat) : (Gc.parts m a).length ≤ m.length := by
  unfold Gc.parts Gc.body
  split
  · simp
  · simp only [List.length_take, List.length_drop]
    omega
theorem right_l1 (hw : Wd l) (hs : l.length ≤ 2097152) (fl : List Bool) (St : List Nat) (hf : fl.length = l.length) (hi : ∀ i : Nat, fl.getD i false = true → i ∈ St) {p : Nat} {St2 : List Nat} (hl : Gc.Lay l p St2) :
    ∃ b, (∃ k, battledoreref09_Right.l1 k l fl (p : Int) = some b) ∧ (b = true → ∀ a ∈ St2, ∀ x ∈ Gc.parts l a, Gc.Ok St x) := by
  induction hl with
  | nil h => exact ⟨true, ⟨1, by rw [battledoreref09_Right.l1, if_neg (by omega)]⟩, fun _ a ha => by cases ha⟩
  | @cons p St3 h0 h1 h2 h ih =>
    obtain ⟨b, hb, hbt⟩ := ih
    have hz := Gc.sz_pos l p
    obtain ⟨K, hK⟩ := At_lift hw hs p
    obtain ⟨s, hs2⟩ := atv_good h0 h1 h2
    have e1 : wrap64 ((p : Int) + (Gc.sz l p : Int)) = ((p + Gc.sz l p : Nat) : Int) := by unfold wrap64; omega
    have step : ∀ k, K ≤ k → battledoreref09_Right.l1 (k + 1) l fl (p : Int) = battledoreref09_Right.l2 k l fl (p : Int) (Gc.sz l p : Int) ((0 : Nat) : Int) (Gc.gd l p % 256) (Gc.parts l p) s := by
      intro k hk
      rw [battledoreref09_Right.l1, if_pos (by omega), hK k hk, Option.bind_some, hs2]
      rfl
    have hpl := parts_len l p
    rcases right_l2 hs fl St hf hi (p : Int) (Gc.sz l p : Int) (Gc.gd l p % 256) (Gc.parts l p) (by omega) (fun x hx => hw x (parts_sub l p x hx)) s b (by rw [e1]; exact hb) (Gc.parts l p).length 0 (Nat.zero_add _) with h3 | ⟨h3, hall⟩
    · obtain ⟨K2, hK2⟩ := l2_lift h3
      refine ⟨false, ⟨max K K2 + 1, ?_⟩, fun h => by cases h⟩
      rw [step _ (Nat.le_max_left _ _)]
      exact hK2 _ (Nat.le_max_right _ _)
    · obtain ⟨K2, hK2⟩ := l2_lift h3
      refine ⟨b, ⟨max K K2 + 1, ?_⟩, fun hb2 a ha x hx => ?_⟩
      · rw [step _ (Nat.le_max_left _ _)]
        exact hK2 _ (Nat.le_max_right _ _)
      · rcases List.mem_cons.1 ha with rfl | ha
        · exact hall x (by rw [List.drop_zero]; exact hx)
        · exact hbt hb2 a ha x hx
/-- What the reference's Right answers. -/
theorem right_f (hw : Wd l) (hs : l.length ≤ 2097152) : ∃ k b, battledoreref09_Right.f k l = some b ∧ (b = true → ∃ St, Gc.Wf l St) := by
  have start : ∀ k, battledoreref09_Right.f k l = battledoreref09_Right.l0 k l (List.replicate l.length false) ((0 : Nat) : Int) := by
    intro k
    unfold battledoreref09_Right.f
    rw [if_pos (by omega), if_pos (by omega), Int.toNat_natCast]
    rfl
  rcases right_l0 hw hs l.length 0 (List.replicate l.length false) [] (Nat.zero_le _) (by omega) (by simp) (fun i h => by
    rw [List.getD_eq_getElem?_getD, List.getElem?_replicate] at h
    split at h <;> simp at h) with ⟨k, hk⟩ | ⟨St, fl, hl, hf, hi, hr⟩
  · exact ⟨k, false, by rw [start]; exact hk, fun h => by cases h⟩
  · obtain ⟨b, hb, hbt⟩ := right_l1 hw hs fl St hf (fun i h => by have := hi i h; simpa using this) hl
    obtain ⟨k, hk⟩ := hr b hb
    exact ⟨k, b, by rw [start]; exact hk, fun h => ⟨St, hl, hbt h⟩⟩
theorem back_l0 (l : List Int) (hl : l.length ≤ 1048576 * 4) : ∀ d i k : Nat, i + d = l.length → d < k → battledorelaw09_back.l0 k l (l.take i) (i : Int) = some l := by
  intro d
  induction d with
  | zero =>
    intro i k hi hk
    obtain ⟨k, rfl⟩ : ∃ j, k = j + 1 := ⟨k - 1, by omega⟩
    simp only [battledorelaw09_back.l0]
    rw [if_neg (by omega), List.take_of_length_le (by omega)]
  | succ d ih =>
    intro i k hi hk
    obtain ⟨k, rfl⟩ : ∃ j, k = j + 1 := ⟨k - 1, by omega⟩
    simp only [battledorelaw09_back.l0]
    rw [if_pos (by omega), if_pos (by omega), if_pos (by simp; omega)]
    have e : l.take i ++ [rd l (i : Int)] = l.take (i + 1) := by
      rw [rd_nat l i (by omega), List.take_succ_eq_append_getElem]
    have e2 : wrap64 ((i : Int) + 1) = ((i + 1 : Nat) : Int) := by unfold wrap64; omega
    rw [e, e2]
    exact ih (i + 1) k (by omega) (by omega)
theorem back_f (l : List Int) (hl : l.length ≤ 1048576 * 4) : battledorelaw09_back.f (l.length + 1) l = some l := by
  unfold battledorelaw09_back.f
  exact back_l0 l hl l.length 0 _ (by omega) (by omega)
end
end Go.Proofs.YtbpbhipjpjjcaaaDoor.Ha
