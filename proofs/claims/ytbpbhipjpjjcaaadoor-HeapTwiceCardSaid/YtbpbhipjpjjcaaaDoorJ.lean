import Derived.Test.YtbpbhipjpjjcaaaDoorI
namespace Go.Proofs.YtbpbhipjpjjcaaaDoor
set_option linter.unusedVariables false
set_option linter.unusedSimpArgs false
open Go.RowKit Go.Proofs.YtbpbhipjpjjcaaaDoorW.PrintWords

def sAbc : ByteArray := ⟨#[97, 98, 99]⟩
def sXyz : ByteArray := ⟨#[120, 121, 122]⟩
theorem abc_size : sAbc.size = 3 := rfl
theorem xyz_size : sXyz.size = 3 := rfl
theorem abc_words : twrds sAbc = [771, 6513249] := by decide +kernel
theorem xyz_words : twrds sXyz = [771, 8026488] := by decide +kernel
theorem abc_txt : txt [771, 6513249] 0 3 = [97, 98, 99] := by decide +kernel
theorem xyz_txt : txt [771, 8026488] 0 3 = [120, 121, 122] := by decide +kernel
theorem HpIs.new (w : World) (q : Int) : HpIs (w.alloc (.cells #[.slice none 0 0, .int .i64 q, .int .i64 0] 77)) w.heap.size (.slice none 0 0) [] q 0 :=
  ⟨heap_alloc_new w _, ⟨rfl, .inl ⟨rfl, rfl⟩⟩, by simp, by simp [Wd]⟩
theorem place0 (a b : Int) : Place [a, b] 0 := ⟨by omega, by omega, by omega, by simp⟩

set_option maxRecDepth 100000 in
set_option maxHeartbeats 1000000 in
theorem c10 (w : World) : Calls Tryd.prog 10 #[] w fun e w' => e = .returned (.bool true) ∧ Below w.heap.size w w' := by
  have A1 : Hid (Calls Tryd.prog 13 #[.pointer (some ⟨w.heap.size, 0, none⟩), .string ⟨#[97, 98, 99]⟩, .slice none 0 0] (w.alloc (.cells #[.slice none 0 0, .int .i64 2, .int .i64 0] 77)) fun e w' => e = .returned (.tuple #[.int .u64 0, .int .i64 0]) ∧ ∃ v', Hx (w.alloc (.cells #[.slice none 0 0, .int .i64 2, .int .i64 0] 77)) w.heap.size (.slice none 0 0) w' v' [771, 6513249] 2 0) :=
    (c13_fits sAbc (.slice none 0 0) _ (HpIs.new w 2) (by rw [abc_size]; omega) (by omega) (by rw [abc_size]; simp)).mono fun e w' ⟨he, v', hx⟩ => ⟨by rw [he]; rfl, v', by rw [← abc_words]; exact hx⟩
  have A2 : Hid (∀ w1 v1, HpIs w1 w.heap.size v1 [771, 6513249] 2 0 → Calls Tryd.prog 13 #[.pointer (some ⟨w.heap.size, 0, none⟩), .string ⟨#[120, 121, 122]⟩, .slice none 0 0] w1 fun e w' => e = .returned (.tuple #[.int .u64 0, .int .i64 0]) ∧ ∃ v', Hx w1 w.heap.size v1 w' v' [771, 8026488] 2 1) := fun w1 v1 h =>
    (c13_none sXyz w1 h (by rw [xyz_size]; omega) (by omega) (by omega) (by rw [xyz_size]; simp) (by rw [xyz_size]; simp)).mono fun e w' ⟨he, v', hx⟩ => ⟨he, v', by rw [← xyz_words]; exact hx⟩
  have T1 : Hid (∀ w1 v1 c, HpIs w1 w.heap.size v1 [771, 6513249] 2 c → Calls Tryd.prog 20 #[.pointer (some ⟨w.heap.size, 0, none⟩), .int .u64 0] w1 fun e w' => e = .returned (.string ⟨#[97, 98, 99]⟩) ∧ Below w1.heap.size w1 w') := fun w1 v1 c h =>
    (c20 0 w1 h (place0 _ _) (by decide) 3 (by decide) (by simp)).mono fun e w' ⟨he, hb⟩ => ⟨by rw [he]; simp only [Int.zero_ediv]; rw [abc_txt], hb⟩
  have T2 : Hid (∀ w1 v1 c, HpIs w1 w.heap.size v1 [771, 8026488] 2 c → Calls Tryd.prog 20 #[.pointer (some ⟨w.heap.size, 0, none⟩), .int .u64 0] w1 fun e w' => e = .returned (.string ⟨#[120, 121, 122]⟩) ∧ Below w1.heap.size w1 w') := fun w1 v1 c h =>
    (c20 0 w1 h (place0 _ _) (by decide) 3 (by decide) (by simp)).mono fun e w' ⟨he, hb⟩ => ⟨by rw [he]; simp only [Int.zero_ediv]; rw [xyz_txt], hb⟩
  go_enter Tryd.func10, Tryd.ntmps10
  go_wp2_with (go_at_call 12; refine (c12 2 w (by omega) (by omega)).mono ?_; rintro e w' ⟨rfl, rfl⟩)
  refine A1.out.mono ?_
  rintro e w1 ⟨rfl, v1, hx1⟩
  have B1 := Lib.hid ((below_alloc (Below.refl w.heap.size w) (.cells #[.slice none 0 0, .int .i64 2, .int .i64 0] 77)).trans (hx1.chg.to_below (B := w.heap.size) (by simp) (by rintro k (rfl | hk); exact Nat.le_refl _; simp [Value.ownBlock] at hk)))
  have O1 : Hid (∀ k, v1.ownBlock = some k → w.heap.size ≤ k) := fun k hk => by
    rcases hx1.own k hk with (rfl | h) | h
    · exact Nat.le_refl _
    · simp [Value.ownBlock] at h
    · simp at h; omega
  have H1 := Lib.hid hx1.is
  clear hx1
  go_wp2_with (go_at_call 20; refine (T1.out w1 v1 0 H1.out).mono ?_; rintro e w2 ⟨rfl, hb2⟩; refine Hid.out ?_)
  have H2 := Lib.hid (H1.out.below hb2)
  have B2 := Lib.hid (B1.out.trans (hb2.mono B1.out.size))
  clear hb2
  refine Lib.hid ?_
  go_wp2_with (go_at_call 13; refine (A2.out w2 v1 H2.out).mono ?_; rintro e w3 ⟨rfl, v3, hx3⟩; refine Hid.out ?_)
  have B3 := Lib.hid (B2.out.trans (hx3.chg.to_below (B := w.heap.size) B2.out.size (by rintro k (rfl | hk); exact Nat.le_refl _; exact O1.out k hk)))
  have H3 := Lib.hid hx3.is
  clear hx3
  refine Lib.hid ?_
  go_wp2_with (go_at_call 20; refine (T2.out w3 v3 1 H3.out).mono ?_; rintro e w4 ⟨rfl, hb4⟩; refine Hid.out ?_)
  have H4 := Lib.hid (H3.out.below hb4)
  have B4 := Lib.hid (B3.out.trans (hb4.mono B3.out.size))
  clear hb4
  refine Lib.hid ?_
  go_wp2_with (first | (go_at_call 18; refine (c18 w4 H4.out).mono ?_; rintro e w' ⟨rfl, rfl⟩) | (go_at_call 26; refine (c26 w4 H4.out).mono ?_; rintro e w' ⟨rfl, rfl⟩))
  go_ret
  exact ⟨rfl, B4.out⟩
end Go.Proofs.YtbpbhipjpjjcaaaDoor
