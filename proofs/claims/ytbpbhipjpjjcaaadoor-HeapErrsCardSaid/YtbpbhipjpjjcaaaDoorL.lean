import Derived.Test.YtbpbhipjpjjcaaaDoorK
namespace Go.Proofs.YtbpbhipjpjjcaaaDoor
set_option linter.unusedVariables false
set_option linter.unusedSimpArgs false
open Go.RowKit Go.Proofs.YtbpbhipjpjjcaaaDoorW.PrintWords

theorem c12_any (q : Int) (w : World) (h0 : q < 1 ∨ 1048576 < q) :
    Calls Tryd.prog 12 #[.int .i64 q] w fun e w' => e = .returned (.tuple #[.pointer none, .int .i64 1]) ∧ w = w' := by
  rcases h0 with h | h
  · exact c12_lo q w h
  · exact c12_hi q w h
set_option maxRecDepth 100000 in
set_option maxHeartbeats 2000000 in
theorem c7_in (n x : Int) (w : World) (h0 : 1 ≤ n) (h1 : n ≤ 1048576) (hx0 : 0 ≤ x) (hx1 : x < 18446744073709551616) :
    Calls Tryd.prog 7 #[.int .i64 n, .int .u64 x] w fun e w' => e = .returned (.bool true) ∧ Below w.heap.size w w' := by
  go_enter Tryd.func7, Tryd.ntmps7
  go_wp2_with (go_at_call 10; refine (c10 w).mono ?_; rintro e w1 ⟨rfl, hb⟩; refine Hid.out ?_)
  have hB := Lib.hid (hb.trans ((below_alloc (Below.refl _ _) (.cells #[.slice none 0 0, .int .i64 n, .int .i64 0] 77)).mono hb.size))
  clear hb
  refine Lib.hid ?_
  go_wp2_with (first
    | (go_at_call 12; refine (c12 n _ h0 h1).mono ?_; rintro e w' ⟨rfl, rfl⟩)
    | (go_at_call 17; refine (c17_nil _ _).mono ?_; rintro e w' ⟨rfl, rfl⟩)
    | (go_at_call 35; refine (c35_nil _ _ _ _).mono ?_; rintro e w' ⟨rfl, rfl⟩)
    | (go_at_call 13; refine (c13_nil _ _ _).mono ?_; rintro e w' ⟨rfl, rfl⟩)
    | (go_at_call 36; refine (c36_nil _ _).mono ?_; rintro e w' ⟨rfl, rfl⟩)
    | (go_at_call 32; refine (c32_nil _ _ _).mono ?_; rintro e w' ⟨rfl, rfl⟩)
    | (go_at_call 37; refine (c37_nil _ _).mono ?_; rintro e w' ⟨rfl, rfl⟩)
    | (go_at_call 38; refine (c38_nil _ _).mono ?_; rintro e w' ⟨rfl, rfl⟩)
    | (go_at_call 18; refine (c18_nil _).mono ?_; rintro e w' ⟨rfl, rfl⟩)
    | (go_at_call 33; refine (c33_nil _).mono ?_; rintro e w' ⟨rfl, rfl⟩)
    | (go_at_call 26; refine (c26_nil _).mono ?_; rintro e w' ⟨rfl, rfl⟩)
    | (go_at_call 20; refine (c20_nil _ _).mono ?_; rintro e w' ⟨rfl, rfl⟩)
    | (go_at_call 14; refine (c14_nil _).mono ?_; rintro e w' ⟨rfl, rfl⟩)
    | (go_at_call 16; refine (c16_nil _).mono ?_; rintro e w' ⟨rfl, rfl⟩)
    | (go_in))
  go_ret
  exact ⟨rfl, hB.out⟩
set_option maxRecDepth 100000 in
set_option maxHeartbeats 2000000 in
theorem c7_out (n x : Int) (w : World) (h0 : n < 1 ∨ 1048576 < n) (hx0 : 0 ≤ x) (hx1 : x < 18446744073709551616) :
    Calls Tryd.prog 7 #[.int .i64 n, .int .u64 x] w fun e w' => e = .returned (.bool true) ∧ Below w.heap.size w w' := by
  have H12 := Lib.hid (fun w0 => c12_any n w0 h0)
  rcases h0 with h0 | h0
  all_goals
    go_enter Tryd.func7, Tryd.ntmps7
    go_wp2_with (go_at_call 10; refine (c10 w).mono ?_; rintro e w1 ⟨rfl, hb⟩; refine Hid.out ?_)
    have hB := Lib.hid hb
    clear hb
    refine Lib.hid ?_
    go_wp2_with (first
      | (go_at_call 12; refine (H12.out _).mono ?_; rintro e w' ⟨rfl, rfl⟩)
      | (go_at_call 17; refine (c17_nil _ _).mono ?_; rintro e w' ⟨rfl, rfl⟩)
      | (go_at_call 35; refine (c35_nil _ _ _ _).mono ?_; rintro e w' ⟨rfl, rfl⟩)
      | (go_at_call 13; refine (c13_nil _ _ _).mono ?_; rintro e w' ⟨rfl, rfl⟩)
      | (go_at_call 36; refine (c36_nil _ _).mono ?_; rintro e w' ⟨rfl, rfl⟩)
      | (go_at_call 32; refine (c32_nil _ _ _).mono ?_; rintro e w' ⟨rfl, rfl⟩)
      | (go_at_call 37; refine (c37_nil _ _).mono ?_; rintro e w' ⟨rfl, rfl⟩)
      | (go_at_call 38; refine (c38_nil _ _).mono ?_; rintro e w' ⟨rfl, rfl⟩)
      | (go_at_call 18; refine (c18_nil _).mono ?_; rintro e w' ⟨rfl, rfl⟩)
      | (go_at_call 33; refine (c33_nil _).mono ?_; rintro e w' ⟨rfl, rfl⟩)
      | (go_at_call 26; refine (c26_nil _).mono ?_; rintro e w' ⟨rfl, rfl⟩)
      | (go_at_call 20; refine (c20_nil _ _).mono ?_; rintro e w' ⟨rfl, rfl⟩)
      | (go_at_call 14; refine (c14_nil _).mono ?_; rintro e w' ⟨rfl, rfl⟩)
      | (go_at_call 16; refine (c16_nil _).mono ?_; rintro e w' ⟨rfl, rfl⟩)
      | (go_in))
    go_ret
    exact ⟨rfl, hB.out⟩
theorem c7 (n x : Int) (w : World) (hx0 : 0 ≤ x) (hx1 : x < 18446744073709551616) :
    Calls Tryd.prog 7 #[.int .i64 n, .int .u64 x] w fun e w' => e = .returned (.bool true) ∧ Below w.heap.size w w' := by
  by_cases h : n < 1 ∨ 1048576 < n
  · exact c7_out n x w h hx0 hx1
  · exact c7_in n x w (by omega) (by omega) hx0 hx1
end Go.Proofs.YtbpbhipjpjjcaaaDoor
