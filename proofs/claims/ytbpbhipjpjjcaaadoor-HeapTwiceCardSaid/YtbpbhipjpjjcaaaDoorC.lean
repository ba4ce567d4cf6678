import Derived.Test.YtbpbhipjpjjcaaaDoorB
import Derived.Deep.QuietTactic
import Derived.BigQuiet
import Derived.Deep.DeepFit
import Derived.StillTailTactics
namespace Go.Proofs.YtbpbhipjpjjcaaaDoor
set_option linter.unusedVariables false
set_option linter.unusedSimpArgs false
open Go.RowKit Go.Proofs.YtbpbhipjpjjcaaaDoorW.PrintWords

section
variable {b : Nat} {v : Value} {m : List Int} {q c : Int}
/-! ## nil heaps -/
set_option maxHeartbeats 400000 in
theorem c37_nil (x : Int) (w : World) : Calls Tryd.prog 37 #[.pointer none, .int .u64 x] w fun e w' => e = .returned (.int .u8 0) ∧ w = w' := by
  go_enter Tryd.func37, Tryd.ntmps37
  go_wp2_with (go_at_call 45; refine (c45_nil x w).mono ?_; rintro e w' ⟨rfl, rfl⟩)
  go_ret
  exact ⟨rfl, rfl⟩
set_option maxHeartbeats 400000 in
theorem c38_nil (x : Int) (w : World) : Calls Tryd.prog 38 #[.pointer none, .int .u64 x] w fun e w' => e = .returned (.int .i64 0) ∧ w = w' := by
  go_enter Tryd.func38, Tryd.ntmps38
  go_wp2_with (go_at_call 45; refine (c45_nil x w).mono ?_; rintro e w' ⟨rfl, rfl⟩)
  go_ret
  exact ⟨rfl, rfl⟩
set_option maxHeartbeats 400000 in
theorem c36_nil (x : Int) (w : World) : Calls Tryd.prog 36 #[.pointer none, .int .u64 x, .int .i64 0] w fun e w' => e = .returned (.tuple #[.int .u64 0, .int .i64 1]) ∧ w = w' := by
  go_enter Tryd.func36, Tryd.ntmps36
  go_wp2_with (first | (go_at_call 38; refine (c38_nil x w).mono ?_; rintro e w' ⟨rfl, rfl⟩) | (go_at_call 37; refine (c37_nil x w).mono ?_; rintro e w' ⟨rfl, rfl⟩))
  go_ret2
  exact ⟨rfl, rfl⟩
set_option maxHeartbeats 400000 in
theorem c32_nil (x y : Int) (w : World) : Calls Tryd.prog 32 #[.pointer none, .int .u64 x, .int .i64 0, .int .u64 y] w fun e w' => e = .returned (.int .i64 1) ∧ w = w' := by
  go_enter Tryd.func32, Tryd.ntmps32
  go_wp2_with (first | (go_at_call 38; refine (c38_nil x w).mono ?_; rintro e w' ⟨rfl, rfl⟩) | (go_at_call 37; refine (c37_nil x w).mono ?_; rintro e w' ⟨rfl, rfl⟩))
  go_ret
  exact ⟨rfl, rfl⟩
set_option maxHeartbeats 400000 in
theorem c20_nil (x : Int) (w : World) : Calls Tryd.prog 20 #[.pointer none, .int .u64 x] w fun e w' => e = .returned (.string ⟨#[]⟩) ∧ w = w' := by
  go_enter Tryd.func20, Tryd.ntmps20
  go_wp2_with (go_at_call 37; refine (c37_nil x w).mono ?_; rintro e w' ⟨rfl, rfl⟩)
  go_ret
  exact ⟨rfl, rfl⟩
set_option maxHeartbeats 400000 in
theorem c18_nil (w : World) : Calls Tryd.prog 18 #[.pointer none] w fun e w' => e = .returned (.int .i64 0) ∧ w = w' := by
  go_enter Tryd.func18, Tryd.ntmps18
  go_wp2
  go_ret
  exact ⟨rfl, rfl⟩
set_option maxHeartbeats 400000 in
theorem c33_nil (w : World) : Calls Tryd.prog 33 #[.pointer none] w fun e w' => e = .returned (.int .i64 0) ∧ w = w' := by
  go_enter Tryd.func33, Tryd.ntmps33
  go_wp2
  go_ret
  exact ⟨rfl, rfl⟩
set_option maxHeartbeats 400000 in
theorem c26_nil (w : World) : Calls Tryd.prog 26 #[.pointer none] w fun e w' => e = .returned (.int .i64 0) ∧ w = w' := by
  go_enter Tryd.func26, Tryd.ntmps26
  go_wp2
  go_ret
  exact ⟨rfl, rfl⟩
set_option maxHeartbeats 400000 in
theorem c14_nil (w : World) : Calls Tryd.prog 14 #[.pointer none] w fun e w' => e = .returned (.pointer none) ∧ w = w' := by
  go_enter Tryd.func14, Tryd.ntmps14
  go_wp2
  go_ret
  exact ⟨rfl, rfl⟩
set_option maxHeartbeats 400000 in
theorem c16_nil (w : World) : Calls Tryd.prog 16 #[.pointer none] w fun e w' => e = .returned (.slice none 0 0) ∧ w = w' := by
  go_enter Tryd.func16, Tryd.ntmps16
  go_wp2
  go_ret
  exact ⟨rfl, rfl⟩
set_option maxHeartbeats 400000 in
theorem c17_nil (r : Value) (w : World) : Calls Tryd.prog 17 #[.pointer none, r] w fun e w' => e = .returned (.tuple #[]) ∧ w = w' := by
  go_enter Tryd.func17, Tryd.ntmps17
  go_wp2
  refine bodyPost_ret (results_none rfl _ _ _) rfl ?_
  exact ⟨rfl, rfl⟩
set_option maxHeartbeats 400000 in
theorem c35_nil (k p r : Value) (w : World) : Calls Tryd.prog 35 #[.pointer none, k, p, r] w fun e w' => e = .returned (.tuple #[.int .u64 0, .int .i64 6]) ∧ w = w' := by
  go_enter Tryd.func35, Tryd.ntmps35
  go_wp2
  go_ret2
  exact ⟨rfl, rfl⟩
set_option maxHeartbeats 400000 in
theorem c13_nil (s r : Value) (w : World) : Calls Tryd.prog 13 #[.pointer none, s, r] w fun e w' => e = .returned (.tuple #[.int .u64 0, .int .i64 6]) ∧ w = w' := by
  go_enter Tryd.func13, Tryd.ntmps13
  go_wp2
  go_ret2
  exact ⟨rfl, rfl⟩

/-! ## what a heap tells -/
set_option maxHeartbeats 400000 in
theorem c18 (w : World) (hh : HpIs w b v m q c) : Calls Tryd.prog 18 #[.pointer (some ⟨b, 0, none⟩)] w fun e w' => e = .returned (.int .i64 m.length) ∧ w = w' := by
  have hc0 := hh.cell0
  obtain ⟨A, cp, hv, -⟩ := hh.opens
  clear hh
  subst hv
  go_enter Tryd.func18, Tryd.ntmps18
  go_wp2
  go_ret
  exact ⟨rfl, rfl⟩
set_option maxHeartbeats 400000 in
theorem c33 (w : World) (hh : HpIs w b v m q c) : Calls Tryd.prog 33 #[.pointer (some ⟨b, 0, none⟩)] w fun e w' => e = .returned (.int .i64 q) ∧ w = w' := by
  have hc1 := hh.cell1
  clear hh
  go_enter Tryd.func33, Tryd.ntmps33
  go_wp2
  go_ret
  exact ⟨rfl, rfl⟩
set_option maxHeartbeats 400000 in
theorem c26 (w : World) (hh : HpIs w b v m q c) : Calls Tryd.prog 26 #[.pointer (some ⟨b, 0, none⟩)] w fun e w' => e = .returned (.int .i64 c) ∧ w = w' := by
  have hc2 := hh.cell2
  clear hh
  go_enter Tryd.func26, Tryd.ntmps26
  go_wp2
  go_ret
  exact ⟨rfl, rfl⟩
/-- a place: an object's word -/
def Place (m : List Int) (x : Int) : Prop := 0 ≤ x ∧ x < 18446744073709551616 ∧ x % 2 = 0 ∧ x / 2 < (m.length : Int)
set_option maxHeartbeats 400000 in
theorem c37 (x : Int) (w : World) (hh : HpIs w b v m q c) (hp : Place m x) :
    Calls Tryd.prog 37 #[.pointer (some ⟨b, 0, none⟩), .int .u64 x] w fun e w' => e = .returned (.int .u8 (rd m (x / 2) % 256)) ∧ w = w' := by
  obtain ⟨h0, h1, hx, hf⟩ := hp
  have HC := Lib.hid (c45_in x w hh h0 h1 hx hf)
  have hc0 := hh.cell0
  have hwd := hh.wd.at_ (x / 2)
  obtain ⟨hw0, hw1⟩ := hwd
  have hsm := hh.small
  obtain ⟨A, cp, hv, hr⟩ := hh.opens
  obtain ⟨ad, rfl, hcell⟩ := hr (x / 2) (by omega) hf
  clear hr hh hx
  subst hv
  have hx0 : 0 ≤ x / 2 := by omega
  go_enter Tryd.func37, Tryd.ntmps37
  go_wp2_with (go_at_call 45; refine HC.out.mono ?_; rintro e w' ⟨rfl, rfl⟩)
  go_ret
  refine ⟨?_, rfl⟩
  simp
set_option maxHeartbeats 400000 in
theorem c37_odd (x : Int) (w : World) (h0 : 0 ≤ x) (h1 : x < 18446744073709551616) (hx : x % 2 = 1) :
    Calls Tryd.prog 37 #[.pointer (some ⟨b, 0, none⟩), .int .u64 x] w fun e w' => e = .returned (.int .u8 0) ∧ w = w' := by
  have HC := Lib.hid (c45_odd (b := b) x w h0 h1 hx)
  clear hx
  go_enter Tryd.func37, Tryd.ntmps37
  go_wp2_with (go_at_call 45; refine HC.out.mono ?_; rintro e w' ⟨rfl, rfl⟩)
  go_ret
  exact ⟨rfl, rfl⟩
set_option maxHeartbeats 400000 in
theorem c38 (x : Int) (w : World) (hh : HpIs w b v m q c) (hp : Place m x) :
    Calls Tryd.prog 38 #[.pointer (some ⟨b, 0, none⟩), .int .u64 x] w fun e w' => e = .returned (.int .i64 (rd m (x / 2) / 256)) ∧ w = w' := by
  obtain ⟨h0, h1, hx, hf⟩ := hp
  have HC := Lib.hid (c45_in x w hh h0 h1 hx hf)
  have hc0 := hh.cell0
  have hwd := hh.wd.at_ (x / 2)
  obtain ⟨hw0, hw1⟩ := hwd
  have hsm := hh.small
  obtain ⟨A, cp, hv, hr⟩ := hh.opens
  obtain ⟨ad, rfl, hcell⟩ := hr (x / 2) (by omega) hf
  clear hr hh hx
  subst hv
  have hx0 : 0 ≤ x / 2 := by omega
  go_enter Tryd.func38, Tryd.ntmps38
  go_wp2_with (go_at_call 45; refine HC.out.mono ?_; rintro e w' ⟨rfl, rfl⟩)
  go_ret
  exact ⟨rfl, rfl⟩
end
end Go.Proofs.YtbpbhipjpjjcaaaDoor
