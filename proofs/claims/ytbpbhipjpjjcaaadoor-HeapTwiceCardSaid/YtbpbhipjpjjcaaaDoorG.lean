import Derived.Test.YtbpbhipjpjjcaaaDoorF
import Derived.Maps.AppendAt
namespace Go.Proofs.YtbpbhipjpjjcaaaDoor
set_option linter.unusedVariables false
set_option linter.unusedSimpArgs false
open Go.RowKit Go.Proofs.YtbpbhipjpjjcaaaDoorW.PrintWords

section
variable {b : Nat} {v : Value} {m : List Int} {q c : Int}
set_option maxRecDepth 100000 in
set_option maxHeartbeats 1000000 in
theorem c40_fits (n : Int) (r : Value) (w : World) (hh : HpIs w b v m q c) (hn : n ≤ q - m.length) (h0 : 0 ≤ n) (hq : 0 ≤ q ∧ q ≤ 1048576) :
    Calls Tryd.prog 40 #[.pointer (some ⟨b, 0, none⟩), .int .i64 n, r] w fun e w' => e = .returned (.bool true) ∧ Drawn0 w w' := by
  obtain ⟨hq0, hq1⟩ := hq
  have hc0 := hh.cell0
  have hc1 := hh.cell1
  have hsm := hh.small
  obtain ⟨A, cp, hv, -⟩ := hh.opens
  clear hh
  subst hv
  go_enter Tryd.func40, Tryd.ntmps40
  go_wp2
  go_quiet (fail)
  go_wp2
  go_quiet (fail)
  go_wp2
  go_ret
  refine ⟨?_, ⟨_, World.drewN_drewN _ _ _⟩⟩
  simp [hn]
set_option maxRecDepth 100000 in
set_option maxHeartbeats 1000000 in
theorem c40_none (n : Int) (w : World) (hh : HpIs w b v m q c) (hn : q - m.length < n) (h0 : 0 ≤ n) (hq : 0 ≤ q ∧ q ≤ 1048576) (hcc : 0 ≤ c ∧ c ≤ 1000000000000) :
    Calls Tryd.prog 40 #[.pointer (some ⟨b, 0, none⟩), .int .i64 n, .slice none 0 0] w fun e w' => e = .returned (.bool (decide (n ≤ q))) ∧ ∃ v', HpIs w' b v' [] q (c + 1) ∧ Chg (· = b) w w' ∧ ∀ k, v'.ownBlock = some k → w.heap.size ≤ k := by
  obtain ⟨hq0, hq1⟩ := hq
  have hc0 := hh.cell0
  have hc1 := hh.cell1
  have hsm := hh.small
  have HC := Lib.hid (fun nq => c17_none (w.drewN nq) (hh.drewN nq) hcc)
  obtain ⟨A, cp, hv, -⟩ := hh.opens
  clear hh hcc
  subst hv
  go_enter Tryd.func40, Tryd.ntmps40
  go_wp2
  go_quiet (fail)
  go_wp2_with fail
  refine (HC.out nq).mono ?_
  have HD0 := Lib.hid ((Chg.refl (fun x => x = b) w).drewN nq)
  rintro e w1 ⟨rfl, v', h1, hchg, hnew⟩
  have hd0 := h1.cell0
  have hd1 := h1.cell1
  have hh1 := Lib.hid h1
  obtain ⟨A', cp', hv, -⟩ := h1.opens
  have hchg' := Lib.hid hchg
  have hnew' := Lib.hid hnew
  clear h1 hchg hnew
  subst hv
  go_wp2_with fail
  go_quiet (fail)
  go_wp2
  go_ret
  refine ⟨by simp, _, hh1.out.drewN _, Chg.drewN ?_ _, hnew'.out⟩
  exact HD0.out.then_ hchg'.out (fun k hk => .inl hk)
end
end Go.Proofs.YtbpbhipjpjjcaaaDoor
