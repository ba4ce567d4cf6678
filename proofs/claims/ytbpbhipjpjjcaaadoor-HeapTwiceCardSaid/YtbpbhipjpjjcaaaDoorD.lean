import Derived.Test.YtbpbhipjpjjcaaaDoorC
namespace Go.Proofs.YtbpbhipjpjjcaaaDoor
set_option linter.unusedVariables false
set_option linter.unusedSimpArgs false
open Go.RowKit Go.Proofs.YtbpbhipjpjjcaaaDoorW.PrintWords

theorem quietS {P : Program} {f : FuncId} {args : Array Value} {w : World} {n : Nat} {v : Value}
    (h : Calls P f args (w.drewN n) fun e w' => e = .returned v ∧ w.drewN n = w') : Calls P f args (w.drewN n) fun e w'' => e = .returned v ∧ ∃ m, w'' = w.drewN m :=
  h.mono fun _ _ ⟨he, hm⟩ => ⟨he, n, hm.symm⟩
theorem HpIs.drewN {w : World} {b : Nat} {v : Value} {m : List Int} {q c : Int} (h : HpIs w b v m q c) (n : Nat) : HpIs (w.drewN n) b v m q c := ⟨h.blk, h.row, h.small, h.wd⟩
theorem HpIs.drew {w : World} {b : Nat} {v : Value} {m : List Int} {q c : Int} (h : HpIs w b v m q c) : HpIs w.drew b v m q c := ⟨h.blk, h.row, h.small, h.wd⟩
section
variable {b : Nat} {v : Value} {m : List Int} {q c : Int}
set_option maxHeartbeats 400000 in
theorem c36 (x i : Int) (w : World) (hh : HpIs w b v m q c) (hp : Place m x) (hk : rd m (x / 2) % 256 ≠ 3) (h0 : 0 ≤ i) (h1 : i < rd m (x / 2) / 256) (hin : x / 2 + 1 + i < m.length) :
    Calls Tryd.prog 36 #[.pointer (some ⟨b, 0, none⟩), .int .u64 x, .int .i64 i] w fun e w' => e = .returned (.tuple #[.int .u64 (rd m (x / 2 + 1 + i)), .int .i64 0]) ∧ Drawn0 w w' := by
  have H37 := Lib.hid (c37 x w hh hp)
  have H38 := Lib.hid (c38 x w hh hp)
  obtain ⟨hx0, hx1, hx, hf⟩ := hp
  have H45 := Lib.hid (fun n => c45_in x (w.drewN n) (hh.drewN n) hx0 hx1 hx hf)
  have hc0 := hh.cell0
  have hsm := hh.small
  obtain ⟨A, cp, hv, hr⟩ := hh.opens
  obtain ⟨ad, rfl, hcell⟩ := hr (x / 2 + 1 + i) (by omega) hin
  clear hr hh hx
  subst hv
  have hk' : (rd m (x / 2) % 256 == 3) = false := by simpa using hk
  have hx2 : 0 ≤ x / 2 := by omega
  clear hk
  go_enter Tryd.func36, Tryd.ntmps36
  go_wp2_with (first | (go_at_call 38; refine H38.out.mono ?_; rintro e w' ⟨rfl, rfl⟩) | (go_at_call 37; refine H37.out.mono ?_; rintro e w' ⟨rfl, rfl⟩))
  go_quiet ((go_at_call 45; exact quietS (H45.out _)))
  go_wp2
  go_ret2
  exact ⟨rfl, ⟨_, rfl⟩⟩
theorem HpIs.at_set {w : World} {g n cp : Nat} (hh : HpIs w b (.slice (some ⟨g, 0, none⟩) n cp) m q c) (i : Nat) (y : Int) (hy : 0 ≤ y ∧ y < 18446744073709551616) :
    HpIs (w.setCell ⟨g, i, none⟩ (.int .u64 y)) b (.slice (some ⟨g, 0, none⟩) n cp) (m.set i y) q c := by
  have hn : n = m.length := by
    rcases hh.row.2 with ⟨h, _⟩ | ⟨g', cap, cur, h, _⟩
    · cases h
    · injection h
  subst hn
  refine ⟨?_, ?_, by simpa using hh.small, ?_⟩
  · have hne : b ≠ g := fun e => hh.ne (by simp [Value.ownBlock, e])
    rw [Below.heap_setCell _ _ _ _ hne]
    exact hh.blk
  · have := hh.row.stored i (.int .u64 y)
    simpa [nums, List.map_set] using this.1
  · intro x hx
    rcases List.mem_or_eq_of_mem_set hx with h | h
    · exact hh.wd x h
    · exact h ▸ hy
set_option maxRecDepth 100000 in
set_option maxHeartbeats 400000 in
theorem c32 (x i y : Int) (w : World) (hh : HpIs w b v m q c) (hp : Place m x) (hk : rd m (x / 2) % 256 ≠ 3) (h0 : 0 ≤ i) (h1 : i < rd m (x / 2) / 256) (hin : x / 2 + 1 + i < m.length) (hy : 0 ≤ y ∧ y < 18446744073709551616) :
    Calls Tryd.prog 32 #[.pointer (some ⟨b, 0, none⟩), .int .u64 x, .int .i64 i, .int .u64 y] w fun e w' => e = .returned (.int .i64 0) ∧ HpIs w' b v (m.set (x / 2 + 1 + i).toNat y) q c ∧
      ∃ g, v.ownBlock = some g ∧ w' = w.drew.setCell ⟨g, (x / 2 + 1 + i).toNat, none⟩ (.int .u64 y) := by
  have H37 := Lib.hid (c37 x w hh hp)
  have H38 := Lib.hid (c38 x w hh hp)
  obtain ⟨hx0, hx1, hx, hf⟩ := hp
  have H45 := Lib.hid (c45_in x w.drew hh.drew hx0 hx1 hx hf)
  have hc0 := hh.cell0
  have hsm := hh.small
  obtain ⟨g, cp, hv, -⟩ := hh.row.form (by omega)
  subst hv
  have hfr := hh.row.frozenAt (x / 2 + 1 + i).toNat
  have hcell := hh.row.cellAt (x / 2 + 1 + i).toNat (by omega)
  have hin' : (x / 2 + 1 + i).toNat < (nums .u64 m).length := by rw [nums_length]; omega
  rw [List.getElem?_eq_getElem hin'] at hcell
  have HS := Lib.hid (hh.drew.at_set (x / 2 + 1 + i).toNat y hy)
  clear hh hx
  have hk' : (rd m (x / 2) % 256 == 3) = false := by simpa using hk
  have hx2 : 0 ≤ x / 2 := by omega
  clear hk
  go_enter Tryd.func32, Tryd.ntmps32
  go_wp2_with (first | (go_at_call 38; refine H38.out.mono ?_; rintro e w' ⟨rfl, rfl⟩) | (go_at_call 37; refine H37.out.mono ?_; rintro e w' ⟨rfl, rfl⟩))
  have hS1 : IntKind.i64.wrap (x / 2 + 1) = x / 2 + 1 := IntWalk.i64_in _ (by omega)
  have hS2 : IntKind.i64.wrap (x / 2 + 1 + i) = x / 2 + 1 + i := IntWalk.i64_in _ (by omega)
  have hS3 : 0 ≤ x / 2 + 1 + i := by omega
  refine wp_region_still_tail 12 (by kernel_rfl) (by kernel_rfl) ?_
  simp only [List.take_succ_cons, List.take_zero, List.drop_succ_cons, List.drop_zero]
  change wpStill _ _ w.drew _ _ _
  repeat still_step
  refine wpStill_step (fun K hK => ?_)
  go_simp
  refine ⟨_, H45.out.mono (fun _ _ h => ⟨h.1, h.2.symm⟩), hK _ ?_⟩
  clear hK K
  repeat still_step
  refine wpStill_nil ?_
  change wpList _ _ _ _ _ w.drew
  go_wp2
  go_ret
  refine ⟨rfl, ?_⟩
  exact ⟨HS.out, g, rfl, rfl⟩
set_option maxHeartbeats 400000 in
theorem c36_far (x i : Int) (w : World) (hh : HpIs w b v m q c) (hp : Place m x) (h0 : 0 ≤ i) (h1 : rd m (x / 2) / 256 ≤ i) :
    Calls Tryd.prog 36 #[.pointer (some ⟨b, 0, none⟩), .int .u64 x, .int .i64 i] w fun e w' => e = .returned (.tuple #[.int .u64 0, .int .i64 1]) ∧ w = w' := by
  have H38 := Lib.hid (c38 x w hh hp)
  clear hh hp
  go_enter Tryd.func36, Tryd.ntmps36
  go_wp2_with (go_at_call 38; refine H38.out.mono ?_; rintro e w' ⟨rfl, rfl⟩)
  go_ret2
  exact ⟨rfl, rfl⟩
set_option maxHeartbeats 400000 in
theorem c36_text (x i : Int) (w : World) (hh : HpIs w b v m q c) (hp : Place m x) (hk : rd m (x / 2) % 256 = 3) (h0 : 0 ≤ i) :
    Calls Tryd.prog 36 #[.pointer (some ⟨b, 0, none⟩), .int .u64 x, .int .i64 i] w fun e w' => e = .returned (.tuple #[.int .u64 0, .int .i64 1]) ∧ w = w' := by
  by_cases h1 : rd m (x / 2) / 256 ≤ i
  · exact c36_far x i w hh hp h0 h1
  have H37 := Lib.hid (c37 x w hh hp)
  have H38 := Lib.hid (c38 x w hh hp)
  have hk' : (rd m (x / 2) % 256 == 3) = true := by simpa using hk
  clear hh hp hk
  have h2 : i < rd m (x / 2) / 256 := by omega
  go_enter Tryd.func36, Tryd.ntmps36
  go_wp2_with (first | (go_at_call 38; refine H38.out.mono ?_; rintro e w' ⟨rfl, rfl⟩) | (go_at_call 37; refine H37.out.mono ?_; rintro e w' ⟨rfl, rfl⟩))
  go_ret2
  exact ⟨rfl, rfl⟩
set_option maxHeartbeats 400000 in
theorem c32_far (x i y : Int) (w : World) (hh : HpIs w b v m q c) (hp : Place m x) (h0 : 0 ≤ i) (h1 : rd m (x / 2) / 256 ≤ i) :
    Calls Tryd.prog 32 #[.pointer (some ⟨b, 0, none⟩), .int .u64 x, .int .i64 i, .int .u64 y] w fun e w' => e = .returned (.int .i64 1) ∧ w = w' := by
  have H38 := Lib.hid (c38 x w hh hp)
  clear hh hp
  go_enter Tryd.func32, Tryd.ntmps32
  go_wp2_with (go_at_call 38; refine H38.out.mono ?_; rintro e w' ⟨rfl, rfl⟩)
  go_ret
  exact ⟨rfl, rfl⟩
set_option maxHeartbeats 400000 in
theorem c32_text (x i y : Int) (w : World) (hh : HpIs w b v m q c) (hp : Place m x) (hk : rd m (x / 2) % 256 = 3) (h0 : 0 ≤ i) :
    Calls Tryd.prog 32 #[.pointer (some ⟨b, 0, none⟩), .int .u64 x, .int .i64 i, .int .u64 y] w fun e w' => e = .returned (.int .i64 1) ∧ w = w' := by
  by_cases h1 : rd m (x / 2) / 256 ≤ i
  · exact c32_far x i y w hh hp h0 h1
  have H37 := Lib.hid (c37 x w hh hp)
  have H38 := Lib.hid (c38 x w hh hp)
  have hk' : (rd m (x / 2) % 256 == 3) = true := by simpa using hk
  clear hh hp hk
  have h2 : i < rd m (x / 2) / 256 := by omega
  go_enter Tryd.func32, Tryd.ntmps32
  go_wp2_with (first | (go_at_call 38; refine H38.out.mono ?_; rintro e w' ⟨rfl, rfl⟩) | (go_at_call 37; refine H37.out.mono ?_; rintro e w' ⟨rfl, rfl⟩))
  go_ret
  exact ⟨rfl, rfl⟩
set_option maxHeartbeats 400000 in
theorem c36_odd (x i : Int) (w : World) (h0 : 0 ≤ x) (h1 : x < 18446744073709551616) (hx : x % 2 = 1) (hi : 0 ≤ i) :
    Calls Tryd.prog 36 #[.pointer (some ⟨b, 0, none⟩), .int .u64 x, .int .i64 i] w fun e w' => e = .returned (.tuple #[.int .u64 0, .int .i64 1]) ∧ w = w' := by
  have H45 := Lib.hid (c45_odd (b := b) x w h0 h1 hx)
  clear hx
  have H38 : Hid (Calls Tryd.prog 38 #[.pointer (some ⟨b, 0, none⟩), .int .u64 x] w fun e w' => e = .returned (.int .i64 0) ∧ w = w') := by
    go_enter Tryd.func38, Tryd.ntmps38
    go_wp2_with (go_at_call 45; refine H45.out.mono ?_; rintro e w' ⟨rfl, rfl⟩)
    go_ret
    exact ⟨rfl, rfl⟩
  clear H45
  go_enter Tryd.func36, Tryd.ntmps36
  go_wp2_with (go_at_call 38; refine H38.out.mono ?_; rintro e w' ⟨rfl, rfl⟩)
  go_ret2
  exact ⟨rfl, rfl⟩
end
end Go.Proofs.YtbpbhipjpjjcaaaDoor
