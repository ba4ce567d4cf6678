-- PRINTED BY print.sh 35421559b90ae4d0a3588c463048766b98c2df88dd9212a6774a882060cdf62d: not written by this session
import Derived.Test.YtbpbhipjpjjcaaaDoorPHeapTwicex0
namespace Go.Proofs.YtbpbhipjpjjcaaaDoor.PHeapTwice
open Go.RowKit Go.Proofs.YtbpbhipjpjjcaaaDoorW.PrintWords Go.Proofs.YtbpbhipjpjjcaaaDoorW.PrintLast Go.Proofs.YtbpbhipjpjjcaaaDoorW.PrintMore
attribute [local go_sem] max2_int min2_int max_two min_two max_three min_three max_four min_four   -- for this text's walks alone
set_option linter.unusedVariables false
set_option linter.unusedSimpArgs false

/-! ### battledoreref09_At: function 24 -/
mutual
def battledoreref09_At.j0 : Nat → List Int → Int → Bool → Option (Int × List Int × ByteArray × Int)
  | 0, _, _, _ => none
  | k + 1, x0, x1, x20 => if x20 = true then (some (0, ([] : List Int), (⟨#[]⟩ : ByteArray), 0)) else (if 0 ≤ x1 then (if x1 < (x0.length : Int) then (if ((Int.tmod (rd x0 x1) 256) % 256) < 1 then (battledoreref09_At.j1 k x0 x1 ((Int.tmod (rd x0 x1) 256) % 256) (IntKind.u64.wrap (Int.tdiv (rd x0 x1) 256)) true) else (if ((Int.tmod (rd x0 x1) 256) % 256) > 6 then (battledoreref09_At.j1 k x0 x1 ((Int.tmod (rd x0 x1) 256) % 256) (IntKind.u64.wrap (Int.tdiv (rd x0 x1) 256)) true) else (battledoreref09_At.j1 k x0 x1 ((Int.tmod (rd x0 x1) 256) % 256) (IntKind.u64.wrap (Int.tdiv (rd x0 x1) 256)) (decide ((IntKind.u64.wrap (Int.tdiv (rd x0 x1) 256)) > (IntKind.u64.wrap (wrap64 (8 * (x0.length : Int))))))))) else (none)) else (none))
def battledoreref09_At.j1 : Nat → List Int → Int → Int → Int → Bool → Option (Int × List Int × ByteArray × Int)
  | 0, _, _, _, _, _ => none
  | k + 1, x0, x1, x6, x7, x46 => if x46 = true then (some (0, ([] : List Int), (⟨#[]⟩ : ByteArray), 0)) else (if x6 = 3 then (battledoreref09_At.j2 k x0 x1 x6 x7 (wrap64 (Int.tdiv (wrap64 ((wrap64 (x7)) + 7)) 8)) x6 (⟨#[]⟩ : ByteArray)) else (battledoreref09_At.j2 k x0 x1 x6 x7 (wrap64 (x7)) x6 (⟨#[]⟩ : ByteArray)))
def battledoreref09_At.j2 : Nat → List Int → Int → Int → Int → Int → Int → ByteArray → Option (Int × List Int × ByteArray × Int)
  | 0, _, _, _, _, _, _, _ => none
  | k + 1, x0, x1, x6, x7, x9, x117000, x117002 => if x9 > (wrap64 ((wrap64 ((x0.length : Int) - x1)) - 1)) then (some (0, ([] : List Int), (⟨#[]⟩ : ByteArray), 0)) else (battledoreref09_At.l0 k x0 x1 x6 x7 x9 0 x117000 ([] : List Int) x117002)
def battledoreref09_At.l0 : Nat → List Int → Int → Int → Int → Int → Int → Int → List Int → ByteArray → Option (Int × List Int × ByteArray × Int)
  | 0, _, _, _, _, _, _, _, _, _ => none
  | k + 1, x0, x1, x6, x7, x9, x10, x117000, x117001, x117002 => if x10 < x9 then (if 0 ≤ (wrap64 ((wrap64 (x1 + 1)) + x10)) then (if (wrap64 ((wrap64 (x1 + 1)) + x10)) < (x0.length : Int) then (if x6 = 3 then (battledoreref09_At.l1 k x0 x1 x6 x7 x9 x10 (rd x0 (wrap64 ((wrap64 (x1 + 1)) + x10))) 0 x117000 x117001 x117002) else (if x117001.length < 17592186044416 then (battledoreref09_At.l0 k x0 x1 x6 x7 x9 (wrap64 (x10 + 1)) x117000 (x117001 ++ [rd x0 (wrap64 ((wrap64 (x1 + 1)) + x10))]) x117002) else (none))) else (none)) else (none)) else (some (x117000, x117001, x117002, wrap64 (1 + x9)))
def battledoreref09_At.l1 : Nat → List Int → Int → Int → Int → Int → Int → Int → Int → Int → List Int → ByteArray → Option (Int × List Int × ByteArray × Int)
  | 0, _, _, _, _, _, _, _, _, _, _, _ => none
  | k + 1, x0, x1, x6, x7, x9, x10, x11, x12, x117000, x117001, x117002 => if x12 < 8 then (if (x117002.size : Int) < (wrap64 (x7)) then ((some (([(Int.tmod x11 256) % 256] : List Int) : List Int)).bind fun y121 => (if x117002.size + (strOfNums y121).size ≤ 9223372036854775807 then (battledoreref09_At.l1 k x0 x1 x6 x7 x9 x10 (IntKind.u64.wrap (Int.tdiv x11 256)) (wrap64 (x12 + 1)) x117000 x117001 (x117002 ++ (strOfNums y121))) else (none))) else (battledoreref09_At.l0 k x0 x1 x6 x7 x9 (wrap64 (x10 + 1)) x117000 x117001 x117002)) else (battledoreref09_At.l0 k x0 x1 x6 x7 x9 (wrap64 (x10 + 1)) x117000 x117001 x117002)
end
def battledoreref09_At.f (k : Nat) (l0 : List Int) (a1 : Int) : Option (Int × List Int × ByteArray × Int) := if a1 < 0 then (battledoreref09_At.j0 k l0 a1 true) else (battledoreref09_At.j0 k l0 a1 (decide (a1 ≥ (l0.length : Int))))
theorem battledoreref09_At.mono_l : ∀ k, (∀ y0 y1 y2, LeO (battledoreref09_At.j0 k y0 y1 y2) (battledoreref09_At.j0 (k + 1) y0 y1 y2)) ∧ (∀ y0 y1 y2 y3 y4, LeO (battledoreref09_At.j1 k y0 y1 y2 y3 y4) (battledoreref09_At.j1 (k + 1) y0 y1 y2 y3 y4)) ∧ (∀ y0 y1 y2 y3 y4 y5 y6, LeO (battledoreref09_At.j2 k y0 y1 y2 y3 y4 y5 y6) (battledoreref09_At.j2 (k + 1) y0 y1 y2 y3 y4 y5 y6)) ∧ (∀ y0 y1 y2 y3 y4 y5 y6 y7 y8, LeO (battledoreref09_At.l0 k y0 y1 y2 y3 y4 y5 y6 y7 y8) (battledoreref09_At.l0 (k + 1) y0 y1 y2 y3 y4 y5 y6 y7 y8)) ∧ (∀ y0 y1 y2 y3 y4 y5 y6 y7 y8 y9 y10, LeO (battledoreref09_At.l1 k y0 y1 y2 y3 y4 y5 y6 y7 y8 y9 y10) (battledoreref09_At.l1 (k + 1) y0 y1 y2 y3 y4 y5 y6 y7 y8 y9 y10))
  | 0 => ⟨fun _ _ _ r h => by simp [battledoreref09_At.j0] at h, fun _ _ _ _ _ r h => by simp [battledoreref09_At.j1] at h, fun _ _ _ _ _ _ _ r h => by simp [battledoreref09_At.j2] at h, fun _ _ _ _ _ _ _ _ _ r h => by simp [battledoreref09_At.l0] at h, fun _ _ _ _ _ _ _ _ _ _ _ r h => by simp [battledoreref09_At.l1] at h⟩
  | k + 1 => by
    obtain ⟨ih0, ih1, ih2, ih3, ih4⟩ := battledoreref09_At.mono_l k
    refine ⟨?_, ?_, ?_, ?_, ?_⟩
    · intro y0 y1 y2
      unfold battledoreref09_At.j0
      repeat' first
      | (with_reducible exact ih0 _ _ _)
      | (with_reducible exact ih1 _ _ _ _ _)
      | (with_reducible exact ih2 _ _ _ _ _ _ _)
      | (with_reducible exact ih3 _ _ _ _ _ _ _ _ _)
      | (with_reducible exact ih4 _ _ _ _ _ _ _ _ _ _ _)
      | (with_reducible exact LeO.refl _)
      | (with_reducible exact LeO.none _)
      | (with_reducible refine LeO.ite ?_ ?_)
      | (with_reducible refine LeO.bind ?_ (fun _ => ?_))
      | exact ih0 _ _ _
      | exact ih1 _ _ _ _ _
      | exact ih2 _ _ _ _ _ _ _
      | exact ih3 _ _ _ _ _ _ _ _ _
      | exact ih4 _ _ _ _ _ _ _ _ _ _ _
      | exact LeO.none _
      | refine LeO.ite ?_ ?_
      | refine LeO.bind ?_ (fun _ => ?_)
    · intro y0 y1 y2 y3 y4
      unfold battledoreref09_At.j1
      repeat' first
      | (with_reducible exact ih0 _ _ _)
      | (with_reducible exact ih1 _ _ _ _ _)
      | (with_reducible exact ih2 _ _ _ _ _ _ _)
      | (with_reducible exact ih3 _ _ _ _ _ _ _ _ _)
      | (with_reducible exact ih4 _ _ _ _ _ _ _ _ _ _ _)
      | (with_reducible exact LeO.refl _)
      | (with_reducible exact LeO.none _)
      | (with_reducible refine LeO.ite ?_ ?_)
      | (with_reducible refine LeO.bind ?_ (fun _ => ?_))
      | exact ih0 _ _ _
      | exact ih1 _ _ _ _ _
      | exact ih2 _ _ _ _ _ _ _
      | exact ih3 _ _ _ _ _ _ _ _ _
      | exact ih4 _ _ _ _ _ _ _ _ _ _ _
      | exact LeO.none _
      | refine LeO.ite ?_ ?_
      | refine LeO.bind ?_ (fun _ => ?_)
    · intro y0 y1 y2 y3 y4 y5 y6
      unfold battledoreref09_At.j2
      repeat' first
      | (with_reducible exact ih0 _ _ _)
      | (with_reducible exact ih1 _ _ _ _ _)
      | (with_reducible exact ih2 _ _ _ _ _ _ _)
      | (with_reducible exact ih3 _ _ _ _ _ _ _ _ _)
      | (with_reducible exact ih4 _ _ _ _ _ _ _ _ _ _ _)
      | (with_reducible exact LeO.refl _)
      | (with_reducible exact LeO.none _)
      | (with_reducible refine LeO.ite ?_ ?_)
      | (with_reducible refine LeO.bind ?_ (fun _ => ?_))
      | exact ih0 _ _ _
      | exact ih1 _ _ _ _ _
      | exact ih2 _ _ _ _ _ _ _
      | exact ih3 _ _ _ _ _ _ _ _ _
      | exact ih4 _ _ _ _ _ _ _ _ _ _ _
      | exact LeO.none _
      | refine LeO.ite ?_ ?_
      | refine LeO.bind ?_ (fun _ => ?_)
    · intro y0 y1 y2 y3 y4 y5 y6 y7 y8
      unfold battledoreref09_At.l0
      repeat' first
      | (with_reducible exact ih0 _ _ _)
      | (with_reducible exact ih1 _ _ _ _ _)
      | (with_reducible exact ih2 _ _ _ _ _ _ _)
      | (with_reducible exact ih3 _ _ _ _ _ _ _ _ _)
      | (with_reducible exact ih4 _ _ _ _ _ _ _ _ _ _ _)
      | (with_reducible exact LeO.refl _)
      | (with_reducible exact LeO.none _)
      | (with_reducible refine LeO.ite ?_ ?_)
      | (with_reducible refine LeO.bind ?_ (fun _ => ?_))
      | exact ih0 _ _ _
      | exact ih1 _ _ _ _ _
      | exact ih2 _ _ _ _ _ _ _
      | exact ih3 _ _ _ _ _ _ _ _ _
      | exact ih4 _ _ _ _ _ _ _ _ _ _ _
      | exact LeO.none _
      | refine LeO.ite ?_ ?_
      | refine LeO.bind ?_ (fun _ => ?_)
    · intro y0 y1 y2 y3 y4 y5 y6 y7 y8 y9 y10
      unfold battledoreref09_At.l1
      repeat' first
      | (with_reducible exact ih0 _ _ _)
      | (with_reducible exact ih1 _ _ _ _ _)
      | (with_reducible exact ih2 _ _ _ _ _ _ _)
      | (with_reducible exact ih3 _ _ _ _ _ _ _ _ _)
      | (with_reducible exact ih4 _ _ _ _ _ _ _ _ _ _ _)
      | (with_reducible exact LeO.refl _)
      | (with_reducible exact LeO.none _)
      | (with_reducible refine LeO.ite ?_ ?_)
      | (with_reducible refine LeO.bind ?_ (fun _ => ?_))
      | exact ih0 _ _ _
      | exact ih1 _ _ _ _ _
      | exact ih2 _ _ _ _ _ _ _
      | exact ih3 _ _ _ _ _ _ _ _ _
      | exact ih4 _ _ _ _ _ _ _ _ _ _ _
      | exact LeO.none _
      | refine LeO.ite ?_ ?_
      | refine LeO.bind ?_ (fun _ => ?_)
theorem battledoreref09_At.mono : ∀ a0 a1 k, LeO (battledoreref09_At.f k a0 a1) (battledoreref09_At.f (k + 1) a0 a1) := by
  intro a0 a1 k
  obtain ⟨ih0, ih1, ih2, ih3, ih4⟩ := battledoreref09_At.mono_l k
  unfold battledoreref09_At.f
  repeat' first
      | (with_reducible exact ih0 _ _ _)
      | (with_reducible exact ih1 _ _ _ _ _)
      | (with_reducible exact ih2 _ _ _ _ _ _ _)
      | (with_reducible exact ih3 _ _ _ _ _ _ _ _ _)
      | (with_reducible exact ih4 _ _ _ _ _ _ _ _ _ _ _)
      | (with_reducible exact LeO.refl _)
      | (with_reducible exact LeO.none _)
      | (with_reducible refine LeO.ite ?_ ?_)
      | (with_reducible refine LeO.bind ?_ (fun _ => ?_))
      | exact ih0 _ _ _
      | exact ih1 _ _ _ _ _
      | exact ih2 _ _ _ _ _ _ _
      | exact ih3 _ _ _ _ _ _ _ _ _
      | exact ih4 _ _ _ _ _ _ _ _ _ _ _
      | exact LeO.none _
      | refine LeO.ite ?_ ?_
      | refine LeO.bind ?_ (fun _ => ?_)
set_option maxHeartbeats 8000000 in
set_option maxRecDepth 100000 in
theorem battledoreref09_At.calls (k : Nat) (A0 : Option Addr) (c0 : Nat) (l0 : List Int) (a1 : Int) (r1 : Int) (r2 : List Int) (r3 : ByteArray) (r4 : Int) (w : World) (hr0 : Kd.C (Kd.int .u64) w A0 l0.length l0) (hc0 : l0.length ≤ c0) (h : battledoreref09_At.f k l0 a1 = some (r1, r2, r3, r4)) :
    Calls Tryd.prog 24 #[.slice A0 l0.length c0, .int .i64 a1] w fun e w' => ∃ v1_ : Value, e = .returned (.tuple #[.agg #[.int .u8 r1, v1_, .string r3], .int .i64 r4]) ∧ Kd.R (Kd.int .u64) 22 w' w.heap.size (fun _ => True) v1_ r2 ∧ Below w.heap.size w w' := by
  have hu50 := Tryd.underlying50
  have HR0 := Aside0.mk hr0
  have HC0 := Aside0.mk hc0
  clear hr0 hc0
  have HB := Aside0.mk (Below.refl w.heap.size w)
  have H : (if a1 < 0 then (battledoreref09_At.j0 k l0 a1 true) else (battledoreref09_At.j0 k l0 a1 (decide (a1 ≥ (l0.length : Int))))) = some (r1, r2, r3, r4) := h
  clear h
  have HC3 := Aside0.mk H
  clear H
  go_enter Tryd.func24, Tryd.ntmps24
  go_upto_region 1 with (first | ((with_reducible refine gate_dst (N := 4) rfl ?_); (try (refine gate_guard (by rfl) ?_; dsimp only)); refine box_event ?hg (N := 4) ?hd (cs := #[.int .u8 0, .slice none 0 0, .string (⟨#[]⟩ : ByteArray)]) (t := 50) ?hr ?_; (case hd => rfl); (case hg => rfl); (case hr => first | (go_simp; done) | (go_simp; rfl)); intro gb113 hg w4 hbox hb; have n0_ := Aside0.mk (below_step (by repeat (first | (with_reducible first | exact HB.out | apply below_alloc | apply pw_below_drewN | apply below_drew1) | exact HB.out)) hb); have n1_ := Aside0.mk (hbox); have n2_ := Aside0.mk ((by rw [hg]; exact (below_size (by repeat (first | (with_reducible first | exact HB.out | apply below_alloc | apply pw_below_drewN | apply below_drew1) | exact HB.out))) : w.heap.size ≤ gb113)); have n3_ := Aside0.mk ((by rw [hg]; exact (below_size (by repeat (first | (with_reducible first | exact HB.out | apply below_alloc | apply pw_below_drewN | apply below_drew1) | exact HB.out))) : w.heap.size ≤ gb113)); clear HB; have HB := n0_; have BK113 := n1_; have GW113 := n2_; have GE113 := n3_; clear n0_ n1_ n2_ n3_; clear hb hbox hg))
  (try simp only [Act.put, List.setIfInBounds_toArray, List.set_cons_zero, List.set_cons_succ])
  go_cut [20] (fun v20 wc => ∃ (kq : Nat) (x20_2 : Bool), v20 = .bool x20_2 ∧ Aside0 (battledoreref09_At.j0 kq l0 a1 x20_2 = some (r1, r2, r3, r4)) ∧ Aside0 (kq ≤ k) ∧ Aside0 (wc.heap[gb113]? = some (.cells #[.int .u8 0, (.slice none 0 0), .string (⟨#[]⟩ : ByteArray)] 50 (0, 0))) ∧ Aside0 (Below w.heap.size w wc))
  case first =>
    have H := HC3.out
    clear HC3
    by_cases c5 : a1 < 0
    · rw [if_pos c5] at H
      have c5b0 : decide (a1 < 0) = true := decide_eq_true c5
      clear c5
      (first | rw [c5b0] | (simp only [i64_w, i32_w]; rw [c5b0]) | skip)
      have H' := Aside0.mk H
      clear H
      go_wp2
      go_meet
      case rel => exact ⟨_, (true), (by first | rfl | (simp; done) | (simp [*]; done)), H', ⟨by first | omega | exact Nat.le_refl _⟩, ⟨by (with_reducible repeat (first | refine blk_drewN ?_ _ | refine blk_drew ?_ | refine blk_alloc ?_ _)); exact BK113.out⟩, ⟨by repeat (first | (with_reducible first | exact HB.out | apply below_alloc | apply pw_below_drewN | apply below_drew1 | refine below_set ?_ GE113.out) | exact HB.out)⟩⟩
    · rw [if_neg c5] at H
      have c5b0 : decide (a1 < 0) = false := decide_eq_false c5
      clear c5
      (first | rw [c5b0] | (simp only [i64_w, i32_w]; rw [c5b0]) | skip)
      have H' := Aside0.mk H
      clear H
      go_wp2
      go_meet
      case rel => exact ⟨_, (decide (a1 ≥ (l0.length : Int))), (by first | rfl | (simp; done) | (simp [*]; done)), H', ⟨by first | omega | exact Nat.le_refl _⟩, ⟨by (with_reducible repeat (first | refine blk_drewN ?_ _ | refine blk_drew ?_ | refine blk_alloc ?_ _)); exact BK113.out⟩, ⟨by repeat (first | (with_reducible first | exact HB.out | apply below_alloc | apply pw_below_drewN | apply below_drew1 | refine below_set ?_ GE113.out) | exact HB.out)⟩⟩
  case rest =>
    clear HC3
    try clear c2
    try clear p2
    try clear c5
    try clear c5b0
    obtain ⟨kq, x20_2, rfl, HA, HJ2, BK113, HB⟩ := hcut
    cases kq with
    | zero => exact absurd HA.out (by simp [battledoreref09_At.j0])
    | succ kj2 =>
      have H := HA.out
      clear HA
      simp only [battledoreref09_At.j0] at H
      by_cases c6 : x20_2 = true
      · subst c6
        have H1 : (some (0, ([] : List Int), (⟨#[]⟩ : ByteArray), 0)) = some (r1, r2, r3, r4) := by rw [if_pos rfl] at H; exact H
        clear H
        have H := H1
        clear H1
        simp only [Option.some.injEq, Prod.mk.injEq] at H
        obtain ⟨rfl, rfl, rfl, rfl⟩ := H
        have hcz7_0 : wc.cell? ⟨gb113, 0, none⟩ = some (.int .u8 0) := (blk_cell BK113.out 0).trans rfl
        have hcz7_1 : wc.cell? ⟨gb113, 1, none⟩ = some (.slice none 0 0) := (blk_cell BK113.out 1).trans rfl
        have hcz7_2 : wc.cell? ⟨gb113, 2, none⟩ = some (.string (⟨#[]⟩ : ByteArray)) := (blk_cell BK113.out 2).trans rfl
        have hfz7_0 := blk_frozen BK113.out 0
        have hfz7_1 := blk_frozen BK113.out 1
        have hfz7_2 := blk_frozen BK113.out 2
        go_wp2
        refine bodyPost_ret (results_ct rfl _ _ gb113 50 #[.int .u8 0, .slice none 0 0, .string (⟨#[]⟩ : ByteArray)] (0, 0) _ rfl (by (with_reducible repeat (first | refine blk_drewN ?_ _ | refine blk_drew ?_ | refine blk_alloc ?_ _)); refine blk_put (cs := #[.int .u8 0, .slice none 0 0, .string (⟨#[]⟩ : ByteArray)]) ?_ 2 _ rfl; (with_reducible repeat (first | refine blk_drewN ?_ _ | refine blk_drew ?_ | refine blk_alloc ?_ _)); refine blk_put (cs := #[.int .u8 0, .slice none 0 0, .string (⟨#[]⟩ : ByteArray)]) ?_ 1 _ rfl; (with_reducible repeat (first | refine blk_drewN ?_ _ | refine blk_drew ?_ | refine blk_alloc ?_ _)); refine blk_put (cs := #[.int .u8 0, .slice none 0 0, .string (⟨#[]⟩ : ByteArray)]) ?_ 0 _ rfl; (with_reducible repeat (first | refine blk_drewN ?_ _ | refine blk_drew ?_ | refine blk_alloc ?_ _)); exact BK113.out) Tryd.underlying50 rfl (by kernel_rfl)) rfl ?_
        exact ⟨_, by first | rfl | (simp [errW_none, errW_some] <;> rfl) | (simp [*, errW_none, errW_some] <;> rfl), by first | exact Kd.R_nil _ _ _ _ _ | exact Kd.N_nil _ _ _ _ _ | exact Kd.V_nil _ _ _ _ _ | exact Kd.Q_nil _ _ _ _ _ | exact Kd.S_nil _ _ _ _ _, by repeat (first | (with_reducible first | exact HB.out | apply below_alloc | apply pw_below_drewN | apply below_drew1 | refine below_set ?_ GE113.out) | exact HB.out)⟩
      · replace c6 := Bool.eq_false_iff.mpr c6
        subst c6
        have H1 : (if 0 ≤ a1 then (if a1 < (l0.length : Int) then (if ((Int.tmod (rd l0 a1) 256) % 256) < 1 then (battledoreref09_At.j1 kj2 l0 a1 ((Int.tmod (rd l0 a1) 256) % 256) (IntKind.u64.wrap (Int.tdiv (rd l0 a1) 256)) true) else (if ((Int.tmod (rd l0 a1) 256) % 256) > 6 then (battledoreref09_At.j1 kj2 l0 a1 ((Int.tmod (rd l0 a1) 256) % 256) (IntKind.u64.wrap (Int.tdiv (rd l0 a1) 256)) true) else (battledoreref09_At.j1 kj2 l0 a1 ((Int.tmod (rd l0 a1) 256) % 256) (IntKind.u64.wrap (Int.tdiv (rd l0 a1) 256)) (decide ((IntKind.u64.wrap (Int.tdiv (rd l0 a1) 256)) > (IntKind.u64.wrap (wrap64 (8 * (l0.length : Int))))))))) else (none)) else (none)) = some (r1, r2, r3, r4) := by rw [if_neg (show ¬ (false = true) by decide)] at H; exact H
        clear H
        have H := H1
        clear H1
        by_cases c8 : 0 ≤ a1
        · rw [if_pos c8] at H
          have c8b0 : decide (0 ≤ a1) = true := decide_eq_true c8
          clear c8
          by_cases c9 : a1 < (l0.length : Int)
          · rw [if_pos c9] at H
            have c9b0 : decide (a1 < (l0.length : Int)) = true := decide_eq_true c9
            clear c9
            have HC10 := Aside0.mk H
            clear H
            have p114 : 0 ≤ (a1 : Int) := of_decide_eq_true (by first | (with_reducible assumption) | assumption)
            have q114 : a1 < (l0.length : Int) := of_decide_eq_true (by first | (with_reducible assumption) | assumption)
            obtain ⟨ad114, e114, hx114_0⟩ := Kd.at_int HR0.out a1 p114 q114
            cases e114
            replace hx114_0 := (HB.out.cell (World.block_lt_of_cell? w _ hx114_0)).trans hx114_0
            replace p114 := eq_true p114
            replace q114 := eq_true q114
            have p115 : 0 ≤ (a1 : Int) := of_decide_eq_true (by first | (with_reducible assumption) | assumption)
            have q115 : a1 < (l0.length : Int) := of_decide_eq_true (by first | (with_reducible assumption) | assumption)
            obtain ⟨ad115, e115, hx115_0⟩ := Kd.at_int HR0.out a1 p115 q115
            obtain rfl : ad114 = ad115 := (by injection e115)
            replace hx115_0 := (HB.out.cell (World.block_lt_of_cell? w _ hx115_0)).trans hx115_0
            replace p115 := eq_true p115
            replace q115 := eq_true q115
            go_upto_region 5 with (fail)
            go_cut [46] (fun v46 wc => ∃ (kq : Nat) (x46_9 : Bool), v46 = .bool x46_9 ∧ Aside0 (battledoreref09_At.j1 kq l0 a1 ((Int.tmod (rd l0 a1) 256) % 256) (IntKind.u64.wrap (Int.tdiv (rd l0 a1) 256)) x46_9 = some (r1, r2, r3, r4)) ∧ Aside0 (kq ≤ kj2) ∧ Aside0 (wc.heap[gb113]? = some (.cells #[.int .u8 0, (.slice none 0 0), .string (⟨#[]⟩ : ByteArray)] 50 (0, 0))) ∧ Aside0 (Below w.heap.size w wc))
            case first =>
              have H := HC10.out
              clear HC10
              by_cases c11 : ((Int.tmod (rd l0 a1) 256) % 256) < 1
              · rw [if_pos c11] at H
                have c11b0 : decide (((Int.tmod (rd l0 a1) 256) % 256) < 1) = true := decide_eq_true c11
                clear c11
                (first | rw [c11b0] | (simp only [i64_w, i32_w]; rw [c11b0]) | skip)
                have H' := Aside0.mk H
                clear H
                go_wp2
                go_meet
                case rel => exact ⟨_, (true), (by first | rfl | (simp; done) | (simp [*]; done)), H', ⟨by have := HJ2.out; first | omega | exact Nat.le_refl _⟩, ⟨by (with_reducible repeat (first | refine blk_drewN ?_ _ | refine blk_drew ?_ | refine blk_alloc ?_ _)); exact BK113.out⟩, ⟨by repeat (first | (with_reducible first | exact HB.out | apply below_alloc | apply pw_below_drewN | apply below_drew1 | refine below_set ?_ GE113.out) | exact HB.out)⟩⟩
              · rw [if_neg c11] at H
                have c11b0 : decide (((Int.tmod (rd l0 a1) 256) % 256) < 1) = false := decide_eq_false c11
                clear c11
                (first | rw [c11b0] | (simp only [i64_w, i32_w]; rw [c11b0]) | skip)
                by_cases c12 : ((Int.tmod (rd l0 a1) 256) % 256) > 6
                · rw [if_pos c12] at H
                  have c12b0 : decide (6 < ((Int.tmod (rd l0 a1) 256) % 256)) = true := decide_eq_true c12
                  clear c12
                  have H' := Aside0.mk H
                  clear H
                  go_wp2
                  go_meet
                  case rel => exact ⟨_, (true), (by first | rfl | (simp; done) | (simp [*]; done)), H', ⟨by have := HJ2.out; first | omega | exact Nat.le_refl _⟩, ⟨by (with_reducible repeat (first | refine blk_drewN ?_ _ | refine blk_drew ?_ | refine blk_alloc ?_ _)); exact BK113.out⟩, ⟨by repeat (first | (with_reducible first | exact HB.out | apply below_alloc | apply pw_below_drewN | apply below_drew1 | refine below_set ?_ GE113.out) | exact HB.out)⟩⟩
                · rw [if_neg c12] at H
                  have c12b0 : decide (6 < ((Int.tmod (rd l0 a1) 256) % 256)) = false := decide_eq_false c12
                  clear c12
                  have H' := Aside0.mk H
                  clear H
                  go_wp2
                  go_meet
                  case rel => exact ⟨_, (decide ((IntKind.u64.wrap (Int.tdiv (rd l0 a1) 256)) > (IntKind.u64.wrap (wrap64 (8 * (l0.length : Int)))))), (by first | rfl | (simp; done) | (simp [*]; done)), H', ⟨by have := HJ2.out; first | omega | exact Nat.le_refl _⟩, ⟨by (with_reducible repeat (first | refine blk_drewN ?_ _ | refine blk_drew ?_ | refine blk_alloc ?_ _)); exact BK113.out⟩, ⟨by repeat (first | (with_reducible first | exact HB.out | apply below_alloc | apply pw_below_drewN | apply below_drew1 | refine below_set ?_ GE113.out) | exact HB.out)⟩⟩
            case rest =>
              clear HC10
              try clear c1
              try clear p1
              try clear q1
              try clear hx1
              try clear c2
              try clear p2
              try clear c5
              try clear c5b0
              try clear c6
              try clear p6
              try clear c8
              try clear c8b0
              try clear c9
              try clear c9b0
              try clear c11
              try clear c11b0
              try clear p11
              try clear q11
              try clear hx11
              try clear c12
              try clear c12b0
              try clear hcz7_0
              try clear hcz7_1
              try clear hcz7_2
              try clear hfz7_0
              try clear hfz7_1
              try clear hfz7_2
              try clear hx114_0
              try clear hx115_0
              try clear p114
              try clear p115
              try clear p2
              try clear q114
              try clear q115
              obtain ⟨kq, x46_9, rfl, HA, HJ9, BK113, HB⟩ := hcut
              cases kq with
              | zero => exact absurd HA.out (by simp [battledoreref09_At.j1])
              | succ kj9 =>
                have H := HA.out
                clear HA
                simp only [battledoreref09_At.j1] at H
                by_cases c13 : x46_9 = true
                · subst c13
                  have H1 : (some (0, ([] : List Int), (⟨#[]⟩ : ByteArray), 0)) = some (r1, r2, r3, r4) := by rw [if_pos rfl] at H; exact H
                  clear H
                  have H := H1
                  clear H1
                  simp only [Option.some.injEq, Prod.mk.injEq] at H
                  obtain ⟨rfl, rfl, rfl, rfl⟩ := H
                  have hcz14_0 : wc.cell? ⟨gb113, 0, none⟩ = some (.int .u8 0) := (blk_cell BK113.out 0).trans rfl
                  have hcz14_1 : wc.cell? ⟨gb113, 1, none⟩ = some (.slice none 0 0) := (blk_cell BK113.out 1).trans rfl
                  have hcz14_2 : wc.cell? ⟨gb113, 2, none⟩ = some (.string (⟨#[]⟩ : ByteArray)) := (blk_cell BK113.out 2).trans rfl
                  have hfz14_0 := blk_frozen BK113.out 0
                  have hfz14_1 := blk_frozen BK113.out 1
                  have hfz14_2 := blk_frozen BK113.out 2
                  go_wp2
                  refine bodyPost_ret (results_ct rfl _ _ gb113 50 #[.int .u8 0, .slice none 0 0, .string (⟨#[]⟩ : ByteArray)] (0, 0) _ rfl (by (with_reducible repeat (first | refine blk_drewN ?_ _ | refine blk_drew ?_ | refine blk_alloc ?_ _)); refine blk_put (cs := #[.int .u8 0, .slice none 0 0, .string (⟨#[]⟩ : ByteArray)]) ?_ 2 _ rfl; (with_reducible repeat (first | refine blk_drewN ?_ _ | refine blk_drew ?_ | refine blk_alloc ?_ _)); refine blk_put (cs := #[.int .u8 0, .slice none 0 0, .string (⟨#[]⟩ : ByteArray)]) ?_ 1 _ rfl; (with_reducible repeat (first | refine blk_drewN ?_ _ | refine blk_drew ?_ | refine blk_alloc ?_ _)); refine blk_put (cs := #[.int .u8 0, .slice none 0 0, .string (⟨#[]⟩ : ByteArray)]) ?_ 0 _ rfl; (with_reducible repeat (first | refine blk_drewN ?_ _ | refine blk_drew ?_ | refine blk_alloc ?_ _)); exact BK113.out) Tryd.underlying50 rfl (by kernel_rfl)) rfl ?_
                  exact ⟨_, by first | rfl | (simp [errW_none, errW_some] <;> rfl) | (simp [*, errW_none, errW_some] <;> rfl), by first | exact Kd.R_nil _ _ _ _ _ | exact Kd.N_nil _ _ _ _ _ | exact Kd.V_nil _ _ _ _ _ | exact Kd.Q_nil _ _ _ _ _ | exact Kd.S_nil _ _ _ _ _, by repeat (first | (with_reducible first | exact HB.out | apply below_alloc | apply pw_below_drewN | apply below_drew1 | refine below_set ?_ GE113.out) | exact HB.out)⟩
                · replace c13 := Bool.eq_false_iff.mpr c13
                  subst c13
                  have H1 : (if ((Int.tmod (rd l0 a1) 256) % 256) = 3 then (battledoreref09_At.j2 kj9 l0 a1 ((Int.tmod (rd l0 a1) 256) % 256) (IntKind.u64.wrap (Int.tdiv (rd l0 a1) 256)) (wrap64 (Int.tdiv (wrap64 ((wrap64 ((IntKind.u64.wrap (Int.tdiv (rd l0 a1) 256)))) + 7)) 8)) ((Int.tmod (rd l0 a1) 256) % 256) (⟨#[]⟩ : ByteArray)) else (battledoreref09_At.j2 kj9 l0 a1 ((Int.tmod (rd l0 a1) 256) % 256) (IntKind.u64.wrap (Int.tdiv (rd l0 a1) 256)) (wrap64 ((IntKind.u64.wrap (Int.tdiv (rd l0 a1) 256)))) ((Int.tmod (rd l0 a1) 256) % 256) (⟨#[]⟩ : ByteArray))) = some (r1, r2, r3, r4) := by rw [if_neg (show ¬ (false = true) by decide)] at H; exact H
                  clear H
                  have H := H1
                  clear H1
                  have HC15 := Aside0.mk H
                  clear H
                  go_upto_if 53 with (first | ((with_reducible refine gate_dst (N := 8) rfl ?_); (try (refine gate_guard (by rfl) ?_; dsimp only)); refine box_event ?hg (N := 8) ?hd (cs := #[.int .u8 0, .slice none 0 0, .string (⟨#[]⟩ : ByteArray)]) (t := 50) ?hr ?_; (case hd => rfl); (case hg => rfl); (case hr => first | (go_simp; done) | (go_simp; rfl)); intro gb116 hg w16 hbox hb; have n0_ := Aside0.mk (blk_below (g := gb113) (o := .cells #[.int .u8 0, .slice none 0 0, .string (⟨#[]⟩ : ByteArray)] 50 (0, 0)) (by (with_reducible repeat (first | refine blk_drewN ?_ _ | refine blk_drew ?_ | refine blk_alloc ?_ _)); exact BK113.out) hb); have n1_ := Aside0.mk (below_step (by repeat (first | (with_reducible first | exact HB.out | apply below_alloc | apply pw_below_drewN | apply below_drew1 | refine below_set ?_ GE113.out) | exact HB.out)) hb); have n2_ := Aside0.mk (hbox); have n3_ := Aside0.mk ((by rw [hg]; exact (below_size (by repeat (first | (with_reducible first | exact HB.out | apply below_alloc | apply pw_below_drewN | apply below_drew1 | refine below_set ?_ GE113.out) | exact HB.out))) : w.heap.size ≤ gb116)); have n4_ := Aside0.mk ((by rw [hg]; exact (below_size (by repeat (first | (with_reducible first | exact HB.out | apply below_alloc | apply pw_below_drewN | apply below_drew1 | refine below_set ?_ GE113.out) | exact HB.out))) : w.heap.size ≤ gb116)); have n5_ := Aside0.mk ((by rw [hg]; exact Nat.ne_of_lt (blk_lt (g := gb113) (o := .cells #[.int .u8 0, .slice none 0 0, .string (⟨#[]⟩ : ByteArray)] 50 (0, 0)) (by (with_reducible repeat (first | refine blk_drewN ?_ _ | refine blk_drew ?_ | refine blk_alloc ?_ _)); exact BK113.out)) : gb113 ≠ gb116)); have n6_ := Aside0.mk ((by rw [hg]; exact Nat.ne_of_gt (blk_lt (g := gb113) (o := .cells #[.int .u8 0, .slice none 0 0, .string (⟨#[]⟩ : ByteArray)] 50 (0, 0)) (by (with_reducible repeat (first | refine blk_drewN ?_ _ | refine blk_drew ?_ | refine blk_alloc ?_ _)); exact BK113.out)) : gb116 ≠ gb113)); clear BK113; clear HB; have BK113 := n0_; have HB := n1_; have BK116 := n2_; have GW116 := n3_; have GE116 := n4_; have NB113_116 := n5_; have NB116_113 := n6_; clear n0_ n1_ n2_ n3_ n4_ n5_ n6_; clear hb hbox hg; have hnb17 := NB116_113.out; have hnc17 := NB113_116.out; have hcz18_0 : w16.cell? ⟨gb116, 0, none⟩ = some (.int .u8 0) := (blk_cell BK116.out 0).trans rfl; have hcz18_1 : w16.cell? ⟨gb116, 1, none⟩ = some (.slice none 0 0) := (blk_cell BK116.out 1).trans rfl; have hcz18_2 : w16.cell? ⟨gb116, 2, none⟩ = some (.string (⟨#[]⟩ : ByteArray)) := (blk_cell BK116.out 2).trans rfl; have hfz18_0 := blk_frozen BK116.out 0; have hfz18_1 := blk_frozen BK116.out 1; have hfz18_2 := blk_frozen BK116.out 2))
                  (try simp only [Act.put, List.setIfInBounds_toArray, List.set_cons_zero, List.set_cons_succ])
                  go_cut [9] (fun v9 wc => ∃ (kq : Nat) (x9_14 : Int), v9 = .int .i64 x9_14 ∧ Aside0 (battledoreref09_At.j2 kq l0 a1 ((Int.tmod (rd l0 a1) 256) % 256) (IntKind.u64.wrap (Int.tdiv (rd l0 a1) 256)) x9_14 ((Int.tmod (rd l0 a1) 256) % 256) (⟨#[]⟩ : ByteArray) = some (r1, r2, r3, r4)) ∧ Aside0 (kq ≤ kj9) ∧ Aside0 (wc.heap[gb113]? = some (.cells #[.int .u8 0, (.slice none 0 0), .string (⟨#[]⟩ : ByteArray)] 50 (0, 0))) ∧ Aside0 (wc.heap[gb116]? = some (.cells #[.int .u8 ((Int.tmod (rd l0 a1) 256) % 256), (.slice none 0 0), .string (⟨#[]⟩ : ByteArray)] 50 (0, 0))) ∧ Aside0 (Below w.heap.size w wc))
                  case first =>
                    have H := HC15.out
                    clear HC15
                    by_cases c19 : ((Int.tmod (rd l0 a1) 256) % 256) = 3
                    · rw [if_pos c19] at H
                      have c19b0 : (((Int.tmod (rd l0 a1) 256) % 256) == 3) = true := beq_iff_eq.mpr c19
                      have c19b1 : (((Int.tmod (rd l0 a1) 256) % 256) != 3) = false := bne_eq_false_iff_eq.mpr c19
                      clear c19
                      (first | rw [c19b0] | (simp only [i64_w, i32_w]; rw [c19b0]) | skip)
                      have H' := Aside0.mk H
                      clear H
                      go_wp2
                      go_meet
                      case rel => exact ⟨_, (wrap64 (Int.tdiv (wrap64 ((wrap64 ((IntKind.u64.wrap (Int.tdiv (rd l0 a1) 256)))) + 7)) 8)), (by first | rfl | (simp; done) | (simp [*]; done)), H', ⟨by have := HJ2.out; have := HJ9.out; first | omega | exact Nat.le_refl _⟩, ⟨by (with_reducible repeat (first | refine blk_drewN ?_ _ | refine blk_drew ?_ | refine blk_alloc ?_ _)); refine blk_far ?_ NB113_116.out _; (with_reducible repeat (first | refine blk_drewN ?_ _ | refine blk_drew ?_ | refine blk_alloc ?_ _)); refine blk_far ?_ NB113_116.out _; (with_reducible repeat (first | refine blk_drewN ?_ _ | refine blk_drew ?_ | refine blk_alloc ?_ _)); refine blk_far ?_ NB113_116.out _; (with_reducible repeat (first | refine blk_drewN ?_ _ | refine blk_drew ?_ | refine blk_alloc ?_ _)); exact BK113.out⟩, ⟨by (with_reducible repeat (first | refine blk_drewN ?_ _ | refine blk_drew ?_ | refine blk_alloc ?_ _)); refine blk_put (cs := #[.int .u8 ((Int.tmod (rd l0 a1) 256) % 256), .slice none 0 0, .string (⟨#[]⟩ : ByteArray)]) ?_ 2 _ rfl; (with_reducible repeat (first | refine blk_drewN ?_ _ | refine blk_drew ?_ | refine blk_alloc ?_ _)); refine blk_put (cs := #[.int .u8 ((Int.tmod (rd l0 a1) 256) % 256), .slice none 0 0, .string (⟨#[]⟩ : ByteArray)]) ?_ 1 _ rfl; (with_reducible repeat (first | refine blk_drewN ?_ _ | refine blk_drew ?_ | refine blk_alloc ?_ _)); refine blk_put (cs := #[.int .u8 0, .slice none 0 0, .string (⟨#[]⟩ : ByteArray)]) ?_ 0 _ rfl; (with_reducible repeat (first | refine blk_drewN ?_ _ | refine blk_drew ?_ | refine blk_alloc ?_ _)); exact BK116.out⟩, ⟨by repeat (first | (with_reducible first | exact HB.out | apply below_alloc | apply pw_below_drewN | apply below_drew1 | refine below_set ?_ GE113.out | refine below_set ?_ GE116.out) | exact HB.out)⟩⟩
                    · rw [if_neg c19] at H
                      have c19b0 : (((Int.tmod (rd l0 a1) 256) % 256) == 3) = false := beq_eq_false_iff_ne.mpr c19
                      have c19b1 : (((Int.tmod (rd l0 a1) 256) % 256) != 3) = true := bne_iff_ne.mpr c19
                      (first | rw [c19b0] | (simp only [i64_w, i32_w]; rw [c19b0]) | skip)
                      have H' := Aside0.mk H
                      clear H
                      go_wp2
                      go_meet
                      case rel => exact ⟨_, (wrap64 ((IntKind.u64.wrap (Int.tdiv (rd l0 a1) 256)))), (by first | rfl | (simp; done) | (simp [*]; done)), H', ⟨by have := HJ2.out; have := HJ9.out; first | omega | exact Nat.le_refl _⟩, ⟨by (with_reducible repeat (first | refine blk_drewN ?_ _ | refine blk_drew ?_ | refine blk_alloc ?_ _)); refine blk_far ?_ NB113_116.out _; (with_reducible repeat (first | refine blk_drewN ?_ _ | refine blk_drew ?_ | refine blk_alloc ?_ _)); refine blk_far ?_ NB113_116.out _; (with_reducible repeat (first | refine blk_drewN ?_ _ | refine blk_drew ?_ | refine blk_alloc ?_ _)); refine blk_far ?_ NB113_116.out _; (with_reducible repeat (first | refine blk_drewN ?_ _ | refine blk_drew ?_ | refine blk_alloc ?_ _)); exact BK113.out⟩, ⟨by (with_reducible repeat (first | refine blk_drewN ?_ _ | refine blk_drew ?_ | refine blk_alloc ?_ _)); refine blk_put (cs := #[.int .u8 ((Int.tmod (rd l0 a1) 256) % 256), .slice none 0 0, .string (⟨#[]⟩ : ByteArray)]) ?_ 2 _ rfl; (with_reducible repeat (first | refine blk_drewN ?_ _ | refine blk_drew ?_ | refine blk_alloc ?_ _)); refine blk_put (cs := #[.int .u8 ((Int.tmod (rd l0 a1) 256) % 256), .slice none 0 0, .string (⟨#[]⟩ : ByteArray)]) ?_ 1 _ rfl; (with_reducible repeat (first | refine blk_drewN ?_ _ | refine blk_drew ?_ | refine blk_alloc ?_ _)); refine blk_put (cs := #[.int .u8 0, .slice none 0 0, .string (⟨#[]⟩ : ByteArray)]) ?_ 0 _ rfl; (with_reducible repeat (first | refine blk_drewN ?_ _ | refine blk_drew ?_ | refine blk_alloc ?_ _)); exact BK116.out⟩, ⟨by repeat (first | (with_reducible first | exact HB.out | apply below_alloc | apply pw_below_drewN | apply below_drew1 | refine below_set ?_ GE113.out | refine below_set ?_ GE116.out) | exact HB.out)⟩⟩
                  case rest =>
                    clear HC15
                    try clear c1
                    try clear p1
                    try clear q1
                    try clear hx1
                    try clear c2
                    try clear p2
                    try clear c5
                    try clear c5b0
                    try clear c6
                    try clear p6
                    try clear c8
                    try clear c8b0
                    try clear c9
                    try clear c9b0
                    try clear c11
                    try clear c11b0
                    try clear p11
                    try clear q11
                    try clear hx11
                    try clear c12
                    try clear c12b0
                    try clear c13
                    try clear c17
                    try clear c19
                    try clear c19b0
                    try clear c19b1
                    try clear hcz14_0
                    try clear hcz14_1
                    try clear hcz14_2
                    try clear hcz18_0
                    try clear hcz18_1
                    try clear hcz18_2
                    try clear hcz7_0
                    try clear hcz7_1
                    try clear hcz7_2
                    try clear hfz14_0
                    try clear hfz14_1
                    try clear hfz14_2
                    try clear hfz18_0
                    try clear hfz18_1
                    try clear hfz18_2
                    try clear hfz7_0
                    try clear hfz7_1
                    try clear hfz7_2
                    try clear hx114_0
                    try clear hx115_0
                    try clear p1
                    try clear p11
                    try clear p114
                    try clear p115
                    try clear p2
                    try clear p6
                    try clear q1
                    try clear q11
                    try clear q114
                    try clear q115
                    obtain ⟨kq, x9_14, rfl, HA, HJ14, BK113, BK116, HB⟩ := hcut
                    cases kq with
                    | zero => exact absurd HA.out (by simp [battledoreref09_At.j2])
                    | succ kj14 =>
                      have H := HA.out
                      clear HA
                      simp only [battledoreref09_At.j2] at H
                      by_cases c20 : x9_14 > (wrap64 ((wrap64 ((l0.length : Int) - a1)) - 1))
                      · rw [if_pos c20] at H
                        have c20b0 : decide ((wrap64 ((wrap64 ((l0.length : Int) - a1)) - 1)) < x9_14) = true := decide_eq_true c20
                        clear c20
                        simp only [Option.some.injEq, Prod.mk.injEq] at H
                        obtain ⟨rfl, rfl, rfl, rfl⟩ := H
                        have hnb21 := NB113_116.out
                        have hnc21 := NB116_113.out
                        have hcz22_0 : wc.cell? ⟨gb113, 0, none⟩ = some (.int .u8 0) := (blk_cell BK113.out 0).trans rfl
                        have hcz22_1 : wc.cell? ⟨gb113, 1, none⟩ = some (.slice none 0 0) := (blk_cell BK113.out 1).trans rfl
                        have hcz22_2 : wc.cell? ⟨gb113, 2, none⟩ = some (.string (⟨#[]⟩ : ByteArray)) := (blk_cell BK113.out 2).trans rfl
                        have hfz22_0 := blk_frozen BK113.out 0
                        have hfz22_1 := blk_frozen BK113.out 1
                        have hfz22_2 := blk_frozen BK113.out 2
                        go_wp2
                        refine bodyPost_ret (results_ct rfl _ _ gb113 50 #[.int .u8 0, .slice none 0 0, .string (⟨#[]⟩ : ByteArray)] (0, 0) _ rfl (by (with_reducible repeat (first | refine blk_drewN ?_ _ | refine blk_drew ?_ | refine blk_alloc ?_ _)); refine blk_put (cs := #[.int .u8 0, .slice none 0 0, .string (⟨#[]⟩ : ByteArray)]) ?_ 2 _ rfl; (with_reducible repeat (first | refine blk_drewN ?_ _ | refine blk_drew ?_ | refine blk_alloc ?_ _)); refine blk_put (cs := #[.int .u8 0, .slice none 0 0, .string (⟨#[]⟩ : ByteArray)]) ?_ 1 _ rfl; (with_reducible repeat (first | refine blk_drewN ?_ _ | refine blk_drew ?_ | refine blk_alloc ?_ _)); refine blk_put (cs := #[.int .u8 0, .slice none 0 0, .string (⟨#[]⟩ : ByteArray)]) ?_ 0 _ rfl; (with_reducible repeat (first | refine blk_drewN ?_ _ | refine blk_drew ?_ | refine blk_alloc ?_ _)); exact BK113.out) Tryd.underlying50 rfl (by kernel_rfl)) rfl ?_
                        exact ⟨_, by first | rfl | (simp [errW_none, errW_some] <;> rfl) | (simp [*, errW_none, errW_some] <;> rfl), by first | exact Kd.R_nil _ _ _ _ _ | exact Kd.N_nil _ _ _ _ _ | exact Kd.V_nil _ _ _ _ _ | exact Kd.Q_nil _ _ _ _ _ | exact Kd.S_nil _ _ _ _ _, by repeat (first | (with_reducible first | exact HB.out | apply below_alloc | apply pw_below_drewN | apply below_drew1 | refine below_set ?_ GE113.out | refine below_set ?_ GE116.out) | exact HB.out)⟩
                      · rw [if_neg c20] at H
                        have c20b0 : decide ((wrap64 ((wrap64 ((l0.length : Int) - a1)) - 1)) < x9_14) = false := decide_eq_false c20
                        clear c20
                        have H' := Aside0.mk H
                        clear H
                        go_wp2
                        go_loopg [10] kj14 (fun kq v10 w' => ∃ (x10_4 : Int) (x117001_4 : List Int) (x117002_4 : ByteArray) (u117001 : Value), v10 = .int .i64 x10_4 ∧ Aside0 (battledoreref09_At.l0 kq l0 a1 ((Int.tmod (rd l0 a1) 256) % 256) (IntKind.u64.wrap (Int.tdiv (rd l0 a1) 256)) x9_14 x10_4 ((Int.tmod (rd l0 a1) 256) % 256) x117001_4 x117002_4 = some (r1, r2, r3, r4)) ∧ Aside0 (kq ≤ kj14) ∧ Aside0 (Kd.R (Kd.int .u64) 22 w' w.heap.size (fun _ => True) u117001 x117001_4) ∧ Aside0 (w'.heap[gb113]? = some (.cells #[.int .u8 0, (.slice none 0 0), .string (⟨#[]⟩ : ByteArray)] 50 (0, 0))) ∧ Aside0 (w'.heap[gb116]? = some (.cells #[.int .u8 ((Int.tmod (rd l0 a1) 256) % 256), u117001, .string x117002_4] 50 (0, 0))) ∧ Aside0 (Below w.heap.size w w'))
                        case atStart => exact ⟨(0), (([] : List Int)), ((⟨#[]⟩ : ByteArray)), (.slice none 0 0), (by first | rfl | (simp; done) | (simp [*]; done)), H', ⟨Nat.le_refl _⟩, ⟨by first | exact Kd.R_nil _ _ _ _ _ | exact Kd.N_nil _ _ _ _ _ | exact Kd.V_nil _ _ _ _ _ | exact Kd.Q_nil _ _ _ _ _ | exact Kd.S_nil _ _ _ _ _⟩, ⟨by (with_reducible repeat (first | refine blk_drewN ?_ _ | refine blk_drew ?_ | refine blk_alloc ?_ _)); exact BK113.out⟩, ⟨by (with_reducible repeat (first | refine blk_drewN ?_ _ | refine blk_drew ?_ | refine blk_alloc ?_ _)); exact BK116.out⟩, ⟨by repeat (first | (with_reducible first | exact HB.out | apply below_alloc | apply pw_below_drewN | apply below_drew1 | refine below_set ?_ GE113.out | refine below_set ?_ GE116.out) | exact HB.out)⟩⟩
                        case round =>
                          clear H'
                          try clear c1
                          try clear p1
                          try clear q1
                          try clear hx1
                          try clear c2
                          try clear p2
                          try clear c5
                          try clear c5b0
                          try clear c6
                          try clear p6
                          try clear c8
                          try clear c8b0
                          try clear c9
                          try clear c9b0
                          try clear c11
                          try clear c11b0
                          try clear p11
                          try clear q11
                          try clear hx11
                          try clear c12
                          try clear c12b0
                          try clear c13
                          try clear c17
                          try clear c19
                          try clear c19b0
                          try clear c19b1
                          try clear c20
                          try clear c20b0
                          try clear c21
                          try clear hcz14_0
                          try clear hcz14_1
                          try clear hcz14_2
                          try clear hcz18_0
                          try clear hcz18_1
                          try clear hcz18_2
                          try clear hcz22_0
                          try clear hcz22_1
                          try clear hcz22_2
                          try clear hcz7_0
                          try clear hcz7_1
                          try clear hcz7_2
                          try clear hfz14_0
                          try clear hfz14_1
                          try clear hfz14_2
                          try clear hfz18_0
                          try clear hfz18_1
                          try clear hfz18_2
                          try clear hfz22_0
                          try clear hfz22_1
                          try clear hfz22_2
                          try clear hfz7_0
                          try clear hfz7_1
                          try clear hfz7_2
                          try clear hx114_0
                          try clear hx115_0
                          try clear p1
                          try clear p11
                          try clear p114
                          try clear p115
                          try clear p2
                          try clear p6
                          try clear q1
                          try clear q11
                          try clear q114
                          try clear q115
                          obtain ⟨x10_4, x117001_4, x117002_4, u117001, rfl, HA, HK4, HO_117001, BK113, BK116, HB⟩ := hrel
                          cases gk with
                          | zero => exact absurd HA.out (by simp [battledoreref09_At.l0])
                          | succ k4 =>
                            have H := HA.out
                            clear HA
                            simp only [battledoreref09_At.l0] at H
                            by_cases c23 : x10_4 < x9_14
                            · rw [if_pos c23] at H
                              have c23b0 : decide (x10_4 < x9_14) = true := decide_eq_true c23
                              clear c23
                              obtain ⟨ji24, hji24⟩ : ∃ j_ : Int, (wrap64 ((wrap64 (a1 + 1)) + x10_4)) = j_ := ⟨_, rfl⟩
                              replace H : (if 0 ≤ (ji24) then (if (ji24) < (l0.length : Int) then (if ((Int.tmod (rd l0 a1) 256) % 256) = 3 then (battledoreref09_At.l1 k4 l0 a1 ((Int.tmod (rd l0 a1) 256) % 256) (IntKind.u64.wrap (Int.tdiv (rd l0 a1) 256)) x9_14 x10_4 (rd l0 (ji24)) 0 ((Int.tmod (rd l0 a1) 256) % 256) x117001_4 x117002_4) else (if x117001_4.length < 17592186044416 then (battledoreref09_At.l0 k4 l0 a1 ((Int.tmod (rd l0 a1) 256) % 256) (IntKind.u64.wrap (Int.tdiv (rd l0 a1) 256)) x9_14 (wrap64 (x10_4 + 1)) ((Int.tmod (rd l0 a1) 256) % 256) (x117001_4 ++ [rd l0 (ji24)]) x117002_4) else (none))) else (none)) else (none)) = some (r1, r2, r3, r4) := by first | (rw [hji24] at H; exact H) | (simp only [hji24] at H ⊢; exact H)
                              have hji24w : (IntKind.i64.wrap ((wrap64 (a1 + 1)) + x10_4)) = ji24 := (i64_w _).trans hji24
                              by_cases c25 : 0 ≤ (ji24)
                              · rw [if_pos c25] at H
                                have c25b0 : decide (0 ≤ (ji24)) = true := decide_eq_true c25
                                clear c25
                                by_cases c26 : (ji24) < (l0.length : Int)
                                · rw [if_pos c26] at H
                                  have c26b0 : decide ((ji24) < (l0.length : Int)) = true := decide_eq_true c26
                                  clear c26
                                  by_cases c27 : ((Int.tmod (rd l0 a1) 256) % 256) = 3
                                  · rw [if_pos c27] at H
                                    have c27b0 : (((Int.tmod (rd l0 a1) 256) % 256) == 3) = true := beq_iff_eq.mpr c27
                                    have c27b1 : (((Int.tmod (rd l0 a1) 256) % 256) != 3) = false := bne_eq_false_iff_eq.mpr c27
                                    clear c27
                                    have H' := Aside0.mk H
                                    clear H
                                    have p117 : 0 ≤ ((ji24) : Int) := of_decide_eq_true (by first | (with_reducible assumption) | assumption)
                                    have q117 : (ji24) < (l0.length : Int) := of_decide_eq_true (by first | (with_reducible assumption) | assumption)
                                    obtain ⟨ad117, e117, hx117_0⟩ := Kd.at_int HR0.out (ji24) p117 q117
                                    obtain rfl : ad114 = ad117 := (by injection e117)
                                    replace hx117_0 := (HB.out.cell (World.block_lt_of_cell? w _ hx117_0)).trans hx117_0
                                    replace p117 := eq_true p117
                                    replace q117 := eq_true q117
                                    go_wp2
                                    go_loopg [11, 12] k4 (fun kq v11 v12 w' => ∃ (x11_5 : Int) (x12_5 : Int) (x117002_5 : ByteArray), v11 = .int .u64 x11_5 ∧ v12 = .int .i64 x12_5 ∧ Aside0 (battledoreref09_At.l1 kq l0 a1 ((Int.tmod (rd l0 a1) 256) % 256) (IntKind.u64.wrap (Int.tdiv (rd l0 a1) 256)) x9_14 x10_4 x11_5 x12_5 ((Int.tmod (rd l0 a1) 256) % 256) x117001_4 x117002_5 = some (r1, r2, r3, r4)) ∧ Aside0 (kq ≤ k4) ∧ Aside0 (Kd.R (Kd.int .u64) 22 w' w.heap.size (fun _ => True) u117001 x117001_4) ∧ Aside0 (w'.heap[gb113]? = some (.cells #[.int .u8 0, (.slice none 0 0), .string (⟨#[]⟩ : ByteArray)] 50 (0, 0))) ∧ Aside0 (w'.heap[gb116]? = some (.cells #[.int .u8 ((Int.tmod (rd l0 a1) 256) % 256), u117001, .string x117002_5] 50 (0, 0))) ∧ Aside0 (Below w.heap.size w w'))
                                    case atStart => exact ⟨(rd l0 (ji24)), (0), (x117002_4), (by first | rfl | (simp; done) | (simp only [← hji24] <;> (first | rfl | simp)) | (simp [*]; done)), (by first | rfl | (simp; done) | (simp [*]; done)), H', ⟨Nat.le_refl _⟩, ⟨by (with_reducible repeat (first | apply Kd.R_alloc | apply Kd.R_drewN | apply Kd.R_drew)); exact HO_117001.out⟩, ⟨by (with_reducible repeat (first | refine blk_drewN ?_ _ | refine blk_drew ?_ | refine blk_alloc ?_ _)); exact BK113.out⟩, ⟨by (with_reducible repeat (first | refine blk_drewN ?_ _ | refine blk_drew ?_ | refine blk_alloc ?_ _)); exact BK116.out⟩, ⟨by repeat (first | (with_reducible first | exact HB.out | apply below_alloc | apply pw_below_drewN | apply below_drew1 | refine below_set ?_ GE113.out | refine below_set ?_ GE116.out) | exact HB.out)⟩⟩
                                    case round =>
                                      clear H'
                                      try clear c1
                                      try clear p1
                                      try clear q1
                                      try clear hx1
                                      try clear c2
                                      try clear p2
                                      try clear c5
                                      try clear c5b0
                                      try clear c6
                                      try clear p6
                                      try clear c8
                                      try clear c8b0
                                      try clear c9
                                      try clear c9b0
                                      try clear c11
                                      try clear c11b0
                                      try clear p11
                                      try clear q11
                                      try clear hx11
                                      try clear c12
                                      try clear c12b0
                                      try clear c13
                                      try clear c17
                                      try clear c19
                                      try clear c19b0
                                      try clear c19b1
                                      try clear c20
                                      try clear c20b0
                                      try clear c21
                                      try clear c23
                                      try clear c23b0
                                      try clear c24
                                      try clear c25
                                      try clear c25b0
                                      try clear c26
                                      try clear c26b0
                                      try clear c27
                                      try clear c27b0
                                      try clear c27b1
                                      try clear hcz14_0
                                      try clear hcz14_1
                                      try clear hcz14_2
                                      try clear hcz18_0
                                      try clear hcz18_1
                                      try clear hcz18_2
                                      try clear hcz22_0
                                      try clear hcz22_1
                                      try clear hcz22_2
                                      try clear hcz7_0
                                      try clear hcz7_1
                                      try clear hcz7_2
                                      try clear hfz14_0
                                      try clear hfz14_1
                                      try clear hfz14_2
                                      try clear hfz18_0
                                      try clear hfz18_1
                                      try clear hfz18_2
                                      try clear hfz22_0
                                      try clear hfz22_1
                                      try clear hfz22_2
                                      try clear hfz7_0
                                      try clear hfz7_1
                                      try clear hfz7_2
                                      try clear hx114_0
                                      try clear hx115_0
                                      try clear hx117_0
                                      try clear p1
                                      try clear p11
                                      try clear p114
                                      try clear p115
                                      try clear p117
                                      try clear p2
                                      try clear p6
                                      try clear q1
                                      try clear q11
                                      try clear q114
                                      try clear q115
                                      try clear q117
                                      obtain ⟨x11_5, x12_5, x117002_5, rfl, rfl, HA, HK5, HO_117001, BK113, BK116, HB⟩ := hrel
                                      cases gk with
                                      | zero => exact absurd HA.out (by simp [battledoreref09_At.l1])
                                      | succ k5 =>
                                        have H := HA.out
                                        clear HA
                                        simp only [battledoreref09_At.l1] at H
                                        by_cases c28 : x12_5 < 8
                                        · rw [if_pos c28] at H
                                          have c28b0 : decide (x12_5 < 8) = true := decide_eq_true c28
                                          clear c28
                                          by_cases c29 : (x117002_5.size : Int) < (wrap64 ((IntKind.u64.wrap (Int.tdiv (rd l0 a1) 256))))
                                          · rw [if_pos c29] at H
                                            have c29b0 : decide ((x117002_5.size : Int) < (wrap64 ((IntKind.u64.wrap (Int.tdiv (rd l0 a1) 256))))) = true := decide_eq_true c29
                                            clear c29
                                            obtain ⟨y121, hy121⟩ : ∃ y_ : List Int, y_ = (([(Int.tmod x11_5 256) % 256] : List Int)) := ⟨_, rfl⟩
                                            replace H : (if x117002_5.size + (strOfNums y121).size ≤ 9223372036854775807 then (battledoreref09_At.l1 k5 l0 a1 ((Int.tmod (rd l0 a1) 256) % 256) (IntKind.u64.wrap (Int.tdiv (rd l0 a1) 256)) x9_14 x10_4 (IntKind.u64.wrap (Int.tdiv x11_5 256)) (wrap64 (x12_5 + 1)) ((Int.tmod (rd l0 a1) 256) % 256) x117001_4 (x117002_5 ++ (strOfNums y121))) else (none)) = some (r1, r2, r3, r4) := by first | (rw [hy121]; with_reducible exact H) | (have H2_ := (Option.bind_some _ _).symm.trans H; rw [hy121]; with_reducible exact H2_) | (have H2_ := (Option.bind_some _ _).symm.trans H; with_reducible exact H2_) | with_reducible exact H | (rw [hy121]; exact H) | exact H
                                            have Ny121 := Aside0.mk hy121
                                            clear hy121
                                            by_cases c30 : x117002_5.size + (strOfNums y121).size ≤ 9223372036854775807
                                            · rw [if_pos c30] at H
                                              have c30b0 := eq_true c30
                                              have c30b1 : decide (x117002_5.size + (strOfNums y121).size ≤ 9223372036854775807) = true := decide_eq_true c30
                                              try have c30b2 : (9223372036854775807 < x117002_5.size + (strOfNums y121).size) = False := eq_false (Nat.not_lt.2 c30)
                                              have H' := Aside0.mk H
                                              clear H
                                              have hnb31 := NB116_113.out
                                              have hnc31 := NB113_116.out
                                              have hcz32_0 : wr.cell? ⟨gb116, 0, none⟩ = some (.int .u8 ((Int.tmod (rd l0 a1) 256) % 256)) := (blk_cell BK116.out 0).trans rfl
                                              have hcz32_1 : wr.cell? ⟨gb116, 1, none⟩ = some (u117001) := (blk_cell BK116.out 1).trans rfl
                                              have hcz32_2 : wr.cell? ⟨gb116, 2, none⟩ = some (.string x117002_5) := (blk_cell BK116.out 2).trans rfl
                                              have hfz32_0 := blk_frozen BK116.out 0
                                              have hfz32_1 := blk_frozen BK116.out 1
                                              have hfz32_2 := blk_frozen BK116.out 2
                                              go_wp2_with (first | ((with_reducible refine gate_dst (N := 103) rfl ?_); (try (refine gate_guard (by rfl) ?_; dsimp only)); refine Kd.R_lit (Kd.int .u8) _ 5 ?hg (N := 103) ?hd (xs := ([(Int.tmod x11_5 256) % 256] : List Int)) (inner := [.int .u8 ((Int.tmod x11_5 256) % 256)]) (ok := fun _ => True) (okp := fun _ => True) ?hr ?hp (fun _ hk => hk) trivial (Below.refl _ _) (Nat.le_refl _) (by simp) ?_; (case hd => rfl); (case hg => rfl); (case hr => first | (go_simp; done) | (go_simp; rfl)); (case hp => exact (Reps.one (show Kd.M (Kd.int .u8) _ _ _ ((Int.tmod x11_5 256) % 256) [.int .u8 ((Int.tmod x11_5 256) % 256)] from rfl) (Reps.none _ _))); intro v122 w33 ho34 hb hg_ hnew_; clear hg_ hnew_; (first | rw [← Ny121.out] at ho34 | (simp only [Int.reduceToNat] at ho34; rw [← Ny121.out] at ho34)); have n0_ := Aside0.mk (Kd.R_below (by (with_reducible repeat (first | apply Kd.R_alloc | apply Kd.R_drewN | apply Kd.R_drew)); exact HO_117001.out) hb); have n1_ := Aside0.mk (Kd.R_lower ho34 (below_size (by repeat (first | (with_reducible first | exact HB.out | apply below_alloc | apply pw_below_drewN | apply below_drew1 | refine below_set ?_ GE113.out | refine below_set ?_ GE116.out) | exact HB.out)))); have n2_ := Aside0.mk (blk_below (g := gb113) (o := .cells #[.int .u8 0, .slice none 0 0, .string (⟨#[]⟩ : ByteArray)] 50 (0, 0)) (by (with_reducible repeat (first | refine blk_drewN ?_ _ | refine blk_drew ?_ | refine blk_alloc ?_ _)); exact BK113.out) hb); have n3_ := Aside0.mk (blk_below (g := gb116) (o := .cells #[.int .u8 ((Int.tmod (rd l0 a1) 256) % 256), u117001, .string x117002_5] 50 (0, 0)) (by (with_reducible repeat (first | refine blk_drewN ?_ _ | refine blk_drew ?_ | refine blk_alloc ?_ _)); exact BK116.out) hb); have n4_ := Aside0.mk (below_step (by repeat (first | (with_reducible first | exact HB.out | apply below_alloc | apply pw_below_drewN | apply below_drew1 | refine below_set ?_ GE113.out | refine below_set ?_ GE116.out) | exact HB.out)) hb); clear HO_117001; clear BK113; clear BK116; clear HB; have HO_117001 := n0_; have HO123 := n1_; have BK113 := n2_; have BK116 := n3_; have HB := n4_; clear n0_ n1_ n2_ n3_ n4_; clear hb ho34; have hcv35 := own_string (P := Tryd.prog) Tryd.underlying59 Tryd.underlying5 Tryd.underlying9 (Kd.own_of_R HO123.out); have hcz36_0 : w33.cell? ⟨gb116, 0, none⟩ = some (.int .u8 ((Int.tmod (rd l0 a1) 256) % 256)) := (blk_cell BK116.out 0).trans rfl; have hcz36_1 : w33.cell? ⟨gb116, 1, none⟩ = some (u117001) := (blk_cell BK116.out 1).trans rfl; have hcz36_2 : w33.cell? ⟨gb116, 2, none⟩ = some (.string x117002_5) := (blk_cell BK116.out 2).trans rfl; have hfz36_0 := blk_frozen BK116.out 0; have hfz36_1 := blk_frozen BK116.out 1; have hfz36_2 := blk_frozen BK116.out 2))
                                              go_roundg k5
                                              case measure => have := HJ2.out; have := HJ9.out; have := HJ14.out; have := HK4.out; have := HK5.out; omega
                                              case rel => exact ⟨(IntKind.u64.wrap (Int.tdiv x11_5 256)), (wrap64 (x12_5 + 1)), (x117002_5 ++ (strOfNums y121)), (by first | rfl | (simp; done) | (simp [*]; done)), (by first | rfl | (simp; done) | (simp [*]; done)), H', ⟨by have := HJ2.out; have := HJ9.out; have := HJ14.out; have := HK4.out; have := HK5.out; omega⟩, ⟨by (with_reducible repeat (first | apply Kd.R_alloc | apply Kd.R_drewN | apply Kd.R_drew)); exact Kd.R_mono (Kd.R_far (p := ⟨gb116, 2, none⟩) (Kd.R_types HO_117001.out BK116.out (by decide)) (fun _ hk => hk.2) (.string (x117002_5 ++ (strOfNums y121)))) (fun _ hk => trivial)⟩, ⟨by (with_reducible repeat (first | refine blk_drewN ?_ _ | refine blk_drew ?_ | refine blk_alloc ?_ _)); refine blk_far ?_ NB113_116.out _; (with_reducible repeat (first | refine blk_drewN ?_ _ | refine blk_drew ?_ | refine blk_alloc ?_ _)); exact BK113.out⟩, ⟨by (with_reducible repeat (first | refine blk_drewN ?_ _ | refine blk_drew ?_ | refine blk_alloc ?_ _)); refine blk_put (cs := #[.int .u8 ((Int.tmod (rd l0 a1) 256) % 256), u117001, .string x117002_5]) ?_ 2 _ rfl; (with_reducible repeat (first | refine blk_drewN ?_ _ | refine blk_drew ?_ | refine blk_alloc ?_ _)); exact BK116.out⟩, ⟨by repeat (first | (with_reducible first | exact HB.out | apply below_alloc | apply pw_below_drewN | apply below_drew1 | refine below_set ?_ GE113.out | refine below_set ?_ GE116.out) | exact HB.out)⟩⟩
                                            · rw [if_neg c30] at H
                                              exact absurd H (by simp)
                                          · rw [if_neg c29] at H
                                            have c29b0 : decide ((x117002_5.size : Int) < (wrap64 ((IntKind.u64.wrap (Int.tdiv (rd l0 a1) 256))))) = false := decide_eq_false c29
                                            clear c29
                                            have H' := Aside0.mk H
                                            clear H
                                            have hnb37 := NB116_113.out
                                            have hnc37 := NB113_116.out
                                            have hcz38_0 : wr.cell? ⟨gb116, 0, none⟩ = some (.int .u8 ((Int.tmod (rd l0 a1) 256) % 256)) := (blk_cell BK116.out 0).trans rfl
                                            have hcz38_1 : wr.cell? ⟨gb116, 1, none⟩ = some (u117001) := (blk_cell BK116.out 1).trans rfl
                                            have hcz38_2 : wr.cell? ⟨gb116, 2, none⟩ = some (.string x117002_5) := (blk_cell BK116.out 2).trans rfl
                                            have hfz38_0 := blk_frozen BK116.out 0
                                            have hfz38_1 := blk_frozen BK116.out 1
                                            have hfz38_2 := blk_frozen BK116.out 2
                                            go_wp2
                                            go_roundg k5
                                            case measure => have := HJ2.out; have := HJ9.out; have := HJ14.out; have := HK4.out; have := HK5.out; omega
                                            case rel => exact ⟨(wrap64 (x10_4 + 1)), (x117001_4), (x117002_5), (u117001), (by first | rfl | (simp; done) | (simp [*]; done)), H', ⟨by have := HJ2.out; have := HJ9.out; have := HJ14.out; have := HK4.out; have := HK5.out; omega⟩, ⟨by (with_reducible repeat (first | apply Kd.R_alloc | apply Kd.R_drewN | apply Kd.R_drew)); exact HO_117001.out⟩, ⟨by (with_reducible repeat (first | refine blk_drewN ?_ _ | refine blk_drew ?_ | refine blk_alloc ?_ _)); exact BK113.out⟩, ⟨by (with_reducible repeat (first | refine blk_drewN ?_ _ | refine blk_drew ?_ | refine blk_alloc ?_ _)); exact BK116.out⟩, ⟨by repeat (first | (with_reducible first | exact HB.out | apply below_alloc | apply pw_below_drewN | apply below_drew1 | refine below_set ?_ GE113.out | refine below_set ?_ GE116.out) | exact HB.out)⟩⟩
                                        · rw [if_neg c28] at H
                                          have c28b0 : decide (x12_5 < 8) = false := decide_eq_false c28
                                          clear c28
                                          have H' := Aside0.mk H
                                          clear H
                                          go_wp2
                                          go_roundg k5
                                          case measure => have := HJ2.out; have := HJ9.out; have := HJ14.out; have := HK4.out; have := HK5.out; omega
                                          case rel => exact ⟨(wrap64 (x10_4 + 1)), (x117001_4), (x117002_5), (u117001), (by first | rfl | (simp; done) | (simp [*]; done)), H', ⟨by have := HJ2.out; have := HJ9.out; have := HJ14.out; have := HK4.out; have := HK5.out; omega⟩, ⟨by (with_reducible repeat (first | apply Kd.R_alloc | apply Kd.R_drewN | apply Kd.R_drew)); exact HO_117001.out⟩, ⟨by (with_reducible repeat (first | refine blk_drewN ?_ _ | refine blk_drew ?_ | refine blk_alloc ?_ _)); exact BK113.out⟩, ⟨by (with_reducible repeat (first | refine blk_drewN ?_ _ | refine blk_drew ?_ | refine blk_alloc ?_ _)); exact BK116.out⟩, ⟨by repeat (first | (with_reducible first | exact HB.out | apply below_alloc | apply pw_below_drewN | apply below_drew1 | refine below_set ?_ GE113.out | refine below_set ?_ GE116.out) | exact HB.out)⟩⟩
                                  · rw [if_neg c27] at H
                                    have c27b0 : (((Int.tmod (rd l0 a1) 256) % 256) == 3) = false := beq_eq_false_iff_ne.mpr c27
                                    have c27b1 : (((Int.tmod (rd l0 a1) 256) % 256) != 3) = true := bne_iff_ne.mpr c27
                                    by_cases c39 : x117001_4.length < 17592186044416
                                    · rw [if_pos c39] at H
                                      have LMc39 := Aside0.mk c39
                                      clear c39
                                      obtain ⟨y118, hy118⟩ : ∃ y_ : List Int, y_ = (x117001_4 ++ [rd l0 (ji24)]) := ⟨_, rfl⟩
                                      replace H : (battledoreref09_At.l0 k4 l0 a1 ((Int.tmod (rd l0 a1) 256) % 256) (IntKind.u64.wrap (Int.tdiv (rd l0 a1) 256)) x9_14 (wrap64 (x10_4 + 1)) ((Int.tmod (rd l0 a1) 256) % 256) y118 x117002_4) = some (r1, r2, r3, r4) := by first | (rw [hy118]; with_reducible exact H) | (have H2_ := (Option.bind_some _ _).symm.trans H; rw [hy118]; with_reducible exact H2_) | (have H2_ := (Option.bind_some _ _).symm.trans H; with_reducible exact H2_) | with_reducible exact H | (rw [hy118]; exact H) | exact H
                                      have Ny118 := Aside0.mk hy118
                                      clear hy118
                                      have H' := Aside0.mk H
                                      clear H
                                      have p117 : 0 ≤ ((ji24) : Int) := of_decide_eq_true (by first | (with_reducible assumption) | assumption)
                                      have q117 : (ji24) < (l0.length : Int) := of_decide_eq_true (by first | (with_reducible assumption) | assumption)
                                      obtain ⟨ad117, e117, hx117_0⟩ := Kd.at_int HR0.out (ji24) p117 q117
                                      obtain rfl : ad114 = ad117 := (by injection e117)
                                      replace hx117_0 := (HB.out.cell (World.block_lt_of_cell? w _ hx117_0)).trans hx117_0
                                      replace p117 := eq_true p117
                                      replace q117 := eq_true q117
                                      have hnb40 := NB116_113.out
                                      have hnc40 := NB113_116.out
                                      have hcz41_0 : wr.cell? ⟨gb116, 0, none⟩ = some (.int .u8 ((Int.tmod (rd l0 a1) 256) % 256)) := (blk_cell BK116.out 0).trans rfl
                                      have hcz41_1 : wr.cell? ⟨gb116, 1, none⟩ = some (u117001) := (blk_cell BK116.out 1).trans rfl
                                      have hcz41_2 : wr.cell? ⟨gb116, 2, none⟩ = some (.string x117002_4) := (blk_cell BK116.out 2).trans rfl
                                      have hfz41_0 := blk_frozen BK116.out 0
                                      have hfz41_1 := blk_frozen BK116.out 1
                                      have hfz41_2 := blk_frozen BK116.out 2
                                      go_wp2_with (first | ((with_reducible refine gate_builtin (b := .append) (xs := #[.tmp 81, .tmp 83]) rfl ?_); (try (refine gate_guard (by rfl) ?_; dsimp only)); at_builtin; refine Kd.R_append (Kd.int .u64) (w0 := w) w.heap.size rfl (.tmp 81) (.tmp 83) 38 22 (.int .u64 0) 8 rfl Tryd.underlying38 info22 rfl (by decide) (by omega) u117001 x117001_4 (rd l0 (ji24)) [.int .u64 (rd l0 (ji24))] (fun _ => True) (fun _ => False) rfl rfl ?aP (fun _ hk => hk.elim) ?aF ?aO ?aB ?aS ?aL ?_; (case aP => exact rfl); (case aB => exact (by repeat (first | (with_reducible first | exact HB.out | apply below_alloc | apply pw_below_drewN | apply below_drew1 | refine below_set ?_ GE113.out | refine below_set ?_ GE116.out) | exact HB.out))); (case aF => exact (fun _ _ => trivial)); (case aO => exact (by (with_reducible repeat (first | apply Kd.R_alloc | apply Kd.R_drewN | apply Kd.R_drew)); exact HO_117001.out)); (case aS => exact (below_size (by repeat (first | (with_reducible first | exact HB.out | apply below_alloc | apply pw_below_drewN | apply below_drew1 | refine below_set ?_ GE113.out | refine below_set ?_ GE116.out) | exact HB.out)))); (case aL => have := LMc39.out; omega); intro v119 w42 ho hb hg hat; rw [← Ny118.out] at ho; have n0_ := Aside0.mk (blk_grown (g := gb113) (o := .cells #[.int .u8 0, .slice none 0 0, .string (⟨#[]⟩ : ByteArray)] 50 (0, 0)) (by (with_reducible repeat (first | refine blk_drewN ?_ _ | refine blk_drew ?_ | refine blk_alloc ?_ _)); exact BK113.out) hg (Kd.R_ne HO_117001.out BK113.out (by decide))); have n1_ := Aside0.mk (blk_grown (g := gb116) (o := .cells #[.int .u8 ((Int.tmod (rd l0 a1) 256) % 256), u117001, .string x117002_4] 50 (0, 0)) (by (with_reducible repeat (first | refine blk_drewN ?_ _ | refine blk_drew ?_ | refine blk_alloc ?_ _)); exact BK116.out) hg (Kd.R_ne HO_117001.out BK116.out (by decide))); have n2_ := Aside0.mk (hb); have n3_ := Aside0.mk (ho); clear BK113; clear BK116; clear HB; clear HO_117001; have BK113 := n0_; have BK116 := n1_; have HB := n2_; have HO120 := n3_; clear n0_ n1_ n2_ n3_; clear ho hb hg hat; obtain ⟨Ao43, co43, eo43⟩ := Kd.R_slice HO120.out; subst eo43; have hcz44_0 : w42.cell? ⟨gb116, 0, none⟩ = some (.int .u8 ((Int.tmod (rd l0 a1) 256) % 256)) := (blk_cell BK116.out 0).trans rfl; have hcz44_1 : w42.cell? ⟨gb116, 1, none⟩ = some (u117001) := (blk_cell BK116.out 1).trans rfl; have hcz44_2 : w42.cell? ⟨gb116, 2, none⟩ = some (.string x117002_4) := (blk_cell BK116.out 2).trans rfl; have hfz44_0 := blk_frozen BK116.out 0; have hfz44_1 := blk_frozen BK116.out 1; have hfz44_2 := blk_frozen BK116.out 2))
                                      go_roundg k4
                                      case measure => have := HJ2.out; have := HJ9.out; have := HJ14.out; have := HK4.out; omega
                                      case rel => exact ⟨(wrap64 (x10_4 + 1)), (y118), (x117002_4), (.slice Ao43 y118.length co43), (by first | rfl | (simp; done) | (simp [*]; done)), H', ⟨by have := HJ2.out; have := HJ9.out; have := HJ14.out; have := HK4.out; omega⟩, ⟨by (with_reducible repeat (first | apply Kd.R_alloc | apply Kd.R_drewN | apply Kd.R_drew)); exact Kd.R_mono (Kd.R_far (p := ⟨gb116, 1, none⟩) (Kd.R_types HO120.out BK116.out (by decide)) (fun _ hk => hk.2) (.slice Ao43 y118.length co43)) (fun _ hk => trivial)⟩, ⟨by (with_reducible repeat (first | refine blk_drewN ?_ _ | refine blk_drew ?_ | refine blk_alloc ?_ _)); refine blk_far ?_ NB113_116.out _; (with_reducible repeat (first | refine blk_drewN ?_ _ | refine blk_drew ?_ | refine blk_alloc ?_ _)); exact BK113.out⟩, ⟨by (with_reducible repeat (first | refine blk_drewN ?_ _ | refine blk_drew ?_ | refine blk_alloc ?_ _)); refine blk_put (cs := #[.int .u8 ((Int.tmod (rd l0 a1) 256) % 256), u117001, .string x117002_4]) ?_ 1 _ rfl; (with_reducible repeat (first | refine blk_drewN ?_ _ | refine blk_drew ?_ | refine blk_alloc ?_ _)); exact BK116.out⟩, ⟨by repeat (first | (with_reducible first | exact HB.out | apply below_alloc | apply pw_below_drewN | apply below_drew1 | refine below_set ?_ GE113.out | refine below_set ?_ GE116.out) | exact HB.out)⟩⟩
                                    · rw [if_neg c39] at H
                                      exact absurd H (by simp)
                                · rw [if_neg c26] at H
                                  exact absurd H (by simp)
                              · rw [if_neg c25] at H
                                exact absurd H (by simp)
                            · rw [if_neg c23] at H
                              have c23b0 : decide (x10_4 < x9_14) = false := decide_eq_false c23
                              clear c23
                              simp only [Option.some.injEq, Prod.mk.injEq] at H
                              obtain ⟨rfl, rfl, rfl, rfl⟩ := H
                              have hnb45 := NB116_113.out
                              have hnc45 := NB113_116.out
                              have hcz46_0 : wr.cell? ⟨gb116, 0, none⟩ = some (.int .u8 ((Int.tmod (rd l0 a1) 256) % 256)) := (blk_cell BK116.out 0).trans rfl
                              have hcz46_1 : wr.cell? ⟨gb116, 1, none⟩ = some (u117001) := (blk_cell BK116.out 1).trans rfl
                              have hcz46_2 : wr.cell? ⟨gb116, 2, none⟩ = some (.string x117002_4) := (blk_cell BK116.out 2).trans rfl
                              have hfz46_0 := blk_frozen BK116.out 0
                              have hfz46_1 := blk_frozen BK116.out 1
                              have hfz46_2 := blk_frozen BK116.out 2
                              have hcz47_0 : wr.cell? ⟨gb113, 0, none⟩ = some (.int .u8 0) := (blk_cell BK113.out 0).trans rfl
                              have hcz47_1 : wr.cell? ⟨gb113, 1, none⟩ = some (.slice none 0 0) := (blk_cell BK113.out 1).trans rfl
                              have hcz47_2 : wr.cell? ⟨gb113, 2, none⟩ = some (.string (⟨#[]⟩ : ByteArray)) := (blk_cell BK113.out 2).trans rfl
                              have hfz47_0 := blk_frozen BK113.out 0
                              have hfz47_1 := blk_frozen BK113.out 1
                              have hfz47_2 := blk_frozen BK113.out 2
                              obtain ⟨Ao48, co48, eo48⟩ := Kd.R_slice HO_117001.out
                              subst eo48
                              go_wp2
                              refine bodyPost_ret (results_ct rfl _ _ gb113 50 #[.int .u8 ((Int.tmod (rd l0 a1) 256) % 256), .slice Ao48 x117001_4.length co48, .string x117002_4] (0, 0) _ rfl (by (with_reducible repeat (first | refine blk_drewN ?_ _ | refine blk_drew ?_ | refine blk_alloc ?_ _)); refine blk_put (cs := #[.int .u8 ((Int.tmod (rd l0 a1) 256) % 256), .slice Ao48 x117001_4.length co48, .string (⟨#[]⟩ : ByteArray)]) ?_ 2 _ rfl; (with_reducible repeat (first | refine blk_drewN ?_ _ | refine blk_drew ?_ | refine blk_alloc ?_ _)); refine blk_put (cs := #[.int .u8 ((Int.tmod (rd l0 a1) 256) % 256), .slice none 0 0, .string (⟨#[]⟩ : ByteArray)]) ?_ 1 _ rfl; (with_reducible repeat (first | refine blk_drewN ?_ _ | refine blk_drew ?_ | refine blk_alloc ?_ _)); refine blk_put (cs := #[.int .u8 0, .slice none 0 0, .string (⟨#[]⟩ : ByteArray)]) ?_ 0 _ rfl; (with_reducible repeat (first | refine blk_drewN ?_ _ | refine blk_drew ?_ | refine blk_alloc ?_ _)); exact BK113.out) Tryd.underlying50 rfl (by kernel_rfl)) rfl ?_
                              exact ⟨_, by first | rfl | (simp [errW_none, errW_some] <;> rfl) | (simp [*, errW_none, errW_some] <;> rfl), by (with_reducible repeat (first | apply Kd.R_alloc | apply Kd.R_drewN | apply Kd.R_drew)); exact Kd.R_mono (Kd.R_far (p := ⟨gb113, 2, none⟩) (Kd.R_far (p := ⟨gb113, 1, none⟩) (Kd.R_far (p := ⟨gb113, 0, none⟩) (Kd.R_types HO_117001.out BK113.out (by decide)) (fun _ hk => hk.2) (.int .u8 ((Int.tmod (rd l0 a1) 256) % 256))) (fun _ hk => hk.2) (.slice Ao48 x117001_4.length co48)) (fun _ hk => hk.2) (.string x117002_4)) (fun _ hk => trivial), by repeat (first | (with_reducible first | exact HB.out | apply below_alloc | apply pw_below_drewN | apply below_drew1 | refine below_set ?_ GE113.out | refine below_set ?_ GE116.out) | exact HB.out)⟩
          · rw [if_neg c9] at H
            exact absurd H (by simp)
        · rw [if_neg c8] at H
          exact absurd H (by simp)

end Go.Proofs.YtbpbhipjpjjcaaaDoor.PHeapTwice
