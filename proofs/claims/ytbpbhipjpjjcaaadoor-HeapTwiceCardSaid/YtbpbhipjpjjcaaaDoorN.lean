import Derived.Test.YtbpbhipjpjjcaaaDoorK
import Derived.Deep.RegionHeld3
namespace Go.Proofs.YtbpbhipjpjjcaaaDoor
open Go.RowKit Go.Proofs.YtbpbhipjpjjcaaaDoorW.PrintWords Go.Proofs.YtbpbhipjpjjcaaaDoorW.PrintLast
set_option linter.unusedVariables false
set_option linter.unusedSimpArgs false

/-! ## append([]Word(nil), l...) -/
theorem op_clone {W : World} {v : Value} {m : List Int} {o : Oper} {a : Act} {K : Act → World → Prop} {Q : Exit → Act → World → Prop} (hown : W.ownsRow 0 23 1 v m.length (nums .u64 m)) (hsm : m.length ≤ 1048576)
    (s x : Operand) (ho : o.op = .call { callee := .builtin .append, args := #[s, x], argTypes := #[34, 34] }) (hs : a.eval s = .slice none 0 0) (hx : a.eval x = v)
    (hK : ∀ A' c' w', w'.ownsRow W.heap.size 23 1 (.slice A' m.length c') m.length (nums .u64 m) → Below W.heap.size W w' → K (a.put o.dst (.slice A' m.length c')) w') :
    o.wp Tryd.prog a W K Q := by
  obtain ⟨i0, hi, hz0, hz1, hz2⟩ := info_parts info23
  unfold Oper.wp execOp
  rcases hown.2 with ⟨rfl, hn⟩ | ⟨g, cap, cur, rfl, hb, hg, hnc, hcm, hcs, htake⟩
  · have hr := run_append_owned_none (P := Tryd.prog) W 0 34 o.type 23 i0 1 Tryd.underlying34 hi (.slice none 0 0) 0 [] (World.ownsRow_nil W 0 23 1)
    simp only [ho, resolve, invoke, builtin, Sem.run_bind, Sem.run_pure, Result.andThen_ok, List.map_toArray, List.map_cons, List.map_nil, hs, hx, hr]
    have hm : m = [] := List.eq_nil_of_length_eq_zero hn
    subst hm
    exact hK none 0 W (World.ownsRow_nil W W.heap.size 23 1) (Below.refl _ _)
  · obtain ⟨v', w', hr, hown', hgr, _, hat⟩ := run_append_own_at (P := Tryd.prog) W W.heap.size 34 o.type 23 i0 (.int .u64 0) 1 8 Tryd.underlying34 hi hz0 hz1 hz2 rfl (by decide) (.slice none 0 0) 0 [] (World.ownsRow_nil W W.heap.size 23 1)
      ⟨g, 0, none⟩ m.length cap (nums .u64 m) (by rw [nums_length, Nat.mul_one]) (hown.cells (g := g) rfl)
      (fun u hu => by obtain ⟨y, _, rfl⟩ := List.mem_map.1 hu; rfl) (by unfold maxLen; omega) (by omega) (Nat.le_refl _)
    simp only [ho, resolve, invoke, builtin, Sem.run_bind, Sem.run_pure, Result.andThen_ok, List.map_toArray, List.map_cons, List.map_nil, hs, hx, hr]
    simp only [Nat.zero_add, List.nil_append] at hown'
    obtain ⟨A', c', rfl, _⟩ := own_reads hown'
    exact hK A' c' w' hown' ((Below.refl _ _).grown hgr (Nat.le_refl _) (fun k hk => by simp [Value.ownBlock] at hk))
theorem wp_clone {W : World} {v : Value} {m : List Int} {ops : Array Oper} {rest : List Oper} {o : Oper} {a : Act} {Q : Exit → Act → World → Prop} (hown : W.ownsRow 0 23 1 v m.length (nums .u64 m)) (hsm : m.length ≤ 1048576)
    (hgd : o.guard = none) (s x : Operand) (ho : o.op = .call { callee := .builtin .append, args := #[s, x], argTypes := #[34, 34] }) (hs : a.eval s = .slice none 0 0) (hx : a.eval x = v)
    (hK : ∀ A' c' w', w'.ownsRow W.heap.size 23 1 (.slice A' m.length c') m.length (nums .u64 m) → Below W.heap.size W w' → wpList Tryd.prog ops Q rest (a.put o.dst (.slice A' m.length c')) w') :
    wpList Tryd.prog ops Q (o :: rest) a W :=
  wpList_plain hgd fun K hK2 => op_clone hown hsm s x ho hs hx (fun A' c' w' h1 h2 => hK2 _ _ (hK A' c' w' h1 h2))
theorem step_clone {W : World} {v : Value} {m : List Int} {ops : Array Oper} {o : Oper} {a : Act} {K : Act → World → Prop} {Q : Exit → Act → World → Prop} {E : Prop} (hown : W.ownsRow 0 23 1 v m.length (nums .u64 m)) (hsm : m.length ≤ 1048576)
    (hgd : o.guard = none) (s x : Operand) (ho : o.op = .call { callee := .builtin .append, args := #[s, x], argTypes := #[34, 34] }) (hs : a.eval s = .slice none 0 0) (hx : a.eval x = v)
    (hK : ∀ A' c' w', w'.ownsRow W.heap.size 23 1 (.slice A' m.length c') m.length (nums .u64 m) → Below W.heap.size W w' → K (a.put o.dst (.slice A' m.length c')) w') :
    if Region.wanted o (yielded ops a.tmps) = true then Oper.wp Tryd.prog o a W K Q else E := by
  rw [if_pos (by simp [Region.wanted, hgd])]
  exact op_clone hown hsm s x ho hs hx hK

section
variable {b : Nat} {v : Value} {m : List Int} {q c : Int}
set_option maxRecDepth 100000 in
set_option maxHeartbeats 1000000 in
theorem c16 (w : World) (hh : HpIs w b v m q c) : Calls Tryd.prog 16 #[.pointer (some ⟨b, 0, none⟩)] w fun e w' => ∃ A' c', e = .returned (.slice A' m.length c') ∧ w'.ownsRow w.heap.size 23 1 (.slice A' m.length c') m.length (nums .u64 m) ∧ Below w.heap.size w w' := by
  have hc0 := hh.cell0
  have HR := Lib.hid hh.row
  have hsm := hh.small
  clear hh
  obtain ⟨A, cp, rfl, _⟩ := own_reads HR.out
  go_enter Tryd.func16, Tryd.ntmps16
  go_wp2_with (at_builtin; refine wp_clone HR.out hsm rfl _ (.tmp 8) rfl rfl rfl ?_; intro A' c' w1 h1 h2)
  have H1 := Lib.hid h1
  have H2 := Lib.hid h2
  clear h1 h2
  go_wp2
  go_ret
  exact ⟨A', c', rfl, H1.out, H2.out⟩
set_option maxRecDepth 100000 in
set_option maxHeartbeats 1000000 in
theorem c14 (w : World) (hh : HpIs w b v m q c) : Calls Tryd.prog 14 #[.pointer (some ⟨b, 0, none⟩)] w fun e w' => ∃ b2 v2, e = .returned (.pointer (some ⟨b2, 0, none⟩)) ∧ HpIs w' b2 v2 m q c ∧ Below w.heap.size w w' ∧ w.heap.size ≤ b2 ∧ ∀ k, v2.ownBlock = some k → w.heap.size ≤ k := by
  have hc0 := hh.cell0
  have hc1 := hh.cell1
  have hc2 := hh.cell2
  have HR := Lib.hid hh.row
  have HD := Lib.hid hh.wd
  have hlt := hh.lt
  have hsm := hh.small
  clear hh
  obtain ⟨A, cp, rfl, _⟩ := own_reads HR.out
  go_enter Tryd.func14, Tryd.ntmps14
  go_wp2_with fail
  go_region_held3 (fun w' => w'.cell? ⟨b, 0, none⟩ = some (.slice A m.length cp) ∧ w'.cell? ⟨b, 1, none⟩ = some (.int .i64 q) ∧ w'.cell? ⟨b, 2, none⟩ = some (.int .i64 c))
    (first | exact ⟨(H2.out.cell (p := ⟨b, 0, none⟩) hlt).trans hc0, (H2.out.cell (p := ⟨b, 1, none⟩) hlt).trans hc1, (H2.out.cell (p := ⟨b, 2, none⟩) hlt).trans hc2⟩ | go_keep)
    ((refine step_clone (W := w.drew) HR.out hsm rfl _ (.tmp 8) rfl rfl rfl ?_; intro A' c' w1 h1 h2; have H1 := Lib.hid h1; have H2 := Lib.hid h2; clear h1 h2))
  go_wp2
  go_ret
  have hsz := H2.out.size
  refine ⟨w1.heap.size, .slice A' m.length c', rfl, ⟨heap_alloc_new w1 _, own_weaken (H1.out.alloc _) (Nat.zero_le _), hsm, HD.out⟩, (below_drew (Below.refl _ _)).trans (H2.out.alloc hsz _), hsz, fun k hk => ?_⟩
  exact (H1.out.lt k hk).1
end
end Go.Proofs.YtbpbhipjpjjcaaaDoor
