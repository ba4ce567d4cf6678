import Derived.Test.YtbpbhipjpjjcaaaDoorR
import Derived.Test.YtbpbhipjpjjcaaaDoorGg
import Derived.BigGuardPart
namespace Go.Proofs.YtbpbhipjpjjcaaaDoor
open Go.RowKit Go.Proofs.YtbpbhipjpjjcaaaDoorW.PrintWords Go.Proofs.YtbpbhipjpjjcaaaDoorW.PrintLast
set_option linter.unusedVariables false
set_option linter.unusedSimpArgs false

theorem rd_gd (m : List Int) (a : Nat) : rd m (a : Int) = Gc.gd m a := by unfold rd Gc.gd; rw [Int.toNat_natCast]
/-! ## size -/
theorem need_val (m : List Int) (a : Nat) (hw : Wd m) (hsm : m.length ≤ 1048576) (h : a + Gc.sz m a ≤ m.length) : PHeapPlays.heap_Need.f (rd m (a : Int) % 256) (wrap64 (rd m (a : Int) / 256)) = some (Gc.sz m a : Int) := by
  have hb := hw.at_ (a : Int)
  rw [rd_gd] at hb ⊢
  unfold Gc.sz Gc.np at *
  unfold PHeapPlays.heap_Need.f
  generalize Gc.gd m a = g at *
  have e1 : wrap64 (g / 256) = g / 256 := by unfold wrap64; omega
  rw [e1]
  by_cases hk : g % 256 = 3
  · rw [if_pos hk] at h
    rw [if_pos hk, if_pos hk]
    have h7 : g / 256 + 7 < 9000000 := by omega
    have e2 : wrap64 (g / 256 + 7) = g / 256 + 7 := by unfold wrap64; omega
    have e3 : Int.tdiv (g / 256 + 7) 8 = (g / 256 + 7) / 8 := Int.tdiv_eq_ediv_of_nonneg (by omega)
    rw [e2, e3]
    have e4 : wrap64 ((g / 256 + 7) / 8) = (g / 256 + 7) / 8 := by unfold wrap64; omega
    have e5 : wrap64 (1 + (g / 256 + 7) / 8) = 1 + (g / 256 + 7) / 8 := by unfold wrap64; omega
    rw [e4, e5]
    congr 1
    omega
  · rw [if_neg hk] at h
    rw [if_neg hk, if_neg hk]
    have e5 : wrap64 (1 + g / 256) = 1 + g / 256 := by unfold wrap64; omega
    rw [e5]
    congr 1
    omega
theorem size_val (m : List Int) (a : Nat) (hw : Wd m) (hsm : m.length ≤ 1048576) (h : a + Gc.sz m a ≤ m.length) : PHeapPlays.heap_size.f m (a : Int) = some (Gc.sz m a : Int) := by
  have hp := Gc.sz_pos m a
  unfold PHeapPlays.heap_size.f
  rw [if_pos (by omega), if_pos (by omega), need_val m a hw hsm h]
  rfl
theorem c43 (w : World) (A : Option Addr) (n c base : Nat) (m : List Int) (a : Nat) (hr : w.ownsRow base 23 1 (.slice A n c) n (nums .u64 m)) (hw : Wd m) (hsm : m.length ≤ 1048576) (h : a + Gc.sz m a ≤ m.length) :
    Calls Tryd.prog 43 #[.slice A n c, .int .i64 (a : Int)] w fun e w' => e = .returned (.int .i64 (Gc.sz m a : Int)) ∧ Drawn0 w w' := by
  obtain ⟨hn, hlc, hC⟩ := C_own hr
  subst hn
  exact PHeapPlays.heap_size.calls A c m (a : Int) _ w hC hlc (size_val m a hw hsm h)

/-- The three variables that 'move' captures, and their rows: the old words, where each object went, the new words. -/
structure Gs (w : World) (o mo t : Nat) (A : Option Addr) (cp gm gt cap : Nat) (m mv tw : List Int) : Prop where
  ho : w.heap[o]? = some (.cells #[.slice A m.length cp] 34 (0, 0))
  hm : w.heap[mo]? = some (.cells #[.slice (some ⟨gm, 0, none⟩) m.length m.length] 34 (0, 0))
  ht : w.heap[t]? = some (.cells #[.slice (some ⟨gt, 0, none⟩) tw.length cap] 34 (0, 0))
  row : w.ownsRow 0 23 1 (.slice A m.length cp) m.length (nums .u64 m)
  rmv : w.ownsRow 0 23 1 (.slice (some ⟨gm, 0, none⟩) m.length m.length) m.length (nums .u64 mv)
  rto : w.ownsRow 0 23 1 (.slice (some ⟨gt, 0, none⟩) tw.length cap) tw.length (nums .u64 tw)
  hcap : m.length ≤ cap
  hcap2 : cap ≤ 1048576
  ne1 : gm ≠ gt
  ne2 : ∀ g, (Value.slice A m.length cp).ownBlock = some g → g ≠ gm ∧ g ≠ gt
  ne3 : o ≠ mo ∧ o ≠ t ∧ mo ≠ t
  small : m.length ≤ 1048576
  wd : Wd m
  wdm : Wd mv
  wdt : Wd tw
section
variable {w : World} {o mo t : Nat} {A : Option Addr} {cp gm gt cap : Nat} {m mv tw : List Int}
theorem Gs.mvlen (h : Gs w o mo t A cp gm gt cap m mv tw) : mv.length = m.length := by have := h.rmv.1; simpa [nums] using this
theorem row_typed {w : World} {g base n cap : Nat} {l : List Value} (h : w.ownsRow base 23 1 (.slice (some ⟨g, 0, none⟩) n cap) n l) : ∃ c, w.heap[g]? = some (.cells c 23 (0, 0)) := own_typed h g rfl
/-- A variable's block is no row's. -/
theorem blk_ne {w : World} {g b base n cap : Nat} {c : Array Value} {l : List Value} (h : w.ownsRow base 23 1 (.slice (some ⟨g, 0, none⟩) n cap) n l) (hb : w.heap[b]? = some (.cells c 34 (0, 0))) : b ≠ g := by
  rintro rfl
  obtain ⟨c2, h2⟩ := row_typed h
  rw [hb] at h2
  injection h2 with h2
  injection h2 with _ h2
  exact absurd h2 (by decide)
theorem blk_cell0 {w : World} {b : Nat} {v : Value} {ty : Nat} (hb : w.heap[b]? = some (.cells #[v] ty (0, 0))) : w.cell? ⟨b, 0, none⟩ = some v := by simp [World.cell?, hb]
theorem blk_free {w : World} {b : Nat} {c : Array Value} {ty : Nat} (hb : w.heap[b]? = some (.cells c ty (0, 0))) (i : Nat) : w.frozen? ⟨b, i, none⟩ = false := by simp [World.frozen?, hb]
theorem Gs.drewN (h : Gs w o mo t A cp gm gt cap m mv tw) (n : Nat) : Gs (w.drewN n) o mo t A cp gm gt cap m mv tw :=
  ⟨h.ho, h.hm, h.ht, h.row, h.rmv, h.rto, h.hcap, h.hcap2, h.ne1, h.ne2, h.ne3, h.small, h.wd, h.wdm, h.wdt⟩
theorem Gs.drew (h : Gs w o mo t A cp gm gt cap m mv tw) : Gs w.drew o mo t A cp gm gt cap m mv tw :=
  ⟨h.ho, h.hm, h.ht, h.row, h.rmv, h.rto, h.hcap, h.hcap2, h.ne1, h.ne2, h.ne3, h.small, h.wd, h.wdm, h.wdt⟩
/-- Other blocks turn. -/
theorem Gs.chg {w' : World} {S : Nat → Prop} (h : Gs w o mo t A cp gm gt cap m mv tw) (hk : Chg S w w') (hS : ¬ S o ∧ ¬ S mo ∧ ¬ S t ∧ ¬ S gm ∧ ¬ S gt ∧ ∀ g, (Value.slice A m.length cp).ownBlock = some g → ¬ S g) : Gs w' o mo t A cp gm gt cap m mv tw := by
  obtain ⟨s1, s2, s3, s4, s5, s6⟩ := hS
  have lt1 : ∀ {b : Nat} {x : Obj}, w.heap[b]? = some x → b < w.heap.size := fun hx => (Array.getElem?_eq_some_iff.1 hx).1
  refine ⟨(hk.block o (lt1 h.ho) s1).trans h.ho, (hk.block mo (lt1 h.hm) s2).trans h.hm, (hk.block t (lt1 h.ht) s3).trans h.ht, own_move h.row (fun g hg => hk.block g (own_lt h.row g hg) (s6 g hg)), own_move h.rmv (fun g hg => ?_), own_move h.rto (fun g hg => ?_), h.hcap, h.hcap2, h.ne1, h.ne2, h.ne3, h.small, h.wd, h.wdm, h.wdt⟩
  · have e : gm = g := by simpa [Value.ownBlock] using hg
    subst e
    exact hk.block _ (own_lt h.rmv _ hg) s4
  · have e : gt = g := by simpa [Value.ownBlock] using hg
    subst e
    exact hk.block _ (own_lt h.rto _ hg) s5
end
end Go.Proofs.YtbpbhipjpjjcaaaDoor
namespace Go.Proofs.YtbpbhipjpjjcaaaDoor
open Go.RowKit Go.Proofs.YtbpbhipjpjjcaaaDoorW.PrintWords Go.Proofs.YtbpbhipjpjjcaaaDoorW.PrintLast
set_option linter.unusedVariables false
set_option linter.unusedSimpArgs false

section
variable {w : World} {o mo t : Nat} {A : Option Addr} {cp gm gt cap : Nat} {m mv tw : List Int}
set_option maxRecDepth 100000 in
set_option maxHeartbeats 1000000 in
theorem c42_odd (p : Addr) (x : Int) (w : World) (o mo t : Nat) (hx : w.cell? p = some (.int .u64 x)) (h0 : 0 ≤ x) (h1 : x < 18446744073709551616) (he : x % 2 = 1) :
    Calls Tryd.prog 42 #[.pointer (some p), .pointer (some ⟨o, 0, none⟩), .pointer (some ⟨mo, 0, none⟩), .pointer (some ⟨t, 0, none⟩)] w fun e w' => e = .returned (.tuple #[]) ∧ Drawn0 w w' := by
  have C11 := Lib.hid (fun n => c11_odd x (w.drewN n) h0 h1 he)
  clear he
  go_enter Tryd.func42, Tryd.ntmps42
  go_wp2_with fail
  go_quiet ((go_at_call 11; exact quietS (C11.out _)))
  go_wp2
  refine bodyPost_ret (results_none rfl _ _ _) rfl ?_
  exact ⟨rfl, ⟨_, rfl⟩⟩
set_option maxRecDepth 100000 in
set_option maxHeartbeats 1000000 in
theorem c42_far (p : Addr) (x : Int) (w : World) (hx : w.cell? p = some (.int .u64 x)) (h0 : 0 ≤ x) (h1 : x < 18446744073709551616) (he : x % 2 = 0) (hg : Gs w o mo t A cp gm gt cap m mv tw) (hf : (m.length : Int) ≤ x / 2) :
    Calls Tryd.prog 42 #[.pointer (some p), .pointer (some ⟨o, 0, none⟩), .pointer (some ⟨mo, 0, none⟩), .pointer (some ⟨t, 0, none⟩)] w fun e w' => e = .returned (.tuple #[]) ∧ Drawn0 w w' := by
  have C11 := Lib.hid (fun n => c11_even x (w.drewN n) h0 h1 he)
  have hco := blk_cell0 hg.ho
  have hsm := hg.small
  clear he hg
  go_enter Tryd.func42, Tryd.ntmps42
  go_wp2_with fail
  go_quiet ((go_at_call 11; exact quietS (C11.out _)))
  go_wp2
  refine bodyPost_ret (results_none rfl _ _ _) rfl ?_
  exact ⟨rfl, ⟨_, rfl⟩⟩
set_option maxRecDepth 100000 in
set_option maxHeartbeats 1000000 in
theorem c42_old (p : Addr) (x : Int) (a : Nat) (w : World) (hx : w.cell? p = some (.int .u64 x)) (hfp : w.frozen? p = false) (h0 : 0 ≤ x) (h1 : x < 18446744073709551616) (he : x % 2 = 0) (hg : Gs w o mo t A cp gm gt cap m mv tw) (ha : x / 2 = a) (hf : a < m.length) (y : Int) (hy : Gc.gd mv a = y + 1) (hy2 : y % 2 = 0) (hy0 : 0 ≤ y) :
    Calls Tryd.prog 42 #[.pointer (some p), .pointer (some ⟨o, 0, none⟩), .pointer (some ⟨mo, 0, none⟩), .pointer (some ⟨t, 0, none⟩)] w fun e w' => e = .returned (.tuple #[]) ∧ ∃ n, w' = (w.drewN n).setCell p (.int .u64 y) := by
  have C11 := Lib.hid (fun n => c11_even x (w.drewN n) h0 h1 he)
  have hco := blk_cell0 hg.ho
  have hcm := blk_cell0 hg.hm
  have hsm := hg.small
  have hml := hg.mvlen
  have hyb := hg.wdm.at_ (a : Int)
  rw [rd_gd, hy] at hyb
  have hcell : w.cell? ⟨gm, a, none⟩ = some (.int .u64 (y + 1)) := by
    rw [hg.rmv.cellAt a (by omega)]
    unfold nums
    rw [List.getElem?_map, List.getElem?_eq_getElem (by omega)]
    unfold Gc.gd at hy
    rw [List.getD_eq_getElem?_getD, List.getElem?_eq_getElem (by omega)] at hy
    exact congrArg (fun z => some (Value.int .u64 z)) hy
  have hat : (x / 2).toNat = a := by omega
  rw [← hat] at hcell
  have hx20 : 0 ≤ x / 2 := by omega
  clear hat
  have hne0 : (y + 1 == 0) = false := by rw [beq_eq_false_iff_ne]; omega
  have hand : bits .andNot .u64 (y + 1) 1 = y := by rw [andNot1 _ (by omega) (by omega)]; omega
  have Hand := Lib.hid hand
  have ha1 : x / 2 < (m.length : Int) := by omega
  have Ha := Lib.hid ha
  clear he hg hy ha hand
  go_enter Tryd.func42, Tryd.ntmps42
  go_wp2_with fail
  go_quiet ((go_at_call 11; exact quietS (C11.out _)))
  go_wp2
  refine bodyPost_end (results_none rfl _ _ _) rfl ?_
  exact ⟨rfl, nq, by rw [Hand.out]⟩
theorem Gs.setMv (h : Gs w o mo t A cp gm gt cap m mv tw) (a : Nat) (y : Int) (hy : 0 ≤ y ∧ y < 18446744073709551616) : Gs (w.setCell ⟨gm, a, none⟩ (.int .u64 y)) o mo t A cp gm gt cap m (mv.set a y) tw := by
  have n1 : o ≠ gm := blk_ne h.rmv h.ho
  have n2 : mo ≠ gm := blk_ne h.rmv h.hm
  have n3 : t ≠ gm := blk_ne h.rmv h.ht
  refine ⟨(set_far w ⟨gm, a, none⟩ _ o n1).trans h.ho, (set_far w ⟨gm, a, none⟩ _ mo n2).trans h.hm, (set_far w ⟨gm, a, none⟩ _ t n3).trans h.ht, own_setCell h.row (fun e => (h.ne2 gm e.symm).1 rfl) _, ?_, own_setCell h.rto (fun e => h.ne1 (by simpa [Value.ownBlock] using e)) _, h.hcap, h.hcap2, h.ne1, h.ne2, h.ne3, h.small, h.wd, ?_, h.wdt⟩
  · have := (h.rmv.stored a (.int .u64 y)).1
    simpa [nums, List.map_set] using this
  · intro x hx
    rcases List.mem_or_eq_of_mem_set hx with h2 | h2
    · exact h.wdm x h2
    · exact h2 ▸ hy
/-- An object is appended to the new words. -/
theorem Gs.app {w1 : World} (h : Gs w o mo t A cp gm gt cap m mv tw) (l : List Int) (hl : Wd l) (hr : w1.ownsRow 0 23 1 (.slice (some ⟨gt, 0, none⟩) (tw.length + l.length) cap) (tw.length + l.length) (nums .u64 tw ++ nums .u64 l)) (hg : w.grownBy w1 (some gt)) (v : Value) (hv : v = .slice (some ⟨gt, 0, none⟩) (tw ++ l).length cap) :
    Gs (w1.setCell ⟨t, 0, none⟩ v) o mo t A cp gm gt cap m mv (tw ++ l) := by
  have lt1 : ∀ {b : Nat} {x : Obj}, w.heap[b]? = some x → b < w.heap.size := fun hx => (Array.getElem?_eq_some_iff.1 hx).1
  have n1 : o ≠ gt := blk_ne h.rto h.ho
  have n2 : mo ≠ gt := blk_ne h.rto h.hm
  have n3 : t ≠ gt := blk_ne h.rto h.ht
  have n4 : t ≠ gm := blk_ne h.rmv h.ht
  have b1 : w1.heap[o]? = _ := (hg.block o (lt1 h.ho) (fun e => n1 (by simpa using e))).trans h.ho
  have b2 : w1.heap[mo]? = _ := (hg.block mo (lt1 h.hm) (fun e => n2 (by simpa using e))).trans h.hm
  have b3 : w1.heap[t]? = _ := (hg.block t (lt1 h.ht) (fun e => n3 (by simpa using e))).trans h.ht
  have r1 := own_other h.row hg (by
    rcases hv2 : (Value.slice A m.length cp).ownBlock with _ | g
    · exact .inl rfl
    · exact .inr (fun e => (h.ne2 g hv2).2 (by simpa using e)))
  have r2 := own_other h.rmv hg (.inr (by simp only [Value.ownBlock]; exact fun e => h.ne1 (by simpa using e)))
  have nt : ∀ {base n : Nat} {u : Value} {c : List Value}, w1.ownsRow base 23 1 u n c → some t ≠ u.ownBlock := by
    intro base n u c hu e
    obtain ⟨c2, h2⟩ := own_typed hu t e.symm
    rw [b3] at h2
    injection h2 with h2
    injection h2 with _ h2
    exact absurd h2 (by decide)
  refine ⟨(set_far w1 ⟨t, 0, none⟩ _ o h.ne3.2.1).trans b1, (set_far w1 ⟨t, 0, none⟩ _ mo h.ne3.2.2).trans b2, by rw [hv]; simpa using blk_set b3 0 (.slice (some ⟨gt, 0, none⟩) (tw ++ l).length cap), own_setCell r1 (nt r1) _, own_setCell r2 (nt r2) _, ?_, h.hcap, h.hcap2, h.ne1, h.ne2, h.ne3, h.small, h.wd, h.wdm, ?_⟩
  · rw [List.length_append, nums_append]
    exact own_setCell hr (nt hr) _
  · intro x hx
    rcases List.mem_append.1 hx with hx | hx
    · exact h.wdt x hx
    · exact hl x hx
theorem run_app {a : Act} {oi : Oper} {W W' : World} {V X v' : Value} (s x : Operand) (ho : oi.op = .call { callee := .builtin .append, args := #[s, x], argTypes := #[34, 34] }) (hs : a.eval s = V) (hx : a.eval x = X)
    (hrun : (Builtin.append_ #[34, 34] oi.type #[V, X]).run Tryd.prog W = .ok v' W') : (execOp a.eval oi).run Tryd.prog W = .ok (.value v') W' := by
  unfold execOp
  simp only [ho, resolve, invoke, builtin, Sem.run_bind, Sem.run_pure, Result.andThen_ok, List.map_toArray, List.map_cons, List.map_nil, hs, hx, hrun]
theorem raw_wd (hm : Wd m) (a : Nat) : Wd ((m.drop a).take (Gc.sz m a)) := fun x hx => hm x (List.mem_of_mem_drop (List.mem_of_mem_take hx))
set_option maxRecDepth 100000 in
set_option maxHeartbeats 2000000 in
theorem c42_new (p : Addr) (x : Int) (a : Nat) (w : World) (hx : w.cell? p = some (.int .u64 x)) (hfp : w.frozen? p = false) (h0 : 0 ≤ x) (h1 : x < 18446744073709551616) (he : x % 2 = 0) (hg : Gs w o mo t A cp gm gt cap m mv tw) (ha : x / 2 = a) (hsz : a + Gc.sz m a ≤ m.length) (hy : Gc.gd mv a = 0) (hroom : tw.length + Gc.sz m a ≤ cap)
    (hpm : p.block ≠ gm ∧ p.block ≠ t) (hpt : p.block ≠ gt ∨ ∃ k, p = ⟨gt, k, none⟩ ∧ k < tw.length) :
    Calls Tryd.prog 42 #[.pointer (some p), .pointer (some ⟨o, 0, none⟩), .pointer (some ⟨mo, 0, none⟩), .pointer (some ⟨t, 0, none⟩)] w fun e w' => e = .returned (.tuple #[]) ∧
      ∃ w1, Gs w1 o mo t A cp gm gt cap m (mv.set a (2 * (tw.length : Int) + 1)) (tw ++ (m.drop a).take (Gc.sz m a)) ∧ Chg (fun k => k = gm ∨ k = t ∨ k = gt) w w1 ∧ w1.frozen? p = false ∧ w' = w1.setCell p (.int .u64 (2 * (tw.length : Int))) := by
  have C11 := Lib.hid (fun n => c11_even x (w.drewN n) h0 h1 he)
  have hsp := Gc.sz_pos m a
  have hco := blk_cell0 hg.ho
  have hcm := blk_cell0 hg.hm
  have hct := blk_cell0 hg.ht
  have hft := blk_free hg.ht 0
  have hsm := hg.small
  have hml := hg.mvlen
  have htl : tw.length ≤ 1048576 := by have := hg.hcap2; omega
  have hcell : w.cell? ⟨gm, a, none⟩ = some (.int .u64 0) := by
    rw [hg.rmv.cellAt a (by omega)]
    unfold nums
    rw [List.getElem?_map, List.getElem?_eq_getElem (by omega)]
    unfold Gc.gd at hy
    rw [List.getD_eq_getElem?_getD, List.getElem?_eq_getElem (by omega)] at hy
    exact congrArg (fun z => some (Value.int .u64 z)) hy
  have hfm := hg.rmv.frozenAt a
  have hat : (x / 2).toNat = a := by omega
  rw [← hat] at hcell hfm
  have hx20 : 0 ≤ x / 2 := by omega
  have ha1 : x / 2 < (m.length : Int) := by omega
  have hor : bits .or .u64 ((tw.length : Int) * 2) 1 = 2 * (tw.length : Int) + 1 := by rw [or1 _ (by omega) (by omega) (by omega)]; omega
  have Hor := Lib.hid hor
  have Ha := Lib.hid ha
  have Hat := Lib.hid hat
  have HG := Lib.hid hg
  have HP := Lib.hid hpm
  have HPT := Lib.hid hpt
  clear he hg hy ha hor hat hpm hpt hml
  go_enter Tryd.func42, Tryd.ntmps42
  go_wp2_with fail
  go_quiet ((go_at_call 11; exact quietS (C11.out _)))
  go_wp2
  have HG2 : Hid (Gs ((w.drewN nq).setCell ⟨gm, (x / 2).toNat, none⟩ (.int .u64 (bits .or .u64 ((tw.length : Int) * 2) 1))) o mo t A cp gm gt cap m (mv.set a (2 * (tw.length : Int) + 1)) tw) := by
    rw [Hor.out, Hat.out]
    exact (HG.out.drewN nq).setMv a _ (by omega)
  have HC2 : Hid (Chg (fun k => k = gm ∨ k = t ∨ k = gt) w ((w.drewN nq).setCell ⟨gm, (x / 2).toNat, none⟩ (.int .u64 (bits .or .u64 ((tw.length : Int) * 2) 1)))) := ((Chg.refl _ _).drewN nq).setCell (p := ⟨gm, (x / 2).toNat, none⟩) (.inl (.inl rfl)) _
  generalize (w.drewN nq).setCell ⟨gm, (x / 2).toNat, none⟩ (.int .u64 (bits .or .u64 ((tw.length : Int) * 2) 1)) = W at HG2 HC2 ⊢
  clear hcell hfm hco hcm hct hft
  have hxa : x / 2 = (a : Int) := Ha.out
  rw [hxa] at *
  clear hxa
  have hco2 := blk_cell0 HG2.out.drew.ho
  have hct2 := blk_cell0 HG2.out.drew.ht
  obtain ⟨g0, c0, hform, _⟩ := HG2.out.row.form (by omega)
  injection hform with hA _ hcc
  subst hA
  subst hcc
  have HL : Hid ((nums .u64 ((m.drop a).take (Gc.sz m a))).length = Gc.sz m a * 1) := Lib.hid (by rw [nums_length, List.length_take, List.length_drop]; omega)
  have HCELL : Hid (∀ n j u, (nums .u64 ((m.drop a).take (Gc.sz m a)))[j]? = some u → (W.drew.drewN n).cell? ((⟨g0, a, none⟩ : Addr).add j) = some u) := Lib.hid (fun n j u hu => by
    have hj : j < Gc.sz m a := by
      have := (List.getElem?_eq_some_iff.1 hu).1
      rw [HL.out] at this
      omega
    have e := HG2.out.row.cellAt (a + j) (by omega)
    have e2 : ((⟨g0, a, none⟩ : Addr).add j) = ⟨g0, a + j, none⟩ := by
      unfold Addr.add
      split
      · next h => rw [h]; rfl
      · rfl
    rw [e2]
    refine e.trans ?_
    rw [← hu]
    unfold nums
    rw [List.getElem?_map, List.getElem?_map, List.getElem?_take, if_pos hj, List.getElem?_drop])
  have HCAP : Hid (m.length ≤ cp) := Lib.hid (C_own HG2.out.row).2.1
  have HW : Hid (IntKind.i64.wrap ((a : Int) + (Gc.sz m a : Int)) = ((a + Gc.sz m a : Nat) : Int)) := Lib.hid ((IntWalk.i64_in _ (by omega)).trans (by omega))
  have HB1 : Hid ((0 : Int) ≤ ((a + Gc.sz m a : Nat) : Int) ∧ ((a + Gc.sz m a : Nat) : Int) ≤ (cp : Int)) := Lib.hid (by have := HCAP.out; omega)
  have HB2 : Hid (a ≤ (((a + Gc.sz m a : Nat) : Int)).toNat) := Lib.hid (by omega)
  have HB3 : Hid (cp ≠ a) := Lib.hid (by have := HCAP.out; omega)
  have HB4 : Hid ((((a + Gc.sz m a : Nat) : Int)).toNat - a = Gc.sz m a) := Lib.hid (by omega)
  -- REGION 4
  refine start_ (n := 11) (S := fun w' => w'.cell? ⟨o, 0, none⟩ = some (.slice (some ⟨g0, 0, none⟩) m.length cp) ∧ w'.cell? ⟨t, 0, none⟩ = some (.slice (some ⟨gt, 0, none⟩) tw.length cap)) (ds := [9, 10]) #[false, false, false, false, false, false, false, false, false, false, false] (by kernel_rfl) rfl rfl ⟨hco2, hct2⟩ ?_
  intro hHeld
  refine take_ (i := 0) (N := (some 38)) (v := ?_) (a' := ?_) #[true, false, false, false, false, false, false, false, false, false, false] rfl rfl (by kernel_rfl) (fun _ _ _ h => h) (Or.inl ⟨by rfl, ?_⟩) hHeld ?_ ?_
  rotate_left
  · rintro w' ⟨s0, s1⟩
    go_simp
    with_reducible rfl
  rotate_left
  · simp only [Act.put, List.setIfInBounds_toArray, List.set_cons_zero, List.set_cons_succ]
    rfl
  refine take_ (i := 1) (N := (some 39)) (v := ?_) (a' := ?_) #[true, true, false, false, false, false, false, false, false, false, false] rfl rfl (by kernel_rfl) (fun _ _ _ h => h) (Or.inl ⟨by rfl, ?_⟩) hHeld ?_ ?_
  rotate_left
  · rintro w' ⟨s0, s1⟩
    go_simp
    with_reducible rfl
  rotate_left
  · simp only [Act.put, List.setIfInBounds_toArray, List.set_cons_zero, List.set_cons_succ]
    rfl
  refine pure_ (i := 2) (N := (some 40)) (v := ?_) (a' := ?_) #[true, true, true, false, false, false, false, false, false, false, false] rfl rfl (by kernel_rfl) (fun _ _ _ h => h) (Or.inl ⟨by rfl, ?_⟩) ?_ ?_
  rotate_left
  · intro w'
    go_simp
    with_reducible rfl
  rotate_left
  · simp only [Act.put, List.setIfInBounds_toArray, List.set_cons_zero, List.set_cons_succ]
    rfl
  refine pure_ (i := 3) (N := (some 41)) (v := ?_) (a' := ?_) #[true, true, true, true, false, false, false, false, false, false, false] rfl rfl (by kernel_rfl) (fun _ _ _ h => h) (Or.inl ⟨by rfl, ?_⟩) ?_ ?_
  rotate_left
  · intro w'
    go_simp
    with_reducible rfl
  rotate_left
  · simp only [Act.put, List.setIfInBounds_toArray, List.set_cons_zero, List.set_cons_succ]
    rfl
  refine take_ (i := 4) (N := (some 42)) (v := ?_) (a' := ?_) #[true, true, true, true, true, false, false, false, false, false, false] rfl rfl (by kernel_rfl) (fun _ _ _ h => h) (Or.inl ⟨by rfl, ?_⟩) hHeld ?_ ?_
  rotate_left
  · rintro w' ⟨s0, s1⟩
    go_simp
    with_reducible rfl
  rotate_left
  · simp only [Act.put, List.setIfInBounds_toArray, List.set_cons_zero, List.set_cons_succ]
    rfl
  refine pure_ (i := 5) (N := (some 43)) (v := ?_) (a' := ?_) #[true, true, true, true, true, true, false, false, false, false, false] rfl rfl (by kernel_rfl) (fun _ _ _ h => h) (Or.inl ⟨by rfl, ?_⟩) ?_ ?_
  rotate_left
  · intro w'
    go_simp
    with_reducible rfl
  rotate_left
  · simp only [Act.put, List.setIfInBounds_toArray, List.set_cons_zero, List.set_cons_succ]
    rfl
  refine one_ (i := 6) (N := (some 44)) #[true, true, true, true, true, true, true, false, false, false, false] rfl rfl (by kernel_rfl) (by decide) (fun K hK => ?_)
  refine goes_ Tryd.func43 (by kernel_rfl) (by kernel_rfl) #[.slice (some ⟨g0, 0, none⟩) m.length cp, .int .i64 (a : Int)] (by rfl) rfl rfl (by simp only [List.map_toArray, List.map_cons, List.map_nil]; rfl) ?_
  refine (c43 W.drew (some ⟨g0, 0, none⟩) m.length cp 0 m a HG2.out.drew.row HG2.out.wd HG2.out.small hsz).mono ?_
  rintro e w' ⟨rfl, ⟨nd, rfl⟩⟩
  refine ⟨_, rfl, hK.out _ _ hHeld (fun _ => ?_)⟩
  clear hK K
  refine norm_ (a' := ?_) ?_ ?_
  rotate_left
  · simp only [Act.put, List.setIfInBounds_toArray, List.set_cons_zero, List.set_cons_succ]
    rfl
  refine pure_ (i := 7) (N := (some 45)) (v := ?_) (a' := ?_) #[true, true, true, true, true, true, true, true, false, false, false] rfl rfl (by kernel_rfl) (fun _ _ _ h => h) (Or.inl ⟨by rfl, ?_⟩) ?_ ?_
  rotate_left
  · intro w'
    go_simp
    with_reducible rfl
  rotate_left
  · simp only [Act.put, List.setIfInBounds_toArray, List.set_cons_zero, List.set_cons_succ]
    rfl
  refine pure_ (i := 8) (N := (some 46)) (v := ?_) (a' := ?_) #[true, true, true, true, true, true, true, true, true, false, false] rfl rfl (by kernel_rfl) (fun _ _ _ h => h) (Or.inl ⟨by rfl, ?_⟩) ?_ ?_
  rotate_left
  · intro w'
    go_simp
    rw [HW.out, if_pos HB1.out, if_pos HB2.out, if_neg HB3.out, HB4.out]
  rotate_left
  · simp only [Act.put, List.setIfInBounds_toArray, List.set_cons_zero, List.set_cons_succ]
    rfl
  refine last_ (i := 9) (N := (some 47)) #[true, true, true, true, true, true, true, true, true, true, false] rfl rfl (by kernel_rfl) (by decide) (fun K hK => ?_)
  obtain ⟨i0, hi, hz0, hz1, hz2⟩ := info_parts info23
  obtain ⟨w3, hrun, r1, r2⟩ := run_append_fits (P := Tryd.prog) (W.drew.drewN nd) 0 34 34 23 i0 1 Tryd.underlying34 hi hz1 gt tw.length cap (nums .u64 tw) (HG2.out.drew.drewN nd).rto ⟨g0, a, none⟩ (Gc.sz m a) (cp - a) (nums .u64 ((m.drop a).take (Gc.sz m a))) HL.out (HCELL.out nd) (fun u hu => by obtain ⟨y, _, rfl⟩ := List.mem_map.1 hu; rfl) hroom
  have HR1 := Lib.hid r1
  have HR2 := Lib.hid r2
  refine value_ (w1 := w3) (v := .slice (some ⟨gt, 0, none⟩) (tw.length + Gc.sz m a) cap) (by rfl) rfl (run_app (.tmp 38) (.tmp 46) rfl rfl rfl hrun) ?_
  clear r1 r2 hrun
  refine hK.out _ _ ?_
  clear hK K
  refine norm_ (a' := ?_) ?_ ?_
  rotate_left
  · simp only [Act.put, List.setIfInBounds_toArray, List.set_cons_zero, List.set_cons_succ]
    rfl
  have HG3 : Hid (Gs (w3.setCell ⟨t, 0, none⟩ (.slice (some ⟨gt, 0, none⟩) (tw.length + Gc.sz m a) cap)) o mo t (some ⟨g0, 0, none⟩) cp gm gt cap m (mv.set a (2 * (tw.length : Int) + 1)) (tw ++ (m.drop a).take (Gc.sz m a))) := by
    have hlen : ((m.drop a).take (Gc.sz m a)).length = Gc.sz m a := by rw [List.length_take, List.length_drop]; omega
    refine Gs.app (w1 := w3) (HG2.out.drew.drewN nd) _ (raw_wd HG2.out.wd a) ?_ HR2.out _ (by rw [List.length_append, hlen])
    rw [hlen]
    exact HR1.out
  have hbt : w3.heap[t]? = some (.cells #[.slice (some ⟨gt, 0, none⟩) tw.length cap] 34 (0, 0)) := (HR2.out.block t ((Array.getElem?_eq_some_iff.1 HG2.out.ht).1) (fun e => blk_ne HG2.out.rto HG2.out.ht (by simpa using e))).trans HG2.out.ht
  have hct3 := blk_cell0 hbt
  have hft3 := blk_free hbt 0
  have HC3 : Hid (Chg (fun k => k = gm ∨ k = t ∨ k = gt) w (w3.setCell ⟨t, 0, none⟩ (.slice (some ⟨gt, 0, none⟩) (tw.length + Gc.sz m a) cap))) := (HC2.out.drew.drewN nd |>.grown HR2.out (fun k hk => .inl (by simp at hk; exact .inr (.inr hk.symm)))).setCell (p := ⟨t, 0, none⟩) (.inl (.inr (.inl rfl))) _
  clear hbt
  refine last_ (i := 10) (N := none) #[true, true, true, true, true, true, true, true, true, true, true] rfl rfl (by kernel_rfl) (by decide) (fun K hK => ?_)
  refine skip_ (w1 := ?_) (by rfl) rfl ?_ ?_
  rotate_left
  · go_simp
    rfl
  refine hK.out _ _ ?_
  clear hK K
  refine done_ (by kernel_rfl) ?_
  -- END
  have HE : Hid (∀ v, v = Value.slice (some ⟨gt, 0, none⟩) (tw.length + Gc.sz m a) cap → Gs (w3.setCell ⟨t, 0, none⟩ v) o mo t (some ⟨g0, 0, none⟩) cp gm gt cap m (mv.set a (2 * (tw.length : Int) + 1)) (tw ++ (m.drop a).take (Gc.sz m a)) ∧ Chg (fun k => k = gm ∨ k = t ∨ k = gt) w (w3.setCell ⟨t, 0, none⟩ v)) := Lib.hid (by rintro v rfl; exact ⟨HG3.out, HC3.out⟩)
  obtain ⟨hG4, hC4⟩ := HE.out _ rfl
  have HFZ : Hid ((∃ v, (w3.setCell ⟨t, 0, none⟩ (.slice (some ⟨gt, 0, none⟩) (tw.length + Gc.sz m a) cap)).cell? p = some v) ∧ (w3.setCell ⟨t, 0, none⟩ (.slice (some ⟨gt, 0, none⟩) (tw.length + Gc.sz m a) cap)).frozen? p = false) := Lib.hid (by
    rcases HPT.out with h | ⟨k, rfl, hk⟩
    · have hnS : ¬ (p.block = gm ∨ p.block = t ∨ p.block = gt) := by exact fun h2 => h2.elim HP.out.1 (fun h3 => h3.elim HP.out.2 h)
      have hb := hC4.block p.block (World.block_lt_of_cell? w p hx) hnS
      exact ⟨⟨_, (World.cell?_of_block hb).trans hx⟩, (World.frozen?_of_block hb).trans hfp⟩
    · refine ⟨⟨_, (hG4.rto.cellAt k (by rw [List.length_append]; omega)).trans (List.getElem?_eq_getElem (by rw [nums_length, List.length_append]; omega))⟩, hG4.rto.frozenAt k⟩)
  generalize w3.setCell ⟨t, 0, none⟩ (.slice (some ⟨gt, 0, none⟩) (tw.length + Gc.sz m a) cap) = W4 at hG4 hC4 HFZ ⊢
  have hcm4 := blk_cell0 hG4.hm
  have hcell4 : W4.cell? ⟨gm, a, none⟩ = some (.int .u64 (2 * (tw.length : Int) + 1)) := by
    rw [hG4.rmv.cellAt a (by omega)]
    unfold nums
    have h3 := hG4.mvlen
    rw [List.length_set] at h3
    rw [List.getElem?_map, List.getElem?_set_self (by omega)]
    rfl
  obtain ⟨⟨vp, hcp4⟩, hfp4⟩ := HFZ.out
  have Hand : Hid (bits .andNot .u64 (2 * (tw.length : Int) + 1) 1 = 2 * (tw.length : Int)) := Lib.hid (by rw [andNot1 _ (by omega) (by omega)]; omega)
  have HG4 := Lib.hid hG4
  have HC4 := Lib.hid hC4
  have HFP := Lib.hid hfp4
  clear hG4 hC4
  go_wp2
  refine bodyPost_end (results_none rfl _ _ _) rfl ?_
  refine ⟨rfl, W4, HG4.out, HC4.out, HFP.out, ?_⟩
  rw [Hand.out]
end
end Go.Proofs.YtbpbhipjpjjcaaaDoor
namespace Go.Proofs.YtbpbhipjpjjcaaaDoor
open Go.RowKit Go.Proofs.YtbpbhipjpjjcaaaDoorW.PrintWords Go.Proofs.YtbpbhipjpjjcaaaDoorW.PrintLast
set_option linter.unusedVariables false
set_option linter.unusedSimpArgs false

theorem setCell_same {w : World} {p : Addr} {v : Value} (h : w.cell? p = some v) : w.setCell p v = w := by
  obtain ⟨b, i, s⟩ := p
  unfold World.cell? at h
  have e : w.heap.modify b (fun x => match x with | .cells c elem frozen => .cells (if s.isSome then c else c.setIfInBounds i v) elem frozen | o => o) = w.heap := by
    refine Array.ext_getElem? fun k => ?_
    rw [Array.getElem?_modify]
    by_cases hk : b = k
    · subst hk
      rw [if_pos rfl]
      rcases hb : w.heap[b]? with _ | ob
      · rfl
      · rw [Option.map_some]
        dsimp only at h
        rw [hb] at h
        cases ob with
        | cells c elem fr =>
          dsimp only at h ⊢
          by_cases hs : s.isSome = true
          · rw [if_pos hs]
          · rw [if_neg hs] at h ⊢
            have e2 : c.setIfInBounds i v = c := by
              refine Array.ext_getElem? fun k2 => ?_
              rw [Array.getElem?_setIfInBounds]
              by_cases h2 : i = k2
              · subst h2
                obtain ⟨h3, h4⟩ := Array.getElem?_eq_some_iff.1 h
                rw [if_pos rfl, if_pos h3, h]
              · rw [if_neg h2]
            rw [e2]
        | _ => rfl
    · rw [if_neg hk]
  unfold World.setCell
  exact congrArg (fun h => { w with heap := h }) e

/-! ## Rows of words, of which some cells have been turned -/
def turn (vis : List Addr) (f : Int → Int) (g : Nat) (l : List Int) : List Int := l.mapIdx fun k x => if (⟨g, k, none⟩ : Addr) ∈ vis then f x else x
theorem turn_length (vis : List Addr) (f : Int → Int) (g : Nat) (l : List Int) : (turn vis f g l).length = l.length := by simp [turn]
theorem turn_get (vis : List Addr) (f : Int → Int) (g : Nat) (l : List Int) (k : Nat) : (turn vis f g l)[k]? = (l[k]?).map fun x => if (⟨g, k, none⟩ : Addr) ∈ vis then f x else x := by simp [turn]
theorem turn_nil (f : Int → Int) (g : Nat) (l : List Int) : turn [] f g l = l := by
  refine List.ext_getElem? fun k => ?_
  rw [turn_get]
  simp
def Rows (vis : List Addr) (f : Int → Int) (w W : World) : Prop :=
  ∀ (g n cp : Nat) (l : List Int), w.ownsRow 0 23 1 (.slice (some ⟨g, 0, none⟩) n cp) n (nums .u64 l) → W.ownsRow 0 23 1 (.slice (some ⟨g, 0, none⟩) n cp) n (nums .u64 (turn vis f g l))
theorem Rows.refl (f : Int → Int) (w : World) : Rows [] f w w := fun g n cp l h => by rw [turn_nil]; exact h
theorem own_block (g n cp : Nat) : Value.ownBlock (.slice (some ⟨g, 0, none⟩) n cp) = some g := rfl
theorem Rows.move {vis : List Addr} {f : Int → Int} {w W W' : World} (h : Rows vis f w W) (hk : ∀ k, k < w.heap.size → W'.heap[k]? = W.heap[k]?) : Rows vis f w W' :=
  fun g n cp l hr => own_move (h g n cp l hr) (fun k e => hk k (own_lt hr k e))
theorem row_word {w : World} {g n cp k : Nat} {l : List Int} {x : Int} (hr : w.ownsRow 0 23 1 (.slice (some ⟨g, 0, none⟩) n cp) n (nums .u64 l)) (hk : k < l.length) (hx : w.cell? ⟨g, k, none⟩ = some (.int .u64 x)) : l[k]? = some x := by
  have hl : l.length = n := by have := hr.1; simpa [nums] using this
  have e := (hr.cellAt k (by omega)).symm.trans hx
  unfold nums at e
  rw [List.getElem?_map, List.getElem?_eq_getElem hk] at e
  rw [List.getElem?_eq_getElem hk]
  injection e with e
  injection e with _ e
  rw [e]
theorem Rows.set {vis : List Addr} {f : Int → Int} {w W : World} (h : Rows vis f w W) {g0 k0 : Nat} {x : Int} (hx : w.cell? ⟨g0, k0, none⟩ = some (.int .u64 x)) (hv : (⟨g0, k0, none⟩ : Addr) ∉ vis) :
    Rows (vis ++ [⟨g0, k0, none⟩]) f w (W.setCell ⟨g0, k0, none⟩ (.int .u64 (f x))) := by
  intro g n cp l hr
  have h1 := h g n cp l hr
  by_cases hg : g = g0
  · subst hg
    have h2 := (h1.stored k0 (.int .u64 (f x))).1
    have e : (nums .u64 (turn vis f g l)).set k0 (.int .u64 (f x)) = nums .u64 (turn (vis ++ [⟨g, k0, none⟩]) f g l) := by
      unfold nums
      rw [← List.map_set]
      congr 1
      refine List.ext_getElem? fun k => ?_
      rw [List.getElem?_set, turn_get, turn_get, turn_length]
      by_cases hk : k0 = k
      · subst hk
        rw [if_pos rfl]
        by_cases hlt : k0 < l.length
        · rw [if_pos hlt, row_word hr hlt hx]
          simp
        · rw [if_neg hlt, List.getElem?_eq_none (by omega)]
          rfl
      · rw [if_neg hk]
        congr 1
        funext y
        have : ((⟨g, k, none⟩ : Addr) ∈ vis ++ [⟨g, k0, none⟩]) ↔ ((⟨g, k, none⟩ : Addr) ∈ vis) := by
          simp only [List.mem_append, List.mem_singleton, Addr.mk.injEq, true_and, and_true]
          exact ⟨fun h => h.elim id (fun e => absurd e.symm hk), .inl⟩
        simp only [this]
    rw [← e]
    exact h2
  · have e : turn (vis ++ [⟨g0, k0, none⟩]) f g l = turn vis f g l := by
      unfold turn
      congr 1
      funext k y
      have : ((⟨g, k, none⟩ : Addr) ∈ vis ++ [⟨g0, k0, none⟩]) ↔ ((⟨g, k, none⟩ : Addr) ∈ vis) := by
        simp only [List.mem_append, List.mem_singleton, Addr.mk.injEq]
        exact ⟨fun h => h.elim id (fun e => absurd e.1 hg), .inl⟩
      simp only [this]
    rw [e]
    exact own_setCell h1 (fun e => hg (by rw [own_block] at e; injection e with e; exact e.symm)) _
theorem Rows.as {vis : List Addr} {f f' : Int → Int} {w W : World} (h : Rows vis f w W) (he : ∀ p ∈ vis, ∀ x, w.cell? p = some (.int .u64 x) → f x = f' x) : Rows vis f' w W := by
  intro g n cp l hr
  have h1 := h g n cp l hr
  have hl : l.length = n := by have := hr.1; simpa [nums] using this
  have e : turn vis f g l = turn vis f' g l := by
    refine List.ext_getElem? fun k => ?_
    rw [turn_get, turn_get]
    by_cases hk : k < l.length
    · rw [List.getElem?_eq_getElem hk]
      simp only [Option.map_some]
      congr 1
      split
      · next hv =>
        refine he _ hv _ ?_
        rw [hr.cellAt k (by omega)]
        unfold nums
        rw [List.getElem?_map, List.getElem?_eq_getElem hk]
        rfl
      · rfl
    · rw [List.getElem?_eq_none (by omega)]
      rfl
  rw [← e]
  exact h1

section
variable {w : World} {o mo t : Nat} {A : Option Addr} {cp gm gt cap : Nat} {m mv tw : List Int}
/-- A part of the new words is turned. -/
theorem Gs.setTo (h : Gs w o mo t A cp gm gt cap m mv tw) (a : Nat) (y : Int) (hy : 0 ≤ y ∧ y < 18446744073709551616) : Gs (w.setCell ⟨gt, a, none⟩ (.int .u64 y)) o mo t A cp gm gt cap m mv (tw.set a y) := by
  have n1 : o ≠ gt := blk_ne h.rto h.ho
  have n2 : mo ≠ gt := blk_ne h.rto h.hm
  have n3 : t ≠ gt := blk_ne h.rto h.ht
  refine ⟨(set_far w ⟨gt, a, none⟩ _ o n1).trans h.ho, (set_far w ⟨gt, a, none⟩ _ mo n2).trans h.hm, ?_, own_setCell h.row (fun e => (h.ne2 gt e.symm).2 rfl) _, own_setCell h.rmv (fun e => h.ne1 (by simpa [Value.ownBlock] using e.symm)) _, ?_, h.hcap, h.hcap2, h.ne1, h.ne2, h.ne3, h.small, h.wd, h.wdm, ?_⟩
  · rw [List.length_set]
    exact (set_far w ⟨gt, a, none⟩ _ t n3).trans h.ht
  · have := (h.rto.stored a (.int .u64 y)).1
    rw [List.length_set]
    simpa [nums, List.map_set] using this
  · intro x hx
    rcases List.mem_or_eq_of_mem_set hx with h2 | h2
    · exact h.wdt x h2
    · exact h2 ▸ hy
/-- What the collector has come to. -/
structure Col (w : World) (o mo t : Nat) (A : Option Addr) (cp gm gt : Nat) (m : List Int) (St ord : List Nat) (mv tw : List Int) : Prop where
  gs : Gs w o mo t A cp gm gt m.length m mv tw
  mv : Gc.Mv m ord mv
  wf : Gc.Wf m St
  nd : ord.Nodup
  sub : ∀ a ∈ ord, a ∈ St
  tl : tw.length = Gc.total m ord
theorem Col.lt {St ord : List Nat} (h : Col w o mo t A cp gm gt m St ord mv tw) : ∀ a ∈ St, a < m.length := fun a ha => by have := h.wf.lay.mem a ha; have := Gc.sz_pos m a; omega
theorem Col.in_ {St ord : List Nat} (h : Col w o mo t A cp gm gt m St ord mv tw) : Gc.In m ord := fun a ha => (h.wf.lay.mem a (h.sub a ha)).2.1
theorem c42_step {St ord : List Nat} (p : Addr) (x : Int) (w : World) (h : Col w o mo t A cp gm gt m St ord mv tw) (hx : w.cell? p = some (.int .u64 x)) (hfp : w.frozen? p = false) (h0 : 0 ≤ x) (h1 : x < 18446744073709551616) (hok : Gc.Ok St x)
    (hpm : p.block ≠ gm ∧ p.block ≠ t) (hpt : p.block ≠ gt ∨ ∃ k, p = ⟨gt, k, none⟩ ∧ k < tw.length) :
    Calls Tryd.prog 42 #[.pointer (some p), .pointer (some ⟨o, 0, none⟩), .pointer (some ⟨mo, 0, none⟩), .pointer (some ⟨t, 0, none⟩)] w fun e w' => e = .returned (.tuple #[]) ∧
      ∃ W1 mv1 l2, Col W1 o mo t A cp gm gt m St (ord ++ l2) mv1 (tw ++ Gc.R m l2) ∧ Gc.visit m ord x = ord ++ l2 ∧ Chg (fun k => k = gm ∨ k = t ∨ k = gt) w W1 ∧ W1.frozen? p = false ∧ w' = W1.setCell p (.int .u64 (Gc.remap m (ord ++ l2) x)) := by
  have hlt := h.lt
  have hIn := h.in_
  obtain ⟨_, vn, vs, _⟩ := Gc.visit_spec hok hlt h.nd h.sub
  have hodd : x % 2 = 1 → Gc.visit m ord x = ord → Calls Tryd.prog 42 #[.pointer (some p), .pointer (some ⟨o, 0, none⟩), .pointer (some ⟨mo, 0, none⟩), .pointer (some ⟨t, 0, none⟩)] w fun e w' => e = .returned (.tuple #[]) ∧
      ∃ W1 mv1 l2, Col W1 o mo t A cp gm gt m St (ord ++ l2) mv1 (tw ++ Gc.R m l2) ∧ Gc.visit m ord x = ord ++ l2 ∧ Chg (fun k => k = gm ∨ k = t ∨ k = gt) w W1 ∧ W1.frozen? p = false ∧ w' = W1.setCell p (.int .u64 (Gc.remap m (ord ++ l2) x)) := by
    intro k1 k2
    refine (c42_odd p x w o mo t hx h0 h1 k1).mono ?_
    rintro e w' ⟨rfl, n, rfl⟩
    refine ⟨rfl, w.drewN n, mv, [], ?_, by rw [k2, List.append_nil], (Chg.refl _ _).drewN n, hfp, ?_⟩
    · simp only [List.append_nil, Gc.R, List.map_nil, List.flatten_nil]
      exact ⟨h.gs.drewN n, h.mv, h.wf, h.nd, h.sub, h.tl⟩
    · rw [List.append_nil, Gc.remap_odd k1]
      exact (setCell_same (w := w.drewN n) hx).symm
  rcases Gc.visit_cases (m := m) (ord := ord) h0 with ⟨k1, k2⟩ | ⟨k1, k2⟩ | ⟨k1, k2, k3, k4⟩ | ⟨k1, k2, k3, k4⟩
  · exact hodd k1 k2
  · rcases hok with h3 | ⟨a, ha, rfl⟩
    · exact hodd h3 k2
    · have := hlt a ha
      omega
  · have hg := h.mv.2 (x / 2).toNat (by omega)
    rw [if_pos k3] at hg
    refine (c42_old p x (x / 2).toNat w hx hfp h0 h1 k1 h.gs (by omega) (by omega) _ hg (by omega) (by omega)).mono ?_
    rintro e w' ⟨rfl, n, rfl⟩
    refine ⟨rfl, w.drewN n, mv, [], ?_, by rw [k4, List.append_nil], (Chg.refl _ _).drewN n, hfp, ?_⟩
    · simp only [List.append_nil, Gc.R, List.map_nil, List.flatten_nil]
      exact ⟨h.gs.drewN n, h.mv, h.wf, h.nd, h.sub, h.tl⟩
    · rw [List.append_nil, Gc.remap_even h0 k1 k3]
  · have hg := h.mv.2 (x / 2).toNat (by omega)
    rw [if_neg k3] at hg
    rw [k4] at vn vs
    have hmem : (x / 2).toNat ∈ St := vs _ (by simp)
    have hsz := (h.wf.lay.mem _ hmem).2.1
    have hsum := Gc.sum_le (f := Gc.sz m) vn vs
    have hall := h.wf.lay.sum
    have htot : Gc.total m (ord ++ [(x / 2).toNat]) ≤ m.length := by unfold Gc.total; omega
    rw [Gc.total_append] at htot
    have h1' : Gc.total m [(x / 2).toNat] = Gc.sz m (x / 2).toNat := by simp [Gc.total]
    rw [h1'] at htot
    refine (c42_new p x (x / 2).toNat w hx hfp h0 h1 k1 h.gs (by omega) hsz hg (by rw [h.tl]; exact htot) hpm hpt).mono ?_
    rintro e w' ⟨rfl, W1, hg1, hc1, hf1, rfl⟩
    refine ⟨rfl, W1, mv.set (x / 2).toNat (2 * (tw.length : Int) + 1), [(x / 2).toNat], ⟨?_, ?_, h.wf, vn, vs, ?_⟩, k4, hc1, hf1, ?_⟩
    · have e : Gc.R m [(x / 2).toNat] = (m.drop (x / 2).toNat).take (Gc.sz m (x / 2).toNat) := by
        unfold Gc.R
        rw [List.map_singleton, List.flatten_cons, List.flatten_nil, List.append_nil, Gc.raw_eq hsz]
      rw [e]
      exact hg1
    · rw [h.tl]
      exact h.mv.add (by omega) k3
    · rw [List.length_append, h.tl, Gc.total_append, Gc.R_length (fun a ha => by rw [List.mem_singleton.1 ha]; exact hsz)]
    · rw [Gc.remap_even h0 k1 (by simp), Gc.npos_new k3, h.tl]
end
end Go.Proofs.YtbpbhipjpjjcaaaDoor
namespace Go.Proofs.YtbpbhipjpjjcaaaDoor
open Go.RowKit Go.Proofs.YtbpbhipjpjjcaaaDoorW.PrintWords Go.Proofs.YtbpbhipjpjjcaaaDoorW.PrintLast
set_option linter.unusedVariables false
set_option linter.unusedSimpArgs false

namespace Gc
theorem R_drop {m : Ws} {ord : List Nat} {i : Nat} (h : i < ord.length) : R m (ord.drop i) = raw m ord[i] ++ R m (ord.drop (i + 1)) := by
  unfold R
  rw [List.drop_eq_getElem_cons h, List.map_cons, List.flatten_cons]
theorem total_take {m : Ws} {ord : List Nat} {i : Nat} (h : i < ord.length) : total m (ord.take (i + 1)) = total m (ord.take i) + sz m ord[i] := by
  rw [List.take_succ_eq_append_getElem h, total_append]
  simp [total]
theorem total_split (m : Ws) (ord : List Nat) (i : Nat) : total m ord = total m (ord.take i) + total m (ord.drop i) := by
  rw [← total_append, List.take_append_drop]
theorem length_le_total (m : Ws) (ord : List Nat) : ord.length ≤ total m ord := by
  induction ord with
  | nil => simp
  | cons a l ih =>
    have := sz_pos m a
    simp only [total, List.map_cons, List.sum_cons, List.length_cons] at *
    omega
theorem set_mid (X P Q Y : Ws) (h x y : Int) : (X ++ (h :: (P ++ x :: Q)) ++ Y).set (X.length + 1 + P.length) y = X ++ (h :: (P ++ y :: Q)) ++ Y := by
  refine List.ext_getElem? fun k => ?_
  rw [List.getElem?_set]
  by_cases hk : X.length + 1 + P.length = k
  · subst hk
    rw [if_pos rfl, if_pos (by simp; omega)]
    rw [List.append_assoc, List.getElem?_append_right (by omega)]
    have e : X.length + 1 + P.length - X.length = P.length + 1 := by omega
    rw [e, List.cons_append, List.getElem?_cons_succ, List.append_assoc, List.getElem?_append_right (by omega), Nat.sub_self]
    rfl
  · rw [if_neg hk]
    have key : ∀ z : Int, (X ++ (h :: (P ++ z :: Q)) ++ Y) = (X ++ h :: P) ++ (z :: (Q ++ Y)) := fun z => by simp
    rw [key, key]
    by_cases h1 : k < (X ++ h :: P).length
    · rw [List.getElem?_append_left h1, List.getElem?_append_left h1]
    · rw [List.getElem?_append_right (by omega), List.getElem?_append_right (by omega)]
      have h2 : k - (X ++ h :: P).length ≠ 0 := by simp at h1 ⊢; omega
      obtain ⟨j, hj⟩ := Nat.exists_eq_succ_of_ne_zero h2
      rw [hj]
      rfl
end Gc

/-- Where roots stand, and what they are. -/
structure Roots (w : World) (v : Value) (St : List Nat) (ads : List Addr) (rts : List Int) : Prop where
  nd : ads.Nodup
  len : rts.length = ads.length
  row : ∀ i, (h : i < ads.length) → ∃ g n cp l k, ads[i] = ⟨g, k, none⟩ ∧ w.ownsRow 0 23 1 (.slice (some ⟨g, 0, none⟩) n cp) n (nums .u64 l) ∧ k < n ∧ v.ownBlock ≠ some g
  val : ∀ i, (h : i < ads.length) → (h2 : i < rts.length) → w.cell? ads[i] = some (.int .u64 rts[i])
  wd : Wd rts
  ok : ∀ x ∈ rts, Gc.Ok St x
section
variable {w0 W : World} {o mo t : Nat} {A : Option Addr} {cp gm gt : Nat} {m mv tw : List Int} {St ord : List Nat} {ads : List Addr} {rts : List Int} {n0 c0 : Nat}
theorem Col.chg {W' : World} {S : Nat → Prop} (h : Col W o mo t A cp gm gt m St ord mv tw) (hk : Chg S W W') (hS : ¬ S o ∧ ¬ S mo ∧ ¬ S t ∧ ¬ S gm ∧ ¬ S gt ∧ ∀ g, (Value.slice A m.length cp).ownBlock = some g → ¬ S g) : Col W' o mo t A cp gm gt m St ord mv tw :=
  ⟨h.gs.chg hk hS, h.mv, h.wf, h.nd, h.sub, h.tl⟩
/-- The blocks of the collector's own are new. -/
def New (w0 : World) (o mo t gm gt : Nat) : Prop := w0.heap.size ≤ o ∧ w0.heap.size ≤ mo ∧ w0.heap.size ≤ t ∧ w0.heap.size ≤ gm ∧ w0.heap.size ≤ gt
structure L1 (w0 W : World) (o mo t : Nat) (A : Option Addr) (cp gm gt : Nat) (m : List Int) (St : List Nat) (ads : List Addr) (rts : List Int) (i : Nat) (mv : List Int) : Prop where
  col : Col W o mo t A cp gm gt m St (Gc.visits m [] (rts.take i)) mv (Gc.R m (Gc.visits m [] (rts.take i)))
  rows : Rows (ads.take i) (Gc.remap m (Gc.visits m [] (rts.take i))) w0 W
  chg : Chg (fun k => ∃ p ∈ ads, p.block = k) w0 W
theorem Roots.addr {v : Value} (hR : Roots w0 v St ads rts) {p : Addr} (hp : p ∈ ads) : ∃ i, ∃ (h : i < ads.length) (h2 : i < rts.length), ads[i] = p ∧ w0.cell? p = some (.int .u64 rts[i]) ∧ rts[i] ∈ rts := by
  obtain ⟨i, hi, rfl⟩ := List.mem_iff_getElem.1 hp
  have h2 : i < rts.length := by have := hR.len; omega
  exact ⟨i, hi, h2, rfl, hR.val i hi h2, List.getElem_mem h2⟩
theorem Roots.block {v : Value} (hR : Roots w0 v St ads rts) {p : Addr} (hp : p ∈ ads) : p.block < w0.heap.size ∧ v.ownBlock ≠ some p.block := by
  obtain ⟨i, hi, rfl⟩ := List.mem_iff_getElem.1 hp
  obtain ⟨g, n, c, l, k, e, hr, hk, hv⟩ := hR.row i hi
  rw [e]
  exact ⟨own_lt hr g rfl, hv⟩
theorem Roots.far {v : Value} (hR : Roots w0 v St ads rts) (hN : New w0 o mo t gm gt) (hv : v = .slice A n0 c0) {p : Addr} (hp : p ∈ ads) :
    ¬ (o = p.block) ∧ ¬ (mo = p.block) ∧ ¬ (t = p.block) ∧ ¬ (gm = p.block) ∧ ¬ (gt = p.block) ∧ ∀ g, (Value.slice A n0 c0).ownBlock = some g → ¬ (g = p.block) := by
  obtain ⟨h1, h2⟩ := hR.block hp
  obtain ⟨n1, n2, n3, n4, n5⟩ := hN
  subst hv
  exact ⟨by omega, by omega, by omega, by omega, by omega, fun g hg e => h2 (hg.trans (by rw [e]))⟩
theorem L1.next {v : Value} {i : Nat} (hR : Roots w0 v St ads rts) (hN : New w0 o mo t gm gt) (hv : v = .slice A m.length cp) (h : L1 w0 W o mo t A cp gm gt m St ads rts i mv) (hi : i < ads.length) :
    Calls Tryd.prog 42 #[.pointer (some ads[i]), .pointer (some ⟨o, 0, none⟩), .pointer (some ⟨mo, 0, none⟩), .pointer (some ⟨t, 0, none⟩)] W fun e w' => e = .returned (.tuple #[]) ∧ ∃ mv', L1 w0 w' o mo t A cp gm gt m St ads rts (i + 1) mv' := by
  have hi2 : i < rts.length := by have := hR.len; omega
  obtain ⟨g, n, c, l, k, e, hr, hk, hvg⟩ := hR.row i hi
  have hval := hR.val i hi hi2
  have hmem : ads[i] ∈ ads := List.getElem_mem hi
  have hfar := hR.far hN hv hmem
  have hl : l.length = n := by have := hr.1; simpa [nums] using this
  have hnot : ads[i] ∉ ads.take i := by
    intro h2
    obtain ⟨j, hj, e2⟩ := List.mem_iff_getElem.1 h2
    rw [List.getElem_take] at e2
    rw [List.length_take] at hj
    have := (List.getElem_inj hR.nd).1 e2
    omega
  have hx0 := hR.wd rts[i] (List.getElem_mem hi2)
  have hok := hR.ok rts[i] (List.getElem_mem hi2)
  rw [e] at hval hnot hfar ⊢
  have hrow := h.rows g n c l hr
  have hcell : W.cell? ⟨g, k, none⟩ = some (.int .u64 rts[i]) := by
    rw [hrow.cellAt k (by omega)]
    unfold nums
    rw [List.getElem?_map, turn_get, row_word hr (by omega) hval]
    simp only [Option.map_some]
    rw [if_neg hnot]
  refine (c42_step ⟨g, k, none⟩ rts[i] W h.col hcell (hrow.frozenAt k) hx0.1 hx0.2 hok ⟨fun e => hfar.2.2.2.1 e.symm, fun e => hfar.2.2.1 e.symm⟩ (.inl fun e => hfar.2.2.2.2.1 e.symm)).mono ?_
  rintro e w' ⟨rfl, W1, mv1, l2, hc1, hvis, hch, hf1, rfl⟩
  have hv1 : Gc.visits m [] (rts.take (i + 1)) = Gc.visits m [] (rts.take i) ++ l2 := by
    rw [List.take_succ_eq_append_getElem hi2, Gc.visits_snoc, hvis]
  obtain ⟨_, _, _, hcl⟩ := Gc.visits_spec (ord := []) h.col.lt (fun x hx => hR.ok x (List.mem_of_mem_take hx)) List.nodup_nil (fun a ha => by cases ha) (xs := rts.take i)
  have hfun : ∀ p ∈ ads.take i, ∀ x, w0.cell? p = some (.int .u64 x) → Gc.remap m (Gc.visits m [] (rts.take i)) x = Gc.remap m (Gc.visits m [] (rts.take i) ++ l2) x := by
    intro p hp x hx
    obtain ⟨j, hj, rfl⟩ := List.mem_iff_getElem.1 hp
    rw [List.length_take] at hj
    rw [List.getElem_take, hR.val j (by omega) (by omega)] at hx
    injection hx with hx
    injection hx with _ hx
    subst hx
    refine (Gc.remap_append (hcl _ ?_)).symm
    exact List.mem_iff_getElem.2 ⟨j, by rw [List.length_take]; omega, by rw [List.getElem_take]⟩
  refine ⟨rfl, mv1, ?_, ?_, ?_⟩
  · rw [hv1, Gc.R_append]
    refine Col.chg (S := fun k => k = g) hc1 ?_ hfar
    exact Chg.setCell (S := fun k => k = g) (Chg.refl _ _) (p := ⟨g, k, none⟩) (.inl rfl) _
  · rw [hv1, List.take_succ_eq_append_getElem hi, e]
    refine Rows.set (Rows.move (Rows.as h.rows hfun) (fun k hk => hch.block k (Nat.lt_of_lt_of_le hk h.chg.size) ?_)) hval hnot
    obtain ⟨n1, n2, n3, n4, n5⟩ := hN
    rintro (h2 | h2 | h2) <;> omega
  · refine Chg.setCell (h.chg.then_ hch (fun k hk => .inr ?_)) (p := ⟨g, k, none⟩) (.inl ⟨ads[i], hmem, by rw [e]⟩) _
    obtain ⟨n1, n2, n3, n4, n5⟩ := hN
    rcases hk with h2 | h2 | h2 <;> omega
/-! ## The second pass -/
structure L2 (w0 W : World) (o mo t : Nat) (A : Option Addr) (cp gm gt : Nat) (m : List Int) (St : List Nat) (ads : List Addr) (rts : List Int) (i : Nat) (ord : List Nat) (mv tw : List Int) : Prop where
  col : Col W o mo t A cp gm gt m St ord mv tw
  rows : Rows ads (Gc.remap m ord) w0 W
  chg : Chg (fun k => ∃ p ∈ ads, p.block = k) w0 W
  cl : ∀ x ∈ rts, x % 2 = 1 ∨ (x / 2).toNat ∈ ord
  clp : ∀ a ∈ ord.take i, Gc.Cl ord (Gc.parts m a)
  ile : i ≤ ord.length
  fin : Gc.scan m (m.length + 1 - i) i ord = Gc.order m rts
  tws : tw = Gc.D m ord i ++ Gc.R m (ord.drop i)
theorem L1.to2 {v : Value} (hR : Roots w0 v St ads rts) (h : L1 w0 W o mo t A cp gm gt m St ads rts ads.length mv) : ∃ ord tw, L2 w0 W o mo t A cp gm gt m St ads rts 0 ord mv tw := by
  obtain ⟨_, _, _, hcl⟩ := Gc.visits_spec (ord := []) h.col.lt (fun x hx => hR.ok x hx) List.nodup_nil (fun a ha => by cases ha) (xs := rts)
  have e : rts.take ads.length = rts := by rw [← hR.len, List.take_length]
  have e2 : ads.take ads.length = ads := List.take_length
  obtain ⟨h1, h2, h3⟩ := h
  rw [e] at h1 h2
  rw [e2] at h2
  exact ⟨_, _, h1, h2, h3, hcl, fun a ha => by simp at ha, Nat.zero_le _, rfl, by rw [Gc.D_zero, List.drop_zero, List.nil_append]⟩
structure L3 (w0 W : World) (o mo t : Nat) (A : Option Addr) (cp gm gt : Nat) (m : List Int) (St : List Nat) (ads : List Addr) (rts : List Int) (i j a : Nat) (ord : List Nat) (mv tw : List Int) : Prop where
  col : Col W o mo t A cp gm gt m St ord mv tw
  rows : Rows ads (Gc.remap m ord) w0 W
  chg : Chg (fun k => ∃ p ∈ ads, p.block = k) w0 W
  cl : ∀ x ∈ rts, x % 2 = 1 ∨ (x / 2).toNat ∈ ord
  clp : ∀ b ∈ ord.take i, Gc.Cl ord (Gc.parts m b)
  at_ : ord[i]? = some a
  kind : ¬ Gc.gd m a % 256 = 3
  jle : j ≤ (Gc.body m a).length
  clj : Gc.Cl ord ((Gc.body m a).take j)
  fin : Gc.scan m (m.length + 1 - (i + 1)) (i + 1) (Gc.visits m ord ((Gc.body m a).drop j)) = Gc.order m rts
  tws : tw = Gc.D m ord i ++ (Gc.gd m a :: (((Gc.body m a).take j).map (Gc.remap m ord) ++ (Gc.body m a).drop j)) ++ Gc.R m (ord.drop (i + 1))
theorem Col.drewN (h : Col W o mo t A cp gm gt m St ord mv tw) (n : Nat) : Col (W.drewN n) o mo t A cp gm gt m St ord mv tw := ⟨h.gs.drewN n, h.mv, h.wf, h.nd, h.sub, h.tl⟩
theorem L2.drewN {i : Nat} (h : L2 w0 W o mo t A cp gm gt m St ads rts i ord mv tw) (n : Nat) : L2 w0 (W.drewN n) o mo t A cp gm gt m St ads rts i ord mv tw :=
  ⟨h.col.drewN n, h.rows.move (fun k hk => rfl), h.chg.drewN n, h.cl, h.clp, h.ile, h.fin, h.tws⟩
theorem gd_sz {l : List Int} {p a : Nat} {m : List Int} (h : l[p]? = some (Gc.gd m a)) : Gc.sz l p = Gc.sz m a := by
  unfold Gc.sz
  congr 2
  show l.getD p 0 = _
  rw [List.getD_eq_getElem?_getD, h]
  rfl
theorem L2.small {i : Nat} (h : L2 w0 W o mo t A cp gm gt m St ads rts i ord mv tw) : ord.length ≤ m.length ∧ Gc.total m ord ≤ m.length := by
  have h1 := Gc.sum_le (f := Gc.sz m) h.col.nd h.col.sub
  have h2 := h.col.wf.lay.sum
  have h3 := Gc.length_le_total m ord
  unfold Gc.total at h3 ⊢
  omega
theorem L2.open_ {i : Nat} (h : L2 w0 W o mo t A cp gm gt m St ads rts i ord mv tw) (hi : i < ord.length) (hk : ¬ Gc.gd m ord[i] % 256 = 3) : L3 w0 W o mo t A cp gm gt m St ads rts i 0 ord[i] ord mv tw := by
  have hs := h.small
  refine ⟨h.col, h.rows, h.chg, h.cl, h.clp, List.getElem?_eq_getElem hi, hk, Nat.zero_le _, fun x hx => by simp at hx, ?_, ?_⟩
  · have hf := h.fin
    have e : m.length + 1 - i = (m.length + 1 - (i + 1)) + 1 := by omega
    rw [e, Gc.scan_go hi] at hf
    unfold Gc.parts at hf
    rw [if_neg hk] at hf
    rw [List.drop_zero]
    exact hf
  · rw [h.tws, Gc.R_drop hi]
    simp [Gc.raw]
theorem L2.text {i : Nat} (h : L2 w0 W o mo t A cp gm gt m St ads rts i ord mv tw) (hi : i < ord.length) (hk : Gc.gd m ord[i] % 256 = 3) : L2 w0 W o mo t A cp gm gt m St ads rts (i + 1) ord mv tw := by
  have hs := h.small
  refine ⟨h.col, h.rows, h.chg, h.cl, ?_, hi, ?_, ?_⟩
  · intro a ha
    rw [List.take_succ_eq_append_getElem hi] at ha
    rcases List.mem_append.1 ha with ha | ha
    · exact h.clp a ha
    · rw [List.mem_singleton.1 ha]
      unfold Gc.parts
      rw [if_pos hk]
      intro x hx
      cases hx
  · have hf := h.fin
    have e : m.length + 1 - i = (m.length + 1 - (i + 1)) + 1 := by omega
    rw [e, Gc.scan_go hi] at hf
    unfold Gc.parts at hf
    rw [if_pos hk] at hf
    exact hf
  · rw [h.tws, Gc.R_drop hi, Gc.D_succ hi]
    unfold Gc.moved
    rw [if_pos hk, List.append_assoc]
theorem L3.close {i a : Nat} (h : L3 w0 W o mo t A cp gm gt m St ads rts i (Gc.body m a).length a ord mv tw) : L2 w0 W o mo t A cp gm gt m St ads rts (i + 1) ord mv tw := by
  obtain ⟨hi, ha⟩ := List.getElem?_eq_some_iff.1 h.at_
  refine ⟨h.col, h.rows, h.chg, h.cl, ?_, hi, ?_, ?_⟩
  · intro b hb
    rw [List.take_succ_eq_append_getElem hi] at hb
    rcases List.mem_append.1 hb with hb | hb
    · exact h.clp b hb
    · rw [List.mem_singleton.1 hb, ha]
      unfold Gc.parts
      rw [if_neg h.kind]
      have := h.clj
      rw [List.take_length] at this
      exact this
  · have := h.fin
    rw [List.drop_length] at this
    exact this
  · rw [h.tws, Gc.D_succ hi, ha]
    unfold Gc.moved
    rw [if_neg h.kind, List.take_length, List.drop_length, List.append_nil]
theorem L3.next {v : Value} {i j a : Nat} (hR : Roots w0 v St ads rts) (hN : New w0 o mo t gm gt) (h : L3 w0 W o mo t A cp gm gt m St ads rts i j a ord mv tw) (hj : j < (Gc.body m a).length) :
    Calls Tryd.prog 42 #[.pointer (some ⟨gt, Gc.total m (ord.take i) + 1 + j, none⟩), .pointer (some ⟨o, 0, none⟩), .pointer (some ⟨mo, 0, none⟩), .pointer (some ⟨t, 0, none⟩)] W fun e w' => e = .returned (.tuple #[]) ∧ ∃ l2 mv' tw', L3 w0 w' o mo t A cp gm gt m St ads rts i (j + 1) a (ord ++ l2) mv' tw' := by
  obtain ⟨hi, ha⟩ := List.getElem?_eq_some_iff.1 h.at_
  have haS : a ∈ St := h.col.sub a (ha ▸ List.getElem_mem hi)
  have hok : Gc.Ok St (Gc.body m a)[j] := by
    refine h.col.wf.ok a haS _ ?_
    unfold Gc.parts
    rw [if_neg h.kind]
    exact List.getElem_mem hj
  have hDl : (Gc.D m ord i).length = Gc.total m (ord.take i) := Gc.D_length h.col.in_
  have hdrop : (Gc.body m a).drop j = (Gc.body m a)[j] :: (Gc.body m a).drop (j + 1) := List.drop_eq_getElem_cons hj
  have hPl : (((Gc.body m a).take j).map (Gc.remap m ord)).length = j := by rw [List.length_map, List.length_take]; omega
  have htw := h.tws
  rw [hdrop] at htw
  have hidx : Gc.total m (ord.take i) + 1 + j = (Gc.D m ord i).length + 1 + (((Gc.body m a).take j).map (Gc.remap m ord)).length := by rw [hDl, hPl]
  have hlt : Gc.total m (ord.take i) + 1 + j < tw.length := by
    rw [hidx, htw]
    simp only [List.length_append, List.length_cons]
    omega
  have hget : tw[Gc.total m (ord.take i) + 1 + j]? = some (Gc.body m a)[j] := by
    rw [hidx, htw, List.append_assoc, List.getElem?_append_right (by omega)]
    have e : ∀ a b : Nat, a + 1 + b - a = b + 1 := by omega
    rw [e, List.cons_append, List.getElem?_cons_succ, List.append_assoc, List.getElem?_append_right (by omega), Nat.sub_self]
    rfl
  have hcell : W.cell? ⟨gt, Gc.total m (ord.take i) + 1 + j, none⟩ = some (.int .u64 (Gc.body m a)[j]) := by
    rw [h.col.gs.rto.cellAt _ (by omega)]
    unfold nums
    rw [List.getElem?_map, hget]
    rfl
  have hx0 := h.col.gs.wdt _ (List.mem_of_getElem? hget)
  have n4 : t ≠ gt := blk_ne h.col.gs.rto h.col.gs.ht
  refine (c42_step _ _ W h.col hcell (h.col.gs.rto.frozenAt _) hx0.1 hx0.2 hok ⟨fun e => h.col.gs.ne1 e.symm, fun e => n4 e.symm⟩ (.inr ⟨_, rfl, hlt⟩)).mono ?_
  rintro e w' ⟨rfl, W1, mv1, l2, hc1, hvis, hch, hf1, rfl⟩
  have hcl0 : ∀ x ∈ (Gc.body m a).take j, x % 2 = 1 ∨ (x / 2).toNat ∈ ord := h.clj
  obtain ⟨_, _, _, hspec⟩ := Gc.visit_spec hok h.col.lt h.col.nd h.col.sub
  rw [hvis] at hspec
  have hfun : ∀ p ∈ ads, ∀ x, w0.cell? p = some (.int .u64 x) → Gc.remap m ord x = Gc.remap m (ord ++ l2) x := by
    intro p hp x hx
    obtain ⟨k, h1, h2, h3, h4, h5⟩ := hR.addr hp
    rw [h4] at hx
    injection hx with hx
    injection hx with _ hx
    subst hx
    exact (Gc.remap_append (h.cl _ h5)).symm
  have hwdr : 0 ≤ Gc.remap m (ord ++ l2) (Gc.body m a)[j] ∧ Gc.remap m (ord ++ l2) (Gc.body m a)[j] < 18446744073709551616 := by
    unfold Gc.remap
    split
    · next hh =>
      have h1 := Gc.npos_lt (m := m) hh.2.2
      have h2 := hc1.tl
      have h3 := hc1.gs.hcap2
      have h4 := (C_own hc1.gs.rto).2.1
      have h5 := hc1.gs.small
      omega
    · exact hx0
  obtain ⟨n1, n2, n3, n5, n6⟩ := hN
  refine ⟨rfl, l2, mv1, (tw ++ Gc.R m l2).set (Gc.total m (ord.take i) + 1 + j) (Gc.remap m (ord ++ l2) (Gc.body m a)[j]), ?_, ?_, ?_, ?_, ?_, ?_, h.kind, hj, ?_, ?_, ?_⟩
  · exact ⟨hc1.gs.setTo _ _ hwdr, hc1.mv, hc1.wf, hc1.nd, hc1.sub, by rw [List.length_set]; exact hc1.tl⟩
  · refine Rows.move (Rows.move (Rows.as h.rows hfun) (fun k hk => hch.block k (Nat.lt_of_lt_of_le hk h.chg.size) ?_)) (fun k hk => set_far _ _ _ _ ?_)
    · rintro (h2 | h2 | h2) <;> omega
    · show k ≠ gt
      omega
  · refine Chg.setCell (h.chg.then_ hch (fun k hk => .inr ?_)) (p := ⟨gt, _, none⟩) (.inr n6) _
    rcases hk with h2 | h2 | h2 <;> omega
  · exact fun x hx => (h.cl x hx).imp id (fun h => List.mem_append_left _ h)
  · intro b hb
    rw [List.take_append_of_le_length (by omega)] at hb
    exact (h.clp b hb).append
  · rw [List.getElem?_append_left hi]
    exact h.at_
  · rw [List.take_succ_eq_append_getElem hj]
    intro x hx
    rcases List.mem_append.1 hx with hx | hx
    · exact (h.clj.append) x hx
    · rw [List.mem_singleton.1 hx]
      exact hspec
  · have hf := h.fin
    rw [hdrop] at hf
    have e : Gc.visits m ord ((Gc.body m a)[j] :: (Gc.body m a).drop (j + 1)) = Gc.visits m (ord ++ l2) ((Gc.body m a).drop (j + 1)) := by
      show Gc.visits m (Gc.visit m ord (Gc.body m a)[j]) ((Gc.body m a).drop (j + 1)) = _
      rw [hvis]
    rw [e] at hf
    exact hf
  · have hD : Gc.D m (ord ++ l2) i = Gc.D m ord i := Gc.D_append (by omega) h.clp
    rw [hD, List.drop_append_of_le_length (by omega), Gc.R_append, List.take_succ_eq_append_getElem hj, List.map_append, Gc.remaps_append h.clj, htw, hidx]
    have e := Gc.set_mid (Gc.D m ord i) (((Gc.body m a).take j).map (Gc.remap m ord)) ((Gc.body m a).drop (j + 1)) (Gc.R m (ord.drop (i + 1)) ++ Gc.R m l2) (Gc.gd m a) (Gc.body m a)[j] (Gc.remap m (ord ++ l2) (Gc.body m a)[j])
    rw [← List.append_assoc] at e
    rw [e]
    simp [List.append_assoc]
end
end Go.Proofs.YtbpbhipjpjjcaaaDoor
