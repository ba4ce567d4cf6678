import Derived.Test.YtbpbhipjpjjcaaaDoorE
namespace Go.Proofs.YtbpbhipjpjjcaaaDoor
set_option linter.unusedVariables false
set_option linter.unusedSimpArgs false
open Go.RowKit Go.Proofs.YtbpbhipjpjjcaaaDoorW.PrintWords

/-- Of what was there only the blocks of S have turned. -/
structure Chg (S : Nat → Prop) (w w' : World) : Prop where
  os : w'.os = w.os
  tape : w'.tape = w.tape
  output : w'.output = w.output
  size : w.heap.size ≤ w'.heap.size
  block : ∀ k, k < w.heap.size → ¬ S k → w'.heap[k]? = w.heap[k]?
theorem Chg.refl (S : Nat → Prop) (w : World) : Chg S w w := ⟨rfl, rfl, rfl, Nat.le_refl _, fun _ _ _ => rfl⟩
theorem Chg.then_ {S S2 : Nat → Prop} {w w1 w2 : World} (h : Chg S w w1) (k : Chg S2 w1 w2) (hs : ∀ k, S2 k → S k ∨ w.heap.size ≤ k) : Chg S w w2 :=
  ⟨k.os.trans h.os, k.tape.trans h.tape, k.output.trans h.output, Nat.le_trans h.size k.size, fun i hi hn => (k.block i (Nat.lt_of_lt_of_le hi h.size) (fun h2 => (hs i h2).elim hn (fun h3 => by omega))).trans (h.block i hi hn)⟩
theorem Chg.mono {S S2 : Nat → Prop} {w w1 : World} (h : Chg S w w1) (hs : ∀ k, S k → S2 k) : Chg S2 w w1 :=
  ⟨h.os, h.tape, h.output, h.size, fun i hi hn => h.block i hi (fun h2 => hn (hs i h2))⟩
theorem Chg.of_below {S : Nat → Prop} {w w1 : World} (h : Below w.heap.size w w1) : Chg S w w1 := ⟨h.os, h.tape, h.output, h.size, fun i hi _ => h.block i hi⟩
theorem Chg.below {S : Nat → Prop} {w w1 w2 : World} (h : Chg S w w1) (k : Below w1.heap.size w1 w2) : Chg S w w2 := h.then_ (S2 := fun _ => False) (Chg.of_below k) (fun _ hk => hk.elim)
theorem Chg.drew {S : Nat → Prop} {w w1 : World} (h : Chg S w w1) : Chg S w w1.drew := ⟨h.os, h.tape, h.output, h.size, h.block⟩
theorem Chg.drewN {S : Nat → Prop} {w w1 : World} (h : Chg S w w1) (n : Nat) : Chg S w (w1.drewN n) := ⟨h.os, h.tape, h.output, h.size, h.block⟩
theorem Chg.alloc {S : Nat → Prop} {w w1 : World} (h : Chg S w w1) (o : Obj) : Chg S w (w1.alloc o) := h.below (below_alloc (Below.refl _ _) o)
theorem Chg.setCell {S : Nat → Prop} {w w1 : World} (h : Chg S w w1) {p : Addr} (hp : S p.block ∨ w.heap.size ≤ p.block) (u : Value) : Chg S w (w1.setCell p u) :=
  h.then_ (S2 := fun k => k = p.block) ⟨rfl, rfl, rfl, by simp [World.setCell], fun i _ hn => Below.heap_setCell w1 p u i hn⟩ (fun k hk => by rw [hk]; exact hp)
theorem Chg.grown {S : Nat → Prop} {w w1 w2 : World} (h : Chg S w w1) {row : Option Nat} (hg : w1.grownBy w2 row) (hr : ∀ k, row = some k → S k ∨ w.heap.size ≤ k) : Chg S w w2 :=
  h.then_ (S2 := fun k => row = some k) ⟨hg.os, hg.tape, hg.output, hg.size, fun i hi hn => hg.block i hi (fun e => hn e.symm)⟩ hr
theorem Chg.to_below {S : Nat → Prop} {w w1 : World} (h : Chg S w w1) {B : Nat} (hB : B ≤ w.heap.size) (hS : ∀ k, S k → B ≤ k) : Below B w w1 :=
  ⟨h.os, h.tape, h.output, h.size, fun k hk => h.block k (by omega) (fun hs => by have := hS k hs; omega)⟩
theorem Chg.cell {S : Nat → Prop} {w w1 : World} (h : Chg S w w1) {a : Addr} {v : Value} (hc : w.cell? a = some v) (hn : ¬ S a.block) : w1.cell? a = some v :=
  (World.cell?_of_block (h.block a.block (World.block_lt_of_cell? w a hc) hn)).trans hc
/-- The blocks of a heap. -/
def Reg (b : Nat) (v : Value) : Nat → Prop := fun k => k = b ∨ v.ownBlock = some k
theorem HpIs.chg {w w' : World} {b : Nat} {v : Value} {m : List Int} {q c : Int} {S : Nat → Prop} (h : HpIs w b v m q c) (hk : Chg S w w') (hS : ∀ k, Reg b v k → ¬ S k) : HpIs w' b v m q c :=
  ⟨(hk.block b h.lt (hS b (.inl rfl))).trans h.blk, own_move h.row (fun k hk2 => hk.block k (own_lt h.row k hk2) (hS k (.inr hk2))), h.small, h.wd⟩
theorem HpIs.free {w : World} {b : Nat} {v : Value} {m : List Int} {q c : Int} (h : HpIs w b v m q c) (i : Nat) : w.frozen? ⟨b, i, none⟩ = false := by simp [World.frozen?, h.blk]
theorem alloc_get (w : World) (o : Obj) (k : Nat) : (w.alloc o).heap[k]? = if k = w.heap.size then some o else w.heap[k]? := by
  show (w.heap.push o)[k]? = _
  rw [Array.getElem?_push]
theorem five_get (w : World) (o1 o2 o3 o4 o5 : Obj) : ∀ W : World, W = ((((w.alloc o1).alloc o2).alloc o3).alloc o4).alloc o5 → W.heap[w.heap.size]? = some o1 ∧ W.heap[w.heap.size + 1]? = some o2 ∧ W.heap[w.heap.size + 1 + 1]? = some o3 ∧ W.heap[w.heap.size + 1 + 1 + 1]? = some o4 ∧ W.heap[w.heap.size + 1 + 1 + 1 + 1]? = some o5 := by
  rintro W rfl
  have e (v : World) (o : Obj) : (v.alloc o).heap.size = v.heap.size + 1 := by simp
  refine ⟨?_, ?_, ?_, ?_, ?_⟩
  · rw [alloc_get, if_neg (by simp only [e]; omega), alloc_get, if_neg (by simp only [e]; omega), alloc_get, if_neg (by simp only [e]; omega), alloc_get, if_neg (by simp only [e]; omega), alloc_get, if_pos rfl]
  · rw [alloc_get, if_neg (by simp only [e]; omega), alloc_get, if_neg (by simp only [e]; omega), alloc_get, if_neg (by simp only [e]; omega), alloc_get, if_pos (by simp only [e])]
  · rw [alloc_get, if_neg (by simp only [e]; omega), alloc_get, if_neg (by simp only [e]; omega), alloc_get, if_pos (by simp only [e])]
  · rw [alloc_get, if_neg (by simp only [e]; omega), alloc_get, if_pos (by simp only [e])]
  · rw [alloc_get, if_pos (by simp only [e])]
theorem blk_set {w : World} {b : Nat} {cs : Array Value} {t : TypeId} {fr : Nat × Nat} (h : w.heap[b]? = some (.cells cs t fr)) (i : Nat) (u : Value) : (w.setCell ⟨b, i, none⟩ u).heap[b]? = some (.cells (cs.setIfInBounds i u) t fr) := by
  simp [World.setCell, Array.getElem?_modify, h]
theorem set_far (w : World) (a : Addr) (u : Value) (k : Nat) (h : k ≠ a.block) : (w.setCell a u).heap[k]? = w.heap[k]? := Below.heap_setCell w a u k h
theorem HpIs.setMem {w : World} {b : Nat} {v v' : Value} {m m' : List Int} {q c : Int} (h : HpIs w b v m q c) (hr : w.ownsRow 0 23 1 v' m'.length (nums .u64 m')) (hs : m'.length ≤ 1048576) (hw : Wd m') : HpIs (w.setCell ⟨b, 0, none⟩ v') b v' m' q c := by
  refine ⟨by simpa using blk_set h.blk 0 v', ?_, hs, hw⟩
  refine own_setCell hr (fun e => ?_) v'
  obtain ⟨cells, hc⟩ := own_typed hr b e.symm
  rw [h.blk] at hc
  injection hc with hc
  injection hc with _ hc
  exact absurd hc (by decide)
theorem HpIs.setCount {w : World} {b : Nat} {v : Value} {m : List Int} {q c : Int} (h : HpIs w b v m q c) (c' : Int) : HpIs (w.setCell ⟨b, 2, none⟩ (.int .i64 c')) b v m q c' := by
  refine ⟨by simpa using blk_set h.blk 2 (.int .i64 c'), ?_, h.small, h.wd⟩
  exact own_setCell h.row (fun e => h.ne e.symm) _
theorem info23 : (Tryd.prog.info? 23).map (fun i => (i.zero, i.size, i.bytes)) = some (some (.int .u64 0), 1, 8) := by kernel_rfl

section
variable {b : Nat} {v : Value} {m : List Int} {q c : Int}
/-! ## Collect, without a root -/
set_option maxRecDepth 100000 in
set_option maxHeartbeats 1000000 in
theorem c17_none (w : World) (hh : HpIs w b v m q c) (hc : 0 ≤ c ∧ c ≤ 1000000000000) :
    Calls Tryd.prog 17 #[.pointer (some ⟨b, 0, none⟩), .slice none 0 0] w fun e w' => e = .returned (.tuple #[]) ∧ ∃ v', HpIs w' b v' [] q (c + 1) ∧ Chg (· = b) w w' ∧ ∀ k, v'.ownBlock = some k → w.heap.size ≤ k := by
  obtain ⟨hc0, hc1⟩ := hc
  have h0 := hh.cell0
  have h2 := hh.cell2
  have hsm := hh.small
  have hbl := hh.lt
  have hf0 := hh.free 0
  have hf2 := hh.free 2
  have HH := Lib.hid hh
  obtain ⟨i0, hi, hz0, hz1, hz2⟩ := info_parts info23
  obtain ⟨A, cp, hv, -⟩ := hh.opens
  clear hh
  subst hv
  have hmk : ∀ u : World, (Instr.makeSlice 34 (.int .i64 0) (.int .i64 (m.length : Int))).run Tryd.prog u =
      .ok (.slice (some ⟨u.heap.size, 0, none⟩) 0 m.length) (u.alloc (.cells (madeCells #[.int .u64 0] m.length) 23)) := fun u => by
    have h := run_make (P := Tryd.prog) u 34 23 i0 (.int .u64 0) Tryd.underlying34 hi hz0 .i64 .i64 0 (m.length : Int) (by omega) (by omega) (by rw [hz2]; omega) (by omega)
    simpa [hz1, Value.cells] using h
  have hmk2 : ∀ u : World, (Instr.makeSlice 34 (.int .i64 (m.length : Int)) (.int .i64 (m.length : Int))).run Tryd.prog u =
      .ok (.slice (some ⟨u.heap.size, 0, none⟩) m.length m.length) (u.alloc (.cells (madeCells #[.int .u64 0] m.length) 23)) := fun u => by
    have h := run_make (P := Tryd.prog) u 34 23 i0 (.int .u64 0) Tryd.underlying34 hi hz0 .i64 .i64 (m.length : Int) (m.length : Int) (by omega) (by omega) (by rw [hz2]; omega) (by omega)
    simpa [hz1, Value.cells] using h
  go_enter Tryd.func17, Tryd.ntmps17
  go_wp2
  go_loopw [27] (fun i wr => i = .int .i64 0 ∧ wr.heap[w.heap.size + 1 + 1]? = some (.cells #[.slice (some ⟨w.heap.size + 1, 0, none⟩) 0 m.length] 34 (0, 0)) ∧
      wr.heap[w.heap.size + 1]? = some (.cells (madeCells #[.int .u64 0] m.length) 23 (0, 0)) ∧ Below w.heap.size w wr) (fun _ _ => 0)
  case atStart => exact ⟨rfl, (five_get w _ _ _ _ _ _ rfl).2.2.1, (five_get w _ _ _ _ _ _ rfl).2.1, by repeat (first | exact Below.refl _ _ | apply below_alloc)⟩
  case round =>
    obtain ⟨rfl, hT, hR, hB⟩ := hrel
    go_wp2
    go_loopw [10] (fun i wr2 => i = .int .i64 0 ∧ wr2 = wr) (fun _ _ => 0)
    case atStart => exact ⟨rfl, rfl⟩
    case round =>
      obtain ⟨rfl, rfl⟩ := hrel
      have hT0 : wr.cell? ⟨w.heap.size + 1 + 1, 0, none⟩ = some (.slice (some ⟨w.heap.size + 1, 0, none⟩) 0 m.length) := by simp [World.cell?, hT]
      have hb0 := (hB.cell (p := ⟨b, 0, none⟩) hbl).trans h0
      have hb2 := (hB.cell (p := ⟨b, 2, none⟩) hbl).trans h2
      have hg0 := (hB.frozen (p := ⟨b, 0, none⟩) hbl).trans hf0
      have hg2 := (hB.frozen (p := ⟨b, 2, none⟩) hbl).trans hf2
      have HT := Lib.hid hT
      have HR := Lib.hid hR
      have HB := Lib.hid hB
      clear hT hR hB
      go_wp2
      refine bodyPost_end (results_none rfl _ _ _) rfl ?_
      have hW := HH.out.below HB.out
      have hrow : wr.ownsRow 0 23 1 (.slice (some ⟨w.heap.size + 1, 0, none⟩) 0 m.length) ([] : List Int).length (nums .u64 []) :=
        ⟨rfl, .inr ⟨w.heap.size + 1, m.length, _, rfl, Nat.zero_le _, HR.out, Nat.zero_le _, by unfold maxLen; omega, by simp [madeCells], rfl⟩⟩
      refine ⟨rfl, _, (hW.setMem (m' := []) hrow (by simp) (by simp [Wd])).setCount (c + 1), ?_, ?_⟩
      · exact Chg.setCell (S := fun x => x = b) (Chg.setCell (S := fun x => x = b) (Chg.of_below HB.out) (p := ⟨b, 0, none⟩) (.inl rfl) _) (p := ⟨b, 2, none⟩) (.inl rfl) _
      · intro k hk
        simp [Value.ownBlock] at hk
        omega
end
end Go.Proofs.YtbpbhipjpjjcaaaDoor
