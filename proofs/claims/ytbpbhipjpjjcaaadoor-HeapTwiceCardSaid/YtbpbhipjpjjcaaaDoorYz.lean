import Derived.Test.YtbpbhipjpjjcaaaDoorX
import Derived.Test.YtbpbhipjpjjcaaaDoorGg
namespace Go.Proofs.YtbpbhipjpjjcaaaDoor
open Go.RowKit Go.Proofs.YtbpbhipjpjjcaaaDoorW.PrintWords Go.Proofs.YtbpbhipjpjjcaaaDoorW.PrintLast
set_option linter.unusedVariables false
set_option linter.unusedSimpArgs false

def flags (l : List Bool) : List Value := l.map Value.bool
theorem info4 : (Tryd.prog.info? 4).map (fun i => (i.zero, i.size, i.bytes)) = some (some (.bool false), 1, 1) := by kernel_rfl
/-- In the midst of Load: the heap is new, some first words are marked. -/
structure Ld (w W : World) (q : Int) (fb : Nat) (n : Nat) (fl : List Bool) : Prop where
  hp : HpIs W w.heap.size (.slice none 0 0) [] q 0
  fl : W.ownsRow 0 4 1 (.slice (some ⟨fb, 0, none⟩) n n) n (flags fl)
  new : w.heap.size < fb
  below : Below w.heap.size w W
theorem Ld.len {w W : World} {q : Int} {fb n : Nat} {fl : List Bool} (h : Ld w W q fb n fl) : fl.length = n := by have := h.fl.1; simpa [flags] using this
theorem Ld.drewN {w W : World} {q : Int} {fb n : Nat} {fl : List Bool} (h : Ld w W q fb n fl) (k : Nat) : Ld w (W.drewN k) q fb n fl := ⟨⟨h.hp.blk, h.hp.row, h.hp.small, h.hp.wd⟩, h.fl, h.new, ⟨h.below.os, h.below.tape, h.below.output, h.below.size, h.below.block⟩⟩
theorem Ld.set {w W : World} {q : Int} {fb n : Nat} {fl : List Bool} (h : Ld w W q fb n fl) (p : Nat) : Ld w (W.setCell ⟨fb, p, none⟩ (.bool true)) q fb n (fl.set p true) := by
  have hne : w.heap.size ≠ fb := by have := h.new; omega
  refine ⟨⟨(set_far W ⟨fb, p, none⟩ _ _ hne).trans h.hp.blk, own_setCell h.hp.row (fun e => by cases e) _, h.hp.small, h.hp.wd⟩, ?_, h.new, ?_⟩
  · have := (h.fl.stored p (.bool true)).1
    simpa [flags, List.map_set] using this
  · exact ⟨h.below.os, h.below.tape, h.below.output, by have := h.below.size; simpa [World.setCell] using this, fun k hk => (set_far W ⟨fb, p, none⟩ _ k (by have := h.new; show k ≠ fb; omega)).trans (h.below.block k hk)⟩
theorem Ld.cell {w W : World} {q : Int} {fb n : Nat} {fl : List Bool} (h : Ld w W q fb n fl) (p : Nat) (hp : p < n) : ∃ b, fl[p]? = some b ∧ W.cell? ⟨fb, p, none⟩ = some (.bool b) ∧ W.frozen? ⟨fb, p, none⟩ = false := by
  have hl := h.len
  refine ⟨fl[p]'(by omega), List.getElem?_eq_getElem (by omega), ?_, h.fl.frozenAt p⟩
  rw [h.fl.cellAt p (by omega)]
  unfold flags
  rw [List.getElem?_map, List.getElem?_eq_getElem (by omega)]
  rfl
set_option maxRecDepth 100000 in
set_option maxHeartbeats 2000000 in
theorem c22_ok (w : World) (q : Int) (l : List Int) (St : List Nat) (A : Option Addr) (n cA : Nat) (hr : w.ownsRow 0 23 1 (.slice A n cA) n (nums .u64 l)) (hw : Wd l) (hq : 1 ≤ q ∧ q ≤ 1048576) (hl : (l.length : Int) ≤ q) (hwf : Gc.Wf l St) :
    Calls Tryd.prog 22 #[.int .i64 q, .slice A n cA] w fun e w' => e = .returned (.tuple #[.pointer (some ⟨w.heap.size, 0, none⟩), .int .i64 0]) ∧ ∃ v, HpIs w' w.heap.size v l q 0 ∧ Below w.heap.size w w' ∧ ∀ k, v.ownBlock = some k → w.heap.size ≤ k := by
  obtain ⟨hq0, hq1⟩ := hq
  obtain ⟨hn, hcl, _⟩ := C_own hr
  subst hn
  have HR := Lib.hid hr
  have HW := Lib.hid hw
  have HF := Lib.hid hwf
  clear hr hw hwf hcl
  obtain ⟨i0, hi, hz0, hz1, hz2⟩ := info_parts info4
  have hmk : ∀ u : World, (Instr.makeSlice 91 (.int .i64 (l.length : Int)) (.int .i64 (l.length : Int))).run Tryd.prog u =
      .ok (.slice (some ⟨u.heap.size, 0, none⟩) l.length l.length) (u.alloc (.cells (madeCells #[.bool false] l.length) 4)) := fun u => by
    have h := run_make (P := Tryd.prog) u 91 4 i0 (.bool false) Tryd.underlying91 hi hz0 .i64 .i64 (l.length : Int) (l.length : Int) (by omega) (by omega) (by rw [hz2]; omega) (by omega)
    simpa [hz1, Value.cells] using h
  have hgt : ¬ q < (l.length : Int) := by omega
  have HStart : Hid (∀ W : World, W = ((w.alloc (.cells #[.slice none 0 0, .int .i64 q, .int .i64 0] 77)).alloc (.cells (madeCells #[.bool false] l.length) 4)) → Ld w W q (w.heap.size + 1) l.length (List.replicate l.length false)) := Lib.hid (by
    intro W hW
    have hB : Below w.heap.size w W := by rw [hW]; repeat (first | exact Below.refl _ _ | apply below_alloc)
    have e (v : World) (o : Obj) : (v.alloc o).heap.size = v.heap.size + 1 := by simp
    have h1 : W.heap[w.heap.size]? = some (.cells #[.slice none 0 0, .int .i64 q, .int .i64 0] 77 (0, 0)) := by
      rw [hW, alloc_get, if_neg (by simp only [e]; omega), alloc_get, if_pos rfl]
    have h2 : W.heap[w.heap.size + 1]? = some (.cells (madeCells #[.bool false] l.length) 4 (0, 0)) := by
      rw [hW, alloc_get, if_pos (by simp only [e])]
    refine ⟨⟨h1, ⟨rfl, .inl ⟨rfl, rfl⟩⟩, by simp, fun x hx => by cases hx⟩, ?_, by omega, hB⟩
    exact ⟨by simp [flags], .inr ⟨_, _, _, rfl, Nat.zero_le _, h2, Nat.le_refl _, by unfold maxLen; omega, by simp [madeCells], by simp [madeCells, flags, Nat.mod_one, List.map_const', List.take_of_length_le]⟩⟩)
  go_enter Tryd.func22, Tryd.ntmps22
  go_wp2_with (go_at_call 12; refine (c12 q w hq0 hq1).mono ?_; rintro e w' ⟨rfl, rfl⟩)
  go_loopw [9] (fun i wr => ∃ (p : Nat) (St1 St2 : List Nat) (fl : List Bool), i = .int .i64 (p : Int) ∧ Gc.Lay l p St2 ∧ St = St1 ++ St2 ∧ (∀ a ∈ St1, fl[a]? = some true) ∧ Ld w wr q (w.heap.size + 1) l.length fl) (fun i _ => l.length - (intOf i).toNat)
  case atStart => exact ⟨0, [], St, _, rfl, HF.out.lay, rfl, (fun a ha => by cases ha), HStart.out _ rfl⟩
  case round =>
    obtain ⟨p, St1, St2, fl, rfl, hlay, hst, hfl, hld⟩ := hrel
    have HL := Lib.hid hld
    have HFL := Lib.hid hfl
    have HST := Lib.hid hst
    clear hld hfl hst
    cases hlay with
    | nil h =>
      have hge : ¬ (p : Int) < l.length := by omega
      have HFS : Hid (∀ a ∈ St, fl[a]? = some true) := Lib.hid (by
        intro a ha
        rw [HST.out, List.append_nil] at ha
        exact HFL.out a ha)
      clear HFL HST h
      go_wp2
      go_loopw [12] (fun i wr2 => ∃ (p2 : Nat) (St2 : List Nat), i = .int .i64 (p2 : Int) ∧ Gc.Lay l p2 St2 ∧ (∀ a ∈ St2, a ∈ St) ∧ Ld w wr2 q (w.heap.size + 1) l.length fl) (fun i _ => l.length - (intOf i).toNat)
      case atStart => exact ⟨0, St, rfl, HF.out.lay, (fun a ha => ha), HL.out⟩
      case round =>
        clear HL
        obtain ⟨p2, St2, rfl, hlay, hsub, hld⟩ := hrel
        have HL := Lib.hid hld
        have HSUB := Lib.hid hsub
        clear hld hsub
        cases hlay with
        | nil h =>
          have hge2 : ¬ (p2 : Int) < l.length := by omega
          have hb0 := HL.out.hp.cell0
          have hf0 := HL.out.hp.free 0
          cases A with
          | none =>
            have hl0 : l = [] := by
              rcases HR.out.2 with ⟨_, h0⟩ | ⟨g, cap, cur, hv, _⟩
              · exact List.length_eq_zero_iff.1 h0
              · cases hv
            subst hl0
            go_wp2
            go_ret2
            refine ⟨rfl, _, HL.out.hp.setMem (m' := []) HL.out.hp.row (by simp) (by simp [Wd]), HL.out.below.setCell (Nat.le_refl _) _, fun k hk => by cases hk⟩
          | some ad =>
            obtain ⟨g, hg⟩ : ∃ g, ad = ⟨g, 0, none⟩ := by
              rcases HR.out.2 with ⟨hv, _⟩ | ⟨g, cap, cur, hv, _⟩
              · cases hv
              · injection hv with hv
                injection hv with hv
                exact ⟨g, hv⟩
            subst hg
            have HCELL : Hid (∀ j u, (nums .u64 l)[j]? = some u → wr.cell? ((⟨g, 0, none⟩ : Addr).add j) = some u) := Lib.hid (by
              intro j u hu
              have e2 : ((⟨g, 0, none⟩ : Addr).add j) = ⟨g, j, none⟩ := by
                unfold Addr.add
                split
                · next h => rw [h]
                · simp
              rw [e2, (pw_own_below HR.out HL.out.below).cellAt j ?_]
              · exact hu
              · have := (List.getElem?_eq_some_iff.1 hu).1
                rw [nums_length] at this
                omega)
            have HSM : Hid (([] ++ l : List Int).length ≤ 1048576) := Lib.hid (by rw [List.nil_append]; omega)
            go_wp2_with (at_builtin; refine wp_app (Hx.start HL.out.hp) rfl (.tmp 133) (.tmp 134) rfl rfl ⟨g, 0, none⟩ l.length cA rfl l rfl HCELL.out HSM.out HW.out ?_; intro A4 n4 c4 w4 hk1 hk2 HX4)
            go_ret2
            have hx := HX4.out
            rw [List.nil_append] at hx
            refine ⟨rfl, _, hx.is, ?_, ?_⟩
            · refine ((Chg.of_below (S := fun _ => False) HL.out.below).then_ hx.chg (fun k hk => .inr ?_)).to_below (Nat.le_refl _) (fun k hk => hk.elim)
              rcases hk with rfl | hk
              · exact Nat.le_refl _
              · cases hk
            · intro k hk
              rcases hx.own k hk with h1 | h1
              · rcases h1 with rfl | h1
                · exact Nat.le_refl _
                · cases h1
              · exact Nat.le_trans HL.out.below.size h1
        | @cons _ St3 h0 h1 h2 h3 =>
          have hplt : (p2 : Int) < l.length := by have := Gc.sz_pos l p2; omega
          obtain ⟨g0, hA, hcell⟩ : ∃ g0, A = some ⟨g0, 0, none⟩ ∧ ∀ u, Below w.heap.size w u → ∀ j : Nat, j < l.length → u.cell? ⟨g0, j, none⟩ = some (.int .u64 (Gc.gd l j)) := by
            obtain ⟨g, c2, hf, _, hg⟩ := HR.out.form (by omega)
            injection hf with hf1 _ hf2
            subst hf1
            subst hf2
            refine ⟨g, rfl, fun u hu j hj => ?_⟩
            rw [(pw_own_below HR.out hu).cellAt j (by omega)]
            unfold nums
            rw [List.getElem?_map, List.getElem?_eq_getElem hj, ← rd_gd, rd_get l j hj]
            rfl
          subst hA
          have HCL := Lib.hid hcell
          clear hcell
          have hb := HW.out.at_ (p2 : Int)
          rw [rd_gd] at hb
          have hu8 : IntKind.u8.wrap (Gc.gd l p2) = Gc.gd l p2 % 256 := by unfold IntKind.wrap; simp [IntKind.bits, IntKind.signed]
          have hszp := Gc.sz_pos l p2
          have HC43 : Hid (∀ u, Below w.heap.size w u → Calls Tryd.prog 43 #[.slice (some ⟨g0, 0, none⟩) l.length cA, .int .i64 (p2 : Int)] u fun e w' => e = .returned (.int .i64 (Gc.sz l p2 : Int)) ∧ Drawn0 u w') := Lib.hid (fun u hu => c43 u _ _ _ 0 l p2 (pw_own_below HR.out hu) HW.out (by omega) h0)
          have HWP : Hid (wrap64 ((p2 : Int) + (Gc.sz l p2 : Int)) = ((p2 + Gc.sz l p2 : Nat) : Int)) := Lib.hid (by unfold wrap64; omega)
          have HOK : Hid (∀ x ∈ Gc.parts l p2, Gc.Ok St x) := Lib.hid (HF.out.ok p2 (HSUB.out p2 List.mem_cons_self))
          have HREL : Hid (∀ u, Ld w u q (w.heap.size + 1) l.length fl → ∃ (p3 : Nat) (St4 : List Nat), Value.int .i64 ((p2 : Int) + (Gc.sz l p2 : Int)) = .int .i64 (p3 : Int) ∧ Gc.Lay l p3 St4 ∧ (∀ a ∈ St4, a ∈ St) ∧ Ld w u q (w.heap.size + 1) l.length fl) := Lib.hid (fun u hu => ⟨p2 + Gc.sz l p2, St3, congrArg (Value.int .i64) (by omega), h3, fun a ha => HSUB.out a (List.mem_cons_of_mem _ ha), hu⟩)
          clear h3
          go_wp2
          go_loopw [13] (fun i wr3 => ∃ j : Nat, i = .int .i64 (j : Int) ∧ j ≤ (Gc.parts l p2).length ∧ Ld w wr3 q (w.heap.size + 1) l.length fl) (fun i _ => (Gc.parts l p2).length - (intOf i).toNat)
          case atStart => exact ⟨0, rfl, Nat.zero_le _, HL.out⟩
          case round =>
            clear HL
            obtain ⟨j, rfl, hj, hld⟩ := hrel
            have HL := Lib.hid hld
            clear hld
            have hcp := HCL.out wr HL.out.below p2 (by omega)
            by_cases hk3 : Gc.gd l p2 % 256 = 3
            · have hb3 : (Gc.gd l p2 % 256 != 3) = false := by rw [hk3]; rfl
              go_wp2_with (go_at_call 43; refine (HC43.out _ HL.out.below).mono ?_; rintro e w2 ⟨rfl, nn, rfl⟩)
              go_roundw
              case rel => exact HREL.out _ (HL.out.drewN nn)
              case measure => simp [intOf]; omega
            · have hb3 : (Gc.gd l p2 % 256 != 3) = true := by simpa using hk3
              have hpl : ((Gc.parts l p2).length : Int) = Gc.gd l p2 / 256 := by
                unfold Gc.parts
                rw [if_neg hk3, Gc.body_length h0]
                unfold Gc.np
                rw [if_neg hk3]
                omega
              have HPL := Lib.hid hpl
              have hpsz : p2 + 1 + (Gc.parts l p2).length ≤ l.length := by
                unfold Gc.parts
                rw [if_neg hk3, Gc.body_length h0]
                unfold Gc.sz at h0
                omega
              by_cases hjl : j < (Gc.parts l p2).length
              · have hj3 : (j : Int) < Gc.gd l p2 / 256 := by omega
                have hS1 : IntKind.i64.wrap ((p2 : Int) + 1) = (p2 : Int) + 1 := IntWalk.i64_in _ (by omega)
                have hS2 : IntKind.i64.wrap ((p2 : Int) + 1 + (j : Int)) = ((p2 + 1 + j : Nat) : Int) := (IntWalk.i64_in _ (by omega)).trans (by omega)
                have hlt5 : ((p2 + 1 + j : Nat) : Int) < l.length := by omega
                have hcx := HCL.out wr HL.out.below (p2 + 1 + j) (by omega)
                clear hpl
                have hxp : Gc.gd l (p2 + 1 + j) ∈ Gc.parts l p2 := by
                  have hjl2 := hjl
                  unfold Gc.parts at hjl2 ⊢
                  rw [if_neg hk3] at hjl2 ⊢
                  rw [Gc.body_length h0] at hjl2
                  refine List.mem_of_getElem? (i := j) ?_
                  unfold Gc.body
                  rw [List.getElem?_take, if_pos hjl2, List.getElem?_drop, List.getElem?_eq_getElem (by omega), ← rd_gd, rd_get l _ (by omega)]
                have hok := HOK.out _ hxp
                have hxb := HW.out.at_ ((p2 + 1 + j : Nat) : Int)
                rw [rd_gd] at hxb
                have HSTEP : Hid (∀ u, Ld w u q (w.heap.size + 1) l.length fl → ∃ j2 : Nat, Value.int .i64 ((j : Int) + 1) = .int .i64 (j2 : Int) ∧ j2 ≤ (Gc.parts l p2).length ∧ Ld w u q (w.heap.size + 1) l.length fl) := Lib.hid (fun u hu => ⟨j + 1, congrArg (Value.int .i64) (by omega), hjl, hu⟩)
                clear hxp hpsz
                generalize Gc.gd l (p2 + 1 + j) = x at hcx hok hxb
                by_cases hodd : x % 2 = 1
                · have C11 := Lib.hid (fun u => c11_odd x u hxb.1 hxb.2 hodd)
                  clear hok hodd
                  go_wp2_with (go_at_call 11; refine (C11.out _).mono ?_; rintro e w2 ⟨rfl, rfl⟩)
                  go_roundw
                  case rel => exact HSTEP.out _ HL.out
                  case measure => simp [intOf]; omega
                · have C11 := Lib.hid (fun u => c11_even x u hxb.1 hxb.2 (by omega))
                  obtain ⟨a, ha, hxa⟩ := hok.resolve_left hodd
                  have ha2 : x / 2 = (a : Int) := by omega
                  have halt : a < l.length := by
                    obtain ⟨h5, _⟩ := List.getElem?_eq_some_iff.1 (HFS.out a ha)
                    rw [HL.out.len] at h5
                    exact h5
                  obtain ⟨bb, hbb, hfc, hff⟩ := HL.out.cell a halt
                  have hbt : bb = true := by
                    rw [HFS.out a ha] at hbb
                    injection hbb with hbb
                    exact hbb.symm
                  subst hbt
                  have hx20 : 0 ≤ x / 2 := by omega
                  have hx2l : x / 2 < (l.length : Int) := by omega
                  have hx2m : ¬ (l.length : Int) ≤ x / 2 := by omega
                  have hta : (x / 2).toNat = a := by omega
                  rw [← hta] at hfc
                  have hUl : IntKind.u64.wrap (l.length : Int) = (l.length : Int) := by rw [IntKind.wrap_u64]; omega
                  clear hodd hxa ha2 hta hff hbb
                  go_wp2_with (go_at_call 11; refine (C11.out _).mono ?_; rintro e w2 ⟨rfl, rfl⟩)
                  go_roundw
                  case rel => exact HSTEP.out _ HL.out
                  case measure => simp [intOf]; omega
              · have hj3 : ¬ (j : Int) < Gc.gd l p2 / 256 := by omega
                clear hpl
                go_wp2_with (go_at_call 43; refine (HC43.out _ HL.out.below).mono ?_; rintro e w2 ⟨rfl, nn, rfl⟩)
                go_roundw
                case rel => exact HREL.out _ (HL.out.drewN nn)
                case measure => simp [intOf]; omega
    | @cons _ St3 h0 h1 h2 h3 =>
      have hplt : (p : Int) < l.length := by have := Gc.sz_pos l p; omega
      obtain ⟨g0, hA, hcell⟩ : ∃ g0, A = some ⟨g0, 0, none⟩ ∧ wr.cell? ⟨g0, p, none⟩ = some (.int .u64 (Gc.gd l p)) := by
        obtain ⟨g, c2, hf, _, hg⟩ := HR.out.form (by omega)
        injection hf with hf1 _ hf2
        subst hf1
        subst hf2
        refine ⟨g, rfl, ?_⟩
        rw [(pw_own_below HR.out HL.out.below).cellAt p (by omega)]
        unfold nums
        rw [List.getElem?_map, List.getElem?_eq_getElem (by omega), ← rd_gd, rd_get l p (by omega)]
        rfl
      subst hA
      have hb := HW.out.at_ (p : Int)
      rw [rd_gd] at hb
      have hu8 : IntKind.u8.wrap (Gc.gd l p) = Gc.gd l p % 256 := by unfold IntKind.wrap; simp [IntKind.bits, IntKind.signed]
      have hk1 : ¬ Gc.gd l p % 256 < 1 := by omega
      have hk6 : ¬ 6 < Gc.gd l p % 256 := by omega
      have hszp := Gc.sz_pos l p
      have hS8 : IntKind.i64.wrap (8 * (l.length : Int)) = 8 * (l.length : Int) := IntWalk.i64_in _ (by omega)
      have hU8 : IntKind.u64.wrap (8 * (l.length : Int)) = 8 * (l.length : Int) := by rw [IntKind.wrap_u64]; omega
      have hn8 : ¬ 8 * (l.length : Int) < Gc.gd l p / 256 := by
        unfold Gc.sz Gc.np at h0
        split at h0 <;> omega
      have hSub : IntKind.i64.wrap ((l.length : Int) - (p : Int)) = (l.length : Int) - p := IntWalk.i64_in _ (by omega)
      have hle : ¬ (l.length : Int) - p < (Gc.sz l p : Int) := by omega
      have HC43 : Hid (∀ u, Below w.heap.size w u → Calls Tryd.prog 43 #[.slice (some ⟨g0, 0, none⟩) l.length cA, .int .i64 (p : Int)] u fun e w' => e = .returned (.int .i64 (Gc.sz l p : Int)) ∧ Drawn0 u w') := Lib.hid (fun u hu => c43 u _ _ _ 0 l p (pw_own_below HR.out hu) HW.out (by omega) h0)
      obtain ⟨bb, hbb, hfc, hff⟩ := HL.out.cell p (by omega)
      have HMK : Hid (∀ a ∈ St1 ++ [p], (fl.set p true)[a]? = some true) := Lib.hid (by
        have hln := HL.out.len
        intro a ha
        rw [List.getElem?_set]
        by_cases hpa : p = a
        · rw [if_pos hpa, if_pos (by omega)]
        · rw [if_neg hpa]
          rcases List.mem_append.1 ha with ha | ha
          · exact HFL.out a ha
          · exact absurd (List.mem_singleton.1 ha).symm hpa)
      go_wp2_with (first | (go_at_call 43; refine (HC43.out _ HL.out.below).mono ?_; rintro e w2 ⟨rfl, nn, rfl⟩) | (go_at_call 43; refine (HC43.out _ (((HL.out.drewN nn).set p).below)).mono ?_; rintro e w2 ⟨rfl, nn2, rfl⟩))
      go_roundw
      case rel => exact ⟨p + Gc.sz l p, St1 ++ [p], St3, fl.set p true, by go_num, h3, by rw [HST.out]; simp, HMK.out, ((HL.out.drewN nn).set p).drewN nn2⟩
      case measure => simp [intOf]; omega
end Go.Proofs.YtbpbhipjpjjcaaaDoor
namespace Go.Proofs.YtbpbhipjpjjcaaaDoor
open Go.RowKit Go.Proofs.YtbpbhipjpjjcaaaDoorW.PrintWords Go.Proofs.YtbpbhipjpjjcaaaDoorW.PrintLast
set_option linter.unusedVariables false
set_option linter.unusedSimpArgs false

theorem info80 : (Tryd.prog.info? 80).map (fun i => (i.zero, i.size, i.bytes)) = some (some (.pointer none), 1, 8) := by kernel_rfl
theorem ptr_box (W : World) (p : Addr) : ∀ j u, (ptrs [p])[j]? = some u → (W.alloc (.cells #[.pointer (some p)] 80)).cell? ((⟨W.heap.size, 0, none⟩ : Addr).add j) = some u := by
  intro j u hj
  match j, hj with
  | 0, hj => simp [ptrs] at hj; subst hj; simp [Addr.add]
theorem ptrs_append (a b : List Addr) : ptrs (a ++ b) = ptrs a ++ ptrs b := by simp [ptrs]
theorem op_pushp {W : World} {base : Nat} {v : Value} {l : List Addr} {o : Oper} {a : Act} {K : Act → World → Prop} {Q : Exit → Act → World → Prop} (hown : W.ownsRow base 80 1 v l.length (ptrs l)) (hbase : base ≤ W.heap.size) (hsm : l.length < 17592186044416)
    (s x : Operand) (ho : o.op = .call { callee := .builtin .append, args := #[s, x], argTypes := #[53, 53] }) (hs : a.eval s = v) (ad : Addr) (y : Addr) (hx : a.eval x = .slice (some ad) 1 1)
    (hc : ∀ j u, (ptrs [y])[j]? = some u → W.cell? (ad.add j) = some u)
    (hK : ∀ A' n' c' w', n' = l.length + 1 → w'.ownsRow base 80 1 (.slice A' n' c') (l ++ [y]).length (ptrs (l ++ [y])) → W.grownBy w' v.ownBlock → ((Value.slice A' n' c').ownBlock = v.ownBlock ∨ (Value.slice A' n' c').ownBlock = some W.heap.size) → K (a.put o.dst (.slice A' n' c')) w') :
    o.wp Tryd.prog a W K Q := by
  obtain ⟨i0, hi, hz0, hz1, hz2⟩ := info_parts info80
  obtain ⟨v', w', hr, hown', hg, _, hat⟩ := run_append_own_at (P := Tryd.prog) W base 53 o.type 80 i0 (.pointer none) 1 8 Tryd.underlying53 hi hz0 hz1 hz2 rfl (by decide) v l.length (ptrs l) hown ad 1 1 (ptrs [y]) rfl hc
    (fun u hu => by obtain ⟨y, _, rfl⟩ := List.mem_map.1 hu; rfl) (by unfold maxLen; omega) (by omega) hbase
  unfold Oper.wp execOp
  simp only [ho, resolve, invoke, builtin, Sem.run_bind, Sem.run_pure, Result.andThen_ok, List.map_toArray, List.map_cons, List.map_nil, hs, hx, hr]
  rw [← ptrs_append] at hown'
  obtain ⟨A', c', rfl⟩ : ∃ A' c', v' = .slice A' (l.length + 1) c' := by
    rcases hown'.2 with ⟨_, h0⟩ | ⟨g, cap, cur, hv, _⟩
    · omega
    · exact ⟨_, _, hv⟩
  exact hK A' _ c' w' rfl (by simpa using hown') hg hat
theorem wp_pushp {W : World} {base : Nat} {v : Value} {l : List Addr} {ops : Array Oper} {rest : List Oper} {o : Oper} {a : Act} {Q : Exit → Act → World → Prop} (hown : W.ownsRow base 80 1 v l.length (ptrs l)) (hbase : base ≤ W.heap.size) (hsm : l.length < 17592186044416)
    (hgd : o.guard = none) (s x : Operand) (ho : o.op = .call { callee := .builtin .append, args := #[s, x], argTypes := #[53, 53] }) (hs : a.eval s = v) (ad : Addr) (y : Addr) (hx : a.eval x = .slice (some ad) 1 1)
    (hc : ∀ j u, (ptrs [y])[j]? = some u → W.cell? (ad.add j) = some u)
    (hK : ∀ A' n' c' w', n' = l.length + 1 → w'.ownsRow base 80 1 (.slice A' n' c') (l ++ [y]).length (ptrs (l ++ [y])) → W.grownBy w' v.ownBlock → ((Value.slice A' n' c').ownBlock = v.ownBlock ∨ (Value.slice A' n' c').ownBlock = some W.heap.size) → wpList Tryd.prog ops Q rest (a.put o.dst (.slice A' n' c')) w') :
    wpList Tryd.prog ops Q (o :: rest) a W :=
  wpList_plain hgd fun K hK2 => op_pushp hown hbase hsm s x ho hs ad y hx hc (fun A' n' c' w' h1 h2 h3 h4 => hK2 _ _ (hK A' n' c' w' h1 h2 h3 h4))
/-- The places of a slice's elements. -/
def places (g n : Nat) : List Addr := (List.range n).map fun i => ⟨g, i, none⟩
theorem places_length (g n : Nat) : (places g n).length = n := by simp [places]
theorem places_succ (g n : Nat) : places g (n + 1) = places g n ++ [⟨g, n, none⟩] := by simp [places, List.range_succ]
theorem places_get (g n i : Nat) (h : i < (places g n).length) : (places g n)[i] = ⟨g, i, none⟩ := by simp [places]
set_option maxRecDepth 100000 in
set_option maxHeartbeats 1000000 in
theorem c25 (w : World) (A : Option Addr) (g n c : Nat) (hA : 0 < n → A = some ⟨g, 0, none⟩) (hn : n ≤ 1048576) (hc : n ≤ c) :
    Calls Tryd.prog 25 #[.slice A n c] w fun e w' => ∃ B n2 c2, e = .returned (.slice B n2 c2) ∧ n2 = n ∧ w'.ownsRow w.heap.size 80 1 (.slice B n2 c2) n (ptrs (places g n)) ∧ Below w.heap.size w w' := by
  have HA := Lib.hid hA
  clear hA
  go_enter Tryd.func25, Tryd.ntmps25
  go_wp2
  go_loopw [3, 4] (fun v3 v4 wr => ∃ j : Nat, v4 = .int .i64 (j : Int) ∧ j ≤ n ∧ (∃ B n2 c2, v3 = .slice B n2 c2) ∧ wr.ownsRow w.heap.size 80 1 v3 j (ptrs (places g j)) ∧ Below w.heap.size w wr) (fun _ v4 _ => n - (intOf v4).toNat)
  case atStart => exact ⟨0, rfl, Nat.zero_le _, ⟨_, _, _, rfl⟩, ⟨rfl, .inl ⟨rfl, rfl⟩⟩, Below.refl _ _⟩
  case round =>
    obtain ⟨j, rfl, hj, ⟨B, n2, c2, rfl⟩, hrow, hb⟩ := hrel
    have HROW := Lib.hid hrow
    have HB := Lib.hid hb
    clear hrow hb
    by_cases hlt : j < n
    · have hlt1 : (j : Int) < n := by omega
      have hA := HA.out (by omega)
      subst hA
      have HR : Hid ((wr.alloc (.cells #[.pointer (some ⟨g, j, none⟩)] 80)).ownsRow w.heap.size 80 1 (.slice B n2 c2) (places g j).length (ptrs (places g j))) := Lib.hid (by rw [places_length]; exact pw_own_below HROW.out (below_alloc (Below.refl _ _) _))
      have hpl : (places g j).length < 17592186044416 := by rw [places_length]; omega
      have hle : w.heap.size ≤ (wr.alloc (.cells #[.pointer (some ⟨g, j, none⟩)] 80)).heap.size := by have := HB.out.size; simp; omega
      go_wp2_with (at_builtin; refine wp_pushp HR.out hle hpl rfl (.tmp 11) (.tmp 15) rfl rfl ⟨wr.heap.size, 0, none⟩ ⟨g, j, none⟩ rfl (ptr_box wr _) ?_; intro A4 n4 c4 w4 hn4 hr4 hg4 hat4)
      go_roundw
      case rel =>
        refine ⟨j + 1, by go_num, hlt, ⟨_, _, _, rfl⟩, ?_, ?_⟩
        · rw [← places_succ, places_length] at hr4
          subst hn4
          exact hr4
        · exact (HB.out.alloc HB.out.size _).grown hg4 (by have := HB.out.size; simp; omega) (fun g2 hg2 => (HROW.out.lt g2 hg2).1)
      case measure => simp [intOf]; omega
    · have hge : ¬ (j : Int) < n := by omega
      have e : j = n := by omega
      subst e
      go_wp2
      go_ret
      have hl := HROW.out.2
      have e2 : n2 = j := by
        rcases hl with ⟨hv, h0⟩ | ⟨g2, cap, cur, hv, _⟩
        · injection hv with _ h2 _
          omega
        · injection hv
      exact ⟨_, _, _, rfl, e2, HROW.out, HB.out⟩
end Go.Proofs.YtbpbhipjpjjcaaaDoor
