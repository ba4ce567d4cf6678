import Derived.Test.YtbpbhipjpjjcaaaDoorSv
namespace Go.Proofs.YtbpbhipjpjjcaaaDoor
open Go.RowKit Go.Proofs.YtbpbhipjpjjcaaaDoorW.PrintWords Go.Proofs.YtbpbhipjpjjcaaaDoorW.PrintLast
set_option linter.unusedVariables false
set_option linter.unusedSimpArgs false

/-- The pointers to the roots, a row of their own. -/
def ptrs (ads : List Addr) : List Value := ads.map fun p => .pointer (some p)
section
variable {b : Nat} {v : Value} {m : List Int} {q c : Int} {St : List Nat} {ads : List Addr} {rts : List Int}
set_option maxRecDepth 100000 in
set_option maxHeartbeats 2000000 in
theorem c17_all (w : World) (hh : HpIs w b v m q c) (hc : 0 ≤ c ∧ c ≤ 1000000000000) (hwf : Gc.Wf m St) (hR : Roots w v St ads rts) (B : Option Addr) (n cr : Nat) (hn : n ≤ 1048576) (hptr : w.ownsRow 0 80 1 (.slice B n cr) n (ptrs ads)) :
    Calls Tryd.prog 17 #[.pointer (some ⟨b, 0, none⟩), .slice B n cr] w fun e w' => e = .returned (.tuple #[]) ∧ ∃ v', HpIs w' b v' (Gc.out m (Gc.order m rts)) q (c + 1) ∧ Chg (fun k => k = b ∨ ∃ p ∈ ads, p.block = k) w w' ∧ Rows ads (Gc.remap m (Gc.order m rts)) w w' ∧ ∀ k, v'.ownBlock = some k → w.heap.size ≤ k := by
  obtain ⟨hc0, hc1⟩ := hc
  have h0 := hh.cell0
  have h2 := hh.cell2
  have hsm := hh.small
  have hbl := hh.lt
  have hf0 := hh.free 0
  have hf2 := hh.free 2
  have HH := Lib.hid hh
  have HR := Lib.hid hR
  have HP := Lib.hid hptr
  have HW := Lib.hid hwf
  have hnl : ads.length = n := by have := hptr.1; simpa [ptrs] using this
  obtain ⟨i0, hi, hz0, hz1, hz2⟩ := info_parts info23
  obtain ⟨A, cp, hv, -⟩ := hh.opens
  clear hh hR hptr hwf
  subst hv
  have hmk : ∀ u : World, (Instr.makeSlice 34 (.int .i64 0) (.int .i64 (m.length : Int))).run Tryd.prog u =
      .ok (.slice (some ⟨u.heap.size, 0, none⟩) 0 m.length) (u.alloc (.cells (madeCells #[.int .u64 0] m.length) 23)) := fun u => by
    have h := run_make (P := Tryd.prog) u 34 23 i0 (.int .u64 0) Tryd.underlying34 hi hz0 .i64 .i64 0 (m.length : Int) (by omega) (by omega) (by rw [hz2]; omega) (by omega)
    simpa [hz1, Value.cells] using h
  have hmk2 : ∀ u : World, (Instr.makeSlice 34 (.int .i64 (m.length : Int)) (.int .i64 (m.length : Int))).run Tryd.prog u =
      .ok (.slice (some ⟨u.heap.size, 0, none⟩) m.length m.length) (u.alloc (.cells (madeCells #[.int .u64 0] m.length) 23)) := fun u => by
    have h := run_make (P := Tryd.prog) u 34 23 i0 (.int .u64 0) Tryd.underlying34 hi hz0 .i64 .i64 (m.length : Int) (m.length : Int) (by omega) (by omega) (by rw [hz2]; omega) (by omega)
    simpa [hz1, Value.cells] using h
  have HN : Hid (New w w.heap.size (w.heap.size + 1 + 1 + 1 + 1) (w.heap.size + 1 + 1) (w.heap.size + 1 + 1 + 1) (w.heap.size + 1)) := Lib.hid ⟨by omega, by omega, by omega, by omega, by omega⟩
  have HStart : Hid (∀ W : World, W = ((((w.alloc (.cells #[.slice A m.length cp] 34 (0, 0))).alloc (.cells (madeCells #[.int .u64 0] m.length) 23)).alloc (.cells #[.slice (some ⟨w.heap.size + 1, 0, none⟩) 0 m.length] 34 (0, 0))).alloc (.cells (madeCells #[.int .u64 0] m.length) 23)).alloc (.cells #[.slice (some ⟨w.heap.size + 1 + 1 + 1, 0, none⟩) m.length m.length] 34 (0, 0)) →
      ∃ mv, L1 w W w.heap.size (w.heap.size + 1 + 1 + 1 + 1) (w.heap.size + 1 + 1) A cp (w.heap.size + 1 + 1 + 1) (w.heap.size + 1) m St ads rts 0 mv) := Lib.hid (by
    intro W hW
    obtain ⟨b1, b2, b3, b4, b5⟩ := five_get w _ _ _ _ _ W hW
    have hB : Below w.heap.size w W := by rw [hW]; repeat (first | exact Below.refl _ _ | apply below_alloc)
    have hz : ∀ k : Nat, nums .u64 (List.replicate k (0 : Int)) = List.replicate k (.int .u64 0) := fun k => by simp [nums]
    refine ⟨List.replicate m.length 0, ⟨⟨?_, Gc.Mv.zero m, HW.out, List.nodup_nil, fun a ha => (by cases ha), rfl⟩, ?_, Chg.of_below hB⟩⟩
    · have hrow : W.ownsRow 0 23 1 (.slice A m.length cp) m.length (nums .u64 m) := pw_own_below HH.out.row hB
      refine ⟨b1, b5, b3, hrow, ?_, ?_, Nat.le_refl _, hsm, by omega, fun g hg => ?_, by omega, hsm, HH.out.wd, ?_, fun x hx => by cases hx⟩
      · exact ⟨by simp [nums], .inr ⟨_, _, _, rfl, Nat.zero_le _, b4, Nat.le_refl _, by unfold maxLen; omega, by simp [madeCells], by simp [madeCells, hz, Nat.mod_one, List.map_const', List.take_of_length_le]⟩⟩
      · exact ⟨rfl, .inr ⟨_, _, _, rfl, Nat.zero_le _, b2, Nat.zero_le _, by unfold maxLen; omega, by simp [madeCells], rfl⟩⟩
      · have := own_lt HH.out.row g hg
        omega
      · intro x hx
        rw [List.eq_of_mem_replicate hx]
        omega
    · exact Rows.move (Rows.refl _ w) (fun k hk => hB.block k hk))
  go_enter Tryd.func17, Tryd.ntmps17
  go_wp2
  go_loopw [27] (fun i wr => ∃ (j : Nat) (mv : List Int), i = .int .i64 (j : Int) ∧ j ≤ n ∧ L1 w wr w.heap.size (w.heap.size + 1 + 1 + 1 + 1) (w.heap.size + 1 + 1) A cp (w.heap.size + 1 + 1 + 1) (w.heap.size + 1) m St ads rts j mv) (fun i _ => n - (intOf i).toNat)
  case atStart =>
    obtain ⟨mv, h⟩ := HStart.out _ rfl
    exact ⟨0, mv, rfl, Nat.zero_le _, h⟩
  case round =>
    obtain ⟨j, mv, rfl, hj, hl⟩ := hrel
    have HL := Lib.hid hl
    clear hl
    by_cases hlt : j < n
    · have hlt1 : (j : Int) < n := by omega
      have hform : ∃ g : Nat, B = some ⟨g, 0, none⟩ ∧ wr.cell? ⟨g, j, none⟩ = some (.pointer (some (ads[j]'(by omega)))) := by
        obtain ⟨g, c2, hf, _, hg⟩ := HP.out.form (by omega)
        injection hf with hf1 _ hf2
        subst hf1
        subst hf2
        refine ⟨g, rfl, ?_⟩
        have hrow : wr.ownsRow 0 80 1 (.slice (some ⟨g, 0, none⟩) n cr) n (ptrs ads) := by
          refine own_move HP.out (fun k hk => HL.out.chg.block k (own_lt HP.out k hk) ?_)
          rintro ⟨p, hp, rfl⟩
          obtain ⟨i2, hi2, rfl⟩ := List.mem_iff_getElem.1 hp
          obtain ⟨g2, n2, c2, l2, k2, e, hr2, _⟩ := HR.out.row i2 hi2
          rw [e] at hk
          injection hk with hk
          obtain ⟨x1, y1⟩ := own_typed HP.out g rfl
          obtain ⟨x2, y2⟩ := own_typed hr2 g2 rfl
          have hk' : g = g2 := hk
          subst hk'
          rw [y1] at y2
          injection y2 with y2
          injection y2 with _ y2
          exact absurd y2 (by decide)
        rw [hrow.cellAt j (by omega)]
        unfold ptrs
        rw [List.getElem?_map, List.getElem?_eq_getElem (by omega)]
        rfl
      obtain ⟨g, rfl, hcell⟩ := hform
      go_wp2_with (go_at_call 42; refine (HL.out.next HR.out HN.out rfl (by omega)).mono ?_; rintro e w2 ⟨rfl, mv2, HL2⟩)
      go_roundw
      case rel => exact ⟨j + 1, mv2, by go_num, hlt, HL2⟩
      case measure => simp [intOf]; omega
    · have hjn : j = n := by omega
      have HLd : Hid (L1 w wr w.heap.size (w.heap.size + 1 + 1 + 1 + 1) (w.heap.size + 1 + 1) A cp (w.heap.size + 1 + 1 + 1) (w.heap.size + 1) m St ads rts ads.length mv) := Lib.hid (by rw [hnl, ← hjn]; exact HL.out)
      subst hjn
      clear HL hlt
      go_wp2
      go_loopw [10] (fun i wr2 => ∃ (k p : Nat) (ord : List Nat) (mv2 tw : List Int), i = .int .i64 (p : Int) ∧ p = Gc.total m (ord.take k) ∧ L2 w wr2 w.heap.size (w.heap.size + 1 + 1 + 1 + 1) (w.heap.size + 1 + 1) A cp (w.heap.size + 1 + 1 + 1) (w.heap.size + 1) m St ads rts k ord mv2 tw) (fun i _ => m.length - (intOf i).toNat)
      case atStart =>
        obtain ⟨ord, tw, h⟩ := HLd.out.to2 HR.out
        exact ⟨0, 0, ord, mv, tw, rfl, by simp [Gc.total], h⟩
      case round =>
        obtain ⟨k, p, ord, mv2, tw, rfl, hp, hl⟩ := hrel
        have HL := Lib.hid hl
        have HPT := Lib.hid hp
        clear hl hp
        have hct := blk_cell0 HL.out.col.gs.ht
        have HS := Lib.hid HL.out.small
        have HTL := Lib.hid HL.out.col.tl
        by_cases hlt : k < ord.length
        · have hgd : Hid (ord[k]? = some (ord[k]'hlt)) := Lib.hid (List.getElem?_eq_getElem hlt)
          have hsz := (HL.out.col.wf.lay.mem _ (HL.out.col.sub _ (List.getElem_mem hlt)))
          have htk := Gc.total_take (m := m) hlt
          have hsp := Gc.total_split m ord (k + 1)
          have hszp := Gc.sz_pos m ord[k]
          have hpl : p + Gc.sz m ord[k] ≤ tw.length := by have := HPT.out; have := HTL.out; omega
          have hplt : (p : Int) < tw.length := by omega
          have hDl : (Gc.D m ord k).length = p := (Gc.D_length HL.out.col.in_).trans HPT.out.symm
          have hgt : tw[p]? = some (Gc.gd m ord[k]) := by
            rw [HL.out.tws, Gc.R_drop hlt, ← hDl, List.getElem?_append_right (by omega), Nat.sub_self]
            rfl
          have hcell : wr.cell? ⟨w.heap.size + 1, p, none⟩ = some (.int .u64 (Gc.gd m ord[k])) := by
            rw [HL.out.col.gs.rto.cellAt _ (by omega)]
            unfold nums
            rw [List.getElem?_map, hgt]
            rfl
          have hwd := HL.out.col.gs.wdt _ (List.mem_of_getElem? hgt)
          generalize hadef : ord[k] = a at *
          have hszt : Gc.sz tw p = Gc.sz m a := gd_sz hgt
          have hu8 : IntKind.u8.wrap (Gc.gd m a) = Gc.gd m a % 256 := by unfold IntKind.wrap; simp [IntKind.bits, IntKind.signed]
          have HWP : Hid (wrap64 ((p : Int) + (Gc.sz m a : Int)) = ((p + Gc.sz m a : Nat) : Int)) := Lib.hid (by have := HS.out; have := HTL.out; unfold wrap64; omega)
          by_cases hk3 : Gc.gd m a % 256 = 3
          · have hb3 : (Gc.gd m a % 256 == 3) = true := by rw [hk3]; rfl
            go_wp2_with (go_at_call 43; refine (c43 wr _ _ _ 0 tw p HL.out.col.gs.rto HL.out.col.gs.wdt (by have := HS.out; have := HTL.out; omega) (by rw [hszt]; exact hpl)).mono ?_; rintro e w2 ⟨rfl, nn, rfl⟩)
            go_roundw
            case rel => exact ⟨k + 1, p + Gc.sz m a, ord, mv2, tw, congrArg (Value.int .i64) HWP.out, by have := HPT.out; omega, (HL.out.text hlt (by rw [hadef]; exact hk3)).drewN nn⟩
            case measure => have := HS.out; have := HTL.out; rw [HWP.out]; simp [intOf]; omega
          · have hb3 : (Gc.gd m a % 256 == 3) = false := by rw [beq_eq_false_iff_ne]; exact hk3
            have hbl2 : (Gc.body m a).length = Gc.np (Gc.gd m a) := Gc.body_length hsz.2.1
            have hnp : Gc.gd m a / 256 = ((Gc.body m a).length : Int) := by
              rw [hbl2]
              unfold Gc.np
              rw [if_neg hk3]
              omega
            have HNP := Lib.hid hnp
            have HGT := Lib.hid hgt
            have HL3 := Lib.hid (HL.out.open_ hlt (by rw [hadef]; exact hk3))
            rw [hadef] at HL3
            have HPL := Lib.hid hpl
            have HSZ := Lib.hid hsz
            have HADEF := Lib.hid hadef
            have HTK := Lib.hid htk
            have hbsm : (Gc.body m a).length ≤ 1048576 := by
              have := HS.out; have := HTL.out
              unfold Gc.sz at hpl
              omega
            clear hnp hgt hsz htk hsp hadef hbl2
            go_wp2
            go_loopw [56] (fun i wr3 => ∃ (j2 : Nat) (ord3 : List Nat) (mv3 tw3 : List Int), i = .int .i64 (j2 : Int) ∧ j2 ≤ (Gc.body m a).length ∧ p = Gc.total m (ord3.take k) ∧ L3 w wr3 w.heap.size (w.heap.size + 1 + 1 + 1 + 1) (w.heap.size + 1 + 1) A cp (w.heap.size + 1 + 1 + 1) (w.heap.size + 1) m St ads rts k j2 a ord3 mv3 tw3) (fun i _ => (Gc.body m a).length - (intOf i).toNat)
            case atStart => exact ⟨0, ord, mv2, tw, rfl, Nat.zero_le _, HPT.out, HL3.out⟩
            case round =>
              clear HL3 HGT hct hcell hwd HL HPT HS HTL hlt HPL HTK HADEF HWP hgd
              obtain ⟨j2, ord3, mv3, tw3, rfl, hj2, hp3, hl3⟩ := hrel
              have HL3 := Lib.hid hl3
              have HP3 := Lib.hid hp3
              clear hl3 hp3
              have hct := blk_cell0 HL3.out.col.gs.ht
              by_cases hjl : j2 < (Gc.body m a).length
              · have hj3 : (j2 : Int) < Gc.gd m a / 256 := by rw [HNP.out]; omega
                have HX := Lib.hid (HL3.out.next HR.out HN.out hjl)
                have hlen : p + 1 + j2 < tw3.length := by
                  have h1 := congrArg List.length HL3.out.tws
                  have h2 := Gc.D_length (i := k) HL3.out.col.in_
                  rw [← HP3.out] at h2
                  simp only [List.length_append, List.length_cons, List.length_map, List.length_take, List.length_drop] at h1
                  omega
                have hlen3 : tw3.length ≤ 1048576 := by
                  have h1 := (C_own HL3.out.col.gs.rto).2.1
                  omega
                have HLE := Lib.hid hlen
                rw [← HP3.out] at HX
                have hS1 : IntKind.i64.wrap ((p : Int) + 1) = (p : Int) + 1 := IntWalk.i64_in _ (by omega)
                have hS2 : IntKind.i64.wrap ((p : Int) + 1 + (j2 : Int)) = ((p + 1 + j2 : Nat) : Int) := (IntWalk.i64_in _ (by omega)).trans (by omega)
                have hlt5 : ((p + 1 + j2 : Nat) : Int) < tw3.length := by omega
                go_wp2_with (go_at_call 42; refine (HX.out).mono ?_; rintro e w2 ⟨rfl, l2, mv4, tw4, HL4⟩)
                go_roundw
                case rel => exact ⟨j2 + 1, ord3 ++ l2, mv4, tw4, by go_num, hjl, by rw [List.take_append_of_le_length (by have := (List.getElem?_eq_some_iff.1 HL3.out.at_).1; omega)]; exact HP3.out, HL4⟩
                case measure => simp [intOf]; omega
              · have hj3 : ¬ (j2 : Int) < Gc.gd m a / 256 := by rw [HNP.out]; omega
                have e : j2 = (Gc.body m a).length := by omega
                subst e
                obtain ⟨hk4, ha4⟩ := List.getElem?_eq_some_iff.1 HL3.out.at_
                have HL5 := Lib.hid HL3.out.close
                have hS := HL5.out.small
                have hTL := HL5.out.col.tl
                have htk := Gc.total_take (m := m) hk4
                have hsp := Gc.total_split m ord3 (k + 1)
                rw [ha4] at htk
                have hp3 := HP3.out
                have hszp := Gc.sz_pos m a
                have hDl : (Gc.D m ord3 k).length = p := (Gc.D_length HL3.out.col.in_).trans HP3.out.symm
                have hgt : tw3[p]? = some (Gc.gd m a) := by
                  rw [HL3.out.tws, ← hDl, List.append_assoc, List.getElem?_append_right (by omega), Nat.sub_self]
                  rfl
                have hszt : Gc.sz tw3 p = Gc.sz m a := gd_sz hgt
                have HWP : Hid (wrap64 ((p : Int) + (Gc.sz m a : Int)) = ((p + Gc.sz m a : Nat) : Int)) := Lib.hid (by unfold wrap64; omega)
                have HNX : Hid (p + Gc.sz m a = Gc.total m (ord3.take (k + 1))) := Lib.hid (by omega)
                have HM : Hid (p + Gc.sz m a ≤ m.length) := Lib.hid (by omega)
                have HC43 := Lib.hid (c43 wr _ _ _ 0 tw3 p HL3.out.col.gs.rto HL3.out.col.gs.wdt (by omega) (by rw [hszt]; omega))
                rw [hszt] at HC43
                clear hS hTL htk hsp hp3 hgt hDl hszt HL3 HP3
                go_wp2_with (go_at_call 43; refine (HC43.out).mono ?_; rintro e w2 ⟨rfl, nn, rfl⟩)
                go_roundw
                case rel => exact ⟨k + 1, p + Gc.sz m a, ord3, mv3, tw3, congrArg (Value.int .i64) HWP.out, HNX.out, HL5.out.drewN nn⟩
                case measure => have := HM.out; rw [HWP.out]; simp [intOf]; omega
        · have hge : ¬ (p : Int) < tw.length := by
            have := HL.out.ile
            have e : k = ord.length := by omega
            have := HPT.out
            rw [e, List.take_length, ← HTL.out] at this
            omega
          have hWd : HpIs wr b (.slice A m.length cp) m q c := by
            refine HH.out.chg HL.out.chg ?_
            rintro x hx ⟨pp, hpp, rfl⟩
            obtain ⟨i2, hi2, rfl⟩ := List.mem_iff_getElem.1 hpp
            obtain ⟨g2, n2, c2, l2, k2, e, hr2, hk2, hv2⟩ := HR.out.row i2 hi2
            rw [e] at hx
            rcases hx with hx | hx
            · have hx' : g2 = b := hx
              subst hx'
              obtain ⟨x2, y2⟩ := own_typed hr2 g2 rfl
              rw [HH.out.blk] at y2
              injection y2 with y2
              injection y2 with _ y2
              exact absurd y2 (by decide)
            · exact hv2 hx
          have HWd := Lib.hid hWd
          have hb0 := hWd.cell0
          have hb2 := hWd.cell2
          have hg0 := hWd.free 0
          have hg2 := hWd.free 2
          clear hWd h0 h2 hf0 hf2
          go_wp2
          refine bodyPost_end (results_none rfl _ _ _) rfl ?_
          have hord : ord = Gc.order m rts := by
            have h1 := HL.out.fin
            rw [Gc.scan_end (by omega)] at h1
            exact h1
          have htw : tw = Gc.out m ord := by
            have h1 := HL.out.tws
            have e : k = ord.length := by have := HL.out.ile; omega
            rw [e, List.drop_length, Gc.D_all] at h1
            rw [h1]
            simp [Gc.R]
          rw [← hord, ← htw]
          refine ⟨rfl, .slice (some ⟨w.heap.size + 1, 0, none⟩) tw.length m.length, (HWd.out.setMem HL.out.col.gs.rto (by have := HS.out; have := HTL.out; omega) HL.out.col.gs.wdt).setCount (c + 1), ?_, ?_, ?_⟩
          · refine Chg.setCell (S := fun x => x = b ∨ ∃ p ∈ ads, p.block = x) (Chg.setCell (S := fun x => x = b ∨ ∃ p ∈ ads, p.block = x) (HL.out.chg.mono fun x hx => .inr hx) (p := ⟨b, 0, none⟩) (.inl (.inl rfl)) _) (p := ⟨b, 2, none⟩) (.inl (.inl rfl)) _
          · intro g n2 c2 l2 hr2
            have hne : some b ≠ Value.ownBlock (.slice (some ⟨g, 0, none⟩) n2 c2) := by
              intro e
              have e' : b = g := by injection e
              subst e'
              obtain ⟨x2, y2⟩ := own_typed hr2 b rfl
              rw [HH.out.blk] at y2
              injection y2 with y2
              injection y2 with _ y2
              exact absurd y2 (by decide)
            exact own_setCell (own_setCell (HL.out.rows g n2 c2 l2 hr2) (p := ⟨b, 0, none⟩) hne _) (p := ⟨b, 2, none⟩) hne _
          · intro k2 hk2
            have hk3 : w.heap.size + 1 = k2 := by injection hk2
            omega
end
end Go.Proofs.YtbpbhipjpjjcaaaDoor
