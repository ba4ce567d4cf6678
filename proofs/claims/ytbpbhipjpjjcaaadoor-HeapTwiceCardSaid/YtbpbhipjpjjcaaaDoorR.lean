import Derived.Test.YtbpbhipjpjjcaaaDoorQ
namespace Go.Proofs.YtbpbhipjpjjcaaaDoor
open Go.RowKit Go.Proofs.YtbpbhipjpjjcaaaDoorW.PrintWords
set_option linter.unusedVariables false
set_option linter.unusedSimpArgs false

/-- An argument []string. -/
def StrArg (w : World) (A : Option Addr) (n : Nat) (ss : List ByteArray) : Prop :=
  ss.length = n ∧ ∀ i : Nat, i < n → ∃ ad, A = some ad ∧ w.cell? (ad.add i) = some (.string (ss.getD i ⟨#[]⟩))
theorem StrArg.below {w w1 : World} {A : Option Addr} {n : Nat} {ss : List ByteArray} (h : StrArg w A n ss) (hb : Below w.heap.size w w1) : StrArg w1 A n ss :=
  ⟨h.1, fun i hi => by obtain ⟨ad, e, hc⟩ := h.2 i hi; exact ⟨ad, e, pw_cell_below hb hc⟩⟩
theorem text_at (ss : List ByteArray) (k j : Nat) (more : List Int) (mm : List Int) (hmm : mm = cat ss k ++ more) (hj : j < k) (hk : k ≤ ss.length) (hl : mm.length ≤ 1048576) {b : Nat} {v : Value} {q c : Int} (w : World) (h : HpIs w b v mm q c) (hs : (ss.getD j ⟨#[]⟩).size ≤ 1000000) :
    Calls Tryd.prog 20 #[.pointer (some ⟨b, 0, none⟩), .int .u64 (((cat ss j).length : Int) * 2)] w fun e w' => e = .returned (.string (ss.getD j ⟨#[]⟩)) ∧ Below w.heap.size w w' := by
  obtain ⟨post, hp⟩ := cat_split ss k j hj hk
  have e1 : mm = cat ss j ++ twrds (ss.getD j ⟨#[]⟩) ++ (post ++ more) := by rw [hmm, hp, List.append_assoc]
  have e2 : ((cat ss j).length : Int) * 2 / 2 = ((cat ss j).length : Int) := by omega
  have hlen : mm.length = (cat ss j).length + (1 + ((ss.getD j ⟨#[]⟩).size + 7) / 8) + (post ++ more).length := by rw [e1, List.length_append, List.length_append, twrds_length]
  have hd : rd mm (((cat ss j).length : Int) * 2 / 2) = ((ss.getD j ⟨#[]⟩).size : Int) * 256 + 3 := by rw [e2, e1]; exact rd_head _ _ _
  refine (c20 (((cat ss j).length : Int) * 2) w h ⟨by omega, by omega, by omega, by rw [e2]; omega⟩ (by rw [hd]; omega) (ss.getD j ⟨#[]⟩).size (by rw [hd]; omega) (by rw [e2]; omega)).mono fun e w' ⟨he, hb⟩ => ⟨?_, hb⟩
  rw [he, e2, e1, txt_mid]
theorem C_prefix {α : Type} {d : Kd α} {w : World} {A : Option Addr} {l l2 : List α} (h : Kd.C d w A (l ++ l2).length (l ++ l2)) : Kd.C d w A l.length l := by
  refine ⟨rfl, ?_, fun hp => ?_⟩
  · have := h.2.1
    simp at this
    omega
  · obtain ⟨ad, e, hc⟩ := h.2.2 (by simp; omega)
    refine ⟨ad, e, fun j p hj => hc j p ?_⟩
    rw [List.getElem?_append_left (List.getElem?_eq_some_iff.1 hj).1]
    exact hj
set_option maxRecDepth 100000 in
set_option maxHeartbeats 1000000 in
theorem c4_long (A : Option Addr) (n cp : Nat) (w : World) (hn : 30 < n) (hm : n ≤ 9223372036854775807) :
    Calls Tryd.prog 4 #[.slice A n cp] w fun e w' => e = .returned (.bool true) ∧ Below w.heap.size w w' := by
  have hn1 : (30 : Int) < n := by omega
  go_enter Tryd.func4, Tryd.ntmps4
  go_wp2_with (go_at_call 10; refine (c10 w).mono ?_; rintro e w1 ⟨rfl, hb⟩; refine Hid.out ?_)
  have B1 := Lib.hid hb
  clear hb
  refine Lib.hid ?_
  go_wp2_with (go_at_call 10; refine (c10 w1).mono ?_; rintro e w2 ⟨rfl, hb⟩; refine Hid.out ?_)
  have B2 := Lib.hid hb
  clear hb
  refine Lib.hid ?_
  go_wp2
  go_ret
  exact ⟨rfl, B1.out.trans (B2.out.mono B1.out.size)⟩
/-- What holds ahead of the k-th text. -/
structure Cps (w0 : World) (hb : Nat) (ss : List ByteArray) (wr : World) (v v5 : Value) (k : Nat) : Prop where
  is : HpIs wr hb v (cat ss k) 100000 0
  own : ∀ g, v.ownBlock = some g → w0.heap.size ≤ g
  roots : wr.ownsRow w0.heap.size 23 1 v5 (rts ss k).length (nums .u64 (rts ss k))
  apart : v5.ownBlock = none ∨ v5.ownBlock ≠ v.ownBlock
  bel : Below w0.heap.size w0 wr
  short : ∀ j, j < k → (ss.getD j ⟨#[]⟩).size ≤ 1000
/-- A text is put, its root kept. -/
theorem Cps.put {w0 : World} {hb : Nat} {ss : List ByteArray} {wr w1 w2 : World} {v v5 v1 v6 : Value} {k : Nat} (h : Cps w0 hb ss wr v v5 k) (hk : k < ss.length) (hs : (ss.getD k ⟨#[]⟩).size ≤ 1000) (hle : w0.heap.size ≤ hb)
    (hx : Hx wr hb v w1 v1 (cat ss k ++ twrds (ss.getD k ⟨#[]⟩)) 100000 0) (hr : (w1.alloc (.cells #[.int .u64 (((cat ss k).length : Int) * 2)] 23)).grownBy w2 v5.ownBlock)
    (ho : w2.ownsRow w0.heap.size 23 1 v6 (rts ss k ++ [((cat ss k).length : Int) * 2]).length (nums .u64 (rts ss k ++ [((cat ss k).length : Int) * 2]))) (hat : v6.ownBlock = v5.ownBlock ∨ v6.ownBlock = some (w1.heap.size + 1)) :
    Cps w0 hb ss w2 v1 v6 (k + 1) := by
  have own1 : ∀ g, v1.ownBlock = some g → w0.heap.size ≤ g := by
    intro g hg
    rcases hx.own g hg with (rfl | h2) | h2
    · exact hle
    · exact h.own g h2
    · have := h.bel.size; omega
  have hge : ∀ g, v5.ownBlock = some g → w0.heap.size ≤ g ∧ g < wr.heap.size := fun g hg => h.roots.lt g hg
  have ne5 : ∀ g, v5.ownBlock = some g → ¬ Reg hb v1 g := by
    rintro g hg (rfl | h2)
    · obtain ⟨c, hc⟩ := own_typed h.roots g hg
      rw [h.is.blk] at hc
      injection hc with hc
      injection hc with _ hc
      exact absurd hc (by decide)
    · rcases hx.own g h2 with (rfl | h3) | h3
      · exact hx.is.ne h2
      · rcases h.apart with h4 | h4
        · rw [hg] at h4; cases h4
        · exact h4 (by rw [hg, h3])
      · have := (hge g hg).2; omega
  have hsz := hx.chg.size
  refine ⟨?_, own1, ?_, ?_, ?_, ?_⟩
  · rw [cat_succ ss k hk]
    exact (hx.is.below (below_alloc (Below.refl _ _) _)).chg (S := fun g => v5.ownBlock = some g) ((Chg.refl _ _).grown hr (fun g hg => .inl hg)) (fun g h1 h2 => ne5 g h2 h1)
  · rw [rts_succ]; exact ho
  · rcases hat with h1 | h1
    · rw [h1]
      rcases hv : v5.ownBlock with _ | g
      · exact .inl rfl
      · exact .inr (fun e => ne5 g hv (.inr e.symm))
    · rw [h1]
      exact .inr (fun e => by have := own_lt hx.is.row _ e.symm; omega)
  · have b1 : Below w0.heap.size wr w1 := hx.chg.to_below h.bel.size (by rintro g (rfl | h2); exact hle; exact h.own g h2)
    have b2 : Below w0.heap.size w0 w1 := h.bel.trans b1
    exact ((b2.alloc b2.size _).grown hr (by simp; have := b2.size; omega) (fun g hg => (hge g hg).1))
  · intro j hj
    by_cases e : j = k
    · subst e; exact hs
    · exact h.short j (by omega)
set_option maxRecDepth 100000 in
set_option maxHeartbeats 1000000 in
theorem c4_short (A : Option Addr) (n cp : Nat) (ss : List ByteArray) (w : World) (hn : n ≤ 30) (hr : StrArg w A n ss) :
    Calls Tryd.prog 4 #[.slice A n cp] w fun e w' => e = .returned (.bool true) ∧ Below w.heap.size w w' := by
  have hn1 : (n : Int) ≤ 30 := by omega
  have hlen := Lib.hid hr.1
  go_enter Tryd.func4, Tryd.ntmps4
  go_wp2_with (go_at_call 10; refine (c10 w).mono ?_; rintro e w1 ⟨rfl, hb⟩; refine Hid.out ?_)
  have B1 := Lib.hid hb
  have R1 := Lib.hid (hr.below hb)
  clear hb hr
  refine Lib.hid ?_
  go_wp2_with (go_at_call 12; refine (c12 100000 w1 (by omega) (by omega)).mono ?_; rintro e w' ⟨rfl, rfl⟩)
  go_loopw [5, 6] (fun v5 i wr => ∃ (k : Nat) (v : Value), k ≤ n ∧ i = .int .i64 k ∧ Cps w1 w1.heap.size ss wr v v5 k) (fun _ i _ => n - (intOf i).toNat)
  case atStart => exact ⟨0, _, Nat.zero_le _, rfl, ⟨HpIs.new w1 100000, by simp [Value.ownBlock], World.ownsRow_nil _ _ _ _, .inl rfl, below_alloc (Below.refl _ _) _, by omega⟩⟩
  case round =>
    obtain ⟨k, v, hk, rfl, hC⟩ := hrel
    have HC := Lib.hid hC
    have hsm := cat_len ss k hC.short (by have := hlen.out; omega)
    clear hC
    by_cases hlt : k < n
    · obtain ⟨ad, rfl, hcell⟩ := (R1.out.below HC.out.bel).2 k hlt
      obtain ⟨s, hs⟩ : ∃ s, s = ss.getD k ⟨#[]⟩ := ⟨_, rfl⟩
      rw [← hs] at hcell
      have HS := Lib.hid hs
      clear hs
      by_cases hbig : 1000 < s.size
      · have hbig1 : (1000 : Int) < s.size := by omega
        go_wp2
        go_ret
        exact ⟨rfl, B1.out.trans (HC.out.bel.mono B1.out.size)⟩
      · have hbig1 : (s.size : Int) ≤ 1000 := by omega
        have P := Lib.hid (c13_fits s (.slice none 0 0) wr HC.out.is (by omega) (by omega) (by omega))
        go_wp2_with fail
        refine P.out.mono ?_
        rintro e w3 ⟨rfl, v3, hx3⟩
        have HX3 := Lib.hid hx3
        have HR3 : Hid (w3.ownsRow w1.heap.size 23 1 u5 (rts ss k).length (nums .u64 (rts ss k))) := own_move HC.out.roots (fun g hg => hx3.chg.block g (HC.out.roots.lt g hg).2 (by
          rintro (rfl | h2)
          · obtain ⟨c, hc⟩ := own_typed HC.out.roots _ hg
            rw [HC.out.is.blk] at hc
            injection hc with hc
            injection hc with _ hc
            exact absurd hc (by decide)
          · rcases HC.out.apart with h4 | h4
            · rw [hg] at h4; cases h4
            · exact h4 (by rw [hg, h2])))
        have HB3 : Hid (w1.heap.size ≤ w3.heap.size) := Nat.le_trans HC.out.bel.size hx3.chg.size
        have HL3 : Hid ((rts ss k).length < 17592186044416) := by have := rts_length ss k; exact Lib.hid (by omega)
        clear hx3
        go_wp2_with (at_builtin; refine wp_push (HR3.out.alloc _) (Nat.le_trans HB3.out (by simp)) HL3.out rfl (.tmp 47) (.tmp 49) rfl rfl ⟨w3.heap.size, 0, none⟩ (((cat ss k).length : Int) * 2) rfl (box_cells w3 _) ?_; intro A6 n6 c6 w6 hn6 ho6 hg6 hat6; subst hn6; refine Hid.out ?_)
        have HC6 := Lib.hid (HC.out.put (by have := hlen.out; omega) (by rw [← HS.out]; omega) (Nat.le_refl _) (by rw [← HS.out]; exact HX3.out) hg6 ho6 (by simpa using hat6))
        clear ho6 hg6 hat6
        refine Lib.hid ?_
        go_wp2
        go_roundw
        case rel => exact ⟨k + 1, v3, by omega, by go_num, HC6.out⟩
        case measure => simp [intOf]; omega
    · have hkn : k = n := by omega
      subst hkn
      -- the copy
      have P14 := Lib.hid (c14 wr HC.out.is)
      have hsm2 : (cat ss k).length ≤ 3780 := by omega
      go_wp2_with fail
      refine P14.out.mono ?_
      rintro e w4 ⟨b2, v2, rfl, hI2, hB4, hb2, hv2⟩
      have HI2 := Lib.hid hI2
      have HI1 := Lib.hid (HC.out.is.below hB4)
      have HB4 := Lib.hid hB4
      have Hb2 := Lib.hid hb2
      have Hv2 := Lib.hid hv2
      clear hI2 hB4 hb2 hv2
      -- its words, as they were
      go_wp2_with (go_at_call 16; refine (c16 w4 HI1.out).mono ?_; rintro e w5 ⟨A5, c5, rfl, hr5, hB5⟩; refine Hid.out ?_)
      have HR5 := Lib.hid hr5
      have HB5 := Lib.hid hB5
      clear hr5 hB5
      have hC5 := C_own HR5.out
      have P15 := Lib.hid (PHeapPlays.battledorelaw09_words.calls ((cat ss k).length + 1) A5 c5 (cat ss k) (cat ss k) w5 hC5.2.2 hC5.2.1 (words_f _ (by omega)))
      clear hC5
      refine Lib.hid ?_
      go_wp2_with (go_at_call 15; refine P15.out.mono ?_; rintro e w6 ⟨v6, rfl, hr6, hB6⟩; refine Hid.out ?_)
      obtain ⟨A6, c6, hv6, hl6, hC6⟩ := Kd.R_reads hr6
      subst hv6
      have HR6 := Lib.hid (Kd.R_bound hr6)
      have HB6 := Lib.hid hB6
      have HI1c := Lib.hid ((HI1.out.below HB5.out).below hB6)
      have HI2c := Lib.hid ((HI2.out.below HB5.out).below hB6)
      clear hr6 hB6 hl6 hC6
      refine Lib.hid ?_
      have Lhb : Hid (w1.heap.size < wr.heap.size) := HC.out.is.lt
      -- the old one is emptied
      go_wp2_with (go_at_call 17; refine (c17_none w6 HI1c.out (by omega)).mono ?_; rintro e w7 ⟨rfl, v7, hI7, hG7, hv7⟩; refine Hid.out ?_)
      have Lsz : Hid (wr.heap.size ≤ w4.heap.size ∧ w4.heap.size ≤ w5.heap.size ∧ w5.heap.size ≤ w6.heap.size ∧ w6.heap.size ≤ w7.heap.size) := ⟨HB4.out.size, HB5.out.size, HB6.out.size, hG7.size⟩
      have HI2d : Hid (HpIs w7 b2 v2 (cat ss k) 100000 0) := HI2c.out.chg hG7 (by
        rintro g hg rfl
        have h1 := Hb2.out
        have h2 := Lhb.out
        rcases hg with h3 | h3
        · omega
        · have := Hv2.out _ h3; omega)
      have HR7 : Hid (Kd.R (Kd.int .u64) 22 w7 w5.heap.size (fun g => w5.heap.size ≤ g ∧ g < w6.heap.size) (.slice A6 (cat ss k).length c6) (cat ss k)) :=
        Kd.R_step (Kd.R_mono HR6.out (fun g hg => ⟨hg.2.1, hg.2.2.1⟩)) (fun g hg hlt2 => hG7.block g hlt2 (by have h1 := Lhb.out; have h2 := Lsz.out; have h3 := hg.1; omega))
      have HI7 := Lib.hid hI7
      have HG7 := Lib.hid hG7
      have Hv7 := Lib.hid hv7
      clear hI7 hG7 hv7
      refine Lib.hid ?_
      -- the copy goes on
      have P13 := Lib.hid (c13_fits ⟨#[109, 111, 114, 101]⟩ (.slice none 0 0) w7 HI2d.out (by decide) (by omega) (by have : ByteArray.size ⟨#[109, 111, 114, 101]⟩ = 4 := rfl; rw [this]; omega))
      go_wp2_with (go_at_call 13; refine P13.out.mono ?_; rintro e w8 ⟨rfl, v8, hx8⟩; refine Hid.out ?_)
      have L8 : Hid (w7.heap.size ≤ w8.heap.size) := hx8.chg.size
      have NR : Hid (∀ g, Reg b2 v2 g → wr.heap.size ≤ g ∧ g < w4.heap.size) := by
        rintro g (rfl | h3)
        · exact ⟨Hb2.out, HI2.out.lt⟩
        · exact ⟨Hv2.out _ h3, own_lt HI2.out.row _ h3⟩
      have HI1d : Hid (HpIs w8 w1.heap.size v7 [] 100000 (0 + 1)) := HI7.out.chg hx8.chg (by
        intro g hg h3
        have h4 := NR.out g h3
        have h5 := Lsz.out
        rcases hg with rfl | h6
        · have := Lhb.out; omega
        · have := Hv7.out _ h6; omega)
      have HR8 : Hid (Kd.R (Kd.int .u64) 22 w8 w5.heap.size (fun g => w5.heap.size ≤ g ∧ g < w6.heap.size) (.slice A6 (cat ss k).length c6) (cat ss k)) :=
        Kd.R_step HR7.out (fun g hg hlt2 => hx8.chg.block g hlt2 (fun h3 => by have h4 := NR.out g h3; have h2 := Lsz.out; have h5 := hg.1; omega))
      have HX8 := Lib.hid hx8
      clear hx8
      obtain ⟨mm, hmm⟩ : ∃ mm, mm = cat ss k ++ twrds ⟨#[109, 111, 114, 101]⟩ := ⟨_, rfl⟩
      have HI8 : Hid (HpIs w8 b2 v8 mm 100000 0) := by rw [hmm]; exact HX8.out.is
      have HMM := Lib.hid hmm
      clear hmm
      refine Lib.hid ?_
      have hC8 := Kd.R_reads' HR8.out
      go_wp2_with (first
        | (go_at_call 18; refine (c18 w8 HI1d.out).mono ?_; rintro e w' ⟨rfl, rfl⟩)
        | (go_at_call 16; refine (c16 w8 HI8.out).mono ?_; rintro e w9 ⟨A9, c9, rfl, hr9, hB9⟩; refine Hid.out ?_))
      have HR9 := Lib.hid hr9
      have HB9 := Lib.hid hB9
      clear hr9 hB9
      have hC9 := C_own HR9.out
      have hl9 : mm.length ≤ 1048576 * 4 := by have := HI8.out.small; omega
      have P15b := Lib.hid (PHeapPlays.battledorelaw09_words.calls _ A9 c9 _ _ w9 hC9.2.2 hC9.2.1 (words_f _ hl9))
      clear hC9 hC8
      refine Lib.hid ?_
      go_wp2_with (go_at_call 15; refine P15b.out.mono ?_; rintro e w10 ⟨v10, rfl, hr10, hB10⟩; refine Hid.out ?_)
      obtain ⟨ad10, c10, hv10⟩ := Kd.R_slice1 hr10 (by rw [HMM.out, List.length_append, twrds_length]; omega)
      subst hv10
      have hC10 := Kd.R_reads' hr10
      have HB10 := Lib.hid hB10
      have HC10 : Hid (Kd.C (Kd.int .u64) w10 (some ad10) (cat ss k).length (cat ss k)) := C_prefix (l2 := twrds ⟨#[109, 111, 114, 101]⟩) (by rw [← HMM.out]; exact hC10.2.2)
      have hcap10 : (cat ss k).length ≤ c10 := by have := hC10.2.1; rw [HMM.out, List.length_append] at this; omega
      have hcap11 : ((cat ss k).length : Int) ≤ c10 := by omega
      have hR10 := Kd.R_reads' (Kd.R_below (Kd.R_below HR8.out HB9.out) HB10.out)
      obtain ⟨_, hcap6, hC6b⟩ := hR10
      clear hr10 hB10 hC10
      have hl6 : (cat ss k).length ≤ 1048576 * 4 := by omega
      have p19 := PHeapPlays.battledorelaw09_same.calls ((cat ss k).length + 1) (some ad10) c10 (cat ss k) A6 c6 (cat ss k) true w10 HC10.out hcap10 hC6b hcap6 (same_f (cat ss k) hl6)
      have P19 := Lib.hid p19
      clear p19 hC6b hcap6 hl6
      refine Lib.hid ?_
      go_wp2_with (go_at_call 19; refine P19.out.mono ?_; rintro e w11 ⟨rfl, ⟨nd, rfl⟩⟩; refine Hid.out ?_)
      have HBx : Hid (Below w1.heap.size w1 w10) := by
        have h1 := HC.out.bel
        have h2 := h1.trans (HB4.out.mono h1.size)
        have h3 := h2.trans (HB5.out.mono h2.size)
        have h4 := h3.trans (HB6.out.mono h3.size)
        have h5 := h4.trans (HG7.out.to_below h4.size (by rintro g rfl; exact Nat.le_refl _))
        have h6 := h5.trans (HX8.out.chg.to_below h5.size (fun g hg => by have := NR.out g hg; have := Lhb.out; omega))
        have h7 := h6.trans (HB9.out.mono h6.size)
        exact h7.trans (HB10.out.mono h7.size)
      have HRx : Hid (w10.ownsRow w1.heap.size 23 1 u5 (rts ss k).length (nums .u64 (rts ss k))) := by
        have h1 := HC.out.roots
        have hlt5 : ∀ g, u5.ownBlock = some g → g < wr.heap.size := fun g hg => (h1.lt g hg).2
        have h4 := pw_own_below (pw_own_below (pw_own_below h1 HB4.out) HB5.out) HB6.out
        have h7 := own_move h4 (fun g hg => HG7.out.block g (h4.lt g hg).2 (by
          rintro rfl
          obtain ⟨c, hc⟩ := own_typed h1 _ hg
          rw [HC.out.is.blk] at hc
          injection hc with hc
          injection hc with _ hc
          exact absurd hc (by decide)))
        have h8 := own_move h7 (fun g hg => HX8.out.chg.block g (h7.lt g hg).2 (fun h3 => by have := NR.out g h3; have := hlt5 g hg; omega))
        exact pw_own_below (pw_own_below h8 HB9.out) HB10.out
      have HI10 : Hid (HpIs w10 b2 v8 mm 100000 0) := (HI8.out.below HB9.out).below HB10.out
      obtain ⟨A7, c7, hu5, hr7⟩ := own_reads HRx.out
      have HR7r := Lib.hid hr7
      clear hr7
      have Hu5 := Lib.hid hu5
      subst hu5
      refine Lib.hid ?_
      go_wp2_with fail
      go_loopw [11] (fun i wq => ∃ j : Nat, j ≤ k ∧ i = .int .i64 j ∧ Below w10.heap.size w10 wq) (fun i _ => k - (intOf i).toNat)
      case atStart => exact ⟨0, Nat.zero_le _, rfl, pw_below_drewN (Below.refl _ _) _⟩
      case round =>
        obtain ⟨j, hj, rfl, hBq⟩ := hrel
        have HBq := Lib.hid hBq
        clear hBq
        by_cases hjk : j < k
        · obtain ⟨ad, rfl, hcell⟩ := (R1.out.below (HBx.out.trans (HBq.out.mono HBx.out.size))).2 j hjk
          obtain ⟨s, hs⟩ : ∃ s, s = ss.getD j ⟨#[]⟩ := ⟨_, rfl⟩
          rw [← hs] at hcell
          have HI11 := Lib.hid (HI10.out.below HBq.out)
          have T20 : Hid (∀ w0, HpIs w0 b2 v8 mm 100000 0 → Calls Tryd.prog 20 #[.pointer (some ⟨b2, 0, none⟩), .int .u64 (rd (rts ss k) (j : Int))] w0 fun e w' => e = .returned (.string s) ∧ Below w0.heap.size w0 w') := fun w0 h0 => by
            rw [rts_get ss k j hjk, hs]
            exact text_at ss k j _ mm HMM.out hjk (by have := hlen.out; omega) h0.small w0 h0 (by have := HC.out.short j hjk; omega)
          clear hs
          obtain ⟨ad7, hA7, hcell7⟩ := HR7r.out.at_ (j : Int) (by omega) (by have := rts_length ss k; omega)
          have hcell7' := pw_cell_below HBq.out hcell7
          rw [Int.toNat_natCast] at hcell7'
          clear hcell7
          subst hA7
          have hrl : (rts ss k).length = k := rts_length ss k
          have hjr : (j : Int) < (rts ss k).length := by omega
          generalize rd (rts ss k) (j : Int) = x at *
          have HRL := Lib.hid hrl
          clear hrl
          go_wp2_with fail
          go_region_held3 (fun w' => w'.cell? (ad7.add j) = some (.int .u64 x) ∧ w'.cell? (ad.add j) = some (.string s))
            (first | exact ⟨pw_cell_below HT.out hcell7', pw_cell_below HT.out hcell⟩ | go_keep)
            ((go_simp; go_at_call 20; refine (T20.out wr.drew HI11.out.drew).mono ?_; rintro e wt ⟨rfl, ht⟩; have HT := Lib.hid ht; clear ht))
          go_wp2
          go_roundw
          case rel => exact ⟨j + 1, by omega, by go_num, HBq.out.trans ((Below.trans (below_drew (Below.refl _ _)) HT.out).mono HBq.out.size)⟩
          case measure => simp [intOf]; omega
        · go_wp2
          go_ret
          exact ⟨rfl, B1.out.trans ((HBx.out.trans (HBq.out.mono HBx.out.size)).mono B1.out.size)⟩
end Go.Proofs.YtbpbhipjpjjcaaaDoor
