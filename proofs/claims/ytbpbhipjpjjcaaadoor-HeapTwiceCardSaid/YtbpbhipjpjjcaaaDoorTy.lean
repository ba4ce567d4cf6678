import Derived.Test.YtbpbhipjpjjcaaaDoorYz
import Derived.Test.YtbpbhipjpjjcaaaDoorHh
namespace Go.Proofs.YtbpbhipjpjjcaaaDoor
open Go.RowKit Go.Proofs.YtbpbhipjpjjcaaaDoorW.PrintWords Go.Proofs.YtbpbhipjpjjcaaaDoorW.PrintLast
set_option linter.unusedVariables false
set_option linter.unusedSimpArgs false

theorem nums_encs (l : List Int) : encs (Value.int .u64) l = nums .u64 l := rfl
theorem row_of_R {e : Nat} {w : World} {base : Nat} {ok : Nat → Prop} {v : Value} {l : List Int} (h : Kd.R (Kd.int .u64) e w base ok v l) : w.ownsRow base e 1 v l.length (nums .u64 l) := Kd.own_of_R h
theorem c15w (w : World) (A : Option Addr) (c : Nat) (l : List Int) (hC : Kd.C (Kd.int .u64) w A l.length l) (hc : l.length ≤ c) (hl : l.length ≤ 1048576) :
    Calls Tryd.prog 15 #[.slice A l.length c] w fun e w' => ∃ v, e = .returned v ∧ w'.ownsRow w.heap.size 22 1 v l.length (nums .u64 l) ∧ Below w.heap.size w w' :=
  (PHeapPlays.battledorelaw09_words.calls (l.length + 1) A c l l w hC hc (words_f l (by omega))).mono fun e w' ⟨v, he, hr, hb⟩ => ⟨v, he, row_of_R hr, hb⟩
theorem c23w (w : World) (A : Option Addr) (c : Nat) (l : List Int) (hC : Kd.C (Kd.int .u64) w A l.length l) (hc : l.length ≤ c) (hl : l.length ≤ 1048576) :
    Calls Tryd.prog 23 #[.slice A l.length c] w fun e w' => ∃ v, e = .returned v ∧ w'.ownsRow w.heap.size 23 1 v l.length (nums .u64 l) ∧ Below w.heap.size w w' :=
  (PHeapTwice.battledorelaw09_back.calls (l.length + 1) A c l l w hC hc (Ha.back_f l (by omega))).mono fun e w' ⟨v, he, hr, hb⟩ => ⟨v, he, row_of_R hr, hb⟩
theorem c19w (w : World) (A A2 : Option Addr) (c c2 : Nat) (l : List Int) (hC : Kd.C (Kd.int .u64) w A l.length l) (hc : l.length ≤ c) (hC2 : Kd.C (Kd.int .u64) w A2 l.length l) (hc2 : l.length ≤ c2) (hl : l.length ≤ 1048576) :
    Calls Tryd.prog 19 #[.slice A l.length c, .slice A2 l.length c2] w fun e w' => e = .returned (.bool true) ∧ Drawn0 w w' :=
  PHeapPlays.battledorelaw09_same.calls (l.length + 1) A c l A2 c2 l true w hC hc hC2 hc2 (same_f l (by omega))
theorem c24w (w : World) (A : Option Addr) (c : Nat) (l : List Int) (p : Nat) (hC : Kd.C (Kd.int .u64) w A l.length l) (hc : l.length ≤ c) (hl : l.length ≤ 1048576) (hw : Wd l) (h0 : p + Gc.sz l p ≤ l.length) (h1 : 1 ≤ Gc.gd l p % 256 ∧ Gc.gd l p % 256 ≤ 6) (h2 : 0 ≤ Gc.gd l p) :
    Calls Tryd.prog 24 #[.slice A l.length c, .int .i64 (p : Int)] w fun e w' => ∃ k A2 n2 c2 s, e = .returned (.tuple #[.agg #[.int .u8 k, .slice A2 n2 c2, .string s], .int .i64 (Gc.sz l p : Int)]) ∧ Below w.heap.size w w' := by
  obtain ⟨k, hk⟩ := Ha.At_f hw (by omega) (p := p)
  obtain ⟨s, hs⟩ := Ha.atv_good h0 h1 h2
  rw [hs] at hk
  exact (PHeapTwice.battledoreref09_At.calls k A c l p _ _ _ _ w hC hc hk).mono fun e w' ⟨v1, he, hr, hb⟩ => by
    obtain ⟨A2, c2, rfl⟩ := Kd.R_slice hr
    exact ⟨_, _, _, _, _, he, hb⟩
/-- Collected once: what a second collection finds. -/
theorem twice {l rl : List Int} {St : List Nat} (hw : Wd l) (hwf : Gc.Wf l St) (hwr : Wd rl) (hok : ∀ x ∈ rl, Gc.Ok St x) (hl : l.length ≤ 2000) (ord : List Nat) (ho : ord = Gc.order l rl) (m1 rl1 : List Int) (hm1 : m1 = Gc.out l ord) (hr1 : rl1 = rl.map (Gc.remap l ord)) :
    ∃ St1, Gc.Wf m1 St1 ∧ (∀ x ∈ rl1, Gc.Ok St1 x) ∧ Wd rl1 ∧ Gc.out m1 (Gc.order m1 rl1) = m1 ∧ rl1.map (Gc.remap m1 (Gc.order m1 rl1)) = rl1 ∧ m1.length ≤ l.length := by
  have hG := Gc.order_good hwf hok
  rw [← ho] at hG
  have h0 : ∀ x ∈ l, 0 ≤ x := fun x hx => (hw x hx).1
  have h1 : ∀ x ∈ rl, 0 ≤ x := fun x hx => (hwr x hx).1
  have hIn : Gc.In l ord := fun a ha => (hwf.lay.mem a (hG.sub a ha)).2.1
  have hlen := Gc.out_length hIn
  have hle := hG.le
  have ho1 : Gc.order m1 rl1 = ord.map (Gc.npos l ord) := by rw [hm1, hr1]; exact Gc.order_new hwf hok h0 h1 ho
  refine ⟨ord.map (Gc.npos l ord), ?_, ?_, ?_, ?_, ?_, by rw [hm1, hlen]; exact hle⟩
  · rw [hm1]; exact Gc.wf_new hwf hG h0
  · rw [hr1]
    intro x hx
    obtain ⟨y, hy, rfl⟩ := List.mem_map.1 hx
    exact Gc.ok_new hG (h1 y hy) hy
  · rw [hr1]
    intro x hx
    obtain ⟨y, hy, rfl⟩ := List.mem_map.1 hx
    rcases Gc.remap_ok hG (h1 y hy) (hG.rts y hy) with ⟨_, e⟩ | ⟨_, h2, e⟩
    · rw [e]; exact hwr y hy
    · rw [e]
      have := Gc.npos_lt (m := l) h2
      omega
  · rw [ho1, hm1]; exact Gc.out_new hwf hok h0 ho
  · rw [ho1, hm1, hr1, List.map_map]
    refine List.map_congr_left fun x hx => ?_
    exact Gc.remap_new hwf hG (h1 x hx) (hG.rts x hx)
/-- Behind the second Load. -/
structure Fin (w : World) (hb gb : Nat) (v vg : Value) (m1 rl1 : List Int) (A7 A13 A14 : Option Addr) : Prop where
  hp : HpIs w hb v m1 5000 2
  gp : HpIs w gb vg m1 5000 0
  r : Kd.C (Kd.int .u64) w A7 rl1.length rl1
  a : Kd.C (Kd.int .u64) w A13 m1.length m1
  b : Kd.C (Kd.int .u64) w A14 rl1.length rl1
theorem Fin.below {w w' : World} {hb gb : Nat} {v vg : Value} {m1 rl1 : List Int} {A7 A13 A14 : Option Addr} (h : Fin w hb gb v vg m1 rl1 A7 A13 A14) (hB : Below w.heap.size w w') : Fin w' hb gb v vg m1 rl1 A7 A13 A14 :=
  ⟨h.hp.below hB, h.gp.below hB, Kd.C_below h.r hB, Kd.C_below h.a hB, Kd.C_below h.b hB⟩
/-- The heap and the roots, in the midst of the law. -/
structure Tw (w0 W : World) (hb : Nat) (v : Value) (m : List Int) (c : Int) (vr : Value) (rl : List Int) : Prop where
  is : HpIs W hb v m 5000 c
  own : ∀ k, Reg hb v k → w0.heap.size ≤ k
  row : W.ownsRow w0.heap.size 23 1 vr rl.length (nums .u64 rl)
  apart : ∀ k, vr.ownBlock = some k → ¬ Reg hb v k
  bel : Below w0.heap.size w0 W
section
variable {w0 W W' : World} {hb : Nat} {v vr : Value} {m rl : List Int} {c : Int}
theorem Tw.below (h : Tw w0 W hb v m c vr rl) (hB : Below W.heap.size W W') : Tw w0 W' hb v m c vr rl :=
  ⟨h.is.below hB, h.own, pw_own_below h.row hB, h.apart, h.bel.trans (hB.mono h.bel.size)⟩
theorem Tw.reads (h : Tw w0 W hb v m c vr rl) : ∃ A c2, vr = .slice A rl.length c2 ∧ rl.length ≤ c2 ∧ Kd.C (Kd.int .u64) W A rl.length rl ∧ (0 < rl.length → ∃ g, A = some ⟨g, 0, none⟩) := by
  obtain ⟨A, c2, hv, _⟩ := own_reads h.row
  subst hv
  obtain ⟨h1, h2, h3⟩ := C_own h.row
  refine ⟨A, c2, rfl, h2, h3, fun hp => ?_⟩
  rcases h.row.2 with ⟨_, h0⟩ | ⟨g, cap, cur, hv, _⟩
  · omega
  · injection hv with hv
    exact ⟨g, hv⟩
theorem Tw.push {W1 : World} {v' : Value} (h : Tw w0 W hb v m c vr rl) (o : Obj) (hg : (W.alloc o).grownBy W1 vr.ownBlock) (y : Int) (hr : W1.ownsRow w0.heap.size 23 1 v' (rl ++ [y]).length (nums .u64 (rl ++ [y]))) (hat : v'.ownBlock = vr.ownBlock ∨ v'.ownBlock = some (W.alloc o).heap.size) : Tw w0 W1 hb v m c v' (rl ++ [y]) := by
  have h2 := h.below (below_alloc (Below.refl _ _) o)
  have hge : ∀ g, vr.ownBlock = some g → w0.heap.size ≤ g := fun g hg2 => (h.row.lt g hg2).1
  refine ⟨h2.is.chg (S := fun g => vr.ownBlock = some g) ((Chg.refl _ _).grown hg (fun g h3 => .inl h3)) (fun g h3 h4 => h.apart g h4 h3), h.own, hr, ?_, h2.bel.grown hg (by have := h2.bel.size; omega) hge⟩
  intro k hk h3
  rcases hat with h4 | h4
  · exact h.apart k (h4 ▸ hk) h3
  · rw [h4] at hk
    injection hk with hk
    subst hk
    rcases h3 with h3 | h3
    · have := h2.is.lt; omega
    · have := own_lt h2.is.row _ h3; omega
theorem Tw.set {g c2 : Nat} (h : Tw w0 W hb v m c (.slice (some ⟨g, 0, none⟩) rl.length c2) rl) (i : Nat) (y : Int) : Tw w0 (W.setCell ⟨g, i, none⟩ (.int .u64 y)) hb v m c (.slice (some ⟨g, 0, none⟩) rl.length c2) (rl.set i y) := by
  have hge : w0.heap.size ≤ g := (h.row.lt g rfl).1
  refine ⟨h.is.chg (S := fun k => k = g) (Chg.setCell (S := fun k => k = g) (Chg.refl _ _) (p := ⟨g, i, none⟩) (.inl rfl) _) (fun k h3 h4 => h.apart k (by rw [h4]; rfl) h3), h.own, ?_, h.apart, h.bel.setCell (p := ⟨g, i, none⟩) hge _⟩
  have := (h.row.stored i (.int .u64 y)).1
  rw [List.length_set]
  simpa [nums, List.map_set] using this
/-- The roots as Collect takes them. -/
theorem Tw.roots {St : List Nat} (h : Tw w0 W hb v m c vr rl) (g : Nat) (hg : 0 < rl.length → ∃ c2, vr = .slice (some ⟨g, 0, none⟩) rl.length c2) (hw : Wd rl) (hok : ∀ x ∈ rl, Gc.Ok St x) : Roots W v St (places g rl.length) rl := by
  refine ⟨?_, (places_length _ _).symm, ?_, ?_, hw, hok⟩
  · unfold places
    rw [List.nodup_iff_pairwise_ne, List.pairwise_map]
    refine List.Pairwise.imp ?_ List.nodup_range
    intro a b hab e
    injection e with _ e
    exact hab e
  · intro i hi
    rw [places_length] at hi
    obtain ⟨c2, rfl⟩ := hg (by omega)
    refine ⟨g, rl.length, c2, rl, i, by rw [places_get], own_weaken h.row (Nat.zero_le _), hi, fun e => h.apart g rfl (.inr e)⟩
  · intro i hi h2
    rw [places_length] at hi
    obtain ⟨c2, rfl⟩ := hg (by omega)
    rw [places_get, h.row.cellAt i (by omega)]
    unfold nums
    rw [List.getElem?_map, List.getElem?_eq_getElem h2]
    rfl
theorem turn_places (f : Int → Int) (g : Nat) (l : List Int) : turn (places g l.length) f g l = l.map f := by
  refine List.ext_getElem? fun k => ?_
  rw [turn_get, List.getElem?_map]
  by_cases hk : k < l.length
  · rw [List.getElem?_eq_getElem hk]
    simp only [Option.map_some]
    rw [if_pos]
    unfold places
    exact List.mem_map.2 ⟨k, List.mem_range.2 hk, rfl⟩
  · rw [List.getElem?_eq_none (by omega)]
    rfl
/-- Behind Collect. -/
theorem Tw.collected {v' : Value} {f : Int → Int} {m' : List Int} (h : Tw w0 W hb v m c vr rl) (g : Nat) (hg : 0 < rl.length → ∃ c2, vr = .slice (some ⟨g, 0, none⟩) rl.length c2)
    (his : HpIs W' hb v' m' 5000 (c + 1)) (hch : Chg (fun k => k = hb ∨ ∃ p ∈ places g rl.length, p.block = k) W W') (hrows : Rows (places g rl.length) f W W') (hown : ∀ k, v'.ownBlock = some k → W.heap.size ≤ k) : Tw w0 W' hb v' m' (c + 1) vr (rl.map f) := by
  have hbig : ∀ k, (k = hb ∨ ∃ p ∈ places g rl.length, p.block = k) → w0.heap.size ≤ k := by
    rintro k (rfl | ⟨p, hp, rfl⟩)
    · exact h.own _ (.inl rfl)
    · unfold places at hp
      obtain ⟨i, hi, rfl⟩ := List.mem_map.1 hp
      have hi := List.mem_range.1 hi
      obtain ⟨c2, rfl⟩ := hg (by omega)
      exact (h.row.lt g rfl).1
  refine ⟨his, ?_, ?_, ?_, ((Chg.of_below (S := fun _ => False) h.bel).then_ hch (fun k hk => .inr (hbig k hk))).to_below (Nat.le_refl _) (fun k hk => hk.elim)⟩
  · rintro k (rfl | hk)
    · exact h.own _ (.inl rfl)
    · exact Nat.le_trans h.bel.size (hown k hk)
  · by_cases h0 : 0 < rl.length
    · obtain ⟨c2, rfl⟩ := hg h0
      have h1 := hrows g rl.length c2 rl (own_weaken h.row (Nat.zero_le _))
      rw [turn_places] at h1
      rw [List.length_map]
      have hge := (h.row.lt g rfl).1
      rcases h1.2 with ⟨hv, _⟩ | ⟨g2, cap, cur, hv, _, r⟩
      · cases hv
      · refine ⟨h1.1, .inr ⟨g2, cap, cur, hv, ?_, r⟩⟩
        injection hv with hv
        injection hv with hv
        injection hv with hv
        omega
    · have e : rl = [] := List.length_eq_zero_iff.1 (by omega)
      subst e
      refine own_move h.row (fun k hk => hch.block k (own_lt h.row k hk) ?_)
      rintro (rfl | ⟨p, hp, rfl⟩)
      · exact h.apart _ hk (.inl rfl)
      · simp [places] at hp
  · intro k hk
    rintro (rfl | h3)
    · exact h.apart _ hk (.inl rfl)
    · have := hown k h3
      have := own_lt h.row k hk
      omega
end
end Go.Proofs.YtbpbhipjpjjcaaaDoor
namespace Go.Proofs.YtbpbhipjpjjcaaaDoor
open Go.RowKit Go.Proofs.YtbpbhipjpjjcaaaDoorW.PrintWords Go.Proofs.YtbpbhipjpjjcaaaDoorW.PrintLast
set_option linter.unusedVariables false
set_option linter.unusedSimpArgs false

set_option maxRecDepth 100000 in
set_option maxHeartbeats 2000000 in
theorem c5_long (A0 A1 : Option Addr) (n0 n1 cp0 cp1 : Nat) (w : World) (hm : n0 ≤ 9223372036854775807 ∧ n1 ≤ 9223372036854775807) (hn : 2000 < n0 ∨ 50 < n1) :
    Calls Tryd.prog 5 #[.slice A0 n0 cp0, .slice A1 n1 cp1] w fun e w' => e = .returned (.bool true) ∧ Below w.heap.size w w' := by
  obtain ⟨hm0, hm1⟩ := hm
  by_cases h0 : 2000 < n0
  · have hn1 : (2000 : Int) < n0 := by omega
    clear hn
    go_enter Tryd.func5, Tryd.ntmps5
    go_wp2_with (go_at_call 10; refine (c10 w).mono ?_; rintro e w1 ⟨rfl, hb⟩; refine Hid.out ?_)
    have B1 := Lib.hid hb
    clear hb
    refine Lib.hid ?_
    go_wp2_with (go_at_call 10; refine (c10 w1).mono ?_; rintro e w2 ⟨rfl, hb⟩; refine Hid.out ?_)
    have B2 := Lib.hid hb
    clear hb
    refine Lib.hid ?_
    go_wp2
    go_ret
    exact ⟨rfl, B1.out.trans (B2.out.mono B1.out.size)⟩
  · have hn1 : (n0 : Int) ≤ 2000 := by omega
    have hn2 : (50 : Int) < n1 := by omega
    clear hn
    go_enter Tryd.func5, Tryd.ntmps5
    go_wp2_with (go_at_call 10; refine (c10 w).mono ?_; rintro e w1 ⟨rfl, hb⟩; refine Hid.out ?_)
    have B1 := Lib.hid hb
    clear hb
    refine Lib.hid ?_
    go_wp2_with (go_at_call 10; refine (c10 w1).mono ?_; rintro e w2 ⟨rfl, hb⟩; refine Hid.out ?_)
    have B2 := Lib.hid hb
    clear hb
    refine Lib.hid ?_
    go_wp2
    go_ret
    exact ⟨rfl, B1.out.trans (B2.out.mono B1.out.size)⟩
set_option maxRecDepth 100000 in
set_option maxHeartbeats 4000000 in
theorem c5_short (A0 A1 : Option Addr) (cp0 cp1 : Nat) (l zs : List Int) (w : World) (hC0 : Kd.C (Kd.int .u64) w A0 l.length l) (hc0 : l.length ≤ cp0) (hC1 : Kd.C (Kd.int .u64) w A1 zs.length zs) (hw0 : Wd l) (hw1 : Wd zs) (hn : l.length ≤ 2000 ∧ zs.length ≤ 50) :
    Calls Tryd.prog 5 #[.slice A0 l.length cp0, .slice A1 zs.length cp1] w fun e w' => e = .returned (.bool true) ∧ Below w.heap.size w w' := by
  obtain ⟨hn0, hn1⟩ := hn
  have hn2 : (l.length : Int) ≤ 2000 := by omega
  have hn3 : (zs.length : Int) ≤ 50 := by omega
  have hd2 : decide ((2000 : Int) < l.length) = false := decide_eq_false (by omega)
  have hd3 : decide ((50 : Int) < zs.length) = false := decide_eq_false (by omega)
  obtain ⟨kr, br, hright, hwf⟩ := Ha.right_f hw0 (by omega)
  have HW0 := Lib.hid hw0
  have HW1 := Lib.hid hw1
  have HC1 := Lib.hid hC1
  have HC0 := Lib.hid hC0
  have HF := Lib.hid hwf
  have HRI := Lib.hid hright
  clear hC0 hC1 hw0 hw1 hwf hright
  go_enter Tryd.func5, Tryd.ntmps5
  go_wp2_with (go_at_call 10; refine (c10 w).mono ?_; rintro e w1 ⟨rfl, hb⟩; refine Hid.out ?_)
  have B1 := Lib.hid hb
  clear hb
  have P21 := Lib.hid (PHeapTwice.battledoreref09_Right.calls kr A0 cp0 l br w1 (Kd.C_below HC0.out B1.out) hc0 HRI.out)
  refine Lib.hid ?_
  cases br with
  | false =>
    go_wp2_with fail
    refine P21.out.mono ?_
    rintro e w2 ⟨rfl, hb⟩
    refine Hid.out ?_
    have B2 := Lib.hid hb
    clear hb
    refine Lib.hid ?_
    go_wp2_with (go_at_call 10; refine (c10 w2).mono ?_; rintro e w3 ⟨rfl, hb⟩; refine Hid.out ?_)
    have B3 := Lib.hid hb
    clear hb
    refine Lib.hid ?_
    go_wp2
    go_ret
    have h2 := B1.out.trans (B2.out.mono B1.out.size)
    exact ⟨rfl, h2.trans (B3.out.mono h2.size)⟩
  | true =>
    obtain ⟨St, hst⟩ := HF.out rfl
    have HST := Lib.hid hst
    clear hst
    go_wp2_with fail
    refine P21.out.mono ?_
    rintro e w2 ⟨rfl, hb⟩
    refine Hid.out ?_
    have B2 : Hid (Below w.heap.size w w2) := Lib.hid (B1.out.trans (hb.mono B1.out.size))
    clear hb
    have P23 := Lib.hid (c23w w2 A0 cp0 l (Kd.C_below HC0.out B2.out) hc0 (by omega))
    refine Lib.hid ?_
    go_wp2_with (go_at_call 23; refine P23.out.mono ?_; rintro e w3 ⟨v3, rfl, hr3, hb⟩; refine Hid.out ?_)
    have B3 : Hid (Below w.heap.size w w3) := Lib.hid (B2.out.trans (hb.mono B2.out.size))
    clear hb
    obtain ⟨A3, c3, hv3, _⟩ := own_reads hr3
    subst hv3
    have P22 := Lib.hid (c22_ok w3 5000 l St A3 l.length c3 (own_weaken hr3 (Nat.zero_le _)) HW0.out (by omega) (by omega) HST.out)
    clear hr3
    refine Lib.hid ?_
    go_wp2_with (go_at_call 22; refine P22.out.mono ?_; rintro e w4 ⟨rfl, v4, hI4, hb, hown⟩; refine Hid.out ?_)
    have HT4 : Hid (Tw w3 w4 w3.heap.size v4 l 0 (.slice none 0 0) []) := Lib.hid ⟨hI4, by rintro k (rfl | hk); exact Nat.le_refl _; exact hown k hk, ⟨rfl, .inl ⟨rfl, rfl⟩⟩, (fun k hk => by cases hk), hb⟩
    clear hI4 hb hown
    refine Lib.hid ?_
    go_wp2
    go_loopw [7, 8] (fun v7 i wr => ∃ (j : Nat), j ≤ zs.length ∧ i = .int .i64 j ∧ Tw w3 wr w3.heap.size v4 l 0 v7 ((zs.take j).map fun x => numW (wrap64 x))) (fun _ i _ => zs.length - (intOf i).toNat)
    case atStart => exact ⟨0, Nat.zero_le _, rfl, HT4.out⟩
    case round =>
      obtain ⟨j, hj, rfl, hT⟩ := hrel
      have HT := Lib.hid hT
      clear hT
      by_cases hlt : j < zs.length
      · have hlt1 : (j : Int) < zs.length := by omega
        obtain ⟨ad, hA1, hcz⟩ := Kd.at_int (Kd.C_below HC1.out (B3.out.trans (HT.out.bel.mono B3.out.size))) (j : Int) (by omega) hlt1
        subst hA1
        rw [Int.toNat_natCast] at hcz
        have hxb := HW1.out.at_ (j : Int)
        obtain ⟨x, hx⟩ : ∃ x, x = rd zs (j : Int) := ⟨_, rfl⟩
        rw [← hx] at hcz hxb
        have HX := Lib.hid hx
        clear hx
        have P8 := Lib.hid (c8 (wrap64 x) wr (by unfold wrap64; omega) (by unfold wrap64; omega))
        have HR : Hid ((wr.alloc (.cells #[.int .u64 (numW (wrap64 x))] 23)).ownsRow w3.heap.size 23 1 u7 ((zs.take j).map fun x => numW (wrap64 x)).length (nums .u64 ((zs.take j).map fun x => numW (wrap64 x)))) := Lib.hid (pw_own_below HT.out.row (below_alloc (Below.refl _ _) _))
        have hpl : Hid (((zs.take j).map fun x => numW (wrap64 x)).length < 17592186044416) := Lib.hid (by simp; omega)
        have hle : Hid (w3.heap.size ≤ (wr.alloc (.cells #[.int .u64 (numW (wrap64 x))] 23)).heap.size) := Lib.hid (by have := HT.out.bel.size; simp; omega)
        have HNEXT : Hid (∀ v' W1, (wr.alloc (.cells #[.int .u64 (numW (wrap64 x))] 23)).grownBy W1 u7.ownBlock → W1.ownsRow w3.heap.size 23 1 v' (((zs.take j).map fun x => numW (wrap64 x)) ++ [numW (wrap64 x)]).length (nums .u64 (((zs.take j).map fun x => numW (wrap64 x)) ++ [numW (wrap64 x)])) → (v'.ownBlock = u7.ownBlock ∨ v'.ownBlock = some (wr.alloc (.cells #[.int .u64 (numW (wrap64 x))] 23)).heap.size) → Tw w3 W1 w3.heap.size v4 l 0 v' ((zs.take (j + 1)).map fun x => numW (wrap64 x))) := Lib.hid (by
          intro v' W1 h1 h2 h3
          have h4 := HT.out.push _ h1 _ h2 h3
          rw [List.take_succ_eq_append_getElem hlt, List.map_append]
          have e : zs[j] = x := by rw [HX.out, rd_get zs j hlt]
          simp only [List.map_cons, List.map_nil, e]
          exact h4)
        go_wp2_with (first
          | (go_at_call 8; refine P8.out.mono ?_; rintro e w5 ⟨rfl, rfl⟩)
          | (at_builtin; refine wp_push HR.out hle.out hpl.out rfl (.tmp 49) (.tmp 56) rfl rfl ⟨wr.heap.size, 0, none⟩ (numW (wrap64 x)) rfl (box_cells wr _) ?_; intro A6 n6 c6 w6 hn6 ho6 hg6 hat6; have e6 : n6 = j + 1 := (by rw [hn6]; simp; omega); subst e6; have HT6 := Lib.hid (HNEXT.out _ _ hg6 ho6 hat6); clear ho6 hg6 hat6))
        go_roundw
        case rel => exact ⟨j + 1, hlt, by go_num, by
          have e : ((zs.take j).map fun x => numW (wrap64 x)).length + 1 = j + 1 := by simp; omega
          rw [e]
          exact HT6.out⟩
        case measure => simp [intOf]; omega
      · have hge : ¬ (j : Int) < zs.length := by omega
        have hjn : j = zs.length := by omega
        subst hjn
        rw [List.take_length] at HT
        obtain ⟨rl0, hrl0⟩ : ∃ rl0, rl0 = zs.map fun x => numW (wrap64 x) := ⟨_, rfl⟩
        rw [← hrl0] at HT
        have hlen0 : rl0.length = zs.length := by rw [hrl0, List.length_map]
        have hw0 : Wd rl0 := by
          intro y hy
          rw [hrl0] at hy
          obtain ⟨x, _, rfl⟩ := List.mem_map.1 hy
          have := numW_range (wrap64 x)
          exact ⟨this.1, this.2.1⟩
        have hok0 : ∀ y ∈ rl0, Gc.Ok St y := by
          intro y hy
          rw [hrl0] at hy
          obtain ⟨x, _, rfl⟩ := List.mem_map.1 hy
          exact .inl (numW_range _).2.2
        obtain ⟨A7, c7, hv7, hc7, _, hg7⟩ := HT.out.reads
        rw [hlen0] at hv7 hc7 hg7
        subst hv7
        have HG7 := Lib.hid hg7
        have HW7 := Lib.hid hw0
        have HK7 := Lib.hid hok0
        have HL7 := Lib.hid hlen0
        clear hw0 hok0 hlen0 hg7 hrl0
        go_wp2
        go_loopw [9, 10] (fun v9 v10 wr => ∃ (p i : Nat) (rl : List Int) (St2 : List Nat), v9 = .int .i64 (p : Int) ∧ v10 = .int .i64 (i : Int) ∧ i ≤ p ∧ Gc.Lay l p St2 ∧ (∀ a ∈ St2, a ∈ St) ∧ rl.length = zs.length ∧ Wd rl ∧ (∀ y ∈ rl, Gc.Ok St y) ∧ Tw w3 wr w3.heap.size v4 l 0 (.slice A7 zs.length c7) rl) (fun v9 _ _ => l.length - (intOf v9).toNat)
        case atStart => exact ⟨0, 0, rl0, St, rfl, rfl, Nat.le_refl _, HST.out.lay, (fun a ha => ha), HL7.out, HW7.out, HK7.out, HT.out⟩
        case round =>
          clear HT HW7 HK7 HL7
          obtain ⟨p, i, rl, St2, rfl, rfl, hip, hlay, hsub, hlen, hwr, hokr, hT⟩ := hrel
          have HT := Lib.hid hT
          have HS := Lib.hid hsub
          have HL := Lib.hid hlen
          have HW := Lib.hid hwr
          have HK := Lib.hid hokr
          clear hT hsub hlen hwr hokr
          cases hlay with
          | nil h =>
            have hge2 : ¬ (l.length : Int) < l.length := by omega
            clear HS
            -- TAIL
            obtain ⟨g, hg⟩ : ∃ g, 0 < zs.length → A7 = some ⟨g, 0, none⟩ := by
              by_cases h0 : 0 < zs.length
              · obtain ⟨g, hg⟩ := HG7.out h0
                exact ⟨g, fun _ => hg⟩
              · exact ⟨0, fun h => absurd h h0⟩
            have HG := Lib.hid hg
            have HGS : Hid (∀ rl2 : List Int, rl2.length = zs.length → 0 < rl2.length → ∃ c2, Value.slice A7 zs.length c7 = .slice (some ⟨g, 0, none⟩) rl2.length c2) := Lib.hid (fun rl2 e h0 => ⟨c7, by rw [hg (by omega), e]⟩)
            clear hg
            have HWF := Lib.hid HST.out
            have P25 := Lib.hid (c25 wr A7 g zs.length c7 HG.out (by omega) hc7)
            go_wp2_with (go_at_call 25; refine P25.out.mono ?_; rintro e w6 ⟨B6, n6, c6, rfl, rfl, hr6, hb6⟩; refine Hid.out ?_)
            have HT6 := Lib.hid (HT.out.below hb6)
            have HR6 := Lib.hid hr6
            clear hb6 hr6
            have HRO : Hid (Roots w6 v4 St (places g zs.length) rl) := Lib.hid (by
              have h := HT6.out.roots (St := St) g (HGS.out rl HL.out) HW.out HK.out
              rw [HL.out] at h
              exact h)
            have P17 := Lib.hid (c17_all w6 HT6.out.is (by omega) HWF.out HRO.out B6 zs.length c6 (by omega) (own_weaken HR6.out (Nat.zero_le _)))
            refine Lib.hid ?_
            go_wp2_with (go_at_call 17; refine P17.out.mono ?_; rintro e w7 ⟨rfl, v7, hi7, hc7', hr7, ho7⟩; refine Hid.out ?_)
            obtain ⟨ord, hord⟩ : ∃ ord, ord = Gc.order l rl := ⟨_, rfl⟩
            rw [← hord] at hi7 hr7
            have HORD := Lib.hid hord
            have HT7 : Hid (Tw w3 w7 w3.heap.size v7 (Gc.out l ord) 1 (.slice A7 zs.length c7) (rl.map (Gc.remap l ord))) := Lib.hid (by
              refine HT6.out.collected g (HGS.out rl HL.out) hi7 ?_ ?_ ho7
              · rw [HL.out]; exact hc7'
              · rw [HL.out]; exact hr7)
            clear hi7 hc7' hr7 ho7 hord
            obtain ⟨m1, hm1⟩ : ∃ m1, m1 = Gc.out l ord := ⟨_, rfl⟩
            obtain ⟨rl1, hrl1⟩ : ∃ rl1, rl1 = rl.map (Gc.remap l ord) := ⟨_, rfl⟩
            obtain ⟨St1, a1, a2, a3, a4, a5, a6⟩ := twice HW0.out HST.out HW.out HK.out hn0 ord HORD.out m1 rl1 hm1 hrl1
            have hl1 : rl1.length = zs.length := by rw [hrl1, List.length_map, HL.out]
            rw [← hm1, ← hrl1] at HT7
            have HWF1 := Lib.hid a1
            have HOK1 := Lib.hid a2
            have HWD1 := Lib.hid a3
            have HOUT1 := Lib.hid a4
            have HMAP1 := Lib.hid a5
            have HL1 := Lib.hid hl1
            have HLEN1 : Hid (m1.length ≤ 2000) := Lib.hid (by omega)
            clear a1 a2 a3 a4 a5 a6 hl1 hm1 hrl1 HORD HT6 HR6 HT HRO
            refine Lib.hid ?_
            go_wp2_with (go_at_call 16; refine (c16 w7 HT7.out.is).mono ?_; rintro e w8 ⟨A8, c8, rfl, hr8, hb8⟩; refine Hid.out ?_)
            have HC8 := Lib.hid (C_own hr8)
            have HT8 := Lib.hid (HT7.out.below hb8)
            have P15 := Lib.hid (c15w w8 A8 c8 m1 HC8.out.2.2 HC8.out.2.1 (by have := HLEN1.out; omega))
            clear hr8 hb8
            refine Lib.hid ?_
            go_wp2_with (go_at_call 15; refine P15.out.mono ?_; rintro e w9 ⟨v9, rfl, hr9, hb9⟩; refine Hid.out ?_)
            have HT9 := Lib.hid (HT8.out.below hb9)
            obtain ⟨A13, c13, hv13, _⟩ := own_reads hr9
            subst hv13
            have HR9 := Lib.hid hr9
            have HSZ9 : Hid (w8.heap.size ≤ w9.heap.size) := Lib.hid hb9.size
            have HLT9 : Hid (w3.heap.size < w8.heap.size) := HT8.out.is.lt
            clear hr9 hb9
            have HC9 : Hid (Kd.C (Kd.int .u64) w9 A7 rl1.length rl1 ∧ zs.length ≤ c7) := Lib.hid (by
              obtain ⟨A', c', e1, e2, e3, _⟩ := HT9.out.reads
              injection e1 with e4 e5 e6
              subst e4
              exact ⟨e3, hc7⟩)
            have P15b : Hid (Calls Tryd.prog 15 #[.slice A7 zs.length c7] w9 fun e w' => ∃ v, e = .returned v ∧ w'.ownsRow w9.heap.size 22 1 v rl1.length (nums .u64 rl1) ∧ Below w9.heap.size w9 w') := Lib.hid (by
              rw [← HL1.out]
              exact c15w w9 A7 c7 rl1 HC9.out.1 (by rw [HL1.out]; exact hc7) (by rw [HL1.out]; omega))
            refine Lib.hid ?_
            go_wp2_with (go_at_call 15; refine P15b.out.mono ?_; rintro e w10 ⟨v10, rfl, hr10, hb10⟩; refine Hid.out ?_)
            have HT10 := Lib.hid (HT9.out.below hb10)
            obtain ⟨A14, c14, hv14, _⟩ := own_reads hr10
            subst hv14
            have HR10 := Lib.hid hr10
            have HLT10 : Hid (w3.heap.size < w9.heap.size ∧ ∀ k, (Value.slice A7 zs.length c7).ownBlock = some k → k < w8.heap.size ∧ k < w9.heap.size) := Lib.hid ⟨HT9.out.is.lt, fun k hk => ⟨own_lt HT8.out.row k hk, own_lt HT9.out.row k hk⟩⟩
            have HR9b := Lib.hid (pw_own_below HR9.out hb10)
            have P25b := Lib.hid (c25 w10 A7 g zs.length c7 HG.out (by omega) hc7)
            clear hr10 hb10
            refine Lib.hid ?_
            go_wp2_with (go_at_call 25; refine P25b.out.mono ?_; rintro e w11 ⟨B11, n11, c11, rfl, rfl, hr11, hb11⟩; refine Hid.out ?_)
            have HT11 := Lib.hid (HT10.out.below hb11)
            have HR9c := Lib.hid (pw_own_below HR9b.out hb11)
            have HR10c := Lib.hid (pw_own_below HR10.out hb11)
            have HRO2 : Hid (Roots w11 v7 St1 (places g zs.length) rl1) := Lib.hid (by
              have h := HT11.out.roots (St := St1) g (HGS.out rl1 HL1.out) HWD1.out HOK1.out
              rw [HL1.out] at h
              exact h)
            have P17b := Lib.hid (c17_all w11 HT11.out.is (by omega) HWF1.out HRO2.out B11 zs.length c11 (by omega) (own_weaken hr11 (Nat.zero_le _)))
            clear hr11 hb11
            refine Lib.hid ?_
            go_wp2_with (go_at_call 17; refine P17b.out.mono ?_; rintro e w12 ⟨rfl, v12, hi12, hc12, hr12, ho12⟩; refine Hid.out ?_)
            rw [HOUT1.out] at hi12
            have HT12 : Hid (Tw w3 w12 w3.heap.size v12 m1 2 (.slice A7 zs.length c7) rl1) := Lib.hid (by
              have h := HT11.out.collected g (HGS.out rl1 HL1.out) hi12 (by rw [HL1.out]; exact hc12) (by rw [HL1.out]; exact hr12) ho12
              rw [HMAP1.out] at h
              exact h)
            have HOT : Hid (∀ k, w8.heap.size ≤ k → k < w11.heap.size → w12.heap[k]? = w11.heap[k]?) := Lib.hid (fun k h1 h2 => hc12.block k h2 (by
              rintro (rfl | ⟨pp, hp, rfl⟩)
              · have := HLT9.out; omega
              · unfold places at hp
                obtain ⟨ii, hi, rfl⟩ := List.mem_map.1 hp
                have hi := List.mem_range.1 hi
                have h3 := (HLT10.out.2 g (by rw [HG.out (by omega)]; rfl)).1
                have h4 : w8.heap.size ≤ g := h1
                omega))
            have HR9d : Hid (w12.ownsRow w8.heap.size 22 1 (.slice A13 m1.length c13) m1.length (nums .u64 m1)) := Lib.hid (own_move HR9c.out (fun k hk => HOT.out k (HR9c.out.lt k hk).1 (HR9c.out.lt k hk).2))
            have HL89 : Hid (w8.heap.size ≤ w9.heap.size) := HSZ9
            have HR10d : Hid (w12.ownsRow w9.heap.size 22 1 (.slice A14 rl1.length c14) rl1.length (nums .u64 rl1)) := Lib.hid (own_move HR10c.out (fun k hk => HOT.out k (Nat.le_trans HL89.out (HR10c.out.lt k hk).1) (HR10c.out.lt k hk).2))
            clear hi12 hc12 hr12 ho12
            refine Lib.hid ?_
            go_wp2_with (go_at_call 16; refine (c16 w12 HT12.out.is).mono ?_; rintro e w13 ⟨A15, c15, rfl, hr13, hb13⟩; refine Hid.out ?_)
            have HT13 := Lib.hid (HT12.out.below hb13)
            have P22b := Lib.hid (c22_ok w13 5000 m1 St1 A15 m1.length c15 (own_weaken hr13 (Nat.zero_le _)) HT13.out.is.wd (by omega) (by have := HLEN1.out; omega) HWF1.out)
            have HR9e := Lib.hid (pw_own_below HR9d.out hb13)
            have HR10e := Lib.hid (pw_own_below HR10d.out hb13)
            clear hr13 hb13
            refine Lib.hid ?_
            go_wp2_with (go_at_call 22; refine P22b.out.mono ?_; rintro e w14 ⟨rfl, vg, hg14, hb14, ho14⟩; refine Hid.out ?_)
            have HT14 := Lib.hid (HT13.out.below hb14)
            have HC13 := Lib.hid (C_own (pw_own_below HR9e.out hb14))
            have HC14 := Lib.hid (C_own (pw_own_below HR10e.out hb14))
            have HF14 : Hid (Fin w14 w3.heap.size w13.heap.size v12 vg m1 rl1 A7 A13 A14) := Lib.hid ⟨HT14.out.is, hg14, by
              obtain ⟨A', c', e1, e2, e3, _⟩ := HT14.out.reads
              injection e1 with e4 e5 e6
              subst e4
              exact e3, HC13.out.2.2, HC14.out.2.2⟩
            clear hg14 hb14 ho14
            have hB14 : Hid (Below w.heap.size w w14) := Lib.hid (B3.out.trans (HT14.out.bel.mono B3.out.size))
            refine Lib.hid ?_
            go_wp2_with fail
            have HM1 : Hid (m1.length ≤ 1048576) := Lib.hid (by have := HLEN1.out; omega)
            have HM2 : Hid (rl1.length ≤ 1048576) := Lib.hid (by have := HL1.out; omega)
            refine (c16 w14 HF14.out.hp).mono ?_
            rintro e w15 ⟨A16, k16, rfl, hr15, hb15⟩
            have HC15 := Lib.hid (C_own hr15)
            have HF15 := Lib.hid (HF14.out.below hb15)
            have HB15 : Hid (Below w.heap.size w w15) := Lib.hid (hB14.out.trans (hb15.mono hB14.out.size))
            have Q1 := Lib.hid (c15w w15 A16 k16 m1 HC15.out.2.2 HC15.out.2.1 HM1.out)
            clear hr15 hb15
            go_wp2_with fail
            refine Q1.out.mono ?_
            rintro e w16 ⟨v16, rfl, hr16, hb16⟩
            obtain ⟨A17, c17, hv17, _⟩ := own_reads hr16
            subst hv17
            have HC16 := Lib.hid (C_own hr16)
            have HF16 := Lib.hid (HF15.out.below hb16)
            have HB16 : Hid (Below w.heap.size w w16) := Lib.hid (HB15.out.trans (hb16.mono HB15.out.size))
            have Q2 := Lib.hid (c19w w16 A17 A13 c17 c13 m1 HC16.out.2.2 HC16.out.2.1 HF16.out.a HC13.out.2.1 HM1.out)
            clear hr16 hb16
            go_wp2_with fail
            refine Q2.out.mono ?_
            rintro e w17 ⟨rfl, n17, hw17⟩
            have hb17 : Below w16.heap.size w16 w17 := by rw [hw17]; exact ⟨rfl, rfl, rfl, Nat.le_refl _, fun _ _ => rfl⟩
            have HF17 := Lib.hid (HF16.out.below hb17)
            have HB17 : Hid (Below w.heap.size w w17) := Lib.hid (HB16.out.trans (hb17.mono HB16.out.size))
            clear hb17 hw17
            have Q3 : Hid (Calls Tryd.prog 15 #[.slice A7 zs.length c7] w17 fun e w' => ∃ v, e = .returned v ∧ w'.ownsRow w17.heap.size 22 1 v rl1.length (nums .u64 rl1) ∧ Below w17.heap.size w17 w') := Lib.hid (by
              rw [← HL1.out]
              exact c15w w17 A7 c7 rl1 HF17.out.r (by rw [HL1.out]; exact hc7) HM2.out)
            go_wp2_with fail
            refine Q3.out.mono ?_
            rintro e w18 ⟨v18, rfl, hr18, hb18⟩
            obtain ⟨A19, c19, hv19, _⟩ := own_reads hr18
            subst hv19
            have HC18 := Lib.hid (C_own hr18)
            have HF18 := Lib.hid (HF17.out.below hb18)
            have HB18 : Hid (Below w.heap.size w w18) := Lib.hid (HB17.out.trans (hb18.mono HB17.out.size))
            have Q4 := Lib.hid (c19w w18 A19 A14 c19 c14 rl1 HC18.out.2.2 HC18.out.2.1 HF18.out.b HC14.out.2.1 HM2.out)
            clear hr18 hb18
            go_wp2_with fail
            refine Q4.out.mono ?_
            rintro e w19 ⟨rfl, n19, hw19⟩
            have hb19 : Below w18.heap.size w18 w19 := by rw [hw19]; exact ⟨rfl, rfl, rfl, Nat.le_refl _, fun _ _ => rfl⟩
            have HF19 := Lib.hid (HF18.out.below hb19)
            have HB19 : Hid (Below w.heap.size w w19) := Lib.hid (HB18.out.trans (hb19.mono HB18.out.size))
            clear hb19 hw19
            go_wp2_with fail
            refine (c16 w19 HF19.out.gp).mono ?_
            rintro e w20 ⟨A20, c20, rfl, hr20, hb20⟩
            have HC20 := Lib.hid (C_own hr20)
            have HF20 := Lib.hid (HF19.out.below hb20)
            have HB20 : Hid (Below w.heap.size w w20) := Lib.hid (HB19.out.trans (hb20.mono HB19.out.size))
            have Q5 := Lib.hid (c15w w20 A20 c20 m1 HC20.out.2.2 HC20.out.2.1 HM1.out)
            clear hr20 hb20
            go_wp2_with fail
            refine Q5.out.mono ?_
            rintro e w21 ⟨v21, rfl, hr21, hb21⟩
            obtain ⟨A21, c21, hv21, _⟩ := own_reads hr21
            subst hv21
            have HC21 := Lib.hid (C_own hr21)
            have HF21 := Lib.hid (HF20.out.below hb21)
            have HB21 : Hid (Below w.heap.size w w21) := Lib.hid (HB20.out.trans (hb21.mono HB20.out.size))
            have Q6 := Lib.hid (c19w w21 A21 A13 c21 c13 m1 HC21.out.2.2 HC21.out.2.1 HF21.out.a HC13.out.2.1 HM1.out)
            clear hr21 hb21
            go_wp2_with fail
            refine Q6.out.mono ?_
            rintro e w22 ⟨rfl, n22, hw22⟩
            have hb22 : Below w21.heap.size w21 w22 := by rw [hw22]; exact ⟨rfl, rfl, rfl, Nat.le_refl _, fun _ _ => rfl⟩
            have HF22 := Lib.hid (HF21.out.below hb22)
            have HB22 : Hid (Below w.heap.size w w22) := Lib.hid (HB21.out.trans (hb22.mono HB21.out.size))
            clear hb22 hw22
            go_wp2_with fail
            refine (c26 w22 HF22.out.hp).mono ?_
            rintro e w23 ⟨rfl, rfl⟩
            go_wp2
            go_ret
            exact ⟨rfl, HB22.out⟩
          | @cons _ St3 h0 h1 h2 h3 =>
            have hszp := Gc.sz_pos l p
            have hplt : (p : Int) < l.length := by omega
            have P24 := Lib.hid (c24w wr A0 cp0 l p (Kd.C_below HC0.out (B3.out.trans (HT.out.bel.mono B3.out.size))) hc0 (by omega) HW0.out h0 h1 h2)
            go_wp2_with (go_at_call 24; refine P24.out.mono ?_; rintro e w5 ⟨xk, xA, xn, xc, xs, rfl, hb5⟩; refine Hid.out ?_)
            have HT5 := Lib.hid (HT.out.below hb5)
            clear hb5
            refine Lib.hid ?_
            have HTA : Hid (∀ o, Tw w3 (w5.alloc o) w3.heap.size v4 l 0 (.slice A7 zs.length c7) rl) := Lib.hid (fun o => HT5.out.below (below_alloc (Below.refl _ _) o))
            have HREL : Hid (∀ u rl2, rl2.length = zs.length → Wd rl2 → (∀ y ∈ rl2, Gc.Ok St y) → Tw w3 u w3.heap.size v4 l 0 (.slice A7 zs.length c7) rl2 → ∃ (p2 i2 : Nat) (rl3 : List Int) (St4 : List Nat), Value.int .i64 ((p : Int) + (Gc.sz l p : Int)) = .int .i64 (p2 : Int) ∧ Value.int .i64 ((i : Int) + 1) = .int .i64 (i2 : Int) ∧ i2 ≤ p2 ∧ Gc.Lay l p2 St4 ∧ (∀ a ∈ St4, a ∈ St) ∧ rl3.length = zs.length ∧ Wd rl3 ∧ (∀ y ∈ rl3, Gc.Ok St y) ∧ Tw w3 u w3.heap.size v4 l 0 (.slice A7 zs.length c7) rl3) := Lib.hid (fun u rl2 a1 a2 a3 a4 =>
              ⟨p + Gc.sz l p, i + 1, rl2, St3, congrArg (Value.int .i64) (by omega), congrArg (Value.int .i64) (by omega), by omega, h3, fun a ha => HS.out a (List.mem_cons_of_mem _ ha), a1, a2, a3, a4⟩)
            by_cases hi : i < zs.length
            · have hi2 : (i : Int) < zs.length := by omega
              have hi3 : decide ((i : Int) < zs.length) = true := decide_eq_true hi2
              obtain ⟨ad, hA1, hcz⟩ := Kd.at_int (Kd.C_below HC1.out (B3.out.trans (HT5.out.bel.mono B3.out.size))) (i : Int) (by omega) hi2
              subst hA1
              rw [Int.toNat_natCast] at hcz
              obtain ⟨g, hg⟩ := HG7.out (by omega)
              subst hg
              have hcr : ∃ y, w5.cell? ⟨g, i, none⟩ = some (.int .u64 y) := by
                refine ⟨rl[i]'(by rw [HL.out]; exact hi), ?_⟩
                have hrow := HT5.out.row
                rw [HL.out] at hrow
                rw [hrow.cellAt i (by omega)]
                unfold nums
                rw [List.getElem?_map, List.getElem?_eq_getElem (by rw [HL.out]; exact hi)]
                rfl
              obtain ⟨y0, hcy⟩ := hcr
              have hfr : w5.frozen? ⟨g, i, none⟩ = false := by
                have hrow := HT5.out.row
                rw [HL.out] at hrow
                exact hrow.frozenAt i
              have hxb := HW1.out.at_ (i : Int)
              generalize rd zs (i : Int) = x at hcz hxb
              have hcz2 : ∀ o, (w5.alloc o).cell? (ad.add i) = some (.int .u64 x) := fun o => (World.cell?_alloc_lt _ _ _ (World.block_lt_of_cell? _ _ hcz)).trans hcz
              have hcy2 : ∀ o, (w5.alloc o).cell? ⟨g, i, none⟩ = some (.int .u64 y0) := fun o => (World.cell?_alloc_lt _ _ _ (World.block_lt_of_cell? _ _ hcy)).trans hcy
              have hfr2 : ∀ o, (w5.alloc o).frozen? ⟨g, i, none⟩ = false := fun o => (World.frozen?_of_block (by
                have hlt := World.block_lt_of_cell? _ _ hcy
                show (w5.alloc o).heap[g]? = w5.heap[g]?
                rw [alloc_get, if_neg (Nat.ne_of_lt hlt)])).trans hfr
              clear hcz hcy hfr
              have hxm : Int.tmod x 2 = x % 2 := Int.tmod_eq_emod_of_nonneg hxb.1
              by_cases hev : x % 2 = 0
              · have hev2 : (x % 2 == 0) = true := by rw [hev]; rfl
                have hS1 : IntKind.i64.wrap (2 * (p : Int)) = 2 * (p : Int) := IntWalk.i64_in _ (by omega)
                have hS2 : IntKind.u64.wrap (2 * (p : Int)) = 2 * (p : Int) := by rw [IntKind.wrap_u64]; omega
                have HSET : Hid (∀ o, Tw w3 ((w5.alloc o).setCell ⟨g, i, none⟩ (.int .u64 (2 * (p : Int)))) w3.heap.size v4 l 0 (.slice (some ⟨g, 0, none⟩) zs.length c7) (rl.set i (2 * (p : Int)))) := Lib.hid (fun o => by
                  have h := HTA.out o
                  rw [← HL.out] at h
                  have h2 := h.set i (2 * (p : Int))
                  rw [HL.out] at h2
                  exact h2)
                have HWS : Hid (Wd (rl.set i (2 * (p : Int)))) := Lib.hid (by
                  intro y hy
                  rcases List.mem_or_eq_of_mem_set hy with h | rfl
                  · exact HW.out y h
                  · omega)
                have HKS : Hid (∀ y ∈ rl.set i (2 * (p : Int)), Gc.Ok St y) := Lib.hid (by
                  intro y hy
                  rcases List.mem_or_eq_of_mem_set hy with h | rfl
                  · exact HK.out y h
                  · exact .inr ⟨p, HS.out p List.mem_cons_self, rfl⟩)
                go_wp2
                go_roundw
                case rel => exact HREL.out _ (rl.set i (2 * (p : Int))) (by rw [List.length_set]; exact HL.out) HWS.out HKS.out (HSET.out _)
                case measure => simp [intOf]; omega
              · have hev2 : (x % 2 == 0) = false := by rw [beq_eq_false_iff_ne]; exact hev
                go_wp2
                go_roundw
                case rel => exact HREL.out _ rl HL.out HW.out HK.out (HTA.out _)
                case measure => simp [intOf]; omega
            · have hi1 : (zs.length : Int) ≤ i := by omega
              have hi2 : ¬ (i : Int) < zs.length := by omega
              have hi3 : decide ((i : Int) < zs.length) = false := decide_eq_false hi2
              go_wp2
              go_roundw
              case rel => exact HREL.out _ rl HL.out HW.out HK.out (HTA.out _)
              case measure => simp [intOf]; omega
end Go.Proofs.YtbpbhipjpjjcaaaDoor
