import Derived.Test.YtbpbhipjpjjcaaaDoorH
import Derived.Deep.RegionHeld3
namespace Go.Proofs.YtbpbhipjpjjcaaaDoor
set_option linter.unusedVariables false
set_option linter.unusedSimpArgs false
open Go.RowKit Go.Proofs.YtbpbhipjpjjcaaaDoorW.PrintWords Go.Proofs.YtbpbhipjpjjcaaaDoorW.PrintLast

/-- From world w0 (its heap: block b, slice v0) on: the heap is now m at v; only the heap's blocks, and new ones, have turned. -/
structure Hx (w0 : World) (b : Nat) (v0 : Value) (w : World) (v : Value) (m : List Int) (q c : Int) : Prop where
  is : HpIs w b v m q c
  chg : Chg (Reg b v0) w0 w
  own : ∀ k, v.ownBlock = some k → Reg b v0 k ∨ w0.heap.size ≤ k
theorem Hx.start {w : World} {b : Nat} {v : Value} {m : List Int} {q c : Int} (h : HpIs w b v m q c) : Hx w b v w v m q c := ⟨h, Chg.refl _ _, fun _ hk => .inl (.inr hk)⟩
theorem Hx.drewN {w0 : World} {b : Nat} {v0 : Value} {w : World} {v : Value} {m : List Int} {q c : Int} (h : Hx w0 b v0 w v m q c) (n : Nat) : Hx w0 b v0 (w.drewN n) v m q c := ⟨h.is.drewN n, h.chg.drewN n, h.own⟩
theorem Hx.drew {w0 : World} {b : Nat} {v0 : Value} {w : World} {v : Value} {m : List Int} {q c : Int} (h : Hx w0 b v0 w v m q c) : Hx w0 b v0 w.drew v m q c := ⟨h.is.drew, h.chg.drew, h.own⟩
theorem Hx.alloc {w0 : World} {b : Nat} {v0 : Value} {w : World} {v : Value} {m : List Int} {q c : Int} (h : Hx w0 b v0 w v m q c) (o : Obj) : Hx w0 b v0 (w.alloc o) v m q c := ⟨h.is.below (below_alloc (Below.refl _ _) o), h.chg.alloc o, h.own⟩
/-- Words are appended to the heap's slice, and stored. -/
theorem Hx.app {w0 : World} {b : Nat} {v0 : Value} {w : World} {v : Value} {m : List Int} {q c : Int} (h : Hx w0 b v0 w v m q c) {v1 : Value} {w1 : World} (xs : List Int)
    (hr : w1.ownsRow 0 23 1 v1 (m ++ xs).length (nums .u64 (m ++ xs))) (hg : w.grownBy w1 v.ownBlock) (hat : v1.ownBlock = v.ownBlock ∨ v1.ownBlock = some w.heap.size)
    (hs : (m ++ xs).length ≤ 1048576) (hw : Wd xs) : Hx w0 b v0 (w1.setCell ⟨b, 0, none⟩ v1) v1 (m ++ xs) q c := by
  have hne : some b ≠ v.ownBlock := fun e => h.is.ne e.symm
  have hb : w1.heap[b]? = some (.cells #[v, .int .i64 q, .int .i64 c] 77 (0, 0)) := (hg.block b h.is.lt hne).trans h.is.blk
  have own1 : ∀ k, v1.ownBlock = some k → Reg b v0 k ∨ w0.heap.size ≤ k := by
    intro k hk
    rcases hat with e | e
    · exact h.own k (by rw [← e]; exact hk)
    · rw [e] at hk
      injection hk with hk
      have := h.chg.size
      exact .inr (by omega)
  have hwd : Wd (m ++ xs) := by
    intro x hx
    rcases List.mem_append.1 hx with hx | hx
    · exact h.is.wd x hx
    · exact hw x hx
  refine ⟨⟨by simpa using blk_set hb 0 v1, own_setCell hr (fun e => ?_) v1, hs, hwd⟩, ?_, own1⟩
  · obtain ⟨cells, hc⟩ := own_typed hr b e.symm
    rw [hb] at hc
    injection hc with hc
    injection hc with _ hc
    exact absurd hc (by decide)
  · exact (h.chg.grown hg (fun k hk => h.own k hk)).setCell (p := ⟨b, 0, none⟩) (.inl (.inl rfl)) v1

theorem wpart_step (s : ByteArray) (p kk : Nat) (h : p + kk < s.size) (hk : kk < 8) :
    bits .or .u64 ((wpart s p kk : Nat) : Int) (IntKind.u64.wrap (IntKind.u64.wrap ((s[p + kk]'h).toNat : Int) * 2 ^ (8 * kk))) = ((wpart s p (kk + 1) : Nat) : Int) := by
  have hlt := (s[p + kk]'h).toNat_lt
  have e1 : IntKind.u64.wrap ((s[p + kk]'h).toNat : Int) = ((s[p + kk]'h).toNat : Int) := by rw [IntKind.wrap_u64]; omega
  have e2 : (bt s (p + kk : Nat)).toNat = (s[p + kk]'h).toNat := by
    unfold bt
    rw [dif_pos (by rw [Int.toNat_natCast]; exact h)]
    simp only [Int.toNat_natCast]
  rw [e1, or_shift _ _ kk (wpart_lt s p kk) hk (by omega)]
  simp only [wpart, e2]
theorem box_cells (W : World) (x : Int) : ∀ j u, (nums .u64 [x])[j]? = some u → (W.alloc (.cells #[.int .u64 x] 23)).cell? ((⟨W.heap.size, 0, none⟩ : Addr).add j) = some u := by
  intro j u hj
  match j, hj with
  | 0, hj => simp [nums] at hj; subst hj; simp [Addr.add]
/-- append(h.mem, xs...), then the store. -/
theorem op_app {w0 W : World} {b : Nat} {v0 v : Value} {m : List Int} {q c : Int} {o : Oper} {a : Act} {K : Act → World → Prop} {Q : Exit → Act → World → Prop} (H : Hx w0 b v0 W v m q c)
    (s x : Operand) (ho : o.op = .call { callee := .builtin .append, args := #[s, x], argTypes := #[34, 34] })
    (hs : a.eval s = v) (ad : Addr) (n cp : Nat) (hx : a.eval x = .slice (some ad) n cp) (xs : List Int) (hl : xs.length = n)
    (hc : ∀ j u, (nums .u64 xs)[j]? = some u → W.cell? (ad.add j) = some u) (hsm : (m ++ xs).length ≤ 1048576) (hw : Wd xs)
    (hK : ∀ A' n' c' w', w'.cell? ⟨b, 0, none⟩ = some v → w'.frozen? ⟨b, 0, none⟩ = false → Hid (Hx w0 b v0 (w'.setCell ⟨b, 0, none⟩ (.slice A' n' c')) (.slice A' n' c') (m ++ xs) q c) → K (a.put o.dst (.slice A' n' c')) w') :
    o.wp Tryd.prog a W K Q := by
  obtain ⟨i0, hi, hz0, hz1, hz2⟩ := info_parts info23
  have hlen : m.length + n ≤ 1048576 := by rw [List.length_append, hl] at hsm; exact hsm
  obtain ⟨v', w', hr, hown, hg, _, hat⟩ := run_append_own_at (P := Tryd.prog) W 0 34 o.type 23 i0 (.int .u64 0) 1 8 Tryd.underlying34 hi hz0 hz1 hz2 rfl (by decide) v m.length (nums .u64 m) H.is.row ad n cp (nums .u64 xs) (by rw [nums_length, hl, Nat.mul_one]) hc
    (fun u hu => by obtain ⟨y, _, rfl⟩ := List.mem_map.1 hu; rfl) (by unfold maxLen; omega) (by omega) (Nat.zero_le _)
  unfold Oper.wp execOp
  simp only [ho, resolve, invoke, builtin, Sem.run_bind, Sem.run_pure, Result.andThen_ok, List.map_toArray, List.map_cons, List.map_nil, hs, hx, hr]
  have hne : some b ≠ v.ownBlock := fun e => H.is.ne e.symm
  have hb : w'.heap[b]? = some (.cells #[v, .int .i64 q, .int .i64 c] 77 (0, 0)) := (hg.block b H.is.lt hne).trans H.is.blk
  have hrow : w'.ownsRow 0 23 1 v' (m ++ xs).length (nums .u64 (m ++ xs)) := by
    rw [List.length_append, hl, nums_append]
    exact hown
  obtain ⟨A', c', rfl, _⟩ := own_reads hrow
  exact hK _ _ _ w' (by simp [World.cell?, hb]) (by simp [World.frozen?, hb]) (H.app xs hrow hg hat hsm hw)
theorem wp_app {w0 W : World} {b : Nat} {v0 v : Value} {m : List Int} {q c : Int} {ops : Array Oper} {rest : List Oper} {o : Oper} {a : Act} {Q : Exit → Act → World → Prop} (H : Hx w0 b v0 W v m q c)
    (hgd : o.guard = none) (s x : Operand) (ho : o.op = .call { callee := .builtin .append, args := #[s, x], argTypes := #[34, 34] })
    (hs : a.eval s = v) (ad : Addr) (n cp : Nat) (hx : a.eval x = .slice (some ad) n cp) (xs : List Int) (hl : xs.length = n)
    (hc : ∀ j u, (nums .u64 xs)[j]? = some u → W.cell? (ad.add j) = some u) (hsm : (m ++ xs).length ≤ 1048576) (hw : Wd xs)
    (hK : ∀ A' n' c' w', w'.cell? ⟨b, 0, none⟩ = some v → w'.frozen? ⟨b, 0, none⟩ = false → Hid (Hx w0 b v0 (w'.setCell ⟨b, 0, none⟩ (.slice A' n' c')) (.slice A' n' c') (m ++ xs) q c) → wpList Tryd.prog ops Q rest (a.put o.dst (.slice A' n' c')) w') :
    wpList Tryd.prog ops Q (o :: rest) a W := by
  refine wpList_plain hgd fun K hK2 => ?_
  exact op_app H s x ho hs ad n cp hx xs hl hc hsm hw (fun A' n' c' w' h1 h2 h3 => hK2 _ _ (hK A' n' c' w' h1 h2 h3))
theorem step_app {w0 W : World} {b : Nat} {v0 v : Value} {m : List Int} {q c : Int} {ops : Array Oper} {o : Oper} {a : Act} {K : Act → World → Prop} {Q : Exit → Act → World → Prop} {E : Prop} (H : Hx w0 b v0 W v m q c)
    (hgd : o.guard = none) (s x : Operand) (ho : o.op = .call { callee := .builtin .append, args := #[s, x], argTypes := #[34, 34] })
    (hs : a.eval s = v) (ad : Addr) (n cp : Nat) (hx : a.eval x = .slice (some ad) n cp) (xs : List Int) (hl : xs.length = n)
    (hc : ∀ j u, (nums .u64 xs)[j]? = some u → W.cell? (ad.add j) = some u) (hsm : (m ++ xs).length ≤ 1048576) (hw : Wd xs)
    (hK : ∀ A' n' c' w', w'.cell? ⟨b, 0, none⟩ = some v → w'.frozen? ⟨b, 0, none⟩ = false → Hid (Hx w0 b v0 (w'.setCell ⟨b, 0, none⟩ (.slice A' n' c')) (.slice A' n' c') (m ++ xs) q c) → K (a.put o.dst (.slice A' n' c')) w') :
    if Region.wanted o (yielded ops a.tmps) = true then Oper.wp Tryd.prog o a W K Q else E := by
  rw [if_pos (by simp [Region.wanted, hgd])]
  exact op_app H s x ho hs ad n cp hx xs hl hc hsm hw hK

section
variable {b : Nat} {v : Value} {m : List Int} {q c : Int}
set_option maxRecDepth 100000 in
set_option maxHeartbeats 2000000 in
theorem c13_of (s : ByteArray) (r : Value) (w : World) (m1 : List Int) (c1 : Int) (hs : s.size ≤ 8000000) (hq : 0 ≤ q ∧ q ≤ 1048576)
    (hfit : (m1.length : Int) + (1 + (s.size + 7) / 8 : Nat) ≤ q)
    (hroom : Calls Tryd.prog 40 #[.pointer (some ⟨b, 0, none⟩), .int .i64 (1 + ((s.size : Int) + 7) / 8), r] w fun e w' => e = .returned (.bool true) ∧ ∃ v1, Hx w b v w' v1 m1 q c1) :
    Calls Tryd.prog 13 #[.pointer (some ⟨b, 0, none⟩), .string s, r] w fun e w' => e = .returned (.tuple #[.int .u64 ((m1.length : Int) * 2), .int .i64 0]) ∧ ∃ v', Hx w b v w' v' (m1 ++ twrds s) q c1 := by
  have HR := Lib.hid hroom
  have HF := Lib.hid hfit
  clear hroom hfit
  obtain ⟨i0, hi, hz0, hz1, hz2⟩ := info_parts info23
  go_enter Tryd.func13, Tryd.ntmps13
  go_wp2_with (go_at_call 39; refine (c39t _ _ (by omega) (by omega)).mono ?_; rintro e w' ⟨rfl, rfl⟩)
  refine HR.out.mono ?_
  rintro e w1 ⟨rfl, v1, hx⟩
  have HX := Lib.hid hx
  have hc0 := hx.is.cell0
  have hf0 := hx.is.free 0
  have hsm := hx.is.small
  obtain ⟨A, cp, hv, -⟩ := hx.is.opens
  clear hx
  subst hv
  go_wp2_with fail
  have hhead : Wd [(s.size : Int) * 256 + 3] := by intro x hx; rw [List.mem_singleton.1 hx]; omega
  have hlen1 : (m1 ++ [(s.size : Int) * 256 + 3]).length ≤ 1048576 := by have := HF.out; simp; omega
  have Hhead := Lib.hid hhead
  have Hlen1 := Lib.hid hlen1
  clear hhead hlen1
  -- REGION 6
  refine start_ (n := 13) (S := fun w' => w'.cell? ⟨b, 0, none⟩ = some (.slice A m1.length cp)) (ds := [12]) #[false, false, false, false, false, false, false, false, false, false, false, false, false] (by kernel_rfl) rfl rfl hc0 ?_
  intro hHeld
  refine pure_ (i := 0) (N := (some 26)) (v := ?_) (a' := ?_) #[true, false, false, false, false, false, false, false, false, false, false, false, false] rfl rfl (by kernel_rfl) (fun _ _ _ h => h) (Or.inl ⟨by rfl, ?_⟩) ?_ ?_
  rotate_left
  · intro w'
    go_simp
    with_reducible rfl
  rotate_left
  · simp only [Act.put, List.setIfInBounds_toArray, List.set_cons_zero, List.set_cons_succ]
    rfl
  refine pure_ (i := 1) (N := (some 27)) (v := ?_) (a' := ?_) #[true, true, false, false, false, false, false, false, false, false, false, false, false] rfl rfl (by kernel_rfl) (fun _ _ _ h => h) (Or.inl ⟨by rfl, ?_⟩) ?_ ?_
  rotate_left
  · intro w'
    go_simp
    with_reducible rfl
  rotate_left
  · simp only [Act.put, List.setIfInBounds_toArray, List.set_cons_zero, List.set_cons_succ]
    rfl
  refine pure_ (i := 2) (N := (some 28)) (v := ?_) (a' := ?_) #[true, true, true, false, false, false, false, false, false, false, false, false, false] rfl rfl (by kernel_rfl) (fun _ _ _ h => h) (Or.inl ⟨by rfl, ?_⟩) ?_ ?_
  rotate_left
  · intro w'
    go_simp
    with_reducible rfl
  rotate_left
  · simp only [Act.put, List.setIfInBounds_toArray, List.set_cons_zero, List.set_cons_succ]
    rfl
  refine pure_ (i := 3) (N := (some 29)) (v := ?_) (a' := ?_) #[true, true, true, true, false, false, false, false, false, false, false, false, false] rfl rfl (by kernel_rfl) (fun _ _ _ h => h) (Or.inl ⟨by rfl, ?_⟩) ?_ ?_
  rotate_left
  · intro w'
    go_simp
    with_reducible rfl
  rotate_left
  · simp only [Act.put, List.setIfInBounds_toArray, List.set_cons_zero, List.set_cons_succ]
    rfl
  refine take_ (i := 4) (N := (some 30)) (v := ?_) (a' := ?_) #[true, true, true, true, true, false, false, false, false, false, false, false, false] rfl rfl (by kernel_rfl) (fun _ _ _ h => h) (Or.inl ⟨by rfl, ?_⟩) hHeld ?_ ?_
  rotate_left
  · intro w' s0
    go_simp
    with_reducible rfl
  rotate_left
  · simp only [Act.put, List.setIfInBounds_toArray, List.set_cons_zero, List.set_cons_succ]
    rfl
  refine pure_ (i := 5) (N := (some 31)) (v := ?_) (a' := ?_) #[true, true, true, true, true, true, false, false, false, false, false, false, false] rfl rfl (by kernel_rfl) (fun _ _ _ h => h) (Or.inl ⟨by rfl, ?_⟩) ?_ ?_
  rotate_left
  · intro w'
    go_simp
    with_reducible rfl
  rotate_left
  · simp only [Act.put, List.setIfInBounds_toArray, List.set_cons_zero, List.set_cons_succ]
    rfl
  refine pure_ (i := 6) (N := (some 32)) (v := ?_) (a' := ?_) #[true, true, true, true, true, true, true, false, false, false, false, false, false] rfl rfl (by kernel_rfl) (fun _ _ _ h => h) (Or.inl ⟨by rfl, ?_⟩) ?_ ?_
  rotate_left
  · intro w'
    go_simp
    with_reducible rfl
  rotate_left
  · simp only [Act.put, List.setIfInBounds_toArray, List.set_cons_zero, List.set_cons_succ]
    rfl
  refine one_ (i := 7) (N := (some 33)) #[true, true, true, true, true, true, true, true, false, false, false, false, false] rfl rfl (by kernel_rfl) (by decide) (fun K hK => ?_)
  refine goes_ Tryd.func41 (by kernel_rfl) (by kernel_rfl) #[.int .u8 3, .int .i64 s.size] (by rfl) rfl rfl (by simp only [List.map_toArray, List.map_cons, List.map_nil]; rfl) ?_
  refine (c41 3 s.size _ (by omega) (by omega) (by omega) (by omega)).mono ?_
  rintro e w' ⟨rfl, rfl⟩
  refine ⟨_, rfl, hK.out _ _ hHeld (fun _ => ?_)⟩
  clear hK K
  refine norm_ (a' := ?_) ?_ ?_
  rotate_left
  · simp only [Act.put, List.setIfInBounds_toArray, List.set_cons_zero, List.set_cons_succ]
    rfl
  refine one_ (i := 8) (N := (some 34)) #[true, true, true, true, true, true, true, true, true, false, false, false, false] rfl rfl (by kernel_rfl) (by decide) (fun K hK => ?_)
  refine value_ (w1 := ?_) (v := ?_) (by rfl) rfl ?_ ?_
  rotate_left 2
  · go_simp
    constructor
    · rfl
    · rfl
  refine hK.out _ _ ((World.cell?_alloc_lt _ _ _ (World.block_lt_of_cell? _ _ hHeld)).trans hHeld) (fun hHeld => ?_)
  clear hK K
  refine norm_ (a' := ?_) ?_ ?_
  rotate_left
  · simp only [Act.put, List.setIfInBounds_toArray, List.set_cons_zero, List.set_cons_succ]
    rfl
  refine one_ (i := 9) (N := (some 35)) #[true, true, true, true, true, true, true, true, true, true, false, false, false] rfl rfl (by kernel_rfl) (by decide) (fun K hK => ?_)
  refine step_app (HX.out.drew.alloc _) rfl (.tmp 30) (.tmp 34) rfl (by rfl) ⟨w1.heap.size, 0, none⟩ 1 1 (by rfl) [(s.size : Int) * 256 + 3] rfl (box_cells w1 _) Hlen1.out Hhead.out ?_
  intro A2 n2 c2 w2 hk1 hk2 HX2
  refine hK.out _ _ hk1 (fun hHeld => ?_)
  clear hK K
  refine norm_ (a' := ?_) ?_ ?_
  rotate_left
  · simp only [Act.put, List.setIfInBounds_toArray, List.set_cons_zero, List.set_cons_succ]
    rfl
  refine pure_ (i := 10) (N := (some 36)) (v := ?_) (a' := ?_) #[true, true, true, true, true, true, true, true, true, true, true, false, false] rfl rfl (by kernel_rfl) (fun _ _ _ h => h) (Or.inl ⟨by rfl, ?_⟩) ?_ ?_
  rotate_left
  · intro w'
    go_simp
    with_reducible rfl
  rotate_left
  · simp only [Act.put, List.setIfInBounds_toArray, List.set_cons_zero, List.set_cons_succ]
    rfl
  refine pure_ (i := 11) (N := (some 37)) (v := ?_) (a' := ?_) #[true, true, true, true, true, true, true, true, true, true, true, true, false] rfl rfl (by kernel_rfl) (fun _ _ _ h => h) (Or.inl ⟨by rfl, ?_⟩) ?_ ?_
  rotate_left
  · intro w'
    go_simp
    with_reducible rfl
  rotate_left
  · simp only [Act.put, List.setIfInBounds_toArray, List.set_cons_zero, List.set_cons_succ]
    rfl
  refine last_ (i := 12) (N := none) #[true, true, true, true, true, true, true, true, true, true, true, true, true] rfl rfl (by kernel_rfl) (by decide) (fun K hK => ?_)
  refine skip_ (w1 := ?_) (by rfl) rfl ?_ ?_
  rotate_left
  · go_simp
    rfl
  refine hK.out _ _ ?_
  clear hK K
  refine done_ (by kernel_rfl) ?_
  -- END
  go_wp2
  go_loopw [9] (fun i wr => ∃ (p j : Nat) (A : Option Addr) (n c' : Nat), p = 8 * j ∧ j ≤ (s.size + 7) / 8 ∧ i = .int .i64 (p : Int) ∧ Hx w b v wr (.slice A n c') (m1 ++ (((s.size : Int) * 256 + 3) :: twords s j)) q c1) (fun i _ => s.size + 8 - (intOf i).toNat)
  case atStart => exact ⟨0, 0, A2, n2, c2, rfl, Nat.zero_le _, rfl, HX2.out⟩
  case round =>
    obtain ⟨p, j, A3, n3, c3, hp, hj, rfl, hx3⟩ := hrel
    have HX3 := Lib.hid hx3
    clear hx3
    have HP := Lib.hid hp
    by_cases hlt : p < s.size
    · have hj1 : j < (s.size + 7) / 8 := by omega
      clear hp
      have hlt1 : (p : Int) < s.size := by omega
      go_wp2
      have hc3 := HX3.out.is.cell0
      have hf3 := HX3.out.is.free 0
      have hnew : Wd [(wpart s p 8 : Int)] := by
        intro x hx
        rw [List.mem_singleton.1 hx]
        have := wpart_lt s p 8
        have e : (2 : Nat) ^ (8 * 8) = 18446744073709551616 := by decide
        rw [e] at this
        omega
      have hlen3 : ((m1 ++ (((s.size : Int) * 256 + 3) :: twords s j)) ++ [(wpart s p 8 : Int)]).length ≤ 1048576 := by
        have := HF.out
        simp [twords_length]
        omega
      have HN3 := Lib.hid hnew
      have HL3 := Lib.hid hlen3
      have HM3 : Hid (m1 ++ (((s.size : Int) * 256 + 3) :: twords s j) ++ [(wpart s p 8 : Int)] = m1 ++ (((s.size : Int) * 256 + 3) :: twords s (j + 1))) := Lib.hid (by
        rw [twords_succ, ← HP.out]
        simp)
      clear hnew hlen3
      go_loop [10, 11] (fun x k => ∃ kk : Nat, kk ≤ 8 ∧ k = .int .i64 kk ∧ x = .int .u64 (wpart s p kk)) (fun _ k => 8 - (intOf k).toNat)
      case atStart => exact ⟨0, by omega, rfl, rfl⟩
      case round =>
        obtain ⟨kk, hkk, rfl, rfl⟩ := hrel
        by_cases hks : kk < 8 ∧ p + kk < s.size
        · obtain ⟨hk8, hks⟩ := hks
          have hks1 : (p : Int) + kk < s.size := by omega
          go_wp2
          go_round
          case rel => exact ⟨kk + 1, by omega, by go_num, by rw [wpart_step s p kk hks hk8]⟩
          case measure => simp [intOf]; omega
        · have hfin : wpart s p 8 = wpart s p kk := by
            by_cases hk8 : kk < 8
            · have := wpart_stop s p kk (8 - kk) (by omega)
              rw [← this]
              congr 1
              omega
            · rw [show kk = 8 by omega]
          have HF3 := Lib.hid hfin
          clear hfin
          by_cases hk8 : kk < 8
          · have hks1 : (s.size : Int) ≤ (p : Int) + kk := by omega
            clear hks
            go_wp2_with (at_builtin; refine wp_app (HX3.out.alloc _) rfl (.tmp 71) (.tmp 73) rfl rfl ⟨wr.heap.size, 0, none⟩ 1 1 rfl [(wpart s p 8 : Int)] rfl (by rw [← HF3.out]; exact box_cells wr _) HL3.out HN3.out ?_; intro A4 n4 c4 w4 hk1 hk2 HX4)
            rw [HM3.out] at HX4
            go_roundw
            case rel => exact ⟨p + 8, j + 1, A4, n4, c4, by have := HP.out; omega, hj1, by go_num, HX4.out⟩
            case measure => simp [intOf]; omega
          · have hk9 : kk = 8 := by omega
            subst hk9
            clear hks
            go_wp2_with (at_builtin; refine wp_app (HX3.out.alloc _) rfl (.tmp 71) (.tmp 73) rfl rfl ⟨wr.heap.size, 0, none⟩ 1 1 rfl [(wpart s p 8 : Int)] rfl (by rw [← HF3.out]; exact box_cells wr _) HL3.out HN3.out ?_; intro A4 n4 c4 w4 hk1 hk2 HX4)
            rw [HM3.out] at HX4
            go_roundw
            case rel => exact ⟨p + 8, j + 1, A4, n4, c4, by have := HP.out; omega, hj1, by go_num, HX4.out⟩
            case measure => simp [intOf]; omega
    · have hj1 : j = (s.size + 7) / 8 := by omega
      clear hp
      have hlt1 : (s.size : Int) ≤ p := by omega
      subst hj1
      go_wp2
      go_ret2
      exact ⟨rfl, _, HX3.out⟩
/-- There is room. -/
theorem c13_fits (s : ByteArray) (r : Value) (w : World) (hh : HpIs w b v m q c) (hs : s.size ≤ 8000000) (hq : 0 ≤ q ∧ q ≤ 1048576) (hfit : (m.length : Int) + (1 + (s.size + 7) / 8 : Nat) ≤ q) :
    Calls Tryd.prog 13 #[.pointer (some ⟨b, 0, none⟩), .string s, r] w fun e w' => e = .returned (.tuple #[.int .u64 ((m.length : Int) * 2), .int .i64 0]) ∧ ∃ v', Hx w b v w' v' (m ++ twrds s) q c :=
  c13_of s r w m c hs hq hfit ((c40_fits _ r w hh (by omega) (by omega) hq).mono fun e w' ⟨he, hd⟩ => by
    obtain ⟨n, rfl⟩ := hd
    exact ⟨he, _, (Hx.start hh).drewN n⟩)
/-- There is none, but behind a collection without a root. -/
theorem c13_none (s : ByteArray) (w : World) (hh : HpIs w b v m q c) (hs : s.size ≤ 8000000) (hq : 0 ≤ q ∧ q ≤ 1048576) (hcc : 0 ≤ c ∧ c ≤ 1000000000000) (hno : q < (m.length : Int) + (1 + (s.size + 7) / 8 : Nat)) (hfit : ((1 + (s.size + 7) / 8 : Nat) : Int) ≤ q) :
    Calls Tryd.prog 13 #[.pointer (some ⟨b, 0, none⟩), .string s, .slice none 0 0] w fun e w' => e = .returned (.tuple #[.int .u64 0, .int .i64 0]) ∧ ∃ v', Hx w b v w' v' (twrds s) q (c + 1) :=
  c13_of (m1 := []) s _ w (c + 1) hs hq (by simpa using hfit) ((c40_none (1 + ((s.size : Int) + 7) / 8) w hh (by omega) (by omega) hq hcc).mono fun e w' ⟨he, v', h1, h2, h3⟩ =>
    ⟨by rw [he]; simp; omega, v', h1, h2.mono (fun k hk => .inl hk), fun k hk => .inr (h3 k hk)⟩)
end
end Go.Proofs.YtbpbhipjpjjcaaaDoor
