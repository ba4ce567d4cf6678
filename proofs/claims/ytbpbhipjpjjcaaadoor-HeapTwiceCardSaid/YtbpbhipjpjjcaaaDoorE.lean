import Derived.Test.YtbpbhipjpjjcaaaDoorD
import Derived.Test.YtbpbhipjpjjcaaaDoorShelf
namespace Go.Proofs.YtbpbhipjpjjcaaaDoor
set_option linter.unusedVariables false
set_option linter.unusedSimpArgs false
open Go.RowKit Go.Proofs.YtbpbhipjpjjcaaaDoorW.PrintWords

theorem HpIs.below {w w' : World} {b : Nat} {v : Value} {m : List Int} {q c : Int} (h : HpIs w b v m q c) (hb : Below w.heap.size w w') : HpIs w' b v m q c :=
  ⟨(hb.block b h.lt).trans h.blk, pw_own_below h.row hb, h.small, h.wd⟩
/-- The i-th byte of the text at place p. -/
def txb (m : List Int) (p : Int) (i : Nat) : UInt8 := UInt8.ofNat ((rd m (p + 1 + ((i / 8 : Nat) : Int))) / 2 ^ (8 * (i % 8)) % 256).toNat
def txt (m : List Int) (p : Int) (n : Nat) : List UInt8 := (List.range n).map (txb m p)
theorem txt_succ (m : List Int) (p : Int) (n : Nat) : txt m p (n + 1) = txt m p n ++ [txb m p n] := by simp [txt, List.range_succ]
theorem txt_length (m : List Int) (p : Int) (n : Nat) : (txt m p n).length = n := by simp [txt]
theorem txb_val (m : List Int) (p : Int) (i : Nat) (hm : Wd m) : (((txb m p i).toNat : Nat) : Int) = rd m (p + 1 + (i : Int) / 8) / 2 ^ (8 * (i % 8)) % 256 := by
  unfold txb
  have h := hm.at_ (p + 1 + (i : Int) / 8)
  have e : (((i / 8 : Nat) : Int)) = (i : Int) / 8 := by omega
  rw [e]
  generalize rd m (p + 1 + (i : Int) / 8) / 2 ^ (8 * (i % 8)) = y
  have h2 : 0 ≤ y % 256 ∧ y % 256 < 256 := by omega
  rw [UInt8.toNat_ofNat_of_lt' (by show (y % 256).toNat < 256; omega)]
  omega
theorem txt_cells (m : List Int) (p : Int) (k : Nat) (hm : Wd m) : Lib.byteCells (txt m p k) ++ [.int .u8 (rd m (p + 1 + (k : Int) / 8) / 2 ^ (8 * (k % 8)) % 256)] = Lib.byteCells (txt m p (k + 1)) := by
  rw [txt_succ, ← txb_val m p k hm]
  simp [Lib.byteCells]
section
variable {b : Nat} {v : Value} {m : List Int} {q c : Int}
set_option maxRecDepth 100000 in
set_option maxHeartbeats 1000000 in
theorem c20 (x : Int) (w : World) (hh : HpIs w b v m q c) (hp : Place m x) (hk : rd m (x / 2) % 256 = 3) (n : Nat) (hn : rd m (x / 2) / 256 = n) (hin : x / 2 + 1 + ((n + 7) / 8 : Nat) ≤ m.length) :
    Calls Tryd.prog 20 #[.pointer (some ⟨b, 0, none⟩), .int .u64 x] w fun e w' => e = .returned (.string ⟨(txt m (x / 2) n).toArray⟩) ∧ Below w.heap.size w w' := by
  have H37 := Lib.hid (c37 x w hh hp)
  have hk' : (rd m (x / 2) % 256 != 3) = false := by simpa using hk
  have H38 : Hid (∀ w0, HpIs w0 b v m q c → Calls Tryd.prog 38 #[.pointer (some ⟨b, 0, none⟩), .int .u64 x] w0 fun e w' => e = .returned (.int .i64 n) ∧ w0 = w') := fun w0 h => by rw [← hn]; exact c38 x w0 h hp
  clear hk
  have HN := Lib.hid hn
  clear hn
  have hsm := hh.small
  obtain ⟨hx0, hx1, hx, hf⟩ := hp
  have H45 := Lib.hid (fun (w0 : World) (h0 : HpIs w0 b v m q c) => c45_in x w0 h0 hx0 hx1 hx hf)
  have hx2 : 0 ≤ x / 2 := by omega
  clear hx
  have HW := Lib.hid hh.wd
  have HH := Lib.hid hh
  clear hh
  go_enter Tryd.func20, Tryd.ntmps20
  go_wp2_with (first | (go_at_call 37; refine H37.out.mono ?_; rintro e w' ⟨rfl, rfl⟩) | (go_at_call 38; refine (H38.out _ (HH.out.below (below_alloc (Below.refl _ _) _))).mono ?_; rintro e w' ⟨rfl, rfl⟩))
  go_loopw [14] (fun i wr => ∃ k : Nat, k ≤ n ∧ i = .int .i64 k ∧ Lib.IsBuffer 86 5 w.heap.size w.heap.size (Lib.byteCells (txt m (x / 2) k)) wr ∧ Below w.heap.size w wr) (fun i _ => n - (intOf i).toNat)
  case atStart => exact ⟨0, Nat.zero_le _, rfl, Lib.fresh_isBuffer 86 5 w, below_alloc (Below.refl _ _) _⟩
  case round =>
    obtain ⟨k, hkn, rfl, hbuf, hbel⟩ := hrel
    have hw := HH.out.below hbel
    have H45w := Lib.hid (H45.out wr.drew hw.drew)
    by_cases hlt : k < n
    · have hc0 := hw.cell0
      obtain ⟨A, cp, hv, hr⟩ := hw.opens
      obtain ⟨ad, rfl, hcell⟩ := hr (x / 2 + 1 + (k : Int) / 8) (by omega) (by omega)
      subst hv
      have hS1 : IntKind.i64.wrap (x / 2 + 1) = x / 2 + 1 := IntWalk.i64_in _ (by omega)
      have hS0 : IntKind.i64.wrap ((k : Int) / 8) = (k : Int) / 8 := IntWalk.i64_in _ (by omega)
      have hS2 : IntKind.i64.wrap (x / 2 + 1 + (k : Int) / 8) = x / 2 + 1 + (k : Int) / 8 := IntWalk.i64_in _ (by omega)
      have hS3 : 0 ≤ x / 2 + 1 + (k : Int) / 8 := by omega
      have hS4 : x / 2 + 1 + (k : Int) / 8 < m.length := by omega
      have hS6 : Int.tmod (k : Int) 8 = (k : Int) % 8 := Int.tmod_eq_emod_of_nonneg (by omega)
      have hS7 : 0 ≤ 8 * ((k : Int) % 8) := by omega
      have hS8 : min (8 * ((k : Int) % 8)).toNat 64 = 8 * (k % 8) := by omega
      have hS5 : IntKind.i64.wrap (8 * ((k : Int) % 8)) = 8 * ((k : Int) % 8) := IntWalk.i64_in _ (by omega)
      clear hr hw
      go_wp2_with fail
      refine wp_region_still_tail 18 (by kernel_rfl) (by kernel_rfl) ?_
      simp only [List.take_succ_cons, List.take_zero, List.drop_succ_cons, List.drop_zero]
      change wpStill _ _ wr.drew _ _ _
      repeat still_step
      refine wpStill_step (fun K hK => ?_)
      go_simp
      refine ⟨_, H45w.out.mono (fun _ _ h => ⟨h.1, h.2.symm⟩), hK _ ?_⟩
      clear hK K
      repeat still_step
      refine wpStill_nil ?_
      change wpList _ _ _ _ _ wr.drew
      go_wp2_with fail
      refine (Tryd.Buffer_WriteByte w.heap.size w.heap.size _ _ wr.drew hbuf hbel.size (Lib.byteCells_one _) (by rw [Lib.byteCells_length, txt_length]; omega)).mono ?_
      rintro e w1 ⟨rfl, hb1, hbel1⟩
      rw [txt_cells m (x / 2) k HW.out] at hb1
      go_wp2
      go_roundw
      case rel => exact ⟨k + 1, by omega, by go_num, hb1, hbel.trans (Below.trans (below_drew (Below.refl _ _)) hbel1)⟩
      case measure => simp [intOf]; omega
    · have hkn' : k = n := by omega
      subst hkn'
      go_wp2_with fail
      refine (Tryd.Buffer_String w.heap.size w.heap.size _ _ hbuf).mono ?_
      rintro e w1 ⟨rfl, nq, rfl⟩
      go_wp2
      go_ret
      exact ⟨rfl, pw_below_drewN hbel _⟩
end
end Go.Proofs.YtbpbhipjpjjcaaaDoor
