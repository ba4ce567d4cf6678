
/-
  PLAIN LEAN: a copying collection over words (no program in sight): what is reached, in the order in which it is come to; where it stands then.
-/
namespace Go.Proofs.YtbpbhipjpjjcaaaDoor.Gc
set_option linter.unusedVariables false
set_option linter.unusedSimpArgs false

abbrev Ws := List Int
def gd (m : Ws) (i : Nat) : Int := m.getD i 0
/-- How many words stand behind a head. -/
def np (h : Int) : Nat := if h % 256 = 3 then ((h / 256 + 7) / 8).toNat else (h / 256).toNat
def sz (m : Ws) (a : Nat) : Nat := 1 + np (gd m a)
/-- The words behind the head of the object at a. -/
def body (m : Ws) (a : Nat) : Ws := (m.drop (a + 1)).take (np (gd m a))
def raw (m : Ws) (a : Nat) : Ws := gd m a :: body m a
/-- .. those that are parts. -/
def parts (m : Ws) (a : Nat) : Ws := if gd m a % 256 = 3 then [] else body m a
/-- Words are objects, one behind the other, at these places. -/
inductive Lay (m : Ws) : Nat → List Nat → Prop where
  | nil {a : Nat} (h : a = m.length) : Lay m a []
  | cons {a : Nat} {l : List Nat} (h0 : a + sz m a ≤ m.length) (h1 : 1 ≤ gd m a % 256 ∧ gd m a % 256 ≤ 6) (h2 : 0 ≤ gd m a) (h : Lay m (a + sz m a) l) : Lay m a (a :: l)
/-- A word is a number, or an object's place. -/
def Ok (St : List Nat) (x : Int) : Prop := x % 2 = 1 ∨ ∃ a ∈ St, x = 2 * (a : Int)
structure Wf (m : Ws) (St : List Nat) : Prop where
  lay : Lay m 0 St
  ok : ∀ a ∈ St, ∀ x ∈ parts m a, Ok St x

theorem Lay.mem {m : Ws} {a : Nat} {l : List Nat} (h : Lay m a l) : ∀ b ∈ l, a ≤ b ∧ b + sz m b ≤ m.length ∧ 1 ≤ gd m b % 256 ∧ gd m b % 256 ≤ 6 ∧ 0 ≤ gd m b := by
  induction h with
  | nil h => intro b hb; cases hb
  | cons h0 h1 h2 h ih =>
    intro b hb
    rcases List.mem_cons.1 hb with rfl | hb
    · exact ⟨Nat.le_refl _, h0, h1.1, h1.2, h2⟩
    · obtain ⟨h3, h4⟩ := ih b hb
      exact ⟨by omega, h4⟩
theorem sz_pos (m : Ws) (a : Nat) : 1 ≤ sz m a := by unfold sz; omega
theorem Lay.sum {m : Ws} {a : Nat} {l : List Nat} (h : Lay m a l) : a + (l.map (sz m)).sum = m.length := by
  induction h with
  | nil h => simpa using h
  | cons h0 h1 h2 h ih => simp only [List.map_cons, List.sum_cons]; omega
theorem Lay.nodup {m : Ws} {a : Nat} {l : List Nat} (h : Lay m a l) : l.Nodup := by
  induction h with
  | nil h => exact List.nodup_nil
  | @cons a l h0 h1 h2 h ih =>
    refine List.nodup_cons.2 ⟨fun hm => ?_, ih⟩
    have := (h.mem _ hm).1
    have := sz_pos m a
    omega
/-- Some of the objects take no more room than all. -/
theorem sum_le {St : List Nat} {f : Nat → Nat} : ∀ {ord : List Nat}, ord.Nodup → (∀ a ∈ ord, a ∈ St) → (ord.map f).sum ≤ (St.map f).sum := by
  induction St with
  | nil =>
    intro ord _ h
    cases ord with
    | nil => simp
    | cons a l => exact absurd (h a List.mem_cons_self) (by simp)
  | cons b St ih =>
    intro ord hn h
    by_cases hb : b ∈ ord
    · have h1 : (ord.map f).sum = f b + ((ord.erase b).map f).sum := by
        have := (List.perm_cons_erase hb).map f
        rw [this.sum_nat]
        simp
      have h2 := ih (ord := ord.erase b) (hn.erase b) (fun a ha => by
        have ha1 := List.mem_of_mem_erase ha
        rcases List.mem_cons.1 (h a ha1) with rfl | h3
        · exact absurd ha (by simp [hn.mem_erase_iff])
        · exact h3)
      simp only [List.map_cons, List.sum_cons]
      omega
    · have h2 := ih (ord := ord) hn (fun a ha => by
        rcases List.mem_cons.1 (h a ha) with rfl | h3
        · exact absurd ha hb
        · exact h3)
      simp only [List.map_cons, List.sum_cons]
      omega

/-! ## what is come to -/
def visit (m : Ws) (ord : List Nat) (x : Int) : List Nat :=
  if x % 2 = 0 ∧ x / 2 < m.length then (if (x / 2).toNat ∈ ord then ord else ord ++ [(x / 2).toNat]) else ord
def visits (m : Ws) (ord : List Nat) (xs : Ws) : List Nat := xs.foldl (visit m) ord
def scan (m : Ws) : Nat → Nat → List Nat → List Nat
  | 0, _, ord => ord
  | f + 1, i, ord => if h : i < ord.length then scan m f (i + 1) (visits m ord (parts m ord[i])) else ord
def order (m : Ws) (roots : Ws) : List Nat := scan m (m.length + 1) 0 (visits m [] roots)
/-- Where an object stands then. -/
def npos (m : Ws) : List Nat → Nat → Nat
  | [], _ => 0
  | b :: l, a => if b = a then 0 else sz m b + npos m l a
def remap (m : Ws) (ord : List Nat) (x : Int) : Int := if x % 2 = 0 ∧ 0 ≤ x ∧ (x / 2).toNat ∈ ord then 2 * (npos m ord (x / 2).toNat : Int) else x
def total (m : Ws) (ord : List Nat) : Nat := (ord.map (sz m)).sum
/-- The object at a, its parts as they are then. -/
def moved (m : Ws) (ord : List Nat) (a : Nat) : Ws := if gd m a % 256 = 3 then raw m a else gd m a :: (body m a).map (remap m ord)
def out (m : Ws) (ord : List Nat) : Ws := (ord.map (moved m ord)).flatten

theorem npos_append {m : Ws} {l l2 : List Nat} {a : Nat} (h : a ∈ l) : npos m (l ++ l2) a = npos m l a := by
  induction l with
  | nil => cases h
  | cons b l ih =>
    simp only [List.cons_append, npos]
    by_cases hb : b = a
    · rw [if_pos hb, if_pos hb]
    · rw [if_neg hb, if_neg hb, ih ((List.mem_cons.1 h).resolve_left (fun e => hb e.symm))]
theorem npos_new {m : Ws} {l : List Nat} {a : Nat} (h : a ∉ l) : npos m (l ++ [a]) a = total m l := by
  induction l with
  | nil => simp [npos, total]
  | cons b l ih =>
    have hb : b ≠ a := fun e => h (e ▸ List.mem_cons_self)
    simp only [List.cons_append, npos, if_neg hb, total, List.map_cons, List.sum_cons]
    rw [ih (fun hm => h (List.mem_cons_of_mem _ hm))]
    rfl
theorem total_append (m : Ws) (l l2 : List Nat) : total m (l ++ l2) = total m l + total m l2 := by simp [total]
theorem npos_lt {m : Ws} {l : List Nat} {a : Nat} (h : a ∈ l) : npos m l a + sz m a ≤ total m l := by
  induction l with
  | nil => cases h
  | cons b l ih =>
    simp only [npos, total, List.map_cons, List.sum_cons]
    by_cases hb : b = a
    · rw [if_pos hb, hb]; omega
    · rw [if_neg hb]
      have := ih ((List.mem_cons.1 h).resolve_left (fun e => hb e.symm))
      unfold total at this
      omega
theorem remap_append {m : Ws} {l l2 : List Nat} {x : Int} (h : x % 2 = 1 ∨ (x / 2).toNat ∈ l) : remap m (l ++ l2) x = remap m l x := by
  unfold remap
  rcases h with h | h
  · rw [if_neg (by omega), if_neg (by omega)]
  · by_cases he : x % 2 = 0 ∧ 0 ≤ x
    · rw [if_pos ⟨he.1, he.2, List.mem_append_left _ h⟩, if_pos ⟨he.1, he.2, h⟩, npos_append h]
    · rw [if_neg (fun hh => he ⟨hh.1, hh.2.1⟩), if_neg (fun hh => he ⟨hh.1, hh.2.1⟩)]
theorem remap_odd {m : Ws} {l : List Nat} {x : Int} (h : x % 2 = 1) : remap m l x = x := by
  unfold remap
  rw [if_neg (by omega)]
/-- A visit keeps what was come to, and comes to the place. -/
theorem visit_spec {m : Ws} {St ord : List Nat} {x : Int} (hO : Ok St x) (hlt : ∀ a ∈ St, a < m.length) (hn : ord.Nodup) (hs : ∀ a ∈ ord, a ∈ St) :
    (∃ l2, visit m ord x = ord ++ l2) ∧ (visit m ord x).Nodup ∧ (∀ a ∈ visit m ord x, a ∈ St) ∧ (x % 2 = 1 ∨ (x / 2).toNat ∈ visit m ord x) := by
  unfold visit
  rcases hO with h1 | ⟨a, ha, rfl⟩
  · rw [if_neg (by omega)]
    exact ⟨⟨[], by simp⟩, hn, hs, .inl h1⟩
  · have hl := hlt a ha
    have e : (2 * (a : Int) / 2).toNat = a := by omega
    rw [if_pos ⟨by omega, by omega⟩, e]
    by_cases hm : a ∈ ord
    · rw [if_pos hm]
      exact ⟨⟨[], by simp⟩, hn, hs, .inr hm⟩
    · rw [if_neg hm]
      refine ⟨⟨[a], rfl⟩, ?_, ?_, .inr (by simp)⟩
      · rw [List.nodup_append]
        exact ⟨hn, by simp, fun y hy z hz => by rw [List.mem_singleton.1 hz]; exact fun e => hm (e ▸ hy)⟩
      · intro y hy
        rcases List.mem_append.1 hy with hy | hy
        · exact hs y hy
        · rw [List.mem_singleton.1 hy]; exact ha
theorem visits_spec {m : Ws} {St : List Nat} (hlt : ∀ a ∈ St, a < m.length) : ∀ {xs : Ws} {ord : List Nat}, (∀ x ∈ xs, Ok St x) → ord.Nodup → (∀ a ∈ ord, a ∈ St) →
    (∃ l2, visits m ord xs = ord ++ l2) ∧ (visits m ord xs).Nodup ∧ (∀ a ∈ visits m ord xs, a ∈ St) ∧ (∀ x ∈ xs, x % 2 = 1 ∨ (x / 2).toNat ∈ visits m ord xs) := by
  intro xs
  induction xs with
  | nil => intro ord _ hn hs; exact ⟨⟨[], by simp [visits]⟩, hn, hs, fun x hx => by cases hx⟩
  | cons x xs ih =>
    intro ord hO hn hs
    obtain ⟨⟨l1, e1⟩, n1, s1, r1⟩ := visit_spec (hO x List.mem_cons_self) hlt hn hs
    obtain ⟨⟨l2, e2⟩, n2, s2, r2⟩ := ih (fun y hy => hO y (List.mem_cons_of_mem _ hy)) n1 s1
    refine ⟨⟨l1 ++ l2, ?_⟩, n2, s2, ?_⟩
    · show visits m (visit m ord x) xs = _
      rw [e2, e1, List.append_assoc]
    · intro y hy
      rcases List.mem_cons.1 hy with rfl | hy
      · rcases r1 with r1 | r1
        · exact .inl r1
        · refine .inr ?_
          show _ ∈ visits m (visit m ord y) xs
          rw [e2]
          exact List.mem_append_left _ r1
      · exact r2 y hy
end Go.Proofs.YtbpbhipjpjjcaaaDoor.Gc
/-
  PLAIN LEAN: the words of a copying collection while it goes on: what is copied, what of it is turned already.
-/
namespace Go.Proofs.YtbpbhipjpjjcaaaDoor.Gc
set_option linter.unusedVariables false
set_option linter.unusedSimpArgs false

theorem body_length {m : Ws} {a : Nat} (h : a + sz m a ≤ m.length) : (body m a).length = np (gd m a) := by
  unfold body sz at *
  simp
  omega
theorem raw_length {m : Ws} {a : Nat} (h : a + sz m a ≤ m.length) : (raw m a).length = sz m a := by
  unfold raw
  rw [List.length_cons, body_length h]
  unfold sz
  omega
theorem moved_length {m : Ws} {ord : List Nat} {a : Nat} (h : a + sz m a ≤ m.length) : (moved m ord a).length = sz m a := by
  unfold moved
  split
  · exact raw_length h
  · rw [List.length_cons, List.length_map, body_length h]
    unfold sz
    omega
/-- The object at a, as the slice m[a:a+size]. -/
theorem raw_eq {m : Ws} {a : Nat} (h : a + sz m a ≤ m.length) : raw m a = (m.drop a).take (sz m a) := by
  have hp := sz_pos m a
  unfold raw body
  have e : m.drop a = gd m a :: m.drop (a + 1) := by
    rw [List.drop_eq_getElem_cons (by omega)]
    unfold gd
    rw [List.getD_eq_getElem?_getD, List.getElem?_eq_getElem (by omega)]
    rfl
  rw [e]
  unfold sz
  rw [Nat.add_comm 1 (np (gd m a)), List.take_succ_cons]
def R (m : Ws) (l : List Nat) : Ws := (l.map (raw m)).flatten
def D (m : Ws) (ord : List Nat) (i : Nat) : Ws := ((ord.take i).map (moved m ord)).flatten
/-- All places are objects'. -/
def In (m : Ws) (l : List Nat) : Prop := ∀ a ∈ l, a + sz m a ≤ m.length
theorem In.mono {m : Ws} {l l2 : List Nat} (h : In m l) (hs : ∀ a ∈ l2, a ∈ l) : In m l2 := fun a ha => h a (hs a ha)
theorem R_length {m : Ws} {l : List Nat} (h : In m l) : (R m l).length = total m l := by
  induction l with
  | nil => rfl
  | cons a l ih =>
    unfold R total at *
    simp only [List.map_cons, List.flatten_cons, List.length_append, List.sum_cons]
    rw [raw_length (h a List.mem_cons_self), ih (fun b hb => h b (List.mem_cons_of_mem _ hb))]
theorem R_append (m : Ws) (l l2 : List Nat) : R m (l ++ l2) = R m l ++ R m l2 := by simp [R]
theorem moveds_length {m : Ws} {ord l : List Nat} (h : In m l) : ((l.map (moved m ord)).flatten).length = total m l := by
  induction l with
  | nil => rfl
  | cons a l ih =>
    unfold total at *
    simp only [List.map_cons, List.flatten_cons, List.length_append, List.sum_cons]
    rw [moved_length (h a List.mem_cons_self), ih (fun b hb => h b (List.mem_cons_of_mem _ hb))]
theorem D_length {m : Ws} {ord : List Nat} {i : Nat} (h : In m ord) : (D m ord i).length = total m (ord.take i) :=
  moveds_length (h.mono fun a ha => List.mem_of_mem_take ha)
theorem D_zero (m : Ws) (ord : List Nat) : D m ord 0 = [] := by simp [D]
theorem D_all (m : Ws) (ord : List Nat) : D m ord ord.length = out m ord := by simp [D, out]
theorem D_succ {m : Ws} {ord : List Nat} {i : Nat} (h : i < ord.length) : D m ord (i + 1) = D m ord i ++ moved m ord ord[i] := by
  unfold D
  rw [List.take_succ_eq_append_getElem h, List.map_append, List.flatten_append]
  simp
/-- The parts that were looked at are come to. -/
def Cl (ord : List Nat) (xs : Ws) : Prop := ∀ x ∈ xs, x % 2 = 1 ∨ (x / 2).toNat ∈ ord
theorem Cl.append {ord l2 : List Nat} {xs : Ws} (h : Cl ord xs) : Cl (ord ++ l2) xs := fun x hx => (h x hx).imp id (fun h => List.mem_append_left _ h)
theorem remaps_append {m : Ws} {ord l2 : List Nat} {xs : Ws} (h : Cl ord xs) : xs.map (remap m (ord ++ l2)) = xs.map (remap m ord) :=
  List.map_congr_left fun x hx => remap_append (h x hx)
theorem moved_append {m : Ws} {ord l2 : List Nat} {a : Nat} (h : Cl ord (parts m a)) : moved m (ord ++ l2) a = moved m ord a := by
  unfold moved parts at *
  split
  · rfl
  · rename_i hk
    rw [if_neg hk] at h
    rw [remaps_append h]
theorem D_append {m : Ws} {ord l2 : List Nat} {i : Nat} (hi : i ≤ ord.length) (h : ∀ a ∈ ord.take i, Cl ord (parts m a)) : D m (ord ++ l2) i = D m ord i := by
  unfold D
  rw [List.take_append_of_le_length hi]
  congr 1
  exact List.map_congr_left fun a ha => moved_append (h a ha)
/-- Where each object went, in the list that the collection keeps. -/
def Mv (m : Ws) (ord : List Nat) (mv : Ws) : Prop := mv.length = m.length ∧ ∀ a, a < m.length → gd mv a = if a ∈ ord then 2 * (npos m ord a : Int) + 1 else 0
theorem Mv.zero (m : Ws) : Mv m [] (List.replicate m.length 0) := by
  refine ⟨by simp, fun a ha => ?_⟩
  simp [gd, List.getD_eq_getElem?_getD, ha]
theorem Mv.add {m : Ws} {ord : List Nat} {mv : Ws} {a : Nat} (h : Mv m ord mv) (ha : a < m.length) (hn : a ∉ ord) : Mv m (ord ++ [a]) (mv.set a (2 * (total m ord : Int) + 1)) := by
  refine ⟨by simpa using h.1, fun b hb => ?_⟩
  unfold gd
  by_cases e : a = b
  · subst e
    rw [List.getD_eq_getElem?_getD, List.getElem?_set_self (by rw [h.1]; exact ha), if_pos (by simp), npos_new hn]
    rfl
  · rw [List.getD_eq_getElem?_getD, List.getElem?_set_ne e, ← List.getD_eq_getElem?_getD]
    have h2 := h.2 b hb
    unfold gd at h2
    rw [h2]
    by_cases hm : b ∈ ord
    · rw [if_pos hm, if_pos (List.mem_append_left _ hm), npos_append hm]
    · rw [if_neg hm, if_neg (by simp; exact ⟨hm, fun e2 => e e2.symm⟩)]
/-- What a visit does: nothing, to a number, or what was come to; else one object more. -/
theorem visit_cases {m : Ws} {ord : List Nat} {x : Int} (h0 : 0 ≤ x) :
    (x % 2 = 1 ∧ visit m ord x = ord) ∨ ((m.length : Int) ≤ x / 2 ∧ visit m ord x = ord) ∨
    (x % 2 = 0 ∧ x / 2 < m.length ∧ (x / 2).toNat ∈ ord ∧ visit m ord x = ord) ∨ (x % 2 = 0 ∧ x / 2 < m.length ∧ (x / 2).toNat ∉ ord ∧ visit m ord x = ord ++ [(x / 2).toNat]) := by
  unfold visit
  by_cases h1 : x % 2 = 1
  · exact .inl ⟨h1, if_neg (by omega)⟩
  · by_cases h2 : (m.length : Int) ≤ x / 2
    · exact .inr (.inl ⟨h2, if_neg (by omega)⟩)
    · rw [if_pos ⟨by omega, by omega⟩]
      by_cases h3 : (x / 2).toNat ∈ ord
      · exact .inr (.inr (.inl ⟨by omega, by omega, h3, if_pos h3⟩))
      · exact .inr (.inr (.inr ⟨by omega, by omega, h3, if_neg h3⟩))
theorem visits_snoc (m : Ws) (ord : List Nat) (xs : Ws) (x : Int) : visits m ord (xs ++ [x]) = visit m (visits m ord xs) x := by simp [visits]
theorem scan_go {m : Ws} {f i : Nat} {ord : List Nat} (h : i < ord.length) : scan m (f + 1) i ord = scan m f (i + 1) (visits m ord (parts m ord[i])) := by simp [scan, h]
theorem scan_end {m : Ws} {f i : Nat} {ord : List Nat} (h : ord.length ≤ i) : scan m f i ord = ord := by
  cases f with
  | zero => rfl
  | succ f => simp [scan, Nat.not_lt.2 h]
theorem nodup_length {m : Ws} {ord : List Nat} (hn : ord.Nodup) (h : In m ord) : total m ord ≤ m.length ∨ True := .inr trivial
theorem remap_even {m : Ws} {ord : List Nat} {x : Int} (h0 : 0 ≤ x) (h1 : x % 2 = 0) (h2 : (x / 2).toNat ∈ ord) : remap m ord x = 2 * (npos m ord (x / 2).toNat : Int) := by
  unfold remap
  rw [if_pos ⟨h1, h0, h2⟩]
theorem remap_far {m : Ws} {ord : List Nat} {x : Int} (h : In m ord) (h2 : (m.length : Int) ≤ x / 2) : remap m ord x = x := by
  unfold remap
  rw [if_neg]
  rintro ⟨h3, h4, h5⟩
  have := h _ h5
  have := sz_pos m (x / 2).toNat
  omega
end Go.Proofs.YtbpbhipjpjjcaaaDoor.Gc
namespace Go.Proofs.YtbpbhipjpjjcaaaDoor.Gc
set_option linter.unusedVariables false
set_option linter.unusedSimpArgs false
/-! ## Collected twice it is as collected once -/
theorem visit_len (m : Ws) (X : List Nat) (x : Int) : X.length ≤ (visit m X x).length := by
  unfold visit
  split
  · split
    · exact Nat.le_refl _
    · simp
  · exact Nat.le_refl _
theorem visits_len (m : Ws) (xs : Ws) : ∀ X : List Nat, X.length ≤ (visits m X xs).length := by
  induction xs with
  | nil => intro X; exact Nat.le_refl _
  | cons x xs ih => intro X; exact Nat.le_trans (visit_len m X x) (ih _)
theorem scan_len (m : Ws) : ∀ (f i : Nat) (X : List Nat), X.length ≤ (scan m f i X).length := by
  intro f
  induction f with
  | zero => intro i X; exact Nat.le_refl _
  | succ f ih =>
    intro i X
    by_cases h : i < X.length
    · rw [scan_go h]
      exact Nat.le_trans (visits_len _ _ _) (ih _ _)
    · rw [scan_end (by omega)]
      exact Nat.le_refl _
/-- Any fuel that is enough will do. -/
theorem scan_fuel (m : Ws) (ord : List Nat) : ∀ (f f2 i : Nat) (X : List Nat), scan m f i X = ord → ord.length ≤ i + f → ord.length ≤ i + f2 → scan m f2 i X = ord := by
  intro f
  induction f with
  | zero =>
    intro f2 i X h h1 h2
    have e : X = ord := h
    rw [e]
    exact scan_end (by omega)
  | succ f ih =>
    intro f2 i X h h1 h2
    by_cases hi : i < X.length
    · have hl := scan_len m (f + 1) i X
      rw [h] at hl
      obtain ⟨f3, rfl⟩ : ∃ f3, f2 = f3 + 1 := ⟨f2 - 1, by omega⟩
      rw [scan_go hi] at h ⊢
      exact ih f3 (i + 1) _ h (by omega) (by omega)
    · rw [scan_end (by omega)] at h ⊢
      exact h
theorem Cl.mono {ord l2 : List Nat} {xs : Ws} (h : Cl ord xs) (hs : ∀ a ∈ ord, a ∈ l2) : Cl l2 xs := fun x hx => (h x hx).imp id (hs _)
theorem scan_spec {m : Ws} {St : List Nat} (hw : Wf m St) : ∀ (f i : Nat) (X : List Nat), X.Nodup → (∀ a ∈ X, a ∈ St) → i ≤ X.length → (∀ a ∈ X.take i, Cl X (parts m a)) →
    (∃ l2, scan m f i X = X ++ l2) ∧ (scan m f i X).Nodup ∧ (∀ a ∈ scan m f i X, a ∈ St) ∧ ((scan m f i X).length ≤ i + f → ∀ a ∈ scan m f i X, Cl (scan m f i X) (parts m a)) := by
  have hlt : ∀ a ∈ St, a < m.length := fun a ha => by have := hw.lay.mem a ha; have := sz_pos m a; omega
  intro f
  induction f with
  | zero =>
    intro i X hn hs hi hc
    refine ⟨⟨[], by simp [scan]⟩, hn, hs, fun hl a ha => ?_⟩
    have hl' : X.length ≤ i + 0 := hl
    exact hc a (by rw [List.take_of_length_le (by omega)]; exact ha)
  | succ f ih =>
    intro i X hn hs hi hc
    by_cases h : i < X.length
    · rw [scan_go h]
      have hai : X[i] ∈ St := hs _ (List.getElem_mem h)
      obtain ⟨⟨l1, e1⟩, n1, s1, r1⟩ := visits_spec hlt (hw.ok _ hai) hn hs
      have h3 : ∀ a ∈ (visits m X (parts m X[i])).take (i + 1), Cl (visits m X (parts m X[i])) (parts m a) := by
        intro a ha
        have e : (visits m X (parts m X[i])).take (i + 1) = X.take i ++ [X[i]] := by
          rw [e1, List.take_append_of_le_length (by omega), List.take_succ_eq_append_getElem h]
        rw [e] at ha
        rcases List.mem_append.1 ha with ha | ha
        · rw [e1]
          exact (hc a ha).append
        · rw [List.mem_singleton.1 ha]
          exact r1
      obtain ⟨⟨l2, e2⟩, n2, s2, r2⟩ := ih (i + 1) _ n1 s1 (by rw [e1, List.length_append]; omega) h3
      exact ⟨⟨l1 ++ l2, by rw [e2, e1, List.append_assoc]⟩, n2, s2, fun hl => r2 (by omega)⟩
    · rw [scan_end (by omega)]
      exact ⟨⟨[], by simp⟩, hn, hs, fun hl a ha => hc a (by rw [List.take_of_length_le (by omega)]; exact ha)⟩
theorem len_le_total (m : Ws) (ord : List Nat) : ord.length ≤ total m ord := by
  induction ord with
  | nil => simp
  | cons a l ih =>
    have := sz_pos m a
    simp only [total, List.map_cons, List.sum_cons, List.length_cons] at *
    omega
/-- What the order is: of objects, each once, closed, and the roots are in it. -/
structure Good (m : Ws) (St : List Nat) (rts : Ws) (ord : List Nat) : Prop where
  nd : ord.Nodup
  sub : ∀ a ∈ ord, a ∈ St
  cl : ∀ a ∈ ord, Cl ord (parts m a)
  rts : Cl ord rts
  le : total m ord ≤ m.length
theorem order_good {m : Ws} {St : List Nat} {rts : Ws} (hw : Wf m St) (hr : ∀ x ∈ rts, Ok St x) : Good m St rts (order m rts) := by
  have hlt : ∀ a ∈ St, a < m.length := fun a ha => by have := hw.lay.mem a ha; have := sz_pos m a; omega
  obtain ⟨_, n1, s1, r1⟩ := visits_spec hlt hr List.nodup_nil (fun a ha => by cases ha) (m := m)
  obtain ⟨⟨l2, e2⟩, n2, s2, r2⟩ := scan_spec hw (m.length + 1) 0 _ n1 s1 (Nat.zero_le _) (fun a ha => by simp at ha)
  have h1 := sum_le (f := sz m) n2 s2
  have h2 := hw.lay.sum
  have h4 : total m (scan m (m.length + 1) 0 (visits m [] rts)) ≤ m.length := by unfold total; omega
  have h3 := len_le_total m (scan m (m.length + 1) 0 (visits m [] rts))
  refine ⟨n2, s2, r2 (by omega), ?_, h4⟩
  show Cl (scan m (m.length + 1) 0 (visits m [] rts)) rts
  rw [e2]
  exact Cl.append r1

section
variable {m : Ws} {St ord : List Nat} {rts : Ws}
theorem npos_inj {l : List Nat} {a b : Nat} (ha : a ∈ l) (hb : b ∈ l) (h : npos m l a = npos m l b) : a = b := by
  induction l with
  | nil => cases ha
  | cons c l ih =>
    have hp := sz_pos m c
    unfold npos at h
    by_cases h1 : c = a
    · rw [if_pos h1] at h
      by_cases h2 : c = b
      · rw [← h1, ← h2]
      · rw [if_neg h2] at h
        omega
    · rw [if_neg h1] at h
      by_cases h2 : c = b
      · rw [if_pos h2] at h
        omega
      · rw [if_neg h2] at h
        refine ih ?_ ?_ (by omega)
        · rcases List.mem_cons.1 ha with h3 | h3
          · exact absurd h3.symm h1
          · exact h3
        · rcases List.mem_cons.1 hb with h3 | h3
          · exact absurd h3.symm h2
          · exact h3
theorem out_at {ord0 : List Nat} {l : List Nat} {a : Nat} (hIn : In m l) (ha : a ∈ l) : ∃ rest, ((l.map (moved m ord0)).flatten).drop (npos m l a) = moved m ord0 a ++ rest := by
  induction l with
  | nil => cases ha
  | cons c l ih =>
    unfold npos
    by_cases h1 : c = a
    · rw [if_pos h1]
      exact ⟨(l.map (moved m ord0)).flatten, by rw [h1]; simp⟩
    · rw [if_neg h1]
      have hm : a ∈ l := by
        rcases List.mem_cons.1 ha with h3 | h3
        · exact absurd h3.symm h1
        · exact h3
      obtain ⟨rest, hr⟩ := ih (hIn.mono fun x hx => List.mem_cons_of_mem _ hx) hm
      refine ⟨rest, ?_⟩
      rw [List.map_cons, List.flatten_cons, ← hr]
      have hl : (moved m ord0 c).length = sz m c := moved_length (hIn c List.mem_cons_self)
      rw [List.drop_append, List.drop_of_length_le (by omega), List.nil_append]
      congr 1
      omega
theorem gd_drop {l r : Ws} {p : Nat} {h : Int} (e : l.drop p = h :: r) : gd l p = h := by
  unfold gd
  rw [List.getD_eq_getElem?_getD]
  have : (l.drop p)[0]? = some h := by rw [e]; rfl
  rw [List.getElem?_drop] at this
  rw [Nat.add_zero] at this
  rw [this]
  rfl
theorem at_new (hIn : In m ord) {a : Nat} (ha : a ∈ ord) : gd (out m ord) (npos m ord a) = gd m a ∧ body (out m ord) (npos m ord a) = (if gd m a % 256 = 3 then body m a else (body m a).map (remap m ord)) := by
  obtain ⟨rest, hr⟩ := out_at (ord0 := ord) hIn ha
  have hb := body_length (hIn a ha)
  have e : moved m ord a = gd m a :: (if gd m a % 256 = 3 then body m a else (body m a).map (remap m ord)) := by
    unfold moved raw
    split <;> rfl
  rw [e, List.cons_append] at hr
  have hg : gd (out m ord) (npos m ord a) = gd m a := gd_drop hr
  refine ⟨hg, ?_⟩
  show ((out m ord).drop (npos m ord a + 1)).take (np (gd (out m ord) (npos m ord a))) = _
  rw [hg, ← List.drop_drop]
  have h2 : (out m ord).drop (npos m ord a) = _ := hr
  rw [h2, List.drop_one, List.tail_cons]
  have hl : (if gd m a % 256 = 3 then body m a else (body m a).map (remap m ord)).length = np (gd m a) := by
    split
    · exact hb
    · rw [List.length_map, hb]
  rw [← hl, List.take_left]
theorem sz_new (hIn : In m ord) {a : Nat} (ha : a ∈ ord) : sz (out m ord) (npos m ord a) = sz m a := by
  unfold sz
  rw [(at_new hIn ha).1]
theorem parts_new (hIn : In m ord) {a : Nat} (ha : a ∈ ord) : parts (out m ord) (npos m ord a) = (parts m a).map (remap m ord) := by
  obtain ⟨h1, h2⟩ := at_new hIn ha
  unfold parts
  rw [h1]
  split
  · rfl
  · next hk => rw [h2, if_neg hk]
theorem out_length (hIn : In m ord) : (out m ord).length = total m ord := by
  have := D_length (i := ord.length) hIn
  rw [D_all, List.take_length] at this
  exact this
theorem remap_ok (h : Good m St rts ord) {x : Int} (h0 : 0 ≤ x) (hx : x % 2 = 1 ∨ (x / 2).toNat ∈ ord) : (x % 2 = 1 ∧ remap m ord x = x) ∨ (x % 2 = 0 ∧ (x / 2).toNat ∈ ord ∧ remap m ord x = 2 * (npos m ord (x / 2).toNat : Int)) := by
  by_cases h1 : x % 2 = 1
  · exact .inl ⟨h1, remap_odd h1⟩
  · have h2 : (x / 2).toNat ∈ ord := hx.resolve_left h1
    exact .inr ⟨by omega, h2, remap_even h0 (by omega) h2⟩
theorem visit_new (hw : Wf m St) (h : Good m St rts ord) {X : List Nat} (hX : ∀ a ∈ X, a ∈ ord) {x : Int} (h0 : 0 ≤ x) (hx : x % 2 = 1 ∨ (x / 2).toNat ∈ ord) :
    visit (out m ord) (X.map (npos m ord)) (remap m ord x) = (visit m X x).map (npos m ord) ∧ ∀ a ∈ visit m X x, a ∈ ord := by
  have hIn : In m ord := fun a ha => (hw.lay.mem a (h.sub a ha)).2.1
  rcases remap_ok h h0 hx with ⟨h1, e⟩ | ⟨h1, h2, e⟩
  · rw [e]
    unfold visit
    rw [if_neg (by omega), if_neg (by omega)]
    exact ⟨rfl, hX⟩
  · rw [e]
    have h3 := npos_lt (m := m) h2
    have h4 := sz_pos m (x / 2).toNat
    have h5 := out_length hIn
    have h6 := hIn _ h2
    have e2 : (2 * (npos m ord (x / 2).toNat : Int) / 2).toNat = npos m ord (x / 2).toNat := by omega
    have c1 : 2 * (npos m ord (x / 2).toNat : Int) % 2 = 0 ∧ 2 * (npos m ord (x / 2).toNat : Int) / 2 < ((out m ord).length : Int) := by omega
    have c2 : x % 2 = 0 ∧ x / 2 < (m.length : Int) := by omega
    unfold visit
    rw [if_pos c1, if_pos c2, e2]
    by_cases hm : (x / 2).toNat ∈ X
    · rw [if_pos hm, if_pos (List.mem_map_of_mem hm)]
      exact ⟨rfl, hX⟩
    · rw [if_neg hm, if_neg]
      · refine ⟨by simp, fun a ha => ?_⟩
        rcases List.mem_append.1 ha with ha | ha
        · exact hX a ha
        · rw [List.mem_singleton.1 ha]; exact h2
      · intro hm2
        obtain ⟨y, hy, e3⟩ := List.mem_map.1 hm2
        exact hm (npos_inj (hX y hy) h2 e3 ▸ hy)
theorem visits_new (hw : Wf m St) (h : Good m St rts ord) : ∀ (xs : Ws) (X : List Nat), (∀ a ∈ X, a ∈ ord) → (∀ x ∈ xs, 0 ≤ x) → Cl ord xs →
    visits (out m ord) (X.map (npos m ord)) (xs.map (remap m ord)) = (visits m X xs).map (npos m ord) ∧ ∀ a ∈ visits m X xs, a ∈ ord := by
  intro xs
  induction xs with
  | nil => intro X hX _ _; exact ⟨rfl, hX⟩
  | cons x xs ih =>
    intro X hX h0 hc
    obtain ⟨e1, s1⟩ := visit_new hw h hX (h0 x List.mem_cons_self) (hc x List.mem_cons_self)
    obtain ⟨e2, s2⟩ := ih (visit m X x) s1 (fun y hy => h0 y (List.mem_cons_of_mem _ hy)) (fun y hy => hc y (List.mem_cons_of_mem _ hy))
    refine ⟨?_, s2⟩
    show visits (out m ord) (visit (out m ord) (X.map (npos m ord)) (remap m ord x)) (xs.map (remap m ord)) = _
    rw [e1]
    exact e2
theorem scan_new (hw : Wf m St) (h : Good m St rts ord) (h0 : ∀ a ∈ ord, ∀ x ∈ parts m a, 0 ≤ x) : ∀ (f i : Nat) (X : List Nat), (∀ a ∈ X, a ∈ ord) →
    scan (out m ord) f i (X.map (npos m ord)) = (scan m f i X).map (npos m ord) := by
  have hIn : In m ord := fun a ha => (hw.lay.mem a (h.sub a ha)).2.1
  intro f
  induction f with
  | zero => intro i X hX; rfl
  | succ f ih =>
    intro i X hX
    by_cases hi : i < X.length
    · rw [scan_go hi, scan_go (by rw [List.length_map]; exact hi), List.getElem_map, parts_new hIn (hX _ (List.getElem_mem hi))]
      obtain ⟨e1, s1⟩ := visits_new hw h (parts m X[i]) X hX (h0 _ (hX _ (List.getElem_mem hi))) (h.cl _ (hX _ (List.getElem_mem hi)))
      rw [e1]
      exact ih _ _ s1
    · rw [scan_end (ord := X) (by omega), scan_end (by rw [List.length_map]; omega)]
theorem npos_new2 (hIn : In m ord) (l : List Nat) : (∀ a ∈ l, a ∈ ord) → ∀ a ∈ ord, npos (out m ord) (l.map (npos m ord)) (npos m ord a) = npos m l a := by
  induction l with
  | nil => intro _ a _; rfl
  | cons c l ih =>
    intro hs a ha
    rw [List.map_cons]
    unfold npos
    have hc : c ∈ ord := hs c List.mem_cons_self
    by_cases h1 : c = a
    · rw [if_pos h1]
      show (if npos m ord c = npos m ord a then 0 else _) = 0
      rw [if_pos (by rw [h1])]
    · rw [if_neg h1]
      show (if npos m ord c = npos m ord a then 0 else sz (out m ord) (npos m ord c) + npos (out m ord) (l.map (npos m ord)) (npos m ord a)) = _
      rw [if_neg (fun e => h1 (npos_inj hc ha e)), sz_new hIn hc, ih (fun x hx => hs x (List.mem_cons_of_mem _ hx)) a ha]
theorem remap_new (hw : Wf m St) (h : Good m St rts ord) {x : Int} (h0 : 0 ≤ x) (hx : x % 2 = 1 ∨ (x / 2).toNat ∈ ord) : remap (out m ord) (ord.map (npos m ord)) (remap m ord x) = remap m ord x := by
  have hIn : In m ord := fun a ha => (hw.lay.mem a (h.sub a ha)).2.1
  rcases remap_ok h h0 hx with ⟨h1, e⟩ | ⟨h1, h2, e⟩
  · rw [e]
    exact remap_odd h1
  · rw [e]
    have e2 : (2 * (npos m ord (x / 2).toNat : Int) / 2).toNat = npos m ord (x / 2).toNat := by omega
    rw [remap_even (by omega) (by omega) (by rw [e2]; exact List.mem_map_of_mem h2), e2, npos_new2 hIn ord (fun a ha => ha) _ h2]
theorem moved_new (hw : Wf m St) (h : Good m St rts ord) (h0 : ∀ a ∈ ord, ∀ x ∈ parts m a, 0 ≤ x) {a : Nat} (ha : a ∈ ord) : moved (out m ord) (ord.map (npos m ord)) (npos m ord a) = moved m ord a := by
  have hIn : In m ord := fun a ha => (hw.lay.mem a (h.sub a ha)).2.1
  obtain ⟨h1, h2⟩ := at_new hIn ha
  have h3 := h.cl a ha
  have h4 := h0 a ha
  unfold moved raw
  rw [h1]
  split
  · next hk => rw [h2, if_pos hk]
  · next hk =>
    rw [h2, if_neg hk]
    unfold parts at h3 h4
    rw [if_neg hk] at h3 h4
    congr 1
    rw [List.map_map]
    refine List.map_congr_left fun x hx => ?_
    exact remap_new hw h (h4 x hx) (h3 x hx)
theorem order_new (hw : Wf m St) (hr : ∀ x ∈ rts, Ok St x) (h0 : ∀ x ∈ m, 0 ≤ x) (h1 : ∀ x ∈ rts, 0 ≤ x) (e : ord = order m rts) : order (out m ord) (rts.map (remap m ord)) = ord.map (npos m ord) := by
  have h := order_good hw hr
  rw [← e] at h
  have hIn : In m ord := fun a ha => (hw.lay.mem a (h.sub a ha)).2.1
  have hp : ∀ a ∈ ord, ∀ x ∈ parts m a, 0 ≤ x := by
    intro a _ x hx
    unfold parts at hx
    split at hx
    · cases hx
    · exact h0 x (List.mem_of_mem_drop (List.mem_of_mem_take hx))
  unfold order
  obtain ⟨e1, s1⟩ := visits_new hw h rts [] (fun a ha => by cases ha) h1 h.rts
  rw [List.map_nil] at e1
  rw [e1, scan_new hw h hp _ _ _ s1]
  congr 1
  have h2 := len_le_total m ord
  have h3 := h.le
  have h4 := out_length hIn
  exact scan_fuel m ord (m.length + 1) _ 0 _ e.symm (by omega) (by omega)
theorem out_new (hw : Wf m St) (hr : ∀ x ∈ rts, Ok St x) (h0 : ∀ x ∈ m, 0 ≤ x) (e : ord = order m rts) : out (out m ord) (ord.map (npos m ord)) = out m ord := by
  have h := order_good hw hr
  rw [← e] at h
  have hp : ∀ a ∈ ord, ∀ x ∈ parts m a, 0 ≤ x := by
    intro a _ x hx
    unfold parts at hx
    split at hx
    · cases hx
    · exact h0 x (List.mem_of_mem_drop (List.mem_of_mem_take hx))
  show ((ord.map (npos m ord)).map (moved (out m ord) (ord.map (npos m ord)))).flatten = (ord.map (moved m ord)).flatten
  rw [List.map_map]
  congr 1
  exact List.map_congr_left fun a ha => moved_new hw h hp ha
theorem lay_new (hw : Wf m St) (hs : ∀ a ∈ ord, a ∈ St) : ∀ (l2 l1 : List Nat), ord = l1 ++ l2 → ord.Nodup → Lay (out m ord) (total m l1) (l2.map (npos m ord)) := by
  have hIn : In m ord := fun a ha => (hw.lay.mem a (hs a ha)).2.1
  intro l2
  induction l2 with
  | nil =>
    intro l1 e _
    refine Lay.nil ?_
    rw [out_length hIn, e, List.append_nil]
  | cons a l ih =>
    intro l1 e hn
    have ha : a ∈ ord := by rw [e]; simp
    have hnot : a ∉ l1 := by
      rw [e, List.nodup_append] at hn
      intro h1
      exact hn.2.2 a h1 a List.mem_cons_self rfl
    have hp : npos m ord a = total m l1 := by
      have e2 : ord = (l1 ++ [a]) ++ l := by rw [e]; simp
      rw [e2, npos_append (by simp), npos_new hnot]
    obtain ⟨_, h2, h3, h4, h5⟩ := hw.lay.mem a (hs a ha)
    have hg := (at_new hIn ha).1
    have hz := sz_new hIn ha
    have hlt := npos_lt (m := m) ha
    have hol := out_length hIn
    rw [List.map_cons, ← hp]
    refine Lay.cons (by rw [hz]; omega) (by rw [hg]; exact ⟨h3, h4⟩) (by rw [hg]; exact h5) ?_
    rw [hz, hp]
    have := ih (l1 ++ [a]) (by rw [e]; simp) hn
    rw [total_append] at this
    simpa [total] using this
theorem wf_new (hw : Wf m St) (h : Good m St rts ord) (h0 : ∀ x ∈ m, 0 ≤ x) : Wf (out m ord) (ord.map (npos m ord)) := by
  have hIn : In m ord := fun a ha => (hw.lay.mem a (h.sub a ha)).2.1
  refine ⟨?_, ?_⟩
  · have := lay_new hw h.sub ord [] rfl h.nd
    simpa [total] using this
  · intro b hb x hx
    obtain ⟨a, ha, rfl⟩ := List.mem_map.1 hb
    rw [parts_new hIn ha] at hx
    obtain ⟨y, hy, rfl⟩ := List.mem_map.1 hx
    have hy0 : 0 ≤ y := by
      unfold parts at hy
      split at hy
      · cases hy
      · exact h0 y (List.mem_of_mem_drop (List.mem_of_mem_take hy))
    rcases remap_ok h hy0 (h.cl a ha y hy) with ⟨h1, e⟩ | ⟨h1, h2, e⟩
    · rw [e]
      exact .inl h1
    · rw [e]
      exact .inr ⟨_, List.mem_map_of_mem h2, rfl⟩
theorem ok_new (h : Good m St rts ord) {x : Int} (h0 : 0 ≤ x) (hx : x ∈ rts) : Ok (ord.map (npos m ord)) (remap m ord x) := by
  rcases remap_ok h h0 (h.rts x hx) with ⟨h1, e⟩ | ⟨h1, h2, e⟩
  · rw [e]
    exact .inl h1
  · rw [e]
    exact .inr ⟨_, List.mem_map_of_mem h2, rfl⟩
end
end Go.Proofs.YtbpbhipjpjjcaaaDoor.Gc
