/- Clean rows of spans, in plain numbers: a row is clean if its spans have places, rise, and stand apart; two clean rows of the same places are the same. -/
set_option linter.unusedVariables false
set_option linter.unusedSimpArgs false
namespace Go.Proofs.Ytiiljkinekjkbaa.Clean

abbrev Sp := Nat × Nat
def has (s : Sp) (p : Nat) : Bool := decide (s.1 ≤ p) && decide (p < s.1 + s.2)
def cov (l : List Sp) (p : Nat) : Bool := l.any (fun s => has s p)
theorem has_iff (s : Sp) (p : Nat) : has s p = true ↔ s.1 ≤ p ∧ p < s.1 + s.2 := by unfold has; simp
theorem cov_iff (l : List Sp) (p : Nat) : cov l p = true ↔ ∃ s ∈ l, s.1 ≤ p ∧ p < s.1 + s.2 := by
  unfold cov; rw [List.any_eq_true]
  constructor
  · rintro ⟨s, hs, h⟩; exact ⟨s, hs, (has_iff s p).1 h⟩
  · rintro ⟨s, hs, h⟩; exact ⟨s, hs, (has_iff s p).2 h⟩
theorem cov_nil (p : Nat) : cov [] p = false := rfl
theorem cov_cons (s : Sp) (l : List Sp) (p : Nat) : cov (s :: l) p = (has s p || cov l p) := rfl
theorem cov_append (a b : List Sp) (p : Nat) : cov (a ++ b) p = (cov a p || cov b p) := by unfold cov; rw [List.any_append]
structure Cl (l : List Sp) : Prop where
  rise : l.Pairwise fun a b => a.1 + a.2 < b.1
  some : ∀ s ∈ l, 1 ≤ s.2
theorem cl_nil : Cl [] := ⟨List.Pairwise.nil, fun _ h => by cases h⟩
theorem Cl.tail {s : Sp} {l : List Sp} (h : Cl (s :: l)) : Cl l := ⟨(List.pairwise_cons.1 h.rise).2, fun t ht => h.some t (List.mem_cons_of_mem _ ht)⟩
theorem Cl.head {s : Sp} {l : List Sp} (h : Cl (s :: l)) : ∀ t ∈ l, s.1 + s.2 < t.1 := (List.pairwise_cons.1 h.rise).1
theorem Cl.low {s : Sp} {l : List Sp} (h : Cl (s :: l)) {p : Nat} (hp : cov (s :: l) p = true) : s.1 ≤ p := by
  obtain ⟨t, ht, h1, _⟩ := (cov_iff _ _).1 hp
  rcases List.mem_cons.1 ht with rfl | ht
  · exact h1
  · have := h.head t ht; omega
theorem Cl.first {s : Sp} {l : List Sp} (h : Cl (s :: l)) : cov (s :: l) s.1 = true :=
  (cov_iff _ _).2 ⟨s, List.mem_cons_self .., Nat.le_refl _, by have := h.some s (List.mem_cons_self ..); omega⟩
theorem Cl.gap {s : Sp} {l : List Sp} (h : Cl (s :: l)) : cov (s :: l) (s.1 + s.2) = false := by
  cases hc : cov (s :: l) (s.1 + s.2) with
  | false => rfl
  | true =>
    obtain ⟨t, ht, h1, h2⟩ := (cov_iff _ _).1 hc
    rcases List.mem_cons.1 ht with rfl | ht
    · omega
    · have := h.head t ht; omega
theorem Cl.cov_tail {s : Sp} {l : List Sp} (h : Cl (s :: l)) (p : Nat) : cov l p = (cov (s :: l) p && !has s p) := by
  rw [cov_cons]
  cases hs : has s p with
  | false => simp
  | true =>
    simp only [Bool.true_or, Bool.not_true, Bool.and_false]
    cases hc : cov l p with
    | false => rfl
    | true =>
      obtain ⟨t, ht, h1, h2⟩ := (cov_iff _ _).1 hc
      have := h.head t ht; have := (has_iff s p).1 hs; omega
theorem cl_unique : ∀ (a b : List Sp), Cl a → Cl b → (∀ p, cov a p = cov b p) → a = b
  | [], [], _, _, _ => rfl
  | [], t :: b, _, hb, h => by have := hb.first; rw [← h] at this; cases this
  | s :: a, [], ha, _, h => by have := ha.first; rw [h] at this; cases this
  | s :: a, t :: b, ha, hb, h => by
    have h1 : s.1 = t.1 := Nat.le_antisymm (ha.low (by rw [h]; exact hb.first)) (hb.low (by rw [← h]; exact ha.first))
    have h2 : s.2 = t.2 := by
      have ga := ha.gap; have gb := hb.gap
      rw [h] at ga; rw [← h] at gb
      rcases Nat.lt_trichotomy s.2 t.2 with e | e | e
      · rw [cov_cons, (has_iff t _).2 ⟨by omega, by omega⟩] at ga; cases ga
      · exact e
      · rw [cov_cons, (has_iff s _).2 ⟨by omega, by omega⟩] at gb; cases gb
    have e : s = t := Prod.ext h1 h2
    subst e
    rw [cl_unique a b ha.tail hb.tail fun p => by rw [ha.cov_tail, hb.cov_tail, h]]
/-- One more span onto the last one, or behind it. -/
def around (a b : Sp) : Sp := (min a.1 b.1, max (a.1 + a.2) (b.1 + b.2) - min a.1 b.1)
def mg (c : Sp) : List Sp → List Sp
  | [] => [c]
  | s :: r => if s.1 ≤ c.1 + c.2 then mg (around c s) r else c :: mg s r
theorem mg_spec : ∀ (r : List Sp) (c : Sp), 1 ≤ c.2 → (c :: r).Pairwise (fun a b => a.1 ≤ b.1) → (∀ s ∈ r, 1 ≤ s.2) →
    Cl (mg c r) ∧ (∀ p, cov (mg c r) p = cov (c :: r) p) ∧ ∀ s ∈ mg c r, c.1 ≤ s.1
  | [], c, hc, _, _ => ⟨⟨List.pairwise_singleton _ _, fun s hs => by rw [List.mem_singleton.1 hs]; exact hc⟩, fun _ => rfl, fun s hs => by rw [List.mem_singleton.1 hs]; exact Nat.le_refl _⟩
  | s :: r, c, hc, hp, hs => by
    rw [List.pairwise_cons] at hp
    have hcs : c.1 ≤ s.1 := hp.1 s (List.mem_cons_self ..)
    have hr := (List.pairwise_cons.1 hp.2)
    have h1 := hs s (List.mem_cons_self ..)
    unfold mg
    by_cases hle : s.1 ≤ c.1 + c.2
    · rw [if_pos hle]
      have ha : around c s = (c.1, max (c.1 + c.2) (s.1 + s.2) - c.1) := by unfold around; rw [Nat.min_eq_left hcs]
      obtain ⟨k1, k2, k3⟩ := mg_spec r (around c s) (by rw [ha]; show 1 ≤ max (c.1 + c.2) (s.1 + s.2) - c.1; omega) (by
        rw [List.pairwise_cons, ha]; exact ⟨fun t ht => Nat.le_trans hcs (hr.1 t ht), hr.2⟩) (fun t ht => hs t (List.mem_cons_of_mem _ ht))
      refine ⟨k1, fun p => ?_, fun t ht => by have := k3 t ht; rw [ha] at this; exact this⟩
      rw [k2, cov_cons, cov_cons, cov_cons, ← Bool.or_assoc]
      congr 1
      rw [ha, Bool.eq_iff_iff, Bool.or_eq_true, has_iff, has_iff, has_iff]
      show c.1 ≤ p ∧ p < c.1 + (max (c.1 + c.2) (s.1 + s.2) - c.1) ↔ _
      omega
    · rw [if_neg hle]
      obtain ⟨k1, k2, k3⟩ := mg_spec r s h1 hp.2 (fun t ht => hs t (List.mem_cons_of_mem _ ht))
      refine ⟨⟨List.pairwise_cons.2 ⟨fun t ht => by have := k3 t ht; omega, k1.rise⟩, fun t ht => ?_⟩, fun p => ?_, fun t ht => ?_⟩
      · rcases List.mem_cons.1 ht with rfl | ht
        · exact hc
        · exact k1.some t ht
      · rw [cov_cons, k2]; rfl
      · rcases List.mem_cons.1 ht with rfl | ht
        · exact Nat.le_refl _
        · exact Nat.le_trans hcs (k3 t ht)
def mgAll : List Sp → List Sp
  | [] => []
  | c :: r => mg c r
theorem mgAll_spec (l : List Sp) (hp : l.Pairwise (fun a b => a.1 ≤ b.1)) (hs : ∀ s ∈ l, 1 ≤ s.2) : Cl (mgAll l) ∧ ∀ p, cov (mgAll l) p = cov l p := by
  cases l with
  | nil => exact ⟨cl_nil, fun _ => rfl⟩
  | cons c r =>
    obtain ⟨k1, k2, _⟩ := mg_spec r c (hs c (List.mem_cons_self ..)) hp (fun s h => hs s (List.mem_cons_of_mem _ h))
    exact ⟨k1, k2⟩
theorem mg_le (M : Nat) : ∀ (r : List Sp) (c : Sp), c.1 + c.2 ≤ M → (∀ s ∈ r, s.1 + s.2 ≤ M) → ∀ t ∈ mg c r, t.1 + t.2 ≤ M
  | [], c, hc, _, t, ht => by rw [List.mem_singleton.1 ht]; exact hc
  | s :: r, c, hc, hs, t, ht => by
    unfold mg at ht
    have h1 := hs s (List.mem_cons_self ..)
    split at ht
    · exact mg_le M r _ (by unfold around; show min c.1 s.1 + (max (c.1 + c.2) (s.1 + s.2) - min c.1 s.1) ≤ M; omega) (fun u hu => hs u (List.mem_cons_of_mem _ hu)) t ht
    · rcases List.mem_cons.1 ht with rfl | ht
      · exact hc
      · exact mg_le M r s h1 (fun u hu => hs u (List.mem_cons_of_mem _ hu)) t ht
/-- The clean row of a row: there is just one. -/
theorem cov_perm {a b : List Sp} (h : a.Perm b) (p : Nat) : cov a p = cov b p := by
  rw [Bool.eq_iff_iff, cov_iff, cov_iff]
  exact ⟨fun ⟨s, hs, k⟩ => ⟨s, h.mem_iff.1 hs, k⟩, fun ⟨s, hs, k⟩ => ⟨s, h.mem_iff.2 hs, k⟩⟩
theorem cov_filter (l : List Sp) (p : Nat) : cov (l.filter fun s => decide (s.2 ≠ 0)) p = cov l p := by
  rw [Bool.eq_iff_iff, cov_iff, cov_iff]
  constructor
  · rintro ⟨s, hs, k⟩; exact ⟨s, (List.mem_filter.1 hs).1, k⟩
  · rintro ⟨s, hs, k⟩; exact ⟨s, List.mem_filter.2 ⟨hs, by simp; omega⟩, k⟩
theorem cov_reverse (l : List Sp) (p : Nat) : cov l.reverse p = cov l p := cov_perm (List.reverse_perm l) p
/-- The places, counted. -/
def cnt (N : Nat) (f : Nat → Bool) : Nat := (List.range N).countP f
theorem cnt_succ (N : Nat) (f : Nat → Bool) : cnt (N + 1) f = cnt N f + (if f N then 1 else 0) := by unfold cnt; rw [List.range_succ, List.countP_append, List.countP_singleton]
theorem cnt_or (N : Nat) (f g : Nat → Bool) (h : ∀ p, f p = true → g p = false) : cnt N (fun p => f p || g p) = cnt N f + cnt N g := by
  induction N with
  | zero => rfl
  | succ N ih =>
    rw [cnt_succ, cnt_succ, cnt_succ, ih]
    cases hf : f N
    · simp; omega
    · rw [h N hf]; simp; omega
theorem cnt_or_le (N : Nat) (f g : Nat → Bool) : cnt N (fun p => f p || g p) ≤ cnt N f + cnt N g := by
  induction N with
  | zero => exact Nat.le_refl _
  | succ N ih =>
    rw [cnt_succ, cnt_succ, cnt_succ]
    cases hf : f N <;> cases hg : g N <;> simp <;> omega
theorem cnt_mono (N : Nat) (f g : Nat → Bool) (h : ∀ p, f p = true → g p = true) : cnt N f ≤ cnt N g := by
  induction N with
  | zero => exact Nat.le_refl _
  | succ N ih =>
    rw [cnt_succ, cnt_succ]
    cases hf : f N
    · simp; omega
    · rw [h N hf]; simp; omega
theorem cnt_has (N : Nat) (s : Sp) (h : s.1 + s.2 ≤ N) : cnt N (has s) = s.2 := by
  have go : ∀ N, cnt N (has s) = min (s.1 + s.2) (max s.1 N) - s.1 := by
    intro N
    induction N with
    | zero => show 0 = _; omega
    | succ N ih =>
      rw [cnt_succ, ih]
      cases hh : has s N with
      | true => have := (has_iff s N).1 hh; simp; omega
      | false =>
        have : ¬ (s.1 ≤ N ∧ N < s.1 + s.2) := fun k => by rw [(has_iff s N).2 k] at hh; cases hh
        simp; omega
  rw [go]; omega
def total (l : List Sp) : Nat := (l.map (·.2)).sum
theorem cnt_nil (N : Nat) : cnt N (cov []) = 0 := by induction N with
  | zero => rfl
  | succ N ih => rw [cnt_succ, ih]; rfl
theorem cnt_cov_le (N : Nat) (l : List Sp) (h : ∀ s ∈ l, s.1 + s.2 ≤ N) : cnt N (cov l) ≤ total l := by
  induction l with
  | nil => rw [cnt_nil]; exact Nat.zero_le _
  | cons s l ih =>
    have h1 := ih fun t ht => h t (List.mem_cons_of_mem _ ht)
    have h2 := cnt_has N s (h s (List.mem_cons_self ..))
    have h3 := cnt_or_le N (has s) (cov l)
    have : total (s :: l) = s.2 + total l := by unfold total; rw [List.map_cons, List.sum_cons]
    have e : cnt N (cov (s :: l)) = cnt N (fun p => has s p || cov l p) := rfl
    omega
theorem cnt_clean (N : Nat) (l : List Sp) (hl : Cl l) (h : ∀ s ∈ l, s.1 + s.2 ≤ N) : cnt N (cov l) = total l := by
  induction l with
  | nil => rw [cnt_nil]; rfl
  | cons s l ih =>
    have h1 := ih hl.tail fun t ht => h t (List.mem_cons_of_mem _ ht)
    have h2 := cnt_has N s (h s (List.mem_cons_self ..))
    have h3 := cnt_or N (has s) (cov l) (fun p hp => by rw [hl.cov_tail, cov_cons, hp]; rfl)
    have : total (s :: l) = s.2 + total l := by unfold total; rw [List.map_cons, List.sum_cons]
    have e : cnt N (cov (s :: l)) = cnt N (fun p => has s p || cov l p) := rfl
    omega
theorem cnt_ext (N : Nat) (f g : Nat → Bool) (h : ∀ p, f p = g p) : cnt N f = cnt N g := by rw [show f = g from funext h]
/-- One more behind a row that is gone through. -/
theorem mg_snoc : ∀ (r : List Sp) (c s : Sp), ∃ init k, mg c r = init ++ [k] ∧ mg c (r ++ [s]) = if s.1 ≤ k.1 + k.2 then init ++ [around k s] else init ++ [k, s]
  | [], c, s => by
    refine ⟨[], c, rfl, ?_⟩
    show (if s.1 ≤ c.1 + c.2 then mg (around c s) [] else c :: mg s []) = _
    split <;> rfl
  | t :: r, c, s => by
    unfold mg
    by_cases h : t.1 ≤ c.1 + c.2
    · rw [if_pos h, List.cons_append]
      obtain ⟨init, k, h1, h2⟩ := mg_snoc r (around c t) s
      refine ⟨init, k, h1, ?_⟩
      show (if t.1 ≤ c.1 + c.2 then mg (around c t) (r ++ [s]) else _) = _
      rw [if_pos h, h2]
    · rw [if_neg h, List.cons_append]
      obtain ⟨init, k, h1, h2⟩ := mg_snoc r t s
      refine ⟨c :: init, k, by rw [h1]; rfl, ?_⟩
      show (if t.1 ≤ c.1 + c.2 then _ else c :: mg t (r ++ [s])) = _
      rw [if_neg h, h2]
      split <;> rfl
theorem mgAll_snoc (xs : List Sp) (hx : xs ≠ []) (s : Sp) : ∃ init k, mgAll xs = init ++ [k] ∧ mgAll (xs ++ [s]) = if s.1 ≤ k.1 + k.2 then init ++ [around k s] else init ++ [k, s] := by
  cases xs with
  | nil => exact absurd rfl hx
  | cons c r => exact mg_snoc r c s
theorem mg_len : ∀ (r : List Sp) (c : Sp), (mg c r).length ≤ r.length + 1
  | [], c => Nat.le_refl _
  | s :: r, c => by
    unfold mg
    split
    · have := mg_len r (around c s); simp only [List.length_cons]; omega
    · have := mg_len r s; simp only [List.length_cons]; omega
theorem mgAll_len (l : List Sp) : (mgAll l).length ≤ l.length := by
  cases l with
  | nil => exact Nat.le_refl _
  | cons c r => exact mg_len r c
theorem mgAll_le (M : Nat) (l : List Sp) (h : ∀ s ∈ l, s.1 + s.2 ≤ M) : ∀ t ∈ mgAll l, t.1 + t.2 ≤ M := by
  cases l with
  | nil => intro t ht; cases ht
  | cons c r => exact mg_le M r c (h c (List.mem_cons_self ..)) (fun s hs => h s (List.mem_cons_of_mem _ hs))
theorem mg_one : ∀ (r : List Sp) (c : Sp), 1 ≤ c.2 → (∀ s ∈ r, 1 ≤ s.2) → ∀ t ∈ mg c r, 1 ≤ t.2
  | [], c, hc, _, t, ht => by rw [List.mem_singleton.1 ht]; exact hc
  | s :: r, c, hc, hs, t, ht => by
    have h1 := hs s (List.mem_cons_self ..)
    unfold mg at ht
    split at ht
    · exact mg_one r _ (by unfold around; show 1 ≤ max (c.1 + c.2) (s.1 + s.2) - min c.1 s.1; omega) (fun u hu => hs u (List.mem_cons_of_mem _ hu)) t ht
    · rcases List.mem_cons.1 ht with rfl | ht
      · exact hc
      · exact mg_one r s h1 (fun u hu => hs u (List.mem_cons_of_mem _ hu)) t ht
theorem mgAll_one (l : List Sp) (h : ∀ s ∈ l, 1 ≤ s.2) : ∀ t ∈ mgAll l, 1 ≤ t.2 := by
  cases l with
  | nil => intro t ht; cases ht
  | cons c r => exact mg_one r c (h c (List.mem_cons_self ..)) (fun s hs => h s (List.mem_cons_of_mem _ hs))
def full (l : List Sp) : List Sp := l.filter fun s => decide (s.2 ≠ 0)
theorem full_one (l : List Sp) : ∀ s ∈ full l, 1 ≤ s.2 := fun s hs => by have := (List.mem_filter.1 hs).2; simp at this; omega
theorem full_le (M : Nat) (l : List Sp) (h : ∀ s ∈ l, s.1 + s.2 ≤ M) : ∀ s ∈ full l, s.1 + s.2 ≤ M := fun s hs => h s (List.mem_filter.1 hs).1
/-- The clean row. -/
def cleanF (l : List Sp) : List Sp := mgAll ((full l).mergeSort fun a b => decide (a.1 ≤ b.1))
theorem cleanF_of {l d : List Sp} (hp : d.Perm (full l)) (hs : d.Pairwise (fun a b => a.1 ≤ b.1)) : mgAll d = cleanF l := by
  have h1 : ((full l).mergeSort fun a b => decide (a.1 ≤ b.1)).Perm (full l) := List.mergeSort_perm _ _
  have h2 : ((full l).mergeSort fun a b => decide (a.1 ≤ b.1)).Pairwise (fun a b => a.1 ≤ b.1) := by
    have := List.pairwise_mergeSort (le := fun a b : Sp => decide (a.1 ≤ b.1)) (fun a b c h k => by simp at *; omega) (fun a b => by simp; omega) (full l)
    exact this.imp (fun h => by simpa using h)
  have a1 := mgAll_spec d hs (fun s h => full_one l s (hp.mem_iff.1 h))
  have a2 := mgAll_spec _ h2 (fun s h => full_one l s (h1.mem_iff.1 h))
  exact cl_unique _ _ a1.1 a2.1 fun p => by rw [a1.2, cov_perm hp]; exact ((a2.2 p).trans (cov_perm h1 p)).symm
theorem cleanF_spec (l : List Sp) : Cl (cleanF l) ∧ ∀ p, cov (cleanF l) p = cov l p := by
  have h1 : ((full l).mergeSort fun a b => decide (a.1 ≤ b.1)).Perm (full l) := List.mergeSort_perm _ _
  have h2 : ((full l).mergeSort fun a b => decide (a.1 ≤ b.1)).Pairwise (fun a b => a.1 ≤ b.1) := by
    have := List.pairwise_mergeSort (le := fun a b : Sp => decide (a.1 ≤ b.1)) (fun a b c h k => by simp at *; omega) (fun a b => by simp; omega) (full l)
    exact this.imp (fun h => by simpa using h)
  have a2 := mgAll_spec _ h2 (fun s h => full_one l s (h1.mem_iff.1 h))
  exact ⟨a2.1, fun p => by unfold cleanF; rw [a2.2, cov_perm h1]; exact cov_filter l p⟩
theorem cleanF_eq {a b : List Sp} (h : ∀ p, cov a p = cov b p) : cleanF a = cleanF b := cl_unique _ _ (cleanF_spec a).1 (cleanF_spec b).1 fun p => by rw [(cleanF_spec a).2, (cleanF_spec b).2, h]
theorem cleanF_cl {l : List Sp} (h : Cl l) : cleanF l = l := cl_unique _ _ (cleanF_spec l).1 h (cleanF_spec l).2
theorem cleanF_idem (l : List Sp) : cleanF (cleanF l) = cleanF l := cleanF_cl (cleanF_spec l).1
theorem cleanF_reverse (l : List Sp) : cleanF l.reverse = cleanF l := cleanF_eq fun p => cov_reverse l p
theorem cleanF_le (M : Nat) (l : List Sp) (h : ∀ s ∈ l, s.1 + s.2 ≤ M) : ∀ t ∈ cleanF l, t.1 + t.2 ≤ M :=
  mgAll_le M _ fun s hs => full_le M l h s ((List.mergeSort_perm _ _).mem_iff.1 hs)
theorem cleanF_len (l : List Sp) : (cleanF l).length ≤ l.length := by
  have := mgAll_len ((full l).mergeSort fun a b => decide (a.1 ≤ b.1))
  rw [List.length_mergeSort] at this
  exact Nat.le_trans this (List.length_filter_le _ _)
/-- How many places there are. -/
def size (l : List Sp) : Nat := total (cleanF l)
theorem size_cnt (N : Nat) (l : List Sp) (h : ∀ s ∈ l, s.1 + s.2 ≤ N) : size l = cnt N (cov l) := by
  unfold size
  rw [← cnt_clean N _ (cleanF_spec l).1 (cleanF_le N l h), cnt_ext N _ _ (cleanF_spec l).2]
theorem size_le (M : Nat) (l : List Sp) (h : ∀ s ∈ l, s.1 + s.2 ≤ M) : size l ≤ total l := by rw [size_cnt M l h]; exact cnt_cov_le M l h
theorem size_one (M : Nat) (l : List Sp) (h : ∀ s ∈ l, s.1 + s.2 ≤ M) (s : Sp) (hs : s ∈ l) : s.2 ≤ size l := by
  rw [size_cnt M l h, ← cnt_has M s (h s hs)]
  exact cnt_mono M _ _ fun p hp => (cov_iff _ _).2 ⟨s, hs, (has_iff s p).1 hp⟩
theorem size_snoc (M : Nat) (l : List Sp) (s : Sp) (h : ∀ t ∈ l, t.1 + t.2 ≤ M) (hs : s.1 + s.2 ≤ M) : size l ≤ size (l ++ [s]) ∧ size (l ++ [s]) ≤ size l + s.2 := by
  have h2 : ∀ t ∈ l ++ [s], t.1 + t.2 ≤ M := fun t ht => by
    rcases List.mem_append.1 ht with ht | ht
    · exact h t ht
    · rw [List.mem_singleton.1 ht]; exact hs
  rw [size_cnt M l h, size_cnt M _ h2, ← cnt_has M s hs]
  have e : ∀ p, cov (l ++ [s]) p = (cov l p || has s p) := fun p => by rw [cov_append]; unfold cov; simp
  rw [cnt_ext M _ _ e]
  exact ⟨cnt_mono M _ _ fun p hp => by rw [hp]; rfl, cnt_or_le M _ _⟩
end Go.Proofs.Ytiiljkinekjkbaa.Clean
