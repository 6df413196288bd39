/- How an argument of any plain type (numbers, bools, texts, slices, structs, nested) is opened: what it reads as, by its kind; its sizes; its bulk. -/
import Derived.Test.YtiiljkinekjkbaaRows
import Derived.Test.YtiiljkinekjkbaaWWords
import Derived.ProofKit
import Derived.SizedLaws
set_option linter.unusedVariables false
set_option linter.unusedSimpArgs false
namespace Go.Proofs.Ytiiljkinekjkbaa.Opn
open Go.Proofs.YtiiljkinekjkbaaW.PrintWords

theorem mapM_some {α β : Type} {f : α → Option β} : ∀ {l : List α} {ys : List β}, l.mapM f = some ys → ys.length = l.length ∧ ∀ i (h : i < l.length) (h2 : i < ys.length), f l[i] = some ys[i] := by
  intro l
  induction l with
  | nil => intro ys h; simp at h; subst h; exact ⟨rfl, fun i h => by cases h⟩
  | cons a l ih =>
    intro ys h
    rw [List.mapM_cons] at h
    simp only [Option.bind_eq_bind, Option.bind_eq_some_iff] at h
    obtain ⟨y, h1, ys', h2, h3⟩ := h
    simp at h3; subst h3
    obtain ⟨hl, hi⟩ := ih h2
    refine ⟨by simp [hl], fun i h h2 => ?_⟩
    cases i with
    | zero => exact h1
    | succ i => exact hi i (by simpa using h) (by simpa using h2)
theorem choose_list {α : Type} {n : Nat} {R : Nat → α → Prop} (h : ∀ i, i < n → ∃ x, R i x) : ∃ xs : List α, xs.length = n ∧ ∀ i (hi : i < xs.length), R i xs[i] := by
  induction n with
  | zero => exact ⟨[], rfl, fun i hi => by cases hi⟩
  | succ n ih =>
    obtain ⟨xs, hl, hx⟩ := ih (fun i hi => h i (by omega))
    obtain ⟨x, hx'⟩ := h n (by omega)
    refine ⟨xs ++ [x], by simp [hl], fun i hi => ?_⟩
    by_cases hin : i < xs.length
    · rw [List.getElem_append_left hin]; exact hx i hin
    · have : i = n := by simp [hl] at hi; omega
      subst this
      rw [List.getElem_append_right (by omega)]
      simpa [hl] using hx'

structure Opens {H : Type} (enc : TypeId × Value → H) (P : Program) (w : World) (t : TypeId) {α : Type} (K : Kd α) (G : α → Prop) (b : α → Nat) : Prop where
  sz : P.cellsOf t = K.sz
  open_ : ∀ fuel cs (d : DataW H) ps, DataW.trod enc P w 0 (fun _ => true) true fuel t cs = some (d, ps) → ∃ x, K.K w x cs ∧ ((∀ n ∈ d.weights P t, n ≤ reachBytes) → G x) ∧ b x ≤ Rows.uptoBulk d

section
variable {H : Type} {enc : TypeId × Value → H} {P : Program} {w : World}

theorem opens_int {t : TypeId} {k : IntKind} (hu : P.underlying t = some (.int k)) (hs : P.cellsOf t = 1) : Opens enc P w t (Kd.int k) (fun x => (Lit.int k x).wf = true) (fun _ => 1) := by
  refine ⟨hs, fun fuel cs d ps h => ?_⟩
  obtain ⟨n, rfl, hx, hw⟩ := DataW.trod_int hu h
  obtain ⟨rfl, rfl⟩ := Prod.mk.inj hx
  exact ⟨n, rfl, fun _ => hw, by simp [Rows.uptoBulk]⟩
theorem opens_bool {t : TypeId} (hu : P.underlying t = some .bool) (hs : P.cellsOf t = 1) : Opens enc P w t Kd.bool (fun _ => True) (fun _ => 1) := by
  refine ⟨hs, fun fuel cs d ps h => ?_⟩
  obtain ⟨b, rfl, hx⟩ := DataW.trod_bool hu h
  obtain ⟨rfl, rfl⟩ := Prod.mk.inj hx
  exact ⟨b, rfl, fun _ => trivial, by simp [Rows.uptoBulk]⟩
theorem opens_string {t : TypeId} (hu : P.underlying t = some .string) (hs : P.cellsOf t = 1) : Opens enc P w t Kd.string (fun x => x.size ≤ reachBytes) (fun x => x.size + 1) := by
  refine ⟨hs, fun fuel cs d ps h => ?_⟩
  obtain ⟨s, rfl, hx, _⟩ := DataW.trod_string hu h
  obtain ⟨rfl, rfl⟩ := Prod.mk.inj hx
  refine ⟨s, rfl, fun hw => ?_, ?_⟩
  · have := hw s.data.toList.length (by simp [DataW.weights])
    rw [Array.length_toList] at this; exact this
  · simp only [Rows.uptoBulk, Array.length_toList]; exact Nat.le_refl _
theorem bulk_all {α : Type} {b : α → Nat} : ∀ (xs : List α) (ds : List (DataW H)), xs.length = ds.length → (∀ i (h : i < xs.length) (h2 : i < ds.length), b xs[i] ≤ Rows.uptoBulk ds[i]) → (xs.map b).sum ≤ Rows.uptoBulkAll ds := by
  intro xs
  induction xs with
  | nil => intro ds hl _; simp
  | cons x xs ih =>
    intro ds hl h
    cases ds with
    | nil => cases hl
    | cons d ds =>
      have h0 := h 0 (by simp) (by simp)
      have h1 := ih ds (by simpa using hl) (fun i hi h2 => h (i + 1) (by simpa using hi) (by simpa using h2))
      simp only [List.map_cons, List.sum_cons, Rows.uptoBulkAll, List.getElem_cons_zero] at h0 ⊢
      omega
theorem weights_all {e : TypeId} {ds : List (DataW H)} {d : DataW H} (h : d ∈ ds) : ∀ n ∈ d.weights P e, n ∈ DataW.weightsAll P e ds := by
  induction ds with
  | nil => cases h
  | cons x ds ih =>
    intro n hn
    rw [DataW.weightsAll]
    rcases List.mem_cons.1 h with rfl | h
    · exact List.mem_append_left _ hn
    · exact List.mem_append_right _ (ih h n hn)
theorem opens_slice {t e : TypeId} {α : Type} {K : Kd α} {G : α → Prop} {b : α → Nat} (hu : P.underlying t = some (.slice e)) (hs : P.cellsOf t = 1) (ho : Opens enc P w e K G b) :
    Opens enc P w t (Kd.slice e K) (fun xs => xs.length * P.bytesOf e ≤ reachBytes ∧ ∀ x ∈ xs, G x) (fun xs => (xs.map b).sum + 1) := by
  refine ⟨hs, fun fuel cs d ps h => ?_⟩
  cases fuel with
  | zero => simp [DataW.trod] at h
  | succ fuel =>
    unfold DataW.trod at h
    rw [hu] at h
    split at h <;> try (simp_all; done)
    · rename_i h1
      simp at h
      obtain ⟨rfl, rfl⟩ := h
      refine ⟨[], ⟨none, 0, rfl, Nat.le_refl _, rfl, by simp, fun h => by simp at h⟩, fun _ => ⟨by simp, by simp⟩, by simp [Rows.uptoBulk]⟩
    · rename_i e' a len cap h1
      obtain rfl : e = e' := by simpa using h1
      dsimp only at h
      split at h
      · rename_i hc
        simp only [Option.bind_eq_some_iff, Option.map_eq_some_iff] at h
        obtain ⟨elems, he, rest, hr, h⟩ := h
        simp only [Prod.mk.injEq] at h
        obtain ⟨rfl, rfl⟩ := h
        obtain ⟨hl, hi⟩ := mapM_some he
        rw [List.length_range] at hl
        have hex : ∀ i, i < len → ∃ x, (∃ c, c.length = K.sz ∧ K.K w x c ∧ ∀ j u, c[j]? = some u → w.cell? (a.add (i * K.sz + j)) = some u) ∧ (∀ h2 : i < elems.length, ((∀ n ∈ (elems[i]).1.weights P e, n ≤ reachBytes) → G x) ∧ b x ≤ Rows.uptoBulk (elems[i]).1) := by
          intro i hilt
          have h2 : i < elems.length := by omega
          have hh := hi i (by simpa using hilt) h2
          rw [List.getElem_range] at hh
          simp only [Option.bind_eq_some_iff] at hh
          obtain ⟨c, hc1, hc2⟩ := hh
          obtain ⟨x, hx1, hx2, hx3⟩ := ho.open_ fuel c (elems[i]).1 (elems[i]).2 hc2
          refine ⟨x, ⟨c, K.K_len hx1, hx1, fun j u hju => ?_⟩, fun _ => ⟨hx2, hx3⟩⟩
          unfold World.cells? at hc1
          split at hc1
          · obtain ⟨hcl, hci⟩ := mapM_some hc1
            rw [List.length_range] at hcl
            have hj : j < c.length := (List.getElem?_eq_some_iff.1 hju).1
            have h5 := hci j (by simpa [← hcl] using hj) hj
            rw [List.getElem_range] at h5
            have h6 : c[j] = u := (List.getElem?_eq_some_iff.1 hju).2
            rw [h6, ho.sz] at h5
            rw [Addr.add_add] at h5
            exact h5
          · cases hc1
        obtain ⟨xs, hxl, hx⟩ := choose_list hex
        have hel : elems.length = xs.length := by omega
        refine ⟨xs, ⟨some a, cap, by rw [hxl], by omega, rfl, ?_, fun _ => ⟨a, rfl, fun j p hjp => ?_⟩⟩, fun hw => ⟨?_, fun x hxm => ?_⟩, ?_⟩
        · have := hc.2.2; unfold maxLen at this; omega
        · have hj : j < xs.length := (List.getElem?_eq_some_iff.1 hjp).1
          have hp : xs[j] = p := (List.getElem?_eq_some_iff.1 hjp).2
          rw [← hp]; exact (hx j hj).1
        · have h7 := hw ((((elems.map (·.1)).length) + (rest.map (·.1)).length) * P.bytesOf e) (by simp [DataW.weights, hu])
          refine Nat.le_trans (Nat.mul_le_mul_right _ ?_) h7
          simp only [List.length_map]; omega
        · obtain ⟨j, hj, rfl⟩ := List.getElem_of_mem hxm
          refine ((hx j hj).2 (by omega)).1 (fun n hn => hw n ?_)
          simp only [DataW.weights, hu]
          refine List.mem_cons_of_mem _ (List.mem_append_left _ (weights_all ?_ n hn))
          exact List.mem_map.2 ⟨elems[j]'(by omega), List.getElem_mem _, rfl⟩
        · have h8 := bulk_all (b := b) xs (elems.map (·.1)) (by simp [hel]) (fun i h h2 => by
            have := ((hx i h).2 (by simpa using h2)).2
            simpa using this)
          simp only [Rows.uptoBulk]
          omega
      · cases h

structure OpensF {H : Type} (enc : TypeId × Value → H) (P : Program) (w : World) (fs : List Field) (off : Nat) {α : Type} (K : Kd α) (G : α → Prop) (b : α → Nat) : Prop where
  open_ : ∀ fuel (cs : List Value) (xs : List (DataW H × List MemPlace)), fs.mapM (fun f => DataW.trod enc P w 0 (fun _ => true) true fuel f.type ((cs.drop f.offset).take (P.cellsOf f.type))) = some xs →
    ∃ x, K.K w x ((cs.drop off).take K.sz) ∧ ((∀ n ∈ DataW.weightsEach P (fs.map (·.type)) (xs.map (·.1)), n ≤ reachBytes) → G x) ∧ b x ≤ Rows.uptoBulkAll (xs.map (·.1))
theorem opensF_one {f : Field} {α : Type} {K : Kd α} {G : α → Prop} {b : α → Nat} (ho : Opens enc P w f.type K G b) : OpensF enc P w [f] f.offset K G b := by
  refine ⟨fun fuel cs xs h => ?_⟩
  rw [List.mapM_cons, List.mapM_nil] at h
  simp only [Option.bind_eq_bind, Option.bind_eq_some_iff] at h
  obtain ⟨y, h1, ys', h2, h3⟩ := h
  simp at h2 h3; subst h2; subst h3
  obtain ⟨x, hx1, hx2, hx3⟩ := ho.open_ fuel _ y.1 y.2 h1
  rw [ho.sz] at hx1
  refine ⟨x, hx1, fun hw => hx2 (fun n hn => hw n ?_), by simpa [Rows.uptoBulkAll] using hx3⟩
  simp [DataW.weightsEach, hn]
theorem opensF_cons {f : Field} {fs : List Field} {α β : Type} {K0 : Kd α} {G0 : α → Prop} {b0 : α → Nat} {K1 : Kd β} {G1 : β → Prop} {b1 : β → Nat} (ho : Opens enc P w f.type K0 G0 b0) {off : Nat} (hoff : off = f.offset + K0.sz) (hr : OpensF enc P w fs off K1 G1 b1) :
    OpensF enc P w (f :: fs) f.offset (Kd.pair K0 K1) (fun p => G0 p.1 ∧ G1 p.2) (fun p => b0 p.1 + b1 p.2) := by
  subst hoff
  refine ⟨fun fuel cs xs h => ?_⟩
  rw [List.mapM_cons] at h
  simp only [Option.bind_eq_bind, Option.bind_eq_some_iff] at h
  obtain ⟨y, h1, ys', h2, h3⟩ := h
  simp at h3; subst h3
  obtain ⟨x, hx1, hx2, hx3⟩ := ho.open_ fuel _ y.1 y.2 h1
  rw [ho.sz] at hx1
  obtain ⟨z, hz1, hz2, hz3⟩ := hr.open_ fuel cs ys' h2
  refine ⟨(x, z), ⟨_, _, ?_, hx1, hz1⟩, fun hw => ⟨hx2 (fun n hn => hw n ?_), hz2 (fun n hn => hw n ?_)⟩, ?_⟩
  · show List.take (K0.sz + K1.sz) _ = _
    rw [List.take_add, List.drop_drop]
  · simp only [List.map_cons, DataW.weightsEach]; exact List.mem_append_left _ hn
  · simp only [List.map_cons, DataW.weightsEach]; exact List.mem_append_right _ hn
  · simp only [List.map_cons, Rows.uptoBulkAll]; omega
theorem opens_struct {t : TypeId} {fs : Array Field} {α β : Type} {K : Kd α} {G : α → Prop} {b : α → Nat} (f : β → α) (g : α → β) (hfg : ∀ x, f (g x) = x) (hu : P.underlying t = some (.struct fs)) (hs : P.cellsOf t = K.sz) (hf : OpensF enc P w fs.toList 0 K G b) :
    Opens enc P w t (Kd.iso K f) (fun x => G (f x)) (fun x => b (f x) + 1) := by
  refine ⟨hs, fun fuel cs d ps h => ?_⟩
  cases fuel with
  | zero => simp [DataW.trod] at h
  | succ fuel =>
    unfold DataW.trod at h
    rw [hu] at h
    split at h <;> try (simp_all; done)
    rename_i fs' h1
    obtain rfl : fs = fs' := by simpa using h1
    split at h
    · rename_i hl
      simp only [Option.map_eq_some_iff] at h
      obtain ⟨xs, hx, h⟩ := h
      simp only [Prod.mk.injEq] at h
      obtain ⟨rfl, rfl⟩ := h
      obtain ⟨x, hx1, hx2, hx3⟩ := hf.open_ fuel _ xs hx
      rw [List.drop_zero, List.take_of_length_le (by omega)] at hx1
      refine ⟨g x, ?_, ?_, ?_⟩
      · show K.K w (f (g x)) _
        rw [hfg]; exact hx1
      · intro hw
        show G (f (g x))
        rw [hfg]
        refine hx2 (fun n hn => hw n ?_)
        simpa [DataW.weights, hu] using hn
      · show b (f (g x)) + 1 ≤ _
        rw [hfg]
        simp only [Rows.uptoBulk]
        omega
    · cases h
/-- An array of two whole numbers. -/
theorem opens_arr2 {t e : TypeId} {k : IntKind} (hu : P.underlying t = some (.array 2 e)) (hs : P.cellsOf t = 2) (he : P.underlying e = some (.int k)) (hse : P.cellsOf e = 1) :
    Opens enc P w t (Kd.pair (Kd.int k) (Kd.int k)) (fun p => (Lit.int k p.1).wf = true ∧ (Lit.int k p.2).wf = true) (fun _ => 3) := by
  refine ⟨hs, fun fuel cs d ps h => ?_⟩
  cases fuel with
  | zero => simp [DataW.trod] at h
  | succ fuel =>
    unfold DataW.trod at h
    rw [hu] at h
    split at h <;> try (simp_all; done)
    rename_i cs' x' cs2 n' e' h1
    obtain ⟨rfl, rfl⟩ : 2 = n' ∧ e = e' := by simpa using h1
    split at h
    · rename_i hl
      rw [hs] at hl
      simp only [Option.map_eq_some_iff] at h
      obtain ⟨xs, hx, h⟩ := h
      simp only [Prod.mk.injEq] at h
      obtain ⟨rfl, rfl⟩ := h
      rw [show List.range 2 = [0, 1] from rfl, List.mapM_cons, List.mapM_cons, List.mapM_nil] at hx
      simp only [Option.bind_eq_bind, Option.bind_eq_some_iff] at hx
      obtain ⟨y0, h0, r0, ⟨y1, h1', r1, h2, h3⟩, h4⟩ := hx
      simp at h2 h3 h4; subst h2; subst h3; subst h4
      rw [hse] at h0 h1'
      obtain ⟨n0, e0, hx0, hw0⟩ := DataW.trod_int he (x := (y0.1, y0.2)) h0
      obtain ⟨n1, e1, hx1, hw1⟩ := DataW.trod_int he (x := (y1.1, y1.2)) h1'
      match cs', hl with
      | [a, b], _ =>
        simp at e0 e1
        subst e0 e1
        exact ⟨(n0, n1), ⟨[_], [_], rfl, rfl, rfl⟩, fun _ => ⟨hw0, hw1⟩, by simp [Rows.uptoBulk, Rows.uptoBulkAll, (Prod.mk.inj hx0).1, (Prod.mk.inj hx1).1]⟩
    · cases h
theorem okWide_arr {r : Reach} {base : Nat} {v : Value} {t e : TypeId} {n : Nat} (ht : P.underlying t = some (.array n e)) (h : Value.okWide P w r base t v) : ∃ cs, v = .agg cs ∧ cs.size = P.cellsOf t := by
  simp only [Value.okWide, ht] at h
  obtain ⟨cs, h1, h2, _⟩ := h
  exact ⟨cs, h1, h2⟩
end
end Go.Proofs.Ytiiljkinekjkbaa.Opn
