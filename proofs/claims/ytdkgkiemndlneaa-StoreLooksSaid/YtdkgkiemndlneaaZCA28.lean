import Derived.Test.YtdkgkiemndlneaaRows
import Derived.Test.YtdkgkiemndlneaaZCA2
import Derived.ProofKit
import Derived.SizedLaws
import Derived.Test.YtdkgkiemndlneaaZCA27
import Derived.Test.YtdkgkiemndlneaaZCA25
import Derived.Test.YtdkgkiemndlneaaZCA26
set_option linter.unusedVariables false
set_option linter.unusedSimpArgs false
section
namespace Go.Proofs.Ytdkgkiemndlneaa.Opn
open Go.Proofs.YtdkgkiemndlneaaW.PrintWords
theorem mapM_some {α β : Type} {f : α → Option β} : ∀ {l : List α} {ys : List β}, l.mapM f = some ys → ys.length = l.length ∧ ∀ i (h : i < l.length) (h2 : i < ys.length), f l[i] = some ys[i] := by
  intro l
  induction l with
  | nil => intro ys h; simp at h; subst h; exact ⟨rfl, fun i h => by cases h⟩
  | cons a l ih =>
    intro ys h
    rw [List.mapM_cons] at h
    simp only [Option.bind_eq_bind, Option.bind_eq_some_iff] at h
    obtain ⟨y, h1, ys', h2, h3⟩ := h
    simp at h3; subst h3
    obtain ⟨hl, hi⟩ := ih h2
    refine ⟨by simp [hl], fun i h h2 => ?_⟩
    cases i with
    | zero => exact h1
    | succ i => exact hi i (by simpa using h) (by simpa using h2)
theorem choose_list {α : Type} {n : Nat} {R : Nat → α → Prop} (h : ∀ i, i < n → ∃ x, R i x) : ∃ xs : List α, xs.length = n ∧ ∀ i (hi : i < xs.length), R i xs[i] := by
  induction n with
  | zero => exact ⟨[], rfl, fun i hi => by cases hi⟩
  | succ n ih =>
    obtain ⟨xs, hl, hx⟩ := ih (fun i hi => h i (by omega))
    obtain ⟨x, hx'⟩ := h n (by omega)
    refine ⟨xs ++ [x], by simp [hl], fun i hi => ?_⟩
    by_cases hin : i < xs.length
    · rw [List.getElem_append_left hin]; exact hx i hin
    · have : i = n := by simp [hl] at hi; omega
      subst this
      rw [List.getElem_append_right (by omega)]
      simpa [hl] using hx'
structure Opens {H : Type} (enc : TypeId × Value → H) (P : Program) (w : World) (t : TypeId) {α : Type} (K : Kd α) (G : α → Prop) (b : α → Nat) : Prop where
  sz : P.cellsOf t = K.sz
  open_ : ∀ fuel cs (d : DataW H) ps, DataW.trod enc P w 0 (fun _ => true) true fuel t cs = some (d, ps) → ∃ x, K.K w x cs ∧ ((∀ n ∈ d.weights P t, n ≤ reachBytes) → G x) ∧ b x ≤ Rows.uptoBulk d
section
variable {H : Type} {enc : TypeId × Value → H} {P : Program} {w : World}
theorem opens_int {t : TypeId} {k : IntKind} (hu : P.underlying t = some (.int k)) (hs : P.cellsOf t = 1) : Opens enc P w t (Kd.int k) (fun x => (Lit.int k x).wf = true) (fun _ => 1) := by
  refine ⟨hs, fun fuel cs d ps h => ?_⟩
  obtain ⟨n, rfl, hx, hw⟩ := DataW.trod_int hu h
  obtain ⟨rfl, rfl⟩ := Prod.mk.inj hx
  exact ⟨n, rfl, fun _ => hw, by simp [Rows.uptoBulk]⟩
theorem opens_bool {t : TypeId} (hu : P.underlying t = some .bool) (hs : P.cellsOf t = 1) : Opens enc P w t Kd.bool (fun _ => True) (fun _ => 1) := by
  refine ⟨hs, fun fuel cs d ps h => ?_⟩
  obtain ⟨b, rfl, hx⟩ := DataW.trod_bool hu h
  obtain ⟨rfl, rfl⟩ := Prod.mk.inj hx
  exact ⟨b, rfl, fun _ => trivial, by simp [Rows.uptoBulk]⟩
theorem opens_string {t : TypeId} (hu : P.underlying t = some .string) (hs : P.cellsOf t = 1) : Opens enc P w t Kd.string (fun x => x.size ≤ reachBytes) (fun x => x.size + 1) := by
  refine ⟨hs, fun fuel cs d ps h => ?_⟩
  obtain ⟨s, rfl, hx, _⟩ := DataW.trod_string hu h
  obtain ⟨rfl, rfl⟩ := Prod.mk.inj hx
  refine ⟨s, rfl, fun hw => ?_, ?_⟩
  · have := hw s.data.toList.length (by simp [DataW.weights])
    rw [Array.length_toList] at this; exact this
  · simp only [Rows.uptoBulk, Array.length_toList]; exact Nat.le_refl _
theorem bulk_all {α : Type} {b : α → Nat} : ∀ (xs : List α) (ds : List (DataW H)), xs.length = ds.length → (∀ i (h : i < xs.length) (h2 : i < ds.length), b xs[i] ≤ Rows.uptoBulk ds[i]) → (xs.map b).sum ≤ Rows.uptoBulkAll ds := by
  intro xs
  induction xs with
  | nil => intro ds hl _; simp
  | cons x xs ih =>
    intro ds hl h
    cases ds with
    | nil => cases hl
    | cons d ds =>
      have h0 := h 0 (by simp) (by simp)
      have h1 := ih ds (by simpa using hl) (fun i hi h2 => h (i + 1) (by simpa using hi) (by simpa using h2))
      simp only [List.map_cons, List.sum_cons, Rows.uptoBulkAll, List.getElem_cons_zero] at h0 ⊢
      omega
theorem weights_all {e : TypeId} {ds : List (DataW H)} {d : DataW H} (h : d ∈ ds) : ∀ n ∈ d.weights P e, n ∈ DataW.weightsAll P e ds := by
  induction ds with
  | nil => cases h
  | cons x ds ih =>
    intro n hn
    rw [DataW.weightsAll]
    rcases List.mem_cons.1 h with rfl | h
    · exact List.mem_append_left _ hn
    · exact List.mem_append_right _ (ih h n hn)
theorem opens_slice {t e : TypeId} {α : Type} {K : Kd α} {G : α → Prop} {b : α → Nat} (hu : P.underlying t = some (.slice e)) (hs : P.cellsOf t = 1) (ho : Opens enc P w e K G b) :
    Opens enc P w t (Kd.slice e K) (fun xs => xs.length * P.bytesOf e ≤ reachBytes ∧ ∀ x ∈ xs, G x) (fun xs => (xs.map b).sum + 1) := by
  refine ⟨hs, fun fuel cs d ps h => ?_⟩
  cases fuel with
  | zero => simp [DataW.trod] at h
  | succ fuel =>
    unfold DataW.trod at h
    rw [hu] at h
    split at h <;> try (simp_all; done)
    · rename_i h1
      simp at h
      obtain ⟨rfl, rfl⟩ := h
      refine ⟨[], ⟨none, 0, rfl, Nat.le_refl _, rfl, by simp, fun h => by simp at h⟩, fun _ => ⟨by simp, by simp⟩, by simp [Rows.uptoBulk]⟩
    · rename_i e' a len cap h1
      obtain rfl : e = e' := by simpa using h1
      dsimp only at h
      split at h
      · rename_i hc
        simp only [Option.bind_eq_some_iff, Option.map_eq_some_iff] at h
        obtain ⟨elems, he, rest, hr, h⟩ := h
        simp only [Prod.mk.injEq] at h
        obtain ⟨rfl, rfl⟩ := h
        obtain ⟨hl, hi⟩ := mapM_some he
        rw [List.length_range] at hl
        have hex : ∀ i, i < len → ∃ x, (∃ c, c.length = K.sz ∧ K.K w x c ∧ ∀ j u, c[j]? = some u → w.cell? (a.add (i * K.sz + j)) = some u) ∧ (∀ h2 : i < elems.length, ((∀ n ∈ (elems[i]).1.weights P e, n ≤ reachBytes) → G x) ∧ b x ≤ Rows.uptoBulk (elems[i]).1) := by
          intro i hilt
          have h2 : i < elems.length := by omega
          have hh := hi i (by simpa using hilt) h2
          rw [List.getElem_range] at hh
          simp only [Option.bind_eq_some_iff] at hh
          obtain ⟨c, hc1, hc2⟩ := hh
          obtain ⟨x, hx1, hx2, hx3⟩ := ho.open_ fuel c (elems[i]).1 (elems[i]).2 hc2
          refine ⟨x, ⟨c, K.K_len hx1, hx1, fun j u hju => ?_⟩, fun _ => ⟨hx2, hx3⟩⟩
          unfold World.cells? at hc1
          split at hc1
          · obtain ⟨hcl, hci⟩ := mapM_some hc1
            rw [List.length_range] at hcl
            have hj : j < c.length := (List.getElem?_eq_some_iff.1 hju).1
            have h5 := hci j (by simpa [← hcl] using hj) hj
            rw [List.getElem_range] at h5
            have h6 : c[j] = u := (List.getElem?_eq_some_iff.1 hju).2
            rw [h6, ho.sz] at h5
            rw [Addr.add_add] at h5
            exact h5
          · cases hc1
        obtain ⟨xs, hxl, hx⟩ := choose_list hex
        have hel : elems.length = xs.length := by omega
        refine ⟨xs, ⟨some a, cap, by rw [hxl], by omega, rfl, ?_, fun _ => ⟨a, rfl, fun j p hjp => ?_⟩⟩, fun hw => ⟨?_, fun x hxm => ?_⟩, ?_⟩
        · have := hc.2.2; unfold maxLen at this; omega
        · have hj : j < xs.length := (List.getElem?_eq_some_iff.1 hjp).1
          have hp : xs[j] = p := (List.getElem?_eq_some_iff.1 hjp).2
          rw [← hp]; exact (hx j hj).1
        · have h7 := hw ((((elems.map (·.1)).length) + (rest.map (·.1)).length) * P.bytesOf e) (by simp [DataW.weights, hu])
          refine Nat.le_trans (Nat.mul_le_mul_right _ ?_) h7
          simp only [List.length_map]; omega
        · obtain ⟨j, hj, rfl⟩ := List.getElem_of_mem hxm
          refine ((hx j hj).2 (by omega)).1 (fun n hn => hw n ?_)
          simp only [DataW.weights, hu]
          refine List.mem_cons_of_mem _ (List.mem_append_left _ (weights_all ?_ n hn))
          exact List.mem_map.2 ⟨elems[j]'(by omega), List.getElem_mem _, rfl⟩
        · have h8 := bulk_all (b := b) xs (elems.map (·.1)) (by simp [hel]) (fun i h h2 => by
            have := ((hx i h).2 (by simpa using h2)).2
            simpa using this)
          simp only [Rows.uptoBulk]
          omega
      · cases h
structure OpensF {H : Type} (enc : TypeId × Value → H) (P : Program) (w : World) (fs : List Field) (off : Nat) {α : Type} (K : Kd α) (G : α → Prop) (b : α → Nat) : Prop where
  open_ : ∀ fuel (cs : List Value) (xs : List (DataW H × List MemPlace)), fs.mapM (fun f => DataW.trod enc P w 0 (fun _ => true) true fuel f.type ((cs.drop f.offset).take (P.cellsOf f.type))) = some xs →
    ∃ x, K.K w x ((cs.drop off).take K.sz) ∧ ((∀ n ∈ DataW.weightsEach P (fs.map (·.type)) (xs.map (·.1)), n ≤ reachBytes) → G x) ∧ b x ≤ Rows.uptoBulkAll (xs.map (·.1))
theorem opensF_one {f : Field} {α : Type} {K : Kd α} {G : α → Prop} {b : α → Nat} (ho : Opens enc P w f.type K G b) : OpensF enc P w [f] f.offset K G b := by
  refine ⟨fun fuel cs xs h => ?_⟩
  rw [List.mapM_cons, List.mapM_nil] at h
  simp only [Option.bind_eq_bind, Option.bind_eq_some_iff] at h
  obtain ⟨y, h1, ys', h2, h3⟩ := h
  simp at h2 h3; subst h2; subst h3
  obtain ⟨x, hx1, hx2, hx3⟩ := ho.open_ fuel _ y.1 y.2 h1
  rw [ho.sz] at hx1
  refine ⟨x, hx1, fun hw => hx2 (fun n hn => hw n ?_), by simpa [Rows.uptoBulkAll] using hx3⟩
  simp [DataW.weightsEach, hn]
theorem opensF_cons {f : Field} {fs : List Field} {α β : Type} {K0 : Kd α} {G0 : α → Prop} {b0 : α → Nat} {K1 : Kd β} {G1 : β → Prop} {b1 : β → Nat} (ho : Opens enc P w f.type K0 G0 b0) {off : Nat} (hoff : off = f.offset + K0.sz) (hr : OpensF enc P w fs off K1 G1 b1) :
    OpensF enc P w (f :: fs) f.offset (Kd.pair K0 K1) (fun p => G0 p.1 ∧ G1 p.2) (fun p => b0 p.1 + b1 p.2) := by
  subst hoff
  refine ⟨fun fuel cs xs h => ?_⟩
  rw [List.mapM_cons] at h
  simp only [Option.bind_eq_bind, Option.bind_eq_some_iff] at h
  obtain ⟨y, h1, ys', h2, h3⟩ := h
  simp at h3; subst h3
  obtain ⟨x, hx1, hx2, hx3⟩ := ho.open_ fuel _ y.1 y.2 h1
  rw [ho.sz] at hx1
  obtain ⟨z, hz1, hz2, hz3⟩ := hr.open_ fuel cs ys' h2
  refine ⟨(x, z), ⟨_, _, ?_, hx1, hz1⟩, fun hw => ⟨hx2 (fun n hn => hw n ?_), hz2 (fun n hn => hw n ?_)⟩, ?_⟩
  · show List.take (K0.sz + K1.sz) _ = _
    rw [List.take_add, List.drop_drop]
  · simp only [List.map_cons, DataW.weightsEach]; exact List.mem_append_left _ hn
  · simp only [List.map_cons, DataW.weightsEach]; exact List.mem_append_right _ hn
  · simp only [List.map_cons, Rows.uptoBulkAll]; omega
theorem opens_struct {t : TypeId} {fs : Array Field} {α β : Type} {K : Kd α} {G : α → Prop} {b : α → Nat} (f : β → α) (g : α → β) (hfg : ∀ x, f (g x) = x) (hu : P.underlying t = some (.struct fs)) (hs : P.cellsOf t = K.sz) (hf : OpensF enc P w fs.toList 0 K G b) :
    Opens enc P w t (Kd.iso K f) (fun x => G (f x)) (fun x => b (f x) + 1) := by
  refine ⟨hs, fun fuel cs d ps h => ?_⟩
  cases fuel with
  | zero => simp [DataW.trod] at h
  | succ fuel =>
    unfold DataW.trod at h
    rw [hu] at h
    split at h <;> try (simp_all; done)
    rename_i fs' h1
    obtain rfl : fs = fs' := by simpa using h1
    split at h
    · rename_i hl
      simp only [Option.map_eq_some_iff] at h
      obtain ⟨xs, hx, h⟩ := h
      simp only [Prod.mk.injEq] at h
      obtain ⟨rfl, rfl⟩ := h
      obtain ⟨x, hx1, hx2, hx3⟩ := hf.open_ fuel _ xs hx
      rw [List.drop_zero, List.take_of_length_le (by omega)] at hx1
      refine ⟨g x, ?_, ?_, ?_⟩
      · show K.K w (f (g x)) _
        rw [hfg]; exact hx1
      · intro hw
        show G (f (g x))
        rw [hfg]
        refine hx2 (fun n hn => hw n ?_)
        simpa [DataW.weights, hu] using hn
      · show b (f (g x)) + 1 ≤ _
        rw [hfg]
        simp only [Rows.uptoBulk]
        omega
    · cases h
end
end Go.Proofs.Ytdkgkiemndlneaa.Opn
end

section
namespace Go.Proofs.Ytdkgkiemndlneaa.Pure
open Go.RowKit Go.Proofs.Ytdkgkiemndlneaa.Q
def StoreLooksSt : Prop := ∀ (l0_0 : List (S55)) (l0_1 : List (S61)) (a0_2 : Int) (a1 : Int) (l2_0 : List (S55)) (l2_1 : List (S61)) (a2_2 : Int), (l0_0.length * 32 ≤ 140737488351232 ∧ ∀ y_ ∈ l0_0, ((Lit.int .i64 y_.f0).wf = true ∧ (y_.f1.length * 80 ≤ 140737488351232 ∧ ∀ y1_ ∈ y_.f1, ((Lit.int .i64 y1_.f0).wf = true ∧ True ∧ ((Lit.int .i64 y1_.f2.f0).wf = true ∧ (Lit.int .i64 y1_.f2.f1).wf = true ∧ (Lit.int .i64 y1_.f2.f2).wf = true ∧ y1_.f2.f3.size ≤ 140737488351232 ∧ (y1_.f2.f4.length * 24 ≤ 140737488351232 ∧ ∀ y2_ ∈ y1_.f2.f4, (y2_.f0.size ≤ 140737488351232 ∧ (Lit.int .i64 y2_.f1).wf = true))))))) → (l0_1.length * 16 ≤ 140737488351232 ∧ ∀ y_ ∈ l0_1, ((Lit.int .i64 y_.f0).wf = true ∧ (Lit.int .i64 y_.f1).wf = true)) → (Lit.int .i64 a0_2).wf = true → (Lit.int .i64 a1).wf = true → (l2_0.length * 32 ≤ 140737488351232 ∧ ∀ y_ ∈ l2_0, ((Lit.int .i64 y_.f0).wf = true ∧ (y_.f1.length * 80 ≤ 140737488351232 ∧ ∀ y1_ ∈ y_.f1, ((Lit.int .i64 y1_.f0).wf = true ∧ True ∧ ((Lit.int .i64 y1_.f2.f0).wf = true ∧ (Lit.int .i64 y1_.f2.f1).wf = true ∧ (Lit.int .i64 y1_.f2.f2).wf = true ∧ y1_.f2.f3.size ≤ 140737488351232 ∧ (y1_.f2.f4.length * 24 ≤ 140737488351232 ∧ ∀ y2_ ∈ y1_.f2.f4, (y2_.f0.size ≤ 140737488351232 ∧ (Lit.int .i64 y2_.f1).wf = true))))))) → (l2_1.length * 16 ≤ 140737488351232 ∧ ∀ y_ ∈ l2_1, ((Lit.int .i64 y_.f0).wf = true ∧ (Lit.int .i64 y_.f1).wf = true)) → (Lit.int .i64 a2_2).wf = true → ∃ k, Go.Proofs.Ytdkgkiemndlneaa.Q.copyholdlaw12_StoreLooks.f k l0_0 l0_1 a0_2 a1 l2_0 l2_1 a2_2 = some true
end Go.Proofs.Ytdkgkiemndlneaa.Pure
end

section
namespace Go.Proofs.Ytdkgkiemndlneaa.Pure
open Go.RowKit Go.Proofs.Ytdkgkiemndlneaa Go.Proofs.Ytdkgkiemndlneaa.Q Go.Proofs.YtdkgkiemndlneaaW.PrintWords Go.Proofs.YtdkgkiemndlneaaW.PrintLast Go.Proofs.YtdkgkiemndlneaaW.PrintMore Math Pl
abbrev V := S58
abbrev H := S55
abbrev C := S61
abbrev Nd := S38
theorem vsQ {β : Type} (a : Int) (b : Bool) (c d e : Int) (f : ByteArray) (g : List S91) (k : Int → Option β) : (store_versed.f a b c d e f g).bind k = k a := rfl
theorem csQ {β : Type} (a b : Int) (k : Int → Option β) : (store_counted.f a b).bind k = k a := rfl
def last? {α : Type} (p : α → Bool) : List α → Option α
  | [] => none
  | x :: r => match last? p r with | some y => some y | none => if p x then some x else none
theorem last_app {α : Type} (p : α → Bool) (x : α) : ∀ l, last? p (l ++ [x]) = if p x then some x else last? p l
  | [] => by simp [last?]
  | y :: r => by
    rw [List.cons_append, last?, last_app p x r, last?]
    by_cases h : p x = true
    · rw [if_pos h, if_pos h]
    · rw [if_neg h, if_neg h]
theorem last_take {α : Type} (p : α → Bool) (l : List α) (i : Nat) (h : i < l.length) : last? p (l.take (i + 1)) = if p l[i] then some l[i] else last? p (l.take i) := by
  rw [List.take_succ_eq_append_getElem h, last_app]
def At {α : Type} (p : α → Bool) (l : List α) (t : Int) : Prop := (t = -1 ∧ last? p l = none) ∨ ∃ (j : Nat) (h : j < l.length), t = (j : Int) ∧ last? p l = some l[j]
theorem at_V (l : List V) (st : Int) (hl : l.length ≤ 1000000) (k : Nat) (hk : l.length < k) : ∃ t, api_Ver.f k l st () = some t ∧ At (fun x => decide (x.f0 ≤ st)) l t := by
  have go : ∀ (n i k : Nat) (t : Int), i + n = l.length → n < k → ((t = -1 ∧ last? (fun x => decide (x.f0 ≤ st)) (l.take i) = none) ∨ ∃ (j : Nat) (h : j < l.length), t = (j : Int) ∧ last? (fun x => decide (x.f0 ≤ st)) (l.take i) = some l[j]) → ∃ t', api_Ver.l0 k st t l (l.length : Int) (i : Int) = some t' ∧ At (fun x => decide (x.f0 ≤ st)) l t' := by
    intro n
    induction n with
    | zero =>
      intro i k t hi hk ht; obtain ⟨k, rfl⟩ : ∃ j, k = j + 1 := ⟨k - 1, by omega⟩
      refine ⟨t, by rw [api_Ver.l0, if_neg (by omega)], ?_⟩
      rw [List.take_of_length_le (by omega)] at ht
      exact ht
    | succ n ih =>
      intro i k t hi hk ht; obtain ⟨k, rfl⟩ : ∃ j, k = j + 1 := ⟨k - 1, by omega⟩
      have h : i < l.length := by omega
      have hs := last_take (fun x : V => decide (x.f0 ≤ st)) l i h
      rw [api_Ver.l0, if_pos (by omega), if_pos (by omega), if_pos (by omega), rdV h, vsQ, w64 (by omega) (by omega), show (i : Int) + 1 = ((i + 1 : Nat) : Int) by omega]
      by_cases c : l[i].f0 ≤ st
      · rw [if_pos c]
        refine ih (i + 1) k i (by omega) (by omega) (.inr ⟨i, h, rfl, ?_⟩)
        rw [hs, decide_eq_true c, if_pos rfl]
      · rw [if_neg c]
        refine ih (i + 1) k t (by omega) (by omega) ?_
        rw [hs, decide_eq_false c, if_neg (by decide)]
        exact ht
  exact go l.length 0 k (-1) (by omega) hk (.inl ⟨rfl, rfl⟩)
theorem at_C (l : List C) (st : Int) (hl : l.length ≤ 1000000) (k : Nat) (hk : l.length < k) : ∃ t, api_Count.f k l st () = some t ∧ At (fun x => decide (x.f0 ≤ st)) l t := by
  have go : ∀ (n i k : Nat) (t : Int), i + n = l.length → n < k → ((t = -1 ∧ last? (fun x => decide (x.f0 ≤ st)) (l.take i) = none) ∨ ∃ (j : Nat) (h : j < l.length), t = (j : Int) ∧ last? (fun x => decide (x.f0 ≤ st)) (l.take i) = some l[j]) → ∃ t', api_Count.l0 k st t l (l.length : Int) (i : Int) = some t' ∧ At (fun x => decide (x.f0 ≤ st)) l t' := by
    intro n
    induction n with
    | zero =>
      intro i k t hi hk ht; obtain ⟨k, rfl⟩ : ∃ j, k = j + 1 := ⟨k - 1, by omega⟩
      refine ⟨t, by rw [api_Count.l0, if_neg (by omega)], ?_⟩
      rw [List.take_of_length_le (by omega)] at ht
      exact ht
    | succ n ih =>
      intro i k t hi hk ht; obtain ⟨k, rfl⟩ : ∃ j, k = j + 1 := ⟨k - 1, by omega⟩
      have h : i < l.length := by omega
      have hs := last_take (fun x : C => decide (x.f0 ≤ st)) l i h
      rw [api_Count.l0, if_pos (by omega), if_pos (by omega), if_pos (by omega), rdC h, csQ, w64 (by omega) (by omega), show (i : Int) + 1 = ((i + 1 : Nat) : Int) by omega]
      by_cases c : l[i].f0 ≤ st
      · rw [if_pos c]
        refine ih (i + 1) k i (by omega) (by omega) (.inr ⟨i, h, rfl, ?_⟩)
        rw [hs, decide_eq_true c, if_pos rfl]
      · rw [if_neg c]
        refine ih (i + 1) k t (by omega) (by omega) ?_
        rw [hs, decide_eq_false c, if_neg (by decide)]
        exact ht
  exact go l.length 0 k (-1) (by omega) hk (.inl ⟨rfl, rfl⟩)
theorem last_none {α : Type} (p : α → Bool) : ∀ l : List α, (∀ x ∈ l, p x = false) → last? p l = none
  | [], _ => rfl
  | x :: r, h => by rw [last?, last_none p r (fun y hy => h y (List.mem_cons_of_mem _ hy)), h x List.mem_cons_self]; rfl
theorem last_drop {α : Type} (p : α → Bool) (l : List α) (i : Nat) (h : ∀ x ∈ l.drop i, p x = false) : last? p l = last? p (l.take i) := by
  have : ∀ (a b : List α), (∀ x ∈ b, p x = false) → last? p (a ++ b) = last? p a := by
    intro a b hb
    induction a with
    | nil => rw [List.nil_append, last_none p b hb]; rfl
    | cons y a ih => rw [List.cons_append, last?, ih, last?]
  have h2 := this (l.take i) (l.drop i) h
  rw [List.take_append_drop] at h2
  exact h2
theorem seen_V (ino : Int) (l : List V) (st : Int) (hl : l.length ≤ 1000000) (k : Nat) (hk : l.length < k) : ∃ t, copyholdref12_seen.f k ino l st = some t ∧ At (fun x => decide (x.f0 ≤ st)) l t := by
  have go : ∀ (n k : Nat), n ≤ l.length → n < k → (∀ x ∈ l.drop n, decide (x.f0 ≤ st) = false) → ∃ t', copyholdref12_seen.l0 k st ((n : Int) - 1) ino l = some t' ∧ At (fun x => decide (x.f0 ≤ st)) l t' := by
    intro n
    induction n with
    | zero =>
      intro k _ hk hd; obtain ⟨k, rfl⟩ : ∃ j, k = j + 1 := ⟨k - 1, by omega⟩
      refine ⟨-1, by rw [copyholdref12_seen.l0, if_neg (by omega)]; rfl, .inl ⟨rfl, last_none _ l (by rw [List.drop_zero] at hd; exact hd)⟩⟩
    | succ n ih =>
      intro k hn hk hd; obtain ⟨k, rfl⟩ : ∃ j, k = j + 1 := ⟨k - 1, by omega⟩
      have h : n < l.length := by omega
      have e : ((n + 1 : Nat) : Int) - 1 = (n : Int) := by omega
      rw [copyholdref12_seen.l0, e, if_pos (by omega), if_pos (by omega), if_pos (by omega), rdV h, w64 (by omega) (by omega)]
      by_cases c : l[n].f0 > st
      · rw [if_pos c]
        refine ih k (by omega) (by omega) (fun x hx => ?_)
        rw [List.drop_eq_getElem_cons h] at hx
        rcases List.mem_cons.1 hx with rfl | hx
        · exact decide_eq_false (by omega)
        · exact hd x hx
      · rw [if_neg c]
        refine ⟨n, rfl, .inr ⟨n, h, rfl, ?_⟩⟩
        rw [last_drop _ l (n + 1) hd, last_take _ l n h, decide_eq_true (by omega), if_pos rfl]
  unfold copyholdref12_seen.f
  rw [w64 (by omega) (by omega)]
  exact go l.length k (Nat.le_refl _) hk (by rw [List.drop_length]; intro x hx; cases hx)
theorem next_C (l0 : List H) (l : List C) (a2 st : Int) (hl : l.length ≤ 1000000) (k : Nat) (hk : l.length < k) : ∃ t, copyholdref12_next.f k l0 l a2 st = some t ∧ At (fun x => decide (x.f0 ≤ st)) l t := by
  have go : ∀ (n k : Nat), n ≤ l.length → n < k → (∀ x ∈ l.drop n, decide (x.f0 ≤ st) = false) → ∃ t', copyholdref12_next.l0 k st ((n : Int) - 1) l0 l a2 = some t' ∧ At (fun x => decide (x.f0 ≤ st)) l t' := by
    intro n
    induction n with
    | zero =>
      intro k _ hk hd; obtain ⟨k, rfl⟩ : ∃ j, k = j + 1 := ⟨k - 1, by omega⟩
      refine ⟨-1, by rw [copyholdref12_next.l0, if_neg (by omega)]; rfl, .inl ⟨rfl, last_none _ l (by rw [List.drop_zero] at hd; exact hd)⟩⟩
    | succ n ih =>
      intro k hn hk hd; obtain ⟨k, rfl⟩ : ∃ j, k = j + 1 := ⟨k - 1, by omega⟩
      have h : n < l.length := by omega
      have e : ((n + 1 : Nat) : Int) - 1 = (n : Int) := by omega
      rw [copyholdref12_next.l0, e, if_pos (by omega), if_pos (by omega), if_pos (by omega), rdC h, w64 (by omega) (by omega)]
      by_cases c : l[n].f0 > st
      · rw [if_pos c]
        refine ih k (by omega) (by omega) (fun x hx => ?_)
        rw [List.drop_eq_getElem_cons h] at hx
        rcases List.mem_cons.1 hx with rfl | hx
        · exact decide_eq_false (by omega)
        · exact hd x hx
      · rw [if_neg c]
        refine ⟨n, rfl, .inr ⟨n, h, rfl, ?_⟩⟩
        rw [last_drop _ l (n + 1) hd, last_take _ l n h, decide_eq_true (by omega), if_pos rfl]
  unfold copyholdref12_next.f
  rw [w64 (by omega) (by omega)]
  exact go l.length k (Nat.le_refl _) hk (by rw [List.drop_length]; intro x hx; cases hx)
def seenN (st : Int) (c : H) : Option Nd := match last? (fun x : V => decide (x.f0 ≤ st)) c.f1 with | some v => if v.f1 = true then none else some v.f2 | none => none
def viewL (st : Int) (l0 : List H) : List Nd := l0.filterMap (seenN st)
def viewX (st : Int) (l1 : List C) : Int := match last? (fun x : C => decide (x.f0 ≤ st)) l1 with | some c => c.f1 | none => 1
def small (l0 : List H) (l1 : List C) : Prop := l0.length ≤ 10000 ∧ l1.length ≤ 10000 ∧ ∀ c ∈ l0, c.f1.length ≤ 10000 ∧ ∀ v ∈ c.f1, v.f2.f4.length ≤ 10000
theorem small_iff (l0 : List H) (l1 : List C) : smallS l0 l1 = true ↔ small l0 l1 := by
  unfold smallS small smallC
  simp only [Bool.and_eq_true, decide_eq_true_eq, List.all_eq_true]
theorem view_go (l0 : List H) (l1 : List C) (a2 st : Int) (hs : small l0 l1) (k : Nat) (hk : 40000 ≤ k) : store_View.f k l0 l1 a2 st = some (viewL st l0, viewX st l1) := by
  have go : ∀ (n i k : Nat) (acc : List Nd), i + n = l0.length → n + 20000 < k → acc.length ≤ i → store_View.l0 k st l0 (l0.length : Int) (i : Int) l0 l1 a2 acc 1 = some (acc ++ viewL st (l0.drop i), viewX st l1) := by
    intro n
    induction n with
    | zero =>
      intro i k acc hi hk ha; obtain ⟨k, rfl⟩ : ∃ j, k = j + 1 := ⟨k - 1, by omega⟩
      obtain ⟨t, ht, hat⟩ := at_C l1 st (by have := hs.2.1; omega) k (by have := hs.2.1; omega)
      rw [store_View.l0, if_neg (by omega), bs ht, List.drop_eq_nil_of_le (by omega)]
      unfold viewL viewX
      rw [List.filterMap_nil, List.append_nil]
      rcases hat with ⟨rfl, h⟩ | ⟨j, hj, rfl, h⟩
      · rw [if_neg (by omega), h]
      · rw [if_pos (by omega), if_pos (by omega), if_pos (by omega), rdC hj, h]
    | succ n ih =>
      intro i k acc hi hk ha; obtain ⟨k, rfl⟩ : ∃ j, k = j + 1 := ⟨k - 1, by omega⟩
      have h : i < l0.length := by omega
      have hc := hs.2.2 l0[i] (List.getElem_mem _)
      obtain ⟨t, ht, hat⟩ := at_V l0[i].f1 st (by have := hc.1; omega) k (by have := hc.1; omega)
      have IH := fun acc' ha' => ih (i + 1) k acc' (by omega) (by omega) ha'
      have e : viewL st (l0.drop i) = (seenN st l0[i]).toList ++ viewL st (l0.drop (i + 1)) := by
        unfold viewL
        rw [List.drop_eq_getElem_cons h, List.filterMap_cons]
        cases seenN st l0[i] <;> rfl
      rw [store_View.l0, if_pos (by omega), if_pos (by omega), if_pos (by omega), rdH h, bs ht, e, w64 (n := (i : Int) + 1) (by have := hs.1; omega) (by have := hs.1; omega), show (i : Int) + 1 = ((i + 1 : Nat) : Int) by omega]
      unfold seenN
      rcases hat with ⟨rfl, h2⟩ | ⟨j, hj, rfl, h2⟩
      · rw [if_neg (by omega), h2, IH acc (by omega)]; rfl
      · rw [if_pos (by omega), if_pos (by omega), if_pos (by omega), rdV hj, h2]
        dsimp only
        by_cases g : l0[i].f1[j].f1 = true
        · rw [if_pos g, if_pos g, IH acc (by omega)]; rfl
        · rw [if_neg g, if_neg g, if_pos (by have := hs.1; omega), IH _ (by rw [List.length_append]; show acc.length + 1 ≤ _; omega), Option.toList, List.append_assoc]
  unfold store_View.f
  have q := go l0.length 0 k [] (by omega) (by have := hs.1; omega) (Nat.le_refl _)
  rw [List.drop_zero, List.nil_append] at q
  exact q
theorem view_ref (l0 : List H) (l1 : List C) (a2 st : Int) (hs : small l0 l1) (k : Nat) (hk : 40000 ≤ k) : copyholdref12_View.f k l0 l1 a2 st = some (viewL st l0, viewX st l1) := by
  have go : ∀ (n i k : Nat) (acc : List Nd), i + n = l0.length → n + 20000 < k → acc.length ≤ i → copyholdref12_View.l0 k st (i : Int) l0 l1 a2 acc 1 = some (acc ++ viewL st (l0.drop i), viewX st l1) := by
    intro n
    induction n with
    | zero =>
      intro i k acc hi hk ha; obtain ⟨k, rfl⟩ : ∃ j, k = j + 1 := ⟨k - 1, by omega⟩
      obtain ⟨t, ht, hat⟩ := next_C l0 l1 a2 st (by have := hs.2.1; omega) k (by have := hs.2.1; omega)
      rw [copyholdref12_View.l0, if_neg (by omega), bs ht, List.drop_eq_nil_of_le (by omega)]
      unfold viewL viewX
      rw [List.filterMap_nil, List.append_nil]
      rcases hat with ⟨rfl, h⟩ | ⟨j, hj, rfl, h⟩
      · rw [if_neg (by omega), h]
      · rw [if_pos (by omega), if_pos (by omega), if_pos (by omega), rdC hj, h]
    | succ n ih =>
      intro i k acc hi hk ha; obtain ⟨k, rfl⟩ : ∃ j, k = j + 1 := ⟨k - 1, by omega⟩
      have h : i < l0.length := by omega
      have hc := hs.2.2 l0[i] (List.getElem_mem _)
      obtain ⟨t, ht, hat⟩ := seen_V l0[i].f0 l0[i].f1 st (by have := hc.1; omega) k (by have := hc.1; omega)
      have IH := fun acc' ha' => ih (i + 1) k acc' (by omega) (by omega) ha'
      have e : viewL st (l0.drop i) = (seenN st l0[i]).toList ++ viewL st (l0.drop (i + 1)) := by
        unfold viewL
        rw [List.drop_eq_getElem_cons h, List.filterMap_cons]
        cases seenN st l0[i] <;> rfl
      rw [copyholdref12_View.l0, if_pos (by omega), if_pos (by omega), rdH h, bs ht, e, w64 (n := (i : Int) + 1) (by have := hs.1; omega) (by have := hs.1; omega), show (i : Int) + 1 = ((i + 1 : Nat) : Int) by omega]
      unfold seenN
      rcases hat with ⟨rfl, h2⟩ | ⟨j, hj, rfl, h2⟩
      · rw [if_neg (by omega), h2, IH acc (by omega)]; rfl
      · rw [if_pos (by omega), if_pos (by omega), if_pos (by omega), rdV hj, h2]
        dsimp only
        by_cases g : l0[i].f1[j].f1 = true
        · rw [if_pos g, if_pos g, IH acc (by omega)]; rfl
        · rw [if_neg g, if_neg g, if_pos (by have := hs.1; omega), IH _ (by rw [List.length_append]; show acc.length + 1 ≤ _; omega), Option.toList, List.append_assoc]
  unfold copyholdref12_View.f
  have q := go l0.length 0 k [] (by omega) (by have := hs.1; omega) (Nat.le_refl _)
  rw [List.drop_zero, List.nil_append] at q
  exact q
end Go.Proofs.Ytdkgkiemndlneaa.Pure
end

section
namespace Go.Proofs.Ytdkgkiemndlneaa.Pure
open Go.RowKit Go.Proofs.Ytdkgkiemndlneaa Go.Proofs.Ytdkgkiemndlneaa.Q Go.Proofs.YtdkgkiemndlneaaW.PrintWords Go.Proofs.YtdkgkiemndlneaaW.PrintLast Go.Proofs.YtdkgkiemndlneaaW.PrintMore Math Pl
theorem riseGo_at (last : Int) : ∀ (p : Option Int) (l : List Int), riseGo last p l = true → (∀ x ∈ l, 1 ≤ x ∧ x ≤ last) ∧ (∀ q, p = some q → ∀ x ∈ l, q < x) ∧ l.Pairwise (· < ·)
  | _, [], _ => ⟨(fun x h => by cases h), (fun q _ x h => by cases h), List.Pairwise.nil⟩
  | p, y :: r, h => by
    rw [riseGo] at h
    simp only [Bool.and_eq_true, decide_eq_true_eq] at h
    obtain ⟨h1, h2, h3, h4⟩ := h
    obtain ⟨g1, g2, g3⟩ := riseGo_at last (some y) r h4
    refine ⟨fun x hx => ?_, fun q hq x hx => ?_, List.pairwise_cons.2 ⟨fun x hx => g2 y rfl x hx, g3⟩⟩
    · rcases List.mem_cons.1 hx with rfl | hx
      · exact ⟨h1, h2⟩
      · exact g1 x hx
    · subst hq
      have hqy : q < y := by simpa [okP] using h3
      rcases List.mem_cons.1 hx with rfl | hx
      · exact hqy
      · have := g2 y rfl x hx; omega
theorem riseF_at {l : List Int} {last : Int} (h : riseF l last = true) : 0 < l.length ∧ (∀ x ∈ l, 1 ≤ x ∧ x ≤ last) ∧ l.Pairwise (· < ·) := by
  unfold riseF at h
  rw [Bool.and_eq_true, decide_eq_true_eq] at h
  have := riseGo_at last none l h.1
  exact ⟨h.2, this.1, this.2.2⟩
theorem chainsGo_at (last : Int) : ∀ (p : Option Int) (l : List H), chainsGo last p l = true → (∀ c ∈ l, chainB c last = true) ∧ (∀ q, p = some q → ∀ c ∈ l, q < c.f0) ∧ l.Pairwise (fun a b => a.f0 < b.f0)
  | _, [], _ => ⟨(fun x h => by cases h), (fun q _ x h => by cases h), List.Pairwise.nil⟩
  | p, y :: r, h => by
    rw [chainsGo] at h
    simp only [Bool.and_eq_true] at h
    obtain ⟨h1, h2, h3⟩ := h
    obtain ⟨g1, g2, g3⟩ := chainsGo_at last (some y.f0) r h3
    refine ⟨fun x hx => ?_, fun q hq x hx => ?_, List.pairwise_cons.2 ⟨fun x hx => g2 y.f0 rfl x hx, g3⟩⟩
    · rcases List.mem_cons.1 hx with rfl | hx
      · exact h1
      · exact g1 x hx
    · subst hq
      have hqy : q < y.f0 := by simpa [okP] using h2
      rcases List.mem_cons.1 hx with rfl | hx
      · exact hqy
      · have := g2 y.f0 rfl x hx; omega
structure RightS (l0 : List H) (l1 : List C) (st : Int) : Prop where
  chains : ∀ c ∈ l0, 1 ≤ c.f0 ∧ riseF (c.f1.map fun v => v.f0) st = true ∧ ∀ v ∈ c.f1, ownB v c.f0 = true
  sorted : l0.Pairwise (fun a b => a.f0 < b.f0)
  stamp : 1 ≤ st
  nexts : ∀ c ∈ l1, 1 ≤ c.f1
  rise : riseF (l1.map fun c => c.f0) st = true
theorem rightS_of {l0 : List H} {l1 : List C} {st : Int} (h : storeR l0 l1 st = true) : RightS l0 l1 st := by
  unfold storeR at h
  simp only [Bool.and_eq_true, decide_eq_true_eq, Bool.not_eq_true', List.any_eq_false] at h
  obtain ⟨h1, h2, h3, h4⟩ := h
  have hc := chainsGo_at st none l0 h1
  refine ⟨fun c hm => ?_, hc.2.2, h2, fun c hm => by have := h3 c hm; omega, h4⟩
  have := hc.1 c hm
  unfold chainB at this
  simp only [Bool.and_eq_true, decide_eq_true_eq, List.all_eq_true] at this
  exact this
def changed (st : Int) (c : H) : Option Int := match c.f1.getLast? with | some v => if v.f0 > st then some c.f0 else none | none => none
def sinceP (st : Int) (l0 : List H) : List Int := l0.filterMap (changed st)
def sinceX (st : Int) (l1 : List C) : Bool := (l1.getLast?.map fun c => decide (c.f0 > st)).getD false
def sinceL (st : Int) (l0 : List H) (l1 : List C) : List Int := if (sinceP st l0).length > 0 ∨ sinceX st l1 = true then 0 :: sinceP st l0 else []
theorem getLast_at {α : Type} (l : List α) (h : 0 < l.length) : l.getLast? = some (l[l.length - 1]'(by omega)) := by
  rw [List.getLast?_eq_getElem?, List.getElem?_eq_getElem (by omega)]
theorem fm_len {α β : Type} (f : α → Option β) : ∀ l : List α, (l.filterMap f).length ≤ l.length
  | [] => Nat.le_refl _
  | x :: r => by
    rw [List.filterMap_cons]
    have := fm_len f r
    split <;> simp only [List.length_cons] <;> omega
theorem since_go (l0 : List H) (l1 : List C) (a2 st : Int) (hs : small l0 l1) (hn : ∀ c ∈ l0, 0 < c.f1.length) (hn1 : 0 < l1.length) (k : Nat) (hk : 40000 ≤ k) : store_Since.f k l0 l1 a2 st = some (sinceL st l0 l1) := by
  have go : ∀ (n i k : Nat) (acc : List Int), i + n = l0.length → n + 2 < k → acc.length ≤ i → store_Since.l0 k st acc l0 (l0.length : Int) (i : Int) l0 l1 a2 = some (if (acc ++ sinceP st (l0.drop i)).length > 0 ∨ sinceX st l1 = true then 0 :: (acc ++ sinceP st (l0.drop i)) else []) := by
    intro n
    induction n with
    | zero =>
      intro i k acc hi hk ha; obtain ⟨k, rfl⟩ : ∃ j, k = j + 1 := ⟨k - 1, by omega⟩
      rw [store_Since.l0, if_neg (by omega), List.drop_eq_nil_of_le (by omega)]
      unfold sinceP
      rw [List.filterMap_nil, List.append_nil]
      have hb : ∀ (g : List Int → Option (List Int)), (some (([0] : List Int) : List Int)).bind g = g [0] := fun g => rfl
      by_cases h : (acc.length : Int) > 0
      · rw [if_pos h, hb, if_pos (by have := hs.1; simp only [List.length_cons, List.length_nil]; omega), if_pos (.inl (by omega))]; rfl
      · have h0 : acc = [] := List.eq_nil_of_length_eq_zero (by omega)
        subst h0
        have hw : wrap64 ((l1.length : Int) - 1) = ((l1.length - 1 : Nat) : Int) := by rw [w64 (by have := hs.2.1; omega) (by have := hs.2.1; omega)]; omega
        have hX : sinceX st l1 = decide ((l1[l1.length - 1]'(by omega)).f0 > st) := by unfold sinceX; rw [getLast_at l1 hn1]; rfl
        rw [if_neg h, hw, if_pos (by omega), if_pos (by omega), rdC (by omega), hX]
        by_cases g : (l1[l1.length - 1]'(by omega)).f0 > st
        · rw [if_pos g, decide_eq_true g, if_pos (.inr rfl)]
          first | rfl | (rw [hb, if_pos (by decide)]; rfl)
        · rw [if_neg g, decide_eq_false g, if_neg (by simp)]
    | succ n ih =>
      intro i k acc hi hk ha; obtain ⟨k, rfl⟩ : ∃ j, k = j + 1 := ⟨k - 1, by omega⟩
      have h : i < l0.length := by omega
      have hc := hs.2.2 l0[i] (List.getElem_mem _)
      have hp := hn l0[i] (List.getElem_mem _)
      have hw : wrap64 ((l0[i].f1.length : Int) - 1) = ((l0[i].f1.length - 1 : Nat) : Int) := by rw [w64 (by have := hc.1; omega) (by have := hc.1; omega)]; omega
      have IH := fun acc' ha' => ih (i + 1) k acc' (by omega) (by omega) ha'
      have e : sinceP st (l0.drop i) = (changed st l0[i]).toList ++ sinceP st (l0.drop (i + 1)) := by
        unfold sinceP
        rw [List.drop_eq_getElem_cons h, List.filterMap_cons]
        cases changed st l0[i] <;> rfl
      have hC : changed st l0[i] = if (l0[i].f1[l0[i].f1.length - 1]'(by omega)).f0 > st then some l0[i].f0 else none := by unfold changed; rw [getLast_at _ hp]
      rw [store_Since.l0, if_pos (by omega), if_pos (by omega), if_pos (by omega), rdH h, hw, if_pos (by omega), if_pos (by omega), rdV (by omega), w64 (n := (i : Int) + 1) (by have := hs.1; omega) (by have := hs.1; omega), show (i : Int) + 1 = ((i + 1 : Nat) : Int) by omega, e, hC]
      by_cases g : (l0[i].f1[l0[i].f1.length - 1]'(by omega)).f0 > st
      · rw [if_pos g, if_pos g, if_pos (by have := hs.1; omega), IH _ (by rw [List.length_append]; show acc.length + 1 ≤ _; omega), Option.toList, List.append_assoc]
      · rw [if_neg g, if_neg g, IH acc (by omega), Option.toList, List.nil_append]
  unfold store_Since.f
  have q := go l0.length 0 k [] (by omega) (by have := hs.1; omega) (Nat.le_refl _)
  rw [List.drop_zero, List.nil_append] at q
  exact q
theorem rise_any {α : Type} (f : α → Int) (st : Int) : ∀ l : List α, (l.map f).Pairwise (· < ·) → (l.any fun x => decide (f x > st)) = (l.getLast?.map fun x => decide (f x > st)).getD false
  | [], _ => rfl
  | [x], _ => by rw [List.any_cons, List.any_nil, Bool.or_false]; rfl
  | x :: y :: r, h => by
    have h2 := (List.pairwise_cons.1 (show ((x :: y :: r).map f).Pairwise (· < ·) from h))
    have ih := rise_any f st (y :: r) h2.2
    rw [List.any_cons, ih, List.getLast?_cons_cons]
    by_cases g : f x > st
    · have hl := List.getLast?_eq_some_getLast (l := y :: r) (by simp)
      rw [hl]
      have hm := h2.1 (f ((y :: r).getLast (by simp))) (List.mem_map_of_mem (List.getLast_mem (by simp)))
      show (decide (f x > st) || decide (f ((y :: r).getLast _) > st)) = decide (f ((y :: r).getLast _) > st)
      rw [decide_eq_true (show f ((y :: r).getLast (by simp)) > st by omega), Bool.or_true]
    · rw [decide_eq_false g, Bool.false_or]
theorem since_aux (n k k' m : Nat) (h : (n + 1) * 20000 + 20000 < k + 1) (h2 : k' + m + 1 = k) (h3 : m ≤ 10000) : n * 20000 + 20000 < k' := by
  rw [Nat.succ_mul] at h
  generalize n * 20000 = a at *
  omega
set_option maxRecDepth 20000 in
theorem since_ref (l0 : List H) (l1 : List C) (a2 st : Int) (hs : small l0 l1) (hn : ∀ c ∈ l0, (c.f1.map fun v => v.f0).Pairwise (· < ·)) (hn1 : (l1.map fun c => c.f0).Pairwise (· < ·)) (k : Nat) (hk : 400000000 ≤ k) : copyholdref12_Since.f k l0 l1 a2 st = some (sinceL st l0 l1) := by
  have go2 : ∀ (n j k : Nat) (acc : List Int) (m : Bool), j + n = l1.length → n < k → copyholdref12_Since.l2 k st acc m (j : Int) l0 l1 a2 = some (if (m || (l1.drop j).any fun c => decide (c.f0 > st)) = true then acc else []) := by
    intro n
    induction n with
    | zero =>
      intro j k acc m hj hk; obtain ⟨k, rfl⟩ : ∃ i, k = i + 1 := ⟨k - 1, by omega⟩
      rw [copyholdref12_Since.l2, if_neg (by omega), List.drop_eq_nil_of_le (by omega), List.any_nil, Bool.or_false]
      cases m <;> rfl
    | succ n ih =>
      intro j k acc m hj hk; obtain ⟨k, rfl⟩ : ∃ i, k = i + 1 := ⟨k - 1, by omega⟩
      have h : j < l1.length := by omega
      have IH := fun m' => ih (j + 1) k acc m' (by omega) (by omega)
      rw [copyholdref12_Since.l2, if_pos (by omega), w64 (n := (j : Int) + 1) (by have := hs.2.1; omega) (by have := hs.2.1; omega), show (j : Int) + 1 = ((j + 1 : Nat) : Int) by omega, List.drop_eq_getElem_cons h, List.any_cons]
      cases m
      · rw [if_neg (by decide), if_pos (by omega), rdC h, IH, Bool.false_or]
      · rw [if_pos rfl, IH, Bool.true_or, Bool.true_or]
  have go1 : ∀ (n j i : Nat) (hi : i < l0.length) (k : Nat) (acc : List Int) (m late : Bool), j + n = l0[i].f1.length → n < k → ∃ k', k' + n + 1 = k ∧ copyholdref12_Since.l1 k st acc m (i : Int) late (j : Int) l0 l1 a2 = if (late || (l0[i].f1.drop j).any fun v => decide (v.f0 > st)) = true then (if acc.length < 17592186044416 then copyholdref12_Since.l0 k' st (acc ++ [l0[i].f0]) true ((i : Int) + 1) l0 l1 a2 else none) else copyholdref12_Since.l0 k' st acc m ((i : Int) + 1) l0 l1 a2 := by
    intro n
    induction n with
    | zero =>
      intro j i hi k acc m late hj hk; obtain ⟨k, rfl⟩ : ∃ i, k = i + 1 := ⟨k - 1, by omega⟩
      refine ⟨k, by omega, ?_⟩
      rw [copyholdref12_Since.l1, if_pos (by omega), if_pos (by omega), rdH hi, if_neg (by omega), List.drop_eq_nil_of_le (by omega), List.any_nil, Bool.or_false, w64 (n := (i : Int) + 1) (by have := hs.1; omega) (by have := hs.1; omega)]
    | succ n ih =>
      intro j i hi k acc m late hj hk; obtain ⟨k, rfl⟩ : ∃ i, k = i + 1 := ⟨k - 1, by omega⟩
      have h : j < l0[i].f1.length := by omega
      have hc := (hs.2.2 l0[i] (List.getElem_mem _)).1
      rw [copyholdref12_Since.l1, if_pos (by omega), if_pos (by omega), rdH hi, if_pos (by omega), w64 (n := (j : Int) + 1) (by omega) (by omega), show (j : Int) + 1 = ((j + 1 : Nat) : Int) by omega, List.drop_eq_getElem_cons h, List.any_cons]
      cases late
      · obtain ⟨k', hk', h'⟩ := ih (j + 1) i hi k acc m (decide (l0[i].f1[j].f0 > st)) (by omega) (by omega)
        refine ⟨k', by omega, ?_⟩
        rw [if_neg (by decide), if_pos (by omega), rdV h, h', Bool.false_or]
      · obtain ⟨k', hk', h'⟩ := ih (j + 1) i hi k acc m true (by omega) (by omega)
        refine ⟨k', by omega, ?_⟩
        rw [if_pos rfl, h', Bool.true_or, Bool.true_or]
  have go0 : ∀ (n i k : Nat) (acc : List Int) (m : Bool), i + n = l0.length → n * 20000 + 20000 < k → acc.length ≤ i + 1 → (m = true ↔ 1 < acc.length) → 1 ≤ acc.length → copyholdref12_Since.l0 k st acc m (i : Int) l0 l1 a2 = some (if (decide (1 < (acc ++ sinceP st (l0.drop i)).length) || l1.any fun c => decide (c.f0 > st)) = true then acc ++ sinceP st (l0.drop i) else []) := by
    intro n
    induction n with
    | zero =>
      intro i k acc m hi hk ha hm h1; obtain ⟨k, rfl⟩ : ∃ j, k = j + 1 := ⟨k - 1, by omega⟩
      have q := go2 l1.length 0 k acc m (by omega) (by have := hs.2.1; omega)
      rw [List.drop_zero] at q
      rw [copyholdref12_Since.l0, if_neg (by omega), show (0 : Int) = ((0 : Nat) : Int) from rfl, q, List.drop_eq_nil_of_le (by omega)]
      unfold sinceP
      rw [List.filterMap_nil, List.append_nil]
      have e : m = decide (1 < acc.length) := by
        by_cases g : 1 < acc.length
        · rw [decide_eq_true g]; exact hm.2 g
        · rw [decide_eq_false g]; exact Bool.eq_false_iff.2 (fun h => g (hm.1 h))
      rw [e]
    | succ n ih =>
      intro i k acc m hi hk ha hm h1; obtain ⟨k, rfl⟩ : ∃ j, k = j + 1 := ⟨k - 1, by omega⟩
      have h : i < l0.length := by omega
      have hc := (hs.2.2 l0[i] (List.getElem_mem _)).1
      obtain ⟨k', hk', h'⟩ := go1 l0[i].f1.length 0 i h k acc m false (by omega) (by omega)
      rw [copyholdref12_Since.l0, if_pos (by omega), show (0 : Int) = ((0 : Nat) : Int) from rfl, h', List.drop_zero, Bool.false_or, rise_any (fun v : V => v.f0) st _ (hn _ (List.getElem_mem _)), show (i : Int) + 1 = ((i + 1 : Nat) : Int) by omega]
      have e : sinceP st (l0.drop i) = (changed st l0[i]).toList ++ sinceP st (l0.drop (i + 1)) := by
        unfold sinceP
        rw [List.drop_eq_getElem_cons h, List.filterMap_cons]
        cases changed st l0[i] <;> rfl
      rw [e]
      unfold changed
      have hk2 : n * 20000 + 20000 < k' := since_aux n _ k' _ hk hk' hc
      cases hl : l0[i].f1.getLast? with
      | none =>
        show (if (false = true) then _ else _) = _
        rw [if_neg (by decide), ih (i + 1) k' acc m (by omega) hk2 (by omega) hm h1]; rfl
      | some v =>
        show (if (decide (v.f0 > st) = true) then _ else _) = _
        by_cases g : v.f0 > st
        · rw [decide_eq_true g, if_pos rfl, if_pos (by have := hs.1; omega), ih (i + 1) k' (acc ++ [l0[i].f0]) true (by omega) hk2 (by rw [List.length_append]; show acc.length + 1 ≤ _; omega) ⟨fun _ => by rw [List.length_append]; show 1 < acc.length + 1; omega, fun _ => rfl⟩ (by rw [List.length_append]; omega)]
          simp only [if_pos g, Option.toList, List.append_assoc, List.singleton_append]
        · rw [decide_eq_false g, if_neg (by decide), ih (i + 1) k' acc m (by omega) hk2 (by omega) hm h1]
          simp only [if_neg g, Option.toList, List.nil_append]
  unfold copyholdref12_Since.f
  have q := go0 l0.length 0 k [0] false (by omega) (by have := hs.1; omega) (by simp) (by simp) (by simp)
  rw [List.drop_zero] at q
  rw [show (0 : Int) = ((0 : Nat) : Int) from rfl] at q ⊢
  rw [q, show (l1.any fun c => decide (c.f0 > st)) = sinceX st l1 from rise_any (fun c : C => c.f0) st _ hn1]
  unfold sinceL
  refine congrArg some ?_
  by_cases g : (sinceP st l0).length > 0
  · rw [show (if (sinceP st l0).length > 0 ∨ sinceX st l1 = true then 0 :: sinceP st l0 else []) = 0 :: sinceP st l0 from if_pos (Or.inl g), decide_eq_true (show 1 < ([((0 : Nat) : Int)] ++ sinceP st l0).length by rw [List.length_append]; show 1 < 1 + _; omega), Bool.true_or, if_pos rfl]; rfl
  · rw [decide_eq_false (show ¬ 1 < ([((0 : Nat) : Int)] ++ sinceP st l0).length by rw [List.length_append]; show ¬ 1 < 1 + _; omega), Bool.false_or]
    by_cases x : sinceX st l1 = true
    · rw [if_pos x, if_pos (Or.inr x)]; rfl
    · rw [if_neg x, if_neg (fun h => h.elim g x)]
def manyN (l0 : List H) : Nat := (l0.map fun c => c.f1.length).sum
theorem many_drop (l0 : List H) (i : Nat) (h : i < l0.length) : manyN (l0.drop i) = l0[i].f1.length + manyN (l0.drop (i + 1)) := by
  unfold manyN; rw [List.drop_eq_getElem_cons h, List.map_cons, List.sum_cons]
theorem many_go (l0 : List H) (l1 : List C) (a2 : Int) (hs : small l0 l1) (k : Nat) (hk : 40000 ≤ k) : store_Many.f k l0 l1 a2 = some (manyN l0 : Int) := by
  have go : ∀ (n i k : Nat) (x : Nat), i + n = l0.length → n < k → x ≤ i * 10000 → store_Many.l0 k (x : Int) l0 (l0.length : Int) (i : Int) = some (((x + manyN (l0.drop i) : Nat)) : Int) := by
    intro n
    induction n with
    | zero =>
      intro i k x hi hk hx; obtain ⟨k, rfl⟩ : ∃ j, k = j + 1 := ⟨k - 1, by omega⟩
      rw [store_Many.l0, if_neg (by omega), List.drop_eq_nil_of_le (by omega)]; rfl
    | succ n ih =>
      intro i k x hi hk hx; obtain ⟨k, rfl⟩ : ∃ j, k = j + 1 := ⟨k - 1, by omega⟩
      have h : i < l0.length := by omega
      have hc := (hs.2.2 l0[i] (List.getElem_mem _)).1
      have h1 := hs.1
      rw [store_Many.l0, if_pos (by omega), if_pos (by omega), if_pos (by omega), rdH h, w64 (n := (x : Int) + _) (by omega) (by omega), w64 (n := (i : Int) + 1) (by omega) (by omega), show (x : Int) + (l0[i].f1.length : Int) = ((x + l0[i].f1.length : Nat) : Int) by omega, show (i : Int) + 1 = ((i + 1 : Nat) : Int) by omega, ih (i + 1) k _ (by omega) (by omega) (by omega), many_drop l0 i h]
      congr 2; omega
  have q := go l0.length 0 k 0 (by omega) (by have := hs.1; omega) (by omega)
  unfold store_Many.f
  rw [List.drop_zero, Nat.zero_add] at q
  exact q
theorem many_ref (l0 : List H) (l1 : List C) (a2 : Int) (hs : small l0 l1) (k : Nat) (hk : 40000 ≤ k) : copyholdref12_Many.f k l0 l1 a2 = some (manyN l0 : Int) := by
  have go : ∀ (n i k : Nat) (x : Nat), i + n = l0.length → n < k → x ≤ i * 10000 → copyholdref12_Many.l0 k (x : Int) (i : Int) l0 l1 a2 = some (((x + manyN (l0.drop i) : Nat)) : Int) := by
    intro n
    induction n with
    | zero =>
      intro i k x hi hk hx; obtain ⟨k, rfl⟩ : ∃ j, k = j + 1 := ⟨k - 1, by omega⟩
      rw [copyholdref12_Many.l0, if_neg (by omega), List.drop_eq_nil_of_le (by omega)]; rfl
    | succ n ih =>
      intro i k x hi hk hx; obtain ⟨k, rfl⟩ : ∃ j, k = j + 1 := ⟨k - 1, by omega⟩
      have h : i < l0.length := by omega
      have hc := (hs.2.2 l0[i] (List.getElem_mem _)).1
      have h1 := hs.1
      rw [copyholdref12_Many.l0, if_pos (by omega), if_pos (by omega), rdH h, w64 (n := (x : Int) + _) (by omega) (by omega), w64 (n := (i : Int) + 1) (by omega) (by omega), show (x : Int) + (l0[i].f1.length : Int) = ((x + l0[i].f1.length : Nat) : Int) by omega, show (i : Int) + 1 = ((i + 1 : Nat) : Int) by omega, ih (i + 1) k _ (by omega) (by omega) (by omega), many_drop l0 i h]
      congr 2; omega
  have q := go l0.length 0 k 0 (by omega) (by have := hs.1; omega) (by omega)
  unfold copyholdref12_Many.f
  rw [List.drop_zero, Nat.zero_add] at q
  exact q
end Go.Proofs.Ytdkgkiemndlneaa.Pure
end

section
namespace Go.Proofs.Ytdkgkiemndlneaa.Pure
open Go.RowKit Go.Proofs.Ytdkgkiemndlneaa Go.Proofs.Ytdkgkiemndlneaa.Q Go.Proofs.YtdkgkiemndlneaaW.PrintWords Go.Proofs.YtdkgkiemndlneaaW.PrintLast Go.Proofs.YtdkgkiemndlneaaW.PrintMore Math Pl
theorem rdN {l : List Nd} {i : Nat} (h : i < l.length) : rd_T38 l (i : Int) = l[i] := by unfold rd_T38; rw [Int.toNat_natCast]; simp [List.getD_eq_getElem?_getD, h]
theorem rdI {l : List Int} {i : Nat} (h : i < l.length) : rd l (i : Int) = l[i] := by unfold rd; rw [Int.toNat_natCast]; simp [List.getD_eq_getElem?_getD, h]
def sameFS (a b : List Nd × Int) : Bool := (a.2 == b.2) && eqL sameN a.1 b.1
theorem sameFS_iff (a b : List Nd × Int) : sameFS a b = true ↔ a = b := by
  unfold sameFS
  rw [Bool.and_eq_true, beq_iff_eq, eqL_iff sameN_iff]
  exact ⟨fun h => Prod.ext h.2 h.1, fun h => by rw [h]; exact ⟨rfl, rfl⟩⟩
theorem same_fs (a b : List Nd × Int) (hl : a.1.length ≤ 10000) (hs : ∀ n ∈ a.1, n.f4.length ≤ 10000) (k : Nat) (hk : 30000 ≤ k) : copyholdref08_Same.f k a.1 a.2 b.1 b.2 = some (sameFS a b) := by
  obtain ⟨k, rfl⟩ : ∃ j, k = j + 1 := ⟨k - 1, by omega⟩
  unfold copyholdref08_Same.f sameFS
  by_cases h2 : a.2 = b.2
  · rw [if_pos h2, beq_iff_eq.2 h2, Bool.true_and]
    by_cases h : a.1.length = b.1.length
    · have go : ∀ (n i k : Nat), i + n = a.1.length → n + 10000 < k → copyholdref08_Same.l0 k (i : Int) a.1 a.2 b.1 b.2 = some (eqL sameN (a.1.drop i) (b.1.drop i)) := by
        intro n
        induction n with
        | zero =>
          intro i k hi hk; obtain ⟨k, rfl⟩ : ∃ j, k = j + 1 := ⟨k - 1, by omega⟩
          rw [copyholdref08_Same.l0, if_neg (by omega), List.drop_eq_nil_of_le (by omega), List.drop_eq_nil_of_le (by omega)]; rfl
        | succ n ih =>
          intro i k hi hk; obtain ⟨k, rfl⟩ : ∃ j, k = j + 1 := ⟨k - 1, by omega⟩
          have ha : i < a.1.length := by omega
          have hb : i < b.1.length := by omega
          have hf := hs _ (List.getElem_mem ha)
          have IH := ih (i + 1) k (by omega) (by omega)
          rw [copyholdref08_Same.l0, if_pos (by omega), if_pos (by omega), if_pos (by omega), rdN ha, rdN hb, bs (ref_sameN a.1[i] b.1[i] (by omega) k (by omega)), List.drop_eq_getElem_cons ha, List.drop_eq_getElem_cons hb, eqL, w64 (n := (i : Int) + 1) (by omega) (by omega), show (i : Int) + 1 = ((i + 1 : Nat) : Int) by omega, IH]
          cases sameN a.1[i] b.1[i] <;> rfl
      rw [show ((a.1.length : Int) != (b.1.length : Int)) = false by rw [bne_eq_false_iff_eq]; omega, copyholdref08_Same.j0, if_neg (by decide), show (0 : Int) = ((0 : Nat) : Int) from rfl, go a.1.length 0 k (by omega) (by omega)]; rfl
    · rw [show ((a.1.length : Int) != (b.1.length : Int)) = true by rw [bne_iff_ne]; omega, copyholdref08_Same.j0, if_pos rfl, eqL_len _ _ h]
  · rw [if_neg h2, copyholdref08_Same.j0, if_pos rfl, beq_eq_false_iff_ne.2 h2]; rfl
theorem ints_eq (a b : List Int) (hl : a.length ≤ 100000) (k : Nat) (hk : 100001 ≤ k) : copyholdref11_Ints.f k a b = some (eqL (fun x y : Int => x == y) a b) := by
  unfold copyholdref11_Ints.f
  by_cases h : a.length = b.length
  · have go : ∀ (n i k : Nat), i + n = a.length → n < k → copyholdref11_Ints.l0 k a b (i : Int) = some (eqL (fun x y : Int => x == y) (a.drop i) (b.drop i)) := by
      intro n
      induction n with
      | zero =>
        intro i k hi hk; obtain ⟨k, rfl⟩ : ∃ j, k = j + 1 := ⟨k - 1, by omega⟩
        rw [copyholdref11_Ints.l0, if_neg (by omega), List.drop_eq_nil_of_le (by omega), List.drop_eq_nil_of_le (by omega)]; rfl
      | succ n ih =>
        intro i k hi hk; obtain ⟨k, rfl⟩ : ∃ j, k = j + 1 := ⟨k - 1, by omega⟩
        have ha : i < a.length := by omega
        have hb : i < b.length := by omega
        have IH := ih (i + 1) k (by omega) (by omega)
        rw [copyholdref11_Ints.l0, if_pos (by omega), if_pos (by omega), if_pos (by omega), rdI ha, rdI hb, List.drop_eq_getElem_cons ha, List.drop_eq_getElem_cons hb, eqL, w64 (n := (i : Int) + 1) (by omega) (by omega), show (i : Int) + 1 = ((i + 1 : Nat) : Int) by omega, IH]
        by_cases e : a[i] = b[i]
        · rw [if_pos e, beq_iff_eq.2 e, Bool.true_and]
        · rw [if_neg e, beq_eq_false_iff_ne.2 e, Bool.false_and]
    rw [if_pos (by omega), show (0 : Int) = ((0 : Nat) : Int) from rfl, go a.length 0 k (by omega) (by omega)]; rfl
  · rw [if_neg (by omega), eqL_len a b h]
theorem prev_chain (l0 : List H) (i : Nat) (h : i < l0.length) : prevOf (l0.map fun c => c.f0) (i + 1) = some l0[i].f0 := by
  simp only [prevOf]; rw [List.getElem?_eq_getElem (by rw [List.length_map]; exact h), List.getElem_map]
theorem prev_cnt (l1 : List C) (i : Nat) (h : i < l1.length) : prevOf (l1.map fun c => c.f0) (i + 1) = some l1[i].f0 := by
  simp only [prevOf]; rw [List.getElem?_eq_getElem (by rw [List.length_map]; exact h), List.getElem_map]
theorem ref_rightS (l0 : List H) (l1 : List C) (st : Int) (hs : small l0 l1) (k : Nat) (hk : 40000 ≤ k) : copyholdref12_Right.f k l0 l1 st = some (storeR l0 l1 st) := by
  obtain ⟨k, rfl⟩ : ∃ j, k = j + 1 := ⟨k - 1, by omega⟩
  have h1 := hs.1; have h2 := hs.2.1
  have go1 : ∀ (n i k : Nat), i + n = l1.length → n < k → copyholdref12_Right.l1 k (i : Int) l0 l1 st = some (riseGo st (prevOf (l1.map fun c => c.f0) i) ((l1.drop i).map fun c => c.f0) && !((l1.drop i).any fun c => decide (c.f1 < 1))) := by
    intro n
    induction n with
    | zero =>
      intro i k hi hk; obtain ⟨k, rfl⟩ : ∃ j, k = j + 1 := ⟨k - 1, by omega⟩
      rw [copyholdref12_Right.l1, if_neg (by omega), List.drop_eq_nil_of_le (by omega)]; rfl
    | succ n ih =>
      intro i k hi hk; obtain ⟨k, rfl⟩ : ∃ j, k = j + 1 := ⟨k - 1, by omega⟩
      have h : i < l1.length := by omega
      have IH := ih (i + 1) k (by omega) (by omega)
      rw [prev_cnt l1 i h] at IH
      rw [copyholdref12_Right.l1, if_pos (by omega), if_pos (by omega), rdC h, List.drop_eq_getElem_cons h, List.map_cons, riseGo, List.any_cons, w64 (n := (i : Int) + 1) (by omega) (by omega), show (i : Int) + 1 = ((i + 1 : Nat) : Int) by omega, IH]
      by_cases e1 : l1[i].f0 < 1
      · rw [if_pos e1, decide_eq_false (show ¬ 1 ≤ l1[i].f0 by omega)]; rfl
      · rw [if_neg e1, decide_eq_true (show 1 ≤ l1[i].f0 by omega), Bool.true_and]
        by_cases e2 : l1[i].f0 > st
        · rw [if_pos e2, decide_eq_false (show ¬ l1[i].f0 ≤ st by omega)]; rfl
        · rw [if_neg e2, decide_eq_true (show l1[i].f0 ≤ st by omega), Bool.true_and]
          by_cases e3 : l1[i].f1 < 1
          · rw [if_pos e3, decide_eq_true e3, Bool.true_or, Bool.not_true, Bool.and_false]
          · rw [if_neg e3, decide_eq_false e3, Bool.false_or]
            cases i with
            | zero => rw [if_neg (by omega)]; simp only [prevOf, okP, Bool.true_and]
            | succ j =>
              have hj : j < l1.length := by omega
              rw [if_pos (by omega), show wrap64 (((j + 1 : Nat) : Int) - 1) = (j : Int) by rw [w64 (by omega) (by omega)]; omega, if_pos (by omega), if_pos (by omega), rdC hj, prev_cnt l1 j hj, okP]
              by_cases e4 : l1[j].f0 ≥ l1[j + 1].f0
              · rw [if_pos e4, decide_eq_false (show ¬ l1[j].f0 < l1[j + 1].f0 by omega)]; rfl
              · rw [if_neg e4, decide_eq_true (show l1[j].f0 < l1[j + 1].f0 by omega), Bool.true_and]
  have go0 : ∀ (n i k : Nat), i + n = l0.length → n + 20000 < k → copyholdref12_Right.l0 k (i : Int) l0 l1 st = some (chainsGo st (prevOf (l0.map fun c => c.f0) i) (l0.drop i) && (riseGo st none (l1.map fun c => c.f0) && !(l1.any fun c => decide (c.f1 < 1)))) := by
    intro n
    induction n with
    | zero =>
      intro i k hi hk; obtain ⟨k, rfl⟩ : ∃ j, k = j + 1 := ⟨k - 1, by omega⟩
      have q := go1 l1.length 0 k (by omega) (by omega)
      rw [List.drop_zero] at q
      rw [copyholdref12_Right.l0, if_neg (by omega), List.drop_eq_nil_of_le (by omega), chainsGo, Bool.true_and, show (0 : Int) = ((0 : Nat) : Int) from rfl, q]; rfl
    | succ n ih =>
      intro i k hi hk; obtain ⟨k, rfl⟩ : ∃ j, k = j + 1 := ⟨k - 1, by omega⟩
      have h : i < l0.length := by omega
      have IH := ih (i + 1) k (by omega) (by omega)
      rw [prev_chain l0 i h] at IH
      have hc := hs.2.2 l0[i] (List.getElem_mem _)
      have hch : copyholdref12_chain.f l0[i].f0 l0[i].f1 st = some (chainB l0[i] st) := if_pos (by
        unfold smallC
        rw [Bool.and_eq_true, decide_eq_true_eq, List.all_eq_true]
        exact ⟨hc.1, fun v hv => decide_eq_true (hc.2 v hv)⟩)
      rw [copyholdref12_Right.l0, if_pos (by omega), if_pos (by omega), rdH h, bs hch, List.drop_eq_getElem_cons h, chainsGo, w64 (n := (i : Int) + 1) (by omega) (by omega), show (i : Int) + 1 = ((i + 1 : Nat) : Int) by omega, IH]
      cases chainB l0[i] st
      · rw [if_neg (by decide)]; rfl
      · rw [if_pos rfl, Bool.true_and]
        cases i with
        | zero => rw [if_neg (by omega)]; simp only [prevOf, okP, Bool.true_and]
        | succ j =>
          have hj : j < l0.length := by omega
          rw [if_pos (by omega), show wrap64 (((j + 1 : Nat) : Int) - 1) = (j : Int) by rw [w64 (by omega) (by omega)]; omega, if_pos (by omega), if_pos (by omega), rdH hj, prev_chain l0 j hj, okP]
          by_cases e4 : l0[j].f0 ≥ l0[j + 1].f0
          · rw [if_pos e4, decide_eq_false (show ¬ l0[j].f0 < l0[j + 1].f0 by omega)]; rfl
          · rw [if_neg e4, decide_eq_true (show l0[j].f0 < l0[j + 1].f0 by omega), Bool.true_and]
  unfold copyholdref12_Right.f storeR riseF
  rw [List.length_map]
  by_cases g1 : st < 1
  · rw [if_pos g1, copyholdref12_Right.j0, if_pos rfl, decide_eq_false (show ¬ 1 ≤ st by omega), Bool.false_and, Bool.and_false]
  · rw [if_neg g1, decide_eq_true (show 1 ≤ st by omega), Bool.true_and]
    by_cases g2 : (l1.length : Int) < 1
    · rw [decide_eq_true g2, copyholdref12_Right.j0, if_pos rfl, decide_eq_false (show ¬ 0 < l1.length by omega)]; simp
    · have q := go0 l0.length 0 k (by omega) (by omega)
      rw [List.drop_zero] at q
      rw [decide_eq_false g2, copyholdref12_Right.j0, if_neg (by decide), show (0 : Int) = ((0 : Nat) : Int) from rfl, q, decide_eq_true (show 0 < l1.length by omega), Bool.and_true, Bool.and_comm (riseGo st none _)]; rfl
theorem right_go (l0 : List H) (l1 : List C) (st : Int) (hs : small l0 l1) : store_Right.f l0 l1 st = some (storeR l0 l1 st) := if_pos ((small_iff l0 l1).2 hs)
def wv (l : List V) : Nat := (l.map fun v => v.f2.f4.length).sum
def wt (c : H) : Nat := c.f1.length + wv c.f1
def wts (l : List H) : Nat := (l.map wt).sum
theorem wts_cons (c : H) (l : List H) : wts (c :: l) = wt c + wts l := by unfold wts; rw [List.map_cons, List.sum_cons]
theorem wv_cons (v : V) (l : List V) : wv (v :: l) = v.f2.f4.length + wv l := by unfold wv; rw [List.map_cons, List.sum_cons]
structure Sized (l0 : List H) (l1 : List C) : Prop where
  a : l0.length ≤ 140737488351232
  b : l1.length ≤ 140737488351232
  c : ∀ c ∈ l0, c.f1.length ≤ 140737488351232 ∧ ∀ v ∈ c.f1, v.f2.f4.length ≤ 140737488351232
def rd1 (l : List V) : Nat := 2 * l.length + 2
def rds (l : List H) : Nat := (l.map fun c => rd1 c.f1 + 2).sum + 2
theorem rds_cons (c : H) (l : List H) : rds (c :: l) = rd1 c.f1 + 2 + rds l := by unfold rds; rw [List.map_cons, List.sum_cons]; omega
theorem few_inner (l0 : List H) (l1 : List C) (a2 : Int) (hz : Sized l0 l1) (i : Nat) (hi : i < l0.length) (out : ∀ (n k : Nat), n ≤ 140737488351232 + 400 → rds (l0.drop (i + 1)) < k → ∃ b, copyholdref12_Few.l0 k (n : Int) ((i : Int) + 1) l0 l1 a2 = some b ∧ (b = true → n + wts (l0.drop (i + 1)) ≤ 200)) :
    ∀ (m j n k : Nat), j + m = l0[i].f1.length → n ≤ 140737488351232 + 400 → rd1 (l0[i].f1.drop j) + rds (l0.drop (i + 1)) < k → ∃ b, copyholdref12_Few.l1 k (n : Int) (i : Int) (j : Int) l0 l1 a2 = some b ∧ (b = true → n + wv (l0[i].f1.drop j) + wts (l0.drop (i + 1)) ≤ 200) := by
  intro m
  induction m with
  | zero =>
    intro j n k hj hn hk
    rw [List.drop_eq_nil_of_le (by omega)] at hk ⊢
    obtain ⟨k, rfl⟩ : ∃ i, k = i + 2 := ⟨k - 2, by unfold rd1 at hk; omega⟩
    obtain ⟨b, h1, h2⟩ := out n k hn (by unfold rd1 at hk; simp only [List.length_nil] at hk; omega)
    refine ⟨b, ?_, fun hb => by have := h2 hb; show n + 0 + _ ≤ 200; omega⟩
    have ha := hz.a
    rw [copyholdref12_Few.l1, if_pos (by omega), if_pos (by omega), rdH hi, if_neg (by omega), copyholdref12_Few.j3, if_neg (by decide), w64 (by omega) (by omega), h1]
  | succ m ih =>
    intro j n k hj hn hk
    have hjl : j < l0[i].f1.length := by omega
    have hc := hz.c l0[i] (List.getElem_mem _)
    have hv := hc.2 l0[i].f1[j] (List.getElem_mem _)
    have hdl : (l0[i].f1.drop j).length = (l0[i].f1.drop (j + 1)).length + 1 := by rw [List.length_drop, List.length_drop]; omega
    obtain ⟨k, rfl⟩ : ∃ i, k = i + 2 := ⟨k - 2, by unfold rd1 at hk; omega⟩
    have ha := hz.a
    rw [copyholdref12_Few.l1, if_pos (by omega), if_pos (by omega), rdH hi, if_pos (by omega), copyholdref12_Few.j3]
    by_cases hN : (n : Int) ≤ 200
    · rw [decide_eq_true hN, if_pos rfl, if_pos (by omega), if_pos (by omega), if_pos (by omega), rdH hi, if_pos (by omega), rdV hjl]
      by_cases ht : (l0[i].f1[j].f2.f3.size : Int) > 4096
      · rw [if_pos ht]; exact ⟨false, rfl, fun h => by cases h⟩
      · rw [if_neg ht, w64 (n := (n : Int) + _) (by omega) (by omega), w64 (n := (j : Int) + 1) (by omega) (by omega), show (n : Int) + (l0[i].f1[j].f2.f4.length : Int) = ((n + l0[i].f1[j].f2.f4.length : Nat) : Int) by omega, show (j : Int) + 1 = ((j + 1 : Nat) : Int) by omega]
        obtain ⟨b, h1, h2⟩ := ih (j + 1) (n + l0[i].f1[j].f2.f4.length) k (by omega) (by omega) (by unfold rd1 at hk ⊢; omega)
        refine ⟨b, h1, fun hb => ?_⟩
        have := h2 hb
        rw [List.drop_eq_getElem_cons hjl, wv_cons]; omega
    · rw [decide_eq_false hN, if_neg (by decide), w64 (n := (i : Int) + 1) (by omega) (by omega)]
      obtain ⟨b, h1, h2⟩ := out n k hn (by unfold rd1 at hk; omega)
      exact ⟨b, h1, fun hb => by have := h2 hb; omega⟩
theorem few_go (l0 : List H) (l1 : List C) (a2 : Int) (hz : Sized l0 l1) : ∀ (m i n k : Nat), i + m = l0.length → n ≤ 281474976702464 + 400 → rds (l0.drop i) < k → (n ≤ 140737488351232 + 400 ∨ 200 < n) → ∃ b, copyholdref12_Few.l0 k (n : Int) (i : Int) l0 l1 a2 = some b ∧ (b = true → n + wts (l0.drop i) ≤ 200) := by
  intro m
  induction m with
  | zero =>
    intro i n k hi hn hk _
    obtain ⟨k, rfl⟩ : ∃ i, k = i + 2 := ⟨k - 2, by unfold rds at hk; omega⟩
    refine ⟨decide ((n : Int) ≤ 200), ?_, fun hb => ?_⟩
    · rw [copyholdref12_Few.l0, if_neg (by omega), copyholdref12_Few.j1, if_neg (by decide)]
    · have := of_decide_eq_true hb
      rw [List.drop_eq_nil_of_le (by omega)]
      show n + 0 ≤ 200; omega
  | succ m ih =>
    intro i n k hi hn hk hor
    have h : i < l0.length := by omega
    have hc := hz.c l0[i] (List.getElem_mem _)
    rw [List.drop_eq_getElem_cons h, rds_cons] at hk
    obtain ⟨k, rfl⟩ : ∃ i, k = i + 2 := ⟨k - 2, by omega⟩
    rw [copyholdref12_Few.l0, if_pos (by omega), copyholdref12_Few.j1]
    by_cases hN : (n : Int) ≤ 200
    · rw [decide_eq_true hN, if_pos rfl, if_pos (by omega), if_pos (by omega), rdH h, w64 (n := (n : Int) + _) (by omega) (by omega), show (n : Int) + (l0[i].f1.length : Int) = ((n + l0[i].f1.length : Nat) : Int) by omega]
      obtain ⟨b, h1, h2⟩ := few_inner l0 l1 a2 hz i h (fun n k hn hk => by
        have := ih (i + 1) n k (by omega) (by omega) hk (.inl hn)
        rwa [show ((i + 1 : Nat) : Int) = (i : Int) + 1 by omega] at this) l0[i].f1.length 0 (n + l0[i].f1.length) k (by omega) (by omega) (by rw [List.drop_zero]; omega)
      refine ⟨b, h1, fun hb => ?_⟩
      have := h2 hb
      rw [List.drop_zero] at this
      rw [List.drop_eq_getElem_cons h, wts_cons, wt]; omega
    · rw [decide_eq_false hN, if_neg (by decide)]
      exact ⟨false, rfl, fun h => by cases h⟩
theorem few_any (l0 : List H) (l1 : List C) (a2 : Int) (hz : Sized l0 l1) (k : Nat) (hk : rds l0 < k) : ∃ b, copyholdref12_Few.f k l0 l1 a2 = some b ∧ (b = true → l0.length + l1.length + wts l0 ≤ 200) := by
  have ha := hz.a; have hb := hz.b
  unfold copyholdref12_Few.f
  rw [w64 (by omega) (by omega), show (l0.length : Int) + (l1.length : Int) = ((l0.length + l1.length : Nat) : Int) by omega]
  exact few_go l0 l1 a2 hz l0.length 0 (l0.length + l1.length) k (by omega) (by omega) (by rw [List.drop_zero]; exact hk) (by omega)
theorem wts_mem : ∀ (l : List H) (c : H), c ∈ l → wt c ≤ wts l
  | d :: r, c, h => by
    rw [wts_cons]
    rcases List.mem_cons.1 h with rfl | h
    · omega
    · have := wts_mem r c h; omega
theorem wv_mem : ∀ (l : List V) (v : V), v ∈ l → v.f2.f4.length ≤ wv l
  | d :: r, c, h => by
    rw [wv_cons]
    rcases List.mem_cons.1 h with rfl | h
    · omega
    · have := wv_mem r c h; omega
theorem small_of (l0 : List H) (l1 : List C) (h : l0.length + l1.length + wts l0 ≤ 200) : small l0 l1 := by
  refine ⟨by omega, by omega, fun c hc => ?_⟩
  have h1 := wts_mem l0 c hc
  unfold wt at h1
  exact ⟨by omega, fun v hv => by have := wv_mem c.f1 v hv; omega⟩
theorem shown_eq (k : Nat) (hk : 40000 ≤ k) : copyholdlaw12_shown.f k = some true := by
  have hN : store_New.f = some ([⟨1, [⟨1, false, ⟨1, 2, 0, ⟨#[]⟩, []⟩⟩]⟩], [⟨1, 2⟩], 1) := rfl
  have hs : small [⟨1, [⟨1, false, ⟨1, 2, 0, ⟨#[]⟩, []⟩⟩]⟩] [⟨1, 2⟩] := (small_iff _ _).1 rfl
  unfold copyholdlaw12_shown.f
  rw [bs hN]
  dsimp only
  rw [bs (view_go _ _ _ _ hs k hk), bs (view_go _ _ _ _ hs k hk)]
  have e1 : viewL 1 [⟨1, [⟨1, false, ⟨1, 2, 0, ⟨#[]⟩, []⟩⟩]⟩] = [⟨1, 2, 0, ⟨#[]⟩, []⟩] := rfl
  have e2 : viewL 0 [⟨1, [⟨1, false, ⟨1, 2, 0, ⟨#[]⟩, []⟩⟩]⟩] = [] := rfl
  have e3 : viewX 1 [⟨1, 2⟩] = 2 := rfl
  have e4 : viewX 0 [⟨1, 2⟩] = 1 := rfl
  rw [e1, e2, e3, e4]
  dsimp only
  rw [if_pos rfl, if_pos rfl, bs (right_go _ _ _ hs), show storeR [⟨1, [⟨1, false, ⟨1, 2, 0, ⟨#[]⟩, []⟩⟩]⟩] [⟨1, 2⟩] 1 = true from by decide +kernel, if_pos rfl, bs (many_go _ _ _ hs k hk)]
  rfl
end Go.Proofs.Ytdkgkiemndlneaa.Pure
end

section
namespace Go.Proofs.Ytdkgkiemndlneaa.Pure
open Go.RowKit Go.Proofs.Ytdkgkiemndlneaa Go.Proofs.Ytdkgkiemndlneaa.Q Go.Proofs.YtdkgkiemndlneaaW.PrintWords Go.Proofs.YtdkgkiemndlneaaW.PrintLast Go.Proofs.YtdkgkiemndlneaaW.PrintMore Math Pl
theorem last_mem {α : Type} (p : α → Bool) : ∀ (l : List α) (x : α), last? p l = some x → x ∈ l ∧ p x = true
  | [], x, h => by cases h
  | y :: r, x, h => by
    rw [last?] at h
    cases g : last? p r with
    | some z => rw [g] at h; cases h; have := last_mem p r x g; exact ⟨List.mem_cons_of_mem _ this.1, this.2⟩
    | none =>
      rw [g] at h
      by_cases hp : p y = true
      · have h2 : (if p y then some y else none) = some x := h
        rw [if_pos hp] at h2; cases h2; exact ⟨List.mem_cons_self .., hp⟩
      · have h2 : (if p y then some y else none) = some x := h
        rw [if_neg hp] at h2; cases h2
theorem viewL_len (st : Int) (l0 : List H) : (viewL st l0).length ≤ l0.length := fm_len _ _
theorem viewL_f4 {l0 : List H} {l1 : List C} (st : Int) (hs : small l0 l1) : ∀ n ∈ viewL st l0, n.f4.length ≤ 10000 := by
  intro n hn
  obtain ⟨c, hc, h⟩ := List.mem_filterMap.1 hn
  unfold seenN at h
  cases g : last? (fun x : V => decide (x.f0 ≤ st)) c.f1 with
  | none => rw [g] at h; cases h
  | some v =>
    rw [g] at h
    dsimp only at h
    by_cases hv : v.f1 = true
    · rw [if_pos hv] at h; cases h
    · rw [if_neg hv] at h; cases h; exact (hs.2.2 c hc).2 v (last_mem _ _ _ g).1
theorem view_same {l0 : List H} {l1 : List C} (st : Int) (hs : small l0 l1) (k : Nat) (hk : 30000 ≤ k) : copyholdref08_Same.f k (viewL st l0) (viewX st l1) (viewL st l0) (viewX st l1) = some true := by
  have := same_fs (viewL st l0, viewX st l1) (viewL st l0, viewX st l1) (Nat.le_trans (viewL_len st l0) hs.1) (viewL_f4 st hs) k hk
  rw [(sameFS_iff _ _).2 rfl] at this
  exact this
theorem RightS.pos {l0 : List H} {l1 : List C} {st : Int} (h : RightS l0 l1 st) : ∀ c ∈ l0, 0 < c.f1.length := fun c hc => by have := (riseF_at (h.chains c hc).2.1).1; rwa [List.length_map] at this
theorem RightS.pos1 {l0 : List H} {l1 : List C} {st : Int} (h : RightS l0 l1 st) : 0 < l1.length := by have := (riseF_at h.rise).1; rwa [List.length_map] at this
theorem RightS.inc {l0 : List H} {l1 : List C} {st : Int} (h : RightS l0 l1 st) : ∀ c ∈ l0, (c.f1.map fun v => v.f0).Pairwise (· < ·) := fun c hc => (riseF_at (h.chains c hc).2.1).2.2
theorem RightS.inc1 {l0 : List H} {l1 : List C} {st : Int} (h : RightS l0 l1 st) : (l1.map fun c => c.f0).Pairwise (· < ·) := (riseF_at h.rise).2.2
theorem sinceL_len (st : Int) (l0 : List H) (l1 : List C) (h : l0.length ≤ 10000) : (sinceL st l0 l1).length ≤ 100000 := by
  have : (sinceP st l0).length ≤ l0.length := fm_len _ _
  unfold sinceL
  split
  · rw [List.length_cons]; omega
  · exact Nat.zero_le _
theorem eqI_self (l : List Int) : eqL (fun x y : Int => x == y) l l = true := (eqL_iff (fun x y => beq_iff_eq) l l).2 rfl
theorem Sized.of {l0 : List H} {l1 : List C} {P : H → Prop} {Q : V → Prop} {R : C → Prop} (a : l0.length * 32 ≤ 140737488351232 ∧ ∀ c ∈ l0, (P c ∧ (c.f1.length * 80 ≤ 140737488351232 ∧ ∀ v ∈ c.f1, (Q v ∧ v.f2.f4.length ≤ 140737488351232)))) (b : l1.length * 16 ≤ 140737488351232) : Sized l0 l1 :=
  ⟨by omega, by omega, fun c hc => ⟨by have := (a.2 c hc).2.1; omega, fun v hv => ((a.2 c hc).2.2 v hv).2⟩⟩
end Go.Proofs.Ytdkgkiemndlneaa.Pure
end

section
namespace Go.Proofs.Ytdkgkiemndlneaa.Pure
open Go.RowKit Go.Proofs.Ytdkgkiemndlneaa Go.Proofs.Ytdkgkiemndlneaa.Q Go.Proofs.YtdkgkiemndlneaaW.PrintWords Go.Proofs.YtdkgkiemndlneaaW.PrintLast Go.Proofs.YtdkgkiemndlneaaW.PrintMore Math Pl
theorem StoreLooks : StoreLooksSt := by
  intro l0 l1 st x m0 m1 ms h0 h1 hst hx g0 g1 gst
  have hz : Sized l0 l1 := ⟨by omega, by omega, fun c hc => ⟨by have := (h0.2 c hc).2.1; omega, fun v hv => by have := ((h0.2 c hc).2.2 v hv).2.2.2.2.2.2.1; omega⟩⟩
  have gz : Sized m0 m1 := ⟨by omega, by omega, fun c hc => ⟨by have := (g0.2 c hc).2.1; omega, fun v hv => by have := ((g0.2 c hc).2.2 v hv).2.2.2.2.2.2.1; omega⟩⟩
  refine ⟨rds l0 + rds m0 + 400000010, ?_⟩
  obtain ⟨k, hk⟩ : ∃ k, k = rds l0 + rds m0 + 400000010 := ⟨_, rfl⟩
  rw [← hk]
  unfold copyholdlaw12_StoreLooks.f
  rw [bs (shown_eq k (by omega))]
  obtain ⟨b, hb, hw⟩ := few_any l0 l1 st hz k (by omega)
  rw [bs hb]
  have hj : ∀ (i : Nat), 0 < i → copyholdlaw12_StoreLooks.j0 i x true true l0 l1 st m0 m1 ms = some true := by
    intro i hi
    obtain ⟨i, rfl⟩ : ∃ j, i = j + 1 := ⟨i - 1, by omega⟩
    rw [copyholdlaw12_StoreLooks.j0, if_pos rfl]
  cases b with
  | false => rw [if_neg (by decide)]; exact hj k (by omega)
  | true =>
    rw [if_pos rfl]
    obtain ⟨c, hc, gw⟩ := few_any m0 m1 ms gz k (by omega)
    rw [bs hc]
    cases c with
    | false => exact hj k (by omega)
    | true =>
      have hs := small_of l0 l1 (hw rfl)
      have gs := small_of m0 m1 (gw rfl)
      obtain ⟨k, rfl⟩ : ∃ i, k = i + 2 := ⟨k - 2, by omega⟩
      rw [copyholdlaw12_StoreLooks.j0, Bool.not_true, if_neg (by decide), bs (ref_rightS l0 l1 st hs (k + 1) (by omega)), bs (right_go l0 l1 st hs)]
      cases hr : storeR l0 l1 st with
      | false =>
        rw [if_neg (by decide), copyholdlaw12_StoreLooks.j1, Bool.not_false, if_pos rfl, if_pos rfl, bs (right_go l0 l1 st hs), hr]; rfl
      | true =>
        have hR := rightS_of hr
        rw [if_neg (by decide), copyholdlaw12_StoreLooks.j1, Bool.not_true, if_neg (by decide), bs (ref_rightS m0 m1 ms gs k (by omega))]
        cases hq : storeR m0 m1 ms with
        | false => rw [if_neg (by decide)]
        | true =>
          rw [if_pos rfl, bs (view_go l0 l1 st x hs k (by omega)), bs (view_ref l0 l1 st x hs k (by omega)), bs (view_same x hs k (by omega)), if_pos rfl,
            bs (since_go l0 l1 st x hs hR.pos hR.pos1 k (by omega)), bs (since_ref l0 l1 st x hs hR.inc hR.inc1 k (by omega)), bs (ints_eq _ _ (sinceL_len x l0 l1 hs.1) k (by omega)), eqI_self, if_pos rfl, if_pos rfl,
            bs (many_go l0 l1 st hs k (by omega)), bs (many_ref l0 l1 st hs k (by omega)), if_pos rfl]
          have hS : smallS l0 l1 = true := (small_iff l0 l1).2 hs
          rw [bs (show store_Same.f l0 l1 st m0 m1 ms = some (storeEq l0 l1 st m0 m1 ms) from if_pos hS), bs (show copyholdref12_Same.f l0 l1 st m0 m1 ms = some (storeEq l0 l1 st m0 m1 ms) from if_pos hS)]
          rw [beq_self_eq_true]
end Go.Proofs.Ytdkgkiemndlneaa.Pure
end
