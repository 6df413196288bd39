import Derived.Test.YtcbfnfggnocndaaRows
import Derived.Test.YtcbfnfggnocndaaZRedoCr1
import Derived.ProofKit
import Derived.SizedLaws
import Derived.Test.YtcbfnfggnocndaaZRedoCr36
import Derived.Test.YtcbfnfggnocndaaZRedoCr34
import Derived.Test.YtcbfnfggnocndaaZRedoCr33
import Derived.Test.YtcbfnfggnocndaaZRedoCr30
import Derived.Test.YtcbfnfggnocndaaZRedoCr22
import Derived.Test.YtcbfnfggnocndaaZRedoCr32
import Derived.Test.YtcbfnfggnocndaaZRedoCr35
set_option linter.unusedVariables false
set_option linter.unusedSimpArgs false
section
namespace Go.Proofs.Ytcbfnfggnocndaa.Opn
open Go.Proofs.YtcbfnfggnocndaaW.PrintWords
theorem mapM_some {α β : Type} {f : α → Option β} : ∀ {l : List α} {ys : List β}, l.mapM f = some ys → ys.length = l.length ∧ ∀ i (h : i < l.length) (h2 : i < ys.length), f l[i] = some ys[i] := by
  intro l
  induction l with
  | nil => intro ys h; simp at h; subst h; exact ⟨rfl, fun i h => by cases h⟩
  | cons a l ih =>
    intro ys h
    rw [List.mapM_cons] at h
    simp only [Option.bind_eq_bind, Option.bind_eq_some_iff] at h
    obtain ⟨y, h1, ys', h2, h3⟩ := h
    simp at h3; subst h3
    obtain ⟨hl, hi⟩ := ih h2
    refine ⟨by simp [hl], fun i h h2 => ?_⟩
    cases i with
    | zero => exact h1
    | succ i => exact hi i (by simpa using h) (by simpa using h2)
theorem choose_list {α : Type} {n : Nat} {R : Nat → α → Prop} (h : ∀ i, i < n → ∃ x, R i x) : ∃ xs : List α, xs.length = n ∧ ∀ i (hi : i < xs.length), R i xs[i] := by
  induction n with
  | zero => exact ⟨[], rfl, fun i hi => by cases hi⟩
  | succ n ih =>
    obtain ⟨xs, hl, hx⟩ := ih (fun i hi => h i (by omega))
    obtain ⟨x, hx'⟩ := h n (by omega)
    refine ⟨xs ++ [x], by simp [hl], fun i hi => ?_⟩
    by_cases hin : i < xs.length
    · rw [List.getElem_append_left hin]; exact hx i hin
    · have : i = n := by simp [hl] at hi; omega
      subst this
      rw [List.getElem_append_right (by omega)]
      simpa [hl] using hx'
structure Opens {H : Type} (enc : TypeId × Value → H) (P : Program) (w : World) (t : TypeId) {α : Type} (K : Kd α) (G : α → Prop) (b : α → Nat) : Prop where
  sz : P.cellsOf t = K.sz
  open_ : ∀ fuel cs (d : DataW H) ps, DataW.trod enc P w 0 (fun _ => true) true fuel t cs = some (d, ps) → ∃ x, K.K w x cs ∧ ((∀ n ∈ d.weights P t, n ≤ reachBytes) → G x) ∧ b x ≤ Rows.uptoBulk d
section
variable {H : Type} {enc : TypeId × Value → H} {P : Program} {w : World}
theorem opens_int {t : TypeId} {k : IntKind} (hu : P.underlying t = some (.int k)) (hs : P.cellsOf t = 1) : Opens enc P w t (Kd.int k) (fun x => (Lit.int k x).wf = true) (fun _ => 1) := by
  refine ⟨hs, fun fuel cs d ps h => ?_⟩
  obtain ⟨n, rfl, hx, hw⟩ := DataW.trod_int hu h
  obtain ⟨rfl, rfl⟩ := Prod.mk.inj hx
  exact ⟨n, rfl, fun _ => hw, by simp [Rows.uptoBulk]⟩
theorem opens_bool {t : TypeId} (hu : P.underlying t = some .bool) (hs : P.cellsOf t = 1) : Opens enc P w t Kd.bool (fun _ => True) (fun _ => 1) := by
  refine ⟨hs, fun fuel cs d ps h => ?_⟩
  obtain ⟨b, rfl, hx⟩ := DataW.trod_bool hu h
  obtain ⟨rfl, rfl⟩ := Prod.mk.inj hx
  exact ⟨b, rfl, fun _ => trivial, by simp [Rows.uptoBulk]⟩
theorem opens_string {t : TypeId} (hu : P.underlying t = some .string) (hs : P.cellsOf t = 1) : Opens enc P w t Kd.string (fun x => x.size ≤ reachBytes) (fun x => x.size + 1) := by
  refine ⟨hs, fun fuel cs d ps h => ?_⟩
  obtain ⟨s, rfl, hx, _⟩ := DataW.trod_string hu h
  obtain ⟨rfl, rfl⟩ := Prod.mk.inj hx
  refine ⟨s, rfl, fun hw => ?_, ?_⟩
  · have := hw s.data.toList.length (by simp [DataW.weights])
    rw [Array.length_toList] at this; exact this
  · simp only [Rows.uptoBulk, Array.length_toList]; exact Nat.le_refl _
theorem bulk_all {α : Type} {b : α → Nat} : ∀ (xs : List α) (ds : List (DataW H)), xs.length = ds.length → (∀ i (h : i < xs.length) (h2 : i < ds.length), b xs[i] ≤ Rows.uptoBulk ds[i]) → (xs.map b).sum ≤ Rows.uptoBulkAll ds := by
  intro xs
  induction xs with
  | nil => intro ds hl _; simp
  | cons x xs ih =>
    intro ds hl h
    cases ds with
    | nil => cases hl
    | cons d ds =>
      have h0 := h 0 (by simp) (by simp)
      have h1 := ih ds (by simpa using hl) (fun i hi h2 => h (i + 1) (by simpa using hi) (by simpa using h2))
      simp only [List.map_cons, List.sum_cons, Rows.uptoBulkAll, List.getElem_cons_zero] at h0 ⊢
      omega
theorem weights_all {e : TypeId} {ds : List (DataW H)} {d : DataW H} (h : d ∈ ds) : ∀ n ∈ d.weights P e, n ∈ DataW.weightsAll P e ds := by
  induction ds with
  | nil => cases h
  | cons x ds ih =>
    intro n hn
    rw [DataW.weightsAll]
    rcases List.mem_cons.1 h with rfl | h
    · exact List.mem_append_left _ hn
    · exact List.mem_append_right _ (ih h n hn)
theorem opens_slice {t e : TypeId} {α : Type} {K : Kd α} {G : α → Prop} {b : α → Nat} (hu : P.underlying t = some (.slice e)) (hs : P.cellsOf t = 1) (ho : Opens enc P w e K G b) :
    Opens enc P w t (Kd.slice e K) (fun xs => xs.length * P.bytesOf e ≤ reachBytes ∧ ∀ x ∈ xs, G x) (fun xs => (xs.map b).sum + 1) := by
  refine ⟨hs, fun fuel cs d ps h => ?_⟩
  cases fuel with
  | zero => simp [DataW.trod] at h
  | succ fuel =>
    unfold DataW.trod at h
    rw [hu] at h
    split at h <;> try (simp_all; done)
    · rename_i h1
      simp at h
      obtain ⟨rfl, rfl⟩ := h
      refine ⟨[], ⟨none, 0, rfl, Nat.le_refl _, rfl, by simp, fun h => by simp at h⟩, fun _ => ⟨by simp, by simp⟩, by simp [Rows.uptoBulk]⟩
    · rename_i e' a len cap h1
      obtain rfl : e = e' := by simpa using h1
      dsimp only at h
      split at h
      · rename_i hc
        simp only [Option.bind_eq_some_iff, Option.map_eq_some_iff] at h
        obtain ⟨elems, he, rest, hr, h⟩ := h
        simp only [Prod.mk.injEq] at h
        obtain ⟨rfl, rfl⟩ := h
        obtain ⟨hl, hi⟩ := mapM_some he
        rw [List.length_range] at hl
        have hex : ∀ i, i < len → ∃ x, (∃ c, c.length = K.sz ∧ K.K w x c ∧ ∀ j u, c[j]? = some u → w.cell? (a.add (i * K.sz + j)) = some u) ∧ (∀ h2 : i < elems.length, ((∀ n ∈ (elems[i]).1.weights P e, n ≤ reachBytes) → G x) ∧ b x ≤ Rows.uptoBulk (elems[i]).1) := by
          intro i hilt
          have h2 : i < elems.length := by omega
          have hh := hi i (by simpa using hilt) h2
          rw [List.getElem_range] at hh
          simp only [Option.bind_eq_some_iff] at hh
          obtain ⟨c, hc1, hc2⟩ := hh
          obtain ⟨x, hx1, hx2, hx3⟩ := ho.open_ fuel c (elems[i]).1 (elems[i]).2 hc2
          refine ⟨x, ⟨c, K.K_len hx1, hx1, fun j u hju => ?_⟩, fun _ => ⟨hx2, hx3⟩⟩
          unfold World.cells? at hc1
          split at hc1
          · obtain ⟨hcl, hci⟩ := mapM_some hc1
            rw [List.length_range] at hcl
            have hj : j < c.length := (List.getElem?_eq_some_iff.1 hju).1
            have h5 := hci j (by simpa [← hcl] using hj) hj
            rw [List.getElem_range] at h5
            have h6 : c[j] = u := (List.getElem?_eq_some_iff.1 hju).2
            rw [h6, ho.sz] at h5
            rw [Addr.add_add] at h5
            exact h5
          · cases hc1
        obtain ⟨xs, hxl, hx⟩ := choose_list hex
        have hel : elems.length = xs.length := by omega
        refine ⟨xs, ⟨some a, cap, by rw [hxl], by omega, rfl, ?_, fun _ => ⟨a, rfl, fun j p hjp => ?_⟩⟩, fun hw => ⟨?_, fun x hxm => ?_⟩, ?_⟩
        · have := hc.2.2; unfold maxLen at this; omega
        · have hj : j < xs.length := (List.getElem?_eq_some_iff.1 hjp).1
          have hp : xs[j] = p := (List.getElem?_eq_some_iff.1 hjp).2
          rw [← hp]; exact (hx j hj).1
        · have h7 := hw ((((elems.map (·.1)).length) + (rest.map (·.1)).length) * P.bytesOf e) (by simp [DataW.weights, hu])
          refine Nat.le_trans (Nat.mul_le_mul_right _ ?_) h7
          simp only [List.length_map]; omega
        · obtain ⟨j, hj, rfl⟩ := List.getElem_of_mem hxm
          refine ((hx j hj).2 (by omega)).1 (fun n hn => hw n ?_)
          simp only [DataW.weights, hu]
          refine List.mem_cons_of_mem _ (List.mem_append_left _ (weights_all ?_ n hn))
          exact List.mem_map.2 ⟨elems[j]'(by omega), List.getElem_mem _, rfl⟩
        · have h8 := bulk_all (b := b) xs (elems.map (·.1)) (by simp [hel]) (fun i h h2 => by
            have := ((hx i h).2 (by simpa using h2)).2
            simpa using this)
          simp only [Rows.uptoBulk]
          omega
      · cases h
structure OpensF {H : Type} (enc : TypeId × Value → H) (P : Program) (w : World) (fs : List Field) (off : Nat) {α : Type} (K : Kd α) (G : α → Prop) (b : α → Nat) : Prop where
  open_ : ∀ fuel (cs : List Value) (xs : List (DataW H × List MemPlace)), fs.mapM (fun f => DataW.trod enc P w 0 (fun _ => true) true fuel f.type ((cs.drop f.offset).take (P.cellsOf f.type))) = some xs →
    ∃ x, K.K w x ((cs.drop off).take K.sz) ∧ ((∀ n ∈ DataW.weightsEach P (fs.map (·.type)) (xs.map (·.1)), n ≤ reachBytes) → G x) ∧ b x ≤ Rows.uptoBulkAll (xs.map (·.1))
theorem opensF_one {f : Field} {α : Type} {K : Kd α} {G : α → Prop} {b : α → Nat} (ho : Opens enc P w f.type K G b) : OpensF enc P w [f] f.offset K G b := by
  refine ⟨fun fuel cs xs h => ?_⟩
  rw [List.mapM_cons, List.mapM_nil] at h
  simp only [Option.bind_eq_bind, Option.bind_eq_some_iff] at h
  obtain ⟨y, h1, ys', h2, h3⟩ := h
  simp at h2 h3; subst h2; subst h3
  obtain ⟨x, hx1, hx2, hx3⟩ := ho.open_ fuel _ y.1 y.2 h1
  rw [ho.sz] at hx1
  refine ⟨x, hx1, fun hw => hx2 (fun n hn => hw n ?_), by simpa [Rows.uptoBulkAll] using hx3⟩
  simp [DataW.weightsEach, hn]
theorem opensF_cons {f : Field} {fs : List Field} {α β : Type} {K0 : Kd α} {G0 : α → Prop} {b0 : α → Nat} {K1 : Kd β} {G1 : β → Prop} {b1 : β → Nat} (ho : Opens enc P w f.type K0 G0 b0) {off : Nat} (hoff : off = f.offset + K0.sz) (hr : OpensF enc P w fs off K1 G1 b1) :
    OpensF enc P w (f :: fs) f.offset (Kd.pair K0 K1) (fun p => G0 p.1 ∧ G1 p.2) (fun p => b0 p.1 + b1 p.2) := by
  subst hoff
  refine ⟨fun fuel cs xs h => ?_⟩
  rw [List.mapM_cons] at h
  simp only [Option.bind_eq_bind, Option.bind_eq_some_iff] at h
  obtain ⟨y, h1, ys', h2, h3⟩ := h
  simp at h3; subst h3
  obtain ⟨x, hx1, hx2, hx3⟩ := ho.open_ fuel _ y.1 y.2 h1
  rw [ho.sz] at hx1
  obtain ⟨z, hz1, hz2, hz3⟩ := hr.open_ fuel cs ys' h2
  refine ⟨(x, z), ⟨_, _, ?_, hx1, hz1⟩, fun hw => ⟨hx2 (fun n hn => hw n ?_), hz2 (fun n hn => hw n ?_)⟩, ?_⟩
  · show List.take (K0.sz + K1.sz) _ = _
    rw [List.take_add, List.drop_drop]
  · simp only [List.map_cons, DataW.weightsEach]; exact List.mem_append_left _ hn
  · simp only [List.map_cons, DataW.weightsEach]; exact List.mem_append_right _ hn
  · simp only [List.map_cons, Rows.uptoBulkAll]; omega
theorem opens_struct {t : TypeId} {fs : Array Field} {α β : Type} {K : Kd α} {G : α → Prop} {b : α → Nat} (f : β → α) (g : α → β) (hfg : ∀ x, f (g x) = x) (hu : P.underlying t = some (.struct fs)) (hs : P.cellsOf t = K.sz) (hf : OpensF enc P w fs.toList 0 K G b) :
    Opens enc P w t (Kd.iso K f) (fun x => G (f x)) (fun x => b (f x) + 1) := by
  refine ⟨hs, fun fuel cs d ps h => ?_⟩
  cases fuel with
  | zero => simp [DataW.trod] at h
  | succ fuel =>
    unfold DataW.trod at h
    rw [hu] at h
    split at h <;> try (simp_all; done)
    rename_i fs' h1
    obtain rfl : fs = fs' := by simpa using h1
    split at h
    · rename_i hl
      simp only [Option.map_eq_some_iff] at h
      obtain ⟨xs, hx, h⟩ := h
      simp only [Prod.mk.injEq] at h
      obtain ⟨rfl, rfl⟩ := h
      obtain ⟨x, hx1, hx2, hx3⟩ := hf.open_ fuel _ xs hx
      rw [List.drop_zero, List.take_of_length_le (by omega)] at hx1
      refine ⟨g x, ?_, ?_, ?_⟩
      · show K.K w (f (g x)) _
        rw [hfg]; exact hx1
      · intro hw
        show G (f (g x))
        rw [hfg]
        refine hx2 (fun n hn => hw n ?_)
        simpa [DataW.weights, hu] using hn
      · show b (f (g x)) + 1 ≤ _
        rw [hfg]
        simp only [Rows.uptoBulk]
        omega
    · cases h
end
end Go.Proofs.Ytcbfnfggnocndaa.Opn
end

section
namespace Go.Proofs.Ytcbfnfggnocndaa.Pure
open Go.RowKit Go.Proofs.Ytcbfnfggnocndaa.Q
def RedoCrashSt : Prop := ∀ (l0_0 : List ByteArray) (l0_1 : List (S88)) (a0_2 : Bool) (a0_3 : Int) (a0_4 : Int) (a0_5 : Int) (a0_6 : Int) (a0_7 : Int) (a0_8 : Int) (l0_9 : List ByteArray) (l0_10 : List Bool), (l0_0.length * 16 ≤ 140737488351232 ∧ ∀ y_ ∈ l0_0, y_.size ≤ 140737488351232) → (l0_1.length * 24 ≤ 140737488351232 ∧ ∀ y_ ∈ l0_1, ((Lit.int .i64 y_.f0).wf = true ∧ y_.f1.size ≤ 140737488351232)) → (Lit.int .i64 a0_3).wf = true → (Lit.int .i64 a0_4).wf = true → (Lit.int .i64 a0_5).wf = true → (Lit.int .i64 a0_6).wf = true → (Lit.int .u64 a0_7).wf = true → (Lit.int .i64 a0_8).wf = true → (l0_9.length * 16 ≤ 140737488351232 ∧ ∀ y_ ∈ l0_9, y_.size ≤ 140737488351232) → (l0_10.length * 1 ≤ 140737488351232 ∧ ∀ y_ ∈ l0_10, True) → ∃ k, Go.Proofs.Ytcbfnfggnocndaa.Q.copyholdlaw05_RedoCrash.f k l0_0 l0_1 a0_2 a0_3 a0_4 a0_5 a0_6 a0_7 a0_8 l0_9 l0_10 = some true
end Go.Proofs.Ytcbfnfggnocndaa.Pure
end

section
namespace Go.Proofs.Ytcbfnfggnocndaa.Pure
open Go.RowKit Go.Proofs.Ytcbfnfggnocndaa.Q Go.Proofs.YtcbfnfggnocndaaW.PrintWords Math
theorem right_l1 (l0 : List ByteArray) (l1 : List S88) (off : Bool) (h0 : l0.length ≤ 1000000000) (h1 : l1.length ≤ 1000000000) : ∀ (n i k : Nat), i + n = l1.length → n < k → copyholdref04_Right.l1 k (i : Int) l0 l1 off = some (!((l1.drop i).any (badPut l0.length)))
  | n, i, 0, _, h => absurd h (Nat.not_lt_zero _)
  | 0, i, k + 1, h, _ => by
    rw [copyholdref04_Right.l1, if_neg (by omega), List.drop_eq_nil_of_le (by omega)]; rfl
  | n + 1, i, k + 1, h, hk => by
    have hi : i < l1.length := by omega
    rw [copyholdref04_Right.l1, if_pos (by omega), if_pos (by omega), rdp hi, List.drop_eq_getElem_cons hi, List.any_cons]
    rw [w64 (by omega) (by omega), show (i : Int) + 1 = ((i + 1 : Nat) : Int) by omega, right_l1 l0 l1 off h0 h1 n (i + 1) k (by omega) (by omega)]
    unfold badPut
    by_cases a : l1[i].f0 < 0
    · rw [if_pos a, decide_eq_true a]; rfl
    · rw [if_neg a, decide_eq_false a]
      by_cases b : (l0.length : Int) ≤ l1[i].f0
      · rw [if_pos b, decide_eq_true b]; rfl
      · rw [if_neg b, decide_eq_false b]
        by_cases c : l1[i].f1.size = 64
        · rw [if_pos (by omega), decide_eq_true c]; rfl
        · rw [if_neg (by omega), decide_eq_false c]; rfl
theorem right_l0 (l0 : List ByteArray) (l1 : List S88) (off : Bool) (h0 : l0.length ≤ 1000000000) (h1 : l1.length ≤ 1000000000) : ∀ (n i k : Nat), i + n = l0.length → n + l1.length + 1 < k → copyholdref04_Right.l0 k (i : Int) l0 l1 off = some (!((l0.drop i).any fun s => !(decide (s.size = 64))) && !(l1.any (badPut l0.length)))
  | n, i, 0, _, h => absurd h (Nat.not_lt_zero _)
  | 0, i, k + 1, h, hk => by
    rw [copyholdref04_Right.l0, if_neg (by omega), List.drop_eq_nil_of_le (by omega), show (0 : Int) = ((0 : Nat) : Int) from rfl, right_l1 l0 l1 off h0 h1 l1.length 0 k (by omega) (by omega)]; rfl
  | n + 1, i, k + 1, h, hk => by
    have hi : i < l0.length := by omega
    rw [copyholdref04_Right.l0, if_pos (by omega), if_pos (by omega), rdo hi, List.drop_eq_getElem_cons hi, List.any_cons]
    rw [w64 (by omega) (by omega), show (i : Int) + 1 = ((i + 1 : Nat) : Int) by omega, right_l0 l0 l1 off h0 h1 n (i + 1) k (by omega) (by omega)]
    by_cases c : l0[i].size = 64
    · rw [if_pos (by omega), decide_eq_true c]; rfl
    · rw [if_neg (by omega), decide_eq_false c]; rfl
theorem right_eq (l0 : List ByteArray) (l1 : List S88) (off : Bool) (h0 : l0.length ≤ 1000000000) (h1 : l1.length ≤ 1000000000) (k : Nat) (hk : l0.length + l1.length + 2 < k) : copyholdref04_Right.f k l0 l1 off = some (rightB l0 l1) := by
  unfold copyholdref04_Right.f rightB
  obtain ⟨k, rfl⟩ : ∃ j, k = j + 1 := ⟨k - 1, by omega⟩
  by_cases a : l0.length < 1
  · rw [if_pos (by omega), copyholdref04_Right.j0, if_pos rfl, decide_eq_false (by omega : ¬ 1 ≤ l0.length)]; rfl
  · rw [if_neg (by omega), copyholdref04_Right.j0, decide_eq_true (by omega : 1 ≤ l0.length)]
    by_cases b : l0.length ≤ 4096
    · rw [if_neg (by simp; omega), show (0 : Int) = ((0 : Nat) : Int) from rfl, right_l0 l0 l1 off h0 h1 l0.length 0 k (by omega) (by omega), decide_eq_true b]; rfl
    · rw [if_pos (by simp; omega), decide_eq_false b]; rfl
theorem filled_eq (s : ByteArray) (hs : s.size ≤ 1000000) (k : Nat) (hk : 64 < k) : copyholdref04_filled.f k s = some (fillS s) := by
  have go : ∀ (n k : Nat) (x : ByteArray), 64 - x.size = n → x.size ≤ 1000000 → n < k → copyholdref04_filled.l0 k x = some (fillS x) := by
    intro n
    induction n with
    | zero =>
      intro k x h hx hk; obtain ⟨k, rfl⟩ : ∃ j, k = j + 1 := ⟨k - 1, by omega⟩
      rw [copyholdref04_filled.l0, if_neg (by omega)]
      unfold fillS; rw [h]
      exact congrArg some (app_nil x).symm
    | succ n ih =>
      intro k x h hx hk; obtain ⟨k, rfl⟩ : ∃ j, k = j + 1 := ⟨k - 1, by omega⟩
      have hz : (x ++ (⟨#[0]⟩ : ByteArray)).size = x.size + 1 := by rw [app_size]; rfl
      rw [copyholdref04_filled.l0, if_pos (by omega), if_pos (by omega), ih k _ (by omega) (by omega) (by omega)]
      congr 1
      unfold fillS
      rw [hz, h, show 64 - (x.size + 1) = n by omega, app_as]
      congr 1
  exact go _ k s rfl hs (by omega)
theorem new_ref (m : Nat) (h0 : 1 ≤ m) (h1 : m ≤ 4096) (k : Nat) (hk : m + 70 < k) : copyholdref04_New.f k (m : Int) = some (List.replicate m zeroS, [], false, 0) := by
  have go : ∀ (n i k : Nat), i + n = m → n < k → copyholdref04_New.l0 k (m : Int) zeroS (i : Int) (List.replicate i zeroS) false = some (List.replicate m zeroS, [], false, 0) := by
    intro n
    induction n with
    | zero => intro i k h hk; obtain ⟨k, rfl⟩ : ∃ j, k = j + 1 := ⟨k - 1, by omega⟩; rw [copyholdref04_New.l0, if_neg (by omega), show i = m by omega]
    | succ n ih => intro i k h hk; obtain ⟨k, rfl⟩ : ∃ j, k = j + 1 := ⟨k - 1, by omega⟩; rw [copyholdref04_New.l0, if_pos (by omega), if_pos (by rw [List.length_replicate]; omega), w64 (by omega) (by omega), show (i : Int) + 1 = ((i + 1 : Nat) : Int) by omega, ← List.replicate_succ', ih (i + 1) k (by omega) (by omega)]
  unfold copyholdref04_New.f
  obtain ⟨k, rfl⟩ : ∃ j, k = j + 1 := ⟨k - 1, by omega⟩
  have hz : fillS ⟨#[]⟩ = zeroS := nil_app _
  rw [if_neg (by omega), copyholdref04_New.j0, if_neg (by simp; omega), bs (filled_eq ⟨#[]⟩ (by decide) k (by omega)), hz]
  exact go m 0 k (by omega) (by omega)
end Go.Proofs.Ytcbfnfggnocndaa.Pure
end

section
namespace Go.Proofs.Ytcbfnfggnocndaa.Pure
open Go.RowKit Go.Lib Go.Proofs.Ytcbfnfggnocndaa Go.Proofs.Ytcbfnfggnocndaa.Q Go.Proofs.YtcbfnfggnocndaaW.PrintWords Go.Proofs.YtcbfnfggnocndaaW.PrintMore Math
theorem right_ref {l0 : List ByteArray} {l1 : List S88} (off : Bool) (h : Rt l0 l1) (h1 : l1.length ≤ 1000000) {fr mn at_ used first many : Int} (hf : 0 ≤ first ∧ first < 18446744073709551616) (hm : many ≤ 9223372036854775807) :
    copyholdref05_Right.f l0 l1 off fr mn at_ used first many = some (rightR l0 l1 off fr mn at_ used first many) := by
  unfold copyholdref05_Right.f
  rw [if_pos ⟨of_rt h, h1, hf.1, hf.2, hm⟩]
end Go.Proofs.Ytcbfnfggnocndaa.Pure
end

section
namespace Go.Proofs.Ytcbfnfggnocndaa.Pure
open Go.RowKit Go.Lib Go.Proofs.Ytcbfnfggnocndaa Go.Proofs.Ytcbfnfggnocndaa.Q Go.Proofs.YtcbfnfggnocndaaW.PrintWords Go.Proofs.YtcbfnfggnocndaaW.PrintMore Math
theorem mod_ne {b m x y : Nat} (h : x < y) (hm : y - x < m) : (b + x) % m ≠ (b + y) % m := by
  intro e
  have h1 := Nat.sub_mod_eq_zero_of_mod_eq e.symm
  rw [show b + y - (b + x) = y - x by omega, Nat.mod_eq_of_lt hm] at h1
  omega
theorem img_out (fr mn b x : Nat) : ∀ (l : List ByteArray) (i : Nat) (L : List ByteArray), (∀ q, q < l.length → (b + (i + q)) % mn ≠ x) → (imgL L (laidP fr mn b i l)).getD (fr + x) ⟨#[]⟩ = L.getD (fr + x) ⟨#[]⟩
  | [], _, _, _ => rfl
  | s :: l, i, L, h => by
    rw [laidP, imgL_cons, img_out fr mn b x l (i + 1) _ (fun q hq => by have := h (q + 1) (by rw [List.length_cons]; omega); rwa [show i + (q + 1) = i + 1 + q by omega] at this)]
    have h0 := h 0 (by rw [List.length_cons]; omega)
    rw [Nat.add_zero] at h0
    rw [List.getD_eq_getElem?_getD, List.getD_eq_getElem?_getD, List.getElem?_set_ne (by show (((fr + (b + i) % mn : Nat) : Int)).toNat ≠ fr + x; rw [Int.toNat_natCast]; omega)]
theorem img_in (fr mn b : Nat) (hm : 1 ≤ mn) : ∀ (l : List ByteArray) (i : Nat) (L : List ByteArray) (q : Nat) (hq : q < l.length), l.length ≤ mn → fr + mn ≤ L.length → (imgL L (laidP fr mn b i l)).getD (fr + (b + (i + q)) % mn) ⟨#[]⟩ = fillS l[q]
  | [], _, _, _, h, _, _ => absurd h (Nat.not_lt_zero _)
  | s :: l, i, L, q, hq, hl, hL => by
    rw [List.length_cons] at hq hl
    have hlt : (b + i) % mn < mn := Nat.mod_lt _ hm
    rw [laidP, imgL_cons]
    cases q with
    | zero =>
      simp only [Nat.add_zero]
      rw [img_out fr mn b _ l (i + 1) _ (fun q hq => by
        have := mod_ne (b := b) (m := mn) (show i < i + 1 + q by omega) (by omega)
        exact fun e => this e.symm)]
      rw [List.getD_eq_getElem?_getD, Int.toNat_natCast, List.getElem?_set_self (by omega)]
      rfl
    | succ q =>
      rw [show i + (q + 1) = i + 1 + q by omega, img_in fr mn b hm l (i + 1) _ q (by omega) (by omega) (by rw [List.length_set]; exact hL)]
      rfl
theorem rg_img {l0 : List ByteArray} {l1 : List S88} {fr mn : Nat} (hm : 1 ≤ mn) (h : fr + mn ≤ l0.length) (i : Nat) : rg (ringL l0 l1 fr mn) i = ((imgL l0 l1).getD (fr + i % mn) ⟨#[]⟩).data.toList := by
  unfold rg
  rw [ringL_len _ _ _ _ h, ring_get h _ (Nat.mod_lt _ hm)]
theorem fill_sec (n : Nat) (s : ByteArray) (i : Nat) (hi : i < needN s) : (fillS (pieceS (recS n s) i)).data.toList = secR n s i := by
  have hnb := need_big n s
  have hne := needN_eq n s
  have hri : 64 * i < (recS n s).size := by omega
  have hA : (recS n s).data.toList.length = (recS n s).size := (sz _).symm
  unfold secR sec padB fillS
  rw [app, zeros_dl, List.drop_append_of_le_length (by omega), List.take_append]
  congr 1
  rw [List.take_replicate]
  have e : (pieceS (recS n s) i).size = min 64 ((recS n s).size - 64 * i) := by unfold pieceS; rw [pbsz, List.length_take, List.length_drop, hA]
  rw [e, List.length_drop, hA]
  congr 1
  omega
theorem pieces_get (r : ByteArray) (i : Nat) (h : i < (pieces r).length) : (pieces r)[i] = pieceS r i := by simp [pieces]
theorem imgL_app (l : List ByteArray) (a b : List S88) : imgL l (a ++ b) = imgL (imgL l a) b := by unfold imgL; rw [List.foldl_append]
structure Lg (l0 : List ByteArray) (l1 : List S88) (fr mn at_ used first many : Nat) (ts : List ByteArray) : Prop where
  rt : Rt l0 l1
  hm : 1 ≤ mn
  hfm : fr + mn ≤ l0.length
  hat : at_ < mn
  hf : first < 18446744073709551616
  hmany : many = ts.length
  hused : used = needs ts
  lay : LayF (ringL l0 l1 fr mn) at_ first 0 0 ts
namespace Lg
variable {l0 : List ByteArray} {l1 : List S88} {fr mn at_ used first many : Nat} {ts : List ByteArray}
theorem le (h : Lg l0 l1 fr mn at_ used first many ts) : used ≤ mn ∧ many ≤ used ∧ mn ≤ l0.length ∧ l0.length ≤ 4096 := by
  have h1 := lay_used _ at_ first ts 0 0 (Nat.zero_le _) h.lay
  rw [ringL_len _ _ _ _ h.hfm] at h1
  have h2 := needs_len ts
  have h3 := h.hmany; have h4 := h.hused; have h5 := h.hfm; have h6 := h.rt.len
  omega
theorem rs (h : Lg l0 l1 fr mn at_ used first many ts) : ∀ s ∈ ringL l0 l1 fr mn, s.size = 64 := ring_sec h.rt fr mn
theorem rl (h : Lg l0 l1 fr mn at_ used first many ts) : 1 ≤ (ringL l0 l1 fr mn).length := by rw [ringL_len _ _ _ _ h.hfm]; exact h.hm
theorem may (h : Lg l0 l1 fr mn at_ used first many ts) : mayR l0.length (fr : Int) (mn : Int) = true := by
  have h1 := h.hm; have h2 := h.hfm
  unfold mayR
  rw [decide_eq_true (by omega), decide_eq_true (by omega), decide_eq_true (by omega), decide_eq_true (by omega)]; rfl
theorem all (h : Lg l0 l1 fr mn at_ used first many ts) : found (ringL l0 l1 fr mn) at_ first many = (ts, used) := by
  rw [h.hmany, h.hused]; exact found_all h.rs h.rl h.lay
theorem right (h : Lg l0 l1 fr mn at_ used first many ts) : rightR l0 l1 false (fr : Int) (mn : Int) (at_ : Int) (used : Int) (first : Int) (many : Int) = true := by
  have h1 := h.hat
  unfold rightR foundD
  rw [if_neg (by rintro (k | k | k | k | k); cases k; rw [h.may] at k; cases k; omega; omega; omega)]
  simp only [Int.toNat_natCast]
  rw [h.all, ← h.hmany]
  simp
theorem ok (h : Lg l0 l1 fr mn at_ used first many ts) (h1 : l1.length ≤ 1000000) : RedOk l0 l1 (fr : Int) (mn : Int) (at_ : Int) (first : Int) := by
  have a := h.hm; have b := h.hfm; have c := h.hat; have d := h.hf; have e := h.le
  refine ⟨h.rt.ok (by omega), by omega, by omega, by omega, by omega, by omega, by omega, by omega, by omega, ?_⟩
  rw [Int.toNat_natCast, Int.toNat_natCast]
  exact h.rs
theorem texts (h : Lg l0 l1 fr mn at_ used first many ts) (h1 : l1.length ≤ 1000000) (u : Int) : redo_Texts.f l0 l1 false (fr : Int) (mn : Int) (at_ : Int) u (first : Int) (many : Int) = some (ts, 0) := by
  have e := h.le
  unfold redo_Texts.f foundD
  rw [if_pos ⟨rfl, h.ok h1, by omega, by omega⟩]
  simp only [Int.toNat_natCast]
  rw [h.all]
theorem drop (h : Lg l0 l1 fr mn at_ used first many ts) (a : Nat) (ha : a ≤ many) :
    Lg l0 l1 fr mn ((at_ + needs (ts.take a)) % mn) (used - needs (ts.take a)) ((first + a) % 18446744073709551616) (many - a) (ts.drop a) := by
  have hl := h.hmany
  have e := needs_app (ts.take a) (ts.drop a)
  rw [List.take_append_drop] at e
  have hlt : (ts.take a).length = a := by rw [List.length_take]; omega
  refine ⟨h.rt, h.hm, h.hfm, Nat.mod_lt _ h.hm, Nat.mod_lt _ (by decide), by rw [List.length_drop, hl], by rw [h.hused]; omega, ?_⟩
  have hy := h.lay
  rw [← List.take_append_drop a ts] at hy
  have h2 := ((lay_app _ at_ first (ts.take a) (ts.drop a) 0 0).1 hy).2
  rw [hlt] at h2
  have h3 := lay_shift (ringL l0 l1 fr mn) at_ first (needs (ts.take a)) a (ts.drop a) 0 0 (by rw [Nat.add_zero, Nat.add_zero]; rw [Nat.zero_add, Nat.zero_add] at h2; exact h2)
  rw [ringL_len _ _ _ _ h.hfm] at h3
  exact h3
theorem scan (h : Lg l0 l1 fr mn at_ used first many ts) (h1 : l1.length ≤ 1000000) : ∃ more, redo_Scan.f l0 l1 false (fr : Int) (mn : Int) (at_ : Int) (first : Int) = some ((at_ : Int), ((needs (ts ++ more) : Nat) : Int), (first : Int), (((ts ++ more).length : Nat) : Int), ts ++ more, 0) ∧
    Lg l0 l1 fr mn at_ (needs (ts ++ more)) first (ts ++ more).length (ts ++ more) := by
  have e := h.le
  have hl := h.hmany
  have h0 := h.hat
  obtain ⟨more, e1, e2⟩ := found_pre h.rs h.rl (most := mn) h.lay (by omega)
  have h2 := found_lay h.rs h.rl at_ first mn
  rw [e1] at h2
  refine ⟨more, ?_, ⟨h.rt, h.hm, h.hfm, h.hat, h.hf, rfl, rfl, h2.1⟩⟩
  unfold redo_Scan.f foundD
  rw [if_neg (by rintro ⟨_, k | k | k | k⟩; cases k; rw [h.may] at k; cases k; omega; omega), if_pos ⟨rfl, h.ok h1⟩]
  simp only [Int.toNat_natCast]
  rw [e2, e1]
theorem append (h : Lg l0 l1 fr mn at_ used first many ts) {s : ByteArray} (hs : s.size ≤ 4096) (hu : used + needN s ≤ mn) :
    Lg l0 (l1 ++ laidP fr mn (at_ + used) 0 (pieces (recS ((first + many) % 18446744073709551616) s))) fr mn at_ (used + needN s) first (many + 1) (ts ++ [s]) := by
  have hm := h.hm
  have hfm := h.hfm
  obtain ⟨N, hN⟩ : ∃ N, N = (first + many) % 18446744073709551616 := ⟨_, rfl⟩
  rw [← hN]
  have hpl : (pieces (recS N s)).length = needN s := by rw [pieces_len, ← needN_eq]
  have hrt : Rt l0 (l1 ++ laidP fr mn (at_ + used) 0 (pieces (recS N s))) := by
    have hmem : ∀ (l : List ByteArray) (i : Nat), (∀ s ∈ l, s.size ≤ 64) → ∀ p ∈ laidP fr mn (at_ + used) i l, (0 ≤ p.f0 ∧ p.f0 < (l0.length : Int)) ∧ p.f1.size = 64 := by
      intro l
      induction l with
      | nil => intro i _ p hp; rw [laidP] at hp; cases hp
      | cons x l ih =>
        intro i hx p hp
        rw [laidP] at hp
        rcases List.mem_cons.1 hp with rfl | hp
        · have hlt : (at_ + used + i) % mn < mn := Nat.mod_lt _ hm
          refine ⟨⟨?_, ?_⟩, fillS_size x (hx x List.mem_cons_self)⟩
          · show (0 : Int) ≤ ((fr + (at_ + used + i) % mn : Nat) : Int); omega
          · show ((fr + (at_ + used + i) % mn : Nat) : Int) < _; omega
        · exact ih (i + 1) (fun s hs => hx s (List.mem_cons_of_mem _ hs)) p hp
    have hpc : ∀ x ∈ pieces (recS N s), x.size ≤ 64 := fun x hx => by
      unfold pieces at hx
      obtain ⟨j, _, rfl⟩ := List.mem_map.1 hx
      exact piece_size _ j
    refine ⟨h.rt.pos, h.rt.len, h.rt.rows, fun p hp => ?_, fun p hp => ?_⟩
    · rcases List.mem_append.1 hp with hp | hp
      · exact h.rt.at_ p hp
      · exact (hmem _ 0 hpc p hp).1
    · rcases List.mem_append.1 hp with hp | hp
      · exact h.rt.puts p hp
      · exact (hmem _ 0 hpc p hp).2
  have hle := h.le
  have hmany := h.hmany; have hused := h.hused
  refine ⟨hrt, hm, hfm, h.hat, h.hf, by rw [List.length_append, hmany]; rfl, by rw [needs_app, ← hused]; rfl, ?_⟩
  rw [lay_app]
  refine ⟨lay_same at_ first (by rw [ringL_len _ _ _ _ hfm, ringL_len _ _ _ _ hfm]) ts 0 0 (fun p _ hp => ?_) h.lay, ?_⟩
  · rw [Nat.zero_add, ← hused] at hp
    rw [rg_img hm hfm, rg_img hm hfm, imgL_app]
    refine congrArg (fun x : ByteArray => x.data.toList) (img_out fr mn (at_ + used) _ _ 0 _ (fun q hq => ?_))
    rw [hpl] at hq
    have := mod_ne (b := at_) (m := mn) (show p < used + q by omega) (by omega)
    rw [show at_ + used + (0 + q) = at_ + (used + q) by omega]
    exact fun e => this e.symm
  · rw [lay_cons]
    refine ⟨hs, by rw [ringL_len _ _ _ _ hfm]; omega, fun i hi => ?_, by rw [lay_nil]; trivial⟩
    rw [Nat.zero_add, ← hused, Nat.zero_add, ← hmany, ← hN, rg_img hm hfm, imgL_app, ← fill_sec N s i hi]
    have hi2 : i < (pieces (recS N s)).length := by rw [hpl]; exact hi
    have hin := img_in fr mn (at_ + used) hm (pieces (recS N s)) 0 (imgL l0 l1) i hi2 (by rw [hpl]; omega) (by rw [imgL_len]; exact hfm)
    rw [Nat.zero_add, Nat.add_assoc] at hin
    rw [hin, pieces_get]
theorem appended (h : Lg l0 l1 fr mn at_ used first many ts) (h1 : l1.length ≤ 1000000) {s : ByteArray} (hs : s.size ≤ 4096) :
    redo_Append.f l0 l1 false (fr : Int) (mn : Int) (at_ : Int) (used : Int) (first : Int) (many : Int) s =
      some (if mn < used + needN s then (l0, l1, false, (at_ : Int), (used : Int), (first : Int), (many : Int), 12)
        else (l0, l1 ++ laidP fr mn (at_ + used) 0 (pieces (recS ((first + many) % 18446744073709551616) s)), false, (at_ : Int), ((used + needN s : Nat) : Int), (first : Int), ((many + 1 : Nat) : Int), 0)) := by
  have hle := h.le
  have h66 := need66 hs
  have a := h.hm; have b := h.hfm; have c := h.hat; have d := h.hf
  unfold redo_Append.f
  have hw : wrap64 ((used : Int) + (needN s : Int)) = ((used + needN s : Nat) : Int) := by rw [w64 (by omega) (by omega)]; omega
  rw [if_neg (by decide), if_neg (by omega), hw]
  clear hw
  by_cases hu : mn < used + needN s
  · rw [if_pos (by omega), if_pos hu]
  · rw [if_neg (by omega), if_neg hu, if_pos ⟨by omega, by omega, by omega, by omega, by omega, by omega, by omega, by omega, by omega, by omega, by omega, by omega, by omega, by omega⟩]
    simp only [Int.toNat_natCast]
    rfl
theorem laid_len (s : ByteArray) (fr mn b n : Nat) : (laidP fr mn b 0 (pieces (recS n s))).length = needN s := by rw [laidP_len, pieces_len, ← needN_eq]
end Lg
theorem right_lg {l0 : List ByteArray} {l1 : List S88} {off : Bool} {fr mn at_ used first many : Int} (h : Rt l0 l1) (hf : 0 ≤ first ∧ first < 18446744073709551616) (hr : rightR l0 l1 off fr mn at_ used first many = true) :
    off = false ∧ ∃ (fr' mn' at' used' first' many' : Nat) (ts : List ByteArray), fr = fr' ∧ mn = mn' ∧ at_ = at' ∧ used = used' ∧ first = first' ∧ many = many' ∧ Lg l0 l1 fr' mn' at' used' first' many' ts := by
  unfold rightR at hr
  split at hr
  · cases hr
  · rename_i hn
    have ho : off = false := by cases off with
      | true => exact absurd (.inl rfl) hn
      | false => rfl
    have hmy : mayR l0.length fr mn = true := by cases hm : mayR l0.length fr mn with
      | true => rfl
      | false => exact absurd (.inr (.inl hm)) hn
    have k1 : ¬ at_ < 0 := fun k => hn (.inr (.inr (.inl k)))
    have k2 : ¬ mn ≤ at_ := fun k => hn (.inr (.inr (.inr (.inl k))))
    have k3 : ¬ many < 0 := fun k => hn (.inr (.inr (.inr (.inr k))))
    unfold mayR at hmy
    simp only [Bool.and_eq_true, decide_eq_true_eq] at hmy
    obtain ⟨m1, m2, m3, m4⟩ := hmy
    obtain ⟨fr, rfl⟩ := Int.eq_ofNat_of_zero_le m1
    obtain ⟨mn, rfl⟩ := Int.eq_ofNat_of_zero_le (show 0 ≤ mn by omega)
    obtain ⟨at_, rfl⟩ := Int.eq_ofNat_of_zero_le (show 0 ≤ at_ by omega)
    obtain ⟨first, rfl⟩ := Int.eq_ofNat_of_zero_le hf.1
    obtain ⟨many, rfl⟩ := Int.eq_ofNat_of_zero_le (show 0 ≤ many by omega)
    unfold foundD at hr
    simp only [Int.toNat_natCast, Bool.and_eq_true, beq_iff_eq] at hr
    have hfm : fr + mn ≤ l0.length := by omega
    have hl := found_lay (ring_sec h fr mn) (by rw [ringL_len _ _ _ _ hfm]; omega) at_ first many
    refine ⟨ho, fr, mn, at_, (found (ringL l0 l1 fr mn) at_ first many).2, first, many, (found (ringL l0 l1 fr mn) at_ first many).1, rfl, rfl, rfl, hr.2.symm, rfl, rfl, ?_⟩
    exact ⟨h, by omega, hfm, by omega, by omega, by omega, hl.2.1, hl.1⟩
end Go.Proofs.Ytcbfnfggnocndaa.Pure
end

section
namespace Go.Proofs.Ytcbfnfggnocndaa.Pure
open Go.RowKit Go.Lib Go.Proofs.Ytcbfnfggnocndaa Go.Proofs.Ytcbfnfggnocndaa.Q Go.Proofs.YtcbfnfggnocndaaW.PrintWords Go.Proofs.YtcbfnfggnocndaaW.PrintMore Math
theorem need_Q (s : ByteArray) (hs : s.size ≤ 10000000) : redo_Need.f s = some ((needN s : Nat) : Int) := by
  unfold redo_Need.f; rw [if_pos hs]
def fewB (l0 : List ByteArray) (l1 : List S88) : Bool := decide (l0.length ≤ 40) && (decide (l1.length ≤ 60) && rightB l0 l1)
theorem few_eq (l0 : List ByteArray) (l1 : List S88) (off : Bool) (k : Nat) (hk : 102 < k) : copyholdlaw05_few.f k l0 l1 off = some (fewB l0 l1) := by
  unfold copyholdlaw05_few.f fewB
  by_cases a : l0.length ≤ 40
  · by_cases b : l1.length ≤ 60
    · rw [if_pos (by omega), if_pos (by omega), right_eq l0 l1 off (by omega) (by omega) k (by omega), decide_eq_true a, decide_eq_true b]; rfl
    · rw [if_pos (by omega), if_neg (by omega), decide_eq_true a, decide_eq_false b]; rfl
  · rw [if_neg (by omega), decide_eq_false a]; rfl
theorem few_of {l0 : List ByteArray} {l1 : List S88} (h : fewB l0 l1 = true) : l0.length ≤ 40 ∧ l1.length ≤ 60 ∧ Rt l0 l1 := by
  unfold fewB at h
  simp only [Bool.and_eq_true, decide_eq_true_eq] at h
  exact ⟨h.1, h.2.1, rt_of h.2.2⟩
theorem numS1 {n : Nat} (h : n < 128) : (numS n).size = 1 := by rw [sz, numS_dl, numB_lo (by omega)]; rfl
theorem need_small {s : ByteArray} (h : s.size < 128) : needN s = (s.size + 76) / 64 := by
  have := recS_size 0 s
  rw [numS1 h] at this
  unfold needN; rw [this]; congr 1; omega
def hiS : ByteArray := ⟨#[104, 105]⟩
theorem z2_rt : Rt (List.replicate 2 zeroS) [] := by
  have hz : zeroS.size = 64 := by unfold zeroS; rw [nums_size, List.length_replicate]
  refine ⟨by decide, by decide, fun s hs => ?_, fun p hp => (by cases hp), fun p hp => (by cases hp)⟩
  rw [List.eq_of_mem_replicate hs]; exact hz
theorem hi_need : needN hiS = 1 := need_small (s := hiS) (by decide)
theorem strOfNums_z (n : Nat) : (strOfNums (List.replicate n 0)).size = n := by rw [nums_size, List.length_replicate]
set_option maxRecDepth 100000 in
theorem shown_eq (k : Nat) (hk : 300 ≤ k) : copyholdlaw05_shown.f k = some true := by
  have g0 : Lg (List.replicate 2 zeroS) [] 0 2 0 0 7 0 [] := ⟨z2_rt, by omega, by simp, by omega, by omega, rfl, rfl, by rw [lay_nil]; trivial⟩
  have hN : (7 + 0) % 18446744073709551616 = 7 := by decide
  have g1 := g0.append (s := hiS) (by decide) (by rw [hi_need]; omega)
  have hA := g0.appended (by simp) (s := hiS) (by decide)
  rw [if_neg (by rw [hi_need]; omega)] at hA
  rw [hi_need] at hA g1
  rw [hN] at hA g1
  obtain ⟨more, hS, hL⟩ := g1.scan (by rw [List.length_append, Lg.laid_len, hi_need]; simp)
  have hlay := hL.lay
  obtain rfl : more = [] := by
    cases more with
    | nil => rfl
    | cons x m =>
      exfalso
      change LayF _ 0 7 0 0 (hiS :: x :: m) at hlay
      rw [lay_cons, lay_cons] at hlay
      have h1 := hlay.2.2.2.2.2.1 0 (by have := need_pos x; omega)
      rw [hi_need, rg_img (by omega) (by simp)] at h1
      have ho : (imgL (List.replicate 2 zeroS) (laidP 0 2 0 0 (pieces (recS 7 hiS)))).getD (0 + 1) ⟨#[]⟩ = zeroS := img_out 0 2 0 1 (pieces (recS 7 hiS)) 0 (List.replicate 2 zeroS) (fun q hq => by
        rw [pieces_len, ← needN_eq, hi_need] at hq
        obtain rfl : q = 0 := by omega
        decide)
      rw [List.nil_append] at h1
      rw [show 0 + (0 + (0 + 1 + 0)) % 2 = 0 + 1 by decide] at h1
      rw [show (0 + 0 : Nat) = 0 by decide] at h1
      rw [ho, show (7 + (0 + 1)) % 18446744073709551616 = 8 by decide] at h1
      have h2 := congrArg (List.take 8) h1
      unfold secR sec at h2
      rw [Nat.mul_zero, List.drop_zero, List.take_take, show min 8 64 = 8 by decide, padB_head] at h2
      revert h2
      decide +kernel
  rw [List.append_nil] at hS
  have hr : copyholdref04_New.f k 2 = some (List.replicate 2 zeroS, [], false, 0) := new_ref 2 (by omega) (by omega) k (by omega)
  unfold copyholdlaw05_shown.f
  rw [bs hr]
  dsimp only
  have hA2 : redo_Append.f (List.replicate 2 zeroS) [] false 0 2 0 0 7 0 (⟨#[104, 105]⟩ : ByteArray) = _ := hA
  rw [bs hA2]
  dsimp only
  have hS2 : redo_Scan.f (List.replicate 2 zeroS) ([] ++ laidP 0 2 (0 + 0) 0 (pieces (recS 7 hiS))) false 0 2 0 7 = _ := hS
  rw [bs hS2]
  dsimp only
  rw [if_pos rfl, if_pos rfl, if_pos (by decide), if_pos (by decide), if_pos (by decide), if_pos (by decide), if_pos (by decide +kernel), if_pos (by decide),
    bs (need_Q _ (by rw [strOfNums_z]; omega)), need_small (by rw [strOfNums_z]; omega), strOfNums_z, if_pos (by decide), if_pos (by decide),
    bs (need_Q _ (by rw [strOfNums_z]; omega)), need_small (by rw [strOfNums_z]; omega), strOfNums_z]
  rfl
theorem strings_some (x y : List ByteArray) (hx : x.length ≤ 1000000) (k : Nat) (hk : x.length < k) : ∃ b, copyholdref01_Strings.f k x y = some b := by
  unfold copyholdref01_Strings.f
  by_cases h : (x.length : Int) = (y.length : Int)
  · rw [if_pos h]
    have go : ∀ (n i k : Nat), i + n = x.length → n < k → ∃ b, copyholdref01_Strings.l0 k x y (i : Int) = some b := by
      intro n
      induction n with
      | zero => intro i k hi hk; obtain ⟨k, rfl⟩ : ∃ j, k = j + 1 := ⟨k - 1, by omega⟩; exact ⟨true, by rw [copyholdref01_Strings.l0, if_neg (by omega)]⟩
      | succ n ih =>
        intro i k hi hk; obtain ⟨k, rfl⟩ : ∃ j, k = j + 1 := ⟨k - 1, by omega⟩
        rw [copyholdref01_Strings.l0, if_pos (by omega), if_pos (by omega), if_pos (by omega)]
        split
        · rw [w64 (by omega) (by omega), show (i : Int) + 1 = ((i + 1 : Nat) : Int) by omega]
          exact ih (i + 1) k (by omega) (by omega)
        · exact ⟨false, rfl⟩
    exact go x.length 0 k (by omega) hk
  · rw [if_neg h]; exact ⟨false, rfl⟩
end Go.Proofs.Ytcbfnfggnocndaa.Pure
end

section
namespace Go.Proofs.Ytcbfnfggnocndaa.Pure
open Go.RowKit Go.Proofs.Ytcbfnfggnocndaa.Q Go.Proofs.YtcbfnfggnocndaaW.PrintWords Math
theorem chosenL_stop {α : Type} (is : Nat → Bool) (qs : List α) (i : Nat) (h : ∀ j, i ≤ j → is j = false) : ∀ n, chosenL is qs (i + n) = chosenL is qs i
  | 0 => rfl
  | n + 1 => by
    rw [show i + (n + 1) = (i + n) + 1 by omega, chosenL, if_neg (by rw [h (i + n) (by omega)]; simp), chosenL_stop is qs i h n]
theorem crash_ref {l0 : List ByteArray} {l1 : List S88} (off : Bool) (h : Rt l0 l1) (h1 : l1.length ≤ 1000000) (keep : List Bool) (k : Nat) (hk : 2 * l1.length + 2 < k) : copyholdref04_Crash.f k l0 l1 off keep = some (doneL l0 l1 (keptAt keep), [], false) := by
  have hl := h.len
  have go : ∀ (n i k : Nat), i + n = l1.length → 2 * n + 2 ≤ k → copyholdref04_Crash.l0 k keep (imgL l0 (chosenL (keptAt keep) l1 i)) (i : Int) l0 l1 off = some (doneL l0 l1 (keptAt keep), [], false) := by
    intro n
    induction n with
    | zero =>
      intro i k hi hk; obtain ⟨k, rfl⟩ : ∃ j, k = j + 2 := ⟨k - 2, by omega⟩
      rw [copyholdref04_Crash.l0, if_neg (by omega), copyholdref04_Crash.j1, if_neg (by simp)]
      unfold doneL; rw [show i = l1.length by omega]
    | succ n ih =>
      intro i k hi hk; obtain ⟨k, rfl⟩ : ∃ j, k = j + 2 := ⟨k - 2, by omega⟩
      have hi' : i < l1.length := by omega
      have ha := h.at_ _ (List.getElem_mem hi')
      rw [copyholdref04_Crash.l0, if_pos (by omega), copyholdref04_Crash.j1]
      by_cases hkp : i < keep.length
      · rw [if_pos (decide_eq_true (by omega : (i : Int) < (keep.length : Int))), if_pos (by omega), if_pos (by omega)]
        have hrd : rdOf false keep (i : Int) = keptAt keep i := rfl
        have hc : chosenL (keptAt keep) l1 (i + 1) = if keptAt keep i = true then chosenL (keptAt keep) l1 i ++ [l1[i]] else chosenL (keptAt keep) l1 i := by
          rw [chosenL, List.getElem?_eq_getElem hi']; rfl
        rw [hrd]
        by_cases hq : keptAt keep i = true
        · rw [if_pos hq] at hc ⊢
          rw [if_pos (by omega), rdp hi', if_pos ha.1, if_pos (by rw [imgL_len]; exact ha.2), ← imgL_snoc, ← hc, w64 (by omega) (by omega), show (i : Int) + 1 = ((i + 1 : Nat) : Int) by omega]
          exact ih (i + 1) k (by omega) (by omega)
        · rw [if_neg hq] at hc ⊢
          rw [← hc, w64 (by omega) (by omega), show (i : Int) + 1 = ((i + 1 : Nat) : Int) by omega]
          exact ih (i + 1) k (by omega) (by omega)
      · rw [if_neg (by simpa using hkp)]
        unfold doneL
        rw [show l1.length = i + (n + 1) by omega, chosenL_stop (keptAt keep) l1 i (fun j hj => by unfold keptAt; simp [List.getD_eq_getElem?_getD, List.getElem?_eq_none (show keep.length ≤ j by omega)])]
  unfold copyholdref04_Crash.f
  rw [bs rfl, if_pos (by simp; omega)]
  exact go l1.length 0 k (by omega) (by omega)
end Go.Proofs.Ytcbfnfggnocndaa.Pure
end

section
namespace Go.Proofs.Ytcbfnfggnocndaa.Pure
open Go.RowKit Go.Lib Go.Proofs.Ytcbfnfggnocndaa Go.Proofs.Ytcbfnfggnocndaa.Q Go.Proofs.YtcbfnfggnocndaaW.PrintWords Go.Proofs.YtcbfnfggnocndaaW.PrintMore Math
theorem flush_ref {l0 : List ByteArray} {l1 : List S88} (off : Bool) (h : Rt l0 l1) (h1 : l1.length ≤ 1000000) : copyholdref04_Flush.f l0 l1 off = some (if off = true then (l0, l1, off, 19) else (imgL l0 l1, [], false, 0)) := by
  unfold copyholdref04_Flush.f
  have hi : copyholdref04_Image.f l0 l1 off = some (imgL l0 l1) := by unfold copyholdref04_Image.f; rw [if_pos ⟨of_rt h, h1⟩]
  by_cases o : off = true
  · rw [if_pos o, if_pos o]
  · rw [if_neg o, if_neg o, bs hi]
theorem long_go (l : List ByteArray) (hl : l.length ≤ 10) (hs : ∀ s ∈ l, s.size ≤ 140737488351232) : ∀ (n i k : Nat) (acc : Int), i + n = l.length → n < k → 0 ≤ acc → acc + 140737488351232 * (n : Int) ≤ 1407374883513000 →
    ∃ r, copyholdref01_Long.l0 k l acc (i : Int) = some r ∧ acc ≤ r ∧ ∀ j (hj : j < l.length), i ≤ j → (l[j].size : Int) ≤ r := by
  intro n
  induction n with
  | zero =>
    intro i k acc hi hk h0 h1; obtain ⟨k, rfl⟩ : ∃ j, k = j + 1 := ⟨k - 1, by omega⟩
    exact ⟨acc, by rw [copyholdref01_Long.l0, if_neg (by omega)], Int.le_refl _, fun j hj hij => by omega⟩
  | succ n ih =>
    intro i k acc hi hk h0 h1; obtain ⟨k, rfl⟩ : ∃ j, k = j + 1 := ⟨k - 1, by omega⟩
    have hil : i < l.length := by omega
    have hsz := hs _ (List.getElem_mem hil)
    rw [copyholdref01_Long.l0, if_pos (by omega), if_pos (by omega), rdo hil, w64 (n := acc + (l[i].size : Int)) (by omega) (by omega), w64 (n := (i : Int) + 1) (by omega) (by omega), show (i : Int) + 1 = ((i + 1 : Nat) : Int) by omega]
    obtain ⟨r, e, h2, h3⟩ := ih (i + 1) k (acc + (l[i].size : Int)) (by omega) (by omega) (by omega) (by omega)
    refine ⟨r, e, by omega, fun j hj hij => ?_⟩
    by_cases hji : j = i
    · subst hji; omega
    · exact h3 j hj (by omega)
theorem long_eq (l : List ByteArray) (hl : l.length ≤ 10) (hs : ∀ s ∈ l, s.size ≤ 140737488351232) (k : Nat) (hk : 20 ≤ k) : ∃ r, copyholdref01_Long.f k l = some r ∧ ∀ s ∈ l, (s.size : Int) ≤ r := by
  obtain ⟨r, e, _, h⟩ := long_go l hl hs l.length 0 k (l.length : Int) (by omega) (by omega) (by omega) (by omega)
  refine ⟨r, e, fun s hs => ?_⟩
  obtain ⟨j, hj, rfl⟩ := List.mem_iff_getElem.1 hs
  exact h j hj (Nat.zero_le _)
theorem laid_at (fr mn b : Nat) : ∀ (l : List ByteArray) (i : Nat), ∀ p ∈ laidP fr mn b i l, ∃ q, q < l.length ∧ p.f0.toNat = fr + (b + (i + q)) % mn
  | [], _, p, hp => by rw [laidP] at hp; cases hp
  | s :: l, i, p, hp => by
    rw [laidP] at hp
    rcases List.mem_cons.1 hp with rfl | hp
    · exact ⟨0, by rw [List.length_cons]; omega, by show ((fr + (b + i) % mn : Nat) : Int).toNat = _; rw [Int.toNat_natCast, Nat.add_zero]⟩
    · obtain ⟨q, hq, e⟩ := laid_at fr mn b l (i + 1) p hp
      exact ⟨q + 1, by rw [List.length_cons]; omega, by rw [e, show i + 1 + q = i + (q + 1) by omega]⟩
theorem crash_l0 {l0 : List ByteArray} (keep : List Bool) (texts : List ByteArray) {fr mn at_ used0 first many0 : Nat} {ts : List ByteArray} (g0 : Lg l0 [] fr mn at_ used0 first many0 ts) (hlen : l0.length ≤ 40) (ht : texts.length ≤ 10) (hts : ∀ s ∈ texts, s.size ≤ 1000) (u0 : Int) :
    ∀ (n i k : Nat) (l1 : List S88) (used many : Nat) (more : List ByteArray), i + n = texts.length → 20050000 + n ≤ k → l1.length ≤ used → Lg l0 l1 fr mn at_ used first many (ts ++ more) →
      (∀ p ∈ l1, ∀ x, x < used0 → p.f0.toNat ≠ fr + (at_ + x) % mn) →
      copyholdlaw05_RedoCrash.l0 k texts keep true (i : Int) (fr : Int) (mn : Int) (at_ : Int) u0 (first : Int) (many0 : Int) l0 l1 false (at_ : Int) (used : Int) (first : Int) (many : Int) = some true := by
  intro n
  induction n with
  | zero =>
    intro i k l1 used many more hi hk hl1 g hp
    obtain ⟨k, rfl⟩ : ∃ j, k = j + 2 := ⟨k - 2, by omega⟩
    have hle := g.le
    have hle0 := g0.le
    have hmany := g.hmany
    have hmany0 := g0.hmany
    have hfm := g0.hfm
    have hT := g.texts (by omega) (used : Int)
    have hC := crash_ref false g.rt (by omega) keep (k + 1) (by omega)
    have gC : Lg (doneL l0 l1 (keptAt keep)) [] fr mn at_ used0 first many0 ts := by
      refine ⟨g.rt.done _, g0.hm, by rw [doneL_len]; exact hfm, g0.hat, g0.hf, g0.hmany, g0.hused, ?_⟩
      refine lay_same at_ first (by rw [ringL_len _ _ _ _ hfm, ringL_len _ _ _ _ (by rw [doneL_len]; exact hfm)]) ts 0 0 (fun x _ hx => ?_) g0.lay
      rw [Nat.zero_add, ← g0.hused] at hx
      rw [rg_img g0.hm (by rw [doneL_len]; exact hfm), rg_img g0.hm hfm]
      show ((doneL l0 l1 (keptAt keep)).getD _ _).data.toList = (l0.getD _ _).data.toList
      congr 2
      unfold doneL
      rcases imgL_at (fr + (at_ + x) % mn) (chosenL (keptAt keep) l1 l1.length) l0 with h | ⟨p, hpm, h1, _⟩
      · rw [List.getD_eq_getElem?_getD, List.getD_eq_getElem?_getD, h]
      · exact absurd h1 (hp p (chosenL_mem _ _ _ p hpm) x hx)
    obtain ⟨mo, hS, gS⟩ := gC.scan (by simp)
    have hleS := gS.le
    rw [doneL_len] at hleS
    have hmS := gS.hmany
    rw [copyholdlaw05_RedoCrash.l0, if_neg (by omega), bs hT]
    dsimp only
    rw [bs hC]
    dsimp only
    rw [bs hS]
    dsimp only
    have hlm : (ts ++ more).length = many := hmany.symm
    rw [if_pos rfl, if_pos (by omega), decide_eq_false (by rw [List.length_append] at hlm; omega), copyholdlaw05_RedoCrash.j2, if_neg (by decide)]
    by_cases hg : ((ts ++ mo).length : Int) > ((ts ++ more).length : Int)
    · rw [if_pos hg]
    · rw [if_neg hg, if_pos (by omega), if_pos (by omega)]
      obtain ⟨b, hb⟩ := strings_some (ts ++ mo) ((ts ++ more).take ((ts ++ mo).length : Int).toNat) (by omega) k (by omega)
      rw [bs hb]
      cases b with
      | false => rfl
      | true => rw [if_pos rfl, if_pos rfl, if_pos rfl, decide_eq_true (by rw [List.length_append]; omega)]
  | succ n ih =>
    intro i k l1 used many more hi hk hl1 g hp
    obtain ⟨k, rfl⟩ : ∃ j, k = j + 1 := ⟨k - 1, by omega⟩
    have hil : i < texts.length := by omega
    have hs1 : texts[i].size ≤ 1000 := hts _ (List.getElem_mem hil)
    have hle := g.le
    have hle0 := g0.le
    have hu0 : used0 ≤ used := by
      have h1 := g.hused; have h2 := g0.hused
      rw [needs_app] at h1; omega
    have hA := g.appended (by omega) (s := texts[i]) (by omega)
    rw [copyholdlaw05_RedoCrash.l0, if_pos (by omega), if_pos (by omega), rdo hil, bs hA, w64 (n := (i : Int) + 1) (by omega) (by omega), show (i : Int) + 1 = ((i + 1 : Nat) : Int) by omega]
    by_cases hu : mn < used + needN texts[i]
    · rw [if_pos hu]
      exact ih (i + 1) k l1 used many more (by omega) (by omega) hl1 g hp
    · rw [if_neg hu]
      refine ih (i + 1) k _ (used + needN texts[i]) (many + 1) (more ++ [texts[i]]) (by omega) (by omega) (by rw [List.length_append, Lg.laid_len]; omega) (by rw [← List.append_assoc]; exact g.append (by omega) (by omega)) ?_
      intro p hpm x hx
      rcases List.mem_append.1 hpm with hpm | hpm
      · exact hp p hpm x hx
      · obtain ⟨q, hq, e⟩ := laid_at _ _ _ _ _ p hpm
        rw [pieces_len, ← needN_eq] at hq
        rw [e]
        have := mod_ne (b := at_) (m := mn) (show x < used + q by omega) (by omega)
        rw [show at_ + used + (0 + q) = at_ + (used + q) by omega]
        omega
theorem RedoCrash : RedoCrashSt := by
  unfold RedoCrashSt
  intro l0 l1 off fr mn at_ used first many texts keep _ _ _ _ _ _ hf hmm htx _
  obtain ⟨k, hk⟩ : ∃ k, 20060000 ≤ k := ⟨_, Nat.le_refl _⟩
  refine ⟨k + 1, ?_⟩
  have hj : ∀ b, copyholdlaw05_RedoCrash.j0 (k + 1) texts keep true true l0 l1 off fr mn at_ used first many = b → b = some true := fun b h => by rw [← h, copyholdlaw05_RedoCrash.j0, if_pos rfl]
  unfold copyholdlaw05_RedoCrash.f
  rw [bs (shown_eq (k + 1) (by omega)), bs (few_eq l0 l1 off (k + 1) (by omega))]
  by_cases hfw : fewB l0 l1 = true
  · obtain ⟨n0, n1, hrt⟩ := few_of hfw
    rw [if_pos hfw]
    by_cases hl : (texts.length : Int) > 10
    · rw [if_pos hl]; exact hj _ rfl
    · rw [if_neg hl]
      obtain ⟨r, hr1, hr2⟩ := long_eq texts (by omega) htx.2 (k + 1) (by omega)
      rw [bs hr1]
      by_cases hrr : r > 1000
      · rw [if_pos hrr]; exact hj _ rfl
      · rw [if_neg hrr, bs (right_ref off hrt (by omega) (litu64 hf) (lit64 hmm).2)]
        cases hr : rightR l0 l1 off fr mn at_ used first many with
        | false => exact hj _ rfl
        | true =>
          clear hj
          obtain ⟨rfl, fr, mn, at_, used, first, many, ts, rfl, rfl, rfl, rfl, rfl, rfl, g⟩ := right_lg hrt (litu64 hf) hr
          have hF := flush_ref false hrt (by omega)
          rw [if_neg (by decide)] at hF
          have hrf : Rt (imgL l0 l1) [] := by have := hrt.done (fun _ => true); rwa [doneL_all _ _ _ (fun _ _ => rfl)] at this
          have g0 : Lg (imgL l0 l1) [] fr mn at_ used first many ts := by
            refine ⟨hrf, g.hm, by rw [imgL_len]; exact g.hfm, g.hat, g.hf, g.hmany, g.hused, ?_⟩
            have e : ringL (imgL l0 l1) [] fr mn = ringL l0 l1 fr mn := by
              unfold ringL
              rw [doneL_all _ _ _ (fun _ _ => rfl), doneL_all _ _ _ (fun _ _ => rfl)]; rfl
            rw [e]; exact g.lay
          rw [copyholdlaw05_RedoCrash.j0, if_neg (by decide), bs hF]
          exact crash_l0 keep texts g0 (by rw [imgL_len]; omega) (by omega) (fun s hs => by have := hr2 s hs; omega) _ texts.length 0 k [] used many [] (by omega) (by omega) (by simp) (by rw [List.append_nil]; exact g0) (fun p hp => by cases hp)
  · rw [if_neg hfw]; exact hj _ rfl
end Go.Proofs.Ytcbfnfggnocndaa.Pure
end
