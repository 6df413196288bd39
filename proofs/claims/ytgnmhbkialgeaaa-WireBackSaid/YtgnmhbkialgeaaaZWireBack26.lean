import Derived.Test.YtgnmhbkialgeaaaRows
import Derived.Test.YtgnmhbkialgeaaaZWireBack0
import Derived.ProofKit
import Derived.SizedLaws
import Derived.Test.YtgnmhbkialgeaaaZWireBack23
import Derived.Test.YtgnmhbkialgeaaaZWireBack22
import Derived.Test.YtgnmhbkialgeaaaZWireBack24
import Derived.Test.YtgnmhbkialgeaaaZWireBack25
section
/- How an argument of any plain type (numbers, bools, texts, slices, structs, nested) is opened: what it reads as, by its kind; its sizes; its bulk. -/
set_option linter.unusedVariables false
set_option linter.unusedSimpArgs false
namespace Go.Proofs.Ytgnmhbkialgeaaa.Opn
open Go.Proofs.YtgnmhbkialgeaaaW.PrintWords

theorem mapM_some {α β : Type} {f : α → Option β} : ∀ {l : List α} {ys : List β}, l.mapM f = some ys → ys.length = l.length ∧ ∀ i (h : i < l.length) (h2 : i < ys.length), f l[i] = some ys[i] := by
  intro l
  induction l with
  | nil => intro ys h; simp at h; subst h; exact ⟨rfl, fun i h => by cases h⟩
  | cons a l ih =>
    intro ys h
    rw [List.mapM_cons] at h
    simp only [Option.bind_eq_bind, Option.bind_eq_some_iff] at h
    obtain ⟨y, h1, ys', h2, h3⟩ := h
    simp at h3; subst h3
    obtain ⟨hl, hi⟩ := ih h2
    refine ⟨by simp [hl], fun i h h2 => ?_⟩
    cases i with
    | zero => exact h1
    | succ i => exact hi i (by simpa using h) (by simpa using h2)
theorem choose_list {α : Type} {n : Nat} {R : Nat → α → Prop} (h : ∀ i, i < n → ∃ x, R i x) : ∃ xs : List α, xs.length = n ∧ ∀ i (hi : i < xs.length), R i xs[i] := by
  induction n with
  | zero => exact ⟨[], rfl, fun i hi => by cases hi⟩
  | succ n ih =>
    obtain ⟨xs, hl, hx⟩ := ih (fun i hi => h i (by omega))
    obtain ⟨x, hx'⟩ := h n (by omega)
    refine ⟨xs ++ [x], by simp [hl], fun i hi => ?_⟩
    by_cases hin : i < xs.length
    · rw [List.getElem_append_left hin]; exact hx i hin
    · have : i = n := by simp [hl] at hi; omega
      subst this
      rw [List.getElem_append_right (by omega)]
      simpa [hl] using hx'

structure Opens {H : Type} (enc : TypeId × Value → H) (P : Program) (w : World) (t : TypeId) {α : Type} (K : Kd α) (G : α → Prop) (b : α → Nat) : Prop where
  sz : P.cellsOf t = K.sz
  open_ : ∀ fuel cs (d : DataW H) ps, DataW.trod enc P w 0 (fun _ => true) true fuel t cs = some (d, ps) → ∃ x, K.K w x cs ∧ ((∀ n ∈ d.weights P t, n ≤ reachBytes) → G x) ∧ b x ≤ Rows.uptoBulk d

section
variable {H : Type} {enc : TypeId × Value → H} {P : Program} {w : World}

theorem opens_int {t : TypeId} {k : IntKind} (hu : P.underlying t = some (.int k)) (hs : P.cellsOf t = 1) : Opens enc P w t (Kd.int k) (fun x => (Lit.int k x).wf = true) (fun _ => 1) := by
  refine ⟨hs, fun fuel cs d ps h => ?_⟩
  obtain ⟨n, rfl, hx, hw⟩ := DataW.trod_int hu h
  obtain ⟨rfl, rfl⟩ := Prod.mk.inj hx
  exact ⟨n, rfl, fun _ => hw, by simp [Rows.uptoBulk]⟩
theorem opens_string {t : TypeId} (hu : P.underlying t = some .string) (hs : P.cellsOf t = 1) : Opens enc P w t Kd.string (fun x => x.size ≤ reachBytes) (fun x => x.size + 1) := by
  refine ⟨hs, fun fuel cs d ps h => ?_⟩
  obtain ⟨s, rfl, hx, _⟩ := DataW.trod_string hu h
  obtain ⟨rfl, rfl⟩ := Prod.mk.inj hx
  refine ⟨s, rfl, fun hw => ?_, ?_⟩
  · have := hw s.data.toList.length (by simp [DataW.weights])
    rw [Array.length_toList] at this; exact this
  · simp only [Rows.uptoBulk, Array.length_toList]; exact Nat.le_refl _
theorem bulk_all {α : Type} {b : α → Nat} : ∀ (xs : List α) (ds : List (DataW H)), xs.length = ds.length → (∀ i (h : i < xs.length) (h2 : i < ds.length), b xs[i] ≤ Rows.uptoBulk ds[i]) → (xs.map b).sum ≤ Rows.uptoBulkAll ds := by
  intro xs
  induction xs with
  | nil => intro ds hl _; simp
  | cons x xs ih =>
    intro ds hl h
    cases ds with
    | nil => cases hl
    | cons d ds =>
      have h0 := h 0 (by simp) (by simp)
      have h1 := ih ds (by simpa using hl) (fun i hi h2 => h (i + 1) (by simpa using hi) (by simpa using h2))
      simp only [List.map_cons, List.sum_cons, Rows.uptoBulkAll, List.getElem_cons_zero] at h0 ⊢
      omega
theorem weights_all {e : TypeId} {ds : List (DataW H)} {d : DataW H} (h : d ∈ ds) : ∀ n ∈ d.weights P e, n ∈ DataW.weightsAll P e ds := by
  induction ds with
  | nil => cases h
  | cons x ds ih =>
    intro n hn
    rw [DataW.weightsAll]
    rcases List.mem_cons.1 h with rfl | h
    · exact List.mem_append_left _ hn
    · exact List.mem_append_right _ (ih h n hn)
theorem opens_slice {t e : TypeId} {α : Type} {K : Kd α} {G : α → Prop} {b : α → Nat} (hu : P.underlying t = some (.slice e)) (hs : P.cellsOf t = 1) (ho : Opens enc P w e K G b) :
    Opens enc P w t (Kd.slice e K) (fun xs => xs.length * P.bytesOf e ≤ reachBytes ∧ ∀ x ∈ xs, G x) (fun xs => (xs.map b).sum + 1) := by
  refine ⟨hs, fun fuel cs d ps h => ?_⟩
  cases fuel with
  | zero => simp [DataW.trod] at h
  | succ fuel =>
    unfold DataW.trod at h
    rw [hu] at h
    split at h <;> try (simp_all; done)
    · rename_i h1
      simp at h
      obtain ⟨rfl, rfl⟩ := h
      refine ⟨[], ⟨none, 0, rfl, Nat.le_refl _, rfl, by simp, fun h => by simp at h⟩, fun _ => ⟨by simp, by simp⟩, by simp [Rows.uptoBulk]⟩
    · rename_i e' a len cap h1
      obtain rfl : e = e' := by simpa using h1
      dsimp only at h
      split at h
      · rename_i hc
        simp only [Option.bind_eq_some_iff, Option.map_eq_some_iff] at h
        obtain ⟨elems, he, rest, hr, h⟩ := h
        simp only [Prod.mk.injEq] at h
        obtain ⟨rfl, rfl⟩ := h
        obtain ⟨hl, hi⟩ := mapM_some he
        rw [List.length_range] at hl
        have hex : ∀ i, i < len → ∃ x, (∃ c, c.length = K.sz ∧ K.K w x c ∧ ∀ j u, c[j]? = some u → w.cell? (a.add (i * K.sz + j)) = some u) ∧ (∀ h2 : i < elems.length, ((∀ n ∈ (elems[i]).1.weights P e, n ≤ reachBytes) → G x) ∧ b x ≤ Rows.uptoBulk (elems[i]).1) := by
          intro i hilt
          have h2 : i < elems.length := by omega
          have hh := hi i (by simpa using hilt) h2
          rw [List.getElem_range] at hh
          simp only [Option.bind_eq_some_iff] at hh
          obtain ⟨c, hc1, hc2⟩ := hh
          obtain ⟨x, hx1, hx2, hx3⟩ := ho.open_ fuel c (elems[i]).1 (elems[i]).2 hc2
          refine ⟨x, ⟨c, K.K_len hx1, hx1, fun j u hju => ?_⟩, fun _ => ⟨hx2, hx3⟩⟩
          unfold World.cells? at hc1
          split at hc1
          · obtain ⟨hcl, hci⟩ := mapM_some hc1
            rw [List.length_range] at hcl
            have hj : j < c.length := (List.getElem?_eq_some_iff.1 hju).1
            have h5 := hci j (by simpa [← hcl] using hj) hj
            rw [List.getElem_range] at h5
            have h6 : c[j] = u := (List.getElem?_eq_some_iff.1 hju).2
            rw [h6, ho.sz] at h5
            rw [Addr.add_add] at h5
            exact h5
          · cases hc1
        obtain ⟨xs, hxl, hx⟩ := choose_list hex
        have hel : elems.length = xs.length := by omega
        refine ⟨xs, ⟨some a, cap, by rw [hxl], by omega, rfl, ?_, fun _ => ⟨a, rfl, fun j p hjp => ?_⟩⟩, fun hw => ⟨?_, fun x hxm => ?_⟩, ?_⟩
        · have := hc.2.2; unfold maxLen at this; omega
        · have hj : j < xs.length := (List.getElem?_eq_some_iff.1 hjp).1
          have hp : xs[j] = p := (List.getElem?_eq_some_iff.1 hjp).2
          rw [← hp]; exact (hx j hj).1
        · have h7 := hw ((((elems.map (·.1)).length) + (rest.map (·.1)).length) * P.bytesOf e) (by simp [DataW.weights, hu])
          refine Nat.le_trans (Nat.mul_le_mul_right _ ?_) h7
          simp only [List.length_map]; omega
        · obtain ⟨j, hj, rfl⟩ := List.getElem_of_mem hxm
          refine ((hx j hj).2 (by omega)).1 (fun n hn => hw n ?_)
          simp only [DataW.weights, hu]
          refine List.mem_cons_of_mem _ (List.mem_append_left _ (weights_all ?_ n hn))
          exact List.mem_map.2 ⟨elems[j]'(by omega), List.getElem_mem _, rfl⟩
        · have h8 := bulk_all (b := b) xs (elems.map (·.1)) (by simp [hel]) (fun i h h2 => by
            have := ((hx i h).2 (by simpa using h2)).2
            simpa using this)
          simp only [Rows.uptoBulk]
          omega
      · cases h

structure OpensF {H : Type} (enc : TypeId × Value → H) (P : Program) (w : World) (fs : List Field) (off : Nat) {α : Type} (K : Kd α) (G : α → Prop) (b : α → Nat) : Prop where
  open_ : ∀ fuel (cs : List Value) (xs : List (DataW H × List MemPlace)), fs.mapM (fun f => DataW.trod enc P w 0 (fun _ => true) true fuel f.type ((cs.drop f.offset).take (P.cellsOf f.type))) = some xs →
    ∃ x, K.K w x ((cs.drop off).take K.sz) ∧ ((∀ n ∈ DataW.weightsEach P (fs.map (·.type)) (xs.map (·.1)), n ≤ reachBytes) → G x) ∧ b x ≤ Rows.uptoBulkAll (xs.map (·.1))
theorem opensF_one {f : Field} {α : Type} {K : Kd α} {G : α → Prop} {b : α → Nat} (ho : Opens enc P w f.type K G b) : OpensF enc P w [f] f.offset K G b := by
  refine ⟨fun fuel cs xs h => ?_⟩
  rw [List.mapM_cons, List.mapM_nil] at h
  simp only [Option.bind_eq_bind, Option.bind_eq_some_iff] at h
  obtain ⟨y, h1, ys', h2, h3⟩ := h
  simp at h2 h3; subst h2; subst h3
  obtain ⟨x, hx1, hx2, hx3⟩ := ho.open_ fuel _ y.1 y.2 h1
  rw [ho.sz] at hx1
  refine ⟨x, hx1, fun hw => hx2 (fun n hn => hw n ?_), by simpa [Rows.uptoBulkAll] using hx3⟩
  simp [DataW.weightsEach, hn]
theorem opensF_cons {f : Field} {fs : List Field} {α β : Type} {K0 : Kd α} {G0 : α → Prop} {b0 : α → Nat} {K1 : Kd β} {G1 : β → Prop} {b1 : β → Nat} (ho : Opens enc P w f.type K0 G0 b0) {off : Nat} (hoff : off = f.offset + K0.sz) (hr : OpensF enc P w fs off K1 G1 b1) :
    OpensF enc P w (f :: fs) f.offset (Kd.pair K0 K1) (fun p => G0 p.1 ∧ G1 p.2) (fun p => b0 p.1 + b1 p.2) := by
  subst hoff
  refine ⟨fun fuel cs xs h => ?_⟩
  rw [List.mapM_cons] at h
  simp only [Option.bind_eq_bind, Option.bind_eq_some_iff] at h
  obtain ⟨y, h1, ys', h2, h3⟩ := h
  simp at h3; subst h3
  obtain ⟨x, hx1, hx2, hx3⟩ := ho.open_ fuel _ y.1 y.2 h1
  rw [ho.sz] at hx1
  obtain ⟨z, hz1, hz2, hz3⟩ := hr.open_ fuel cs ys' h2
  refine ⟨(x, z), ⟨_, _, ?_, hx1, hz1⟩, fun hw => ⟨hx2 (fun n hn => hw n ?_), hz2 (fun n hn => hw n ?_)⟩, ?_⟩
  · show List.take (K0.sz + K1.sz) _ = _
    rw [List.take_add, List.drop_drop]
  · simp only [List.map_cons, DataW.weightsEach]; exact List.mem_append_left _ hn
  · simp only [List.map_cons, DataW.weightsEach]; exact List.mem_append_right _ hn
  · simp only [List.map_cons, Rows.uptoBulkAll]; omega
theorem opens_struct {t : TypeId} {fs : Array Field} {α β : Type} {K : Kd α} {G : α → Prop} {b : α → Nat} (f : β → α) (g : α → β) (hfg : ∀ x, f (g x) = x) (hu : P.underlying t = some (.struct fs)) (hs : P.cellsOf t = K.sz) (hf : OpensF enc P w fs.toList 0 K G b) :
    Opens enc P w t (Kd.iso K f) (fun x => G (f x)) (fun x => b (f x) + 1) := by
  refine ⟨hs, fun fuel cs d ps h => ?_⟩
  cases fuel with
  | zero => simp [DataW.trod] at h
  | succ fuel =>
    unfold DataW.trod at h
    rw [hu] at h
    split at h <;> try (simp_all; done)
    rename_i fs' h1
    obtain rfl : fs = fs' := by simpa using h1
    split at h
    · rename_i hl
      simp only [Option.map_eq_some_iff] at h
      obtain ⟨xs, hx, h⟩ := h
      simp only [Prod.mk.injEq] at h
      obtain ⟨rfl, rfl⟩ := h
      obtain ⟨x, hx1, hx2, hx3⟩ := hf.open_ fuel _ xs hx
      rw [List.drop_zero, List.take_of_length_le (by omega)] at hx1
      refine ⟨g x, ?_, ?_, ?_⟩
      · show K.K w (f (g x)) _
        rw [hfg]; exact hx1
      · intro hw
        show G (f (g x))
        rw [hfg]
        refine hx2 (fun n hn => hw n ?_)
        simpa [DataW.weights, hu] using hn
      · show b (f (g x)) + 1 ≤ _
        rw [hfg]
        simp only [Rows.uptoBulk]
        omega
    · cases h
end
end Go.Proofs.Ytgnmhbkialgeaaa.Opn
end

section
/- Layer 15, plain: what wire.Call, Msg and Rsp lay; that it is taken back; that what is taken was laid; that a beginning isn't taken. -/
set_option linter.unusedVariables false
set_option linter.unusedSimpArgs false
namespace Go.Proofs.Ytgnmhbkialgeaaa
open Math

def InL (l : List Int) : Prop := ∀ n ∈ l, -9223372036854775808 ≤ n ∧ n ≤ 9223372036854775807
theorem inI_of {l : List Int} (h : InL l) : inI l = true := by
  unfold inI
  rw [List.all_eq_true]
  intro n hn
  have := h n hn
  simp [this.1, this.2]
theorem num_back {n : Int} (h : -9223372036854775808 ≤ n ∧ n ≤ 9223372036854775807) (m : List UInt8) : numR (numB (foldN n) ++ m) 0 = (n, m, 0) := by
  rw [numR, if_pos rfl, take_num0 (foldN_lt h)]
  simp only [unfold_fold]
theorem nums_back : ∀ (n : Nat) (l : List Int) (m : List UInt8), l.length = n → InL l → numsR n (numsB l ++ m) 0 = (l, m, 0)
  | 0, l, m, hl, _ => by
    obtain rfl : l = [] := List.length_eq_zero_iff.1 hl
    rfl
  | n + 1, l, m, hl, hi => by
    rcases List.eq_nil_or_concat l with rfl | ⟨l', x, rfl⟩
    · cases hl
    · have hl' : l'.length = n := by simpa using hl
      have hx := hi x (by simp)
      have ih := nums_back n l' (numB (foldN x) ++ m) hl' (fun y hy => hi y (by simp [hy]))
      rw [List.concat_eq_append, numsB_snoc, List.append_assoc, numsR, ih, num_back hx]
theorem text_back (t m : List UInt8) (h : t.length ≤ 4096) : textR (textB t ++ m) 0 = (t, m, 0) := by
  rw [textR, if_pos rfl, text_take t m 4096 (by omega) (by omega)]
theorem texts_back (l : List (List UInt8)) (m : List UInt8) (hn : l.length ≤ 256) (h : ∀ t ∈ l, t.length ≤ 32) : textsR (listB l ++ m) 0 = (l, m, 0) := by
  rw [textsR, if_pos rfl, list_take l m 256 32 (by omega) (by omega) (fun t ht => by have := h t ht; omega)]
/-- A call's bytes. -/
def callB (l : List Int) (x y z : List UInt8) : List UInt8 := numsB l ++ (textB x ++ (textB y ++ textB z))
theorem call_back (l : List Int) (x y z m : List UInt8) (hl : l.length = 5) (hi : InL l) (hx : x.length ≤ 4096) (hy : y.length ≤ 4096) (hz : z.length ≤ 4096) :
    callR (callB l x y z ++ m) 0 = ((l, x, y, z), m, 0) := by
  unfold callR callB
  simp only [List.append_assoc, nums_back 5 l _ hl hi, text_back x _ hx, text_back y _ hy, text_back z _ hz]
/-- A message's bytes, ahead of the sum. -/
def msgB (l c : List Int) (x y z : List UInt8) : List UInt8 := numsB l ++ callB c x y z
theorem msg_back (l c : List Int) (x y z m : List UInt8) (hl : l.length = 6) (hc : c.length = 5) (hi : InL l) (hj : InL c) (hx : x.length ≤ 4096) (hy : y.length ≤ 4096) (hz : z.length ≤ 4096) :
    msgR (msgB l c x y z ++ m) 0 = ((l, c, x, y, z), m, 0) := by
  unfold msgR msgB
  simp only [List.append_assoc, nums_back 6 l _ hl hi, call_back c x y z m hc hj hx hy hz]
/-- An answer's bytes, ahead of the sum. -/
def rspB (l : List Int) (x : List UInt8) (t : List (List UInt8)) : List UInt8 := numsB l ++ (textB x ++ listB t)
theorem rsp_back (l : List Int) (x m : List UInt8) (t : List (List UInt8)) (hl : l.length = 9) (hi : InL l) (hx : x.length ≤ 4096) (hn : t.length ≤ 256) (ht : ∀ s ∈ t, s.length ≤ 32) :
    rspR (rspB l x t ++ m) 0 = ((l, x, t), m, 0) := by
  unfold rspR rspB
  simp only [List.append_assoc, nums_back 9 l _ hl hi, text_back x _ hx, texts_back t m hn ht]
/-- The bytes of a message, of an answer. -/
def msgS (l c : List Int) (x y z : List UInt8) : ByteArray := putS ⟨(109 :: msgB l c x y z).toArray⟩
def rspS (l : List Int) (x : List UInt8) (t : List (List UInt8)) : ByteArray := putS ⟨(114 :: rspB l x t).toArray⟩
theorem tm_back (l c : List Int) (x y z : List UInt8) (hl : l.length = 6) (hc : c.length = 5) (hi : InL l) (hj : InL c) (hx : x.length ≤ 4096) (hy : y.length ≤ 4096) (hz : z.length ≤ 4096) :
    tmE (msgS l c x y z) = 0 ∧ tmP (msgS l c x y z) = (l, c, x, y, z) := by
  have hm := msg_back l c x y z [] hl hc hi hj hx hy hz
  rw [List.append_nil] at hm
  have ht := take_put ⟨(109 :: msgB l c x y z).toArray⟩
  have h0 : tmE (msgS l c x y z) = 0 := by
    rw [tmE, msgS, openE_parts (r := msgB l c x y z) ht, hm]
    rfl
  refine ⟨h0, ?_⟩
  rw [tmP, if_pos h0, msgS, ht]
  show (msgR (msgB l c x y z) 0).1 = _
  rw [hm]
theorem tr_back (l : List Int) (x : List UInt8) (t : List (List UInt8)) (hl : l.length = 9) (hi : InL l) (hx : x.length ≤ 4096) (hn : t.length ≤ 256) (ht : ∀ s ∈ t, s.length ≤ 32) :
    trE (rspS l x t) = 0 ∧ trP (rspS l x t) = (l, x, t) := by
  have hm := rsp_back l x [] t hl hi hx hn ht
  rw [List.append_nil] at hm
  have ht := take_put ⟨(114 :: rspB l x t).toArray⟩
  have h0 : trE (rspS l x t) = 0 := by
    rw [trE, rspS, openE_parts (r := rspB l x t) ht, hm]
    rfl
  refine ⟨h0, ?_⟩
  rw [trP, if_pos h0, rspS, ht]
  show (rspR (rspB l x t) 0).1 = _
  rw [hm]
theorem openE_letter {letter : UInt8} {F : List UInt8 → List UInt8 × Int} {c : UInt8} {r : List UInt8} (h : c ≠ letter) : openE letter F (putS ⟨(c :: r).toArray⟩) = 3 := by
  obtain ⟨h1, h2⟩ := openE_stay (F := F) (take_put ⟨(c :: r).toArray⟩) (.inr ⟨rfl, .inr ⟨c, r, rfl, h⟩⟩)
  rcases h2 with ⟨h, _⟩ | ⟨_, h, _⟩
  · exact absurd rfl h
  · exact h
theorem tr_msg (l c : List Int) (x y z : List UInt8) : trE (msgS l c x y z) = 3 := openE_letter (by decide)
theorem tm_rsp (l : List Int) (x : List UInt8) (t : List (List UInt8)) : tmE (rspS l x t) = 3 := openE_letter (by decide)
end Go.Proofs.Ytgnmhbkialgeaaa
end

section
/- Layer 15: what the printed Call, Msg, Rsp and the head of all laws come to, in closed form. -/
set_option linter.unusedVariables false
set_option linter.unusedSimpArgs false
namespace Go.Proofs.Ytgnmhbkialgeaaa
open Go.RowKit Go.Proofs.Ytgnmhbkialgeaaa.Q Go.Proofs.YtgnmhbkialgeaaaW.PrintWords Go.Proofs.YtgnmhbkialgeaaaW.PrintLast Go.Proofs.YtgnmhbkialgeaaaW.PrintMore Math

theorem nums_eq {l : List Int} (hl : l.length ≤ 1000000) (hi : InL l) : wire_nums.f l = some (numsS l) := by unfold wire_nums.f; rw [if_pos ⟨hl, inI_of hi⟩]
theorem oct_text {s : ByteArray} (h : s.size ≤ 140737488355000) : octet_Text.f s = some (textS s) := by unfold octet_Text.f; rw [if_pos h]
theorem put_eq {s : ByteArray} (h : s.size ≤ 9223372036854775803) : seal_Put.f s = some (putS s) := by unfold seal_Put.f; rw [if_pos h]
theorem textS_sz {s : ByteArray} (h : s.size ≤ 100000000000) : (textS s).size ≤ s.size + 10 := by
  rw [sz, textS_dl, textB, List.length_append]
  have := numB_len (n := s.data.toList.length) (by rw [← sz]; omega)
  rw [← sz] at *
  omega
theorem numsS_sz {l : List Int} (hi : InL l) : (numsS l).size ≤ 10 * l.length := by rw [sz]; exact numsB_len l hi
theorem in5 {a b c d e : Int} (ha : -9223372036854775808 ≤ a ∧ a ≤ 9223372036854775807) (hb : -9223372036854775808 ≤ b ∧ b ≤ 9223372036854775807) (hc : -9223372036854775808 ≤ c ∧ c ≤ 9223372036854775807) (hd : -9223372036854775808 ≤ d ∧ d ≤ 9223372036854775807) (he : -9223372036854775808 ≤ e ∧ e ≤ 9223372036854775807) : InL [a, b, c, d, e] := by
  intro n hn
  simp only [List.mem_cons, List.not_mem_nil, or_false] at hn
  rcases hn with rfl | rfl | rfl | rfl | rfl <;> assumption
theorem in6 {a b c d e f : Int} (ha : -9223372036854775808 ≤ a ∧ a ≤ 9223372036854775807) (hb : -9223372036854775808 ≤ b ∧ b ≤ 9223372036854775807) (hc : -9223372036854775808 ≤ c ∧ c ≤ 9223372036854775807) (hd : -9223372036854775808 ≤ d ∧ d ≤ 9223372036854775807) (he : -9223372036854775808 ≤ e ∧ e ≤ 9223372036854775807) (hf : -9223372036854775808 ≤ f ∧ f ≤ 9223372036854775807) : InL [a, b, c, d, e, f] := by
  intro n hn
  simp only [List.mem_cons, List.not_mem_nil, or_false] at hn
  rcases hn with rfl | rfl | rfl | rfl | rfl | rfl <;> assumption
theorem call_eq {a b c d e : Int} {x y z : ByteArray} (hi : InL [a, b, c, d, e]) (hx : x.size ≤ 100000000000) (hy : y.size ≤ 100000000000) (hz : z.size ≤ 100000000000) :
    wire_Call.f a b c d e x y z = some ⟨(callB [a, b, c, d, e] x.data.toList y.data.toList z.data.toList).toArray⟩ := by
  have h0 := numsS_sz hi
  have h1 := textS_sz hx
  have h2 := textS_sz hy
  have h3 := textS_sz hz
  simp only [List.length_cons, List.length_nil] at h0
  unfold wire_Call.f
  rw [bs (nums_eq (by simp) hi), bs (oct_text (by omega)), if_pos (by omega), bs (oct_text (by omega)), if_pos (by rw [app_size]; omega), bs (oct_text (by omega)), if_pos (by rw [app_size, app_size]; omega)]
  refine congrArg some (inj ?_)
  rw [app, app, app, textS_dl, textS_dl, textS_dl, List.append_assoc, List.append_assoc]
  rfl
theorem callB_len {l : List Int} {x y z : List UInt8} (hi : InL l) (hx : x.length ≤ 100000000000) (hy : y.length ≤ 100000000000) (hz : z.length ≤ 100000000000) : (callB l x y z).length ≤ 10 * l.length + (x.length + y.length + z.length) + 30 := by
  have h0 := numsB_len l hi
  have h1 := numB_len (n := x.length) (by omega)
  have h2 := numB_len (n := y.length) (by omega)
  have h3 := numB_len (n := z.length) (by omega)
  simp only [callB, textB, List.length_append]
  omega
theorem arr_sz (l : List UInt8) : (⟨l.toArray⟩ : ByteArray).size = l.length := rfl
theorem msg_eq {a b c d e f g h i j k : Int} {x y z : ByteArray} (hi : InL [a, b, c, d, e, f]) (hj : InL [g, h, i, j, k]) (hx : x.size ≤ 100000000000) (hy : y.size ≤ 100000000000) (hz : z.size ≤ 100000000000) :
    wire_Msg.f a b c d e f g h i j k x y z = some (msgS [a, b, c, d, e, f] [g, h, i, j, k] x.data.toList y.data.toList z.data.toList) := by
  have h0 := numsS_sz hi
  have h1 := callB_len (x := x.data.toList) (y := y.data.toList) (z := z.data.toList) hj (by rw [← sz]; exact hx) (by rw [← sz]; exact hy) (by rw [← sz]; exact hz)
  rw [← sz, ← sz, ← sz] at h1
  have h2 : (⟨#[109]⟩ : ByteArray).size = 1 := rfl
  simp only [List.length_cons, List.length_nil] at h0 h1
  rw [← arr_sz] at h1
  unfold wire_Msg.f
  rw [bs (nums_eq (by simp) hi), if_pos (by omega), bs (call_eq hj hx hy hz), if_pos (by rw [app_size]; omega), bs (put_eq (by rw [app_size, app_size]; omega))]
  refine congrArg (fun s => some (putS s)) (inj ?_)
  rw [app, app]
  rfl
theorem z6 : InL [2, 3, 0, 0, 0, 0] := in6 (by omega) (by omega) (by omega) (by omega) (by omega) (by omega)
theorem z5 : InL [0, 0, 0, 0, 0] := in5 (by omega) (by omega) (by omega) (by omega) (by omega)
theorem e0 : (⟨#[]⟩ : ByteArray).size ≤ 100000000000 := by decide
theorem putS_le (s : ByteArray) (h : s.size ≤ 7000000000000) : (putS s).size ≤ 8000000000000 := by rw [putS_size]; omega
theorem msgS_sz {l c : List Int} {x y z : List UInt8} (hl : l.length = 6) (hc : c.length = 5) (hi : InL l) (hj : InL c) (hx : x.length ≤ 100000000000) (hy : y.length ≤ 100000000000) (hz : z.length ≤ 100000000000) : (msgS l c x y z).size ≤ 8000000000000 := by
  have h0 := numsB_len l hi
  have h1 := callB_len (x := x) (y := y) (z := z) hj hx hy hz
  refine putS_le _ ?_
  rw [arr_sz, List.length_cons, msgB, List.length_append]
  omega
theorem shown_eq : copyholdlaw15_shown.f = some true := by
  unfold copyholdlaw15_shown.f
  obtain ⟨t1, t2⟩ := tm_back [2, 3, 0, 0, 0, 0] [0, 0, 0, 0, 0] [] [] [] rfl rfl z6 z5 (by decide) (by decide) (by decide)
  rw [bs (msg_eq z6 z5 e0 e0 e0)]
  have hT : wire_TakeMsg.f (msgS [2, 3, 0, 0, 0, 0] [0, 0, 0, 0, 0] (⟨#[]⟩ : ByteArray).data.toList (⟨#[]⟩ : ByteArray).data.toList (⟨#[]⟩ : ByteArray).data.toList) = some (tmT (msgS [2, 3, 0, 0, 0, 0] [0, 0, 0, 0, 0] (⟨#[]⟩ : ByteArray).data.toList (⟨#[]⟩ : ByteArray).data.toList (⟨#[]⟩ : ByteArray).data.toList)) := by
    unfold wire_TakeMsg.f
    rw [if_pos (msgS_sz rfl rfl z6 z5 (by simp) (by simp) (by simp))]
  rw [bs hT, bs (call_eq z5 e0 e0 e0)]
  have t1' : tmE (msgS [2, 3, 0, 0, 0, 0] [0, 0, 0, 0, 0] (⟨#[]⟩ : ByteArray).data.toList (⟨#[]⟩ : ByteArray).data.toList (⟨#[]⟩ : ByteArray).data.toList) = 0 := t1
  have t2' : tmP (msgS [2, 3, 0, 0, 0, 0] [0, 0, 0, 0, 0] (⟨#[]⟩ : ByteArray).data.toList (⟨#[]⟩ : ByteArray).data.toList (⟨#[]⟩ : ByteArray).data.toList) = _ := t2
  have hc : (callB [0, 0, 0, 0, 0] [] [] []) = [0, 0, 0, 0, 0, 0, 0, 0] := by
    simp [callB, numsB, textB, foldN, numB_lo]
  rw [tl]
  rw [if_pos (show (⟨(callB [0, 0, 0, 0, 0] [] [] []).toArray⟩ : ByteArray).data.toList = _ from hc)]
  unfold tmT
  rw [t1', t2']
  rfl
theorem short_eq {a b c d e : Int} {x y z : ByteArray} (hx : x.size ≤ 140737488351232) (hy : y.size ≤ 140737488351232) (hz : z.size ≤ 140737488351232) :
    copyholdlaw15_short.f a b c d e x y z = some (decide (x.size + y.size + z.size ≤ 4000)) := by
  unfold copyholdlaw15_short.f
  rw [w64 (n := (x.size : Int) + y.size) (by omega) (by omega), w64 (n := (x.size : Int) + y.size + z.size) (by omega) (by omega)]
  exact congrArg some (decide_eq_decide.2 (by omega))
end Go.Proofs.Ytgnmhbkialgeaaa
end

section
/- Layer 15: what TakeCall, TakeMsg and TakeRsp answer to what was laid; and that an answer is the same as itself. -/
set_option linter.unusedVariables false
set_option linter.unusedSimpArgs false
namespace Go.Proofs.Ytgnmhbkialgeaaa
open Go.RowKit Go.Proofs.Ytgnmhbkialgeaaa.Q Go.Proofs.YtgnmhbkialgeaaaW.PrintWords Go.Proofs.YtgnmhbkialgeaaaW.PrintLast Go.Proofs.YtgnmhbkialgeaaaW.PrintMore Math

theorem ba_eta (x : ByteArray) : (⟨x.data.toList.toArray⟩ : ByteArray) = x := inj rfl
/-- A call's bytes, as a text. -/
def callS (a b c d e : Int) (x y z : ByteArray) : ByteArray := ⟨(callB [a, b, c, d, e] x.data.toList y.data.toList z.data.toList).toArray⟩
theorem callS_sz {a b c d e : Int} {x y z : ByteArray} (hi : InL [a, b, c, d, e]) (h : x.size + y.size + z.size ≤ 100000000000) : (callS a b c d e x y z).size ≤ x.size + y.size + z.size + 80 := by
  have := callB_len (x := x.data.toList) (y := y.data.toList) (z := z.data.toList) hi (by rw [← sz]; omega) (by rw [← sz]; omega) (by rw [← sz]; omega)
  rw [← sz, ← sz, ← sz] at this
  simp only [List.length_cons, List.length_nil] at this
  rw [callS, arr_sz]
  omega
theorem takeCall_eq {s : ByteArray} (h : s.size ≤ 8000000000000) : wire_TakeCall.f s = some (tcT s) := by unfold wire_TakeCall.f; rw [if_pos h]
theorem takeMsg_eq {s : ByteArray} (h : s.size ≤ 8000000000000) : wire_TakeMsg.f s = some (tmT s) := by unfold wire_TakeMsg.f; rw [if_pos h]
theorem takeRsp_eq {s : ByteArray} (h : s.size ≤ 8000000000000) : wire_TakeRsp.f s = some (trT s) := by unfold wire_TakeRsp.f; rw [if_pos h]
theorem tc_call {a b c d e : Int} {x y z : ByteArray} (t : ByteArray) (hi : InL [a, b, c, d, e]) (h : x.size + y.size + z.size ≤ 4000) : tcT (callS a b c d e x y z ++ t) = (a, b, c, d, e, x, y, z, t, 0) := by
  have hb := call_back [a, b, c, d, e] x.data.toList y.data.toList z.data.toList t.data.toList rfl hi (by rw [← sz]; omega) (by rw [← sz]; omega) (by rw [← sz]; omega)
  have he : (callS a b c d e x y z ++ t).data.toList = callB [a, b, c, d, e] x.data.toList y.data.toList z.data.toList ++ t.data.toList := by rw [app]; rfl
  have h2 : tcR (callS a b c d e x y z ++ t).data.toList = (([a, b, c, d, e], x.data.toList, y.data.toList, z.data.toList), t.data.toList, 0) := by
    rw [he, tcR, hb]; rfl
  rw [tcT, h2]
  simp only [ba_eta]
  rfl
theorem tm_msg {a b c d e f g h i j k : Int} {x y z : ByteArray} (hi : InL [a, b, c, d, e, f]) (hj : InL [g, h, i, j, k]) (hs : x.size + y.size + z.size ≤ 4000) :
    tmT (msgS [a, b, c, d, e, f] [g, h, i, j, k] x.data.toList y.data.toList z.data.toList) = (a, b, c, d, e, f, g, h, i, j, k, x, y, z, 0) := by
  obtain ⟨t1, t2⟩ := tm_back [a, b, c, d, e, f] [g, h, i, j, k] x.data.toList y.data.toList z.data.toList rfl rfl hi hj (by rw [← sz]; omega) (by rw [← sz]; omega) (by rw [← sz]; omega)
  rw [tmT, t1, t2]
  simp only [ba_eta]
  rfl
theorem tr_rsp {a b c d e f g h i : Int} {x : ByteArray} {l : List ByteArray} (hi : InL [a, b, c, d, e, f, g, h, i]) (hx : x.size ≤ 4000) (hn : l.length ≤ 256) (hl : ∀ s ∈ l, s.size ≤ 32) :
    trT (rspS [a, b, c, d, e, f, g, h, i] x.data.toList (lists l)) = (a, b, c, d, e, f, g, h, i, x, l, 0) := by
  obtain ⟨t1, t2⟩ := tr_back [a, b, c, d, e, f, g, h, i] x.data.toList (lists l) rfl hi (by rw [← sz]; omega) (by rw [lists, List.length_map]; exact hn) (fun s hs => by
    obtain ⟨u, hu, rfl⟩ := List.mem_map.1 hs
    have := hl u hu
    rw [sz] at this
    exact this)
  rw [trT, t1, t2]
  simp only [ba_eta, mks_lists]
  rfl
theorem rspS_sz {l : List Int} {x : ByteArray} {t : List ByteArray} (hl : l.length = 9) (hi : InL l) (hx : x.size ≤ 100000000000) (ht : lensS t ≤ 100000000000) : (rspS l x.data.toList (lists t)).size ≤ 8000000000000 := by
  have h0 := numsB_len l hi
  have h1 := textS_sz hx
  have h3 : (listS t).size ≤ lensS t + 10 := by
    have := lensS_len t
    rw [sz, listS]
    exact flat_listP t (by omega) (by omega)
  rw [sz, textS_dl] at h1
  rw [sz, listS_dl] at h3
  refine putS_le _ ?_
  rw [arr_sz, List.length_cons, rspB, List.length_append, List.length_append]
  omega
end Go.Proofs.Ytgnmhbkialgeaaa
end

section
/- The machine's side of laws of this seat: Go functions as Lean functions, and the proof that a call of each comes to what its function says (written by a program of this session, px.py, that runs the kit's print). -/
namespace Go.Proofs.Ytgnmhbkialgeaaa.Q
open Go.RowKit Go.Proofs.YtgnmhbkialgeaaaW.PrintWords Go.Proofs.YtgnmhbkialgeaaaW.PrintLast Go.Proofs.YtgnmhbkialgeaaaW.PrintMore
attribute [local go_sem] max2_int min2_int max_two min_two max_three min_three max_four min_four   -- for this text's walks alone
attribute [local go_sem high] Go.Proofs.Ytgnmhbkialgeaaa.px_xor_u8 Go.Proofs.Ytgnmhbkialgeaaa.px_xor_u16 Go.Proofs.Ytgnmhbkialgeaaa.px_xor_u32 Go.Proofs.Ytgnmhbkialgeaaa.px_xor_u64
set_option linter.unusedVariables false
set_option linter.unusedSimpArgs false

/-! ### copyholdref01_Num: function 56 -/
/-! ### copyholdref01_Fold: function 57 -/
/-! ### copyholdref15_whole: function 33 -/
/-! ### copyholdref01_Text: function 34 -/
end Go.Proofs.Ytgnmhbkialgeaaa.Q
end

section
/- The machine's side of laws of this seat: Go functions as Lean functions, and the proof that a call of each comes to what its function says (written by a program of this session, px.py, that runs the kit's print). -/
namespace Go.Proofs.Ytgnmhbkialgeaaa.Q
open Go.RowKit Go.Proofs.YtgnmhbkialgeaaaW.PrintWords Go.Proofs.YtgnmhbkialgeaaaW.PrintLast Go.Proofs.YtgnmhbkialgeaaaW.PrintMore
attribute [local go_sem] max2_int min2_int max_two min_two max_three min_three max_four min_four   -- for this text's walks alone
attribute [local go_sem high] Go.Proofs.Ytgnmhbkialgeaaa.px_xor_u8 Go.Proofs.Ytgnmhbkialgeaaa.px_xor_u16 Go.Proofs.Ytgnmhbkialgeaaa.px_xor_u32 Go.Proofs.Ytgnmhbkialgeaaa.px_xor_u64
set_option linter.unusedVariables false
set_option linter.unusedSimpArgs false

/-! ### slices_Equal_string_string: function 37 -/
-- NOT PRINTED: function 21 (wire_Same)

-- NOT PRINTED: function 5 (copyholdlaw15_WireLays)

/-! ### copyholdref01_TakeNum: function 61 -/
/-! ### copyholdref01_Unfold: function 72 -/
/-! ### copyholdref07_Whole: function 60 -/
/-! ### copyholdref15_numbers: function 38 -/
end Go.Proofs.Ytgnmhbkialgeaaa.Q
end

section
/- The reference's functions of layer 1, in closed form (at the seats of the layers above). -/
set_option linter.unusedVariables false
set_option linter.unusedSimpArgs false
namespace Go.Proofs.Ytgnmhbkialgeaaa
open Go.RowKit Go.Proofs.Ytgnmhbkialgeaaa.Q Go.Proofs.YtgnmhbkialgeaaaW.PrintWords Go.Proofs.YtgnmhbkialgeaaaW.PrintLast Go.Proofs.YtgnmhbkialgeaaaW.PrintMore Math

end Go.Proofs.Ytgnmhbkialgeaaa
end

section
/- The machine's side of laws of this seat: Go functions as Lean functions, and the proof that a call of each comes to what its function says (written by a program of this session, px.py, that runs the kit's print). -/
namespace Go.Proofs.Ytgnmhbkialgeaaa.Q
open Go.RowKit Go.Proofs.YtgnmhbkialgeaaaW.PrintWords Go.Proofs.YtgnmhbkialgeaaaW.PrintLast Go.Proofs.YtgnmhbkialgeaaaW.PrintMore
attribute [local go_sem] max2_int min2_int max_two min_two max_three min_three max_four min_four   -- for this text's walks alone
attribute [local go_sem high] Go.Proofs.Ytgnmhbkialgeaaa.px_xor_u8 Go.Proofs.Ytgnmhbkialgeaaa.px_xor_u16 Go.Proofs.Ytgnmhbkialgeaaa.px_xor_u32 Go.Proofs.Ytgnmhbkialgeaaa.px_xor_u64
set_option linter.unusedVariables false
set_option linter.unusedSimpArgs false

/-! ### copyholdref15_Call: function 18 -/
/-! ### copyholdref02_four: function 58 -/
/-! ### copyholdref02_More: function 71 -/
/-! ### copyholdref02_Sum: function 59 -/
/-! ### copyholdref02_Put: function 35 -/
end Go.Proofs.Ytgnmhbkialgeaaa.Q
end

section
/- The machine's side of laws of this seat: Go functions as Lean functions, and the proof that a call of each comes to what its function says (written by a program of this session, px.py, that runs the kit's print). -/
namespace Go.Proofs.Ytgnmhbkialgeaaa.Q
open Go.RowKit Go.Proofs.YtgnmhbkialgeaaaW.PrintWords Go.Proofs.YtgnmhbkialgeaaaW.PrintLast Go.Proofs.YtgnmhbkialgeaaaW.PrintMore
attribute [local go_sem] max2_int min2_int max_two min_two max_three min_three max_four min_four   -- for this text's walks alone
attribute [local go_sem high] Go.Proofs.Ytgnmhbkialgeaaa.px_xor_u8 Go.Proofs.Ytgnmhbkialgeaaa.px_xor_u16 Go.Proofs.Ytgnmhbkialgeaaa.px_xor_u32 Go.Proofs.Ytgnmhbkialgeaaa.px_xor_u64
set_option linter.unusedVariables false
set_option linter.unusedSimpArgs false

/-! ### copyholdref01_TakeText: function 39 -/
/-! ### copyholdref15_TakeCall: function 22 -/
/-! ### copyholdref02_Take: function 65 -/
end Go.Proofs.Ytgnmhbkialgeaaa.Q
end

section
/- The machine's side of laws of this seat: Go functions as Lean functions, and the proof that a call of each comes to what its function says (written by a program of this session, px.py, that runs the kit's print). -/
namespace Go.Proofs.Ytgnmhbkialgeaaa.Q
open Go.RowKit Go.Proofs.YtgnmhbkialgeaaaW.PrintWords Go.Proofs.YtgnmhbkialgeaaaW.PrintLast Go.Proofs.YtgnmhbkialgeaaaW.PrintMore
attribute [local go_sem] max2_int min2_int max_two min_two max_three min_three max_four min_four   -- for this text's walks alone
attribute [local go_sem high] Go.Proofs.Ytgnmhbkialgeaaa.px_xor_u8 Go.Proofs.Ytgnmhbkialgeaaa.px_xor_u16 Go.Proofs.Ytgnmhbkialgeaaa.px_xor_u32 Go.Proofs.Ytgnmhbkialgeaaa.px_xor_u64
set_option linter.unusedVariables false
set_option linter.unusedSimpArgs false

/-! ### copyholdref15_begun: function 43 -/
/-! ### copyholdref15_TakeMsg: function 24 -/
-- GIVEN: function 25 (wire_TakeRsp): its Lean function and its contract stand in a text of this session's

/-! ### copyholdref01_TakeList: function 47 -/
end Go.Proofs.Ytgnmhbkialgeaaa.Q
end

section
/- The reference's ways to take numbers, texts and lists come to the same closed forms. -/
set_option linter.unusedVariables false
set_option linter.unusedSimpArgs false
namespace Go.Proofs.Ytgnmhbkialgeaaa
open Go.RowKit Go.Proofs.Ytgnmhbkialgeaaa.Q Go.Proofs.YtgnmhbkialgeaaaW.PrintWords Go.Proofs.YtgnmhbkialgeaaaW.PrintLast Go.Proofs.YtgnmhbkialgeaaaW.PrintMore Math

theorem rd_get {l : List ByteArray} {i : Nat} (h : i < l.length) : rdOf ByteArray.empty l (i : Int) = l[i] := by
  unfold rdOf
  rw [Int.toNat_natCast, List.getD_eq_getElem?_getD, List.getElem?_eq_getElem h]; rfl
theorem ref_strings_same (l : List ByteArray) (hl : l.length ≤ 9223372036854775806) (d : Nat) : ∀ (i k : Nat), i + d = l.length → d < k → copyholdref01_Strings.l0 k l l (i : Int) = some true := by
  induction d with
  | zero => intro i k hi hk; obtain ⟨k, rfl⟩ : ∃ m, k = m + 1 := ⟨k - 1, by omega⟩; rw [copyholdref01_Strings.l0, if_neg (by omega)]
  | succ d ih =>
    intro i k hi hk
    obtain ⟨k, rfl⟩ : ∃ m, k = m + 1 := ⟨k - 1, by omega⟩
    rw [copyholdref01_Strings.l0, if_pos (by omega), if_pos (by omega), if_pos (by omega), if_pos rfl, w64 (n := (i : Int) + 1) (by omega) (by omega)]
    exact ih (i + 1) k (by omega) (by omega)
theorem ref_strings {l : List ByteArray} (hl : l.length ≤ 9223372036854775806) {k : Nat} (hk : l.length < k) : copyholdref01_Strings.f k l l = some true := by
  unfold copyholdref01_Strings.f
  rw [if_pos rfl]
  exact ref_strings_same l hl l.length 0 k (by omega) hk
end Go.Proofs.Ytgnmhbkialgeaaa
end

section
/- The machine's side of laws of this seat: Go functions as Lean functions, and the proof that a call of each comes to what its function says (written by a program of this session, px.py, that runs the kit's print). -/
namespace Go.Proofs.Ytgnmhbkialgeaaa.Q
open Go.RowKit Go.Proofs.YtgnmhbkialgeaaaW.PrintWords Go.Proofs.YtgnmhbkialgeaaaW.PrintLast Go.Proofs.YtgnmhbkialgeaaaW.PrintMore
attribute [local go_sem] max2_int min2_int max_two min_two max_three min_three max_four min_four   -- for this text's walks alone
attribute [local go_sem high] Go.Proofs.Ytgnmhbkialgeaaa.px_xor_u8 Go.Proofs.Ytgnmhbkialgeaaa.px_xor_u16 Go.Proofs.Ytgnmhbkialgeaaa.px_xor_u32 Go.Proofs.Ytgnmhbkialgeaaa.px_xor_u64
set_option linter.unusedVariables false
set_option linter.unusedSimpArgs false

/-! ### copyholdref15_Msg: function 19 -/
/-! ### copyholdref01_List: function 36 -/
end Go.Proofs.Ytgnmhbkialgeaaa.Q
end

section
/- The reference's Long and List in closed form. -/
set_option linter.unusedVariables false
set_option linter.unusedSimpArgs false
namespace Go.Proofs.Ytgnmhbkialgeaaa
open Go.RowKit Go.Proofs.Ytgnmhbkialgeaaa.Q Go.Proofs.YtgnmhbkialgeaaaW.PrintWords Go.Proofs.YtgnmhbkialgeaaaW.PrintLast Go.Proofs.YtgnmhbkialgeaaaW.PrintMore Math

def sums (l : List ByteArray) : Nat := (l.map fun s => s.size).sum
theorem sums_cons (s : ByteArray) (l : List ByteArray) : sums (s :: l) = s.size + sums l := rfl
theorem long_l0 (l : List ByteArray) (hl : l.length ≤ 8796093022208) (d : Nat) : ∀ (i k acc : Nat), i + d = l.length → d < k → acc + sums (l.drop i) ≤ 9223372036854775807 →
    copyholdref01_Long.l0 k l (acc : Int) (i : Int) = some ((acc + sums (l.drop i) : Nat) : Int) := by
  induction d with
  | zero =>
    intro i k acc hi hk hs
    obtain ⟨k, rfl⟩ : ∃ m, k = m + 1 := ⟨k - 1, by omega⟩
    rw [copyholdref01_Long.l0, if_neg (by omega), List.drop_eq_nil_of_le (by omega)]
    rfl
  | succ d ih =>
    intro i k acc hi hk hs
    obtain ⟨k, rfl⟩ : ∃ m, k = m + 1 := ⟨k - 1, by omega⟩
    have hlt : i < l.length := by omega
    rw [List.drop_eq_getElem_cons hlt, sums_cons] at hs ⊢
    rw [copyholdref01_Long.l0, if_pos (by omega), if_pos (by omega), rd_get hlt, w64 (n := (acc : Int) + (l[i].size : Int)) (by omega) (by omega), w64 (n := (i : Int) + 1) (by omega) (by omega), show (acc : Int) + (l[i].size : Int) = ((acc + l[i].size : Nat) : Int) from by omega, show acc + (l[i].size + sums (l.drop (i + 1))) = (acc + l[i].size) + sums (l.drop (i + 1)) from by omega]
    exact ih (i + 1) k _ (by omega) (by omega) (by omega)
theorem ref_long {l : List ByteArray} (hl : l.length ≤ 8796093022208) (hs : l.length + sums l ≤ 9223372036854775807) {k : Nat} (hk : l.length < k) : copyholdref01_Long.f k l = some ((l.length + sums l : Nat) : Int) := by
  unfold copyholdref01_Long.f
  have := long_l0 l hl l.length 0 k l.length (by omega) hk (by rw [List.drop_zero]; exact hs)
  rw [List.drop_zero] at this
  exact this
theorem lensS_sums (l : List ByteArray) : lensS l = sums l + 20 * l.length := by
  induction l with
  | nil => rfl
  | cons a l ih => rw [sums_cons, List.length_cons]; simp only [lensS, List.map_cons, List.sum_cons] at ih ⊢; omega
end Go.Proofs.Ytgnmhbkialgeaaa
end

section
/- Layer 15: an answer is the same as itself; the lengths of its names. -/
set_option linter.unusedVariables false
set_option linter.unusedSimpArgs false
namespace Go.Proofs.Ytgnmhbkialgeaaa
open Go.RowKit Go.Proofs.Ytgnmhbkialgeaaa.Q Go.Proofs.YtgnmhbkialgeaaaW.PrintWords Go.Proofs.YtgnmhbkialgeaaaW.PrintLast Go.Proofs.YtgnmhbkialgeaaaW.PrintMore Math

theorem same_refl {a b c d e f g h i : Int} {x : ByteArray} {l : List ByteArray} (hl : l.length ≤ 9223372036854775806) {k : Nat} (hk : l.length < k) : copyholdref15_Same.f k a b c d e f g h i x l a b c d e f g h i x l = some true := by
  have h1 : copyholdref11_Same.f k f g h i x l f g h i x l = some true := by
    unfold copyholdref11_Same.f
    rw [bs (ref_strings hl hk), if_pos rfl, if_pos rfl, if_pos rfl, if_pos rfl, if_pos rfl, beq_self_eq_true]
  unfold copyholdref15_Same.f
  rw [bs h1, if_pos rfl, if_pos rfl, if_pos rfl, if_pos rfl, if_pos rfl, beq_self_eq_true]
theorem long_eq {l : List ByteArray} (hl : l.length ≤ 256) (hs : ∀ s ∈ l, s.size ≤ 140737488351232) {k : Nat} (hk : l.length < k) : copyholdref01_Long.f k l = some ((l.length + sums l : Nat) : Int) ∧ sums l ≤ 140737488351232 * l.length := by
  have : sums l ≤ 140737488351232 * l.length := by
    clear hl hk
    induction l with
    | nil => simp [sums]
    | cons a l ih =>
      have h1 := hs a (by simp)
      have h2 := ih (fun s h => hs s (by simp [h]))
      rw [sums_cons, List.length_cons]
      omega
  exact ⟨ref_long (by omega) (by omega) hk, this⟩
end Go.Proofs.Ytgnmhbkialgeaaa
end

section
/- Layer 15: what the printed Rsp comes to, in closed form. -/
set_option linter.unusedVariables false
set_option linter.unusedSimpArgs false
namespace Go.Proofs.Ytgnmhbkialgeaaa
open Go.RowKit Go.Proofs.Ytgnmhbkialgeaaa.Q Go.Proofs.YtgnmhbkialgeaaaW.PrintWords Go.Proofs.YtgnmhbkialgeaaaW.PrintLast Go.Proofs.YtgnmhbkialgeaaaW.PrintMore Math

theorem oct_list {l : List ByteArray} (h : lensS l ≤ 140737488355000) : octet_List.f l = some (listS l) := by unfold octet_List.f; rw [if_pos h]
theorem rsp_eq {a b c d e f g h i : Int} {x : ByteArray} {l : List ByteArray} (hi : InL [a, b, c, d, e, f, g, h, i]) (hx : x.size ≤ 100000000000) (hl : lensS l ≤ 100000000000) :
    wire_Rsp.f a b c d e f g h i x l = some (rspS [a, b, c, d, e, f, g, h, i] x.data.toList (lists l)) := by
  have h0 := numsS_sz hi
  have h1 := textS_sz hx
  have h2 : (⟨#[114]⟩ : ByteArray).size = 1 := rfl
  have h3 : (listS l).size ≤ lensS l + 10 := by
    rw [sz, listS]
    show ((flat _).toArray.toList).length ≤ _
    have := lensS_len l
    exact flat_listP l (by omega) (by omega)
  simp only [List.length_cons, List.length_nil] at h0
  unfold wire_Rsp.f
  rw [bs (nums_eq (by simp) hi), if_pos (by omega), bs (oct_text (by omega)), if_pos (by rw [app_size]; omega), bs (oct_list (by omega)), if_pos (by rw [app_size, app_size]; omega), bs (put_eq (by rw [app_size, app_size, app_size]; omega))]
  refine congrArg (fun s => some (putS s)) (inj ?_)
  rw [app, app, app, textS_dl, listS_dl, List.append_assoc, List.append_assoc]
  rfl
end Go.Proofs.Ytgnmhbkialgeaaa
end

section
/- The pure statement of WireBack: what is left of the law when the machine's side is told. -/
namespace Go.Proofs.Ytgnmhbkialgeaaa.Pure
open Go.RowKit Go.Proofs.Ytgnmhbkialgeaaa.Q
def WireBackSt : Prop := ∀ (a0_0 : Int) (a0_1 : Int) (a0_2 : Int) (a0_3 : Int) (a0_4 : Int) (a0_5 : Int) (a0_6 : Int) (a0_7 : Int) (a0_8 : Int) (a0_9 : Int) (a0_10 : Int) (a0_11 : ByteArray) (a0_12 : ByteArray) (a0_13 : ByteArray) (a1_0 : Int) (a1_1 : Int) (a1_2 : Int) (a1_3 : Int) (a1_4 : Int) (a1_5 : Int) (a1_6 : Int) (a1_7 : Int) (a1_8 : Int) (a1_9 : ByteArray) (l1_10 : List ByteArray) (a2 : ByteArray), (Lit.int .i64 a0_0).wf = true → (Lit.int .i64 a0_1).wf = true → (Lit.int .i64 a0_2).wf = true → (Lit.int .i64 a0_3).wf = true → (Lit.int .i64 a0_4).wf = true → (Lit.int .i64 a0_5).wf = true → (Lit.int .i64 a0_6).wf = true → (Lit.int .i64 a0_7).wf = true → (Lit.int .i64 a0_8).wf = true → (Lit.int .i64 a0_9).wf = true → (Lit.int .i64 a0_10).wf = true → a0_11.size ≤ 140737488351232 → a0_12.size ≤ 140737488351232 → a0_13.size ≤ 140737488351232 → (Lit.int .i64 a1_0).wf = true → (Lit.int .i64 a1_1).wf = true → (Lit.int .i64 a1_2).wf = true → (Lit.int .i64 a1_3).wf = true → (Lit.int .i64 a1_4).wf = true → (Lit.int .i64 a1_5).wf = true → (Lit.int .i64 a1_6).wf = true → (Lit.int .i64 a1_7).wf = true → (Lit.int .i64 a1_8).wf = true → a1_9.size ≤ 140737488351232 → (l1_10.length * 16 ≤ 140737488351232 ∧ ∀ y_ ∈ l1_10, y_.size ≤ 140737488351232) → a2.size ≤ 140737488351232 → ∃ k, Go.Proofs.Ytgnmhbkialgeaaa.Q.copyholdlaw15_WireBack.f k a0_0 a0_1 a0_2 a0_3 a0_4 a0_5 a0_6 a0_7 a0_8 a0_9 a0_10 a0_11 a0_12 a0_13 a1_0 a1_1 a1_2 a1_3 a1_4 a1_5 a1_6 a1_7 a1_8 a1_9 l1_10 a2 = some true
end Go.Proofs.Ytgnmhbkialgeaaa.Pure
end

section
/- WireBack, pure. -/
set_option linter.unusedVariables false
namespace Go.Proofs.Ytgnmhbkialgeaaa.Pure
open Go.RowKit Go.Proofs.Ytgnmhbkialgeaaa.Q Go.Proofs.YtgnmhbkialgeaaaW.PrintWords Go.Proofs.YtgnmhbkialgeaaaW.PrintLast Math

theorem in9 {a b c d e f g h i : Int} (ha : -9223372036854775808 ≤ a ∧ a ≤ 9223372036854775807) (hb : -9223372036854775808 ≤ b ∧ b ≤ 9223372036854775807) (hc : -9223372036854775808 ≤ c ∧ c ≤ 9223372036854775807) (hd : -9223372036854775808 ≤ d ∧ d ≤ 9223372036854775807) (he : -9223372036854775808 ≤ e ∧ e ≤ 9223372036854775807) (hf : -9223372036854775808 ≤ f ∧ f ≤ 9223372036854775807) (hg : -9223372036854775808 ≤ g ∧ g ≤ 9223372036854775807) (hh : -9223372036854775808 ≤ h ∧ h ≤ 9223372036854775807) (hi : -9223372036854775808 ≤ i ∧ i ≤ 9223372036854775807) : InL [a, b, c, d, e, f, g, h, i] := by
  intro n hn
  simp only [List.mem_cons, List.not_mem_nil, or_false] at hn
  rcases hn with rfl | rfl | rfl | rfl | rfl | rfl | rfl | rfl | rfl <;> assumption
theorem lens_of {l : List ByteArray} : lensS l = sums l + 20 * l.length := lensS_sums l
theorem back_end {m0 m1 m2 m3 m4 m5 m6 m7 m8 m9 m10 r0 r1 r2 r3 r4 r5 r6 r7 r8 : Int} {x y z v t : ByteArray} {l : List ByteArray} (h6 : InL [m0, m1, m2, m3, m4, m5]) (h5 : InL [m6, m7, m8, m9, m10]) (h9 : InL [r0, r1, r2, r3, r4, r5, r6, r7, r8])
    (hs : x.size + y.size + z.size ≤ 4000) (hv : v.size ≤ 4000) (hn : l.length ≤ 256) (hl : ∀ s ∈ l, s.size ≤ 32) (ht : t.size ≤ 100) (k : Nat) (hk : l.length < k) (i : Int) (hi : ¬ i < (l.length : Int)) :
    copyholdlaw15_WireBack.l0 (k + 1) t true i m0 m1 m2 m3 m4 m5 m6 m7 m8 m9 m10 x y z r0 r1 r2 r3 r4 r5 r6 r7 r8 v l = some true := by
  have hsum : sums l ≤ 32 * l.length := by
    clear hi hk hn
    induction l with
    | nil => simp [sums]
    | cons a l ih =>
      have h1 := hl a (by simp)
      have h2 := ih (fun s h => hl s (by simp [h]))
      rw [sums_cons, List.length_cons]
      omega
  have hlens : lensS l ≤ 100000000000 := by rw [lens_of]; omega
  have eM := msg_eq (x := x) (y := y) (z := z) h6 h5 (by omega) (by omega) (by omega)
  have eR := rsp_eq (x := v) (l := l) h9 (by omega) hlens
  have eC : wire_Call.f m6 m7 m8 m9 m10 x y z = some (callS m6 m7 m8 m9 m10 x y z) := call_eq h5 (by omega) (by omega) (by omega)
  have zC := callS_sz h5 (by omega : x.size + y.size + z.size ≤ 100000000000)
  have zM : (msgS [m0, m1, m2, m3, m4, m5] [m6, m7, m8, m9, m10] x.data.toList y.data.toList z.data.toList).size ≤ 8000000000000 := msgS_sz rfl rfl h6 h5 (by rw [← sz]; omega) (by rw [← sz]; omega) (by rw [← sz]; omega)
  have zR : (rspS [r0, r1, r2, r3, r4, r5, r6, r7, r8] v.data.toList (lists l)).size ≤ 8000000000000 := rspS_sz rfl h9 (by omega) hlens
  have tM := takeMsg_eq zM
  rw [tm_msg h6 h5 hs] at tM
  have tR := takeRsp_eq zR
  rw [tr_rsp h9 hv hn hl] at tR
  have tC := takeCall_eq (s := callS m6 m7 m8 m9 m10 x y z ++ t) (by rw [app_size]; omega)
  rw [tc_call t h5 hs] at tC
  rw [copyholdlaw15_WireBack.l0, if_neg hi, bs eM, bs tM, bs eR, bs tR, bs eC, if_pos (by omega), bs tC, bs eM, bs (takeRsp_eq zM), bs eR, bs (takeMsg_eq zR), if_pos rfl, if_pos rfl]
  simp only [beq_self_eq_true, Bool.and_self, if_true]
  rw [bs (same_refl (by omega) hk)]
  simp only [if_true]
  have e1 : (trT (msgS [m0, m1, m2, m3, m4, m5] [m6, m7, m8, m9, m10] x.data.toList y.data.toList z.data.toList)).2.2.2.2.2.2.2.2.2.2.2 = 3 := tr_msg _ _ _ _ _
  have e2 : (tmT (rspS [r0, r1, r2, r3, r4, r5, r6, r7, r8] v.data.toList (lists l))).2.2.2.2.2.2.2.2.2.2.2.2.2.2 = 3 := tm_rsp _ _ _
  rw [e1, e2]
  rfl
theorem back_l0 {m0 m1 m2 m3 m4 m5 m6 m7 m8 m9 m10 r0 r1 r2 r3 r4 r5 r6 r7 r8 : Int} {x y z v t : ByteArray} {l : List ByteArray} (h6 : InL [m0, m1, m2, m3, m4, m5]) (h5 : InL [m6, m7, m8, m9, m10]) (h9 : InL [r0, r1, r2, r3, r4, r5, r6, r7, r8])
    (hs : x.size + y.size + z.size ≤ 4000) (hv : v.size ≤ 4000) (hn : l.length ≤ 256) (ht : t.size ≤ 100) (d : Nat) : ∀ (i k : Nat), i + d = l.length → (∀ s ∈ l.take i, s.size ≤ 32) → d + l.length < k →
    copyholdlaw15_WireBack.l0 (k + 1) t true (i : Int) m0 m1 m2 m3 m4 m5 m6 m7 m8 m9 m10 x y z r0 r1 r2 r3 r4 r5 r6 r7 r8 v l = some true := by
  induction d with
  | zero =>
    intro i k hi hl hk
    rw [show i = l.length from by omega, List.take_length] at hl
    exact back_end h6 h5 h9 hs hv hn hl ht k (by omega) _ (by omega)
  | succ d ih =>
    intro i k hi hl hk
    have hlt : i < l.length := by omega
    rw [copyholdlaw15_WireBack.l0, if_pos (by omega), if_pos (by omega), rd_get hlt]
    by_cases hb : ((l[i].size : Nat) : Int) > 32
    · rw [if_pos hb]
    · rw [if_neg hb, w64 (n := (i : Int) + 1) (by omega) (by omega)]
      obtain ⟨k, rfl⟩ : ∃ m, k = m + 1 := ⟨k - 1, by omega⟩
      have := ih (i + 1) k (by omega) (fun s h => by
        rw [List.take_succ_eq_append_getElem hlt] at h
        rcases List.mem_append.1 h with h | h
        · exact hl s h
        · rw [List.mem_singleton] at h
          rw [h]; omega) (by omega)
      rw [show ((i : Int) + 1) = ((i + 1 : Nat) : Int) from by omega]
      exact this
theorem WireBack : WireBackSt := by
  intro m0 m1 m2 m3 m4 m5 m6 m7 m8 m9 m10 x y z r0 r1 r2 r3 r4 r5 r6 r7 r8 v l t q0 q1 q2 q3 q4 q5 q6 q7 q8 q9 q10 qx qy qz p0 p1 p2 p3 p4 p5 p6 p7 p8 qv ql qt
  have h6 := in6 (lit64 q0) (lit64 q1) (lit64 q2) (lit64 q3) (lit64 q4) (lit64 q5)
  have h5 := in5 (lit64 q6) (lit64 q7) (lit64 q8) (lit64 q9) (lit64 q10)
  have h9 := in9 (lit64 p0) (lit64 p1) (lit64 p2) (lit64 p3) (lit64 p4) (lit64 p5) (lit64 p6) (lit64 p7) (lit64 p8)
  refine ⟨2 * l.length + 10, ?_⟩
  have up : ∀ k, copyholdlaw15_WireBack.j0 (k + 1) t true true m0 m1 m2 m3 m4 m5 m6 m7 m8 m9 m10 x y z r0 r1 r2 r3 r4 r5 r6 r7 r8 v l = some true := fun k => by rw [copyholdlaw15_WireBack.j0]; rfl
  unfold copyholdlaw15_WireBack.f
  rw [bs shown_eq, bs (short_eq qx qy qz)]
  by_cases hs : x.size + y.size + z.size ≤ 4000
  · rw [if_pos (decide_eq_true hs)]
    by_cases hv : (v.size : Int) > 4000
    · rw [if_pos hv]; exact up _
    · rw [if_neg hv]
      by_cases hn : (l.length : Int) > 256
      · rw [if_pos hn]; exact up _
      · obtain ⟨eL, bL⟩ := long_eq (l := l) (by omega) ql.2 (k := 2 * l.length + 10) (by omega)
        rw [if_neg hn, bs eL]
        split
        · exact up _
        · by_cases ht : (t.size : Int) > 100
          · rw [decide_eq_true ht]; exact up _
          · rw [decide_eq_false ht, copyholdlaw15_WireBack.j0, if_neg (by decide)]
            exact back_l0 h6 h5 h9 hs (by omega) (by omega) (by omega) l.length 0 (2 * l.length + 8) (by omega) (by simp) (by omega)
  · rw [if_neg (by rw [decide_eq_false hs]; decide)]
    exact up _
end Go.Proofs.Ytgnmhbkialgeaaa.Pure
end
