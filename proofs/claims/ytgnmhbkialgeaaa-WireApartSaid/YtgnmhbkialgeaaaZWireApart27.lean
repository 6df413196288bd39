import Derived.Test.YtgnmhbkialgeaaaRows
import Derived.Test.YtgnmhbkialgeaaaZWireApart1
import Derived.ProofKit
import Derived.SizedLaws
import Derived.Test.YtgnmhbkialgeaaaZWireApart24x1
import Derived.Test.YtgnmhbkialgeaaaZWireApart23
import Derived.Test.YtgnmhbkialgeaaaZWireApart26x1
section
/- How an argument of any plain type (numbers, bools, texts, slices, structs, nested) is opened: what it reads as, by its kind; its sizes; its bulk. -/
set_option linter.unusedVariables false
set_option linter.unusedSimpArgs false
namespace Go.Proofs.Ytgnmhbkialgeaaa.Opn
open Go.Proofs.YtgnmhbkialgeaaaW.PrintWords

theorem mapM_some {α β : Type} {f : α → Option β} : ∀ {l : List α} {ys : List β}, l.mapM f = some ys → ys.length = l.length ∧ ∀ i (h : i < l.length) (h2 : i < ys.length), f l[i] = some ys[i] := by
  intro l
  induction l with
  | nil => intro ys h; simp at h; subst h; exact ⟨rfl, fun i h => by cases h⟩
  | cons a l ih =>
    intro ys h
    rw [List.mapM_cons] at h
    simp only [Option.bind_eq_bind, Option.bind_eq_some_iff] at h
    obtain ⟨y, h1, ys', h2, h3⟩ := h
    simp at h3; subst h3
    obtain ⟨hl, hi⟩ := ih h2
    refine ⟨by simp [hl], fun i h h2 => ?_⟩
    cases i with
    | zero => exact h1
    | succ i => exact hi i (by simpa using h) (by simpa using h2)
theorem choose_list {α : Type} {n : Nat} {R : Nat → α → Prop} (h : ∀ i, i < n → ∃ x, R i x) : ∃ xs : List α, xs.length = n ∧ ∀ i (hi : i < xs.length), R i xs[i] := by
  induction n with
  | zero => exact ⟨[], rfl, fun i hi => by cases hi⟩
  | succ n ih =>
    obtain ⟨xs, hl, hx⟩ := ih (fun i hi => h i (by omega))
    obtain ⟨x, hx'⟩ := h n (by omega)
    refine ⟨xs ++ [x], by simp [hl], fun i hi => ?_⟩
    by_cases hin : i < xs.length
    · rw [List.getElem_append_left hin]; exact hx i hin
    · have : i = n := by simp [hl] at hi; omega
      subst this
      rw [List.getElem_append_right (by omega)]
      simpa [hl] using hx'

structure Opens {H : Type} (enc : TypeId × Value → H) (P : Program) (w : World) (t : TypeId) {α : Type} (K : Kd α) (G : α → Prop) (b : α → Nat) : Prop where
  sz : P.cellsOf t = K.sz
  open_ : ∀ fuel cs (d : DataW H) ps, DataW.trod enc P w 0 (fun _ => true) true fuel t cs = some (d, ps) → ∃ x, K.K w x cs ∧ ((∀ n ∈ d.weights P t, n ≤ reachBytes) → G x) ∧ b x ≤ Rows.uptoBulk d

section
variable {H : Type} {enc : TypeId × Value → H} {P : Program} {w : World}

theorem opens_int {t : TypeId} {k : IntKind} (hu : P.underlying t = some (.int k)) (hs : P.cellsOf t = 1) : Opens enc P w t (Kd.int k) (fun x => (Lit.int k x).wf = true) (fun _ => 1) := by
  refine ⟨hs, fun fuel cs d ps h => ?_⟩
  obtain ⟨n, rfl, hx, hw⟩ := DataW.trod_int hu h
  obtain ⟨rfl, rfl⟩ := Prod.mk.inj hx
  exact ⟨n, rfl, fun _ => hw, by simp [Rows.uptoBulk]⟩
theorem opens_string {t : TypeId} (hu : P.underlying t = some .string) (hs : P.cellsOf t = 1) : Opens enc P w t Kd.string (fun x => x.size ≤ reachBytes) (fun x => x.size + 1) := by
  refine ⟨hs, fun fuel cs d ps h => ?_⟩
  obtain ⟨s, rfl, hx, _⟩ := DataW.trod_string hu h
  obtain ⟨rfl, rfl⟩ := Prod.mk.inj hx
  refine ⟨s, rfl, fun hw => ?_, ?_⟩
  · have := hw s.data.toList.length (by simp [DataW.weights])
    rw [Array.length_toList] at this; exact this
  · simp only [Rows.uptoBulk, Array.length_toList]; exact Nat.le_refl _
theorem bulk_all {α : Type} {b : α → Nat} : ∀ (xs : List α) (ds : List (DataW H)), xs.length = ds.length → (∀ i (h : i < xs.length) (h2 : i < ds.length), b xs[i] ≤ Rows.uptoBulk ds[i]) → (xs.map b).sum ≤ Rows.uptoBulkAll ds := by
  intro xs
  induction xs with
  | nil => intro ds hl _; simp
  | cons x xs ih =>
    intro ds hl h
    cases ds with
    | nil => cases hl
    | cons d ds =>
      have h0 := h 0 (by simp) (by simp)
      have h1 := ih ds (by simpa using hl) (fun i hi h2 => h (i + 1) (by simpa using hi) (by simpa using h2))
      simp only [List.map_cons, List.sum_cons, Rows.uptoBulkAll, List.getElem_cons_zero] at h0 ⊢
      omega
theorem weights_all {e : TypeId} {ds : List (DataW H)} {d : DataW H} (h : d ∈ ds) : ∀ n ∈ d.weights P e, n ∈ DataW.weightsAll P e ds := by
  induction ds with
  | nil => cases h
  | cons x ds ih =>
    intro n hn
    rw [DataW.weightsAll]
    rcases List.mem_cons.1 h with rfl | h
    · exact List.mem_append_left _ hn
    · exact List.mem_append_right _ (ih h n hn)
theorem opens_slice {t e : TypeId} {α : Type} {K : Kd α} {G : α → Prop} {b : α → Nat} (hu : P.underlying t = some (.slice e)) (hs : P.cellsOf t = 1) (ho : Opens enc P w e K G b) :
    Opens enc P w t (Kd.slice e K) (fun xs => xs.length * P.bytesOf e ≤ reachBytes ∧ ∀ x ∈ xs, G x) (fun xs => (xs.map b).sum + 1) := by
  refine ⟨hs, fun fuel cs d ps h => ?_⟩
  cases fuel with
  | zero => simp [DataW.trod] at h
  | succ fuel =>
    unfold DataW.trod at h
    rw [hu] at h
    split at h <;> try (simp_all; done)
    · rename_i h1
      simp at h
      obtain ⟨rfl, rfl⟩ := h
      refine ⟨[], ⟨none, 0, rfl, Nat.le_refl _, rfl, by simp, fun h => by simp at h⟩, fun _ => ⟨by simp, by simp⟩, by simp [Rows.uptoBulk]⟩
    · rename_i e' a len cap h1
      obtain rfl : e = e' := by simpa using h1
      dsimp only at h
      split at h
      · rename_i hc
        simp only [Option.bind_eq_some_iff, Option.map_eq_some_iff] at h
        obtain ⟨elems, he, rest, hr, h⟩ := h
        simp only [Prod.mk.injEq] at h
        obtain ⟨rfl, rfl⟩ := h
        obtain ⟨hl, hi⟩ := mapM_some he
        rw [List.length_range] at hl
        have hex : ∀ i, i < len → ∃ x, (∃ c, c.length = K.sz ∧ K.K w x c ∧ ∀ j u, c[j]? = some u → w.cell? (a.add (i * K.sz + j)) = some u) ∧ (∀ h2 : i < elems.length, ((∀ n ∈ (elems[i]).1.weights P e, n ≤ reachBytes) → G x) ∧ b x ≤ Rows.uptoBulk (elems[i]).1) := by
          intro i hilt
          have h2 : i < elems.length := by omega
          have hh := hi i (by simpa using hilt) h2
          rw [List.getElem_range] at hh
          simp only [Option.bind_eq_some_iff] at hh
          obtain ⟨c, hc1, hc2⟩ := hh
          obtain ⟨x, hx1, hx2, hx3⟩ := ho.open_ fuel c (elems[i]).1 (elems[i]).2 hc2
          refine ⟨x, ⟨c, K.K_len hx1, hx1, fun j u hju => ?_⟩, fun _ => ⟨hx2, hx3⟩⟩
          unfold World.cells? at hc1
          split at hc1
          · obtain ⟨hcl, hci⟩ := mapM_some hc1
            rw [List.length_range] at hcl
            have hj : j < c.length := (List.getElem?_eq_some_iff.1 hju).1
            have h5 := hci j (by simpa [← hcl] using hj) hj
            rw [List.getElem_range] at h5
            have h6 : c[j] = u := (List.getElem?_eq_some_iff.1 hju).2
            rw [h6, ho.sz] at h5
            rw [Addr.add_add] at h5
            exact h5
          · cases hc1
        obtain ⟨xs, hxl, hx⟩ := choose_list hex
        have hel : elems.length = xs.length := by omega
        refine ⟨xs, ⟨some a, cap, by rw [hxl], by omega, rfl, ?_, fun _ => ⟨a, rfl, fun j p hjp => ?_⟩⟩, fun hw => ⟨?_, fun x hxm => ?_⟩, ?_⟩
        · have := hc.2.2; unfold maxLen at this; omega
        · have hj : j < xs.length := (List.getElem?_eq_some_iff.1 hjp).1
          have hp : xs[j] = p := (List.getElem?_eq_some_iff.1 hjp).2
          rw [← hp]; exact (hx j hj).1
        · have h7 := hw ((((elems.map (·.1)).length) + (rest.map (·.1)).length) * P.bytesOf e) (by simp [DataW.weights, hu])
          refine Nat.le_trans (Nat.mul_le_mul_right _ ?_) h7
          simp only [List.length_map]; omega
        · obtain ⟨j, hj, rfl⟩ := List.getElem_of_mem hxm
          refine ((hx j hj).2 (by omega)).1 (fun n hn => hw n ?_)
          simp only [DataW.weights, hu]
          refine List.mem_cons_of_mem _ (List.mem_append_left _ (weights_all ?_ n hn))
          exact List.mem_map.2 ⟨elems[j]'(by omega), List.getElem_mem _, rfl⟩
        · have h8 := bulk_all (b := b) xs (elems.map (·.1)) (by simp [hel]) (fun i h h2 => by
            have := ((hx i h).2 (by simpa using h2)).2
            simpa using this)
          simp only [Rows.uptoBulk]
          omega
      · cases h

structure OpensF {H : Type} (enc : TypeId × Value → H) (P : Program) (w : World) (fs : List Field) (off : Nat) {α : Type} (K : Kd α) (G : α → Prop) (b : α → Nat) : Prop where
  open_ : ∀ fuel (cs : List Value) (xs : List (DataW H × List MemPlace)), fs.mapM (fun f => DataW.trod enc P w 0 (fun _ => true) true fuel f.type ((cs.drop f.offset).take (P.cellsOf f.type))) = some xs →
    ∃ x, K.K w x ((cs.drop off).take K.sz) ∧ ((∀ n ∈ DataW.weightsEach P (fs.map (·.type)) (xs.map (·.1)), n ≤ reachBytes) → G x) ∧ b x ≤ Rows.uptoBulkAll (xs.map (·.1))
theorem opensF_one {f : Field} {α : Type} {K : Kd α} {G : α → Prop} {b : α → Nat} (ho : Opens enc P w f.type K G b) : OpensF enc P w [f] f.offset K G b := by
  refine ⟨fun fuel cs xs h => ?_⟩
  rw [List.mapM_cons, List.mapM_nil] at h
  simp only [Option.bind_eq_bind, Option.bind_eq_some_iff] at h
  obtain ⟨y, h1, ys', h2, h3⟩ := h
  simp at h2 h3; subst h2; subst h3
  obtain ⟨x, hx1, hx2, hx3⟩ := ho.open_ fuel _ y.1 y.2 h1
  rw [ho.sz] at hx1
  refine ⟨x, hx1, fun hw => hx2 (fun n hn => hw n ?_), by simpa [Rows.uptoBulkAll] using hx3⟩
  simp [DataW.weightsEach, hn]
theorem opensF_cons {f : Field} {fs : List Field} {α β : Type} {K0 : Kd α} {G0 : α → Prop} {b0 : α → Nat} {K1 : Kd β} {G1 : β → Prop} {b1 : β → Nat} (ho : Opens enc P w f.type K0 G0 b0) {off : Nat} (hoff : off = f.offset + K0.sz) (hr : OpensF enc P w fs off K1 G1 b1) :
    OpensF enc P w (f :: fs) f.offset (Kd.pair K0 K1) (fun p => G0 p.1 ∧ G1 p.2) (fun p => b0 p.1 + b1 p.2) := by
  subst hoff
  refine ⟨fun fuel cs xs h => ?_⟩
  rw [List.mapM_cons] at h
  simp only [Option.bind_eq_bind, Option.bind_eq_some_iff] at h
  obtain ⟨y, h1, ys', h2, h3⟩ := h
  simp at h3; subst h3
  obtain ⟨x, hx1, hx2, hx3⟩ := ho.open_ fuel _ y.1 y.2 h1
  rw [ho.sz] at hx1
  obtain ⟨z, hz1, hz2, hz3⟩ := hr.open_ fuel cs ys' h2
  refine ⟨(x, z), ⟨_, _, ?_, hx1, hz1⟩, fun hw => ⟨hx2 (fun n hn => hw n ?_), hz2 (fun n hn => hw n ?_)⟩, ?_⟩
  · show List.take (K0.sz + K1.sz) _ = _
    rw [List.take_add, List.drop_drop]
  · simp only [List.map_cons, DataW.weightsEach]; exact List.mem_append_left _ hn
  · simp only [List.map_cons, DataW.weightsEach]; exact List.mem_append_right _ hn
  · simp only [List.map_cons, Rows.uptoBulkAll]; omega
theorem opens_struct {t : TypeId} {fs : Array Field} {α β : Type} {K : Kd α} {G : α → Prop} {b : α → Nat} (f : β → α) (g : α → β) (hfg : ∀ x, f (g x) = x) (hu : P.underlying t = some (.struct fs)) (hs : P.cellsOf t = K.sz) (hf : OpensF enc P w fs.toList 0 K G b) :
    Opens enc P w t (Kd.iso K f) (fun x => G (f x)) (fun x => b (f x) + 1) := by
  refine ⟨hs, fun fuel cs d ps h => ?_⟩
  cases fuel with
  | zero => simp [DataW.trod] at h
  | succ fuel =>
    unfold DataW.trod at h
    rw [hu] at h
    split at h <;> try (simp_all; done)
    rename_i fs' h1
    obtain rfl : fs = fs' := by simpa using h1
    split at h
    · rename_i hl
      simp only [Option.map_eq_some_iff] at h
      obtain ⟨xs, hx, h⟩ := h
      simp only [Prod.mk.injEq] at h
      obtain ⟨rfl, rfl⟩ := h
      obtain ⟨x, hx1, hx2, hx3⟩ := hf.open_ fuel _ xs hx
      rw [List.drop_zero, List.take_of_length_le (by omega)] at hx1
      refine ⟨g x, ?_, ?_, ?_⟩
      · show K.K w (f (g x)) _
        rw [hfg]; exact hx1
      · intro hw
        show G (f (g x))
        rw [hfg]
        refine hx2 (fun n hn => hw n ?_)
        simpa [DataW.weights, hu] using hn
      · show b (f (g x)) + 1 ≤ _
        rw [hfg]
        simp only [Rows.uptoBulk]
        omega
    · cases h
end
end Go.Proofs.Ytgnmhbkialgeaaa.Opn
end

section
/- Layer 15, plain: what wire.Call, Msg and Rsp lay; that it is taken back; that what is taken was laid; that a beginning isn't taken. -/
set_option linter.unusedVariables false
set_option linter.unusedSimpArgs false
namespace Go.Proofs.Ytgnmhbkialgeaaa
open Math

def InL (l : List Int) : Prop := ∀ n ∈ l, -9223372036854775808 ≤ n ∧ n ≤ 9223372036854775807
theorem inI_of {l : List Int} (h : InL l) : inI l = true := by
  unfold inI
  rw [List.all_eq_true]
  intro n hn
  have := h n hn
  simp [this.1, this.2]
theorem num_back {n : Int} (h : -9223372036854775808 ≤ n ∧ n ≤ 9223372036854775807) (m : List UInt8) : numR (numB (foldN n) ++ m) 0 = (n, m, 0) := by
  rw [numR, if_pos rfl, take_num0 (foldN_lt h)]
  simp only [unfold_fold]
theorem nums_back : ∀ (n : Nat) (l : List Int) (m : List UInt8), l.length = n → InL l → numsR n (numsB l ++ m) 0 = (l, m, 0)
  | 0, l, m, hl, _ => by
    obtain rfl : l = [] := List.length_eq_zero_iff.1 hl
    rfl
  | n + 1, l, m, hl, hi => by
    rcases List.eq_nil_or_concat l with rfl | ⟨l', x, rfl⟩
    · cases hl
    · have hl' : l'.length = n := by simpa using hl
      have hx := hi x (by simp)
      have ih := nums_back n l' (numB (foldN x) ++ m) hl' (fun y hy => hi y (by simp [hy]))
      rw [List.concat_eq_append, numsB_snoc, List.append_assoc, numsR, ih, num_back hx]
theorem text_back (t m : List UInt8) (h : t.length ≤ 4096) : textR (textB t ++ m) 0 = (t, m, 0) := by
  rw [textR, if_pos rfl, text_take t m 4096 (by omega) (by omega)]
/-- A call's bytes. -/
def callB (l : List Int) (x y z : List UInt8) : List UInt8 := numsB l ++ (textB x ++ (textB y ++ textB z))
theorem call_back (l : List Int) (x y z m : List UInt8) (hl : l.length = 5) (hi : InL l) (hx : x.length ≤ 4096) (hy : y.length ≤ 4096) (hz : z.length ≤ 4096) :
    callR (callB l x y z ++ m) 0 = ((l, x, y, z), m, 0) := by
  unfold callR callB
  simp only [List.append_assoc, nums_back 5 l _ hl hi, text_back x _ hx, text_back y _ hy, text_back z _ hz]
/-- A message's bytes, ahead of the sum. -/
def msgB (l c : List Int) (x y z : List UInt8) : List UInt8 := numsB l ++ callB c x y z
theorem msg_back (l c : List Int) (x y z m : List UInt8) (hl : l.length = 6) (hc : c.length = 5) (hi : InL l) (hj : InL c) (hx : x.length ≤ 4096) (hy : y.length ≤ 4096) (hz : z.length ≤ 4096) :
    msgR (msgB l c x y z ++ m) 0 = ((l, c, x, y, z), m, 0) := by
  unfold msgR msgB
  simp only [List.append_assoc, nums_back 6 l _ hl hi, call_back c x y z m hc hj hx hy hz]
/-- An answer's bytes, ahead of the sum. -/
def rspB (l : List Int) (x : List UInt8) (t : List (List UInt8)) : List UInt8 := numsB l ++ (textB x ++ listB t)
/-- The bytes of a message, of an answer. -/
def msgS (l c : List Int) (x y z : List UInt8) : ByteArray := putS ⟨(109 :: msgB l c x y z).toArray⟩
def rspS (l : List Int) (x : List UInt8) (t : List (List UInt8)) : ByteArray := putS ⟨(114 :: rspB l x t).toArray⟩
theorem tm_back (l c : List Int) (x y z : List UInt8) (hl : l.length = 6) (hc : c.length = 5) (hi : InL l) (hj : InL c) (hx : x.length ≤ 4096) (hy : y.length ≤ 4096) (hz : z.length ≤ 4096) :
    tmE (msgS l c x y z) = 0 ∧ tmP (msgS l c x y z) = (l, c, x, y, z) := by
  have hm := msg_back l c x y z [] hl hc hi hj hx hy hz
  rw [List.append_nil] at hm
  have ht := take_put ⟨(109 :: msgB l c x y z).toArray⟩
  have h0 : tmE (msgS l c x y z) = 0 := by
    rw [tmE, msgS, openE_parts (r := msgB l c x y z) ht, hm]
    rfl
  refine ⟨h0, ?_⟩
  rw [tmP, if_pos h0, msgS, ht]
  show (msgR (msgB l c x y z) 0).1 = _
  rw [hm]
end Go.Proofs.Ytgnmhbkialgeaaa
end

section
/- Layer 15: what the printed Call, Msg, Rsp and the head of all laws come to, in closed form. -/
set_option linter.unusedVariables false
set_option linter.unusedSimpArgs false
namespace Go.Proofs.Ytgnmhbkialgeaaa
open Go.RowKit Go.Proofs.Ytgnmhbkialgeaaa.Q Go.Proofs.YtgnmhbkialgeaaaW.PrintWords Go.Proofs.YtgnmhbkialgeaaaW.PrintLast Go.Proofs.YtgnmhbkialgeaaaW.PrintMore Math

theorem nums_eq {l : List Int} (hl : l.length ≤ 1000000) (hi : InL l) : wire_nums.f l = some (numsS l) := by unfold wire_nums.f; rw [if_pos ⟨hl, inI_of hi⟩]
theorem oct_text {s : ByteArray} (h : s.size ≤ 140737488355000) : octet_Text.f s = some (textS s) := by unfold octet_Text.f; rw [if_pos h]
theorem put_eq {s : ByteArray} (h : s.size ≤ 9223372036854775803) : seal_Put.f s = some (putS s) := by unfold seal_Put.f; rw [if_pos h]
theorem textS_sz {s : ByteArray} (h : s.size ≤ 100000000000) : (textS s).size ≤ s.size + 10 := by
  rw [sz, textS_dl, textB, List.length_append]
  have := numB_len (n := s.data.toList.length) (by rw [← sz]; omega)
  rw [← sz] at *
  omega
theorem numsS_sz {l : List Int} (hi : InL l) : (numsS l).size ≤ 10 * l.length := by rw [sz]; exact numsB_len l hi
theorem in5 {a b c d e : Int} (ha : -9223372036854775808 ≤ a ∧ a ≤ 9223372036854775807) (hb : -9223372036854775808 ≤ b ∧ b ≤ 9223372036854775807) (hc : -9223372036854775808 ≤ c ∧ c ≤ 9223372036854775807) (hd : -9223372036854775808 ≤ d ∧ d ≤ 9223372036854775807) (he : -9223372036854775808 ≤ e ∧ e ≤ 9223372036854775807) : InL [a, b, c, d, e] := by
  intro n hn
  simp only [List.mem_cons, List.not_mem_nil, or_false] at hn
  rcases hn with rfl | rfl | rfl | rfl | rfl <;> assumption
theorem in6 {a b c d e f : Int} (ha : -9223372036854775808 ≤ a ∧ a ≤ 9223372036854775807) (hb : -9223372036854775808 ≤ b ∧ b ≤ 9223372036854775807) (hc : -9223372036854775808 ≤ c ∧ c ≤ 9223372036854775807) (hd : -9223372036854775808 ≤ d ∧ d ≤ 9223372036854775807) (he : -9223372036854775808 ≤ e ∧ e ≤ 9223372036854775807) (hf : -9223372036854775808 ≤ f ∧ f ≤ 9223372036854775807) : InL [a, b, c, d, e, f] := by
  intro n hn
  simp only [List.mem_cons, List.not_mem_nil, or_false] at hn
  rcases hn with rfl | rfl | rfl | rfl | rfl | rfl <;> assumption
theorem call_eq {a b c d e : Int} {x y z : ByteArray} (hi : InL [a, b, c, d, e]) (hx : x.size ≤ 100000000000) (hy : y.size ≤ 100000000000) (hz : z.size ≤ 100000000000) :
    wire_Call.f a b c d e x y z = some ⟨(callB [a, b, c, d, e] x.data.toList y.data.toList z.data.toList).toArray⟩ := by
  have h0 := numsS_sz hi
  have h1 := textS_sz hx
  have h2 := textS_sz hy
  have h3 := textS_sz hz
  simp only [List.length_cons, List.length_nil] at h0
  unfold wire_Call.f
  rw [bs (nums_eq (by simp) hi), bs (oct_text (by omega)), if_pos (by omega), bs (oct_text (by omega)), if_pos (by rw [app_size]; omega), bs (oct_text (by omega)), if_pos (by rw [app_size, app_size]; omega)]
  refine congrArg some (inj ?_)
  rw [app, app, app, textS_dl, textS_dl, textS_dl, List.append_assoc, List.append_assoc]
  rfl
theorem callB_len {l : List Int} {x y z : List UInt8} (hi : InL l) (hx : x.length ≤ 100000000000) (hy : y.length ≤ 100000000000) (hz : z.length ≤ 100000000000) : (callB l x y z).length ≤ 10 * l.length + (x.length + y.length + z.length) + 30 := by
  have h0 := numsB_len l hi
  have h1 := numB_len (n := x.length) (by omega)
  have h2 := numB_len (n := y.length) (by omega)
  have h3 := numB_len (n := z.length) (by omega)
  simp only [callB, textB, List.length_append]
  omega
theorem arr_sz (l : List UInt8) : (⟨l.toArray⟩ : ByteArray).size = l.length := rfl
theorem msg_eq {a b c d e f g h i j k : Int} {x y z : ByteArray} (hi : InL [a, b, c, d, e, f]) (hj : InL [g, h, i, j, k]) (hx : x.size ≤ 100000000000) (hy : y.size ≤ 100000000000) (hz : z.size ≤ 100000000000) :
    wire_Msg.f a b c d e f g h i j k x y z = some (msgS [a, b, c, d, e, f] [g, h, i, j, k] x.data.toList y.data.toList z.data.toList) := by
  have h0 := numsS_sz hi
  have h1 := callB_len (x := x.data.toList) (y := y.data.toList) (z := z.data.toList) hj (by rw [← sz]; exact hx) (by rw [← sz]; exact hy) (by rw [← sz]; exact hz)
  rw [← sz, ← sz, ← sz] at h1
  have h2 : (⟨#[109]⟩ : ByteArray).size = 1 := rfl
  simp only [List.length_cons, List.length_nil] at h0 h1
  rw [← arr_sz] at h1
  unfold wire_Msg.f
  rw [bs (nums_eq (by simp) hi), if_pos (by omega), bs (call_eq hj hx hy hz), if_pos (by rw [app_size]; omega), bs (put_eq (by rw [app_size, app_size]; omega))]
  refine congrArg (fun s => some (putS s)) (inj ?_)
  rw [app, app]
  rfl
theorem z6 : InL [2, 3, 0, 0, 0, 0] := in6 (by omega) (by omega) (by omega) (by omega) (by omega) (by omega)
theorem z5 : InL [0, 0, 0, 0, 0] := in5 (by omega) (by omega) (by omega) (by omega) (by omega)
theorem e0 : (⟨#[]⟩ : ByteArray).size ≤ 100000000000 := by decide
theorem putS_le (s : ByteArray) (h : s.size ≤ 7000000000000) : (putS s).size ≤ 8000000000000 := by rw [putS_size]; omega
theorem msgS_sz {l c : List Int} {x y z : List UInt8} (hl : l.length = 6) (hc : c.length = 5) (hi : InL l) (hj : InL c) (hx : x.length ≤ 100000000000) (hy : y.length ≤ 100000000000) (hz : z.length ≤ 100000000000) : (msgS l c x y z).size ≤ 8000000000000 := by
  have h0 := numsB_len l hi
  have h1 := callB_len (x := x) (y := y) (z := z) hj hx hy hz
  refine putS_le _ ?_
  rw [arr_sz, List.length_cons, msgB, List.length_append]
  omega
theorem shown_eq : copyholdlaw15_shown.f = some true := by
  unfold copyholdlaw15_shown.f
  obtain ⟨t1, t2⟩ := tm_back [2, 3, 0, 0, 0, 0] [0, 0, 0, 0, 0] [] [] [] rfl rfl z6 z5 (by decide) (by decide) (by decide)
  rw [bs (msg_eq z6 z5 e0 e0 e0)]
  have hT : wire_TakeMsg.f (msgS [2, 3, 0, 0, 0, 0] [0, 0, 0, 0, 0] (⟨#[]⟩ : ByteArray).data.toList (⟨#[]⟩ : ByteArray).data.toList (⟨#[]⟩ : ByteArray).data.toList) = some (tmT (msgS [2, 3, 0, 0, 0, 0] [0, 0, 0, 0, 0] (⟨#[]⟩ : ByteArray).data.toList (⟨#[]⟩ : ByteArray).data.toList (⟨#[]⟩ : ByteArray).data.toList)) := by
    unfold wire_TakeMsg.f
    rw [if_pos (msgS_sz rfl rfl z6 z5 (by simp) (by simp) (by simp))]
  rw [bs hT, bs (call_eq z5 e0 e0 e0)]
  have t1' : tmE (msgS [2, 3, 0, 0, 0, 0] [0, 0, 0, 0, 0] (⟨#[]⟩ : ByteArray).data.toList (⟨#[]⟩ : ByteArray).data.toList (⟨#[]⟩ : ByteArray).data.toList) = 0 := t1
  have t2' : tmP (msgS [2, 3, 0, 0, 0, 0] [0, 0, 0, 0, 0] (⟨#[]⟩ : ByteArray).data.toList (⟨#[]⟩ : ByteArray).data.toList (⟨#[]⟩ : ByteArray).data.toList) = _ := t2
  have hc : (callB [0, 0, 0, 0, 0] [] [] []) = [0, 0, 0, 0, 0, 0, 0, 0] := by
    simp [callB, numsB, textB, foldN, numB_lo]
  rw [tl]
  rw [if_pos (show (⟨(callB [0, 0, 0, 0, 0] [] [] []).toArray⟩ : ByteArray).data.toList = _ from hc)]
  unfold tmT
  rw [t1', t2']
  rfl
theorem short_eq {a b c d e : Int} {x y z : ByteArray} (hx : x.size ≤ 140737488351232) (hy : y.size ≤ 140737488351232) (hz : z.size ≤ 140737488351232) :
    copyholdlaw15_short.f a b c d e x y z = some (decide (x.size + y.size + z.size ≤ 4000)) := by
  unfold copyholdlaw15_short.f
  rw [w64 (n := (x.size : Int) + y.size) (by omega) (by omega), w64 (n := (x.size : Int) + y.size + z.size) (by omega) (by omega)]
  exact congrArg some (decide_eq_decide.2 (by omega))
end Go.Proofs.Ytgnmhbkialgeaaa
end

section
/- Layer 15: what TakeCall, TakeMsg and TakeRsp answer to what was laid; and that an answer is the same as itself. -/
set_option linter.unusedVariables false
set_option linter.unusedSimpArgs false
namespace Go.Proofs.Ytgnmhbkialgeaaa
open Go.RowKit Go.Proofs.Ytgnmhbkialgeaaa.Q Go.Proofs.YtgnmhbkialgeaaaW.PrintWords Go.Proofs.YtgnmhbkialgeaaaW.PrintLast Go.Proofs.YtgnmhbkialgeaaaW.PrintMore Math

end Go.Proofs.Ytgnmhbkialgeaaa
end

section
/- The reference's functions of layer 1, in closed form (at the seats of the layers above). -/
set_option linter.unusedVariables false
set_option linter.unusedSimpArgs false
namespace Go.Proofs.Ytgnmhbkialgeaaa
open Go.RowKit Go.Proofs.Ytgnmhbkialgeaaa.Q Go.Proofs.YtgnmhbkialgeaaaW.PrintWords Go.Proofs.YtgnmhbkialgeaaaW.PrintLast Go.Proofs.YtgnmhbkialgeaaaW.PrintMore Math

end Go.Proofs.Ytgnmhbkialgeaaa
end

section
/- The reference's ways to take numbers, texts and lists come to the same closed forms. -/
set_option linter.unusedVariables false
set_option linter.unusedSimpArgs false
namespace Go.Proofs.Ytgnmhbkialgeaaa
open Go.RowKit Go.Proofs.Ytgnmhbkialgeaaa.Q Go.Proofs.YtgnmhbkialgeaaaW.PrintWords Go.Proofs.YtgnmhbkialgeaaaW.PrintLast Go.Proofs.YtgnmhbkialgeaaaW.PrintMore Math

theorem rd_get {l : List ByteArray} {i : Nat} (h : i < l.length) : rdOf ByteArray.empty l (i : Int) = l[i] := by
  unfold rdOf
  rw [Int.toNat_natCast, List.getD_eq_getElem?_getD, List.getElem?_eq_getElem h]; rfl
end Go.Proofs.Ytgnmhbkialgeaaa
end

section
/- The reference's Long and List in closed form. -/
set_option linter.unusedVariables false
set_option linter.unusedSimpArgs false
namespace Go.Proofs.Ytgnmhbkialgeaaa
open Go.RowKit Go.Proofs.Ytgnmhbkialgeaaa.Q Go.Proofs.YtgnmhbkialgeaaaW.PrintWords Go.Proofs.YtgnmhbkialgeaaaW.PrintLast Go.Proofs.YtgnmhbkialgeaaaW.PrintMore Math

def sums (l : List ByteArray) : Nat := (l.map fun s => s.size).sum
theorem sums_cons (s : ByteArray) (l : List ByteArray) : sums (s :: l) = s.size + sums l := rfl
theorem sums_mem {l : List ByteArray} {s : ByteArray} (h : s ∈ l) : s.size ≤ sums l := by
  induction l with
  | nil => cases h
  | cons a l ih =>
    rw [sums_cons]
    rcases List.mem_cons.1 h with rfl | h
    · omega
    · have := ih h; omega
theorem lensS_sums (l : List ByteArray) : lensS l = sums l + 20 * l.length := by
  induction l with
  | nil => rfl
  | cons a l ih => rw [sums_cons, List.length_cons]; simp only [lensS, List.map_cons, List.sum_cons] at ih ⊢; omega
end Go.Proofs.Ytgnmhbkialgeaaa
end

section
/- Layer 15: an answer is the same as itself; the lengths of its names. -/
set_option linter.unusedVariables false
set_option linter.unusedSimpArgs false
namespace Go.Proofs.Ytgnmhbkialgeaaa
open Go.RowKit Go.Proofs.Ytgnmhbkialgeaaa.Q Go.Proofs.YtgnmhbkialgeaaaW.PrintWords Go.Proofs.YtgnmhbkialgeaaaW.PrintLast Go.Proofs.YtgnmhbkialgeaaaW.PrintMore Math

end Go.Proofs.Ytgnmhbkialgeaaa
end

section
/- Layer 15: what the printed Rsp comes to, in closed form. -/
set_option linter.unusedVariables false
set_option linter.unusedSimpArgs false
namespace Go.Proofs.Ytgnmhbkialgeaaa
open Go.RowKit Go.Proofs.Ytgnmhbkialgeaaa.Q Go.Proofs.YtgnmhbkialgeaaaW.PrintWords Go.Proofs.YtgnmhbkialgeaaaW.PrintLast Go.Proofs.YtgnmhbkialgeaaaW.PrintMore Math

theorem oct_list {l : List ByteArray} (h : lensS l ≤ 140737488355000) : octet_List.f l = some (listS l) := by unfold octet_List.f; rw [if_pos h]
theorem rsp_eq {a b c d e f g h i : Int} {x : ByteArray} {l : List ByteArray} (hi : InL [a, b, c, d, e, f, g, h, i]) (hx : x.size ≤ 100000000000) (hl : lensS l ≤ 100000000000) :
    wire_Rsp.f a b c d e f g h i x l = some (rspS [a, b, c, d, e, f, g, h, i] x.data.toList (lists l)) := by
  have h0 := numsS_sz hi
  have h1 := textS_sz hx
  have h2 : (⟨#[114]⟩ : ByteArray).size = 1 := rfl
  have h3 : (listS l).size ≤ lensS l + 10 := by
    rw [sz, listS]
    show ((flat _).toArray.toList).length ≤ _
    have := lensS_len l
    exact flat_listP l (by omega) (by omega)
  simp only [List.length_cons, List.length_nil] at h0
  unfold wire_Rsp.f
  rw [bs (nums_eq (by simp) hi), if_pos (by omega), bs (oct_text (by omega)), if_pos (by rw [app_size]; omega), bs (oct_list (by omega)), if_pos (by rw [app_size, app_size]; omega), bs (put_eq (by rw [app_size, app_size, app_size]; omega))]
  refine congrArg (fun s => some (putS s)) (inj ?_)
  rw [app, app, app, textS_dl, listS_dl, List.append_assoc, List.append_assoc]
  rfl
end Go.Proofs.Ytgnmhbkialgeaaa
end

section
/- The pure statement of WireApart: what is left of the law when the machine's side is told. -/
namespace Go.Proofs.Ytgnmhbkialgeaaa.Pure
open Go.RowKit Go.Proofs.Ytgnmhbkialgeaaa.R
def WireApartSt : Prop := ∀ (a0_0 : Int) (a0_1 : Int) (a0_2 : Int) (a0_3 : Int) (a0_4 : Int) (a0_5 : Int) (a0_6 : Int) (a0_7 : Int) (a0_8 : Int) (a0_9 : Int) (a0_10 : Int) (a0_11 : ByteArray) (a0_12 : ByteArray) (a0_13 : ByteArray) (a0_14 : Int) (a0_15 : Int) (a0_16 : Int) (a0_17 : Int) (a0_18 : Int) (a0_19 : Int) (a0_20 : Int) (a0_21 : Int) (a0_22 : Int) (a0_23 : Int) (a0_24 : Int) (a0_25 : ByteArray) (a0_26 : ByteArray) (a0_27 : ByteArray) (a0_28 : Int) (a0_29 : Int) (a0_30 : Int) (a0_31 : Int) (a0_32 : Int) (a0_33 : Int) (a0_34 : Int) (a0_35 : Int) (a0_36 : Int) (a0_37 : ByteArray) (l0_38 : List ByteArray) (a0_39 : Int) (a0_40 : Int) (a0_41 : Int) (a0_42 : Int) (a0_43 : Int) (a0_44 : Int) (a0_45 : Int) (a0_46 : Int) (a0_47 : Int) (a0_48 : ByteArray) (l0_49 : List ByteArray), (Lit.int .i64 a0_0).wf = true → (Lit.int .i64 a0_1).wf = true → (Lit.int .i64 a0_2).wf = true → (Lit.int .i64 a0_3).wf = true → (Lit.int .i64 a0_4).wf = true → (Lit.int .i64 a0_5).wf = true → (Lit.int .i64 a0_6).wf = true → (Lit.int .i64 a0_7).wf = true → (Lit.int .i64 a0_8).wf = true → (Lit.int .i64 a0_9).wf = true → (Lit.int .i64 a0_10).wf = true → a0_11.size ≤ 140737488351232 → a0_12.size ≤ 140737488351232 → a0_13.size ≤ 140737488351232 → (Lit.int .i64 a0_14).wf = true → (Lit.int .i64 a0_15).wf = true → (Lit.int .i64 a0_16).wf = true → (Lit.int .i64 a0_17).wf = true → (Lit.int .i64 a0_18).wf = true → (Lit.int .i64 a0_19).wf = true → (Lit.int .i64 a0_20).wf = true → (Lit.int .i64 a0_21).wf = true → (Lit.int .i64 a0_22).wf = true → (Lit.int .i64 a0_23).wf = true → (Lit.int .i64 a0_24).wf = true → a0_25.size ≤ 140737488351232 → a0_26.size ≤ 140737488351232 → a0_27.size ≤ 140737488351232 → (Lit.int .i64 a0_28).wf = true → (Lit.int .i64 a0_29).wf = true → (Lit.int .i64 a0_30).wf = true → (Lit.int .i64 a0_31).wf = true → (Lit.int .i64 a0_32).wf = true → (Lit.int .i64 a0_33).wf = true → (Lit.int .i64 a0_34).wf = true → (Lit.int .i64 a0_35).wf = true → (Lit.int .i64 a0_36).wf = true → a0_37.size ≤ 140737488351232 → (l0_38.length * 16 ≤ 140737488351232 ∧ ∀ y_ ∈ l0_38, y_.size ≤ 140737488351232) → (Lit.int .i64 a0_39).wf = true → (Lit.int .i64 a0_40).wf = true → (Lit.int .i64 a0_41).wf = true → (Lit.int .i64 a0_42).wf = true → (Lit.int .i64 a0_43).wf = true → (Lit.int .i64 a0_44).wf = true → (Lit.int .i64 a0_45).wf = true → (Lit.int .i64 a0_46).wf = true → (Lit.int .i64 a0_47).wf = true → a0_48.size ≤ 140737488351232 → (l0_49.length * 16 ≤ 140737488351232 ∧ ∀ y_ ∈ l0_49, y_.size ≤ 140737488351232) → ∃ k, Go.Proofs.Ytgnmhbkialgeaaa.R.copyholdlaw15_WireApart.f k a0_0 a0_1 a0_2 a0_3 a0_4 a0_5 a0_6 a0_7 a0_8 a0_9 a0_10 a0_11 a0_12 a0_13 a0_14 a0_15 a0_16 a0_17 a0_18 a0_19 a0_20 a0_21 a0_22 a0_23 a0_24 a0_25 a0_26 a0_27 a0_28 a0_29 a0_30 a0_31 a0_32 a0_33 a0_34 a0_35 a0_36 a0_37 l0_38 a0_39 a0_40 a0_41 a0_42 a0_43 a0_44 a0_45 a0_46 a0_47 a0_48 l0_49 = some true
end Go.Proofs.Ytgnmhbkialgeaaa.Pure
end

section
/- WireApart, pure (written by gen_apart.py). -/
set_option linter.unusedVariables false
namespace Go.Proofs.Ytgnmhbkialgeaaa.Pure
open Go.RowKit Go.Proofs.Ytgnmhbkialgeaaa.Q Go.Proofs.Ytgnmhbkialgeaaa.R Go.Proofs.YtgnmhbkialgeaaaW.PrintWords Go.Proofs.YtgnmhbkialgeaaaW.PrintLast Math

theorem in9 {a b c d e f g h i : Int} (ha : -9223372036854775808 ≤ a ∧ a ≤ 9223372036854775807) (hb : -9223372036854775808 ≤ b ∧ b ≤ 9223372036854775807) (hc : -9223372036854775808 ≤ c ∧ c ≤ 9223372036854775807) (hd : -9223372036854775808 ≤ d ∧ d ≤ 9223372036854775807) (he : -9223372036854775808 ≤ e ∧ e ≤ 9223372036854775807) (hf : -9223372036854775808 ≤ f ∧ f ≤ 9223372036854775807) (hg : -9223372036854775808 ≤ g ∧ g ≤ 9223372036854775807) (hh : -9223372036854775808 ≤ h ∧ h ≤ 9223372036854775807) (hi : -9223372036854775808 ≤ i ∧ i ≤ 9223372036854775807) : InL [a, b, c, d, e, f, g, h, i] := by
  intro n hn
  simp only [List.mem_cons, List.not_mem_nil, or_false] at hn
  rcases hn with rfl | rfl | rfl | rfl | rfl | rfl | rfl | rfl | rfl <;> assumption
theorem strs_l0 (l m : List ByteArray) (hl : l.length ≤ 9223372036854775806) (hm : l.length = m.length) (d : Nat) : ∀ (i k : Nat), i + d = l.length → d < k →
    copyholdref01_Strings.l0 k l m (i : Int) = some (decide (l.drop i = m.drop i)) := by
  induction d with
  | zero =>
    intro i k hi hk
    obtain ⟨k, rfl⟩ : ∃ q, k = q + 1 := ⟨k - 1, by omega⟩
    rw [copyholdref01_Strings.l0, if_neg (by omega), List.drop_eq_nil_of_le (by omega), List.drop_eq_nil_of_le (by omega)]
    rfl
  | succ d ih =>
    intro i k hi hk
    obtain ⟨k, rfl⟩ : ∃ q, k = q + 1 := ⟨k - 1, by omega⟩
    have h1 : i < l.length := by omega
    have h2 : i < m.length := by omega
    rw [copyholdref01_Strings.l0, if_pos (by omega), if_pos (by omega), if_pos (by omega), rd_get h1, rd_get h2, List.drop_eq_getElem_cons h1, List.drop_eq_getElem_cons h2, tl, tl]
    have ih' := ih (i + 1) k (by omega) (by omega)
    by_cases he : l[i] = m[i]
    · first
        | rw [if_pos (congrArg (fun s => s.data.toList) he)]
        | rw [if_neg (fun h => h (congrArg (fun s => s.data.toList) he))]
      rw [w64 (n := (i : Int) + 1) (by omega) (by omega), show ((i : Int) + 1) = ((i + 1 : Nat) : Int) from by omega, ih', he]
      exact congrArg some (decide_eq_decide.2 ⟨fun h => by rw [h], fun h => (List.cons.inj h).2⟩)
    · first
        | rw [if_neg (fun h => he (inj h))]
        | rw [if_pos (fun h => he (inj h))]
      exact congrArg some (decide_eq_false (fun h => he (List.cons.inj h).1)).symm
theorem strs_eq (l m : List ByteArray) (hl : l.length ≤ 9223372036854775806) {k : Nat} (hk : l.length < k) : copyholdref01_Strings.f k l m = some (decide (l = m)) := by
  unfold copyholdref01_Strings.f
  by_cases h : l.length = m.length
  · rw [if_pos (by omega)]
    exact strs_l0 l m hl h l.length 0 k (by omega) hk
  · rw [if_neg (by omega)]
    exact congrArg some (decide_eq_false (fun e => h (by rw [e]))).symm
theorem same_eq {r0 r1 r2 r3 r4 r5 r6 r7 r8 s0 s1 s2 s3 s4 s5 s6 s7 s8 : Int} {rt st : ByteArray} {rn sn : List ByteArray} (hl : rn.length ≤ 9223372036854775806) {k : Nat} (hk : rn.length < k) : copyholdref15_Same.f k r0 r1 r2 r3 r4 r5 r6 r7 r8 rt rn s0 s1 s2 s3 s4 s5 s6 s7 s8 st sn = some (decide (r0 = s0 ∧ r1 = s1 ∧ r2 = s2 ∧ r3 = s3 ∧ r4 = s4 ∧ r5 = s5 ∧ r6 = s6 ∧ r7 = s7 ∧ r8 = s8 ∧ rt = st ∧ rn = sn)) := by
  have h1 : copyholdref11_Same.f k r5 r6 r7 r8 rt rn s5 s6 s7 s8 st sn = some (decide (r5 = s5 ∧ r6 = s6 ∧ r7 = s7 ∧ r8 = s8 ∧ rt = st ∧ rn = sn)) := by
    unfold copyholdref11_Same.f
    rw [bs (strs_eq rn sn hl hk)]
    have hb : ((rt.toList == st.toList) = true) ↔ rt = st := by
      rw [beq_iff_eq, tl, tl]
      exact ⟨inj, fun e => by rw [e]⟩
    by_cases g0 : rn = sn
    · rw [if_pos (decide_eq_true g0)]
      by_cases g1 : r5 = s5
      · rw [if_pos g1]
        by_cases g2 : r6 = s6
        · rw [if_pos g2]
          by_cases g3 : r7 = s7
          · rw [if_pos g3]
            by_cases g4 : r8 = s8
            · rw [if_pos g4]
              refine congrArg some (Bool.eq_iff_iff.2 ?_)
              rw [hb, decide_eq_true_iff]
              exact ⟨fun h => ⟨g1, g2, g3, g4, h, g0⟩, fun h => h.2.2.2.2.1⟩
            · rw [if_neg g4]; exact congrArg some (decide_eq_false (fun h => g4 h.2.2.2.1)).symm
          · rw [if_neg g3]; exact congrArg some (decide_eq_false (fun h => g3 h.2.2.1)).symm
        · rw [if_neg g2]; exact congrArg some (decide_eq_false (fun h => g2 h.2.1)).symm
      · rw [if_neg g1]; exact congrArg some (decide_eq_false (fun h => g1 h.1)).symm
    · rw [if_neg (by rw [decide_eq_false g0]; decide)]; exact congrArg some (decide_eq_false (fun h => g0 h.2.2.2.2.2)).symm
  unfold copyholdref15_Same.f
  rw [bs h1]
  by_cases g : r5 = s5 ∧ r6 = s6 ∧ r7 = s7 ∧ r8 = s8 ∧ rt = st ∧ rn = sn
  · rw [if_pos (decide_eq_true g)]
    by_cases g0 : r0 = s0
    · rw [if_pos g0]
      by_cases g1 : r1 = s1
      · rw [if_pos g1]
        by_cases g2 : r2 = s2
        · rw [if_pos g2]
          by_cases g3 : r3 = s3
          · rw [if_pos g3]
            refine congrArg some (Bool.eq_iff_iff.2 ?_)
            rw [beq_iff_eq, decide_eq_true_iff]
            exact ⟨fun h => ⟨g0, g1, g2, g3, h, g⟩, fun h => h.2.2.2.2.1⟩
          · rw [if_neg g3]; exact congrArg some (decide_eq_false (fun h => g3 h.2.2.2.1)).symm
        · rw [if_neg g2]; exact congrArg some (decide_eq_false (fun h => g2 h.2.2.1)).symm
      · rw [if_neg g1]; exact congrArg some (decide_eq_false (fun h => g1 h.2.1)).symm
    · rw [if_neg g0]; exact congrArg some (decide_eq_false (fun h => g0 h.1)).symm
  · rw [if_neg (by rw [decide_eq_false g]; decide)]; exact congrArg some (decide_eq_false (fun h => g h.2.2.2.2.2)).symm
theorem putS_inj {a b : ByteArray} (h : putS a = putS b) : a = b := by
  have h1 := take_put a
  rw [h, take_put b] at h1
  exact (congrArg Prod.fst h1).symm
theorem msgS_inj {l l' c c' : List Int} {x x' y y' z z' : List UInt8} (hl : l.length = 6) (hl' : l'.length = 6) (hc : c.length = 5) (hc' : c'.length = 5) (hi : InL l) (hi' : InL l') (hj : InL c) (hj' : InL c')
    (hx : x.length + y.length + z.length ≤ 4000) (hx' : x'.length + y'.length + z'.length ≤ 4000) (h : msgS l c x y z = msgS l' c' x' y' z') : l = l' ∧ c = c' ∧ x = x' ∧ y = y' ∧ z = z' := by
  have h1 := (tm_back l c x y z hl hc hi hj (by omega) (by omega) (by omega)).2
  rw [h, (tm_back l' c' x' y' z' hl' hc' hi' hj' (by omega) (by omega) (by omega)).2] at h1
  simp only [Prod.mk.injEq] at h1
  exact ⟨h1.1.symm, h1.2.1.symm, h1.2.2.1.symm, h1.2.2.2.1.symm, h1.2.2.2.2.symm⟩
theorem rspS_inj {l l' : List Int} {x x' : List UInt8} {t t' : List (List UInt8)} (hl : l.length = 9) (hl' : l'.length = 9) (hi : InL l) (hi' : InL l') (hx : x.length ≤ 4000) (hx' : x'.length ≤ 4000)
    (hn : t.length ≤ 300) (hn' : t'.length ≤ 300) (ht : ∀ s ∈ t, s.length ≤ 4000) (ht' : ∀ s ∈ t', s.length ≤ 4000) (h : rspS l x t = rspS l' x' t') : l = l' ∧ x = x' ∧ t = t' := by
  have h0 := congrArg (fun s => s.data.toList) (putS_inj h)
  have h1 : rspB l x t = rspB l' x' t' := (List.cons.inj h0).2
  have h2 := nums_back 9 l (textB x ++ listB t) hl hi
  have h3 := nums_back 9 l' (textB x' ++ listB t') hl' hi'
  rw [rspB, rspB] at h1
  rw [h1, h3] at h2
  simp only [Prod.mk.injEq] at h2
  have h4 := text_take x (listB t) 4000 (by omega) (by omega)
  have h5 := text_take x' (listB t') 4000 (by omega) (by omega)
  rw [← h2.2.1, h5] at h4
  simp only [Prod.mk.injEq] at h4
  have h6 := list_take t [] 300 4000 (by omega) (by omega) (fun s hs => by have := ht s hs; omega)
  have h7 := list_take t' [] 300 4000 (by omega) (by omega) (fun s hs => by have := ht' s hs; omega)
  rw [← h4.2.1, h7] at h6
  exact ⟨h2.1.symm, h4.1.symm, (congrArg Prod.fst h6).symm⟩
theorem lists_inj {l m : List ByteArray} (h : lists l = lists m) : l = m := by rw [← mks_lists l, h, mks_lists]
theorem lists_mem {l : List ByteArray} (h : sums l ≤ 4000) : ∀ s ∈ lists l, s.length ≤ 4000 := by
  intro s hs
  obtain ⟨u, hu, rfl⟩ := List.mem_map.1 hs
  have := sums_mem hu
  rw [sz] at this
  omega
theorem ba_beq (a b : ByteArray) : ((a.toList == b.toList) = true) ↔ a = b := by
  rw [beq_iff_eq, tl, tl]
  exact ⟨inj, fun e => by rw [e]⟩
theorem apart_end {p0 p1 p2 p3 p4 p5 p6 p7 p8 p9 p10 q0 q1 q2 q3 q4 q5 q6 q7 q8 q9 q10 r0 r1 r2 r3 r4 r5 r6 r7 r8 s0 s1 s2 s3 s4 s5 s6 s7 s8 : Int} {px py pz qx qy qz rt st : ByteArray} {rn sn : List ByteArray} (h6 : InL [p0, p1, p2, p3, p4, p5]) (h5 : InL [p6, p7, p8, p9, p10]) (g6 : InL [q0, q1, q2, q3, q4, q5]) (g5 : InL [q6, q7, q8, q9, q10]) (h9 : InL [r0, r1, r2, r3, r4, r5, r6, r7, r8]) (g9 : InL [s0, s1, s2, s3, s4, s5, s6, s7, s8])
    (hp : px.size + py.size + pz.size ≤ 4000) (hq : qx.size + qy.size + qz.size ≤ 4000) (hT : rt.size + st.size ≤ 4000) (hN : rn.length + sn.length ≤ 300) (acc i : Int) (hi : ¬ i < (sn.length : Int)) (hs : acc = ((sums rn + sums sn : Nat) : Int)) (k : Nat) (hk : rn.length < k) :
    copyholdlaw15_WireApart.l1 (k + 1) true acc i p0 p1 p2 p3 p4 p5 p6 p7 p8 p9 p10 px py pz q0 q1 q2 q3 q4 q5 q6 q7 q8 q9 q10 qx qy qz r0 r1 r2 r3 r4 r5 r6 r7 r8 rt rn s0 s1 s2 s3 s4 s5 s6 s7 s8 st sn = some true := by
  rw [copyholdlaw15_WireApart.l1, if_neg hi]
  by_cases hb : acc > 4000
  · rw [if_pos hb]
  · have hrn := lensS_sums rn
    have hsn := lensS_sums sn
    rw [if_neg hb, bs (same_eq (by omega) hk), if_pos rfl, bs (msg_eq h6 h5 (by omega) (by omega) (by omega)), bs (msg_eq g6 g5 (by omega) (by omega) (by omega))]
    have e1 : ((msgS [p0, p1, p2, p3, p4, p5] [p6, p7, p8, p9, p10] px.data.toList py.data.toList pz.data.toList).toList == (msgS [q0, q1, q2, q3, q4, q5] [q6, q7, q8, q9, q10] qx.data.toList qy.data.toList qz.data.toList).toList) =
        (p0 == q0 && (p1 == q1 && (p2 == q2 && (p3 == q3 && (p4 == q4 && (p5 == q5 && (p6 == q6 && (p7 == q7 && (p8 == q8 && (p9 == q9 && (p10 == q10 && (px.toList == qx.toList && (py.toList == qy.toList && (pz.toList == qz.toList)))))))))))))) := by
      rw [Bool.eq_iff_iff, ba_beq]
      simp only [Bool.and_eq_true, ba_beq]
      simp only [beq_iff_eq]
      constructor
      · intro h
        obtain ⟨a1, a2, a3, a4, a5⟩ := msgS_inj rfl rfl rfl rfl h6 g6 h5 g5 (by rw [← sz, ← sz, ← sz]; exact hp) (by rw [← sz, ← sz, ← sz]; exact hq) h
        simp only [List.cons.injEq, and_true] at a1 a2
        obtain ⟨b0, b1, b2, b3, b4, b5⟩ := a1
        obtain ⟨c0, c1, c2, c3, c4⟩ := a2
        exact ⟨b0, b1, b2, b3, b4, b5, c0, c1, c2, c3, c4, inj a3, inj a4, inj a5⟩
      · rintro ⟨rfl, rfl, rfl, rfl, rfl, rfl, rfl, rfl, rfl, rfl, rfl, rfl, rfl, rfl⟩
        rfl
    rw [if_pos (by rw [e1]; exact beq_self_eq_true _), bs (rsp_eq h9 (by omega) (by omega)), bs (rsp_eq g9 (by omega) (by omega))]
    have e2 : ((rspS [r0, r1, r2, r3, r4, r5, r6, r7, r8] rt.data.toList (lists rn)).toList == (rspS [s0, s1, s2, s3, s4, s5, s6, s7, s8] st.data.toList (lists sn)).toList) =
        decide (r0 = s0 ∧ r1 = s1 ∧ r2 = s2 ∧ r3 = s3 ∧ r4 = s4 ∧ r5 = s5 ∧ r6 = s6 ∧ r7 = s7 ∧ r8 = s8 ∧ rt = st ∧ rn = sn) := by
      rw [Bool.eq_iff_iff, ba_beq, decide_eq_true_iff]
      constructor
      · intro h
        obtain ⟨a1, a2, a3⟩ := rspS_inj rfl rfl h9 g9 (by rw [← sz]; omega) (by rw [← sz]; omega) (by rw [lists, List.length_map]; omega) (by rw [lists, List.length_map]; omega) (lists_mem (by omega)) (lists_mem (by omega)) h
        simp only [List.cons.injEq, and_true] at a1
        obtain ⟨b0, b1, b2, b3, b4, b5, b6, b7, b8⟩ := a1
        exact ⟨b0, b1, b2, b3, b4, b5, b6, b7, b8, inj a2, lists_inj a3⟩
      · rintro ⟨rfl, rfl, rfl, rfl, rfl, rfl, rfl, rfl, rfl, rfl, rfl⟩
        rfl
    rw [e2, beq_self_eq_true]
theorem apart_l1 {p0 p1 p2 p3 p4 p5 p6 p7 p8 p9 p10 q0 q1 q2 q3 q4 q5 q6 q7 q8 q9 q10 r0 r1 r2 r3 r4 r5 r6 r7 r8 s0 s1 s2 s3 s4 s5 s6 s7 s8 : Int} {px py pz qx qy qz rt st : ByteArray} {rn sn : List ByteArray} (h6 : InL [p0, p1, p2, p3, p4, p5]) (h5 : InL [p6, p7, p8, p9, p10]) (g6 : InL [q0, q1, q2, q3, q4, q5]) (g5 : InL [q6, q7, q8, q9, q10]) (h9 : InL [r0, r1, r2, r3, r4, r5, r6, r7, r8]) (g9 : InL [s0, s1, s2, s3, s4, s5, s6, s7, s8])
    (hp : px.size + py.size + pz.size ≤ 4000) (hq : qx.size + qy.size + qz.size ≤ 4000) (hT : rt.size + st.size ≤ 4000) (hN : rn.length + sn.length ≤ 300) (hs : sums rn ≤ 140737488351232 * 300) (hm : sums sn ≤ 140737488351232 * 300) (d : Nat) : ∀ (i k : Nat) (acc : Int), i + d = sn.length → acc + ((sums (sn.drop i) : Nat) : Int) = ((sums rn + sums sn : Nat) : Int) → 0 ≤ acc → d + rn.length < k →
    copyholdlaw15_WireApart.l1 (k + 1) true acc (i : Int) p0 p1 p2 p3 p4 p5 p6 p7 p8 p9 p10 px py pz q0 q1 q2 q3 q4 q5 q6 q7 q8 q9 q10 qx qy qz r0 r1 r2 r3 r4 r5 r6 r7 r8 rt rn s0 s1 s2 s3 s4 s5 s6 s7 s8 st sn = some true := by
  induction d with
  | zero =>
    intro i k acc hi ha h0 hk
    rw [List.drop_eq_nil_of_le (by omega), show sums ([] : List ByteArray) = 0 from rfl] at ha
    exact apart_end h6 h5 g6 g5 h9 g9 hp hq hT hN acc _ (by omega) (by omega) k (by omega)
  | succ d ih =>
    intro i k acc hi ha h0 hk
    have hlt : i < sn.length := by omega
    obtain ⟨k, rfl⟩ : ∃ q, k = q + 1 := ⟨k - 1, by omega⟩
    rw [List.drop_eq_getElem_cons hlt, sums_cons] at ha
    rw [copyholdlaw15_WireApart.l1, if_pos (by omega), if_pos (by omega), rd_get hlt, w64 (n := (i : Int) + 1) (by omega) (by omega), w64 (n := acc + (sn[i].size : Int)) (by omega) (by omega), show ((i : Int) + 1) = ((i + 1 : Nat) : Int) from by omega]
    exact ih (i + 1) k _ (by omega) (by omega) (by omega) (by omega)
theorem apart_l0 {p0 p1 p2 p3 p4 p5 p6 p7 p8 p9 p10 q0 q1 q2 q3 q4 q5 q6 q7 q8 q9 q10 r0 r1 r2 r3 r4 r5 r6 r7 r8 s0 s1 s2 s3 s4 s5 s6 s7 s8 : Int} {px py pz qx qy qz rt st : ByteArray} {rn sn : List ByteArray} (h6 : InL [p0, p1, p2, p3, p4, p5]) (h5 : InL [p6, p7, p8, p9, p10]) (g6 : InL [q0, q1, q2, q3, q4, q5]) (g5 : InL [q6, q7, q8, q9, q10]) (h9 : InL [r0, r1, r2, r3, r4, r5, r6, r7, r8]) (g9 : InL [s0, s1, s2, s3, s4, s5, s6, s7, s8])
    (hp : px.size + py.size + pz.size ≤ 4000) (hq : qx.size + qy.size + qz.size ≤ 4000) (hT : rt.size + st.size ≤ 4000) (hN : rn.length + sn.length ≤ 300) (hs : sums rn ≤ 140737488351232 * 300) (hm : sums sn ≤ 140737488351232 * 300) (d : Nat) : ∀ (i k : Nat) (acc : Int), i + d = rn.length → acc + ((sums (rn.drop i) : Nat) : Int) = ((sums rn : Nat) : Int) → 0 ≤ acc → d + sn.length + rn.length + 2 < k →
    copyholdlaw15_WireApart.l0 (k + 1) true acc (i : Int) p0 p1 p2 p3 p4 p5 p6 p7 p8 p9 p10 px py pz q0 q1 q2 q3 q4 q5 q6 q7 q8 q9 q10 qx qy qz r0 r1 r2 r3 r4 r5 r6 r7 r8 rt rn s0 s1 s2 s3 s4 s5 s6 s7 s8 st sn = some true := by
  induction d with
  | zero =>
    intro i k acc hi ha h0 hk
    obtain ⟨k, rfl⟩ : ∃ q, k = q + 1 := ⟨k - 1, by omega⟩
    rw [List.drop_eq_nil_of_le (by omega), show sums ([] : List ByteArray) = 0 from rfl] at ha
    rw [copyholdlaw15_WireApart.l0, if_neg (by omega)]
    exact apart_l1 h6 h5 g6 g5 h9 g9 hp hq hT hN hs hm sn.length 0 k acc (by omega) (by rw [List.drop_zero]; omega) h0 (by omega)
  | succ d ih =>
    intro i k acc hi ha h0 hk
    have hlt : i < rn.length := by omega
    obtain ⟨k, rfl⟩ : ∃ q, k = q + 1 := ⟨k - 1, by omega⟩
    rw [List.drop_eq_getElem_cons hlt, sums_cons] at ha
    rw [copyholdlaw15_WireApart.l0, if_pos (by omega), if_pos (by omega), rd_get hlt, w64 (n := (i : Int) + 1) (by omega) (by omega), w64 (n := acc + (rn[i].size : Int)) (by omega) (by omega), show ((i : Int) + 1) = ((i + 1 : Nat) : Int) from by omega]
    exact ih (i + 1) k _ (by omega) (by omega) (by omega) (by omega)
theorem sums_big {l : List ByteArray} (hs : ∀ s ∈ l, s.size ≤ 140737488351232) : sums l ≤ 140737488351232 * l.length := by
  induction l with
  | nil => simp [sums]
  | cons a l ih =>
    have h1 := hs a (by simp)
    have h2 := ih (fun s h => hs s (by simp [h]))
    rw [sums_cons, List.length_cons]
    omega
theorem WireApart : WireApartSt := by
  intro p0 p1 p2 p3 p4 p5 p6 p7 p8 p9 p10 px py pz q0 q1 q2 q3 q4 q5 q6 q7 q8 q9 q10 qx qy qz r0 r1 r2 r3 r4 r5 r6 r7 r8 rt rn s0 s1 s2 s3 s4 s5 s6 s7 s8 st sn wp0 wp1 wp2 wp3 wp4 wp5 wp6 wp7 wp8 wp9 wp10 wpx wpy wpz wq0 wq1 wq2 wq3 wq4 wq5 wq6 wq7 wq8 wq9 wq10 wqx wqy wqz wr0 wr1 wr2 wr3 wr4 wr5 wr6 wr7 wr8 wrt wrn ws0 ws1 ws2 ws3 ws4 ws5 ws6 ws7 ws8 wst wsn
  have h6 := in6 (lit64 wp0) (lit64 wp1) (lit64 wp2) (lit64 wp3) (lit64 wp4) (lit64 wp5)
  have h5 := in5 (lit64 wp6) (lit64 wp7) (lit64 wp8) (lit64 wp9) (lit64 wp10)
  have g6 := in6 (lit64 wq0) (lit64 wq1) (lit64 wq2) (lit64 wq3) (lit64 wq4) (lit64 wq5)
  have g5 := in5 (lit64 wq6) (lit64 wq7) (lit64 wq8) (lit64 wq9) (lit64 wq10)
  have h9 := in9 (lit64 wr0) (lit64 wr1) (lit64 wr2) (lit64 wr3) (lit64 wr4) (lit64 wr5) (lit64 wr6) (lit64 wr7) (lit64 wr8)
  have g9 := in9 (lit64 ws0) (lit64 ws1) (lit64 ws2) (lit64 ws3) (lit64 ws4) (lit64 ws5) (lit64 ws6) (lit64 ws7) (lit64 ws8)
  refine ⟨2 * rn.length + sn.length + 10, ?_⟩
  have up : ∀ k, copyholdlaw15_WireApart.j0 (k + 1) true true p0 p1 p2 p3 p4 p5 p6 p7 p8 p9 p10 px py pz q0 q1 q2 q3 q4 q5 q6 q7 q8 q9 q10 qx qy qz r0 r1 r2 r3 r4 r5 r6 r7 r8 rt rn s0 s1 s2 s3 s4 s5 s6 s7 s8 st sn = some true := fun k => by rw [copyholdlaw15_WireApart.j0]; rfl
  unfold copyholdlaw15_WireApart.f
  rw [bs shown_eq, bs (short_eq wpx wpy wpz)]
  by_cases hp : px.size + py.size + pz.size ≤ 4000
  · rw [if_pos (decide_eq_true hp), bs (short_eq wqx wqy wqz)]
    by_cases hq : qx.size + qy.size + qz.size ≤ 4000
    · rw [if_pos (decide_eq_true hq), w64 (n := (rt.size : Int) + st.size) (by omega) (by omega), w64 (n := (rn.length : Int) + sn.length) (by omega) (by omega)]
      by_cases hT : (rt.size : Int) + st.size > 4000
      · rw [if_pos hT]; exact up _
      · rw [if_neg hT]
        by_cases hN : (rn.length : Int) + sn.length > 300
        · rw [decide_eq_true hN]; exact up _
        · have b1 := sums_big wrn.2
          have b2 := sums_big wsn.2
          rw [decide_eq_false hN, copyholdlaw15_WireApart.j0, if_neg (by decide)]
          exact apart_l0 h6 h5 g6 g5 h9 g9 hp hq (by omega) (by omega) (by omega) (by omega) rn.length 0 (2 * rn.length + sn.length + 8) 0 (by omega) (by rw [List.drop_zero]; omega) (by omega) (by omega)
    · rw [if_neg (by rw [decide_eq_false hq]; decide)]; exact up _
  · rw [if_neg (by rw [decide_eq_false hp]; decide)]; exact up _
end Go.Proofs.Ytgnmhbkialgeaaa.Pure
end
