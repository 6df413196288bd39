import Derived.Test.YtcbfnfggnocndaaZRedo34
import Derived.Test.YtcbfnfggnocndaaZRedo33
set_option linter.unusedVariables false
set_option linter.unusedSimpArgs false
section
namespace Go.Proofs.Ytcbfnfggnocndaa.Pure
open Go.RowKit Go.Lib Go.Proofs.Ytcbfnfggnocndaa Go.Proofs.Ytcbfnfggnocndaa.Q Go.Proofs.YtcbfnfggnocndaaW.PrintWords Go.Proofs.YtcbfnfggnocndaaW.PrintMore Math
theorem mod_ne {b m x y : Nat} (h : x < y) (hm : y - x < m) : (b + x) % m ≠ (b + y) % m := by
  intro e
  have h1 := Nat.sub_mod_eq_zero_of_mod_eq e.symm
  rw [show b + y - (b + x) = y - x by omega, Nat.mod_eq_of_lt hm] at h1
  omega
theorem img_out (fr mn b x : Nat) : ∀ (l : List ByteArray) (i : Nat) (L : List ByteArray), (∀ q, q < l.length → (b + (i + q)) % mn ≠ x) → (imgL L (laidP fr mn b i l)).getD (fr + x) ⟨#[]⟩ = L.getD (fr + x) ⟨#[]⟩
  | [], _, _, _ => rfl
  | s :: l, i, L, h => by
    rw [laidP, imgL_cons, img_out fr mn b x l (i + 1) _ (fun q hq => by have := h (q + 1) (by rw [List.length_cons]; omega); rwa [show i + (q + 1) = i + 1 + q by omega] at this)]
    have h0 := h 0 (by rw [List.length_cons]; omega)
    rw [Nat.add_zero] at h0
    rw [List.getD_eq_getElem?_getD, List.getD_eq_getElem?_getD, List.getElem?_set_ne (by show (((fr + (b + i) % mn : Nat) : Int)).toNat ≠ fr + x; rw [Int.toNat_natCast]; omega)]
theorem img_in (fr mn b : Nat) (hm : 1 ≤ mn) : ∀ (l : List ByteArray) (i : Nat) (L : List ByteArray) (q : Nat) (hq : q < l.length), l.length ≤ mn → fr + mn ≤ L.length → (imgL L (laidP fr mn b i l)).getD (fr + (b + (i + q)) % mn) ⟨#[]⟩ = fillS l[q]
  | [], _, _, _, h, _, _ => absurd h (Nat.not_lt_zero _)
  | s :: l, i, L, q, hq, hl, hL => by
    rw [List.length_cons] at hq hl
    have hlt : (b + i) % mn < mn := Nat.mod_lt _ hm
    rw [laidP, imgL_cons]
    cases q with
    | zero =>
      simp only [Nat.add_zero]
      rw [img_out fr mn b _ l (i + 1) _ (fun q hq => by
        have := mod_ne (b := b) (m := mn) (show i < i + 1 + q by omega) (by omega)
        exact fun e => this e.symm)]
      rw [List.getD_eq_getElem?_getD, Int.toNat_natCast, List.getElem?_set_self (by omega)]
      rfl
    | succ q =>
      rw [show i + (q + 1) = i + 1 + q by omega, img_in fr mn b hm l (i + 1) _ q (by omega) (by omega) (by rw [List.length_set]; exact hL)]
      rfl
theorem rg_img {l0 : List ByteArray} {l1 : List S88} {fr mn : Nat} (hm : 1 ≤ mn) (h : fr + mn ≤ l0.length) (i : Nat) : rg (ringL l0 l1 fr mn) i = ((imgL l0 l1).getD (fr + i % mn) ⟨#[]⟩).data.toList := by
  unfold rg
  rw [ringL_len _ _ _ _ h, ring_get h _ (Nat.mod_lt _ hm)]
theorem fill_sec (n : Nat) (s : ByteArray) (i : Nat) (hi : i < needN s) : (fillS (pieceS (recS n s) i)).data.toList = secR n s i := by
  have hnb := need_big n s
  have hne := needN_eq n s
  have hri : 64 * i < (recS n s).size := by omega
  have hA : (recS n s).data.toList.length = (recS n s).size := (sz _).symm
  unfold secR sec padB fillS
  rw [app, zeros_dl, List.drop_append_of_le_length (by omega), List.take_append]
  congr 1
  rw [List.take_replicate]
  have e : (pieceS (recS n s) i).size = min 64 ((recS n s).size - 64 * i) := by unfold pieceS; rw [pbsz, List.length_take, List.length_drop, hA]
  rw [e, List.length_drop, hA]
  congr 1
  omega
theorem pieces_get (r : ByteArray) (i : Nat) (h : i < (pieces r).length) : (pieces r)[i] = pieceS r i := by simp [pieces]
theorem imgL_app (l : List ByteArray) (a b : List S88) : imgL l (a ++ b) = imgL (imgL l a) b := by unfold imgL; rw [List.foldl_append]
structure Lg (l0 : List ByteArray) (l1 : List S88) (fr mn at_ used first many : Nat) (ts : List ByteArray) : Prop where
  rt : Rt l0 l1
  hm : 1 ≤ mn
  hfm : fr + mn ≤ l0.length
  hat : at_ < mn
  hf : first < 18446744073709551616
  hmany : many = ts.length
  hused : used = needs ts
  lay : LayF (ringL l0 l1 fr mn) at_ first 0 0 ts
namespace Lg
variable {l0 : List ByteArray} {l1 : List S88} {fr mn at_ used first many : Nat} {ts : List ByteArray}
theorem le (h : Lg l0 l1 fr mn at_ used first many ts) : used ≤ mn ∧ many ≤ used ∧ mn ≤ l0.length ∧ l0.length ≤ 4096 := by
  have h1 := lay_used _ at_ first ts 0 0 (Nat.zero_le _) h.lay
  rw [ringL_len _ _ _ _ h.hfm] at h1
  have h2 := needs_len ts
  have h3 := h.hmany; have h4 := h.hused; have h5 := h.hfm; have h6 := h.rt.len
  omega
theorem rs (h : Lg l0 l1 fr mn at_ used first many ts) : ∀ s ∈ ringL l0 l1 fr mn, s.size = 64 := ring_sec h.rt fr mn
theorem rl (h : Lg l0 l1 fr mn at_ used first many ts) : 1 ≤ (ringL l0 l1 fr mn).length := by rw [ringL_len _ _ _ _ h.hfm]; exact h.hm
theorem may (h : Lg l0 l1 fr mn at_ used first many ts) : mayR l0.length (fr : Int) (mn : Int) = true := by
  have h1 := h.hm; have h2 := h.hfm
  unfold mayR
  rw [decide_eq_true (by omega), decide_eq_true (by omega), decide_eq_true (by omega), decide_eq_true (by omega)]; rfl
theorem all (h : Lg l0 l1 fr mn at_ used first many ts) : found (ringL l0 l1 fr mn) at_ first many = (ts, used) := by
  rw [h.hmany, h.hused]; exact found_all h.rs h.rl h.lay
theorem right (h : Lg l0 l1 fr mn at_ used first many ts) : rightR l0 l1 false (fr : Int) (mn : Int) (at_ : Int) (used : Int) (first : Int) (many : Int) = true := by
  have h1 := h.hat
  unfold rightR foundD
  rw [if_neg (by rintro (k | k | k | k | k); cases k; rw [h.may] at k; cases k; omega; omega; omega)]
  simp only [Int.toNat_natCast]
  rw [h.all, ← h.hmany]
  simp
theorem ok (h : Lg l0 l1 fr mn at_ used first many ts) (h1 : l1.length ≤ 1000000) : RedOk l0 l1 (fr : Int) (mn : Int) (at_ : Int) (first : Int) := by
  have a := h.hm; have b := h.hfm; have c := h.hat; have d := h.hf; have e := h.le
  refine ⟨h.rt.ok (by omega), by omega, by omega, by omega, by omega, by omega, by omega, by omega, by omega, ?_⟩
  rw [Int.toNat_natCast, Int.toNat_natCast]
  exact h.rs
theorem texts (h : Lg l0 l1 fr mn at_ used first many ts) (h1 : l1.length ≤ 1000000) (u : Int) : redo_Texts.f l0 l1 false (fr : Int) (mn : Int) (at_ : Int) u (first : Int) (many : Int) = some (ts, 0) := by
  have e := h.le
  unfold redo_Texts.f foundD
  rw [if_pos ⟨rfl, h.ok h1, by omega, by omega⟩]
  simp only [Int.toNat_natCast]
  rw [h.all]
theorem drop (h : Lg l0 l1 fr mn at_ used first many ts) (a : Nat) (ha : a ≤ many) :
    Lg l0 l1 fr mn ((at_ + needs (ts.take a)) % mn) (used - needs (ts.take a)) ((first + a) % 18446744073709551616) (many - a) (ts.drop a) := by
  have hl := h.hmany
  have e := needs_app (ts.take a) (ts.drop a)
  rw [List.take_append_drop] at e
  have hlt : (ts.take a).length = a := by rw [List.length_take]; omega
  refine ⟨h.rt, h.hm, h.hfm, Nat.mod_lt _ h.hm, Nat.mod_lt _ (by decide), by rw [List.length_drop, hl], by rw [h.hused]; omega, ?_⟩
  have hy := h.lay
  rw [← List.take_append_drop a ts] at hy
  have h2 := ((lay_app _ at_ first (ts.take a) (ts.drop a) 0 0).1 hy).2
  rw [hlt] at h2
  have h3 := lay_shift (ringL l0 l1 fr mn) at_ first (needs (ts.take a)) a (ts.drop a) 0 0 (by rw [Nat.add_zero, Nat.add_zero]; rw [Nat.zero_add, Nat.zero_add] at h2; exact h2)
  rw [ringL_len _ _ _ _ h.hfm] at h3
  exact h3
theorem dropped (h : Lg l0 l1 fr mn at_ used first many ts) (h1 : l1.length ≤ 1000000) (a : Nat) (ha : a ≤ many) :
    redo_Drop.f l0 l1 false (fr : Int) (mn : Int) (at_ : Int) (used : Int) (first : Int) (many : Int) (a : Int) =
      some ((((at_ + needs (ts.take a)) % mn : Nat) : Int), ((used - needs (ts.take a) : Nat) : Int), (((first + a) % 18446744073709551616 : Nat) : Int), ((many - a : Nat) : Int), 0) := by
  have e := h.le
  have hl := h.hmany
  have hlt : (ts.take a).length = a := by rw [List.length_take]; omega
  have hn := needs_app (ts.take a) (ts.drop a)
  rw [List.take_append_drop] at hn
  have hu := h.hused
  have hy := h.lay
  rw [← List.take_append_drop a ts] at hy
  have h2 := found_all h.rs h.rl ((lay_app _ at_ first (ts.take a) (ts.drop a) 0 0).1 hy).1
  rw [hlt] at h2
  unfold redo_Drop.f foundD
  rw [if_neg (by omega), if_pos ⟨h.ok h1, by omega⟩]
  simp only [Int.toNat_natCast]
  rw [h2]
  dsimp only
  rw [w64 (by omega) (by omega), show (at_ : Int) + (needs (ts.take a) : Int) = ((at_ + needs (ts.take a) : Nat) : Int) by omega, show (used : Int) - (needs (ts.take a) : Int) = ((used - needs (ts.take a) : Nat) : Int) by omega,
    show (first : Int) + (a : Int) = ((first + a : Nat) : Int) by omega, show (many : Int) - (a : Int) = ((many - a : Nat) : Int) by omega]
  rfl
theorem scan (h : Lg l0 l1 fr mn at_ used first many ts) (h1 : l1.length ≤ 1000000) : ∃ more, redo_Scan.f l0 l1 false (fr : Int) (mn : Int) (at_ : Int) (first : Int) = some ((at_ : Int), ((needs (ts ++ more) : Nat) : Int), (first : Int), (((ts ++ more).length : Nat) : Int), ts ++ more, 0) ∧
    Lg l0 l1 fr mn at_ (needs (ts ++ more)) first (ts ++ more).length (ts ++ more) := by
  have e := h.le
  have hl := h.hmany
  have h0 := h.hat
  obtain ⟨more, e1, e2⟩ := found_pre h.rs h.rl (most := mn) h.lay (by omega)
  have h2 := found_lay h.rs h.rl at_ first mn
  rw [e1] at h2
  refine ⟨more, ?_, ⟨h.rt, h.hm, h.hfm, h.hat, h.hf, rfl, rfl, h2.1⟩⟩
  unfold redo_Scan.f foundD
  rw [if_neg (by rintro ⟨_, k | k | k | k⟩; cases k; rw [h.may] at k; cases k; omega; omega), if_pos ⟨rfl, h.ok h1⟩]
  simp only [Int.toNat_natCast]
  rw [e2, e1]
theorem append (h : Lg l0 l1 fr mn at_ used first many ts) {s : ByteArray} (hs : s.size ≤ 4096) (hu : used + needN s ≤ mn) :
    Lg l0 (l1 ++ laidP fr mn (at_ + used) 0 (pieces (recS ((first + many) % 18446744073709551616) s))) fr mn at_ (used + needN s) first (many + 1) (ts ++ [s]) := by
  have hm := h.hm
  have hfm := h.hfm
  obtain ⟨N, hN⟩ : ∃ N, N = (first + many) % 18446744073709551616 := ⟨_, rfl⟩
  rw [← hN]
  have hpl : (pieces (recS N s)).length = needN s := by rw [pieces_len, ← needN_eq]
  have hrt : Rt l0 (l1 ++ laidP fr mn (at_ + used) 0 (pieces (recS N s))) := by
    have hmem : ∀ (l : List ByteArray) (i : Nat), (∀ s ∈ l, s.size ≤ 64) → ∀ p ∈ laidP fr mn (at_ + used) i l, (0 ≤ p.f0 ∧ p.f0 < (l0.length : Int)) ∧ p.f1.size = 64 := by
      intro l
      induction l with
      | nil => intro i _ p hp; rw [laidP] at hp; cases hp
      | cons x l ih =>
        intro i hx p hp
        rw [laidP] at hp
        rcases List.mem_cons.1 hp with rfl | hp
        · have hlt : (at_ + used + i) % mn < mn := Nat.mod_lt _ hm
          refine ⟨⟨?_, ?_⟩, fillS_size x (hx x List.mem_cons_self)⟩
          · show (0 : Int) ≤ ((fr + (at_ + used + i) % mn : Nat) : Int); omega
          · show ((fr + (at_ + used + i) % mn : Nat) : Int) < _; omega
        · exact ih (i + 1) (fun s hs => hx s (List.mem_cons_of_mem _ hs)) p hp
    have hpc : ∀ x ∈ pieces (recS N s), x.size ≤ 64 := fun x hx => by
      unfold pieces at hx
      obtain ⟨j, _, rfl⟩ := List.mem_map.1 hx
      exact piece_size _ j
    refine ⟨h.rt.pos, h.rt.len, h.rt.rows, fun p hp => ?_, fun p hp => ?_⟩
    · rcases List.mem_append.1 hp with hp | hp
      · exact h.rt.at_ p hp
      · exact (hmem _ 0 hpc p hp).1
    · rcases List.mem_append.1 hp with hp | hp
      · exact h.rt.puts p hp
      · exact (hmem _ 0 hpc p hp).2
  have hle := h.le
  have hmany := h.hmany; have hused := h.hused
  refine ⟨hrt, hm, hfm, h.hat, h.hf, by rw [List.length_append, hmany]; rfl, by rw [needs_app, ← hused]; rfl, ?_⟩
  rw [lay_app]
  refine ⟨lay_same at_ first (by rw [ringL_len _ _ _ _ hfm, ringL_len _ _ _ _ hfm]) ts 0 0 (fun p _ hp => ?_) h.lay, ?_⟩
  · rw [Nat.zero_add, ← hused] at hp
    rw [rg_img hm hfm, rg_img hm hfm, imgL_app]
    refine congrArg (fun x : ByteArray => x.data.toList) (img_out fr mn (at_ + used) _ _ 0 _ (fun q hq => ?_))
    rw [hpl] at hq
    have := mod_ne (b := at_) (m := mn) (show p < used + q by omega) (by omega)
    rw [show at_ + used + (0 + q) = at_ + (used + q) by omega]
    exact fun e => this e.symm
  · rw [lay_cons]
    refine ⟨hs, by rw [ringL_len _ _ _ _ hfm]; omega, fun i hi => ?_, by rw [lay_nil]; trivial⟩
    rw [Nat.zero_add, ← hused, Nat.zero_add, ← hmany, ← hN, rg_img hm hfm, imgL_app, ← fill_sec N s i hi]
    have hi2 : i < (pieces (recS N s)).length := by rw [hpl]; exact hi
    have hin := img_in fr mn (at_ + used) hm (pieces (recS N s)) 0 (imgL l0 l1) i hi2 (by rw [hpl]; omega) (by rw [imgL_len]; exact hfm)
    rw [Nat.zero_add, Nat.add_assoc] at hin
    rw [hin, pieces_get]
theorem appended (h : Lg l0 l1 fr mn at_ used first many ts) (h1 : l1.length ≤ 1000000) {s : ByteArray} (hs : s.size ≤ 4096) :
    redo_Append.f l0 l1 false (fr : Int) (mn : Int) (at_ : Int) (used : Int) (first : Int) (many : Int) s =
      some (if mn < used + needN s then (l0, l1, false, (at_ : Int), (used : Int), (first : Int), (many : Int), 12)
        else (l0, l1 ++ laidP fr mn (at_ + used) 0 (pieces (recS ((first + many) % 18446744073709551616) s)), false, (at_ : Int), ((used + needN s : Nat) : Int), (first : Int), ((many + 1 : Nat) : Int), 0)) := by
  have hle := h.le
  have h66 := need66 hs
  have a := h.hm; have b := h.hfm; have c := h.hat; have d := h.hf
  unfold redo_Append.f
  have hw : wrap64 ((used : Int) + (needN s : Int)) = ((used + needN s : Nat) : Int) := by rw [w64 (by omega) (by omega)]; omega
  rw [if_neg (by decide), if_neg (by omega), hw]
  clear hw
  by_cases hu : mn < used + needN s
  · rw [if_pos (by omega), if_pos hu]
  · rw [if_neg (by omega), if_neg hu, if_pos ⟨by omega, by omega, by omega, by omega, by omega, by omega, by omega, by omega, by omega, by omega, by omega, by omega, by omega, by omega⟩]
    simp only [Int.toNat_natCast]
    rfl
theorem laid_len (s : ByteArray) (fr mn b n : Nat) : (laidP fr mn b 0 (pieces (recS n s))).length = needN s := by rw [laidP_len, pieces_len, ← needN_eq]
end Lg
theorem right_lg {l0 : List ByteArray} {l1 : List S88} {off : Bool} {fr mn at_ used first many : Int} (h : Rt l0 l1) (hf : 0 ≤ first ∧ first < 18446744073709551616) (hr : rightR l0 l1 off fr mn at_ used first many = true) :
    off = false ∧ ∃ (fr' mn' at' used' first' many' : Nat) (ts : List ByteArray), fr = fr' ∧ mn = mn' ∧ at_ = at' ∧ used = used' ∧ first = first' ∧ many = many' ∧ Lg l0 l1 fr' mn' at' used' first' many' ts := by
  unfold rightR at hr
  split at hr
  · cases hr
  · rename_i hn
    have ho : off = false := by cases off with
      | true => exact absurd (.inl rfl) hn
      | false => rfl
    have hmy : mayR l0.length fr mn = true := by cases hm : mayR l0.length fr mn with
      | true => rfl
      | false => exact absurd (.inr (.inl hm)) hn
    have k1 : ¬ at_ < 0 := fun k => hn (.inr (.inr (.inl k)))
    have k2 : ¬ mn ≤ at_ := fun k => hn (.inr (.inr (.inr (.inl k))))
    have k3 : ¬ many < 0 := fun k => hn (.inr (.inr (.inr (.inr k))))
    unfold mayR at hmy
    simp only [Bool.and_eq_true, decide_eq_true_eq] at hmy
    obtain ⟨m1, m2, m3, m4⟩ := hmy
    obtain ⟨fr, rfl⟩ := Int.eq_ofNat_of_zero_le m1
    obtain ⟨mn, rfl⟩ := Int.eq_ofNat_of_zero_le (show 0 ≤ mn by omega)
    obtain ⟨at_, rfl⟩ := Int.eq_ofNat_of_zero_le (show 0 ≤ at_ by omega)
    obtain ⟨first, rfl⟩ := Int.eq_ofNat_of_zero_le hf.1
    obtain ⟨many, rfl⟩ := Int.eq_ofNat_of_zero_le (show 0 ≤ many by omega)
    unfold foundD at hr
    simp only [Int.toNat_natCast, Bool.and_eq_true, beq_iff_eq] at hr
    have hfm : fr + mn ≤ l0.length := by omega
    have hl := found_lay (ring_sec h fr mn) (by rw [ringL_len _ _ _ _ hfm]; omega) at_ first many
    refine ⟨ho, fr, mn, at_, (found (ringL l0 l1 fr mn) at_ first many).2, first, many, (found (ringL l0 l1 fr mn) at_ first many).1, rfl, rfl, rfl, hr.2.symm, rfl, rfl, ?_⟩
    exact ⟨h, by omega, hfm, by omega, by omega, by omega, hl.2.1, hl.1⟩
end Go.Proofs.Ytcbfnfggnocndaa.Pure
end

section
namespace Go.Proofs.Ytcbfnfggnocndaa.Pure
open Go.RowKit Go.Lib Go.Proofs.Ytcbfnfggnocndaa Go.Proofs.Ytcbfnfggnocndaa.Q Go.Proofs.YtcbfnfggnocndaaW.PrintWords Go.Proofs.YtcbfnfggnocndaaW.PrintMore Math
theorem record_eqQ (n : Nat) (s : ByteArray) (hs : s.size ≤ 1000000000) : redo_Record.f (n : Int) s = some (recS n s) := by
  unfold redo_Record.f; rw [if_pos ⟨by omega, hs⟩, Int.toNat_natCast]
theorem need_Q (s : ByteArray) (hs : s.size ≤ 10000000) : redo_Need.f s = some ((needN s : Nat) : Int) := by
  unfold redo_Need.f; rw [if_pos hs]
def fewB (l0 : List ByteArray) (l1 : List S88) : Bool := decide (l0.length ≤ 40) && (decide (l1.length ≤ 60) && rightB l0 l1)
theorem few_eq (l0 : List ByteArray) (l1 : List S88) (off : Bool) (k : Nat) (hk : 102 < k) : copyholdlaw05_few.f k l0 l1 off = some (fewB l0 l1) := by
  unfold copyholdlaw05_few.f fewB
  by_cases a : l0.length ≤ 40
  · by_cases b : l1.length ≤ 60
    · rw [if_pos (by omega), if_pos (by omega), right_eq l0 l1 off (by omega) (by omega) k (by omega), decide_eq_true a, decide_eq_true b]; rfl
    · rw [if_pos (by omega), if_neg (by omega), decide_eq_true a, decide_eq_false b]; rfl
  · rw [if_neg (by omega), decide_eq_false a]; rfl
theorem few_of {l0 : List ByteArray} {l1 : List S88} (h : fewB l0 l1 = true) : l0.length ≤ 40 ∧ l1.length ≤ 60 ∧ Rt l0 l1 := by
  unfold fewB at h
  simp only [Bool.and_eq_true, decide_eq_true_eq] at h
  exact ⟨h.1, h.2.1, rt_of h.2.2⟩
theorem numS1 {n : Nat} (h : n < 128) : (numS n).size = 1 := by rw [sz, numS_dl, numB_lo (by omega)]; rfl
theorem need_small {s : ByteArray} (h : s.size < 128) : needN s = (s.size + 76) / 64 := by
  have := recS_size 0 s
  rw [numS1 h] at this
  unfold needN; rw [this]; congr 1; omega
def hiS : ByteArray := ⟨#[104, 105]⟩
theorem z2_rt : Rt (List.replicate 2 zeroS) [] := by
  have hz : zeroS.size = 64 := by unfold zeroS; rw [nums_size, List.length_replicate]
  refine ⟨by decide, by decide, fun s hs => ?_, fun p hp => (by cases hp), fun p hp => (by cases hp)⟩
  rw [List.eq_of_mem_replicate hs]; exact hz
theorem hi_need : needN hiS = 1 := need_small (s := hiS) (by decide)
theorem strOfNums_z (n : Nat) : (strOfNums (List.replicate n 0)).size = n := by rw [nums_size, List.length_replicate]
set_option maxRecDepth 100000 in
theorem shown_eq (k : Nat) (hk : 300 ≤ k) : copyholdlaw05_shown.f k = some true := by
  have g0 : Lg (List.replicate 2 zeroS) [] 0 2 0 0 7 0 [] := ⟨z2_rt, by omega, by simp, by omega, by omega, rfl, rfl, by rw [lay_nil]; trivial⟩
  have hN : (7 + 0) % 18446744073709551616 = 7 := by decide
  have g1 := g0.append (s := hiS) (by decide) (by rw [hi_need]; omega)
  have hA := g0.appended (by simp) (s := hiS) (by decide)
  rw [if_neg (by rw [hi_need]; omega)] at hA
  rw [hi_need] at hA g1
  rw [hN] at hA g1
  obtain ⟨more, hS, hL⟩ := g1.scan (by rw [List.length_append, Lg.laid_len, hi_need]; simp)
  have hlay := hL.lay
  obtain rfl : more = [] := by
    cases more with
    | nil => rfl
    | cons x m =>
      exfalso
      change LayF _ 0 7 0 0 (hiS :: x :: m) at hlay
      rw [lay_cons, lay_cons] at hlay
      have h1 := hlay.2.2.2.2.2.1 0 (by have := need_pos x; omega)
      rw [hi_need, rg_img (by omega) (by simp)] at h1
      have ho : (imgL (List.replicate 2 zeroS) (laidP 0 2 0 0 (pieces (recS 7 hiS)))).getD (0 + 1) ⟨#[]⟩ = zeroS := img_out 0 2 0 1 (pieces (recS 7 hiS)) 0 (List.replicate 2 zeroS) (fun q hq => by
        rw [pieces_len, ← needN_eq, hi_need] at hq
        obtain rfl : q = 0 := by omega
        decide)
      rw [List.nil_append] at h1
      rw [show 0 + (0 + (0 + 1 + 0)) % 2 = 0 + 1 by decide] at h1
      rw [show (0 + 0 : Nat) = 0 by decide] at h1
      rw [ho, show (7 + (0 + 1)) % 18446744073709551616 = 8 by decide] at h1
      have h2 := congrArg (List.take 8) h1
      unfold secR sec at h2
      rw [Nat.mul_zero, List.drop_zero, List.take_take, show min 8 64 = 8 by decide, padB_head] at h2
      revert h2
      decide +kernel
  rw [List.append_nil] at hS
  have hr : copyholdref04_New.f k 2 = some (List.replicate 2 zeroS, [], false, 0) := new_ref 2 (by omega) (by omega) k (by omega)
  unfold copyholdlaw05_shown.f
  rw [bs hr]
  dsimp only
  have hA2 : redo_Append.f (List.replicate 2 zeroS) [] false 0 2 0 0 7 0 (⟨#[104, 105]⟩ : ByteArray) = _ := hA
  rw [bs hA2]
  dsimp only
  have hS2 : redo_Scan.f (List.replicate 2 zeroS) ([] ++ laidP 0 2 (0 + 0) 0 (pieces (recS 7 hiS))) false 0 2 0 7 = _ := hS
  rw [bs hS2]
  dsimp only
  rw [if_pos rfl, if_pos rfl, if_pos (by decide), if_pos (by decide), if_pos (by decide), if_pos (by decide), if_pos (by decide +kernel), if_pos (by decide),
    bs (need_Q _ (by rw [strOfNums_z]; omega)), need_small (by rw [strOfNums_z]; omega), strOfNums_z, if_pos (by decide), if_pos (by decide),
    bs (need_Q _ (by rw [strOfNums_z]; omega)), need_small (by rw [strOfNums_z]; omega), strOfNums_z]
  rfl
theorem strings_some (x y : List ByteArray) (hx : x.length ≤ 1000000) (k : Nat) (hk : x.length < k) : ∃ b, copyholdref01_Strings.f k x y = some b := by
  unfold copyholdref01_Strings.f
  by_cases h : (x.length : Int) = (y.length : Int)
  · rw [if_pos h]
    have go : ∀ (n i k : Nat), i + n = x.length → n < k → ∃ b, copyholdref01_Strings.l0 k x y (i : Int) = some b := by
      intro n
      induction n with
      | zero => intro i k hi hk; obtain ⟨k, rfl⟩ : ∃ j, k = j + 1 := ⟨k - 1, by omega⟩; exact ⟨true, by rw [copyholdref01_Strings.l0, if_neg (by omega)]⟩
      | succ n ih =>
        intro i k hi hk; obtain ⟨k, rfl⟩ : ∃ j, k = j + 1 := ⟨k - 1, by omega⟩
        rw [copyholdref01_Strings.l0, if_pos (by omega), if_pos (by omega), if_pos (by omega)]
        split
        · rw [w64 (by omega) (by omega), show (i : Int) + 1 = ((i + 1 : Nat) : Int) by omega]
          exact ih (i + 1) k (by omega) (by omega)
        · exact ⟨false, rfl⟩
    exact go x.length 0 k (by omega) hk
  · rw [if_neg h]; exact ⟨false, rfl⟩
end Go.Proofs.Ytcbfnfggnocndaa.Pure
end
