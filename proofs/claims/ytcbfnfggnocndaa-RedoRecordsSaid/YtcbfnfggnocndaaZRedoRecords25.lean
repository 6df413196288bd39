import Derived.Test.YtcbfnfggnocndaaZRedoRecords24
section
/- Layer 5, pure: logs: what is appended, dropped, scanned. -/
set_option linter.unusedVariables false
set_option linter.unusedSimpArgs false
namespace Go.Proofs.Ytcbfnfggnocndaa.Pure
open Go.RowKit Go.Lib Go.Proofs.Ytcbfnfggnocndaa Go.Proofs.Ytcbfnfggnocndaa.Q Go.Proofs.YtcbfnfggnocndaaW.PrintWords Go.Proofs.YtcbfnfggnocndaaW.PrintMore Math

theorem mod_ne {b m x y : Nat} (h : x < y) (hm : y - x < m) : (b + x) % m ≠ (b + y) % m := by
  intro e
  have h1 := Nat.sub_mod_eq_zero_of_mod_eq e.symm
  rw [show b + y - (b + x) = y - x by omega, Nat.mod_eq_of_lt hm] at h1
  omega
theorem img_out (fr mn b x : Nat) : ∀ (l : List ByteArray) (i : Nat) (L : List ByteArray), (∀ q, q < l.length → (b + (i + q)) % mn ≠ x) → (imgL L (laidP fr mn b i l)).getD (fr + x) ⟨#[]⟩ = L.getD (fr + x) ⟨#[]⟩
  | [], _, _, _ => rfl
  | s :: l, i, L, h => by
    rw [laidP, imgL_cons, img_out fr mn b x l (i + 1) _ (fun q hq => by have := h (q + 1) (by rw [List.length_cons]; omega); rwa [show i + (q + 1) = i + 1 + q by omega] at this)]
    have h0 := h 0 (by rw [List.length_cons]; omega)
    rw [Nat.add_zero] at h0
    rw [List.getD_eq_getElem?_getD, List.getD_eq_getElem?_getD, List.getElem?_set_ne (by show (((fr + (b + i) % mn : Nat) : Int)).toNat ≠ fr + x; rw [Int.toNat_natCast]; omega)]
theorem img_in (fr mn b : Nat) (hm : 1 ≤ mn) : ∀ (l : List ByteArray) (i : Nat) (L : List ByteArray) (q : Nat) (hq : q < l.length), l.length ≤ mn → fr + mn ≤ L.length → (imgL L (laidP fr mn b i l)).getD (fr + (b + (i + q)) % mn) ⟨#[]⟩ = fillS l[q]
  | [], _, _, _, h, _, _ => absurd h (Nat.not_lt_zero _)
  | s :: l, i, L, q, hq, hl, hL => by
    rw [List.length_cons] at hq hl
    have hlt : (b + i) % mn < mn := Nat.mod_lt _ hm
    rw [laidP, imgL_cons]
    cases q with
    | zero =>
      simp only [Nat.add_zero]
      rw [img_out fr mn b _ l (i + 1) _ (fun q hq => by
        have := mod_ne (b := b) (m := mn) (show i < i + 1 + q by omega) (by omega)
        exact fun e => this e.symm)]
      rw [List.getD_eq_getElem?_getD, Int.toNat_natCast, List.getElem?_set_self (by omega)]
      rfl
    | succ q =>
      rw [show i + (q + 1) = i + 1 + q by omega, img_in fr mn b hm l (i + 1) _ q (by omega) (by omega) (by rw [List.length_set]; exact hL)]
      rfl
theorem rg_img {l0 : List ByteArray} {l1 : List S88} {fr mn : Nat} (hm : 1 ≤ mn) (h : fr + mn ≤ l0.length) (i : Nat) : rg (ringL l0 l1 fr mn) i = ((imgL l0 l1).getD (fr + i % mn) ⟨#[]⟩).data.toList := by
  unfold rg
  rw [ringL_len _ _ _ _ h, ring_get h _ (Nat.mod_lt _ hm)]
theorem fill_sec (n : Nat) (s : ByteArray) (i : Nat) (hi : i < needN s) : (fillS (pieceS (recS n s) i)).data.toList = secR n s i := by
  have hnb := need_big n s
  have hne := needN_eq n s
  have hri : 64 * i < (recS n s).size := by omega
  have hA : (recS n s).data.toList.length = (recS n s).size := (sz _).symm
  unfold secR sec padB fillS
  rw [app, zeros_dl, List.drop_append_of_le_length (by omega), List.take_append]
  congr 1
  rw [List.take_replicate]
  have e : (pieceS (recS n s) i).size = min 64 ((recS n s).size - 64 * i) := by unfold pieceS; rw [pbsz, List.length_take, List.length_drop, hA]
  rw [e, List.length_drop, hA]
  congr 1
  omega
theorem pieces_get (r : ByteArray) (i : Nat) (h : i < (pieces r).length) : (pieces r)[i] = pieceS r i := by simp [pieces]
theorem imgL_app (l : List ByteArray) (a b : List S88) : imgL l (a ++ b) = imgL (imgL l a) b := by unfold imgL; rw [List.foldl_append]
/-- A log that stands on a disk: its texts. -/
structure Lg (l0 : List ByteArray) (l1 : List S88) (fr mn at_ used first many : Nat) (ts : List ByteArray) : Prop where
  rt : Rt l0 l1
  hm : 1 ≤ mn
  hfm : fr + mn ≤ l0.length
  hat : at_ < mn
  hf : first < 18446744073709551616
  hmany : many = ts.length
  hused : used = needs ts
  lay : LayF (ringL l0 l1 fr mn) at_ first 0 0 ts
namespace Lg
variable {l0 : List ByteArray} {l1 : List S88} {fr mn at_ used first many : Nat} {ts : List ByteArray}
theorem le (h : Lg l0 l1 fr mn at_ used first many ts) : used ≤ mn ∧ many ≤ used ∧ mn ≤ l0.length ∧ l0.length ≤ 4096 := by
  have h1 := lay_used _ at_ first ts 0 0 (Nat.zero_le _) h.lay
  rw [ringL_len _ _ _ _ h.hfm] at h1
  have h2 := needs_len ts
  have h3 := h.hmany; have h4 := h.hused; have h5 := h.hfm; have h6 := h.rt.len
  omega
theorem rs (h : Lg l0 l1 fr mn at_ used first many ts) : ∀ s ∈ ringL l0 l1 fr mn, s.size = 64 := ring_sec h.rt fr mn
theorem rl (h : Lg l0 l1 fr mn at_ used first many ts) : 1 ≤ (ringL l0 l1 fr mn).length := by rw [ringL_len _ _ _ _ h.hfm]; exact h.hm
theorem may (h : Lg l0 l1 fr mn at_ used first many ts) : mayR l0.length (fr : Int) (mn : Int) = true := by
  have h1 := h.hm; have h2 := h.hfm
  unfold mayR
  rw [decide_eq_true (by omega), decide_eq_true (by omega), decide_eq_true (by omega), decide_eq_true (by omega)]; rfl
theorem all (h : Lg l0 l1 fr mn at_ used first many ts) : found (ringL l0 l1 fr mn) at_ first many = (ts, used) := by
  rw [h.hmany, h.hused]; exact found_all h.rs h.rl h.lay
theorem right (h : Lg l0 l1 fr mn at_ used first many ts) : rightR l0 l1 false (fr : Int) (mn : Int) (at_ : Int) (used : Int) (first : Int) (many : Int) = true := by
  have h1 := h.hat
  unfold rightR foundD
  rw [if_neg (by rintro (k | k | k | k | k); cases k; rw [h.may] at k; cases k; omega; omega; omega)]
  simp only [Int.toNat_natCast]
  rw [h.all, ← h.hmany]
  simp
theorem ok (h : Lg l0 l1 fr mn at_ used first many ts) (h1 : l1.length ≤ 1000000) : RedOk l0 l1 (fr : Int) (mn : Int) (at_ : Int) (first : Int) := by
  have a := h.hm; have b := h.hfm; have c := h.hat; have d := h.hf; have e := h.le
  refine ⟨h.rt.ok (by omega), by omega, by omega, by omega, by omega, by omega, by omega, by omega, by omega, ?_⟩
  rw [Int.toNat_natCast, Int.toNat_natCast]
  exact h.rs
theorem texts (h : Lg l0 l1 fr mn at_ used first many ts) (h1 : l1.length ≤ 1000000) (u : Int) : redo_Texts.f l0 l1 false (fr : Int) (mn : Int) (at_ : Int) u (first : Int) (many : Int) = some (ts, 0) := by
  have e := h.le
  unfold redo_Texts.f foundD
  rw [if_pos ⟨rfl, h.ok h1, by omega, by omega⟩]
  simp only [Int.toNat_natCast]
  rw [h.all]
theorem drop (h : Lg l0 l1 fr mn at_ used first many ts) (a : Nat) (ha : a ≤ many) :
    Lg l0 l1 fr mn ((at_ + needs (ts.take a)) % mn) (used - needs (ts.take a)) ((first + a) % 18446744073709551616) (many - a) (ts.drop a) := by
  have hl := h.hmany
  have e := needs_app (ts.take a) (ts.drop a)
  rw [List.take_append_drop] at e
  have hlt : (ts.take a).length = a := by rw [List.length_take]; omega
  refine ⟨h.rt, h.hm, h.hfm, Nat.mod_lt _ h.hm, Nat.mod_lt _ (by decide), by rw [List.length_drop, hl], by rw [h.hused]; omega, ?_⟩
  have hy := h.lay
  rw [← List.take_append_drop a ts] at hy
  have h2 := ((lay_app _ at_ first (ts.take a) (ts.drop a) 0 0).1 hy).2
  rw [hlt] at h2
  have h3 := lay_shift (ringL l0 l1 fr mn) at_ first (needs (ts.take a)) a (ts.drop a) 0 0 (by rw [Nat.add_zero, Nat.add_zero]; rw [Nat.zero_add, Nat.zero_add] at h2; exact h2)
  rw [ringL_len _ _ _ _ h.hfm] at h3
  exact h3
theorem scan (h : Lg l0 l1 fr mn at_ used first many ts) (h1 : l1.length ≤ 1000000) : ∃ more, redo_Scan.f l0 l1 false (fr : Int) (mn : Int) (at_ : Int) (first : Int) = some ((at_ : Int), ((needs (ts ++ more) : Nat) : Int), (first : Int), (((ts ++ more).length : Nat) : Int), ts ++ more, 0) ∧
    Lg l0 l1 fr mn at_ (needs (ts ++ more)) first (ts ++ more).length (ts ++ more) := by
  have e := h.le
  have hl := h.hmany
  have h0 := h.hat
  obtain ⟨more, e1, e2⟩ := found_pre h.rs h.rl (most := mn) h.lay (by omega)
  have h2 := found_lay h.rs h.rl at_ first mn
  rw [e1] at h2
  refine ⟨more, ?_, ⟨h.rt, h.hm, h.hfm, h.hat, h.hf, rfl, rfl, h2.1⟩⟩
  unfold redo_Scan.f foundD
  rw [if_neg (by rintro ⟨_, k | k | k | k⟩; cases k; rw [h.may] at k; cases k; omega; omega), if_pos ⟨rfl, h.ok h1⟩]
  simp only [Int.toNat_natCast]
  rw [e2, e1]
/-- What is appended stands behind the others. -/
theorem append (h : Lg l0 l1 fr mn at_ used first many ts) {s : ByteArray} (hs : s.size ≤ 4096) (hu : used + needN s ≤ mn) :
    Lg l0 (l1 ++ laidP fr mn (at_ + used) 0 (pieces (recS ((first + many) % 18446744073709551616) s))) fr mn at_ (used + needN s) first (many + 1) (ts ++ [s]) := by
  have hm := h.hm
  have hfm := h.hfm
  obtain ⟨N, hN⟩ : ∃ N, N = (first + many) % 18446744073709551616 := ⟨_, rfl⟩
  rw [← hN]
  have hpl : (pieces (recS N s)).length = needN s := by rw [pieces_len, ← needN_eq]
  have hrt : Rt l0 (l1 ++ laidP fr mn (at_ + used) 0 (pieces (recS N s))) := by
    have hmem : ∀ (l : List ByteArray) (i : Nat), (∀ s ∈ l, s.size ≤ 64) → ∀ p ∈ laidP fr mn (at_ + used) i l, (0 ≤ p.f0 ∧ p.f0 < (l0.length : Int)) ∧ p.f1.size = 64 := by
      intro l
      induction l with
      | nil => intro i _ p hp; rw [laidP] at hp; cases hp
      | cons x l ih =>
        intro i hx p hp
        rw [laidP] at hp
        rcases List.mem_cons.1 hp with rfl | hp
        · have hlt : (at_ + used + i) % mn < mn := Nat.mod_lt _ hm
          refine ⟨⟨?_, ?_⟩, fillS_size x (hx x List.mem_cons_self)⟩
          · show (0 : Int) ≤ ((fr + (at_ + used + i) % mn : Nat) : Int); omega
          · show ((fr + (at_ + used + i) % mn : Nat) : Int) < _; omega
        · exact ih (i + 1) (fun s hs => hx s (List.mem_cons_of_mem _ hs)) p hp
    have hpc : ∀ x ∈ pieces (recS N s), x.size ≤ 64 := fun x hx => by
      unfold pieces at hx
      obtain ⟨j, _, rfl⟩ := List.mem_map.1 hx
      exact piece_size _ j
    refine ⟨h.rt.pos, h.rt.len, h.rt.rows, fun p hp => ?_, fun p hp => ?_⟩
    · rcases List.mem_append.1 hp with hp | hp
      · exact h.rt.at_ p hp
      · exact (hmem _ 0 hpc p hp).1
    · rcases List.mem_append.1 hp with hp | hp
      · exact h.rt.puts p hp
      · exact (hmem _ 0 hpc p hp).2
  have hle := h.le
  have hmany := h.hmany; have hused := h.hused
  refine ⟨hrt, hm, hfm, h.hat, h.hf, by rw [List.length_append, hmany]; rfl, by rw [needs_app, ← hused]; rfl, ?_⟩
  rw [lay_app]
  refine ⟨lay_same at_ first (by rw [ringL_len _ _ _ _ hfm, ringL_len _ _ _ _ hfm]) ts 0 0 (fun p _ hp => ?_) h.lay, ?_⟩
  · rw [Nat.zero_add, ← hused] at hp
    rw [rg_img hm hfm, rg_img hm hfm, imgL_app]
    refine congrArg (fun x : ByteArray => x.data.toList) (img_out fr mn (at_ + used) _ _ 0 _ (fun q hq => ?_))
    rw [hpl] at hq
    have := mod_ne (b := at_) (m := mn) (show p < used + q by omega) (by omega)
    rw [show at_ + used + (0 + q) = at_ + (used + q) by omega]
    exact fun e => this e.symm
  · rw [lay_cons]
    refine ⟨hs, by rw [ringL_len _ _ _ _ hfm]; omega, fun i hi => ?_, by rw [lay_nil]; trivial⟩
    rw [Nat.zero_add, ← hused, Nat.zero_add, ← hmany, ← hN, rg_img hm hfm, imgL_app, ← fill_sec N s i hi]
    have hi2 : i < (pieces (recS N s)).length := by rw [hpl]; exact hi
    have hin := img_in fr mn (at_ + used) hm (pieces (recS N s)) 0 (imgL l0 l1) i hi2 (by rw [hpl]; omega) (by rw [imgL_len]; exact hfm)
    rw [Nat.zero_add, Nat.add_assoc] at hin
    rw [hin, pieces_get]
theorem appended (h : Lg l0 l1 fr mn at_ used first many ts) (h1 : l1.length ≤ 1000000) {s : ByteArray} (hs : s.size ≤ 4096) :
    redo_Append.f l0 l1 false (fr : Int) (mn : Int) (at_ : Int) (used : Int) (first : Int) (many : Int) s =
      some (if mn < used + needN s then (l0, l1, false, (at_ : Int), (used : Int), (first : Int), (many : Int), 12)
        else (l0, l1 ++ laidP fr mn (at_ + used) 0 (pieces (recS ((first + many) % 18446744073709551616) s)), false, (at_ : Int), ((used + needN s : Nat) : Int), (first : Int), ((many + 1 : Nat) : Int), 0)) := by
  have hle := h.le
  have h66 := need66 hs
  have a := h.hm; have b := h.hfm; have c := h.hat; have d := h.hf
  unfold redo_Append.f
  have hw : wrap64 ((used : Int) + (needN s : Int)) = ((used + needN s : Nat) : Int) := by rw [w64 (by omega) (by omega)]; omega
  rw [if_neg (by decide), if_neg (by omega), hw]
  clear hw
  by_cases hu : mn < used + needN s
  · rw [if_pos (by omega), if_pos hu]
  · rw [if_neg (by omega), if_neg hu, if_pos ⟨by omega, by omega, by omega, by omega, by omega, by omega, by omega, by omega, by omega, by omega, by omega, by omega, by omega, by omega⟩]
    simp only [Int.toNat_natCast]
    rfl
theorem laid_len (s : ByteArray) (fr mn b n : Nat) : (laidP fr mn b 0 (pieces (recS n s))).length = needN s := by rw [laidP_len, pieces_len, ← needN_eq]
end Lg
end Go.Proofs.Ytcbfnfggnocndaa.Pure
end

section
/- Layer 5, pure: the examples, small disks, records; what all its laws begin with. -/
set_option linter.unusedVariables false
set_option linter.unusedSimpArgs false
namespace Go.Proofs.Ytcbfnfggnocndaa.Pure
open Go.RowKit Go.Lib Go.Proofs.Ytcbfnfggnocndaa Go.Proofs.Ytcbfnfggnocndaa.Q Go.Proofs.YtcbfnfggnocndaaW.PrintWords Go.Proofs.YtcbfnfggnocndaaW.PrintMore Math

theorem number_stepQ (n j k : Nat) (acc : List Int) (hj : j < 8) (ha : acc.length = j) : Q.redo_number.l0 (k + 1) (n : Int) acc (j : Int) = Q.redo_number.l0 k (n : Int) (acc ++ [((n / 2 ^ (8 * j) % 256 : Nat) : Int)]) ((j + 1 : Nat) : Int) := by
  rw [Q.redo_number.l0, if_pos (by omega)]
  have hw : wrap64 (8 * (j : Int)) = ((8 * j : Nat) : Int) := by rw [w64 (by omega) (by omega)]; omega
  have hw2 : wrap64 ((j : Int) + 1) = ((j + 1 : Nat) : Int) := by rw [w64 (by omega) (by omega)]; omega
  rw [hw, hw2, if_pos (by clear hw hw2; omega), if_pos (by clear hw hw2; omega), shr_nat n (8 * j) (by clear hw hw2; omega)]
theorem number_eqQ (n k : Nat) (hk : 9 ≤ k) : Q.redo_number.f k (n : Int) = some (num8S n) := by
  obtain ⟨k, rfl⟩ : ∃ j, k = j + 9 := ⟨k - 9, by omega⟩
  unfold Q.redo_number.f
  have s0 := number_stepQ n 0 (k + 8) [] (by decide) rfl
  have s1 := number_stepQ n 1 (k + 7) [((n / 2 ^ (8 * 0) % 256 : Nat) : Int)] (by decide) rfl
  have s2 := number_stepQ n 2 (k + 6) [((n / 2 ^ (8 * 0) % 256 : Nat) : Int), ((n / 2 ^ (8 * 1) % 256 : Nat) : Int)] (by decide) rfl
  have s3 := number_stepQ n 3 (k + 5) [((n / 2 ^ (8 * 0) % 256 : Nat) : Int), ((n / 2 ^ (8 * 1) % 256 : Nat) : Int), ((n / 2 ^ (8 * 2) % 256 : Nat) : Int)] (by decide) rfl
  have s4 := number_stepQ n 4 (k + 4) [((n / 2 ^ (8 * 0) % 256 : Nat) : Int), ((n / 2 ^ (8 * 1) % 256 : Nat) : Int), ((n / 2 ^ (8 * 2) % 256 : Nat) : Int), ((n / 2 ^ (8 * 3) % 256 : Nat) : Int)] (by decide) rfl
  have s5 := number_stepQ n 5 (k + 3) [((n / 2 ^ (8 * 0) % 256 : Nat) : Int), ((n / 2 ^ (8 * 1) % 256 : Nat) : Int), ((n / 2 ^ (8 * 2) % 256 : Nat) : Int), ((n / 2 ^ (8 * 3) % 256 : Nat) : Int), ((n / 2 ^ (8 * 4) % 256 : Nat) : Int)] (by decide) rfl
  have s6 := number_stepQ n 6 (k + 2) [((n / 2 ^ (8 * 0) % 256 : Nat) : Int), ((n / 2 ^ (8 * 1) % 256 : Nat) : Int), ((n / 2 ^ (8 * 2) % 256 : Nat) : Int), ((n / 2 ^ (8 * 3) % 256 : Nat) : Int), ((n / 2 ^ (8 * 4) % 256 : Nat) : Int), ((n / 2 ^ (8 * 5) % 256 : Nat) : Int)] (by decide) rfl
  have s7 := number_stepQ n 7 (k + 1) [((n / 2 ^ (8 * 0) % 256 : Nat) : Int), ((n / 2 ^ (8 * 1) % 256 : Nat) : Int), ((n / 2 ^ (8 * 2) % 256 : Nat) : Int), ((n / 2 ^ (8 * 3) % 256 : Nat) : Int), ((n / 2 ^ (8 * 4) % 256 : Nat) : Int), ((n / 2 ^ (8 * 5) % 256 : Nat) : Int), ((n / 2 ^ (8 * 6) % 256 : Nat) : Int)] (by decide) rfl
  refine s0.trans (s1.trans (s2.trans (s3.trans (s4.trans (s5.trans (s6.trans (s7.trans ?_)))))))
  rw [Q.redo_number.l0, if_neg (by decide)]
  unfold num8S num8
  simp only [Nat.reduceMul, Nat.reducePow, Nat.div_one, List.cons_append, List.nil_append]
theorem seal_Put_VQ (s : ByteArray) (hs : s.size ≤ 9223372036854775803) : Q.seal_Put.f s = some (putS s) := (show Q.seal_Put.f s = U.seal_Put.f s from rfl).trans (seal_Put_eq s hs)
theorem record_eqQ (n k : Nat) (s : ByteArray) (hk : 9 ≤ k) (hs : s.size ≤ 1000000000) : Q.redo_Record.f k (n : Int) s = some (recS n s) := by
  have h10 := numS_size10 (show s.size < 18446744073709551616 by omega)
  unfold Q.redo_Record.f
  rw [bs (number_eqQ n k hk), bs (show octet_Text.f s = some (textS s) from if_pos (by omega)), if_pos (by rw [num8S_size, textS_size]; omega)]
  have hz : (num8S n ++ textS s).size ≤ 9223372036854775803 := by rw [app_size, num8S_size, textS_size]; omega
  rw [bs (show Q.seal_Put.f (num8S n ++ textS s) = some (putS (num8S n ++ textS s)) from seal_Put_VQ _ hz)]
  rfl
theorem sectors_eqQ (z : Nat) (hz : z ≤ 100000000) : Q.redo_sectors.f (z : Int) = some (((z + 63) / 64 : Nat) : Int) := by
  unfold Q.redo_sectors.f
  congr 1
  rw [w64 (n := (z : Int) + 64) (by omega) (by omega), w64 (n := (z : Int) + 64 - 1) (by omega) (by omega)]
  rw [show (z : Int) + 64 - 1 = ((z + 63 : Nat) : Int) by omega, show Int.tdiv ((z + 63 : Nat) : Int) 64 = (((z + 63) / 64 : Nat) : Int) from rfl]
  exact w64 (by omega) (by omega)
theorem need_Q (s : ByteArray) (k : Nat) (hk : 9 ≤ k) (hs : s.size ≤ 10000000) : Q.redo_Need.f k s = some ((needN s : Nat) : Int) := by
  unfold Q.redo_Need.f
  have hr := recS_size 0 s
  have h10 := numS_size10 (show s.size < 18446744073709551616 by omega)
  rw [bs (show Q.redo_Record.f k 0 s = some (recS 0 s) from record_eqQ 0 k s hk (by omega)), bs (sectors_eqQ (recS 0 s).size (by omega))]
  rfl
theorem numS1 {n : Nat} (h : n < 128) : (numS n).size = 1 := by rw [sz, numS_dl, numB_lo (by omega)]; rfl
theorem need_small {s : ByteArray} (h : s.size < 128) : needN s = (s.size + 76) / 64 := by
  have := recS_size 0 s
  rw [numS1 h] at this
  unfold needN; rw [this]; congr 1; omega
def hiS : ByteArray := ⟨#[104, 105]⟩
theorem z2_rt : Rt (List.replicate 2 zeroS) [] := by
  have hz : zeroS.size = 64 := by unfold zeroS; rw [nums_size, List.length_replicate]
  refine ⟨by decide, by decide, fun s hs => ?_, fun p hp => (by cases hp), fun p hp => (by cases hp)⟩
  rw [List.eq_of_mem_replicate hs]; exact hz
theorem hi_need : needN hiS = 1 := need_small (s := hiS) (by decide)
theorem strOfNums_z (n : Nat) : (strOfNums (List.replicate n 0)).size = n := by rw [nums_size, List.length_replicate]
set_option maxRecDepth 100000 in
theorem shown_eq (k : Nat) (hk : 300 ≤ k) : copyholdlaw05_shown.f k = some true := by
  have g0 : Lg (List.replicate 2 zeroS) [] 0 2 0 0 7 0 [] := ⟨z2_rt, by omega, by simp, by omega, by omega, rfl, rfl, by rw [lay_nil]; trivial⟩
  have hN : (7 + 0) % 18446744073709551616 = 7 := by decide
  have g1 := g0.append (s := hiS) (by decide) (by rw [hi_need]; omega)
  have hA := g0.appended (by simp) (s := hiS) (by decide)
  rw [if_neg (by rw [hi_need]; omega)] at hA
  rw [hi_need] at hA g1
  rw [hN] at hA g1
  obtain ⟨more, hS, hL⟩ := g1.scan (by rw [List.length_append, Lg.laid_len, hi_need]; simp)
  have hlay := hL.lay
  obtain rfl : more = [] := by
    cases more with
    | nil => rfl
    | cons x m =>
      exfalso
      change LayF _ 0 7 0 0 (hiS :: x :: m) at hlay
      rw [lay_cons, lay_cons] at hlay
      have h1 := hlay.2.2.2.2.2.1 0 (by have := need_pos x; omega)
      rw [hi_need, rg_img (by omega) (by simp)] at h1
      have ho : (imgL (List.replicate 2 zeroS) (laidP 0 2 0 0 (pieces (recS 7 hiS)))).getD (0 + 1) ⟨#[]⟩ = zeroS := img_out 0 2 0 1 (pieces (recS 7 hiS)) 0 (List.replicate 2 zeroS) (fun q hq => by
        rw [pieces_len, ← needN_eq, hi_need] at hq
        obtain rfl : q = 0 := by omega
        decide)
      rw [List.nil_append] at h1
      rw [show 0 + (0 + (0 + 1 + 0)) % 2 = 0 + 1 by decide] at h1
      rw [show (0 + 0 : Nat) = 0 by decide] at h1
      rw [ho, show (7 + (0 + 1)) % 18446744073709551616 = 8 by decide] at h1
      have h2 := congrArg (List.take 8) h1
      unfold secR sec at h2
      rw [Nat.mul_zero, List.drop_zero, List.take_take, show min 8 64 = 8 by decide, padB_head] at h2
      revert h2
      decide +kernel
  rw [List.append_nil] at hS
  have hr : copyholdref04_New.f k 2 = some (List.replicate 2 zeroS, [], false, 0) := new_ref 2 (by omega) (by omega) k (by omega)
  unfold copyholdlaw05_shown.f
  rw [bs hr]
  dsimp only
  have hA2 : redo_Append.f (List.replicate 2 zeroS) [] false 0 2 0 0 7 0 (⟨#[104, 105]⟩ : ByteArray) = _ := hA
  rw [bs hA2]
  dsimp only
  have hS2 : redo_Scan.f (List.replicate 2 zeroS) ([] ++ laidP 0 2 (0 + 0) 0 (pieces (recS 7 hiS))) false 0 2 0 7 = _ := hS
  rw [bs hS2]
  dsimp only
  rw [if_pos rfl, if_pos rfl, if_pos (by decide), if_pos (by decide), if_pos (by decide), if_pos (by decide), if_pos (by decide +kernel), if_pos (by decide),
    bs (need_Q _ k (by omega) (by rw [strOfNums_z]; omega)), need_small (by rw [strOfNums_z]; omega), strOfNums_z, if_pos (by decide), if_pos (by decide),
    bs (need_Q _ k (by omega) (by rw [strOfNums_z]; omega)), need_small (by rw [strOfNums_z]; omega), strOfNums_z]
  rfl
/-- Two records are the same just if their numbers and texts are. -/
theorem num8_inj {n m : Nat} (hn : n < 18446744073709551616) (hm : m < 18446744073709551616) (h : num8S n = num8S m) : n = m := by
  have e : num8 n = num8 m := by
    have h1 : (num8S n).data.toList = (num8S m).data.toList := by rw [h]
    unfold num8S at h1
    rw [nums_dl, nums_dl] at h1
    unfold num8 at h1 ⊢
    simp only [List.map_cons, List.map_nil, List.cons.injEq, and_true, Int.toNat_natCast] at h1
    obtain ⟨a0, a1, a2, a3, a4, a5, a6, a7⟩ := h1
    have f := fun (x y : Nat) (h : UInt8.ofNat (x % 256) = UInt8.ofNat (y % 256)) => ofNat_inj (Nat.mod_lt _ (by decide)) (Nat.mod_lt _ (by decide)) h
    rw [f _ _ a0, f _ _ a1, f _ _ a2, f _ _ a3, f _ _ a4, f _ _ a5, f _ _ a6, f _ _ a7]
  unfold num8 at e
  simp only [List.cons.injEq, and_true] at e
  obtain ⟨a0, a1, a2, a3, a4, a5, a6, a7⟩ := e
  omega
theorem rec_inj {n m : Nat} {s t : ByteArray} (hn : n < 18446744073709551616) (hm : m < 18446744073709551616) (hs : s.size ≤ 1000000) (ht : t.size ≤ 1000000) (h : recS n s = recS m t) : n = m ∧ s = t := by
  have h1 : num8S n ++ textS s = num8S m ++ textS t := by
    have := congrArg takeS h
    unfold recS at this
    rw [take_put, take_put] at this
    exact (Prod.mk.inj this).1
  have h2 : (num8S n).data.toList ++ textB s.data.toList = (num8S m).data.toList ++ textB t.data.toList := by
    have := congrArg (fun x : ByteArray => x.data.toList) h1
    simp only [app, textS_dl] at this
    exact this
  have h3 := List.append_inj h2 (by rw [← sz, ← sz, num8S_size, num8S_size])
  refine ⟨num8_inj hn hm (inj h3.1), inj ?_⟩
  have a := text_take s.data.toList [] 1000000 (by rw [← sz]; omega) (by rw [← sz]; omega)
  have b := text_take t.data.toList [] 1000000 (by rw [← sz]; omega) (by rw [← sz]; omega)
  rw [h3.2, b] at a
  exact (Prod.mk.inj a).1.symm
end Go.Proofs.Ytcbfnfggnocndaa.Pure
end

section
/- RedoRecords, pure: two records are the same just if their numbers and texts are. -/
set_option linter.unusedVariables false
set_option linter.unusedSimpArgs false
namespace Go.Proofs.Ytcbfnfggnocndaa.Pure
open Go.RowKit Go.Lib Go.Proofs.Ytcbfnfggnocndaa Go.Proofs.Ytcbfnfggnocndaa.Q Go.Proofs.YtcbfnfggnocndaaW.PrintWords Go.Proofs.YtcbfnfggnocndaaW.PrintMore Math

theorem long1 (a : ByteArray) (ha : a.size ≤ 1000000) (k : Nat) (hk : 3 ≤ k) : copyholdref01_Long.f k [a] = some (((a.size : Int) + 1)) := by
  obtain ⟨k, rfl⟩ : ∃ j, k = j + 2 := ⟨k - 2, by omega⟩
  unfold copyholdref01_Long.f
  rw [copyholdref01_Long.l0, if_pos (by simp), if_pos (by omega)]
  have e : rdOf ByteArray.empty [a] 0 = a := rfl
  rw [e, show wrap64 (0 + 1) = 1 from w64 (by omega) (by omega), copyholdref01_Long.l0, if_neg (by simp)]
  congr 1
  rw [show (([a] : List ByteArray).length : Int) = 1 from rfl, w64 (by omega) (by omega)]; omega
theorem RedoRecords : RedoRecordsSt := by
  unfold RedoRecordsSt
  intro n m s t hn hm hs ht
  obtain ⟨hn0, hn1⟩ := litu64 hn
  obtain ⟨hm0, hm1⟩ := litu64 hm
  obtain ⟨n, rfl⟩ := Int.eq_ofNat_of_zero_le hn0
  obtain ⟨m, rfl⟩ := Int.eq_ofNat_of_zero_le hm0
  refine ⟨1000, ?_⟩
  unfold copyholdlaw05_RedoRecords.f
  rw [bs (shown_eq 1000 (by omega))]
  by_cases hsz : s.size + t.size > 4000
  · rw [if_pos (by rw [w64 (by omega) (by omega)]; omega)]
  · have zs := recS_size n s
    have h10 := numS_size10 (show s.size < 18446744073709551616 by omega)
    have hp : 1 ≤ (numS s.size).size := by rw [sz, numS_dl]; exact numB_pos _
    have hd := needN_eq n s
    have hw1 : wrap64 ((s.size : Int) + 13) = (s.size : Int) + 13 := w64 (by omega) (by omega)
    have hw2 : wrap64 (((recS n s).size : Int) + 63) = (((recS n s).size + 63 : Nat) : Int) := by clear hw1; rw [w64 (by omega) (by omega)]; omega
    have hw3 : wrap64 (Int.tdiv (((recS n s).size + 63 : Nat) : Int) 64) = ((needN s : Nat) : Int) := by
      clear hw1 hw2
      rw [show Int.tdiv (((recS n s).size + 63 : Nat) : Int) 64 = ((((recS n s).size + 63) / 64 : Nat) : Int) from rfl, w64 (by omega) (by omega), hd]
    have hw4 : wrap64 (((recS n s).size : Int) + 1) = ((recS n s).size : Int) + 1 := by clear hw1 hw2 hw3; exact w64 (by omega) (by omega)
    have hge : ((recS n s).size : Int) ≥ (s.size : Int) + 13 := by clear hw1 hw2 hw3 hw4; omega
    have hneed := need_Q s 1000 (by omega) (by clear hw1 hw2 hw3 hw4; omega)
    have hlong := long1 (recS n s) (by clear hw1 hw2 hw3 hw4; omega) 1000 (by omega)
    have hgo : (if ((recS n s).size : Int) ≥ wrap64 ((s.size : Int) + 13) then ((Q.redo_Need.f 1000 s).bind fun t258 => (if t258 = (wrap64 (Int.tdiv (wrap64 (((recS n s).size : Int) + 63)) 64)) then ((copyholdref01_Long.f 1000 [recS n s]).bind fun t262 => (some (t262 == (wrap64 (((recS n s).size : Int) + 1))))) else (some false))) else (some false)) = some true := by
      rw [hw1, if_pos hge, bs hneed, hw2, hw3, if_pos rfl, bs hlong, hw4, beq_self_eq_true]
    clear hw2 hw3 hw4 hge hneed hlong
    rw [if_neg (by clear hw1; rw [w64 (by omega) (by omega)]; omega), bs (record_eqQ n 1000 s (by omega) (by clear hw1; omega)), bs (record_eqQ m 1000 t (by omega) (by clear hw1; omega)), if_pos rfl]
    rw [toL, toL]
    by_cases hnm : (n : Int) = (m : Int)
    · have hnm2 : n = m := by clear hw1; omega
      subst hnm2
      rw [if_pos rfl]
      have e : (decide (recS n s = recS n t) == decide (s = t)) = true := by
        by_cases h : s = t
        · subst h; simp
        · have h2 : ¬ recS n s = recS n t := fun e => h (rec_inj (by clear hw1; omega) (by clear hw1; omega) (by clear hw1; omega) (by clear hw1; omega) e).2
          rw [decide_eq_false h, decide_eq_false h2]; rfl
      rw [if_pos e]
      exact hgo
    · rw [if_neg hnm]
      have h2 : ¬ recS n s = recS m t := fun e => hnm (by rw [(rec_inj (by clear hw1; omega) (by clear hw1; omega) (by clear hw1; omega) (by clear hw1; omega) e).1])
      rw [decide_eq_false h2, if_pos (show (false == false) = true from rfl)]
      exact hgo
end Go.Proofs.Ytcbfnfggnocndaa.Pure
end
