/- NameRows, pure: which names and rows are right, an entry, all names, and a path's names, are as the document says. -/
import Derived.Test.YtobjfdebcflocaaDoorStatNameRows
import Derived.Test.YtobjfdebcflocaaDoorNameS
import Derived.Test.YtobjfdebcflocaaDoorNameO
import Derived.Test.YtobjfdebcflocaaDoorQ4
import Derived.Test.YtobjfdebcflocaaDoorQ5
set_option linter.unusedVariables false
set_option linter.unusedSimpArgs false
namespace Go.Proofs.YtobjfdebcflocaaDoor.Pure
open Go.RowKit Go.Proofs.YtobjfdebcflocaaDoor.Q Go.Proofs.YtobjfdebcflocaaDoorW.PrintWords Math

theorem name_split (s : ByteArray) (h : s.size ≤ 1000000) : name_Split.f s = some (splitR s) := by unfold name_Split.f; rw [if_pos h]
theorem one_byte (s : ByteArray) (i : Nat) (h : i < s.data.toList.length) : (s.extract i (i + 1)).data.toList = [s.data.toList[i]] := by
  rw [ext_, List.drop_take, show i + 1 - i = 1 by omega, List.drop_eq_getElem_cons h]; rfl
/-- The document's own way through a path: rest, piece, names. -/
theorem split_l0 (s : ByteArray) (hs : s.size ≤ 2000) : ∀ (n i : Nat) (k : Nat) (acc : List UInt8) (out : List ByteArray), i + n = s.size → 1 ≤ i → 3 * n + 100 ≤ k → acc.length ≤ i → out.length ≤ i →
    copyholdref06_Split.l0 k s out (mk acc) (i : Int) = some (partsGo ((segs (s.data.toList.drop i) acc).map mk) out) := by
  intro n
  -- what is done with a piece
  have piece : ∀ (k i : Nat) (acc : List UInt8) (out : List ByteArray) (r : List ByteArray), 50 ≤ k → 1 ≤ i → i ≤ 3000 → out.length ≤ 3000 →
      (∀ out', out'.length ≤ out.length + 1 → ∀ k', k ≤ k' + 2 → copyholdref06_Split.l0 k' s out' (⟨#[]⟩ : ByteArray) (((i + 1 : Nat)) : Int) = some (partsGo r out')) →
      copyholdref06_Split.j2 k s out (mk acc) (i : Int) false = some (partsGo (mk acc :: r) out) := by
    intro k i acc out r hk h1 hi ho hR
    obtain ⟨k, rfl⟩ : ∃ j, k = j + 1 := ⟨k - 1, by omega⟩
    obtain ⟨k, rfl⟩ : ∃ j, k = j + 1 := ⟨k - 1, by omega⟩
    have hw : wrap64 ((i : Int) + 1) = ((i + 1 : Nat) : Int) := by rw [w64 (by omega) (by omega)]; omega
    show _ = some (if (mk acc).toList == [] || (mk acc).toList == [46] then partsGo r out else if badName (mk acc) then ([], 10) else partsGo r (out ++ [mk acc]))
    rw [copyholdref06_Split.j2, if_neg (by decide)]
    by_cases e1 : (mk acc).toList = []
    · rw [if_pos e1, copyholdref06_Split.j3, if_neg (by decide), hw, hR out (by omega) k (by omega), beq_iff_eq.2 e1]; rfl
    · rw [if_neg e1, beq_eq_false_iff_ne.2 e1]
      by_cases e2 : (mk acc).toList = [46]
      · rw [copyholdref06_Split.j3, bne_eq_false_iff_eq.2 e2, if_neg (by decide), hw, hR out (by omega) k (by omega), beq_iff_eq.2 e2]; rfl
      · rw [copyholdref06_Split.j3, bne_iff_ne.2 e2, if_pos rfl, beq_eq_false_iff_ne.2 e2, bs (ref_check _ k (by omega))]
        cases hb : badName (mk acc) with
        | true => rw [if_pos rfl, if_neg (by decide)]; rfl
        | false => rw [show (if (false = true) then (10 : Int) else 0) = 0 from rfl, if_pos rfl, if_pos (by omega), hw, hR (out ++ [mk acc]) (by simp) k (by omega)]; rfl
  induction n with
  | zero =>
    intro i k acc out hi h1 hk ha ho
    obtain ⟨k, rfl⟩ : ∃ j, k = j + 1 := ⟨k - 1, by omega⟩
    rw [copyholdref06_Split.l0, if_pos (by omega), if_neg (by omega), List.drop_eq_nil_of_le (by rw [← sz]; omega)]
    refine piece k i acc out [] (by omega) h1 (by omega) (by omega) (fun out' _ k' hk' => ?_)
    obtain ⟨k', rfl⟩ : ∃ j, k' = j + 1 := ⟨k' - 1, by omega⟩
    rw [copyholdref06_Split.l0, if_neg (by omega)]; rfl
  | succ n ih =>
    intro i k acc out hi h1 hk ha ho
    obtain ⟨k, rfl⟩ : ∃ j, k = j + 1 := ⟨k - 1, by omega⟩
    have h : i < s.data.toList.length := by rw [← sz]; omega
    rw [copyholdref06_Split.l0, if_pos (by omega), if_pos (by omega), if_pos (by omega), bt_nat s i h, List.drop_eq_getElem_cons h]
    by_cases e : s.data.toList[i] = 47
    · have e' : (((s.data.toList[i].toNat : Nat) : Int) != 47) = false := by rw [e]; rfl
      rw [e', e, segs_slash, List.map_cons]
      exact piece k i acc out _ (by omega) h1 (by omega) (by omega) (fun out' ho' k' hk' => ih (i + 1) k' [] out' (by omega) (by omega) (by omega) (by simp) (by omega))
    · have e' : (((s.data.toList[i].toNat : Nat) : Int) != 47) = true := by
        rw [bne_iff_ne]
        intro h'
        exact e ((u8_eq _ _).2 (by have : (47 : UInt8).toNat = 47 := rfl; omega))
      have hseg : segs (s.data.toList[i] :: s.data.toList.drop (i + 1)) acc = segs (s.data.toList.drop (i + 1)) (acc ++ [s.data.toList[i]]) := by
        show (if s.data.toList[i] == 47 then _ else _) = _
        rw [if_neg (by simpa using e)]
      have hw : wrap64 ((i : Int) + 1) = ((i + 1 : Nat) : Int) := by rw [w64 (by omega) (by omega)]; omega
      obtain ⟨k, rfl⟩ : ∃ j, k = j + 1 := ⟨k - 1, by omega⟩
      have hx : (mk acc) ++ (s.extract ((i : Int)).toNat (((i + 1 : Nat) : Int)).toNat) = mk (acc ++ [s.data.toList[i]]) := by
        apply inj
        rw [app, Int.toNat_natCast, Int.toNat_natCast, one_byte s i h]; rfl
      have hxs : (s.extract ((i : Int)).toNat (((i + 1 : Nat) : Int)).toNat).size = 1 := by rw [sz, Int.toNat_natCast, Int.toNat_natCast, one_byte s i h]; rfl
      rw [e', hseg, copyholdref06_Split.j2, if_pos rfl, hw, if_pos (by omega), if_pos (by omega), if_pos (by omega), hxs, mk_size, if_pos (by omega), hx]
      exact ih (i + 1) k _ out (by omega) (by omega) (by omega) (by simp; omega) (by omega)
theorem ref_split (s : ByteArray) (hs : s.size ≤ 2000) (k : Nat) (hk : 7000 ≤ k) : copyholdref06_Split.f k s = some (splitR s) := by
  obtain ⟨k, rfl⟩ : ∃ j, k = j + 1 := ⟨k - 1, by omega⟩
  unfold copyholdref06_Split.f splitR
  by_cases h0 : (s.size : Int) = 0
  · have e : s.toList = [] := by rw [tl]; apply List.eq_nil_of_length_eq_zero; rw [← sz]; omega
    rw [if_pos h0, copyholdref06_Split.j0, if_pos rfl, e]; rfl
  · have hl : 0 < s.data.toList.length := by rw [← sz]; omega
    have e : (s.toList == []) = false := by
      rw [tl]; cases h : s.data.toList with
      | nil => rw [h] at hl; simp at hl
      | cons _ _ => rfl
    rw [if_neg h0, if_pos (by omega), e, if_neg (show ¬ (false = true) by decide)]
    cases h1 : (bt s 0 == 47) with
    | false => rw [bne, h1, copyholdref06_Split.j0, Bool.not_false, if_pos rfl]; rfl
    | true =>
      rw [bne, h1, copyholdref06_Split.j0, Bool.not_true, if_neg (by decide), if_pos rfl]
      have h2 := split_l0 s hs (s.size - 1) 1 k [] [] (by omega) (by omega) (by omega) (by simp) (by simp)
      refine (show copyholdref06_Split.l0 k s [] (⟨#[]⟩ : ByteArray) 1 = _ from h2).trans ?_
      have hb : s.data.toList[0] = 47 := by
        have := bt_nat s 0 hl
        have h3 := beq_iff_eq.1 h1
        refine (u8_eq _ _).2 ?_
        have h47 : (47 : UInt8).toNat = 47 := rfl
        have h4 : ((s.data.toList[0].toNat : Nat) : Int) = 47 := by rw [← this]; exact h3
        omega
      have hd : s.data.toList = 47 :: s.data.toList.drop 1 := by
        have := List.drop_eq_getElem_cons hl
        rw [List.drop_zero, hb] at this
        exact this
      rw [pieces_mk]
      conv => rhs; rw [hd]
      rw [segs_slash, List.map_cons, parts_skip]
theorem names_l0 (l : List E) (hl : l.length ≤ 1000) : ∀ (n i k : Nat), i + n = l.length → n < k → copyholdref06_Names.l0 k l ((l.take i).map (·.f0)) (i : Int) = some (l.map (·.f0)) := by
  intro n
  induction n with
  | zero => intro i k hi hk; obtain ⟨k, rfl⟩ : ∃ j, k = j + 1 := ⟨k - 1, by omega⟩; rw [copyholdref06_Names.l0, if_neg (by omega), List.take_of_length_le (by omega)]
  | succ n ih =>
    intro i k hi hk; obtain ⟨k, rfl⟩ : ∃ j, k = j + 1 := ⟨k - 1, by omega⟩
    have h : i < l.length := by omega
    rw [copyholdref06_Names.l0, if_pos (by omega), if_pos (by omega), if_pos (by rw [List.length_map, List.length_take]; omega), rd_eq, getD_eq l i h, w64 (by omega) (by omega), show (i : Int) + 1 = ((i + 1 : Nat) : Int) by omega]
    have e : (l.take i).map (·.f0) ++ [l[i].f0] = (l.take (i + 1)).map (·.f0) := by rw [List.take_succ_eq_append_getElem h, List.map_append]; rfl
    rw [e]
    exact ih (i + 1) k (by omega) (by omega)
theorem ref_names (l : List E) (hl : l.length ≤ 1000) (k : Nat) (hk : 1001 < k) : copyholdref06_Names.f k l = some (l.map (·.f0)) := by
  unfold copyholdref06_Names.f
  exact names_l0 l hl l.length 0 k (by omega) (by omega)
theorem rows_j0 (l : List E) (s : ByteArray) (hl : l.length ≤ 300) (hs : s.size ≤ 2000) : copyholdlaw06_NameRows.j0 30000 l s true false = some true := by
  have hp : (splitR s).1.length ≤ 8796093022208 := by
    have hseg : ∀ (x acc : List UInt8), (segs x acc).length ≤ x.length + 1 := by
      intro x
      induction x with
      | nil => intro acc; simp [segs]
      | cons c r ih =>
        intro acc
        show (if c == 47 then acc :: segs r [] else segs r (acc ++ [c])).length ≤ _
        split
        · have := ih []; simp only [List.length_cons]; omega
        · have := ih (acc ++ [c]); simp only [List.length_cons]; omega
    have hgo : ∀ (ps out : List ByteArray), (partsGo ps out).1.length ≤ out.length + ps.length := by
      intro ps
      induction ps with
      | nil => intro out; show out.length ≤ _; omega
      | cons p r ih =>
        intro out
        show (if p.toList == [] || p.toList == [46] then partsGo r out else if badName p then ([], 10) else partsGo r (out ++ [p])).1.length ≤ _
        split
        · have := ih out; simp only [List.length_cons]; omega
        · split
          · simp
          · have := ih (out ++ [p]); simp only [List.length_append, List.length_cons, List.length_nil] at this ⊢; omega
    unfold splitR
    split
    · simp
    · split
      · have h1 := hgo (piecesB s) []
        rw [pieces_mk, List.length_map] at h1
        have h2 := hseg s.data.toList []
        rw [← sz] at h2
        rw [pieces_mk]
        simp only [List.length_nil] at h1
        omega
      · simp
  have hp2 : (splitR s).1.length ≤ 2100 := by
    have hseg : ∀ (x acc : List UInt8), (segs x acc).length ≤ x.length + 1 := by
      intro x
      induction x with
      | nil => intro acc; simp [segs]
      | cons c r ih =>
        intro acc
        show (if c == 47 then acc :: segs r [] else segs r (acc ++ [c])).length ≤ _
        split
        · have := ih []; simp only [List.length_cons]; omega
        · have := ih (acc ++ [c]); simp only [List.length_cons]; omega
    have hgo : ∀ (ps out : List ByteArray), (partsGo ps out).1.length ≤ out.length + ps.length := by
      intro ps
      induction ps with
      | nil => intro out; show out.length ≤ _; omega
      | cons p r ih =>
        intro out
        show (if p.toList == [] || p.toList == [46] then partsGo r out else if badName p then ([], 10) else partsGo r (out ++ [p])).1.length ≤ _
        split
        · have := ih out; simp only [List.length_cons]; omega
        · split
          · simp
          · have := ih (out ++ [p]); simp only [List.length_append, List.length_cons, List.length_nil] at this ⊢; omega
    unfold splitR
    split
    · simp
    · split
      · have h1 := hgo (piecesB s) []
        rw [pieces_mk, List.length_map] at h1
        have h2 := hseg s.data.toList []
        rw [← sz] at h2
        rw [pieces_mk]
        simp only [List.length_nil] at h1
        omega
      · simp
  rw [copyholdlaw06_NameRows.j0, if_neg (by decide), bs (ref_right l 29999 (by omega)), bs (name_split s (by omega)), bs (ref_split s hs 29999 (by omega)), bs (strings_eq _ _ hp 29999 (by omega)), decide_eq_true rfl, if_pos rfl, beq_self_eq_true,
    copyholdlaw06_NameRows.j1, bs (name_right l (by omega) 29998 (by omega)), bne_self_eq_false, if_neg (by decide), bs (name_check s), bs (ref_check s 29998 (by omega)), if_pos rfl, Bool.not_true, copyholdlaw06_NameRows.j2, if_neg (by decide)]
  cases hr : rightB l with
  | false => rw [if_neg (by decide)]
  | true =>
    have hR := rightL_of hr
    have hN : name_Names.f l = some (l.map (·.f0)) := by unfold name_Names.f; rw [if_pos (by omega)]
    rw [if_pos rfl, bs (name_find s hR.rise (by omega)), bs (ref_find l s (by omega) 29997 (by omega)), if_pos rfl, if_pos rfl, beq_self_eq_true, if_pos rfl, bs hN, bs (ref_names l (by omega) 29997 (by omega)), bs (strings_eq _ _ (by rw [List.length_map]; omega) 29997 (by rw [List.length_map]; omega)), decide_eq_true rfl]
theorem NameRows : NameRowsSt := by
  unfold NameRowsSt
  intro l s hl hs
  refine ⟨30000, ?_⟩
  unfold copyholdlaw06_NameRows.f
  have J : copyholdlaw06_NameRows.j0 30000 l s true true = some true := by rw [copyholdlaw06_NameRows.j0, if_pos rfl]
  rw [bs shown_eq]
  by_cases h1 : (l.length : Int) > 300
  · rw [if_pos h1, J]
  · rw [if_neg h1]
    by_cases h2 : (s.size : Int) > 2000
    · rw [decide_eq_true h2, J]
    · rw [decide_eq_false h2]
      exact rows_j0 l s (by omega) (by omega)
end Go.Proofs.YtobjfdebcflocaaDoor.Pure
