/- NamePaths, pure: a path of right names is split into them; with a name behind it it has one more. -/
import Derived.Test.YtobjfdebcflocaaDoorStatNamePaths
import Derived.Test.YtobjfdebcflocaaDoorNameS
set_option linter.unusedVariables false
set_option linter.unusedSimpArgs false
namespace Go.Proofs.YtobjfdebcflocaaDoor.Pure
open Go.RowKit Go.Proofs.YtobjfdebcflocaaDoor.Q Go.Proofs.YtobjfdebcflocaaDoorW.PrintWords Math

theorem name_split (s : ByteArray) (h : s.size ≤ 1000000) : name_Split.f s = some (splitR s) := by unfold name_Split.f; rw [if_pos h]
theorem paths_end (l : List ByteArray) (more p : ByteArray) (hl : l.length ≤ 20) (hm : more.size ≤ 100) (hp : p.data.toList = pl (l.map (·.data.toList))) (hps : p.size ≤ 1000) (hL : ∀ x ∈ l, badName x = false) (i : Nat) (hi : i = l.length) (k : Nat) (hk : 200 ≤ k) :
    copyholdlaw06_NamePaths.l0 k l more true p (i : Int) = some true := by
  obtain ⟨k, rfl⟩ : ∃ j, k = j + 1 := ⟨k - 1, by omega⟩
  have hsl : (⟨#[47]⟩ : ByteArray).data.toList = [47] := rfl
  have hsz : (p ++ (⟨#[47]⟩ : ByteArray)).size = p.size + 1 := by rw [app_size]; rfl
  have hA : splitR (p ++ (⟨#[47]⟩ : ByteArray)) = (l, 0) := by
    rw [split_path _ l (mk []) (by rw [app, hp, hsl]; rfl) hL rfl, parts_last_empty]
  have hsz2 : ((p ++ (⟨#[47]⟩ : ByteArray)) ++ more).size ≤ 1000000 := by rw [app_size, hsz]; omega
  rw [copyholdlaw06_NamePaths.l0, if_neg (by omega), if_pos (by omega), bs (name_split _ (by omega)), if_pos (by rw [hsz]; omega), bs (name_split _ hsz2), hA, if_pos rfl, bs (strings_eq l l (by omega) k (by omega)), decide_eq_true rfl]
  obtain ⟨k, rfl⟩ : ∃ j, k = j + 1 := ⟨k - 1, by omega⟩
  rw [copyholdlaw06_NamePaths.j2, Bool.not_true, if_neg (by decide), bs (ref_check more k (by omega))]
  cases hb : badName more with
  | true => rw [if_pos rfl, if_neg (by decide)]
  | false =>
    have hB : splitR ((p ++ (⟨#[47]⟩ : ByteArray)) ++ more) = (l ++ [more], 0) := by
      rw [split_path _ l more (by rw [app, app, hp, hsl, List.append_assoc]; rfl) hL (bad_parts hb).2.2.1, parts_last hb]
    rw [show (if (false = true) then (10 : Int) else 0) = 0 from rfl, if_pos rfl, if_pos rfl, hB, if_pos rfl]
    have e : (l ++ [more]).length = l.length + 1 := by simp
    show (if (((l ++ [more]).length : Nat) : Int) = _ then _ else _) = _
    rw [e, w64 (by omega) (by omega), if_pos (by omega), if_pos (by omega), if_pos (by omega)]
    show some ((rdOf ByteArray.empty (l ++ [more]) (l.length : Int)).toList == more.toList) = _
    rw [rdo (by simp)]
    simp
theorem paths_l0 (l : List ByteArray) (more : ByteArray) (hl : l.length ≤ 20) (hm : more.size ≤ 100) : ∀ (n i : Nat) (p : ByteArray) (k : Nat), i + n = l.length → p.data.toList = pl ((l.take i).map (·.data.toList)) → p.size ≤ 33 * i → (∀ x ∈ l.take i, badName x = false) → n + 200 ≤ k →
    copyholdlaw06_NamePaths.l0 k l more true p (i : Int) = some true := by
  intro n
  induction n with
  | zero =>
    intro i p k hi hp hps hL hk
    have e : l.take i = l := List.take_of_length_le (by omega)
    rw [e] at hp hL
    exact paths_end l more p hl hm hp (by omega) hL i (by omega) k (by omega)
  | succ n ih =>
    intro i p k hi hp hps hL hk
    obtain ⟨k, rfl⟩ : ∃ j, k = j + 1 := ⟨k - 1, by omega⟩
    have h : i < l.length := by omega
    rw [copyholdlaw06_NamePaths.l0, if_pos (by omega), if_pos (by omega), rdo h, bs (ref_check l[i] k (by omega))]
    cases hb : badName l[i] with
    | true => rw [if_pos rfl, if_neg (by decide)]
    | false =>
      have hbp := bad_parts hb
      have hsl : (⟨#[47]⟩ : ByteArray).data.toList = [47] := rfl
      have hsz : (p ++ (⟨#[47]⟩ : ByteArray)).size = p.size + 1 := by rw [app_size]; rfl
      have plA : ∀ (A B : List (List UInt8)), pl (A ++ B) = pl A ++ pl B := by
        intro A
        induction A with
        | nil => intro B; rfl
        | cons x A ih => intro B; show 47 :: x ++ pl (A ++ B) = 47 :: x ++ pl A ++ pl B; rw [ih, List.append_assoc]
      rw [show (if (false = true) then (10 : Int) else 0) = 0 from rfl, if_pos rfl, if_pos (by omega), if_pos (by rw [hsz]; omega), w64 (by omega) (by omega), show (i : Int) + 1 = ((i + 1 : Nat) : Int) by omega]
      refine ih (i + 1) _ k (by omega) ?_ ?_ ?_ (by omega)
      · rw [List.take_succ_eq_append_getElem h, List.map_append, plA, ← hp, app, app, hsl, List.append_assoc]
        simp [pl]
      · rw [app_size, hsz]; omega
      · intro x hx
        rw [List.take_succ_eq_append_getElem h] at hx
        rcases List.mem_append.1 hx with hx | hx
        · exact hL x hx
        · rw [List.mem_singleton.1 hx]; exact hb
theorem NamePaths : NamePathsSt := by
  unfold NamePathsSt
  intro l more hl hm
  refine ⟨1000, ?_⟩
  unfold copyholdlaw06_NamePaths.f
  have J : copyholdlaw06_NamePaths.j0 1000 l more true true = some true := by rw [copyholdlaw06_NamePaths.j0, if_pos rfl]
  rw [bs shown_eq]
  by_cases h1 : (l.length : Int) > 20
  · rw [if_pos h1, J]
  · rw [if_neg h1]
    by_cases h2 : (more.size : Int) > 100
    · rw [decide_eq_true h2, J]
    · rw [decide_eq_false h2, copyholdlaw06_NamePaths.j0, if_neg (by decide), show (0 : Int) = ((0 : Nat) : Int) from rfl]
      exact paths_l0 l more (by omega) (by omega) l.length 0 _ 999 (by omega) rfl (Nat.le_refl 0) (by simp) (by omega)
end Go.Proofs.YtobjfdebcflocaaDoor.Pure
