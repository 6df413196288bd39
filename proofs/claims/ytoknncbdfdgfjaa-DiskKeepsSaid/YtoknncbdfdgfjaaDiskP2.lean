/- Layer 4, pure: the document's answers are those that are told of the code. -/
import Derived.Test.YtoknncbdfdgfjaaDiskP1
import Derived.Test.YtoknncbdfdgfjaaQ3
import Derived.Test.YtoknncbdfdgfjaaQ4
import Derived.Test.YtoknncbdfdgfjaaQ5
import Derived.Test.YtoknncbdfdgfjaaQ9
set_option linter.unusedVariables false
set_option linter.unusedSimpArgs false
namespace Go.Proofs.Ytoknncbdfdgfjaa.Pure
open Go.RowKit Go.Proofs.Ytoknncbdfdgfjaa.Q Go.Proofs.YtoknncbdfdgfjaaW.PrintWords Math

theorem joinT_cons (x : ByteArray) (xs : List ByteArray) : joinT (x :: xs) = x ++ joinT xs := by
  apply inj; rw [app]; simp [joinT]
theorem joinT_nil : joinT [] = ⟨#[]⟩ := rfl
theorem app_nil (x : ByteArray) : x ++ (⟨#[]⟩ : ByteArray) = x := by apply inj; rw [app]; simp
theorem nil_app (x : ByteArray) : (⟨#[]⟩ : ByteArray) ++ x = x := by apply inj; rw [app]; simp
theorem app_as (x y z : ByteArray) : x ++ y ++ z = x ++ (y ++ z) := by apply inj; rw [app, app, app, app, List.append_assoc]
theorem joinT_size : ∀ xs : List ByteArray, (∀ s ∈ xs, s.size = 64) → (joinT xs).size = 64 * xs.length
  | [], _ => rfl
  | x :: xs, h => by rw [joinT_cons, app_size, joinT_size xs (fun s hs => h s (List.mem_cons_of_mem _ hs)), h x List.mem_cons_self, List.length_cons]; omega
theorem flatLen_eq (xs : List ByteArray) : flatLen xs = (joinT xs).size := by rw [sz]; rfl
theorem strings_refl (l : List ByteArray) (hl : l.length ≤ 1000000) (k : Nat) (hk : l.length < k) : copyholdref01_Strings.f k l l = some true := by
  have go : ∀ (n i k : Nat), i + n = l.length → n < k → copyholdref01_Strings.l0 k l l (i : Int) = some true := by
    intro n
    induction n with
    | zero => intro i k h hk; obtain ⟨k, rfl⟩ : ∃ j, k = j + 1 := ⟨k - 1, by omega⟩; rw [copyholdref01_Strings.l0, if_neg (by omega)]
    | succ n ih => intro i k h hk; obtain ⟨k, rfl⟩ : ∃ j, k = j + 1 := ⟨k - 1, by omega⟩; rw [copyholdref01_Strings.l0, if_pos (by omega), if_pos (by omega), if_pos (by omega), if_pos rfl, w64 (by omega) (by omega), show (i : Int) + 1 = ((i + 1 : Nat) : Int) by omega, ih (i + 1) k (by omega) (by omega)]
  unfold copyholdref01_Strings.f
  rw [if_pos rfl]
  exact go l.length 0 k (by omega) hk
theorem same_refl (l0 : List ByteArray) (l1 : List S31) (off : Bool) (h0 : l0.length ≤ 1000000) (h1 : l1.length ≤ 1000000) (k : Nat) (hk : l0.length + l1.length + 2 < k) : copyholdref04_Same.f k l0 l1 off l0 l1 off = some true := by
  have go : ∀ (n i k : Nat), i + n = l1.length → n < k → copyholdref04_Same.l0 k (i : Int) l0 l1 off l0 l1 off = some true := by
    intro n
    induction n with
    | zero => intro i k h hk; obtain ⟨k, rfl⟩ : ∃ j, k = j + 1 := ⟨k - 1, by omega⟩; rw [copyholdref04_Same.l0, if_neg (by omega)]
    | succ n ih => intro i k h hk; obtain ⟨k, rfl⟩ : ∃ j, k = j + 1 := ⟨k - 1, by omega⟩; rw [copyholdref04_Same.l0, if_pos (by omega), if_pos (by omega), if_pos (by omega), if_neg (by simp), w64 (by omega) (by omega), show (i : Int) + 1 = ((i + 1 : Nat) : Int) by omega, ih (i + 1) k (by omega) (by omega)]
  unfold copyholdref04_Same.f
  rw [bs (strings_refl l0 h0 k (by omega)), if_pos rfl, if_neg (by simp)]
  obtain ⟨k, rfl⟩ : ∃ j, k = j + 1 := ⟨k - 1, by omega⟩
  rw [copyholdref04_Same.j0, if_neg (by simp)]
  exact go l1.length 0 k (by omega) (by omega)
theorem z1 : (⟨#[0]⟩ : ByteArray) = strOfNums [0] := by decide +kernel
theorem filled_eq (s : ByteArray) (hs : s.size ≤ 1000000) (k : Nat) (hk : 64 < k) : copyholdref04_filled.f k s = some (fillS s) := by
  have go : ∀ (n k : Nat) (x : ByteArray), 64 - x.size = n → x.size ≤ 1000000 → n < k → copyholdref04_filled.l0 k x = some (fillS x) := by
    intro n
    induction n with
    | zero =>
      intro k x h hx hk; obtain ⟨k, rfl⟩ : ∃ j, k = j + 1 := ⟨k - 1, by omega⟩
      rw [copyholdref04_filled.l0, if_neg (by omega)]
      unfold fillS; rw [h]
      exact congrArg some (app_nil x).symm
    | succ n ih =>
      intro k x h hx hk; obtain ⟨k, rfl⟩ : ∃ j, k = j + 1 := ⟨k - 1, by omega⟩
      have hz : (x ++ (⟨#[0]⟩ : ByteArray)).size = x.size + 1 := by rw [app_size]; rfl
      rw [copyholdref04_filled.l0, if_pos (by omega), if_pos (by omega), ih k _ (by omega) (by omega) (by omega)]
      congr 1
      unfold fillS
      rw [hz, h, show 64 - (x.size + 1) = n by omega, app_as]
      congr 1
  exact go _ k s rfl hs (by omega)
theorem imgL_snocs (l0 : List ByteArray) (l1 : List S31) (i : Nat) (hi : i < l1.length) : imgL l0 (l1.take (i + 1)) = (imgL l0 (l1.take i)).set l1[i].f0.toNat l1[i].f1 := by
  rw [List.take_add_one, List.getElem?_eq_getElem hi]; exact imgL_snoc l0 (l1.take i) l1[i]
theorem image_ref {l0 : List ByteArray} {l1 : List S31} (off : Bool) (h : Rt l0 l1) (h1 : l1.length ≤ 1000000) (k : Nat) (hk : l1.length < k) : copyholdref04_Image.f k l0 l1 off = some (imgL l0 l1) := by
  have hl := h.len
  have go : ∀ (n i k : Nat), i + n = l1.length → n < k → copyholdref04_Image.l0 k (imgL l0 (l1.take i)) (i : Int) l0 l1 off = some (imgL l0 l1) := by
    intro n
    induction n with
    | zero => intro i k hi hk; obtain ⟨k, rfl⟩ : ∃ j, k = j + 1 := ⟨k - 1, by omega⟩; rw [copyholdref04_Image.l0, if_neg (by omega), List.take_of_length_le (by omega)]
    | succ n ih =>
      intro i k hi hk; obtain ⟨k, rfl⟩ : ∃ j, k = j + 1 := ⟨k - 1, by omega⟩
      have hi' : i < l1.length := by omega
      have ha := h.at_ _ (List.getElem_mem hi')
      rw [copyholdref04_Image.l0, if_pos (by omega), if_pos (by omega), rdp hi', if_pos ha.1, if_pos (by rw [imgL_len]; exact ha.2), ← imgL_snocs l0 l1 i hi', w64 (by omega) (by omega), show (i : Int) + 1 = ((i + 1 : Nat) : Int) by omega, ih (i + 1) k (by omega) (by omega)]
  unfold copyholdref04_Image.f
  rw [bs rfl, if_pos (by simp; omega)]
  exact go l1.length 0 k (by omega) hk
theorem image_code {l0 : List ByteArray} {l1 : List S31} (off : Bool) (h : Rt l0 l1) (h1 : l1.length ≤ 1000000) : disk_Image.f l0 l1 off = some (imgL l0 l1) := by
  unfold disk_Image.f; rw [if_pos (h.ok (by omega)), doneL_all _ _ _ (fun _ _ => rfl)]
/-- What Read answers. -/
def readR (l0 : List ByteArray) (l1 : List S31) (off : Bool) (a : Int) : ByteArray × Int := if off = true then (⟨#[]⟩, 19) else if a < 0 ∨ (l0.length : Int) ≤ a then (⟨#[]⟩, 6) else (rdOf ByteArray.empty (imgL l0 l1) a, 0)
theorem read_code {l0 : List ByteArray} {l1 : List S31} (off : Bool) (h : Rt l0 l1) (h1 : l1.length ≤ 1000000) (a : Int) : disk_Read.f l0 l1 off a = some (readR l0 l1 off a) := by
  unfold disk_Read.f readR
  by_cases o : off = true
  · rw [if_pos o, if_pos o]
  · rw [if_neg o, if_neg o]
    by_cases a0 : a < 0
    · rw [if_pos a0, if_pos (Or.inl a0)]
    · rw [if_neg a0]
      by_cases a1 : a ≥ (l0.length : Int)
      · rw [if_pos a1, if_pos (Or.inr a1)]
      · rw [if_neg a1, if_neg (by omega), bs (image_code off h h1), if_pos (by omega), if_pos (by rw [imgL_len]; omega)]
/-- What Stretch answers. -/
def stretchR (l0 : List ByteArray) (l1 : List S31) (off : Bool) (a m : Int) : ByteArray × Int :=
  if off = true then (⟨#[]⟩, 19) else if a < 0 ∨ m < 0 ∨ (l0.length : Int) < a ∨ (l0.length : Int) - a < m then (⟨#[]⟩, 1) else (joinT (((imgL l0 l1).drop a.toNat).take m.toNat), 0)
theorem Rt.im {l0 : List ByteArray} {l1 : List S31} (h : Rt l0 l1) : ∀ s ∈ imgL l0 l1, s.size = 64 := by
  have := h.img (fun _ => true); rwa [doneL_all _ _ _ (fun _ _ => rfl)] at this
theorem join_len {l : List ByteArray} (h : ∀ s ∈ l, s.size = 64) (a m : Nat) (hm : a + m ≤ l.length) : (joinT ((l.drop a).take m)).size = 64 * m := by
  rw [joinT_size _ (fun s hs => h s (List.mem_of_mem_drop (List.mem_of_mem_take hs))), List.length_take, List.length_drop]; omega
theorem stretch_code {l0 : List ByteArray} {l1 : List S31} (off : Bool) (h : Rt l0 l1) (h1 : l1.length ≤ 1000000) (a m : Int) : disk_Stretch.f l0 l1 off a m = some (stretchR l0 l1 off a m) := by
  unfold disk_Stretch.f stretchR
  by_cases o : off = true
  · rw [if_pos o, if_pos o]
  · rw [if_neg o, if_neg o]
    by_cases b : a < 0 ∨ m < 0 ∨ (l0.length : Int) < a ∨ (l0.length : Int) - a < m
    · rw [if_pos b, if_pos b]
    · have hl := h.len
      have hz := join_len h.im a.toNat m.toNat (by rw [imgL_len]; omega)
      rw [if_neg b, if_neg b, doneL_all _ _ _ (fun _ _ => rfl), if_pos ⟨h.ok (by omega), by rw [flatLen_eq, hz]; omega⟩]
theorem take_cons {l : List ByteArray} {i n : Nat} (h : i < l.length) : (l.drop i).take (n + 1) = l[i] :: (l.drop (i + 1)).take n := by
  rw [List.drop_eq_getElem_cons h, List.take_succ_cons]
end Go.Proofs.Ytoknncbdfdgfjaa.Pure
