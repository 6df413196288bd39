/- Layer 6, pure: a path's names, by pieces. -/
import Derived.Test.YtobjfdebcflocaaDoorNameP
import Derived.Lib.SplitLaws
set_option linter.unusedVariables false
set_option linter.unusedSimpArgs false
namespace Go.Proofs.YtobjfdebcflocaaDoor.Pure
open Go.RowKit Go.Proofs.YtobjfdebcflocaaDoor.Q Go.Proofs.YtobjfdebcflocaaDoorW.PrintWords Math

def mk (l : List UInt8) : ByteArray := ⟨l.toArray⟩
theorem mk_dl (l : List UInt8) : (mk l).data.toList = l := rfl
theorem mk_tl (l : List UInt8) : (mk l).toList = l := by rw [tl]; rfl
theorem mk_of (s : ByteArray) : mk s.data.toList = s := inj rfl
theorem mk_size (l : List UInt8) : (mk l).size = l.length := by rw [sz]; rfl
/-- The pieces between slashes, 'acc' what has come of the first one. -/
def segs : List UInt8 → List UInt8 → List (List UInt8)
  | [], acc => [acc]
  | c :: r, acc => if c == 47 then acc :: segs r [] else segs r (acc ++ [c])
def pre (a : List UInt8) : List (List UInt8) → List (List UInt8)
  | [] => [a]
  | x :: r => (a ++ x) :: r
theorem segs_pre (a : List UInt8) : ∀ (l b : List UInt8), segs l (a ++ b) = pre a (segs l b)
  | [], b => rfl
  | c :: r, b => by
    show (if c == 47 then (a ++ b) :: segs r [] else segs r (a ++ b ++ [c])) = pre a (if c == 47 then b :: segs r [] else segs r (b ++ [c]))
    split
    · rfl
    · rw [List.append_assoc]; exact segs_pre a r (b ++ [c])
theorem splitK_segs : ∀ l : List UInt8, Lib.splitK [47] 0 (Lib.count l [47]) l = segs l []
  | [] => by rw [Lib.count_one]; rfl
  | c :: r => by
    have ih := splitK_segs r
    by_cases h : c = 47
    · subst h
      rw [Lib.count_cons_eq, Nat.add_comm]
      have hix : Lib.index (47 :: r) [47] = 0 := by rw [Lib.index_one]; rfl
      show (if Lib.index (47 :: r) [47] == -1 then _ else _) = _
      rw [hix, if_neg (by decide)]
      show [] :: Lib.splitK [47] 0 (Lib.count r [47]) r = _
      rw [ih]; rfl
    · rw [Lib.count_cons_ne c 47 r h]
      have hs : segs (c :: r) [] = pre [c] (segs r []) := by
        show (if c == 47 then _ else segs r ([] ++ [c])) = _
        rw [if_neg (by simpa using h)]
        exact segs_pre [c] r []
      rw [hs, ← ih]
      have hi1 : Lib.index (c :: r) [47] = if Lib.indexByte r 47 == -1 then -1 else Lib.indexByte r 47 + 1 := by
        rw [Lib.index_one]
        show (if c == 47 then (0 : Int) else _) = _
        rw [if_neg (by simpa using h)]
      cases hk : Lib.count r [47] with
      | zero => rfl
      | succ m =>
        show (if Lib.index (c :: r) [47] == -1 then _ else _) = pre [c] (if Lib.index r [47] == -1 then _ else _)
        rw [hi1, Lib.index_one]
        have hge := Lib.indexByte_ge r 47
        by_cases hm : Lib.indexByte r 47 = -1
        · rw [hm, if_pos (by decide)]; rfl
        · obtain ⟨j, hj⟩ : ∃ j : Nat, Lib.indexByte r 47 = j := ⟨(Lib.indexByte r 47).toNat, by omega⟩
          rw [hj, if_neg (by first | (simp; done) | (simp; omega)), if_neg (by first | (simp; done) | (simp; omega)), if_neg (by first | (simp; done) | (simp; omega))]
          have e1 : ((j : Int) + 1).toNat = j + 1 := by omega
          rw [e1, Int.toNat_natCast]
          rfl
theorem pieces_segs (s : ByteArray) : (piecesB s).map (·.data.toList) = segs s.data.toList [] := by
  unfold piecesB
  rw [Lib.splitB_data]
  exact splitK_segs s.data.toList
theorem pieces_mk (s : ByteArray) : piecesB s = (segs s.data.toList []).map mk := by
  rw [← pieces_segs, List.map_map]
  have : (mk ∘ fun x : ByteArray => x.data.toList) = id := by funext x; exact mk_of x
  rw [this, List.map_id]
theorem segs_slash (r acc : List UInt8) : segs (47 :: r) acc = acc :: segs r [] := rfl
theorem segs_past (x : List UInt8) (h : x.any odd = false) : ∀ (r acc : List UInt8), segs (x ++ r) acc = segs r (acc ++ x) := by
  induction x with
  | nil => intro r acc; simp
  | cons c x ih =>
    intro r acc
    rw [List.any_cons, Bool.or_eq_false_iff] at h
    have hc : (c == 47) = false := by have := h.1; unfold odd at this; rw [Bool.or_eq_false_iff] at this; exact this.1
    show (if c == 47 then _ else segs (x ++ r) (acc ++ [c])) = _
    rw [hc, if_neg (by decide), ih h.2, List.append_assoc]; rfl
/-- A path of names. -/
def pl : List (List UInt8) → List UInt8
  | [] => []
  | x :: L => 47 :: x ++ pl L
theorem segs_path (m : List UInt8) (hm : m.any odd = false) : ∀ (L : List (List UInt8)), (∀ x ∈ L, x.any odd = false) → segs (pl L ++ 47 :: m) [] = [] :: (L ++ [m])
  | [], _ => by
    show segs (47 :: m) [] = _
    rw [segs_slash]
    have := segs_past m hm [] []
    rw [List.append_nil] at this
    rw [this]; rfl
  | x :: L, h => by
    have ih := segs_path m hm L (fun y hy => h y (List.mem_cons_of_mem _ hy))
    have hx := h x List.mem_cons_self
    show segs (47 :: x ++ pl L ++ 47 :: m) [] = _
    rw [List.cons_append, List.cons_append, segs_slash, List.append_assoc, segs_past x hx, List.nil_append]
    obtain ⟨r, hr⟩ : ∃ r, pl L ++ 47 :: m = 47 :: r := by
      cases L with
      | nil => exact ⟨m, rfl⟩
      | cons y L => exact ⟨_, rfl⟩
    rw [hr, segs_slash] at ih ⊢
    rw [(List.cons.inj ih).2]; rfl
theorem bad_parts {s : ByteArray} (h : badName s = false) : (s.toList == [46]) = false ∧ (s.toList == []) = false ∧ s.data.toList.any odd = false ∧ s.size ≤ 32 := by
  rw [bad_eq] at h
  simp only [Bool.or_eq_false_iff, decide_eq_false_iff_not] at h
  exact ⟨h.1.1.1.1, h.1.1.2, h.2, by omega⟩
theorem parts_good : ∀ (L : List ByteArray) (r : List ByteArray) (out : List ByteArray), (∀ x ∈ L, badName x = false) → partsGo (L ++ r) out = partsGo r (out ++ L)
  | [], r, out, _ => by simp
  | x :: L, r, out, h => by
    have hx := h x List.mem_cons_self
    obtain ⟨h1, h2, _, _⟩ := bad_parts hx
    show (if x.toList == [] || x.toList == [46] then _ else if badName x then _ else partsGo (L ++ r) (out ++ [x])) = _
    rw [h1, h2, hx]
    show partsGo (L ++ r) (out ++ [x]) = _
    rw [parts_good L r _ (fun y hy => h y (List.mem_cons_of_mem _ hy)), List.append_assoc]; rfl
theorem mk_nil : ((mk []).toList == []) = true := by rw [mk_tl]; rfl
theorem parts_skip (r out : List ByteArray) : partsGo (mk [] :: r) out = partsGo r out := by
  show (if (mk []).toList == [] || (mk []).toList == [46] then _ else _) = _
  rw [mk_nil]; rfl
theorem split_path (s : ByteArray) (L : List ByteArray) (m : ByteArray) (hs : s.data.toList = pl (L.map (·.data.toList)) ++ 47 :: m.data.toList) (hL : ∀ x ∈ L, badName x = false) (hm : m.data.toList.any odd = false) : splitR s = partsGo [m] L := by
  have h0 : s.data.toList ≠ [] := by rw [hs]; simp
  obtain ⟨r, hr⟩ : ∃ r, s.data.toList = 47 :: r := by
    rw [hs]
    cases L with
    | nil => exact ⟨_, rfl⟩
    | cons y L => exact ⟨_, rfl⟩
  have hl : 0 < s.data.toList.length := by rw [hr]; simp
  have hb : bt s 0 = 47 := by
    have := bt_nat s 0 hl
    simp only [hr, List.getElem_cons_zero] at this
    exact this
  unfold splitR
  rw [tl, if_neg (by simpa using h0), hb, if_pos (by decide), pieces_mk, hs, segs_path _ hm _ (by
    intro x hx
    obtain ⟨y, hy, rfl⟩ := List.mem_map.1 hx
    exact (bad_parts (hL y hy)).2.2.1), List.map_cons, List.map_append, List.map_map]
  have : (mk ∘ fun x : ByteArray => x.data.toList) = id := by funext x; exact mk_of x
  rw [this, List.map_id, parts_skip, parts_good L _ _ hL, List.nil_append, List.map_cons, List.map_nil, mk_of]
theorem parts_last_empty (L : List ByteArray) : partsGo [mk []] L = (L, 0) := by rw [parts_skip]; rfl
theorem parts_last {m : ByteArray} (h : badName m = false) (L : List ByteArray) : partsGo [m] L = (L ++ [m], 0) := by
  have := parts_good [m] [] L (by simpa using h)
  rw [List.append_nil] at this
  rw [this]; rfl
end Go.Proofs.YtobjfdebcflocaaDoor.Pure
