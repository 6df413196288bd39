/- Layer 6, walked: slices.Insert at entries (two cells each), into a row of the caller's own: at the end, in place, and into a new row. -/
import Derived.Test.YtobjfdebcflocaaDoorNameA
import Derived.Lib.AppendZerosOnto
import Derived.Lib.Overlaps
import Derived.Lib.SliceRun
import Derived.Laws.CopyRow
import Derived.Laws.Externs
import Derived.Laws.NewBlocks
import Derived.Shelf.RegionOpenPlain
import Derived.WalkKit
set_option linter.unusedVariables false
set_option linter.unusedSimpArgs false
namespace Go.Proofs.YtobjfdebcflocaaDoor.Q
open Go.RowKit Go.Shelf Go.Lib Go.Proofs.YtobjfdebcflocaaDoorW.PrintWords Go.Proofs.YtobjfdebcflocaaDoorW.PrintLast Go.Proofs.YtobjfdebcflocaaDoorW.PrintMore

/-- 'copy' between rows of elements of k cells, into a block of the heap. -/
theorem run_copy_rowK {P : Program} (w : World) (dT sT ty elem : TypeId) (k g o dLen dCap : Nat) (a : Addr) (sLen sCap : Nat) (cur : Array Value) (t : TypeId) (cs : List Value)
    (hu : P.underlying dT = some (.slice elem)) (hs : (P.info? elem).map (·.size) = some k) (hg : w.heap[g]? = some (.cells cur t (0, 0))) (hn : cs.length = Nat.min sLen dLen * k)
    (hsrc : ∀ j v, cs[j]? = some v → w.cell? (a.add j) = some v) (hfit : o + cs.length ≤ cur.size) (h1 : ∀ v ∈ cs, v.oneCell' = true) :
    (Builtin.copy_ #[dT, sT] ty #[.slice (some ⟨g, o, none⟩) dLen dCap, .slice (some a) sLen sCap]).run P w = .ok (goInt (Nat.min sLen dLen)) (w.setRow g (cur.toList.take o ++ cs ++ cur.toList.drop (o + cs.length)).toArray) := by
  have hl := run_loadCells_list (P := P) w a cs hsrc
  have hst := run_storeCells_at P g o t cs 0 cur w hg (by simpa using hfit) h1
  rw [hn] at hl
  cases hq : P.info? elem with
  | none => simp [hq] at hs
  | some i =>
    have hi : i.size = k := by simpa [hq] using hs
    simp [Builtin.copy_, run_underlying hu, Builtin.lenOf, Builtin.firstCells, sizeOf, typeInfo, hq, hi, hl, hst]
section
variable {P : Program}
/-- A builtin call whose run is known, as one operation of the walk. -/
theorem wp_copy_at (w : World) {o : Oper} {a : Act} {K : Act → World → Prop} {Q : Exit → Act → World → Prop} (d s : Operand) (t t' : TypeId)
    (ho : o.op = .call { callee := .builtin .copy, args := #[d, s], argTypes := #[t, t'] }) (v u : Value) (hd : a.eval d = v) (hs : a.eval s = u) {v' : Value} {w' : World}
    (hr : (Builtin.copy_ #[t, t'] o.type #[v, u]).run P w = .ok v' w') (h : K (a.put o.dst v') w') : o.wp P a w K Q := by
  unfold Oper.wp execOp
  simp only [ho, resolve, invoke, builtin, Sem.run_bind, Sem.run_pure, Result.andThen_ok, List.map_toArray, List.map_cons, List.map_nil, hd, hs, hr]
  exact h
theorem wpList_copy_at (w : World) {ops : Array Oper} {rest : List Oper} {o : Oper} {a : Act} {Q : Exit → Act → World → Prop} (hgd : o.guard = none) (d s : Operand) (t t' : TypeId)
    (ho : o.op = .call { callee := .builtin .copy, args := #[d, s], argTypes := #[t, t'] }) (v u : Value) (hd : a.eval d = v) (hs : a.eval s = u) {v' : Value} {w' : World}
    (hr : (Builtin.copy_ #[t, t'] o.type #[v, u]).run P w = .ok v' w') (h : wpList P ops Q rest (a.put o.dst v') w') : wpList P ops Q (o :: rest) a w :=
  wpList_plain hgd fun _ hK => wp_copy_at w d s t t' ho v u hd hs hr (hK _ _ h)
theorem step_copy_at {ops : Array Oper} {o : Oper} {a : Act} {w : World} {K : Act → World → Prop} {Q : Exit → Act → World → Prop} {E : Prop}
    (hg : o.guard = none) (d x : Operand) (dT sT : TypeId) (hop : o.op = Op.call { callee := Callee.builtin Builtin.copy, args := #[d, x], argTypes := #[dT, sT] })
    (v u : Value) (hd : a.eval d = v) (hx : a.eval x = u) {v' : Value} {w' : World} (hr : (Builtin.copy_ #[dT, sT] o.type #[v, u]).run P w = .ok v' w') (hK : K (a.put o.dst v') w') :
    if Region.wanted o (yielded ops a.tmps) = true then Oper.wp P o a w K Q else E := by
  have hw : Region.wanted o (yielded ops a.tmps) = true := by simp [Region.wanted, hg]
  rw [if_pos hw]
  unfold Oper.wp
  simp [execOp, hop, resolve, invoke, builtin, hd, hx, hr, Result.andThen]
  exact hK
end

/-- Entries as cells. -/
def flatE (l : List S56) : List Value := (l.map fun x => [Value.string x.f0, Value.int .i64 x.f1]).flatten
theorem flatE_len (l : List S56) : (flatE l).length = l.length * 2 := by
  induction l with
  | nil => rfl
  | cons x l ih => simp only [flatE, List.map_cons, List.flatten_cons, List.length_append, List.length_cons, List.length_nil] at ih ⊢; omega
theorem flatE_app (a b : List S56) : flatE (a ++ b) = flatE a ++ flatE b := by simp [flatE]
theorem flatE_cons (x : S56) (l : List S56) : flatE (x :: l) = [Value.string x.f0, Value.int .i64 x.f1] ++ flatE l := rfl
theorem flatE_one (l : List S56) : ∀ v ∈ flatE l, v.oneCell' = true := by
  induction l with
  | nil => intro v hv; cases hv
  | cons x l ih =>
    intro v hv
    rw [flatE_cons] at hv
    rcases List.mem_append.1 hv with h | h
    · simp at h; rcases h with rfl | rfl <;> rfl
    · exact ih v h
theorem flatE_take (l : List S56) : ∀ i, flatE (l.take i) = (flatE l).take (i * 2) := by
  induction l with
  | nil => intro i; simp [flatE]
  | cons x l ih =>
    intro i
    cases i with
    | zero => rfl
    | succ i => rw [List.take_succ_cons, flatE_cons, flatE_cons, ih, show (i + 1) * 2 = i * 2 + 1 + 1 by omega]; rfl
theorem flatE_drop (l : List S56) : ∀ i, flatE (l.drop i) = (flatE l).drop (i * 2) := by
  induction l with
  | nil => intro i; simp [flatE]
  | cons x l ih =>
    intro i
    cases i with
    | zero => rfl
    | succ i => rw [List.drop_succ_cons, flatE_cons, ih, show (i + 1) * 2 = i * 2 + 1 + 1 by omega]; rfl
theorem info_entry : (Tryd.prog.info? 56).map (fun i => (i.zero, i.size, i.bytes)) = some (some (.agg #[.string ⟨#[]⟩, .int .i64 0]), 2, 24) := by kernel_rfl
theorem size_entry : (Tryd.prog.info? 56).map (·.size) = some 2 := by kernel_rfl
theorem row_cells {w : World} {g : Nat} {cur : Array Value} {t : TypeId} {fr : Nat × Nat} (hg : w.heap[g]? = some (.cells cur t fr)) (o j : Nat) (v : Value) (h : cur.toList[o + j]? = some v) : w.cell? ((⟨g, o, none⟩ : Addr).add j) = some v := by
  rw [Addr.add_lit]
  simp only [World.cell?, hg]
  simpa using h
/-- Two rows laid into the cells of a block: what it holds then. -/
theorem laid_in (A D X C : List Value) (n2 i2 m2 : Nat) (hA : A.length = i2) (hD : i2 + D.length = n2) (hX : X.length = m2) (hC : n2 + m2 ≤ C.length) (hp : C.take n2 = A ++ D) :
    (((C.take (i2 + m2) ++ D ++ C.drop (i2 + m2 + D.length)).take i2 ++ X ++ (C.take (i2 + m2) ++ D ++ C.drop (i2 + m2 + D.length)).drop (i2 + X.length)).take (n2 + m2)) = A ++ X ++ D := by
  have h1 : C.take i2 = A := by
    have : (C.take n2).take i2 = A := by rw [hp, List.take_append_of_le_length (by omega), List.take_of_length_le (by omega)]
    rwa [List.take_take, Nat.min_eq_left (by omega)] at this
  have h2 : (C.take (i2 + m2) ++ D ++ C.drop (i2 + m2 + D.length)).take i2 = A := by
    rw [List.append_assoc, List.take_append_of_le_length (by rw [List.length_take]; omega), List.take_take, Nat.min_eq_left (by omega), h1]
  have h3 : (C.take (i2 + m2) ++ D ++ C.drop (i2 + m2 + D.length)).drop (i2 + X.length) = D ++ C.drop (i2 + m2 + D.length) := by
    rw [List.append_assoc, hX]
    exact List.drop_left' (by rw [List.length_take]; omega)
  rw [h2, h3, ← List.append_assoc]
  exact List.take_left' (by simp only [List.length_append]; omega)
end Go.Proofs.YtobjfdebcflocaaDoor.Q
