import Derived.Test.YtdkgkiemndlneaaProg
import Derived.Below
import Derived.Deep.Draws
import Derived.Deep.AppendLies
import Derived.Maps.AppendAt
import Derived.OwnWalk
import Derived.Laws.BytesArg
import Derived.Laws.MakeOwn
import Derived.Laws.OwnMore
import Derived.Deep.OwnRows
import Derived.Tactics
import Derived.Lib.ConvBytes
import Derived.Laws.Slices
import Derived.WalkKit
import Derived.KernelRfl
import Derived.RowKit3
import Derived.Deep.LoopGhost
import Derived.Deep.QuietTactic
import Derived.BigQuiet
import Derived.WideLaws
import Derived.Deep.DeepCutAuto
import Derived.Deep.CutBlock
import Derived.Deep.RegionHeld3
import Derived.Laws.Rows
import Derived.Lib.AppendStr
import Derived.ArgAppend
import Derived.Laws.IdiomCopy
import Derived.OrdersHeld
import Derived.Laws.BitsLemmas
import Derived.RowKit
import Derived.Test.YtdkgkiemndlneaaZCA0
import Derived.Test.YtdkgkiemndlneaaZCA13
import Derived.Test.YtdkgkiemndlneaaZCA2
import Derived.Test.YtdkgkiemndlneaaZCA1
import Derived.Test.YtdkgkiemndlneaaZCA14
import Derived.Test.YtdkgkiemndlneaaZCA15
import Derived.Test.YtdkgkiemndlneaaZCA3
import Derived.Test.YtdkgkiemndlneaaZCA4
import Derived.Test.YtdkgkiemndlneaaZCA5
import Derived.Test.YtdkgkiemndlneaaZCA6
import Derived.Test.YtdkgkiemndlneaaZCA7
import Derived.Test.YtdkgkiemndlneaaZCA8
import Derived.Test.YtdkgkiemndlneaaZCA9
import Derived.Test.YtdkgkiemndlneaaZCA10
import Derived.Test.YtdkgkiemndlneaaZCA16
import Derived.Test.YtdkgkiemndlneaaZCA17
import Derived.Test.YtdkgkiemndlneaaZCA18
import Derived.Test.YtdkgkiemndlneaaZCA19
import Derived.Test.YtdkgkiemndlneaaZCA20
import Derived.Test.YtdkgkiemndlneaaZCA21
import Derived.Test.YtdkgkiemndlneaaZCA22
import Derived.Test.YtdkgkiemndlneaaZCA11
import Derived.Test.YtdkgkiemndlneaaZCA12
import Derived.Shelf.Small.Strs
import Derived.Shelf.Strings.Search1
import Derived.Shelf.Abstract
import Derived.Lib.Hide
import Derived.Outline
import Derived.Test.YtdkgkiemndlneaaZCAA
set_option linter.unusedVariables false
set_option linter.unusedSimpArgs false
section
namespace Go.Proofs.Ytdkgkiemndlneaa.Q
open Go.RowKit Go.Proofs.YtdkgkiemndlneaaW.PrintWords Go.Proofs.YtdkgkiemndlneaaW.PrintLast Go.Proofs.YtdkgkiemndlneaaW.PrintMore
attribute [local go_sem] max2_int min2_int max_two min_two max_three min_three max_four min_four   -- for this text's walks alone
attribute [local go_sem high] Go.Proofs.Ytdkgkiemndlneaa.px_xor_u8 Go.Proofs.Ytdkgkiemndlneaa.px_xor_u16 Go.Proofs.Ytdkgkiemndlneaa.px_xor_u32 Go.Proofs.Ytdkgkiemndlneaa.px_xor_u64
def errW : Option Int → Value
  | none => .nilIface
  | some c => .iface 0 (.int .i64 c)
theorem errW_none : errW none = .nilIface := rfl
theorem errW_some (c : Int) : errW (some c) = .iface 0 (.int .i64 c) := rfl
theorem info3 : (Try.prog.info? 3).map (fun i => (i.zero, i.size, i.bytes)) = some (some (.int .i64 0), 1, 8) := by kernel_rfl
theorem info38 : (Try.prog.info? 38).map (fun i => (i.zero, i.size, i.bytes)) = some (some (.agg #[(.int .i64 0), (.int .i64 0), (.int .i64 0), (.string ⟨#[]⟩), (.slice none 0 0)]), 5, 64) := by kernel_rfl
structure S91 where
  f0 : ByteArray
  f1 : Int
def z91 : S91 := ⟨(⟨#[]⟩ : ByteArray), (0 : Int)⟩
def k91 : Kd S91 := Kd.iso (Kd.pair Kd.string (Kd.int .i64)) (fun x : S91 => (x.f0, x.f1))
theorem k91_heap : Kd.Heap k91 := Kd.heap_iso _ (Kd.heap_pair Kd.heap_string (Kd.heap_int .i64))
theorem k91_open {w : World} {x : S91} {cs : List Value} (h : k91.K w x cs) : cs = [.string x.f0, .int .i64 x.f1] := by
  obtain ⟨_, _, rfl, rfl, rfl⟩ := h
  exact rfl
def rd_T91 (xs : List S91) (i : Int) : S91 := xs.getD i.toNat z91
theorem at_T91 {w : World} {A : Option Addr} {n : Nat} {xs : List S91} (h : Kd.C k91 w A n xs) (i : Int) (h0 : 0 ≤ i) (h1 : i < n) : ∃ ad , A = some ad ∧ w.cell? (ad.add (i.toNat * 2)) = some (.string (rd_T91 xs i).f0) ∧ w.cell? ⟨(ad.add (i.toNat * 2)).block, (ad.add (i.toNat * 2)).off + 1, none⟩ = some (.int .i64 (rd_T91 xs i).f1) := by
  obtain ⟨ad, c, e, _, hK, hc0⟩ := Kd.C_get h z91 i h0 h1
  have hc : ∀ j u, c[j]? = some u → w.cell? (ad.add (i.toNat * 2 + j)) = some u := hc0
  obtain rfl := k91_open hK
  exact ⟨ad, e, hc 0 _ rfl, by rw [← add_field _ _ 1 (by omega)]; exact hc 1 _ rfl⟩
structure S38 where
  f0 : Int
  f1 : Int
  f2 : Int
  f3 : ByteArray
  f4 : (List S91)
def z38 : S38 := ⟨(0 : Int), (0 : Int), (0 : Int), (⟨#[]⟩ : ByteArray), ([] : List S91)⟩
def k38 : Kd S38 := Kd.iso (Kd.pair (Kd.int .i64) (Kd.pair (Kd.int .i64) (Kd.pair (Kd.int .i64) (Kd.pair Kd.string (Kd.slice 91 k91))))) (fun x : S38 => (x.f0, x.f1, x.f2, x.f3, x.f4))
theorem k38_heap : Kd.Heap k38 := Kd.heap_iso _ (Kd.heap_pair (Kd.heap_int .i64) (Kd.heap_pair (Kd.heap_int .i64) (Kd.heap_pair (Kd.heap_int .i64) (Kd.heap_pair Kd.heap_string (Kd.heap_slice 91 k91_heap)))))
theorem k38_open {w : World} {x : S38} {cs : List Value} (h : k38.K w x cs) : ∃ A4 c4, cs = [.int .i64 x.f0, .int .i64 x.f1, .int .i64 x.f2, .string x.f3, .slice A4 x.f4.length c4] ∧ x.f4.length ≤ c4 ∧ k91.C w A4 x.f4.length x.f4 := by
  obtain ⟨_, _, rfl, rfl, ⟨_, _, rfl, rfl, ⟨_, _, rfl, rfl, ⟨_, _, rfl, rfl, ⟨A4, c4, rfl, l4, g4⟩⟩⟩⟩⟩ := h
  exact ⟨A4, c4, rfl, l4, g4⟩
theorem k38_mk (w : World) (x : S38) {A4 : Option Addr} {c4 : Nat} (l4 : x.f4.length ≤ c4) (g4 : k91.C w A4 x.f4.length x.f4) : k38.K w x [.int .i64 x.f0, .int .i64 x.f1, .int .i64 x.f2, .string x.f3, .slice A4 x.f4.length c4] := ⟨[.int .i64 x.f0], [.int .i64 x.f1, .int .i64 x.f2, .string x.f3, .slice A4 x.f4.length c4], rfl, rfl, ⟨[.int .i64 x.f1], [.int .i64 x.f2, .string x.f3, .slice A4 x.f4.length c4], rfl, rfl, ⟨[.int .i64 x.f2], [.string x.f3, .slice A4 x.f4.length c4], rfl, rfl, ⟨[.string x.f3], [.slice A4 x.f4.length c4], rfl, rfl, ⟨A4, c4, rfl, l4, g4⟩⟩⟩⟩⟩
theorem k38_mkM (w : World) (base : Nat) (ok : Nat → Prop) (x : S38) {v4 : Value} (g4 : k91.R 91 w base ok v4 x.f4) : k38.M w base ok x [.int .i64 x.f0, .int .i64 x.f1, .int .i64 x.f2, .string x.f3, v4] := ⟨[.int .i64 x.f0], [.int .i64 x.f1, .int .i64 x.f2, .string x.f3, v4], rfl, rfl, ⟨[.int .i64 x.f1], [.int .i64 x.f2, .string x.f3, v4], rfl, rfl, ⟨[.int .i64 x.f2], [.string x.f3, v4], rfl, rfl, ⟨[.string x.f3], [v4], rfl, rfl, ⟨v4, rfl, g4⟩⟩⟩⟩⟩
theorem k38_openF {W : World} {ok : Nat → Prop} {x : S38} {cs : List Value} (h : Kd.FK k38 W ok x cs) : ∃ A4 c4, cs = [.int .i64 x.f0, .int .i64 x.f1, .int .i64 x.f2, .string x.f3, .slice A4 x.f4.length c4] ∧ x.f4.length ≤ c4 ∧ Kd.F k91 W ok A4 x.f4.length x.f4 := by
  obtain ⟨A4, c4, rfl, l4, _⟩ := k38_open (Kd.FK_now h)
  exact ⟨A4, c4, rfl, l4, (fun W' hW => by obtain ⟨A4_, c4_, he, l4_, g4_⟩ := k38_open (h W' hW); injection (Option.some.inj (show some (Value.slice A4 x.f4.length c4) = some (Value.slice A4_ x.f4.length c4_) from congrArg (fun l => l[4]?) he)) with ha_ _ _; rw [ha_]; exact g4_)⟩
theorem k38_mkF (W : World) (ok : Nat → Prop) (x : S38) {A4 : Option Addr} {c4 : Nat} (l4 : x.f4.length ≤ c4) (g4 : Kd.F k91 W ok A4 x.f4.length x.f4) : Kd.FK k38 W ok x [.int .i64 x.f0, .int .i64 x.f1, .int .i64 x.f2, .string x.f3, .slice A4 x.f4.length c4] := fun W2 hW => k38_mk W2 x l4 (g4 W2 hW)
def rd_T38 (xs : List S38) (i : Int) : S38 := xs.getD i.toNat z38
theorem at_T38 {w : World} {A : Option Addr} {n : Nat} {xs : List S38} (h : Kd.C k38 w A n xs) (i : Int) (h0 : 0 ≤ i) (h1 : i < n) : ∃ ad A4 c4, A = some ad ∧ w.cell? (ad.add (i.toNat * 5)) = some (.int .i64 (rd_T38 xs i).f0) ∧ w.cell? ⟨(ad.add (i.toNat * 5)).block, (ad.add (i.toNat * 5)).off + 1, none⟩ = some (.int .i64 (rd_T38 xs i).f1) ∧ w.cell? ⟨(ad.add (i.toNat * 5)).block, (ad.add (i.toNat * 5)).off + 2, none⟩ = some (.int .i64 (rd_T38 xs i).f2) ∧ w.cell? ⟨(ad.add (i.toNat * 5)).block, (ad.add (i.toNat * 5)).off + 3, none⟩ = some (.string (rd_T38 xs i).f3) ∧ w.cell? ⟨(ad.add (i.toNat * 5)).block, (ad.add (i.toNat * 5)).off + 4, none⟩ = some (.slice A4 (rd_T38 xs i).f4.length c4) ∧ (rd_T38 xs i).f4.length ≤ c4 ∧ k91.C w A4 (rd_T38 xs i).f4.length (rd_T38 xs i).f4 := by
  obtain ⟨ad, c, e, _, hK, hc0⟩ := Kd.C_get h z38 i h0 h1
  have hc : ∀ j u, c[j]? = some u → w.cell? (ad.add (i.toNat * 5 + j)) = some u := hc0
  obtain ⟨A4, c4, rfl, l4, g4⟩ := k38_open hK
  exact ⟨ad, A4, c4, e, hc 0 _ rfl, by rw [← add_field _ _ 1 (by omega)]; exact hc 1 _ rfl, by rw [← add_field _ _ 2 (by omega)]; exact hc 2 _ rfl, by rw [← add_field _ _ 3 (by omega)]; exact hc 3 _ rfl, by rw [← add_field _ _ 4 (by omega)]; exact hc 4 _ rfl, l4, g4⟩
structure S58 where
  f0 : Int
  f1 : Bool
  f2 : S38
def z58 : S58 := ⟨(0 : Int), false, z38⟩
def k58 : Kd S58 := Kd.iso (Kd.pair (Kd.int .i64) (Kd.pair Kd.bool k38)) (fun x : S58 => (x.f0, x.f1, x.f2))
theorem k58_heap : Kd.Heap k58 := Kd.heap_iso _ (Kd.heap_pair (Kd.heap_int .i64) (Kd.heap_pair Kd.heap_bool k38_heap))
theorem k58_open {w : World} {x : S58} {cs : List Value} (h : k58.K w x cs) : ∃ A6 c6, cs = [.int .i64 x.f0, .bool x.f1, .int .i64 x.f2.f0, .int .i64 x.f2.f1, .int .i64 x.f2.f2, .string x.f2.f3, .slice A6 x.f2.f4.length c6] ∧ x.f2.f4.length ≤ c6 ∧ k91.C w A6 x.f2.f4.length x.f2.f4 := by
  obtain ⟨_, _, rfl, rfl, ⟨_, _, rfl, rfl, s2⟩⟩ := h
  obtain ⟨A6, c6, rfl, l6, g6⟩ := k38_open s2
  exact ⟨A6, c6, rfl, l6, g6⟩
theorem k58_mk (w : World) (x : S58) {A6 : Option Addr} {c6 : Nat} (l6 : x.f2.f4.length ≤ c6) (g6 : k91.C w A6 x.f2.f4.length x.f2.f4) : k58.K w x [.int .i64 x.f0, .bool x.f1, .int .i64 x.f2.f0, .int .i64 x.f2.f1, .int .i64 x.f2.f2, .string x.f2.f3, .slice A6 x.f2.f4.length c6] := ⟨[.int .i64 x.f0], [.bool x.f1, .int .i64 x.f2.f0, .int .i64 x.f2.f1, .int .i64 x.f2.f2, .string x.f2.f3, .slice A6 x.f2.f4.length c6], rfl, rfl, ⟨[.bool x.f1], [.int .i64 x.f2.f0, .int .i64 x.f2.f1, .int .i64 x.f2.f2, .string x.f2.f3, .slice A6 x.f2.f4.length c6], rfl, rfl, (k38_mk w x.f2 l6 g6)⟩⟩
theorem k58_openF {W : World} {ok : Nat → Prop} {x : S58} {cs : List Value} (h : Kd.FK k58 W ok x cs) : ∃ A6 c6, cs = [.int .i64 x.f0, .bool x.f1, .int .i64 x.f2.f0, .int .i64 x.f2.f1, .int .i64 x.f2.f2, .string x.f2.f3, .slice A6 x.f2.f4.length c6] ∧ x.f2.f4.length ≤ c6 ∧ Kd.F k91 W ok A6 x.f2.f4.length x.f2.f4 := by
  obtain ⟨A6, c6, rfl, l6, _⟩ := k58_open (Kd.FK_now h)
  exact ⟨A6, c6, rfl, l6, (fun W' hW => by obtain ⟨A6_, c6_, he, l6_, g6_⟩ := k58_open (h W' hW); injection (Option.some.inj (show some (Value.slice A6 x.f2.f4.length c6) = some (Value.slice A6_ x.f2.f4.length c6_) from congrArg (fun l => l[6]?) he)) with ha_ _ _; rw [ha_]; exact g6_)⟩
theorem k58_mkF (W : World) (ok : Nat → Prop) (x : S58) {A6 : Option Addr} {c6 : Nat} (l6 : x.f2.f4.length ≤ c6) (g6 : Kd.F k91 W ok A6 x.f2.f4.length x.f2.f4) : Kd.FK k58 W ok x [.int .i64 x.f0, .bool x.f1, .int .i64 x.f2.f0, .int .i64 x.f2.f1, .int .i64 x.f2.f2, .string x.f2.f3, .slice A6 x.f2.f4.length c6] := fun W2 hW => k58_mk W2 x l6 (g6 W2 hW)
def rd_T58 (xs : List S58) (i : Int) : S58 := xs.getD i.toNat z58
theorem at_T58 {w : World} {A : Option Addr} {n : Nat} {xs : List S58} (h : Kd.C k58 w A n xs) (i : Int) (h0 : 0 ≤ i) (h1 : i < n) : ∃ ad A6 c6, A = some ad ∧ w.cell? (ad.add (i.toNat * 7)) = some (.int .i64 (rd_T58 xs i).f0) ∧ w.cell? ⟨(ad.add (i.toNat * 7)).block, (ad.add (i.toNat * 7)).off + 1, none⟩ = some (.bool (rd_T58 xs i).f1) ∧ w.cell? ⟨(ad.add (i.toNat * 7)).block, (ad.add (i.toNat * 7)).off + 2, none⟩ = some (.int .i64 (rd_T58 xs i).f2.f0) ∧ w.cell? ⟨(ad.add (i.toNat * 7)).block, (ad.add (i.toNat * 7)).off + 3, none⟩ = some (.int .i64 (rd_T58 xs i).f2.f1) ∧ w.cell? ⟨(ad.add (i.toNat * 7)).block, (ad.add (i.toNat * 7)).off + 4, none⟩ = some (.int .i64 (rd_T58 xs i).f2.f2) ∧ w.cell? ⟨(ad.add (i.toNat * 7)).block, (ad.add (i.toNat * 7)).off + 5, none⟩ = some (.string (rd_T58 xs i).f2.f3) ∧ w.cell? ⟨(ad.add (i.toNat * 7)).block, (ad.add (i.toNat * 7)).off + 6, none⟩ = some (.slice A6 (rd_T58 xs i).f2.f4.length c6) ∧ (rd_T58 xs i).f2.f4.length ≤ c6 ∧ k91.C w A6 (rd_T58 xs i).f2.f4.length (rd_T58 xs i).f2.f4 := by
  obtain ⟨ad, c, e, _, hK, hc0⟩ := Kd.C_get h z58 i h0 h1
  have hc : ∀ j u, c[j]? = some u → w.cell? (ad.add (i.toNat * 7 + j)) = some u := hc0
  obtain ⟨A6, c6, rfl, l6, g6⟩ := k58_open hK
  exact ⟨ad, A6, c6, e, hc 0 _ rfl, by rw [← add_field _ _ 1 (by omega)]; exact hc 1 _ rfl, by rw [← add_field _ _ 2 (by omega)]; exact hc 2 _ rfl, by rw [← add_field _ _ 3 (by omega)]; exact hc 3 _ rfl, by rw [← add_field _ _ 4 (by omega)]; exact hc 4 _ rfl, by rw [← add_field _ _ 5 (by omega)]; exact hc 5 _ rfl, by rw [← add_field _ _ 6 (by omega)]; exact hc 6 _ rfl, l6, g6⟩
structure S61 where
  f0 : Int
  f1 : Int
def z61 : S61 := ⟨(0 : Int), (0 : Int)⟩
def k61 : Kd S61 := Kd.iso (Kd.pair (Kd.int .i64) (Kd.int .i64)) (fun x : S61 => (x.f0, x.f1))
theorem k61_open {w : World} {x : S61} {cs : List Value} (h : k61.K w x cs) : cs = [.int .i64 x.f0, .int .i64 x.f1] := by
  obtain ⟨_, _, rfl, rfl, rfl⟩ := h
  exact rfl
theorem k61_mkM (w : World) (base : Nat) (ok : Nat → Prop) (x : S61)  : k61.M w base ok x [.int .i64 x.f0, .int .i64 x.f1] := ⟨[.int .i64 x.f0], [.int .i64 x.f1], rfl, rfl, rfl⟩
def rd_T61 (xs : List S61) (i : Int) : S61 := xs.getD i.toNat z61
theorem at_T61 {w : World} {A : Option Addr} {n : Nat} {xs : List S61} (h : Kd.C k61 w A n xs) (i : Int) (h0 : 0 ≤ i) (h1 : i < n) : ∃ ad , A = some ad ∧ w.cell? (ad.add (i.toNat * 2)) = some (.int .i64 (rd_T61 xs i).f0) ∧ w.cell? ⟨(ad.add (i.toNat * 2)).block, (ad.add (i.toNat * 2)).off + 1, none⟩ = some (.int .i64 (rd_T61 xs i).f1) := by
  obtain ⟨ad, c, e, _, hK, hc0⟩ := Kd.C_get h z61 i h0 h1
  have hc : ∀ j u, c[j]? = some u → w.cell? (ad.add (i.toNat * 2 + j)) = some u := hc0
  obtain rfl := k61_open hK
  exact ⟨ad, e, hc 0 _ rfl, by rw [← add_field _ _ 1 (by omega)]; exact hc 1 _ rfl⟩
structure S55 where
  f0 : Int
  f1 : (List S58)
def z55 : S55 := ⟨(0 : Int), ([] : List S58)⟩
def k55 : Kd S55 := Kd.iso (Kd.pair (Kd.int .i64) (Kd.slice 58 k58)) (fun x : S55 => (x.f0, x.f1))
theorem k55_heap : Kd.Heap k55 := Kd.heap_iso _ (Kd.heap_pair (Kd.heap_int .i64) (Kd.heap_slice 58 k58_heap))
theorem k55_open {w : World} {x : S55} {cs : List Value} (h : k55.K w x cs) : ∃ A1 c1, cs = [.int .i64 x.f0, .slice A1 x.f1.length c1] ∧ x.f1.length ≤ c1 ∧ k58.C w A1 x.f1.length x.f1 := by
  obtain ⟨_, _, rfl, rfl, ⟨A1, c1, rfl, l1, g1⟩⟩ := h
  exact ⟨A1, c1, rfl, l1, g1⟩
theorem k55_mk (w : World) (x : S55) {A1 : Option Addr} {c1 : Nat} (l1 : x.f1.length ≤ c1) (g1 : k58.C w A1 x.f1.length x.f1) : k55.K w x [.int .i64 x.f0, .slice A1 x.f1.length c1] := ⟨[.int .i64 x.f0], [.slice A1 x.f1.length c1], rfl, rfl, ⟨A1, c1, rfl, l1, g1⟩⟩
theorem k55_openF {W : World} {ok : Nat → Prop} {x : S55} {cs : List Value} (h : Kd.FK k55 W ok x cs) : ∃ A1 c1, cs = [.int .i64 x.f0, .slice A1 x.f1.length c1] ∧ x.f1.length ≤ c1 ∧ Kd.F k58 W ok A1 x.f1.length x.f1 := by
  obtain ⟨A1, c1, rfl, l1, _⟩ := k55_open (Kd.FK_now h)
  exact ⟨A1, c1, rfl, l1, (fun W' hW => by obtain ⟨A1_, c1_, he, l1_, g1_⟩ := k55_open (h W' hW); injection (Option.some.inj (show some (Value.slice A1 x.f1.length c1) = some (Value.slice A1_ x.f1.length c1_) from congrArg (fun l => l[1]?) he)) with ha_ _ _; rw [ha_]; exact g1_)⟩
theorem k55_mkF (W : World) (ok : Nat → Prop) (x : S55) {A1 : Option Addr} {c1 : Nat} (l1 : x.f1.length ≤ c1) (g1 : Kd.F k58 W ok A1 x.f1.length x.f1) : Kd.FK k55 W ok x [.int .i64 x.f0, .slice A1 x.f1.length c1] := fun W2 hW => k55_mk W2 x l1 (g1 W2 hW)
def rd_T55 (xs : List S55) (i : Int) : S55 := xs.getD i.toNat z55
theorem at_T55 {w : World} {A : Option Addr} {n : Nat} {xs : List S55} (h : Kd.C k55 w A n xs) (i : Int) (h0 : 0 ≤ i) (h1 : i < n) : ∃ ad A1 c1, A = some ad ∧ w.cell? (ad.add (i.toNat * 2)) = some (.int .i64 (rd_T55 xs i).f0) ∧ w.cell? ⟨(ad.add (i.toNat * 2)).block, (ad.add (i.toNat * 2)).off + 1, none⟩ = some (.slice A1 (rd_T55 xs i).f1.length c1) ∧ (rd_T55 xs i).f1.length ≤ c1 ∧ k58.C w A1 (rd_T55 xs i).f1.length (rd_T55 xs i).f1 := by
  obtain ⟨ad, c, e, _, hK, hc0⟩ := Kd.C_get h z55 i h0 h1
  have hc : ∀ j u, c[j]? = some u → w.cell? (ad.add (i.toNat * 2 + j)) = some u := hc0
  obtain ⟨A1, c1, rfl, l1, g1⟩ := k55_open hK
  exact ⟨ad, A1, c1, e, hc 0 _ rfl, by rw [← add_field _ _ 1 (by omega)]; exact hc 1 _ rfl, l1, g1⟩
structure S40 where
  f0 : Int
  f1 : Bool
  f2 : S38
end Go.Proofs.Ytdkgkiemndlneaa.Q
end

section
/-
  DERIVED: THE SHELF's CONTRACTS AT THIS DUMP, IN PLAIN WORDS (tools/lay-plain.mjs out of 'TryShelf.lean', which tools/lay-shelf.mjs wrote): THE SAME DECLARATIONS UNDER THE SAME NAMES: 'import', 'namespace', 'open', 'def', 'theorem' AND NOTHING ELSE: no command of the shelf's: FOR A HAND-IN. Each laying: the table of numbers ('.._ren') and one theorem, a field a fact of the dump's own or the kernel's comparison; each contract: ONE APPLICATION.
-/
namespace Go.Proofs
open Go.Shelf
def Try.lays137_ren : Go.Shelf.Ren := ⟨fun | 137 => 73 | 217 => 75 | 266 => 76 | n => n, fun | 9 => 9 | 5 => 5 | 3 => 3 | n => n, fun | n => n⟩
theorem Try.lays137 : Go.Proofs.Lays.n137 Try.prog Try.lays137_ren := {
  mixed := by kernel_rfl
  f137 := Try.func73.trans (congrArg some (by kernel_rfl))
  f217 := Try.func75.trans (congrArg some (by kernel_rfl))
  f266 := Try.func76.trans (congrArg some (by kernel_rfl))
  t3 := Try.underlying3
  a3 := Try.isAgg3
  z3 := Try.sizeOf3
  v3 := Try.zeroValue3
  t5 := Try.underlying5
  a5 := Try.isAgg5
  z5 := Try.sizeOf5
  v5 := Try.zeroValue5
  t9 := Try.underlying9
  a9 := Try.isAgg9
  z9 := Try.sizeOf9
  v9 := Try.zeroValue9 }
open Go.RowKit in
theorem Try.strings_IndexByte (s : ByteArray) (c : Int) (w : World) :
    Calls Try.prog 73 #[.string s, .int .u8 c] w fun e w' => e = .returned (.int .i64 (Lib.indexByte s.data.toList c.toNat.toUInt8)) ∧ w' = w := Any.strings_IndexByte Try.lays137 s c w
end Go.Proofs
end

section
namespace Go.Proofs.Ytdkgkiemndlneaa.X
open Go.RowKit Go.Proofs.YtdkgkiemndlneaaW.PrintWords
def badName (s : ByteArray) : Bool := s.toList == [46] || s.toList == [46, 46] || s.toList == [] || decide (32 < s.size) || decide (0 ≤ Lib.indexByte s.data.toList 47) || decide (0 ≤ Lib.indexByte s.data.toList 0)
def name_Check.f (a0 : ByteArray) : Option Int := some (if badName a0 then 10 else 0)
set_option maxHeartbeats 1000000 in
theorem name_Check.calls (a0 : ByteArray) (r : Int) (w : World) (h : name_Check.f a0 = some r) :
    Calls Try.prog 71 #[.string a0] w fun e w' => e = .returned (.int .i64 r) ∧ Drawn0 w w' := by
  obtain rfl := Option.some.inj h
  clear h
  unfold badName
  generalize h1 : (a0.toList == [46]) = b1
  generalize h2 : (a0.toList == [46, 46]) = b2
  generalize h3 : (a0.toList == []) = b3
  have c5 := Try.strings_IndexByte a0 47 w
  have c6 := Try.strings_IndexByte a0 0 w
  rw [show ((47 : Int).toNat.toUInt8) = 47 from rfl] at c5
  rw [show ((0 : Int).toNat.toUInt8) = 0 from rfl] at c6
  generalize Lib.indexByte a0.data.toList 47 = i5 at *
  generalize Lib.indexByte a0.data.toList 0 = i6 at *
  have C5 := Lib.hid c5
  have C6 := Lib.hid c6
  clear c5 c6
  go_enter Try.func71, Try.ntmps71
  go_wp2_with (first | (refine (C5.out).mono ?_; rintro e w' ⟨rfl, rfl⟩) | (refine (C6.out).mono ?_; rintro e w' ⟨rfl, rfl⟩))
  all_goals first | (exfalso; simp_all; done) | (exfalso; omega) | (go_ret; exact ⟨by first | rfl | (congr 2; simp_all; done) | (congr 2; simp_all; omega), Drawn0.refl _⟩)
end Go.Proofs.Ytdkgkiemndlneaa.X
end

section
namespace Go.Proofs.Ytdkgkiemndlneaa.X
open Go.RowKit Go.Proofs.YtdkgkiemndlneaaW.PrintWords Go.Proofs.YtdkgkiemndlneaaW.PrintLast Go.Proofs.YtdkgkiemndlneaaW.PrintMore
open Go.Proofs.Ytdkgkiemndlneaa.Q
attribute [local go_sem] max2_int min2_int max_two min_two max_three min_three max_four min_four   -- for this text's walks alone
attribute [local go_sem high] Go.Proofs.Ytdkgkiemndlneaa.px_xor_u8 Go.Proofs.Ytdkgkiemndlneaa.px_xor_u16 Go.Proofs.Ytdkgkiemndlneaa.px_xor_u32 Go.Proofs.Ytdkgkiemndlneaa.px_xor_u64
def errW : Option Int → Value
  | none => .nilIface
  | some c => .iface 0 (.int .i64 c)
theorem errW_none : errW none = .nilIface := rfl
theorem errW_some (c : Int) : errW (some c) = .iface 0 (.int .i64 c) := rfl
theorem info3 : (Try.prog.info? 3).map (fun i => (i.zero, i.size, i.bytes)) = some (some (.int .i64 0), 1, 8) := by kernel_rfl
end Go.Proofs.Ytdkgkiemndlneaa.X
end

section
namespace Go.Proofs.Ytdkgkiemndlneaa.X
open Go.RowKit Go.Proofs.YtdkgkiemndlneaaW.PrintWords Go.Proofs.YtdkgkiemndlneaaW.PrintLast Go.Proofs.YtdkgkiemndlneaaW.PrintMore
open Go.Proofs.Ytdkgkiemndlneaa.Q
attribute [local go_sem] max2_int min2_int max_two min_two max_three min_three max_four min_four   -- for this text's walks alone
attribute [local go_sem high] Go.Proofs.Ytdkgkiemndlneaa.px_xor_u8 Go.Proofs.Ytdkgkiemndlneaa.px_xor_u16 Go.Proofs.Ytdkgkiemndlneaa.px_xor_u32 Go.Proofs.Ytdkgkiemndlneaa.px_xor_u64
theorem eqA91 (d : Nat) (w : World) (x0 y0 : ByteArray) (x1 y1 : Int) :
    (Op.equalIn (d + 2) 91 (.agg #[.string x0, .int .i64 x1]) (.agg #[.string y0, .int .i64 y1])).run Try.prog w = .ok (x0.toList == y0.toList && (x1 == y1)) w := by
  refine eqA_of Try.underlying91 (by kernel_rfl) ?_
  refine eqf_cons (by rfl) (by go_simp; rfl) (by go_simp; rfl) (by go_simp) ?_
  exact eqf_last (by rfl) (by go_simp; rfl) (by go_simp; rfl) (by go_simp)
end Go.Proofs.Ytdkgkiemndlneaa.X
end

section
namespace Go.Proofs.Ytdkgkiemndlneaa.X
open Go.RowKit Go.Proofs.YtdkgkiemndlneaaW.PrintWords Go.Proofs.YtdkgkiemndlneaaW.PrintLast Go.Proofs.YtdkgkiemndlneaaW.PrintMore
open Go.Proofs.Ytdkgkiemndlneaa.Q
attribute [local go_sem] max2_int min2_int max_two min_two max_three min_three max_four min_four   -- for this text's walks alone
attribute [local go_sem high] Go.Proofs.Ytdkgkiemndlneaa.px_xor_u8 Go.Proofs.Ytdkgkiemndlneaa.px_xor_u16 Go.Proofs.Ytdkgkiemndlneaa.px_xor_u32 Go.Proofs.Ytdkgkiemndlneaa.px_xor_u64
def store_versed.f (a0_0 : Int) (a0_1 : Bool) (a0_2 : Int) (a0_3 : Int) (a0_4 : Int) (a0_5 : ByteArray) (l0_6 : List (S91)) : Option (Int) := some a0_0
set_option maxHeartbeats 8000000 in
set_option maxRecDepth 100000 in
theorem store_versed.calls (a0_0 : Int) (a0_1 : Bool) (a0_2 : Int) (a0_3 : Int) (a0_4 : Int) (a0_5 : ByteArray) (A0_6 : Option Addr) (c0_6 : Nat) (l0_6 : List (S91)) (r : Int) (w : World) (hr0_6 : Kd.C k91 w A0_6 l0_6.length l0_6) (hc0_6 : l0_6.length ≤ c0_6) (h : store_versed.f a0_0 a0_1 a0_2 a0_3 a0_4 a0_5 l0_6 = some r) :
    Calls Try.prog 32 #[.agg #[.int .i64 a0_0, .bool a0_1, .int .i64 a0_2, .int .i64 a0_3, .int .i64 a0_4, .string a0_5, .slice A0_6 l0_6.length c0_6]] w fun e w' => e = .returned (.int .i64 r) ∧ Below w.heap.size w w' := by
  have hu58 := Try.underlying58
  have HR0_6 := zqj hr0_6
  have HC0_6 := zqj hc0_6
  clear hr0_6 hc0_6
  have HB := zqj (Below.refl w.heap.size w)
  have H : (some a0_0) = some r := h
  clear h
  obtain rfl := Option.some.inj H
  go_enter Try.func32, Try.ntmps32
  go_wp2_with (first | ((with_reducible refine gate_dst (N := 1) rfl ?_); refine box_event ?hg (N := 1) ?hd (cs := #[.int .i64 a0_0, .bool a0_1, .int .i64 a0_2, .int .i64 a0_3, .int .i64 a0_4, .string a0_5, .slice A0_6 l0_6.length c0_6]) (t := 58) ?hr ?_; (case hd => rfl); (case hg => rfl); (case hr => exact zrr); intro gb101 hg w2 hbox hb; have n0_ := zqj (below_step (zrd0 HB.out) hb); have n1_ := zqj (hbox); have n2_ : Aside0 (w.heap.size ≤ gb101) := ⟨by rw [hg]; exact below_size (zrd0 HB.out)⟩; have n3_ := n2_; clear HB; have HB := n0_; have BK101 := n1_; have GW101 := n2_; have GE101 := n3_; clear n0_ n1_ n2_ n3_; clear hb hbox hg; obtain ⟨hcz3_0, hcz3_1, hcz3_2, hcz3_3, hcz3_4, hcz3_5, hcz3_6⟩ := zc7 BK101.out; obtain ⟨hfz3_0, hfz3_1, hfz3_2, hfz3_3, hfz3_4, hfz3_5, hfz3_6⟩ := zf7 BK101.out))
  go_ret
  exact ⟨zru, by repeat (first | (with_reducible first | exact HB.out | apply zqg | apply zqe | apply zqf | refine zqd ?_ GE101.out) | exact HB.out)⟩
end Go.Proofs.Ytdkgkiemndlneaa.X
end

section
namespace Go.Proofs.Ytdkgkiemndlneaa.X
open Go.RowKit Go.Proofs.YtdkgkiemndlneaaW.PrintWords Go.Proofs.YtdkgkiemndlneaaW.PrintLast Go.Proofs.YtdkgkiemndlneaaW.PrintMore
open Go.Proofs.Ytdkgkiemndlneaa.Q
attribute [local go_sem] max2_int min2_int max_two min_two max_three min_three max_four min_four   -- for this text's walks alone
attribute [local go_sem high] Go.Proofs.Ytdkgkiemndlneaa.px_xor_u8 Go.Proofs.Ytdkgkiemndlneaa.px_xor_u16 Go.Proofs.Ytdkgkiemndlneaa.px_xor_u32 Go.Proofs.Ytdkgkiemndlneaa.px_xor_u64
def api_Ver.l0 : Nat → List (S58) → Int → List (S58) → Int → Int → Option (Bool)
 | 0, _, _, _, _, _ => none
 | k + 1, x0, x1, x9, x10, x11 => if x11 < x10 then (if 0 ≤ x11 then (if x11 < (x9.length : Int) then ((store_versed.f ((rd_T58 x9 x11).f0) ((rd_T58 x9 x11).f1) ((rd_T58 x9 x11).f2.f0) ((rd_T58 x9 x11).f2.f1) ((rd_T58 x9 x11).f2.f2) ((rd_T58 x9 x11).f2.f3) ((rd_T58 x9 x11).f2.f4)).bind fun t104 => (if t104 < 1 then (some false) else ((store_versed.f ((rd_T58 x9 x11).f0) ((rd_T58 x9 x11).f1) ((rd_T58 x9 x11).f2.f0) ((rd_T58 x9 x11).f2.f1) ((rd_T58 x9 x11).f2.f2) ((rd_T58 x9 x11).f2.f3) ((rd_T58 x9 x11).f2.f4)).bind fun t105 => (if t105 > x1 then (some false) else (if x11 > 0 then (if 0 ≤ (wrap64 (x11 - 1)) then (if (wrap64 (x11 - 1)) < (x0.length : Int) then ((store_versed.f ((rd_T58 x0 (wrap64 (x11 - 1))).f0) ((rd_T58 x0 (wrap64 (x11 - 1))).f1) ((rd_T58 x0 (wrap64 (x11 - 1))).f2.f0) ((rd_T58 x0 (wrap64 (x11 - 1))).f2.f1) ((rd_T58 x0 (wrap64 (x11 - 1))).f2.f2) ((rd_T58 x0 (wrap64 (x11 - 1))).f2.f3) ((rd_T58 x0 (wrap64 (x11 - 1))).f2.f4)).bind fun t107 => ((store_versed.f ((rd_T58 x9 x11).f0) ((rd_T58 x9 x11).f1) ((rd_T58 x9 x11).f2.f0) ((rd_T58 x9 x11).f2.f1) ((rd_T58 x9 x11).f2.f2) ((rd_T58 x9 x11).f2.f3) ((rd_T58 x9 x11).f2.f4)).bind fun t108 => (if t107 ≥ t108 then (some false) else (api_Ver.l0 k x0 x1 x9 x10 (wrap64 (x11 + 1)))))) else (none)) else (none)) else (api_Ver.l0 k x0 x1 x9 x10 (wrap64 (x11 + 1)))))))) else (none)) else (none)) else (some (decide ((x0.length : Int) > 0)))
def api_Ver.f (k : Nat) (l0 : List (S58)) (a1 : Int) (a2 : Unit) : Option (Bool) := api_Ver.l0 k l0 a1 l0 (l0.length : Int) 0
theorem api_Ver.mono_l : ∀ k, (∀ y0 y1 y2 y3 y4, LeO (api_Ver.l0 k y0 y1 y2 y3 y4) (api_Ver.l0 (k + 1) y0 y1 y2 y3 y4))
 | 0 => fun _ _ _ _ _ r h => by simp [api_Ver.l0] at h
 | k + 1 => by
  have ih0 := api_Ver.mono_l k
  ·intro y0 y1 y2 y3 y4
   unfold api_Ver.l0
   repeat' first
   | (with_reducible exact ih0 _ _ _ _ _)
   | (with_reducible exact LeO.refl _)
   | (with_reducible exact LeO.none _)
   | (with_reducible refine LeO.ite ?_ ?_)
   | (with_reducible refine LeO.bind ?_ (fun _ => ?_))
   | exact ih0 _ _ _ _ _
   | exact LeO.none _
   | refine LeO.ite ?_ ?_
   | refine LeO.bind ?_ (fun _ => ?_)
theorem api_Ver.mono : ∀ a0 a1 a2 k, LeO (api_Ver.f k a0 a1 a2) (api_Ver.f (k + 1) a0 a1 a2) := by
 intro a0 a1 a2 k
 have ih0 := api_Ver.mono_l k
 unfold api_Ver.f
 repeat' first
   | (with_reducible exact ih0 _ _ _ _ _)
   | (with_reducible exact LeO.refl _)
   | (with_reducible exact LeO.none _)
   | (with_reducible refine LeO.ite ?_ ?_)
   | (with_reducible refine LeO.bind ?_ (fun _ => ?_))
   | exact ih0 _ _ _ _ _
   | exact LeO.none _
   | refine LeO.ite ?_ ?_
   | refine LeO.bind ?_ (fun _ => ?_)
def api_Ver.T4 : Bool × List (List Nat × List Nat) := (true, [([], []), ([], []), ([0, 1], [0, 1]), ([2], [2]), ([3, 2], [3]), ([4], [4]), ([4], [4]), ([5, 6, 4, 4], [4, 5, 6]), ([4], [4]), ([7, 8, 4], [4, 7, 8]), ([4, 9], [4, 9]), ([10, 7], [10]), ([11], [11]), ([12, 11], [11, 12]), ([13, 11, 11], [11, 13]), ([14], [14]), ([14], [14]), ([14], [14]), ([17, 14], [14, 17]), ([16, 18, 14], [14, 16, 18]), ([19, 14], [14, 19]), ([15, 20, 14, 14], [14, 15, 20]), ([14], [14]), ([14], [14]), ([22, 23, 21, 14], [14, 22, 23]), ([21, 24, 14], [14, 21, 24]), ([14, 25, 11], [11, 14, 25]), ([11, 26], [11, 26])])
def api_Ver.B4 : List Nat := [0, 0, 3, 7, 15, 31, 31, 127, 31, 511, 1023, 2047, 4095, 8191, 16383, 32767, 32767, 32767, 163839, 491519, 1015807, 2097151, 32767, 32767, 16777215, 33554431, 67108863, 134217727]
theorem api_Ver.tab4 : rtab .any (opsOf Try.f35 4) = api_Ver.T4 := by kernel_rfl
theorem api_Ver.bits4 : waitsOk api_Ver.T4.2 api_Ver.B4 = true := by kernel_rfl
set_option maxHeartbeats 8000000 in
set_option maxRecDepth 100000 in
theorem api_Ver.calls (k : Nat) (A0 : Option Addr) (c0 : Nat) (l0 : List (S58)) (a1 : Int) (a2 : Unit) (r : Bool) (w : World) (hr0 : Kd.C k58 w A0 l0.length l0) (hc0 : l0.length ≤ c0) (h : api_Ver.f k l0 a1 a2 = some r) :
  Calls Try.prog 35 #[.slice A0 l0.length c0, .int .i64 a1, .func (.func 32) #[] #[]] w fun e w' => e = .returned (.bool r) ∧ Below w.heap.size w w' := by
 have hu58 := Try.underlying58
 have HR0 := zqj hr0
 have HC0 := zqj hc0
 clear hr0 hc0
 have HB := zqj (Below.refl w.heap.size w)
 have H : (api_Ver.l0 k l0 a1 l0 (l0.length : Int) 0) = some r := h
 clear h
 have H' := zqj H
 clear H
 go_enter Try.func35, Try.ntmps35
 go_wp2
 go_loopg [11] k (fun kq v11 w' => ∃ (x11_1 : Int), v11 = .int .i64 x11_1 ∧ Aside0 (api_Ver.l0 kq l0 a1 l0 (l0.length : Int) x11_1 = some r) ∧ Aside0 (kq ≤ k) ∧ Aside0 (Below w.heap.size w w'))
 case atStart => exact ⟨(0), zrt, H', ⟨Nat.le_refl _⟩, ⟨by repeat (first | (with_reducible first | exact HB.out | apply zqg | apply zqe | apply zqf) | exact HB.out)⟩⟩
 case round =>
  clear H'
  ((try clear p2); (try clear c3))
  obtain ⟨x11_1, rfl, HA, HK1, HB⟩ := hrel
  cases gk with
  | zero => exact absurd HA.out (by simp [api_Ver.l0])
  | succ k1 =>
   (have H := HA.out; clear HA)
   simp only [api_Ver.l0] at H
   by_cases c4 : x11_1 < (l0.length : Int)
   ·rw [if_pos c4] at H
    have c4b0 : decide (x11_1 < (l0.length : Int)) = true := decide_eq_true c4
    clear c4
    by_cases c5 : 0 ≤ x11_1
    ·rw [if_pos c5] at H
     have c5b0 : decide (0 ≤ x11_1) = true := decide_eq_true c5
     clear c5
     by_cases c6 : x11_1 < (l0.length : Int)
     ·rw [if_pos c6] at H
      have c6b0 : decide (x11_1 < (l0.length : Int)) = true := decide_eq_true c6
      clear c6
      replace H := zqn H
      obtain ⟨t104, A70, H⟩ := H
      replace H : (if t104 < 1 then (some false) else ((store_versed.f ((rd_T58 l0 x11_1).f0) ((rd_T58 l0 x11_1).f1) ((rd_T58 l0 x11_1).f2.f0) ((rd_T58 l0 x11_1).f2.f1) ((rd_T58 l0 x11_1).f2.f2) ((rd_T58 l0 x11_1).f2.f3) ((rd_T58 l0 x11_1).f2.f4)).bind fun t105 => (if t105 > a1 then (some false) else (if x11_1 > 0 then (if 0 ≤ (wrap64 (x11_1 - 1)) then (if (wrap64 (x11_1 - 1)) < (l0.length : Int) then ((store_versed.f ((rd_T58 l0 (wrap64 (x11_1 - 1))).f0) ((rd_T58 l0 (wrap64 (x11_1 - 1))).f1) ((rd_T58 l0 (wrap64 (x11_1 - 1))).f2.f0) ((rd_T58 l0 (wrap64 (x11_1 - 1))).f2.f1) ((rd_T58 l0 (wrap64 (x11_1 - 1))).f2.f2) ((rd_T58 l0 (wrap64 (x11_1 - 1))).f2.f3) ((rd_T58 l0 (wrap64 (x11_1 - 1))).f2.f4)).bind fun t107 => ((store_versed.f ((rd_T58 l0 x11_1).f0) ((rd_T58 l0 x11_1).f1) ((rd_T58 l0 x11_1).f2.f0) ((rd_T58 l0 x11_1).f2.f1) ((rd_T58 l0 x11_1).f2.f2) ((rd_T58 l0 x11_1).f2.f3) ((rd_T58 l0 x11_1).f2.f4)).bind fun t108 => (if t107 ≥ t108 then (some false) else (api_Ver.l0 k1 l0 a1 l0 (l0.length : Int) (wrap64 (x11_1 + 1)))))) else (none)) else (none)) else (api_Ver.l0 k1 l0 a1 l0 (l0.length : Int) (wrap64 (x11_1 + 1))))))) = some r := H
      have A7 := zqj A70
      clear A70
      by_cases c8 : t104 < 1
      ·rw [if_pos c8] at H
       have c8b0 : decide (t104 < 1) = true := decide_eq_true c8
       clear c8
       obtain rfl := Option.some.inj H
       have p102 : 0 ≤ (x11_1 : Int) := zqh zrs
       have q102 : x11_1 < (l0.length : Int) := zqh zrs
       obtain ⟨ad102, A102_6, c102_6, e102, hx102_0, hx102_1, hx102_2, hx102_3, hx102_4, hx102_5, hx102_6, hl102_6, hi102_6⟩ := at_T58 HR0.out x11_1 p102 q102
       cases e102
       replace hx102_0 := zx HB.out hx102_0
       replace hx102_1 := zx HB.out hx102_1
       replace hx102_2 := zx HB.out hx102_2
       replace hx102_3 := zx HB.out hx102_3
       replace hx102_4 := zx HB.out hx102_4
       replace hx102_5 := zx HB.out hx102_5
       replace hx102_6 := zx HB.out hx102_6
       have HR102_6 := zqj hi102_6
       have HC102_6 := zqj hl102_6
       clear hi102_6 hl102_6
       replace p102 := eq_true p102
       replace q102 := eq_true q102
       try go_wp2_with (first | ((with_reducible refine gate_dst (N := 8) rfl ?_); refine box_event ?hg (N := 8) ?hd (cs := #[.int .i64 0, .bool false, .int .i64 0, .int .i64 0, .int .i64 0, .string (⟨#[]⟩ : ByteArray), .slice none 0 0]) (t := 58) ?hr ?_; (case hd => rfl); (case hg => rfl); (case hr => exact zrr); intro gb103 hg w9 hbox hb; have n0_ := zqj (below_step (zrd0 HB.out) hb); have n1_ := zqj (hbox); have n2_ : Aside0 (w.heap.size ≤ gb103) := ⟨by rw [hg]; exact below_size (zrd0 HB.out)⟩; have n3_ := n2_; clear HB; have HB := n0_; have BK103 := n1_; have GW103 := n2_; have GE103 := n3_; clear n0_ n1_ n2_ n3_; clear hb hbox hg; obtain ⟨hcz10_0, hcz10_1, hcz10_2, hcz10_3, hcz10_4, hcz10_5, hcz10_6⟩ := zc7 BK103.out; obtain ⟨hfz10_0, hfz10_1, hfz10_2, hfz10_3, hfz10_4, hfz10_5, hfz10_6⟩ := zf7 BK103.out))
       have n0_ : Aside0 ((((((((w9.setCell ⟨gb103, 0, none⟩ (.int .i64 ((rd_T58 l0 x11_1).f0))).setCell ⟨gb103, 1, none⟩ (.bool ((rd_T58 l0 x11_1).f1))).setCell ⟨gb103, 2, none⟩ (.int .i64 ((rd_T58 l0 x11_1).f2.f0))).setCell ⟨gb103, 3, none⟩ (.int .i64 ((rd_T58 l0 x11_1).f2.f1))).setCell ⟨gb103, 4, none⟩ (.int .i64 ((rd_T58 l0 x11_1).f2.f2))).setCell ⟨gb103, 5, none⟩ (.string ((rd_T58 l0 x11_1).f2.f3))).setCell ⟨gb103, 6, none⟩ (.slice A102_6 ((rd_T58 l0 x11_1).f2.f4).length c102_6)).heap[gb103]? = some (.cells #[.int .i64 ((rd_T58 l0 x11_1).f0), .bool ((rd_T58 l0 x11_1).f1), .int .i64 ((rd_T58 l0 x11_1).f2.f0), .int .i64 ((rd_T58 l0 x11_1).f2.f1), .int .i64 ((rd_T58 l0 x11_1).f2.f2), .string ((rd_T58 l0 x11_1).f2.f3), .slice A102_6 ((rd_T58 l0 x11_1).f2.f4).length c102_6] 58 (0, 0))) := ⟨by (with_reducible repeat (first | refine zqa ?_ _ | refine zqb ?_ | refine zqc ?_ _)); refine blk_put (cs := #[.int .i64 ((rd_T58 l0 x11_1).f0), .bool ((rd_T58 l0 x11_1).f1), .int .i64 ((rd_T58 l0 x11_1).f2.f0), .int .i64 ((rd_T58 l0 x11_1).f2.f1), .int .i64 ((rd_T58 l0 x11_1).f2.f2), .string ((rd_T58 l0 x11_1).f2.f3), .slice none 0 0]) ?_ 6 _ rfl; (with_reducible repeat (first | refine zqa ?_ _ | refine zqb ?_ | refine zqc ?_ _)); refine blk_put (cs := #[.int .i64 ((rd_T58 l0 x11_1).f0), .bool ((rd_T58 l0 x11_1).f1), .int .i64 ((rd_T58 l0 x11_1).f2.f0), .int .i64 ((rd_T58 l0 x11_1).f2.f1), .int .i64 ((rd_T58 l0 x11_1).f2.f2), .string (⟨#[]⟩ : ByteArray), .slice none 0 0]) ?_ 5 _ rfl; (with_reducible repeat (first | refine zqa ?_ _ | refine zqb ?_ | refine zqc ?_ _)); refine blk_put (cs := #[.int .i64 ((rd_T58 l0 x11_1).f0), .bool ((rd_T58 l0 x11_1).f1), .int .i64 ((rd_T58 l0 x11_1).f2.f0), .int .i64 ((rd_T58 l0 x11_1).f2.f1), .int .i64 0, .string (⟨#[]⟩ : ByteArray), .slice none 0 0]) ?_ 4 _ rfl; (with_reducible repeat (first | refine zqa ?_ _ | refine zqb ?_ | refine zqc ?_ _)); refine blk_put (cs := #[.int .i64 ((rd_T58 l0 x11_1).f0), .bool ((rd_T58 l0 x11_1).f1), .int .i64 ((rd_T58 l0 x11_1).f2.f0), .int .i64 0, .int .i64 0, .string (⟨#[]⟩ : ByteArray), .slice none 0 0]) ?_ 3 _ rfl; (with_reducible repeat (first | refine zqa ?_ _ | refine zqb ?_ | refine zqc ?_ _)); refine blk_put (cs := #[.int .i64 ((rd_T58 l0 x11_1).f0), .bool ((rd_T58 l0 x11_1).f1), .int .i64 0, .int .i64 0, .int .i64 0, .string (⟨#[]⟩ : ByteArray), .slice none 0 0]) ?_ 2 _ rfl; (with_reducible repeat (first | refine zqa ?_ _ | refine zqb ?_ | refine zqc ?_ _)); refine blk_put (cs := #[.int .i64 ((rd_T58 l0 x11_1).f0), .bool false, .int .i64 0, .int .i64 0, .int .i64 0, .string (⟨#[]⟩ : ByteArray), .slice none 0 0]) ?_ 1 _ rfl; (with_reducible repeat (first | refine zqa ?_ _ | refine zqb ?_ | refine zqc ?_ _)); refine blk_put (cs := #[.int .i64 0, .bool false, .int .i64 0, .int .i64 0, .int .i64 0, .string (⟨#[]⟩ : ByteArray), .slice none 0 0]) ?_ 0 _ rfl; (with_reducible repeat (first | refine zqa ?_ _ | refine zqb ?_ | refine zqc ?_ _)); exact BK103.out⟩
       have n1_ : Aside0 (Below w.heap.size w (((((((w9.setCell ⟨gb103, 0, none⟩ (.int .i64 ((rd_T58 l0 x11_1).f0))).setCell ⟨gb103, 1, none⟩ (.bool ((rd_T58 l0 x11_1).f1))).setCell ⟨gb103, 2, none⟩ (.int .i64 ((rd_T58 l0 x11_1).f2.f0))).setCell ⟨gb103, 3, none⟩ (.int .i64 ((rd_T58 l0 x11_1).f2.f1))).setCell ⟨gb103, 4, none⟩ (.int .i64 ((rd_T58 l0 x11_1).f2.f2))).setCell ⟨gb103, 5, none⟩ (.string ((rd_T58 l0 x11_1).f2.f3))).setCell ⟨gb103, 6, none⟩ (.slice A102_6 ((rd_T58 l0 x11_1).f2.f4).length c102_6))) := ⟨by repeat (first | (with_reducible first | exact HB.out | apply zqg | apply zqe | apply zqf | refine zqd ?_ GE103.out) | exact HB.out)⟩
       ((try clear BK103); (try clear HB))
       generalize (((((((w9.setCell ⟨gb103, 0, none⟩ (.int .i64 ((rd_T58 l0 x11_1).f0))).setCell ⟨gb103, 1, none⟩ (.bool ((rd_T58 l0 x11_1).f1))).setCell ⟨gb103, 2, none⟩ (.int .i64 ((rd_T58 l0 x11_1).f2.f0))).setCell ⟨gb103, 3, none⟩ (.int .i64 ((rd_T58 l0 x11_1).f2.f1))).setCell ⟨gb103, 4, none⟩ (.int .i64 ((rd_T58 l0 x11_1).f2.f2))).setCell ⟨gb103, 5, none⟩ (.string ((rd_T58 l0 x11_1).f2.f3))).setCell ⟨gb103, 6, none⟩ (.slice A102_6 ((rd_T58 l0 x11_1).f2.f4).length c102_6)) = w11 at n0_ n1_ ⊢
       (have BK103 := n0_; have HB := n1_; clear n0_ n1_)
       replace BK103 := zqj (zqb BK103.out); replace HB := zqj (zqf HB.out)
       refine start_ (n := 28) (S := fun w' => w'.cell? ⟨gb103, 0, none⟩ = some (.int .i64 ((rd_T58 l0 x11_1).f0)) ∧ w'.cell? ⟨gb103, 1, none⟩ = some (.bool ((rd_T58 l0 x11_1).f1)) ∧ w'.cell? ⟨gb103, 2, none⟩ = some (.int .i64 ((rd_T58 l0 x11_1).f2.f0)) ∧ w'.cell? ⟨gb103, 3, none⟩ = some (.int .i64 ((rd_T58 l0 x11_1).f2.f1)) ∧ w'.cell? ⟨gb103, 4, none⟩ = some (.int .i64 ((rd_T58 l0 x11_1).f2.f2)) ∧ w'.cell? ⟨gb103, 5, none⟩ = some (.string ((rd_T58 l0 x11_1).f2.f3)) ∧ w'.cell? ⟨gb103, 6, none⟩ = some (.slice A102_6 ((rd_T58 l0 x11_1).f2.f4).length c102_6)) (ds := []) #[false, false, false, false, false, false, false, false, false, false, false, false, false, false, false, false, false, false, false, false, false, false, false, false, false, false, false, false] (by kernel_rfl) rfl rfl ⟨(blk_cell BK103.out 0).trans rfl, (blk_cell BK103.out 1).trans rfl, (blk_cell BK103.out 2).trans rfl, (blk_cell BK103.out 3).trans rfl, (blk_cell BK103.out 4).trans rfl, (blk_cell BK103.out 5).trans rfl, (blk_cell BK103.out 6).trans rfl⟩ (fun hHeld => ?_); refine with_tabW api_Ver.tab4 api_Ver.bits4 (fun HT_ HW_ => ?_)
       generalize w11.drew = w12 at BK103 HB hHeld ⊢
       refine zp 0 16 (zb 28 1) HT_.out ?_
       refine zt 1 17 (zb 28 3) HT_.out HW_.out hHeld ?_
       refine one_ (i := 2) (N := some 18) (zb 28 7) rfl rfl (one_of HT_.out (by kernel_rfl)) (by decide) (fun K hK => ?_)
       refine goesT_ Try.func32 (by kernel_rfl) rfl #[.agg #[.int .i64 ((rd_T58 l0 x11_1).f0), .bool ((rd_T58 l0 x11_1).f1), .int .i64 ((rd_T58 l0 x11_1).f2.f0), .int .i64 ((rd_T58 l0 x11_1).f2.f1), .int .i64 ((rd_T58 l0 x11_1).f2.f2), .string ((rd_T58 l0 x11_1).f2.f3), .slice A102_6 ((rd_T58 l0 x11_1).f2.f4).length c102_6]] (by rfl) rfl rfl (by rfl) zra ?_
       with_reducible refine (store_versed.calls ((rd_T58 l0 x11_1).f0) ((rd_T58 l0 x11_1).f1) ((rd_T58 l0 x11_1).f2.f0) ((rd_T58 l0 x11_1).f2.f1) ((rd_T58 l0 x11_1).f2.f2) ((rd_T58 l0 x11_1).f2.f3) _ _ ((rd_T58 l0 x11_1).f2.f4) t104 _ ?side1 ?side2 A7.out).mono ?_
       (case side1 => exact zrc (Kd.C_below HR102_6.out HB.out))
       (case side2 => exact HC102_6.out)
       rintro e w13 ⟨rfl, hb⟩
       refine ⟨_, rfl, ?_⟩
       replace BK103 := zqj (blk_below (g := gb103) (o := .cells #[.int .i64 ((rd_T58 l0 x11_1).f0), .bool ((rd_T58 l0 x11_1).f1), .int .i64 ((rd_T58 l0 x11_1).f2.f0), .int .i64 ((rd_T58 l0 x11_1).f2.f1), .int .i64 ((rd_T58 l0 x11_1).f2.f2), .string ((rd_T58 l0 x11_1).f2.f3), .slice A102_6 ((rd_T58 l0 x11_1).f2.f4).length c102_6] 58 (0, 0)) (zrb BK103.out) hb); replace HB := zqj (below_step (zrd1 HB.out GE103.out) hb)
       (try clear hb); (try clear hb2); (try clear hk); (try clear hi)
       refine hK.out _ _ ⟨(blk_cell BK103.out 0).trans rfl, (blk_cell BK103.out 1).trans rfl, (blk_cell BK103.out 2).trans rfl, (blk_cell BK103.out 3).trans rfl, (blk_cell BK103.out 4).trans rfl, (blk_cell BK103.out 5).trans rfl, (blk_cell BK103.out 6).trans rfl⟩ (fun hHeld => ?_)
       clear hK K
       refine norm_ (a' := ?_) ?_ ?_
       rotate_left
       ·show Act.put _ (some 18) _ = _
        simp only [Act.put, zqk, zql, zqm, i64_w, i32_w]
        rfl
       refine zp 3 19 (zb 28 15) HT_.out ?_
       refine zp 4 20 (zb 28 31) HT_.out ?_
       refine zq 5 21 (zb 28 63) HT_.out ?_
       refine zq 6 22 (zb 28 127) HT_.out ?_
       refine zq 7 23 (zb 28 255) HT_.out ?_
       refine zq 8 24 (zb 28 511) HT_.out ?_
       refine zq 9 25 (zb 28 1023) HT_.out ?_
       refine zp 10 26 (zb 28 2047) HT_.out ?_
       refine zp 11 27 (zb 28 4095) HT_.out ?_
       refine zq 12 28 (zb 28 8191) HT_.out ?_
       refine zq 13 29 (zb 28 16383) HT_.out ?_
       refine zq 14 30 (zb 28 32767) HT_.out ?_
       refine zq 15 31 (zb 28 65535) HT_.out ?_
       refine zq 16 32 (zb 28 131071) HT_.out ?_
       refine zq 17 33 (zb 28 262143) HT_.out ?_
       refine zq 18 34 (zb 28 524287) HT_.out ?_
       refine zq 19 35 (zb 28 1048575) HT_.out ?_
       refine zq 20 36 (zb 28 2097151) HT_.out ?_
       refine zq 21 37 (zb 28 4194303) HT_.out ?_
       refine zq 22 38 (zb 28 8388607) HT_.out ?_
       refine zq 23 39 (zb 28 16777215) HT_.out ?_
       refine zq 24 40 (zb 28 33554431) HT_.out ?_
       refine zq 25 41 (zb 28 67108863) HT_.out ?_
       refine zq 26 42 (zb 28 134217727) HT_.out ?_
       refine zp 27 43 (zb 28 268435455) HT_.out ?_
       refine done_ (done_of HT_.out (by kernel_rfl)) ?_
       try go_wp2
       go_ret
       exact ⟨zru, by repeat (first | (with_reducible first | exact HB.out | apply zqg | apply zqe | apply zqf | refine zqd ?_ GE103.out) | exact HB.out)⟩
      ·rw [if_neg c8] at H
       have c8b0 : decide (t104 < 1) = false := decide_eq_false c8
       clear c8
       replace H := zqn H
       obtain ⟨t105, A140, H⟩ := H
       replace H : (if t105 > a1 then (some false) else (if x11_1 > 0 then (if 0 ≤ (wrap64 (x11_1 - 1)) then (if (wrap64 (x11_1 - 1)) < (l0.length : Int) then ((store_versed.f ((rd_T58 l0 (wrap64 (x11_1 - 1))).f0) ((rd_T58 l0 (wrap64 (x11_1 - 1))).f1) ((rd_T58 l0 (wrap64 (x11_1 - 1))).f2.f0) ((rd_T58 l0 (wrap64 (x11_1 - 1))).f2.f1) ((rd_T58 l0 (wrap64 (x11_1 - 1))).f2.f2) ((rd_T58 l0 (wrap64 (x11_1 - 1))).f2.f3) ((rd_T58 l0 (wrap64 (x11_1 - 1))).f2.f4)).bind fun t107 => ((store_versed.f ((rd_T58 l0 x11_1).f0) ((rd_T58 l0 x11_1).f1) ((rd_T58 l0 x11_1).f2.f0) ((rd_T58 l0 x11_1).f2.f1) ((rd_T58 l0 x11_1).f2.f2) ((rd_T58 l0 x11_1).f2.f3) ((rd_T58 l0 x11_1).f2.f4)).bind fun t108 => (if t107 ≥ t108 then (some false) else (api_Ver.l0 k1 l0 a1 l0 (l0.length : Int) (wrap64 (x11_1 + 1)))))) else (none)) else (none)) else (api_Ver.l0 k1 l0 a1 l0 (l0.length : Int) (wrap64 (x11_1 + 1))))) = some r := H
       have A14 := zqj A140
       clear A140
       by_cases c15 : t105 > a1
       ·rw [if_pos c15] at H
        have c15b0 : decide (a1 < t105) = true := decide_eq_true c15
        clear c15
        obtain rfl := Option.some.inj H
        have p102 : 0 ≤ (x11_1 : Int) := zqh zrs
        have q102 : x11_1 < (l0.length : Int) := zqh zrs
        obtain ⟨ad102, A102_6, c102_6, e102, hx102_0, hx102_1, hx102_2, hx102_3, hx102_4, hx102_5, hx102_6, hl102_6, hi102_6⟩ := at_T58 HR0.out x11_1 p102 q102
        cases e102
        replace hx102_0 := zx HB.out hx102_0
        replace hx102_1 := zx HB.out hx102_1
        replace hx102_2 := zx HB.out hx102_2
        replace hx102_3 := zx HB.out hx102_3
        replace hx102_4 := zx HB.out hx102_4
        replace hx102_5 := zx HB.out hx102_5
        replace hx102_6 := zx HB.out hx102_6
        have HR102_6 := zqj hi102_6
        have HC102_6 := zqj hl102_6
        clear hi102_6 hl102_6
        replace p102 := eq_true p102
        replace q102 := eq_true q102
        try go_wp2_with (first | ((with_reducible refine gate_dst (N := 8) rfl ?_); refine box_event ?hg (N := 8) ?hd (cs := #[.int .i64 0, .bool false, .int .i64 0, .int .i64 0, .int .i64 0, .string (⟨#[]⟩ : ByteArray), .slice none 0 0]) (t := 58) ?hr ?_; (case hd => rfl); (case hg => rfl); (case hr => exact zrr); intro gb103 hg w16 hbox hb; have n0_ := zqj (below_step (zrd0 HB.out) hb); have n1_ := zqj (hbox); have n2_ : Aside0 (w.heap.size ≤ gb103) := ⟨by rw [hg]; exact below_size (zrd0 HB.out)⟩; have n3_ := n2_; clear HB; have HB := n0_; have BK103 := n1_; have GW103 := n2_; have GE103 := n3_; clear n0_ n1_ n2_ n3_; clear hb hbox hg; obtain ⟨hcz17_0, hcz17_1, hcz17_2, hcz17_3, hcz17_4, hcz17_5, hcz17_6⟩ := zc7 BK103.out; obtain ⟨hfz17_0, hfz17_1, hfz17_2, hfz17_3, hfz17_4, hfz17_5, hfz17_6⟩ := zf7 BK103.out))
        have n0_ : Aside0 ((((((((w16.setCell ⟨gb103, 0, none⟩ (.int .i64 ((rd_T58 l0 x11_1).f0))).setCell ⟨gb103, 1, none⟩ (.bool ((rd_T58 l0 x11_1).f1))).setCell ⟨gb103, 2, none⟩ (.int .i64 ((rd_T58 l0 x11_1).f2.f0))).setCell ⟨gb103, 3, none⟩ (.int .i64 ((rd_T58 l0 x11_1).f2.f1))).setCell ⟨gb103, 4, none⟩ (.int .i64 ((rd_T58 l0 x11_1).f2.f2))).setCell ⟨gb103, 5, none⟩ (.string ((rd_T58 l0 x11_1).f2.f3))).setCell ⟨gb103, 6, none⟩ (.slice A102_6 ((rd_T58 l0 x11_1).f2.f4).length c102_6)).heap[gb103]? = some (.cells #[.int .i64 ((rd_T58 l0 x11_1).f0), .bool ((rd_T58 l0 x11_1).f1), .int .i64 ((rd_T58 l0 x11_1).f2.f0), .int .i64 ((rd_T58 l0 x11_1).f2.f1), .int .i64 ((rd_T58 l0 x11_1).f2.f2), .string ((rd_T58 l0 x11_1).f2.f3), .slice A102_6 ((rd_T58 l0 x11_1).f2.f4).length c102_6] 58 (0, 0))) := ⟨by (with_reducible repeat (first | refine zqa ?_ _ | refine zqb ?_ | refine zqc ?_ _)); refine blk_put (cs := #[.int .i64 ((rd_T58 l0 x11_1).f0), .bool ((rd_T58 l0 x11_1).f1), .int .i64 ((rd_T58 l0 x11_1).f2.f0), .int .i64 ((rd_T58 l0 x11_1).f2.f1), .int .i64 ((rd_T58 l0 x11_1).f2.f2), .string ((rd_T58 l0 x11_1).f2.f3), .slice none 0 0]) ?_ 6 _ rfl; (with_reducible repeat (first | refine zqa ?_ _ | refine zqb ?_ | refine zqc ?_ _)); refine blk_put (cs := #[.int .i64 ((rd_T58 l0 x11_1).f0), .bool ((rd_T58 l0 x11_1).f1), .int .i64 ((rd_T58 l0 x11_1).f2.f0), .int .i64 ((rd_T58 l0 x11_1).f2.f1), .int .i64 ((rd_T58 l0 x11_1).f2.f2), .string (⟨#[]⟩ : ByteArray), .slice none 0 0]) ?_ 5 _ rfl; (with_reducible repeat (first | refine zqa ?_ _ | refine zqb ?_ | refine zqc ?_ _)); refine blk_put (cs := #[.int .i64 ((rd_T58 l0 x11_1).f0), .bool ((rd_T58 l0 x11_1).f1), .int .i64 ((rd_T58 l0 x11_1).f2.f0), .int .i64 ((rd_T58 l0 x11_1).f2.f1), .int .i64 0, .string (⟨#[]⟩ : ByteArray), .slice none 0 0]) ?_ 4 _ rfl; (with_reducible repeat (first | refine zqa ?_ _ | refine zqb ?_ | refine zqc ?_ _)); refine blk_put (cs := #[.int .i64 ((rd_T58 l0 x11_1).f0), .bool ((rd_T58 l0 x11_1).f1), .int .i64 ((rd_T58 l0 x11_1).f2.f0), .int .i64 0, .int .i64 0, .string (⟨#[]⟩ : ByteArray), .slice none 0 0]) ?_ 3 _ rfl; (with_reducible repeat (first | refine zqa ?_ _ | refine zqb ?_ | refine zqc ?_ _)); refine blk_put (cs := #[.int .i64 ((rd_T58 l0 x11_1).f0), .bool ((rd_T58 l0 x11_1).f1), .int .i64 0, .int .i64 0, .int .i64 0, .string (⟨#[]⟩ : ByteArray), .slice none 0 0]) ?_ 2 _ rfl; (with_reducible repeat (first | refine zqa ?_ _ | refine zqb ?_ | refine zqc ?_ _)); refine blk_put (cs := #[.int .i64 ((rd_T58 l0 x11_1).f0), .bool false, .int .i64 0, .int .i64 0, .int .i64 0, .string (⟨#[]⟩ : ByteArray), .slice none 0 0]) ?_ 1 _ rfl; (with_reducible repeat (first | refine zqa ?_ _ | refine zqb ?_ | refine zqc ?_ _)); refine blk_put (cs := #[.int .i64 0, .bool false, .int .i64 0, .int .i64 0, .int .i64 0, .string (⟨#[]⟩ : ByteArray), .slice none 0 0]) ?_ 0 _ rfl; (with_reducible repeat (first | refine zqa ?_ _ | refine zqb ?_ | refine zqc ?_ _)); exact BK103.out⟩
        have n1_ : Aside0 (Below w.heap.size w (((((((w16.setCell ⟨gb103, 0, none⟩ (.int .i64 ((rd_T58 l0 x11_1).f0))).setCell ⟨gb103, 1, none⟩ (.bool ((rd_T58 l0 x11_1).f1))).setCell ⟨gb103, 2, none⟩ (.int .i64 ((rd_T58 l0 x11_1).f2.f0))).setCell ⟨gb103, 3, none⟩ (.int .i64 ((rd_T58 l0 x11_1).f2.f1))).setCell ⟨gb103, 4, none⟩ (.int .i64 ((rd_T58 l0 x11_1).f2.f2))).setCell ⟨gb103, 5, none⟩ (.string ((rd_T58 l0 x11_1).f2.f3))).setCell ⟨gb103, 6, none⟩ (.slice A102_6 ((rd_T58 l0 x11_1).f2.f4).length c102_6))) := ⟨by repeat (first | (with_reducible first | exact HB.out | apply zqg | apply zqe | apply zqf | refine zqd ?_ GE103.out) | exact HB.out)⟩
        ((try clear BK103); (try clear HB))
        generalize (((((((w16.setCell ⟨gb103, 0, none⟩ (.int .i64 ((rd_T58 l0 x11_1).f0))).setCell ⟨gb103, 1, none⟩ (.bool ((rd_T58 l0 x11_1).f1))).setCell ⟨gb103, 2, none⟩ (.int .i64 ((rd_T58 l0 x11_1).f2.f0))).setCell ⟨gb103, 3, none⟩ (.int .i64 ((rd_T58 l0 x11_1).f2.f1))).setCell ⟨gb103, 4, none⟩ (.int .i64 ((rd_T58 l0 x11_1).f2.f2))).setCell ⟨gb103, 5, none⟩ (.string ((rd_T58 l0 x11_1).f2.f3))).setCell ⟨gb103, 6, none⟩ (.slice A102_6 ((rd_T58 l0 x11_1).f2.f4).length c102_6)) = w18 at n0_ n1_ ⊢
        (have BK103 := n0_; have HB := n1_; clear n0_ n1_)
        replace BK103 := zqj (zqb BK103.out); replace HB := zqj (zqf HB.out)
        refine start_ (n := 28) (S := fun w' => w'.cell? ⟨gb103, 0, none⟩ = some (.int .i64 ((rd_T58 l0 x11_1).f0)) ∧ w'.cell? ⟨gb103, 1, none⟩ = some (.bool ((rd_T58 l0 x11_1).f1)) ∧ w'.cell? ⟨gb103, 2, none⟩ = some (.int .i64 ((rd_T58 l0 x11_1).f2.f0)) ∧ w'.cell? ⟨gb103, 3, none⟩ = some (.int .i64 ((rd_T58 l0 x11_1).f2.f1)) ∧ w'.cell? ⟨gb103, 4, none⟩ = some (.int .i64 ((rd_T58 l0 x11_1).f2.f2)) ∧ w'.cell? ⟨gb103, 5, none⟩ = some (.string ((rd_T58 l0 x11_1).f2.f3)) ∧ w'.cell? ⟨gb103, 6, none⟩ = some (.slice A102_6 ((rd_T58 l0 x11_1).f2.f4).length c102_6)) (ds := []) #[false, false, false, false, false, false, false, false, false, false, false, false, false, false, false, false, false, false, false, false, false, false, false, false, false, false, false, false] (by kernel_rfl) rfl rfl ⟨(blk_cell BK103.out 0).trans rfl, (blk_cell BK103.out 1).trans rfl, (blk_cell BK103.out 2).trans rfl, (blk_cell BK103.out 3).trans rfl, (blk_cell BK103.out 4).trans rfl, (blk_cell BK103.out 5).trans rfl, (blk_cell BK103.out 6).trans rfl⟩ (fun hHeld => ?_); refine with_tabW api_Ver.tab4 api_Ver.bits4 (fun HT_ HW_ => ?_)
        generalize w18.drew = w19 at BK103 HB hHeld ⊢
        refine zp 0 16 (zb 28 1) HT_.out ?_
        refine zt 1 17 (zb 28 3) HT_.out HW_.out hHeld ?_
        refine one_ (i := 2) (N := some 18) (zb 28 7) rfl rfl (one_of HT_.out (by kernel_rfl)) (by decide) (fun K hK => ?_)
        refine goesT_ Try.func32 (by kernel_rfl) rfl #[.agg #[.int .i64 ((rd_T58 l0 x11_1).f0), .bool ((rd_T58 l0 x11_1).f1), .int .i64 ((rd_T58 l0 x11_1).f2.f0), .int .i64 ((rd_T58 l0 x11_1).f2.f1), .int .i64 ((rd_T58 l0 x11_1).f2.f2), .string ((rd_T58 l0 x11_1).f2.f3), .slice A102_6 ((rd_T58 l0 x11_1).f2.f4).length c102_6]] (by rfl) rfl rfl (by rfl) zra ?_
        with_reducible refine (store_versed.calls ((rd_T58 l0 x11_1).f0) ((rd_T58 l0 x11_1).f1) ((rd_T58 l0 x11_1).f2.f0) ((rd_T58 l0 x11_1).f2.f1) ((rd_T58 l0 x11_1).f2.f2) ((rd_T58 l0 x11_1).f2.f3) _ _ ((rd_T58 l0 x11_1).f2.f4) t104 _ ?side1 ?side2 A7.out).mono ?_
        (case side1 => exact zrc (Kd.C_below HR102_6.out HB.out))
        (case side2 => exact HC102_6.out)
        rintro e w20 ⟨rfl, hb⟩
        refine ⟨_, rfl, ?_⟩
        replace BK103 := zqj (blk_below (g := gb103) (o := .cells #[.int .i64 ((rd_T58 l0 x11_1).f0), .bool ((rd_T58 l0 x11_1).f1), .int .i64 ((rd_T58 l0 x11_1).f2.f0), .int .i64 ((rd_T58 l0 x11_1).f2.f1), .int .i64 ((rd_T58 l0 x11_1).f2.f2), .string ((rd_T58 l0 x11_1).f2.f3), .slice A102_6 ((rd_T58 l0 x11_1).f2.f4).length c102_6] 58 (0, 0)) (zrb BK103.out) hb); replace HB := zqj (below_step (zrd1 HB.out GE103.out) hb)
        (try clear hb); (try clear hb2); (try clear hk); (try clear hi)
        refine hK.out _ _ ⟨(blk_cell BK103.out 0).trans rfl, (blk_cell BK103.out 1).trans rfl, (blk_cell BK103.out 2).trans rfl, (blk_cell BK103.out 3).trans rfl, (blk_cell BK103.out 4).trans rfl, (blk_cell BK103.out 5).trans rfl, (blk_cell BK103.out 6).trans rfl⟩ (fun hHeld => ?_)
        clear hK K
        refine norm_ (a' := ?_) ?_ ?_
        rotate_left
        ·show Act.put _ (some 18) _ = _
         simp only [Act.put, zqk, zql, zqm, i64_w, i32_w]
         rfl
        refine zp 3 19 (zb 28 15) HT_.out ?_
        refine zp 4 20 (zb 28 31) HT_.out ?_
        refine zp 5 21 (zb 28 63) HT_.out ?_
        refine zp 8 24 (zb 28 319) HT_.out ?_
        refine zt 6 22 (zb 28 383) HT_.out HW_.out hHeld ?_
        refine one_ (i := 7) (N := some 23) (zb 28 511) rfl rfl (one_of HT_.out (by kernel_rfl)) (by decide) (fun K hK => ?_)
        refine goesT_ Try.func32 (by kernel_rfl) rfl #[.agg #[.int .i64 ((rd_T58 l0 x11_1).f0), .bool ((rd_T58 l0 x11_1).f1), .int .i64 ((rd_T58 l0 x11_1).f2.f0), .int .i64 ((rd_T58 l0 x11_1).f2.f1), .int .i64 ((rd_T58 l0 x11_1).f2.f2), .string ((rd_T58 l0 x11_1).f2.f3), .slice A102_6 ((rd_T58 l0 x11_1).f2.f4).length c102_6]] (by rfl) rfl rfl (by rfl) zra ?_
        with_reducible refine (store_versed.calls ((rd_T58 l0 x11_1).f0) ((rd_T58 l0 x11_1).f1) ((rd_T58 l0 x11_1).f2.f0) ((rd_T58 l0 x11_1).f2.f1) ((rd_T58 l0 x11_1).f2.f2) ((rd_T58 l0 x11_1).f2.f3) _ _ ((rd_T58 l0 x11_1).f2.f4) t105 _ ?side1 ?side2 A14.out).mono ?_
        (case side1 => exact zrc (Kd.C_below HR102_6.out HB.out))
        (case side2 => exact HC102_6.out)
        rintro e w21 ⟨rfl, hb⟩
        refine ⟨_, rfl, ?_⟩
        replace BK103 := zqj (blk_below (g := gb103) (o := .cells #[.int .i64 ((rd_T58 l0 x11_1).f0), .bool ((rd_T58 l0 x11_1).f1), .int .i64 ((rd_T58 l0 x11_1).f2.f0), .int .i64 ((rd_T58 l0 x11_1).f2.f1), .int .i64 ((rd_T58 l0 x11_1).f2.f2), .string ((rd_T58 l0 x11_1).f2.f3), .slice A102_6 ((rd_T58 l0 x11_1).f2.f4).length c102_6] 58 (0, 0)) (zrb BK103.out) hb); replace HB := zqj (below_step (zrd1 HB.out GE103.out) hb)
        (try clear hb); (try clear hb2); (try clear hk); (try clear hi)
        refine hK.out _ _ ⟨(blk_cell BK103.out 0).trans rfl, (blk_cell BK103.out 1).trans rfl, (blk_cell BK103.out 2).trans rfl, (blk_cell BK103.out 3).trans rfl, (blk_cell BK103.out 4).trans rfl, (blk_cell BK103.out 5).trans rfl, (blk_cell BK103.out 6).trans rfl⟩ (fun hHeld => ?_)
        clear hK K
        refine norm_ (a' := ?_) ?_ ?_
        rotate_left
        ·show Act.put _ (some 23) _ = _
         simp only [Act.put, zqk, zql, zqm, i64_w, i32_w]
         rfl
        refine zp 9 25 (zb 28 1023) HT_.out ?_
        refine zp 10 26 (zb 28 2047) HT_.out ?_
        refine zp 11 27 (zb 28 4095) HT_.out ?_
        refine zq 12 28 (zb 28 8191) HT_.out ?_
        refine zq 13 29 (zb 28 16383) HT_.out ?_
        refine zq 14 30 (zb 28 32767) HT_.out ?_
        refine zq 15 31 (zb 28 65535) HT_.out ?_
        refine zq 16 32 (zb 28 131071) HT_.out ?_
        refine zq 17 33 (zb 28 262143) HT_.out ?_
        refine zq 18 34 (zb 28 524287) HT_.out ?_
        refine zq 19 35 (zb 28 1048575) HT_.out ?_
        refine zq 20 36 (zb 28 2097151) HT_.out ?_
        refine zq 21 37 (zb 28 4194303) HT_.out ?_
        refine zq 22 38 (zb 28 8388607) HT_.out ?_
        refine zq 23 39 (zb 28 16777215) HT_.out ?_
        refine zq 24 40 (zb 28 33554431) HT_.out ?_
        refine zq 25 41 (zb 28 67108863) HT_.out ?_
        refine zq 26 42 (zb 28 134217727) HT_.out ?_
        refine zp 27 43 (zb 28 268435455) HT_.out ?_
        refine done_ (done_of HT_.out (by kernel_rfl)) ?_
        try go_wp2
        go_ret
        exact ⟨zru, by repeat (first | (with_reducible first | exact HB.out | apply zqg | apply zqe | apply zqf | refine zqd ?_ GE103.out) | exact HB.out)⟩
       ·rw [if_neg c15] at H
        have c15b0 : decide (a1 < t105) = false := decide_eq_false c15
        clear c15
        by_cases c22 : x11_1 > 0
        ·rw [if_pos c22] at H
         have c22b0 : decide (0 < x11_1) = true := decide_eq_true c22
         clear c22
         obtain ⟨ji23, hji23⟩ : ∃ j_ : Int, (wrap64 (x11_1 - 1)) = j_ := ⟨_, rfl⟩
         replace H : (if 0 ≤ (ji23) then (if (ji23) < (l0.length : Int) then ((store_versed.f ((rd_T58 l0 (ji23)).f0) ((rd_T58 l0 (ji23)).f1) ((rd_T58 l0 (ji23)).f2.f0) ((rd_T58 l0 (ji23)).f2.f1) ((rd_T58 l0 (ji23)).f2.f2) ((rd_T58 l0 (ji23)).f2.f3) ((rd_T58 l0 (ji23)).f2.f4)).bind fun t107 => ((store_versed.f ((rd_T58 l0 x11_1).f0) ((rd_T58 l0 x11_1).f1) ((rd_T58 l0 x11_1).f2.f0) ((rd_T58 l0 x11_1).f2.f1) ((rd_T58 l0 x11_1).f2.f2) ((rd_T58 l0 x11_1).f2.f3) ((rd_T58 l0 x11_1).f2.f4)).bind fun t108 => (if t107 ≥ t108 then (some false) else (api_Ver.l0 k1 l0 a1 l0 (l0.length : Int) (wrap64 (x11_1 + 1)))))) else (none)) else (none)) = some r := by first | (rw [hji23] at H; exact H) | (simp only [hji23] at H ⊢; exact H)
         (try rw [hji23] at A7)
         (try rw [hji23] at A14)
         have hji23w : (IntKind.i64.wrap (x11_1 - 1)) = ji23 := (i64_w _).trans hji23
         by_cases c24 : 0 ≤ (ji23)
         ·rw [if_pos c24] at H
          have c24b0 : decide (0 ≤ (ji23)) = true := decide_eq_true c24
          clear c24
          by_cases c25 : (ji23) < (l0.length : Int)
          ·rw [if_pos c25] at H
           have c25b0 : decide ((ji23) < (l0.length : Int)) = true := decide_eq_true c25
           clear c25
           replace H := zqn H
           obtain ⟨t107, A260, H⟩ := H
           replace H : ((store_versed.f ((rd_T58 l0 x11_1).f0) ((rd_T58 l0 x11_1).f1) ((rd_T58 l0 x11_1).f2.f0) ((rd_T58 l0 x11_1).f2.f1) ((rd_T58 l0 x11_1).f2.f2) ((rd_T58 l0 x11_1).f2.f3) ((rd_T58 l0 x11_1).f2.f4)).bind fun t108 => (if t107 ≥ t108 then (some false) else (api_Ver.l0 k1 l0 a1 l0 (l0.length : Int) (wrap64 (x11_1 + 1))))) = some r := H
           have A26 := zqj A260
           clear A260
           replace H := zqn H
           obtain ⟨t108, A270, H⟩ := H
           replace H : (if t107 ≥ t108 then (some false) else (api_Ver.l0 k1 l0 a1 l0 (l0.length : Int) (wrap64 (x11_1 + 1)))) = some r := H
           have A27 := zqj A270
           clear A270
           by_cases c28 : t107 ≥ t108
           ·rw [if_pos c28] at H
            have c28b0 : decide (t108 ≤ t107) = true := decide_eq_true c28
            clear c28
            obtain rfl := Option.some.inj H
            have p102 : 0 ≤ (x11_1 : Int) := zqh zrs
            have q102 : x11_1 < (l0.length : Int) := zqh zrs
            obtain ⟨ad102, A102_6, c102_6, e102, hx102_0, hx102_1, hx102_2, hx102_3, hx102_4, hx102_5, hx102_6, hl102_6, hi102_6⟩ := at_T58 HR0.out x11_1 p102 q102
            cases e102
            replace hx102_0 := zx HB.out hx102_0
            replace hx102_1 := zx HB.out hx102_1
            replace hx102_2 := zx HB.out hx102_2
            replace hx102_3 := zx HB.out hx102_3
            replace hx102_4 := zx HB.out hx102_4
            replace hx102_5 := zx HB.out hx102_5
            replace hx102_6 := zx HB.out hx102_6
            have HR102_6 := zqj hi102_6
            have HC102_6 := zqj hl102_6
            clear hi102_6 hl102_6
            replace p102 := eq_true p102
            replace q102 := eq_true q102
            try go_wp2_with (first | ((with_reducible refine gate_dst (N := 8) rfl ?_); refine box_event ?hg (N := 8) ?hd (cs := #[.int .i64 0, .bool false, .int .i64 0, .int .i64 0, .int .i64 0, .string (⟨#[]⟩ : ByteArray), .slice none 0 0]) (t := 58) ?hr ?_; (case hd => rfl); (case hg => rfl); (case hr => exact zrr); intro gb103 hg w29 hbox hb; have n0_ := zqj (below_step (zrd0 HB.out) hb); have n1_ := zqj (hbox); have n2_ : Aside0 (w.heap.size ≤ gb103) := ⟨by rw [hg]; exact below_size (zrd0 HB.out)⟩; have n3_ := n2_; clear HB; have HB := n0_; have BK103 := n1_; have GW103 := n2_; have GE103 := n3_; clear n0_ n1_ n2_ n3_; clear hb hbox hg; obtain ⟨hcz30_0, hcz30_1, hcz30_2, hcz30_3, hcz30_4, hcz30_5, hcz30_6⟩ := zc7 BK103.out; obtain ⟨hfz30_0, hfz30_1, hfz30_2, hfz30_3, hfz30_4, hfz30_5, hfz30_6⟩ := zf7 BK103.out))
            have n0_ : Aside0 ((((((((w29.setCell ⟨gb103, 0, none⟩ (.int .i64 ((rd_T58 l0 x11_1).f0))).setCell ⟨gb103, 1, none⟩ (.bool ((rd_T58 l0 x11_1).f1))).setCell ⟨gb103, 2, none⟩ (.int .i64 ((rd_T58 l0 x11_1).f2.f0))).setCell ⟨gb103, 3, none⟩ (.int .i64 ((rd_T58 l0 x11_1).f2.f1))).setCell ⟨gb103, 4, none⟩ (.int .i64 ((rd_T58 l0 x11_1).f2.f2))).setCell ⟨gb103, 5, none⟩ (.string ((rd_T58 l0 x11_1).f2.f3))).setCell ⟨gb103, 6, none⟩ (.slice A102_6 ((rd_T58 l0 x11_1).f2.f4).length c102_6)).heap[gb103]? = some (.cells #[.int .i64 ((rd_T58 l0 x11_1).f0), .bool ((rd_T58 l0 x11_1).f1), .int .i64 ((rd_T58 l0 x11_1).f2.f0), .int .i64 ((rd_T58 l0 x11_1).f2.f1), .int .i64 ((rd_T58 l0 x11_1).f2.f2), .string ((rd_T58 l0 x11_1).f2.f3), .slice A102_6 ((rd_T58 l0 x11_1).f2.f4).length c102_6] 58 (0, 0))) := ⟨by (with_reducible repeat (first | refine zqa ?_ _ | refine zqb ?_ | refine zqc ?_ _)); refine blk_put (cs := #[.int .i64 ((rd_T58 l0 x11_1).f0), .bool ((rd_T58 l0 x11_1).f1), .int .i64 ((rd_T58 l0 x11_1).f2.f0), .int .i64 ((rd_T58 l0 x11_1).f2.f1), .int .i64 ((rd_T58 l0 x11_1).f2.f2), .string ((rd_T58 l0 x11_1).f2.f3), .slice none 0 0]) ?_ 6 _ rfl; (with_reducible repeat (first | refine zqa ?_ _ | refine zqb ?_ | refine zqc ?_ _)); refine blk_put (cs := #[.int .i64 ((rd_T58 l0 x11_1).f0), .bool ((rd_T58 l0 x11_1).f1), .int .i64 ((rd_T58 l0 x11_1).f2.f0), .int .i64 ((rd_T58 l0 x11_1).f2.f1), .int .i64 ((rd_T58 l0 x11_1).f2.f2), .string (⟨#[]⟩ : ByteArray), .slice none 0 0]) ?_ 5 _ rfl; (with_reducible repeat (first | refine zqa ?_ _ | refine zqb ?_ | refine zqc ?_ _)); refine blk_put (cs := #[.int .i64 ((rd_T58 l0 x11_1).f0), .bool ((rd_T58 l0 x11_1).f1), .int .i64 ((rd_T58 l0 x11_1).f2.f0), .int .i64 ((rd_T58 l0 x11_1).f2.f1), .int .i64 0, .string (⟨#[]⟩ : ByteArray), .slice none 0 0]) ?_ 4 _ rfl; (with_reducible repeat (first | refine zqa ?_ _ | refine zqb ?_ | refine zqc ?_ _)); refine blk_put (cs := #[.int .i64 ((rd_T58 l0 x11_1).f0), .bool ((rd_T58 l0 x11_1).f1), .int .i64 ((rd_T58 l0 x11_1).f2.f0), .int .i64 0, .int .i64 0, .string (⟨#[]⟩ : ByteArray), .slice none 0 0]) ?_ 3 _ rfl; (with_reducible repeat (first | refine zqa ?_ _ | refine zqb ?_ | refine zqc ?_ _)); refine blk_put (cs := #[.int .i64 ((rd_T58 l0 x11_1).f0), .bool ((rd_T58 l0 x11_1).f1), .int .i64 0, .int .i64 0, .int .i64 0, .string (⟨#[]⟩ : ByteArray), .slice none 0 0]) ?_ 2 _ rfl; (with_reducible repeat (first | refine zqa ?_ _ | refine zqb ?_ | refine zqc ?_ _)); refine blk_put (cs := #[.int .i64 ((rd_T58 l0 x11_1).f0), .bool false, .int .i64 0, .int .i64 0, .int .i64 0, .string (⟨#[]⟩ : ByteArray), .slice none 0 0]) ?_ 1 _ rfl; (with_reducible repeat (first | refine zqa ?_ _ | refine zqb ?_ | refine zqc ?_ _)); refine blk_put (cs := #[.int .i64 0, .bool false, .int .i64 0, .int .i64 0, .int .i64 0, .string (⟨#[]⟩ : ByteArray), .slice none 0 0]) ?_ 0 _ rfl; (with_reducible repeat (first | refine zqa ?_ _ | refine zqb ?_ | refine zqc ?_ _)); exact BK103.out⟩
            have n1_ : Aside0 (Below w.heap.size w (((((((w29.setCell ⟨gb103, 0, none⟩ (.int .i64 ((rd_T58 l0 x11_1).f0))).setCell ⟨gb103, 1, none⟩ (.bool ((rd_T58 l0 x11_1).f1))).setCell ⟨gb103, 2, none⟩ (.int .i64 ((rd_T58 l0 x11_1).f2.f0))).setCell ⟨gb103, 3, none⟩ (.int .i64 ((rd_T58 l0 x11_1).f2.f1))).setCell ⟨gb103, 4, none⟩ (.int .i64 ((rd_T58 l0 x11_1).f2.f2))).setCell ⟨gb103, 5, none⟩ (.string ((rd_T58 l0 x11_1).f2.f3))).setCell ⟨gb103, 6, none⟩ (.slice A102_6 ((rd_T58 l0 x11_1).f2.f4).length c102_6))) := ⟨by repeat (first | (with_reducible first | exact HB.out | apply zqg | apply zqe | apply zqf | refine zqd ?_ GE103.out) | exact HB.out)⟩
            ((try clear BK103); (try clear HB))
            generalize (((((((w29.setCell ⟨gb103, 0, none⟩ (.int .i64 ((rd_T58 l0 x11_1).f0))).setCell ⟨gb103, 1, none⟩ (.bool ((rd_T58 l0 x11_1).f1))).setCell ⟨gb103, 2, none⟩ (.int .i64 ((rd_T58 l0 x11_1).f2.f0))).setCell ⟨gb103, 3, none⟩ (.int .i64 ((rd_T58 l0 x11_1).f2.f1))).setCell ⟨gb103, 4, none⟩ (.int .i64 ((rd_T58 l0 x11_1).f2.f2))).setCell ⟨gb103, 5, none⟩ (.string ((rd_T58 l0 x11_1).f2.f3))).setCell ⟨gb103, 6, none⟩ (.slice A102_6 ((rd_T58 l0 x11_1).f2.f4).length c102_6)) = w31 at n0_ n1_ ⊢
            (have BK103 := n0_; have HB := n1_; clear n0_ n1_)
            replace BK103 := zqj (zqb BK103.out); replace HB := zqj (zqf HB.out)
            have p106 : 0 ≤ ((ji23) : Int) := zqh zrs
            have q106 : (ji23) < (l0.length : Int) := zqh zrs
            obtain ⟨ad106, A106_6, c106_6, e106, hx106_0, hx106_1, hx106_2, hx106_3, hx106_4, hx106_5, hx106_6, hl106_6, hi106_6⟩ := at_T58 HR0.out (ji23) p106 q106
            have hw106_6 := hx106_6
            have hw106_5 := hx106_5
            have hw106_4 := hx106_4
            have hw106_3 := hx106_3
            have hw106_2 := hx106_2
            have hw106_1 := hx106_1
            have hw106_0 := hx106_0
            obtain rfl : ad102 = ad106 := (by injection e106)
            replace hx106_0 := zx HB.out hx106_0
            replace hx106_1 := zx HB.out hx106_1
            replace hx106_2 := zx HB.out hx106_2
            replace hx106_3 := zx HB.out hx106_3
            replace hx106_4 := zx HB.out hx106_4
            replace hx106_5 := zx HB.out hx106_5
            replace hx106_6 := zx HB.out hx106_6
            have HR106_6 := zqj hi106_6
            have HC106_6 := zqj hl106_6
            clear hi106_6 hl106_6
            replace p106 := eq_true p106
            replace q106 := eq_true q106
            refine start_ (n := 28) (S := fun w' => w'.cell? ⟨gb103, 0, none⟩ = some (.int .i64 ((rd_T58 l0 x11_1).f0)) ∧ w'.cell? ⟨gb103, 1, none⟩ = some (.bool ((rd_T58 l0 x11_1).f1)) ∧ w'.cell? ⟨gb103, 2, none⟩ = some (.int .i64 ((rd_T58 l0 x11_1).f2.f0)) ∧ w'.cell? ⟨gb103, 3, none⟩ = some (.int .i64 ((rd_T58 l0 x11_1).f2.f1)) ∧ w'.cell? ⟨gb103, 4, none⟩ = some (.int .i64 ((rd_T58 l0 x11_1).f2.f2)) ∧ w'.cell? ⟨gb103, 5, none⟩ = some (.string ((rd_T58 l0 x11_1).f2.f3)) ∧ w'.cell? ⟨gb103, 6, none⟩ = some (.slice A102_6 ((rd_T58 l0 x11_1).f2.f4).length c102_6) ∧ w'.cell? (ad102.add (((ji23)).toNat * 7)) = some (.int .i64 ((rd_T58 l0 (ji23)).f0)) ∧ w'.cell? ⟨(ad102.add (((ji23)).toNat * 7)).block, (ad102.add (((ji23)).toNat * 7)).off + 1, none⟩ = some (.bool ((rd_T58 l0 (ji23)).f1)) ∧ w'.cell? ⟨(ad102.add (((ji23)).toNat * 7)).block, (ad102.add (((ji23)).toNat * 7)).off + 2, none⟩ = some (.int .i64 ((rd_T58 l0 (ji23)).f2.f0)) ∧ w'.cell? ⟨(ad102.add (((ji23)).toNat * 7)).block, (ad102.add (((ji23)).toNat * 7)).off + 3, none⟩ = some (.int .i64 ((rd_T58 l0 (ji23)).f2.f1)) ∧ w'.cell? ⟨(ad102.add (((ji23)).toNat * 7)).block, (ad102.add (((ji23)).toNat * 7)).off + 4, none⟩ = some (.int .i64 ((rd_T58 l0 (ji23)).f2.f2)) ∧ w'.cell? ⟨(ad102.add (((ji23)).toNat * 7)).block, (ad102.add (((ji23)).toNat * 7)).off + 5, none⟩ = some (.string ((rd_T58 l0 (ji23)).f2.f3)) ∧ w'.cell? ⟨(ad102.add (((ji23)).toNat * 7)).block, (ad102.add (((ji23)).toNat * 7)).off + 6, none⟩ = some (.slice A106_6 ((rd_T58 l0 (ji23)).f2.f4).length c106_6)) (ds := []) #[false, false, false, false, false, false, false, false, false, false, false, false, false, false, false, false, false, false, false, false, false, false, false, false, false, false, false, false] (by kernel_rfl) rfl rfl ⟨(blk_cell BK103.out 0).trans rfl, (blk_cell BK103.out 1).trans rfl, (blk_cell BK103.out 2).trans rfl, (blk_cell BK103.out 3).trans rfl, (blk_cell BK103.out 4).trans rfl, (blk_cell BK103.out 5).trans rfl, (blk_cell BK103.out 6).trans rfl, ((HB.out.cell (World.block_lt_of_cell? w _ hw106_0)).trans hw106_0), ((HB.out.cell (World.block_lt_of_cell? w _ hw106_1)).trans hw106_1), ((HB.out.cell (World.block_lt_of_cell? w _ hw106_2)).trans hw106_2), ((HB.out.cell (World.block_lt_of_cell? w _ hw106_3)).trans hw106_3), ((HB.out.cell (World.block_lt_of_cell? w _ hw106_4)).trans hw106_4), ((HB.out.cell (World.block_lt_of_cell? w _ hw106_5)).trans hw106_5), ((HB.out.cell (World.block_lt_of_cell? w _ hw106_6)).trans hw106_6)⟩ (fun hHeld => ?_); refine with_tabW api_Ver.tab4 api_Ver.bits4 (fun HT_ HW_ => ?_)
            generalize w31.drew = w32 at BK103 HB HR106_6 hx106_0 hx106_1 hx106_2 hx106_3 hx106_4 hx106_5 hx106_6 hHeld ⊢
            refine zp 0 16 (zb 28 1) HT_.out ?_
            refine zt 1 17 (zb 28 3) HT_.out HW_.out hHeld ?_
            refine one_ (i := 2) (N := some 18) (zb 28 7) rfl rfl (one_of HT_.out (by kernel_rfl)) (by decide) (fun K hK => ?_)
            refine goesT_ Try.func32 (by kernel_rfl) rfl #[.agg #[.int .i64 ((rd_T58 l0 x11_1).f0), .bool ((rd_T58 l0 x11_1).f1), .int .i64 ((rd_T58 l0 x11_1).f2.f0), .int .i64 ((rd_T58 l0 x11_1).f2.f1), .int .i64 ((rd_T58 l0 x11_1).f2.f2), .string ((rd_T58 l0 x11_1).f2.f3), .slice A102_6 ((rd_T58 l0 x11_1).f2.f4).length c102_6]] (by rfl) rfl rfl (by rfl) zra ?_
            with_reducible refine (store_versed.calls ((rd_T58 l0 x11_1).f0) ((rd_T58 l0 x11_1).f1) ((rd_T58 l0 x11_1).f2.f0) ((rd_T58 l0 x11_1).f2.f1) ((rd_T58 l0 x11_1).f2.f2) ((rd_T58 l0 x11_1).f2.f3) _ _ ((rd_T58 l0 x11_1).f2.f4) t104 _ ?side1 ?side2 A7.out).mono ?_
            (case side1 => exact zrc (Kd.C_below HR102_6.out HB.out))
            (case side2 => exact HC102_6.out)
            rintro e w33 ⟨rfl, hb⟩
            refine ⟨_, rfl, ?_⟩
            replace BK103 := zqj (blk_below (g := gb103) (o := .cells #[.int .i64 ((rd_T58 l0 x11_1).f0), .bool ((rd_T58 l0 x11_1).f1), .int .i64 ((rd_T58 l0 x11_1).f2.f0), .int .i64 ((rd_T58 l0 x11_1).f2.f1), .int .i64 ((rd_T58 l0 x11_1).f2.f2), .string ((rd_T58 l0 x11_1).f2.f3), .slice A102_6 ((rd_T58 l0 x11_1).f2.f4).length c102_6] 58 (0, 0)) (zrb BK103.out) hb); replace HB := zqj (below_step (zrd1 HB.out GE103.out) hb)
            (try clear hb); (try clear hb2); (try clear hk); (try clear hi)
            refine hK.out _ _ ⟨(blk_cell BK103.out 0).trans rfl, (blk_cell BK103.out 1).trans rfl, (blk_cell BK103.out 2).trans rfl, (blk_cell BK103.out 3).trans rfl, (blk_cell BK103.out 4).trans rfl, (blk_cell BK103.out 5).trans rfl, (blk_cell BK103.out 6).trans rfl, ((HB.out.cell (World.block_lt_of_cell? w _ hw106_0)).trans hw106_0), ((HB.out.cell (World.block_lt_of_cell? w _ hw106_1)).trans hw106_1), ((HB.out.cell (World.block_lt_of_cell? w _ hw106_2)).trans hw106_2), ((HB.out.cell (World.block_lt_of_cell? w _ hw106_3)).trans hw106_3), ((HB.out.cell (World.block_lt_of_cell? w _ hw106_4)).trans hw106_4), ((HB.out.cell (World.block_lt_of_cell? w _ hw106_5)).trans hw106_5), ((HB.out.cell (World.block_lt_of_cell? w _ hw106_6)).trans hw106_6)⟩ (fun hHeld => ?_)
            clear hK K
            refine norm_ (a' := ?_) ?_ ?_
            rotate_left
            ·show Act.put _ (some 18) _ = _
             simp only [Act.put, zqk, zql, zqm, i64_w, i32_w]
             rfl
            refine zp 3 19 (zb 28 15) HT_.out ?_
            refine zp 4 20 (zb 28 31) HT_.out ?_
            refine zp 5 21 (zb 28 63) HT_.out ?_
            refine zp 8 24 (zb 28 319) HT_.out ?_
            refine zt 6 22 (zb 28 383) HT_.out HW_.out hHeld ?_
            refine one_ (i := 7) (N := some 23) (zb 28 511) rfl rfl (one_of HT_.out (by kernel_rfl)) (by decide) (fun K hK => ?_)
            refine goesT_ Try.func32 (by kernel_rfl) rfl #[.agg #[.int .i64 ((rd_T58 l0 x11_1).f0), .bool ((rd_T58 l0 x11_1).f1), .int .i64 ((rd_T58 l0 x11_1).f2.f0), .int .i64 ((rd_T58 l0 x11_1).f2.f1), .int .i64 ((rd_T58 l0 x11_1).f2.f2), .string ((rd_T58 l0 x11_1).f2.f3), .slice A102_6 ((rd_T58 l0 x11_1).f2.f4).length c102_6]] (by rfl) rfl rfl (by rfl) zra ?_
            with_reducible refine (store_versed.calls ((rd_T58 l0 x11_1).f0) ((rd_T58 l0 x11_1).f1) ((rd_T58 l0 x11_1).f2.f0) ((rd_T58 l0 x11_1).f2.f1) ((rd_T58 l0 x11_1).f2.f2) ((rd_T58 l0 x11_1).f2.f3) _ _ ((rd_T58 l0 x11_1).f2.f4) t105 _ ?side1 ?side2 A14.out).mono ?_
            (case side1 => exact zrc (Kd.C_below HR102_6.out HB.out))
            (case side2 => exact HC102_6.out)
            rintro e w34 ⟨rfl, hb⟩
            refine ⟨_, rfl, ?_⟩
            replace BK103 := zqj (blk_below (g := gb103) (o := .cells #[.int .i64 ((rd_T58 l0 x11_1).f0), .bool ((rd_T58 l0 x11_1).f1), .int .i64 ((rd_T58 l0 x11_1).f2.f0), .int .i64 ((rd_T58 l0 x11_1).f2.f1), .int .i64 ((rd_T58 l0 x11_1).f2.f2), .string ((rd_T58 l0 x11_1).f2.f3), .slice A102_6 ((rd_T58 l0 x11_1).f2.f4).length c102_6] 58 (0, 0)) (zrb BK103.out) hb); replace HB := zqj (below_step (zrd1 HB.out GE103.out) hb)
            (try clear hb); (try clear hb2); (try clear hk); (try clear hi)
            refine hK.out _ _ ⟨(blk_cell BK103.out 0).trans rfl, (blk_cell BK103.out 1).trans rfl, (blk_cell BK103.out 2).trans rfl, (blk_cell BK103.out 3).trans rfl, (blk_cell BK103.out 4).trans rfl, (blk_cell BK103.out 5).trans rfl, (blk_cell BK103.out 6).trans rfl, ((HB.out.cell (World.block_lt_of_cell? w _ hw106_0)).trans hw106_0), ((HB.out.cell (World.block_lt_of_cell? w _ hw106_1)).trans hw106_1), ((HB.out.cell (World.block_lt_of_cell? w _ hw106_2)).trans hw106_2), ((HB.out.cell (World.block_lt_of_cell? w _ hw106_3)).trans hw106_3), ((HB.out.cell (World.block_lt_of_cell? w _ hw106_4)).trans hw106_4), ((HB.out.cell (World.block_lt_of_cell? w _ hw106_5)).trans hw106_5), ((HB.out.cell (World.block_lt_of_cell? w _ hw106_6)).trans hw106_6)⟩ (fun hHeld => ?_)
            clear hK K
            refine norm_ (a' := ?_) ?_ ?_
            rotate_left
            ·show Act.put _ (some 23) _ = _
             simp only [Act.put, zqk, zql, zqm, i64_w, i32_w]
             rfl
            refine zp 9 25 (zb 28 1023) HT_.out ?_
            refine zp 10 26 (zb 28 2047) HT_.out ?_
            refine zp 11 27 (zb 28 4095) HT_.out ?_
            refine zp 12 28 (zb 28 8191) HT_.out ?_
            refine zp 13 29 (zb 28 16383) HT_.out ?_
            refine zp 14 30 (zb 28 32767) HT_.out ?_
            refine zp 15 31 (zb 28 65535) HT_.out ?_
            refine zp 16 32 (zb 28 131071) HT_.out ?_
            refine zp 17 33 (zb 28 262143) HT_.out ?_
            refine zp 18 34 (zb 28 524287) HT_.out ?_
            refine zp 19 35 (zb 28 1048575) HT_.out ?_
            refine zp 22 38 (zb 28 5242879) HT_.out ?_
            refine zt 20 36 (zb 28 6291455) HT_.out HW_.out hHeld ?_
            refine zt 23 39 (zb 28 14680063) HT_.out HW_.out hHeld ?_
            refine one_ (i := 21) (N := some 37) (zb 28 16777215) rfl rfl (one_of HT_.out (by kernel_rfl)) (by decide) (fun K hK => ?_)
            refine goesT_ Try.func32 (by kernel_rfl) rfl #[.agg #[.int .i64 ((rd_T58 l0 (ji23)).f0), .bool ((rd_T58 l0 (ji23)).f1), .int .i64 ((rd_T58 l0 (ji23)).f2.f0), .int .i64 ((rd_T58 l0 (ji23)).f2.f1), .int .i64 ((rd_T58 l0 (ji23)).f2.f2), .string ((rd_T58 l0 (ji23)).f2.f3), .slice A106_6 ((rd_T58 l0 (ji23)).f2.f4).length c106_6]] (by rfl) rfl rfl (by rfl) (by (try simp only [List.map_toArray, List.map_cons, List.map_nil]); first | done | (simp only [hji23]; rfl) | rfl | (simp only [List.length_drop, List.length_take]; rfl)) ?_
            with_reducible refine (store_versed.calls ((rd_T58 l0 (ji23)).f0) ((rd_T58 l0 (ji23)).f1) ((rd_T58 l0 (ji23)).f2.f0) ((rd_T58 l0 (ji23)).f2.f1) ((rd_T58 l0 (ji23)).f2.f2) ((rd_T58 l0 (ji23)).f2.f3) _ _ ((rd_T58 l0 (ji23)).f2.f4) t107 _ ?side1 ?side2 A26.out).mono ?_
            (case side1 => exact zrc (Kd.C_below HR106_6.out HB.out))
            (case side2 => exact HC106_6.out)
            rintro e w35 ⟨rfl, hb⟩
            refine ⟨_, rfl, ?_⟩
            replace BK103 := zqj (blk_below (g := gb103) (o := .cells #[.int .i64 ((rd_T58 l0 x11_1).f0), .bool ((rd_T58 l0 x11_1).f1), .int .i64 ((rd_T58 l0 x11_1).f2.f0), .int .i64 ((rd_T58 l0 x11_1).f2.f1), .int .i64 ((rd_T58 l0 x11_1).f2.f2), .string ((rd_T58 l0 x11_1).f2.f3), .slice A102_6 ((rd_T58 l0 x11_1).f2.f4).length c102_6] 58 (0, 0)) (zrb BK103.out) hb); replace HB := zqj (below_step (zrd1 HB.out GE103.out) hb)
            (try clear hb); (try clear hb2); (try clear hk); (try clear hi)
            refine hK.out _ _ ⟨(blk_cell BK103.out 0).trans rfl, (blk_cell BK103.out 1).trans rfl, (blk_cell BK103.out 2).trans rfl, (blk_cell BK103.out 3).trans rfl, (blk_cell BK103.out 4).trans rfl, (blk_cell BK103.out 5).trans rfl, (blk_cell BK103.out 6).trans rfl, ((HB.out.cell (World.block_lt_of_cell? w _ hw106_0)).trans hw106_0), ((HB.out.cell (World.block_lt_of_cell? w _ hw106_1)).trans hw106_1), ((HB.out.cell (World.block_lt_of_cell? w _ hw106_2)).trans hw106_2), ((HB.out.cell (World.block_lt_of_cell? w _ hw106_3)).trans hw106_3), ((HB.out.cell (World.block_lt_of_cell? w _ hw106_4)).trans hw106_4), ((HB.out.cell (World.block_lt_of_cell? w _ hw106_5)).trans hw106_5), ((HB.out.cell (World.block_lt_of_cell? w _ hw106_6)).trans hw106_6)⟩ (fun hHeld => ?_)
            clear hK K
            refine norm_ (a' := ?_) ?_ ?_
            rotate_left
            ·show Act.put _ (some 37) _ = _
             simp only [Act.put, zqk, zql, zqm, i64_w, i32_w]
             rfl
            refine one_ (i := 24) (N := some 40) (zb 28 33554431) rfl rfl (one_of HT_.out (by kernel_rfl)) (by decide) (fun K hK => ?_)
            refine goesT_ Try.func32 (by kernel_rfl) rfl #[.agg #[.int .i64 ((rd_T58 l0 x11_1).f0), .bool ((rd_T58 l0 x11_1).f1), .int .i64 ((rd_T58 l0 x11_1).f2.f0), .int .i64 ((rd_T58 l0 x11_1).f2.f1), .int .i64 ((rd_T58 l0 x11_1).f2.f2), .string ((rd_T58 l0 x11_1).f2.f3), .slice A102_6 ((rd_T58 l0 x11_1).f2.f4).length c102_6]] (by rfl) rfl rfl (by rfl) zra ?_
            with_reducible refine (store_versed.calls ((rd_T58 l0 x11_1).f0) ((rd_T58 l0 x11_1).f1) ((rd_T58 l0 x11_1).f2.f0) ((rd_T58 l0 x11_1).f2.f1) ((rd_T58 l0 x11_1).f2.f2) ((rd_T58 l0 x11_1).f2.f3) _ _ ((rd_T58 l0 x11_1).f2.f4) t108 _ ?side1 ?side2 A27.out).mono ?_
            (case side1 => exact zrc (Kd.C_below HR102_6.out HB.out))
            (case side2 => exact HC102_6.out)
            rintro e w36 ⟨rfl, hb⟩
            refine ⟨_, rfl, ?_⟩
            replace BK103 := zqj (blk_below (g := gb103) (o := .cells #[.int .i64 ((rd_T58 l0 x11_1).f0), .bool ((rd_T58 l0 x11_1).f1), .int .i64 ((rd_T58 l0 x11_1).f2.f0), .int .i64 ((rd_T58 l0 x11_1).f2.f1), .int .i64 ((rd_T58 l0 x11_1).f2.f2), .string ((rd_T58 l0 x11_1).f2.f3), .slice A102_6 ((rd_T58 l0 x11_1).f2.f4).length c102_6] 58 (0, 0)) (zrb BK103.out) hb); replace HB := zqj (below_step (zrd1 HB.out GE103.out) hb)
            (try clear hb); (try clear hb2); (try clear hk); (try clear hi)
            refine hK.out _ _ ⟨(blk_cell BK103.out 0).trans rfl, (blk_cell BK103.out 1).trans rfl, (blk_cell BK103.out 2).trans rfl, (blk_cell BK103.out 3).trans rfl, (blk_cell BK103.out 4).trans rfl, (blk_cell BK103.out 5).trans rfl, (blk_cell BK103.out 6).trans rfl, ((HB.out.cell (World.block_lt_of_cell? w _ hw106_0)).trans hw106_0), ((HB.out.cell (World.block_lt_of_cell? w _ hw106_1)).trans hw106_1), ((HB.out.cell (World.block_lt_of_cell? w _ hw106_2)).trans hw106_2), ((HB.out.cell (World.block_lt_of_cell? w _ hw106_3)).trans hw106_3), ((HB.out.cell (World.block_lt_of_cell? w _ hw106_4)).trans hw106_4), ((HB.out.cell (World.block_lt_of_cell? w _ hw106_5)).trans hw106_5), ((HB.out.cell (World.block_lt_of_cell? w _ hw106_6)).trans hw106_6)⟩ (fun hHeld => ?_)
            clear hK K
            refine norm_ (a' := ?_) ?_ ?_
            rotate_left
            ·show Act.put _ (some 40) _ = _
             simp only [Act.put, zqk, zql, zqm, i64_w, i32_w]
             rfl
            refine zp 25 41 (zb 28 67108863) HT_.out ?_
            refine zp 26 42 (zb 28 134217727) HT_.out ?_
            refine zp 27 43 (zb 28 268435455) HT_.out ?_
            refine done_ (done_of HT_.out (by kernel_rfl)) ?_
            try go_wp2
            go_ret
            exact ⟨by first | rfl | (simp [errW_none, errW_some] <;> rfl) | (simp only [← hji23]; first | rfl | (simp [errW_none, errW_some] <;> rfl)) | (simp [*, errW_none, errW_some] <;> rfl), by repeat (first | (with_reducible first | exact HB.out | apply zqg | apply zqe | apply zqf | refine zqd ?_ GE103.out) | exact HB.out)⟩
           ·rw [if_neg c28] at H
            have c28b0 : decide (t108 ≤ t107) = false := decide_eq_false c28
            clear c28
            have H' := zqj H
            clear H
            have p102 : 0 ≤ (x11_1 : Int) := zqh zrs
            have q102 : x11_1 < (l0.length : Int) := zqh zrs
            obtain ⟨ad102, A102_6, c102_6, e102, hx102_0, hx102_1, hx102_2, hx102_3, hx102_4, hx102_5, hx102_6, hl102_6, hi102_6⟩ := at_T58 HR0.out x11_1 p102 q102
            cases e102
            replace hx102_0 := zx HB.out hx102_0
            replace hx102_1 := zx HB.out hx102_1
            replace hx102_2 := zx HB.out hx102_2
            replace hx102_3 := zx HB.out hx102_3
            replace hx102_4 := zx HB.out hx102_4
            replace hx102_5 := zx HB.out hx102_5
            replace hx102_6 := zx HB.out hx102_6
            have HR102_6 := zqj hi102_6
            have HC102_6 := zqj hl102_6
            clear hi102_6 hl102_6
            replace p102 := eq_true p102
            replace q102 := eq_true q102
            try go_wp2_with (first | ((with_reducible refine gate_dst (N := 8) rfl ?_); refine box_event ?hg (N := 8) ?hd (cs := #[.int .i64 0, .bool false, .int .i64 0, .int .i64 0, .int .i64 0, .string (⟨#[]⟩ : ByteArray), .slice none 0 0]) (t := 58) ?hr ?_; (case hd => rfl); (case hg => rfl); (case hr => exact zrr); intro gb103 hg w37 hbox hb; have n0_ := zqj (below_step (zrd0 HB.out) hb); have n1_ := zqj (hbox); have n2_ : Aside0 (w.heap.size ≤ gb103) := ⟨by rw [hg]; exact below_size (zrd0 HB.out)⟩; have n3_ := n2_; clear HB; have HB := n0_; have BK103 := n1_; have GW103 := n2_; have GE103 := n3_; clear n0_ n1_ n2_ n3_; clear hb hbox hg; obtain ⟨hcz38_0, hcz38_1, hcz38_2, hcz38_3, hcz38_4, hcz38_5, hcz38_6⟩ := zc7 BK103.out; obtain ⟨hfz38_0, hfz38_1, hfz38_2, hfz38_3, hfz38_4, hfz38_5, hfz38_6⟩ := zf7 BK103.out))
            have n0_ : Aside0 ((((((((w37.setCell ⟨gb103, 0, none⟩ (.int .i64 ((rd_T58 l0 x11_1).f0))).setCell ⟨gb103, 1, none⟩ (.bool ((rd_T58 l0 x11_1).f1))).setCell ⟨gb103, 2, none⟩ (.int .i64 ((rd_T58 l0 x11_1).f2.f0))).setCell ⟨gb103, 3, none⟩ (.int .i64 ((rd_T58 l0 x11_1).f2.f1))).setCell ⟨gb103, 4, none⟩ (.int .i64 ((rd_T58 l0 x11_1).f2.f2))).setCell ⟨gb103, 5, none⟩ (.string ((rd_T58 l0 x11_1).f2.f3))).setCell ⟨gb103, 6, none⟩ (.slice A102_6 ((rd_T58 l0 x11_1).f2.f4).length c102_6)).heap[gb103]? = some (.cells #[.int .i64 ((rd_T58 l0 x11_1).f0), .bool ((rd_T58 l0 x11_1).f1), .int .i64 ((rd_T58 l0 x11_1).f2.f0), .int .i64 ((rd_T58 l0 x11_1).f2.f1), .int .i64 ((rd_T58 l0 x11_1).f2.f2), .string ((rd_T58 l0 x11_1).f2.f3), .slice A102_6 ((rd_T58 l0 x11_1).f2.f4).length c102_6] 58 (0, 0))) := ⟨by (with_reducible repeat (first | refine zqa ?_ _ | refine zqb ?_ | refine zqc ?_ _)); refine blk_put (cs := #[.int .i64 ((rd_T58 l0 x11_1).f0), .bool ((rd_T58 l0 x11_1).f1), .int .i64 ((rd_T58 l0 x11_1).f2.f0), .int .i64 ((rd_T58 l0 x11_1).f2.f1), .int .i64 ((rd_T58 l0 x11_1).f2.f2), .string ((rd_T58 l0 x11_1).f2.f3), .slice none 0 0]) ?_ 6 _ rfl; (with_reducible repeat (first | refine zqa ?_ _ | refine zqb ?_ | refine zqc ?_ _)); refine blk_put (cs := #[.int .i64 ((rd_T58 l0 x11_1).f0), .bool ((rd_T58 l0 x11_1).f1), .int .i64 ((rd_T58 l0 x11_1).f2.f0), .int .i64 ((rd_T58 l0 x11_1).f2.f1), .int .i64 ((rd_T58 l0 x11_1).f2.f2), .string (⟨#[]⟩ : ByteArray), .slice none 0 0]) ?_ 5 _ rfl; (with_reducible repeat (first | refine zqa ?_ _ | refine zqb ?_ | refine zqc ?_ _)); refine blk_put (cs := #[.int .i64 ((rd_T58 l0 x11_1).f0), .bool ((rd_T58 l0 x11_1).f1), .int .i64 ((rd_T58 l0 x11_1).f2.f0), .int .i64 ((rd_T58 l0 x11_1).f2.f1), .int .i64 0, .string (⟨#[]⟩ : ByteArray), .slice none 0 0]) ?_ 4 _ rfl; (with_reducible repeat (first | refine zqa ?_ _ | refine zqb ?_ | refine zqc ?_ _)); refine blk_put (cs := #[.int .i64 ((rd_T58 l0 x11_1).f0), .bool ((rd_T58 l0 x11_1).f1), .int .i64 ((rd_T58 l0 x11_1).f2.f0), .int .i64 0, .int .i64 0, .string (⟨#[]⟩ : ByteArray), .slice none 0 0]) ?_ 3 _ rfl; (with_reducible repeat (first | refine zqa ?_ _ | refine zqb ?_ | refine zqc ?_ _)); refine blk_put (cs := #[.int .i64 ((rd_T58 l0 x11_1).f0), .bool ((rd_T58 l0 x11_1).f1), .int .i64 0, .int .i64 0, .int .i64 0, .string (⟨#[]⟩ : ByteArray), .slice none 0 0]) ?_ 2 _ rfl; (with_reducible repeat (first | refine zqa ?_ _ | refine zqb ?_ | refine zqc ?_ _)); refine blk_put (cs := #[.int .i64 ((rd_T58 l0 x11_1).f0), .bool false, .int .i64 0, .int .i64 0, .int .i64 0, .string (⟨#[]⟩ : ByteArray), .slice none 0 0]) ?_ 1 _ rfl; (with_reducible repeat (first | refine zqa ?_ _ | refine zqb ?_ | refine zqc ?_ _)); refine blk_put (cs := #[.int .i64 0, .bool false, .int .i64 0, .int .i64 0, .int .i64 0, .string (⟨#[]⟩ : ByteArray), .slice none 0 0]) ?_ 0 _ rfl; (with_reducible repeat (first | refine zqa ?_ _ | refine zqb ?_ | refine zqc ?_ _)); exact BK103.out⟩
            have n1_ : Aside0 (Below w.heap.size w (((((((w37.setCell ⟨gb103, 0, none⟩ (.int .i64 ((rd_T58 l0 x11_1).f0))).setCell ⟨gb103, 1, none⟩ (.bool ((rd_T58 l0 x11_1).f1))).setCell ⟨gb103, 2, none⟩ (.int .i64 ((rd_T58 l0 x11_1).f2.f0))).setCell ⟨gb103, 3, none⟩ (.int .i64 ((rd_T58 l0 x11_1).f2.f1))).setCell ⟨gb103, 4, none⟩ (.int .i64 ((rd_T58 l0 x11_1).f2.f2))).setCell ⟨gb103, 5, none⟩ (.string ((rd_T58 l0 x11_1).f2.f3))).setCell ⟨gb103, 6, none⟩ (.slice A102_6 ((rd_T58 l0 x11_1).f2.f4).length c102_6))) := ⟨by repeat (first | (with_reducible first | exact HB.out | apply zqg | apply zqe | apply zqf | refine zqd ?_ GE103.out) | exact HB.out)⟩
            ((try clear BK103); (try clear HB))
            generalize (((((((w37.setCell ⟨gb103, 0, none⟩ (.int .i64 ((rd_T58 l0 x11_1).f0))).setCell ⟨gb103, 1, none⟩ (.bool ((rd_T58 l0 x11_1).f1))).setCell ⟨gb103, 2, none⟩ (.int .i64 ((rd_T58 l0 x11_1).f2.f0))).setCell ⟨gb103, 3, none⟩ (.int .i64 ((rd_T58 l0 x11_1).f2.f1))).setCell ⟨gb103, 4, none⟩ (.int .i64 ((rd_T58 l0 x11_1).f2.f2))).setCell ⟨gb103, 5, none⟩ (.string ((rd_T58 l0 x11_1).f2.f3))).setCell ⟨gb103, 6, none⟩ (.slice A102_6 ((rd_T58 l0 x11_1).f2.f4).length c102_6)) = w39 at n0_ n1_ ⊢
            (have BK103 := n0_; have HB := n1_; clear n0_ n1_)
            replace BK103 := zqj (zqb BK103.out); replace HB := zqj (zqf HB.out)
            have p106 : 0 ≤ ((ji23) : Int) := zqh zrs
            have q106 : (ji23) < (l0.length : Int) := zqh zrs
            obtain ⟨ad106, A106_6, c106_6, e106, hx106_0, hx106_1, hx106_2, hx106_3, hx106_4, hx106_5, hx106_6, hl106_6, hi106_6⟩ := at_T58 HR0.out (ji23) p106 q106
            have hw106_6 := hx106_6
            have hw106_5 := hx106_5
            have hw106_4 := hx106_4
            have hw106_3 := hx106_3
            have hw106_2 := hx106_2
            have hw106_1 := hx106_1
            have hw106_0 := hx106_0
            obtain rfl : ad102 = ad106 := (by injection e106)
            replace hx106_0 := zx HB.out hx106_0
            replace hx106_1 := zx HB.out hx106_1
            replace hx106_2 := zx HB.out hx106_2
            replace hx106_3 := zx HB.out hx106_3
            replace hx106_4 := zx HB.out hx106_4
            replace hx106_5 := zx HB.out hx106_5
            replace hx106_6 := zx HB.out hx106_6
            have HR106_6 := zqj hi106_6
            have HC106_6 := zqj hl106_6
            clear hi106_6 hl106_6
            replace p106 := eq_true p106
            replace q106 := eq_true q106
            refine start_ (n := 28) (S := fun w' => w'.cell? ⟨gb103, 0, none⟩ = some (.int .i64 ((rd_T58 l0 x11_1).f0)) ∧ w'.cell? ⟨gb103, 1, none⟩ = some (.bool ((rd_T58 l0 x11_1).f1)) ∧ w'.cell? ⟨gb103, 2, none⟩ = some (.int .i64 ((rd_T58 l0 x11_1).f2.f0)) ∧ w'.cell? ⟨gb103, 3, none⟩ = some (.int .i64 ((rd_T58 l0 x11_1).f2.f1)) ∧ w'.cell? ⟨gb103, 4, none⟩ = some (.int .i64 ((rd_T58 l0 x11_1).f2.f2)) ∧ w'.cell? ⟨gb103, 5, none⟩ = some (.string ((rd_T58 l0 x11_1).f2.f3)) ∧ w'.cell? ⟨gb103, 6, none⟩ = some (.slice A102_6 ((rd_T58 l0 x11_1).f2.f4).length c102_6) ∧ w'.cell? (ad102.add (((ji23)).toNat * 7)) = some (.int .i64 ((rd_T58 l0 (ji23)).f0)) ∧ w'.cell? ⟨(ad102.add (((ji23)).toNat * 7)).block, (ad102.add (((ji23)).toNat * 7)).off + 1, none⟩ = some (.bool ((rd_T58 l0 (ji23)).f1)) ∧ w'.cell? ⟨(ad102.add (((ji23)).toNat * 7)).block, (ad102.add (((ji23)).toNat * 7)).off + 2, none⟩ = some (.int .i64 ((rd_T58 l0 (ji23)).f2.f0)) ∧ w'.cell? ⟨(ad102.add (((ji23)).toNat * 7)).block, (ad102.add (((ji23)).toNat * 7)).off + 3, none⟩ = some (.int .i64 ((rd_T58 l0 (ji23)).f2.f1)) ∧ w'.cell? ⟨(ad102.add (((ji23)).toNat * 7)).block, (ad102.add (((ji23)).toNat * 7)).off + 4, none⟩ = some (.int .i64 ((rd_T58 l0 (ji23)).f2.f2)) ∧ w'.cell? ⟨(ad102.add (((ji23)).toNat * 7)).block, (ad102.add (((ji23)).toNat * 7)).off + 5, none⟩ = some (.string ((rd_T58 l0 (ji23)).f2.f3)) ∧ w'.cell? ⟨(ad102.add (((ji23)).toNat * 7)).block, (ad102.add (((ji23)).toNat * 7)).off + 6, none⟩ = some (.slice A106_6 ((rd_T58 l0 (ji23)).f2.f4).length c106_6)) (ds := []) #[false, false, false, false, false, false, false, false, false, false, false, false, false, false, false, false, false, false, false, false, false, false, false, false, false, false, false, false] (by kernel_rfl) rfl rfl ⟨(blk_cell BK103.out 0).trans rfl, (blk_cell BK103.out 1).trans rfl, (blk_cell BK103.out 2).trans rfl, (blk_cell BK103.out 3).trans rfl, (blk_cell BK103.out 4).trans rfl, (blk_cell BK103.out 5).trans rfl, (blk_cell BK103.out 6).trans rfl, ((HB.out.cell (World.block_lt_of_cell? w _ hw106_0)).trans hw106_0), ((HB.out.cell (World.block_lt_of_cell? w _ hw106_1)).trans hw106_1), ((HB.out.cell (World.block_lt_of_cell? w _ hw106_2)).trans hw106_2), ((HB.out.cell (World.block_lt_of_cell? w _ hw106_3)).trans hw106_3), ((HB.out.cell (World.block_lt_of_cell? w _ hw106_4)).trans hw106_4), ((HB.out.cell (World.block_lt_of_cell? w _ hw106_5)).trans hw106_5), ((HB.out.cell (World.block_lt_of_cell? w _ hw106_6)).trans hw106_6)⟩ (fun hHeld => ?_); refine with_tabW api_Ver.tab4 api_Ver.bits4 (fun HT_ HW_ => ?_)
            generalize w39.drew = w40 at BK103 HB HR106_6 hx106_0 hx106_1 hx106_2 hx106_3 hx106_4 hx106_5 hx106_6 hHeld ⊢
            refine zp 0 16 (zb 28 1) HT_.out ?_
            refine zt 1 17 (zb 28 3) HT_.out HW_.out hHeld ?_
            refine one_ (i := 2) (N := some 18) (zb 28 7) rfl rfl (one_of HT_.out (by kernel_rfl)) (by decide) (fun K hK => ?_)
            refine goesT_ Try.func32 (by kernel_rfl) rfl #[.agg #[.int .i64 ((rd_T58 l0 x11_1).f0), .bool ((rd_T58 l0 x11_1).f1), .int .i64 ((rd_T58 l0 x11_1).f2.f0), .int .i64 ((rd_T58 l0 x11_1).f2.f1), .int .i64 ((rd_T58 l0 x11_1).f2.f2), .string ((rd_T58 l0 x11_1).f2.f3), .slice A102_6 ((rd_T58 l0 x11_1).f2.f4).length c102_6]] (by rfl) rfl rfl (by rfl) zra ?_
            with_reducible refine (store_versed.calls ((rd_T58 l0 x11_1).f0) ((rd_T58 l0 x11_1).f1) ((rd_T58 l0 x11_1).f2.f0) ((rd_T58 l0 x11_1).f2.f1) ((rd_T58 l0 x11_1).f2.f2) ((rd_T58 l0 x11_1).f2.f3) _ _ ((rd_T58 l0 x11_1).f2.f4) t104 _ ?side1 ?side2 A7.out).mono ?_
            (case side1 => exact zrc (Kd.C_below HR102_6.out HB.out))
            (case side2 => exact HC102_6.out)
            rintro e w41 ⟨rfl, hb⟩
            refine ⟨_, rfl, ?_⟩
            replace BK103 := zqj (blk_below (g := gb103) (o := .cells #[.int .i64 ((rd_T58 l0 x11_1).f0), .bool ((rd_T58 l0 x11_1).f1), .int .i64 ((rd_T58 l0 x11_1).f2.f0), .int .i64 ((rd_T58 l0 x11_1).f2.f1), .int .i64 ((rd_T58 l0 x11_1).f2.f2), .string ((rd_T58 l0 x11_1).f2.f3), .slice A102_6 ((rd_T58 l0 x11_1).f2.f4).length c102_6] 58 (0, 0)) (zrb BK103.out) hb); replace HB := zqj (below_step (zrd1 HB.out GE103.out) hb)
            (try clear hb); (try clear hb2); (try clear hk); (try clear hi)
            refine hK.out _ _ ⟨(blk_cell BK103.out 0).trans rfl, (blk_cell BK103.out 1).trans rfl, (blk_cell BK103.out 2).trans rfl, (blk_cell BK103.out 3).trans rfl, (blk_cell BK103.out 4).trans rfl, (blk_cell BK103.out 5).trans rfl, (blk_cell BK103.out 6).trans rfl, ((HB.out.cell (World.block_lt_of_cell? w _ hw106_0)).trans hw106_0), ((HB.out.cell (World.block_lt_of_cell? w _ hw106_1)).trans hw106_1), ((HB.out.cell (World.block_lt_of_cell? w _ hw106_2)).trans hw106_2), ((HB.out.cell (World.block_lt_of_cell? w _ hw106_3)).trans hw106_3), ((HB.out.cell (World.block_lt_of_cell? w _ hw106_4)).trans hw106_4), ((HB.out.cell (World.block_lt_of_cell? w _ hw106_5)).trans hw106_5), ((HB.out.cell (World.block_lt_of_cell? w _ hw106_6)).trans hw106_6)⟩ (fun hHeld => ?_)
            clear hK K
            refine norm_ (a' := ?_) ?_ ?_
            rotate_left
            ·show Act.put _ (some 18) _ = _
             simp only [Act.put, zqk, zql, zqm, i64_w, i32_w]
             rfl
            refine zp 3 19 (zb 28 15) HT_.out ?_
            refine zp 4 20 (zb 28 31) HT_.out ?_
            refine zp 5 21 (zb 28 63) HT_.out ?_
            refine zp 8 24 (zb 28 319) HT_.out ?_
            refine zt 6 22 (zb 28 383) HT_.out HW_.out hHeld ?_
            refine one_ (i := 7) (N := some 23) (zb 28 511) rfl rfl (one_of HT_.out (by kernel_rfl)) (by decide) (fun K hK => ?_)
            refine goesT_ Try.func32 (by kernel_rfl) rfl #[.agg #[.int .i64 ((rd_T58 l0 x11_1).f0), .bool ((rd_T58 l0 x11_1).f1), .int .i64 ((rd_T58 l0 x11_1).f2.f0), .int .i64 ((rd_T58 l0 x11_1).f2.f1), .int .i64 ((rd_T58 l0 x11_1).f2.f2), .string ((rd_T58 l0 x11_1).f2.f3), .slice A102_6 ((rd_T58 l0 x11_1).f2.f4).length c102_6]] (by rfl) rfl rfl (by rfl) zra ?_
            with_reducible refine (store_versed.calls ((rd_T58 l0 x11_1).f0) ((rd_T58 l0 x11_1).f1) ((rd_T58 l0 x11_1).f2.f0) ((rd_T58 l0 x11_1).f2.f1) ((rd_T58 l0 x11_1).f2.f2) ((rd_T58 l0 x11_1).f2.f3) _ _ ((rd_T58 l0 x11_1).f2.f4) t105 _ ?side1 ?side2 A14.out).mono ?_
            (case side1 => exact zrc (Kd.C_below HR102_6.out HB.out))
            (case side2 => exact HC102_6.out)
            rintro e w42 ⟨rfl, hb⟩
            refine ⟨_, rfl, ?_⟩
            replace BK103 := zqj (blk_below (g := gb103) (o := .cells #[.int .i64 ((rd_T58 l0 x11_1).f0), .bool ((rd_T58 l0 x11_1).f1), .int .i64 ((rd_T58 l0 x11_1).f2.f0), .int .i64 ((rd_T58 l0 x11_1).f2.f1), .int .i64 ((rd_T58 l0 x11_1).f2.f2), .string ((rd_T58 l0 x11_1).f2.f3), .slice A102_6 ((rd_T58 l0 x11_1).f2.f4).length c102_6] 58 (0, 0)) (zrb BK103.out) hb); replace HB := zqj (below_step (zrd1 HB.out GE103.out) hb)
            (try clear hb); (try clear hb2); (try clear hk); (try clear hi)
            refine hK.out _ _ ⟨(blk_cell BK103.out 0).trans rfl, (blk_cell BK103.out 1).trans rfl, (blk_cell BK103.out 2).trans rfl, (blk_cell BK103.out 3).trans rfl, (blk_cell BK103.out 4).trans rfl, (blk_cell BK103.out 5).trans rfl, (blk_cell BK103.out 6).trans rfl, ((HB.out.cell (World.block_lt_of_cell? w _ hw106_0)).trans hw106_0), ((HB.out.cell (World.block_lt_of_cell? w _ hw106_1)).trans hw106_1), ((HB.out.cell (World.block_lt_of_cell? w _ hw106_2)).trans hw106_2), ((HB.out.cell (World.block_lt_of_cell? w _ hw106_3)).trans hw106_3), ((HB.out.cell (World.block_lt_of_cell? w _ hw106_4)).trans hw106_4), ((HB.out.cell (World.block_lt_of_cell? w _ hw106_5)).trans hw106_5), ((HB.out.cell (World.block_lt_of_cell? w _ hw106_6)).trans hw106_6)⟩ (fun hHeld => ?_)
            clear hK K
            refine norm_ (a' := ?_) ?_ ?_
            rotate_left
            ·show Act.put _ (some 23) _ = _
             simp only [Act.put, zqk, zql, zqm, i64_w, i32_w]
             rfl
            refine zp 9 25 (zb 28 1023) HT_.out ?_
            refine zp 10 26 (zb 28 2047) HT_.out ?_
            refine zp 11 27 (zb 28 4095) HT_.out ?_
            refine zp 12 28 (zb 28 8191) HT_.out ?_
            refine zp 13 29 (zb 28 16383) HT_.out ?_
            refine zp 14 30 (zb 28 32767) HT_.out ?_
            refine zp 15 31 (zb 28 65535) HT_.out ?_
            refine zp 16 32 (zb 28 131071) HT_.out ?_
            refine zp 17 33 (zb 28 262143) HT_.out ?_
            refine zp 18 34 (zb 28 524287) HT_.out ?_
            refine zp 19 35 (zb 28 1048575) HT_.out ?_
            refine zp 22 38 (zb 28 5242879) HT_.out ?_
            refine zt 20 36 (zb 28 6291455) HT_.out HW_.out hHeld ?_
            refine zt 23 39 (zb 28 14680063) HT_.out HW_.out hHeld ?_
            refine one_ (i := 21) (N := some 37) (zb 28 16777215) rfl rfl (one_of HT_.out (by kernel_rfl)) (by decide) (fun K hK => ?_)
            refine goesT_ Try.func32 (by kernel_rfl) rfl #[.agg #[.int .i64 ((rd_T58 l0 (ji23)).f0), .bool ((rd_T58 l0 (ji23)).f1), .int .i64 ((rd_T58 l0 (ji23)).f2.f0), .int .i64 ((rd_T58 l0 (ji23)).f2.f1), .int .i64 ((rd_T58 l0 (ji23)).f2.f2), .string ((rd_T58 l0 (ji23)).f2.f3), .slice A106_6 ((rd_T58 l0 (ji23)).f2.f4).length c106_6]] (by rfl) rfl rfl (by rfl) (by (try simp only [List.map_toArray, List.map_cons, List.map_nil]); first | done | (simp only [hji23]; rfl) | rfl | (simp only [List.length_drop, List.length_take]; rfl)) ?_
            with_reducible refine (store_versed.calls ((rd_T58 l0 (ji23)).f0) ((rd_T58 l0 (ji23)).f1) ((rd_T58 l0 (ji23)).f2.f0) ((rd_T58 l0 (ji23)).f2.f1) ((rd_T58 l0 (ji23)).f2.f2) ((rd_T58 l0 (ji23)).f2.f3) _ _ ((rd_T58 l0 (ji23)).f2.f4) t107 _ ?side1 ?side2 A26.out).mono ?_
            (case side1 => exact zrc (Kd.C_below HR106_6.out HB.out))
            (case side2 => exact HC106_6.out)
            rintro e w43 ⟨rfl, hb⟩
            refine ⟨_, rfl, ?_⟩
            replace BK103 := zqj (blk_below (g := gb103) (o := .cells #[.int .i64 ((rd_T58 l0 x11_1).f0), .bool ((rd_T58 l0 x11_1).f1), .int .i64 ((rd_T58 l0 x11_1).f2.f0), .int .i64 ((rd_T58 l0 x11_1).f2.f1), .int .i64 ((rd_T58 l0 x11_1).f2.f2), .string ((rd_T58 l0 x11_1).f2.f3), .slice A102_6 ((rd_T58 l0 x11_1).f2.f4).length c102_6] 58 (0, 0)) (zrb BK103.out) hb); replace HB := zqj (below_step (zrd1 HB.out GE103.out) hb)
            (try clear hb); (try clear hb2); (try clear hk); (try clear hi)
            refine hK.out _ _ ⟨(blk_cell BK103.out 0).trans rfl, (blk_cell BK103.out 1).trans rfl, (blk_cell BK103.out 2).trans rfl, (blk_cell BK103.out 3).trans rfl, (blk_cell BK103.out 4).trans rfl, (blk_cell BK103.out 5).trans rfl, (blk_cell BK103.out 6).trans rfl, ((HB.out.cell (World.block_lt_of_cell? w _ hw106_0)).trans hw106_0), ((HB.out.cell (World.block_lt_of_cell? w _ hw106_1)).trans hw106_1), ((HB.out.cell (World.block_lt_of_cell? w _ hw106_2)).trans hw106_2), ((HB.out.cell (World.block_lt_of_cell? w _ hw106_3)).trans hw106_3), ((HB.out.cell (World.block_lt_of_cell? w _ hw106_4)).trans hw106_4), ((HB.out.cell (World.block_lt_of_cell? w _ hw106_5)).trans hw106_5), ((HB.out.cell (World.block_lt_of_cell? w _ hw106_6)).trans hw106_6)⟩ (fun hHeld => ?_)
            clear hK K
            refine norm_ (a' := ?_) ?_ ?_
            rotate_left
            ·show Act.put _ (some 37) _ = _
             simp only [Act.put, zqk, zql, zqm, i64_w, i32_w]
             rfl
            refine one_ (i := 24) (N := some 40) (zb 28 33554431) rfl rfl (one_of HT_.out (by kernel_rfl)) (by decide) (fun K hK => ?_)
            refine goesT_ Try.func32 (by kernel_rfl) rfl #[.agg #[.int .i64 ((rd_T58 l0 x11_1).f0), .bool ((rd_T58 l0 x11_1).f1), .int .i64 ((rd_T58 l0 x11_1).f2.f0), .int .i64 ((rd_T58 l0 x11_1).f2.f1), .int .i64 ((rd_T58 l0 x11_1).f2.f2), .string ((rd_T58 l0 x11_1).f2.f3), .slice A102_6 ((rd_T58 l0 x11_1).f2.f4).length c102_6]] (by rfl) rfl rfl (by rfl) zra ?_
            with_reducible refine (store_versed.calls ((rd_T58 l0 x11_1).f0) ((rd_T58 l0 x11_1).f1) ((rd_T58 l0 x11_1).f2.f0) ((rd_T58 l0 x11_1).f2.f1) ((rd_T58 l0 x11_1).f2.f2) ((rd_T58 l0 x11_1).f2.f3) _ _ ((rd_T58 l0 x11_1).f2.f4) t108 _ ?side1 ?side2 A27.out).mono ?_
            (case side1 => exact zrc (Kd.C_below HR102_6.out HB.out))
            (case side2 => exact HC102_6.out)
            rintro e w44 ⟨rfl, hb⟩
            refine ⟨_, rfl, ?_⟩
            replace BK103 := zqj (blk_below (g := gb103) (o := .cells #[.int .i64 ((rd_T58 l0 x11_1).f0), .bool ((rd_T58 l0 x11_1).f1), .int .i64 ((rd_T58 l0 x11_1).f2.f0), .int .i64 ((rd_T58 l0 x11_1).f2.f1), .int .i64 ((rd_T58 l0 x11_1).f2.f2), .string ((rd_T58 l0 x11_1).f2.f3), .slice A102_6 ((rd_T58 l0 x11_1).f2.f4).length c102_6] 58 (0, 0)) (zrb BK103.out) hb); replace HB := zqj (below_step (zrd1 HB.out GE103.out) hb)
            (try clear hb); (try clear hb2); (try clear hk); (try clear hi)
            refine hK.out _ _ ⟨(blk_cell BK103.out 0).trans rfl, (blk_cell BK103.out 1).trans rfl, (blk_cell BK103.out 2).trans rfl, (blk_cell BK103.out 3).trans rfl, (blk_cell BK103.out 4).trans rfl, (blk_cell BK103.out 5).trans rfl, (blk_cell BK103.out 6).trans rfl, ((HB.out.cell (World.block_lt_of_cell? w _ hw106_0)).trans hw106_0), ((HB.out.cell (World.block_lt_of_cell? w _ hw106_1)).trans hw106_1), ((HB.out.cell (World.block_lt_of_cell? w _ hw106_2)).trans hw106_2), ((HB.out.cell (World.block_lt_of_cell? w _ hw106_3)).trans hw106_3), ((HB.out.cell (World.block_lt_of_cell? w _ hw106_4)).trans hw106_4), ((HB.out.cell (World.block_lt_of_cell? w _ hw106_5)).trans hw106_5), ((HB.out.cell (World.block_lt_of_cell? w _ hw106_6)).trans hw106_6)⟩ (fun hHeld => ?_)
            clear hK K
            refine norm_ (a' := ?_) ?_ ?_
            rotate_left
            ·show Act.put _ (some 40) _ = _
             simp only [Act.put, zqk, zql, zqm, i64_w, i32_w]
             rfl
            refine zp 25 41 (zb 28 67108863) HT_.out ?_
            refine zp 26 42 (zb 28 134217727) HT_.out ?_
            refine zp 27 43 (zb 28 268435455) HT_.out ?_
            refine done_ (done_of HT_.out (by kernel_rfl)) ?_
            try go_wp2
            go_roundg k1
            case measure => have := HK1.out; omega
            case rel => exact ⟨(wrap64 (x11_1 + 1)), zrt, H', ⟨by have := HK1.out; omega⟩, ⟨by repeat (first | (with_reducible first | exact HB.out | apply zqg | apply zqe | apply zqf | refine zqd ?_ GE103.out) | exact HB.out)⟩⟩
          ·rw [if_neg c25] at H
           exact absurd H (by simp)
         ·rw [if_neg c24] at H
          exact absurd H (by simp)
        ·rw [if_neg c22] at H
         have c22b0 : decide (0 < x11_1) = false := decide_eq_false c22
         clear c22
         have H' := zqj H
         clear H
         have p102 : 0 ≤ (x11_1 : Int) := zqh zrs
         have q102 : x11_1 < (l0.length : Int) := zqh zrs
         obtain ⟨ad102, A102_6, c102_6, e102, hx102_0, hx102_1, hx102_2, hx102_3, hx102_4, hx102_5, hx102_6, hl102_6, hi102_6⟩ := at_T58 HR0.out x11_1 p102 q102
         cases e102
         replace hx102_0 := zx HB.out hx102_0
         replace hx102_1 := zx HB.out hx102_1
         replace hx102_2 := zx HB.out hx102_2
         replace hx102_3 := zx HB.out hx102_3
         replace hx102_4 := zx HB.out hx102_4
         replace hx102_5 := zx HB.out hx102_5
         replace hx102_6 := zx HB.out hx102_6
         have HR102_6 := zqj hi102_6
         have HC102_6 := zqj hl102_6
         clear hi102_6 hl102_6
         replace p102 := eq_true p102
         replace q102 := eq_true q102
         try go_wp2_with (first | ((with_reducible refine gate_dst (N := 8) rfl ?_); refine box_event ?hg (N := 8) ?hd (cs := #[.int .i64 0, .bool false, .int .i64 0, .int .i64 0, .int .i64 0, .string (⟨#[]⟩ : ByteArray), .slice none 0 0]) (t := 58) ?hr ?_; (case hd => rfl); (case hg => rfl); (case hr => exact zrr); intro gb103 hg w45 hbox hb; have n0_ := zqj (below_step (zrd0 HB.out) hb); have n1_ := zqj (hbox); have n2_ : Aside0 (w.heap.size ≤ gb103) := ⟨by rw [hg]; exact below_size (zrd0 HB.out)⟩; have n3_ := n2_; clear HB; have HB := n0_; have BK103 := n1_; have GW103 := n2_; have GE103 := n3_; clear n0_ n1_ n2_ n3_; clear hb hbox hg; obtain ⟨hcz46_0, hcz46_1, hcz46_2, hcz46_3, hcz46_4, hcz46_5, hcz46_6⟩ := zc7 BK103.out; obtain ⟨hfz46_0, hfz46_1, hfz46_2, hfz46_3, hfz46_4, hfz46_5, hfz46_6⟩ := zf7 BK103.out))
         have n0_ : Aside0 ((((((((w45.setCell ⟨gb103, 0, none⟩ (.int .i64 ((rd_T58 l0 x11_1).f0))).setCell ⟨gb103, 1, none⟩ (.bool ((rd_T58 l0 x11_1).f1))).setCell ⟨gb103, 2, none⟩ (.int .i64 ((rd_T58 l0 x11_1).f2.f0))).setCell ⟨gb103, 3, none⟩ (.int .i64 ((rd_T58 l0 x11_1).f2.f1))).setCell ⟨gb103, 4, none⟩ (.int .i64 ((rd_T58 l0 x11_1).f2.f2))).setCell ⟨gb103, 5, none⟩ (.string ((rd_T58 l0 x11_1).f2.f3))).setCell ⟨gb103, 6, none⟩ (.slice A102_6 ((rd_T58 l0 x11_1).f2.f4).length c102_6)).heap[gb103]? = some (.cells #[.int .i64 ((rd_T58 l0 x11_1).f0), .bool ((rd_T58 l0 x11_1).f1), .int .i64 ((rd_T58 l0 x11_1).f2.f0), .int .i64 ((rd_T58 l0 x11_1).f2.f1), .int .i64 ((rd_T58 l0 x11_1).f2.f2), .string ((rd_T58 l0 x11_1).f2.f3), .slice A102_6 ((rd_T58 l0 x11_1).f2.f4).length c102_6] 58 (0, 0))) := ⟨by (with_reducible repeat (first | refine zqa ?_ _ | refine zqb ?_ | refine zqc ?_ _)); refine blk_put (cs := #[.int .i64 ((rd_T58 l0 x11_1).f0), .bool ((rd_T58 l0 x11_1).f1), .int .i64 ((rd_T58 l0 x11_1).f2.f0), .int .i64 ((rd_T58 l0 x11_1).f2.f1), .int .i64 ((rd_T58 l0 x11_1).f2.f2), .string ((rd_T58 l0 x11_1).f2.f3), .slice none 0 0]) ?_ 6 _ rfl; (with_reducible repeat (first | refine zqa ?_ _ | refine zqb ?_ | refine zqc ?_ _)); refine blk_put (cs := #[.int .i64 ((rd_T58 l0 x11_1).f0), .bool ((rd_T58 l0 x11_1).f1), .int .i64 ((rd_T58 l0 x11_1).f2.f0), .int .i64 ((rd_T58 l0 x11_1).f2.f1), .int .i64 ((rd_T58 l0 x11_1).f2.f2), .string (⟨#[]⟩ : ByteArray), .slice none 0 0]) ?_ 5 _ rfl; (with_reducible repeat (first | refine zqa ?_ _ | refine zqb ?_ | refine zqc ?_ _)); refine blk_put (cs := #[.int .i64 ((rd_T58 l0 x11_1).f0), .bool ((rd_T58 l0 x11_1).f1), .int .i64 ((rd_T58 l0 x11_1).f2.f0), .int .i64 ((rd_T58 l0 x11_1).f2.f1), .int .i64 0, .string (⟨#[]⟩ : ByteArray), .slice none 0 0]) ?_ 4 _ rfl; (with_reducible repeat (first | refine zqa ?_ _ | refine zqb ?_ | refine zqc ?_ _)); refine blk_put (cs := #[.int .i64 ((rd_T58 l0 x11_1).f0), .bool ((rd_T58 l0 x11_1).f1), .int .i64 ((rd_T58 l0 x11_1).f2.f0), .int .i64 0, .int .i64 0, .string (⟨#[]⟩ : ByteArray), .slice none 0 0]) ?_ 3 _ rfl; (with_reducible repeat (first | refine zqa ?_ _ | refine zqb ?_ | refine zqc ?_ _)); refine blk_put (cs := #[.int .i64 ((rd_T58 l0 x11_1).f0), .bool ((rd_T58 l0 x11_1).f1), .int .i64 0, .int .i64 0, .int .i64 0, .string (⟨#[]⟩ : ByteArray), .slice none 0 0]) ?_ 2 _ rfl; (with_reducible repeat (first | refine zqa ?_ _ | refine zqb ?_ | refine zqc ?_ _)); refine blk_put (cs := #[.int .i64 ((rd_T58 l0 x11_1).f0), .bool false, .int .i64 0, .int .i64 0, .int .i64 0, .string (⟨#[]⟩ : ByteArray), .slice none 0 0]) ?_ 1 _ rfl; (with_reducible repeat (first | refine zqa ?_ _ | refine zqb ?_ | refine zqc ?_ _)); refine blk_put (cs := #[.int .i64 0, .bool false, .int .i64 0, .int .i64 0, .int .i64 0, .string (⟨#[]⟩ : ByteArray), .slice none 0 0]) ?_ 0 _ rfl; (with_reducible repeat (first | refine zqa ?_ _ | refine zqb ?_ | refine zqc ?_ _)); exact BK103.out⟩
         have n1_ : Aside0 (Below w.heap.size w (((((((w45.setCell ⟨gb103, 0, none⟩ (.int .i64 ((rd_T58 l0 x11_1).f0))).setCell ⟨gb103, 1, none⟩ (.bool ((rd_T58 l0 x11_1).f1))).setCell ⟨gb103, 2, none⟩ (.int .i64 ((rd_T58 l0 x11_1).f2.f0))).setCell ⟨gb103, 3, none⟩ (.int .i64 ((rd_T58 l0 x11_1).f2.f1))).setCell ⟨gb103, 4, none⟩ (.int .i64 ((rd_T58 l0 x11_1).f2.f2))).setCell ⟨gb103, 5, none⟩ (.string ((rd_T58 l0 x11_1).f2.f3))).setCell ⟨gb103, 6, none⟩ (.slice A102_6 ((rd_T58 l0 x11_1).f2.f4).length c102_6))) := ⟨by repeat (first | (with_reducible first | exact HB.out | apply zqg | apply zqe | apply zqf | refine zqd ?_ GE103.out) | exact HB.out)⟩
         ((try clear BK103); (try clear HB))
         generalize (((((((w45.setCell ⟨gb103, 0, none⟩ (.int .i64 ((rd_T58 l0 x11_1).f0))).setCell ⟨gb103, 1, none⟩ (.bool ((rd_T58 l0 x11_1).f1))).setCell ⟨gb103, 2, none⟩ (.int .i64 ((rd_T58 l0 x11_1).f2.f0))).setCell ⟨gb103, 3, none⟩ (.int .i64 ((rd_T58 l0 x11_1).f2.f1))).setCell ⟨gb103, 4, none⟩ (.int .i64 ((rd_T58 l0 x11_1).f2.f2))).setCell ⟨gb103, 5, none⟩ (.string ((rd_T58 l0 x11_1).f2.f3))).setCell ⟨gb103, 6, none⟩ (.slice A102_6 ((rd_T58 l0 x11_1).f2.f4).length c102_6)) = w47 at n0_ n1_ ⊢
         (have BK103 := n0_; have HB := n1_; clear n0_ n1_)
         replace BK103 := zqj (zqb BK103.out); replace HB := zqj (zqf HB.out)
         refine start_ (n := 28) (S := fun w' => w'.cell? ⟨gb103, 0, none⟩ = some (.int .i64 ((rd_T58 l0 x11_1).f0)) ∧ w'.cell? ⟨gb103, 1, none⟩ = some (.bool ((rd_T58 l0 x11_1).f1)) ∧ w'.cell? ⟨gb103, 2, none⟩ = some (.int .i64 ((rd_T58 l0 x11_1).f2.f0)) ∧ w'.cell? ⟨gb103, 3, none⟩ = some (.int .i64 ((rd_T58 l0 x11_1).f2.f1)) ∧ w'.cell? ⟨gb103, 4, none⟩ = some (.int .i64 ((rd_T58 l0 x11_1).f2.f2)) ∧ w'.cell? ⟨gb103, 5, none⟩ = some (.string ((rd_T58 l0 x11_1).f2.f3)) ∧ w'.cell? ⟨gb103, 6, none⟩ = some (.slice A102_6 ((rd_T58 l0 x11_1).f2.f4).length c102_6)) (ds := []) #[false, false, false, false, false, false, false, false, false, false, false, false, false, false, false, false, false, false, false, false, false, false, false, false, false, false, false, false] (by kernel_rfl) rfl rfl ⟨(blk_cell BK103.out 0).trans rfl, (blk_cell BK103.out 1).trans rfl, (blk_cell BK103.out 2).trans rfl, (blk_cell BK103.out 3).trans rfl, (blk_cell BK103.out 4).trans rfl, (blk_cell BK103.out 5).trans rfl, (blk_cell BK103.out 6).trans rfl⟩ (fun hHeld => ?_); refine with_tabW api_Ver.tab4 api_Ver.bits4 (fun HT_ HW_ => ?_)
         generalize w47.drew = w48 at BK103 HB hHeld ⊢
         refine zp 0 16 (zb 28 1) HT_.out ?_
         refine zt 1 17 (zb 28 3) HT_.out HW_.out hHeld ?_
         refine one_ (i := 2) (N := some 18) (zb 28 7) rfl rfl (one_of HT_.out (by kernel_rfl)) (by decide) (fun K hK => ?_)
         refine goesT_ Try.func32 (by kernel_rfl) rfl #[.agg #[.int .i64 ((rd_T58 l0 x11_1).f0), .bool ((rd_T58 l0 x11_1).f1), .int .i64 ((rd_T58 l0 x11_1).f2.f0), .int .i64 ((rd_T58 l0 x11_1).f2.f1), .int .i64 ((rd_T58 l0 x11_1).f2.f2), .string ((rd_T58 l0 x11_1).f2.f3), .slice A102_6 ((rd_T58 l0 x11_1).f2.f4).length c102_6]] (by rfl) rfl rfl (by rfl) zra ?_
         with_reducible refine (store_versed.calls ((rd_T58 l0 x11_1).f0) ((rd_T58 l0 x11_1).f1) ((rd_T58 l0 x11_1).f2.f0) ((rd_T58 l0 x11_1).f2.f1) ((rd_T58 l0 x11_1).f2.f2) ((rd_T58 l0 x11_1).f2.f3) _ _ ((rd_T58 l0 x11_1).f2.f4) t104 _ ?side1 ?side2 A7.out).mono ?_
         (case side1 => exact zrc (Kd.C_below HR102_6.out HB.out))
         (case side2 => exact HC102_6.out)
         rintro e w49 ⟨rfl, hb⟩
         refine ⟨_, rfl, ?_⟩
         replace BK103 := zqj (blk_below (g := gb103) (o := .cells #[.int .i64 ((rd_T58 l0 x11_1).f0), .bool ((rd_T58 l0 x11_1).f1), .int .i64 ((rd_T58 l0 x11_1).f2.f0), .int .i64 ((rd_T58 l0 x11_1).f2.f1), .int .i64 ((rd_T58 l0 x11_1).f2.f2), .string ((rd_T58 l0 x11_1).f2.f3), .slice A102_6 ((rd_T58 l0 x11_1).f2.f4).length c102_6] 58 (0, 0)) (zrb BK103.out) hb); replace HB := zqj (below_step (zrd1 HB.out GE103.out) hb)
         (try clear hb); (try clear hb2); (try clear hk); (try clear hi)
         refine hK.out _ _ ⟨(blk_cell BK103.out 0).trans rfl, (blk_cell BK103.out 1).trans rfl, (blk_cell BK103.out 2).trans rfl, (blk_cell BK103.out 3).trans rfl, (blk_cell BK103.out 4).trans rfl, (blk_cell BK103.out 5).trans rfl, (blk_cell BK103.out 6).trans rfl⟩ (fun hHeld => ?_)
         clear hK K
         refine norm_ (a' := ?_) ?_ ?_
         rotate_left
         ·show Act.put _ (some 18) _ = _
          simp only [Act.put, zqk, zql, zqm, i64_w, i32_w]
          rfl
         refine zp 3 19 (zb 28 15) HT_.out ?_
         refine zp 4 20 (zb 28 31) HT_.out ?_
         refine zp 5 21 (zb 28 63) HT_.out ?_
         refine zp 8 24 (zb 28 319) HT_.out ?_
         refine zt 6 22 (zb 28 383) HT_.out HW_.out hHeld ?_
         refine one_ (i := 7) (N := some 23) (zb 28 511) rfl rfl (one_of HT_.out (by kernel_rfl)) (by decide) (fun K hK => ?_)
         refine goesT_ Try.func32 (by kernel_rfl) rfl #[.agg #[.int .i64 ((rd_T58 l0 x11_1).f0), .bool ((rd_T58 l0 x11_1).f1), .int .i64 ((rd_T58 l0 x11_1).f2.f0), .int .i64 ((rd_T58 l0 x11_1).f2.f1), .int .i64 ((rd_T58 l0 x11_1).f2.f2), .string ((rd_T58 l0 x11_1).f2.f3), .slice A102_6 ((rd_T58 l0 x11_1).f2.f4).length c102_6]] (by rfl) rfl rfl (by rfl) zra ?_
         with_reducible refine (store_versed.calls ((rd_T58 l0 x11_1).f0) ((rd_T58 l0 x11_1).f1) ((rd_T58 l0 x11_1).f2.f0) ((rd_T58 l0 x11_1).f2.f1) ((rd_T58 l0 x11_1).f2.f2) ((rd_T58 l0 x11_1).f2.f3) _ _ ((rd_T58 l0 x11_1).f2.f4) t105 _ ?side1 ?side2 A14.out).mono ?_
         (case side1 => exact zrc (Kd.C_below HR102_6.out HB.out))
         (case side2 => exact HC102_6.out)
         rintro e w50 ⟨rfl, hb⟩
         refine ⟨_, rfl, ?_⟩
         replace BK103 := zqj (blk_below (g := gb103) (o := .cells #[.int .i64 ((rd_T58 l0 x11_1).f0), .bool ((rd_T58 l0 x11_1).f1), .int .i64 ((rd_T58 l0 x11_1).f2.f0), .int .i64 ((rd_T58 l0 x11_1).f2.f1), .int .i64 ((rd_T58 l0 x11_1).f2.f2), .string ((rd_T58 l0 x11_1).f2.f3), .slice A102_6 ((rd_T58 l0 x11_1).f2.f4).length c102_6] 58 (0, 0)) (zrb BK103.out) hb); replace HB := zqj (below_step (zrd1 HB.out GE103.out) hb)
         (try clear hb); (try clear hb2); (try clear hk); (try clear hi)
         refine hK.out _ _ ⟨(blk_cell BK103.out 0).trans rfl, (blk_cell BK103.out 1).trans rfl, (blk_cell BK103.out 2).trans rfl, (blk_cell BK103.out 3).trans rfl, (blk_cell BK103.out 4).trans rfl, (blk_cell BK103.out 5).trans rfl, (blk_cell BK103.out 6).trans rfl⟩ (fun hHeld => ?_)
         clear hK K
         refine norm_ (a' := ?_) ?_ ?_
         rotate_left
         ·show Act.put _ (some 23) _ = _
          simp only [Act.put, zqk, zql, zqm, i64_w, i32_w]
          rfl
         refine zp 9 25 (zb 28 1023) HT_.out ?_
         refine zp 10 26 (zb 28 2047) HT_.out ?_
         refine zp 11 27 (zb 28 4095) HT_.out ?_
         refine zp 12 28 (zb 28 8191) HT_.out ?_
         refine zp 13 29 (zb 28 16383) HT_.out ?_
         refine zp 14 30 (zb 28 32767) HT_.out ?_
         refine zq 15 31 (zb 28 65535) HT_.out ?_
         refine zq 16 32 (zb 28 131071) HT_.out ?_
         refine zq 17 33 (zb 28 262143) HT_.out ?_
         refine zq 18 34 (zb 28 524287) HT_.out ?_
         refine zq 19 35 (zb 28 1048575) HT_.out ?_
         refine zq 20 36 (zb 28 2097151) HT_.out ?_
         refine zq 21 37 (zb 28 4194303) HT_.out ?_
         refine zq 22 38 (zb 28 8388607) HT_.out ?_
         refine zq 23 39 (zb 28 16777215) HT_.out ?_
         refine zq 24 40 (zb 28 33554431) HT_.out ?_
         refine zq 25 41 (zb 28 67108863) HT_.out ?_
         refine zp 26 42 (zb 28 134217727) HT_.out ?_
         refine zp 27 43 (zb 28 268435455) HT_.out ?_
         refine done_ (done_of HT_.out (by kernel_rfl)) ?_
         try go_wp2
         go_roundg k1
         case measure => have := HK1.out; omega
         case rel => exact ⟨(wrap64 (x11_1 + 1)), zrt, H', ⟨by have := HK1.out; omega⟩, ⟨by repeat (first | (with_reducible first | exact HB.out | apply zqg | apply zqe | apply zqf | refine zqd ?_ GE103.out) | exact HB.out)⟩⟩
     ·rw [if_neg c6] at H
      exact absurd H (by simp)
    ·rw [if_neg c5] at H
     exact absurd H (by simp)
   ·rw [if_neg c4] at H
    have c4b0 : decide (x11_1 < (l0.length : Int)) = false := decide_eq_false c4
    clear c4
    obtain rfl := Option.some.inj H
    go_wp2
    go_ret
    exact ⟨zru, by repeat (first | (with_reducible first | exact HB.out | apply zqg | apply zqe | apply zqf) | exact HB.out)⟩
end Go.Proofs.Ytdkgkiemndlneaa.X
end

section
namespace Go.Proofs.Ytdkgkiemndlneaa.X
open Go.RowKit Go.Proofs.YtdkgkiemndlneaaW.PrintWords Go.Proofs.YtdkgkiemndlneaaW.PrintLast Go.Proofs.YtdkgkiemndlneaaW.PrintMore
open Go.Proofs.Ytdkgkiemndlneaa.Q
attribute [local go_sem] max2_int min2_int max_two min_two max_three min_three max_four min_four   -- for this text's walks alone
attribute [local go_sem high] Go.Proofs.Ytdkgkiemndlneaa.px_xor_u8 Go.Proofs.Ytdkgkiemndlneaa.px_xor_u16 Go.Proofs.Ytdkgkiemndlneaa.px_xor_u32 Go.Proofs.Ytdkgkiemndlneaa.px_xor_u64
def store_counted.f (a0_0 : Int) (a0_1 : Int) : Option (Int) := some a0_0
set_option maxHeartbeats 8000000 in
set_option maxRecDepth 100000 in
theorem store_counted.calls (a0_0 : Int) (a0_1 : Int) (r : Int) (w : World) (h : store_counted.f a0_0 a0_1 = some r) :
    Calls Try.prog 34 #[.agg #[.int .i64 a0_0, .int .i64 a0_1]] w fun e w' => e = .returned (.int .i64 r) ∧ Below w.heap.size w w' := by
  have hu61 := Try.underlying61
  have HB := zqj (Below.refl w.heap.size w)
  have H : (some a0_0) = some r := h
  clear h
  obtain rfl := Option.some.inj H
  go_enter Try.func34, Try.ntmps34
  go_wp2_with (first | ((with_reducible refine gate_dst (N := 1) rfl ?_); refine box_event ?hg (N := 1) ?hd (cs := #[.int .i64 a0_0, .int .i64 a0_1]) (t := 61) ?hr ?_; (case hd => rfl); (case hg => rfl); (case hr => exact zrr); intro gb109 hg w2 hbox hb; have n0_ := zqj (below_step (zrd0 HB.out) hb); have n1_ := zqj (hbox); have n2_ : Aside0 (w.heap.size ≤ gb109) := ⟨by rw [hg]; exact below_size (zrd0 HB.out)⟩; have n3_ := n2_; clear HB; have HB := n0_; have BK109 := n1_; have GW109 := n2_; have GE109 := n3_; clear n0_ n1_ n2_ n3_; clear hb hbox hg; obtain ⟨hcz3_0, hcz3_1⟩ := zc2 BK109.out; obtain ⟨hfz3_0, hfz3_1⟩ := zf2 BK109.out))
  go_ret
  exact ⟨zru, by repeat (first | (with_reducible first | exact HB.out | apply zqg | apply zqe | apply zqf | refine zqd ?_ GE109.out) | exact HB.out)⟩
end Go.Proofs.Ytdkgkiemndlneaa.X
end

section
namespace Go.Proofs.Ytdkgkiemndlneaa.X
open Go.RowKit Go.Proofs.YtdkgkiemndlneaaW.PrintWords Go.Proofs.YtdkgkiemndlneaaW.PrintLast Go.Proofs.YtdkgkiemndlneaaW.PrintMore
open Go.Proofs.Ytdkgkiemndlneaa.Q
attribute [local go_sem] max2_int min2_int max_two min_two max_three min_three max_four min_four   -- for this text's walks alone
attribute [local go_sem high] Go.Proofs.Ytdkgkiemndlneaa.px_xor_u8 Go.Proofs.Ytdkgkiemndlneaa.px_xor_u16 Go.Proofs.Ytdkgkiemndlneaa.px_xor_u32 Go.Proofs.Ytdkgkiemndlneaa.px_xor_u64
def api_Count_41.l0 : Nat → List (S61) → Int → List (S61) → Int → Int → Option (Bool)
 | 0, _, _, _, _, _ => none
 | k + 1, x0, x1, x9, x10, x11 => if x11 < x10 then (if 0 ≤ x11 then (if x11 < (x9.length : Int) then ((store_counted.f ((rd_T61 x9 x11).f0) ((rd_T61 x9 x11).f1)).bind fun t112 => (if t112 < 1 then (some false) else ((store_counted.f ((rd_T61 x9 x11).f0) ((rd_T61 x9 x11).f1)).bind fun t113 => (if t113 > x1 then (some false) else (if x11 > 0 then (if 0 ≤ (wrap64 (x11 - 1)) then (if (wrap64 (x11 - 1)) < (x0.length : Int) then ((store_counted.f ((rd_T61 x0 (wrap64 (x11 - 1))).f0) ((rd_T61 x0 (wrap64 (x11 - 1))).f1)).bind fun t115 => ((store_counted.f ((rd_T61 x9 x11).f0) ((rd_T61 x9 x11).f1)).bind fun t116 => (if t115 ≥ t116 then (some false) else (api_Count_41.l0 k x0 x1 x9 x10 (wrap64 (x11 + 1)))))) else (none)) else (none)) else (api_Count_41.l0 k x0 x1 x9 x10 (wrap64 (x11 + 1)))))))) else (none)) else (none)) else (some (decide ((x0.length : Int) > 0)))
def api_Count_41.f (k : Nat) (l0 : List (S61)) (a1 : Int) (a2 : Unit) : Option (Bool) := api_Count_41.l0 k l0 a1 l0 (l0.length : Int) 0
theorem api_Count_41.mono_l : ∀ k, (∀ y0 y1 y2 y3 y4, LeO (api_Count_41.l0 k y0 y1 y2 y3 y4) (api_Count_41.l0 (k + 1) y0 y1 y2 y3 y4))
 | 0 => fun _ _ _ _ _ r h => by simp [api_Count_41.l0] at h
 | k + 1 => by
  have ih0 := api_Count_41.mono_l k
  ·intro y0 y1 y2 y3 y4
   unfold api_Count_41.l0
   repeat' first
   | (with_reducible exact ih0 _ _ _ _ _)
   | (with_reducible exact LeO.refl _)
   | (with_reducible exact LeO.none _)
   | (with_reducible refine LeO.ite ?_ ?_)
   | (with_reducible refine LeO.bind ?_ (fun _ => ?_))
   | exact ih0 _ _ _ _ _
   | exact LeO.none _
   | refine LeO.ite ?_ ?_
   | refine LeO.bind ?_ (fun _ => ?_)
theorem api_Count_41.mono : ∀ a0 a1 a2 k, LeO (api_Count_41.f k a0 a1 a2) (api_Count_41.f (k + 1) a0 a1 a2) := by
 intro a0 a1 a2 k
 have ih0 := api_Count_41.mono_l k
 unfold api_Count_41.f
 repeat' first
   | (with_reducible exact ih0 _ _ _ _ _)
   | (with_reducible exact LeO.refl _)
   | (with_reducible exact LeO.none _)
   | (with_reducible refine LeO.ite ?_ ?_)
   | (with_reducible refine LeO.bind ?_ (fun _ => ?_))
   | exact ih0 _ _ _ _ _
   | exact LeO.none _
   | refine LeO.ite ?_ ?_
   | refine LeO.bind ?_ (fun _ => ?_)
def api_Count_41.T4 : Bool × List (List Nat × List Nat) := (true, [([], []), ([], []), ([0, 1], [0, 1]), ([2], [2]), ([3, 2], [3]), ([4], [4]), ([4], [4]), ([5, 6, 4, 4], [4, 5, 6]), ([4], [4]), ([7, 8, 4], [4, 7, 8]), ([4, 9], [4, 9]), ([10, 7], [10]), ([11], [11]), ([12, 11], [11, 12]), ([13, 11, 11], [11, 13]), ([14], [14]), ([14], [14]), ([14], [14]), ([17, 14], [14, 17]), ([16, 18, 14], [14, 16, 18]), ([19, 14], [14, 19]), ([15, 20, 14, 14], [14, 15, 20]), ([14], [14]), ([14], [14]), ([22, 23, 21, 14], [14, 22, 23]), ([21, 24, 14], [14, 21, 24]), ([14, 25, 11], [11, 14, 25]), ([11, 26], [11, 26])])
def api_Count_41.B4 : List Nat := [0, 0, 3, 7, 15, 31, 31, 127, 31, 511, 1023, 2047, 4095, 8191, 16383, 32767, 32767, 32767, 163839, 491519, 1015807, 2097151, 32767, 32767, 16777215, 33554431, 67108863, 134217727]
theorem api_Count_41.tab4 : rtab .any (opsOf Try.f41 4) = api_Count_41.T4 := by kernel_rfl
theorem api_Count_41.bits4 : waitsOk api_Count_41.T4.2 api_Count_41.B4 = true := by kernel_rfl
set_option maxHeartbeats 8000000 in
set_option maxRecDepth 100000 in
theorem api_Count_41.calls (k : Nat) (A0 : Option Addr) (c0 : Nat) (l0 : List (S61)) (a1 : Int) (a2 : Unit) (r : Bool) (w : World) (hr0 : Kd.C k61 w A0 l0.length l0) (hc0 : l0.length ≤ c0) (h : api_Count_41.f k l0 a1 a2 = some r) :
  Calls Try.prog 41 #[.slice A0 l0.length c0, .int .i64 a1, .func (.func 34) #[] #[]] w fun e w' => e = .returned (.bool r) ∧ Below w.heap.size w w' := by
 have hu61 := Try.underlying61
 have HR0 := zqj hr0
 have HC0 := zqj hc0
 clear hr0 hc0
 have HB := zqj (Below.refl w.heap.size w)
 have H : (api_Count_41.l0 k l0 a1 l0 (l0.length : Int) 0) = some r := h
 clear h
 have H' := zqj H
 clear H
 go_enter Try.func41, Try.ntmps41
 go_wp2
 go_loopg [11] k (fun kq v11 w' => ∃ (x11_1 : Int), v11 = .int .i64 x11_1 ∧ Aside0 (api_Count_41.l0 kq l0 a1 l0 (l0.length : Int) x11_1 = some r) ∧ Aside0 (kq ≤ k) ∧ Aside0 (Below w.heap.size w w'))
 case atStart => exact ⟨(0), zrt, H', ⟨Nat.le_refl _⟩, ⟨by repeat (first | (with_reducible first | exact HB.out | apply zqg | apply zqe | apply zqf) | exact HB.out)⟩⟩
 case round =>
  clear H'
  (try clear p2)
  obtain ⟨x11_1, rfl, HA, HK1, HB⟩ := hrel
  cases gk with
  | zero => exact absurd HA.out (by simp [api_Count_41.l0])
  | succ k1 =>
   (have H := HA.out; clear HA)
   simp only [api_Count_41.l0] at H
   by_cases c4 : x11_1 < (l0.length : Int)
   ·rw [if_pos c4] at H
    have c4b0 : decide (x11_1 < (l0.length : Int)) = true := decide_eq_true c4
    clear c4
    by_cases c5 : 0 ≤ x11_1
    ·rw [if_pos c5] at H
     have c5b0 : decide (0 ≤ x11_1) = true := decide_eq_true c5
     clear c5
     by_cases c6 : x11_1 < (l0.length : Int)
     ·rw [if_pos c6] at H
      have c6b0 : decide (x11_1 < (l0.length : Int)) = true := decide_eq_true c6
      clear c6
      replace H := zqn H
      obtain ⟨t112, A70, H⟩ := H
      replace H : (if t112 < 1 then (some false) else ((store_counted.f ((rd_T61 l0 x11_1).f0) ((rd_T61 l0 x11_1).f1)).bind fun t113 => (if t113 > a1 then (some false) else (if x11_1 > 0 then (if 0 ≤ (wrap64 (x11_1 - 1)) then (if (wrap64 (x11_1 - 1)) < (l0.length : Int) then ((store_counted.f ((rd_T61 l0 (wrap64 (x11_1 - 1))).f0) ((rd_T61 l0 (wrap64 (x11_1 - 1))).f1)).bind fun t115 => ((store_counted.f ((rd_T61 l0 x11_1).f0) ((rd_T61 l0 x11_1).f1)).bind fun t116 => (if t115 ≥ t116 then (some false) else (api_Count_41.l0 k1 l0 a1 l0 (l0.length : Int) (wrap64 (x11_1 + 1)))))) else (none)) else (none)) else (api_Count_41.l0 k1 l0 a1 l0 (l0.length : Int) (wrap64 (x11_1 + 1))))))) = some r := H
      have A7 := zqj A70
      clear A70
      by_cases c8 : t112 < 1
      ·rw [if_pos c8] at H
       have c8b0 : decide (t112 < 1) = true := decide_eq_true c8
       clear c8
       obtain rfl := Option.some.inj H
       have p110 : 0 ≤ (x11_1 : Int) := zqh zrs
       have q110 : x11_1 < (l0.length : Int) := zqh zrs
       obtain ⟨ad110, e110, hx110_0, hx110_1⟩ := at_T61 HR0.out x11_1 p110 q110
       cases e110
       replace hx110_0 := zx HB.out hx110_0
       replace hx110_1 := zx HB.out hx110_1
       replace p110 := eq_true p110
       replace q110 := eq_true q110
       try go_wp2_with (first | ((with_reducible refine gate_dst (N := 8) rfl ?_); refine box_event ?hg (N := 8) ?hd (cs := #[.int .i64 0, .int .i64 0]) (t := 61) ?hr ?_; (case hd => rfl); (case hg => rfl); (case hr => exact zrr); intro gb111 hg w9 hbox hb; have n0_ := zqj (below_step (zrd0 HB.out) hb); have n1_ := zqj (hbox); have n2_ : Aside0 (w.heap.size ≤ gb111) := ⟨by rw [hg]; exact below_size (zrd0 HB.out)⟩; have n3_ := n2_; clear HB; have HB := n0_; have BK111 := n1_; have GW111 := n2_; have GE111 := n3_; clear n0_ n1_ n2_ n3_; clear hb hbox hg; obtain ⟨hcz10_0, hcz10_1⟩ := zc2 BK111.out; obtain ⟨hfz10_0, hfz10_1⟩ := zf2 BK111.out))
       have n0_ : Aside0 (((w9.setCell ⟨gb111, 0, none⟩ (.int .i64 ((rd_T61 l0 x11_1).f0))).setCell ⟨gb111, 1, none⟩ (.int .i64 ((rd_T61 l0 x11_1).f1))).heap[gb111]? = some (.cells #[.int .i64 ((rd_T61 l0 x11_1).f0), .int .i64 ((rd_T61 l0 x11_1).f1)] 61 (0, 0))) := ⟨by (with_reducible repeat (first | refine zqa ?_ _ | refine zqb ?_ | refine zqc ?_ _)); refine blk_put (cs := #[.int .i64 ((rd_T61 l0 x11_1).f0), .int .i64 0]) ?_ 1 _ rfl; (with_reducible repeat (first | refine zqa ?_ _ | refine zqb ?_ | refine zqc ?_ _)); refine blk_put (cs := #[.int .i64 0, .int .i64 0]) ?_ 0 _ rfl; (with_reducible repeat (first | refine zqa ?_ _ | refine zqb ?_ | refine zqc ?_ _)); exact BK111.out⟩
       have n1_ : Aside0 (Below w.heap.size w ((w9.setCell ⟨gb111, 0, none⟩ (.int .i64 ((rd_T61 l0 x11_1).f0))).setCell ⟨gb111, 1, none⟩ (.int .i64 ((rd_T61 l0 x11_1).f1)))) := ⟨by repeat (first | (with_reducible first | exact HB.out | apply zqg | apply zqe | apply zqf | refine zqd ?_ GE111.out) | exact HB.out)⟩
       ((try clear BK111); (try clear HB))
       generalize ((w9.setCell ⟨gb111, 0, none⟩ (.int .i64 ((rd_T61 l0 x11_1).f0))).setCell ⟨gb111, 1, none⟩ (.int .i64 ((rd_T61 l0 x11_1).f1))) = w11 at n0_ n1_ ⊢
       (have BK111 := n0_; have HB := n1_; clear n0_ n1_)
       replace BK111 := zqj (zqb BK111.out); replace HB := zqj (zqf HB.out)
       refine start_ (n := 28) (S := fun w' => w'.cell? ⟨gb111, 0, none⟩ = some (.int .i64 ((rd_T61 l0 x11_1).f0)) ∧ w'.cell? ⟨gb111, 1, none⟩ = some (.int .i64 ((rd_T61 l0 x11_1).f1))) (ds := []) #[false, false, false, false, false, false, false, false, false, false, false, false, false, false, false, false, false, false, false, false, false, false, false, false, false, false, false, false] (by kernel_rfl) rfl rfl ⟨(blk_cell BK111.out 0).trans rfl, (blk_cell BK111.out 1).trans rfl⟩ (fun hHeld => ?_); refine with_tabW api_Count_41.tab4 api_Count_41.bits4 (fun HT_ HW_ => ?_)
       generalize w11.drew = w12 at BK111 HB hHeld ⊢
       refine zp 0 16 (zb 28 1) HT_.out ?_
       refine zt 1 17 (zb 28 3) HT_.out HW_.out hHeld ?_
       refine one_ (i := 2) (N := some 18) (zb 28 7) rfl rfl (one_of HT_.out (by kernel_rfl)) (by decide) (fun K hK => ?_)
       refine goesT_ Try.func34 (by kernel_rfl) rfl #[.agg #[.int .i64 ((rd_T61 l0 x11_1).f0), .int .i64 ((rd_T61 l0 x11_1).f1)]] (by rfl) rfl rfl (by rfl) zra ?_
       with_reducible refine (store_counted.calls ((rd_T61 l0 x11_1).f0) ((rd_T61 l0 x11_1).f1) t112 _ A7.out).mono ?_
       rintro e w13 ⟨rfl, hb⟩
       refine ⟨_, rfl, ?_⟩
       replace BK111 := zqj (blk_below (g := gb111) (o := .cells #[.int .i64 ((rd_T61 l0 x11_1).f0), .int .i64 ((rd_T61 l0 x11_1).f1)] 61 (0, 0)) (zrb BK111.out) hb); replace HB := zqj (below_step (zrd1 HB.out GE111.out) hb)
       (try clear hb); (try clear hb2); (try clear hk); (try clear hi)
       refine hK.out _ _ ⟨(blk_cell BK111.out 0).trans rfl, (blk_cell BK111.out 1).trans rfl⟩ (fun hHeld => ?_)
       clear hK K
       refine norm_ (a' := ?_) ?_ ?_
       rotate_left
       ·show Act.put _ (some 18) _ = _
        simp only [Act.put, zqk, zql, zqm, i64_w, i32_w]
        rfl
       refine zp 3 19 (zb 28 15) HT_.out ?_
       refine zp 4 20 (zb 28 31) HT_.out ?_
       refine zq 5 21 (zb 28 63) HT_.out ?_
       refine zq 6 22 (zb 28 127) HT_.out ?_
       refine zq 7 23 (zb 28 255) HT_.out ?_
       refine zq 8 24 (zb 28 511) HT_.out ?_
       refine zq 9 25 (zb 28 1023) HT_.out ?_
       refine zp 10 26 (zb 28 2047) HT_.out ?_
       refine zp 11 27 (zb 28 4095) HT_.out ?_
       refine zq 12 28 (zb 28 8191) HT_.out ?_
       refine zq 13 29 (zb 28 16383) HT_.out ?_
       refine zq 14 30 (zb 28 32767) HT_.out ?_
       refine zq 15 31 (zb 28 65535) HT_.out ?_
       refine zq 16 32 (zb 28 131071) HT_.out ?_
       refine zq 17 33 (zb 28 262143) HT_.out ?_
       refine zq 18 34 (zb 28 524287) HT_.out ?_
       refine zq 19 35 (zb 28 1048575) HT_.out ?_
       refine zq 20 36 (zb 28 2097151) HT_.out ?_
       refine zq 21 37 (zb 28 4194303) HT_.out ?_
       refine zq 22 38 (zb 28 8388607) HT_.out ?_
       refine zq 23 39 (zb 28 16777215) HT_.out ?_
       refine zq 24 40 (zb 28 33554431) HT_.out ?_
       refine zq 25 41 (zb 28 67108863) HT_.out ?_
       refine zq 26 42 (zb 28 134217727) HT_.out ?_
       refine zp 27 43 (zb 28 268435455) HT_.out ?_
       refine done_ (done_of HT_.out (by kernel_rfl)) ?_
       try go_wp2
       go_ret
       exact ⟨zru, by repeat (first | (with_reducible first | exact HB.out | apply zqg | apply zqe | apply zqf | refine zqd ?_ GE111.out) | exact HB.out)⟩
      ·rw [if_neg c8] at H
       have c8b0 : decide (t112 < 1) = false := decide_eq_false c8
       clear c8
       replace H := zqn H
       obtain ⟨t113, A140, H⟩ := H
       replace H : (if t113 > a1 then (some false) else (if x11_1 > 0 then (if 0 ≤ (wrap64 (x11_1 - 1)) then (if (wrap64 (x11_1 - 1)) < (l0.length : Int) then ((store_counted.f ((rd_T61 l0 (wrap64 (x11_1 - 1))).f0) ((rd_T61 l0 (wrap64 (x11_1 - 1))).f1)).bind fun t115 => ((store_counted.f ((rd_T61 l0 x11_1).f0) ((rd_T61 l0 x11_1).f1)).bind fun t116 => (if t115 ≥ t116 then (some false) else (api_Count_41.l0 k1 l0 a1 l0 (l0.length : Int) (wrap64 (x11_1 + 1)))))) else (none)) else (none)) else (api_Count_41.l0 k1 l0 a1 l0 (l0.length : Int) (wrap64 (x11_1 + 1))))) = some r := H
       have A14 := zqj A140
       clear A140
       by_cases c15 : t113 > a1
       ·rw [if_pos c15] at H
        have c15b0 : decide (a1 < t113) = true := decide_eq_true c15
        clear c15
        obtain rfl := Option.some.inj H
        have p110 : 0 ≤ (x11_1 : Int) := zqh zrs
        have q110 : x11_1 < (l0.length : Int) := zqh zrs
        obtain ⟨ad110, e110, hx110_0, hx110_1⟩ := at_T61 HR0.out x11_1 p110 q110
        cases e110
        replace hx110_0 := zx HB.out hx110_0
        replace hx110_1 := zx HB.out hx110_1
        replace p110 := eq_true p110
        replace q110 := eq_true q110
        try go_wp2_with (first | ((with_reducible refine gate_dst (N := 8) rfl ?_); refine box_event ?hg (N := 8) ?hd (cs := #[.int .i64 0, .int .i64 0]) (t := 61) ?hr ?_; (case hd => rfl); (case hg => rfl); (case hr => exact zrr); intro gb111 hg w16 hbox hb; have n0_ := zqj (below_step (zrd0 HB.out) hb); have n1_ := zqj (hbox); have n2_ : Aside0 (w.heap.size ≤ gb111) := ⟨by rw [hg]; exact below_size (zrd0 HB.out)⟩; have n3_ := n2_; clear HB; have HB := n0_; have BK111 := n1_; have GW111 := n2_; have GE111 := n3_; clear n0_ n1_ n2_ n3_; clear hb hbox hg; obtain ⟨hcz17_0, hcz17_1⟩ := zc2 BK111.out; obtain ⟨hfz17_0, hfz17_1⟩ := zf2 BK111.out))
        have n0_ : Aside0 (((w16.setCell ⟨gb111, 0, none⟩ (.int .i64 ((rd_T61 l0 x11_1).f0))).setCell ⟨gb111, 1, none⟩ (.int .i64 ((rd_T61 l0 x11_1).f1))).heap[gb111]? = some (.cells #[.int .i64 ((rd_T61 l0 x11_1).f0), .int .i64 ((rd_T61 l0 x11_1).f1)] 61 (0, 0))) := ⟨by (with_reducible repeat (first | refine zqa ?_ _ | refine zqb ?_ | refine zqc ?_ _)); refine blk_put (cs := #[.int .i64 ((rd_T61 l0 x11_1).f0), .int .i64 0]) ?_ 1 _ rfl; (with_reducible repeat (first | refine zqa ?_ _ | refine zqb ?_ | refine zqc ?_ _)); refine blk_put (cs := #[.int .i64 0, .int .i64 0]) ?_ 0 _ rfl; (with_reducible repeat (first | refine zqa ?_ _ | refine zqb ?_ | refine zqc ?_ _)); exact BK111.out⟩
        have n1_ : Aside0 (Below w.heap.size w ((w16.setCell ⟨gb111, 0, none⟩ (.int .i64 ((rd_T61 l0 x11_1).f0))).setCell ⟨gb111, 1, none⟩ (.int .i64 ((rd_T61 l0 x11_1).f1)))) := ⟨by repeat (first | (with_reducible first | exact HB.out | apply zqg | apply zqe | apply zqf | refine zqd ?_ GE111.out) | exact HB.out)⟩
        ((try clear BK111); (try clear HB))
        generalize ((w16.setCell ⟨gb111, 0, none⟩ (.int .i64 ((rd_T61 l0 x11_1).f0))).setCell ⟨gb111, 1, none⟩ (.int .i64 ((rd_T61 l0 x11_1).f1))) = w18 at n0_ n1_ ⊢
        (have BK111 := n0_; have HB := n1_; clear n0_ n1_)
        replace BK111 := zqj (zqb BK111.out); replace HB := zqj (zqf HB.out)
        refine start_ (n := 28) (S := fun w' => w'.cell? ⟨gb111, 0, none⟩ = some (.int .i64 ((rd_T61 l0 x11_1).f0)) ∧ w'.cell? ⟨gb111, 1, none⟩ = some (.int .i64 ((rd_T61 l0 x11_1).f1))) (ds := []) #[false, false, false, false, false, false, false, false, false, false, false, false, false, false, false, false, false, false, false, false, false, false, false, false, false, false, false, false] (by kernel_rfl) rfl rfl ⟨(blk_cell BK111.out 0).trans rfl, (blk_cell BK111.out 1).trans rfl⟩ (fun hHeld => ?_); refine with_tabW api_Count_41.tab4 api_Count_41.bits4 (fun HT_ HW_ => ?_)
        generalize w18.drew = w19 at BK111 HB hHeld ⊢
        refine zp 0 16 (zb 28 1) HT_.out ?_
        refine zt 1 17 (zb 28 3) HT_.out HW_.out hHeld ?_
        refine one_ (i := 2) (N := some 18) (zb 28 7) rfl rfl (one_of HT_.out (by kernel_rfl)) (by decide) (fun K hK => ?_)
        refine goesT_ Try.func34 (by kernel_rfl) rfl #[.agg #[.int .i64 ((rd_T61 l0 x11_1).f0), .int .i64 ((rd_T61 l0 x11_1).f1)]] (by rfl) rfl rfl (by rfl) zra ?_
        with_reducible refine (store_counted.calls ((rd_T61 l0 x11_1).f0) ((rd_T61 l0 x11_1).f1) t112 _ A7.out).mono ?_
        rintro e w20 ⟨rfl, hb⟩
        refine ⟨_, rfl, ?_⟩
        replace BK111 := zqj (blk_below (g := gb111) (o := .cells #[.int .i64 ((rd_T61 l0 x11_1).f0), .int .i64 ((rd_T61 l0 x11_1).f1)] 61 (0, 0)) (zrb BK111.out) hb); replace HB := zqj (below_step (zrd1 HB.out GE111.out) hb)
        (try clear hb); (try clear hb2); (try clear hk); (try clear hi)
        refine hK.out _ _ ⟨(blk_cell BK111.out 0).trans rfl, (blk_cell BK111.out 1).trans rfl⟩ (fun hHeld => ?_)
        clear hK K
        refine norm_ (a' := ?_) ?_ ?_
        rotate_left
        ·show Act.put _ (some 18) _ = _
         simp only [Act.put, zqk, zql, zqm, i64_w, i32_w]
         rfl
        refine zp 3 19 (zb 28 15) HT_.out ?_
        refine zp 4 20 (zb 28 31) HT_.out ?_
        refine zp 5 21 (zb 28 63) HT_.out ?_
        refine zp 8 24 (zb 28 319) HT_.out ?_
        refine zt 6 22 (zb 28 383) HT_.out HW_.out hHeld ?_
        refine one_ (i := 7) (N := some 23) (zb 28 511) rfl rfl (one_of HT_.out (by kernel_rfl)) (by decide) (fun K hK => ?_)
        refine goesT_ Try.func34 (by kernel_rfl) rfl #[.agg #[.int .i64 ((rd_T61 l0 x11_1).f0), .int .i64 ((rd_T61 l0 x11_1).f1)]] (by rfl) rfl rfl (by rfl) zra ?_
        with_reducible refine (store_counted.calls ((rd_T61 l0 x11_1).f0) ((rd_T61 l0 x11_1).f1) t113 _ A14.out).mono ?_
        rintro e w21 ⟨rfl, hb⟩
        refine ⟨_, rfl, ?_⟩
        replace BK111 := zqj (blk_below (g := gb111) (o := .cells #[.int .i64 ((rd_T61 l0 x11_1).f0), .int .i64 ((rd_T61 l0 x11_1).f1)] 61 (0, 0)) (zrb BK111.out) hb); replace HB := zqj (below_step (zrd1 HB.out GE111.out) hb)
        (try clear hb); (try clear hb2); (try clear hk); (try clear hi)
        refine hK.out _ _ ⟨(blk_cell BK111.out 0).trans rfl, (blk_cell BK111.out 1).trans rfl⟩ (fun hHeld => ?_)
        clear hK K
        refine norm_ (a' := ?_) ?_ ?_
        rotate_left
        ·show Act.put _ (some 23) _ = _
         simp only [Act.put, zqk, zql, zqm, i64_w, i32_w]
         rfl
        refine zp 9 25 (zb 28 1023) HT_.out ?_
        refine zp 10 26 (zb 28 2047) HT_.out ?_
        refine zp 11 27 (zb 28 4095) HT_.out ?_
        refine zq 12 28 (zb 28 8191) HT_.out ?_
        refine zq 13 29 (zb 28 16383) HT_.out ?_
        refine zq 14 30 (zb 28 32767) HT_.out ?_
        refine zq 15 31 (zb 28 65535) HT_.out ?_
        refine zq 16 32 (zb 28 131071) HT_.out ?_
        refine zq 17 33 (zb 28 262143) HT_.out ?_
        refine zq 18 34 (zb 28 524287) HT_.out ?_
        refine zq 19 35 (zb 28 1048575) HT_.out ?_
        refine zq 20 36 (zb 28 2097151) HT_.out ?_
        refine zq 21 37 (zb 28 4194303) HT_.out ?_
        refine zq 22 38 (zb 28 8388607) HT_.out ?_
        refine zq 23 39 (zb 28 16777215) HT_.out ?_
        refine zq 24 40 (zb 28 33554431) HT_.out ?_
        refine zq 25 41 (zb 28 67108863) HT_.out ?_
        refine zq 26 42 (zb 28 134217727) HT_.out ?_
        refine zp 27 43 (zb 28 268435455) HT_.out ?_
        refine done_ (done_of HT_.out (by kernel_rfl)) ?_
        try go_wp2
        go_ret
        exact ⟨zru, by repeat (first | (with_reducible first | exact HB.out | apply zqg | apply zqe | apply zqf | refine zqd ?_ GE111.out) | exact HB.out)⟩
       ·rw [if_neg c15] at H
        have c15b0 : decide (a1 < t113) = false := decide_eq_false c15
        clear c15
        by_cases c22 : x11_1 > 0
        ·rw [if_pos c22] at H
         have c22b0 : decide (0 < x11_1) = true := decide_eq_true c22
         clear c22
         obtain ⟨ji23, hji23⟩ : ∃ j_ : Int, (wrap64 (x11_1 - 1)) = j_ := ⟨_, rfl⟩
         replace H : (if 0 ≤ (ji23) then (if (ji23) < (l0.length : Int) then ((store_counted.f ((rd_T61 l0 (ji23)).f0) ((rd_T61 l0 (ji23)).f1)).bind fun t115 => ((store_counted.f ((rd_T61 l0 x11_1).f0) ((rd_T61 l0 x11_1).f1)).bind fun t116 => (if t115 ≥ t116 then (some false) else (api_Count_41.l0 k1 l0 a1 l0 (l0.length : Int) (wrap64 (x11_1 + 1)))))) else (none)) else (none)) = some r := by first | (rw [hji23] at H; exact H) | (simp only [hji23] at H ⊢; exact H)
         (try rw [hji23] at A7)
         (try rw [hji23] at A14)
         have hji23w : (IntKind.i64.wrap (x11_1 - 1)) = ji23 := (i64_w _).trans hji23
         by_cases c24 : 0 ≤ (ji23)
         ·rw [if_pos c24] at H
          have c24b0 : decide (0 ≤ (ji23)) = true := decide_eq_true c24
          clear c24
          by_cases c25 : (ji23) < (l0.length : Int)
          ·rw [if_pos c25] at H
           have c25b0 : decide ((ji23) < (l0.length : Int)) = true := decide_eq_true c25
           clear c25
           replace H := zqn H
           obtain ⟨t115, A260, H⟩ := H
           replace H : ((store_counted.f ((rd_T61 l0 x11_1).f0) ((rd_T61 l0 x11_1).f1)).bind fun t116 => (if t115 ≥ t116 then (some false) else (api_Count_41.l0 k1 l0 a1 l0 (l0.length : Int) (wrap64 (x11_1 + 1))))) = some r := H
           have A26 := zqj A260
           clear A260
           replace H := zqn H
           obtain ⟨t116, A270, H⟩ := H
           replace H : (if t115 ≥ t116 then (some false) else (api_Count_41.l0 k1 l0 a1 l0 (l0.length : Int) (wrap64 (x11_1 + 1)))) = some r := H
           have A27 := zqj A270
           clear A270
           by_cases c28 : t115 ≥ t116
           ·rw [if_pos c28] at H
            have c28b0 : decide (t116 ≤ t115) = true := decide_eq_true c28
            clear c28
            obtain rfl := Option.some.inj H
            have p110 : 0 ≤ (x11_1 : Int) := zqh zrs
            have q110 : x11_1 < (l0.length : Int) := zqh zrs
            obtain ⟨ad110, e110, hx110_0, hx110_1⟩ := at_T61 HR0.out x11_1 p110 q110
            cases e110
            replace hx110_0 := zx HB.out hx110_0
            replace hx110_1 := zx HB.out hx110_1
            replace p110 := eq_true p110
            replace q110 := eq_true q110
            try go_wp2_with (first | ((with_reducible refine gate_dst (N := 8) rfl ?_); refine box_event ?hg (N := 8) ?hd (cs := #[.int .i64 0, .int .i64 0]) (t := 61) ?hr ?_; (case hd => rfl); (case hg => rfl); (case hr => exact zrr); intro gb111 hg w29 hbox hb; have n0_ := zqj (below_step (zrd0 HB.out) hb); have n1_ := zqj (hbox); have n2_ : Aside0 (w.heap.size ≤ gb111) := ⟨by rw [hg]; exact below_size (zrd0 HB.out)⟩; have n3_ := n2_; clear HB; have HB := n0_; have BK111 := n1_; have GW111 := n2_; have GE111 := n3_; clear n0_ n1_ n2_ n3_; clear hb hbox hg; obtain ⟨hcz30_0, hcz30_1⟩ := zc2 BK111.out; obtain ⟨hfz30_0, hfz30_1⟩ := zf2 BK111.out))
            have n0_ : Aside0 (((w29.setCell ⟨gb111, 0, none⟩ (.int .i64 ((rd_T61 l0 x11_1).f0))).setCell ⟨gb111, 1, none⟩ (.int .i64 ((rd_T61 l0 x11_1).f1))).heap[gb111]? = some (.cells #[.int .i64 ((rd_T61 l0 x11_1).f0), .int .i64 ((rd_T61 l0 x11_1).f1)] 61 (0, 0))) := ⟨by (with_reducible repeat (first | refine zqa ?_ _ | refine zqb ?_ | refine zqc ?_ _)); refine blk_put (cs := #[.int .i64 ((rd_T61 l0 x11_1).f0), .int .i64 0]) ?_ 1 _ rfl; (with_reducible repeat (first | refine zqa ?_ _ | refine zqb ?_ | refine zqc ?_ _)); refine blk_put (cs := #[.int .i64 0, .int .i64 0]) ?_ 0 _ rfl; (with_reducible repeat (first | refine zqa ?_ _ | refine zqb ?_ | refine zqc ?_ _)); exact BK111.out⟩
            have n1_ : Aside0 (Below w.heap.size w ((w29.setCell ⟨gb111, 0, none⟩ (.int .i64 ((rd_T61 l0 x11_1).f0))).setCell ⟨gb111, 1, none⟩ (.int .i64 ((rd_T61 l0 x11_1).f1)))) := ⟨by repeat (first | (with_reducible first | exact HB.out | apply zqg | apply zqe | apply zqf | refine zqd ?_ GE111.out) | exact HB.out)⟩
            ((try clear BK111); (try clear HB))
            generalize ((w29.setCell ⟨gb111, 0, none⟩ (.int .i64 ((rd_T61 l0 x11_1).f0))).setCell ⟨gb111, 1, none⟩ (.int .i64 ((rd_T61 l0 x11_1).f1))) = w31 at n0_ n1_ ⊢
            (have BK111 := n0_; have HB := n1_; clear n0_ n1_)
            replace BK111 := zqj (zqb BK111.out); replace HB := zqj (zqf HB.out)
            have p114 : 0 ≤ ((ji23) : Int) := zqh zrs
            have q114 : (ji23) < (l0.length : Int) := zqh zrs
            obtain ⟨ad114, e114, hx114_0, hx114_1⟩ := at_T61 HR0.out (ji23) p114 q114
            have hw114_1 := hx114_1
            have hw114_0 := hx114_0
            obtain rfl : ad110 = ad114 := (by injection e114)
            replace hx114_0 := zx HB.out hx114_0
            replace hx114_1 := zx HB.out hx114_1
            replace p114 := eq_true p114
            replace q114 := eq_true q114
            refine start_ (n := 28) (S := fun w' => w'.cell? ⟨gb111, 0, none⟩ = some (.int .i64 ((rd_T61 l0 x11_1).f0)) ∧ w'.cell? ⟨gb111, 1, none⟩ = some (.int .i64 ((rd_T61 l0 x11_1).f1)) ∧ w'.cell? (ad110.add (((ji23)).toNat * 2)) = some (.int .i64 ((rd_T61 l0 (ji23)).f0)) ∧ w'.cell? ⟨(ad110.add (((ji23)).toNat * 2)).block, (ad110.add (((ji23)).toNat * 2)).off + 1, none⟩ = some (.int .i64 ((rd_T61 l0 (ji23)).f1))) (ds := []) #[false, false, false, false, false, false, false, false, false, false, false, false, false, false, false, false, false, false, false, false, false, false, false, false, false, false, false, false] (by kernel_rfl) rfl rfl ⟨(blk_cell BK111.out 0).trans rfl, (blk_cell BK111.out 1).trans rfl, ((HB.out.cell (World.block_lt_of_cell? w _ hw114_0)).trans hw114_0), ((HB.out.cell (World.block_lt_of_cell? w _ hw114_1)).trans hw114_1)⟩ (fun hHeld => ?_); refine with_tabW api_Count_41.tab4 api_Count_41.bits4 (fun HT_ HW_ => ?_)
            generalize w31.drew = w32 at BK111 HB hx114_0 hx114_1 hHeld ⊢
            refine zp 0 16 (zb 28 1) HT_.out ?_
            refine zt 1 17 (zb 28 3) HT_.out HW_.out hHeld ?_
            refine one_ (i := 2) (N := some 18) (zb 28 7) rfl rfl (one_of HT_.out (by kernel_rfl)) (by decide) (fun K hK => ?_)
            refine goesT_ Try.func34 (by kernel_rfl) rfl #[.agg #[.int .i64 ((rd_T61 l0 x11_1).f0), .int .i64 ((rd_T61 l0 x11_1).f1)]] (by rfl) rfl rfl (by rfl) zra ?_
            with_reducible refine (store_counted.calls ((rd_T61 l0 x11_1).f0) ((rd_T61 l0 x11_1).f1) t112 _ A7.out).mono ?_
            rintro e w33 ⟨rfl, hb⟩
            refine ⟨_, rfl, ?_⟩
            replace BK111 := zqj (blk_below (g := gb111) (o := .cells #[.int .i64 ((rd_T61 l0 x11_1).f0), .int .i64 ((rd_T61 l0 x11_1).f1)] 61 (0, 0)) (zrb BK111.out) hb); replace HB := zqj (below_step (zrd1 HB.out GE111.out) hb)
            (try clear hb); (try clear hb2); (try clear hk); (try clear hi)
            refine hK.out _ _ ⟨(blk_cell BK111.out 0).trans rfl, (blk_cell BK111.out 1).trans rfl, ((HB.out.cell (World.block_lt_of_cell? w _ hw114_0)).trans hw114_0), ((HB.out.cell (World.block_lt_of_cell? w _ hw114_1)).trans hw114_1)⟩ (fun hHeld => ?_)
            clear hK K
            refine norm_ (a' := ?_) ?_ ?_
            rotate_left
            ·show Act.put _ (some 18) _ = _
             simp only [Act.put, zqk, zql, zqm, i64_w, i32_w]
             rfl
            refine zp 3 19 (zb 28 15) HT_.out ?_
            refine zp 4 20 (zb 28 31) HT_.out ?_
            refine zp 5 21 (zb 28 63) HT_.out ?_
            refine zp 8 24 (zb 28 319) HT_.out ?_
            refine zt 6 22 (zb 28 383) HT_.out HW_.out hHeld ?_
            refine one_ (i := 7) (N := some 23) (zb 28 511) rfl rfl (one_of HT_.out (by kernel_rfl)) (by decide) (fun K hK => ?_)
            refine goesT_ Try.func34 (by kernel_rfl) rfl #[.agg #[.int .i64 ((rd_T61 l0 x11_1).f0), .int .i64 ((rd_T61 l0 x11_1).f1)]] (by rfl) rfl rfl (by rfl) zra ?_
            with_reducible refine (store_counted.calls ((rd_T61 l0 x11_1).f0) ((rd_T61 l0 x11_1).f1) t113 _ A14.out).mono ?_
            rintro e w34 ⟨rfl, hb⟩
            refine ⟨_, rfl, ?_⟩
            replace BK111 := zqj (blk_below (g := gb111) (o := .cells #[.int .i64 ((rd_T61 l0 x11_1).f0), .int .i64 ((rd_T61 l0 x11_1).f1)] 61 (0, 0)) (zrb BK111.out) hb); replace HB := zqj (below_step (zrd1 HB.out GE111.out) hb)
            (try clear hb); (try clear hb2); (try clear hk); (try clear hi)
            refine hK.out _ _ ⟨(blk_cell BK111.out 0).trans rfl, (blk_cell BK111.out 1).trans rfl, ((HB.out.cell (World.block_lt_of_cell? w _ hw114_0)).trans hw114_0), ((HB.out.cell (World.block_lt_of_cell? w _ hw114_1)).trans hw114_1)⟩ (fun hHeld => ?_)
            clear hK K
            refine norm_ (a' := ?_) ?_ ?_
            rotate_left
            ·show Act.put _ (some 23) _ = _
             simp only [Act.put, zqk, zql, zqm, i64_w, i32_w]
             rfl
            refine zp 9 25 (zb 28 1023) HT_.out ?_
            refine zp 10 26 (zb 28 2047) HT_.out ?_
            refine zp 11 27 (zb 28 4095) HT_.out ?_
            refine zp 12 28 (zb 28 8191) HT_.out ?_
            refine zp 13 29 (zb 28 16383) HT_.out ?_
            refine zp 14 30 (zb 28 32767) HT_.out ?_
            refine zp 15 31 (zb 28 65535) HT_.out ?_
            refine zp 16 32 (zb 28 131071) HT_.out ?_
            refine zp 17 33 (zb 28 262143) HT_.out ?_
            refine zp 18 34 (zb 28 524287) HT_.out ?_
            refine zp 19 35 (zb 28 1048575) HT_.out ?_
            refine zp 22 38 (zb 28 5242879) HT_.out ?_
            refine zt 20 36 (zb 28 6291455) HT_.out HW_.out hHeld ?_
            refine zt 23 39 (zb 28 14680063) HT_.out HW_.out hHeld ?_
            refine one_ (i := 21) (N := some 37) (zb 28 16777215) rfl rfl (one_of HT_.out (by kernel_rfl)) (by decide) (fun K hK => ?_)
            refine goesT_ Try.func34 (by kernel_rfl) rfl #[.agg #[.int .i64 ((rd_T61 l0 (ji23)).f0), .int .i64 ((rd_T61 l0 (ji23)).f1)]] (by rfl) rfl rfl (by rfl) (by (try simp only [List.map_toArray, List.map_cons, List.map_nil]); first | done | (simp only [hji23]; rfl) | rfl | (simp only [List.length_drop, List.length_take]; rfl)) ?_
            with_reducible refine (store_counted.calls ((rd_T61 l0 (ji23)).f0) ((rd_T61 l0 (ji23)).f1) t115 _ A26.out).mono ?_
            rintro e w35 ⟨rfl, hb⟩
            refine ⟨_, rfl, ?_⟩
            replace BK111 := zqj (blk_below (g := gb111) (o := .cells #[.int .i64 ((rd_T61 l0 x11_1).f0), .int .i64 ((rd_T61 l0 x11_1).f1)] 61 (0, 0)) (zrb BK111.out) hb); replace HB := zqj (below_step (zrd1 HB.out GE111.out) hb)
            (try clear hb); (try clear hb2); (try clear hk); (try clear hi)
            refine hK.out _ _ ⟨(blk_cell BK111.out 0).trans rfl, (blk_cell BK111.out 1).trans rfl, ((HB.out.cell (World.block_lt_of_cell? w _ hw114_0)).trans hw114_0), ((HB.out.cell (World.block_lt_of_cell? w _ hw114_1)).trans hw114_1)⟩ (fun hHeld => ?_)
            clear hK K
            refine norm_ (a' := ?_) ?_ ?_
            rotate_left
            ·show Act.put _ (some 37) _ = _
             simp only [Act.put, zqk, zql, zqm, i64_w, i32_w]
             rfl
            refine one_ (i := 24) (N := some 40) (zb 28 33554431) rfl rfl (one_of HT_.out (by kernel_rfl)) (by decide) (fun K hK => ?_)
            refine goesT_ Try.func34 (by kernel_rfl) rfl #[.agg #[.int .i64 ((rd_T61 l0 x11_1).f0), .int .i64 ((rd_T61 l0 x11_1).f1)]] (by rfl) rfl rfl (by rfl) zra ?_
            with_reducible refine (store_counted.calls ((rd_T61 l0 x11_1).f0) ((rd_T61 l0 x11_1).f1) t116 _ A27.out).mono ?_
            rintro e w36 ⟨rfl, hb⟩
            refine ⟨_, rfl, ?_⟩
            replace BK111 := zqj (blk_below (g := gb111) (o := .cells #[.int .i64 ((rd_T61 l0 x11_1).f0), .int .i64 ((rd_T61 l0 x11_1).f1)] 61 (0, 0)) (zrb BK111.out) hb); replace HB := zqj (below_step (zrd1 HB.out GE111.out) hb)
            (try clear hb); (try clear hb2); (try clear hk); (try clear hi)
            refine hK.out _ _ ⟨(blk_cell BK111.out 0).trans rfl, (blk_cell BK111.out 1).trans rfl, ((HB.out.cell (World.block_lt_of_cell? w _ hw114_0)).trans hw114_0), ((HB.out.cell (World.block_lt_of_cell? w _ hw114_1)).trans hw114_1)⟩ (fun hHeld => ?_)
            clear hK K
            refine norm_ (a' := ?_) ?_ ?_
            rotate_left
            ·show Act.put _ (some 40) _ = _
             simp only [Act.put, zqk, zql, zqm, i64_w, i32_w]
             rfl
            refine zp 25 41 (zb 28 67108863) HT_.out ?_
            refine zp 26 42 (zb 28 134217727) HT_.out ?_
            refine zp 27 43 (zb 28 268435455) HT_.out ?_
            refine done_ (done_of HT_.out (by kernel_rfl)) ?_
            try go_wp2
            go_ret
            exact ⟨by first | rfl | (simp [errW_none, errW_some] <;> rfl) | (simp only [← hji23]; first | rfl | (simp [errW_none, errW_some] <;> rfl)) | (simp [*, errW_none, errW_some] <;> rfl), by repeat (first | (with_reducible first | exact HB.out | apply zqg | apply zqe | apply zqf | refine zqd ?_ GE111.out) | exact HB.out)⟩
           ·rw [if_neg c28] at H
            have c28b0 : decide (t116 ≤ t115) = false := decide_eq_false c28
            clear c28
            have H' := zqj H
            clear H
            have p110 : 0 ≤ (x11_1 : Int) := zqh zrs
            have q110 : x11_1 < (l0.length : Int) := zqh zrs
            obtain ⟨ad110, e110, hx110_0, hx110_1⟩ := at_T61 HR0.out x11_1 p110 q110
            cases e110
            replace hx110_0 := zx HB.out hx110_0
            replace hx110_1 := zx HB.out hx110_1
            replace p110 := eq_true p110
            replace q110 := eq_true q110
            try go_wp2_with (first | ((with_reducible refine gate_dst (N := 8) rfl ?_); refine box_event ?hg (N := 8) ?hd (cs := #[.int .i64 0, .int .i64 0]) (t := 61) ?hr ?_; (case hd => rfl); (case hg => rfl); (case hr => exact zrr); intro gb111 hg w37 hbox hb; have n0_ := zqj (below_step (zrd0 HB.out) hb); have n1_ := zqj (hbox); have n2_ : Aside0 (w.heap.size ≤ gb111) := ⟨by rw [hg]; exact below_size (zrd0 HB.out)⟩; have n3_ := n2_; clear HB; have HB := n0_; have BK111 := n1_; have GW111 := n2_; have GE111 := n3_; clear n0_ n1_ n2_ n3_; clear hb hbox hg; obtain ⟨hcz38_0, hcz38_1⟩ := zc2 BK111.out; obtain ⟨hfz38_0, hfz38_1⟩ := zf2 BK111.out))
            have n0_ : Aside0 (((w37.setCell ⟨gb111, 0, none⟩ (.int .i64 ((rd_T61 l0 x11_1).f0))).setCell ⟨gb111, 1, none⟩ (.int .i64 ((rd_T61 l0 x11_1).f1))).heap[gb111]? = some (.cells #[.int .i64 ((rd_T61 l0 x11_1).f0), .int .i64 ((rd_T61 l0 x11_1).f1)] 61 (0, 0))) := ⟨by (with_reducible repeat (first | refine zqa ?_ _ | refine zqb ?_ | refine zqc ?_ _)); refine blk_put (cs := #[.int .i64 ((rd_T61 l0 x11_1).f0), .int .i64 0]) ?_ 1 _ rfl; (with_reducible repeat (first | refine zqa ?_ _ | refine zqb ?_ | refine zqc ?_ _)); refine blk_put (cs := #[.int .i64 0, .int .i64 0]) ?_ 0 _ rfl; (with_reducible repeat (first | refine zqa ?_ _ | refine zqb ?_ | refine zqc ?_ _)); exact BK111.out⟩
            have n1_ : Aside0 (Below w.heap.size w ((w37.setCell ⟨gb111, 0, none⟩ (.int .i64 ((rd_T61 l0 x11_1).f0))).setCell ⟨gb111, 1, none⟩ (.int .i64 ((rd_T61 l0 x11_1).f1)))) := ⟨by repeat (first | (with_reducible first | exact HB.out | apply zqg | apply zqe | apply zqf | refine zqd ?_ GE111.out) | exact HB.out)⟩
            ((try clear BK111); (try clear HB))
            generalize ((w37.setCell ⟨gb111, 0, none⟩ (.int .i64 ((rd_T61 l0 x11_1).f0))).setCell ⟨gb111, 1, none⟩ (.int .i64 ((rd_T61 l0 x11_1).f1))) = w39 at n0_ n1_ ⊢
            (have BK111 := n0_; have HB := n1_; clear n0_ n1_)
            replace BK111 := zqj (zqb BK111.out); replace HB := zqj (zqf HB.out)
            have p114 : 0 ≤ ((ji23) : Int) := zqh zrs
            have q114 : (ji23) < (l0.length : Int) := zqh zrs
            obtain ⟨ad114, e114, hx114_0, hx114_1⟩ := at_T61 HR0.out (ji23) p114 q114
            have hw114_1 := hx114_1
            have hw114_0 := hx114_0
            obtain rfl : ad110 = ad114 := (by injection e114)
            replace hx114_0 := zx HB.out hx114_0
            replace hx114_1 := zx HB.out hx114_1
            replace p114 := eq_true p114
            replace q114 := eq_true q114
            refine start_ (n := 28) (S := fun w' => w'.cell? ⟨gb111, 0, none⟩ = some (.int .i64 ((rd_T61 l0 x11_1).f0)) ∧ w'.cell? ⟨gb111, 1, none⟩ = some (.int .i64 ((rd_T61 l0 x11_1).f1)) ∧ w'.cell? (ad110.add (((ji23)).toNat * 2)) = some (.int .i64 ((rd_T61 l0 (ji23)).f0)) ∧ w'.cell? ⟨(ad110.add (((ji23)).toNat * 2)).block, (ad110.add (((ji23)).toNat * 2)).off + 1, none⟩ = some (.int .i64 ((rd_T61 l0 (ji23)).f1))) (ds := []) #[false, false, false, false, false, false, false, false, false, false, false, false, false, false, false, false, false, false, false, false, false, false, false, false, false, false, false, false] (by kernel_rfl) rfl rfl ⟨(blk_cell BK111.out 0).trans rfl, (blk_cell BK111.out 1).trans rfl, ((HB.out.cell (World.block_lt_of_cell? w _ hw114_0)).trans hw114_0), ((HB.out.cell (World.block_lt_of_cell? w _ hw114_1)).trans hw114_1)⟩ (fun hHeld => ?_); refine with_tabW api_Count_41.tab4 api_Count_41.bits4 (fun HT_ HW_ => ?_)
            generalize w39.drew = w40 at BK111 HB hx114_0 hx114_1 hHeld ⊢
            refine zp 0 16 (zb 28 1) HT_.out ?_
            refine zt 1 17 (zb 28 3) HT_.out HW_.out hHeld ?_
            refine one_ (i := 2) (N := some 18) (zb 28 7) rfl rfl (one_of HT_.out (by kernel_rfl)) (by decide) (fun K hK => ?_)
            refine goesT_ Try.func34 (by kernel_rfl) rfl #[.agg #[.int .i64 ((rd_T61 l0 x11_1).f0), .int .i64 ((rd_T61 l0 x11_1).f1)]] (by rfl) rfl rfl (by rfl) zra ?_
            with_reducible refine (store_counted.calls ((rd_T61 l0 x11_1).f0) ((rd_T61 l0 x11_1).f1) t112 _ A7.out).mono ?_
            rintro e w41 ⟨rfl, hb⟩
            refine ⟨_, rfl, ?_⟩
            replace BK111 := zqj (blk_below (g := gb111) (o := .cells #[.int .i64 ((rd_T61 l0 x11_1).f0), .int .i64 ((rd_T61 l0 x11_1).f1)] 61 (0, 0)) (zrb BK111.out) hb); replace HB := zqj (below_step (zrd1 HB.out GE111.out) hb)
            (try clear hb); (try clear hb2); (try clear hk); (try clear hi)
            refine hK.out _ _ ⟨(blk_cell BK111.out 0).trans rfl, (blk_cell BK111.out 1).trans rfl, ((HB.out.cell (World.block_lt_of_cell? w _ hw114_0)).trans hw114_0), ((HB.out.cell (World.block_lt_of_cell? w _ hw114_1)).trans hw114_1)⟩ (fun hHeld => ?_)
            clear hK K
            refine norm_ (a' := ?_) ?_ ?_
            rotate_left
            ·show Act.put _ (some 18) _ = _
             simp only [Act.put, zqk, zql, zqm, i64_w, i32_w]
             rfl
            refine zp 3 19 (zb 28 15) HT_.out ?_
            refine zp 4 20 (zb 28 31) HT_.out ?_
            refine zp 5 21 (zb 28 63) HT_.out ?_
            refine zp 8 24 (zb 28 319) HT_.out ?_
            refine zt 6 22 (zb 28 383) HT_.out HW_.out hHeld ?_
            refine one_ (i := 7) (N := some 23) (zb 28 511) rfl rfl (one_of HT_.out (by kernel_rfl)) (by decide) (fun K hK => ?_)
            refine goesT_ Try.func34 (by kernel_rfl) rfl #[.agg #[.int .i64 ((rd_T61 l0 x11_1).f0), .int .i64 ((rd_T61 l0 x11_1).f1)]] (by rfl) rfl rfl (by rfl) zra ?_
            with_reducible refine (store_counted.calls ((rd_T61 l0 x11_1).f0) ((rd_T61 l0 x11_1).f1) t113 _ A14.out).mono ?_
            rintro e w42 ⟨rfl, hb⟩
            refine ⟨_, rfl, ?_⟩
            replace BK111 := zqj (blk_below (g := gb111) (o := .cells #[.int .i64 ((rd_T61 l0 x11_1).f0), .int .i64 ((rd_T61 l0 x11_1).f1)] 61 (0, 0)) (zrb BK111.out) hb); replace HB := zqj (below_step (zrd1 HB.out GE111.out) hb)
            (try clear hb); (try clear hb2); (try clear hk); (try clear hi)
            refine hK.out _ _ ⟨(blk_cell BK111.out 0).trans rfl, (blk_cell BK111.out 1).trans rfl, ((HB.out.cell (World.block_lt_of_cell? w _ hw114_0)).trans hw114_0), ((HB.out.cell (World.block_lt_of_cell? w _ hw114_1)).trans hw114_1)⟩ (fun hHeld => ?_)
            clear hK K
            refine norm_ (a' := ?_) ?_ ?_
            rotate_left
            ·show Act.put _ (some 23) _ = _
             simp only [Act.put, zqk, zql, zqm, i64_w, i32_w]
             rfl
            refine zp 9 25 (zb 28 1023) HT_.out ?_
            refine zp 10 26 (zb 28 2047) HT_.out ?_
            refine zp 11 27 (zb 28 4095) HT_.out ?_
            refine zp 12 28 (zb 28 8191) HT_.out ?_
            refine zp 13 29 (zb 28 16383) HT_.out ?_
            refine zp 14 30 (zb 28 32767) HT_.out ?_
            refine zp 15 31 (zb 28 65535) HT_.out ?_
            refine zp 16 32 (zb 28 131071) HT_.out ?_
            refine zp 17 33 (zb 28 262143) HT_.out ?_
            refine zp 18 34 (zb 28 524287) HT_.out ?_
            refine zp 19 35 (zb 28 1048575) HT_.out ?_
            refine zp 22 38 (zb 28 5242879) HT_.out ?_
            refine zt 20 36 (zb 28 6291455) HT_.out HW_.out hHeld ?_
            refine zt 23 39 (zb 28 14680063) HT_.out HW_.out hHeld ?_
            refine one_ (i := 21) (N := some 37) (zb 28 16777215) rfl rfl (one_of HT_.out (by kernel_rfl)) (by decide) (fun K hK => ?_)
            refine goesT_ Try.func34 (by kernel_rfl) rfl #[.agg #[.int .i64 ((rd_T61 l0 (ji23)).f0), .int .i64 ((rd_T61 l0 (ji23)).f1)]] (by rfl) rfl rfl (by rfl) (by (try simp only [List.map_toArray, List.map_cons, List.map_nil]); first | done | (simp only [hji23]; rfl) | rfl | (simp only [List.length_drop, List.length_take]; rfl)) ?_
            with_reducible refine (store_counted.calls ((rd_T61 l0 (ji23)).f0) ((rd_T61 l0 (ji23)).f1) t115 _ A26.out).mono ?_
            rintro e w43 ⟨rfl, hb⟩
            refine ⟨_, rfl, ?_⟩
            replace BK111 := zqj (blk_below (g := gb111) (o := .cells #[.int .i64 ((rd_T61 l0 x11_1).f0), .int .i64 ((rd_T61 l0 x11_1).f1)] 61 (0, 0)) (zrb BK111.out) hb); replace HB := zqj (below_step (zrd1 HB.out GE111.out) hb)
            (try clear hb); (try clear hb2); (try clear hk); (try clear hi)
            refine hK.out _ _ ⟨(blk_cell BK111.out 0).trans rfl, (blk_cell BK111.out 1).trans rfl, ((HB.out.cell (World.block_lt_of_cell? w _ hw114_0)).trans hw114_0), ((HB.out.cell (World.block_lt_of_cell? w _ hw114_1)).trans hw114_1)⟩ (fun hHeld => ?_)
            clear hK K
            refine norm_ (a' := ?_) ?_ ?_
            rotate_left
            ·show Act.put _ (some 37) _ = _
             simp only [Act.put, zqk, zql, zqm, i64_w, i32_w]
             rfl
            refine one_ (i := 24) (N := some 40) (zb 28 33554431) rfl rfl (one_of HT_.out (by kernel_rfl)) (by decide) (fun K hK => ?_)
            refine goesT_ Try.func34 (by kernel_rfl) rfl #[.agg #[.int .i64 ((rd_T61 l0 x11_1).f0), .int .i64 ((rd_T61 l0 x11_1).f1)]] (by rfl) rfl rfl (by rfl) zra ?_
            with_reducible refine (store_counted.calls ((rd_T61 l0 x11_1).f0) ((rd_T61 l0 x11_1).f1) t116 _ A27.out).mono ?_
            rintro e w44 ⟨rfl, hb⟩
            refine ⟨_, rfl, ?_⟩
            replace BK111 := zqj (blk_below (g := gb111) (o := .cells #[.int .i64 ((rd_T61 l0 x11_1).f0), .int .i64 ((rd_T61 l0 x11_1).f1)] 61 (0, 0)) (zrb BK111.out) hb); replace HB := zqj (below_step (zrd1 HB.out GE111.out) hb)
            (try clear hb); (try clear hb2); (try clear hk); (try clear hi)
            refine hK.out _ _ ⟨(blk_cell BK111.out 0).trans rfl, (blk_cell BK111.out 1).trans rfl, ((HB.out.cell (World.block_lt_of_cell? w _ hw114_0)).trans hw114_0), ((HB.out.cell (World.block_lt_of_cell? w _ hw114_1)).trans hw114_1)⟩ (fun hHeld => ?_)
            clear hK K
            refine norm_ (a' := ?_) ?_ ?_
            rotate_left
            ·show Act.put _ (some 40) _ = _
             simp only [Act.put, zqk, zql, zqm, i64_w, i32_w]
             rfl
            refine zp 25 41 (zb 28 67108863) HT_.out ?_
            refine zp 26 42 (zb 28 134217727) HT_.out ?_
            refine zp 27 43 (zb 28 268435455) HT_.out ?_
            refine done_ (done_of HT_.out (by kernel_rfl)) ?_
            try go_wp2
            go_roundg k1
            case measure => have := HK1.out; omega
            case rel => exact ⟨(wrap64 (x11_1 + 1)), zrt, H', ⟨by have := HK1.out; omega⟩, ⟨by repeat (first | (with_reducible first | exact HB.out | apply zqg | apply zqe | apply zqf | refine zqd ?_ GE111.out) | exact HB.out)⟩⟩
          ·rw [if_neg c25] at H
           exact absurd H (by simp)
         ·rw [if_neg c24] at H
          exact absurd H (by simp)
        ·rw [if_neg c22] at H
         have c22b0 : decide (0 < x11_1) = false := decide_eq_false c22
         clear c22
         have H' := zqj H
         clear H
         have p110 : 0 ≤ (x11_1 : Int) := zqh zrs
         have q110 : x11_1 < (l0.length : Int) := zqh zrs
         obtain ⟨ad110, e110, hx110_0, hx110_1⟩ := at_T61 HR0.out x11_1 p110 q110
         cases e110
         replace hx110_0 := zx HB.out hx110_0
         replace hx110_1 := zx HB.out hx110_1
         replace p110 := eq_true p110
         replace q110 := eq_true q110
         try go_wp2_with (first | ((with_reducible refine gate_dst (N := 8) rfl ?_); refine box_event ?hg (N := 8) ?hd (cs := #[.int .i64 0, .int .i64 0]) (t := 61) ?hr ?_; (case hd => rfl); (case hg => rfl); (case hr => exact zrr); intro gb111 hg w45 hbox hb; have n0_ := zqj (below_step (zrd0 HB.out) hb); have n1_ := zqj (hbox); have n2_ : Aside0 (w.heap.size ≤ gb111) := ⟨by rw [hg]; exact below_size (zrd0 HB.out)⟩; have n3_ := n2_; clear HB; have HB := n0_; have BK111 := n1_; have GW111 := n2_; have GE111 := n3_; clear n0_ n1_ n2_ n3_; clear hb hbox hg; obtain ⟨hcz46_0, hcz46_1⟩ := zc2 BK111.out; obtain ⟨hfz46_0, hfz46_1⟩ := zf2 BK111.out))
         have n0_ : Aside0 (((w45.setCell ⟨gb111, 0, none⟩ (.int .i64 ((rd_T61 l0 x11_1).f0))).setCell ⟨gb111, 1, none⟩ (.int .i64 ((rd_T61 l0 x11_1).f1))).heap[gb111]? = some (.cells #[.int .i64 ((rd_T61 l0 x11_1).f0), .int .i64 ((rd_T61 l0 x11_1).f1)] 61 (0, 0))) := ⟨by (with_reducible repeat (first | refine zqa ?_ _ | refine zqb ?_ | refine zqc ?_ _)); refine blk_put (cs := #[.int .i64 ((rd_T61 l0 x11_1).f0), .int .i64 0]) ?_ 1 _ rfl; (with_reducible repeat (first | refine zqa ?_ _ | refine zqb ?_ | refine zqc ?_ _)); refine blk_put (cs := #[.int .i64 0, .int .i64 0]) ?_ 0 _ rfl; (with_reducible repeat (first | refine zqa ?_ _ | refine zqb ?_ | refine zqc ?_ _)); exact BK111.out⟩
         have n1_ : Aside0 (Below w.heap.size w ((w45.setCell ⟨gb111, 0, none⟩ (.int .i64 ((rd_T61 l0 x11_1).f0))).setCell ⟨gb111, 1, none⟩ (.int .i64 ((rd_T61 l0 x11_1).f1)))) := ⟨by repeat (first | (with_reducible first | exact HB.out | apply zqg | apply zqe | apply zqf | refine zqd ?_ GE111.out) | exact HB.out)⟩
         ((try clear BK111); (try clear HB))
         generalize ((w45.setCell ⟨gb111, 0, none⟩ (.int .i64 ((rd_T61 l0 x11_1).f0))).setCell ⟨gb111, 1, none⟩ (.int .i64 ((rd_T61 l0 x11_1).f1))) = w47 at n0_ n1_ ⊢
         (have BK111 := n0_; have HB := n1_; clear n0_ n1_)
         replace BK111 := zqj (zqb BK111.out); replace HB := zqj (zqf HB.out)
         refine start_ (n := 28) (S := fun w' => w'.cell? ⟨gb111, 0, none⟩ = some (.int .i64 ((rd_T61 l0 x11_1).f0)) ∧ w'.cell? ⟨gb111, 1, none⟩ = some (.int .i64 ((rd_T61 l0 x11_1).f1))) (ds := []) #[false, false, false, false, false, false, false, false, false, false, false, false, false, false, false, false, false, false, false, false, false, false, false, false, false, false, false, false] (by kernel_rfl) rfl rfl ⟨(blk_cell BK111.out 0).trans rfl, (blk_cell BK111.out 1).trans rfl⟩ (fun hHeld => ?_); refine with_tabW api_Count_41.tab4 api_Count_41.bits4 (fun HT_ HW_ => ?_)
         generalize w47.drew = w48 at BK111 HB hHeld ⊢
         refine zp 0 16 (zb 28 1) HT_.out ?_
         refine zt 1 17 (zb 28 3) HT_.out HW_.out hHeld ?_
         refine one_ (i := 2) (N := some 18) (zb 28 7) rfl rfl (one_of HT_.out (by kernel_rfl)) (by decide) (fun K hK => ?_)
         refine goesT_ Try.func34 (by kernel_rfl) rfl #[.agg #[.int .i64 ((rd_T61 l0 x11_1).f0), .int .i64 ((rd_T61 l0 x11_1).f1)]] (by rfl) rfl rfl (by rfl) zra ?_
         with_reducible refine (store_counted.calls ((rd_T61 l0 x11_1).f0) ((rd_T61 l0 x11_1).f1) t112 _ A7.out).mono ?_
         rintro e w49 ⟨rfl, hb⟩
         refine ⟨_, rfl, ?_⟩
         replace BK111 := zqj (blk_below (g := gb111) (o := .cells #[.int .i64 ((rd_T61 l0 x11_1).f0), .int .i64 ((rd_T61 l0 x11_1).f1)] 61 (0, 0)) (zrb BK111.out) hb); replace HB := zqj (below_step (zrd1 HB.out GE111.out) hb)
         (try clear hb); (try clear hb2); (try clear hk); (try clear hi)
         refine hK.out _ _ ⟨(blk_cell BK111.out 0).trans rfl, (blk_cell BK111.out 1).trans rfl⟩ (fun hHeld => ?_)
         clear hK K
         refine norm_ (a' := ?_) ?_ ?_
         rotate_left
         ·show Act.put _ (some 18) _ = _
          simp only [Act.put, zqk, zql, zqm, i64_w, i32_w]
          rfl
         refine zp 3 19 (zb 28 15) HT_.out ?_
         refine zp 4 20 (zb 28 31) HT_.out ?_
         refine zp 5 21 (zb 28 63) HT_.out ?_
         refine zp 8 24 (zb 28 319) HT_.out ?_
         refine zt 6 22 (zb 28 383) HT_.out HW_.out hHeld ?_
         refine one_ (i := 7) (N := some 23) (zb 28 511) rfl rfl (one_of HT_.out (by kernel_rfl)) (by decide) (fun K hK => ?_)
         refine goesT_ Try.func34 (by kernel_rfl) rfl #[.agg #[.int .i64 ((rd_T61 l0 x11_1).f0), .int .i64 ((rd_T61 l0 x11_1).f1)]] (by rfl) rfl rfl (by rfl) zra ?_
         with_reducible refine (store_counted.calls ((rd_T61 l0 x11_1).f0) ((rd_T61 l0 x11_1).f1) t113 _ A14.out).mono ?_
         rintro e w50 ⟨rfl, hb⟩
         refine ⟨_, rfl, ?_⟩
         replace BK111 := zqj (blk_below (g := gb111) (o := .cells #[.int .i64 ((rd_T61 l0 x11_1).f0), .int .i64 ((rd_T61 l0 x11_1).f1)] 61 (0, 0)) (zrb BK111.out) hb); replace HB := zqj (below_step (zrd1 HB.out GE111.out) hb)
         (try clear hb); (try clear hb2); (try clear hk); (try clear hi)
         refine hK.out _ _ ⟨(blk_cell BK111.out 0).trans rfl, (blk_cell BK111.out 1).trans rfl⟩ (fun hHeld => ?_)
         clear hK K
         refine norm_ (a' := ?_) ?_ ?_
         rotate_left
         ·show Act.put _ (some 23) _ = _
          simp only [Act.put, zqk, zql, zqm, i64_w, i32_w]
          rfl
         refine zp 9 25 (zb 28 1023) HT_.out ?_
         refine zp 10 26 (zb 28 2047) HT_.out ?_
         refine zp 11 27 (zb 28 4095) HT_.out ?_
         refine zp 12 28 (zb 28 8191) HT_.out ?_
         refine zp 13 29 (zb 28 16383) HT_.out ?_
         refine zp 14 30 (zb 28 32767) HT_.out ?_
         refine zq 15 31 (zb 28 65535) HT_.out ?_
         refine zq 16 32 (zb 28 131071) HT_.out ?_
         refine zq 17 33 (zb 28 262143) HT_.out ?_
         refine zq 18 34 (zb 28 524287) HT_.out ?_
         refine zq 19 35 (zb 28 1048575) HT_.out ?_
         refine zq 20 36 (zb 28 2097151) HT_.out ?_
         refine zq 21 37 (zb 28 4194303) HT_.out ?_
         refine zq 22 38 (zb 28 8388607) HT_.out ?_
         refine zq 23 39 (zb 28 16777215) HT_.out ?_
         refine zq 24 40 (zb 28 33554431) HT_.out ?_
         refine zq 25 41 (zb 28 67108863) HT_.out ?_
         refine zp 26 42 (zb 28 134217727) HT_.out ?_
         refine zp 27 43 (zb 28 268435455) HT_.out ?_
         refine done_ (done_of HT_.out (by kernel_rfl)) ?_
         try go_wp2
         go_roundg k1
         case measure => have := HK1.out; omega
         case rel => exact ⟨(wrap64 (x11_1 + 1)), zrt, H', ⟨by have := HK1.out; omega⟩, ⟨by repeat (first | (with_reducible first | exact HB.out | apply zqg | apply zqe | apply zqf | refine zqd ?_ GE111.out) | exact HB.out)⟩⟩
     ·rw [if_neg c6] at H
      exact absurd H (by simp)
    ·rw [if_neg c5] at H
     exact absurd H (by simp)
   ·rw [if_neg c4] at H
    have c4b0 : decide (x11_1 < (l0.length : Int)) = false := decide_eq_false c4
    clear c4
    obtain rfl := Option.some.inj H
    go_wp2
    go_ret
    exact ⟨zru, by repeat (first | (with_reducible first | exact HB.out | apply zqg | apply zqe | apply zqf) | exact HB.out)⟩
end Go.Proofs.Ytdkgkiemndlneaa.X
end

section
namespace Go.Proofs.Ytdkgkiemndlneaa.X
open Go.RowKit Go.Proofs.YtdkgkiemndlneaaW.PrintWords Go.Proofs.YtdkgkiemndlneaaW.PrintLast Go.Proofs.YtdkgkiemndlneaaW.PrintMore
open Go.Proofs.Ytdkgkiemndlneaa.Q
attribute [local go_sem] max2_int min2_int max_two min_two max_three min_three max_four min_four   -- for this text's walks alone
attribute [local go_sem high] Go.Proofs.Ytdkgkiemndlneaa.px_xor_u8 Go.Proofs.Ytdkgkiemndlneaa.px_xor_u16 Go.Proofs.Ytdkgkiemndlneaa.px_xor_u32 Go.Proofs.Ytdkgkiemndlneaa.px_xor_u64
attribute [local go_sem high] eqA91
def store_Right_2.f (a0_0 : Int) (a0_1 : Int) : Option (Bool) := some (decide (a0_1 < 1))
set_option maxHeartbeats 8000000 in
set_option maxRecDepth 100000 in
theorem store_Right_2.calls (a0_0 : Int) (a0_1 : Int) (r : Bool) (w : World) (h : store_Right_2.f a0_0 a0_1 = some r) :
  Calls Try.prog 40 #[.agg #[.int .i64 a0_0, .int .i64 a0_1]] w fun e w' => e = .returned (.bool r) ∧ Below w.heap.size w w' := by
 have hu61 := Try.underlying61
 have HB := zqj (Below.refl w.heap.size w)
 have H : (some (decide (a0_1 < 1))) = some r := h
 clear h
 obtain rfl := Option.some.inj H
 go_enter Try.func40, Try.ntmps40
 go_wp2_with (first | ((with_reducible refine gate_dst (N := 1) rfl ?_); refine box_event ?hg (N := 1) ?hd (cs := #[.int .i64 a0_0, .int .i64 a0_1]) (t := 61) ?hr ?_; (case hd => rfl); (case hg => rfl); (case hr => exact zrr); intro gb117 hg w2 hbox hb; have n0_ := zqj (below_step (zrd0 HB.out) hb); have n1_ := zqj (hbox); have n2_ : Aside0 (w.heap.size ≤ gb117) := ⟨by rw [hg]; exact below_size (zrd0 HB.out)⟩; have n3_ := n2_; clear HB; have HB := n0_; have BK117 := n1_; have GW117 := n2_; have GE117 := n3_; clear n0_ n1_ n2_ n3_; clear hb hbox hg; obtain ⟨hcz3_0, hcz3_1⟩ := zc2 BK117.out; obtain ⟨hfz3_0, hfz3_1⟩ := zf2 BK117.out))
 go_ret
 exact ⟨zru, by repeat (first | (with_reducible first | exact HB.out | apply zqg | apply zqe | apply zqf | refine zqd ?_ GE117.out) | exact HB.out)⟩
def api_Count_58.l0 : Nat → List (S61) → Int → Int → Option (Int)
 | 0, _, _, _ => none
 | k + 1, x0, x7, x8 => if x8 < x7 then (if 0 ≤ x8 then (if x8 < (x0.length : Int) then ((store_Right_2.f ((rd_T61 x0 x8).f0) ((rd_T61 x0 x8).f1)).bind fun t119 => (if t119 = true then (some x8) else (api_Count_58.l0 k x0 x7 (wrap64 (x8 + 1))))) else (none)) else (none)) else (some (-1))
def api_Count_58.f (k : Nat) (l0 : List (S61)) (a1 : Unit) : Option (Int) := api_Count_58.l0 k l0 (l0.length : Int) 0
theorem api_Count_58.mono_l : ∀ k, (∀ y0 y1 y2, LeO (api_Count_58.l0 k y0 y1 y2) (api_Count_58.l0 (k + 1) y0 y1 y2))
 | 0 => fun _ _ _ r h => by simp [api_Count_58.l0] at h
 | k + 1 => by
  have ih0 := api_Count_58.mono_l k
  ·intro y0 y1 y2
   unfold api_Count_58.l0
   repeat' first
   | (with_reducible exact ih0 _ _ _)
   | (with_reducible exact LeO.refl _)
   | (with_reducible exact LeO.none _)
   | (with_reducible refine LeO.ite ?_ ?_)
   | (with_reducible refine LeO.bind ?_ (fun _ => ?_))
   | exact ih0 _ _ _
   | exact LeO.none _
   | refine LeO.ite ?_ ?_
   | refine LeO.bind ?_ (fun _ => ?_)
theorem api_Count_58.mono : ∀ a0 a1 k, LeO (api_Count_58.f k a0 a1) (api_Count_58.f (k + 1) a0 a1) := by
 intro a0 a1 k
 have ih0 := api_Count_58.mono_l k
 unfold api_Count_58.f
 repeat' first
   | (with_reducible exact ih0 _ _ _)
   | (with_reducible exact LeO.refl _)
   | (with_reducible exact LeO.none _)
   | (with_reducible refine LeO.ite ?_ ?_)
   | (with_reducible refine LeO.bind ?_ (fun _ => ?_))
   | exact ih0 _ _ _
   | exact LeO.none _
   | refine LeO.ite ?_ ?_
   | refine LeO.bind ?_ (fun _ => ?_)
set_option maxHeartbeats 8000000 in
set_option maxRecDepth 100000 in
theorem api_Count_58.calls (k : Nat) (A0 : Option Addr) (c0 : Nat) (l0 : List (S61)) (a1 : Unit) (r : Int) (w : World) (hr0 : Kd.C k61 w A0 l0.length l0) (hc0 : l0.length ≤ c0) (h : api_Count_58.f k l0 a1 = some r) :
  Calls Try.prog 58 #[.slice A0 l0.length c0, .func (.func 40) #[] #[]] w fun e w' => e = .returned (.int .i64 r) ∧ Below w.heap.size w w' := by
 have hu61 := Try.underlying61
 have HR0 := zqj hr0
 have HC0 := zqj hc0
 clear hr0 hc0
 have HB := zqj (Below.refl w.heap.size w)
 have H : (api_Count_58.l0 k l0 (l0.length : Int) 0) = some r := h
 clear h
 have H' := zqj H
 clear H
 go_enter Try.func58, Try.ntmps58
 go_wp2
 go_loopg [8] k (fun kq v8 w' => ∃ (x8_1 : Int), v8 = .int .i64 x8_1 ∧ Aside0 (api_Count_58.l0 kq l0 (l0.length : Int) x8_1 = some r) ∧ Aside0 (kq ≤ k) ∧ Aside0 (Below w.heap.size w w'))
 case atStart => exact ⟨(0), zrt, H', ⟨Nat.le_refl _⟩, ⟨by repeat (first | (with_reducible first | exact HB.out | apply zqg | apply zqe | apply zqf) | exact HB.out)⟩⟩
 case round =>
  clear H'
  (try clear p2)
  obtain ⟨x8_1, rfl, HA, HK1, HB⟩ := hrel
  cases gk with
  | zero => exact absurd HA.out (by simp [api_Count_58.l0])
  | succ k1 =>
   (have H := HA.out; clear HA)
   simp only [api_Count_58.l0] at H
   by_cases c3 : x8_1 < (l0.length : Int)
   ·rw [if_pos c3] at H
    have c3b0 : decide (x8_1 < (l0.length : Int)) = true := decide_eq_true c3
    clear c3
    by_cases c4 : 0 ≤ x8_1
    ·rw [if_pos c4] at H
     have c4b0 : decide (0 ≤ x8_1) = true := decide_eq_true c4
     clear c4
     by_cases c5 : x8_1 < (l0.length : Int)
     ·rw [if_pos c5] at H
      have c5b0 : decide (x8_1 < (l0.length : Int)) = true := decide_eq_true c5
      clear c5
      replace H := zqn H
      obtain ⟨t119, A60, H⟩ := H
      replace H : (if t119 = true then (some x8_1) else (api_Count_58.l0 k1 l0 (l0.length : Int) (wrap64 (x8_1 + 1)))) = some r := H
      have A6 := zqj A60
      clear A60
      by_cases c7 : t119 = true
      ·subst c7
       have H1 : (some x8_1) = some r := by rw [if_pos rfl] at H; exact H
       clear H
       have H := H1
       clear H1
       obtain rfl := Option.some.inj H
       have p118 : 0 ≤ (x8_1 : Int) := zqh zrs
       have q118 : x8_1 < (l0.length : Int) := zqh zrs
       obtain ⟨ad118, e118, hx118_0, hx118_1⟩ := at_T61 HR0.out x8_1 p118 q118
       cases e118
       replace hx118_0 := zx HB.out hx118_0
       replace hx118_1 := zx HB.out hx118_1
       replace p118 := eq_true p118
       replace q118 := eq_true q118
       go_wp2_with (first | ((with_reducible refine gate_calleeT rfl ?_); refine goesLT_ (some 16) rfl rfl Try.func40 (by kernel_rfl) rfl #[.agg #[.int .i64 ((rd_T61 l0 x8_1).f0), .int .i64 ((rd_T61 l0 x8_1).f1)]] rfl (by rfl) zra ?_; (with_reducible refine (store_Right_2.calls ((rd_T61 l0 x8_1).f0) ((rd_T61 l0 x8_1).f1) true _ A6.out).mono ?_); rintro e w8 ⟨rfl, hb⟩; refine ⟨_, rfl, ?_⟩; replace HB := zqj (below_step (zrd0 HB.out) hb); (try clear hb); (try clear hb2); (try clear hk); (try clear hi)))
       go_ret
       exact ⟨zru, by repeat (first | (with_reducible first | exact HB.out | apply zqg | apply zqe | apply zqf) | exact HB.out)⟩
      ·replace c7 := Bool.eq_false_iff.mpr c7
       subst c7
       have H1 : (api_Count_58.l0 k1 l0 (l0.length : Int) (wrap64 (x8_1 + 1))) = some r := by rw [if_neg (show ¬ (false = true) by decide)] at H; exact H
       clear H
       have H := H1
       clear H1
       have H' := zqj H
       clear H
       have p118 : 0 ≤ (x8_1 : Int) := zqh zrs
       have q118 : x8_1 < (l0.length : Int) := zqh zrs
       obtain ⟨ad118, e118, hx118_0, hx118_1⟩ := at_T61 HR0.out x8_1 p118 q118
       cases e118
       replace hx118_0 := zx HB.out hx118_0
       replace hx118_1 := zx HB.out hx118_1
       replace p118 := eq_true p118
       replace q118 := eq_true q118
       go_wp2_with (first | ((with_reducible refine gate_calleeT rfl ?_); refine goesLT_ (some 16) rfl rfl Try.func40 (by kernel_rfl) rfl #[.agg #[.int .i64 ((rd_T61 l0 x8_1).f0), .int .i64 ((rd_T61 l0 x8_1).f1)]] rfl (by rfl) zra ?_; (with_reducible refine (store_Right_2.calls ((rd_T61 l0 x8_1).f0) ((rd_T61 l0 x8_1).f1) false _ A6.out).mono ?_); rintro e w9 ⟨rfl, hb⟩; refine ⟨_, rfl, ?_⟩; replace HB := zqj (below_step (zrd0 HB.out) hb); (try clear hb); (try clear hb2); (try clear hk); (try clear hi)))
       go_roundg k1
       case measure => have := HK1.out; omega
       case rel => exact ⟨(wrap64 (x8_1 + 1)), zrt, H', ⟨by have := HK1.out; omega⟩, ⟨by repeat (first | (with_reducible first | exact HB.out | apply zqg | apply zqe | apply zqf) | exact HB.out)⟩⟩
     ·rw [if_neg c5] at H
      exact absurd H (by simp)
    ·rw [if_neg c4] at H
     exact absurd H (by simp)
   ·rw [if_neg c3] at H
    have c3b0 : decide (x8_1 < (l0.length : Int)) = false := decide_eq_false c3
    clear c3
    obtain rfl := Option.some.inj H
    go_wp2
    go_ret
    exact ⟨zru, by repeat (first | (with_reducible first | exact HB.out | apply zqg | apply zqe | apply zqf) | exact HB.out)⟩
def api_Count_39.f (k : Nat) (l0 : List (S61)) (a1 : Unit) : Option (Bool) := (api_Count_58.f k l0 a1).bind fun t120 => (some (decide (t120 ≥ 0)))
theorem api_Count_39.mono : ∀ a0 a1 k, LeO (api_Count_39.f k a0 a1) (api_Count_39.f (k + 1) a0 a1) := by
 intro a0 a1 k
 unfold api_Count_39.f
 repeat' first
   | (with_reducible exact api_Count_58.mono _ _ _)
   | (with_reducible exact LeO.refl _)
   | (with_reducible exact LeO.none _)
   | (with_reducible refine LeO.ite ?_ ?_)
   | (with_reducible refine LeO.bind ?_ (fun _ => ?_))
   | exact api_Count_58.mono _ _ _
   | exact LeO.none _
   | refine LeO.ite ?_ ?_
   | refine LeO.bind ?_ (fun _ => ?_)
set_option maxHeartbeats 8000000 in
set_option maxRecDepth 100000 in
theorem api_Count_39.calls (k : Nat) (A0 : Option Addr) (c0 : Nat) (l0 : List (S61)) (a1 : Unit) (r : Bool) (w : World) (hr0 : Kd.C k61 w A0 l0.length l0) (hc0 : l0.length ≤ c0) (h : api_Count_39.f k l0 a1 = some r) :
  Calls Try.prog 39 #[.slice A0 l0.length c0, .func (.func 40) #[] #[]] w fun e w' => e = .returned (.bool r) ∧ Below w.heap.size w w' := by
 have HR0 := zqj hr0
 have HC0 := zqj hc0
 clear hr0 hc0
 have HB := zqj (Below.refl w.heap.size w)
 have H : ((api_Count_58.f k l0 a1).bind fun t120 => (some (decide (t120 ≥ 0)))) = some r := h
 clear h
 replace H := zqn H
 obtain ⟨t120, A30, H⟩ := H
 replace H : (some (decide (t120 ≥ 0))) = some r := H
 have A3 := zqj A30
 clear A30
 obtain rfl := Option.some.inj H
 go_enter Try.func39, Try.ntmps39
 go_wp2_with (first | ((with_reducible refine gate_callee (f := 58) rfl ?_); refine goesL_ (some 7) rfl rfl Try.func58 (by kernel_rfl) rfl #[.slice A0 l0.length c0, .func (.func 40) #[] #[]] rfl zra ?_; (with_reducible refine (api_Count_58.calls k _ _ l0 a1 t120 _ ?side1 ?side2 A3.out).mono ?_); (case side1 => exact zrc HR0.out); (case side2 => exact HC0.out); rintro e w4 ⟨rfl, hb⟩; refine ⟨_, rfl, ?_⟩; replace HB := zqj (below_step (zrd0 HB.out) hb); (try clear hb); (try clear hb2); (try clear hk); (try clear hi)))
 go_ret
 exact ⟨zru, by repeat (first | (with_reducible first | exact HB.out | apply zqg | apply zqe | apply zqf) | exact HB.out)⟩
def api_Entry.l0 : Nat → List (S91) → List (S91) → Int → Int → Option (Bool)
 | 0, _, _, _, _ => none
 | k + 1, x0, x1, x12, x13 => if x13 < x12 then (if 0 ≤ x13 then (if x13 < (x0.length : Int) then (if x13 < (x1.length : Int) then (if (!((((rd_T91 x0 x13).f0).toList) == (((rd_T91 x1 x13).f0).toList)) || (!(((rd_T91 x0 x13).f1) == ((rd_T91 x1 x13).f1)))) = true then (some false) else (api_Entry.l0 k x0 x1 x12 (wrap64 (x13 + 1)))) else (none)) else (none)) else (none)) else (some true)
def api_Entry.f (k : Nat) (l0 : List (S91)) (l1 : List (S91)) : Option (Bool) := if (l0.length : Int) = (l1.length : Int) then (api_Entry.l0 k l0 l1 (l0.length : Int) 0) else (some false)
theorem api_Entry.mono_l : ∀ k, (∀ y0 y1 y2 y3, LeO (api_Entry.l0 k y0 y1 y2 y3) (api_Entry.l0 (k + 1) y0 y1 y2 y3))
 | 0 => fun _ _ _ _ r h => by simp [api_Entry.l0] at h
 | k + 1 => by
  have ih0 := api_Entry.mono_l k
  ·intro y0 y1 y2 y3
   unfold api_Entry.l0
   repeat' first
   | (with_reducible exact ih0 _ _ _ _)
   | (with_reducible exact LeO.refl _)
   | (with_reducible exact LeO.none _)
   | (with_reducible refine LeO.ite ?_ ?_)
   | (with_reducible refine LeO.bind ?_ (fun _ => ?_))
   | exact ih0 _ _ _ _
   | exact LeO.none _
   | refine LeO.ite ?_ ?_
   | refine LeO.bind ?_ (fun _ => ?_)
theorem api_Entry.mono : ∀ a0 a1 k, LeO (api_Entry.f k a0 a1) (api_Entry.f (k + 1) a0 a1) := by
 intro a0 a1 k
 have ih0 := api_Entry.mono_l k
 unfold api_Entry.f
 repeat' first
   | (with_reducible exact ih0 _ _ _ _)
   | (with_reducible exact LeO.refl _)
   | (with_reducible exact LeO.none _)
   | (with_reducible refine LeO.ite ?_ ?_)
   | (with_reducible refine LeO.bind ?_ (fun _ => ?_))
   | exact ih0 _ _ _ _
   | exact LeO.none _
   | refine LeO.ite ?_ ?_
   | refine LeO.bind ?_ (fun _ => ?_)
set_option maxHeartbeats 8000000 in
set_option maxRecDepth 100000 in
theorem api_Entry.calls (k : Nat) (A0 : Option Addr) (c0 : Nat) (l0 : List (S91)) (A1 : Option Addr) (c1 : Nat) (l1 : List (S91)) (r : Bool) (w : World) (hr0 : Kd.C k91 w A0 l0.length l0) (hc0 : l0.length ≤ c0) (hr1 : Kd.C k91 w A1 l1.length l1) (hc1 : l1.length ≤ c1) (h : api_Entry.f k l0 l1 = some r) :
  Calls Try.prog 59 #[.slice A0 l0.length c0, .slice A1 l1.length c1] w fun e w' => e = .returned (.bool r) ∧ Drawn0 w w' := by
 have hu91 := Try.underlying91
 have HR0 := zqj hr0
 have HC0 := zqj hc0
 clear hr0 hc0
 have HR1 := zqj hr1
 have HC1 := zqj hc1
 clear hr1 hc1
 have H : (if (l0.length : Int) = (l1.length : Int) then (api_Entry.l0 k l0 l1 (l0.length : Int) 0) else (some false)) = some r := h
 clear h
 by_cases c3 : (l0.length : Int) = (l1.length : Int)
 ·rw [if_pos c3] at H
  have c3b0 : ((l0.length : Int) == (l1.length : Int)) = true := beq_iff_eq.mpr c3
  have c3b1 : ((l0.length : Int) != (l1.length : Int)) = false := bne_eq_false_iff_eq.mpr c3
  have c3b2 : (l0.length == l1.length) = true := by first | simpa using c3 | (simp at c3 ⊢; omega)
  clear c3
  have H' := zqj H
  clear H
  go_enter Try.func59, Try.ntmps59
  go_wp2
  repeat (go_quiet (fail); try go_wp2)
  go_loopg [13] k (fun kq v13 w' => ∃ (x13_1 : Int), v13 = .int .i64 x13_1 ∧ Aside0 (api_Entry.l0 kq l0 l1 (l0.length : Int) x13_1 = some r) ∧ Aside0 (kq ≤ k) ∧ Drawn0 w w')
  case atStart => exact ⟨(0), zrt, H', ⟨Nat.le_refl _⟩, by repeat (first | exact Drawn0.refl _ | apply Drawn0.step)⟩
  case round =>
   clear H'
   ((try clear c1); (try clear p2); (try clear c3); (try clear c3b0); (try clear c3b1); (try clear c3b2))
   obtain ⟨x13_1, rfl, HA, HK1, ⟨m1, rfl⟩⟩ := hrel
   cases gk with
   | zero => exact absurd HA.out (by simp [api_Entry.l0])
   | succ k1 =>
    (have H := HA.out; clear HA)
    simp only [api_Entry.l0] at H
    by_cases c4 : x13_1 < (l0.length : Int)
    ·rw [if_pos c4] at H
     have c4b0 : decide (x13_1 < (l0.length : Int)) = true := decide_eq_true c4
     clear c4
     by_cases c5 : 0 ≤ x13_1
     ·rw [if_pos c5] at H
      have c5b0 : decide (0 ≤ x13_1) = true := decide_eq_true c5
      clear c5
      by_cases c6 : x13_1 < (l0.length : Int)
      ·rw [if_pos c6] at H
       have c6b0 : decide (x13_1 < (l0.length : Int)) = true := decide_eq_true c6
       clear c6
       by_cases c7 : x13_1 < (l1.length : Int)
       ·rw [if_pos c7] at H
        have c7b0 : decide (x13_1 < (l1.length : Int)) = true := decide_eq_true c7
        clear c7
        by_cases c8 : (!((((rd_T91 l0 x13_1).f0).toList) == (((rd_T91 l1 x13_1).f0).toList)) || (!(((rd_T91 l0 x13_1).f1) == ((rd_T91 l1 x13_1).f1)))) = true
        ·rw [if_pos c8] at H
         have c8b0 : (!((((rd_T91 l0 x13_1).f0).toList) == (((rd_T91 l1 x13_1).f0).toList)) || (!(((rd_T91 l0 x13_1).f1) == ((rd_T91 l1 x13_1).f1)))) = true := c8
         clear c8
         obtain rfl := Option.some.inj H
         have p121 : 0 ≤ (x13_1 : Int) := zqh zrs
         have q121 : x13_1 < (l0.length : Int) := zqh zrs
         obtain ⟨ad121, e121, hx121_0, hx121_1⟩ := at_T91 HR0.out x13_1 p121 q121
         cases e121
         replace p121 := eq_true p121
         replace q121 := eq_true q121
         have p122 : 0 ≤ (x13_1 : Int) := zqh zrs
         have q122 : x13_1 < (l1.length : Int) := zqh zrs
         obtain ⟨ad122, e122, hx122_0, hx122_1⟩ := at_T91 HR1.out x13_1 p122 q122
         cases e122
         replace p122 := eq_true p122
         replace q122 := eq_true q122
         go_wp2
         repeat (go_quiet (fail); try go_wp2)
         go_ret
         exact ⟨by first | rfl | (simp; done) | (simp [*]; done), by repeat (first | exact Drawn0.refl _ | apply Drawn0.step)⟩
        ·rw [if_neg c8] at H
         have c8b0 : (!((((rd_T91 l0 x13_1).f0).toList) == (((rd_T91 l1 x13_1).f0).toList)) || (!(((rd_T91 l0 x13_1).f1) == ((rd_T91 l1 x13_1).f1)))) = false := by simpa using c8
         clear c8
         have H' := zqj H
         clear H
         have p121 : 0 ≤ (x13_1 : Int) := zqh zrs
         have q121 : x13_1 < (l0.length : Int) := zqh zrs
         obtain ⟨ad121, e121, hx121_0, hx121_1⟩ := at_T91 HR0.out x13_1 p121 q121
         cases e121
         replace p121 := eq_true p121
         replace q121 := eq_true q121
         have p122 : 0 ≤ (x13_1 : Int) := zqh zrs
         have q122 : x13_1 < (l1.length : Int) := zqh zrs
         obtain ⟨ad122, e122, hx122_0, hx122_1⟩ := at_T91 HR1.out x13_1 p122 q122
         cases e122
         replace p122 := eq_true p122
         replace q122 := eq_true q122
         go_wp2
         repeat (go_quiet (fail); try go_wp2)
         go_roundg k1
         case measure => have := HK1.out; omega
         case rel => exact ⟨(wrap64 (x13_1 + 1)), zrt, H', ⟨by have := HK1.out; omega⟩, by repeat (first | exact Drawn0.refl _ | apply Drawn0.step)⟩
       ·rw [if_neg c7] at H
        exact absurd H (by simp)
      ·rw [if_neg c6] at H
       exact absurd H (by simp)
     ·rw [if_neg c5] at H
      exact absurd H (by simp)
    ·rw [if_neg c4] at H
     have c4b0 : decide (x13_1 < (l0.length : Int)) = false := decide_eq_false c4
     clear c4
     obtain rfl := Option.some.inj H
     go_wp2
     repeat (go_quiet (fail); try go_wp2)
     go_ret
     exact ⟨by first | rfl | (simp; done) | (simp [*]; done), by repeat (first | exact Drawn0.refl _ | apply Drawn0.step)⟩
 ·rw [if_neg c3] at H
  have c3b0 : ((l0.length : Int) == (l1.length : Int)) = false := beq_eq_false_iff_ne.mpr c3
  have c3b1 : ((l0.length : Int) != (l1.length : Int)) = true := bne_iff_ne.mpr c3
  have c3b2 : (l0.length == l1.length) = false := by first | simpa using c3 | (simp at c3 ⊢; omega)
  obtain rfl := Option.some.inj H
  go_enter Try.func59, Try.ntmps59
  go_wp2
  repeat (go_quiet (fail); try go_wp2)
  go_ret
  exact ⟨by first | rfl | (simp; done) | (simp [*]; done), by repeat (first | exact Drawn0.refl _ | apply Drawn0.step)⟩
def node_Same.f (k : Nat) (a0_0 : Int) (a0_1 : Int) (a0_2 : Int) (a0_3 : ByteArray) (l0_4 : List (S91)) (a1_0 : Int) (a1_1 : Int) (a1_2 : Int) (a1_3 : ByteArray) (l1_4 : List (S91)) : Option (Bool) := if a0_0 = a1_0 then (if a0_1 = a1_1 then (if a0_2 = a1_2 then (if a0_3.toList = a1_3.toList then ((api_Entry.f k l0_4 l1_4).bind fun t125 => (some t125)) else (some false)) else (some false)) else (some false)) else (some false)
theorem node_Same.mono : ∀ a0 a1 a2 a3 a4 a5 a6 a7 a8 a9 k, LeO (node_Same.f k a0 a1 a2 a3 a4 a5 a6 a7 a8 a9) (node_Same.f (k + 1) a0 a1 a2 a3 a4 a5 a6 a7 a8 a9) := by
 intro a0 a1 a2 a3 a4 a5 a6 a7 a8 a9 k
 unfold node_Same.f
 repeat' first
   | (with_reducible exact api_Entry.mono _ _ _)
   | (with_reducible exact LeO.refl _)
   | (with_reducible exact LeO.none _)
   | (with_reducible refine LeO.ite ?_ ?_)
   | (with_reducible refine LeO.bind ?_ (fun _ => ?_))
   | exact api_Entry.mono _ _ _
   | exact LeO.none _
   | refine LeO.ite ?_ ?_
   | refine LeO.bind ?_ (fun _ => ?_)
set_option maxHeartbeats 8000000 in
set_option maxRecDepth 100000 in
theorem node_Same.calls (k : Nat) (a0_0 : Int) (a0_1 : Int) (a0_2 : Int) (a0_3 : ByteArray) (A0_4 : Option Addr) (c0_4 : Nat) (l0_4 : List (S91)) (a1_0 : Int) (a1_1 : Int) (a1_2 : Int) (a1_3 : ByteArray) (A1_4 : Option Addr) (c1_4 : Nat) (l1_4 : List (S91)) (r : Bool) (w : World) (hr0_4 : Kd.C k91 w A0_4 l0_4.length l0_4) (hc0_4 : l0_4.length ≤ c0_4) (hr1_4 : Kd.C k91 w A1_4 l1_4.length l1_4) (hc1_4 : l1_4.length ≤ c1_4) (h : node_Same.f k a0_0 a0_1 a0_2 a0_3 l0_4 a1_0 a1_1 a1_2 a1_3 l1_4 = some r) :
  Calls Try.prog 45 #[.agg #[.int .i64 a0_0, .int .i64 a0_1, .int .i64 a0_2, .string a0_3, .slice A0_4 l0_4.length c0_4], .agg #[.int .i64 a1_0, .int .i64 a1_1, .int .i64 a1_2, .string a1_3, .slice A1_4 l1_4.length c1_4]] w fun e w' => e = .returned (.bool r) ∧ Below w.heap.size w w' := by
 have hu38 := Try.underlying38
 have HR0_4 := zqj hr0_4
 have HC0_4 := zqj hc0_4
 clear hr0_4 hc0_4
 have HR1_4 := zqj hr1_4
 have HC1_4 := zqj hc1_4
 clear hr1_4 hc1_4
 have HB := zqj (Below.refl w.heap.size w)
 have H : (if a0_0 = a1_0 then (if a0_1 = a1_1 then (if a0_2 = a1_2 then (if a0_3.toList = a1_3.toList then ((api_Entry.f k l0_4 l1_4).bind fun t125 => (some t125)) else (some false)) else (some false)) else (some false)) else (some false)) = some r := h
 clear h
 by_cases c3 : a0_0 = a1_0
 ·rw [if_pos c3] at H
  have c3b0 : (a0_0 == a1_0) = true := beq_iff_eq.mpr c3
  have c3b1 : (a0_0 != a1_0) = false := bne_eq_false_iff_eq.mpr c3
  clear c3
  by_cases c4 : a0_1 = a1_1
  ·rw [if_pos c4] at H
   have c4b0 : (a0_1 == a1_1) = true := beq_iff_eq.mpr c4
   have c4b1 : (a0_1 != a1_1) = false := bne_eq_false_iff_eq.mpr c4
   clear c4
   by_cases c5 : a0_2 = a1_2
   ·rw [if_pos c5] at H
    have c5b0 : (a0_2 == a1_2) = true := beq_iff_eq.mpr c5
    have c5b1 : (a0_2 != a1_2) = false := bne_eq_false_iff_eq.mpr c5
    clear c5
    by_cases c6 : a0_3.toList = a1_3.toList
    ·rw [if_pos c6] at H
     have c6b0 : (a0_3.toList == a1_3.toList) = true := beq_iff_eq.mpr c6
     have c6b1 : (a0_3.toList != a1_3.toList) = false := bne_eq_false_iff_eq.mpr c6
     clear c6
     replace H := zqn H
     obtain ⟨t125, A70, H⟩ := H
     replace H : (some t125) = some r := H
     have A7 := zqj A70
     clear A70
     obtain rfl := Option.some.inj H
     go_enter Try.func45, Try.ntmps45
     go_wp2_with (first | ((with_reducible refine gate_dst (N := 2) rfl ?_); refine box_event ?hg (N := 2) ?hd (cs := #[.int .i64 a0_0, .int .i64 a0_1, .int .i64 a0_2, .string a0_3, .slice A0_4 l0_4.length c0_4]) (t := 38) ?hr ?_; (case hd => rfl); (case hg => rfl); (case hr => exact zrr); intro gb123 hg w8 hbox hb; have n0_ := zqj (below_step (zrd0 HB.out) hb); have n1_ := zqj (hbox); have n2_ : Aside0 (w.heap.size ≤ gb123) := ⟨by rw [hg]; exact below_size (zrd0 HB.out)⟩; have n3_ := n2_; clear HB; have HB := n0_; have BK123 := n1_; have GW123 := n2_; have GE123 := n3_; clear n0_ n1_ n2_ n3_; clear hb hbox hg) | ((with_reducible refine gate_dst (N := 3) rfl ?_); refine box_event ?hg (N := 3) ?hd (cs := #[.int .i64 a1_0, .int .i64 a1_1, .int .i64 a1_2, .string a1_3, .slice A1_4 l1_4.length c1_4]) (t := 38) ?hr ?_; (case hd => rfl); (case hg => rfl); (case hr => exact zrr); intro gb124 hg w9 hbox hb; have n0_ := zqj (blk_below (g := gb123) (o := .cells #[.int .i64 a0_0, .int .i64 a0_1, .int .i64 a0_2, .string a0_3, .slice A0_4 l0_4.length c0_4] 38 (0, 0)) (zrb BK123.out) hb); have n1_ := zqj (below_step (zrd1 HB.out GE123.out) hb); have n2_ := zqj (hbox); have n3_ := zqj ((by rw [hg]; exact (below_size (zrd1 HB.out GE123.out)) : w.heap.size ≤ gb124)); have n4_ := zqj ((by rw [hg]; exact (below_size (zrd1 HB.out GE123.out)) : w.heap.size ≤ gb124)); have n5_ := zqj ((by rw [hg]; exact Nat.ne_of_lt (blk_lt (g := gb123) (o := .cells #[.int .i64 a0_0, .int .i64 a0_1, .int .i64 a0_2, .string a0_3, .slice A0_4 l0_4.length c0_4] 38 (0, 0)) (zrb BK123.out)) : gb123 ≠ gb124)); have n6_ := zqj ((by rw [hg]; exact Nat.ne_of_gt (blk_lt (g := gb123) (o := .cells #[.int .i64 a0_0, .int .i64 a0_1, .int .i64 a0_2, .string a0_3, .slice A0_4 l0_4.length c0_4] 38 (0, 0)) (zrb BK123.out)) : gb124 ≠ gb123)); clear BK123; clear HB; have BK123 := n0_; have HB := n1_; have BK124 := n2_; have GW124 := n3_; have GE124 := n4_; have NB123_124 := n5_; have NB124_123 := n6_; clear n0_ n1_ n2_ n3_ n4_ n5_ n6_; clear hb hbox hg; have hnb10 := NB123_124.out; have hnc10 := NB124_123.out; obtain ⟨hcz11_0, hcz11_1, hcz11_2, hcz11_3, hcz11_4⟩ := zc5 BK123.out; obtain ⟨hfz11_0, hfz11_1, hfz11_2, hfz11_3, hfz11_4⟩ := zf5 BK123.out; obtain ⟨hcz12_0, hcz12_1, hcz12_2, hcz12_3, hcz12_4⟩ := zc5 BK124.out; obtain ⟨hfz12_0, hfz12_1, hfz12_2, hfz12_3, hfz12_4⟩ := zf5 BK124.out) | (go_at_call 59; (with_reducible refine (api_Entry.calls k _ _ l0_4 _ _ l1_4 t125 _ ?side1 ?side2 ?side3 ?side4 A7.out).mono ?_); (case side1 => exact zrc (Kd.C_below HR0_4.out HB.out)); (case side2 => exact HC0_4.out); (case side3 => exact zrc (Kd.C_below HR1_4.out HB.out)); (case side4 => exact HC1_4.out); rintro e w' ⟨rfl, ⟨nd, rfl⟩⟩))
     go_ret
     exact ⟨zru, by repeat (first | (with_reducible first | exact HB.out | apply zqg | apply zqe | apply zqf | refine zqd ?_ GE123.out | refine zqd ?_ GE124.out) | exact HB.out)⟩
    ·rw [if_neg c6] at H
     have c6b0 : (a0_3.toList == a1_3.toList) = false := beq_eq_false_iff_ne.mpr c6
     have c6b1 : (a0_3.toList != a1_3.toList) = true := bne_iff_ne.mpr c6
     obtain rfl := Option.some.inj H
     go_enter Try.func45, Try.ntmps45
     go_wp2_with (first | ((with_reducible refine gate_dst (N := 2) rfl ?_); refine box_event ?hg (N := 2) ?hd (cs := #[.int .i64 a0_0, .int .i64 a0_1, .int .i64 a0_2, .string a0_3, .slice A0_4 l0_4.length c0_4]) (t := 38) ?hr ?_; (case hd => rfl); (case hg => rfl); (case hr => exact zrr); intro gb123 hg w13 hbox hb; have n0_ := zqj (below_step (zrd0 HB.out) hb); have n1_ := zqj (hbox); have n2_ : Aside0 (w.heap.size ≤ gb123) := ⟨by rw [hg]; exact below_size (zrd0 HB.out)⟩; have n3_ := n2_; clear HB; have HB := n0_; have BK123 := n1_; have GW123 := n2_; have GE123 := n3_; clear n0_ n1_ n2_ n3_; clear hb hbox hg) | ((with_reducible refine gate_dst (N := 3) rfl ?_); refine box_event ?hg (N := 3) ?hd (cs := #[.int .i64 a1_0, .int .i64 a1_1, .int .i64 a1_2, .string a1_3, .slice A1_4 l1_4.length c1_4]) (t := 38) ?hr ?_; (case hd => rfl); (case hg => rfl); (case hr => exact zrr); intro gb124 hg w14 hbox hb; have n0_ := zqj (blk_below (g := gb123) (o := .cells #[.int .i64 a0_0, .int .i64 a0_1, .int .i64 a0_2, .string a0_3, .slice A0_4 l0_4.length c0_4] 38 (0, 0)) (zrb BK123.out) hb); have n1_ := zqj (below_step (zrd1 HB.out GE123.out) hb); have n2_ := zqj (hbox); have n3_ := zqj ((by rw [hg]; exact (below_size (zrd1 HB.out GE123.out)) : w.heap.size ≤ gb124)); have n4_ := zqj ((by rw [hg]; exact (below_size (zrd1 HB.out GE123.out)) : w.heap.size ≤ gb124)); have n5_ := zqj ((by rw [hg]; exact Nat.ne_of_lt (blk_lt (g := gb123) (o := .cells #[.int .i64 a0_0, .int .i64 a0_1, .int .i64 a0_2, .string a0_3, .slice A0_4 l0_4.length c0_4] 38 (0, 0)) (zrb BK123.out)) : gb123 ≠ gb124)); have n6_ := zqj ((by rw [hg]; exact Nat.ne_of_gt (blk_lt (g := gb123) (o := .cells #[.int .i64 a0_0, .int .i64 a0_1, .int .i64 a0_2, .string a0_3, .slice A0_4 l0_4.length c0_4] 38 (0, 0)) (zrb BK123.out)) : gb124 ≠ gb123)); clear BK123; clear HB; have BK123 := n0_; have HB := n1_; have BK124 := n2_; have GW124 := n3_; have GE124 := n4_; have NB123_124 := n5_; have NB124_123 := n6_; clear n0_ n1_ n2_ n3_ n4_ n5_ n6_; clear hb hbox hg; have hnb15 := NB123_124.out; have hnc15 := NB124_123.out; obtain ⟨hcz16_0, hcz16_1, hcz16_2, hcz16_3, hcz16_4⟩ := zc5 BK123.out; obtain ⟨hfz16_0, hfz16_1, hfz16_2, hfz16_3, hfz16_4⟩ := zf5 BK123.out; obtain ⟨hcz17_0, hcz17_1, hcz17_2, hcz17_3, hcz17_4⟩ := zc5 BK124.out; obtain ⟨hfz17_0, hfz17_1, hfz17_2, hfz17_3, hfz17_4⟩ := zf5 BK124.out))
     go_ret
     exact ⟨zru, by repeat (first | (with_reducible first | exact HB.out | apply zqg | apply zqe | apply zqf | refine zqd ?_ GE123.out | refine zqd ?_ GE124.out) | exact HB.out)⟩
   ·rw [if_neg c5] at H
    have c5b0 : (a0_2 == a1_2) = false := beq_eq_false_iff_ne.mpr c5
    have c5b1 : (a0_2 != a1_2) = true := bne_iff_ne.mpr c5
    obtain rfl := Option.some.inj H
    go_enter Try.func45, Try.ntmps45
    go_wp2_with (first | ((with_reducible refine gate_dst (N := 2) rfl ?_); refine box_event ?hg (N := 2) ?hd (cs := #[.int .i64 a0_0, .int .i64 a0_1, .int .i64 a0_2, .string a0_3, .slice A0_4 l0_4.length c0_4]) (t := 38) ?hr ?_; (case hd => rfl); (case hg => rfl); (case hr => exact zrr); intro gb123 hg w18 hbox hb; have n0_ := zqj (below_step (zrd0 HB.out) hb); have n1_ := zqj (hbox); have n2_ : Aside0 (w.heap.size ≤ gb123) := ⟨by rw [hg]; exact below_size (zrd0 HB.out)⟩; have n3_ := n2_; clear HB; have HB := n0_; have BK123 := n1_; have GW123 := n2_; have GE123 := n3_; clear n0_ n1_ n2_ n3_; clear hb hbox hg) | ((with_reducible refine gate_dst (N := 3) rfl ?_); refine box_event ?hg (N := 3) ?hd (cs := #[.int .i64 a1_0, .int .i64 a1_1, .int .i64 a1_2, .string a1_3, .slice A1_4 l1_4.length c1_4]) (t := 38) ?hr ?_; (case hd => rfl); (case hg => rfl); (case hr => exact zrr); intro gb124 hg w19 hbox hb; have n0_ := zqj (blk_below (g := gb123) (o := .cells #[.int .i64 a0_0, .int .i64 a0_1, .int .i64 a0_2, .string a0_3, .slice A0_4 l0_4.length c0_4] 38 (0, 0)) (zrb BK123.out) hb); have n1_ := zqj (below_step (zrd1 HB.out GE123.out) hb); have n2_ := zqj (hbox); have n3_ := zqj ((by rw [hg]; exact (below_size (zrd1 HB.out GE123.out)) : w.heap.size ≤ gb124)); have n4_ := zqj ((by rw [hg]; exact (below_size (zrd1 HB.out GE123.out)) : w.heap.size ≤ gb124)); have n5_ := zqj ((by rw [hg]; exact Nat.ne_of_lt (blk_lt (g := gb123) (o := .cells #[.int .i64 a0_0, .int .i64 a0_1, .int .i64 a0_2, .string a0_3, .slice A0_4 l0_4.length c0_4] 38 (0, 0)) (zrb BK123.out)) : gb123 ≠ gb124)); have n6_ := zqj ((by rw [hg]; exact Nat.ne_of_gt (blk_lt (g := gb123) (o := .cells #[.int .i64 a0_0, .int .i64 a0_1, .int .i64 a0_2, .string a0_3, .slice A0_4 l0_4.length c0_4] 38 (0, 0)) (zrb BK123.out)) : gb124 ≠ gb123)); clear BK123; clear HB; have BK123 := n0_; have HB := n1_; have BK124 := n2_; have GW124 := n3_; have GE124 := n4_; have NB123_124 := n5_; have NB124_123 := n6_; clear n0_ n1_ n2_ n3_ n4_ n5_ n6_; clear hb hbox hg; have hnb20 := NB123_124.out; have hnc20 := NB124_123.out; obtain ⟨hcz21_0, hcz21_1, hcz21_2, hcz21_3, hcz21_4⟩ := zc5 BK123.out; obtain ⟨hfz21_0, hfz21_1, hfz21_2, hfz21_3, hfz21_4⟩ := zf5 BK123.out; obtain ⟨hcz22_0, hcz22_1, hcz22_2, hcz22_3, hcz22_4⟩ := zc5 BK124.out; obtain ⟨hfz22_0, hfz22_1, hfz22_2, hfz22_3, hfz22_4⟩ := zf5 BK124.out))
    go_ret
    exact ⟨zru, by repeat (first | (with_reducible first | exact HB.out | apply zqg | apply zqe | apply zqf | refine zqd ?_ GE123.out | refine zqd ?_ GE124.out) | exact HB.out)⟩
  ·rw [if_neg c4] at H
   have c4b0 : (a0_1 == a1_1) = false := beq_eq_false_iff_ne.mpr c4
   have c4b1 : (a0_1 != a1_1) = true := bne_iff_ne.mpr c4
   obtain rfl := Option.some.inj H
   go_enter Try.func45, Try.ntmps45
   go_wp2_with (first | ((with_reducible refine gate_dst (N := 2) rfl ?_); refine box_event ?hg (N := 2) ?hd (cs := #[.int .i64 a0_0, .int .i64 a0_1, .int .i64 a0_2, .string a0_3, .slice A0_4 l0_4.length c0_4]) (t := 38) ?hr ?_; (case hd => rfl); (case hg => rfl); (case hr => exact zrr); intro gb123 hg w23 hbox hb; have n0_ := zqj (below_step (zrd0 HB.out) hb); have n1_ := zqj (hbox); have n2_ : Aside0 (w.heap.size ≤ gb123) := ⟨by rw [hg]; exact below_size (zrd0 HB.out)⟩; have n3_ := n2_; clear HB; have HB := n0_; have BK123 := n1_; have GW123 := n2_; have GE123 := n3_; clear n0_ n1_ n2_ n3_; clear hb hbox hg) | ((with_reducible refine gate_dst (N := 3) rfl ?_); refine box_event ?hg (N := 3) ?hd (cs := #[.int .i64 a1_0, .int .i64 a1_1, .int .i64 a1_2, .string a1_3, .slice A1_4 l1_4.length c1_4]) (t := 38) ?hr ?_; (case hd => rfl); (case hg => rfl); (case hr => exact zrr); intro gb124 hg w24 hbox hb; have n0_ := zqj (blk_below (g := gb123) (o := .cells #[.int .i64 a0_0, .int .i64 a0_1, .int .i64 a0_2, .string a0_3, .slice A0_4 l0_4.length c0_4] 38 (0, 0)) (zrb BK123.out) hb); have n1_ := zqj (below_step (zrd1 HB.out GE123.out) hb); have n2_ := zqj (hbox); have n3_ := zqj ((by rw [hg]; exact (below_size (zrd1 HB.out GE123.out)) : w.heap.size ≤ gb124)); have n4_ := zqj ((by rw [hg]; exact (below_size (zrd1 HB.out GE123.out)) : w.heap.size ≤ gb124)); have n5_ := zqj ((by rw [hg]; exact Nat.ne_of_lt (blk_lt (g := gb123) (o := .cells #[.int .i64 a0_0, .int .i64 a0_1, .int .i64 a0_2, .string a0_3, .slice A0_4 l0_4.length c0_4] 38 (0, 0)) (zrb BK123.out)) : gb123 ≠ gb124)); have n6_ := zqj ((by rw [hg]; exact Nat.ne_of_gt (blk_lt (g := gb123) (o := .cells #[.int .i64 a0_0, .int .i64 a0_1, .int .i64 a0_2, .string a0_3, .slice A0_4 l0_4.length c0_4] 38 (0, 0)) (zrb BK123.out)) : gb124 ≠ gb123)); clear BK123; clear HB; have BK123 := n0_; have HB := n1_; have BK124 := n2_; have GW124 := n3_; have GE124 := n4_; have NB123_124 := n5_; have NB124_123 := n6_; clear n0_ n1_ n2_ n3_ n4_ n5_ n6_; clear hb hbox hg; have hnb25 := NB123_124.out; have hnc25 := NB124_123.out; obtain ⟨hcz26_0, hcz26_1, hcz26_2, hcz26_3, hcz26_4⟩ := zc5 BK123.out; obtain ⟨hfz26_0, hfz26_1, hfz26_2, hfz26_3, hfz26_4⟩ := zf5 BK123.out; obtain ⟨hcz27_0, hcz27_1, hcz27_2, hcz27_3, hcz27_4⟩ := zc5 BK124.out; obtain ⟨hfz27_0, hfz27_1, hfz27_2, hfz27_3, hfz27_4⟩ := zf5 BK124.out))
   go_ret
   exact ⟨zru, by repeat (first | (with_reducible first | exact HB.out | apply zqg | apply zqe | apply zqf | refine zqd ?_ GE123.out | refine zqd ?_ GE124.out) | exact HB.out)⟩
 ·rw [if_neg c3] at H
  have c3b0 : (a0_0 == a1_0) = false := beq_eq_false_iff_ne.mpr c3
  have c3b1 : (a0_0 != a1_0) = true := bne_iff_ne.mpr c3
  obtain rfl := Option.some.inj H
  go_enter Try.func45, Try.ntmps45
  go_wp2_with (first | ((with_reducible refine gate_dst (N := 2) rfl ?_); refine box_event ?hg (N := 2) ?hd (cs := #[.int .i64 a0_0, .int .i64 a0_1, .int .i64 a0_2, .string a0_3, .slice A0_4 l0_4.length c0_4]) (t := 38) ?hr ?_; (case hd => rfl); (case hg => rfl); (case hr => exact zrr); intro gb123 hg w28 hbox hb; have n0_ := zqj (below_step (zrd0 HB.out) hb); have n1_ := zqj (hbox); have n2_ : Aside0 (w.heap.size ≤ gb123) := ⟨by rw [hg]; exact below_size (zrd0 HB.out)⟩; have n3_ := n2_; clear HB; have HB := n0_; have BK123 := n1_; have GW123 := n2_; have GE123 := n3_; clear n0_ n1_ n2_ n3_; clear hb hbox hg) | ((with_reducible refine gate_dst (N := 3) rfl ?_); refine box_event ?hg (N := 3) ?hd (cs := #[.int .i64 a1_0, .int .i64 a1_1, .int .i64 a1_2, .string a1_3, .slice A1_4 l1_4.length c1_4]) (t := 38) ?hr ?_; (case hd => rfl); (case hg => rfl); (case hr => exact zrr); intro gb124 hg w29 hbox hb; have n0_ := zqj (blk_below (g := gb123) (o := .cells #[.int .i64 a0_0, .int .i64 a0_1, .int .i64 a0_2, .string a0_3, .slice A0_4 l0_4.length c0_4] 38 (0, 0)) (zrb BK123.out) hb); have n1_ := zqj (below_step (zrd1 HB.out GE123.out) hb); have n2_ := zqj (hbox); have n3_ := zqj ((by rw [hg]; exact (below_size (zrd1 HB.out GE123.out)) : w.heap.size ≤ gb124)); have n4_ := zqj ((by rw [hg]; exact (below_size (zrd1 HB.out GE123.out)) : w.heap.size ≤ gb124)); have n5_ := zqj ((by rw [hg]; exact Nat.ne_of_lt (blk_lt (g := gb123) (o := .cells #[.int .i64 a0_0, .int .i64 a0_1, .int .i64 a0_2, .string a0_3, .slice A0_4 l0_4.length c0_4] 38 (0, 0)) (zrb BK123.out)) : gb123 ≠ gb124)); have n6_ := zqj ((by rw [hg]; exact Nat.ne_of_gt (blk_lt (g := gb123) (o := .cells #[.int .i64 a0_0, .int .i64 a0_1, .int .i64 a0_2, .string a0_3, .slice A0_4 l0_4.length c0_4] 38 (0, 0)) (zrb BK123.out)) : gb124 ≠ gb123)); clear BK123; clear HB; have BK123 := n0_; have HB := n1_; have BK124 := n2_; have GW124 := n3_; have GE124 := n4_; have NB123_124 := n5_; have NB124_123 := n6_; clear n0_ n1_ n2_ n3_ n4_ n5_ n6_; clear hb hbox hg; have hnb30 := NB123_124.out; have hnc30 := NB124_123.out; obtain ⟨hcz31_0, hcz31_1, hcz31_2, hcz31_3, hcz31_4⟩ := zc5 BK123.out; obtain ⟨hfz31_0, hfz31_1, hfz31_2, hfz31_3, hfz31_4⟩ := zf5 BK123.out; obtain ⟨hcz32_0, hcz32_1, hcz32_2, hcz32_3, hcz32_4⟩ := zc5 BK124.out; obtain ⟨hfz32_0, hfz32_1, hfz32_2, hfz32_3, hfz32_4⟩ := zf5 BK124.out))
  go_ret
  exact ⟨zru, by repeat (first | (with_reducible first | exact HB.out | apply zqg | apply zqe | apply zqf | refine zqd ?_ GE123.out | refine zqd ?_ GE124.out) | exact HB.out)⟩
def name_Right.l0 : Nat → List (S91) → List (S91) → Int → Int → Option (Bool)
 | 0, _, _, _, _ => none
 | k + 1, x0, x5, x6, x7 => if x7 < x6 then (if 0 ≤ x7 then (if x7 < (x5.length : Int) then ((name_Check.f ((rd_T91 x5 x7).f0)).bind fun t128 => (if t128 = 0 then (if ((rd_T91 x5 x7).f1) < 1 then (some false) else (if x7 > 0 then (if 0 ≤ (wrap64 (x7 - 1)) then (if (wrap64 (x7 - 1)) < (x0.length : Int) then (if ((Op.bytesLess (((rd_T91 x0 (wrap64 (x7 - 1))).f0).toList) (((rd_T91 x5 x7).f0).toList)) = true) then (name_Right.l0 k x0 x5 x6 (wrap64 (x7 + 1))) else (some false)) else (none)) else (none)) else (name_Right.l0 k x0 x5 x6 (wrap64 (x7 + 1))))) else (some false))) else (none)) else (none)) else (some (decide ((x0.length : Int) ≤ 256)))
def name_Right.f (k : Nat) (l0 : List (S91)) : Option (Bool) := name_Right.l0 k l0 l0 (l0.length : Int) 0
theorem name_Right.mono_l : ∀ k, (∀ y0 y1 y2 y3, LeO (name_Right.l0 k y0 y1 y2 y3) (name_Right.l0 (k + 1) y0 y1 y2 y3))
 | 0 => fun _ _ _ _ r h => by simp [name_Right.l0] at h
 | k + 1 => by
  have ih0 := name_Right.mono_l k
  ·intro y0 y1 y2 y3
   unfold name_Right.l0
   repeat' first
   | (with_reducible exact ih0 _ _ _ _)
   | (with_reducible exact LeO.refl _)
   | (with_reducible exact LeO.none _)
   | (with_reducible refine LeO.ite ?_ ?_)
   | (with_reducible refine LeO.bind ?_ (fun _ => ?_))
   | exact ih0 _ _ _ _
   | exact LeO.none _
   | refine LeO.ite ?_ ?_
   | refine LeO.bind ?_ (fun _ => ?_)
theorem name_Right.mono : ∀ a0 k, LeO (name_Right.f k a0) (name_Right.f (k + 1) a0) := by
 intro a0 k
 have ih0 := name_Right.mono_l k
 unfold name_Right.f
 repeat' first
   | (with_reducible exact ih0 _ _ _ _)
   | (with_reducible exact LeO.refl _)
   | (with_reducible exact LeO.none _)
   | (with_reducible refine LeO.ite ?_ ?_)
   | (with_reducible refine LeO.bind ?_ (fun _ => ?_))
   | exact ih0 _ _ _ _
   | exact LeO.none _
   | refine LeO.ite ?_ ?_
   | refine LeO.bind ?_ (fun _ => ?_)
set_option maxHeartbeats 8000000 in
set_option maxRecDepth 100000 in
theorem name_Right.calls (k : Nat) (A0 : Option Addr) (c0 : Nat) (l0 : List (S91)) (r : Bool) (w : World) (hr0 : Kd.C k91 w A0 l0.length l0) (hc0 : l0.length ≤ c0) (h : name_Right.f k l0 = some r) :
  Calls Try.prog 66 #[.slice A0 l0.length c0] w fun e w' => e = .returned (.bool r) ∧ Below w.heap.size w w' := by
 have hu91 := Try.underlying91
 have HR0 := zqj hr0
 have HC0 := zqj hc0
 clear hr0 hc0
 have HB := zqj (Below.refl w.heap.size w)
 have H : (name_Right.l0 k l0 l0 (l0.length : Int) 0) = some r := h
 clear h
 have H' := zqj H
 clear H
 go_enter Try.func66, Try.ntmps66
 go_wp2
 repeat (go_quiet (fail); try go_wp2)
 go_loopg [7] k (fun kq v7 w' => ∃ (x7_1 : Int), v7 = .int .i64 x7_1 ∧ Aside0 (name_Right.l0 kq l0 l0 (l0.length : Int) x7_1 = some r) ∧ Aside0 (kq ≤ k) ∧ Aside0 (Below w.heap.size w w'))
 case atStart => exact ⟨(0), zrt, H', ⟨Nat.le_refl _⟩, ⟨by repeat (first | (with_reducible first | exact HB.out | apply zqg | apply zqe | apply zqf) | exact HB.out)⟩⟩
 case round =>
  clear H'
  obtain ⟨x7_1, rfl, HA, HK1, HB⟩ := hrel
  cases gk with
  | zero => exact absurd HA.out (by simp [name_Right.l0])
  | succ k1 =>
   (have H := HA.out; clear HA)
   simp only [name_Right.l0] at H
   by_cases c2 : x7_1 < (l0.length : Int)
   ·rw [if_pos c2] at H
    have c2b0 : decide (x7_1 < (l0.length : Int)) = true := decide_eq_true c2
    clear c2
    by_cases c3 : 0 ≤ x7_1
    ·rw [if_pos c3] at H
     have c3b0 : decide (0 ≤ x7_1) = true := decide_eq_true c3
     clear c3
     by_cases c4 : x7_1 < (l0.length : Int)
     ·rw [if_pos c4] at H
      have c4b0 : decide (x7_1 < (l0.length : Int)) = true := decide_eq_true c4
      clear c4
      replace H := zqn H
      obtain ⟨t128, A50, H⟩ := H
      replace H : (if t128 = 0 then (if ((rd_T91 l0 x7_1).f1) < 1 then (some false) else (if x7_1 > 0 then (if 0 ≤ (wrap64 (x7_1 - 1)) then (if (wrap64 (x7_1 - 1)) < (l0.length : Int) then (if ((Op.bytesLess (((rd_T91 l0 (wrap64 (x7_1 - 1))).f0).toList) (((rd_T91 l0 x7_1).f0).toList)) = true) then (name_Right.l0 k1 l0 l0 (l0.length : Int) (wrap64 (x7_1 + 1))) else (some false)) else (none)) else (none)) else (name_Right.l0 k1 l0 l0 (l0.length : Int) (wrap64 (x7_1 + 1))))) else (some false)) = some r := H
      have A5 := zqj A50
      clear A50
      by_cases c6 : t128 = 0
      ·rw [if_pos c6] at H
       have c6b0 : (t128 == 0) = true := beq_iff_eq.mpr c6
       have c6b1 : (t128 != 0) = false := bne_eq_false_iff_eq.mpr c6
       clear c6
       by_cases c7 : ((rd_T91 l0 x7_1).f1) < 1
       ·rw [if_pos c7] at H
        have c7b0 : decide (((rd_T91 l0 x7_1).f1) < 1) = true := decide_eq_true c7
        clear c7
        obtain rfl := Option.some.inj H
        have p126 : 0 ≤ (x7_1 : Int) := zqh zrs
        have q126 : x7_1 < (l0.length : Int) := zqh zrs
        obtain ⟨ad126, e126, hx126_0, hx126_1⟩ := at_T91 HR0.out x7_1 p126 q126
        cases e126
        replace hx126_0 := zx HB.out hx126_0
        replace hx126_1 := zx HB.out hx126_1
        replace p126 := eq_true p126
        replace q126 := eq_true q126
        go_wp2_with (first | ((with_reducible refine gate_dst (N := 4) rfl ?_); refine box_event ?hg (N := 4) ?hd (cs := #[.string (⟨#[]⟩ : ByteArray), .int .i64 0]) (t := 91) ?hr ?_; (case hd => rfl); (case hg => rfl); (case hr => exact zrr); intro gb127 hg w8 hbox hb; have n0_ := zqj (below_step (zrd0 HB.out) hb); have n1_ := zqj (hbox); have n2_ : Aside0 (w.heap.size ≤ gb127) := ⟨by rw [hg]; exact below_size (zrd0 HB.out)⟩; have n3_ := n2_; clear HB; have HB := n0_; have BK127 := n1_; have GW127 := n2_; have GE127 := n3_; clear n0_ n1_ n2_ n3_; clear hb hbox hg; obtain ⟨hcz9_0, hcz9_1⟩ := zc2 BK127.out; obtain ⟨hfz9_0, hfz9_1⟩ := zf2 BK127.out) | (go_at_call 71; (with_reducible refine (name_Check.calls ((rd_T91 l0 x7_1).f0) t128 _ A5.out).mono ?_); rintro e w' ⟨rfl, ⟨nd, rfl⟩⟩; (try first | exact ⟨rfl, _, World.drewN_drewN _ _ _⟩ | exact ⟨rfl, _, Eq.trans (World.drewN_drewN _ _ _) (congrArg (World.drewN _) (Nat.add_assoc _ _ _))⟩)))
        repeat (go_quiet (first | ((with_reducible refine gate_dst (N := 4) rfl ?_); refine box_event ?hg (N := 4) ?hd (cs := #[.string (⟨#[]⟩ : ByteArray), .int .i64 0]) (t := 91) ?hr ?_; (case hd => rfl); (case hg => rfl); (case hr => exact zrr); intro gb127 hg w8 hbox hb; have n0_ := zqj (below_step (zrd0 HB.out) hb); have n1_ := zqj (hbox); have n2_ : Aside0 (w.heap.size ≤ gb127) := ⟨by rw [hg]; exact below_size (zrd0 HB.out)⟩; have n3_ := n2_; clear HB; have HB := n0_; have BK127 := n1_; have GW127 := n2_; have GE127 := n3_; clear n0_ n1_ n2_ n3_; clear hb hbox hg; obtain ⟨hcz9_0, hcz9_1⟩ := zc2 BK127.out; obtain ⟨hfz9_0, hfz9_1⟩ := zf2 BK127.out) | (go_at_call 71; (with_reducible refine (name_Check.calls ((rd_T91 l0 x7_1).f0) t128 _ A5.out).mono ?_); rintro e w' ⟨rfl, ⟨nd, rfl⟩⟩; (try first | exact ⟨rfl, _, World.drewN_drewN _ _ _⟩ | exact ⟨rfl, _, Eq.trans (World.drewN_drewN _ _ _) (congrArg (World.drewN _) (Nat.add_assoc _ _ _))⟩))); try go_wp2_with (first | ((with_reducible refine gate_dst (N := 4) rfl ?_); refine box_event ?hg (N := 4) ?hd (cs := #[.string (⟨#[]⟩ : ByteArray), .int .i64 0]) (t := 91) ?hr ?_; (case hd => rfl); (case hg => rfl); (case hr => exact zrr); intro gb127 hg w8 hbox hb; have n0_ := zqj (below_step (zrd0 HB.out) hb); have n1_ := zqj (hbox); have n2_ : Aside0 (w.heap.size ≤ gb127) := ⟨by rw [hg]; exact below_size (zrd0 HB.out)⟩; have n3_ := n2_; clear HB; have HB := n0_; have BK127 := n1_; have GW127 := n2_; have GE127 := n3_; clear n0_ n1_ n2_ n3_; clear hb hbox hg; obtain ⟨hcz9_0, hcz9_1⟩ := zc2 BK127.out; obtain ⟨hfz9_0, hfz9_1⟩ := zf2 BK127.out) | (go_at_call 71; (with_reducible refine (name_Check.calls ((rd_T91 l0 x7_1).f0) t128 _ A5.out).mono ?_); rintro e w' ⟨rfl, ⟨nd, rfl⟩⟩; (try first | exact ⟨rfl, _, World.drewN_drewN _ _ _⟩ | exact ⟨rfl, _, Eq.trans (World.drewN_drewN _ _ _) (congrArg (World.drewN _) (Nat.add_assoc _ _ _))⟩))))
        go_ret
        exact ⟨zru, by repeat (first | (with_reducible first | exact HB.out | apply zqg | apply zqe | apply zqf | refine zqd ?_ GE127.out) | exact HB.out)⟩
       ·rw [if_neg c7] at H
        have c7b0 : decide (((rd_T91 l0 x7_1).f1) < 1) = false := decide_eq_false c7
        clear c7
        by_cases c10 : x7_1 > 0
        ·rw [if_pos c10] at H
         have c10b0 : decide (0 < x7_1) = true := decide_eq_true c10
         clear c10
         obtain ⟨ji11, hji11⟩ : ∃ j_ : Int, (wrap64 (x7_1 - 1)) = j_ := ⟨_, rfl⟩
         replace H : (if 0 ≤ (ji11) then (if (ji11) < (l0.length : Int) then (if ((Op.bytesLess (((rd_T91 l0 (ji11)).f0).toList) (((rd_T91 l0 x7_1).f0).toList)) = true) then (name_Right.l0 k1 l0 l0 (l0.length : Int) (wrap64 (x7_1 + 1))) else (some false)) else (none)) else (none)) = some r := by first | (rw [hji11] at H; exact H) | (simp only [hji11] at H ⊢; exact H)
         (try rw [hji11] at A5)
         have hji11w : (IntKind.i64.wrap (x7_1 - 1)) = ji11 := (i64_w _).trans hji11
         by_cases c12 : 0 ≤ (ji11)
         ·rw [if_pos c12] at H
          have c12b0 : decide (0 ≤ (ji11)) = true := decide_eq_true c12
          clear c12
          by_cases c13 : (ji11) < (l0.length : Int)
          ·rw [if_pos c13] at H
           have c13b0 : decide ((ji11) < (l0.length : Int)) = true := decide_eq_true c13
           clear c13
           by_cases c14 : ((Op.bytesLess (((rd_T91 l0 (ji11)).f0).toList) (((rd_T91 l0 x7_1).f0).toList)) = true)
           ·rw [if_pos c14] at H
            have c14b0 : (Op.bytesLess (((rd_T91 l0 (ji11)).f0).toList) (((rd_T91 l0 x7_1).f0).toList)) = true := c14
            clear c14
            have H' := zqj H
            clear H
            have p126 : 0 ≤ (x7_1 : Int) := zqh zrs
            have q126 : x7_1 < (l0.length : Int) := zqh zrs
            obtain ⟨ad126, e126, hx126_0, hx126_1⟩ := at_T91 HR0.out x7_1 p126 q126
            cases e126
            replace hx126_0 := zx HB.out hx126_0
            replace hx126_1 := zx HB.out hx126_1
            replace p126 := eq_true p126
            replace q126 := eq_true q126
            go_wp2_with (first | ((with_reducible refine gate_dst (N := 4) rfl ?_); refine box_event ?hg (N := 4) ?hd (cs := #[.string (⟨#[]⟩ : ByteArray), .int .i64 0]) (t := 91) ?hr ?_; (case hd => rfl); (case hg => rfl); (case hr => exact zrr); intro gb127 hg w15 hbox hb; have n0_ := zqj (below_step (zrd0 HB.out) hb); have n1_ := zqj (hbox); have n2_ : Aside0 (w.heap.size ≤ gb127) := ⟨by rw [hg]; exact below_size (zrd0 HB.out)⟩; have n3_ := n2_; clear HB; have HB := n0_; have BK127 := n1_; have GW127 := n2_; have GE127 := n3_; clear n0_ n1_ n2_ n3_; clear hb hbox hg; obtain ⟨hcz16_0, hcz16_1⟩ := zc2 BK127.out; obtain ⟨hfz16_0, hfz16_1⟩ := zf2 BK127.out) | (go_at_call 71; (with_reducible refine (name_Check.calls ((rd_T91 l0 x7_1).f0) t128 _ A5.out).mono ?_); rintro e w' ⟨rfl, ⟨nd, rfl⟩⟩; (try first | exact ⟨rfl, _, World.drewN_drewN _ _ _⟩ | exact ⟨rfl, _, Eq.trans (World.drewN_drewN _ _ _) (congrArg (World.drewN _) (Nat.add_assoc _ _ _))⟩); have p129 : 0 ≤ ((ji11) : Int) := zqh zrs; have q129 : (ji11) < (l0.length : Int) := zqh zrs; obtain ⟨ad129, e129, hx129_0, hx129_1⟩ := at_T91 HR0.out (ji11) p129 q129; obtain rfl : ad126 = ad129 := (by injection e129); have hn129_0 : ad126.block ≠ gb127 := Nat.ne_of_lt (Nat.lt_of_lt_of_le (by have := World.block_lt_of_cell? _ _ hx129_0; first | rwa [add_block] at this | exact this) GW127.out); have hn129_1 : ad126.block ≠ gb127 := Nat.ne_of_lt (Nat.lt_of_lt_of_le (by have := World.block_lt_of_cell? _ _ hx129_0; first | rwa [add_block] at this | exact this) GW127.out); replace hx129_0 := zx HB.out hx129_0; replace hx129_1 := zx HB.out hx129_1; replace hx129_0 := (cell_far (p := ⟨gb127, 0, none⟩) (zrn hn129_0) (.string ((rd_T91 l0 x7_1).f0))).trans hx129_0; replace hx129_1 := (cell_far (p := ⟨gb127, 0, none⟩) (zrn hn129_0) (.string ((rd_T91 l0 x7_1).f0))).trans hx129_1; replace hx129_0 := (cell_far (p := ⟨gb127, 1, none⟩) (zrn hn129_1) (.int .i64 ((rd_T91 l0 x7_1).f1))).trans hx129_0; replace hx129_1 := (cell_far (p := ⟨gb127, 1, none⟩) (zrn hn129_1) (.int .i64 ((rd_T91 l0 x7_1).f1))).trans hx129_1; (try have hy129_0 := fun (n_ : Nat) => (show ((((w15.drewN n_).setCell ⟨gb127, 0, none⟩ (.string ((rd_T91 l0 x7_1).f0))).setCell ⟨gb127, 1, none⟩ (.int .i64 ((rd_T91 l0 x7_1).f1)))).cell? _ = some _ from hx129_0)); (try have hy129_1 := fun (n_ : Nat) => (show ((((w15.drewN n_).setCell ⟨gb127, 0, none⟩ (.string ((rd_T91 l0 x7_1).f0))).setCell ⟨gb127, 1, none⟩ (.int .i64 ((rd_T91 l0 x7_1).f1)))).cell? _ = some _ from hx129_1)); clear hn129_0; clear hn129_1; replace p129 := eq_true p129; replace q129 := eq_true q129))
            repeat (go_quiet (first | ((with_reducible refine gate_dst (N := 4) rfl ?_); refine box_event ?hg (N := 4) ?hd (cs := #[.string (⟨#[]⟩ : ByteArray), .int .i64 0]) (t := 91) ?hr ?_; (case hd => rfl); (case hg => rfl); (case hr => exact zrr); intro gb127 hg w15 hbox hb; have n0_ := zqj (below_step (zrd0 HB.out) hb); have n1_ := zqj (hbox); have n2_ : Aside0 (w.heap.size ≤ gb127) := ⟨by rw [hg]; exact below_size (zrd0 HB.out)⟩; have n3_ := n2_; clear HB; have HB := n0_; have BK127 := n1_; have GW127 := n2_; have GE127 := n3_; clear n0_ n1_ n2_ n3_; clear hb hbox hg; obtain ⟨hcz16_0, hcz16_1⟩ := zc2 BK127.out; obtain ⟨hfz16_0, hfz16_1⟩ := zf2 BK127.out) | (go_at_call 71; (with_reducible refine (name_Check.calls ((rd_T91 l0 x7_1).f0) t128 _ A5.out).mono ?_); rintro e w' ⟨rfl, ⟨nd, rfl⟩⟩; (try first | exact ⟨rfl, _, World.drewN_drewN _ _ _⟩ | exact ⟨rfl, _, Eq.trans (World.drewN_drewN _ _ _) (congrArg (World.drewN _) (Nat.add_assoc _ _ _))⟩); have p129 : 0 ≤ ((ji11) : Int) := zqh zrs; have q129 : (ji11) < (l0.length : Int) := zqh zrs; obtain ⟨ad129, e129, hx129_0, hx129_1⟩ := at_T91 HR0.out (ji11) p129 q129; obtain rfl : ad126 = ad129 := (by injection e129); have hn129_0 : ad126.block ≠ gb127 := Nat.ne_of_lt (Nat.lt_of_lt_of_le (by have := World.block_lt_of_cell? _ _ hx129_0; first | rwa [add_block] at this | exact this) GW127.out); have hn129_1 : ad126.block ≠ gb127 := Nat.ne_of_lt (Nat.lt_of_lt_of_le (by have := World.block_lt_of_cell? _ _ hx129_0; first | rwa [add_block] at this | exact this) GW127.out); replace hx129_0 := zx HB.out hx129_0; replace hx129_1 := zx HB.out hx129_1; replace hx129_0 := (cell_far (p := ⟨gb127, 0, none⟩) (zrn hn129_0) (.string ((rd_T91 l0 x7_1).f0))).trans hx129_0; replace hx129_1 := (cell_far (p := ⟨gb127, 0, none⟩) (zrn hn129_0) (.string ((rd_T91 l0 x7_1).f0))).trans hx129_1; replace hx129_0 := (cell_far (p := ⟨gb127, 1, none⟩) (zrn hn129_1) (.int .i64 ((rd_T91 l0 x7_1).f1))).trans hx129_0; replace hx129_1 := (cell_far (p := ⟨gb127, 1, none⟩) (zrn hn129_1) (.int .i64 ((rd_T91 l0 x7_1).f1))).trans hx129_1; (try have hy129_0 := fun (n_ : Nat) => (show ((((w15.drewN n_).setCell ⟨gb127, 0, none⟩ (.string ((rd_T91 l0 x7_1).f0))).setCell ⟨gb127, 1, none⟩ (.int .i64 ((rd_T91 l0 x7_1).f1)))).cell? _ = some _ from hx129_0)); (try have hy129_1 := fun (n_ : Nat) => (show ((((w15.drewN n_).setCell ⟨gb127, 0, none⟩ (.string ((rd_T91 l0 x7_1).f0))).setCell ⟨gb127, 1, none⟩ (.int .i64 ((rd_T91 l0 x7_1).f1)))).cell? _ = some _ from hx129_1)); clear hn129_0; clear hn129_1; replace p129 := eq_true p129; replace q129 := eq_true q129)); try go_wp2_with (first | ((with_reducible refine gate_dst (N := 4) rfl ?_); refine box_event ?hg (N := 4) ?hd (cs := #[.string (⟨#[]⟩ : ByteArray), .int .i64 0]) (t := 91) ?hr ?_; (case hd => rfl); (case hg => rfl); (case hr => exact zrr); intro gb127 hg w15 hbox hb; have n0_ := zqj (below_step (zrd0 HB.out) hb); have n1_ := zqj (hbox); have n2_ : Aside0 (w.heap.size ≤ gb127) := ⟨by rw [hg]; exact below_size (zrd0 HB.out)⟩; have n3_ := n2_; clear HB; have HB := n0_; have BK127 := n1_; have GW127 := n2_; have GE127 := n3_; clear n0_ n1_ n2_ n3_; clear hb hbox hg; obtain ⟨hcz16_0, hcz16_1⟩ := zc2 BK127.out; obtain ⟨hfz16_0, hfz16_1⟩ := zf2 BK127.out) | (go_at_call 71; (with_reducible refine (name_Check.calls ((rd_T91 l0 x7_1).f0) t128 _ A5.out).mono ?_); rintro e w' ⟨rfl, ⟨nd, rfl⟩⟩; (try first | exact ⟨rfl, _, World.drewN_drewN _ _ _⟩ | exact ⟨rfl, _, Eq.trans (World.drewN_drewN _ _ _) (congrArg (World.drewN _) (Nat.add_assoc _ _ _))⟩); have p129 : 0 ≤ ((ji11) : Int) := zqh zrs; have q129 : (ji11) < (l0.length : Int) := zqh zrs; obtain ⟨ad129, e129, hx129_0, hx129_1⟩ := at_T91 HR0.out (ji11) p129 q129; obtain rfl : ad126 = ad129 := (by injection e129); have hn129_0 : ad126.block ≠ gb127 := Nat.ne_of_lt (Nat.lt_of_lt_of_le (by have := World.block_lt_of_cell? _ _ hx129_0; first | rwa [add_block] at this | exact this) GW127.out); have hn129_1 : ad126.block ≠ gb127 := Nat.ne_of_lt (Nat.lt_of_lt_of_le (by have := World.block_lt_of_cell? _ _ hx129_0; first | rwa [add_block] at this | exact this) GW127.out); replace hx129_0 := zx HB.out hx129_0; replace hx129_1 := zx HB.out hx129_1; replace hx129_0 := (cell_far (p := ⟨gb127, 0, none⟩) (zrn hn129_0) (.string ((rd_T91 l0 x7_1).f0))).trans hx129_0; replace hx129_1 := (cell_far (p := ⟨gb127, 0, none⟩) (zrn hn129_0) (.string ((rd_T91 l0 x7_1).f0))).trans hx129_1; replace hx129_0 := (cell_far (p := ⟨gb127, 1, none⟩) (zrn hn129_1) (.int .i64 ((rd_T91 l0 x7_1).f1))).trans hx129_0; replace hx129_1 := (cell_far (p := ⟨gb127, 1, none⟩) (zrn hn129_1) (.int .i64 ((rd_T91 l0 x7_1).f1))).trans hx129_1; (try have hy129_0 := fun (n_ : Nat) => (show ((((w15.drewN n_).setCell ⟨gb127, 0, none⟩ (.string ((rd_T91 l0 x7_1).f0))).setCell ⟨gb127, 1, none⟩ (.int .i64 ((rd_T91 l0 x7_1).f1)))).cell? _ = some _ from hx129_0)); (try have hy129_1 := fun (n_ : Nat) => (show ((((w15.drewN n_).setCell ⟨gb127, 0, none⟩ (.string ((rd_T91 l0 x7_1).f0))).setCell ⟨gb127, 1, none⟩ (.int .i64 ((rd_T91 l0 x7_1).f1)))).cell? _ = some _ from hx129_1)); clear hn129_0; clear hn129_1; replace p129 := eq_true p129; replace q129 := eq_true q129)))
            go_roundg k1
            case measure => have := HK1.out; omega
            case rel => exact ⟨(wrap64 (x7_1 + 1)), zrt, H', ⟨by have := HK1.out; omega⟩, ⟨by repeat (first | (with_reducible first | exact HB.out | apply zqg | apply zqe | apply zqf | refine zqd ?_ GE127.out) | exact HB.out)⟩⟩
           ·rw [if_neg c14] at H
            have c14b0 : (Op.bytesLess (((rd_T91 l0 (ji11)).f0).toList) (((rd_T91 l0 x7_1).f0).toList)) = false := by simpa using c14
            clear c14
            obtain rfl := Option.some.inj H
            have p126 : 0 ≤ (x7_1 : Int) := zqh zrs
            have q126 : x7_1 < (l0.length : Int) := zqh zrs
            obtain ⟨ad126, e126, hx126_0, hx126_1⟩ := at_T91 HR0.out x7_1 p126 q126
            cases e126
            replace hx126_0 := zx HB.out hx126_0
            replace hx126_1 := zx HB.out hx126_1
            replace p126 := eq_true p126
            replace q126 := eq_true q126
            go_wp2_with (first | ((with_reducible refine gate_dst (N := 4) rfl ?_); refine box_event ?hg (N := 4) ?hd (cs := #[.string (⟨#[]⟩ : ByteArray), .int .i64 0]) (t := 91) ?hr ?_; (case hd => rfl); (case hg => rfl); (case hr => exact zrr); intro gb127 hg w17 hbox hb; have n0_ := zqj (below_step (zrd0 HB.out) hb); have n1_ := zqj (hbox); have n2_ : Aside0 (w.heap.size ≤ gb127) := ⟨by rw [hg]; exact below_size (zrd0 HB.out)⟩; have n3_ := n2_; clear HB; have HB := n0_; have BK127 := n1_; have GW127 := n2_; have GE127 := n3_; clear n0_ n1_ n2_ n3_; clear hb hbox hg; obtain ⟨hcz18_0, hcz18_1⟩ := zc2 BK127.out; obtain ⟨hfz18_0, hfz18_1⟩ := zf2 BK127.out) | (go_at_call 71; (with_reducible refine (name_Check.calls ((rd_T91 l0 x7_1).f0) t128 _ A5.out).mono ?_); rintro e w' ⟨rfl, ⟨nd, rfl⟩⟩; (try first | exact ⟨rfl, _, World.drewN_drewN _ _ _⟩ | exact ⟨rfl, _, Eq.trans (World.drewN_drewN _ _ _) (congrArg (World.drewN _) (Nat.add_assoc _ _ _))⟩); have p129 : 0 ≤ ((ji11) : Int) := zqh zrs; have q129 : (ji11) < (l0.length : Int) := zqh zrs; obtain ⟨ad129, e129, hx129_0, hx129_1⟩ := at_T91 HR0.out (ji11) p129 q129; obtain rfl : ad126 = ad129 := (by injection e129); have hn129_0 : ad126.block ≠ gb127 := Nat.ne_of_lt (Nat.lt_of_lt_of_le (by have := World.block_lt_of_cell? _ _ hx129_0; first | rwa [add_block] at this | exact this) GW127.out); have hn129_1 : ad126.block ≠ gb127 := Nat.ne_of_lt (Nat.lt_of_lt_of_le (by have := World.block_lt_of_cell? _ _ hx129_0; first | rwa [add_block] at this | exact this) GW127.out); replace hx129_0 := zx HB.out hx129_0; replace hx129_1 := zx HB.out hx129_1; replace hx129_0 := (cell_far (p := ⟨gb127, 0, none⟩) (zrn hn129_0) (.string ((rd_T91 l0 x7_1).f0))).trans hx129_0; replace hx129_1 := (cell_far (p := ⟨gb127, 0, none⟩) (zrn hn129_0) (.string ((rd_T91 l0 x7_1).f0))).trans hx129_1; replace hx129_0 := (cell_far (p := ⟨gb127, 1, none⟩) (zrn hn129_1) (.int .i64 ((rd_T91 l0 x7_1).f1))).trans hx129_0; replace hx129_1 := (cell_far (p := ⟨gb127, 1, none⟩) (zrn hn129_1) (.int .i64 ((rd_T91 l0 x7_1).f1))).trans hx129_1; (try have hy129_0 := fun (n_ : Nat) => (show ((((w17.drewN n_).setCell ⟨gb127, 0, none⟩ (.string ((rd_T91 l0 x7_1).f0))).setCell ⟨gb127, 1, none⟩ (.int .i64 ((rd_T91 l0 x7_1).f1)))).cell? _ = some _ from hx129_0)); (try have hy129_1 := fun (n_ : Nat) => (show ((((w17.drewN n_).setCell ⟨gb127, 0, none⟩ (.string ((rd_T91 l0 x7_1).f0))).setCell ⟨gb127, 1, none⟩ (.int .i64 ((rd_T91 l0 x7_1).f1)))).cell? _ = some _ from hx129_1)); clear hn129_0; clear hn129_1; replace p129 := eq_true p129; replace q129 := eq_true q129))
            repeat (go_quiet (first | ((with_reducible refine gate_dst (N := 4) rfl ?_); refine box_event ?hg (N := 4) ?hd (cs := #[.string (⟨#[]⟩ : ByteArray), .int .i64 0]) (t := 91) ?hr ?_; (case hd => rfl); (case hg => rfl); (case hr => exact zrr); intro gb127 hg w17 hbox hb; have n0_ := zqj (below_step (zrd0 HB.out) hb); have n1_ := zqj (hbox); have n2_ : Aside0 (w.heap.size ≤ gb127) := ⟨by rw [hg]; exact below_size (zrd0 HB.out)⟩; have n3_ := n2_; clear HB; have HB := n0_; have BK127 := n1_; have GW127 := n2_; have GE127 := n3_; clear n0_ n1_ n2_ n3_; clear hb hbox hg; obtain ⟨hcz18_0, hcz18_1⟩ := zc2 BK127.out; obtain ⟨hfz18_0, hfz18_1⟩ := zf2 BK127.out) | (go_at_call 71; (with_reducible refine (name_Check.calls ((rd_T91 l0 x7_1).f0) t128 _ A5.out).mono ?_); rintro e w' ⟨rfl, ⟨nd, rfl⟩⟩; (try first | exact ⟨rfl, _, World.drewN_drewN _ _ _⟩ | exact ⟨rfl, _, Eq.trans (World.drewN_drewN _ _ _) (congrArg (World.drewN _) (Nat.add_assoc _ _ _))⟩); have p129 : 0 ≤ ((ji11) : Int) := zqh zrs; have q129 : (ji11) < (l0.length : Int) := zqh zrs; obtain ⟨ad129, e129, hx129_0, hx129_1⟩ := at_T91 HR0.out (ji11) p129 q129; obtain rfl : ad126 = ad129 := (by injection e129); have hn129_0 : ad126.block ≠ gb127 := Nat.ne_of_lt (Nat.lt_of_lt_of_le (by have := World.block_lt_of_cell? _ _ hx129_0; first | rwa [add_block] at this | exact this) GW127.out); have hn129_1 : ad126.block ≠ gb127 := Nat.ne_of_lt (Nat.lt_of_lt_of_le (by have := World.block_lt_of_cell? _ _ hx129_0; first | rwa [add_block] at this | exact this) GW127.out); replace hx129_0 := zx HB.out hx129_0; replace hx129_1 := zx HB.out hx129_1; replace hx129_0 := (cell_far (p := ⟨gb127, 0, none⟩) (zrn hn129_0) (.string ((rd_T91 l0 x7_1).f0))).trans hx129_0; replace hx129_1 := (cell_far (p := ⟨gb127, 0, none⟩) (zrn hn129_0) (.string ((rd_T91 l0 x7_1).f0))).trans hx129_1; replace hx129_0 := (cell_far (p := ⟨gb127, 1, none⟩) (zrn hn129_1) (.int .i64 ((rd_T91 l0 x7_1).f1))).trans hx129_0; replace hx129_1 := (cell_far (p := ⟨gb127, 1, none⟩) (zrn hn129_1) (.int .i64 ((rd_T91 l0 x7_1).f1))).trans hx129_1; (try have hy129_0 := fun (n_ : Nat) => (show ((((w17.drewN n_).setCell ⟨gb127, 0, none⟩ (.string ((rd_T91 l0 x7_1).f0))).setCell ⟨gb127, 1, none⟩ (.int .i64 ((rd_T91 l0 x7_1).f1)))).cell? _ = some _ from hx129_0)); (try have hy129_1 := fun (n_ : Nat) => (show ((((w17.drewN n_).setCell ⟨gb127, 0, none⟩ (.string ((rd_T91 l0 x7_1).f0))).setCell ⟨gb127, 1, none⟩ (.int .i64 ((rd_T91 l0 x7_1).f1)))).cell? _ = some _ from hx129_1)); clear hn129_0; clear hn129_1; replace p129 := eq_true p129; replace q129 := eq_true q129)); try go_wp2_with (first | ((with_reducible refine gate_dst (N := 4) rfl ?_); refine box_event ?hg (N := 4) ?hd (cs := #[.string (⟨#[]⟩ : ByteArray), .int .i64 0]) (t := 91) ?hr ?_; (case hd => rfl); (case hg => rfl); (case hr => exact zrr); intro gb127 hg w17 hbox hb; have n0_ := zqj (below_step (zrd0 HB.out) hb); have n1_ := zqj (hbox); have n2_ : Aside0 (w.heap.size ≤ gb127) := ⟨by rw [hg]; exact below_size (zrd0 HB.out)⟩; have n3_ := n2_; clear HB; have HB := n0_; have BK127 := n1_; have GW127 := n2_; have GE127 := n3_; clear n0_ n1_ n2_ n3_; clear hb hbox hg; obtain ⟨hcz18_0, hcz18_1⟩ := zc2 BK127.out; obtain ⟨hfz18_0, hfz18_1⟩ := zf2 BK127.out) | (go_at_call 71; (with_reducible refine (name_Check.calls ((rd_T91 l0 x7_1).f0) t128 _ A5.out).mono ?_); rintro e w' ⟨rfl, ⟨nd, rfl⟩⟩; (try first | exact ⟨rfl, _, World.drewN_drewN _ _ _⟩ | exact ⟨rfl, _, Eq.trans (World.drewN_drewN _ _ _) (congrArg (World.drewN _) (Nat.add_assoc _ _ _))⟩); have p129 : 0 ≤ ((ji11) : Int) := zqh zrs; have q129 : (ji11) < (l0.length : Int) := zqh zrs; obtain ⟨ad129, e129, hx129_0, hx129_1⟩ := at_T91 HR0.out (ji11) p129 q129; obtain rfl : ad126 = ad129 := (by injection e129); have hn129_0 : ad126.block ≠ gb127 := Nat.ne_of_lt (Nat.lt_of_lt_of_le (by have := World.block_lt_of_cell? _ _ hx129_0; first | rwa [add_block] at this | exact this) GW127.out); have hn129_1 : ad126.block ≠ gb127 := Nat.ne_of_lt (Nat.lt_of_lt_of_le (by have := World.block_lt_of_cell? _ _ hx129_0; first | rwa [add_block] at this | exact this) GW127.out); replace hx129_0 := zx HB.out hx129_0; replace hx129_1 := zx HB.out hx129_1; replace hx129_0 := (cell_far (p := ⟨gb127, 0, none⟩) (zrn hn129_0) (.string ((rd_T91 l0 x7_1).f0))).trans hx129_0; replace hx129_1 := (cell_far (p := ⟨gb127, 0, none⟩) (zrn hn129_0) (.string ((rd_T91 l0 x7_1).f0))).trans hx129_1; replace hx129_0 := (cell_far (p := ⟨gb127, 1, none⟩) (zrn hn129_1) (.int .i64 ((rd_T91 l0 x7_1).f1))).trans hx129_0; replace hx129_1 := (cell_far (p := ⟨gb127, 1, none⟩) (zrn hn129_1) (.int .i64 ((rd_T91 l0 x7_1).f1))).trans hx129_1; (try have hy129_0 := fun (n_ : Nat) => (show ((((w17.drewN n_).setCell ⟨gb127, 0, none⟩ (.string ((rd_T91 l0 x7_1).f0))).setCell ⟨gb127, 1, none⟩ (.int .i64 ((rd_T91 l0 x7_1).f1)))).cell? _ = some _ from hx129_0)); (try have hy129_1 := fun (n_ : Nat) => (show ((((w17.drewN n_).setCell ⟨gb127, 0, none⟩ (.string ((rd_T91 l0 x7_1).f0))).setCell ⟨gb127, 1, none⟩ (.int .i64 ((rd_T91 l0 x7_1).f1)))).cell? _ = some _ from hx129_1)); clear hn129_0; clear hn129_1; replace p129 := eq_true p129; replace q129 := eq_true q129)))
            go_ret
            exact ⟨by first | rfl | (simp [errW_none, errW_some] <;> rfl) | (simp only [← hji11]; first | rfl | (simp [errW_none, errW_some] <;> rfl)) | (simp [*, errW_none, errW_some] <;> rfl), by repeat (first | (with_reducible first | exact HB.out | apply zqg | apply zqe | apply zqf | refine zqd ?_ GE127.out) | exact HB.out)⟩
          ·rw [if_neg c13] at H
           exact absurd H (by simp)
         ·rw [if_neg c12] at H
          exact absurd H (by simp)
        ·rw [if_neg c10] at H
         have c10b0 : decide (0 < x7_1) = false := decide_eq_false c10
         clear c10
         have H' := zqj H
         clear H
         have p126 : 0 ≤ (x7_1 : Int) := zqh zrs
         have q126 : x7_1 < (l0.length : Int) := zqh zrs
         obtain ⟨ad126, e126, hx126_0, hx126_1⟩ := at_T91 HR0.out x7_1 p126 q126
         cases e126
         replace hx126_0 := zx HB.out hx126_0
         replace hx126_1 := zx HB.out hx126_1
         replace p126 := eq_true p126
         replace q126 := eq_true q126
         go_wp2_with (first | ((with_reducible refine gate_dst (N := 4) rfl ?_); refine box_event ?hg (N := 4) ?hd (cs := #[.string (⟨#[]⟩ : ByteArray), .int .i64 0]) (t := 91) ?hr ?_; (case hd => rfl); (case hg => rfl); (case hr => exact zrr); intro gb127 hg w19 hbox hb; have n0_ := zqj (below_step (zrd0 HB.out) hb); have n1_ := zqj (hbox); have n2_ : Aside0 (w.heap.size ≤ gb127) := ⟨by rw [hg]; exact below_size (zrd0 HB.out)⟩; have n3_ := n2_; clear HB; have HB := n0_; have BK127 := n1_; have GW127 := n2_; have GE127 := n3_; clear n0_ n1_ n2_ n3_; clear hb hbox hg; obtain ⟨hcz20_0, hcz20_1⟩ := zc2 BK127.out; obtain ⟨hfz20_0, hfz20_1⟩ := zf2 BK127.out) | (go_at_call 71; (with_reducible refine (name_Check.calls ((rd_T91 l0 x7_1).f0) t128 _ A5.out).mono ?_); rintro e w' ⟨rfl, ⟨nd, rfl⟩⟩; (try first | exact ⟨rfl, _, World.drewN_drewN _ _ _⟩ | exact ⟨rfl, _, Eq.trans (World.drewN_drewN _ _ _) (congrArg (World.drewN _) (Nat.add_assoc _ _ _))⟩)))
         repeat (go_quiet (first | ((with_reducible refine gate_dst (N := 4) rfl ?_); refine box_event ?hg (N := 4) ?hd (cs := #[.string (⟨#[]⟩ : ByteArray), .int .i64 0]) (t := 91) ?hr ?_; (case hd => rfl); (case hg => rfl); (case hr => exact zrr); intro gb127 hg w19 hbox hb; have n0_ := zqj (below_step (zrd0 HB.out) hb); have n1_ := zqj (hbox); have n2_ : Aside0 (w.heap.size ≤ gb127) := ⟨by rw [hg]; exact below_size (zrd0 HB.out)⟩; have n3_ := n2_; clear HB; have HB := n0_; have BK127 := n1_; have GW127 := n2_; have GE127 := n3_; clear n0_ n1_ n2_ n3_; clear hb hbox hg; obtain ⟨hcz20_0, hcz20_1⟩ := zc2 BK127.out; obtain ⟨hfz20_0, hfz20_1⟩ := zf2 BK127.out) | (go_at_call 71; (with_reducible refine (name_Check.calls ((rd_T91 l0 x7_1).f0) t128 _ A5.out).mono ?_); rintro e w' ⟨rfl, ⟨nd, rfl⟩⟩; (try first | exact ⟨rfl, _, World.drewN_drewN _ _ _⟩ | exact ⟨rfl, _, Eq.trans (World.drewN_drewN _ _ _) (congrArg (World.drewN _) (Nat.add_assoc _ _ _))⟩))); try go_wp2_with (first | ((with_reducible refine gate_dst (N := 4) rfl ?_); refine box_event ?hg (N := 4) ?hd (cs := #[.string (⟨#[]⟩ : ByteArray), .int .i64 0]) (t := 91) ?hr ?_; (case hd => rfl); (case hg => rfl); (case hr => exact zrr); intro gb127 hg w19 hbox hb; have n0_ := zqj (below_step (zrd0 HB.out) hb); have n1_ := zqj (hbox); have n2_ : Aside0 (w.heap.size ≤ gb127) := ⟨by rw [hg]; exact below_size (zrd0 HB.out)⟩; have n3_ := n2_; clear HB; have HB := n0_; have BK127 := n1_; have GW127 := n2_; have GE127 := n3_; clear n0_ n1_ n2_ n3_; clear hb hbox hg; obtain ⟨hcz20_0, hcz20_1⟩ := zc2 BK127.out; obtain ⟨hfz20_0, hfz20_1⟩ := zf2 BK127.out) | (go_at_call 71; (with_reducible refine (name_Check.calls ((rd_T91 l0 x7_1).f0) t128 _ A5.out).mono ?_); rintro e w' ⟨rfl, ⟨nd, rfl⟩⟩; (try first | exact ⟨rfl, _, World.drewN_drewN _ _ _⟩ | exact ⟨rfl, _, Eq.trans (World.drewN_drewN _ _ _) (congrArg (World.drewN _) (Nat.add_assoc _ _ _))⟩))))
         go_roundg k1
         case measure => have := HK1.out; omega
         case rel => exact ⟨(wrap64 (x7_1 + 1)), zrt, H', ⟨by have := HK1.out; omega⟩, ⟨by repeat (first | (with_reducible first | exact HB.out | apply zqg | apply zqe | apply zqf | refine zqd ?_ GE127.out) | exact HB.out)⟩⟩
      ·rw [if_neg c6] at H
       have c6b0 : (t128 == 0) = false := beq_eq_false_iff_ne.mpr c6
       have c6b1 : (t128 != 0) = true := bne_iff_ne.mpr c6
       obtain rfl := Option.some.inj H
       have p126 : 0 ≤ (x7_1 : Int) := zqh zrs
       have q126 : x7_1 < (l0.length : Int) := zqh zrs
       obtain ⟨ad126, e126, hx126_0, hx126_1⟩ := at_T91 HR0.out x7_1 p126 q126
       cases e126
       replace hx126_0 := zx HB.out hx126_0
       replace hx126_1 := zx HB.out hx126_1
       replace p126 := eq_true p126
       replace q126 := eq_true q126
       go_wp2_with (first | ((with_reducible refine gate_dst (N := 4) rfl ?_); refine box_event ?hg (N := 4) ?hd (cs := #[.string (⟨#[]⟩ : ByteArray), .int .i64 0]) (t := 91) ?hr ?_; (case hd => rfl); (case hg => rfl); (case hr => exact zrr); intro gb127 hg w21 hbox hb; have n0_ := zqj (below_step (zrd0 HB.out) hb); have n1_ := zqj (hbox); have n2_ : Aside0 (w.heap.size ≤ gb127) := ⟨by rw [hg]; exact below_size (zrd0 HB.out)⟩; have n3_ := n2_; clear HB; have HB := n0_; have BK127 := n1_; have GW127 := n2_; have GE127 := n3_; clear n0_ n1_ n2_ n3_; clear hb hbox hg; obtain ⟨hcz22_0, hcz22_1⟩ := zc2 BK127.out; obtain ⟨hfz22_0, hfz22_1⟩ := zf2 BK127.out) | (go_at_call 71; (with_reducible refine (name_Check.calls ((rd_T91 l0 x7_1).f0) t128 _ A5.out).mono ?_); rintro e w' ⟨rfl, ⟨nd, rfl⟩⟩; (try first | exact ⟨rfl, _, World.drewN_drewN _ _ _⟩ | exact ⟨rfl, _, Eq.trans (World.drewN_drewN _ _ _) (congrArg (World.drewN _) (Nat.add_assoc _ _ _))⟩)))
       repeat (go_quiet (first | ((with_reducible refine gate_dst (N := 4) rfl ?_); refine box_event ?hg (N := 4) ?hd (cs := #[.string (⟨#[]⟩ : ByteArray), .int .i64 0]) (t := 91) ?hr ?_; (case hd => rfl); (case hg => rfl); (case hr => exact zrr); intro gb127 hg w21 hbox hb; have n0_ := zqj (below_step (zrd0 HB.out) hb); have n1_ := zqj (hbox); have n2_ : Aside0 (w.heap.size ≤ gb127) := ⟨by rw [hg]; exact below_size (zrd0 HB.out)⟩; have n3_ := n2_; clear HB; have HB := n0_; have BK127 := n1_; have GW127 := n2_; have GE127 := n3_; clear n0_ n1_ n2_ n3_; clear hb hbox hg; obtain ⟨hcz22_0, hcz22_1⟩ := zc2 BK127.out; obtain ⟨hfz22_0, hfz22_1⟩ := zf2 BK127.out) | (go_at_call 71; (with_reducible refine (name_Check.calls ((rd_T91 l0 x7_1).f0) t128 _ A5.out).mono ?_); rintro e w' ⟨rfl, ⟨nd, rfl⟩⟩; (try first | exact ⟨rfl, _, World.drewN_drewN _ _ _⟩ | exact ⟨rfl, _, Eq.trans (World.drewN_drewN _ _ _) (congrArg (World.drewN _) (Nat.add_assoc _ _ _))⟩))); try go_wp2_with (first | ((with_reducible refine gate_dst (N := 4) rfl ?_); refine box_event ?hg (N := 4) ?hd (cs := #[.string (⟨#[]⟩ : ByteArray), .int .i64 0]) (t := 91) ?hr ?_; (case hd => rfl); (case hg => rfl); (case hr => exact zrr); intro gb127 hg w21 hbox hb; have n0_ := zqj (below_step (zrd0 HB.out) hb); have n1_ := zqj (hbox); have n2_ : Aside0 (w.heap.size ≤ gb127) := ⟨by rw [hg]; exact below_size (zrd0 HB.out)⟩; have n3_ := n2_; clear HB; have HB := n0_; have BK127 := n1_; have GW127 := n2_; have GE127 := n3_; clear n0_ n1_ n2_ n3_; clear hb hbox hg; obtain ⟨hcz22_0, hcz22_1⟩ := zc2 BK127.out; obtain ⟨hfz22_0, hfz22_1⟩ := zf2 BK127.out) | (go_at_call 71; (with_reducible refine (name_Check.calls ((rd_T91 l0 x7_1).f0) t128 _ A5.out).mono ?_); rintro e w' ⟨rfl, ⟨nd, rfl⟩⟩; (try first | exact ⟨rfl, _, World.drewN_drewN _ _ _⟩ | exact ⟨rfl, _, Eq.trans (World.drewN_drewN _ _ _) (congrArg (World.drewN _) (Nat.add_assoc _ _ _))⟩))))
       go_ret
       exact ⟨zru, by repeat (first | (with_reducible first | exact HB.out | apply zqg | apply zqe | apply zqf | refine zqd ?_ GE127.out) | exact HB.out)⟩
     ·rw [if_neg c4] at H
      exact absurd H (by simp)
    ·rw [if_neg c3] at H
     exact absurd H (by simp)
   ·rw [if_neg c2] at H
    have c2b0 : decide (x7_1 < (l0.length : Int)) = false := decide_eq_false c2
    clear c2
    obtain rfl := Option.some.inj H
    go_wp2
    repeat (go_quiet (fail); try go_wp2)
    go_ret
    exact ⟨zru, by repeat (first | (with_reducible first | exact HB.out | apply zqg | apply zqe | apply zqf) | exact HB.out)⟩
end Go.Proofs.Ytdkgkiemndlneaa.X
end
