import Derived.Test.YtcbfnfggnocndaaZRedoCr1
import Derived.Test.YtcbfnfggnocndaaZRedoCr10
import Derived.Test.YtcbfnfggnocndaaZRedoCr11
import Derived.Test.YtcbfnfggnocndaaZRedoCr12
import Derived.Test.YtcbfnfggnocndaaZRedoCr13
import Derived.Test.YtcbfnfggnocndaaZRedoCr14
import Derived.Test.YtcbfnfggnocndaaZRedoCr15
import Derived.Test.YtcbfnfggnocndaaZRedoCr16
import Derived.Test.YtcbfnfggnocndaaZRedoCr17
import Derived.Test.YtcbfnfggnocndaaZRedoCr18
import Derived.Test.YtcbfnfggnocndaaZRedoCr19
import Derived.Test.YtcbfnfggnocndaaZRedoCr2
import Derived.Test.YtcbfnfggnocndaaZRedoCr20
import Derived.Test.YtcbfnfggnocndaaZRedoCr21
import Derived.Test.YtcbfnfggnocndaaZRedoCr3
import Derived.Test.YtcbfnfggnocndaaZRedoCr4
import Derived.Test.YtcbfnfggnocndaaZRedoCr5
import Derived.Test.YtcbfnfggnocndaaZRedoCr6
import Derived.Test.YtcbfnfggnocndaaZRedoCr7
import Derived.Test.YtcbfnfggnocndaaZRedoCr8
import Derived.Test.YtcbfnfggnocndaaZRedoCr9
set_option linter.unusedVariables false
namespace Go.Proofs.Ytcbfnfggnocndaa
open Go.RowKit Go.Proofs.YtcbfnfggnocndaaW.PrintWords Go.Proofs.YtcbfnfggnocndaaW.PrintLast Go.Proofs.YtcbfnfggnocndaaW.PrintMore
theorem zqa {w : World} {g : Nat} {o : Obj} (h : w.heap[g]? = some o) (n : Nat) : (w.drewN n).heap[g]? = some o := h
theorem zqb {w : World} {g : Nat} {o : Obj} (h : w.heap[g]? = some o) : w.drew.heap[g]? = some o := h
theorem zqc {w : World} {g : Nat} {o : Obj} (h : w.heap[g]? = some o) (p : Obj) : (w.alloc p).heap[g]? = some o := blk_alloc h p
theorem zqd {w W : World} {g j : Nat} {v : Value} (h : Below w.heap.size w W) (k : w.heap.size ≤ g) : Below w.heap.size w (W.setCell ⟨g, j, none⟩ v) := below_set h k
theorem zqe {B : Nat} {w W : World} (h : Below B w W) (n : Nat) : Below B w (W.drewN n) := pw_below_drewN h n
theorem zqf {base : Nat} {w W : World} (h : Below base w W) : Below base w W.drew := below_drew1 h
theorem zqg {w W : World} (h : Below w.heap.size w W) (o : Obj) : Below w.heap.size w (W.alloc o) := below_alloc h o
theorem zqh {p : Prop} [inst : Decidable p] (h : decide p = true) : p := of_decide_eq_true h
theorem zqi {w : World} {g : Nat} {t : TypeId} {cs : Array Value} (h : w.heap[g]? = some (.cells cs t (0, 0))) (i : Nat) : w.frozen? ⟨g, i, none⟩ = false := blk_frozen h i
theorem zqj {p : Prop} (h : p) : Aside0 p := ⟨h⟩
theorem zqk {α : Type _} (l : List α) (i : Nat) (a : α) : l.toArray.setIfInBounds i a = (l.set i a).toArray := List.setIfInBounds_toArray l i a
theorem zql {α : Type _} {a b : α} {l : List α} : (a :: l).set 0 b = b :: l := rfl
theorem zqm {α : Type _} {a b : α} {l : List α} {n : Nat} : (a :: l).set (n + 1) b = a :: l.set n b := rfl
theorem zqn {α β : Type _} {o : Option α} {f : α → Option β} {b : β} (h : o.bind f = some b) : ∃ a, o = some a ∧ f a = some b := Option.bind_eq_some_iff.mp h
end Go.Proofs.Ytcbfnfggnocndaa
