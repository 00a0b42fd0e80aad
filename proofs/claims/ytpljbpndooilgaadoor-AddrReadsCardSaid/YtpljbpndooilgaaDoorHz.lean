/- Short words for the printed contracts: what stands beside a call stands behind it, too. -/
import Derived.Test.YtpljbpndooilgaaDoorWWords
import Derived.Test.YtpljbpndooilgaaDoorWLast
namespace Go.Proofs.YtpljbpndooilgaaDoor
open Go.RowKit Go.Proofs.YtpljbpndooilgaaDoorW.PrintWords Go.Proofs.YtpljbpndooilgaaDoorW.PrintLast
set_option linter.unusedVariables false
theorem bN {w : World} {g : Nat} {o : Obj} (h : w.heap[g]? = some o) (n : Nat) : (w.drewN n).heap[g]? = some o := blk_drewN h n
theorem bD {w : World} {g : Nat} {o : Obj} (h : w.heap[g]? = some o) : w.drew.heap[g]? = some o := blk_drew h
theorem bA {w : World} {g : Nat} {o : Obj} (h : w.heap[g]? = some o) (x : Obj) : (w.alloc x).heap[g]? = some o := blk_alloc h x
theorem aM {p : Prop} (h : p) : Aside0 p := Aside0.mk h
theorem bbA {w0 w w1 : World} {g : Nat} {o : Obj} (h : Aside0 (w0.heap[g]? = some o)) (hb : Below w.heap.size w w1)
    (h' : w.heap[g]? = some o := by (with_reducible repeat (first | apply bN | apply bD | apply bA | refine blk_far ?_ (Aside0.out (by first | with_reducible assumption | assumption)) _)); exact Aside0.out (by first | with_reducible assumption | assumption)) : w1.heap[g]? = some o := blk_below h' hb
theorem ltA {w0 w : World} {g : Nat} {o : Obj} (h : Aside0 (w0.heap[g]? = some o))
    (h' : w.heap[g]? = some o := by (with_reducible repeat (first | apply bN | apply bD | apply bA | refine blk_far ?_ (Aside0.out (by first | with_reducible assumption | assumption)) _)); exact Aside0.out (by first | with_reducible assumption | assumption)) : g < w.heap.size := blk_lt h'
theorem bkA {w0 w : World} {g : Nat} {o : Obj} (h : Aside0 (w0.heap[g]? = some o))
    (h' : w.heap[g]? = some o := by (with_reducible repeat (first | apply bN | apply bD | apply bA | refine blk_far ?_ (Aside0.out (by first | with_reducible assumption | assumption)) _)); exact Aside0.out (by first | with_reducible assumption | assumption)) : w.heap[g]? = some o := h'
theorem hzA {w : World} {g : Nat} {t : TypeId} {cs : Array Value} {v : Value} (h : Aside0 (w.heap[g]? = some (.cells cs t (0, 0)))) (i : Nat) (e : cs[i]? = some v := by rfl) : w.cell? ⟨g, i, none⟩ = some v := (blk_cell h.out i).trans e
theorem fzA {w : World} {g : Nat} {t : TypeId} {cs : Array Value} (h : Aside0 (w.heap[g]? = some (.cells cs t (0, 0)))) (i : Nat) : w.frozen? ⟨g, i, none⟩ = false := blk_frozen h.out i
theorem szA {w w1 : World} {g : Nat} (hg : g = w1.heap.size)
    (h : Below w.heap.size w w1 := by repeat (first | (with_reducible first | exact Aside0.out (by first | with_reducible assumption | assumption) | apply below_alloc | apply pw_below_drewN | apply below_drew1 | refine below_set ?_ (Aside0.out (by first | with_reducible assumption | assumption))) | exact Aside0.out (by first | with_reducible assumption | assumption))) : Aside0 (w.heap.size ≤ g) := Aside0.mk (hg ▸ below_size h)
theorem neA {w0 w : World} {g b : Nat} {o : Obj} (h : Aside0 (w0.heap[b]? = some o)) (hg : g = w.heap.size)
    (h' : w.heap[b]? = some o := by (with_reducible repeat (first | apply bN | apply bD | apply bA | refine blk_far ?_ (Aside0.out (by first | with_reducible assumption | assumption)) _)); exact Aside0.out (by first | with_reducible assumption | assumption)) : Aside0 (b ≠ g) := Aside0.mk (hg ▸ Nat.ne_of_lt (blk_lt h'))
theorem neB {w0 w : World} {g b : Nat} {o : Obj} (h : Aside0 (w0.heap[b]? = some o)) (hg : g = w.heap.size)
    (h' : w.heap[b]? = some o := by (with_reducible repeat (first | apply bN | apply bD | apply bA | refine blk_far ?_ (Aside0.out (by first | with_reducible assumption | assumption)) _)); exact Aside0.out (by first | with_reducible assumption | assumption)) : Aside0 (g ≠ b) := Aside0.mk (hg ▸ Nat.ne_of_gt (blk_lt h'))
theorem hbA {B : Nat} {w w1 : World}
    (h : Below B w w1 := by repeat (first | (with_reducible first | exact Aside0.out (by first | with_reducible assumption | assumption) | apply below_alloc | apply pw_below_drewN | apply below_drew1 | refine below_set ?_ (Aside0.out (by first | with_reducible assumption | assumption))) | exact Aside0.out (by first | with_reducible assumption | assumption))) : Below B w w1 := h
theorem rfA {α : Type} {a b : α} (h : a = b := by (try simp only [List.map_toArray, List.map_cons, List.map_nil]); first | done | rfl | (simp only [List.length_drop, List.length_take]; rfl)) : a = b := h
end Go.Proofs.YtpljbpndooilgaaDoor
