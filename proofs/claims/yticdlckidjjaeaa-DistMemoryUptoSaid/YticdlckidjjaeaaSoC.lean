/- What both sorts need. -/
import Derived.Sort.Row
import Derived.Sort.Grow
import Derived.Shelf.Abstract
import Derived.Lib.Hide
set_option linter.unusedVariables false
namespace Go.Proofs.Yticdlckidjjaeaa.Hand
open Go.Shelf Go.Lib Go.Sort
def cmpI (a b : Int) : Int := if a < b then -1 else if b < a then 1 else 0
theorem heap_grow_lt (w : World) (os : Array Obj) (k : Nat) (h : k < w.heap.size) : (grow w os).heap[k]? = w.heap[k]? := by
  show (w.heap ++ os)[k]? = _
  rw [Array.getElem?_append_left h]
theorem heap_putRow (w : World) (m blk : Nat) (d : Array Value) (k : Nat) : (putRow id (Sort.ahead w m) blk 0 d).heap[k]? = if blk = k then (w.heap[k]?).map (onCells (putCells id 0 d)) else w.heap[k]? := by
  unfold putRow mapBlock
  simp only [Sort.ahead, Array.getElem?_modify]
end Go.Proofs.Yticdlckidjjaeaa.Hand
