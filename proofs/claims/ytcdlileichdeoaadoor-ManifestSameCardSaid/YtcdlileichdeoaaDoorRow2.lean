/- More on rows. -/
import Derived.Test.YtcdlileichdeoaaDoorOps3
namespace Go.Proofs.YtcdlileichdeoaaDoor
open Go.RowKit
theorem Row.blt {w : World} {e : TypeId} {size n g o c k : Nat} {xs : List Value} (h : Row w e size (.slice (some ⟨g, o, none⟩) k c) n xs) (hn : 0 < n) : g < w.heap.size := by
  obtain ⟨g', o', c', he, hl⟩ := h.reads.some_ hn
  injection he with e1 _ _
  injection e1 with e1
  injection e1 with e1 _ _
  rwa [e1]
end Go.Proofs.YtcdlileichdeoaaDoor
