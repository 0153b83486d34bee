/- What the package-level table class.blocks holds in a world, and that calls which only make memory keep it. -/
import Derived.Test.YtilnnkjlddmhbaaDoorProg
import Derived.Below
import Derived.Deep.Draws
namespace Go.Proofs.YtilnnkjlddmhbaaDoorX
open Go.RowKit
def GL (w : World) : Prop := w.cell? ⟨0, 0, none⟩ = some (.int .i64 4) ∧ w.cell? ⟨0, 1, none⟩ = some (.int .i64 8) ∧ w.cell? ⟨0, 2, none⟩ = some (.int .i64 16)
theorem GL_keep {w W : World} {a : Addr} {v : Value} (hb : Below w.heap.size w W) (h : w.cell? a = some v) : W.cell? a = some v := (hb.cell (World.block_lt_of_cell? w a h)).trans h
theorem GL_below {w W : World} (h : GL w) (hb : Below w.heap.size w W) : GL W := ⟨GL_keep hb h.1, GL_keep hb h.2.1, GL_keep hb h.2.2⟩
theorem GL_drew {w : World} (h : GL w) : GL w.drew := h
theorem GL_drewN {w : World} (h : GL w) (n : Nat) : GL (w.drewN n) := h
end Go.Proofs.YtilnnkjlddmhbaaDoorX
