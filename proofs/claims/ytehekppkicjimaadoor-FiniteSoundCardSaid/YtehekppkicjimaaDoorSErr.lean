/- The sentinel errors of package api as values: an interface value that holds the sentinel's own pointer. Conditions: the package variables hold them ('Sent'). -/
import Derived.Test.YtehekppkicjimaaDoorProg
import Derived.Test.YtehekppkicjimaaDoorSKitFK
namespace Go.Proofs.YtehekppkicjimaaDoor
open Go.RowKit Go.Proofs.YtehekppkicjimaaDoorW.PrintWords
set_option linter.unusedVariables false

/-- where each sentinel's text lies -/
class Sents where
  E : Int → Addr
variable [Sn : Sents]

def errW : Option Int → Value
  | none => .nilIface
  | some c => .iface 135 (.pointer (some (Sn.E c)))
theorem errW_none : errW none = .nilIface := rfl
theorem errW_some (c : Int) : errW (some c) = .iface 135 (.pointer (some (Sn.E c))) := rfl

/-- the package variables hold the sentinels -/
structure Sent (w : World) : Prop where
  c0 : w.cell? ⟨0, 0, none⟩ = some (.iface 135 (.pointer (some (Sn.E 0))))
  c1 : w.cell? ⟨1, 0, none⟩ = some (.iface 135 (.pointer (some (Sn.E 1))))
theorem Sent.below {w w' : World} (h : Sent w) (hb : Below w.heap.size w w') : Sent w' where
  c0 := pw_cell_below hb h.c0
  c1 := pw_cell_below hb h.c1
theorem Sent.alloc {w : World} (h : Sent w) (o : Obj) : Sent (w.alloc o) := h.below (below_alloc (Below.refl _ _) o)
theorem Sent.drew {w : World} (h : Sent w) : Sent w.drew := h.below (below_drew (Below.refl _ _))
theorem Sent.drewN {w : World} (h : Sent w) (n : Nat) : Sent (w.drewN n) := h.below (pw_below_drewN (Below.refl _ _) n)
theorem Sent.ofB {w w' : World} (h : Sent w) (hb : Aside0 (Below w.heap.size w w')) : Sent w' := h.below hb.out
end Go.Proofs.YtehekppkicjimaaDoor
