/- The sentinel errors of package api as values: an interface value that holds the sentinel's own pointer. Conditions: the package variables hold them ('Sent'). -/
import Derived.Test.YtehekppkicjimaaDoorProg
import Derived.Test.YtehekppkicjimaaDoorKitFK
namespace Go.Proofs.YtehekppkicjimaaDoor
open Go.RowKit Go.Proofs.YtehekppkicjimaaDoorW.PrintWords
set_option linter.unusedVariables false

/-- where each sentinel's text lies -/
class Sents where
  E : Int → Addr
variable [Sn : Sents]

def errW : Option Int → Value
  | none => .nilIface
  | some c => .iface 135 (.pointer (some (Sn.E c)))
theorem errW_none : errW none = .nilIface := rfl
theorem errW_some (c : Int) : errW (some c) = .iface 135 (.pointer (some (Sn.E c))) := rfl

/-- the package variables hold the sentinels -/
structure Sent (w : World) : Prop where
  c0 : w.cell? ⟨0, 0, none⟩ = some (.iface 135 (.pointer (some (Sn.E 0))))
  c1 : w.cell? ⟨1, 0, none⟩ = some (.iface 135 (.pointer (some (Sn.E 1))))
  c2 : w.cell? ⟨2, 0, none⟩ = some (.iface 135 (.pointer (some (Sn.E 2))))
  c3 : w.cell? ⟨3, 0, none⟩ = some (.iface 135 (.pointer (some (Sn.E 3))))
  c4 : w.cell? ⟨4, 0, none⟩ = some (.iface 135 (.pointer (some (Sn.E 4))))
  c5 : w.cell? ⟨5, 0, none⟩ = some (.iface 135 (.pointer (some (Sn.E 5))))
  c6 : w.cell? ⟨6, 0, none⟩ = some (.iface 135 (.pointer (some (Sn.E 6))))
  c7 : w.cell? ⟨7, 0, none⟩ = some (.iface 135 (.pointer (some (Sn.E 7))))
  c8 : w.cell? ⟨8, 0, none⟩ = some (.iface 135 (.pointer (some (Sn.E 8))))
  c9 : w.cell? ⟨9, 0, none⟩ = some (.iface 135 (.pointer (some (Sn.E 9))))
  c10 : w.cell? ⟨10, 0, none⟩ = some (.iface 113 (.agg #[.pointer (some ⟨11, 28, none⟩)]))
  blk : ∀ c : Int, 0 ≤ c → c < 10 → ∃ cs t, w.heap[(Sn.E c).block]? = some (.cells cs t (0, 0))
  inj : ∀ c d : Int, 0 ≤ c → c < 10 → 0 ≤ d → d < 10 → c ≠ d → Sn.E c ≠ Sn.E d
theorem Sent.below {w w' : World} (h : Sent w) (hb : Below w.heap.size w w') : Sent w' where
  c0 := pw_cell_below hb h.c0
  c1 := pw_cell_below hb h.c1
  c2 := pw_cell_below hb h.c2
  c3 := pw_cell_below hb h.c3
  c4 := pw_cell_below hb h.c4
  c5 := pw_cell_below hb h.c5
  c6 := pw_cell_below hb h.c6
  c7 := pw_cell_below hb h.c7
  c8 := pw_cell_below hb h.c8
  c9 := pw_cell_below hb h.c9
  c10 := pw_cell_below hb h.c10
  blk := fun c h0 h1 => by
    obtain ⟨cs, t, e⟩ := h.blk c h0 h1
    refine ⟨cs, t, ?_⟩
    rw [hb.block _ (Array.getElem?_eq_some_iff.1 e).1]
    exact e
  inj := h.inj
theorem Sent.cell {w : World} (h : Sent w) (c : Nat) (h1 : c < 10) : w.cell? ⟨c, 0, none⟩ = some (errW (some (c : Int))) := by
  have hc : c = 0 ∨ c = 1 ∨ c = 2 ∨ c = 3 ∨ c = 4 ∨ c = 5 ∨ c = 6 ∨ c = 7 ∨ c = 8 ∨ c = 9 := by omega
  rcases hc with rfl | rfl | rfl | rfl | rfl | rfl | rfl | rfl | rfl | rfl
  · exact h.c0
  · exact h.c1
  · exact h.c2
  · exact h.c3
  · exact h.c4
  · exact h.c5
  · exact h.c6
  · exact h.c7
  · exact h.c8
  · exact h.c9
theorem Sent.alloc {w : World} (h : Sent w) (o : Obj) : Sent (w.alloc o) := h.below (below_alloc (Below.refl _ _) o)
theorem Sent.drew {w : World} (h : Sent w) : Sent w.drew := h.below (below_drew (Below.refl _ _))
theorem Sent.drewN {w : World} (h : Sent w) (n : Nat) : Sent (w.drewN n) := h.below (pw_below_drewN (Below.refl _ _) n)
theorem Sent.ofB {w w' : World} (h : Sent w) (hb : Aside0 (Below w.heap.size w w')) : Sent w' := h.below hb.out
end Go.Proofs.YtehekppkicjimaaDoor
