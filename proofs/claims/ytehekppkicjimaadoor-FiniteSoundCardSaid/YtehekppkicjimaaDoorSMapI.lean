/- Two maps over ints, read as a set and as owners. Conditions: none. -/
import Derived.Test.YtehekppkicjimaaDoorSStep
import Derived.Test.YtehekppkicjimaaDoorSKuhn
import Derived.Maps.OwnSet
namespace Go.Proofs.YtehekppkicjimaaDoor.QFK
open Go.RowKit Go.Proofs.YtehekppkicjimaaDoorW.PrintWords Go.Proofs.YtehekppkicjimaaDoorW.PrintLast Go.Proofs.YtehekppkicjimaaDoorW.PrintMore
open Go.Deep
set_option linter.unusedVariables false
set_option linter.unusedSimpArgs false
def IsM (w : World) (b : Nat) : Prop := ∃ es clock, w.heap[b]? = some (.map es clock)
def I64 (x : Int) : Prop := -9223372036854775808 ≤ x ∧ x ≤ 9223372036854775807
theorem wf_int {x : Int} (h : I64 x) : (Lit.int .i64 x).wf = true := WalkArith.wf_i64 h
theorem law3 : Maps.Keyed Tryd.prog 3 := Maps.int_keyed Tryd.underlying3
theorem zero4 (w : World) : (zeroValue 4).run Tryd.prog w = .ok (.bool false) w := by kernel_rfl
theorem zero3 (w : World) : (zeroValue 3).run Tryd.prog w = .ok (.int .i64 0) w := by kernel_rfl
/-- block b is a map that reads as a set -/
def SetM (w : World) (b : Nat) (S : List Int) : Prop := ∃ D : DataW Unit, w.ownsMap Tryd.prog 3 (plainElem Tryd.prog 4) b S.length D ∧ ∀ x, D.atKey (.int .i64 x) (.lit (.bool false)) = .lit (.bool (decide (x ∈ S)))
/-- block b is a map that reads as owners -/
def OwnM (w : World) (b n : Nat) (M : Int → Option Nat) : Prop := ∃ D : DataW Unit, w.ownsMap Tryd.prog 3 (plainElem Tryd.prog 3) b n D ∧ ∀ x, Maps.has D (.int .i64 x) = (M x).isSome ∧ ∀ o, M x = some o → D.atKey (.int .i64 x) (.lit (.int .i64 0)) = .lit (.int .i64 o)
theorem plainElem_bool_inv {P : Program} {e : TypeId} (he : P.underlying e = some .bool) {v : Value} {z : DataW Unit × List MemPlace} (h : plainElem P e v = some z) : ∃ x, v = .bool x ∧ z = (.lit (.bool x), []) := by
  unfold plainElem at h
  rw [he] at h
  cases v <;> simp at h
  exact ⟨_, rfl, h.symm⟩
theorem SetM.isM {w : World} {b : Nat} {S : List Int} (h : SetM w b S) : IsM w b := by obtain ⟨D, ⟨es, clock, hb, _⟩, _⟩ := h; exact ⟨es, clock, hb⟩
theorem OwnM.isM {w : World} {b n : Nat} {M : Int → Option Nat} (h : OwnM w b n M) : IsM w b := by obtain ⟨D, ⟨es, clock, hb, _⟩, _⟩ := h; exact ⟨es, clock, hb⟩
theorem IsM.lt {w : World} {b : Nat} (h : IsM w b) : b < w.heap.size := by obtain ⟨es, clock, hb⟩ := h; exact (Array.getElem?_eq_some_iff.1 hb).1
theorem SetM.block {w w' : World} {b : Nat} {S : List Int} (h : SetM w b S) (hb : w'.heap[b]? = w.heap[b]?) : SetM w' b S := by
  obtain ⟨D, ⟨es, clock, h1, h2⟩, h3⟩ := h
  exact ⟨D, ⟨es, clock, hb.trans h1, h2⟩, h3⟩
theorem OwnM.block {w w' : World} {b n : Nat} {M : Int → Option Nat} (h : OwnM w b n M) (hb : w'.heap[b]? = w.heap[b]?) : OwnM w' b n M := by
  obtain ⟨D, ⟨es, clock, h1, h2⟩, h3⟩ := h
  exact ⟨D, ⟨es, clock, hb.trans h1, h2⟩, h3⟩
theorem SetM.below {w w' : World} {b : Nat} {S : List Int} (h : SetM w b S) (hb : Below w.heap.size w w') : SetM w' b S := h.block (hb.block b h.isM.lt)
theorem OwnM.below {w w' : World} {b n : Nat} {M : Int → Option Nat} (h : OwnM w b n M) (hb : Below w.heap.size w w') : OwnM w' b n M := h.block (hb.block b h.isM.lt)
theorem OwnM.mono {w : World} {b n m : Nat} {M : Int → Option Nat} (h : OwnM w b n M) (hm : n ≤ m) : OwnM w b m M := by obtain ⟨D, h1, h2⟩ := h; exact ⟨D, h1.mono hm, h2⟩
theorem SetM.made (w : World) : SetM (w.alloc (.map #[] 0)) w.heap.size [] := ⟨.map [], World.ownsMap_made _ _ _ _, fun x => rfl⟩
theorem OwnM.made (w : World) : OwnM (w.alloc (.map #[] 0)) w.heap.size 0 fun _ => none := ⟨.map [], World.ownsMap_made _ _ _ _, fun x => ⟨rfl, fun o h => by cases h⟩⟩
/-- 'seen[v]' -/
theorem SetM.look {w : World} {b : Nat} {S : List Int} (h : SetM w b S) {x : Int} (hx : I64 x) : (Instr.lookup 157 (.map (some b)) (.int .i64 x) false).run Tryd.prog w = .ok (.bool (decide (x ∈ S))) w := by
  obtain ⟨D, h1, h2⟩ := h
  obtain ⟨v, ps, hrun, hv⟩ := h1.lookup law3 Tryd.underlying157 (zero4 w) (plainElem_bool Tryd.underlying4 false) (Maps.keyOf_int_mk Tryd.underlying3 (wf_int hx))
  obtain ⟨c, rfl, hc⟩ := plainElem_bool_inv Tryd.underlying4 hv
  simp only [Prod.mk.injEq] at hc
  rw [h2 x] at hc
  have h4 : decide (x ∈ S) = c := by
    have h5 := hc.1
    generalize decide (x ∈ S) = q at h5 ⊢
    cases h5; rfl
  rw [hrun, h4]
/-- 'o, ok := owner[v]' -/
theorem OwnM.look {w : World} {b n : Nat} {M : Int → Option Nat} (h : OwnM w b n M) {x : Int} (hx : I64 x) : ∃ c : Int, (Instr.lookup 154 (.map (some b)) (.int .i64 x) true).run Tryd.prog w = .ok (.tuple #[.int .i64 c, .bool (M x).isSome]) w ∧ ∀ o, M x = some o → c = o := by
  obtain ⟨D, h1, h2⟩ := h
  obtain ⟨v, ps, hrun, hv⟩ := h1.look_ok law3 Tryd.underlying154 (zero3 w) (plainElem_int Tryd.underlying3 (by decide)) (Maps.keyOf_int_mk Tryd.underlying3 (wf_int hx))
  obtain ⟨c, rfl, hc, _⟩ := plainElem_int_inv Tryd.underlying3 hv
  simp only [Prod.mk.injEq] at hc
  refine ⟨c, by rw [hrun, (h2 x).1], fun o ho => ?_⟩
  have h3 := (h2 x).2 o ho
  rw [h3] at hc
  have h5 := hc.1
  generalize (o : Int) = q at h5 ⊢
  cases h5; rfl
theorem key_lit (x : Int) : WideAt.IsKeyLit (.int .i64 x) := trivial
theorem wp_set {w : World} {ops : Array Oper} {rest : List Oper} {o : Oper} {a : Act} {Q : Exit → Act → World → Prop}
    (hg : o.guard = none) (m x v : Operand) (hop : o.op = Op.mapUpdate 157 m x v) (b : Nat) (S : List Int) (hm : a.eval m = .map (some b)) (hown : SetM w b S) (hn : S.length < 1000000) (key : Int) (hx : a.eval x = .int .i64 key) (hk : I64 key) (hv : a.eval v = .bool true)
    (hK : ∀ w', SetM w' b (key :: S) → w.grownBy w' (some b) → wpList Tryd.prog ops Q rest (a.put o.dst undef) w') : wpList Tryd.prog ops Q (o :: rest) a w := by
  obtain ⟨D, h1, h2⟩ := hown
  refine wpList_mapUpdate_own w hg m x v 157 hop 3 4 law3 Tryd.underlying157 (plainElem Tryd.prog 4) b S.length D hm h1 (by unfold maxLen; omega) _ _ (.int .i64 key) hx hv (Maps.keyOf_int_mk Tryd.underlying3 (wf_int hk)) (.lit (.bool true)) [] (plainElem_bool Tryd.underlying4 true) ?_
  intro w' h3 h4
  refine hK w' ⟨_, h3, fun y => ?_⟩ h4
  by_cases e : y = key
  · subst e
    rw [Maps.atKey_put_same h1.isMap (key_lit y)]; simp
  · rw [Maps.atKey_put_other (by intro h; injection h with _ h; exact e h), h2 y]; simp [e]
theorem wp_own {w : World} {ops : Array Oper} {rest : List Oper} {o : Oper} {a : Act} {Q : Exit → Act → World → Prop}
    (hg : o.guard = none) (m x v : Operand) (hop : o.op = Op.mapUpdate 154 m x v) (b n : Nat) (M : Int → Option Nat) (hm : a.eval m = .map (some b)) (hown : OwnM w b n M) (hn : n < 1000000) (key : Int) (hx : a.eval x = .int .i64 key) (hk : I64 key) (i : Nat) (hi : i < 1000000) (hv : a.eval v = .int .i64 i)
    (hK : ∀ w', OwnM w' b (n + 1) (putM M key i) → w.grownBy w' (some b) → wpList Tryd.prog ops Q rest (a.put o.dst undef) w') : wpList Tryd.prog ops Q (o :: rest) a w := by
  obtain ⟨D, h1, h2⟩ := hown
  refine wpList_mapUpdate_own w hg m x v 154 hop 3 3 law3 Tryd.underlying154 (plainElem Tryd.prog 3) b n D hm h1 (by unfold maxLen; omega) _ _ (.int .i64 key) hx hv (Maps.keyOf_int_mk Tryd.underlying3 (wf_int hk)) (.lit (.int .i64 i)) [] (plainElem_int Tryd.underlying3 (wf_int (by unfold I64; omega))) ?_
  intro w' h3 h4
  refine hK w' ⟨_, h3, fun y => ?_⟩ h4
  by_cases e : y = key
  · subst e
    rw [Maps.atKey_put_same h1.isMap (key_lit y), Maps.has_put_same h1.isMap (key_lit y)]
    simp [putM]
  · have hne : (Lit.int .i64 y) ≠ .int .i64 key := by intro h; injection h with _ h; exact e h
    rw [Maps.atKey_put_other hne, Maps.has_put_other hne]
    simp only [putM, if_neg e]
    exact h2 y
theorem fr_grown {w w' : World} {b c : Nat} (h : w.grownBy w' (some b)) : Fr w w' b c ∧ Fr w w' c b :=
  ⟨⟨h.os, h.tape, h.output, h.size, fun k hk hb _ => h.block k hk (by simpa using hb)⟩, ⟨h.os, h.tape, h.output, h.size, fun k hk _ hb => h.block k hk (by simpa using hb)⟩⟩
theorem ne_of_cell {w : World} {b : Nat} {p : Addr} {v : Value} (hm : IsM w b) (hc : w.cell? p = some v) : p.block ≠ b := by
  rintro rfl
  obtain ⟨es, clock, h⟩ := hm
  simp [World.cell?, h] at hc
theorem ne_of_cells {w : World} {b k : Nat} {cs : Array Value} {t : TypeId} {x : Nat × Nat} (hm : IsM w b) (hc : w.heap[k]? = some (.cells cs t x)) : k ≠ b := by
  rintro rfl
  obtain ⟨es, clock, h⟩ := hm
  rw [h] at hc; cases hc
theorem cell_keep {w w' : World} {b c : Nat} (F : Fr w w' b c) (hb : IsM w b) (hc : IsM w c) {p : Addr} {v : Value} (h : w.cell? p = some v) : w'.cell? p = some v := cell_fr F h (ne_of_cell hb h) (ne_of_cell hc h)
theorem C_keep {w w' : World} {b c : Nat} (F : Fr w w' b c) (hb : IsM w b) (hc : IsM w c) {A : Option Addr} {xs : List Int} (h : Kd.C (Kd.int .i64) w A xs.length xs) : Kd.C (Kd.int .i64) w' A xs.length xs := by
  refine C_fr F h (fun hne ad e => ?_)
  obtain ⟨ad', e', hcell⟩ := Kd.at_int h (0 : Int) (by omega) (by have := List.length_pos_iff.2 hne; omega)
  rw [e'] at e
  obtain rfl := Option.some.inj e
  have e0 : ad'.add 0 = ad' := (by simp [Addr.add])
  simp only [Int.toNat_zero, e0] at hcell
  exact ⟨ne_of_cell hb hcell, ne_of_cell hc hcell⟩
theorem Net.keep {w w' : World} {a g b c : Nat} {h : Value × Value} {L : List (List Int)} (N : Net w a g h L) (F : Fr w w' b c) (hb : IsM w b) (hc : IsM w c) : Net w' a g h L := by
  refine ⟨?_, fun hL => ?_, N.ne, Nat.lt_of_lt_of_le N.lt F.size, Nat.lt_of_lt_of_le N.gl F.size⟩
  · obtain ⟨A, cap, e, hl, hA⟩ := N.blk
    exact ⟨A, cap, by rw [F.block a N.lt (ne_of_cells hb e) (ne_of_cells hc e)]; exact e, hl, hA⟩
  · obtain ⟨cells, e, hcs⟩ := N.row hL
    refine ⟨cells, by rw [F.block g N.gl (ne_of_cells hb e) (ne_of_cells hc e)]; exact e, fun i hi => ?_⟩
    obtain ⟨v, h1, h2⟩ := hcs i hi
    obtain ⟨A, cc, e2, hl, hC, hf⟩ := h2.ex
    exact ⟨v, h1, ⟨A, cc, e2, hl, C_keep F hb hc hC, hf⟩⟩
theorem IsM.fr {w w' : World} {b c d : Nat} (h : IsM w d) (F : Fr w w' b c) (h1 : d ≠ b) (h2 : d ≠ c) : IsM w' d := by
  obtain ⟨es, clock, hh⟩ := h
  exact ⟨es, clock, (F.block d (Array.getElem?_eq_some_iff.1 hh).1 h1 h2).trans hh⟩
end Go.Proofs.YtehekppkicjimaaDoor.QFK
