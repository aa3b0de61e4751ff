/- Arguments opened: what a slice of slices, a constraint, a puzzle read as, out of what the row's reading tells. Conditions: none. -/
import Derived.Test.YtehekppkicjimaaDoorSQFKx0
import Derived.Deep.Slices
import Derived.OpenShut
import Derived.ChangeSame
import Derived.ChangeAt
import Derived.WideShapes
import Derived.KernelRfl
namespace Go.Proofs.YtehekppkicjimaaDoor.QFK
open Go.RowKit Go.Proofs.YtehekppkicjimaaDoorW.PrintWords Go.Proofs.YtehekppkicjimaaDoorW.PrintLast Go.Proofs.YtehekppkicjimaaDoorW.PrintMore
open Go.Deep Go.ChangeShapes Go.WideShapes Go.ChangeAt
set_option linter.unusedVariables false
set_option maxRecDepth 100000
section
variable {H : Type} {enc : TypeId × Value → H} {W : World} {held : Bool} {spare : Nat → Bool} {base : Nat}
/-- every value of the type that is read is of the kind -/
def Opens {α : Type} (enc : TypeId × Value → H) (W : World) (base : Nat) (spare : Nat → Bool) (held : Bool) (d : Kd α) (t : TypeId) : Prop :=
  ∀ (fuel : Nat) (cs : List Value) (x : DataW H × List MemPlace), DataW.trod enc Tryd.prog W base spare held fuel t cs = some x → ∃ a, d.K W a cs
theorem opens_int {t : TypeId} (ht : Tryd.prog.underlying t = some (.int .i64)) : Opens enc W base spare held (Kd.int .i64) t := by
  intro fuel cs x h
  obtain ⟨n, rfl, _, _⟩ := DataW.trod_int ht h
  exact ⟨n, rfl⟩
theorem opens_row {α : Type} {d : Kd α} {t e : TypeId} (ht : Tryd.prog.underlying t = some (.slice e)) (hc : Tryd.prog.cellsOf e = d.sz) (he : Opens enc W base spare held d e) (fuel : Nat) (cs : List Value) (x : DataW H × List MemPlace) (h : DataW.trod enc Tryd.prog W base spare held fuel t cs = some x) :
    ∃ (A : Option Addr) (c : Nat) (xs : List α), cs = [.slice A xs.length c] ∧ xs.length ≤ c ∧ d.C W A xs.length xs := by
  rcases open_slice ht h with ⟨rfl, _⟩ | ⟨a, len, cap, m, n, D, Pl, rfl, hb, hl, hm, hmm, _, hx⟩
  · exact ⟨none, 0, [], rfl, Nat.le_refl _, rfl, Nat.zero_le _, fun h0 => absurd h0 (Nat.lt_irrefl _)⟩
  · have hle : len ≤ m := by rw [hmm]; split <;> omega
    have each : ∀ i, i < len → ∃ p : α × List Value, p.2.length = d.sz ∧ d.K W p.1 p.2 ∧ ∀ j u, p.2[j]? = some u → W.cell? (a.add (i * d.sz + j)) = some u := by
      intro i hi
      obtain ⟨cs', h1, h2⟩ := hx i (by omega)
      obtain ⟨y, hy⟩ := he _ _ _ h2
      rw [hc] at h1
      refine ⟨(y, cs'), d.K_len hy, hy, ?_⟩
      intro j u hj
      have hjl : j < cs'.length := (List.getElem?_eq_some_iff.1 hj).1
      have hd : j < d.sz := by have := d.K_len hy; omega
      have := (World.cells?_some h1).2.2 j hd
      have e : (a.add (i * d.sz)).add j = a.add (i * d.sz + j) := Addr.add_add _ _ _
      rw [e] at this
      rw [this]; exact hj
    rcases Nat.eq_zero_or_pos len with h0 | h0
    · subst h0
      exact ⟨some a, cap, [], rfl, Nat.zero_le _, rfl, Nat.zero_le _, fun h0 => absurd h0 (Nat.lt_irrefl _)⟩
    have inh : Nonempty (α × List Value) := ⟨(each 0 h0).choose⟩
    obtain ⟨p0, hp⟩ : ∃ p0 : Nat → α × List Value, ∀ i, i < len → (p0 i).2.length = d.sz ∧ d.K W (p0 i).1 (p0 i).2 ∧ ∀ j u, (p0 i).2[j]? = some u → W.cell? (a.add (i * d.sz + j)) = some u :=
      ⟨fun i => if hi : i < len then (each i hi).choose else Classical.choice inh, fun i hi => by simp only [hi, dif_pos]; exact (each i hi).choose_spec⟩
    have hlen : ((List.range len).map fun i => (p0 i).1).length = len := by simp
    refine ⟨some a, cap, (List.range len).map fun i => (p0 i).1, by rw [hlen], by rw [hlen]; exact hl, ?_⟩
    rw [hlen]
    refine ⟨hlen, ?_, fun _ => ⟨a, rfl, fun j p hj => ?_⟩⟩
    · have : cap ≤ 9223372036854775807 := hm
      omega
    · have hjl : j < len := by
        have := (List.getElem?_eq_some_iff.1 hj).1
        rwa [hlen] at this
      rw [List.getElem?_map, List.getElem?_range hjl] at hj
      obtain rfl := Option.some.inj hj
      exact ⟨(p0 j).2, (hp j hjl).1, (hp j hjl).2.1, (hp j hjl).2.2⟩
theorem opens_slice {α : Type} {d : Kd α} {t e : TypeId} (ht : Tryd.prog.underlying t = some (.slice e)) (hc : Tryd.prog.cellsOf e = d.sz) (he : Opens enc W base spare held d e) : Opens enc W base spare held (Kd.slice e d) t := by
  intro fuel cs x h
  obtain ⟨A, c, xs, rfl, hl, hC⟩ := opens_row ht hc he fuel cs x h
  exact ⟨xs, A, c, rfl, hl, hC⟩
theorem cells3 : Tryd.prog.cellsOf 3 = 1 := by kernel_rfl
theorem cells22 : Tryd.prog.cellsOf 22 = 1 := by kernel_rfl
theorem cells23 : Tryd.prog.cellsOf 23 = 1 := by kernel_rfl
theorem cells26 : Tryd.prog.cellsOf 26 = 1 := by kernel_rfl
theorem cells44 : Tryd.prog.cellsOf 44 = 6 := by kernel_rfl
theorem opens_26 : Opens enc W base spare held (Kd.slice 3 (Kd.int .i64)) 26 := opens_slice Tryd.underlying26 cells3 (opens_int Tryd.underlying3)
theorem opens_22 : Opens enc W base spare held (Kd.slice 26 (Kd.slice 3 (Kd.int .i64))) 22 := opens_slice Tryd.underlying22 cells26 opens_26
theorem opens_44 : Opens enc W base spare held k44 44 := by
  intro fuel cs x h
  obtain ⟨xs, n, _, rfl, hl, hlen, hf⟩ := DataW.trod_struct Tryd.underlying44 h
  rw [cells44] at hl
  match cs, hl with
  | [c0, c1, c2, c3, c4, c5], _ =>
    have h0 : DataW.trod enc Tryd.prog W base spare held n 3 (([c0, c1, c2, c3, c4, c5].drop 0).take (Tryd.prog.cellsOf 3)) = xs[0]? := hf 0 _ rfl
    have h1 : DataW.trod enc Tryd.prog W base spare held n 26 (([c0, c1, c2, c3, c4, c5].drop 1).take (Tryd.prog.cellsOf 26)) = xs[1]? := hf 1 _ rfl
    have h2 : DataW.trod enc Tryd.prog W base spare held n 26 (([c0, c1, c2, c3, c4, c5].drop 2).take (Tryd.prog.cellsOf 26)) = xs[2]? := hf 2 _ rfl
    have h3 : DataW.trod enc Tryd.prog W base spare held n 26 (([c0, c1, c2, c3, c4, c5].drop 3).take (Tryd.prog.cellsOf 26)) = xs[3]? := hf 3 _ rfl
    have h4 : DataW.trod enc Tryd.prog W base spare held n 3 (([c0, c1, c2, c3, c4, c5].drop 4).take (Tryd.prog.cellsOf 3)) = xs[4]? := hf 4 _ rfl
    have h5 : DataW.trod enc Tryd.prog W base spare held n 22 (([c0, c1, c2, c3, c4, c5].drop 5).take (Tryd.prog.cellsOf 22)) = xs[5]? := hf 5 _ rfl
    simp only [cells3, cells26, cells22, List.drop_zero, List.drop_succ_cons, List.take_succ_cons, List.take_zero] at h0 h1 h2 h3 h4 h5
    rcases xs with _ | ⟨x0, _ | ⟨x1, _ | ⟨x2, _ | ⟨x3, _ | ⟨x4, _ | ⟨x5, _ | ⟨x6, xs⟩⟩⟩⟩⟩⟩⟩ <;> simp at hlen
    obtain ⟨a0, k0⟩ := opens_int Tryd.underlying3 _ _ _ h0
    obtain ⟨a1, k1⟩ := opens_26 _ _ _ h1
    obtain ⟨a2, k2⟩ := opens_26 _ _ _ h2
    obtain ⟨a3, k3⟩ := opens_26 _ _ _ h3
    obtain ⟨a4, k4⟩ := opens_int Tryd.underlying3 _ _ _ h4
    obtain ⟨a5, k5⟩ := opens_22 _ _ _ h5
    exact ⟨⟨a0, a1, a2, a3, a4, a5⟩, [c0], [c1, c2, c3, c4, c5], rfl, k0, [c1], [c2, c3, c4, c5], rfl, k1, [c2], [c3, c4, c5], rfl, k2, [c3], [c4, c5], rfl, k3, [c4], [c5], rfl, k4, k5⟩
/-- A puzzle that is read: its lists of values and its constraints. -/
theorem open_puzzle {v : Value} {d : DataW H} {ps : List MemPlace} (hv : Value.okWide Tryd.prog W .any 0 25 v ∨ ∃ r b, Value.okWide Tryd.prog W r b 25 v) (h : DataW.Trod enc Tryd.prog W base spare held 25 v d ps) :
    ∃ (A0 : Option Addr) (c0 : Nat) (l0 : List (List Int)) (A1 : Option Addr) (c1 : Nat) (l1 : List S44), v = .agg #[.slice A0 l0.length c0, .slice A1 l1.length c1] ∧ l0.length ≤ c0 ∧ l1.length ≤ c1 ∧
      Kd.C (Kd.slice 3 (Kd.int .i64)) W A0 l0.length l0 ∧ Kd.C k44 W A1 l1.length l1 := by
  obtain ⟨fuel, hf⟩ := h
  obtain ⟨cs, rfl⟩ : ∃ cs, v = .agg cs := by
    rcases hv with hv | ⟨r, b, hv⟩ <;> (obtain ⟨cs, e, _⟩ := okWide_struct Tryd.underlying25 hv; exact ⟨cs, e⟩)
  obtain ⟨y0, y1, n, _, hl, h0, h1⟩ := trod_struct2 Tryd.underlying25 hf
  have hc : Tryd.prog.cellsOf 25 = 2 := by kernel_rfl
  rw [hc] at hl
  simp only [Value.cells] at hl h0 h1
  obtain ⟨cl⟩ := cs
  match cl, hl with
  | [c0, c1], _ =>
    simp only [cells22, cells23, List.drop_zero, List.drop_succ_cons, List.take_succ_cons, List.take_zero] at h0 h1
    obtain ⟨A0, k0, l0, e0, hl0, hC0⟩ := opens_row Tryd.underlying22 cells26 opens_26 _ _ _ h0
    obtain ⟨A1, k1, l1, e1, hl1, hC1⟩ := opens_row Tryd.underlying23 cells44 opens_44 _ _ _ h1
    simp only [List.cons.injEq, and_true] at e0 e1
    subst e0 e1
    exact ⟨A0, k0, l0, A1, k1, l1, rfl, hl0, hl1, hC0, hC1⟩
theorem open_ints26 {v : Value} {d : DataW H} {ps : List MemPlace} {r : Reach} {b : Nat} (hv : Value.okWide Tryd.prog W r b 26 v) (h : DataW.Trod enc Tryd.prog W base spare held 26 v d ps) :
    ∃ (A : Option Addr) (c : Nat) (l : List Int), v = .slice A l.length c ∧ l.length ≤ c ∧ Kd.C (Kd.int .i64) W A l.length l := by
  obtain ⟨fuel, hf⟩ := h
  obtain ⟨a, len, cap, rfl⟩ := okWide_slice Tryd.underlying26 hv
  obtain ⟨A, c, l, e, hl, hC⟩ := opens_row Tryd.underlying26 cells3 (opens_int Tryd.underlying3) _ _ _ hf
  simp only [Value.cells, List.cons.injEq, and_true] at e
  exact ⟨A, c, l, e, hl, hC⟩
end
end Go.Proofs.YtehekppkicjimaaDoor.QFK
