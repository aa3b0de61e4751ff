/- FiniteKeeps: for every input the law returns true and leaves its arguments as they were: the row and its tied card. Conditions: those of the given statement. -/
import Derived.Test.YtehekppkicjimaaDoorCards
import Derived.Test.YtehekppkicjimaaDoorTie
import Derived.Test.YtehekppkicjimaaDoorPlainB
import Derived.Test.YtehekppkicjimaaDoorOpen
import Derived.WalkKit
import Derived.ProofKit
import Derived.OpenShut
import Derived.Below
import Derived.Deep.DeepHandedRow
import Derived.LaidLaws
import Derived.LaidHandle
import Derived.Stop.LaidErr
import Derived.Stop.LaidTwo
namespace Go.Proofs.YtehekppkicjimaaDoor.QFK
open Go.ChangeShapes Go.WideShapes Go.ChangeAt Go.RowKit
set_option linter.unusedVariables false

theorem own : ownKnob Tryd.prog.godebug = none := by kernel_rfl
theorem laidOut : laidOutB Tryd.prog = true := by kernel_rfl
theorem g0 : Tryd.prog.globalNamed "optima/api.ErrShape" = some 0 := by kernel_rfl
theorem g1 : Tryd.prog.globalNamed "optima/api.ErrBound" = some 1 := by kernel_rfl
theorem g2 : Tryd.prog.globalNamed "optima/api.ErrText" = some 2 := by kernel_rfl
theorem g3 : Tryd.prog.globalNamed "optima/api.ErrZero" = some 3 := by kernel_rfl
theorem g4 : Tryd.prog.globalNamed "optima/api.ErrSingular" = some 4 := by kernel_rfl
theorem g5 : Tryd.prog.globalNamed "optima/api.ErrSense" = some 5 := by kernel_rfl
theorem g6 : Tryd.prog.globalNamed "optima/api.ErrName" = some 6 := by kernel_rfl
theorem g7 : Tryd.prog.globalNamed "optima/api.ErrNumber" = some 7 := by kernel_rfl
theorem g8 : Tryd.prog.globalNamed "optima/api.ErrBasis" = some 8 := by kernel_rfl
theorem g9 : Tryd.prog.globalNamed "optima/api.ErrOpen" = some 9 := by kernel_rfl
theorem g10 : Tryd.prog.globalNamed "errors.errorType" = some 10 := by kernel_rfl
theorem gt0 : (Tryd.prog.globals[0]?).map (·.type) = some 28 := by kernel_rfl
theorem gt1 : (Tryd.prog.globals[1]?).map (·.type) = some 28 := by kernel_rfl
theorem gt2 : (Tryd.prog.globals[2]?).map (·.type) = some 28 := by kernel_rfl
theorem gt3 : (Tryd.prog.globals[3]?).map (·.type) = some 28 := by kernel_rfl
theorem gt4 : (Tryd.prog.globals[4]?).map (·.type) = some 28 := by kernel_rfl
theorem gt5 : (Tryd.prog.globals[5]?).map (·.type) = some 28 := by kernel_rfl
theorem gt6 : (Tryd.prog.globals[6]?).map (·.type) = some 28 := by kernel_rfl
theorem gt7 : (Tryd.prog.globals[7]?).map (·.type) = some 28 := by kernel_rfl
theorem gt8 : (Tryd.prog.globals[8]?).map (·.type) = some 28 := by kernel_rfl
theorem gt9 : (Tryd.prog.globals[9]?).map (·.type) = some 28 := by kernel_rfl
theorem cells165 : Tryd.prog.cellsOf 165 = 1 := by kernel_rfl
theorem cells9 : Tryd.prog.cellsOf 9 = 1 := by kernel_rfl
theorem star : "*" ++ "errors.errorString" = "*errors.errorString" := by decide
theorem row135 (u : TypeId) (h : Tryd.prog.typeName? 3 u = some "*errors.errorString") : u = 135 :=
  typeName_ptr_named (nm := "errors.errorString") (by rw [star]; kernel_rfl) (by kernel_rfl) (by decide) u (by rw [star]; exact h)
theorem rt : (Tryd.prog.cutTypes.find? (·.1 == "internal/reflectlite.rtype")).map (·.2) = some 113 := by kernel_rfl
theorem oneRow : ((List.range Tryd.prog.types.size).filter fun t => Tryd.prog.rowNamed t [101, 114, 114, 111, 114]) = [28] := by kernel_rfl

/-- one pair of sentinels -/
structure Pair (W : World) (n0 n1 : String) (x0 x1 : List UInt8) (a0 a1 : Addr) : Prop where
  v0 : W.var? Tryd.prog n0 = some #[.iface 135 (.pointer (some a0))]
  v1 : W.var? Tryd.prog n1 = some #[.iface 135 (.pointer (some a1))]
  s0 : ∃ s : ByteArray, W.cell? a0 = some (.string s) ∧ s.data.toList = x0
  s1 : ∃ s : ByteArray, W.cell? a1 = some (.string s) ∧ s.data.toList = x1
  b0 : ∃ c t, W.heap[a0.block]? = some (.cells c t (0, 0))
  b1 : ∃ c t, W.heap[a1.block]? = some (.cells c t (0, 0))
theorem pair_of {W : World} {n0 n1 : String} {x0 x1 : List UInt8} {r : List (String × DataW Unit)} {k0 k1 : Nat}
    (h : laidMet Tryd.prog ((n0, .iface "*errors.errorString" (.ptr (.agg [.lit (.string x0)]))) :: (n1, .iface "*errors.errorString" (.ptr (.agg [.lit (.string x1)]))) :: r) W)
    (hg0 : Tryd.prog.globalNamed n0 = some k0) (ht0 : (Tryd.prog.globals[k0]?).map (·.type) = some 28) (hg1 : Tryd.prog.globalNamed n1 = some k1) (ht1 : (Tryd.prog.globals[k1]?).map (·.type) = some 28) :
    ∃ a0 a1, Pair W n0 n1 x0 x1 a0 a1 := by
  obtain ⟨a0, a1, s0, s1, c0, c1, t0, t1, hv0, hv1, hc0, hs0, _, hc1, hs1, _, _, hb0, hb1⟩ := laid_sentinels2 h hg0 ht0 hg1 ht1 Tryd.underlying28 row135 Tryd.underlying135 Tryd.underlying165 rfl rfl Tryd.underlying9 cells165 cells9
  exact ⟨a0, a1, hv0, hv1, ⟨s0, hc0, hs0⟩, ⟨s1, hc1, hs1⟩, ⟨c0, t0, hb0⟩, ⟨c1, t1, hb1⟩⟩
theorem handle_of_laid {W : World} (h : laidMetH Tryd.prog Rows.finiteKeepsRow.laid W) : W.cell? ⟨10, 0, none⟩ = some (.iface 113 (.agg #[.pointer (some ⟨11, 28, none⟩)])) := by
  have h' : laidMet Tryd.prog (Rows.finiteKeepsRow.laid.filter fun x => x.2.handleName?.isNone) W ∧ handlesMet Tryd.prog [("errors.errorType", Rows.laid_errors_errorType)] W := h
  obtain ⟨name, u, ty, e1, e2, e3, e4, e5⟩ := h'.2 _ (List.mem_singleton.2 rfl)
  have en : name = [101, 114, 114, 111, 114] := (Option.some.inj e1).symm
  subst en
  obtain rfl := Option.some.inj (rt.symm.trans e2)
  have hm : ty ∈ (List.range Tryd.prog.types.size).filter fun t => Tryd.prog.rowNamed t [101, 114, 114, 111, 114] := List.mem_filter.2 ⟨List.mem_range.2 e3, e4⟩
  rw [oneRow] at hm
  obtain rfl := List.mem_singleton.1 hm
  have hh : typeHandle Tryd.prog 28 = .pointer (some ⟨11, 28, none⟩) := by kernel_rfl
  rw [hh] at e5
  simpa using World.var?_cell g10 e5 0
def texts : List (List UInt8) := [[111, 112, 116, 105, 109, 97, 58, 32, 115, 104, 97, 112, 101], [111, 112, 116, 105, 109, 97, 58, 32, 98, 111, 117, 110, 100], [111, 112, 116, 105, 109, 97, 58, 32, 116, 101, 120, 116], [111, 112, 116, 105, 109, 97, 58, 32, 122, 101, 114, 111], [111, 112, 116, 105, 109, 97, 58, 32, 115, 105, 110, 103, 117, 108, 97, 114], [111, 112, 116, 105, 109, 97, 58, 32, 115, 101, 110, 115, 101], [111, 112, 116, 105, 109, 97, 58, 32, 110, 97, 109, 101], [111, 112, 116, 105, 109, 97, 58, 32, 110, 117, 109, 98, 101, 114], [111, 112, 116, 105, 109, 97, 58, 32, 98, 97, 115, 105, 115], [111, 112, 116, 105, 109, 97, 58, 32, 111, 112, 101, 110]]
def listed : List (String × DataW Unit) := [("optima/api.ErrText", Rows.laid_optima_api_ErrText), ("optima/api.ErrBound", Rows.laid_optima_api_ErrBound), ("optima/api.ErrZero", Rows.laid_optima_api_ErrZero), ("optima/api.ErrShape", Rows.laid_optima_api_ErrShape), ("optima/api.ErrSingular", Rows.laid_optima_api_ErrSingular), ("optima/api.ErrSense", Rows.laid_optima_api_ErrSense), ("optima/api.ErrName", Rows.laid_optima_api_ErrName), ("optima/api.ErrNumber", Rows.laid_optima_api_ErrNumber), ("optima/api.ErrBasis", Rows.laid_optima_api_ErrBasis), ("optima/api.ErrOpen", Rows.laid_optima_api_ErrOpen)]
theorem filtered : (Rows.finiteKeepsRow.laid.filter fun x => x.2.handleName?.isNone) = listed := rfl
/-- WHAT THE CONDITION GIVES THE WALK. -/
theorem sent_of_laid {W : World} (h : laidMetH Tryd.prog Rows.finiteKeepsRow.laid W) : ∃ Sn : Sents, @Sent Sn W := by
  have hh := handle_of_laid h
  have h' : laidMet Tryd.prog (Rows.finiteKeepsRow.laid.filter fun x => x.2.handleName?.isNone) W ∧ handlesMet Tryd.prog [("errors.errorType", Rows.laid_errors_errorType)] W := h
  have hl := h'.1
  rw [filtered] at hl
  obtain ⟨a2, a1, p21⟩ := pair_of hl g2 gt2 g1 gt1
  obtain ⟨a3, a0, p30⟩ := pair_of hl.tail.tail g3 gt3 g0 gt0
  obtain ⟨a4, a5, p45⟩ := pair_of hl.tail.tail.tail.tail g4 gt4 g5 gt5
  obtain ⟨a6, a7, p67⟩ := pair_of hl.tail.tail.tail.tail.tail.tail g6 gt6 g7 gt7
  obtain ⟨a8, a9, p89⟩ := pair_of hl.tail.tail.tail.tail.tail.tail.tail.tail g8 gt8 g9 gt9
  have cs : ∀ c : Int, 0 ≤ c → c < 10 → c = 0 ∨ c = 1 ∨ c = 2 ∨ c = 3 ∨ c = 4 ∨ c = 5 ∨ c = 6 ∨ c = 7 ∨ c = 8 ∨ c = 9 := fun c h0 h1 => by omega
  let E : Int → Addr := fun c => if c = 0 then a0 else if c = 1 then a1 else if c = 2 then a2 else if c = 3 then a3 else if c = 4 then a4 else if c = 5 then a5 else if c = 6 then a6 else if c = 7 then a7 else if c = 8 then a8 else a9
  have txt : ∀ c : Int, 0 ≤ c → c < 10 → ∃ s : ByteArray, W.cell? (E c) = some (.string s) ∧ s.data.toList = texts.getD c.toNat [] := by
    intro c h0 h1
    rcases cs c h0 h1 with rfl | rfl | rfl | rfl | rfl | rfl | rfl | rfl | rfl | rfl
    · exact p30.s1
    · exact p21.s1
    · exact p21.s0
    · exact p30.s0
    · exact p45.s0
    · exact p45.s1
    · exact p67.s0
    · exact p67.s1
    · exact p89.s0
    · exact p89.s1
  have apart : ∀ i : Nat, i < 10 → ∀ j : Nat, j < 10 → i ≠ j → texts.getD i [] ≠ texts.getD j [] := by decide
  refine ⟨⟨E⟩, @Sent.mk ⟨E⟩ W ?_ ?_ ?_ ?_ ?_ ?_ ?_ ?_ ?_ ?_ hh ?_ ?_⟩
  · show W.cell? ⟨0, 0, none⟩ = some (.iface 135 (.pointer (some a0)))
    simpa using World.var?_cell g0 p30.v1 0
  · show W.cell? ⟨1, 0, none⟩ = some (.iface 135 (.pointer (some a1)))
    simpa using World.var?_cell g1 p21.v1 0
  · show W.cell? ⟨2, 0, none⟩ = some (.iface 135 (.pointer (some a2)))
    simpa using World.var?_cell g2 p21.v0 0
  · show W.cell? ⟨3, 0, none⟩ = some (.iface 135 (.pointer (some a3)))
    simpa using World.var?_cell g3 p30.v0 0
  · show W.cell? ⟨4, 0, none⟩ = some (.iface 135 (.pointer (some a4)))
    simpa using World.var?_cell g4 p45.v0 0
  · show W.cell? ⟨5, 0, none⟩ = some (.iface 135 (.pointer (some a5)))
    simpa using World.var?_cell g5 p45.v1 0
  · show W.cell? ⟨6, 0, none⟩ = some (.iface 135 (.pointer (some a6)))
    simpa using World.var?_cell g6 p67.v0 0
  · show W.cell? ⟨7, 0, none⟩ = some (.iface 135 (.pointer (some a7)))
    simpa using World.var?_cell g7 p67.v1 0
  · show W.cell? ⟨8, 0, none⟩ = some (.iface 135 (.pointer (some a8)))
    simpa using World.var?_cell g8 p89.v0 0
  · show W.cell? ⟨9, 0, none⟩ = some (.iface 135 (.pointer (some a9)))
    simpa using World.var?_cell g9 p89.v1 0
  · intro c h0 h1
    rcases cs c h0 h1 with rfl | rfl | rfl | rfl | rfl | rfl | rfl | rfl | rfl | rfl
    · exact p30.b1
    · exact p21.b1
    · exact p21.b0
    · exact p30.b0
    · exact p45.b0
    · exact p45.b1
    · exact p67.b0
    · exact p67.b1
    · exact p89.b0
    · exact p89.b1
  · intro c d h0 h1 k0 k1 hne e
    obtain ⟨s, hs, ts⟩ := txt c h0 h1
    obtain ⟨s', hs', ts'⟩ := txt d k0 k1
    have e' : E c = E d := e
    rw [e', hs'] at hs
    obtain rfl := Value.string.inj (Option.some.inj hs)
    exact apart c.toNat (by omega) d.toNat (by omega) (by omega) (by rw [← ts, ← ts'])

/-- A WORLD FOR THE WITNESS: the settled one, the sentinels and the handle laid. -/
def errS (i : Nat) : ByteArray := { data := (texts.getD i []).toArray }
noncomputable def low : Nat := (World.holding Tryd.prog default ⟨#[], #[], []⟩).heap.size
noncomputable def put (h : Array Obj) (i : Nat) (v : Value) : Array Obj := h.modify i fun
  | .cells _ t frozen => .cells #[v] t frozen
  | o => o
noncomputable def laidWorld (os : Os) : World :=
  let w0 := World.holding Tryd.prog os ⟨#[.cells #[.string (errS 0)] 165, .cells #[.string (errS 1)] 165, .cells #[.string (errS 2)] 165, .cells #[.string (errS 3)] 165, .cells #[.string (errS 4)] 165, .cells #[.string (errS 5)] 165, .cells #[.string (errS 6)] 165, .cells #[.string (errS 7)] 165, .cells #[.string (errS 8)] 165, .cells #[.string (errS 9)] 165], #[], []⟩
  { w0 with heap := put (put (put (put (put (put (put (put (put (put (put w0.heap 0 (.iface 135 (.pointer (some ⟨low, 0, none⟩)))) 1 (.iface 135 (.pointer (some ⟨low + 1, 0, none⟩)))) 2 (.iface 135 (.pointer (some ⟨low + 2, 0, none⟩)))) 3 (.iface 135 (.pointer (some ⟨low + 3, 0, none⟩)))) 4 (.iface 135 (.pointer (some ⟨low + 4, 0, none⟩)))) 5 (.iface 135 (.pointer (some ⟨low + 5, 0, none⟩)))) 6 (.iface 135 (.pointer (some ⟨low + 6, 0, none⟩)))) 7 (.iface 135 (.pointer (some ⟨low + 7, 0, none⟩)))) 8 (.iface 135 (.pointer (some ⟨low + 8, 0, none⟩)))) 9 (.iface 135 (.pointer (some ⟨low + 9, 0, none⟩)))) 10 (.iface 113 (.agg #[.pointer (some ⟨11, 28, none⟩)])) }
def args0 : Array Value := #[.agg #[.slice none 0 0, .slice none 0 0], .slice none 0 0]
theorem laid_met (os : Os) : laidMetH Tryd.prog Rows.finiteKeepsRow.laid ((laidWorld os).forCall (fun _ _ => 0) ⟨#[], args0, []⟩).memory :=
  laidMetH_of_parts (laidMet_of_run' 8 (by kernel_rfl) (by kernel_rfl)) (by kernel_rfl)
theorem reads (os : Os) {H : Type} (enc : TypeId × Value → H) : ∃ places, DataW.whole enc Tryd.prog ((laidWorld os).forCall (fun _ _ => 0) ⟨#[], args0, []⟩).memory Tryd.f3.params.toList Rows.finiteKeepsSpec.vars false args0.toList 8 = some ([.agg [.nil, .nil], .nil], [], places) :=
  ⟨[], by kernel_rfl⟩
set_option maxRecDepth 100000 in
theorem contract (H : Type) (enc : TypeId × Value → H) (W : World) (base : Nat) (args : Array Value) (ds gs : List (DataW H)) (before : List MemPlace)
    (hval : ∀ (j : Nat) t v, Tryd.f3.params[j]? = some t → args[j]? = some v → Value.okWide Tryd.prog W .any base t v)
    (hW : DataW.Whole enc Tryd.prog Tryd.f3.params.toList Rows.finiteKeepsSpec.vars false W args.toList ds gs before) (hL : laidMetH Tryd.prog Rows.finiteKeepsRow.laid W) :
    Calls Tryd.prog 3 args W fun e W' => ∃ v, e = .returned v ∧ Rows.finiteKeepsSpec.post enc Tryd.prog Tryd.f3 false true false false W args v W' := by
  have hW' := hW
  obtain ⟨p, q, hA0, hV, rfl, hfz, hnd⟩ := hW
  have hA : DataW.TrodAll enc Tryd.prog W 0 (fun _ => true) true Tryd.f3.params.toList args.toList ds p := hA0
  rw [Tryd.params3] at hA hval
  obtain ⟨v0, vs0, d0, ds0, p0, q0, hargs, rfl, rfl, h0, r0⟩ := trodAll_cons hA
  obtain ⟨v1, vs1, d1, ds1, p1, q1, rfl, rfl, rfl, h1, r1⟩ := trodAll_cons r0
  obtain ⟨rfl, rfl, rfl⟩ := trodAll_nil r1
  obtain rfl : args = #[v0, v1] := by cases args; simp_all
  obtain ⟨rfl, rfl⟩ := trodVars_none hV
  have lt0 : ∀ x ∈ p0, x.block < W.heap.size := by obtain ⟨m, hm⟩ := h0; exact DataW.trod_lt m _ _ _ hm
  have lt1 : ∀ x ∈ p1, x.block < W.heap.size := by obtain ⟨m, hm⟩ := h1; exact DataW.trod_lt m _ _ _ hm
  obtain ⟨A0, c0, l0, A1, c1, l1, rfl, hl0, hl1, hC0, hC1⟩ := open_puzzle (.inr ⟨_, _, hval 0 25 v0 rfl rfl⟩) h0
  obtain ⟨A2, c2, l2, rfl, hl2, hC2⟩ := open_ints26 (hval 1 26 v1 rfl rfl) h1
  obtain ⟨Sn, hS⟩ := sent_of_laid hL
  obtain ⟨k, hk⟩ := (law_true l0 l1 l2).rounds
  clear hA0 hval
  refine (@optimalaw3_FiniteKeeps.calls Sn k A0 c0 l0 A1 c1 l1 A2 c2 l2 true W hC0 hl0 hC1 hl1 hC2 hl2 hk hS).mono fun e W' ⟨he, bel⟩ => ?_
  subst he
  exact ⟨_, rfl, _, _, _, [], _, [], hW', trodAll_mk1 (shut_bool Tryd.underlying4 _), trodAll_cons_mk (Below.trod laidOut (by kernel_rfl) (of_decide_eq_true (by kernel_rfl)) h0 bel lt0) (trodAll_cons_mk (Below.trod laidOut (by kernel_rfl) (of_decide_eq_true (by kernel_rfl)) h1 bel lt1) trodAll_mk0), rfl, bel.frame _, fun h => by cases h⟩

set_option maxRecDepth 100000 in
theorem lifted (os : Os) (started : os.Started) (H : Type) (enc : TypeId × Value → H) (F : Stop.Interp) :
    ReturnsInHanded {} Tryd.checked os 3 .any ((OpenSpec.ofChange Rows.finiteKeepsSpec).preRow enc Tryd.prog Tryd.f3 Rows.finiteKeepsRow.domain false Rows.finiteKeepsRow.laid) (((OpenSpec.ofChange Rows.finiteKeepsSpec).at F).post enc Tryd.prog Tryd.f3 false true false false) := by
  obtain ⟨places, hx⟩ := reads os enc
  refine returnsInHanded_of_row (C := Tryd.checked) (s := OpenSpec.ofChange Rows.finiteKeepsSpec) own started (by kernel_rfl) Tryd.func3
    (witness_row_at (enc := enc) (C := Tryd.checked) false (laidWorld os) args0 rfl (by kernel_rfl) (by kernel_rfl) (by kernel_rfl)
      (OpenSpec.preRow_of_cond 8 hx (by kernel_rfl) (fun k hk => by cases hk) (by kernel_rfl) (laid_met os))) ?_
  intro W base args ds gs before hval hW _ _ _ hL _ _
  exact contract H enc W base args ds gs before hval hW hL
theorem said : Rows.FiniteKeepsSaid :=
  OpenClaim.holds_of_cond 3 Tryd.f3 rfl rfl rfl rfl rfl rfl rfl ⟨rfl, rfl, rfl, rfl, rfl⟩ rfl rfl rfl rfl rfl (by kernel_rfl) Tryd.func3 (by kernel_rfl)
    (of_decide_eq_true (by kernel_rfl)) (by unfold Func.isWrapper; first | (rw [if_pos (by decide +kernel)]; kernel_rfl) | (rw [if_neg (by decide +kernel)]; exact ⟨rfl, rfl⟩))
    (fun os started H enc _ F => by rw [OpenClaim.pre_eq_preRow]; exact lifted os started H enc F)
theorem plain (f : FuncId) (fn : Func) (hf : Tryd.pinned.checked.prog.funcNamed "optima/optimalaw3.FiniteKeeps" = some f) (hfn : Tryd.pinned.checked.prog.funcs[f]? = some fn) :
    true = Tryd.pinned.checked.prog.looks [] ∧ ∀ (j : Nat) t, fn.params[j]? = some t → Tryd.pinned.checked.prog.wantsStandIn t = false := by
  obtain rfl : f = 3 := Option.some.inj ((show Tryd.prog.funcNamed "optima/optimalaw3.FiniteKeeps" = some 3 by kernel_rfl).symm.trans hf) |>.symm
  obtain rfl : fn = Tryd.f3 := (Option.some.inj (Tryd.func3.symm.trans hfn)).symm
  refine ⟨by kernel_rfl, fun j t ht => ?_⟩
  rw [Tryd.params3] at ht
  rcases (show t = 25 ∨ t = 26 by simpa using Array.mem_of_getElem? ht) with rfl | rfl
  · exact (show Tryd.prog.wantsStandIn 25 = false by kernel_rfl)
  · exact (show Tryd.prog.wantsStandIn 26 = false by kernel_rfl)
theorem finiteKeeps_card : Rows.FiniteKeepsCardSaid :=
  Claim7.holds_tied_plain_at .later [] _ _ _ _ said (fun _ h => by cases h) (by kernel_rfl) (fun _ h => by cases h) finiteKeeps_row_tie rfl ⟨rfl, rfl⟩ (by kernel_rfl) rfl plain (by kernel_rfl)
end Go.Proofs.YtehekppkicjimaaDoor.QFK
