/- FiniteSound: for every input the law returns true and leaves its arguments as they were: the row and its tied card. Conditions: those of the given statement. -/
import Derived.Test.YtehekppkicjimaaDoorCards
import Derived.Test.YtehekppkicjimaaDoorTie
import Derived.Test.YtehekppkicjimaaDoorSLawAll
import Derived.Test.YtehekppkicjimaaDoorSOpen
import Derived.WalkKit
import Derived.ProofKit
import Derived.OpenShut
import Derived.Below
import Derived.Deep.DeepHandedRow
import Derived.LaidLaws
import Derived.LaidHandle
import Derived.Stop.LaidErr
import Derived.Stop.LaidTwo
namespace Go.Proofs.YtehekppkicjimaaDoor.QFK
open Go.ChangeShapes Go.WideShapes Go.ChangeAt Go.RowKit
set_option linter.unusedVariables false

theorem own : ownKnob Tryd.prog.godebug = none := by kernel_rfl
theorem laidOut : laidOutB Tryd.prog = true := by kernel_rfl
theorem g0 : Tryd.prog.globalNamed "optima/api.ErrShape" = some 0 := by kernel_rfl
theorem g1 : Tryd.prog.globalNamed "optima/api.ErrBound" = some 1 := by kernel_rfl
theorem gt0 : (Tryd.prog.globals[0]?).map (·.type) = some 28 := by kernel_rfl
theorem gt1 : (Tryd.prog.globals[1]?).map (·.type) = some 28 := by kernel_rfl
theorem cells165 : Tryd.prog.cellsOf 165 = 1 := by kernel_rfl
theorem cells9 : Tryd.prog.cellsOf 9 = 1 := by kernel_rfl
theorem star : "*" ++ "errors.errorString" = "*errors.errorString" := by decide
theorem row135 (u : TypeId) (h : Tryd.prog.typeName? 3 u = some "*errors.errorString") : u = 135 :=
  typeName_ptr_named (nm := "errors.errorString") (by rw [star]; kernel_rfl) (by kernel_rfl) (by decide) u (by rw [star]; exact h)

/-- one pair of sentinels -/
structure Pair (W : World) (n0 n1 : String) (x0 x1 : List UInt8) (a0 a1 : Addr) : Prop where
  v0 : W.var? Tryd.prog n0 = some #[.iface 135 (.pointer (some a0))]
  v1 : W.var? Tryd.prog n1 = some #[.iface 135 (.pointer (some a1))]
  s0 : ∃ s : ByteArray, W.cell? a0 = some (.string s) ∧ s.data.toList = x0
  s1 : ∃ s : ByteArray, W.cell? a1 = some (.string s) ∧ s.data.toList = x1
  b0 : ∃ c t, W.heap[a0.block]? = some (.cells c t (0, 0))
  b1 : ∃ c t, W.heap[a1.block]? = some (.cells c t (0, 0))
theorem pair_of {W : World} {n0 n1 : String} {x0 x1 : List UInt8} {r : List (String × DataW Unit)} {k0 k1 : Nat}
    (h : laidMet Tryd.prog ((n0, .iface "*errors.errorString" (.ptr (.agg [.lit (.string x0)]))) :: (n1, .iface "*errors.errorString" (.ptr (.agg [.lit (.string x1)]))) :: r) W)
    (hg0 : Tryd.prog.globalNamed n0 = some k0) (ht0 : (Tryd.prog.globals[k0]?).map (·.type) = some 28) (hg1 : Tryd.prog.globalNamed n1 = some k1) (ht1 : (Tryd.prog.globals[k1]?).map (·.type) = some 28) :
    ∃ a0 a1, Pair W n0 n1 x0 x1 a0 a1 := by
  obtain ⟨a0, a1, s0, s1, c0, c1, t0, t1, hv0, hv1, hc0, hs0, _, hc1, hs1, _, _, hb0, hb1⟩ := laid_sentinels2 h hg0 ht0 hg1 ht1 Tryd.underlying28 row135 Tryd.underlying135 Tryd.underlying165 rfl rfl Tryd.underlying9 cells165 cells9
  exact ⟨a0, a1, hv0, hv1, ⟨s0, hc0, hs0⟩, ⟨s1, hc1, hs1⟩, ⟨c0, t0, hb0⟩, ⟨c1, t1, hb1⟩⟩
def texts : List (List UInt8) := [[111, 112, 116, 105, 109, 97, 58, 32, 115, 104, 97, 112, 101], [111, 112, 116, 105, 109, 97, 58, 32, 98, 111, 117, 110, 100]]
def listed : List (String × DataW Unit) := [("optima/api.ErrBound", Rows.laid_optima_api_ErrBound), ("optima/api.ErrShape", Rows.laid_optima_api_ErrShape)]
theorem filtered : (Rows.finiteSoundRow.laid.filter fun x => x.2.handleName?.isNone) = listed := rfl
/-- WHAT THE CONDITION GIVES THE WALK. -/
theorem sent_of_laid {W : World} (h : laidMetH Tryd.prog Rows.finiteSoundRow.laid W) : ∃ Sn : Sents, @Sent Sn W := by
  have hl : laidMet Tryd.prog listed W := h
  obtain ⟨a1, a0, p10⟩ := pair_of hl g1 gt1 g0 gt0
  let E : Int → Addr := fun c => if c = 0 then a0 else a1
  refine ⟨⟨E⟩, @Sent.mk ⟨E⟩ W ?_ ?_⟩
  · show W.cell? ⟨0, 0, none⟩ = some (.iface 135 (.pointer (some a0)))
    simpa using World.var?_cell g0 p10.v1 0
  · show W.cell? ⟨1, 0, none⟩ = some (.iface 135 (.pointer (some a1)))
    simpa using World.var?_cell g1 p10.v0 0

/-- A WORLD FOR THE WITNESS: the settled one, the sentinels and the handle laid. -/
def errS (i : Nat) : ByteArray := { data := (texts.getD i []).toArray }
noncomputable def low : Nat := (World.holding Tryd.prog default ⟨#[], #[], []⟩).heap.size
noncomputable def put (h : Array Obj) (i : Nat) (v : Value) : Array Obj := h.modify i fun
  | .cells _ t frozen => .cells #[v] t frozen
  | o => o
noncomputable def laidWorld (os : Os) : World :=
  let w0 := World.holding Tryd.prog os ⟨#[.cells #[.string (errS 0)] 165, .cells #[.string (errS 1)] 165], #[], []⟩
  { w0 with heap := put (put w0.heap 0 (.iface 135 (.pointer (some ⟨low, 0, none⟩)))) 1 (.iface 135 (.pointer (some ⟨low + 1, 0, none⟩))) }
def args0 : Array Value := #[.agg #[.slice none 0 0, .slice none 0 0], .slice none 0 0]
theorem laid_met (os : Os) : laidMetH Tryd.prog Rows.finiteSoundRow.laid ((laidWorld os).forCall (fun _ _ => 0) ⟨#[], args0, []⟩).memory :=
  laidMetH_of_parts (laidMet_of_run' 8 (by kernel_rfl) (by kernel_rfl)) (by kernel_rfl)
theorem reads (os : Os) {H : Type} (enc : TypeId × Value → H) : ∃ places, DataW.whole enc Tryd.prog ((laidWorld os).forCall (fun _ _ => 0) ⟨#[], args0, []⟩).memory Tryd.f4.params.toList Rows.finiteSoundSpec.vars false args0.toList 8 = some ([.agg [.nil, .nil], .nil], [], places) :=
  ⟨[], by kernel_rfl⟩
set_option maxRecDepth 100000 in
theorem contract (H : Type) (enc : TypeId × Value → H) (W : World) (base : Nat) (args : Array Value) (ds gs : List (DataW H)) (before : List MemPlace)
    (hval : ∀ (j : Nat) t v, Tryd.f4.params[j]? = some t → args[j]? = some v → Value.okWide Tryd.prog W .any base t v)
    (hW : DataW.Whole enc Tryd.prog Tryd.f4.params.toList Rows.finiteSoundSpec.vars false W args.toList ds gs before) (hL : laidMetH Tryd.prog Rows.finiteSoundRow.laid W) :
    Calls Tryd.prog 4 args W fun e W' => ∃ v, e = .returned v ∧ Rows.finiteSoundSpec.post enc Tryd.prog Tryd.f4 false true false false W args v W' := by
  have hW' := hW
  obtain ⟨p, q, hA0, hV, rfl, hfz, hnd⟩ := hW
  have hA : DataW.TrodAll enc Tryd.prog W 0 (fun _ => true) true Tryd.f4.params.toList args.toList ds p := hA0
  rw [Tryd.params4] at hA hval
  obtain ⟨v0, vs0, d0, ds0, p0, q0, hargs, rfl, rfl, h0, r0⟩ := trodAll_cons hA
  obtain ⟨v1, vs1, d1, ds1, p1, q1, rfl, rfl, rfl, h1, r1⟩ := trodAll_cons r0
  obtain ⟨rfl, rfl, rfl⟩ := trodAll_nil r1
  obtain rfl : args = #[v0, v1] := by cases args; simp_all
  obtain ⟨rfl, rfl⟩ := trodVars_none hV
  have lt0 : ∀ x ∈ p0, x.block < W.heap.size := by obtain ⟨m, hm⟩ := h0; exact DataW.trod_lt m _ _ _ hm
  have lt1 : ∀ x ∈ p1, x.block < W.heap.size := by obtain ⟨m, hm⟩ := h1; exact DataW.trod_lt m _ _ _ hm
  obtain ⟨A0, c0, l0, A1, c1, l1, rfl, hl0, hl1, hC0, hC1⟩ := open_puzzle (.inr ⟨_, _, hval 0 25 v0 rfl rfl⟩) h0
  obtain ⟨A2, c2, l2, rfl, hl2, hC2⟩ := open_ints26 (hval 1 26 v1 rfl rfl) h1
  obtain ⟨Sn, hS⟩ := sent_of_laid hL
  clear hA0 hval
  refine (@sound_any Sn W hS A0 c0 l0 A1 c1 l1 A2 c2 l2 hC0 hl0 hC1 hl1 hC2 hl2).mono fun e W' ⟨he, bel⟩ => ?_
  subst he
  exact ⟨_, rfl, _, _, _, [], _, [], hW', trodAll_mk1 (shut_bool Tryd.underlying4 _), trodAll_cons_mk (Below.trod laidOut (by kernel_rfl) (of_decide_eq_true (by kernel_rfl)) h0 bel lt0) (trodAll_cons_mk (Below.trod laidOut (by kernel_rfl) (of_decide_eq_true (by kernel_rfl)) h1 bel lt1) trodAll_mk0), rfl, bel.frame _, fun h => by cases h⟩

set_option maxRecDepth 100000 in
theorem lifted (os : Os) (started : os.Started) (H : Type) (enc : TypeId × Value → H) (F : Stop.Interp) :
    ReturnsInHanded {} Tryd.checked os 4 .any ((OpenSpec.ofChange Rows.finiteSoundSpec).preRow enc Tryd.prog Tryd.f4 Rows.finiteSoundRow.domain false Rows.finiteSoundRow.laid) (((OpenSpec.ofChange Rows.finiteSoundSpec).at F).post enc Tryd.prog Tryd.f4 false true false false) := by
  obtain ⟨places, hx⟩ := reads os enc
  refine returnsInHanded_of_row (C := Tryd.checked) (s := OpenSpec.ofChange Rows.finiteSoundSpec) own started (by kernel_rfl) Tryd.func4
    (witness_row_at (enc := enc) (C := Tryd.checked) false (laidWorld os) args0 rfl (by kernel_rfl) (by kernel_rfl) (by kernel_rfl)
      (OpenSpec.preRow_of_cond 8 hx (by kernel_rfl) (fun k hk => by cases hk) (by kernel_rfl) (laid_met os))) ?_
  intro W base args ds gs before hval hW _ _ _ hL _ _
  exact contract H enc W base args ds gs before hval hW hL
theorem said : Rows.FiniteSoundSaid :=
  OpenClaim.holds_of_cond 4 Tryd.f4 rfl rfl rfl rfl rfl rfl rfl ⟨rfl, rfl, rfl, rfl, rfl⟩ rfl rfl rfl rfl rfl (by kernel_rfl) Tryd.func4 (by kernel_rfl)
    (of_decide_eq_true (by kernel_rfl)) (by unfold Func.isWrapper; first | (rw [if_pos (by decide +kernel)]; kernel_rfl) | (rw [if_neg (by decide +kernel)]; exact ⟨rfl, rfl⟩))
    (fun os started H enc _ F => by rw [OpenClaim.pre_eq_preRow]; exact lifted os started H enc F)
theorem plain (f : FuncId) (fn : Func) (hf : Tryd.pinned.checked.prog.funcNamed "optima/optimalaw3.FiniteSound" = some f) (hfn : Tryd.pinned.checked.prog.funcs[f]? = some fn) :
    true = Tryd.pinned.checked.prog.looks [] ∧ ∀ (j : Nat) t, fn.params[j]? = some t → Tryd.pinned.checked.prog.wantsStandIn t = false := by
  obtain rfl : f = 4 := Option.some.inj ((show Tryd.prog.funcNamed "optima/optimalaw3.FiniteSound" = some 4 by kernel_rfl).symm.trans hf) |>.symm
  obtain rfl : fn = Tryd.f4 := (Option.some.inj (Tryd.func4.symm.trans hfn)).symm
  refine ⟨by kernel_rfl, fun j t ht => ?_⟩
  rw [Tryd.params4] at ht
  rcases (show t = 25 ∨ t = 26 by simpa using Array.mem_of_getElem? ht) with rfl | rfl
  · exact (show Tryd.prog.wantsStandIn 25 = false by kernel_rfl)
  · exact (show Tryd.prog.wantsStandIn 26 = false by kernel_rfl)
theorem finiteSound_card : Rows.FiniteSoundCardSaid :=
  Claim7.holds_tied_plain_at .later [] _ _ _ _ said (fun _ h => by cases h) (by kernel_rfl) (fun _ h => by cases h) finiteSound_row_tie rfl ⟨rfl, rfl⟩ (by kernel_rfl) rfl plain (by kernel_rfl)
end Go.Proofs.YtehekppkicjimaaDoor.QFK
