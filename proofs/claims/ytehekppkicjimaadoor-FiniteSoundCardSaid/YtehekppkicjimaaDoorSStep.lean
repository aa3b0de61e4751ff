/- One call of keep, as a step of a rule. Conditions: the function value's contract holds at each value of the list. -/
import Derived.Test.YtehekppkicjimaaDoorSClo
import Derived.RegionTactic
import Derived.ChangeAlike
namespace Go.Proofs.YtehekppkicjimaaDoor.QFK
open Go.RowKit Go.Proofs.YtehekppkicjimaaDoorW.PrintWords Go.Proofs.YtehekppkicjimaaDoorW.PrintLast Go.Proofs.YtehekppkicjimaaDoorW.PrintMore
open Go.Deep
set_option linter.unusedVariables false
set_option linter.unusedSimpArgs false
theorem keep_step {w : World} {a g : Nat} {h : Value × Value} {L : List (List Int)} (N : Net w a g h L) (k : Int) (h0 : 0 ≤ k) (h1 : k < L.length) (f : Nat) (caps : Array Value) (p : Int → Bool)
    (hm : ∀ k, (rd_L1 L k).length ≤ 200)
    (hent : ∀ (ar : Array Value) (W : World), (callFunc f ar).run Tryd.prog W = .ok (.enter f ar) W)
    (hF : ∀ (v : Int) (W : World), v ∈ rd_L1 L k → Below w.heap.size w W → Calls Tryd.prog f (#[.int .i64 v] ++ caps) W fun e W' => e = .returned (.bool (p v)) ∧ Below W.heap.size W W')
    (sound : List Int → Prop) (hp : ∀ x, sound x → (∀ i : Nat, i < L.length → rd x i ∈ rd_L1 L i) → p (rd x k) = true) :
    ∃ b L2, (∀ W : World, Below w.heap.size w W → Calls Tryd.prog 104 #[.pointer (some ⟨a, 0, none⟩), .int .i64 k, .func (.func f) #[] caps] W fun e w' => e = .returned (.bool b) ∧ Net w' a g h L2 ∧ Fr W w' a g) ∧ Red sound L L2 b ∧ ∀ v ∈ rd_L1 L2 k, v ∈ rd_L1 L k ∧ p v = true := by
  refine ⟨_, _, fun W hW => keep_any (N.below hW) k h0 h1 f caps p (by have := hm k; omega) hent (fun v W' hv hW' => hF v W' hv (below_step hW hW')), Red.keep k h0 h1 p hp, fun v hv => ?_⟩
  have := rd_set_same L k.toNat (by omega) ((rd_L1 L k).filter p)
  rw [show ((k.toNat : Nat) : Int) = k by omega] at this
  rw [this, List.mem_filter] at hv
  exact hv
theorem Red.lens {sound : List Int → Prop} {L L' : List (List Int)} {b : Bool} (h : Red sound L L' b) (hm : ∀ k, (rd_L1 L k).length ≤ 200) : ∀ k, (rd_L1 L' k).length ≤ 200 := by
  intro k
  by_cases hk : k.toNat < L.length
  · have := (h.sub k.toNat hk).length_le
    have h2 := hm (k.toNat : Nat)
    simp only [rd_L1, Int.toNat_natCast] at *
    omega
  · have e : rd_L1 L' k = [] := by simp [rd_L1, List.getD_eq_getElem?_getD, List.getElem?_eq_none (show L'.length ≤ k.toNat by rw [h.len]; omega)]
    rw [e]; exact Nat.zero_le _
theorem Red.inR {L L2 : List (List Int)} {sound : List Int → Prop} {b : Bool} (R : Red sound L L2 b) {k : Int} (h0 : 0 ≤ k) (h1 : k < L.length) : 0 ≤ k ∧ k < L2.length := ⟨h0, by rw [R.len]; exact h1⟩
/-- a list that some sound values keep within is not empty; a list's length before that of a shrunk one -/
theorem Red.nonempty {sound : List Int → Prop} {L L' : List (List Int)} {b : Bool} (h : Red sound L L' b) (hb : b = false) (k : Int) : rd_L1 L' k = rd_L1 L k := by rw [h.same hb]
end Go.Proofs.YtehekppkicjimaaDoor.QFK
