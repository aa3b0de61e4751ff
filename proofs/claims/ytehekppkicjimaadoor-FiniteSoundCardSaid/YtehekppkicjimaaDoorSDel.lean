/- slices.DeleteFunc over a row of the call's own; the function value of (*net).differ. Conditions: the row is not empty, the callee only reads. -/
import Derived.Test.YtehekppkicjimaaDoorSStep
import Derived.Shelf.SlicesE.DeleteFunc
namespace Go.Proofs.YtehekppkicjimaaDoor.QFK
open Go.RowKit Go.Proofs.YtehekppkicjimaaDoorW.PrintWords Go.Proofs.YtehekppkicjimaaDoorW.PrintLast Go.Proofs.YtehekppkicjimaaDoorW.PrintMore
open Go.Deep
set_option linter.unusedVariables false
set_option linter.unusedSimpArgs false
def laysDF_ren : Go.Shelf.Ren := ⟨fun | 10 => 95 | 6 => 99 | n => n, fun | 22 => 26 | 23 => 3 | 25 => 46 | n => n, fun | n => n⟩
theorem laysDF : SlLaysH.n10 Tryd.prog laysDF_ren := {
  mixed := by kernel_rfl
  f6 := ⟨"slices.IndexFunc[[]int,int]", by decide, Tryd.func99.trans (congrArg some (by kernel_rfl))⟩
  f10 := ⟨"slices.DeleteFunc[[]int,int]", by decide, Tryd.func95.trans (congrArg some (by kernel_rfl))⟩
  t0 := Tryd.underlying0
  a0 := Tryd.isAgg0
  z0 := Tryd.sizeOf0
  v0 := Tryd.zeroValue0
  t3 := Tryd.underlying3
  a3 := Tryd.isAgg3
  z3 := Tryd.sizeOf3
  v3 := Tryd.zeroValue3
  t4 := Tryd.underlying4
  a4 := Tryd.isAgg4
  z4 := Tryd.sizeOf4
  v4 := Tryd.zeroValue4
  t22 := Tryd.underlying26
  a22 := Tryd.isAgg26
  z22 := Tryd.sizeOf26
  v22 := Tryd.zeroValue26
  a23 := Tryd.isAgg3
  z23 := Tryd.sizeOf3
  t25 := Tryd.underlying46
  a25 := Tryd.isAgg46
  z25 := Tryd.sizeOf46
  v25 := Tryd.zeroValue46 }
open Go.Sort in
/-- slices.DeleteFunc over a row of the call's own -/
theorem delete_any (v : Value) (xs : List Int) (w : World) (base : Nat) (ok : Nat → Prop) (hR : Kd.R (Kd.int .i64) 3 w base ok v xs) (hne : xs ≠ []) (hl : xs.length ≤ 200) (f : Nat) (caps : Array Value) (p : Int → Bool)
    (hent : ∀ (ar : Array Value) (W : World), (callFunc f ar).run Tryd.prog W = .ok (.enter f ar) W)
    (hF : ∀ (W : World) (x : Int), w.grownBy W v.ownBlock → Calls Tryd.prog f (#[.int .i64 x] ++ caps) W fun e w' => e = .returned (.bool (p x)) ∧ Drawn0 W w') :
    Calls Tryd.prog 95 #[v, .func (.func f) #[] caps] w fun e w' => ∃ g c, v.ownBlock = some g ∧ base ≤ g ∧ e = .returned (.slice (some ⟨g, 0, none⟩) (xs.filter fun x => !p x).length c) ∧ (xs.filter fun x => !p x).length ≤ c ∧ Kd.C (Kd.int .i64) w' (some ⟨g, 0, none⟩) (xs.filter fun x => !p x).length (xs.filter fun x => !p x) ∧ w.grownBy w' (some g) := by
  have ho := Kd.own_of_R hR
  rcases ho.2 with ⟨rfl, h0⟩ | ⟨g, cap, cur, rfl, hg, hh, h1, h2, h3, h4⟩
  · exact absurd (by simpa [encs] using h0) hne
  · have hH : Holds (Value.int .i64) w g 0 xs.toArray := holds_of_blockI hh (by simpa [encs] using h4)
    have hgl := blk_lt hh
    have hpa : PredAt Tryd.prog f caps (Value.int .i64) p w := fun W x hb => (hF W x ⟨hb.os, hb.tape, hb.output, hb.size, fun k hk _ => hb.block k hk⟩).mono fun _ _ h => ⟨h.1, h.2.out⟩
    have hpo : PredOver Tryd.prog f caps (Value.int .i64) p g 0 xs.toArray.size w := fun n os dk x _ => (hF _ x (by simpa [Value.ownBlock, sortWorld] using grownBy_sortedI (w := w) (g := g) (n := n) (os := os) dk)).mono fun _ _ h => ⟨h.1, h.2.out⟩
    have := AnyE.slices_DeleteFunc laysDF (Value.int .i64) (fun _ => rfl) p f caps hent 0 Tryd.zeroValue3 g 0 cap xs.toArray w hpa hpo hH (by simp; omega) (by simpa using h1)
    refine this.mono ?_
    rintro e w' ⟨rfl, q, rfl⟩
    have hle := List.length_filter_le (fun x => !p x) xs
    have hts : ((xs.filter fun x => !p x) ++ List.replicate (xs.length - (xs.filter fun x => !p x).length) 0).length = xs.length := by simp; omega
    have hown := ownsRow_sortedI (w := w) (base := base) (g := g) (cap := cap) (n := q) (e := 3) (os := #[]) (cur := cur) (ss := xs) (ts := (xs.filter fun x => !p x) ++ List.replicate (xs.length - (xs.filter fun x => !p x).length) 0) hts hg hh h1 h2 h3
    have hgr := grownBy_sortedI (w := w) (g := g) (n := q) (os := #[]) ((xs.filter fun x => !p x) ++ List.replicate (xs.length - (xs.filter fun x => !p x).length) 0).toArray
    rw [grow_empty] at hown hgr
    refine ⟨g, cap, by simp [Value.ownBlock], hg, by simp, by omega, ?_, by simpa using hgr⟩
    have hR2 : Kd.R (Kd.int .i64) 3 (putRow (Value.int .i64) (Sort.ahead w q) g 0 ((xs.filter fun x => !p x) ++ List.replicate (xs.length - (xs.filter fun x => !p x).length) 0).toArray) base (fun _ => True) (.slice (some ⟨g, 0, none⟩) ((xs.filter fun x => !p x) ++ List.replicate (xs.length - (xs.filter fun x => !p x).length) 0).length cap) ((xs.filter fun x => !p x) ++ List.replicate (xs.length - (xs.filter fun x => !p x).length) 0) :=
      Kd.R_of_own (by rw [hts]; exact hown) (fun _ _ => trivial)
    have hC := Kd.reads_of_C (d := (0 : Int)) (Kd.R_reads' hR2).2.2
    refine Kd.C_of_reads (d := (0 : Int)) ⟨rfl, by omega, fun hn => ?_⟩
    obtain ⟨ad, e, hcell⟩ := hC.2.2 (by simp; omega)
    refine ⟨ad, e, fun j hj => ?_⟩
    have := hcell j (by simp; omega)
    rw [List.getD_eq_getElem?_getD, List.getElem?_append_left hj, ← List.getD_eq_getElem?_getD] at this
    simpa using this
set_option maxHeartbeats 8000000 in
set_option maxRecDepth 100000 in
/-- differ's function value: not in the list -/
theorem differ1_any {w : World} (gl : Nat) (v : Int) (A : Option Addr) (c : Nat) (q : List Int) (hl : w.cell? ⟨gl, 0, none⟩ = some (.slice A q.length c)) (hc : q.length ≤ c) (hC : Kd.C (Kd.int .i64) w A q.length q) (hm : q.length ≤ 200) :
    Calls Tryd.prog 96 #[.int .i64 v, .pointer (some ⟨gl, 0, none⟩)] w fun e w' => e = .returned (.bool (!q.contains v)) ∧ Drawn0 w w' := by
  have HC := Aside0.mk hC
  have HC0 := Aside0.mk hc
  have HM := Aside0.mk hm
  clear hC hc hm
  go_enter Tryd.func96, Tryd.ntmps96
  go_wp2_with (go_at_call 15; (with_reducible refine (contains_any A c q v _ HC.out HC0.out (by have := HM.out; omega)).mono ?_); rintro e w' ⟨rfl, ⟨nd, rfl⟩⟩)
  go_ret
  exact ⟨ret_bool (by simp), by repeat (first | exact Drawn0.refl _ | exact ⟨_, rfl⟩ | apply Drawn0.step)⟩
end Go.Proofs.YtehekppkicjimaaDoor.QFK
