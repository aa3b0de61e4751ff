/- One rule of a puzzle, whatever its kind: what it leaves of the lists. Conditions: the constraint is well formed, no list is empty. -/
import Derived.Test.YtehekppkicjimaaDoorSRSum
import Derived.Test.YtehekppkicjimaaDoorSRTab
import Derived.Test.YtehekppkicjimaaDoorSREl
import Derived.Test.YtehekppkicjimaaDoorSRSh3
import Derived.Test.YtehekppkicjimaaDoorSRDif
namespace Go.Proofs.YtehekppkicjimaaDoor.QFK
open Go.RowKit Go.Proofs.YtehekppkicjimaaDoorW.PrintWords Go.Proofs.YtehekppkicjimaaDoorW.PrintLast Go.Proofs.YtehekppkicjimaaDoorW.PrintMore
open Go.Deep
set_option linter.unusedVariables false
set_option linter.unusedSimpArgs false
/-- what a rule's call leaves -/
def RuleQ (w : World) (a g : Nat) (h : Value × Value) (L : List (List Int)) (sound : List Int → Prop) (ex : Prop) (e : Ending) (w' : World) : Prop :=
  ∃ b L' g', e = .returned (.bool b) ∧ Net w' a g' h L' ∧ Fr w w' a g ∧ (g' = g ∨ w.heap.size ≤ g') ∧ Red sound L L' b ∧ (b = false → ex)
def methF (kd : Int) : Nat := if kd = 1 then 92 else if kd = 2 then 100 else if kd = 3 then 106 else if kd = 4 then 110 else 118
theorem far_old {w0 w : World} {a g : Nat} (ha : w0.heap.size ≤ a) (hg : w0.heap.size ≤ g) {A : Option Addr} {xs : List Int} (hC : Kd.C (Kd.int .i64) w0 A xs.length xs) : xs ≠ [] → ∀ ad, A = some ad → ad.block ≠ a ∧ ad.block ≠ g := by
  intro hn ad ea
  obtain ⟨ad', e2, hcell⟩ := Kd.at_int hC (0 : Int) (by omega) (by have := List.length_pos_iff.2 hn; omega)
  rw [ea] at e2
  obtain rfl := Option.some.inj e2
  have := World.block_lt_of_cell? w0 _ hcell
  simp [Addr.add] at this
  omega
theorem rowV_old {w0 w : World} (hB : Below w0.heap.size w0 w) {A : Option Addr} {rows : List (List Int)} (hC : Kd.C (Kd.slice 3 (Kd.int .i64)) w0 A rows.length rows) (j : Nat) (hj : j < rows.length) : rowV w A j = rowV w0 A j := by
  obtain ⟨ad, A1, c1, rfl, hcell, e, _⟩ := rowV_at hC j hj
  have h1 := (hB.cell (World.block_lt_of_cell? w0 _ hcell)).trans hcell
  rw [e] at h1 hcell ⊢
  simp only [rowV, h1]
theorem map_rd {vars x : List Int} (i : Int) (h0 : 0 ≤ i) (h1 : i < vars.length) : rd (vars.map fun i => rd x i) i = rd x (rd vars i) := by
  obtain ⟨m, rfl⟩ : ∃ m : Nat, i = m := ⟨i.toNat, by omega⟩
  rw [rd_in (by simp; omega), rd_in (by omega)]; simp
theorem rule_any {w0 w : World} {a g : Nat} {h : Value × Value} {L : List (List Int)} (N : Net w a g h L) (hB : Below w0.heap.size w0 w) (ha : w0.heap.size ≤ a) (hg : w0.heap.size ≤ g)
    (kd : Int) (A1 : Option Addr) (c1 : Nat) (vars : List Int) (A2 : Option Addr) (c2 : Nat) (nums : List Int) (A3 : Option Addr) (c3 : Nat) (uses : List Int) (lim : Int) (A5 : Option Addr) (c5 : Nat) (rows : List (List Int))
    (l1 : vars.length ≤ c1) (C1 : Kd.C (Kd.int .i64) w0 A1 vars.length vars) (C2 : Kd.C (Kd.int .i64) w0 A2 nums.length nums) (C3 : Kd.C (Kd.int .i64) w0 A3 uses.length uses) (l5 : rows.length ≤ c5) (C5 : Kd.C (Kd.slice 3 (Kd.int .i64)) w0 A5 rows.length rows)
    (F : Fine L.length kd vars nums uses lim rows) (bl : -100000000 ≤ lim ∧ lim ≤ 100000000) (G : Good1 L) (hL : L.length ≤ 60) (hne : ∀ k : Int, 0 ≤ k → k < L.length → 0 < (rd_L1 L k).length)
    (sound : List Int → Prop) (hs : ∀ x, sound x → keepsB kd nums uses lim rows (vars.map fun i => rd x i) = true) :
    Calls Tryd.prog (methF kd) #[.agg #[.int .i64 kd, .slice A1 vars.length c1, .slice A2 nums.length c2, .slice A3 uses.length c3, .int .i64 lim, .slice A5 rows.length c5], .pointer (some ⟨a, 0, none⟩)] w (RuleQ w a g h L sound (kd = 1 → AllWay L vars vars.length)) := by
  have key : ∀ {f : Nat} {ar : Array Value}, (Calls Tryd.prog f ar w fun e w' => ∃ b, e = .returned (.bool b) ∧ RuleQ w a g h L sound (kd = 1 → AllWay L vars vars.length) (.returned (.bool b)) w') → Calls Tryd.prog f ar w (RuleQ w a g h L sound (kd = 1 → AllWay L vars vars.length)) := fun hc => hc.mono (by rintro e w' ⟨b, rfl, hq⟩; exact hq)
  have conv : ∀ {W w' : World} {e : Ending} (hW : Below w.heap.size w W) (ex : kd ≠ 1), (∃ b L', e = .returned (.bool b) ∧ Net w' a g h L' ∧ Fr W w' a g ∧ Red sound L L' b) → ∃ b, e = .returned (.bool b) ∧ RuleQ w a g h L sound (kd = 1 → AllWay L vars vars.length) (.returned (.bool b)) w' := by
    rintro W w' e hW ex ⟨b, L', rfl, hn, hf, hr⟩
    exact ⟨b, rfl, b, L', g, rfl, hn, (Fr.of_below hW a g).trans hf (.inl rfl), .inl rfl, hr, fun _ h => absurd h ex⟩
  have CW : ∀ {W : World} {A : Option Addr} {xs : List Int} (hW : Below w.heap.size w W), Kd.C (Kd.int .i64) w0 A xs.length xs → Kd.C (Kd.int .i64) W A xs.length xs := fun hW hC => Kd.C_below (Kd.C_below hC hB) hW
  have hform := F.form
  unfold methF
  by_cases k1 : kd = 1
  · subst k1
    rw [if_pos rfl]
    refine key (differs_narrow 1 lim A1 _ c1 A2 _ c2 A3 _ c3 A5 _ c5 ⟨a, 0, none⟩ w fun W hW => ?_)
    refine (differ_any (N.below hW) 1 lim A1 c1 vars _ _ _ (CW hW C1) F.b1 (fun v hv => F.near v hv) G hL sound (fun x hx => ?_)).mono ?_
    · have := hs x hx
      unfold keepsB at this
      rw [if_pos rfl, nodupB] at this
      exact of_decide_eq_true this
    · rintro e w' ⟨b, L', g', rfl, hn, hf, hgg, hr, hw⟩
      exact ⟨b, rfl, b, L', g', rfl, hn, (Fr.of_below hW a g).trans hf (.inl rfl), .inr (Nat.le_trans hW.size hgg), hr, fun e _ => hw e⟩
  · rw [if_neg k1]
    by_cases k2 : kd = 2
    · subst k2
      rw [if_pos rfl]
      unfold formedB at hform
      rw [if_neg (by decide), if_pos rfl] at hform
      refine key (sums_narrow 2 lim A1 _ c1 A2 _ c2 A3 _ c3 A5 _ c5 ⟨a, 0, none⟩ w fun W hW => ?_)
      refine (sum_any (N.below hW) 2 lim A1 c1 vars A2 c2 nums _ _ (CW hW C1) (far_old (w := w) ha hg C1) (CW hW C2) (far_old (w := w) ha hg C2) F.b1 ?_ (fun v hv => F.near v hv) F.s2 bl G (fun i hi => hne i (by omega) (by omega)) hL sound (fun x hx => ?_)).mono (fun e w' hq => conv hW k1 hq)
      · simp at hform; omega
      · have := hs x hx
        unfold keepsB at this
        rw [if_neg (by decide), if_pos rfl] at this
        exact beq_iff_eq.1 this
    · rw [if_neg k2]
      by_cases k3 : kd = 3
      · subst k3
        rw [if_pos rfl]
        unfold formedB at hform
        rw [if_neg (by decide), if_neg (by decide), if_pos rfl] at hform
        refine key (tables_narrow 3 lim A1 _ c1 A2 _ c2 A3 _ c3 A5 _ c5 ⟨a, 0, none⟩ w fun W hW => ?_)
        refine (table_any (N.below hW) 3 lim A1 c1 vars _ _ A5 c5 rows (CW hW C1) l1 (far_old (w := w) ha hg C1) (Kd.C_below (Kd.C_below C5 hB) hW) l5 (fun j ad n c hj e hn => ?_) F.b1 F.b5 ?_ (fun v hv => F.near v hv) G.len hL sound (fun x hx => ?_)).mono (fun e w' hq => conv hW k1 hq)
        · rw [rowV_old (hB.trans (hW.mono hB.size)) C5 j hj] at e
          obtain ⟨ad5, A1', c1', _, _, e1, _, hC1'⟩ := rowV_at C5 j hj
          rw [e1] at e
          injection e with e2 e3 e4
          exact far_old (w := w) ha hg hC1' (by intro e5; rw [e5] at e3; simp at e3; omega) ad e2
        · intro r hr
          simp only [Bool.and_eq_true, Bool.not_eq_true'] at hform
          have := List.any_eq_false.1 hform.1.1.1 r hr
          simpa using this
        · have := hs x hx
          unfold keepsB at this
          rw [if_neg (by decide), if_neg (by decide), if_pos rfl, List.any_eq_true] at this
          obtain ⟨r, hr, e⟩ := this
          rw [← beq_iff_eq.1 e]; exact hr
      · rw [if_neg k3]
        by_cases k4 : kd = 4
        · subst k4
          rw [if_pos rfl]
          unfold formedB at hform
          rw [if_neg (by decide), if_neg (by decide), if_neg (by decide), if_pos rfl] at hform
          have h2 : 2 ≤ vars.length := by simp at hform; omega
          refine key (places_narrow 4 lim A1 _ c1 A2 _ c2 A3 _ c3 A5 _ c5 ⟨a, 0, none⟩ w fun W hW => ?_)
          refine (element_any (N.below hW) 4 lim A1 c1 vars _ _ _ (CW hW C1) l1 (far_old (w := w) ha hg C1) F.b1 h2 (fun v hv => F.near v hv) G.len hL hne sound (fun x hx => ?_)).mono (fun e w' hq => conv hW k1 hq)
          have := hs x hx
          unfold keepsB at this
          rw [if_neg (by decide), if_neg (by decide), if_neg (by decide), if_pos rfl] at this
          simp only [Bool.and_eq_true, decide_eq_true_eq, beq_iff_eq, List.length_map] at this
          obtain ⟨⟨t1, t2⟩, t3⟩ := this
          rw [map_rd 0 (by omega) (by omega)] at t1 t2 t3
          rw [map_rd 1 (by omega) (by omega), map_rd (2 + rd x (rd vars 0)) (by omega) (by omega)] at t3
          exact ⟨t1, t2, t3⟩
        · rw [if_neg k4]
          unfold formedB at hform
          rw [if_neg k1, if_neg k2, if_neg k3, if_neg k4] at hform
          by_cases k5 : kd = 5
          · rw [if_pos k5] at hform
            simp only [Bool.and_eq_true, decide_eq_true_eq, Bool.not_eq_true', Bool.or_eq_false_iff] at hform
            obtain ⟨⟨⟨⟨f1, f2⟩, f3⟩, f4⟩, f5, f6⟩ := hform
            refine key (shares_narrow kd lim A1 _ c1 A2 _ c2 A3 _ c3 A5 _ c5 ⟨a, 0, none⟩ w fun W hW => ?_)
            refine (share_any (N.below hW) kd lim A1 c1 vars A2 c2 nums A3 c3 uses _ (CW hW C1) (far_old (w := w) ha hg C1) (CW hW C2) (far_old (w := w) ha hg C2) (CW hW C3) (far_old (w := w) ha hg C3) F.b1 f1 f2 (fun v hv => F.near v hv) G hne F.s2 F.s3 bl (nonneg_of f5) (nonneg_of f6) sound (fun x hx => ?_)).mono (fun e w' hq => conv hW k1 hq)
            have := hs x hx
            unfold keepsB at this
            rw [if_neg k1, if_neg k2, if_neg k3, if_neg k4, List.all_eq_true] at this
            intro i hi
            exact this i (List.mem_range.2 (by simpa using hi))
          · rw [if_neg k5] at hform; cases hform
end Go.Proofs.YtehekppkicjimaaDoor.QFK
