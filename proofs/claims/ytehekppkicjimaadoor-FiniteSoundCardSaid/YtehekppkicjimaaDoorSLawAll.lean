/- FiniteSound: narrowing keeps what keeps a puzzle, First answers the least row, the law's walk answers true. Conditions: what it reads lies in memory, the sentinels are laid. -/
import Derived.Test.YtehekppkicjimaaDoorSFst
import Derived.Test.YtehekppkicjimaaDoorSPlainB
import Derived.WalkSpells
import Derived.Test.YtehekppkicjimaaDoorSQFKx6
import Derived.Test.YtehekppkicjimaaDoorSQFKx7
import Derived.Test.YtehekppkicjimaaDoorSQFKx8
import Derived.Test.YtehekppkicjimaaDoorSQFKx11
namespace Go.Proofs.YtehekppkicjimaaDoor.QFK
open Go.RowKit Go.Proofs.YtehekppkicjimaaDoorW.PrintWords Go.Proofs.YtehekppkicjimaaDoorW.PrintLast Go.Proofs.YtehekppkicjimaaDoorW.PrintMore
set_option linter.unusedVariables false
set_option linter.unusedSimpArgs false
theorem asc_of_step {l : List Int} (h : ∀ i : Nat, 0 < i → i < l.length → rd l ((i - 1 : Nat) : Int) < rd l i) : l.Pairwise fun a b => a < b := by
  rw [List.pairwise_iff_getElem]
  intro i j hi hj hij
  obtain ⟨d, rfl⟩ : ∃ d, j = i + 1 + d := ⟨j - (i + 1), by omega⟩
  induction d with
  | zero =>
    have := h (i + 1) (by omega) hj
    rw [Nat.add_sub_cancel, rd_in hi, rd_in hj] at this
    exact this
  | succ d IH =>
    have h1 := IH (by omega) (by omega)
    have h2 := h (i + 1 + (d + 1)) (by omega) hj
    rw [show i + 1 + (d + 1) - 1 = i + 1 + d from by omega, rd_in (show i + 1 + d < l.length by omega), rd_in hj] at h2
    exact Int.lt_trans h1 h2
theorem Good1.of {vals : List (List Int)} {cons : List S44} (h : puzE vals cons = none) : Good1 vals := by
  have G := Good.of h
  have out : ∀ k : Int, ¬ k.toNat < vals.length → rd_L1 vals k = [] := fun k hk => by
    simp [rd_L1, List.getD_eq_getElem?_getD, List.getElem?_eq_none (show vals.length ≤ k.toNat by omega)]
  have cast : ∀ k : Int, rd_L1 vals k = rd_L1 vals (k.toNat : Nat) := fun k => by simp only [rd_L1, Int.toNat_natCast]
  have asc : ∀ i : Nat, i < vals.length → (rd_L1 vals i).Pairwise fun a b => a < b := by
    intro i hi
    unfold puzE at h
    split at h
    · cases h
    · rw [Option.or_eq_none_iff] at h
      have h2 := scan_none h.1 i (by omega) hi
      unfold listE at h2
      split at h2
      · cases h2
      · refine asc_of_step fun j h0 hj => ?_
        have h4 := scan_none h2 j (by omega) hj
        unfold valE at h4
        split at h4
        · cases h4
        · split at h4
          · cases h4
          · rename_i h6
            exact Int.not_le.1 fun h7 => h6 ⟨h0, h7⟩
  refine ⟨fun k x hx => ?_, fun k => ?_, fun k => ?_⟩
  · by_cases hk : k.toNat < vals.length
    · rw [cast] at hx; exact G.small _ hk x hx
    · rw [out k hk] at hx; cases hx
  · by_cases hk : k.toNat < vals.length
    · rw [cast]; exact G.len _ hk
    · rw [out k hk]; exact Nat.zero_le _
  · by_cases hk : k.toNat < vals.length
    · rw [cast]; exact asc _ hk
    · rw [out k hk]; exact List.Pairwise.nil
theorem lims_of {vals : List (List Int)} {cons : List S44} (h : puzE vals cons = none) : ∀ i : Nat, i < cons.length → -100000000 ≤ (rd_T44 cons i).f4 ∧ (rd_T44 cons i).f4 ≤ 100000000 := by
  intro i hi
  unfold puzE at h
  split at h
  · cases h
  · rw [Option.or_eq_none_iff] at h
    have h2 := scan_none h.2 i (by omega) hi
    unfold oneE conE at h2
    split at h2
    · cases h2
    · split at h2
      · cases h2
      · split at h2
        · cases h2
        · rename_i h5
          rw [Bool.not_eq_true] at h5
          unfold conBig at h5
          rw [Bool.or_eq_false_iff, Bool.or_eq_false_iff, Bool.or_eq_false_iff] at h5
          exact small_of h5.2.2.1
theorem keepsS_iff {vals : List (List Int)} {cons : List S44} {x : List Int} (hx : x.length = vals.length) : keepsS vals cons x = true ↔ inL vals x ∧ ∀ i : Nat, i < cons.length → keepsB (rd_T44 cons i).f0 (rd_T44 cons i).f2 (rd_T44 cons i).f3 (rd_T44 cons i).f4 (rd_T44 cons i).f5 ((rd_T44 cons i).f1.map fun j => rd x j) = true := by
  unfold keepsS
  constructor
  · intro h
    split at h
    · cases h
    · rename_i h1
      split at h
      · cases h
      · rename_i h2
        rw [Bool.not_eq_true] at h1 h2
        refine ⟨fun i hi => ?_, fun i hi => ?_⟩
        · have := List.any_eq_false.1 h1 i (List.mem_range.2 (by omega))
          simpa [outB] using this
        · have := List.any_eq_false.1 h2 i (List.mem_range.2 hi)
          simpa [badB] using this
  · rintro ⟨h1, h2⟩
    have e1 : anyOut vals x = false := List.any_eq_false.2 fun i hi => by
      have := h1 i (by have := List.mem_range.1 hi; omega)
      simpa [outB] using this
    have e2 : anyBad cons x = false := List.any_eq_false.2 fun i hi => by
      have := h2 i (List.mem_range.1 hi)
      simpa [badB] using this
    rw [e1, e2]; rfl
end Go.Proofs.YtehekppkicjimaaDoor.QFK
namespace Go.Proofs.YtehekppkicjimaaDoor.QFK
open Go.RowKit Go.Proofs.YtehekppkicjimaaDoorW.PrintWords Go.Proofs.YtehekppkicjimaaDoorW.PrintLast Go.Proofs.YtehekppkicjimaaDoorW.PrintMore
open Go.Deep
set_option linter.unusedVariables false
set_option linter.unusedSimpArgs false
/-- a row that keeps a puzzle -/
def Sol (vals : List (List Int)) (cons : List S44) (x : List Int) : Prop := x.length = vals.length ∧ keepsS vals cons x = true
theorem Sol.cons {vals : List (List Int)} {cons : List S44} {x : List Int} (h : Sol vals cons x) : ∀ i : Nat, i < cons.length → keepsB (rd_T44 cons i).f0 (rd_T44 cons i).f2 (rd_T44 cons i).f3 (rd_T44 cons i).f4 (rd_T44 cons i).f5 ((rd_T44 cons i).f1.map fun j => rd x j) = true := ((keepsS_iff h.1).1 h.2).2
theorem Sol.inl {vals : List (List Int)} {cons : List S44} {x : List Int} (h : Sol vals cons x) : inL vals x := ((keepsS_iff h.1).1 h.2).1
def NarP (w : World) (vals : List (List Int)) (cons : List S44) (e : Ending) (w' : World) : Prop :=
  Below w.heap.size w w' ∧ ∃ b' L', Red (Sol vals cons) vals L' b' ∧ ((e = .returned (.tuple #[.slice none 0 0, .bool false, .nilIface]) ∧ emptyB L' = true) ∨
    ∃ A c, e = .returned (.tuple #[.slice A L'.length c, .bool true, .nilIface]) ∧ Kd.C (Kd.slice 3 (Kd.int .i64)) w' A L'.length L' ∧ emptyB L' = false ∧ ∀ i : Nat, i < cons.length → (rd_T44 cons i).f0 = 1 → AllWay L' (rd_T44 cons i).f1 (rd_T44 cons i).f1.length)
def FirP (w : World) (vals : List (List Int)) (cons : List S44) (e : Ending) (w' : World) : Prop :=
  Below w.heap.size w w' ∧ ((e = .returned (.tuple #[.slice none 0 0, .bool false, .nilIface]) ∧ ∀ x, ¬ Sol vals cons x) ∨
    ∃ ad c x, e = .returned (.tuple #[.slice (some ad) x.length c, .bool true, .nilIface]) ∧ Kd.C (Kd.int .i64) w' (some ad) x.length x ∧ Best (Sol vals cons) vals x)
set_option maxHeartbeats 16000000 in
set_option maxRecDepth 100000 in
theorem narrowP_any {w : World} (A0 : Option Addr) (c0 : Nat) (vals : List (List Int)) (Ac : Option Addr) (cc : Nat) (cons : List S44) (hA : Kd.C (Kd.slice 3 (Kd.int .i64)) w A0 vals.length vals) (hC : Kd.C k44 w Ac cons.length cons) (hE : puzE vals cons = none)
    (hV : ∀ W, Below w.heap.size w W → Calls Tryd.prog 9 #[.agg #[.slice A0 vals.length c0, .slice Ac cons.length cc]] W fun e w' => e = .returned .nilIface ∧ Below W.heap.size W w') :
    Calls Tryd.prog 13 #[.agg #[.slice A0 vals.length c0, .slice Ac cons.length cc]] w (NarP w vals cons) := by
  have hu54 := Tryd.underlying54
  have hu25 := Tryd.underlying25
  have hu28 := Tryd.underlying28
  have HA := Aside0.mk hA
  have HC := Aside0.mk hC
  have HG := Aside0.mk (Good1.of hE)
  have HGG := Aside0.mk (Good.of hE)
  have HLIM := Aside0.mk (lims_of hE)
  have HV := Aside0.mk hV
  clear hA hC hE hV
  go_enter Tryd.func13, Tryd.ntmps13
  go_wp2_with (first
    | (go_at_call 9; (with_reducible refine (HV.out _ (below_alloc (Below.refl _ w) _)).mono ?_); rintro e w1 ⟨rfl, hb⟩; have HB1 := Aside0.mk (below_step (below_alloc (Below.refl _ w) _) hb); have erb := (hb.block _ (blk_lt (blk_new w (.cells #[.slice A0 vals.length c0, .slice Ac cons.length cc] 25)))).trans (blk_new w _); have hb0 : w1.cell? ⟨w.heap.size, 0, none⟩ = some (.slice A0 vals.length c0) := (by simpa using blk_cell erb 0); have hb1 : w1.cell? ⟨w.heap.size, 1, none⟩ = some (.slice Ac cons.length cc) := (by simpa using blk_cell erb 1); clear hb erb)
    | (go_at_call 23; (with_reducible refine (fresh_any A0 c0 vals Ac cons.length cc (Kd.C_below HA.out HB1.out) HGG.out.bv HGG.out.len).mono ?_); rintro e w2 ⟨a, g, rfl, hn2, ha2, hg2, hb2⟩; have HN2 := Aside0.mk hn2; have HA2 := Aside0.mk ha2; have HG2 := Aside0.mk hg2; have HB2 := Aside0.mk hb2; clear hn2 ha2 hg2 hb2 hb0 hb1)
    | (go_at_call 24; (with_reducible refine (narrow_any HN2.out HB2.out HA2.out HG2.out (Kd.C_below HC.out HB1.out) HGG.out.bc HGG.out.fine HLIM.out HG.out HGG.out.bv (Sol vals cons) (fun x hx => hx.cons)).mono ?_); rintro e w3 ⟨b, b', L1, g1, rfl, hn1, hf1, hg1, hr1, hb1, hw1⟩; obtain ⟨Ar, cr, erb, hlr, hC1⟩ := hn1.reads (by have := hr1.len; have := HGG.out.bv; omega); have hc2 : w3.cell? ⟨a, 2, none⟩ = some (.slice Ar L1.length cr) := (by simpa using blk_cell erb 2); have HC1 := Aside0.mk hC1; have HF1 := Aside0.mk hf1; have HR1 := Aside0.mk hr1; have HB3 := Aside0.mk hb1; have HW1 := Aside0.mk hw1; clear hC1 hn1 hf1 hg1 hr1 hb1 hw1 erb hlr; cases b))
  all_goals
    go_ret3
    have hbelow : Below w.heap.size w w3 := HB1.out.trans ((below_of_fr HB2.out HF1.out (Nat.le_refl _) HA2.out HG2.out).mono HB1.out.size)
    refine ⟨hbelow, b', L1, HR1.out, ?_⟩
  · exact .inl ⟨rfl, by have := HB3.out; revert this; cases emptyB L1 <;> decide⟩
  · exact .inr ⟨Ar, cr, rfl, HC1.out, by have := HB3.out; revert this; cases emptyB L1 <;> decide, HW1.out trivial⟩
set_option maxHeartbeats 16000000 in
set_option maxRecDepth 100000 in
theorem firstP_any {w : World} (A0 : Option Addr) (c0 : Nat) (vals : List (List Int)) (Ac : Option Addr) (cc : Nat) (cons : List S44) (hA : Kd.C (Kd.slice 3 (Kd.int .i64)) w A0 vals.length vals) (hC : Kd.C k44 w Ac cons.length cons) (hE : puzE vals cons = none)
    (hV : ∀ W, Below w.heap.size w W → Calls Tryd.prog 9 #[.agg #[.slice A0 vals.length c0, .slice Ac cons.length cc]] W fun e w' => e = .returned .nilIface ∧ Below W.heap.size W w')
    (hK : ∀ (W : World) (A : Option Addr) (c : Nat) (x : List Int), Below w.heap.size w W → x.length = vals.length → Kd.C (Kd.int .i64) W A x.length x → x.length ≤ c → Calls Tryd.prog 5 #[.agg #[.slice A0 vals.length c0, .slice Ac cons.length cc], .slice A x.length c] W fun e w' => ∃ v, e = .returned (.tuple #[.bool (keepsS vals cons x), v]) ∧ Below W.heap.size W w') :
    Calls Tryd.prog 14 #[.agg #[.slice A0 vals.length c0, .slice Ac cons.length cc]] w (FirP w vals cons) := by
  have hu54 := Tryd.underlying54
  have hu25 := Tryd.underlying25
  have hu28 := Tryd.underlying28
  have q26 : ∀ (w : World) (a : Option Addr) (n c n' c' : Nat), (binOp .neq 26 (.slice a n c) (.slice none n' c')).run Tryd.prog w = .ok (.bool (!a.isNone)) w := fun w a n c n' c' => run_neq_slice_nil_any w _ _ a n c n' c' Tryd.underlying26
  have HA := Aside0.mk hA
  have HC := Aside0.mk hC
  have HG := Aside0.mk (Good1.of hE)
  have HGG := Aside0.mk (Good.of hE)
  have HLIM := Aside0.mk (lims_of hE)
  have HV := Aside0.mk hV
  have HK := Aside0.mk hK
  have HSC := Aside0.mk (show ∀ x : List Int, x.length = vals.length → keepsS vals cons x = true → _ from fun x h1 h2 => Sol.cons (vals := vals) (cons := cons) (x := x) (And.intro h1 h2))
  clear hA hC hE hV hK
  go_enter Tryd.func14, Tryd.ntmps14
  go_wp2_with (first
    | (go_at_call 9; (with_reducible refine (HV.out _ (below_alloc (Below.refl _ w) _)).mono ?_); rintro e w1 ⟨rfl, hb⟩; have HB1 := Aside0.mk (below_step (below_alloc (Below.refl _ w) _) hb); have erb := (hb.block _ (blk_lt (blk_new w (.cells #[.slice A0 vals.length c0, .slice Ac cons.length cc] 25)))).trans (blk_new w _); have hb0 : w1.cell? ⟨w.heap.size, 0, none⟩ = some (.slice A0 vals.length c0) := (by simpa using blk_cell erb 0); have hb1 : w1.cell? ⟨w.heap.size, 1, none⟩ = some (.slice Ac cons.length cc) := (by simpa using blk_cell erb 1); clear hb erb)
    | (go_at_call 23; (with_reducible refine (fresh_any A0 c0 vals Ac cons.length cc (Kd.C_below HA.out HB1.out) HGG.out.bv HGG.out.len).mono ?_); rintro e w2 ⟨a, g, rfl, hn2, ha2, hg2, hb2⟩; have HN2 := Aside0.mk hn2; have HA2 := Aside0.mk ha2; have HG2 := Aside0.mk hg2; have HB2 := Aside0.mk hb2; clear hn2 ha2 hg2 hb2 hb0 hb1)
    | (go_at_call 25; (with_reducible refine (first_any (w0 := w1) (n := vals.length) (Kd.C_below HC.out HB1.out) HGG.out.bc HGG.out.fine HLIM.out HGG.out.bv (keepsS vals cons) HSC.out (fun W A c x hW => HK.out W A c x (HB1.out.trans (hW.mono HB1.out.size))) (total vals + 1) w2 a g vals HN2.out HB2.out HA2.out HG2.out HG.out rfl (Nat.lt_succ_self _)).mono ?_); rintro e w3 ⟨hf3, hx⟩; have HF3 := Aside0.mk hf3; clear hf3; (rcases hx with ⟨rfl, hno⟩ | ⟨adx, cx, x, rfl, hx1, hx2, hx3⟩) <;> (first | have HNO2 := Aside0.mk hno | (have HX1 := Aside0.mk hx1; have HX2 := Aside0.mk hx2; have HX3 := Aside0.mk hx3; clear hx1 hx2 hx3))))
  all_goals
    go_ret3
    have hbelow : Below w.heap.size w w3 := HB1.out.trans ((below_of_fr HB2.out HF3.out (Nat.le_refl _) HA2.out HG2.out).mono HB1.out.size)
    refine ⟨hbelow, ?_⟩
  · exact .inl ⟨rfl, fun x hx => HNO2.out x hx hx.inl⟩
  · exact .inr ⟨adx, cx, x, rfl, HX2.out, HX3.out⟩
end Go.Proofs.YtehekppkicjimaaDoor.QFK
namespace Go.Proofs.YtehekppkicjimaaDoor.QFK
open Go.RowKit Go.Proofs.YtehekppkicjimaaDoorW.PrintWords Go.Proofs.YtehekppkicjimaaDoorW.PrintLast Go.Proofs.YtehekppkicjimaaDoorW.PrintMore
open Go.Deep
set_option linter.unusedVariables false
set_option linter.unusedSimpArgs false
def dV : List (List Int) := [[1, 2], [1, 2], [1, 2, 3]]
def dC : List S44 := [⟨1, [0, 1, 2], [], [], 0, []⟩]
theorem dE : puzE dV dC = none := by decide
theorem sol_d (x : List Int) (hx : x = [1, 2, 3] ∨ x = [2, 1, 3]) : Sol dV dC x := by
  have key : ∀ v : List Int, v.length = 3 → v.Nodup → anyOut dV v = false → (List.map (fun i => rd v i) [0, 1, 2]) = v → Sol dV dC v := by
    intro v hl hn ho hm
    refine ⟨hl, ?_⟩
    have e : badB v (⟨1, [0, 1, 2], [], [], 0, []⟩ : S44) = false := by
      unfold badB keepsB
      simp only [↓reduceIte]
      rw [nodupB, hm]; simp [hn]
    have e2 : anyBad dC v = false := by
      unfold anyBad
      simp only [dC, List.length_cons, List.length_nil, List.range_succ, List.range_zero, List.nil_append, List.any_cons, List.any_nil, Bool.or_false]
      exact e
    unfold keepsS
    rw [e2, ho]; rfl
  rcases hx with rfl | rfl
  · exact key _ rfl (by decide) (by decide) (by decide)
  · exact key _ rfl (by decide) (by decide) (by decide)
theorem narrowed_out {L' : List (List Int)} {b : Bool} (R : Red (Sol dV dC) dV L' b) : emptyB L' = false ∧ (AllWay L' [0, 1, 2] 3 → rd_L1 L' 2 = [3]) := by
  have h1 := R.sol [1, 2, 3] (sol_d _ (.inl rfl)) (sol_d _ (.inl rfl)).inl
  have h2 := R.sol [2, 1, 3] (sol_d _ (.inr rfl)) (sol_d _ (.inr rfl)).inl
  have hl : L'.length = 3 := R.len
  constructor
  · refine List.any_eq_false.2 fun l hm => ?_
    obtain ⟨i, hi, rfl⟩ := List.mem_iff_getElem.1 hm
    have h3 := h1 i (by show i < 3; omega)
    rw [rdL1_get L' i hi] at h3
    have := List.length_pos_of_mem h3
    simp; intro e; rw [e] at h3; cases h3
  · intro hw
    have s0 := R.sub 0 (by decide)
    have s1 := R.sub 1 (by decide)
    have s2 := R.sub 2 (by decide)
    have only : ∀ v ∈ rd_L1 L' 2, v = 3 := by
      intro v hv
      have hv2 : v ∈ ([1, 2, 3] : List Int) := s2.subset hv
      have hway := (wayB_iff L' [0, 1, 2] (2 : Nat) v).1 (hw 2 (by decide) v hv)
      obtain ⟨f, hf, hinj⟩ := hway
      have f0 : f 0 ∈ ([1, 2] : List Int) := s0.subset (hf 0 (by decide))
      have f1 : f 1 ∈ ([1, 2] : List Int) := s1.subset (hf 1 (by decide))
      have f2 : f 2 = v := List.mem_singleton.1 (hf 2 (by decide))
      have n01 : f 0 ≠ f 1 := fun e => absurd (hinj 0 1 (by decide) (by decide) e) (by decide)
      have n02 : f 0 ≠ f 2 := fun e => absurd (hinj 0 2 (by decide) (by decide) e) (by decide)
      have n12 : f 1 ≠ f 2 := fun e => absurd (hinj 1 2 (by decide) (by decide) e) (by decide)
      simp only [List.mem_cons, List.not_mem_nil, or_false] at f0 f1 hv2
      omega
    have h3 : (3 : Int) ∈ rd_L1 L' 2 := h1 2 (by decide)
    have hnd : (rd_L1 L' 2).Nodup := List.Nodup.sublist s2 (by decide)
    cases e : rd_L1 L' 2 with
    | nil => rw [e] at h3; cases h3
    | cons p q =>
      rw [e] at only hnd
      have hp := only p (List.mem_cons_self ..)
      cases q with
      | nil => rw [hp]
      | cons r t =>
        have hr := only r (by simp)
        rw [hp, hr] at hnd
        simp at hnd
theorem valid_good [Sn : Sents] {w : World} (hS : Sent w) {A0 : Option Addr} {c0 : Nat} {vals : List (List Int)} {Ac : Option Addr} {cc : Nat} {cons : List S44} (hA : Kd.C (Kd.slice 3 (Kd.int .i64)) w A0 vals.length vals) (h0 : vals.length ≤ c0) (hC : Kd.C k44 w Ac cons.length cons) (h1 : cons.length ≤ cc) (hE : puzE vals cons = none) :
    ∀ W, Below w.heap.size w W → Calls Tryd.prog 9 #[.agg #[.slice A0 vals.length c0, .slice Ac cons.length cc]] W fun e w' => e = .returned .nilIface ∧ Below W.heap.size W w' := by
  intro W hW
  have h := Valid_ev vals cons
  rw [hE] at h
  obtain ⟨k, hk⟩ := h.rounds
  refine (finite_Valid.calls k A0 c0 vals Ac cc cons none W (Kd.C_below hA hW) h0 (Kd.C_below hC hW) h1 hk (hS.below hW)).mono ?_
  rintro e w' ⟨rfl, hb⟩
  exact ⟨rfl, hb⟩
theorem keeps_good [Sn : Sents] {w : World} (hS : Sent w) {A0 : Option Addr} {c0 : Nat} {vals : List (List Int)} {Ac : Option Addr} {cc : Nat} {cons : List S44} (hA : Kd.C (Kd.slice 3 (Kd.int .i64)) w A0 vals.length vals) (h0 : vals.length ≤ c0) (hC : Kd.C k44 w Ac cons.length cons) (h1 : cons.length ≤ cc) (hE : puzE vals cons = none) :
    ∀ (W : World) (A : Option Addr) (c : Nat) (x : List Int), Below w.heap.size w W → x.length = vals.length → Kd.C (Kd.int .i64) W A x.length x → x.length ≤ c → Calls Tryd.prog 5 #[.agg #[.slice A0 vals.length c0, .slice Ac cons.length cc], .slice A x.length c] W fun e w' => ∃ v, e = .returned (.tuple #[.bool (keepsS vals cons x), v]) ∧ Below W.heap.size W w' := by
  intro W A c x hW hx hX hc
  obtain ⟨k, hk⟩ := (finite_Keeps_good hE x hx).rounds
  refine (finite_Keeps.calls k A0 c0 vals Ac cc cons A c x (keepsS vals cons x) none W (Kd.C_below hA hW) h0 (Kd.C_below hC hW) h1 hX hc hk (hS.below hW)).mono ?_
  rintro e w' ⟨rfl, hb⟩
  exact ⟨_, rfl, hb⟩
theorem differ6 (w : World) : Calls Tryd.prog 6 #[] w fun e w' => ∃ A0 c0 A1 c1, e = .returned (.agg #[.slice A0 dV.length c0, .slice A1 dC.length c1]) ∧ dV.length ≤ c0 ∧ dC.length ≤ c1 ∧ Kd.C (Kd.slice 3 (Kd.int .i64)) w' A0 dV.length dV ∧ Kd.C k44 w' A1 dC.length dC ∧ Below w.heap.size w w' := by
  refine (optimalaw3_differ.calls dV dC w rfl).mono ?_
  rintro e w' ⟨v0, v1, rfl, h0, h1, hb⟩
  obtain ⟨A0, c0, rfl⟩ := Kd.N_slice h0
  obtain ⟨A1, c1, rfl⟩ := Kd.N_slice h1
  obtain ⟨_, a1, a2⟩ := Kd.N_reads' h0
  obtain ⟨_, b1, b2⟩ := Kd.N_reads' h1
  exact ⟨A0, c0, A1, c1, rfl, a1, b1, a2, b2, hb⟩
theorem third_reads {w : World} {A : Option Addr} {L : List (List Int)} (hC : Kd.C (Kd.slice 3 (Kd.int .i64)) w A L.length L) (hl : L.length = 3) (h3 : rd_L1 L 2 = [3]) : ∃ ad adv cl, A = some ad ∧ w.cell? ⟨ad.block, ad.off + 2, none⟩ = some (.slice (some adv) 1 cl) ∧ w.cell? adv = some (.int .i64 3) := by
  obtain ⟨ad, Al, cl, eA, hrow, hll, hCl⟩ := at_L1 hC (2 : Int) (by omega) (by omega)
  rw [h3] at hrow hCl
  obtain ⟨adv, ev, hcv⟩ := Kd.at_int hCl (0 : Int) (by omega) (by simp)
  subst ev
  refine ⟨ad, adv, cl, eA, hrow, ?_⟩
  simpa [Addr.add, rd] using hcv
set_option maxHeartbeats 16000000 in
set_option maxRecDepth 100000 in
theorem narrowed_any [Sn : Sents] (w : World) (hS : Sent w) : Calls Tryd.prog 12 #[] w fun e w' => e = .returned (.bool true) ∧ Below w.heap.size w w' := by
  have hu54 := Tryd.underlying54
  have hu25 := Tryd.underlying25
  have hu28 := Tryd.underlying28
  have hu26 := Tryd.underlying26
  have hu22 := Tryd.underlying22
  have HS := Aside0.mk hS
  clear hS
  go_enter Tryd.func12, Tryd.ntmps12
  go_wp2_with (first
    | (go_at_call 6; (with_reducible refine (differ6 w).mono ?_); rintro e w1 ⟨A0, c0, A1, c1, rfl, l0, l1, hA, hC, hb⟩; have HA := Aside0.mk hA; have HC := Aside0.mk hC; have HL0 := Aside0.mk l0; have HL1 := Aside0.mk l1; have HB1 := Aside0.mk hb; clear hA hC hb l0 l1)
    | (go_at_call 13; (with_reducible refine (narrowP_any A0 c0 dV A1 c1 dC HA.out HC.out dE (valid_good (HS.out.below HB1.out) HA.out HL0.out HC.out HL1.out dE)).mono ?_); rintro e w2 ⟨hb2, b', L', hr, hx⟩; have HB2 := Aside0.mk hb2; have hno := narrowed_out hr; have hl3 : L'.length = 3 := hr.len; (rcases hx with ⟨rfl, he⟩ | ⟨A, c, rfl, hC2, _, hw⟩) <;> (first | (exact absurd (he.symm.trans hno.1) (by decide)) | skip); obtain ⟨ad, adv, cl, rfl, hrow, hcv⟩ := third_reads hC2 hl3 (hno.2 (hw 0 (by decide) rfl)); rw [hl3]; clear hr hno hC2 hw hl3 hb2))
  go_ret
  exact ⟨rfl, HB1.out.trans (HB2.out.mono HB1.out.size)⟩
end Go.Proofs.YtehekppkicjimaaDoor.QFK
namespace Go.Proofs.YtehekppkicjimaaDoor.QFK
open Go.RowKit Go.Proofs.YtehekppkicjimaaDoorW.PrintWords Go.Proofs.YtehekppkicjimaaDoorW.PrintLast Go.Proofs.YtehekppkicjimaaDoorW.PrintMore
open Go.Deep
set_option linter.unusedVariables false
set_option linter.unusedSimpArgs false
/-- the block that holds the puzzle, in a later world -/
theorem box_at {w W : World} {v0 v1 : Value} (hb : Below (w.alloc (.cells #[v0, v1] 25)).heap.size (w.alloc (.cells #[v0, v1] 25)) W) : W.cell? ⟨w.heap.size, 0, none⟩ = some v0 ∧ W.cell? ⟨w.heap.size, 1, none⟩ = some v1 := by
  have erb := (hb.block _ (blk_lt (blk_new w (.cells #[v0, v1] 25)))).trans (blk_new w _)
  exact ⟨by simpa using blk_cell erb 0, by simpa using blk_cell erb 1⟩
theorem few7 {w : World} {A0 : Option Addr} {c0 : Nat} {vals : List (List Int)} {Ac : Option Addr} {cc : Nat} {cons : List S44} (hA : Kd.C (Kd.slice 3 (Kd.int .i64)) w A0 vals.length vals) (h0 : vals.length ≤ c0) (hC : Kd.C k44 w Ac cons.length cons) (h1 : cons.length ≤ cc) (W : World) (hW : Below w.heap.size w W) :
    Calls Tryd.prog 7 #[.agg #[.slice A0 vals.length c0, .slice Ac cons.length cc]] W fun e w' => ∃ b, e = .returned (.bool b) ∧ Below W.heap.size W w' := by
  obtain ⟨b, hb⟩ := few_ev vals cons
  obtain ⟨k, hk⟩ := hb.rounds
  refine (optimalaw3_fewPuzzle.calls k A0 c0 vals Ac cc cons b W (Kd.C_below hA hW) h0 (Kd.C_below hC hW) h1 hk).mono ?_
  rintro e w' ⟨rfl, hb⟩
  exact ⟨b, rfl, hb⟩
theorem valid8 {w : World} {A0 : Option Addr} {c0 : Nat} {vals : List (List Int)} {Ac : Option Addr} {cc : Nat} {cons : List S44} (hA : Kd.C (Kd.slice 3 (Kd.int .i64)) w A0 vals.length vals) (h0 : vals.length ≤ c0) (hC : Kd.C k44 w Ac cons.length cons) (h1 : cons.length ≤ cc) (W : World) (hW : Below w.heap.size w W) :
    Calls Tryd.prog 8 #[.agg #[.slice A0 vals.length c0, .slice Ac cons.length cc]] W fun e w' => ((∃ n : Int, (decide (n > 0) = true) ∧ e = .returned (.int .i64 n)) ∨ (e = .returned (.int .i64 0) ∧ puzE vals cons = none)) ∧ Below W.heap.size W w' := by
  obtain ⟨k, hk⟩ := (PuzzleValid_ev vals cons).rounds
  refine (optimaref3_PuzzleValid.calls k A0 c0 vals Ac cc cons _ W (Kd.C_below hA hW) h0 (Kd.C_below hC hW) h1 hk).mono ?_
  rintro e w' ⟨rfl, hb⟩
  refine ⟨?_, hb⟩
  rcases puzE_cases vals cons with e | e | e
  · right; rw [e]; exact ⟨rfl, rfl⟩
  · left; rw [e]; exact ⟨_, by decide, rfl⟩
  · left; rw [e]; exact ⟨_, by decide, rfl⟩
theorem keeps11 {w : World} {A0 : Option Addr} {c0 : Nat} {vals : List (List Int)} {Ac : Option Addr} {cc : Nat} {cons : List S44} {A : Option Addr} {c : Nat} {x : List Int} (hA : Kd.C (Kd.slice 3 (Kd.int .i64)) w A0 vals.length vals) (h0 : vals.length ≤ c0) (hC : Kd.C k44 w Ac cons.length cons) (h1 : cons.length ≤ cc) (hX : Kd.C (Kd.int .i64) w A x.length x) (hc : x.length ≤ c) (hE : puzE vals cons = none) (hx : x.length = vals.length) (W : World) (hW : Below w.heap.size w W) :
    Calls Tryd.prog 11 #[.agg #[.slice A0 vals.length c0, .slice Ac cons.length cc], .slice A x.length c] W fun e w' => e = .returned (.bool (keepsS vals cons x)) ∧ Below W.heap.size W w' := by
  obtain ⟨k, hk⟩ := (ref_Keeps_good hE x hx).rounds
  exact optimaref3_Keeps.calls k A0 c0 vals Ac cc cons A c x _ W (Kd.C_below hA hW) h0 (Kd.C_below hC hW) h1 (Kd.C_below hX hW) hc hk
/-- Narrow on a puzzle that a row keeps -/
theorem narrow13 [Sn : Sents] {w : World} (hS : Sent w) {A0 : Option Addr} {c0 : Nat} {vals : List (List Int)} {Ac : Option Addr} {cc : Nat} {cons : List S44} {x : List Int} (hA : Kd.C (Kd.slice 3 (Kd.int .i64)) w A0 vals.length vals) (h0 : vals.length ≤ c0) (hC : Kd.C k44 w Ac cons.length cons) (h1 : cons.length ≤ cc) (hE : puzE vals cons = none) (hx : Sol vals cons x) (W : World) (hW : Below w.heap.size w W) :
    Calls Tryd.prog 13 #[.agg #[.slice A0 vals.length c0, .slice Ac cons.length cc]] W fun e w' => Below W.heap.size W w' ∧ ∃ A c L', e = .returned (.tuple #[.slice A x.length c, .bool true, .nilIface]) ∧ L'.length = x.length ∧ Kd.C (Kd.slice 3 (Kd.int .i64)) w' A x.length L' ∧ inL L' x := by
  refine (narrowP_any A0 c0 vals Ac cc cons (Kd.C_below hA hW) (Kd.C_below hC hW) hE (valid_good (hS.below hW) (Kd.C_below hA hW) h0 (Kd.C_below hC hW) h1 hE)).mono ?_
  rintro e w' ⟨hb, b', L', hr, hcase⟩
  have hin : inL L' x := fun i hi => hr.sol x hx hx.inl i (by rw [← hr.len]; exact hi)
  refine ⟨hb, ?_⟩
  have hl : L'.length = x.length := hr.len.trans hx.1.symm
  rcases hcase with ⟨_, he⟩ | ⟨A, c, rfl, hC2, _, _⟩
  · exfalso
    obtain ⟨l, hl, h3⟩ := List.any_eq_true.1 he
    obtain ⟨i, hi, rfl⟩ := List.mem_iff_getElem.1 hl
    have h4 := hin i hi
    have h5 : L'[i] = [] := List.eq_nil_of_length_eq_zero (by simpa using h3)
    rw [rdL1_get L' i hi, h5] at h4
    cases h4
  · exact ⟨A, c, L', by rw [hl], hl, by rw [hl] at hC2; exact hC2, hin⟩
theorem first14 [Sn : Sents] {w : World} (hS : Sent w) {A0 : Option Addr} {c0 : Nat} {vals : List (List Int)} {Ac : Option Addr} {cc : Nat} {cons : List S44} {x : List Int} (hA : Kd.C (Kd.slice 3 (Kd.int .i64)) w A0 vals.length vals) (h0 : vals.length ≤ c0) (hC : Kd.C k44 w Ac cons.length cons) (h1 : cons.length ≤ cc) (hE : puzE vals cons = none) (hx : Sol vals cons x) (W : World) (hW : Below w.heap.size w W) :
    Calls Tryd.prog 14 #[.agg #[.slice A0 vals.length c0, .slice Ac cons.length cc]] W fun e w' => Below W.heap.size W w' ∧ ∃ A c f, e = .returned (.tuple #[.slice (some A) x.length c, .bool true, .nilIface]) ∧ f.length = x.length ∧ Kd.C (Kd.int .i64) w' (some A) x.length f ∧ LexLe f x := by
  refine (firstP_any A0 c0 vals Ac cc cons (Kd.C_below hA hW) (Kd.C_below hC hW) hE (valid_good (hS.below hW) (Kd.C_below hA hW) h0 (Kd.C_below hC hW) h1 hE) (keeps_good (hS.below hW) (Kd.C_below hA hW) h0 (Kd.C_below hC hW) h1 hE)).mono ?_
  rintro e w' ⟨hb, hcase⟩
  refine ⟨hb, ?_⟩
  rcases hcase with ⟨_, he⟩ | ⟨A, c, f, rfl, hC2, hB⟩
  · exact absurd hx (he x)
  · have hl : f.length = x.length := hB.1.1.trans hx.1.symm
    exact ⟨A, c, f, by rw [hl], hl, by rw [hl] at hC2; exact hC2, hB.2.2 x hx hx.inl⟩
end Go.Proofs.YtehekppkicjimaaDoor.QFK
namespace Go.Proofs.YtehekppkicjimaaDoor.QFK
open Go.RowKit Go.Proofs.YtehekppkicjimaaDoorW.PrintWords Go.Proofs.YtehekppkicjimaaDoorW.PrintLast Go.Proofs.YtehekppkicjimaaDoorW.PrintMore
open Go.Deep
set_option linter.unusedVariables false
set_option linter.unusedSimpArgs false
theorem took_contains {l : List Int} {k : Nat} (hk : k < l.length) (a : Int) : (l.take (k + 1)).contains a = ((l.take k).contains a || (rd l k == a)) := by
  rw [List.take_succ_eq_append_getElem hk, rd_in hk]
  generalize l.take k = q
  generalize l[k] = b
  rw [Bool.eq_iff_iff]
  simp only [List.contains_iff_mem, List.mem_append, List.mem_singleton, Bool.or_eq_true, beq_iff_eq]
  exact ⟨fun h => h.imp_right Eq.symm, fun h => h.imp_right Eq.symm⟩
set_option maxHeartbeats 16000000 in
set_option maxRecDepth 100000 in
theorem sound_any [Sn : Sents] {w : World} (hS : Sent w) (A0 : Option Addr) (c0 : Nat) (vals : List (List Int)) (Ac : Option Addr) (cc : Nat) (cons : List S44) (Ax : Option Addr) (cx : Nat) (x : List Int) (hA : Kd.C (Kd.slice 3 (Kd.int .i64)) w A0 vals.length vals) (h0 : vals.length ≤ c0) (hC : Kd.C k44 w Ac cons.length cons) (h1 : cons.length ≤ cc) (hX : Kd.C (Kd.int .i64) w Ax x.length x) (hc : x.length ≤ cx) :
    Calls Tryd.prog 4 #[.agg #[.slice A0 vals.length c0, .slice Ac cons.length cc], .slice Ax x.length cx] w fun e w' => e = .returned (.bool true) ∧ Below w.heap.size w w' := by
  have hu25 := Tryd.underlying25
  have hu28 := Tryd.underlying28
  have hu26 := Tryd.underlying26
  have hu22 := Tryd.underlying22
  have HS := Aside0.mk hS
  have HA := Aside0.mk hA
  have H0 := Aside0.mk h0
  have HC := Aside0.mk hC
  have H1 := Aside0.mk h1
  have HX := Aside0.mk hX
  have HCX := Aside0.mk hc
  have HBA := Aside0.mk (below_alloc (Below.refl w.heap.size w) (.cells #[.slice A0 vals.length c0, .slice Ac cons.length cc] 25))
  clear hS hA h0 hC h1 hX hc
  have arm12 := Aside0.mk (fun W (hW : Below w.heap.size w W) => narrowed_any W (HS.out.below hW))
  have arm7 := Aside0.mk (few7 HA.out H0.out HC.out H1.out)
  have arm8 := Aside0.mk (valid8 HA.out H0.out HC.out H1.out)
  have same : ∀ W : World, Below (w.alloc (.cells #[.slice A0 vals.length c0, .slice Ac cons.length cc] 25)).heap.size (w.alloc (.cells #[.slice A0 vals.length c0, .slice Ac cons.length cc] 25)) W → Below w.heap.size w W := fun W hW => HBA.out.trans (hW.mono HBA.out.size)
  have SAME := Aside0.mk same
  clear same
  by_cases hx : x.length = vals.length
  · have arm11 := Aside0.mk (fun hE W hW => keeps11 HA.out H0.out HC.out H1.out HX.out HCX.out hE hx W hW)
    have arm13 := Aside0.mk (fun hE (hx : Sol vals cons x) W hW => narrow13 HS.out HA.out H0.out HC.out H1.out hE hx W hW)
    have arm14 := Aside0.mk (fun hE (hx : Sol vals cons x) W hW => first14 HS.out HA.out H0.out HC.out H1.out hE hx W hW)
    have HXL := Aside0.mk hx
    rw [← hx] at arm7 arm8 arm11 arm13 arm14 HBA SAME
    rw [← hx]
    clear hx
    go_enter Tryd.func4, Tryd.ntmps4
    go_wp2_with (first
      | (go_at_call 12; (with_reducible refine (arm12.out _ HBA.out).mono ?_); rintro e w1 ⟨rfl, hb⟩; have HB1 := Aside0.mk hb; obtain ⟨hb0, hb1⟩ := box_at hb; clear hb)
      | (go_at_call 7; (with_reducible refine (arm7.out _ (SAME.out _ HB1.out)).mono ?_); rintro e w2 ⟨few, rfl, hb⟩; have HB2 := Aside0.mk (HB1.out.trans (hb.mono HB1.out.size)); clear hb0 hb1 hb; obtain ⟨hb0, hb1⟩ := box_at HB2.out; cases few)
      | (go_at_call 8; (with_reducible refine (arm8.out _ (SAME.out _ HB2.out)).mono ?_); rintro e w3 ⟨hcase, hb⟩; have HB3 := Aside0.mk (HB2.out.trans (hb.mono HB2.out.size)); clear hb0 hb1 hb; obtain ⟨hb0, hb1⟩ := box_at HB3.out; (rcases hcase with ⟨pv, hpv, rfl⟩ | ⟨rfl, hE⟩) <;> (first | have HE := Aside0.mk hE | skip))
      | (go_at_call 11; (with_reducible refine (arm11.out HE.out _ (SAME.out _ HB3.out)).mono ?_); rintro e w4 ⟨rfl, hb⟩; have HB4 := Aside0.mk (HB3.out.trans (hb.mono HB3.out.size)); clear hb0 hb1 hb; obtain ⟨hb0, hb1⟩ := box_at HB4.out; cases hks : keepsS vals cons x)
      | (go_at_call 13; have HSOL := Aside0.mk (show Sol vals cons x from ⟨HXL.out, hks⟩); (with_reducible refine (arm13.out HE.out HSOL.out _ (SAME.out _ HB4.out)).mono ?_); rintro e w5 ⟨hb, Al, cl, L', rfl, hll, hCl, hin⟩; have HB5 := Aside0.mk (HB4.out.trans (hb.mono HB4.out.size)); clear hb0 hb1 hb; obtain ⟨hb0, hb1⟩ := box_at HB5.out; have HLL := Aside0.mk hll; have HCL := Aside0.mk hCl; have HIN := Aside0.mk hin; clear hll hCl hin hks)
      | (go_at_call 14; (with_reducible refine (arm14.out HE.out HSOL.out _ (SAME.out _ HB5.out)).mono ?_); rintro e w6 ⟨hb, Af, cf, f, rfl, hfl, hCf, hle⟩; have HB6 := Aside0.mk (HB5.out.trans (hb.mono HB5.out.size)); have HCL6 := Aside0.mk (Kd.C_below HCL.out hb); clear hb0 hb1 hb; have HFL := Aside0.mk hfl; have HCF := Aside0.mk hCf; have HLE := Aside0.mk hle; clear hfl hCf hle))
    · go_ret
      exact ⟨rfl, SAME.out _ HB2.out⟩
    · go_ret
      exact ⟨rfl, SAME.out _ HB3.out⟩
    · go_ret
      exact ⟨rfl, SAME.out _ HB4.out⟩
    have HXW := Aside0.mk (Kd.C_below HX.out (SAME.out _ HB6.out))
    have HXS := Aside0.mk (show x.length ≤ 60 by have := (Good.of HE.out).bv; have := HXL.out; omega)
    go_loopw [14] (fun v14 W => ∃ i : Nat, i ≤ x.length ∧ v14 = .int .i64 i ∧ Aside0 (Below w6.heap.size w6 W)) (fun v14 _ => x.length - (intOf v14).toNat)
    case atStart => exact ⟨0, Nat.zero_le _, rfl, ⟨Below.refl _ _⟩⟩
    case round =>
      obtain ⟨i, hi, rfl, HW⟩ := hrel
      obtain ⟨W1, rfl⟩ : ∃ W1 : World, W1 = wr := ⟨_, rfl⟩
      by_cases hlt : i < x.length
      · have hC6 := HCL6.out
        rw [← HLL.out] at hC6
        obtain ⟨ad, A1, c1, eA, hrow, hl1, hC1⟩ := at_L1 hC6 (i : Int) (by omega) (by rw [HLL.out]; omega)
        cases eA
        simp only [Int.toNat_natCast] at hrow
        replace hrow := (HW.out.cell (World.block_lt_of_cell? _ _ hrow)).trans hrow
        have HMEM := Aside0.mk (HIN.out i (by rw [HLL.out]; exact hlt))
        have HLi := Aside0.mk (show (rd_L1 L' i).length ≤ 9223372036854775807 from hC1.2.1)
        obtain ⟨l, el⟩ : ∃ l, l = rd_L1 L' i := ⟨_, rfl⟩
        rw [← el] at hrow hl1 hC1 HMEM HLi
        have HC1 := Aside0.mk (Kd.C_below hC1 HW.out)
        obtain ⟨adx, ex, hcx⟩ := Kd.at_int HXW.out (i : Int) (by omega) (by omega)
        cases ex
        simp only [Int.toNat_natCast] at hcx
        replace hcx := (HW.out.cell (World.block_lt_of_cell? _ _ hcx)).trans hcx
        have HROW := Aside0.mk hrow
        have HCX2 := Aside0.mk hcx
        have HLT := Aside0.mk hlt
        clear hC6 el hC1 hl1 hrow hcx hi
        go_wp2
        go_loopw [16, 15] (fun v16 v15 W => ∃ k : Nat, k ≤ l.length ∧ v16 = .int .i64 k ∧ v15 = .bool ((l.take k).contains (rd x i)) ∧ Aside0 (Below W1.heap.size W1 W)) (fun v16 _ _ => l.length - (intOf v16).toNat)
        case atStart => exact ⟨0, Nat.zero_le _, rfl, by simp, ⟨Below.refl _ _⟩⟩
        case round =>
          obtain ⟨k, hk, rfl, rfl, HW2⟩ := hrel
          obtain ⟨W2, rfl⟩ : ∃ W2 : World, W2 = wr := ⟨_, rfl⟩
          have hrow := (HW2.out.cell (World.block_lt_of_cell? _ _ HROW.out)).trans HROW.out
          have hcx := (HW2.out.cell (World.block_lt_of_cell? _ _ HCX2.out)).trans HCX2.out
          by_cases hkl : k < l.length
          · obtain ⟨adl, ea, hcl⟩ := Kd.at_int HC1.out (k : Int) (by omega) (by omega)
            cases ea
            simp only [Int.toNat_natCast] at hcl
            replace hcl := (HW2.out.cell (World.block_lt_of_cell? _ _ hcl)).trans hcl
            have HTK := Aside0.mk (show (l.take (k + 1)).contains (rd x i) = ((l.take k).contains (rd x i) || (rd l k == rd x i)) from took_contains hkl _)
            obtain ⟨b, eb⟩ : ∃ b, b = (l.take k).contains (rd x i) := ⟨_, rfl⟩
            rw [← eb] at HTK
            rw [← eb]
            obtain ⟨xi, exi⟩ : ∃ q, q = rd x i := ⟨_, rfl⟩
            obtain ⟨lk, elk⟩ : ∃ q, q = rd l k := ⟨_, rfl⟩
            rw [← exi] at hcx HTK
            rw [← elk] at hcl HTK
            have EXI := Aside0.mk exi
            have HKL := Aside0.mk hkl
            have HWW := Aside0.mk (show wrap64 ((k : Int) + 1) = ((k + 1 : Nat) : Int) by have := HLi.out; unfold wrap64; omega)
            clear eb exi elk hk
            have hlt2 := HLT.out
            cases b with
            | true =>
              go_wp2
              go_quiet (fail)
              go_wp2
              have hw := HWW.out
              go_roundw
              case rel => exact ⟨k + 1, HKL.out, by rw [hw], by rw [← EXI.out, HTK.out]; rfl, ⟨pw_below_drewN HW2.out _⟩⟩
              case measure => rw [hw]; have := HKL.out; simp [intOf]; omega
            | false =>
              have hkl2 := HKL.out
              go_wp2
              go_quiet (fail)
              go_wp2
              have hw := HWW.out
              go_roundw
              case rel => exact ⟨k + 1, HKL.out, by rw [hw], by rw [← EXI.out, HTK.out, Bool.false_or], ⟨pw_below_drewN HW2.out _⟩⟩
              case measure => rw [hw]; have := HKL.out; simp [intOf]; omega
          · obtain rfl : k = l.length := by omega
            have hall : (l.take l.length).contains (rd x i) = true := by rw [List.take_length]; simpa using HMEM.out
            rw [hall]
            have HWW := Aside0.mk (show wrap64 ((i : Int) + 1) = ((i + 1 : Nat) : Int) by have := HXS.out; have := HLT.out; unfold wrap64; omega)
            have hlt2 := HLT.out
            clear hall hcx hk
            go_wp2
            have hw := HWW.out
            go_roundw
            case rel => exact ⟨i + 1, HLT.out, by rw [hw], ⟨HW.out.trans (HW2.out.mono HW.out.size)⟩⟩
            case measure => rw [hw]; have := HLT.out; simp [intOf]; omega
      · obtain rfl : i = x.length := by omega
        go_wp2
        go_loopw [17] (fun v17 W => ∃ i : Nat, i ≤ x.length ∧ v17 = .int .i64 i ∧ Aside0 (∀ j : Nat, j < i → rd f j = rd x j) ∧ Aside0 (Below w6.heap.size w6 W)) (fun v17 _ => x.length - (intOf v17).toNat)
        case atStart => exact ⟨0, Nat.zero_le _, rfl, ⟨fun j hj => absurd hj (Nat.not_lt_zero _)⟩, HW⟩
        case round =>
          obtain ⟨i, hi, rfl, HEQ, HW2⟩ := hrel
          obtain ⟨W2, rfl⟩ : ∃ W2 : World, W2 = wr := ⟨_, rfl⟩
          by_cases hlt3 : i < x.length
          · obtain ⟨adx, ex, hcx⟩ := Kd.at_int HXW.out (i : Int) (by omega) (by omega)
            cases ex
            have hCF := HCF.out
            rw [← HFL.out] at hCF
            obtain ⟨adf, ef, hcf⟩ := Kd.at_int hCF (i : Int) (by omega) (by rw [HFL.out]; omega)
            cases ef
            simp only [Int.toNat_natCast] at hcx hcf
            replace hcx := (HW2.out.cell (World.block_lt_of_cell? _ _ hcx)).trans hcx
            replace hcf := (HW2.out.cell (World.block_lt_of_cell? _ _ hcf)).trans hcf
            have HLT := Aside0.mk hlt3
            have HWW := Aside0.mk (show wrap64 ((i : Int) + 1) = ((i + 1 : Nat) : Int) by have := HXS.out; unfold wrap64; omega)
            obtain ⟨xi, exi⟩ : ∃ q, q = rd x i := ⟨_, rfl⟩
            obtain ⟨fi, efi⟩ : ∃ q, q = rd f i := ⟨_, rfl⟩
            rw [← exi] at hcx
            rw [← efi] at hcf
            have EXI := Aside0.mk exi
            have EFI := Aside0.mk efi
            clear exi efi hi hCF
            by_cases hfx : fi = xi
            · have hb : (fi != xi) = false := by simp [hfx]
              have HFX := Aside0.mk hfx
              clear hfx
              go_wp2
              go_quiet (fail)
              go_wp2
              have hw := HWW.out
              go_roundw
              case rel => exact ⟨i + 1, HLT.out, by rw [hw], ⟨fun j hj => by
                by_cases h : j = i
                · rw [h, ← EFI.out, ← EXI.out]; exact HFX.out
                · exact HEQ.out j (by omega)⟩, ⟨pw_below_drewN HW2.out _⟩⟩
              case measure => rw [hw]; have := HLT.out; simp [intOf]; omega
            · have hb : (fi != xi) = true := by simp [hfx]
              have hlt4 : decide (fi < xi) = true := by
                refine decide_eq_true ?_
                rw [EFI.out, EXI.out]
                rw [EFI.out, EXI.out] at hfx
                rcases HLE.out with h | ⟨p, hp, hpe, hpl⟩
                · rw [h] at hfx; exact absurd rfl hfx
                · rcases Nat.lt_trichotomy p i with h | h | h
                  · have := HEQ.out p h; omega
                  · subst h; exact hpl
                  · exact absurd (hpe i h) hfx
              clear hfx
              go_wp2
              go_quiet (fail)
              go_wp2
              go_quiet (fail)
              go_wp2
              go_ret
              exact ⟨rfl, (SAME.out _ HB6.out).trans ((pw_below_drewN (pw_below_drewN HW2.out _) _).mono (SAME.out _ HB6.out).size)⟩
          · obtain rfl : i = x.length := by omega
            go_wp2
            go_ret
            exact ⟨rfl, (SAME.out _ HB6.out).trans (HW2.out.mono (SAME.out _ HB6.out).size)⟩
  · have hne : ((x.length : Int) != (vals.length : Int)) = true := by simp; omega
    clear hx
    go_enter Tryd.func4, Tryd.ntmps4
    go_wp2_with (first
      | (go_at_call 12; (with_reducible refine (arm12.out _ HBA.out).mono ?_); rintro e w1 ⟨rfl, hb⟩; have HB1 := Aside0.mk hb; obtain ⟨hb0, hb1⟩ := box_at hb; clear hb)
      | (go_at_call 7; (with_reducible refine (arm7.out _ (SAME.out _ HB1.out)).mono ?_); rintro e w2 ⟨few, rfl, hb⟩; have HB2 := Aside0.mk (HB1.out.trans (hb.mono HB1.out.size)); clear hb0 hb1 hb; obtain ⟨hb0, hb1⟩ := box_at HB2.out; cases few)
      | (go_at_call 8; (with_reducible refine (arm8.out _ (SAME.out _ HB2.out)).mono ?_); rintro e w3 ⟨hcase, hb⟩; have HB3 := Aside0.mk (HB2.out.trans (hb.mono HB2.out.size)); clear hb0 hb1 hb; obtain ⟨hb0, hb1⟩ := box_at HB3.out; (rcases hcase with ⟨pv, hpv, rfl⟩ | ⟨rfl, hE⟩) <;> skip))
    · go_ret
      exact ⟨rfl, SAME.out _ HB2.out⟩
    · go_ret
      exact ⟨rfl, SAME.out _ HB3.out⟩
    · go_ret
      exact ⟨rfl, SAME.out _ HB3.out⟩
end Go.Proofs.YtehekppkicjimaaDoor.QFK
