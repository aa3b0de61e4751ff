/- The walk of (*net).match: whether values that all differ exist, one of each list. Conditions: what it reads lies in memory. -/
import Derived.Test.YtehekppkicjimaaDoorSTry
import Derived.Laws.EntriesVeiled
namespace Go.Proofs.YtehekppkicjimaaDoor.QFK
open Go.RowKit Go.Proofs.YtehekppkicjimaaDoorW.PrintWords Go.Proofs.YtehekppkicjimaaDoorW.PrintLast Go.Proofs.YtehekppkicjimaaDoorW.PrintMore
open Go.Deep
set_option linter.unusedVariables false
set_option linter.unusedSimpArgs false
/-- values that all differ, one of each list -/
def Way (lst : Nat → List Int) (n : Nat) : Prop := ∃ f : Nat → Int, (∀ j, j < n → f j ∈ lst j) ∧ ∀ a b, a < n → b < n → f a = f b → a = b
def MatchPost (w : World) (lst : Nat → List Int) (n : Nat) (e : Ending) (w' : World) : Prop := ∃ b, e = .returned (.bool b) ∧ (b = true ↔ Way lst n) ∧ Below w.heap.size w w'
set_option maxHeartbeats 16000000 in
set_option maxRecDepth 100000 in
theorem match_any {w : World} {a g : Nat} {h : Value × Value} {L : List (List Int)} (N : Net w a g h L) (fx : Nat) (val : Int) (A1 : Option Addr) (c1 : Nat) (vars : List Int) (hC1 : Kd.C (Kd.int .i64) w A1 vars.length vars)
    (hv : vars.length ≤ 60) (hin : ∀ v ∈ vars, 0 ≤ v ∧ v < L.length) (bU : ∀ x ∈ univ L val, I64 x) (hU : (univ L val).length ≤ 15000) (hLE : ∀ k, (rd_L1 L k).length ≤ 200) :
    Calls Tryd.prog 94 #[.pointer (some ⟨a, 0, none⟩), .slice A1 vars.length c1, .int .i64 fx, .int .i64 val] w (MatchPost w (lstF L vars fx val) vars.length) := by
  have hmm := @run_makeMap Tryd.prog
  have HN := Aside0.mk N
  have HC1 := Aside0.mk hC1
  have HV := Aside0.mk hv
  have HIN := Aside0.mk hin
  have BU := Aside0.mk bU
  have HU := Aside0.mk hU
  have HLE := Aside0.mk hLE
  clear N hC1 hv hin bU hU hLE
  go_enter Tryd.func94, Tryd.ntmps94
  go_wp2
  go_loopw [18] (fun v18 wr => ∃ (i nm : Nat) (M : Int → Option Nat), i ≤ vars.length ∧ v18 = .int .i64 i ∧ Aside0 (TryIn wr a g h L (w.heap.size + 1 + 1) (w.heap.size + 1 + 1 + 1) w.heap.size (w.heap.size + 1) (w.heap.size + 1 + 1 + 1 + 1 + 1 + 1) (w.heap.size + 1 + 1 + 1 + 1 + 1) (w.heap.size + 1 + 1 + 1 + 1 + 1 + 1 + 1) (w.heap.size + 1 + 1 + 1 + 1) fx val A1 c1 vars) ∧
      Aside0 (OwnM wr (w.heap.size + 1 + 1 + 1 + 1) nm M) ∧ Aside0 (Fits (lstF L vars fx val) i M) ∧ Aside0 (nm ≤ i * 15000) ∧ Aside0 (Below w.heap.size w wr)) (fun v18 _ => vars.length - (intOf v18).toNat)
  case atStart =>
    refine ⟨0, 0, fun _ => none, Nat.zero_le _, rfl, ⟨⟨HN.out.below ?hB, Kd.C_below HC1.out ?hB, ?_, ?_, ?_, ?_, ?_, ?_, ?_⟩⟩, ⟨?own⟩, ⟨Fits.start _⟩, ⟨by simp⟩, ⟨?hB⟩⟩
    case hB => repeat (first | exact Below.refl _ _ | apply below_alloc)
    all_goals try (go_simp; done)
    have h0 := OwnM.made ((((w.alloc (.cells #[.pointer (some ⟨a, 0, none⟩)] 51)).alloc (.cells #[.slice A1 vars.length c1] 26)).alloc (.cells #[.int .i64 fx] 3)).alloc (.cells #[.int .i64 val] 3))
    have e : ((((w.alloc (.cells #[.pointer (some ⟨a, 0, none⟩)] 51)).alloc (.cells #[.slice A1 vars.length c1] 26)).alloc (.cells #[.int .i64 fx] 3)).alloc (.cells #[.int .i64 val] 3)).heap.size = w.heap.size + 1 + 1 + 1 + 1 := by simp only [World.alloc, Array.size_push]
    refine OwnM.below (w := ((((w.alloc (.cells #[.pointer (some ⟨a, 0, none⟩)] 51)).alloc (.cells #[.slice A1 vars.length c1] 26)).alloc (.cells #[.int .i64 fx] 3)).alloc (.cells #[.int .i64 val] 3)).alloc (.map #[] 0)) ?_ (by repeat (first | exact Below.refl _ _ | apply below_alloc))
    rw [← e]; exact h0
  case round =>
    obtain ⟨i, nm, M, hi, rfl, HT, HO, HF, HNM, HB⟩ := hrel
    obtain ⟨w1, rfl⟩ : ∃ w1 : World, w1 = wr := ⟨_, rfl⟩
    have ct := HT.out.t
    by_cases hlt : i < vars.length
    · have HI := Aside0.mk hlt
      have HT1 := Aside0.mk (HT.out.below (below_alloc (Below.refl _ w1) (.map #[] 0)))
      have HO1 := Aside0.mk (HO.out.below (below_alloc (Below.refl _ w1) (.map #[] 0)))
      have HS1 := Aside0.mk (SetM.made w1)
      have HNE := Aside0.mk (show w.heap.size + 1 + 1 + 1 + 1 ≠ w1.heap.size by have := HO.out.isM.lt; omega)
      have HTRY := Aside0.mk (try_any a g h L _ _ _ _ _ _ _ _ w1.heap.size fx val A1 c1 vars HV.out HIN.out BU.out HU.out HLE.out HNE.out (univ L val).length i _ M [] nm hlt HT1.out HO1.out HS1.out List.nodup_nil (fun x hx => by simp at hx) (fun v o ho => by have := (HF.out.dom o).1 ⟨v, ho⟩; omega) (by simp) (by have := HNM.out; have := HV.out; have := HU.out; simp; omega))
      have HW := Aside0.mk (show wrap64 ((i : Int) + 1) = ((i + 1 : Nat) : Int) by have := HV.out; unfold wrap64; omega)
      have hent := enters_ Tryd.func98 (by kernel_rfl) (by kernel_rfl)
      go_wp2_with (go_at_call 98; (with_reducible refine HTRY.out.mono ?_); rintro e w4 ⟨b', M', S', nm', rfl, hch, ho4, hs4, hf4, hsu4, hmn4, hn4⟩; have HCH := Aside0.mk hch; have HO4 := Aside0.mk ho4; have HS4 := Aside0.mk hs4; have HF4 := Aside0.mk hf4; have HSU4 := Aside0.mk hsu4; have HN4 := Aside0.mk hn4; clear hch ho4 hs4 hf4 hsu4 hmn4 hn4 ct)
      · have hb' : b' = false := by have : (!b') = true := by assumption
                                    simpa using this
        subst hb'
        go_ret
        exact ⟨false, rfl, ⟨(fun h => by cases h), fun hw => absurd hw (HF.out.stuck hlt HCH.out)⟩, below_of_fr (below_alloc HB.out _) HF4.out (Nat.le_refl _) (by omega) HB.out.size⟩
      · have hb' : b' = true := by have : (!b') = false := by assumption
                                   simpa using this
        subst hb'
        have hw := HW.out
        go_roundw
        case rel =>
          refine ⟨i + 1, nm', M', by have := HI.out; omega, by rw [hw], ⟨HT1.out.keep HF4.out HO1.out.isM HS1.out.isM⟩, HO4, ⟨HF.out.next HCH.out⟩, ⟨?_⟩, ⟨below_of_fr (below_alloc HB.out _) HF4.out (Nat.le_refl _) (by omega) HB.out.size⟩⟩
          have h1 := nodup_len S' (univ L val) (HCH.out.nd List.nodup_nil) HSU4.out
          have := HN4.out
          have := HNM.out
          have := HU.out
          simp only [List.length_nil] at *
          omega
        case measure => rw [hw]; have := HI.out; simp [intOf]; omega
    · obtain rfl : i = vars.length := by omega
      go_wp2
      go_ret
      exact ⟨true, rfl, ⟨fun _ => HF.out.way, fun _ => rfl⟩, HB.out⟩
end Go.Proofs.YtehekppkicjimaaDoor.QFK
