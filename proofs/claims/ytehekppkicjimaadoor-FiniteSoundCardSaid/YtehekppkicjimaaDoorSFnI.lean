/- slices.IndexFunc and ContainsFunc at []int over any function value that only reads; slices.Contains as membership; what element's, table's and differ's small function values answer. Conditions: the callee is a function of the program, its contract holds at each element. -/
import Derived.Test.YtehekppkicjimaaDoorSNet
import Derived.Test.YtehekppkicjimaaDoorSPlainA
import Derived.Deep.RegionLaw
import Derived.Deep.RegionWith
namespace Go.Proofs.YtehekppkicjimaaDoor.QFK
open Go.RowKit Go.Proofs.YtehekppkicjimaaDoorW.PrintWords Go.Proofs.YtehekppkicjimaaDoorW.PrintLast Go.Proofs.YtehekppkicjimaaDoorW.PrintMore
open Go.Deep
set_option linter.unusedVariables false
set_option linter.unusedSimpArgs false
def idxI (p : Int → Bool) (xs : List Int) : Int := match xs.findIdx? p with | some i => i | none => -1
theorem idxI_ge (p : Int → Bool) (xs : List Int) : decide (idxI p xs ≥ 0) = xs.any p := by
  unfold idxI
  cases h : xs.findIdx? p with
  | none => rw [List.findIdx?_eq_none_iff] at h; simp; intro x hx; simpa using h x hx
  | some i => obtain ⟨hi, hp, _⟩ := List.findIdx?_eq_some_iff_getElem.1 h; simp; exact ⟨xs[i], List.getElem_mem hi, hp⟩

set_option maxHeartbeats 1000000 in
set_option maxRecDepth 100000 in
theorem indexFuncI_any (A0 : Option Addr) (c0 : Nat) (xs : List Int) (f : Nat) (caps : Array Value) (w : World) (p : Int → Bool)
    (hr0 : Kd.C (Kd.int .i64) w A0 xs.length xs) (hc0 : xs.length ≤ c0) (hm : xs.length ≤ 9223372036854775807)
    (hent : ∀ (ar : Array Value) (W : World), (callFunc f ar).run Tryd.prog W = .ok (.enter f ar) W)
    (hF : ∀ (i n : Nat), i < xs.length → Calls Tryd.prog f (#[.int .i64 (rd xs i)] ++ caps) (w.drewN n) fun e w' => e = .returned (.bool (p (rd xs i))) ∧ Drawn0 (w.drewN n) w') :
    Calls Tryd.prog 99 #[.slice A0 xs.length c0, .func (.func f) #[] caps] w fun e w' => e = .returned (.int .i64 (idxI p xs)) ∧ Drawn0 w w' := by
  have HR0 := Aside0.mk hr0
  have HC0 := Aside0.mk hc0
  have HF := Aside0.mk hF
  clear hr0 hc0 hF
  go_enter Tryd.func99, Tryd.ntmps99
  go_wp2
  go_loopw [8, 5] (fun v8 v5 wr => ∃ k : Nat, k ≤ xs.length ∧ v8 = .int .i64 k ∧ Aside0 (xs.findIdx? p = ((xs.drop k).findIdx? p).map (· + k)) ∧ Drawn0 w wr) (fun v8 _ _ => xs.length - (intOf v8).toNat)
  case atStart => exact ⟨0, Nat.zero_le _, rfl, ⟨by simp⟩, Drawn0.refl _⟩
  case round =>
    obtain ⟨k, hk, rfl, HI, ⟨m, rfl⟩⟩ := hrel
    by_cases hlt : k < xs.length
    · obtain ⟨ad, e, hcell⟩ := Kd.at_int HR0.out (k : Int) (by omega) (by omega)
      cases e
      simp only [Int.toNat_natCast] at hcell
      by_cases hp : p (rd xs k) = true
      · go_wp2_with (first | ((with_reducible refine (HF.out k m hlt).mono ?_); rintro e w' ⟨rfl, ⟨n', rfl⟩⟩))
        go_ret
        refine ⟨ret_i64 ?_, by repeat (first | exact Drawn0.refl _ | apply Drawn0.step)⟩
        unfold idxI; rw [HI.out, List.drop_eq_getElem_cons hlt, List.findIdx?_cons, ← rd_in hlt, hp]; simp
      · have hp' : p (rd xs k) = false := by simpa using hp
        clear hp
        go_wp2_with (first | ((with_reducible refine (HF.out k m hlt).mono ?_); rintro e w' ⟨rfl, ⟨n', rfl⟩⟩))
        go_roundw
        case rel => exact ⟨k + 1, by omega, by go_num, ⟨by rw [HI.out, List.drop_eq_getElem_cons hlt, List.findIdx?_cons, ← rd_in hlt, hp']; simp; cases List.findIdx? p (List.drop (k+1) xs) <;> simp <;> omega⟩, by repeat (first | exact Drawn0.refl _ | apply Drawn0.step)⟩
        case measure => simp [intOf]; omega
    · have hkk : k = xs.length := by omega
      go_wp2
      go_ret
      refine ⟨ret_i64 ?_, by repeat (first | exact Drawn0.refl _ | apply Drawn0.step)⟩
      unfold idxI; rw [HI.out, hkk]; simp

theorem containsFuncI_any (A0 : Option Addr) (c0 : Nat) (xs : List Int) (f : Nat) (caps : Array Value) (w : World) (p : Int → Bool)
    (hr0 : Kd.C (Kd.int .i64) w A0 xs.length xs) (hc0 : xs.length ≤ c0) (hm : xs.length ≤ 9223372036854775807)
    (hent : ∀ (ar : Array Value) (W : World), (callFunc f ar).run Tryd.prog W = .ok (.enter f ar) W)
    (hF : ∀ (i n : Nat), i < xs.length → Calls Tryd.prog f (#[.int .i64 (rd xs i)] ++ caps) (w.drewN n) fun e w' => e = .returned (.bool (p (rd xs i))) ∧ Drawn0 (w.drewN n) w') :
    Calls Tryd.prog 113 #[.slice A0 xs.length c0, .func (.func f) #[] caps] w fun e w' => e = .returned (.bool (xs.any p)) ∧ Drawn0 w w' := by
  have HF := Aside0.mk hF
  have HE := Aside0.mk hent
  clear hF hent
  go_enter Tryd.func113, Tryd.ntmps113
  go_wp2_with (go_at_call 99; refine (indexFuncI_any A0 c0 xs f caps _ p hr0 hc0 hm HE.out HF.out).mono ?_; rintro e w' ⟨rfl, ⟨n', rfl⟩⟩)
  go_ret
  refine ⟨ret_bool ?_, by repeat (first | exact Drawn0.refl _ | apply Drawn0.step)⟩
  rw [← idxI_ge]
theorem contains_any (A0 : Option Addr) (c0 : Nat) (xs : List Int) (a : Int) (w : World) (hr0 : Kd.C (Kd.int .i64) w A0 xs.length xs) (hc0 : xs.length ≤ c0) (hm : xs.length < 4611686018427387904) :
    Calls Tryd.prog 15 #[.slice A0 xs.length c0, .int .i64 a] w fun e w' => e = .returned (.bool (xs.contains a)) ∧ Drawn0 w w' := by
  obtain ⟨k, hk⟩ := (contains_ev xs hm a).rounds
  exact slices_Contains_int_int.calls k A0 c0 xs a (xs.contains a) w hr0 hc0 hk
end Go.Proofs.YtehekppkicjimaaDoor.QFK
