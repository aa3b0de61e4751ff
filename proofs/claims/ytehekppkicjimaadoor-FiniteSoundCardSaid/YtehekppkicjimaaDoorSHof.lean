/- slices.IndexFunc and ContainsFunc at [][]int over any function value that only reads; slices.Equal as equality of lists; the function value of keeps. Conditions: the callee is a function of the program, its contract holds at each element. -/
import Derived.Test.YtehekppkicjimaaDoorSQFKx32
namespace Go.Proofs.YtehekppkicjimaaDoor.QFK
open Go.RowKit Go.Proofs.YtehekppkicjimaaDoorW.PrintWords Go.Proofs.YtehekppkicjimaaDoorW.PrintLast Go.Proofs.YtehekppkicjimaaDoorW.PrintMore
set_option linter.unusedVariables false
set_option linter.unusedSimpArgs false

def idxF (p : List Int → Bool) (xs : List (List Int)) : Int := match xs.findIdx? p with | some i => i | none => -1
theorem ret_i64 {a b : Int} (h : a = b) : Ending.returned (.int .i64 a) = .returned (.int .i64 b) := by rw [h]
theorem ret_bool {a b : Bool} (h : a = b) : Ending.returned (.bool a) = .returned (.bool b) := by rw [h]
theorem rdL1_get (xs : List (List Int)) (k : Nat) (h : k < xs.length) : rd_L1 xs (k : Int) = xs[k] := by simp [rd_L1, h]
theorem idxF_ge (p : List Int → Bool) (xs : List (List Int)) : decide (idxF p xs ≥ 0) = xs.any p := by
  unfold idxF
  cases h : xs.findIdx? p with
  | none => rw [List.findIdx?_eq_none_iff] at h; simp; intro x hx; simpa using h x hx
  | some i => obtain ⟨hi, hp, _⟩ := List.findIdx?_eq_some_iff_getElem.1 h; simp; exact ⟨xs[i], List.getElem_mem hi, hp⟩

set_option maxHeartbeats 1000000 in
set_option maxRecDepth 100000 in
theorem indexFunc_any (A0 : Option Addr) (c0 : Nat) (xs : List (List Int)) (f : Nat) (caps : Array Value) (w : World) (p : List Int → Bool)
    (hr0 : Kd.C (Kd.slice 3 (Kd.int .i64)) w A0 xs.length xs) (hc0 : xs.length ≤ c0) (hm : xs.length ≤ 9223372036854775807)
    (hent : ∀ (ar : Array Value) (W : World), (callFunc f ar).run Tryd.prog W = .ok (.enter f ar) W)
    (hF : ∀ (i : Nat) (A : Option Addr) (c n : Nat), i < xs.length → (rd_L1 xs i).length ≤ c → Kd.C (Kd.int .i64) w A (rd_L1 xs i).length (rd_L1 xs i) →
      Calls Tryd.prog f (#[.slice A (rd_L1 xs i).length c] ++ caps) (w.drewN n) fun e w' => e = .returned (.bool (p (rd_L1 xs i))) ∧ Drawn0 (w.drewN n) w') :
    Calls Tryd.prog 42 #[.slice A0 xs.length c0, .func (.func f) #[] caps] w fun e w' => e = .returned (.int .i64 (idxF p xs)) ∧ Drawn0 w w' := by
  have HR0 := Aside0.mk hr0
  have HC0 := Aside0.mk hc0
  have HF := Aside0.mk hF
  clear hr0 hc0 hF
  go_enter Tryd.func42, Tryd.ntmps42
  go_wp2
  go_loopw [8, 5] (fun v8 v5 wr => ∃ k : Nat, k ≤ xs.length ∧ v8 = .int .i64 k ∧ Aside0 (xs.findIdx? p = ((xs.drop k).findIdx? p).map (· + k)) ∧ Drawn0 w wr) (fun v8 _ _ => xs.length - (intOf v8).toNat)
  case atStart => exact ⟨0, Nat.zero_le _, rfl, ⟨by simp⟩, Drawn0.refl _⟩
  case round =>
    obtain ⟨k, hk, rfl, HI, ⟨m, rfl⟩⟩ := hrel
    by_cases hlt : k < xs.length
    · obtain ⟨ad, A1, c1, e, hcell, hlen, hC⟩ := at_L1 HR0.out (k : Int) (by omega) (by omega)
      cases e
      simp only [Int.toNat_natCast] at hcell
      have HL := Aside0.mk hlen
      have HC := Aside0.mk hC
      clear hlen hC
      by_cases hp : p (rd_L1 xs k) = true
      · go_wp2_with (first | ((with_reducible refine (HF.out k A1 c1 m hlt HL.out HC.out).mono ?_); rintro e w' ⟨rfl, ⟨n', rfl⟩⟩))
        go_ret
        refine ⟨ret_i64 ?_, by repeat (first | exact Drawn0.refl _ | apply Drawn0.step)⟩
        unfold idxF; rw [HI.out, List.drop_eq_getElem_cons hlt, List.findIdx?_cons, ← rdL1_get xs k hlt, hp]; simp
      · have hp' : p (rd_L1 xs k) = false := by simpa using hp
        clear hp
        go_wp2_with (first | ((with_reducible refine (HF.out k A1 c1 m hlt HL.out HC.out).mono ?_); rintro e w' ⟨rfl, ⟨n', rfl⟩⟩))
        go_roundw
        case rel => exact ⟨k + 1, by omega, by go_num, ⟨by rw [HI.out, List.drop_eq_getElem_cons hlt, List.findIdx?_cons, ← rdL1_get xs k hlt, hp']; simp; cases List.findIdx? p (List.drop (k+1) xs) <;> simp <;> omega⟩, by repeat (first | exact Drawn0.refl _ | apply Drawn0.step)⟩
        case measure => simp [intOf]; omega
    · have hkk : k = xs.length := by omega
      go_wp2
      go_ret
      refine ⟨ret_i64 ?_, by repeat (first | exact Drawn0.refl _ | apply Drawn0.step)⟩
      unfold idxF; rw [HI.out, hkk]; simp

theorem containsFunc_any (A0 : Option Addr) (c0 : Nat) (xs : List (List Int)) (f : Nat) (caps : Array Value) (w : World) (p : List Int → Bool)
    (hr0 : Kd.C (Kd.slice 3 (Kd.int .i64)) w A0 xs.length xs) (hc0 : xs.length ≤ c0) (hm : xs.length ≤ 9223372036854775807)
    (hent : ∀ (ar : Array Value) (W : World), (callFunc f ar).run Tryd.prog W = .ok (.enter f ar) W)
    (hF : ∀ (i : Nat) (A : Option Addr) (c n : Nat), i < xs.length → (rd_L1 xs i).length ≤ c → Kd.C (Kd.int .i64) w A (rd_L1 xs i).length (rd_L1 xs i) →
      Calls Tryd.prog f (#[.slice A (rd_L1 xs i).length c] ++ caps) (w.drewN n) fun e w' => e = .returned (.bool (p (rd_L1 xs i))) ∧ Drawn0 (w.drewN n) w') :
    Calls Tryd.prog 30 #[.slice A0 xs.length c0, .func (.func f) #[] caps] w fun e w' => e = .returned (.bool (xs.any p)) ∧ Drawn0 w w' := by
  have HF := Aside0.mk hF
  have HE := Aside0.mk hent
  clear hF hent
  go_enter Tryd.func30, Tryd.ntmps30
  go_wp2_with (go_at_call 42; refine (indexFunc_any A0 c0 xs f caps _ p hr0 hc0 hm HE.out HF.out).mono ?_; rintro e w' ⟨rfl, ⟨n', rfl⟩⟩)
  go_ret
  refine ⟨ret_bool ?_, by repeat (first | exact Drawn0.refl _ | apply Drawn0.step)⟩
  rw [← idxF_ge]

theorem equal_l0 (a b : List Int) (hab : a.length = b.length) (hm : a.length ≤ 9223372036854775807) (d : Nat) : ∀ k (i : Nat), i + d = a.length → d < k → slices_Equal_int_int.l0 k a b (a.length : Int) (i : Int) = some (decide (a.drop i = b.drop i)) := by
  induction d with
  | zero =>
    intro k i hi hk
    obtain ⟨k, rfl⟩ : ∃ m, k = m + 1 := ⟨k - 1, by omega⟩
    simp only [slices_Equal_int_int.l0]
    rw [if_neg (by omega)]
    have h1 : a.drop i = [] := List.drop_eq_nil_of_le (by omega)
    have h2 : b.drop i = [] := List.drop_eq_nil_of_le (by omega)
    rw [h1, h2]; simp
  | succ d ih =>
    intro k i hi hk
    obtain ⟨k, rfl⟩ : ∃ m, k = m + 1 := ⟨k - 1, by omega⟩
    simp only [slices_Equal_int_int.l0]
    rw [if_pos (by omega), if_pos (by omega), if_pos (by omega), if_pos (by omega)]
    have h1 : a.drop i = rd a i :: a.drop (i + 1) := by rw [List.drop_eq_getElem_cons (show i < a.length by omega)]; simp [rd, show i < a.length by omega]
    have h2 : b.drop i = rd b i :: b.drop (i + 1) := by rw [List.drop_eq_getElem_cons (show i < b.length by omega)]; simp [rd, show i < b.length by omega]
    rw [h1, h2]
    by_cases hc : rd a i = rd b i
    · rw [if_pos hc, show wrap64 ((i : Int) + 1) = ((i + 1 : Nat) : Int) by unfold wrap64; omega, ih k (i + 1) (by omega) (by omega)]
      simp [hc]
    · rw [if_neg hc]; simp [hc]
theorem equal_f (a b : List Int) (hm : a.length ≤ 9223372036854775807) : slices_Equal_int_int.f (a.length + 1) a b = some (a == b) := by
  unfold slices_Equal_int_int.f
  by_cases hab : a.length = b.length
  · rw [if_pos (by omega)]
    have := equal_l0 a b hab hm a.length (a.length + 1) 0 (by omega) (by omega)
    simp only [Int.natCast_zero, List.drop_zero] at this
    rw [this, Option.some_inj, Bool.eq_iff_iff]; simp
  · rw [if_neg (by omega)]
    have : a ≠ b := fun e => hab (by rw [e])
    rw [Option.some_inj]; simp [this]

set_option maxHeartbeats 1000000 in
/-- 'func(r []int) bool { return slices.Equal(r, v) }' over the variable v. -/
theorem keeps1_any (A0 : Option Addr) (c0 : Nat) (r : List Int) (g : Nat) (A1 : Option Addr) (c1 : Nat) (v : List Int) (w : World)
    (hr0 : Kd.C (Kd.int .i64) w A0 r.length r) (hc0 : r.length ≤ c0) (hr1 : Kd.C (Kd.int .i64) w A1 v.length v) (hc1 : v.length ≤ c1) (hm : r.length ≤ 9223372036854775807)
    (hg : w.cell? ⟨g, 0, none⟩ = some (.slice A1 v.length c1)) :
    Calls Tryd.prog 31 #[.slice A0 r.length c0, .pointer (some ⟨g, 0, none⟩)] w fun e w' => e = .returned (.bool (r == v)) ∧ Drawn0 w w' := by
  have HR0 := Aside0.mk hr0
  have HR1 := Aside0.mk hr1
  have HC0 := Aside0.mk hc0
  have HC1 := Aside0.mk hc1
  have HM := Aside0.mk hm
  clear hr0 hr1 hc0 hc1 hm
  go_enter Tryd.func31, Tryd.ntmps31
  go_wp2_with (go_at_call 32; refine (slices_Equal_int_int.calls (r.length + 1) A0 c0 r A1 c1 v (r == v) _ HR0.out HC0.out HR1.out HC1.out (equal_f r v HM.out)).mono ?_; rintro e w' ⟨rfl, ⟨n', rfl⟩⟩)
  go_ret
  exact ⟨rfl, by repeat (first | exact Drawn0.refl _ | apply Drawn0.step)⟩
end Go.Proofs.YtehekppkicjimaaDoor.QFK
