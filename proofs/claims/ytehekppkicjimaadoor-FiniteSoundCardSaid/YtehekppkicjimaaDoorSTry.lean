/- The walk of the function values of (*net).match: a chain of owners. Conditions: what they read lies in memory. -/
import Derived.Test.YtehekppkicjimaaDoorSMapI
namespace Go.Proofs.YtehekppkicjimaaDoor.QFK
open Go.RowKit Go.Proofs.YtehekppkicjimaaDoorW.PrintWords Go.Proofs.YtehekppkicjimaaDoorW.PrintLast Go.Proofs.YtehekppkicjimaaDoorW.PrintMore
open Go.Deep
set_option linter.unusedVariables false
set_option linter.unusedSimpArgs false
/-- the lists of a matching: one of the variables has a value -/
def lstF (L : List (List Int)) (vars : List Int) (fx val : Int) (j : Nat) : List Int := if (j : Int) = fx then [val] else rd_L1 L (rd vars j)
set_option maxHeartbeats 16000000 in
set_option maxRecDepth 100000 in
theorem lists_any {w : World} {a g : Nat} {h : Value × Value} {L : List (List Int)} (N : Net w a g h L) (gf gv gn gva : Nat) (i : Nat) (fx val : Int) (A1 : Option Addr) (c1 : Nat) (vars : List Int) (hC1 : Kd.C (Kd.int .i64) w A1 vars.length vars) (hi : i < vars.length) (hin : ∀ v ∈ vars, 0 ≤ v ∧ v < L.length)
    (h1 : w.cell? ⟨gf, 0, none⟩ = some (.int .i64 fx)) (h2 : w.cell? ⟨gv, 0, none⟩ = some (.int .i64 val)) (h3 : w.cell? ⟨gn, 0, none⟩ = some (.pointer (some ⟨a, 0, none⟩))) (h4 : w.cell? ⟨gva, 0, none⟩ = some (.slice A1 vars.length c1)) :
    Calls Tryd.prog 97 #[.int .i64 i, .pointer (some ⟨gf, 0, none⟩), .pointer (some ⟨gv, 0, none⟩), .pointer (some ⟨gn, 0, none⟩), .pointer (some ⟨gva, 0, none⟩)] w fun e w' =>
      (∃ A c, e = .returned (.slice A (lstF L vars fx val i).length c) ∧ Kd.C (Kd.int .i64) w' A (lstF L vars fx val i).length (lstF L vars fx val i)) ∧ Below w.heap.size w w' := by
  have hu54 := Tryd.underlying54
  by_cases hf : (i : Int) = fx
  · have hfb : ((i : Int) == fx) = true := by simp [hf]
    have e1 : lstF L vars fx val i = [val] := by unfold lstF; rw [if_pos hf]
    have E1 := Aside0.mk e1
    clear hf e1 hC1 N hin
    go_enter Tryd.func97, Tryd.ntmps97
    go_wp2
    go_ret
    refine ⟨⟨_, _, by rw [E1.out]; rfl, ?_⟩, below_alloc (Below.refl _ _) _⟩
    rw [E1.out]
    have := World.ownsRow_lit (base := w.heap.size) (e := 3) (size := 1) w #[.int .i64 val] 1 (Nat.le_refl _) (by decide) rfl
    have hR : Kd.R (Kd.int .i64) 3 (w.alloc (.cells #[.int .i64 val] 3)) w.heap.size (fun _ => True) (.slice (some ⟨w.heap.size, 0, none⟩) 1 1) [val] := Kd.R_of_own (by simpa [encs] using this) (fun _ _ => trivial)
    exact (Kd.R_reads' hR).2.2
  · have hfb : ((i : Int) == fx) = false := by simp [hf]
    have e1 : lstF L vars fx val i = rd_L1 L (rd vars i) := by unfold lstF; rw [if_neg hf]
    have hk := hin (rd vars i) (by rw [rd_in hi]; exact List.getElem_mem hi)
    obtain ⟨ad1, e, hcv⟩ := Kd.at_int hC1 (i : Int) (by omega) (by omega)
    cases e
    simp only [Int.toNat_natCast] at hcv
    obtain ⟨Aq, capq, A1q, c1q, eblkq, eAq, ecellq, hlq, hCq⟩ := N.at (rd vars i) hk.1 hk.2
    cases eAq
    have hc2q : w.cell? ⟨a, 2, none⟩ = some (.slice (some ⟨g, 0, none⟩) L.length capq) := by simpa using blk_cell eblkq 2
    have hk0 := eq_true hk.1
    have hk1 := eq_true hk.2
    have hi1 : ((i : Int) < (vars.length : Int)) = True := eq_true (by omega)
    have hi2 : (i < vars.length) = True := eq_true hi
    have HCQ := Aside0.mk hCq
    have E1 := Aside0.mk e1
    clear hf e1 N hin hk hCq hlq eblkq hC1 hi
    go_enter Tryd.func97, Tryd.ntmps97
    go_wp2
    go_quiet (fail)
    go_wp2
    go_ret
    exact ⟨⟨A1q, c1q, by rw [E1.out]; rfl, by rw [E1.out]; exact Kd.C_drewN HCQ.out _⟩, pw_below_drewN (Below.refl _ _) _⟩
/-- what the call of 'try' finds in memory -/
structure TryIn (w : World) (a g : Nat) (h : Value × Value) (L : List (List Int)) (gf gv gn gva gl go gt bo : Nat) (fx val : Int) (A1 : Option Addr) (c1 : Nat) (vars : List Int) : Prop where
  net : Net w a g h L
  vs : Kd.C (Kd.int .i64) w A1 vars.length vars
  f : w.cell? ⟨gf, 0, none⟩ = some (.int .i64 fx)
  v : w.cell? ⟨gv, 0, none⟩ = some (.int .i64 val)
  n : w.cell? ⟨gn, 0, none⟩ = some (.pointer (some ⟨a, 0, none⟩))
  va : w.cell? ⟨gva, 0, none⟩ = some (.slice A1 vars.length c1)
  l : w.cell? ⟨gl, 0, none⟩ = some (.func (.func 97) #[] #[.pointer (some ⟨gf, 0, none⟩), .pointer (some ⟨gv, 0, none⟩), .pointer (some ⟨gn, 0, none⟩), .pointer (some ⟨gva, 0, none⟩)])
  o : w.cell? ⟨go, 0, none⟩ = some (.map (some bo))
  t : w.cell? ⟨gt, 0, none⟩ = some (.func (.func 98) #[] #[.pointer (some ⟨gl, 0, none⟩), .pointer (some ⟨go, 0, none⟩), .pointer (some ⟨gt, 0, none⟩)])
theorem TryIn.keep {w w' : World} {a g : Nat} {h : Value × Value} {L : List (List Int)} {gf gv gn gva gl go gt bo b c : Nat} {fx val : Int} {A1 : Option Addr} {c1 : Nat} {vars : List Int} (T : TryIn w a g h L gf gv gn gva gl go gt bo fx val A1 c1 vars) (F : Fr w w' b c) (hb : IsM w b) (hc : IsM w c) : TryIn w' a g h L gf gv gn gva gl go gt bo fx val A1 c1 vars :=
  ⟨T.net.keep F hb hc, C_keep F hb hc T.vs, cell_keep F hb hc T.f, cell_keep F hb hc T.v, cell_keep F hb hc T.n, cell_keep F hb hc T.va, cell_keep F hb hc T.l, cell_keep F hb hc T.o, cell_keep F hb hc T.t⟩
theorem TryIn.below {w w' : World} {a g : Nat} {h : Value × Value} {L : List (List Int)} {gf gv gn gva gl go gt bo : Nat} {fx val : Int} {A1 : Option Addr} {c1 : Nat} {vars : List Int} (T : TryIn w a g h L gf gv gn gva gl go gt bo fx val A1 c1 vars) (hb : Below w.heap.size w w') : TryIn w' a g h L gf gv gn gva gl go gt bo fx val A1 c1 vars := by
  have key : ∀ {p : Addr} {v : Value}, w.cell? p = some v → w'.cell? p = some v := fun h => (hb.cell (World.block_lt_of_cell? w _ h)).trans h
  exact ⟨T.net.below hb, Kd.C_below T.vs hb, key T.f, key T.v, key T.n, key T.va, key T.l, key T.o, key T.t⟩
def univ (L : List (List Int)) (val : Int) : List Int := val :: L.flatten
theorem lst_univ {L : List (List Int)} {vars : List Int} {fx val : Int} (hin : ∀ v ∈ vars, 0 ≤ v ∧ v < L.length) {j : Nat} (hj : j < vars.length) : ∀ v ∈ lstF L vars fx val j, v ∈ univ L val := by
  intro v hv
  unfold lstF at hv
  unfold univ
  split at hv
  · simp at hv; simp [hv]
  · have hk := hin (rd vars j) (by rw [rd_in hj]; exact List.getElem_mem hj)
    refine List.mem_cons_of_mem _ (List.mem_flatten.2 ⟨rd_L1 L (rd vars j), ?_, hv⟩)
    have e : rd_L1 L (rd vars j) = L[(rd vars j).toNat] := by simp [rd_L1, show (rd vars j).toNat < L.length by omega]
    rw [e]; exact List.getElem_mem _
set_option maxHeartbeats 16000000 in
set_option maxRecDepth 100000 in
theorem try_any (a g : Nat) (h : Value × Value) (L : List (List Int)) (gf gv gn gva gl go gt bo bs : Nat) (fx val : Int) (A1 : Option Addr) (c1 : Nat) (vars : List Int)
    (hv : vars.length ≤ 60) (hin : ∀ v ∈ vars, 0 ≤ v ∧ v < L.length) (bU : ∀ x ∈ univ L val, I64 x) (hU : (univ L val).length ≤ 15000) (hLE : ∀ k, (rd_L1 L k).length ≤ 200) (hbb : bo ≠ bs) (d : Nat) :
    ∀ (i : Nat) (w : World) (M : Int → Option Nat) (S : List Int) (nm : Nat), i < vars.length → TryIn w a g h L gf gv gn gva gl go gt bo fx val A1 c1 vars → OwnM w bo nm M → SetM w bs S → S.Nodup → (∀ x ∈ S, x ∈ univ L val) → (∀ v o, M v = some o → o < vars.length) → (univ L val).length ≤ d + S.length → nm + (univ L val).length ≤ 900000 + S.length →
      Calls Tryd.prog 98 #[.int .i64 i, .map (some bs), .pointer (some ⟨gl, 0, none⟩), .pointer (some ⟨go, 0, none⟩), .pointer (some ⟨gt, 0, none⟩)] w fun e w' =>
        ∃ b M' S' nm', e = .returned (.bool b) ∧ Chain (lstF L vars fx val) i M S b M' S' ∧ OwnM w' bo nm' M' ∧ SetM w' bs S' ∧ Fr w w' bo bs ∧ (∀ x ∈ S', x ∈ univ L val) ∧ (∀ v o, M' v = some o → o < vars.length) ∧ nm' + S.length ≤ nm + S'.length := by
  have HV := Aside0.mk hv
  have HIN := Aside0.mk hin
  have BU := Aside0.mk bU
  have HLE := Aside0.mk hLE
  have HU := Aside0.mk hU
  have HBB := Aside0.mk hbb
  clear hv hin bU hU hbb hLE
  induction d using Nat.strongRecOn with
  | ind d ih =>
    intro i w M S nm hi T HO HSM hnd hsub hMn hd hnm
    have IH := Aside0.mk ih
    have HT := Aside0.mk T
    have HO0 := Aside0.mk HO
    have HS0 := Aside0.mk HSM
    have HND := Aside0.mk hnd
    have HSUB := Aside0.mk hsub
    have HMN := Aside0.mk hMn
    have HD := Aside0.mk hd
    have HNM := Aside0.mk hnm
    have HI := Aside0.mk hi
    have cl := T.l
    have hL1 := lists_any T.net gf gv gn gva i fx val A1 c1 vars T.vs hi HIN.out T.f T.v T.n T.va
    have hlu := lst_univ (fx := fx) (val := val) HIN.out hi
    obtain ⟨l, el⟩ : ∃ l, l = lstF L vars fx val i := ⟨_, rfl⟩
    rw [← el] at hL1 hlu
    have HLL := Aside0.mk (show l.length ≤ 15000 by rw [el]; unfold lstF; split; (· simp); (· have := HLE.out (rd vars i); omega))
    have EL := Aside0.mk el
    have HLU := Aside0.mk hlu
    have HL1 := Aside0.mk hL1
    have hent := enters_ Tryd.func97 (by kernel_rfl) (by kernel_rfl)
    clear ih T HO HSM hnd hsub hMn hd hnm hi hL1 el hlu
    go_enter Tryd.func98, Tryd.ntmps98
    go_wp2_with (go_at_call 97; (with_reducible refine HL1.out.mono ?_); rintro e w1 ⟨⟨Al, cl1, rfl, hCl⟩, hb1⟩; have HCL := Aside0.mk hCl; have HB1 := Aside0.mk hb1; clear hCl hb1 cl)
    have HO1 := Aside0.mk (HO0.out.below HB1.out)
    have HS1 := Aside0.mk (HS0.out.below HB1.out)
    have HT1 := Aside0.mk (HT.out.below HB1.out)
    clear HO0 HS0 HT hent
    go_loopw [16] (fun v16 wr => ∃ (k : Nat) (S1 : List Int) (nm1 : Nat), k ≤ l.length ∧ v16 = .int .i64 k ∧ Aside0 (Half (lstF L vars fx val) i k M S S1) ∧ Aside0 (OwnM wr bo nm1 M) ∧ Aside0 (SetM wr bs S1) ∧ Aside0 (Fr w1 wr bo bs) ∧ Aside0 (∀ x ∈ S1, x ∈ univ L val) ∧ Aside0 (nm1 + S.length ≤ nm + S1.length))
      (fun v16 _ => l.length - (intOf v16).toNat)
    case atStart => exact ⟨0, S, nm, Nat.zero_le _, rfl, ⟨Half.start _ _ _ _⟩, HO1, HS1, ⟨Fr.refl _ _ _⟩, HSUB, ⟨Nat.le_refl _⟩⟩
    case round =>
      obtain ⟨k, S1, nm1, hk, rfl, HH, HOk, HSk, HFk, HSUk, HNk⟩ := hrel
      obtain ⟨w2, rfl⟩ : ∃ w2 : World, w2 = wr := ⟨_, rfl⟩
      have HT2 := Aside0.mk (HT1.out.keep HFk.out HO1.out.isM HS1.out.isM)
      have hWr := (HFk.out.size)
      have hlu60 := HLL.out
      have HW := Aside0.mk (show wrap64 ((k : Int) + 1) = ((k + 1 : Nat) : Int) by unfold wrap64; omega)
      by_cases hlt : k < l.length
      · have hCl2 := C_keep HFk.out HO1.out.isM HS1.out.isM HCL.out
        obtain ⟨adl, e, hcl⟩ := Kd.at_int hCl2 (k : Int) (by omega) (by omega)
        cases e
        simp only [Int.toNat_natCast] at hcl
        obtain ⟨v, ev⟩ : ∃ v, v = rd l k := ⟨_, rfl⟩
        rw [← ev] at hcl
        have hvl : v = (lstF L vars fx val i)[k]'(by rw [← EL.out]; exact hlt) := by rw [ev, rd_in hlt]; simp [EL.out]
        have hvI := BU.out v (HLU.out v (by rw [ev, rd_in hlt]; exact List.getElem_mem _))
        have hkl : k < (lstF L vars fx val i).length := by rw [← EL.out]; exact hlt
        have HVL := Aside0.mk hvl
        have HVI := Aside0.mk hvI
        have HVU := Aside0.mk (HLU.out v (by rw [ev, rd_in hlt]; exact List.getElem_mem _))
        have HKL := Aside0.mk hkl
        have HLT := Aside0.mk hlt
        clear hvl hvI hkl ev hCl2 hlu60 hWr
        by_cases hs : v ∈ S1
        · have hrun := HSk.out.look HVI.out
          rw [decide_eq_true hs] at hrun
          have HSE := Aside0.mk hs
          clear hs
          go_wp2
          have hw := HW.out
          go_roundw
          case rel => exact ⟨k + 1, S1, nm1, by have := HLT.out; omega, by rw [hw], ⟨HH.out.seen HKL.out (by rw [← HVL.out]; exact HSE.out)⟩, HOk, HSk, HFk, HSUk, HNk⟩
          case measure => rw [hw]; have := HLT.out; simp [intOf]; omega
        · have hrun := HSk.out.look HVI.out
          rw [decide_eq_false hs] at hrun
          have HSE := Aside0.mk hs
          have co := HT2.out.o
          have hS1n := nodup_len S1 (univ L val) (HH.out.nd HND.out) HSUk.out
          have HS1N := Aside0.mk hS1n
          have HVN := Aside0.mk (show (v :: S1).length ≤ (univ L val).length from nodup_len (v :: S1) (univ L val) (List.nodup_cons.2 ⟨hs, HH.out.nd HND.out⟩) (fun x hx => by rcases List.mem_cons.1 hx with rfl | hx; exact HVU.out; exact HSUk.out x hx))
          clear hs hS1n
          cases hM : M v with
          | none =>
            have HM := Aside0.mk hM
            clear hM
            go_wp2_with (first
              | (at_mapUpdate; refine wp_set rfl _ _ _ rfl bs S1 rfl HSk.out (by have := HS1N.out; have := HU.out; omega) v rfl HVI.out rfl ?_; intro w3 hs3 hg3; have HS3 := Aside0.mk hs3; have HG3 := Aside0.mk hg3; have F3 := Aside0.mk (fr_grown (c := bo) hg3).2; clear hs3 hg3 hrun hcl co; have HO3 := Aside0.mk (HOk.out.block (HG3.out.block bo HOk.out.isM.lt (by have := HBB.out; simp; omega))); have HT3 := Aside0.mk (HT2.out.keep F3.out HOk.out.isM HSk.out.isM); have co := HT3.out.o; obtain ⟨c, hrun, hc⟩ := HO3.out.look HVI.out; rw [HM.out] at hrun; clear hc)
              | (at_mapUpdate; refine wp_own rfl _ _ _ rfl bo nm1 M rfl HO3.out (by have := HNM.out; have := HNk.out; have := HS1N.out; omega) v rfl HVI.out i (by have := HI.out; have := HV.out; omega) rfl ?_; intro w4 ho4 hg4; have HO4 := Aside0.mk ho4; have HG4 := Aside0.mk hg4; clear ho4 hg4))
            go_ret
            have hch := HH.out.free HKL.out (by rw [← HVL.out]; exact HSE.out) (by rw [← HVL.out]; exact HM.out)
            rw [← HVL.out] at hch
            refine ⟨true, putM M v i, v :: S1, nm1 + 1, rfl, hch, HO4.out, HS3.out.block (HG4.out.block bs HS3.out.isM.lt (by have := HBB.out; simp; omega)), ?_, ?_, ?_, ?_⟩
            · exact (((Fr.of_below HB1.out bo bs).trans HFk.out (.inl rfl)).trans F3.out (.inl rfl)).trans (fr_grown (c := bs) HG4.out).1 (.inl rfl)
            · intro x hx
              rcases List.mem_cons.1 hx with rfl | hx
              · exact HVU.out
              · exact HSUk.out x hx
            · intro x o ho
              unfold putM at ho
              split at ho
              · cases ho; exact HI.out
              · exact HMN.out x o ho
            · have := HNk.out; simp only [List.length_cons]; omega
          | some o =>
            have HM := Aside0.mk hM
            have HOL := Aside0.mk (HMN.out v o hM)
            have HSS := nodup_len S S1 HND.out HH.out.sub
            have HDD := Aside0.mk (show d - 1 < d by have := HVN.out; have := HD.out; simp only [List.length_cons] at *; omega)
            have HDU := Aside0.mk (show (univ L val).length ≤ d - 1 + (v :: S1).length by have := HVN.out; have := HD.out; simp only [List.length_cons] at *; omega)
            have HNU := Aside0.mk (show nm1 + (univ L val).length ≤ 900000 + (v :: S1).length by have := HNk.out; have := HNM.out; simp only [List.length_cons] at *; omega)
            have HSUV := Aside0.mk (show ∀ x ∈ v :: S1, x ∈ univ L val from fun x hx => by rcases List.mem_cons.1 hx with rfl | hx; exact HVU.out; exact HSUk.out x hx)
            clear hM HSS
            have hent := enters_ Tryd.func98 (by kernel_rfl) (by kernel_rfl)
            go_wp2_with (first | (at_mapUpdate; refine wp_set rfl _ _ _ rfl bs S1 rfl HSk.out (by have := HS1N.out; have := HU.out; omega) v rfl HVI.out rfl ?_; intro w3 hs3 hg3; have HS3 := Aside0.mk hs3; have HG3 := Aside0.mk hg3; have F3 := Aside0.mk (fr_grown (c := bo) hg3).2; clear hs3 hg3 hrun hcl co; have HO3 := Aside0.mk (HOk.out.block (HG3.out.block bo HOk.out.isM.lt (by have := HBB.out; simp; omega))); have HT3 := Aside0.mk (HT2.out.keep F3.out HOk.out.isM HSk.out.isM); have co := HT3.out.o; have ct := HT3.out.t; obtain ⟨c, hrun, hc⟩ := HO3.out.look HVI.out; obtain rfl : c = (o : Int) := hc o HM.out; rw [HM.out] at hrun; clear hc) | (go_at_call 98; (with_reducible refine (IH.out (d - 1) HDD.out o _ M (v :: S1) nm1 HOL.out HT3.out HO3.out HS3.out (List.nodup_cons.2 ⟨HSE.out, HH.out.nd HND.out⟩) HSUV.out HMN.out HDU.out HNU.out).mono ?_); rintro e w4 ⟨b', M', S', nm', rfl, hch, ho4, hs4, hf4, hsu4, hmn4, hn4⟩; have HCH := Aside0.mk hch; have HO4 := Aside0.mk ho4; have HS4 := Aside0.mk hs4; have HF4 := Aside0.mk hf4; have HSU4 := Aside0.mk hsu4; have HMN4 := Aside0.mk hmn4; have HN4 := Aside0.mk hn4; have HT4 := Aside0.mk (HT3.out.keep hf4 HO3.out.isM HS3.out.isM); clear hch ho4 hs4 hf4 hsu4 hmn4 hn4 co ct hrun; have co := HT4.out.o) | (at_mapUpdate; refine wp_own rfl _ _ _ rfl bo nm' M' rfl HO4.out ?hnn v rfl HVI.out i (by have := HI.out; have := HV.out; omega) rfl ?_; (case hnn => have := HNM.out; have := HNk.out; have := HN4.out; have := nodup_len S' (univ L val) (HCH.out.nd (List.nodup_cons.2 ⟨HSE.out, HH.out.nd HND.out⟩)) HSU4.out; simp only [List.length_cons] at *; omega); intro w5 ho5 hg5; have HO5 := Aside0.mk ho5; have HG5 := Aside0.mk hg5; clear ho5 hg5))
            · have hb' : b' = true := by assumption
              subst hb'
              go_ret
              have hch := HCH.out
              rw [HVL.out] at hch
              have hch2 := HH.out.turn HKL.out (by rw [← HVL.out]; exact HSE.out) (by rw [← HVL.out]; exact HM.out) hch
              rw [← HVL.out] at hch2
              refine ⟨true, putM M' v i, S', nm' + 1, rfl, hch2, HO5.out, HS4.out.block (HG5.out.block bs HS4.out.isM.lt (by have := HBB.out; simp; omega)), ?_, HSU4.out, ?_, ?_⟩
              · exact ((((Fr.of_below HB1.out bo bs).trans HFk.out (.inl rfl)).trans F3.out (.inl rfl)).trans HF4.out (.inl rfl)).trans (fr_grown (c := bs) HG5.out).1 (.inl rfl)
              · intro x o' ho
                unfold putM at ho
                split at ho
                · cases ho; exact HI.out
                · exact HMN4.out x o' ho
              · have := HNk.out; have := HN4.out; simp only [List.length_cons] at *; omega
            · have hb' : b' = false := by assumption
              subst hb'
              have hch := HCH.out
              rw [HVL.out] at hch
              obtain ⟨eM, hH2⟩ := HH.out.step HKL.out (by rw [← HVL.out]; exact HSE.out) (by rw [← HVL.out]; exact HM.out) hch
              subst eM
              have hw := HW.out
              refine ⟨⟨k + 1, S', nm', by have := HLT.out; omega, by rw [hw], ⟨hH2⟩, HO4, HS4, ⟨(HFk.out.trans F3.out (.inl rfl)).trans HF4.out (.inl rfl)⟩, HSU4, ⟨by have := HNk.out; have := HN4.out; simp only [List.length_cons] at *; omega⟩⟩, ?_⟩
              rw [hw]; have := HLT.out; simp [intOf]; omega
      · obtain rfl : k = l.length := by omega
        go_wp2
        go_ret
        exact ⟨false, M, S1, nm1, rfl, HH.out.done (by rw [← EL.out]; exact Nat.le_refl _), HOk.out, HSk.out, (Fr.of_below HB1.out bo bs).trans HFk.out (.inl rfl), HSUk.out, HMN.out, HNk.out⟩
end Go.Proofs.YtehekppkicjimaaDoor.QFK
