/- What the function values of element and table answer. Conditions: what they read lies in memory, places are in range. -/
import Derived.Test.YtehekppkicjimaaDoorSRul
import Derived.RegionTactic
import Derived.ChangeAlike
namespace Go.Proofs.YtehekppkicjimaaDoor.QFK
open Go.RowKit Go.Proofs.YtehekppkicjimaaDoorW.PrintWords Go.Proofs.YtehekppkicjimaaDoorW.PrintLast Go.Proofs.YtehekppkicjimaaDoorW.PrintMore
open Go.Deep
set_option linter.unusedVariables false
set_option linter.unusedSimpArgs false
theorem Net.drewN {w : World} {a g : Nat} {h : Value × Value} {L : List (List Int)} (N : Net w a g h L) (n : Nat) : Net (w.drewN n) a g h L := N.below (pw_below_drewN (Below.refl _ _) n)
set_option maxHeartbeats 8000000 in
set_option maxRecDepth 100000 in
/-- element's inmost function value: 'slices.Contains(n.left[is], v)' -/
theorem el11_any {w : World} {a g : Nat} {h : Value × Value} {L : List (List Int)} (N : Net w a g h L) (gn gis : Nat) (v k : Int) (hn : w.cell? ⟨gn, 0, none⟩ = some (.pointer (some ⟨a, 0, none⟩))) (hk : w.cell? ⟨gis, 0, none⟩ = some (.int .i64 k)) (h0 : 0 ≤ k) (h1 : k < L.length) (hm : (rd_L1 L k).length ≤ 200) :
    Calls Tryd.prog 114 #[.int .i64 v, .pointer (some ⟨gn, 0, none⟩), .pointer (some ⟨gis, 0, none⟩)] w fun e w' => e = .returned (.bool ((rd_L1 L k).contains v)) ∧ Drawn0 w w' := by
  have hu54 := Tryd.underlying54
  obtain ⟨A, cap, A1, c1, eblk, rfl, ecell, hl1, hC⟩ := N.at k h0 h1
  have hc2 : w.cell? ⟨a, 2, none⟩ = some (.slice (some ⟨g, 0, none⟩) L.length cap) := by simpa using blk_cell eblk 2
  have HC := Aside0.mk hC
  have HL1 := Aside0.mk hl1
  have HM := Aside0.mk hm
  have hk0 := eq_true h0
  have hk1 := eq_true h1
  clear hC N h0 h1 eblk hl1 hm
  go_enter Tryd.func114, Tryd.ntmps114
  go_wp2
  go_quiet ((go_at_call 15; (with_reducible refine (contains_any A1 c1 (rd_L1 L k) v _ ?hb HL1.out (by have := HM.out; omega)).mono ?_); (case hb => (with_reducible repeat (first | apply Kd.C_drewN | apply Kd.C_drew)); exact HC.out); rintro e w' ⟨rfl, ⟨nd, rfl⟩⟩; exact ⟨rfl, _, World.drewN_drewN _ _ _⟩))
  go_wp2
  go_ret
  exact ⟨rfl, ⟨_, rfl⟩⟩
set_option maxHeartbeats 8000000 in
set_option maxRecDepth 100000 in
theorem el3_any {w : World} {a g : Nat} {h : Value × Value} {L : List (List Int)} (N : Net w a g h L) (gn gis : Nat) (v k : Int) (hn : w.cell? ⟨gn, 0, none⟩ = some (.pointer (some ⟨a, 0, none⟩))) (hk : w.cell? ⟨gis, 0, none⟩ = some (.int .i64 k)) (h0 : 0 ≤ k) (h1 : k < L.length) (hm : (rd_L1 L k).length ≤ 200) :
    Calls Tryd.prog 117 #[.int .i64 v, .pointer (some ⟨gn, 0, none⟩), .pointer (some ⟨gis, 0, none⟩)] w fun e w' => e = .returned (.bool ((rd_L1 L k).contains v)) ∧ Drawn0 w w' := by
  have hu54 := Tryd.underlying54
  obtain ⟨A, cap, A1, c1, eblk, rfl, ecell, hl1, hC⟩ := N.at k h0 h1
  have hc2 : w.cell? ⟨a, 2, none⟩ = some (.slice (some ⟨g, 0, none⟩) L.length cap) := by simpa using blk_cell eblk 2
  have HC := Aside0.mk hC
  have HL1 := Aside0.mk hl1
  have HM := Aside0.mk hm
  have hk0 := eq_true h0
  have hk1 := eq_true h1
  clear hC N h0 h1 eblk hl1 hm
  go_enter Tryd.func117, Tryd.ntmps117
  go_wp2
  go_quiet ((go_at_call 15; (with_reducible refine (contains_any A1 c1 (rd_L1 L k) v _ ?hb HL1.out (by have := HM.out; omega)).mono ?_); (case hb => (with_reducible repeat (first | apply Kd.C_drewN | apply Kd.C_drew)); exact HC.out); rintro e w' ⟨rfl, ⟨nd, rfl⟩⟩; exact ⟨rfl, _, World.drewN_drewN _ _ _⟩))
  go_wp2
  go_ret
  exact ⟨rfl, ⟨_, rfl⟩⟩
set_option maxHeartbeats 8000000 in
set_option maxRecDepth 100000 in
theorem el21_any {w : World} {a g : Nat} {h : Value × Value} {L : List (List Int)} (N : Net w a g h L) (gn gl gv : Nat) (i v : Int) (Al : Option Addr) (cl : Nat) (l : List Int) (hn : w.cell? ⟨gn, 0, none⟩ = some (.pointer (some ⟨a, 0, none⟩))) (hl : w.cell? ⟨gl, 0, none⟩ = some (.slice Al l.length cl)) (hCl : Kd.C (Kd.int .i64) w Al l.length l) (hv : w.cell? ⟨gv, 0, none⟩ = some (.int .i64 v))
    (i0 : 0 ≤ i) (i1 : i < l.length) (h0 : 0 ≤ rd l i) (h1 : rd l i < L.length) (hm : (rd_L1 L (rd l i)).length ≤ 200) :
    Calls Tryd.prog 116 #[.int .i64 i, .pointer (some ⟨gn, 0, none⟩), .pointer (some ⟨gl, 0, none⟩), .pointer (some ⟨gv, 0, none⟩)] w fun e w' => e = .returned (.bool ((rd_L1 L (rd l i)).contains v)) ∧ Drawn0 w w' := by
  have hu54 := Tryd.underlying54
  obtain ⟨A, cap, A1, c1, eblk, rfl, ecell, hl1, hC⟩ := N.at (rd l i) h0 h1
  have hc2 : w.cell? ⟨a, 2, none⟩ = some (.slice (some ⟨g, 0, none⟩) L.length cap) := by simpa using blk_cell eblk 2
  obtain ⟨ad, e, hcl⟩ := Kd.at_int hCl i i0 i1
  cases e
  have HC := Aside0.mk hC
  have HL1 := Aside0.mk hl1
  have HM := Aside0.mk hm
  have hk0 := eq_true h0
  have hk1 := eq_true h1
  have hk2 := eq_true i0
  have hk3 := eq_true i1
  clear hC N h0 h1 eblk hl1 hm i0 i1 hCl
  go_enter Tryd.func116, Tryd.ntmps116
  go_wp2
  go_quiet ((go_at_call 15; (with_reducible refine (contains_any A1 c1 (rd_L1 L (rd l i)) v _ ?hb HL1.out (by have := HM.out; omega)).mono ?_); (case hb => (with_reducible repeat (first | apply Kd.C_drewN | apply Kd.C_drew)); exact HC.out); rintro e w' ⟨rfl, ⟨nd, rfl⟩⟩; exact ⟨rfl, _, World.drewN_drewN _ _ _⟩))
  go_wp2
  go_ret
  exact ⟨rfl, ⟨_, rfl⟩⟩
set_option maxHeartbeats 8000000 in
set_option maxRecDepth 100000 in
theorem el2_any {w : World} {a g : Nat} {h : Value × Value} {L : List (List Int)} (N : Net w a g h L) (gn gat gl : Nat) (k v : Int) (Al : Option Addr) (cl : Nat) (l : List Int) (hn : w.cell? ⟨gn, 0, none⟩ = some (.pointer (some ⟨a, 0, none⟩))) (hat : w.cell? ⟨gat, 0, none⟩ = some (.int .i64 k)) (hl : w.cell? ⟨gl, 0, none⟩ = some (.slice Al l.length cl)) (hCl : Kd.C (Kd.int .i64) w Al l.length l)
    (h0 : 0 ≤ k) (h1 : k < L.length) (hin : ∀ i ∈ rd_L1 L k, 0 ≤ i ∧ i < l.length) (hln : ∀ i ∈ l, 0 ≤ i ∧ i < L.length) (hm : ∀ k, (rd_L1 L k).length ≤ 200) :
    Calls Tryd.prog 115 #[.int .i64 v, .pointer (some ⟨gn, 0, none⟩), .pointer (some ⟨gat, 0, none⟩), .pointer (some ⟨gl, 0, none⟩)] w fun e w' => e = .returned (.bool ((rd_L1 L k).any fun i => (rd_L1 L (rd l i)).contains v)) ∧ Below w.heap.size w w' := by
  have hu54 := Tryd.underlying54
  obtain ⟨A, cap, A1, c1, eblk, rfl, ecell, hl1, hC⟩ := N.at k h0 h1
  have hc2 : w.cell? ⟨a, 2, none⟩ = some (.slice (some ⟨g, 0, none⟩) L.length cap) := by simpa using blk_cell eblk 2
  have HC := Aside0.mk hC
  have HL1 := Aside0.mk hl1
  have HM := Aside0.mk hm
  have HN := Aside0.mk N
  have HCL := Aside0.mk hCl
  have HIN := Aside0.mk hin
  have HLN := Aside0.mk hln
  have HNN := Aside0.mk hn
  have HLL := Aside0.mk hl
  have hk0 := eq_true h0
  have hk1 := eq_true h1
  clear hC N h0 h1 eblk hl1 hm hCl hin hln
  have HF : Aside0 (∀ (W : World), Below w.heap.size w W → W.cell? ⟨w.heap.size, 0, none⟩ = some (.int .i64 v) → ∀ (i n : Nat), i < (rd_L1 L k).length → Calls Tryd.prog 116 (#[.int .i64 (rd (rd_L1 L k) i)] ++ #[.pointer (some ⟨gn, 0, none⟩), .pointer (some ⟨gl, 0, none⟩), .pointer (some ⟨w.heap.size, 0, none⟩)]) (W.drewN n) fun e w' => e = .returned (.bool ((fun i => (rd_L1 L (rd l i)).contains v) (rd (rd_L1 L k) i))) ∧ Drawn0 (W.drewN n) w') := by
    refine ⟨fun W hW hv i n hi => ?_⟩
    have hi2 := HIN.out (rd (rd_L1 L k) i) (by rw [rd_in hi]; exact List.getElem_mem hi)
    have hi3 := HLN.out (rd l (rd (rd_L1 L k) i)) (by
      obtain ⟨m, hm⟩ : ∃ m : Nat, rd (rd_L1 L k) i = m := ⟨(rd (rd_L1 L k) i).toNat, by omega⟩
      rw [hm] at hi2 ⊢
      rw [rd_in (by omega)]; exact List.getElem_mem _)
    exact el21_any ((HN.out.below hW).drewN n) gn gl w.heap.size (rd (rd_L1 L k) i) v Al cl l ((hW.cell (World.block_lt_of_cell? w _ HNN.out)).trans HNN.out) ((hW.cell (World.block_lt_of_cell? w _ HLL.out)).trans HLL.out) (Kd.C_drewN (Kd.C_below HCL.out hW) n) hv hi2.1 hi2.2 hi3.1 hi3.2 (HM.out _)
  have hn1 := Lib.cell?_alloc_some (.cells #[.int .i64 v] 3) hn
  have hat1 := Lib.cell?_alloc_some (.cells #[.int .i64 v] 3) hat
  have hc21 := Lib.cell?_alloc_some (.cells #[.int .i64 v] 3) hc2
  have ecell1 := Lib.cell?_alloc_some (.cells #[.int .i64 v] 3) ecell
  clear hn hat hc2 ecell hl
  go_enter Tryd.func115, Tryd.ntmps115
  go_wp2
  go_quiet ((go_at_call 113; (with_reducible refine (containsFuncI_any A1 c1 (rd_L1 L k) 116 #[.pointer (some ⟨gn, 0, none⟩), .pointer (some ⟨gl, 0, none⟩), .pointer (some ⟨w.heap.size, 0, none⟩)] _ (fun i => (rd_L1 L (rd l i)).contains v) ?hb HL1.out (by have := HM.out k; omega) (enters_ Tryd.func116 (by kernel_rfl) (by kernel_rfl)) ?hf).mono ?_); (case hb => (with_reducible repeat (first | apply Kd.C_drewN | apply Kd.C_drew | apply Kd.C_alloc)); exact HC.out); (case hf => refine HF.out _ ?_ ?_; (· repeat (first | exact Below.refl _ _ | apply below_alloc | apply below_drew | apply pw_below_drewN)); (· go_simp)); rintro e w' ⟨rfl, ⟨nd, rfl⟩⟩; exact ⟨rfl, _, World.drewN_drewN _ _ _⟩))
  go_wp2
  go_ret
  exact ⟨rfl, by repeat (first | exact Below.refl _ _ | apply below_alloc | apply below_drew | apply pw_below_drewN)⟩
set_option maxHeartbeats 8000000 in
set_option maxRecDepth 100000 in
/-- 'meets' -/
theorem el1_any {w : World} {a g : Nat} {h : Value × Value} {L : List (List Int)} (N : Net w a g h L) (gl gn gis : Nat) (k i : Int) (Al : Option Addr) (cl : Nat) (l : List Int) (hn : w.cell? ⟨gn, 0, none⟩ = some (.pointer (some ⟨a, 0, none⟩))) (his : w.cell? ⟨gis, 0, none⟩ = some (.int .i64 k)) (hl : w.cell? ⟨gl, 0, none⟩ = some (.slice Al l.length cl)) (hCl : Kd.C (Kd.int .i64) w Al l.length l)
    (h0 : 0 ≤ k) (h1 : k < L.length) (hln : ∀ i ∈ l, 0 ≤ i ∧ i < L.length) (hm : ∀ k, (rd_L1 L k).length ≤ 200) (hll : l.length ≤ 200) :
    Calls Tryd.prog 112 #[.int .i64 i, .pointer (some ⟨gl, 0, none⟩), .pointer (some ⟨gn, 0, none⟩), .pointer (some ⟨gis, 0, none⟩)] w fun e w' => e = .returned (.bool (decide (0 ≤ i) && decide (i < l.length) && (rd_L1 L (rd l i)).any fun v => (rd_L1 L k).contains v)) ∧ Drawn0 w w' := by
  have hu54 := Tryd.underlying54
  by_cases i0 : 0 ≤ i
  · by_cases i1 : i < l.length
    · have hi3 := hln (rd l i) (by
        obtain ⟨m, rfl⟩ : ∃ m : Nat, i = m := ⟨i.toNat, by omega⟩
        rw [rd_in (by omega)]; exact List.getElem_mem _)
      obtain ⟨A, cap, A1, c1, eblk, rfl, ecell, hl1, hC⟩ := N.at (rd l i) hi3.1 hi3.2
      have hc2 : w.cell? ⟨a, 2, none⟩ = some (.slice (some ⟨g, 0, none⟩) L.length cap) := by simpa using blk_cell eblk 2
      obtain ⟨ad, e, hcl⟩ := Kd.at_int hCl i i0 i1
      cases e
      have HC := Aside0.mk hC
      have HL1 := Aside0.mk hl1
      have HM := Aside0.mk hm
      have HF : Aside0 (∀ (j n : Nat), j < (rd_L1 L (rd l i)).length → Calls Tryd.prog 114 (#[.int .i64 (rd (rd_L1 L (rd l i)) j)] ++ #[.pointer (some ⟨gn, 0, none⟩), .pointer (some ⟨gis, 0, none⟩)]) ((w.drewN n)) fun e w' => e = .returned (.bool ((fun v => (rd_L1 L k).contains v) (rd (rd_L1 L (rd l i)) j))) ∧ Drawn0 (w.drewN n) w') :=
        ⟨fun j n hj => el11_any (N.drewN n) gn gis _ k hn his h0 h1 (hm k)⟩
      have hk0 := eq_true i0
      have hk1 := eq_true i1
      have hk2 := eq_true hi3.1
      have hk3 := eq_true hi3.2
      have kg : (i ≥ 0) = True := eq_true i0
      clear hC N h0 h1 eblk hl1 hm hCl hln i0 i1 hi3
      go_enter Tryd.func112, Tryd.ntmps112
      go_wp2
      go_quiet ((go_at_call 113; (with_reducible refine (containsFuncI_any A1 c1 (rd_L1 L (rd l i)) 114 #[.pointer (some ⟨gn, 0, none⟩), .pointer (some ⟨gis, 0, none⟩)] _ (fun v => (rd_L1 L k).contains v) ?hb HL1.out (by have := HM.out (rd l i); omega) (enters_ Tryd.func114 (by kernel_rfl) (by kernel_rfl)) ?hf).mono ?_); (case hb => (with_reducible repeat (first | apply Kd.C_drewN | apply Kd.C_drew | apply Kd.C_alloc)); exact HC.out); (case hf => intro j n hj; rw [World.drewN_drewN]; exact HF.out j _ hj); rintro e w' ⟨rfl, ⟨nd, rfl⟩⟩; exact ⟨rfl, _, World.drewN_drewN _ _ _⟩))
      go_wp2
      go_ret
      refine ⟨ret_bool ?_, ⟨_, rfl⟩⟩
      rw [decide_eq_true (show 0 ≤ i from of_eq_true kg), decide_eq_true (of_eq_true hk1)]; simp
    · have hk0 : (i ≥ 0) = True := eq_true i0
      have hk1 : (i < (l.length : Int)) = False := eq_false i1
      have I1 := Aside0.mk i1
      clear i0 i1 N hln hm hCl h0 h1 hll
      go_enter Tryd.func112, Tryd.ntmps112
      go_wp2
      go_quiet (fail)
      go_wp2
      go_ret
      refine ⟨ret_bool ?_, ⟨_, rfl⟩⟩
      rw [decide_eq_false (show ¬ i < (l.length : Int) by have := I1.out; omega)]; simp
  · have hk0 : (i ≥ 0) = False := eq_false i0
    have I0 := Aside0.mk i0
    clear i0 N hln hm hCl h0 h1 hll
    go_enter Tryd.func112, Tryd.ntmps112
    go_wp2
    go_quiet (fail)
    go_wp2
    go_ret
    refine ⟨ret_bool ?_, ⟨_, rfl⟩⟩
    rw [decide_eq_false (show ¬ 0 ≤ i by have := I0.out; omega)]; simp
set_option maxHeartbeats 8000000 in
set_option maxRecDepth 100000 in
theorem tab11_any {w : World} (A : Option Addr) (c : Nat) (r : List Int) (gi gv : Nat) (i v : Int) (hC : Kd.C (Kd.int .i64) w A r.length r) (hc : r.length ≤ c) (hi : w.cell? ⟨gi, 0, none⟩ = some (.int .i64 i)) (hv : w.cell? ⟨gv, 0, none⟩ = some (.int .i64 v)) (i0 : 0 ≤ i) (i1 : i < r.length) :
    Calls Tryd.prog 109 #[.slice A r.length c, .pointer (some ⟨gi, 0, none⟩), .pointer (some ⟨gv, 0, none⟩)] w fun e w' => e = .returned (.bool (rd r i == v)) ∧ Drawn0 w w' := by
  obtain ⟨ad, e, hcl⟩ := Kd.at_int hC i i0 i1
  cases e
  have hk2 := eq_true i0
  have hk3 := eq_true i1
  clear i0 i1 hC hc
  go_enter Tryd.func109, Tryd.ntmps109
  go_wp2
  go_quiet (fail)
  go_wp2
  go_ret
  exact ⟨rfl, ⟨_, rfl⟩⟩
set_option maxHeartbeats 8000000 in
set_option maxRecDepth 100000 in
theorem tab1_any {w : World} (gl gi : Nat) (v i : Int) (A : Option Addr) (c : Nat) (live : List (List Int)) (hl : w.cell? ⟨gl, 0, none⟩ = some (.slice A live.length c)) (hc : live.length ≤ c) (hC : Kd.C (Kd.slice 3 (Kd.int .i64)) w A live.length live) (hi : w.cell? ⟨gi, 0, none⟩ = some (.int .i64 i)) (hm : live.length ≤ 200) (i0 : 0 ≤ i) (i1 : ∀ r ∈ live, i < r.length) :
    Calls Tryd.prog 108 #[.int .i64 v, .pointer (some ⟨gl, 0, none⟩), .pointer (some ⟨gi, 0, none⟩)] w fun e w' => e = .returned (.bool (live.any fun r => rd r i == v)) ∧ Below w.heap.size w w' := by
  have HC := Aside0.mk hC
  have HC0 := Aside0.mk hc
  have HM := Aside0.mk hm
  have HF : Aside0 (∀ (W : World), Below w.heap.size w W → W.cell? ⟨w.heap.size, 0, none⟩ = some (.int .i64 v) → ∀ (j : Nat) (A1 : Option Addr) (c1 n : Nat), j < live.length → (rd_L1 live j).length ≤ c1 → Kd.C (Kd.int .i64) W A1 (rd_L1 live j).length (rd_L1 live j) →
      Calls Tryd.prog 109 (#[.slice A1 (rd_L1 live j).length c1] ++ #[.pointer (some ⟨gi, 0, none⟩), .pointer (some ⟨w.heap.size, 0, none⟩)]) (W.drewN n) fun e w' => e = .returned (.bool ((fun r => rd r i == v) (rd_L1 live j))) ∧ Drawn0 (W.drewN n) w') :=
    ⟨fun W hW hv j A1 c1 n hj hl hC1 => tab11_any A1 c1 (rd_L1 live j) gi w.heap.size i v (Kd.C_drewN hC1 n) hl ((hW.cell (World.block_lt_of_cell? w _ hi)).trans hi) hv i0 (i1 _ (by rw [rdL1_get live j hj]; exact List.getElem_mem hj))⟩
  clear hC hc hm i0 i1
  have hl1 := Lib.cell?_alloc_some (.cells #[.int .i64 v] 3) hl
  clear hl
  go_enter Tryd.func108, Tryd.ntmps108
  go_wp2_with (go_at_call 30; (with_reducible refine (containsFunc_any A c live 109 #[.pointer (some ⟨gi, 0, none⟩), .pointer (some ⟨w.heap.size, 0, none⟩)] _ (fun r => rd r i == v) ?hb HC0.out (by have := HM.out; omega) (enters_ Tryd.func109 (by kernel_rfl) (by kernel_rfl)) ?hf).mono ?_); (case hb => (with_reducible repeat (first | apply Kd.C_drewN | apply Kd.C_drew | apply Kd.C_alloc)); exact HC.out); (case hf => refine HF.out _ ?_ ?_; (· repeat (first | exact Below.refl _ _ | apply below_alloc | apply below_drew | apply pw_below_drewN)); (· go_simp)); rintro e w' ⟨rfl, ⟨nd, rfl⟩⟩)
  go_ret
  exact ⟨rfl, by repeat (first | exact Below.refl _ _ | apply below_alloc | apply below_drew | apply pw_below_drewN)⟩
end Go.Proofs.YtehekppkicjimaaDoor.QFK
