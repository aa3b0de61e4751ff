/- The walk of (*net).table: a rule that keeps what is sound. Conditions: the constraint is well formed. -/
import Derived.Test.YtehekppkicjimaaDoorSStep
namespace Go.Proofs.YtehekppkicjimaaDoor.QFK
open Go.RowKit Go.Proofs.YtehekppkicjimaaDoorW.PrintWords Go.Proofs.YtehekppkicjimaaDoorW.PrintLast Go.Proofs.YtehekppkicjimaaDoorW.PrintMore
open Go.Deep
set_option linter.unusedVariables false
set_option linter.unusedSimpArgs false
/-- the value of a row in the table's memory -/
def rowV (w : World) (A : Option Addr) (j : Nat) : Value := match A with
  | none => .slice none 0 0
  | some ad => match w.cell? (ad.add j) with
    | some (.slice A1 n c) => .slice A1 n c
    | _ => .slice none 0 0
theorem rowV_one (w : World) (A : Option Addr) (j : Nat) : (rowV w A j).oneCell' = true := by
  unfold rowV; split
  · rfl
  · split <;> rfl
def kRow (w : World) (A : Option Addr) : Kd Nat := Kd.scalar (rowV w A) (rowV_one w A)
theorem rowV_at {w : World} {A : Option Addr} {rows : List (List Int)} (hC : Kd.C (Kd.slice 3 (Kd.int .i64)) w A rows.length rows) (j : Nat) (hj : j < rows.length) :
    ∃ ad A1 c1, A = some ad ∧ w.cell? (ad.add j) = some (rowV w A j) ∧ rowV w A j = .slice A1 (rd_L1 rows j).length c1 ∧ (rd_L1 rows j).length ≤ c1 ∧ Kd.C (Kd.int .i64) w A1 (rd_L1 rows j).length (rd_L1 rows j) := by
  obtain ⟨ad, A1, c1, rfl, hcell, hl, hC1⟩ := at_L1 hC (j : Int) (by omega) (by omega)
  simp only [Int.toNat_natCast] at hcell
  have e : rowV w (some ad) j = .slice A1 (rd_L1 rows j).length c1 := by simp only [rowV, hcell]
  exact ⟨ad, A1, c1, rfl, by rw [e]; exact hcell, e, hl, hC1⟩
/-- rows by their places, read as rows -/
theorem rows_read {w wr : World} {A Al : Option Addr} {rows : List (List Int)} {js : List Nat} (hC : Kd.C (Kd.slice 3 (Kd.int .i64)) w A rows.length rows) (hb : ∀ (A1 : Option Addr) (xs : List Int), Kd.C (Kd.int .i64) w A1 xs.length xs → (∃ j, j < rows.length ∧ ∃ c1, rowV w A j = .slice A1 xs.length c1) → Kd.C (Kd.int .i64) wr A1 xs.length xs) (hjs : ∀ j ∈ js, j < rows.length)
    (h : (kRow w A).C wr Al js.length js) : Kd.C (Kd.slice 3 (Kd.int .i64)) wr Al (js.map fun (j : Nat) => rd_L1 rows j).length (js.map fun (j : Nat) => rd_L1 rows j) := by
  refine ⟨rfl, by rw [List.length_map]; exact h.2.1, fun hn => ?_⟩
  rw [List.length_map] at hn
  obtain ⟨ad, e, hc⟩ := h.2.2 hn
  refine ⟨ad, e, fun m p hm => ?_⟩
  rw [List.getElem?_map] at hm
  cases hj : js[m]? with
  | none => rw [hj] at hm; cases hm
  | some j =>
    rw [hj] at hm
    cases hm
    obtain ⟨c, hs, hK, hcell⟩ := hc m j hj
    have hK' : c = [rowV w A j] := hK
    subst hK'
    have hjl := hjs j (List.mem_of_getElem? hj)
    obtain ⟨ad', A1, c1, _, _, e1, hl, hC1⟩ := rowV_at hC j hjl
    exact ⟨[rowV w A j], rfl, ⟨A1, c1, by rw [e1], hl, hb _ _ hC1 ⟨j, hjl, c1, e1⟩⟩, hcell⟩
/-- what a row has that is kept -/
def RowOk (L : List (List Int)) (vars r : List Int) : Prop := ∀ i : Nat, i < vars.length → (rd_L1 L (rd vars i)).contains (rd r i) = true ∧ ∀ j : Nat, j < vars.length → rd vars j = rd vars i → rd r j = rd r i
theorem CS_fr {α : Type} {enc : α → Value} {h1 : ∀ x, (enc x).oneCell' = true} {w w' : World} {a g : Nat} {A : Option Addr} {xs : List α} (F : Fr w w' a g) (hC : (Kd.scalar enc h1).C w A xs.length xs) (hf : ∀ ad, A = some ad → ad.block ≠ a ∧ ad.block ≠ g) : (Kd.scalar enc h1).C w' A xs.length xs := by
  refine ⟨hC.1, hC.2.1, fun hn => ?_⟩
  obtain ⟨ad, e, hc⟩ := hC.2.2 hn
  have hne := hf ad e
  refine ⟨ad, e, fun j p hj => ?_⟩
  obtain ⟨c, h1, h2, h3⟩ := hc j p hj
  refine ⟨c, h1, h2, fun i u hu => cell_fr F (h3 i u hu) ?_ ?_⟩
  · rw [show (ad.add (j * (Kd.scalar enc _).sz + i)).block = ad.block by simp [Addr.add]; split <;> rfl]; exact hne.1
  · rw [show (ad.add (j * (Kd.scalar enc _).sz + i)).block = ad.block by simp [Addr.add]; split <;> rfl]; exact hne.2
theorem row_ok {L : List (List Int)} {vars x : List Int} (hin : ∀ v ∈ vars, 0 ≤ v ∧ v < L.length) (hx : ∀ i : Nat, i < L.length → rd x i ∈ rd_L1 L i) : RowOk L vars (vars.map fun i => rd x i) := by
  have key : ∀ i : Nat, i < vars.length → rd (vars.map fun i => rd x i) i = rd x (rd vars i) := fun i hi => by rw [rd_in (by simp; omega), rd_in hi]; simp
  intro i hi
  refine ⟨?_, fun j hj e => by rw [key j hj, key i hi, e]⟩
  rw [key i hi, List.contains_iff_mem]
  have h1 := hin (rd vars i) (by rw [rd_in hi]; exact List.getElem_mem hi)
  have := hx (rd vars i).toNat (by omega)
  rwa [show (((rd vars i).toNat : Nat) : Int) = rd vars i by omega] at this
set_option maxHeartbeats 16000000 in
set_option maxRecDepth 100000 in
theorem table_any {w : World} {a g : Nat} {h : Value × Value} {L : List (List Int)} (N : Net w a g h L) (kd lim : Int) (A1 : Option Addr) (c1 : Nat) (vars : List Int) (v2 v3 : Value) (A5 : Option Addr) (c5 : Nat) (rows : List (List Int))
    (hC1 : Kd.C (Kd.int .i64) w A1 vars.length vars) (hc1 : vars.length ≤ c1) (hf1 : vars ≠ [] → ∀ ad, A1 = some ad → ad.block ≠ a ∧ ad.block ≠ g)
    (hC5 : Kd.C (Kd.slice 3 (Kd.int .i64)) w A5 rows.length rows) (hc5 : rows.length ≤ c5) (hf5 : ∀ (j : Nat) (ad : Addr) (n c : Nat), j < rows.length → rowV w A5 j = .slice (some ad) n c → 0 < n → ad.block ≠ a ∧ ad.block ≠ g)
    (hv : vars.length ≤ 60) (hrl : rows.length ≤ 200) (hrn : ∀ r ∈ rows, r.length = vars.length) (hin : ∀ v ∈ vars, 0 ≤ v ∧ v < L.length) (hlen : ∀ k, (rd_L1 L k).length ≤ 200) (hL : L.length ≤ 60)
    (sound : List Int → Prop) (hs : ∀ x, sound x → (vars.map fun i => rd x i) ∈ rows) :
    Calls Tryd.prog 107 #[.pointer (some ⟨a, 0, none⟩), .agg #[.int .i64 kd, .slice A1 vars.length c1, v2, v3, .int .i64 lim, .slice A5 rows.length c5]] w fun e w' =>
      ∃ b L', e = .returned (.bool b) ∧ Net w' a g h L' ∧ Fr w w' a g ∧ Red sound L L' b := by
  have hu44 := Tryd.underlying44
  have hu54 := Tryd.underlying54
  have HN := Aside0.mk N
  have HC1 := Aside0.mk hC1
  have HF1 := Aside0.mk hf1
  have HC5 := Aside0.mk hC5
  have HF5 := Aside0.mk hf5
  have HIN := Aside0.mk hin
  have HS := Aside0.mk hs
  have HV := Aside0.mk hv
  have HRL := Aside0.mk hrl
  have HRN := Aside0.mk hrn
  have HLEN := Aside0.mk hlen
  have HLL := Aside0.mk hL
  clear N hC1 hc1 hf1 hC5 hc5 hf5 hin hs hv hrl hrn hlen hL
  go_enter Tryd.func107, Tryd.ntmps107
  go_wp2
  go_loopw [19] (fun v19 wr => ∃ (i : Nat) (v5 : Value) (js : List Nat), i ≤ rows.length ∧ v19 = .int .i64 i ∧
      Aside0 (wr.heap[w.heap.size]? = some (.cells #[.int .i64 kd, .slice A1 vars.length c1, v2, v3, .int .i64 lim, .slice A5 rows.length c5] 44 (0, 0))) ∧
      Aside0 (wr.heap[w.heap.size + 1]? = some (.cells #[v5] 22 (0, 0))) ∧ Aside0 ((kRow w A5).R 26 wr w.heap.size (fun _ => True) v5 js) ∧ Aside0 (∀ j ∈ js, j < rows.length) ∧ Aside0 (js.length ≤ i) ∧
      Aside0 (∀ j : Nat, j < i → RowOk L vars (rd_L1 rows j) → j ∈ js) ∧ Aside0 (Below w.heap.size w wr))
    (fun v19 _ => rows.length - (intOf v19).toNat)
  case atStart =>
    have h2 := blk_new (w.alloc (.cells #[.int .i64 kd, .slice A1 vars.length c1, v2, v3, .int .i64 lim, .slice A5 rows.length c5] 44)) (.cells #[.slice none 0 0] 22)
    rw [show (w.alloc (.cells #[.int .i64 kd, .slice A1 vars.length c1, v2, v3, .int .i64 lim, .slice A5 rows.length c5] 44)).heap.size = w.heap.size + 1 from by simp only [World.alloc, Array.size_push]] at h2
    exact ⟨0, _, [], Nat.zero_le _, rfl, ⟨blk_alloc (blk_new _ _) _⟩, ⟨h2⟩, ⟨Kd.R_nil _ _ _ _ _⟩, ⟨fun j hj => by simp at hj⟩, ⟨Nat.le_refl _⟩, ⟨fun j hj => absurd hj (Nat.not_lt_zero _)⟩, ⟨below_alloc (below_alloc (Below.refl _ _) _) _⟩⟩
  case round =>
    obtain ⟨i, v5, js, hi, rfl, HCON, H5, HR, HJ, HJL, HALL, HB⟩ := hrel
    obtain ⟨w1, rfl⟩ : ∃ w1 : World, w1 = wr := ⟨_, rfl⟩
    have HI := Aside0.mk hi
    by_cases hlt : i < rows.length
    · obtain ⟨ad5, Ar, cr, e5, hrow, erow, hrl1, hCr⟩ := rowV_at HC5.out i hlt
      cases e5
      rw [erow] at hrow
      replace hrow := (HB.out.cell (World.block_lt_of_cell? w _ hrow)).trans hrow
      have hcc1 : w1.cell? ⟨w.heap.size, 1, none⟩ = some (.slice A1 vars.length c1) := by simpa using blk_cell HCON.out 1
      obtain ⟨r, er⟩ : ∃ r, r = rd_L1 rows i := ⟨_, rfl⟩
      rw [← er] at hrow hCr hrl1 erow
      have ER := Aside0.mk er
      have EROW := Aside0.mk erow
      have HCR := Aside0.mk (Kd.C_below hCr HB.out)
      have HRL1 := Aside0.mk hrl1
      have hrlen : r.length = vars.length := HRN.out r (by rw [er, rdL1_get rows i hlt]; exact List.getElem_mem hlt)
      have HRLEN := Aside0.mk hrlen
      have HI' := Aside0.mk hlt
      clear er erow hCr hrl1 hrlen
      go_wp2
      clear hcc1 hrow
      go_loopw [26, 8] (fun v26 v8 wq => ∃ (p : Nat) (b : Bool), p ≤ vars.length ∧ v26 = .int .i64 p ∧ v8 = .bool b ∧ Aside0 (RowOk L vars r → b = true) ∧ Drawn0 w1 wq) (fun v26 _ _ => vars.length - (intOf v26).toNat)
      case atStart => exact ⟨0, true, Nat.zero_le _, rfl, rfl, ⟨fun _ => rfl⟩, Drawn0.refl _⟩
      case round =>
        obtain ⟨p, b, hp, rfl, rfl, HOK, ⟨nq, rfl⟩⟩ := hrel
        by_cases hpl : p < vars.length
        · have hC1w := Kd.C_below HC1.out HB.out
          obtain ⟨ad1, e1, hcv⟩ := Kd.at_int hC1w (p : Int) (by omega) (by omega)
          cases e1
          simp only [Int.toNat_natCast] at hcv
          have hkin := HIN.out (rd vars p) (by rw [rd_in hpl]; exact List.getElem_mem hpl)
          obtain ⟨k, ek⟩ : ∃ k, k = rd vars p := ⟨_, rfl⟩
          rw [← ek] at hcv hkin
          obtain ⟨Aq, capq, A1q, c1q, eblkq, eAq, ecellq, hlq, hCq⟩ := (HN.out.below HB.out).at k hkin.1 hkin.2
          cases eAq
          have hc2q : w1.cell? ⟨a, 2, none⟩ = some (.slice (some ⟨g, 0, none⟩) L.length capq) := by simpa using blk_cell eblkq 2
          obtain ⟨adr, er1, hcr⟩ := Kd.at_int HCR.out (p : Int) (by omega) (by have := HRLEN.out; omega)
          cases er1
          simp only [Int.toNat_natCast] at hcr
          have hcc1 : w1.cell? ⟨w.heap.size, 1, none⟩ = some (.slice (some ad1) vars.length c1) := by simpa using blk_cell HCON.out 1
          have hk0 := eq_true hkin.1
          have hk1 := eq_true hkin.2
          have hp1 : ((p : Int) < (r.length : Int)) = True := eq_true (by have := HRLEN.out; omega)
          have HCQ := Aside0.mk hCq
          have HLQ := Aside0.mk hlq
          have EK := Aside0.mk ek
          have HPL := Aside0.mk hpl
          have HC1W := Aside0.mk hC1w
          clear ek eblkq hlq hCq hkin hC1w
          go_upto_region 9 with fail
          go_cut [8] (fun v8 wc => ∃ b' : Bool, v8 = .bool b' ∧ Aside0 (RowOk L vars r → b' = true) ∧ Drawn0 w1 wc)
          case first =>
            cases b with
            | true =>
              go_quiet ((go_at_call 15; (with_reducible refine (contains_any A1q c1q (rd_L1 L k) (rd r p) _ ?hb HLQ.out (by have := HLEN.out k; omega)).mono ?_); (case hb => (with_reducible repeat (first | apply Kd.C_drewN | apply Kd.C_drew)); exact HCQ.out); rintro e w' ⟨rfl, ⟨nd, rfl⟩⟩; first | exact ⟨rfl, _, World.drewN_drewN _ _ _⟩ | exact ⟨rfl, _, Eq.trans (World.drewN_drewN _ _ _) (congrArg (World.drewN _) (Nat.add_assoc _ _ _))⟩))
              go_wp2
              go_meet
              case rel => exact ⟨_, rfl, ⟨fun h => by have := (h p HPL.out).1; rw [EK.out]; simpa using this⟩, by repeat (first | exact ⟨_, rfl⟩ | exact ⟨_, World.drewN_drewN _ _ _⟩ | apply Drawn0.step)⟩
            | false =>
              go_quiet (fail)
              go_wp2
              go_meet
              case rel => exact ⟨_, rfl, ⟨fun h => by have := HOK.out h; cases this⟩, by repeat (first | exact ⟨_, rfl⟩ | exact ⟨_, World.drewN_drewN _ _ _⟩ | apply Drawn0.step)⟩
          case rest =>
            obtain ⟨b', rfl, HOK', ⟨nq', rfl⟩⟩ := hcut
            clear HOK hc2q ecellq hk0 hk1
            go_wp2
            go_loopw [49, 8] (fun v49 v8 wq => ∃ (j : Nat) (b : Bool), j ≤ vars.length ∧ v49 = .int .i64 j ∧ v8 = .bool b ∧ Aside0 (RowOk L vars r → b = true) ∧ Drawn0 w1 wq) (fun v49 _ _ => vars.length - (intOf v49).toNat)
            case atStart => exact ⟨0, b', Nat.zero_le _, rfl, rfl, HOK', ⟨_, rfl⟩⟩
            case round =>
              obtain ⟨j, bj, hj, rfl, rfl, HOJ, ⟨nj, rfl⟩⟩ := hrel
              by_cases hjl : j < vars.length
              · obtain ⟨_, e2, hcvj⟩ := Kd.at_int HC1W.out (j : Int) (by omega) (by omega)
                cases e2
                obtain ⟨_, e3, hcrj⟩ := Kd.at_int HCR.out (j : Int) (by omega) (by have := HRLEN.out; omega)
                cases e3
                simp only [Int.toNat_natCast] at hcvj hcrj
                have hj1 : ((j : Int) < (r.length : Int)) = True := eq_true (by have := HRLEN.out; omega)
                obtain ⟨o, eo⟩ : ∃ o, o = rd vars j := ⟨_, rfl⟩
                rw [← eo] at hcvj
                have EO := Aside0.mk eo
                have HJL' := Aside0.mk hjl
                have hw : wrap64 ((j : Int) + 1) = ((j + 1 : Nat) : Int) := by have := HV.out; unfold wrap64; omega
                have HW := Aside0.mk hw
                clear eo hw
                cases bj with
                | false =>
                  go_wp2
                  go_quiet (fail)
                  go_wp2
                  have hw := HW.out
                  go_roundw
                  case rel => exact ⟨j + 1, false, by have := HJL'.out; omega, by rw [hw], rfl, ⟨fun h => by have := HOJ.out h; cases this⟩, by repeat (first | exact ⟨_, rfl⟩ | exact ⟨_, World.drewN_drewN _ _ _⟩ | apply Drawn0.step)⟩
                  case measure => rw [hw]; have := HJL'.out; simp [intOf]; omega
                | true =>
                  by_cases hok : o = k
                  · have hob : (o != k) = false := by simp [hok]
                    have HOK2 := Aside0.mk hok
                    clear hok
                    go_wp2
                    go_quiet (fail)
                    go_wp2
                    have hw := HW.out
                    go_roundw
                    case rel => exact ⟨j + 1, _, by have := HJL'.out; omega, by rw [hw], rfl, ⟨fun h => by have := (h p HPL.out).2 j HJL'.out (by rw [← EO.out, ← EK.out]; exact HOK2.out); simp [this]⟩, by repeat (first | exact ⟨_, rfl⟩ | exact ⟨_, World.drewN_drewN _ _ _⟩ | apply Drawn0.step)⟩
                    case measure => rw [hw]; have := HJL'.out; simp [intOf]; omega
                  · have hob : (o != k) = true := by simp [hok]
                    clear hok
                    go_wp2
                    go_quiet (fail)
                    go_wp2
                    have hw := HW.out
                    go_roundw
                    case rel => exact ⟨j + 1, true, by have := HJL'.out; omega, by rw [hw], rfl, ⟨fun h => rfl⟩, by repeat (first | exact ⟨_, rfl⟩ | exact ⟨_, World.drewN_drewN _ _ _⟩ | apply Drawn0.step)⟩
                    case measure => rw [hw]; have := HJL'.out; simp [intOf]; omega
              · go_wp2
                have hw : wrap64 ((p : Int) + 1) = ((p + 1 : Nat) : Int) := by have := HV.out; have := HPL.out; unfold wrap64; omega
                go_roundw
                case rel => exact ⟨p + 1, bj, by have := HPL.out; omega, by rw [hw], rfl, HOJ, by repeat (first | exact ⟨_, rfl⟩ | exact ⟨_, World.drewN_drewN _ _ _⟩ | apply Drawn0.step)⟩
                case measure => rw [hw]; have := HPL.out; simp [intOf]; omega
        · obtain rfl : p = vars.length := by omega
          clear hpl hp
          obtain ⟨Av, cv, rfl⟩ := Kd.R_slice HR.out
          have h5c : w1.cell? ⟨w.heap.size + 1, 0, none⟩ = some (.slice Av js.length cv) := by simpa using blk_cell H5.out 0
          have hw : wrap64 ((i : Int) + 1) = ((i + 1 : Nat) : Int) := by have := HRL.out; have := HI.out; unfold wrap64; omega
          have HW := Aside0.mk hw
          clear hw
          cases b with
          | true =>
            clear HOK
            go_wp2_with ((with_reducible refine gate_builtin (b := .append) (xs := #[.tmp 74, .tmp 76]) rfl ?_); at_builtin; refine Kd.R_append (kRow w (some ad5)) (w0 := w) w.heap.size rfl (.tmp 74) (.tmp 76) 22 26 (.slice none 0 0) 24 rfl Tryd.underlying22 info26 rfl Nat.one_pos (by omega) (.slice Av js.length cv) js i [.slice Ar r.length cr] (fun _ => True) (fun _ => False) rfl rfl ?aP (fun _ hk => hk.elim) ?aF ?aO ?aB ?aS ?aL ?_; (case aP => exact (by rw [← EROW.out]; rfl)); (case aB => exact (by repeat (first | exact HB.out | apply below_alloc | apply below_drew | apply pw_below_drewN))); (case aF => exact (fun _ _ => trivial)); (case aO => exact (by (with_reducible repeat (first | apply Kd.R_alloc | apply Kd.R_drewN | apply Kd.R_drew)); exact HR.out)); (case aS => exact (below_size (by repeat (first | exact HB.out | apply below_alloc | apply below_drew | apply pw_below_drewN)))); (case aL => have := HJL.out; have := HRL.out; have := HI.out; omega); intro v1 w3 ho hb hg hat; obtain ⟨Av1, cv1, rfl⟩ := Kd.R_slice ho; have HR3 := Aside0.mk ho; have HB3 := Aside0.mk hb; have H53 := Aside0.mk (blk_grown (blk_drewN H5.out nq) hg (Kd.R_ne (Kd.R_drewN HR.out nq) (blk_drewN H5.out nq) (by decide))); have HC3 := Aside0.mk (blk_grown (blk_drewN HCON.out nq) hg (Kd.R_ne (Kd.R_drewN HR.out nq) (blk_drewN HCON.out nq) (by decide))); clear ho hb hg hat h5c; have h5c : w3.cell? ⟨w.heap.size + 1, 0, none⟩ = some (.slice Av js.length cv) := (by simpa using blk_cell H53.out 0); have h5f := blk_frozen H53.out 0)
            clear h5c
            have hw := HW.out
            go_roundw
            case rel =>
              refine ⟨i + 1, .slice Av1 (js.length + 1) cv1, js ++ [i], by have := HI'.out; omega, by rw [hw], ⟨?_⟩, ⟨?_⟩, ⟨?_⟩, ⟨?_⟩, ⟨?_⟩, ⟨?_⟩, ⟨?_⟩⟩
              · exact blk_far HC3.out (p := ⟨w.heap.size + 1, 0, none⟩) (by show w.heap.size ≠ w.heap.size + 1; omega) _
              · exact blk_put H53.out 0 _ rfl
              · have h3 := HR3.out
                rw [List.length_append, List.length_singleton] at h3
                exact Kd.R_set h3 H53.out (by intro q hq; have e : q = 26 := (by simpa [kRow, Kd.scalar] using hq); rw [e]; decide) 0 _
              · intro j hj
                rcases List.mem_append.1 hj with hj | hj
                · exact HJ.out j hj
                · rw [List.mem_singleton.1 hj]; exact HI'.out
              · rw [List.length_append, List.length_singleton]; have := HJL.out; omega
              · intro j hj hok
                by_cases e : j = i
                · subst e; exact List.mem_append_right _ (List.mem_singleton.2 rfl)
                · exact List.mem_append_left _ (HALL.out j (by omega) hok)
              · exact below_set HB3.out (by omega)
            case measure => rw [hw]; have := HI'.out; simp [intOf]; omega
          | false =>
            go_wp2
            have hw := HW.out
            go_roundw
            case rel =>
              refine ⟨i + 1, _, js, by have := HI'.out; omega, by rw [hw], ⟨HCON.out⟩, ⟨H5.out⟩, ⟨Kd.R_drewN HR.out _⟩, HJ, ⟨by have := HJL.out; omega⟩, ⟨fun j hj hok => ?_⟩, ⟨pw_below_drewN HB.out _⟩⟩
              by_cases e : j = i
              · rw [e, ← ER.out] at hok
                have := HOK.out hok; cases this
              · exact HALL.out j (by omega) hok
            case measure => rw [hw]; have := HI'.out; simp [intOf]; omega
    · obtain rfl : i = rows.length := by omega
      clear hlt hi
      obtain ⟨Av, cv, rfl⟩ := Kd.R_slice HR.out
      obtain ⟨live, elive⟩ : ∃ live, live = js.map fun (j : Nat) => rd_L1 rows j := ⟨_, rfl⟩
      have hll : js.length = live.length := by rw [elive, List.length_map]
      have HLIVE : Aside0 (∀ W, Fr w1 W a g → live.length ≤ cv ∧ Kd.C (Kd.slice 3 (Kd.int .i64)) W Av live.length live) := by
        refine ⟨fun W hF => ?_⟩
        obtain ⟨_, hcl, hCl⟩ := Kd.R_reads' HR.out
        refine ⟨by omega, ?_⟩
        have hbb : ∀ ad, Av = some ad → ad.block ≠ a ∧ ad.block ≠ g := by
          intro ad e
          have h1 := Kd.R_base HR.out ad.block (by rw [e]; simp [Value.ownBlock])
          have := HN.out.lt
          have := HN.out.gl
          exact ⟨by omega, by omega⟩
        rw [elive]
        exact rows_read HC5.out (fun B1 xs hB ⟨j, hj, c1, ej⟩ => C_fr ((Fr.of_below HB.out a g).trans hF (.inl rfl)) hB (fun hne ad e => HF5.out j ad xs.length c1 hj (by rw [ej, e]) (List.length_pos_iff.2 hne))) HJ.out (CS_fr hF hCl hbb)
      have HLV := Aside0.mk (show ∀ x, sound x → (∀ i : Nat, i < L.length → rd x i ∈ rd_L1 L i) → (vars.map fun i => rd x i) ∈ live by
        intro x hx hin
        obtain ⟨j, hj, ej⟩ := List.mem_iff_getElem.1 (HS.out x hx)
        rw [elive, List.mem_map]
        have e1 : rd_L1 rows j = vars.map fun i => rd x i := by rw [rdL1_get rows j hj, ej]
        exact ⟨j, HALL.out j hj (by rw [e1]; exact row_ok HIN.out hin), e1⟩)
      have HLR := Aside0.mk (show ∀ r ∈ live, r.length = vars.length by
        intro r hr
        rw [elive, List.mem_map] at hr
        obtain ⟨j, hj, rfl⟩ := hr
        exact HRN.out _ (by rw [rdL1_get rows j (HJ.out j hj)]; exact List.getElem_mem _))
      have HLLN := Aside0.mk (show live.length ≤ 200 by have := HJL.out; have := HRL.out; omega)
      have H5' := Aside0.mk (show w1.heap[w.heap.size + 1]? = some (.cells #[.slice Av live.length cv] 22 (0, 0)) by rw [← hll]; exact H5.out)
      clear hll elive HR H5
      have hcc1 : w1.cell? ⟨w.heap.size, 1, none⟩ = some (.slice A1 vars.length c1) := by simpa using blk_cell HCON.out 1
      go_wp2
      clear hcc1
      go_loopw [82, 13] (fun v82 v13 wr => ∃ (i : Nat) (b : Bool) (Lk : List (List Int)), i ≤ vars.length ∧ v82 = .int .i64 i ∧ v13 = .bool b ∧
          Aside0 (wr.heap[w.heap.size]? = some (.cells #[.int .i64 kd, .slice A1 vars.length c1, v2, v3, .int .i64 lim, .slice A5 rows.length c5] 44 (0, 0))) ∧
          Aside0 (wr.heap[w.heap.size + 1]? = some (.cells #[.slice Av live.length cv] 22 (0, 0))) ∧ Aside0 (Net wr a g h Lk) ∧ Aside0 (Fr w1 wr a g) ∧ Aside0 (Red sound L Lk b))
        (fun v82 _ _ => vars.length - (intOf v82).toNat)
      case atStart => exact ⟨0, false, L, Nat.zero_le _, rfl, rfl, HCON, H5', ⟨HN.out.below HB.out⟩, ⟨Fr.refl _ _ _⟩, ⟨Red.refl _ _⟩⟩
      case round =>
        obtain ⟨i, b, Lk, hi, rfl, rfl, HCON2, H52, HNk, HFR, HRED⟩ := hrel
        obtain ⟨w2, rfl⟩ : ∃ w2 : World, w2 = wr := ⟨_, rfl⟩
        by_cases hlt : i < vars.length
        · have hC12 := C_fr HFR.out (Kd.C_below HC1.out HB.out) HF1.out
          obtain ⟨ad1, e1, hcv⟩ := Kd.at_int hC12 (i : Int) (by omega) (by omega)
          cases e1
          simp only [Int.toNat_natCast] at hcv
          have hkin := HIN.out (rd vars i) (by rw [rd_in hlt]; exact List.getElem_mem hlt)
          obtain ⟨k, ek⟩ : ∃ k, k = rd vars i := ⟨_, rfl⟩
          rw [← ek] at hcv hkin
          have hLk := HRED.out.len
          have N1 := HNk.out.below (below_alloc (Below.refl _ w2) (.cells #[.int .i64 i] 3))
          have hlv := HLIVE.out w2 HFR.out
          have hl5 : (w2.alloc (.cells #[.int .i64 i] 3)).cell? ⟨w.heap.size + 1, 0, none⟩ = some (.slice Av live.length cv) := by simpa using blk_cell (blk_alloc H52.out (.cells #[.int .i64 i] 3)) 0
          have hci : (w2.alloc (.cells #[.int .i64 i] 3)).cell? ⟨w2.heap.size, 0, none⟩ = some (.int .i64 i) := by simp
          obtain ⟨bb, L2, hK, R, hq⟩ := keep_step N1 k hkin.1 (by omega) 108 #[.pointer (some ⟨w.heap.size + 1, 0, none⟩), .pointer (some ⟨w2.heap.size, 0, none⟩)] (fun v => live.any fun r => rd r i == v) (HRED.out.lens HLEN.out) (enters_ Tryd.func108 (by kernel_rfl) (by kernel_rfl))
            (fun v W hv hW => tab1_any (w.heap.size + 1) w2.heap.size v i Av cv live ((hW.cell (World.block_lt_of_cell? _ _ hl5)).trans hl5) hlv.1 (Kd.C_below (Kd.C_alloc hlv.2 _) hW) ((hW.cell (World.block_lt_of_cell? _ _ hci)).trans hci) HLLN.out (by omega) (fun r hr => by rw [HLR.out r hr]; omega)) sound (fun x hx hin => by
              rw [List.any_eq_true]
              refine ⟨_, HLV.out x hx (fun m hm => (HRED.out.sub m hm).subset (hin m (by rw [hLk]; exact hm))), ?_⟩
              rw [ek, rd_in (show i < (vars.map fun i => rd x i).length by simp; omega), rd_in hlt]; simp)
          have HK := Aside0.mk hK
          have HR2 := Aside0.mk R
          have HI' := Aside0.mk hlt
          have HWB := Aside0.mk (show wrap64 ((i : Int) + 1) = ((i + 1 : Nat) : Int) by have := HV.out; unfold wrap64; omega)
          have HLne := Aside0.mk (show L ≠ [] by intro e; rw [e] at hkin; simp at hkin; omega)
          clear hK R hq ek hkin hLk N1 hlv hl5 hci hC12 hi
          cases bb with
          | true =>
            go_wp2_with (go_at_call 104; (with_reducible refine (HK.out _ ?hb).mono ?_); (case hb => repeat (first | exact Below.refl _ _ | apply below_drew | apply pw_below_drewN)); rintro e w3 ⟨rfl, hn, hf⟩; have HN3 := Aside0.mk hn; have HF3 := Aside0.mk hf; clear hn hf)
            have hw := HWB.out
            go_roundw
            case rel =>
              have hFF := (Fr.of_below (below_alloc (Below.refl _ w2) (.cells #[.int .i64 i] 3)) a g).trans HF3.out (.inl rfl)
              refine ⟨i + 1, true, L2, by have := HI'.out; omega, by rw [hw], rfl, ⟨(hFF.block _ (blk_lt HCON2.out) (by have := HN.out.lt; omega) (by have := HN.out.hg HLne.out; omega)).trans HCON2.out⟩, ⟨(hFF.block _ (blk_lt H52.out) (by have := HN.out.lt; omega) (by have := HN.out.hg HLne.out; omega)).trans H52.out⟩, HN3, ⟨HFR.out.trans hFF (.inl rfl)⟩, ⟨by have := HRED.out.trans HR2.out; simpa using this⟩⟩
            case measure => rw [hw]; have := HI'.out; simp [intOf]; omega
          | false =>
            go_wp2_with (go_at_call 104; (with_reducible refine (HK.out _ ?hb).mono ?_); (case hb => repeat (first | exact Below.refl _ _ | apply below_drew | apply pw_below_drewN)); rintro e w3 ⟨rfl, hn, hf⟩; have HN3 := Aside0.mk hn; have HF3 := Aside0.mk hf; clear hn hf)
            have hw := HWB.out
            go_roundw
            case rel =>
              have hFF := (Fr.of_below (below_alloc (Below.refl _ w2) (.cells #[.int .i64 i] 3)) a g).trans HF3.out (.inl rfl)
              refine ⟨i + 1, b, L2, by have := HI'.out; omega, by rw [hw], rfl, ⟨(hFF.block _ (blk_lt HCON2.out) (by have := HN.out.lt; omega) (by have := HN.out.hg HLne.out; omega)).trans HCON2.out⟩, ⟨(hFF.block _ (blk_lt H52.out) (by have := HN.out.lt; omega) (by have := HN.out.hg HLne.out; omega)).trans H52.out⟩, HN3, ⟨HFR.out.trans hFF (.inl rfl)⟩, ⟨by have := HRED.out.trans HR2.out; simpa using this⟩⟩
            case measure => rw [hw]; have := HI'.out; simp [intOf]; omega
        · obtain rfl : i = vars.length := by omega
          go_wp2
          go_ret
          exact ⟨b, Lk, rfl, HNk.out, (Fr.of_below HB.out a g).trans HFR.out (.inl rfl), HRED.out⟩
end Go.Proofs.YtehekppkicjimaaDoor.QFK
