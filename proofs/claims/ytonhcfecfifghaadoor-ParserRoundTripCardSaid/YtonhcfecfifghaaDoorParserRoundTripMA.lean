/- Part A of the proof of ParserRoundTrip: the contracts of the functions that the law reaches, and what their plain functions compute. No condition. -/
import Derived.Test.YtonhcfecfifghaaDoorCoreA
import Derived.Test.YtonhcfecfifghaaDoorCoreB
import Derived.Test.YtonhcfecfifghaaDoorCoreC
import Derived.Test.YtonhcfecfifghaaDoorCoreD
import Derived.ChangeArms
import Derived.OpenShut
import Derived.DataReads
import Derived.Test.YtonhcfecfifghaaDoorRows
import Derived.Test.YtonhcfecfifghaaDoorCards
import Derived.Test.YtonhcfecfifghaaDoorTie
import Derived.WalkKit
import Derived.ProofKit
import Derived.ShutString
import Derived.ChangeOld
import Derived.Below
import Derived.SizedLaws
import Derived.LaidMore
import Derived.Stop.Joined
import Derived.SevenTiedAt
import Derived.Test.YtonhcfecfifghaaDoorWTab
namespace Go.Proofs.YtonhcfecfifghaaDoor.PPx
open Go.RowKit Go.Proofs.YtonhcfecfifghaaDoorW.PrintWords Go.Proofs.YtonhcfecfifghaaDoorW.PrintLast Go.Proofs.YtonhcfecfifghaaDoorW.PrintMore
set_option linter.unusedVariables false
set_option linter.unusedSimpArgs false
mutual
def ambidexterref11_Count.l0 : Nat → List (S55) → Int → Int → Option (Int)
  | 0, _, _, _ => none
  | k + 1, x0, x3, x4 => if x4 < (x0.length : Int) then (if 0 ≤ x4 then ((ambidexterref11_Count.f k ((rd_T55 x0 x4).f6)).bind fun t184 => (ambidexterref11_Count.l0 k x0 (wrap64 (x3 + t184)) (wrap64 (x4 + 1)))) else (none)) else (some x3)
def ambidexterref11_Count.f : Nat → List (S55) → Option (Int)
  | 0, _ => none
  | k + 1, l0 => ambidexterref11_Count.l0 k l0 (l0.length : Int) 0
end
theorem ambidexterref11_Count.mono_l : ∀ k, (∀ y0, LeO (ambidexterref11_Count.f k y0) (ambidexterref11_Count.f (k + 1) y0)) ∧ (∀ y0 y1 y2, LeO (ambidexterref11_Count.l0 k y0 y1 y2) (ambidexterref11_Count.l0 (k + 1) y0 y1 y2))
  | 0 => ⟨fun _ r h => by simp [ambidexterref11_Count.f] at h, fun _ _ _ r h => by simp [ambidexterref11_Count.l0] at h⟩
  | k + 1 => by
    obtain ⟨ih0, ih1⟩ := ambidexterref11_Count.mono_l k
    refine ⟨?_, ?_⟩
    · intro y0
      unfold ambidexterref11_Count.f
      repeat' first
      | (with_reducible exact ih0 _)
      | (with_reducible exact ih1 _ _ _)
      | (with_reducible exact LeO.refl _)
      | (with_reducible exact LeO.none _)
      | (with_reducible refine LeO.ite ?_ ?_)
      | (with_reducible refine LeO.bind ?_ (fun _ => ?_))
      | exact ih0 _
      | exact ih1 _ _ _
      | exact LeO.none _
      | refine LeO.ite ?_ ?_
      | refine LeO.bind ?_ (fun _ => ?_)
    · intro y0 y1 y2
      unfold ambidexterref11_Count.l0
      repeat' first
      | (with_reducible exact ih0 _)
      | (with_reducible exact ih1 _ _ _)
      | (with_reducible exact LeO.refl _)
      | (with_reducible exact LeO.none _)
      | (with_reducible refine LeO.ite ?_ ?_)
      | (with_reducible refine LeO.bind ?_ (fun _ => ?_))
      | exact ih0 _
      | exact ih1 _ _ _
      | exact LeO.none _
      | refine LeO.ite ?_ ?_
      | refine LeO.bind ?_ (fun _ => ?_)
theorem ambidexterref11_Count.mono : ∀ a0 k, LeO (ambidexterref11_Count.f k a0) (ambidexterref11_Count.f (k + 1) a0) := by
  intro a0 k
  obtain ⟨ih0, ih1⟩ := ambidexterref11_Count.mono_l k
  exact ih0 a0
set_option maxHeartbeats 8000000 in
set_option maxRecDepth 100000 in
theorem ambidexterref11_Count.calls (k : Nat) : ∀ (A0 : Option Addr) (c0 : Nat) (l0 : List (S55)) (r : Int) (w : World) (hr0 : Kd.C k55 w A0 l0.length l0) (hc0 : l0.length ≤ c0) (h : ambidexterref11_Count.f k l0 = some r),
    Calls Tryd.prog 16 #[.slice A0 l0.length c0] w fun e w' => e = .returned (.int .i64 r) ∧ Drawn0 w w' := by
  induction k using Nat.strongRecOn with
  | _ k ih =>
  intro A0 c0 l0 r w hr0 hc0 h
  cases k with
  | zero => exact absurd h (by simp [ambidexterref11_Count.f])
  | succ k =>
  simp only [ambidexterref11_Count.f] at h
  have HR0 := Aside0.mk hr0
  have HC0 := Aside0.mk hc0
  clear hr0 hc0
  have H : (ambidexterref11_Count.l0 k l0 (l0.length : Int) 0) = some r := h
  clear h
  have H' := Aside0.mk H
  clear H
  go_enter Tryd.func16, Tryd.ntmps16
  go_wp2
  go_loopg [3, 4] k (fun kq v3 v4 w' => ∃ (x3_1 : Int) (x4_1 : Int), v3 = .int .i64 x3_1 ∧ v4 = .int .i64 x4_1 ∧ Aside0 (ambidexterref11_Count.l0 kq l0 x3_1 x4_1 = some r) ∧ Aside0 (kq ≤ k) ∧ Drawn0 w w')
  case atStart => exact ⟨((l0.length : Int)), (0), (by first | rfl | (simp; done) | (simp [*]; done)), (by first | rfl | (simp; done) | (simp [*]; done)), H', ⟨Nat.le_refl _⟩, by repeat (first | exact Drawn0.refl _ | apply Drawn0.step)⟩
  case round =>
    clear H'
    try clear c1
    obtain ⟨x3_1, x4_1, rfl, rfl, HA, HK1, ⟨m1, rfl⟩⟩ := hrel
    cases gk with
    | zero => exact absurd HA.out (by simp [ambidexterref11_Count.l0])
    | succ k1 =>
      have H := HA.out
      clear HA
      simp only [ambidexterref11_Count.l0] at H
      by_cases c2 : x4_1 < (l0.length : Int)
      · rw [if_pos c2] at H
        have c2b0 : decide (x4_1 < (l0.length : Int)) = true := decide_eq_true c2
        clear c2
        by_cases c3 : 0 ≤ x4_1
        · rw [if_pos c3] at H
          have c3b0 : decide (0 ≤ x4_1) = true := decide_eq_true c3
          clear c3
          replace H := Option.bind_eq_some_iff.mp H
          obtain ⟨t184, A40, H⟩ := H
          replace H : (ambidexterref11_Count.l0 k1 l0 (wrap64 (x3_1 + t184)) (wrap64 (x4_1 + 1))) = some r := H
          have A4 := Aside0.mk A40
          clear A40
          have H' := Aside0.mk H
          clear H
          have p183 : 0 ≤ (x4_1 : Int) := of_decide_eq_true (by first | (with_reducible assumption) | assumption)
          have q183 : x4_1 < (l0.length : Int) := of_decide_eq_true (by first | (with_reducible assumption) | assumption)
          obtain ⟨ad183, A183_11, c183_11, e183, hx183_0, hx183_1, hx183_2, hx183_3, hx183_4, hx183_5, hx183_6, hx183_7, hx183_8, hx183_9, hx183_10, hx183_11, hx183_12, hl183_11, hi183_11⟩ := at_T55 HR0.out x4_1 p183 q183
          cases e183
          have HR183_11 := Aside0.mk hi183_11
          have HC183_11 := Aside0.mk hl183_11
          clear hi183_11 hl183_11
          replace p183 := eq_true p183
          replace q183 := eq_true q183
          go_wp2_with (first | ((with_reducible refine gate_callee (f := 16) rfl ?_); refine goesL_ (some 19) rfl rfl Tryd.func16 (by kernel_rfl) rfl #[.slice A183_11 ((rd_T55 l0 x4_1).f6).length c183_11] rfl (by (try simp only [List.map_toArray, List.map_cons, List.map_nil]); first | done | rfl | (simp only [List.length_drop, List.length_take]; rfl)) ?_; (with_reducible refine (ih k1 (by have := HK1.out; omega) _ _ ((rd_T55 l0 x4_1).f6) t184 _ ?side1 ?side2 A4.out).mono ?_); (case side1 => repeat (first | exact HR183_11.out | (with_reducible refine Kd.C_alloc ?_ _) | (with_reducible refine Kd.C_drewN ?_ _) | (with_reducible refine Kd.C_drew ?_))); (case side2 => exact HC183_11.out); rintro e w' ⟨rfl, ⟨nd, rfl⟩⟩; refine ⟨_, rfl, ?_⟩))
          go_roundg k1
          case measure => have := HK1.out; omega
          case rel => exact ⟨(wrap64 (x3_1 + t184)), (wrap64 (x4_1 + 1)), (by first | rfl | (simp; done) | (simp [*]; done)), (by first | rfl | (simp; done) | (simp [*]; done)), H', ⟨by have := HK1.out; omega⟩, by repeat (first | exact Drawn0.refl _ | apply Drawn0.step)⟩
        · rw [if_neg c3] at H
          exact absurd H (by simp)
      · rw [if_neg c2] at H
        have c2b0 : decide (x4_1 < (l0.length : Int)) = false := decide_eq_false c2
        clear c2
        obtain rfl := Option.some.inj H
        go_wp2
        go_ret
        exact ⟨by first | rfl | (simp; done) | (simp [*]; done), by repeat (first | exact Drawn0.refl _ | apply Drawn0.step)⟩
end Go.Proofs.YtonhcfecfifghaaDoor.PPx
namespace Go.Proofs.YtonhcfecfifghaaDoor.PPx
open Go.RowKit Go.Proofs.YtonhcfecfifghaaDoorW.PrintWords Go.Proofs.YtonhcfecfifghaaDoorW.PrintLast Go.Proofs.YtonhcfecfifghaaDoorW.PrintMore
set_option linter.unusedVariables false
set_option linter.unusedSimpArgs false
mutual
def ambidexterlaw11_Few.j0 : Nat → List (S55) → Int → Bool → Option (Bool)
  | 0, _, _, _ => none
  | k + 1, x0, x1, x12 => if x12 = true then (some false) else (ambidexterlaw11_Few.l0 k x0 x1 0)
def ambidexterlaw11_Few.l0 : Nat → List (S55) → Int → Int → Option (Bool)
  | 0, _, _, _ => none
  | k + 1, x0, x1, x5 => if x5 < (x0.length : Int) then (if 0 ≤ x5 then (if (wrap64 ((((rd_T55 x0 x5).f2).size : Int) + (((rd_T55 x0 x5).f3).size : Int))) > 200 then (some false) else ((ambidexterlaw11_Few.f k ((rd_T55 x0 x5).f6) (wrap64 (x1 + 1))).bind fun t188 => (if t188 = true then (ambidexterlaw11_Few.l0 k x0 x1 (wrap64 (x5 + 1))) else (some false)))) else (none)) else (if x1 > 0 then (some true) else ((ambidexterref11_Count.f k x0).bind fun t189 => (some (decide (t189 ≤ 100)))))
def ambidexterlaw11_Few.f : Nat → List (S55) → Int → Option (Bool)
  | 0, _, _ => none
  | k + 1, l0, a1 => if a1 > 8 then (ambidexterlaw11_Few.j0 k l0 a1 true) else (ambidexterlaw11_Few.j0 k l0 a1 (decide ((l0.length : Int) > 100)))
end
theorem ambidexterlaw11_Few.mono_l : ∀ k, (∀ y0 y1, LeO (ambidexterlaw11_Few.f k y0 y1) (ambidexterlaw11_Few.f (k + 1) y0 y1)) ∧ (∀ y0 y1 y2, LeO (ambidexterlaw11_Few.j0 k y0 y1 y2) (ambidexterlaw11_Few.j0 (k + 1) y0 y1 y2)) ∧ (∀ y0 y1 y2, LeO (ambidexterlaw11_Few.l0 k y0 y1 y2) (ambidexterlaw11_Few.l0 (k + 1) y0 y1 y2))
  | 0 => ⟨fun _ _ r h => by simp [ambidexterlaw11_Few.f] at h, fun _ _ _ r h => by simp [ambidexterlaw11_Few.j0] at h, fun _ _ _ r h => by simp [ambidexterlaw11_Few.l0] at h⟩
  | k + 1 => by
    obtain ⟨ih0, ih1, ih2⟩ := ambidexterlaw11_Few.mono_l k
    refine ⟨?_, ?_, ?_⟩
    · intro y0 y1
      unfold ambidexterlaw11_Few.f
      repeat' first
      | (with_reducible exact ih0 _ _)
      | (with_reducible exact ih1 _ _ _)
      | (with_reducible exact ih2 _ _ _)
      | (with_reducible exact ambidexterref11_Count.mono _ _)
      | (with_reducible exact LeO.refl _)
      | (with_reducible exact LeO.none _)
      | (with_reducible refine LeO.ite ?_ ?_)
      | (with_reducible refine LeO.bind ?_ (fun _ => ?_))
      | exact ih0 _ _
      | exact ih1 _ _ _
      | exact ih2 _ _ _
      | exact ambidexterref11_Count.mono _ _
      | exact LeO.none _
      | refine LeO.ite ?_ ?_
      | refine LeO.bind ?_ (fun _ => ?_)
    · intro y0 y1 y2
      unfold ambidexterlaw11_Few.j0
      repeat' first
      | (with_reducible exact ih0 _ _)
      | (with_reducible exact ih1 _ _ _)
      | (with_reducible exact ih2 _ _ _)
      | (with_reducible exact ambidexterref11_Count.mono _ _)
      | (with_reducible exact LeO.refl _)
      | (with_reducible exact LeO.none _)
      | (with_reducible refine LeO.ite ?_ ?_)
      | (with_reducible refine LeO.bind ?_ (fun _ => ?_))
      | exact ih0 _ _
      | exact ih1 _ _ _
      | exact ih2 _ _ _
      | exact ambidexterref11_Count.mono _ _
      | exact LeO.none _
      | refine LeO.ite ?_ ?_
      | refine LeO.bind ?_ (fun _ => ?_)
    · intro y0 y1 y2
      unfold ambidexterlaw11_Few.l0
      repeat' first
      | (with_reducible exact ih0 _ _)
      | (with_reducible exact ih1 _ _ _)
      | (with_reducible exact ih2 _ _ _)
      | (with_reducible exact ambidexterref11_Count.mono _ _)
      | (with_reducible exact LeO.refl _)
      | (with_reducible exact LeO.none _)
      | (with_reducible refine LeO.ite ?_ ?_)
      | (with_reducible refine LeO.bind ?_ (fun _ => ?_))
      | exact ih0 _ _
      | exact ih1 _ _ _
      | exact ih2 _ _ _
      | exact ambidexterref11_Count.mono _ _
      | exact LeO.none _
      | refine LeO.ite ?_ ?_
      | refine LeO.bind ?_ (fun _ => ?_)
theorem ambidexterlaw11_Few.mono : ∀ a0 a1 k, LeO (ambidexterlaw11_Few.f k a0 a1) (ambidexterlaw11_Few.f (k + 1) a0 a1) := by
  intro a0 a1 k
  obtain ⟨ih0, ih1, ih2⟩ := ambidexterlaw11_Few.mono_l k
  exact ih0 a0 a1
def ambidexterlaw11_Few.T6 : Bool × List (List Nat × List Nat) := (true, [([], []), ([], []), ([0, 1], [0, 1]), ([2], [2]), ([3], [3]), ([4], [4]), ([], []), ([], []), ([6, 7], [6, 7]), ([8], [8]), ([9], [9]), ([10], [10]), ([5, 11], [5, 11]), ([12], [12]), ([13], [13]), ([14], [14]), ([14], [14]), ([15, 16, 14], [14, 15, 16]), ([17, 14], [14, 17]), ([18, 14], [14, 18]), ([14], [14]), ([20, 14], [14, 20]), ([19, 21, 14, 14], [14, 19, 21]), ([22, 14], [14, 22]), ([14, 23], [14, 23])])
def ambidexterlaw11_Few.B6 : List Nat := [0, 0, 3, 7, 15, 31, 0, 0, 192, 448, 960, 1984, 4095, 8191, 16383, 32767, 32767, 131071, 262143, 524287, 32767, 1081343, 4194303, 8388607, 16777215]
theorem ambidexterlaw11_Few.tab6 : rtab .any (opsOf Tryd.f10 6) = ambidexterlaw11_Few.T6 := by kernel_rfl
theorem ambidexterlaw11_Few.bits6 : waitsOk ambidexterlaw11_Few.T6.2 ambidexterlaw11_Few.B6 = true := by kernel_rfl
set_option maxHeartbeats 8000000 in
set_option maxRecDepth 100000 in
theorem ambidexterlaw11_Few.calls (k : Nat) : ∀ (A0 : Option Addr) (c0 : Nat) (l0 : List (S55)) (a1 : Int) (r : Bool) (w : World) (hr0 : Kd.C k55 w A0 l0.length l0) (hc0 : l0.length ≤ c0) (h : ambidexterlaw11_Few.f k l0 a1 = some r),
    Calls Tryd.prog 10 #[.slice A0 l0.length c0, .int .i64 a1] w fun e w' => e = .returned (.bool r) ∧ Below w.heap.size w w' := by
  induction k using Nat.strongRecOn with
  | _ k ih =>
  intro A0 c0 l0 a1 r w hr0 hc0 h
  cases k with
  | zero => exact absurd h (by simp [ambidexterlaw11_Few.f])
  | succ k =>
  simp only [ambidexterlaw11_Few.f] at h
  have HR0 := Aside0.mk hr0
  have HC0 := Aside0.mk hc0
  clear hr0 hc0
  have HB := Aside0.mk (Below.refl w.heap.size w)
  have H : (if a1 > 8 then (ambidexterlaw11_Few.j0 k l0 a1 true) else (ambidexterlaw11_Few.j0 k l0 a1 (decide ((l0.length : Int) > 100)))) = some r := h
  clear h
  have HC3 := Aside0.mk H
  clear H
  go_enter Tryd.func10, Tryd.ntmps10
  go_upto_region 1 with (fail)
  go_cut [12] (fun v12 wc => ∃ (kq : Nat) (x12_2 : Bool), v12 = .bool x12_2 ∧ Aside0 (ambidexterlaw11_Few.j0 kq l0 a1 x12_2 = some r) ∧ Aside0 (kq ≤ k) ∧ Aside0 (Below w.heap.size w wc))
  case first =>
    have H := HC3.out
    clear HC3
    by_cases c4 : a1 > 8
    · rw [if_pos c4] at H
      have c4b0 : decide (8 < a1) = true := decide_eq_true c4
      clear c4
      (first | rw [c4b0] | (simp only [i64_w, i32_w]; rw [c4b0]) | skip)
      have H' := Aside0.mk H
      clear H
      go_wp2
      go_meet
      case rel => exact ⟨_, (true), (by first | rfl | (simp; done) | (simp [*]; done)), H', ⟨by first | omega | exact Nat.le_refl _⟩, ⟨by repeat (first | (with_reducible first | exact HB.out | apply below_alloc | apply pw_below_drewN | apply below_drew1) | exact HB.out)⟩⟩
    · rw [if_neg c4] at H
      have c4b0 : decide (8 < a1) = false := decide_eq_false c4
      clear c4
      (first | rw [c4b0] | (simp only [i64_w, i32_w]; rw [c4b0]) | skip)
      have H' := Aside0.mk H
      clear H
      go_wp2
      go_meet
      case rel => exact ⟨_, (decide ((l0.length : Int) > 100)), (by first | rfl | (simp; done) | (simp [*]; done)), H', ⟨by first | omega | exact Nat.le_refl _⟩, ⟨by repeat (first | (with_reducible first | exact HB.out | apply below_alloc | apply pw_below_drewN | apply below_drew1) | exact HB.out)⟩⟩
  case rest =>
    clear HC3
    try clear c1
    try clear p2
    try clear c4
    try clear c4b0
    obtain ⟨kq, x12_2, rfl, HA, HJ2, HB⟩ := hcut
    cases kq with
    | zero => exact absurd HA.out (by simp [ambidexterlaw11_Few.j0])
    | succ kj2 =>
      have H := HA.out
      clear HA
      simp only [ambidexterlaw11_Few.j0] at H
      by_cases c5 : x12_2 = true
      · subst c5
        have H1 : (some false) = some r := by rw [if_pos rfl] at H; exact H
        clear H
        have H := H1
        clear H1
        obtain rfl := Option.some.inj H
        go_wp2
        go_ret
        exact ⟨by first | rfl | (simp [errW_none, errW_some] <;> rfl) | (simp [*, errW_none, errW_some] <;> rfl), by repeat (first | (with_reducible first | exact HB.out | apply below_alloc | apply pw_below_drewN | apply below_drew1) | exact HB.out)⟩
      · replace c5 := Bool.eq_false_iff.mpr c5
        subst c5
        have H1 : (ambidexterlaw11_Few.l0 kj2 l0 a1 0) = some r := by rw [if_neg (show ¬ (false = true) by decide)] at H; exact H
        clear H
        have H := H1
        clear H1
        have H' := Aside0.mk H
        clear H
        go_wp2
        go_loopg [5] kj2 (fun kq v5 w' => ∃ (x5_2 : Int), v5 = .int .i64 x5_2 ∧ Aside0 (ambidexterlaw11_Few.l0 kq l0 a1 x5_2 = some r) ∧ Aside0 (kq ≤ kj2) ∧ Aside0 (Below w.heap.size w w'))
        case atStart => exact ⟨(0), (by first | rfl | (simp; done) | (simp [*]; done)), H', ⟨Nat.le_refl _⟩, ⟨by repeat (first | (with_reducible first | exact HB.out | apply below_alloc | apply pw_below_drewN | apply below_drew1) | exact HB.out)⟩⟩
        case round =>
          clear H'
          try clear c1
          try clear p2
          try clear c4
          try clear c4b0
          try clear c5
          try clear p2
          obtain ⟨x5_2, rfl, HA, HK2, HB⟩ := hrel
          cases gk with
          | zero => exact absurd HA.out (by simp [ambidexterlaw11_Few.l0])
          | succ k2 =>
            have H := HA.out
            clear HA
            simp only [ambidexterlaw11_Few.l0] at H
            by_cases c6 : x5_2 < (l0.length : Int)
            · rw [if_pos c6] at H
              have c6b0 : decide (x5_2 < (l0.length : Int)) = true := decide_eq_true c6
              clear c6
              by_cases c7 : 0 ≤ x5_2
              · rw [if_pos c7] at H
                have c7b0 : decide (0 ≤ x5_2) = true := decide_eq_true c7
                clear c7
                by_cases c8 : (wrap64 ((((rd_T55 l0 x5_2).f2).size : Int) + (((rd_T55 l0 x5_2).f3).size : Int))) > 200
                · rw [if_pos c8] at H
                  have c8b0 : decide (200 < (wrap64 ((((rd_T55 l0 x5_2).f2).size : Int) + (((rd_T55 l0 x5_2).f3).size : Int)))) = true := decide_eq_true c8
                  clear c8
                  obtain rfl := Option.some.inj H
                  try go_wp2
                  have n0_ := Aside0.mk (below_drew1 HB.out)
                  clear HB
                  have HB := n0_
                  clear n0_
                  have p185 : 0 ≤ (x5_2 : Int) := of_decide_eq_true (by first | (with_reducible assumption) | assumption)
                  have q185 : x5_2 < (l0.length : Int) := of_decide_eq_true (by first | (with_reducible assumption) | assumption)
                  obtain ⟨ad185, A185_11, c185_11, e185, hx185_0, hx185_1, hx185_2, hx185_3, hx185_4, hx185_5, hx185_6, hx185_7, hx185_8, hx185_9, hx185_10, hx185_11, hx185_12, hl185_11, hi185_11⟩ := at_T55 HR0.out x5_2 p185 q185
                  have hw185_12 := hx185_12
                  have hw185_11 := hx185_11
                  have hw185_10 := hx185_10
                  have hw185_9 := hx185_9
                  have hw185_8 := hx185_8
                  have hw185_7 := hx185_7
                  have hw185_6 := hx185_6
                  have hw185_5 := hx185_5
                  have hw185_4 := hx185_4
                  have hw185_3 := hx185_3
                  have hw185_2 := hx185_2
                  have hw185_1 := hx185_1
                  have hw185_0 := hx185_0
                  cases e185
                  replace hx185_0 := (HB.out.cell (World.block_lt_of_cell? w _ hx185_0)).trans hx185_0
                  replace hx185_1 := (HB.out.cell (World.block_lt_of_cell? w _ hx185_1)).trans hx185_1
                  replace hx185_2 := (HB.out.cell (World.block_lt_of_cell? w _ hx185_2)).trans hx185_2
                  replace hx185_3 := (HB.out.cell (World.block_lt_of_cell? w _ hx185_3)).trans hx185_3
                  replace hx185_4 := (HB.out.cell (World.block_lt_of_cell? w _ hx185_4)).trans hx185_4
                  replace hx185_5 := (HB.out.cell (World.block_lt_of_cell? w _ hx185_5)).trans hx185_5
                  replace hx185_6 := (HB.out.cell (World.block_lt_of_cell? w _ hx185_6)).trans hx185_6
                  replace hx185_7 := (HB.out.cell (World.block_lt_of_cell? w _ hx185_7)).trans hx185_7
                  replace hx185_8 := (HB.out.cell (World.block_lt_of_cell? w _ hx185_8)).trans hx185_8
                  replace hx185_9 := (HB.out.cell (World.block_lt_of_cell? w _ hx185_9)).trans hx185_9
                  replace hx185_10 := (HB.out.cell (World.block_lt_of_cell? w _ hx185_10)).trans hx185_10
                  replace hx185_11 := (HB.out.cell (World.block_lt_of_cell? w _ hx185_11)).trans hx185_11
                  replace hx185_12 := (HB.out.cell (World.block_lt_of_cell? w _ hx185_12)).trans hx185_12
                  have HR185_11 := Aside0.mk hi185_11
                  have HC185_11 := Aside0.mk hl185_11
                  clear hi185_11 hl185_11
                  replace p185 := eq_true p185
                  replace q185 := eq_true q185
                  have p186 : 0 ≤ (x5_2 : Int) := of_decide_eq_true (by first | (with_reducible assumption) | assumption)
                  have q186 : x5_2 < (l0.length : Int) := of_decide_eq_true (by first | (with_reducible assumption) | assumption)
                  obtain ⟨ad186, A186_11, c186_11, e186, hx186_0, hx186_1, hx186_2, hx186_3, hx186_4, hx186_5, hx186_6, hx186_7, hx186_8, hx186_9, hx186_10, hx186_11, hx186_12, hl186_11, hi186_11⟩ := at_T55 HR0.out x5_2 p186 q186
                  have hw186_12 := hx186_12
                  have hw186_11 := hx186_11
                  have hw186_10 := hx186_10
                  have hw186_9 := hx186_9
                  have hw186_8 := hx186_8
                  have hw186_7 := hx186_7
                  have hw186_6 := hx186_6
                  have hw186_5 := hx186_5
                  have hw186_4 := hx186_4
                  have hw186_3 := hx186_3
                  have hw186_2 := hx186_2
                  have hw186_1 := hx186_1
                  have hw186_0 := hx186_0
                  obtain rfl : ad185 = ad186 := (by injection e186)
                  replace hx186_0 := (HB.out.cell (World.block_lt_of_cell? w _ hx186_0)).trans hx186_0
                  replace hx186_1 := (HB.out.cell (World.block_lt_of_cell? w _ hx186_1)).trans hx186_1
                  replace hx186_2 := (HB.out.cell (World.block_lt_of_cell? w _ hx186_2)).trans hx186_2
                  replace hx186_3 := (HB.out.cell (World.block_lt_of_cell? w _ hx186_3)).trans hx186_3
                  replace hx186_4 := (HB.out.cell (World.block_lt_of_cell? w _ hx186_4)).trans hx186_4
                  replace hx186_5 := (HB.out.cell (World.block_lt_of_cell? w _ hx186_5)).trans hx186_5
                  replace hx186_6 := (HB.out.cell (World.block_lt_of_cell? w _ hx186_6)).trans hx186_6
                  replace hx186_7 := (HB.out.cell (World.block_lt_of_cell? w _ hx186_7)).trans hx186_7
                  replace hx186_8 := (HB.out.cell (World.block_lt_of_cell? w _ hx186_8)).trans hx186_8
                  replace hx186_9 := (HB.out.cell (World.block_lt_of_cell? w _ hx186_9)).trans hx186_9
                  replace hx186_10 := (HB.out.cell (World.block_lt_of_cell? w _ hx186_10)).trans hx186_10
                  replace hx186_11 := (HB.out.cell (World.block_lt_of_cell? w _ hx186_11)).trans hx186_11
                  replace hx186_12 := (HB.out.cell (World.block_lt_of_cell? w _ hx186_12)).trans hx186_12
                  have HR186_11 := Aside0.mk hi186_11
                  have HC186_11 := Aside0.mk hl186_11
                  clear hi186_11 hl186_11
                  replace p186 := eq_true p186
                  replace q186 := eq_true q186
                  have ea_ := Option.some.inj (hx185_11.symm.trans hx186_11)
                  injection ea_ with ea_ en_ ec_
                  subst ea_
                  subst ec_
                  clear en_
                  refine start_ (n := 25) (S := fun w' => w'.cell? (ad185.add ((x5_2).toNat * 13)) = some (.int .i64 ((rd_T55 l0 x5_2).f0)) ∧ w'.cell? ⟨(ad185.add ((x5_2).toNat * 13)).block, (ad185.add ((x5_2).toNat * 13)).off + 1, none⟩ = some (.int .i64 ((rd_T55 l0 x5_2).f1)) ∧ w'.cell? ⟨(ad185.add ((x5_2).toNat * 13)).block, (ad185.add ((x5_2).toNat * 13)).off + 2, none⟩ = some (.string ((rd_T55 l0 x5_2).f2)) ∧ w'.cell? ⟨(ad185.add ((x5_2).toNat * 13)).block, (ad185.add ((x5_2).toNat * 13)).off + 3, none⟩ = some (.string ((rd_T55 l0 x5_2).f3)) ∧ w'.cell? ⟨(ad185.add ((x5_2).toNat * 13)).block, (ad185.add ((x5_2).toNat * 13)).off + 4, none⟩ = some (.int .i64 ((rd_T55 l0 x5_2).f4)) ∧ w'.cell? ⟨(ad185.add ((x5_2).toNat * 13)).block, (ad185.add ((x5_2).toNat * 13)).off + 5, none⟩ = some (.int .i64 ((rd_T55 l0 x5_2).f5.f0.f0)) ∧ w'.cell? ⟨(ad185.add ((x5_2).toNat * 13)).block, (ad185.add ((x5_2).toNat * 13)).off + 6, none⟩ = some (.int .i64 ((rd_T55 l0 x5_2).f5.f0.f1)) ∧ w'.cell? ⟨(ad185.add ((x5_2).toNat * 13)).block, (ad185.add ((x5_2).toNat * 13)).off + 7, none⟩ = some (.int .i64 ((rd_T55 l0 x5_2).f5.f0.f2)) ∧ w'.cell? ⟨(ad185.add ((x5_2).toNat * 13)).block, (ad185.add ((x5_2).toNat * 13)).off + 8, none⟩ = some (.int .i64 ((rd_T55 l0 x5_2).f5.f1.f0)) ∧ w'.cell? ⟨(ad185.add ((x5_2).toNat * 13)).block, (ad185.add ((x5_2).toNat * 13)).off + 9, none⟩ = some (.int .i64 ((rd_T55 l0 x5_2).f5.f1.f1)) ∧ w'.cell? ⟨(ad185.add ((x5_2).toNat * 13)).block, (ad185.add ((x5_2).toNat * 13)).off + 10, none⟩ = some (.int .i64 ((rd_T55 l0 x5_2).f5.f1.f2)) ∧ w'.cell? ⟨(ad185.add ((x5_2).toNat * 13)).block, (ad185.add ((x5_2).toNat * 13)).off + 11, none⟩ = some (.slice A185_11 ((rd_T55 l0 x5_2).f6).length c185_11) ∧ w'.cell? ⟨(ad185.add ((x5_2).toNat * 13)).block, (ad185.add ((x5_2).toNat * 13)).off + 12, none⟩ = some (.int .i64 ((rd_T55 l0 x5_2).f7)) ∧ w'.cell? (ad185.add ((x5_2).toNat * 13)) = some (.int .i64 ((rd_T55 l0 x5_2).f0)) ∧ w'.cell? ⟨(ad185.add ((x5_2).toNat * 13)).block, (ad185.add ((x5_2).toNat * 13)).off + 1, none⟩ = some (.int .i64 ((rd_T55 l0 x5_2).f1)) ∧ w'.cell? ⟨(ad185.add ((x5_2).toNat * 13)).block, (ad185.add ((x5_2).toNat * 13)).off + 2, none⟩ = some (.string ((rd_T55 l0 x5_2).f2)) ∧ w'.cell? ⟨(ad185.add ((x5_2).toNat * 13)).block, (ad185.add ((x5_2).toNat * 13)).off + 3, none⟩ = some (.string ((rd_T55 l0 x5_2).f3)) ∧ w'.cell? ⟨(ad185.add ((x5_2).toNat * 13)).block, (ad185.add ((x5_2).toNat * 13)).off + 4, none⟩ = some (.int .i64 ((rd_T55 l0 x5_2).f4)) ∧ w'.cell? ⟨(ad185.add ((x5_2).toNat * 13)).block, (ad185.add ((x5_2).toNat * 13)).off + 5, none⟩ = some (.int .i64 ((rd_T55 l0 x5_2).f5.f0.f0)) ∧ w'.cell? ⟨(ad185.add ((x5_2).toNat * 13)).block, (ad185.add ((x5_2).toNat * 13)).off + 6, none⟩ = some (.int .i64 ((rd_T55 l0 x5_2).f5.f0.f1)) ∧ w'.cell? ⟨(ad185.add ((x5_2).toNat * 13)).block, (ad185.add ((x5_2).toNat * 13)).off + 7, none⟩ = some (.int .i64 ((rd_T55 l0 x5_2).f5.f0.f2)) ∧ w'.cell? ⟨(ad185.add ((x5_2).toNat * 13)).block, (ad185.add ((x5_2).toNat * 13)).off + 8, none⟩ = some (.int .i64 ((rd_T55 l0 x5_2).f5.f1.f0)) ∧ w'.cell? ⟨(ad185.add ((x5_2).toNat * 13)).block, (ad185.add ((x5_2).toNat * 13)).off + 9, none⟩ = some (.int .i64 ((rd_T55 l0 x5_2).f5.f1.f1)) ∧ w'.cell? ⟨(ad185.add ((x5_2).toNat * 13)).block, (ad185.add ((x5_2).toNat * 13)).off + 10, none⟩ = some (.int .i64 ((rd_T55 l0 x5_2).f5.f1.f2)) ∧ w'.cell? ⟨(ad185.add ((x5_2).toNat * 13)).block, (ad185.add ((x5_2).toNat * 13)).off + 11, none⟩ = some (.slice A185_11 ((rd_T55 l0 x5_2).f6).length c185_11) ∧ w'.cell? ⟨(ad185.add ((x5_2).toNat * 13)).block, (ad185.add ((x5_2).toNat * 13)).off + 12, none⟩ = some (.int .i64 ((rd_T55 l0 x5_2).f7))) (ds := []) #[false, false, false, false, false, false, false, false, false, false, false, false, false, false, false, false, false, false, false, false, false, false, false, false, false] (by kernel_rfl) rfl rfl ⟨((HB.out.cell (World.block_lt_of_cell? w _ hw185_0)).trans hw185_0), ((HB.out.cell (World.block_lt_of_cell? w _ hw185_1)).trans hw185_1), ((HB.out.cell (World.block_lt_of_cell? w _ hw185_2)).trans hw185_2), ((HB.out.cell (World.block_lt_of_cell? w _ hw185_3)).trans hw185_3), ((HB.out.cell (World.block_lt_of_cell? w _ hw185_4)).trans hw185_4), ((HB.out.cell (World.block_lt_of_cell? w _ hw185_5)).trans hw185_5), ((HB.out.cell (World.block_lt_of_cell? w _ hw185_6)).trans hw185_6), ((HB.out.cell (World.block_lt_of_cell? w _ hw185_7)).trans hw185_7), ((HB.out.cell (World.block_lt_of_cell? w _ hw185_8)).trans hw185_8), ((HB.out.cell (World.block_lt_of_cell? w _ hw185_9)).trans hw185_9), ((HB.out.cell (World.block_lt_of_cell? w _ hw185_10)).trans hw185_10), ((HB.out.cell (World.block_lt_of_cell? w _ hw185_11)).trans hw185_11), ((HB.out.cell (World.block_lt_of_cell? w _ hw185_12)).trans hw185_12), ((HB.out.cell (World.block_lt_of_cell? w _ hw186_0)).trans hw186_0), ((HB.out.cell (World.block_lt_of_cell? w _ hw186_1)).trans hw186_1), ((HB.out.cell (World.block_lt_of_cell? w _ hw186_2)).trans hw186_2), ((HB.out.cell (World.block_lt_of_cell? w _ hw186_3)).trans hw186_3), ((HB.out.cell (World.block_lt_of_cell? w _ hw186_4)).trans hw186_4), ((HB.out.cell (World.block_lt_of_cell? w _ hw186_5)).trans hw186_5), ((HB.out.cell (World.block_lt_of_cell? w _ hw186_6)).trans hw186_6), ((HB.out.cell (World.block_lt_of_cell? w _ hw186_7)).trans hw186_7), ((HB.out.cell (World.block_lt_of_cell? w _ hw186_8)).trans hw186_8), ((HB.out.cell (World.block_lt_of_cell? w _ hw186_9)).trans hw186_9), ((HB.out.cell (World.block_lt_of_cell? w _ hw186_10)).trans hw186_10), ((HB.out.cell (World.block_lt_of_cell? w _ hw186_11)).trans hw186_11), ((HB.out.cell (World.block_lt_of_cell? w _ hw186_12)).trans hw186_12)⟩ (fun hHeld => ?_); refine with_tabW ambidexterlaw11_Few.tab6 ambidexterlaw11_Few.bits6 (fun HT_ HW_ => ?_)
                  generalize wr.drew = w9 at HB HR185_11 HR186_11 hx185_0 hx185_1 hx185_10 hx185_11 hx185_12 hx185_2 hx185_3 hx185_4 hx185_5 hx185_6 hx185_7 hx185_8 hx185_9 hx186_0 hx186_1 hx186_10 hx186_11 hx186_12 hx186_2 hx186_3 hx186_4 hx186_5 hx186_6 hx186_7 hx186_8 hx186_9 hHeld ⊢
                  refine pure_ (i := 0) (N := some 19) (v := ?_) (a' := ?_) #[true, false, false, false, false, false, false, false, false, false, false, false, false, false, false, false, false, false, false, false, false, false, false, false, false] rfl rfl (any_of HT_.out (by kernel_rfl)) (fun _ _ _ h => h) (Or.inl ⟨by rfl, ?_⟩) ?_ ?_
                  rotate_left
                  · intro w'
                    go_simp
                    with_reducible rfl
                  rotate_left
                  · simp only [Act.put, List.setIfInBounds_toArray, List.set_cons_zero, List.set_cons_succ, i64_w, i32_w]
                    rfl
                  refine pure_ (i := 1) (N := some 20) (v := ?_) (a' := ?_) #[true, true, false, false, false, false, false, false, false, false, false, false, false, false, false, false, false, false, false, false, false, false, false, false, false] rfl rfl (any_of HT_.out (by kernel_rfl)) (fun _ _ _ h => h) (Or.inl ⟨by rfl, ?_⟩) ?_ ?_
                  rotate_left
                  · intro w'
                    go_simp
                    with_reducible rfl
                  rotate_left
                  · simp only [Act.put, List.setIfInBounds_toArray, List.set_cons_zero, List.set_cons_succ, i64_w, i32_w]
                    rfl
                  refine pure_ (i := 2) (N := some 21) (v := ?_) (a' := ?_) #[true, true, true, false, false, false, false, false, false, false, false, false, false, false, false, false, false, false, false, false, false, false, false, false, false] rfl rfl (any_of HT_.out (by kernel_rfl)) (fun _ _ _ h => h) (Or.inl ⟨by rfl, ?_⟩) ?_ ?_
                  rotate_left
                  · intro w'
                    go_simp
                    with_reducible rfl
                  rotate_left
                  · simp only [Act.put, List.setIfInBounds_toArray, List.set_cons_zero, List.set_cons_succ, i64_w, i32_w]
                    rfl
                  refine pure_ (i := 3) (N := some 22) (v := ?_) (a' := ?_) #[true, true, true, true, false, false, false, false, false, false, false, false, false, false, false, false, false, false, false, false, false, false, false, false, false] rfl rfl (any_of HT_.out (by kernel_rfl)) (fun _ _ _ h => h) (Or.inl ⟨by rfl, ?_⟩) ?_ ?_
                  rotate_left
                  · intro w'
                    go_simp
                    with_reducible rfl
                  rotate_left
                  · simp only [Act.put, List.setIfInBounds_toArray, List.set_cons_zero, List.set_cons_succ, i64_w, i32_w]
                    rfl
                  refine pure_ (i := 6) (N := some 25) (v := ?_) (a' := ?_) #[true, true, true, true, false, false, true, false, false, false, false, false, false, false, false, false, false, false, false, false, false, false, false, false, false] rfl rfl (any_of HT_.out (by kernel_rfl)) (fun _ _ _ h => h) (Or.inl ⟨by rfl, ?_⟩) ?_ ?_
                  rotate_left
                  · intro w'
                    go_simp
                    with_reducible rfl
                  rotate_left
                  · simp only [Act.put, List.setIfInBounds_toArray, List.set_cons_zero, List.set_cons_succ, i64_w, i32_w]
                    rfl
                  refine pure_ (i := 7) (N := some 26) (v := ?_) (a' := ?_) #[true, true, true, true, false, false, true, true, false, false, false, false, false, false, false, false, false, false, false, false, false, false, false, false, false] rfl rfl (any_of HT_.out (by kernel_rfl)) (fun _ _ _ h => h) (Or.inl ⟨by rfl, ?_⟩) ?_ ?_
                  rotate_left
                  · intro w'
                    go_simp
                    with_reducible rfl
                  rotate_left
                  · simp only [Act.put, List.setIfInBounds_toArray, List.set_cons_zero, List.set_cons_succ, i64_w, i32_w]
                    rfl
                  refine pure_ (i := 8) (N := some 27) (v := ?_) (a' := ?_) #[true, true, true, true, false, false, true, true, true, false, false, false, false, false, false, false, false, false, false, false, false, false, false, false, false] rfl rfl (any_of HT_.out (by kernel_rfl)) (fun _ _ _ h => h) (Or.inl ⟨by rfl, ?_⟩) ?_ ?_
                  rotate_left
                  · intro w'
                    go_simp
                    with_reducible rfl
                  rotate_left
                  · simp only [Act.put, List.setIfInBounds_toArray, List.set_cons_zero, List.set_cons_succ, i64_w, i32_w]
                    rfl
                  refine pure_ (i := 9) (N := some 28) (v := ?_) (a' := ?_) #[true, true, true, true, false, false, true, true, true, true, false, false, false, false, false, false, false, false, false, false, false, false, false, false, false] rfl rfl (any_of HT_.out (by kernel_rfl)) (fun _ _ _ h => h) (Or.inl ⟨by rfl, ?_⟩) ?_ ?_
                  rotate_left
                  · intro w'
                    go_simp
                    with_reducible rfl
                  rotate_left
                  · simp only [Act.put, List.setIfInBounds_toArray, List.set_cons_zero, List.set_cons_succ, i64_w, i32_w]
                    rfl
                  refine take_ (i := 4) (N := some 23) (v := ?_) (a' := ?_) #[true, true, true, true, true, false, true, true, true, true, false, false, false, false, false, false, false, false, false, false, false, false, false, false, false] rfl rfl (take_ofW HT_.out HW_.out (by kernel_rfl)) (fun _ _ _ h => h) (Or.inl ⟨by rfl, ?_⟩) hHeld ?_ ?_
                  rotate_left
                  · rintro w' ⟨s0, s1, s2, s3, s4, s5, s6, s7, s8, s9, s10, s11, s12, s13, s14, s15, s16, s17, s18, s19, s20, s21, s22, s23, s24, s25⟩
                    go_simp
                    with_reducible rfl
                  rotate_left
                  · simp only [Act.put, List.setIfInBounds_toArray, List.set_cons_zero, List.set_cons_succ, i64_w, i32_w]
                    rfl
                  refine pure_ (i := 5) (N := some 24) (v := ?_) (a' := ?_) #[true, true, true, true, true, true, true, true, true, true, false, false, false, false, false, false, false, false, false, false, false, false, false, false, false] rfl rfl (any_of HT_.out (by kernel_rfl)) (fun _ _ _ h => h) (Or.inl ⟨by rfl, ?_⟩) ?_ ?_
                  rotate_left
                  · intro w'
                    go_simp
                    with_reducible rfl
                  rotate_left
                  · simp only [Act.put, List.setIfInBounds_toArray, List.set_cons_zero, List.set_cons_succ, i64_w, i32_w]
                    rfl
                  refine take_ (i := 10) (N := some 29) (v := ?_) (a' := ?_) #[true, true, true, true, true, true, true, true, true, true, true, false, false, false, false, false, false, false, false, false, false, false, false, false, false] rfl rfl (take_ofW HT_.out HW_.out (by kernel_rfl)) (fun _ _ _ h => h) (Or.inl ⟨by rfl, ?_⟩) hHeld ?_ ?_
                  rotate_left
                  · rintro w' ⟨s0, s1, s2, s3, s4, s5, s6, s7, s8, s9, s10, s11, s12, s13, s14, s15, s16, s17, s18, s19, s20, s21, s22, s23, s24, s25⟩
                    go_simp
                    with_reducible rfl
                  rotate_left
                  · simp only [Act.put, List.setIfInBounds_toArray, List.set_cons_zero, List.set_cons_succ, i64_w, i32_w]
                    rfl
                  refine pure_ (i := 11) (N := some 30) (v := ?_) (a' := ?_) #[true, true, true, true, true, true, true, true, true, true, true, true, false, false, false, false, false, false, false, false, false, false, false, false, false] rfl rfl (any_of HT_.out (by kernel_rfl)) (fun _ _ _ h => h) (Or.inl ⟨by rfl, ?_⟩) ?_ ?_
                  rotate_left
                  · intro w'
                    go_simp
                    with_reducible rfl
                  rotate_left
                  · simp only [Act.put, List.setIfInBounds_toArray, List.set_cons_zero, List.set_cons_succ, i64_w, i32_w]
                    rfl
                  refine pure_ (i := 12) (N := some 31) (v := ?_) (a' := ?_) #[true, true, true, true, true, true, true, true, true, true, true, true, true, false, false, false, false, false, false, false, false, false, false, false, false] rfl rfl (any_of HT_.out (by kernel_rfl)) (fun _ _ _ h => h) (Or.inl ⟨by rfl, ?_⟩) ?_ ?_
                  rotate_left
                  · intro w'
                    go_simp
                    with_reducible rfl
                  rotate_left
                  · simp only [Act.put, List.setIfInBounds_toArray, List.set_cons_zero, List.set_cons_succ, i64_w, i32_w]
                    rfl
                  refine pure_ (i := 13) (N := some 32) (v := ?_) (a' := ?_) #[true, true, true, true, true, true, true, true, true, true, true, true, true, true, false, false, false, false, false, false, false, false, false, false, false] rfl rfl (any_of HT_.out (by kernel_rfl)) (fun _ _ _ h => h) (Or.inl ⟨by rfl, ?_⟩) ?_ ?_
                  rotate_left
                  · intro w'
                    go_simp
                    with_reducible rfl
                  rotate_left
                  · simp only [Act.put, List.setIfInBounds_toArray, List.set_cons_zero, List.set_cons_succ, i64_w, i32_w]
                    rfl
                  refine pure_ (i := 14) (N := some 33) (v := ?_) (a' := ?_) #[true, true, true, true, true, true, true, true, true, true, true, true, true, true, true, false, false, false, false, false, false, false, false, false, false] rfl rfl (any_of HT_.out (by kernel_rfl)) (fun _ _ _ h => h) (Or.inl ⟨by rfl, ?_⟩) ?_ ?_
                  rotate_left
                  · intro w'
                    go_simp
                    with_reducible rfl
                  rotate_left
                  · simp only [Act.put, List.setIfInBounds_toArray, List.set_cons_zero, List.set_cons_succ, i64_w, i32_w]
                    rfl
                  refine pure_ (i := 15) (N := some 34) (v := undef) (a' := ?_) #[true, true, true, true, true, true, true, true, true, true, true, true, true, true, true, true, false, false, false, false, false, false, false, false, false] rfl rfl (any_of HT_.out (by kernel_rfl)) (fun _ _ _ h => h) (Or.inr ⟨by rfl, rfl⟩) ?_ ?_
                  rotate_left
                  · simp only [Act.put, List.setIfInBounds_toArray, List.set_cons_zero, List.set_cons_succ, i64_w, i32_w]
                    rfl
                  refine pure_ (i := 16) (N := some 35) (v := undef) (a' := ?_) #[true, true, true, true, true, true, true, true, true, true, true, true, true, true, true, true, true, false, false, false, false, false, false, false, false] rfl rfl (any_of HT_.out (by kernel_rfl)) (fun _ _ _ h => h) (Or.inr ⟨by rfl, rfl⟩) ?_ ?_
                  rotate_left
                  · simp only [Act.put, List.setIfInBounds_toArray, List.set_cons_zero, List.set_cons_succ, i64_w, i32_w]
                    rfl
                  refine pure_ (i := 17) (N := some 36) (v := undef) (a' := ?_) #[true, true, true, true, true, true, true, true, true, true, true, true, true, true, true, true, true, true, false, false, false, false, false, false, false] rfl rfl (any_of HT_.out (by kernel_rfl)) (fun _ _ _ h => h) (Or.inr ⟨by rfl, rfl⟩) ?_ ?_
                  rotate_left
                  · simp only [Act.put, List.setIfInBounds_toArray, List.set_cons_zero, List.set_cons_succ, i64_w, i32_w]
                    rfl
                  refine pure_ (i := 18) (N := some 37) (v := undef) (a' := ?_) #[true, true, true, true, true, true, true, true, true, true, true, true, true, true, true, true, true, true, true, false, false, false, false, false, false] rfl rfl (any_of HT_.out (by kernel_rfl)) (fun _ _ _ h => h) (Or.inr ⟨by rfl, rfl⟩) ?_ ?_
                  rotate_left
                  · simp only [Act.put, List.setIfInBounds_toArray, List.set_cons_zero, List.set_cons_succ, i64_w, i32_w]
                    rfl
                  refine pure_ (i := 19) (N := some 38) (v := undef) (a' := ?_) #[true, true, true, true, true, true, true, true, true, true, true, true, true, true, true, true, true, true, true, true, false, false, false, false, false] rfl rfl (any_of HT_.out (by kernel_rfl)) (fun _ _ _ h => h) (Or.inr ⟨by rfl, rfl⟩) ?_ ?_
                  rotate_left
                  · simp only [Act.put, List.setIfInBounds_toArray, List.set_cons_zero, List.set_cons_succ, i64_w, i32_w]
                    rfl
                  refine pure_ (i := 20) (N := some 39) (v := undef) (a' := ?_) #[true, true, true, true, true, true, true, true, true, true, true, true, true, true, true, true, true, true, true, true, true, false, false, false, false] rfl rfl (any_of HT_.out (by kernel_rfl)) (fun _ _ _ h => h) (Or.inr ⟨by rfl, rfl⟩) ?_ ?_
                  rotate_left
                  · simp only [Act.put, List.setIfInBounds_toArray, List.set_cons_zero, List.set_cons_succ, i64_w, i32_w]
                    rfl
                  refine pure_ (i := 21) (N := some 40) (v := undef) (a' := ?_) #[true, true, true, true, true, true, true, true, true, true, true, true, true, true, true, true, true, true, true, true, true, true, false, false, false] rfl rfl (any_of HT_.out (by kernel_rfl)) (fun _ _ _ h => h) (Or.inr ⟨by rfl, rfl⟩) ?_ ?_
                  rotate_left
                  · simp only [Act.put, List.setIfInBounds_toArray, List.set_cons_zero, List.set_cons_succ, i64_w, i32_w]
                    rfl
                  refine pure_ (i := 22) (N := some 41) (v := undef) (a' := ?_) #[true, true, true, true, true, true, true, true, true, true, true, true, true, true, true, true, true, true, true, true, true, true, true, false, false] rfl rfl (any_of HT_.out (by kernel_rfl)) (fun _ _ _ h => h) (Or.inr ⟨by rfl, rfl⟩) ?_ ?_
                  rotate_left
                  · simp only [Act.put, List.setIfInBounds_toArray, List.set_cons_zero, List.set_cons_succ, i64_w, i32_w]
                    rfl
                  refine pure_ (i := 23) (N := some 42) (v := undef) (a' := ?_) #[true, true, true, true, true, true, true, true, true, true, true, true, true, true, true, true, true, true, true, true, true, true, true, true, false] rfl rfl (any_of HT_.out (by kernel_rfl)) (fun _ _ _ h => h) (Or.inr ⟨by rfl, rfl⟩) ?_ ?_
                  rotate_left
                  · simp only [Act.put, List.setIfInBounds_toArray, List.set_cons_zero, List.set_cons_succ, i64_w, i32_w]
                    rfl
                  refine pure_ (i := 24) (N := some 43) (v := ?_) (a' := ?_) #[true, true, true, true, true, true, true, true, true, true, true, true, true, true, true, true, true, true, true, true, true, true, true, true, true] rfl rfl (any_of HT_.out (by kernel_rfl)) (fun _ _ _ h => h) (Or.inl ⟨by rfl, ?_⟩) ?_ ?_
                  rotate_left
                  · intro w'
                    go_simp
                    with_reducible rfl
                  rotate_left
                  · simp only [Act.put, List.setIfInBounds_toArray, List.set_cons_zero, List.set_cons_succ, i64_w, i32_w]
                    rfl
                  refine done_ (done_of HT_.out (by kernel_rfl)) ?_
                  try go_wp2
                  go_ret
                  exact ⟨by first | rfl | (simp [errW_none, errW_some] <;> rfl) | (simp [*, errW_none, errW_some] <;> rfl), by repeat (first | (with_reducible first | exact HB.out | apply below_alloc | apply pw_below_drewN | apply below_drew1) | exact HB.out)⟩
                · rw [if_neg c8] at H
                  have c8b0 : decide (200 < (wrap64 ((((rd_T55 l0 x5_2).f2).size : Int) + (((rd_T55 l0 x5_2).f3).size : Int)))) = false := decide_eq_false c8
                  clear c8
                  replace H := Option.bind_eq_some_iff.mp H
                  obtain ⟨t188, A100, H⟩ := H
                  replace H : (if t188 = true then (ambidexterlaw11_Few.l0 k2 l0 a1 (wrap64 (x5_2 + 1))) else (some false)) = some r := H
                  have A10 := Aside0.mk A100
                  clear A100
                  by_cases c11 : t188 = true
                  · subst c11
                    have H1 : (ambidexterlaw11_Few.l0 k2 l0 a1 (wrap64 (x5_2 + 1))) = some r := by rw [if_pos rfl] at H; exact H
                    clear H
                    have H := H1
                    clear H1
                    have H' := Aside0.mk H
                    clear H
                    try go_wp2
                    have n0_ := Aside0.mk (below_drew1 HB.out)
                    clear HB
                    have HB := n0_
                    clear n0_
                    have p185 : 0 ≤ (x5_2 : Int) := of_decide_eq_true (by first | (with_reducible assumption) | assumption)
                    have q185 : x5_2 < (l0.length : Int) := of_decide_eq_true (by first | (with_reducible assumption) | assumption)
                    obtain ⟨ad185, A185_11, c185_11, e185, hx185_0, hx185_1, hx185_2, hx185_3, hx185_4, hx185_5, hx185_6, hx185_7, hx185_8, hx185_9, hx185_10, hx185_11, hx185_12, hl185_11, hi185_11⟩ := at_T55 HR0.out x5_2 p185 q185
                    have hw185_12 := hx185_12
                    have hw185_11 := hx185_11
                    have hw185_10 := hx185_10
                    have hw185_9 := hx185_9
                    have hw185_8 := hx185_8
                    have hw185_7 := hx185_7
                    have hw185_6 := hx185_6
                    have hw185_5 := hx185_5
                    have hw185_4 := hx185_4
                    have hw185_3 := hx185_3
                    have hw185_2 := hx185_2
                    have hw185_1 := hx185_1
                    have hw185_0 := hx185_0
                    cases e185
                    replace hx185_0 := (HB.out.cell (World.block_lt_of_cell? w _ hx185_0)).trans hx185_0
                    replace hx185_1 := (HB.out.cell (World.block_lt_of_cell? w _ hx185_1)).trans hx185_1
                    replace hx185_2 := (HB.out.cell (World.block_lt_of_cell? w _ hx185_2)).trans hx185_2
                    replace hx185_3 := (HB.out.cell (World.block_lt_of_cell? w _ hx185_3)).trans hx185_3
                    replace hx185_4 := (HB.out.cell (World.block_lt_of_cell? w _ hx185_4)).trans hx185_4
                    replace hx185_5 := (HB.out.cell (World.block_lt_of_cell? w _ hx185_5)).trans hx185_5
                    replace hx185_6 := (HB.out.cell (World.block_lt_of_cell? w _ hx185_6)).trans hx185_6
                    replace hx185_7 := (HB.out.cell (World.block_lt_of_cell? w _ hx185_7)).trans hx185_7
                    replace hx185_8 := (HB.out.cell (World.block_lt_of_cell? w _ hx185_8)).trans hx185_8
                    replace hx185_9 := (HB.out.cell (World.block_lt_of_cell? w _ hx185_9)).trans hx185_9
                    replace hx185_10 := (HB.out.cell (World.block_lt_of_cell? w _ hx185_10)).trans hx185_10
                    replace hx185_11 := (HB.out.cell (World.block_lt_of_cell? w _ hx185_11)).trans hx185_11
                    replace hx185_12 := (HB.out.cell (World.block_lt_of_cell? w _ hx185_12)).trans hx185_12
                    have HR185_11 := Aside0.mk hi185_11
                    have HC185_11 := Aside0.mk hl185_11
                    clear hi185_11 hl185_11
                    replace p185 := eq_true p185
                    replace q185 := eq_true q185
                    have p186 : 0 ≤ (x5_2 : Int) := of_decide_eq_true (by first | (with_reducible assumption) | assumption)
                    have q186 : x5_2 < (l0.length : Int) := of_decide_eq_true (by first | (with_reducible assumption) | assumption)
                    obtain ⟨ad186, A186_11, c186_11, e186, hx186_0, hx186_1, hx186_2, hx186_3, hx186_4, hx186_5, hx186_6, hx186_7, hx186_8, hx186_9, hx186_10, hx186_11, hx186_12, hl186_11, hi186_11⟩ := at_T55 HR0.out x5_2 p186 q186
                    have hw186_12 := hx186_12
                    have hw186_11 := hx186_11
                    have hw186_10 := hx186_10
                    have hw186_9 := hx186_9
                    have hw186_8 := hx186_8
                    have hw186_7 := hx186_7
                    have hw186_6 := hx186_6
                    have hw186_5 := hx186_5
                    have hw186_4 := hx186_4
                    have hw186_3 := hx186_3
                    have hw186_2 := hx186_2
                    have hw186_1 := hx186_1
                    have hw186_0 := hx186_0
                    obtain rfl : ad185 = ad186 := (by injection e186)
                    replace hx186_0 := (HB.out.cell (World.block_lt_of_cell? w _ hx186_0)).trans hx186_0
                    replace hx186_1 := (HB.out.cell (World.block_lt_of_cell? w _ hx186_1)).trans hx186_1
                    replace hx186_2 := (HB.out.cell (World.block_lt_of_cell? w _ hx186_2)).trans hx186_2
                    replace hx186_3 := (HB.out.cell (World.block_lt_of_cell? w _ hx186_3)).trans hx186_3
                    replace hx186_4 := (HB.out.cell (World.block_lt_of_cell? w _ hx186_4)).trans hx186_4
                    replace hx186_5 := (HB.out.cell (World.block_lt_of_cell? w _ hx186_5)).trans hx186_5
                    replace hx186_6 := (HB.out.cell (World.block_lt_of_cell? w _ hx186_6)).trans hx186_6
                    replace hx186_7 := (HB.out.cell (World.block_lt_of_cell? w _ hx186_7)).trans hx186_7
                    replace hx186_8 := (HB.out.cell (World.block_lt_of_cell? w _ hx186_8)).trans hx186_8
                    replace hx186_9 := (HB.out.cell (World.block_lt_of_cell? w _ hx186_9)).trans hx186_9
                    replace hx186_10 := (HB.out.cell (World.block_lt_of_cell? w _ hx186_10)).trans hx186_10
                    replace hx186_11 := (HB.out.cell (World.block_lt_of_cell? w _ hx186_11)).trans hx186_11
                    replace hx186_12 := (HB.out.cell (World.block_lt_of_cell? w _ hx186_12)).trans hx186_12
                    have HR186_11 := Aside0.mk hi186_11
                    have HC186_11 := Aside0.mk hl186_11
                    clear hi186_11 hl186_11
                    replace p186 := eq_true p186
                    replace q186 := eq_true q186
                    have ea_ := Option.some.inj (hx185_11.symm.trans hx186_11)
                    injection ea_ with ea_ en_ ec_
                    subst ea_
                    subst ec_
                    clear en_
                    have p187 : 0 ≤ (x5_2 : Int) := of_decide_eq_true (by first | (with_reducible assumption) | assumption)
                    have q187 : x5_2 < (l0.length : Int) := of_decide_eq_true (by first | (with_reducible assumption) | assumption)
                    obtain ⟨ad187, A187_11, c187_11, e187, hx187_0, hx187_1, hx187_2, hx187_3, hx187_4, hx187_5, hx187_6, hx187_7, hx187_8, hx187_9, hx187_10, hx187_11, hx187_12, hl187_11, hi187_11⟩ := at_T55 HR0.out x5_2 p187 q187
                    have hw187_12 := hx187_12
                    have hw187_11 := hx187_11
                    have hw187_10 := hx187_10
                    have hw187_9 := hx187_9
                    have hw187_8 := hx187_8
                    have hw187_7 := hx187_7
                    have hw187_6 := hx187_6
                    have hw187_5 := hx187_5
                    have hw187_4 := hx187_4
                    have hw187_3 := hx187_3
                    have hw187_2 := hx187_2
                    have hw187_1 := hx187_1
                    have hw187_0 := hx187_0
                    obtain rfl : ad185 = ad187 := (by injection e187)
                    replace hx187_0 := (HB.out.cell (World.block_lt_of_cell? w _ hx187_0)).trans hx187_0
                    replace hx187_1 := (HB.out.cell (World.block_lt_of_cell? w _ hx187_1)).trans hx187_1
                    replace hx187_2 := (HB.out.cell (World.block_lt_of_cell? w _ hx187_2)).trans hx187_2
                    replace hx187_3 := (HB.out.cell (World.block_lt_of_cell? w _ hx187_3)).trans hx187_3
                    replace hx187_4 := (HB.out.cell (World.block_lt_of_cell? w _ hx187_4)).trans hx187_4
                    replace hx187_5 := (HB.out.cell (World.block_lt_of_cell? w _ hx187_5)).trans hx187_5
                    replace hx187_6 := (HB.out.cell (World.block_lt_of_cell? w _ hx187_6)).trans hx187_6
                    replace hx187_7 := (HB.out.cell (World.block_lt_of_cell? w _ hx187_7)).trans hx187_7
                    replace hx187_8 := (HB.out.cell (World.block_lt_of_cell? w _ hx187_8)).trans hx187_8
                    replace hx187_9 := (HB.out.cell (World.block_lt_of_cell? w _ hx187_9)).trans hx187_9
                    replace hx187_10 := (HB.out.cell (World.block_lt_of_cell? w _ hx187_10)).trans hx187_10
                    replace hx187_11 := (HB.out.cell (World.block_lt_of_cell? w _ hx187_11)).trans hx187_11
                    replace hx187_12 := (HB.out.cell (World.block_lt_of_cell? w _ hx187_12)).trans hx187_12
                    have HR187_11 := Aside0.mk hi187_11
                    have HC187_11 := Aside0.mk hl187_11
                    clear hi187_11 hl187_11
                    replace p187 := eq_true p187
                    replace q187 := eq_true q187
                    have ea_ := Option.some.inj (hx185_11.symm.trans hx187_11)
                    injection ea_ with ea_ en_ ec_
                    subst ea_
                    subst ec_
                    clear en_
                    refine start_ (n := 25) (S := fun w' => w'.cell? (ad185.add ((x5_2).toNat * 13)) = some (.int .i64 ((rd_T55 l0 x5_2).f0)) ∧ w'.cell? ⟨(ad185.add ((x5_2).toNat * 13)).block, (ad185.add ((x5_2).toNat * 13)).off + 1, none⟩ = some (.int .i64 ((rd_T55 l0 x5_2).f1)) ∧ w'.cell? ⟨(ad185.add ((x5_2).toNat * 13)).block, (ad185.add ((x5_2).toNat * 13)).off + 2, none⟩ = some (.string ((rd_T55 l0 x5_2).f2)) ∧ w'.cell? ⟨(ad185.add ((x5_2).toNat * 13)).block, (ad185.add ((x5_2).toNat * 13)).off + 3, none⟩ = some (.string ((rd_T55 l0 x5_2).f3)) ∧ w'.cell? ⟨(ad185.add ((x5_2).toNat * 13)).block, (ad185.add ((x5_2).toNat * 13)).off + 4, none⟩ = some (.int .i64 ((rd_T55 l0 x5_2).f4)) ∧ w'.cell? ⟨(ad185.add ((x5_2).toNat * 13)).block, (ad185.add ((x5_2).toNat * 13)).off + 5, none⟩ = some (.int .i64 ((rd_T55 l0 x5_2).f5.f0.f0)) ∧ w'.cell? ⟨(ad185.add ((x5_2).toNat * 13)).block, (ad185.add ((x5_2).toNat * 13)).off + 6, none⟩ = some (.int .i64 ((rd_T55 l0 x5_2).f5.f0.f1)) ∧ w'.cell? ⟨(ad185.add ((x5_2).toNat * 13)).block, (ad185.add ((x5_2).toNat * 13)).off + 7, none⟩ = some (.int .i64 ((rd_T55 l0 x5_2).f5.f0.f2)) ∧ w'.cell? ⟨(ad185.add ((x5_2).toNat * 13)).block, (ad185.add ((x5_2).toNat * 13)).off + 8, none⟩ = some (.int .i64 ((rd_T55 l0 x5_2).f5.f1.f0)) ∧ w'.cell? ⟨(ad185.add ((x5_2).toNat * 13)).block, (ad185.add ((x5_2).toNat * 13)).off + 9, none⟩ = some (.int .i64 ((rd_T55 l0 x5_2).f5.f1.f1)) ∧ w'.cell? ⟨(ad185.add ((x5_2).toNat * 13)).block, (ad185.add ((x5_2).toNat * 13)).off + 10, none⟩ = some (.int .i64 ((rd_T55 l0 x5_2).f5.f1.f2)) ∧ w'.cell? ⟨(ad185.add ((x5_2).toNat * 13)).block, (ad185.add ((x5_2).toNat * 13)).off + 11, none⟩ = some (.slice A185_11 ((rd_T55 l0 x5_2).f6).length c185_11) ∧ w'.cell? ⟨(ad185.add ((x5_2).toNat * 13)).block, (ad185.add ((x5_2).toNat * 13)).off + 12, none⟩ = some (.int .i64 ((rd_T55 l0 x5_2).f7)) ∧ w'.cell? (ad185.add ((x5_2).toNat * 13)) = some (.int .i64 ((rd_T55 l0 x5_2).f0)) ∧ w'.cell? ⟨(ad185.add ((x5_2).toNat * 13)).block, (ad185.add ((x5_2).toNat * 13)).off + 1, none⟩ = some (.int .i64 ((rd_T55 l0 x5_2).f1)) ∧ w'.cell? ⟨(ad185.add ((x5_2).toNat * 13)).block, (ad185.add ((x5_2).toNat * 13)).off + 2, none⟩ = some (.string ((rd_T55 l0 x5_2).f2)) ∧ w'.cell? ⟨(ad185.add ((x5_2).toNat * 13)).block, (ad185.add ((x5_2).toNat * 13)).off + 3, none⟩ = some (.string ((rd_T55 l0 x5_2).f3)) ∧ w'.cell? ⟨(ad185.add ((x5_2).toNat * 13)).block, (ad185.add ((x5_2).toNat * 13)).off + 4, none⟩ = some (.int .i64 ((rd_T55 l0 x5_2).f4)) ∧ w'.cell? ⟨(ad185.add ((x5_2).toNat * 13)).block, (ad185.add ((x5_2).toNat * 13)).off + 5, none⟩ = some (.int .i64 ((rd_T55 l0 x5_2).f5.f0.f0)) ∧ w'.cell? ⟨(ad185.add ((x5_2).toNat * 13)).block, (ad185.add ((x5_2).toNat * 13)).off + 6, none⟩ = some (.int .i64 ((rd_T55 l0 x5_2).f5.f0.f1)) ∧ w'.cell? ⟨(ad185.add ((x5_2).toNat * 13)).block, (ad185.add ((x5_2).toNat * 13)).off + 7, none⟩ = some (.int .i64 ((rd_T55 l0 x5_2).f5.f0.f2)) ∧ w'.cell? ⟨(ad185.add ((x5_2).toNat * 13)).block, (ad185.add ((x5_2).toNat * 13)).off + 8, none⟩ = some (.int .i64 ((rd_T55 l0 x5_2).f5.f1.f0)) ∧ w'.cell? ⟨(ad185.add ((x5_2).toNat * 13)).block, (ad185.add ((x5_2).toNat * 13)).off + 9, none⟩ = some (.int .i64 ((rd_T55 l0 x5_2).f5.f1.f1)) ∧ w'.cell? ⟨(ad185.add ((x5_2).toNat * 13)).block, (ad185.add ((x5_2).toNat * 13)).off + 10, none⟩ = some (.int .i64 ((rd_T55 l0 x5_2).f5.f1.f2)) ∧ w'.cell? ⟨(ad185.add ((x5_2).toNat * 13)).block, (ad185.add ((x5_2).toNat * 13)).off + 11, none⟩ = some (.slice A185_11 ((rd_T55 l0 x5_2).f6).length c185_11) ∧ w'.cell? ⟨(ad185.add ((x5_2).toNat * 13)).block, (ad185.add ((x5_2).toNat * 13)).off + 12, none⟩ = some (.int .i64 ((rd_T55 l0 x5_2).f7)) ∧ w'.cell? (ad185.add ((x5_2).toNat * 13)) = some (.int .i64 ((rd_T55 l0 x5_2).f0)) ∧ w'.cell? ⟨(ad185.add ((x5_2).toNat * 13)).block, (ad185.add ((x5_2).toNat * 13)).off + 1, none⟩ = some (.int .i64 ((rd_T55 l0 x5_2).f1)) ∧ w'.cell? ⟨(ad185.add ((x5_2).toNat * 13)).block, (ad185.add ((x5_2).toNat * 13)).off + 2, none⟩ = some (.string ((rd_T55 l0 x5_2).f2)) ∧ w'.cell? ⟨(ad185.add ((x5_2).toNat * 13)).block, (ad185.add ((x5_2).toNat * 13)).off + 3, none⟩ = some (.string ((rd_T55 l0 x5_2).f3)) ∧ w'.cell? ⟨(ad185.add ((x5_2).toNat * 13)).block, (ad185.add ((x5_2).toNat * 13)).off + 4, none⟩ = some (.int .i64 ((rd_T55 l0 x5_2).f4)) ∧ w'.cell? ⟨(ad185.add ((x5_2).toNat * 13)).block, (ad185.add ((x5_2).toNat * 13)).off + 5, none⟩ = some (.int .i64 ((rd_T55 l0 x5_2).f5.f0.f0)) ∧ w'.cell? ⟨(ad185.add ((x5_2).toNat * 13)).block, (ad185.add ((x5_2).toNat * 13)).off + 6, none⟩ = some (.int .i64 ((rd_T55 l0 x5_2).f5.f0.f1)) ∧ w'.cell? ⟨(ad185.add ((x5_2).toNat * 13)).block, (ad185.add ((x5_2).toNat * 13)).off + 7, none⟩ = some (.int .i64 ((rd_T55 l0 x5_2).f5.f0.f2)) ∧ w'.cell? ⟨(ad185.add ((x5_2).toNat * 13)).block, (ad185.add ((x5_2).toNat * 13)).off + 8, none⟩ = some (.int .i64 ((rd_T55 l0 x5_2).f5.f1.f0)) ∧ w'.cell? ⟨(ad185.add ((x5_2).toNat * 13)).block, (ad185.add ((x5_2).toNat * 13)).off + 9, none⟩ = some (.int .i64 ((rd_T55 l0 x5_2).f5.f1.f1)) ∧ w'.cell? ⟨(ad185.add ((x5_2).toNat * 13)).block, (ad185.add ((x5_2).toNat * 13)).off + 10, none⟩ = some (.int .i64 ((rd_T55 l0 x5_2).f5.f1.f2)) ∧ w'.cell? ⟨(ad185.add ((x5_2).toNat * 13)).block, (ad185.add ((x5_2).toNat * 13)).off + 11, none⟩ = some (.slice A185_11 ((rd_T55 l0 x5_2).f6).length c185_11) ∧ w'.cell? ⟨(ad185.add ((x5_2).toNat * 13)).block, (ad185.add ((x5_2).toNat * 13)).off + 12, none⟩ = some (.int .i64 ((rd_T55 l0 x5_2).f7))) (ds := []) #[false, false, false, false, false, false, false, false, false, false, false, false, false, false, false, false, false, false, false, false, false, false, false, false, false] (by kernel_rfl) rfl rfl ⟨((HB.out.cell (World.block_lt_of_cell? w _ hw185_0)).trans hw185_0), ((HB.out.cell (World.block_lt_of_cell? w _ hw185_1)).trans hw185_1), ((HB.out.cell (World.block_lt_of_cell? w _ hw185_2)).trans hw185_2), ((HB.out.cell (World.block_lt_of_cell? w _ hw185_3)).trans hw185_3), ((HB.out.cell (World.block_lt_of_cell? w _ hw185_4)).trans hw185_4), ((HB.out.cell (World.block_lt_of_cell? w _ hw185_5)).trans hw185_5), ((HB.out.cell (World.block_lt_of_cell? w _ hw185_6)).trans hw185_6), ((HB.out.cell (World.block_lt_of_cell? w _ hw185_7)).trans hw185_7), ((HB.out.cell (World.block_lt_of_cell? w _ hw185_8)).trans hw185_8), ((HB.out.cell (World.block_lt_of_cell? w _ hw185_9)).trans hw185_9), ((HB.out.cell (World.block_lt_of_cell? w _ hw185_10)).trans hw185_10), ((HB.out.cell (World.block_lt_of_cell? w _ hw185_11)).trans hw185_11), ((HB.out.cell (World.block_lt_of_cell? w _ hw185_12)).trans hw185_12), ((HB.out.cell (World.block_lt_of_cell? w _ hw186_0)).trans hw186_0), ((HB.out.cell (World.block_lt_of_cell? w _ hw186_1)).trans hw186_1), ((HB.out.cell (World.block_lt_of_cell? w _ hw186_2)).trans hw186_2), ((HB.out.cell (World.block_lt_of_cell? w _ hw186_3)).trans hw186_3), ((HB.out.cell (World.block_lt_of_cell? w _ hw186_4)).trans hw186_4), ((HB.out.cell (World.block_lt_of_cell? w _ hw186_5)).trans hw186_5), ((HB.out.cell (World.block_lt_of_cell? w _ hw186_6)).trans hw186_6), ((HB.out.cell (World.block_lt_of_cell? w _ hw186_7)).trans hw186_7), ((HB.out.cell (World.block_lt_of_cell? w _ hw186_8)).trans hw186_8), ((HB.out.cell (World.block_lt_of_cell? w _ hw186_9)).trans hw186_9), ((HB.out.cell (World.block_lt_of_cell? w _ hw186_10)).trans hw186_10), ((HB.out.cell (World.block_lt_of_cell? w _ hw186_11)).trans hw186_11), ((HB.out.cell (World.block_lt_of_cell? w _ hw186_12)).trans hw186_12), ((HB.out.cell (World.block_lt_of_cell? w _ hw187_0)).trans hw187_0), ((HB.out.cell (World.block_lt_of_cell? w _ hw187_1)).trans hw187_1), ((HB.out.cell (World.block_lt_of_cell? w _ hw187_2)).trans hw187_2), ((HB.out.cell (World.block_lt_of_cell? w _ hw187_3)).trans hw187_3), ((HB.out.cell (World.block_lt_of_cell? w _ hw187_4)).trans hw187_4), ((HB.out.cell (World.block_lt_of_cell? w _ hw187_5)).trans hw187_5), ((HB.out.cell (World.block_lt_of_cell? w _ hw187_6)).trans hw187_6), ((HB.out.cell (World.block_lt_of_cell? w _ hw187_7)).trans hw187_7), ((HB.out.cell (World.block_lt_of_cell? w _ hw187_8)).trans hw187_8), ((HB.out.cell (World.block_lt_of_cell? w _ hw187_9)).trans hw187_9), ((HB.out.cell (World.block_lt_of_cell? w _ hw187_10)).trans hw187_10), ((HB.out.cell (World.block_lt_of_cell? w _ hw187_11)).trans hw187_11), ((HB.out.cell (World.block_lt_of_cell? w _ hw187_12)).trans hw187_12)⟩ (fun hHeld => ?_); refine with_tabW ambidexterlaw11_Few.tab6 ambidexterlaw11_Few.bits6 (fun HT_ HW_ => ?_)
                    generalize wr.drew = w12 at HB HR185_11 HR186_11 HR187_11 hx185_0 hx185_1 hx185_10 hx185_11 hx185_12 hx185_2 hx185_3 hx185_4 hx185_5 hx185_6 hx185_7 hx185_8 hx185_9 hx186_0 hx186_1 hx186_10 hx186_11 hx186_12 hx186_2 hx186_3 hx186_4 hx186_5 hx186_6 hx186_7 hx186_8 hx186_9 hx187_0 hx187_1 hx187_10 hx187_11 hx187_12 hx187_2 hx187_3 hx187_4 hx187_5 hx187_6 hx187_7 hx187_8 hx187_9 hHeld ⊢
                    refine pure_ (i := 0) (N := some 19) (v := ?_) (a' := ?_) #[true, false, false, false, false, false, false, false, false, false, false, false, false, false, false, false, false, false, false, false, false, false, false, false, false] rfl rfl (any_of HT_.out (by kernel_rfl)) (fun _ _ _ h => h) (Or.inl ⟨by rfl, ?_⟩) ?_ ?_
                    rotate_left
                    · intro w'
                      go_simp
                      with_reducible rfl
                    rotate_left
                    · simp only [Act.put, List.setIfInBounds_toArray, List.set_cons_zero, List.set_cons_succ, i64_w, i32_w]
                      rfl
                    refine pure_ (i := 1) (N := some 20) (v := ?_) (a' := ?_) #[true, true, false, false, false, false, false, false, false, false, false, false, false, false, false, false, false, false, false, false, false, false, false, false, false] rfl rfl (any_of HT_.out (by kernel_rfl)) (fun _ _ _ h => h) (Or.inl ⟨by rfl, ?_⟩) ?_ ?_
                    rotate_left
                    · intro w'
                      go_simp
                      with_reducible rfl
                    rotate_left
                    · simp only [Act.put, List.setIfInBounds_toArray, List.set_cons_zero, List.set_cons_succ, i64_w, i32_w]
                      rfl
                    refine pure_ (i := 2) (N := some 21) (v := ?_) (a' := ?_) #[true, true, true, false, false, false, false, false, false, false, false, false, false, false, false, false, false, false, false, false, false, false, false, false, false] rfl rfl (any_of HT_.out (by kernel_rfl)) (fun _ _ _ h => h) (Or.inl ⟨by rfl, ?_⟩) ?_ ?_
                    rotate_left
                    · intro w'
                      go_simp
                      with_reducible rfl
                    rotate_left
                    · simp only [Act.put, List.setIfInBounds_toArray, List.set_cons_zero, List.set_cons_succ, i64_w, i32_w]
                      rfl
                    refine pure_ (i := 3) (N := some 22) (v := ?_) (a' := ?_) #[true, true, true, true, false, false, false, false, false, false, false, false, false, false, false, false, false, false, false, false, false, false, false, false, false] rfl rfl (any_of HT_.out (by kernel_rfl)) (fun _ _ _ h => h) (Or.inl ⟨by rfl, ?_⟩) ?_ ?_
                    rotate_left
                    · intro w'
                      go_simp
                      with_reducible rfl
                    rotate_left
                    · simp only [Act.put, List.setIfInBounds_toArray, List.set_cons_zero, List.set_cons_succ, i64_w, i32_w]
                      rfl
                    refine pure_ (i := 6) (N := some 25) (v := ?_) (a' := ?_) #[true, true, true, true, false, false, true, false, false, false, false, false, false, false, false, false, false, false, false, false, false, false, false, false, false] rfl rfl (any_of HT_.out (by kernel_rfl)) (fun _ _ _ h => h) (Or.inl ⟨by rfl, ?_⟩) ?_ ?_
                    rotate_left
                    · intro w'
                      go_simp
                      with_reducible rfl
                    rotate_left
                    · simp only [Act.put, List.setIfInBounds_toArray, List.set_cons_zero, List.set_cons_succ, i64_w, i32_w]
                      rfl
                    refine pure_ (i := 7) (N := some 26) (v := ?_) (a' := ?_) #[true, true, true, true, false, false, true, true, false, false, false, false, false, false, false, false, false, false, false, false, false, false, false, false, false] rfl rfl (any_of HT_.out (by kernel_rfl)) (fun _ _ _ h => h) (Or.inl ⟨by rfl, ?_⟩) ?_ ?_
                    rotate_left
                    · intro w'
                      go_simp
                      with_reducible rfl
                    rotate_left
                    · simp only [Act.put, List.setIfInBounds_toArray, List.set_cons_zero, List.set_cons_succ, i64_w, i32_w]
                      rfl
                    refine pure_ (i := 8) (N := some 27) (v := ?_) (a' := ?_) #[true, true, true, true, false, false, true, true, true, false, false, false, false, false, false, false, false, false, false, false, false, false, false, false, false] rfl rfl (any_of HT_.out (by kernel_rfl)) (fun _ _ _ h => h) (Or.inl ⟨by rfl, ?_⟩) ?_ ?_
                    rotate_left
                    · intro w'
                      go_simp
                      with_reducible rfl
                    rotate_left
                    · simp only [Act.put, List.setIfInBounds_toArray, List.set_cons_zero, List.set_cons_succ, i64_w, i32_w]
                      rfl
                    refine pure_ (i := 9) (N := some 28) (v := ?_) (a' := ?_) #[true, true, true, true, false, false, true, true, true, true, false, false, false, false, false, false, false, false, false, false, false, false, false, false, false] rfl rfl (any_of HT_.out (by kernel_rfl)) (fun _ _ _ h => h) (Or.inl ⟨by rfl, ?_⟩) ?_ ?_
                    rotate_left
                    · intro w'
                      go_simp
                      with_reducible rfl
                    rotate_left
                    · simp only [Act.put, List.setIfInBounds_toArray, List.set_cons_zero, List.set_cons_succ, i64_w, i32_w]
                      rfl
                    refine take_ (i := 4) (N := some 23) (v := ?_) (a' := ?_) #[true, true, true, true, true, false, true, true, true, true, false, false, false, false, false, false, false, false, false, false, false, false, false, false, false] rfl rfl (take_ofW HT_.out HW_.out (by kernel_rfl)) (fun _ _ _ h => h) (Or.inl ⟨by rfl, ?_⟩) hHeld ?_ ?_
                    rotate_left
                    · rintro w' ⟨s0, s1, s2, s3, s4, s5, s6, s7, s8, s9, s10, s11, s12, s13, s14, s15, s16, s17, s18, s19, s20, s21, s22, s23, s24, s25, s26, s27, s28, s29, s30, s31, s32, s33, s34, s35, s36, s37, s38⟩
                      go_simp
                      with_reducible rfl
                    rotate_left
                    · simp only [Act.put, List.setIfInBounds_toArray, List.set_cons_zero, List.set_cons_succ, i64_w, i32_w]
                      rfl
                    refine pure_ (i := 5) (N := some 24) (v := ?_) (a' := ?_) #[true, true, true, true, true, true, true, true, true, true, false, false, false, false, false, false, false, false, false, false, false, false, false, false, false] rfl rfl (any_of HT_.out (by kernel_rfl)) (fun _ _ _ h => h) (Or.inl ⟨by rfl, ?_⟩) ?_ ?_
                    rotate_left
                    · intro w'
                      go_simp
                      with_reducible rfl
                    rotate_left
                    · simp only [Act.put, List.setIfInBounds_toArray, List.set_cons_zero, List.set_cons_succ, i64_w, i32_w]
                      rfl
                    refine take_ (i := 10) (N := some 29) (v := ?_) (a' := ?_) #[true, true, true, true, true, true, true, true, true, true, true, false, false, false, false, false, false, false, false, false, false, false, false, false, false] rfl rfl (take_ofW HT_.out HW_.out (by kernel_rfl)) (fun _ _ _ h => h) (Or.inl ⟨by rfl, ?_⟩) hHeld ?_ ?_
                    rotate_left
                    · rintro w' ⟨s0, s1, s2, s3, s4, s5, s6, s7, s8, s9, s10, s11, s12, s13, s14, s15, s16, s17, s18, s19, s20, s21, s22, s23, s24, s25, s26, s27, s28, s29, s30, s31, s32, s33, s34, s35, s36, s37, s38⟩
                      go_simp
                      with_reducible rfl
                    rotate_left
                    · simp only [Act.put, List.setIfInBounds_toArray, List.set_cons_zero, List.set_cons_succ, i64_w, i32_w]
                      rfl
                    refine pure_ (i := 11) (N := some 30) (v := ?_) (a' := ?_) #[true, true, true, true, true, true, true, true, true, true, true, true, false, false, false, false, false, false, false, false, false, false, false, false, false] rfl rfl (any_of HT_.out (by kernel_rfl)) (fun _ _ _ h => h) (Or.inl ⟨by rfl, ?_⟩) ?_ ?_
                    rotate_left
                    · intro w'
                      go_simp
                      with_reducible rfl
                    rotate_left
                    · simp only [Act.put, List.setIfInBounds_toArray, List.set_cons_zero, List.set_cons_succ, i64_w, i32_w]
                      rfl
                    refine pure_ (i := 12) (N := some 31) (v := ?_) (a' := ?_) #[true, true, true, true, true, true, true, true, true, true, true, true, true, false, false, false, false, false, false, false, false, false, false, false, false] rfl rfl (any_of HT_.out (by kernel_rfl)) (fun _ _ _ h => h) (Or.inl ⟨by rfl, ?_⟩) ?_ ?_
                    rotate_left
                    · intro w'
                      go_simp
                      with_reducible rfl
                    rotate_left
                    · simp only [Act.put, List.setIfInBounds_toArray, List.set_cons_zero, List.set_cons_succ, i64_w, i32_w]
                      rfl
                    refine pure_ (i := 13) (N := some 32) (v := ?_) (a' := ?_) #[true, true, true, true, true, true, true, true, true, true, true, true, true, true, false, false, false, false, false, false, false, false, false, false, false] rfl rfl (any_of HT_.out (by kernel_rfl)) (fun _ _ _ h => h) (Or.inl ⟨by rfl, ?_⟩) ?_ ?_
                    rotate_left
                    · intro w'
                      go_simp
                      with_reducible rfl
                    rotate_left
                    · simp only [Act.put, List.setIfInBounds_toArray, List.set_cons_zero, List.set_cons_succ, i64_w, i32_w]
                      rfl
                    refine pure_ (i := 14) (N := some 33) (v := ?_) (a' := ?_) #[true, true, true, true, true, true, true, true, true, true, true, true, true, true, true, false, false, false, false, false, false, false, false, false, false] rfl rfl (any_of HT_.out (by kernel_rfl)) (fun _ _ _ h => h) (Or.inl ⟨by rfl, ?_⟩) ?_ ?_
                    rotate_left
                    · intro w'
                      go_simp
                      with_reducible rfl
                    rotate_left
                    · simp only [Act.put, List.setIfInBounds_toArray, List.set_cons_zero, List.set_cons_succ, i64_w, i32_w]
                      rfl
                    refine pure_ (i := 15) (N := some 34) (v := ?_) (a' := ?_) #[true, true, true, true, true, true, true, true, true, true, true, true, true, true, true, true, false, false, false, false, false, false, false, false, false] rfl rfl (any_of HT_.out (by kernel_rfl)) (fun _ _ _ h => h) (Or.inl ⟨by rfl, ?_⟩) ?_ ?_
                    rotate_left
                    · intro w'
                      go_simp
                      with_reducible rfl
                    rotate_left
                    · simp only [Act.put, List.setIfInBounds_toArray, List.set_cons_zero, List.set_cons_succ, i64_w, i32_w]
                      rfl
                    refine pure_ (i := 16) (N := some 35) (v := ?_) (a' := ?_) #[true, true, true, true, true, true, true, true, true, true, true, true, true, true, true, true, true, false, false, false, false, false, false, false, false] rfl rfl (any_of HT_.out (by kernel_rfl)) (fun _ _ _ h => h) (Or.inl ⟨by rfl, ?_⟩) ?_ ?_
                    rotate_left
                    · intro w'
                      go_simp
                      with_reducible rfl
                    rotate_left
                    · simp only [Act.put, List.setIfInBounds_toArray, List.set_cons_zero, List.set_cons_succ, i64_w, i32_w]
                      rfl
                    refine pure_ (i := 17) (N := some 36) (v := ?_) (a' := ?_) #[true, true, true, true, true, true, true, true, true, true, true, true, true, true, true, true, true, true, false, false, false, false, false, false, false] rfl rfl (any_of HT_.out (by kernel_rfl)) (fun _ _ _ h => h) (Or.inl ⟨by rfl, ?_⟩) ?_ ?_
                    rotate_left
                    · intro w'
                      go_simp
                      with_reducible rfl
                    rotate_left
                    · simp only [Act.put, List.setIfInBounds_toArray, List.set_cons_zero, List.set_cons_succ, i64_w, i32_w]
                      rfl
                    refine pure_ (i := 18) (N := some 37) (v := ?_) (a' := ?_) #[true, true, true, true, true, true, true, true, true, true, true, true, true, true, true, true, true, true, true, false, false, false, false, false, false] rfl rfl (any_of HT_.out (by kernel_rfl)) (fun _ _ _ h => h) (Or.inl ⟨by rfl, ?_⟩) ?_ ?_
                    rotate_left
                    · intro w'
                      go_simp
                      with_reducible rfl
                    rotate_left
                    · simp only [Act.put, List.setIfInBounds_toArray, List.set_cons_zero, List.set_cons_succ, i64_w, i32_w]
                      rfl
                    refine pure_ (i := 20) (N := some 39) (v := ?_) (a' := ?_) #[true, true, true, true, true, true, true, true, true, true, true, true, true, true, true, true, true, true, true, false, true, false, false, false, false] rfl rfl (any_of HT_.out (by kernel_rfl)) (fun _ _ _ h => h) (Or.inl ⟨by rfl, ?_⟩) ?_ ?_
                    rotate_left
                    · intro w'
                      go_simp
                      with_reducible rfl
                    rotate_left
                    · simp only [Act.put, List.setIfInBounds_toArray, List.set_cons_zero, List.set_cons_succ, i64_w, i32_w]
                      rfl
                    refine pure_ (i := 21) (N := some 40) (v := ?_) (a' := ?_) #[true, true, true, true, true, true, true, true, true, true, true, true, true, true, true, true, true, true, true, false, true, true, false, false, false] rfl rfl (any_of HT_.out (by kernel_rfl)) (fun _ _ _ h => h) (Or.inl ⟨by rfl, ?_⟩) ?_ ?_
                    rotate_left
                    · intro w'
                      go_simp
                      with_reducible rfl
                    rotate_left
                    · simp only [Act.put, List.setIfInBounds_toArray, List.set_cons_zero, List.set_cons_succ, i64_w, i32_w]
                      rfl
                    refine take_ (i := 19) (N := some 38) (v := ?_) (a' := ?_) #[true, true, true, true, true, true, true, true, true, true, true, true, true, true, true, true, true, true, true, true, true, true, false, false, false] rfl rfl (take_ofW HT_.out HW_.out (by kernel_rfl)) (fun _ _ _ h => h) (Or.inl ⟨by rfl, ?_⟩) hHeld ?_ ?_
                    rotate_left
                    · rintro w' ⟨s0, s1, s2, s3, s4, s5, s6, s7, s8, s9, s10, s11, s12, s13, s14, s15, s16, s17, s18, s19, s20, s21, s22, s23, s24, s25, s26, s27, s28, s29, s30, s31, s32, s33, s34, s35, s36, s37, s38⟩
                      go_simp
                      with_reducible rfl
                    rotate_left
                    · simp only [Act.put, List.setIfInBounds_toArray, List.set_cons_zero, List.set_cons_succ, i64_w, i32_w]
                      rfl
                    refine one_ (i := 22) (N := some 41) #[true, true, true, true, true, true, true, true, true, true, true, true, true, true, true, true, true, true, true, true, true, true, true, false, false] rfl rfl (one_of HT_.out (by kernel_rfl)) (by decide) (fun K hK => ?_)
                    refine goes_ Tryd.func10 (by kernel_rfl) rfl #[.slice A185_11 ((rd_T55 l0 x5_2).f6).length c185_11, .int .i64 (wrap64 (a1 + 1))] (by rfl) rfl rfl (by (try simp only [List.map_toArray, List.map_cons, List.map_nil]); first | done | rfl | (simp only [List.length_drop, List.length_take]; rfl)) ?_
                    with_reducible refine (ih k2 (by have := HJ2.out; have := HK2.out; omega) _ _ ((rd_T55 l0 x5_2).f6) (wrap64 (a1 + 1)) true _ ?side1 ?side2 A10.out).mono ?_
                    (case side1 => repeat (first | exact (Kd.C_below HR187_11.out HB.out) | (with_reducible refine Kd.C_alloc ?_ _) | (with_reducible refine Kd.C_drewN ?_ _) | (with_reducible refine Kd.C_drew ?_)))
                    (case side2 => exact HC187_11.out)
                    rintro e w13 ⟨rfl, hb⟩
                    refine ⟨_, rfl, ?_⟩
                    have n0_ := Aside0.mk (below_step (by repeat (first | (with_reducible first | exact HB.out | apply below_alloc | apply pw_below_drewN | apply below_drew1) | exact HB.out)) hb)
                    clear HB
                    have HB := n0_
                    clear n0_
                    (try clear hb)
                    (try clear hb2)
                    (try clear hk)
                    (try clear hi)
                    refine hK.out _ _ ⟨((HB.out.cell (World.block_lt_of_cell? w _ hw185_0)).trans hw185_0), ((HB.out.cell (World.block_lt_of_cell? w _ hw185_1)).trans hw185_1), ((HB.out.cell (World.block_lt_of_cell? w _ hw185_2)).trans hw185_2), ((HB.out.cell (World.block_lt_of_cell? w _ hw185_3)).trans hw185_3), ((HB.out.cell (World.block_lt_of_cell? w _ hw185_4)).trans hw185_4), ((HB.out.cell (World.block_lt_of_cell? w _ hw185_5)).trans hw185_5), ((HB.out.cell (World.block_lt_of_cell? w _ hw185_6)).trans hw185_6), ((HB.out.cell (World.block_lt_of_cell? w _ hw185_7)).trans hw185_7), ((HB.out.cell (World.block_lt_of_cell? w _ hw185_8)).trans hw185_8), ((HB.out.cell (World.block_lt_of_cell? w _ hw185_9)).trans hw185_9), ((HB.out.cell (World.block_lt_of_cell? w _ hw185_10)).trans hw185_10), ((HB.out.cell (World.block_lt_of_cell? w _ hw185_11)).trans hw185_11), ((HB.out.cell (World.block_lt_of_cell? w _ hw185_12)).trans hw185_12), ((HB.out.cell (World.block_lt_of_cell? w _ hw186_0)).trans hw186_0), ((HB.out.cell (World.block_lt_of_cell? w _ hw186_1)).trans hw186_1), ((HB.out.cell (World.block_lt_of_cell? w _ hw186_2)).trans hw186_2), ((HB.out.cell (World.block_lt_of_cell? w _ hw186_3)).trans hw186_3), ((HB.out.cell (World.block_lt_of_cell? w _ hw186_4)).trans hw186_4), ((HB.out.cell (World.block_lt_of_cell? w _ hw186_5)).trans hw186_5), ((HB.out.cell (World.block_lt_of_cell? w _ hw186_6)).trans hw186_6), ((HB.out.cell (World.block_lt_of_cell? w _ hw186_7)).trans hw186_7), ((HB.out.cell (World.block_lt_of_cell? w _ hw186_8)).trans hw186_8), ((HB.out.cell (World.block_lt_of_cell? w _ hw186_9)).trans hw186_9), ((HB.out.cell (World.block_lt_of_cell? w _ hw186_10)).trans hw186_10), ((HB.out.cell (World.block_lt_of_cell? w _ hw186_11)).trans hw186_11), ((HB.out.cell (World.block_lt_of_cell? w _ hw186_12)).trans hw186_12), ((HB.out.cell (World.block_lt_of_cell? w _ hw187_0)).trans hw187_0), ((HB.out.cell (World.block_lt_of_cell? w _ hw187_1)).trans hw187_1), ((HB.out.cell (World.block_lt_of_cell? w _ hw187_2)).trans hw187_2), ((HB.out.cell (World.block_lt_of_cell? w _ hw187_3)).trans hw187_3), ((HB.out.cell (World.block_lt_of_cell? w _ hw187_4)).trans hw187_4), ((HB.out.cell (World.block_lt_of_cell? w _ hw187_5)).trans hw187_5), ((HB.out.cell (World.block_lt_of_cell? w _ hw187_6)).trans hw187_6), ((HB.out.cell (World.block_lt_of_cell? w _ hw187_7)).trans hw187_7), ((HB.out.cell (World.block_lt_of_cell? w _ hw187_8)).trans hw187_8), ((HB.out.cell (World.block_lt_of_cell? w _ hw187_9)).trans hw187_9), ((HB.out.cell (World.block_lt_of_cell? w _ hw187_10)).trans hw187_10), ((HB.out.cell (World.block_lt_of_cell? w _ hw187_11)).trans hw187_11), ((HB.out.cell (World.block_lt_of_cell? w _ hw187_12)).trans hw187_12)⟩ (fun hHeld => ?_)
                    clear hK K
                    refine norm_ (a' := ?_) ?_ ?_
                    rotate_left
                    · show Act.put _ (some 41) _ = _
                      simp only [Act.put, List.setIfInBounds_toArray, List.set_cons_zero, List.set_cons_succ, i64_w, i32_w]
                      rfl
                    refine pure_ (i := 23) (N := some 42) (v := ?_) (a' := ?_) #[true, true, true, true, true, true, true, true, true, true, true, true, true, true, true, true, true, true, true, true, true, true, true, true, false] rfl rfl (any_of HT_.out (by kernel_rfl)) (fun _ _ _ h => h) (Or.inl ⟨by rfl, ?_⟩) ?_ ?_
                    rotate_left
                    · intro w'
                      go_simp
                      with_reducible rfl
                    rotate_left
                    · simp only [Act.put, List.setIfInBounds_toArray, List.set_cons_zero, List.set_cons_succ, i64_w, i32_w]
                      rfl
                    refine pure_ (i := 24) (N := some 43) (v := ?_) (a' := ?_) #[true, true, true, true, true, true, true, true, true, true, true, true, true, true, true, true, true, true, true, true, true, true, true, true, true] rfl rfl (any_of HT_.out (by kernel_rfl)) (fun _ _ _ h => h) (Or.inl ⟨by rfl, ?_⟩) ?_ ?_
                    rotate_left
                    · intro w'
                      go_simp
                      with_reducible rfl
                    rotate_left
                    · simp only [Act.put, List.setIfInBounds_toArray, List.set_cons_zero, List.set_cons_succ, i64_w, i32_w]
                      rfl
                    refine done_ (done_of HT_.out (by kernel_rfl)) ?_
                    try go_wp2
                    go_roundg k2
                    case measure => have := HJ2.out; have := HK2.out; omega
                    case rel => exact ⟨(wrap64 (x5_2 + 1)), (by first | rfl | (simp; done) | (simp [*]; done)), H', ⟨by have := HJ2.out; have := HK2.out; omega⟩, ⟨by repeat (first | (with_reducible first | exact HB.out | apply below_alloc | apply pw_below_drewN | apply below_drew1) | exact HB.out)⟩⟩
                  · replace c11 := Bool.eq_false_iff.mpr c11
                    subst c11
                    have H1 : (some false) = some r := by rw [if_neg (show ¬ (false = true) by decide)] at H; exact H
                    clear H
                    have H := H1
                    clear H1
                    obtain rfl := Option.some.inj H
                    try go_wp2
                    have n0_ := Aside0.mk (below_drew1 HB.out)
                    clear HB
                    have HB := n0_
                    clear n0_
                    have p185 : 0 ≤ (x5_2 : Int) := of_decide_eq_true (by first | (with_reducible assumption) | assumption)
                    have q185 : x5_2 < (l0.length : Int) := of_decide_eq_true (by first | (with_reducible assumption) | assumption)
                    obtain ⟨ad185, A185_11, c185_11, e185, hx185_0, hx185_1, hx185_2, hx185_3, hx185_4, hx185_5, hx185_6, hx185_7, hx185_8, hx185_9, hx185_10, hx185_11, hx185_12, hl185_11, hi185_11⟩ := at_T55 HR0.out x5_2 p185 q185
                    have hw185_12 := hx185_12
                    have hw185_11 := hx185_11
                    have hw185_10 := hx185_10
                    have hw185_9 := hx185_9
                    have hw185_8 := hx185_8
                    have hw185_7 := hx185_7
                    have hw185_6 := hx185_6
                    have hw185_5 := hx185_5
                    have hw185_4 := hx185_4
                    have hw185_3 := hx185_3
                    have hw185_2 := hx185_2
                    have hw185_1 := hx185_1
                    have hw185_0 := hx185_0
                    cases e185
                    replace hx185_0 := (HB.out.cell (World.block_lt_of_cell? w _ hx185_0)).trans hx185_0
                    replace hx185_1 := (HB.out.cell (World.block_lt_of_cell? w _ hx185_1)).trans hx185_1
                    replace hx185_2 := (HB.out.cell (World.block_lt_of_cell? w _ hx185_2)).trans hx185_2
                    replace hx185_3 := (HB.out.cell (World.block_lt_of_cell? w _ hx185_3)).trans hx185_3
                    replace hx185_4 := (HB.out.cell (World.block_lt_of_cell? w _ hx185_4)).trans hx185_4
                    replace hx185_5 := (HB.out.cell (World.block_lt_of_cell? w _ hx185_5)).trans hx185_5
                    replace hx185_6 := (HB.out.cell (World.block_lt_of_cell? w _ hx185_6)).trans hx185_6
                    replace hx185_7 := (HB.out.cell (World.block_lt_of_cell? w _ hx185_7)).trans hx185_7
                    replace hx185_8 := (HB.out.cell (World.block_lt_of_cell? w _ hx185_8)).trans hx185_8
                    replace hx185_9 := (HB.out.cell (World.block_lt_of_cell? w _ hx185_9)).trans hx185_9
                    replace hx185_10 := (HB.out.cell (World.block_lt_of_cell? w _ hx185_10)).trans hx185_10
                    replace hx185_11 := (HB.out.cell (World.block_lt_of_cell? w _ hx185_11)).trans hx185_11
                    replace hx185_12 := (HB.out.cell (World.block_lt_of_cell? w _ hx185_12)).trans hx185_12
                    have HR185_11 := Aside0.mk hi185_11
                    have HC185_11 := Aside0.mk hl185_11
                    clear hi185_11 hl185_11
                    replace p185 := eq_true p185
                    replace q185 := eq_true q185
                    have p186 : 0 ≤ (x5_2 : Int) := of_decide_eq_true (by first | (with_reducible assumption) | assumption)
                    have q186 : x5_2 < (l0.length : Int) := of_decide_eq_true (by first | (with_reducible assumption) | assumption)
                    obtain ⟨ad186, A186_11, c186_11, e186, hx186_0, hx186_1, hx186_2, hx186_3, hx186_4, hx186_5, hx186_6, hx186_7, hx186_8, hx186_9, hx186_10, hx186_11, hx186_12, hl186_11, hi186_11⟩ := at_T55 HR0.out x5_2 p186 q186
                    have hw186_12 := hx186_12
                    have hw186_11 := hx186_11
                    have hw186_10 := hx186_10
                    have hw186_9 := hx186_9
                    have hw186_8 := hx186_8
                    have hw186_7 := hx186_7
                    have hw186_6 := hx186_6
                    have hw186_5 := hx186_5
                    have hw186_4 := hx186_4
                    have hw186_3 := hx186_3
                    have hw186_2 := hx186_2
                    have hw186_1 := hx186_1
                    have hw186_0 := hx186_0
                    obtain rfl : ad185 = ad186 := (by injection e186)
                    replace hx186_0 := (HB.out.cell (World.block_lt_of_cell? w _ hx186_0)).trans hx186_0
                    replace hx186_1 := (HB.out.cell (World.block_lt_of_cell? w _ hx186_1)).trans hx186_1
                    replace hx186_2 := (HB.out.cell (World.block_lt_of_cell? w _ hx186_2)).trans hx186_2
                    replace hx186_3 := (HB.out.cell (World.block_lt_of_cell? w _ hx186_3)).trans hx186_3
                    replace hx186_4 := (HB.out.cell (World.block_lt_of_cell? w _ hx186_4)).trans hx186_4
                    replace hx186_5 := (HB.out.cell (World.block_lt_of_cell? w _ hx186_5)).trans hx186_5
                    replace hx186_6 := (HB.out.cell (World.block_lt_of_cell? w _ hx186_6)).trans hx186_6
                    replace hx186_7 := (HB.out.cell (World.block_lt_of_cell? w _ hx186_7)).trans hx186_7
                    replace hx186_8 := (HB.out.cell (World.block_lt_of_cell? w _ hx186_8)).trans hx186_8
                    replace hx186_9 := (HB.out.cell (World.block_lt_of_cell? w _ hx186_9)).trans hx186_9
                    replace hx186_10 := (HB.out.cell (World.block_lt_of_cell? w _ hx186_10)).trans hx186_10
                    replace hx186_11 := (HB.out.cell (World.block_lt_of_cell? w _ hx186_11)).trans hx186_11
                    replace hx186_12 := (HB.out.cell (World.block_lt_of_cell? w _ hx186_12)).trans hx186_12
                    have HR186_11 := Aside0.mk hi186_11
                    have HC186_11 := Aside0.mk hl186_11
                    clear hi186_11 hl186_11
                    replace p186 := eq_true p186
                    replace q186 := eq_true q186
                    have ea_ := Option.some.inj (hx185_11.symm.trans hx186_11)
                    injection ea_ with ea_ en_ ec_
                    subst ea_
                    subst ec_
                    clear en_
                    have p187 : 0 ≤ (x5_2 : Int) := of_decide_eq_true (by first | (with_reducible assumption) | assumption)
                    have q187 : x5_2 < (l0.length : Int) := of_decide_eq_true (by first | (with_reducible assumption) | assumption)
                    obtain ⟨ad187, A187_11, c187_11, e187, hx187_0, hx187_1, hx187_2, hx187_3, hx187_4, hx187_5, hx187_6, hx187_7, hx187_8, hx187_9, hx187_10, hx187_11, hx187_12, hl187_11, hi187_11⟩ := at_T55 HR0.out x5_2 p187 q187
                    have hw187_12 := hx187_12
                    have hw187_11 := hx187_11
                    have hw187_10 := hx187_10
                    have hw187_9 := hx187_9
                    have hw187_8 := hx187_8
                    have hw187_7 := hx187_7
                    have hw187_6 := hx187_6
                    have hw187_5 := hx187_5
                    have hw187_4 := hx187_4
                    have hw187_3 := hx187_3
                    have hw187_2 := hx187_2
                    have hw187_1 := hx187_1
                    have hw187_0 := hx187_0
                    obtain rfl : ad185 = ad187 := (by injection e187)
                    replace hx187_0 := (HB.out.cell (World.block_lt_of_cell? w _ hx187_0)).trans hx187_0
                    replace hx187_1 := (HB.out.cell (World.block_lt_of_cell? w _ hx187_1)).trans hx187_1
                    replace hx187_2 := (HB.out.cell (World.block_lt_of_cell? w _ hx187_2)).trans hx187_2
                    replace hx187_3 := (HB.out.cell (World.block_lt_of_cell? w _ hx187_3)).trans hx187_3
                    replace hx187_4 := (HB.out.cell (World.block_lt_of_cell? w _ hx187_4)).trans hx187_4
                    replace hx187_5 := (HB.out.cell (World.block_lt_of_cell? w _ hx187_5)).trans hx187_5
                    replace hx187_6 := (HB.out.cell (World.block_lt_of_cell? w _ hx187_6)).trans hx187_6
                    replace hx187_7 := (HB.out.cell (World.block_lt_of_cell? w _ hx187_7)).trans hx187_7
                    replace hx187_8 := (HB.out.cell (World.block_lt_of_cell? w _ hx187_8)).trans hx187_8
                    replace hx187_9 := (HB.out.cell (World.block_lt_of_cell? w _ hx187_9)).trans hx187_9
                    replace hx187_10 := (HB.out.cell (World.block_lt_of_cell? w _ hx187_10)).trans hx187_10
                    replace hx187_11 := (HB.out.cell (World.block_lt_of_cell? w _ hx187_11)).trans hx187_11
                    replace hx187_12 := (HB.out.cell (World.block_lt_of_cell? w _ hx187_12)).trans hx187_12
                    have HR187_11 := Aside0.mk hi187_11
                    have HC187_11 := Aside0.mk hl187_11
                    clear hi187_11 hl187_11
                    replace p187 := eq_true p187
                    replace q187 := eq_true q187
                    have ea_ := Option.some.inj (hx185_11.symm.trans hx187_11)
                    injection ea_ with ea_ en_ ec_
                    subst ea_
                    subst ec_
                    clear en_
                    refine start_ (n := 25) (S := fun w' => w'.cell? (ad185.add ((x5_2).toNat * 13)) = some (.int .i64 ((rd_T55 l0 x5_2).f0)) ∧ w'.cell? ⟨(ad185.add ((x5_2).toNat * 13)).block, (ad185.add ((x5_2).toNat * 13)).off + 1, none⟩ = some (.int .i64 ((rd_T55 l0 x5_2).f1)) ∧ w'.cell? ⟨(ad185.add ((x5_2).toNat * 13)).block, (ad185.add ((x5_2).toNat * 13)).off + 2, none⟩ = some (.string ((rd_T55 l0 x5_2).f2)) ∧ w'.cell? ⟨(ad185.add ((x5_2).toNat * 13)).block, (ad185.add ((x5_2).toNat * 13)).off + 3, none⟩ = some (.string ((rd_T55 l0 x5_2).f3)) ∧ w'.cell? ⟨(ad185.add ((x5_2).toNat * 13)).block, (ad185.add ((x5_2).toNat * 13)).off + 4, none⟩ = some (.int .i64 ((rd_T55 l0 x5_2).f4)) ∧ w'.cell? ⟨(ad185.add ((x5_2).toNat * 13)).block, (ad185.add ((x5_2).toNat * 13)).off + 5, none⟩ = some (.int .i64 ((rd_T55 l0 x5_2).f5.f0.f0)) ∧ w'.cell? ⟨(ad185.add ((x5_2).toNat * 13)).block, (ad185.add ((x5_2).toNat * 13)).off + 6, none⟩ = some (.int .i64 ((rd_T55 l0 x5_2).f5.f0.f1)) ∧ w'.cell? ⟨(ad185.add ((x5_2).toNat * 13)).block, (ad185.add ((x5_2).toNat * 13)).off + 7, none⟩ = some (.int .i64 ((rd_T55 l0 x5_2).f5.f0.f2)) ∧ w'.cell? ⟨(ad185.add ((x5_2).toNat * 13)).block, (ad185.add ((x5_2).toNat * 13)).off + 8, none⟩ = some (.int .i64 ((rd_T55 l0 x5_2).f5.f1.f0)) ∧ w'.cell? ⟨(ad185.add ((x5_2).toNat * 13)).block, (ad185.add ((x5_2).toNat * 13)).off + 9, none⟩ = some (.int .i64 ((rd_T55 l0 x5_2).f5.f1.f1)) ∧ w'.cell? ⟨(ad185.add ((x5_2).toNat * 13)).block, (ad185.add ((x5_2).toNat * 13)).off + 10, none⟩ = some (.int .i64 ((rd_T55 l0 x5_2).f5.f1.f2)) ∧ w'.cell? ⟨(ad185.add ((x5_2).toNat * 13)).block, (ad185.add ((x5_2).toNat * 13)).off + 11, none⟩ = some (.slice A185_11 ((rd_T55 l0 x5_2).f6).length c185_11) ∧ w'.cell? ⟨(ad185.add ((x5_2).toNat * 13)).block, (ad185.add ((x5_2).toNat * 13)).off + 12, none⟩ = some (.int .i64 ((rd_T55 l0 x5_2).f7)) ∧ w'.cell? (ad185.add ((x5_2).toNat * 13)) = some (.int .i64 ((rd_T55 l0 x5_2).f0)) ∧ w'.cell? ⟨(ad185.add ((x5_2).toNat * 13)).block, (ad185.add ((x5_2).toNat * 13)).off + 1, none⟩ = some (.int .i64 ((rd_T55 l0 x5_2).f1)) ∧ w'.cell? ⟨(ad185.add ((x5_2).toNat * 13)).block, (ad185.add ((x5_2).toNat * 13)).off + 2, none⟩ = some (.string ((rd_T55 l0 x5_2).f2)) ∧ w'.cell? ⟨(ad185.add ((x5_2).toNat * 13)).block, (ad185.add ((x5_2).toNat * 13)).off + 3, none⟩ = some (.string ((rd_T55 l0 x5_2).f3)) ∧ w'.cell? ⟨(ad185.add ((x5_2).toNat * 13)).block, (ad185.add ((x5_2).toNat * 13)).off + 4, none⟩ = some (.int .i64 ((rd_T55 l0 x5_2).f4)) ∧ w'.cell? ⟨(ad185.add ((x5_2).toNat * 13)).block, (ad185.add ((x5_2).toNat * 13)).off + 5, none⟩ = some (.int .i64 ((rd_T55 l0 x5_2).f5.f0.f0)) ∧ w'.cell? ⟨(ad185.add ((x5_2).toNat * 13)).block, (ad185.add ((x5_2).toNat * 13)).off + 6, none⟩ = some (.int .i64 ((rd_T55 l0 x5_2).f5.f0.f1)) ∧ w'.cell? ⟨(ad185.add ((x5_2).toNat * 13)).block, (ad185.add ((x5_2).toNat * 13)).off + 7, none⟩ = some (.int .i64 ((rd_T55 l0 x5_2).f5.f0.f2)) ∧ w'.cell? ⟨(ad185.add ((x5_2).toNat * 13)).block, (ad185.add ((x5_2).toNat * 13)).off + 8, none⟩ = some (.int .i64 ((rd_T55 l0 x5_2).f5.f1.f0)) ∧ w'.cell? ⟨(ad185.add ((x5_2).toNat * 13)).block, (ad185.add ((x5_2).toNat * 13)).off + 9, none⟩ = some (.int .i64 ((rd_T55 l0 x5_2).f5.f1.f1)) ∧ w'.cell? ⟨(ad185.add ((x5_2).toNat * 13)).block, (ad185.add ((x5_2).toNat * 13)).off + 10, none⟩ = some (.int .i64 ((rd_T55 l0 x5_2).f5.f1.f2)) ∧ w'.cell? ⟨(ad185.add ((x5_2).toNat * 13)).block, (ad185.add ((x5_2).toNat * 13)).off + 11, none⟩ = some (.slice A185_11 ((rd_T55 l0 x5_2).f6).length c185_11) ∧ w'.cell? ⟨(ad185.add ((x5_2).toNat * 13)).block, (ad185.add ((x5_2).toNat * 13)).off + 12, none⟩ = some (.int .i64 ((rd_T55 l0 x5_2).f7)) ∧ w'.cell? (ad185.add ((x5_2).toNat * 13)) = some (.int .i64 ((rd_T55 l0 x5_2).f0)) ∧ w'.cell? ⟨(ad185.add ((x5_2).toNat * 13)).block, (ad185.add ((x5_2).toNat * 13)).off + 1, none⟩ = some (.int .i64 ((rd_T55 l0 x5_2).f1)) ∧ w'.cell? ⟨(ad185.add ((x5_2).toNat * 13)).block, (ad185.add ((x5_2).toNat * 13)).off + 2, none⟩ = some (.string ((rd_T55 l0 x5_2).f2)) ∧ w'.cell? ⟨(ad185.add ((x5_2).toNat * 13)).block, (ad185.add ((x5_2).toNat * 13)).off + 3, none⟩ = some (.string ((rd_T55 l0 x5_2).f3)) ∧ w'.cell? ⟨(ad185.add ((x5_2).toNat * 13)).block, (ad185.add ((x5_2).toNat * 13)).off + 4, none⟩ = some (.int .i64 ((rd_T55 l0 x5_2).f4)) ∧ w'.cell? ⟨(ad185.add ((x5_2).toNat * 13)).block, (ad185.add ((x5_2).toNat * 13)).off + 5, none⟩ = some (.int .i64 ((rd_T55 l0 x5_2).f5.f0.f0)) ∧ w'.cell? ⟨(ad185.add ((x5_2).toNat * 13)).block, (ad185.add ((x5_2).toNat * 13)).off + 6, none⟩ = some (.int .i64 ((rd_T55 l0 x5_2).f5.f0.f1)) ∧ w'.cell? ⟨(ad185.add ((x5_2).toNat * 13)).block, (ad185.add ((x5_2).toNat * 13)).off + 7, none⟩ = some (.int .i64 ((rd_T55 l0 x5_2).f5.f0.f2)) ∧ w'.cell? ⟨(ad185.add ((x5_2).toNat * 13)).block, (ad185.add ((x5_2).toNat * 13)).off + 8, none⟩ = some (.int .i64 ((rd_T55 l0 x5_2).f5.f1.f0)) ∧ w'.cell? ⟨(ad185.add ((x5_2).toNat * 13)).block, (ad185.add ((x5_2).toNat * 13)).off + 9, none⟩ = some (.int .i64 ((rd_T55 l0 x5_2).f5.f1.f1)) ∧ w'.cell? ⟨(ad185.add ((x5_2).toNat * 13)).block, (ad185.add ((x5_2).toNat * 13)).off + 10, none⟩ = some (.int .i64 ((rd_T55 l0 x5_2).f5.f1.f2)) ∧ w'.cell? ⟨(ad185.add ((x5_2).toNat * 13)).block, (ad185.add ((x5_2).toNat * 13)).off + 11, none⟩ = some (.slice A185_11 ((rd_T55 l0 x5_2).f6).length c185_11) ∧ w'.cell? ⟨(ad185.add ((x5_2).toNat * 13)).block, (ad185.add ((x5_2).toNat * 13)).off + 12, none⟩ = some (.int .i64 ((rd_T55 l0 x5_2).f7))) (ds := []) #[false, false, false, false, false, false, false, false, false, false, false, false, false, false, false, false, false, false, false, false, false, false, false, false, false] (by kernel_rfl) rfl rfl ⟨((HB.out.cell (World.block_lt_of_cell? w _ hw185_0)).trans hw185_0), ((HB.out.cell (World.block_lt_of_cell? w _ hw185_1)).trans hw185_1), ((HB.out.cell (World.block_lt_of_cell? w _ hw185_2)).trans hw185_2), ((HB.out.cell (World.block_lt_of_cell? w _ hw185_3)).trans hw185_3), ((HB.out.cell (World.block_lt_of_cell? w _ hw185_4)).trans hw185_4), ((HB.out.cell (World.block_lt_of_cell? w _ hw185_5)).trans hw185_5), ((HB.out.cell (World.block_lt_of_cell? w _ hw185_6)).trans hw185_6), ((HB.out.cell (World.block_lt_of_cell? w _ hw185_7)).trans hw185_7), ((HB.out.cell (World.block_lt_of_cell? w _ hw185_8)).trans hw185_8), ((HB.out.cell (World.block_lt_of_cell? w _ hw185_9)).trans hw185_9), ((HB.out.cell (World.block_lt_of_cell? w _ hw185_10)).trans hw185_10), ((HB.out.cell (World.block_lt_of_cell? w _ hw185_11)).trans hw185_11), ((HB.out.cell (World.block_lt_of_cell? w _ hw185_12)).trans hw185_12), ((HB.out.cell (World.block_lt_of_cell? w _ hw186_0)).trans hw186_0), ((HB.out.cell (World.block_lt_of_cell? w _ hw186_1)).trans hw186_1), ((HB.out.cell (World.block_lt_of_cell? w _ hw186_2)).trans hw186_2), ((HB.out.cell (World.block_lt_of_cell? w _ hw186_3)).trans hw186_3), ((HB.out.cell (World.block_lt_of_cell? w _ hw186_4)).trans hw186_4), ((HB.out.cell (World.block_lt_of_cell? w _ hw186_5)).trans hw186_5), ((HB.out.cell (World.block_lt_of_cell? w _ hw186_6)).trans hw186_6), ((HB.out.cell (World.block_lt_of_cell? w _ hw186_7)).trans hw186_7), ((HB.out.cell (World.block_lt_of_cell? w _ hw186_8)).trans hw186_8), ((HB.out.cell (World.block_lt_of_cell? w _ hw186_9)).trans hw186_9), ((HB.out.cell (World.block_lt_of_cell? w _ hw186_10)).trans hw186_10), ((HB.out.cell (World.block_lt_of_cell? w _ hw186_11)).trans hw186_11), ((HB.out.cell (World.block_lt_of_cell? w _ hw186_12)).trans hw186_12), ((HB.out.cell (World.block_lt_of_cell? w _ hw187_0)).trans hw187_0), ((HB.out.cell (World.block_lt_of_cell? w _ hw187_1)).trans hw187_1), ((HB.out.cell (World.block_lt_of_cell? w _ hw187_2)).trans hw187_2), ((HB.out.cell (World.block_lt_of_cell? w _ hw187_3)).trans hw187_3), ((HB.out.cell (World.block_lt_of_cell? w _ hw187_4)).trans hw187_4), ((HB.out.cell (World.block_lt_of_cell? w _ hw187_5)).trans hw187_5), ((HB.out.cell (World.block_lt_of_cell? w _ hw187_6)).trans hw187_6), ((HB.out.cell (World.block_lt_of_cell? w _ hw187_7)).trans hw187_7), ((HB.out.cell (World.block_lt_of_cell? w _ hw187_8)).trans hw187_8), ((HB.out.cell (World.block_lt_of_cell? w _ hw187_9)).trans hw187_9), ((HB.out.cell (World.block_lt_of_cell? w _ hw187_10)).trans hw187_10), ((HB.out.cell (World.block_lt_of_cell? w _ hw187_11)).trans hw187_11), ((HB.out.cell (World.block_lt_of_cell? w _ hw187_12)).trans hw187_12)⟩ (fun hHeld => ?_); refine with_tabW ambidexterlaw11_Few.tab6 ambidexterlaw11_Few.bits6 (fun HT_ HW_ => ?_)
                    generalize wr.drew = w14 at HB HR185_11 HR186_11 HR187_11 hx185_0 hx185_1 hx185_10 hx185_11 hx185_12 hx185_2 hx185_3 hx185_4 hx185_5 hx185_6 hx185_7 hx185_8 hx185_9 hx186_0 hx186_1 hx186_10 hx186_11 hx186_12 hx186_2 hx186_3 hx186_4 hx186_5 hx186_6 hx186_7 hx186_8 hx186_9 hx187_0 hx187_1 hx187_10 hx187_11 hx187_12 hx187_2 hx187_3 hx187_4 hx187_5 hx187_6 hx187_7 hx187_8 hx187_9 hHeld ⊢
                    refine pure_ (i := 0) (N := some 19) (v := ?_) (a' := ?_) #[true, false, false, false, false, false, false, false, false, false, false, false, false, false, false, false, false, false, false, false, false, false, false, false, false] rfl rfl (any_of HT_.out (by kernel_rfl)) (fun _ _ _ h => h) (Or.inl ⟨by rfl, ?_⟩) ?_ ?_
                    rotate_left
                    · intro w'
                      go_simp
                      with_reducible rfl
                    rotate_left
                    · simp only [Act.put, List.setIfInBounds_toArray, List.set_cons_zero, List.set_cons_succ, i64_w, i32_w]
                      rfl
                    refine pure_ (i := 1) (N := some 20) (v := ?_) (a' := ?_) #[true, true, false, false, false, false, false, false, false, false, false, false, false, false, false, false, false, false, false, false, false, false, false, false, false] rfl rfl (any_of HT_.out (by kernel_rfl)) (fun _ _ _ h => h) (Or.inl ⟨by rfl, ?_⟩) ?_ ?_
                    rotate_left
                    · intro w'
                      go_simp
                      with_reducible rfl
                    rotate_left
                    · simp only [Act.put, List.setIfInBounds_toArray, List.set_cons_zero, List.set_cons_succ, i64_w, i32_w]
                      rfl
                    refine pure_ (i := 2) (N := some 21) (v := ?_) (a' := ?_) #[true, true, true, false, false, false, false, false, false, false, false, false, false, false, false, false, false, false, false, false, false, false, false, false, false] rfl rfl (any_of HT_.out (by kernel_rfl)) (fun _ _ _ h => h) (Or.inl ⟨by rfl, ?_⟩) ?_ ?_
                    rotate_left
                    · intro w'
                      go_simp
                      with_reducible rfl
                    rotate_left
                    · simp only [Act.put, List.setIfInBounds_toArray, List.set_cons_zero, List.set_cons_succ, i64_w, i32_w]
                      rfl
                    refine pure_ (i := 3) (N := some 22) (v := ?_) (a' := ?_) #[true, true, true, true, false, false, false, false, false, false, false, false, false, false, false, false, false, false, false, false, false, false, false, false, false] rfl rfl (any_of HT_.out (by kernel_rfl)) (fun _ _ _ h => h) (Or.inl ⟨by rfl, ?_⟩) ?_ ?_
                    rotate_left
                    · intro w'
                      go_simp
                      with_reducible rfl
                    rotate_left
                    · simp only [Act.put, List.setIfInBounds_toArray, List.set_cons_zero, List.set_cons_succ, i64_w, i32_w]
                      rfl
                    refine pure_ (i := 6) (N := some 25) (v := ?_) (a' := ?_) #[true, true, true, true, false, false, true, false, false, false, false, false, false, false, false, false, false, false, false, false, false, false, false, false, false] rfl rfl (any_of HT_.out (by kernel_rfl)) (fun _ _ _ h => h) (Or.inl ⟨by rfl, ?_⟩) ?_ ?_
                    rotate_left
                    · intro w'
                      go_simp
                      with_reducible rfl
                    rotate_left
                    · simp only [Act.put, List.setIfInBounds_toArray, List.set_cons_zero, List.set_cons_succ, i64_w, i32_w]
                      rfl
                    refine pure_ (i := 7) (N := some 26) (v := ?_) (a' := ?_) #[true, true, true, true, false, false, true, true, false, false, false, false, false, false, false, false, false, false, false, false, false, false, false, false, false] rfl rfl (any_of HT_.out (by kernel_rfl)) (fun _ _ _ h => h) (Or.inl ⟨by rfl, ?_⟩) ?_ ?_
                    rotate_left
                    · intro w'
                      go_simp
                      with_reducible rfl
                    rotate_left
                    · simp only [Act.put, List.setIfInBounds_toArray, List.set_cons_zero, List.set_cons_succ, i64_w, i32_w]
                      rfl
                    refine pure_ (i := 8) (N := some 27) (v := ?_) (a' := ?_) #[true, true, true, true, false, false, true, true, true, false, false, false, false, false, false, false, false, false, false, false, false, false, false, false, false] rfl rfl (any_of HT_.out (by kernel_rfl)) (fun _ _ _ h => h) (Or.inl ⟨by rfl, ?_⟩) ?_ ?_
                    rotate_left
                    · intro w'
                      go_simp
                      with_reducible rfl
                    rotate_left
                    · simp only [Act.put, List.setIfInBounds_toArray, List.set_cons_zero, List.set_cons_succ, i64_w, i32_w]
                      rfl
                    refine pure_ (i := 9) (N := some 28) (v := ?_) (a' := ?_) #[true, true, true, true, false, false, true, true, true, true, false, false, false, false, false, false, false, false, false, false, false, false, false, false, false] rfl rfl (any_of HT_.out (by kernel_rfl)) (fun _ _ _ h => h) (Or.inl ⟨by rfl, ?_⟩) ?_ ?_
                    rotate_left
                    · intro w'
                      go_simp
                      with_reducible rfl
                    rotate_left
                    · simp only [Act.put, List.setIfInBounds_toArray, List.set_cons_zero, List.set_cons_succ, i64_w, i32_w]
                      rfl
                    refine take_ (i := 4) (N := some 23) (v := ?_) (a' := ?_) #[true, true, true, true, true, false, true, true, true, true, false, false, false, false, false, false, false, false, false, false, false, false, false, false, false] rfl rfl (take_ofW HT_.out HW_.out (by kernel_rfl)) (fun _ _ _ h => h) (Or.inl ⟨by rfl, ?_⟩) hHeld ?_ ?_
                    rotate_left
                    · rintro w' ⟨s0, s1, s2, s3, s4, s5, s6, s7, s8, s9, s10, s11, s12, s13, s14, s15, s16, s17, s18, s19, s20, s21, s22, s23, s24, s25, s26, s27, s28, s29, s30, s31, s32, s33, s34, s35, s36, s37, s38⟩
                      go_simp
                      with_reducible rfl
                    rotate_left
                    · simp only [Act.put, List.setIfInBounds_toArray, List.set_cons_zero, List.set_cons_succ, i64_w, i32_w]
                      rfl
                    refine pure_ (i := 5) (N := some 24) (v := ?_) (a' := ?_) #[true, true, true, true, true, true, true, true, true, true, false, false, false, false, false, false, false, false, false, false, false, false, false, false, false] rfl rfl (any_of HT_.out (by kernel_rfl)) (fun _ _ _ h => h) (Or.inl ⟨by rfl, ?_⟩) ?_ ?_
                    rotate_left
                    · intro w'
                      go_simp
                      with_reducible rfl
                    rotate_left
                    · simp only [Act.put, List.setIfInBounds_toArray, List.set_cons_zero, List.set_cons_succ, i64_w, i32_w]
                      rfl
                    refine take_ (i := 10) (N := some 29) (v := ?_) (a' := ?_) #[true, true, true, true, true, true, true, true, true, true, true, false, false, false, false, false, false, false, false, false, false, false, false, false, false] rfl rfl (take_ofW HT_.out HW_.out (by kernel_rfl)) (fun _ _ _ h => h) (Or.inl ⟨by rfl, ?_⟩) hHeld ?_ ?_
                    rotate_left
                    · rintro w' ⟨s0, s1, s2, s3, s4, s5, s6, s7, s8, s9, s10, s11, s12, s13, s14, s15, s16, s17, s18, s19, s20, s21, s22, s23, s24, s25, s26, s27, s28, s29, s30, s31, s32, s33, s34, s35, s36, s37, s38⟩
                      go_simp
                      with_reducible rfl
                    rotate_left
                    · simp only [Act.put, List.setIfInBounds_toArray, List.set_cons_zero, List.set_cons_succ, i64_w, i32_w]
                      rfl
                    refine pure_ (i := 11) (N := some 30) (v := ?_) (a' := ?_) #[true, true, true, true, true, true, true, true, true, true, true, true, false, false, false, false, false, false, false, false, false, false, false, false, false] rfl rfl (any_of HT_.out (by kernel_rfl)) (fun _ _ _ h => h) (Or.inl ⟨by rfl, ?_⟩) ?_ ?_
                    rotate_left
                    · intro w'
                      go_simp
                      with_reducible rfl
                    rotate_left
                    · simp only [Act.put, List.setIfInBounds_toArray, List.set_cons_zero, List.set_cons_succ, i64_w, i32_w]
                      rfl
                    refine pure_ (i := 12) (N := some 31) (v := ?_) (a' := ?_) #[true, true, true, true, true, true, true, true, true, true, true, true, true, false, false, false, false, false, false, false, false, false, false, false, false] rfl rfl (any_of HT_.out (by kernel_rfl)) (fun _ _ _ h => h) (Or.inl ⟨by rfl, ?_⟩) ?_ ?_
                    rotate_left
                    · intro w'
                      go_simp
                      with_reducible rfl
                    rotate_left
                    · simp only [Act.put, List.setIfInBounds_toArray, List.set_cons_zero, List.set_cons_succ, i64_w, i32_w]
                      rfl
                    refine pure_ (i := 13) (N := some 32) (v := ?_) (a' := ?_) #[true, true, true, true, true, true, true, true, true, true, true, true, true, true, false, false, false, false, false, false, false, false, false, false, false] rfl rfl (any_of HT_.out (by kernel_rfl)) (fun _ _ _ h => h) (Or.inl ⟨by rfl, ?_⟩) ?_ ?_
                    rotate_left
                    · intro w'
                      go_simp
                      with_reducible rfl
                    rotate_left
                    · simp only [Act.put, List.setIfInBounds_toArray, List.set_cons_zero, List.set_cons_succ, i64_w, i32_w]
                      rfl
                    refine pure_ (i := 14) (N := some 33) (v := ?_) (a' := ?_) #[true, true, true, true, true, true, true, true, true, true, true, true, true, true, true, false, false, false, false, false, false, false, false, false, false] rfl rfl (any_of HT_.out (by kernel_rfl)) (fun _ _ _ h => h) (Or.inl ⟨by rfl, ?_⟩) ?_ ?_
                    rotate_left
                    · intro w'
                      go_simp
                      with_reducible rfl
                    rotate_left
                    · simp only [Act.put, List.setIfInBounds_toArray, List.set_cons_zero, List.set_cons_succ, i64_w, i32_w]
                      rfl
                    refine pure_ (i := 15) (N := some 34) (v := ?_) (a' := ?_) #[true, true, true, true, true, true, true, true, true, true, true, true, true, true, true, true, false, false, false, false, false, false, false, false, false] rfl rfl (any_of HT_.out (by kernel_rfl)) (fun _ _ _ h => h) (Or.inl ⟨by rfl, ?_⟩) ?_ ?_
                    rotate_left
                    · intro w'
                      go_simp
                      with_reducible rfl
                    rotate_left
                    · simp only [Act.put, List.setIfInBounds_toArray, List.set_cons_zero, List.set_cons_succ, i64_w, i32_w]
                      rfl
                    refine pure_ (i := 16) (N := some 35) (v := ?_) (a' := ?_) #[true, true, true, true, true, true, true, true, true, true, true, true, true, true, true, true, true, false, false, false, false, false, false, false, false] rfl rfl (any_of HT_.out (by kernel_rfl)) (fun _ _ _ h => h) (Or.inl ⟨by rfl, ?_⟩) ?_ ?_
                    rotate_left
                    · intro w'
                      go_simp
                      with_reducible rfl
                    rotate_left
                    · simp only [Act.put, List.setIfInBounds_toArray, List.set_cons_zero, List.set_cons_succ, i64_w, i32_w]
                      rfl
                    refine pure_ (i := 17) (N := some 36) (v := ?_) (a' := ?_) #[true, true, true, true, true, true, true, true, true, true, true, true, true, true, true, true, true, true, false, false, false, false, false, false, false] rfl rfl (any_of HT_.out (by kernel_rfl)) (fun _ _ _ h => h) (Or.inl ⟨by rfl, ?_⟩) ?_ ?_
                    rotate_left
                    · intro w'
                      go_simp
                      with_reducible rfl
                    rotate_left
                    · simp only [Act.put, List.setIfInBounds_toArray, List.set_cons_zero, List.set_cons_succ, i64_w, i32_w]
                      rfl
                    refine pure_ (i := 18) (N := some 37) (v := ?_) (a' := ?_) #[true, true, true, true, true, true, true, true, true, true, true, true, true, true, true, true, true, true, true, false, false, false, false, false, false] rfl rfl (any_of HT_.out (by kernel_rfl)) (fun _ _ _ h => h) (Or.inl ⟨by rfl, ?_⟩) ?_ ?_
                    rotate_left
                    · intro w'
                      go_simp
                      with_reducible rfl
                    rotate_left
                    · simp only [Act.put, List.setIfInBounds_toArray, List.set_cons_zero, List.set_cons_succ, i64_w, i32_w]
                      rfl
                    refine pure_ (i := 20) (N := some 39) (v := ?_) (a' := ?_) #[true, true, true, true, true, true, true, true, true, true, true, true, true, true, true, true, true, true, true, false, true, false, false, false, false] rfl rfl (any_of HT_.out (by kernel_rfl)) (fun _ _ _ h => h) (Or.inl ⟨by rfl, ?_⟩) ?_ ?_
                    rotate_left
                    · intro w'
                      go_simp
                      with_reducible rfl
                    rotate_left
                    · simp only [Act.put, List.setIfInBounds_toArray, List.set_cons_zero, List.set_cons_succ, i64_w, i32_w]
                      rfl
                    refine pure_ (i := 21) (N := some 40) (v := ?_) (a' := ?_) #[true, true, true, true, true, true, true, true, true, true, true, true, true, true, true, true, true, true, true, false, true, true, false, false, false] rfl rfl (any_of HT_.out (by kernel_rfl)) (fun _ _ _ h => h) (Or.inl ⟨by rfl, ?_⟩) ?_ ?_
                    rotate_left
                    · intro w'
                      go_simp
                      with_reducible rfl
                    rotate_left
                    · simp only [Act.put, List.setIfInBounds_toArray, List.set_cons_zero, List.set_cons_succ, i64_w, i32_w]
                      rfl
                    refine take_ (i := 19) (N := some 38) (v := ?_) (a' := ?_) #[true, true, true, true, true, true, true, true, true, true, true, true, true, true, true, true, true, true, true, true, true, true, false, false, false] rfl rfl (take_ofW HT_.out HW_.out (by kernel_rfl)) (fun _ _ _ h => h) (Or.inl ⟨by rfl, ?_⟩) hHeld ?_ ?_
                    rotate_left
                    · rintro w' ⟨s0, s1, s2, s3, s4, s5, s6, s7, s8, s9, s10, s11, s12, s13, s14, s15, s16, s17, s18, s19, s20, s21, s22, s23, s24, s25, s26, s27, s28, s29, s30, s31, s32, s33, s34, s35, s36, s37, s38⟩
                      go_simp
                      with_reducible rfl
                    rotate_left
                    · simp only [Act.put, List.setIfInBounds_toArray, List.set_cons_zero, List.set_cons_succ, i64_w, i32_w]
                      rfl
                    refine one_ (i := 22) (N := some 41) #[true, true, true, true, true, true, true, true, true, true, true, true, true, true, true, true, true, true, true, true, true, true, true, false, false] rfl rfl (one_of HT_.out (by kernel_rfl)) (by decide) (fun K hK => ?_)
                    refine goes_ Tryd.func10 (by kernel_rfl) rfl #[.slice A185_11 ((rd_T55 l0 x5_2).f6).length c185_11, .int .i64 (wrap64 (a1 + 1))] (by rfl) rfl rfl (by (try simp only [List.map_toArray, List.map_cons, List.map_nil]); first | done | rfl | (simp only [List.length_drop, List.length_take]; rfl)) ?_
                    with_reducible refine (ih k2 (by have := HJ2.out; have := HK2.out; omega) _ _ ((rd_T55 l0 x5_2).f6) (wrap64 (a1 + 1)) false _ ?side1 ?side2 A10.out).mono ?_
                    (case side1 => repeat (first | exact (Kd.C_below HR187_11.out HB.out) | (with_reducible refine Kd.C_alloc ?_ _) | (with_reducible refine Kd.C_drewN ?_ _) | (with_reducible refine Kd.C_drew ?_)))
                    (case side2 => exact HC187_11.out)
                    rintro e w15 ⟨rfl, hb⟩
                    refine ⟨_, rfl, ?_⟩
                    have n0_ := Aside0.mk (below_step (by repeat (first | (with_reducible first | exact HB.out | apply below_alloc | apply pw_below_drewN | apply below_drew1) | exact HB.out)) hb)
                    clear HB
                    have HB := n0_
                    clear n0_
                    (try clear hb)
                    (try clear hb2)
                    (try clear hk)
                    (try clear hi)
                    refine hK.out _ _ ⟨((HB.out.cell (World.block_lt_of_cell? w _ hw185_0)).trans hw185_0), ((HB.out.cell (World.block_lt_of_cell? w _ hw185_1)).trans hw185_1), ((HB.out.cell (World.block_lt_of_cell? w _ hw185_2)).trans hw185_2), ((HB.out.cell (World.block_lt_of_cell? w _ hw185_3)).trans hw185_3), ((HB.out.cell (World.block_lt_of_cell? w _ hw185_4)).trans hw185_4), ((HB.out.cell (World.block_lt_of_cell? w _ hw185_5)).trans hw185_5), ((HB.out.cell (World.block_lt_of_cell? w _ hw185_6)).trans hw185_6), ((HB.out.cell (World.block_lt_of_cell? w _ hw185_7)).trans hw185_7), ((HB.out.cell (World.block_lt_of_cell? w _ hw185_8)).trans hw185_8), ((HB.out.cell (World.block_lt_of_cell? w _ hw185_9)).trans hw185_9), ((HB.out.cell (World.block_lt_of_cell? w _ hw185_10)).trans hw185_10), ((HB.out.cell (World.block_lt_of_cell? w _ hw185_11)).trans hw185_11), ((HB.out.cell (World.block_lt_of_cell? w _ hw185_12)).trans hw185_12), ((HB.out.cell (World.block_lt_of_cell? w _ hw186_0)).trans hw186_0), ((HB.out.cell (World.block_lt_of_cell? w _ hw186_1)).trans hw186_1), ((HB.out.cell (World.block_lt_of_cell? w _ hw186_2)).trans hw186_2), ((HB.out.cell (World.block_lt_of_cell? w _ hw186_3)).trans hw186_3), ((HB.out.cell (World.block_lt_of_cell? w _ hw186_4)).trans hw186_4), ((HB.out.cell (World.block_lt_of_cell? w _ hw186_5)).trans hw186_5), ((HB.out.cell (World.block_lt_of_cell? w _ hw186_6)).trans hw186_6), ((HB.out.cell (World.block_lt_of_cell? w _ hw186_7)).trans hw186_7), ((HB.out.cell (World.block_lt_of_cell? w _ hw186_8)).trans hw186_8), ((HB.out.cell (World.block_lt_of_cell? w _ hw186_9)).trans hw186_9), ((HB.out.cell (World.block_lt_of_cell? w _ hw186_10)).trans hw186_10), ((HB.out.cell (World.block_lt_of_cell? w _ hw186_11)).trans hw186_11), ((HB.out.cell (World.block_lt_of_cell? w _ hw186_12)).trans hw186_12), ((HB.out.cell (World.block_lt_of_cell? w _ hw187_0)).trans hw187_0), ((HB.out.cell (World.block_lt_of_cell? w _ hw187_1)).trans hw187_1), ((HB.out.cell (World.block_lt_of_cell? w _ hw187_2)).trans hw187_2), ((HB.out.cell (World.block_lt_of_cell? w _ hw187_3)).trans hw187_3), ((HB.out.cell (World.block_lt_of_cell? w _ hw187_4)).trans hw187_4), ((HB.out.cell (World.block_lt_of_cell? w _ hw187_5)).trans hw187_5), ((HB.out.cell (World.block_lt_of_cell? w _ hw187_6)).trans hw187_6), ((HB.out.cell (World.block_lt_of_cell? w _ hw187_7)).trans hw187_7), ((HB.out.cell (World.block_lt_of_cell? w _ hw187_8)).trans hw187_8), ((HB.out.cell (World.block_lt_of_cell? w _ hw187_9)).trans hw187_9), ((HB.out.cell (World.block_lt_of_cell? w _ hw187_10)).trans hw187_10), ((HB.out.cell (World.block_lt_of_cell? w _ hw187_11)).trans hw187_11), ((HB.out.cell (World.block_lt_of_cell? w _ hw187_12)).trans hw187_12)⟩ (fun hHeld => ?_)
                    clear hK K
                    refine norm_ (a' := ?_) ?_ ?_
                    rotate_left
                    · show Act.put _ (some 41) _ = _
                      simp only [Act.put, List.setIfInBounds_toArray, List.set_cons_zero, List.set_cons_succ, i64_w, i32_w]
                      rfl
                    refine pure_ (i := 23) (N := some 42) (v := ?_) (a' := ?_) #[true, true, true, true, true, true, true, true, true, true, true, true, true, true, true, true, true, true, true, true, true, true, true, true, false] rfl rfl (any_of HT_.out (by kernel_rfl)) (fun _ _ _ h => h) (Or.inl ⟨by rfl, ?_⟩) ?_ ?_
                    rotate_left
                    · intro w'
                      go_simp
                      with_reducible rfl
                    rotate_left
                    · simp only [Act.put, List.setIfInBounds_toArray, List.set_cons_zero, List.set_cons_succ, i64_w, i32_w]
                      rfl
                    refine pure_ (i := 24) (N := some 43) (v := ?_) (a' := ?_) #[true, true, true, true, true, true, true, true, true, true, true, true, true, true, true, true, true, true, true, true, true, true, true, true, true] rfl rfl (any_of HT_.out (by kernel_rfl)) (fun _ _ _ h => h) (Or.inl ⟨by rfl, ?_⟩) ?_ ?_
                    rotate_left
                    · intro w'
                      go_simp
                      with_reducible rfl
                    rotate_left
                    · simp only [Act.put, List.setIfInBounds_toArray, List.set_cons_zero, List.set_cons_succ, i64_w, i32_w]
                      rfl
                    refine done_ (done_of HT_.out (by kernel_rfl)) ?_
                    try go_wp2
                    go_ret
                    exact ⟨by first | rfl | (simp [errW_none, errW_some] <;> rfl) | (simp [*, errW_none, errW_some] <;> rfl), by repeat (first | (with_reducible first | exact HB.out | apply below_alloc | apply pw_below_drewN | apply below_drew1) | exact HB.out)⟩
              · rw [if_neg c7] at H
                exact absurd H (by simp)
            · rw [if_neg c6] at H
              have c6b0 : decide (x5_2 < (l0.length : Int)) = false := decide_eq_false c6
              clear c6
              by_cases c16 : a1 > 0
              · rw [if_pos c16] at H
                have c16b0 : decide (0 < a1) = true := decide_eq_true c16
                clear c16
                obtain rfl := Option.some.inj H
                go_wp2
                go_ret
                exact ⟨by first | rfl | (simp [errW_none, errW_some] <;> rfl) | (simp [*, errW_none, errW_some] <;> rfl), by repeat (first | (with_reducible first | exact HB.out | apply below_alloc | apply pw_below_drewN | apply below_drew1) | exact HB.out)⟩
              · rw [if_neg c16] at H
                have c16b0 : decide (0 < a1) = false := decide_eq_false c16
                clear c16
                replace H := Option.bind_eq_some_iff.mp H
                obtain ⟨t189, A170, H⟩ := H
                replace H : (some (decide (t189 ≤ 100))) = some r := H
                have A17 := Aside0.mk A170
                clear A170
                obtain rfl := Option.some.inj H
                go_wp2_with (first | (go_at_call 16; (with_reducible refine (ambidexterref11_Count.calls k2 _ _ l0 t189 _ ?side1 ?side2 A17.out).mono ?_); (case side1 => repeat (first | exact (Kd.C_below HR0.out HB.out) | (with_reducible refine Kd.C_alloc ?_ _) | (with_reducible refine Kd.C_drewN ?_ _) | (with_reducible refine Kd.C_drew ?_))); (case side2 => exact HC0.out); rintro e w' ⟨rfl, ⟨nd, rfl⟩⟩))
                go_ret
                exact ⟨by first | rfl | (simp [errW_none, errW_some] <;> rfl) | (simp [*, errW_none, errW_some] <;> rfl), by repeat (first | (with_reducible first | exact HB.out | apply below_alloc | apply pw_below_drewN | apply below_drew1) | exact HB.out)⟩
end Go.Proofs.YtonhcfecfifghaaDoor.PPx
namespace Go.Proofs.YtonhcfecfifghaaDoor.PPx
open Go.RowKit Go.Proofs.YtonhcfecfifghaaDoorW.PrintWords Go.Proofs.YtonhcfecfifghaaDoorW.PrintLast Go.Proofs.YtonhcfecfifghaaDoorW.PrintMore
set_option linter.unusedVariables false
set_option linter.unusedSimpArgs false
def ambidexterlaw11_ParserRoundTrip.j0 : Nat → List (S55) → Bool → Bool → Option (Bool)
  | 0, _, _, _ => none
  | k + 1, x0, x3, x14 => if x14 = true then (some x3) else ((parser_Format.f k x0).bind fun t191 => ((parser_Parse.f k t191).bind fun bt192 => (if x3 = true then (if (bt192.2.length : Int) = 0 then ((parser_Equal.f k bt192.1 x0).bind fun t198 => (if t198 = true then ((ambidexterref11_Same.f k bt192.1 x0).bind fun t199 => (some t199)) else (some false))) else (some false)) else (some false))))
def ambidexterlaw11_ParserRoundTrip.f (k : Nat) (l0 : List (S55)) : Option (Bool) := (ambidexterlaw11_head.f).bind fun t188 => ((ambidexterlaw11_Few.f k l0 0).bind fun t189 => (if t189 = true then ((parser_Valid.f k l0).bind fun t190 => (ambidexterlaw11_ParserRoundTrip.j0 k l0 t188 (!t190))) else (ambidexterlaw11_ParserRoundTrip.j0 k l0 t188 true)))
theorem ambidexterlaw11_ParserRoundTrip.mono_l : ∀ k, (∀ y0 y1 y2, LeO (ambidexterlaw11_ParserRoundTrip.j0 k y0 y1 y2) (ambidexterlaw11_ParserRoundTrip.j0 (k + 1) y0 y1 y2))
  | 0 => fun _ _ _ r h => by simp [ambidexterlaw11_ParserRoundTrip.j0] at h
  | k + 1 => by
    have ih0 := ambidexterlaw11_ParserRoundTrip.mono_l k
    · intro y0 y1 y2
      unfold ambidexterlaw11_ParserRoundTrip.j0
      repeat' first
      | (with_reducible exact ih0 _ _ _)
      | (with_reducible exact ambidexterlaw11_Few.mono _ _ _)
      | (with_reducible exact ambidexterref11_Same.mono _ _ _)
      | (with_reducible exact parser_Equal.mono _ _ _)
      | (with_reducible exact parser_Format.mono _ _)
      | (with_reducible exact parser_Parse.mono _ _)
      | (with_reducible exact parser_Valid.mono _ _)
      | (with_reducible exact LeO.refl _)
      | (with_reducible exact LeO.none _)
      | (with_reducible refine LeO.ite ?_ ?_)
      | (with_reducible refine LeO.bind ?_ (fun _ => ?_))
      | exact ih0 _ _ _
      | exact ambidexterlaw11_Few.mono _ _ _
      | exact ambidexterref11_Same.mono _ _ _
      | exact parser_Equal.mono _ _ _
      | exact parser_Format.mono _ _
      | exact parser_Parse.mono _ _
      | exact parser_Valid.mono _ _
      | exact LeO.none _
      | refine LeO.ite ?_ ?_
      | refine LeO.bind ?_ (fun _ => ?_)
theorem ambidexterlaw11_ParserRoundTrip.mono : ∀ a0 k, LeO (ambidexterlaw11_ParserRoundTrip.f k a0) (ambidexterlaw11_ParserRoundTrip.f (k + 1) a0) := by
  intro a0 k
  have ih0 := ambidexterlaw11_ParserRoundTrip.mono_l k
  unfold ambidexterlaw11_ParserRoundTrip.f
  repeat' first
      | (with_reducible exact ih0 _ _ _)
      | (with_reducible exact ambidexterlaw11_Few.mono _ _ _)
      | (with_reducible exact ambidexterref11_Same.mono _ _ _)
      | (with_reducible exact parser_Equal.mono _ _ _)
      | (with_reducible exact parser_Format.mono _ _)
      | (with_reducible exact parser_Parse.mono _ _)
      | (with_reducible exact parser_Valid.mono _ _)
      | (with_reducible exact LeO.refl _)
      | (with_reducible exact LeO.none _)
      | (with_reducible refine LeO.ite ?_ ?_)
      | (with_reducible refine LeO.bind ?_ (fun _ => ?_))
      | exact ih0 _ _ _
      | exact ambidexterlaw11_Few.mono _ _ _
      | exact ambidexterref11_Same.mono _ _ _
      | exact parser_Equal.mono _ _ _
      | exact parser_Format.mono _ _
      | exact parser_Parse.mono _ _
      | exact parser_Valid.mono _ _
      | exact LeO.none _
      | refine LeO.ite ?_ ?_
      | refine LeO.bind ?_ (fun _ => ?_)
set_option maxHeartbeats 8000000 in
set_option maxRecDepth 100000 in
theorem ambidexterlaw11_ParserRoundTrip.calls (k : Nat) (A0 : Option Addr) (c0 : Nat) (l0 : List (S55)) (r : Bool) (w : World) (hr0 : Kd.C k55 w A0 l0.length l0) (hc0 : l0.length ≤ c0) (h : ambidexterlaw11_ParserRoundTrip.f k l0 = some r) (hG : Glob w) :
    Calls Tryd.prog 3 #[.slice A0 l0.length c0] w fun e w' => e = .returned (.bool r) ∧ Below w.heap.size w w' := by
  have HGL := Aside0.mk hG
  clear hG
  have HR0 := Aside0.mk hr0
  have HC0 := Aside0.mk hc0
  clear hr0 hc0
  have HB := Aside0.mk (Below.refl w.heap.size w)
  have H : ((ambidexterlaw11_head.f).bind fun t188 => ((ambidexterlaw11_Few.f k l0 0).bind fun t189 => (if t189 = true then ((parser_Valid.f k l0).bind fun t190 => (ambidexterlaw11_ParserRoundTrip.j0 k l0 t188 (!t190))) else (ambidexterlaw11_ParserRoundTrip.j0 k l0 t188 true)))) = some r := h
  clear h
  replace H := Option.bind_eq_some_iff.mp H
  obtain ⟨t188, A20, H⟩ := H
  replace H : ((ambidexterlaw11_Few.f k l0 0).bind fun t189 => (if t189 = true then ((parser_Valid.f k l0).bind fun t190 => (ambidexterlaw11_ParserRoundTrip.j0 k l0 t188 (!t190))) else (ambidexterlaw11_ParserRoundTrip.j0 k l0 t188 true))) = some r := H
  have A2 := Aside0.mk A20
  clear A20
  have HC3 := Aside0.mk H
  clear H
  go_enter Tryd.func3, Tryd.ntmps3
  go_upto_region 2 with (first | ((with_reducible refine gate_callee (f := 9) rfl ?_); refine goesL_ (some 6) rfl rfl Tryd.func9 (by kernel_rfl) rfl #[] rfl (by (try simp only [List.map_toArray, List.map_cons, List.map_nil]); first | done | rfl | (simp only [List.length_drop, List.length_take]; rfl)) ?_; (with_reducible refine (ambidexterlaw11_head.calls  t188 _ A2.out (HGL.out.below (by repeat (first | (with_reducible first | exact HB.out | apply below_alloc | apply pw_below_drewN | apply below_drew1) | exact HB.out)))).mono ?_); rintro e w4 ⟨rfl, hb⟩; refine ⟨_, rfl, ?_⟩; have n0_ := Aside0.mk (below_step (by repeat (first | (with_reducible first | exact HB.out | apply below_alloc | apply pw_below_drewN | apply below_drew1) | exact HB.out)) hb); clear HB; have HB := n0_; clear n0_; (try clear hb); (try clear hb2); (try clear hk); (try clear hi)))
  (try simp only [Act.put, List.setIfInBounds_toArray, List.set_cons_zero, List.set_cons_succ])
  go_cut [14] (fun v14 wc => ∃ (kq : Nat) (x14_2 : Bool), v14 = .bool x14_2 ∧ Aside0 (ambidexterlaw11_ParserRoundTrip.j0 kq l0 t188 x14_2 = some r) ∧ Aside0 (kq ≤ k) ∧ Aside0 (Below w.heap.size w wc))
  case first =>
    have H := HC3.out
    clear HC3
    replace H := Option.bind_eq_some_iff.mp H
    obtain ⟨t189, A50, H⟩ := H
    replace H : (if t189 = true then ((parser_Valid.f k l0).bind fun t190 => (ambidexterlaw11_ParserRoundTrip.j0 k l0 t188 (!t190))) else (ambidexterlaw11_ParserRoundTrip.j0 k l0 t188 true)) = some r := H
    have A5 := Aside0.mk A50
    clear A50
    by_cases c6 : t189 = true
    · subst c6
      have H1 : ((parser_Valid.f k l0).bind fun t190 => (ambidexterlaw11_ParserRoundTrip.j0 k l0 t188 (!t190))) = some r := by rw [if_pos rfl] at H; exact H
      clear H
      have H := H1
      clear H1
      replace H := Option.bind_eq_some_iff.mp H
      obtain ⟨t190, A70, H⟩ := H
      replace H : (ambidexterlaw11_ParserRoundTrip.j0 k l0 t188 (!t190)) = some r := H
      have A7 := Aside0.mk A70
      clear A70
      have H' := Aside0.mk H
      clear H
      go_wp2_with (first | ((with_reducible refine gate_callee (f := 10) rfl ?_); refine goesL_ (some 8) rfl rfl Tryd.func10 (by kernel_rfl) rfl #[.slice A0 l0.length c0, .int .i64 0] rfl (by (try simp only [List.map_toArray, List.map_cons, List.map_nil]); first | done | rfl | (simp only [List.length_drop, List.length_take]; rfl)) ?_; (with_reducible refine (ambidexterlaw11_Few.calls k _ _ l0 0 true _ ?side1 ?side2 A5.out).mono ?_); (case side1 => repeat (first | exact (Kd.C_below HR0.out HB.out) | (with_reducible refine Kd.C_alloc ?_ _) | (with_reducible refine Kd.C_drewN ?_ _) | (with_reducible refine Kd.C_drew ?_))); (case side2 => exact HC0.out); rintro e w8 ⟨rfl, hb⟩; refine ⟨_, rfl, ?_⟩; have n0_ := Aside0.mk (below_step (by repeat (first | (with_reducible first | exact HB.out | apply below_alloc | apply pw_below_drewN | apply below_drew1) | exact HB.out)) hb); clear HB; have HB := n0_; clear n0_; (try clear hb); (try clear hb2); (try clear hk); (try clear hi)) | (go_at_call 11; (with_reducible refine (parser_Valid.calls k _ _ l0 t190 _ ?side1 ?side2 A7.out (HGL.out.below (by repeat (first | (with_reducible first | exact HB.out | apply below_alloc | apply pw_below_drewN | apply below_drew1) | exact HB.out)))).mono ?_); (case side1 => repeat (first | exact (Kd.C_below HR0.out HB.out) | (with_reducible refine Kd.C_alloc ?_ _) | (with_reducible refine Kd.C_drewN ?_ _) | (with_reducible refine Kd.C_drew ?_))); (case side2 => exact HC0.out); rintro e w9 ⟨rfl, hb⟩; have n0_ := Aside0.mk (below_step (by repeat (first | (with_reducible first | exact HB.out | apply below_alloc | apply pw_below_drewN | apply below_drew1) | exact HB.out)) hb); clear HB; have HB := n0_; clear n0_; (try clear hb); (try clear hb2); (try clear hk); (try clear hi)))
      go_meet
      case rel => exact ⟨_, (!t190), (by first | rfl | (simp; done) | (simp [*]; done)), H', ⟨by first | omega | exact Nat.le_refl _⟩, ⟨by repeat (first | (with_reducible first | exact HB.out | apply below_alloc | apply pw_below_drewN | apply below_drew1) | exact HB.out)⟩⟩
    · replace c6 := Bool.eq_false_iff.mpr c6
      subst c6
      have H1 : (ambidexterlaw11_ParserRoundTrip.j0 k l0 t188 true) = some r := by rw [if_neg (show ¬ (false = true) by decide)] at H; exact H
      clear H
      have H := H1
      clear H1
      have H' := Aside0.mk H
      clear H
      go_wp2_with (first | ((with_reducible refine gate_callee (f := 10) rfl ?_); refine goesL_ (some 8) rfl rfl Tryd.func10 (by kernel_rfl) rfl #[.slice A0 l0.length c0, .int .i64 0] rfl (by (try simp only [List.map_toArray, List.map_cons, List.map_nil]); first | done | rfl | (simp only [List.length_drop, List.length_take]; rfl)) ?_; (with_reducible refine (ambidexterlaw11_Few.calls k _ _ l0 0 false _ ?side1 ?side2 A5.out).mono ?_); (case side1 => repeat (first | exact (Kd.C_below HR0.out HB.out) | (with_reducible refine Kd.C_alloc ?_ _) | (with_reducible refine Kd.C_drewN ?_ _) | (with_reducible refine Kd.C_drew ?_))); (case side2 => exact HC0.out); rintro e w10 ⟨rfl, hb⟩; refine ⟨_, rfl, ?_⟩; have n0_ := Aside0.mk (below_step (by repeat (first | (with_reducible first | exact HB.out | apply below_alloc | apply pw_below_drewN | apply below_drew1) | exact HB.out)) hb); clear HB; have HB := n0_; clear n0_; (try clear hb); (try clear hb2); (try clear hk); (try clear hi)))
      go_meet
      case rel => exact ⟨_, (true), (by first | rfl | (simp; done) | (simp [*]; done)), H', ⟨by first | omega | exact Nat.le_refl _⟩, ⟨by repeat (first | (with_reducible first | exact HB.out | apply below_alloc | apply pw_below_drewN | apply below_drew1) | exact HB.out)⟩⟩
  case rest =>
    clear HC3
    try clear c1
    try clear p2
    try clear c3
    try clear c6
    try clear c9
    try clear c10
    obtain ⟨kq, x14_2, rfl, HA, HJ2, HB⟩ := hcut
    cases kq with
    | zero => exact absurd HA.out (by simp [ambidexterlaw11_ParserRoundTrip.j0])
    | succ kj2 =>
      have H := HA.out
      clear HA
      simp only [ambidexterlaw11_ParserRoundTrip.j0] at H
      by_cases c11 : x14_2 = true
      · subst c11
        have H1 : (some t188) = some r := by rw [if_pos rfl] at H; exact H
        clear H
        have H := H1
        clear H1
        obtain rfl := Option.some.inj H
        go_wp2
        go_ret
        exact ⟨by first | rfl | (simp [errW_none, errW_some] <;> rfl) | (simp [*, errW_none, errW_some] <;> rfl), by repeat (first | (with_reducible first | exact HB.out | apply below_alloc | apply pw_below_drewN | apply below_drew1) | exact HB.out)⟩
      · replace c11 := Bool.eq_false_iff.mpr c11
        subst c11
        have H1 : ((parser_Format.f kj2 l0).bind fun t191 => ((parser_Parse.f kj2 t191).bind fun bt192 => (if t188 = true then (if (bt192.2.length : Int) = 0 then ((parser_Equal.f kj2 bt192.1 l0).bind fun t198 => (if t198 = true then ((ambidexterref11_Same.f kj2 bt192.1 l0).bind fun t199 => (some t199)) else (some false))) else (some false)) else (some false)))) = some r := by rw [if_neg (show ¬ (false = true) by decide)] at H; exact H
        clear H
        have H := H1
        clear H1
        replace H := Option.bind_eq_some_iff.mp H
        obtain ⟨t191, A120, H⟩ := H
        replace H : ((parser_Parse.f kj2 t191).bind fun bt192 => (if t188 = true then (if (bt192.2.length : Int) = 0 then ((parser_Equal.f kj2 bt192.1 l0).bind fun t198 => (if t198 = true then ((ambidexterref11_Same.f kj2 bt192.1 l0).bind fun t199 => (some t199)) else (some false))) else (some false)) else (some false))) = some r := H
        have A12 := Aside0.mk A120
        clear A120
        replace H := Option.bind_eq_some_iff.mp H
        obtain ⟨⟨t192, t193⟩, A130, H⟩ := H
        replace H : (if t188 = true then (if (t193.length : Int) = 0 then ((parser_Equal.f kj2 t192 l0).bind fun t198 => (if t198 = true then ((ambidexterref11_Same.f kj2 t192 l0).bind fun t199 => (some t199)) else (some false))) else (some false)) else (some false)) = some r := H
        have A13 := Aside0.mk A130
        clear A130
        by_cases c14 : t188 = true
        · subst c14
          have H1 : (if (t193.length : Int) = 0 then ((parser_Equal.f kj2 t192 l0).bind fun t198 => (if t198 = true then ((ambidexterref11_Same.f kj2 t192 l0).bind fun t199 => (some t199)) else (some false))) else (some false)) = some r := by rw [if_pos rfl] at H; exact H
          clear H
          have H := H1
          clear H1
          by_cases c15 : (t193.length : Int) = 0
          · rw [if_pos c15] at H
            have c15b0 : ((t193.length : Int) == 0) = true := beq_iff_eq.mpr c15
            have c15b1 : ((t193.length : Int) != 0) = false := bne_eq_false_iff_eq.mpr c15
            clear c15
            replace H := Option.bind_eq_some_iff.mp H
            obtain ⟨t198, A160, H⟩ := H
            replace H : (if t198 = true then ((ambidexterref11_Same.f kj2 t192 l0).bind fun t199 => (some t199)) else (some false)) = some r := H
            have A16 := Aside0.mk A160
            clear A160
            by_cases c17 : t198 = true
            · subst c17
              have H1 : ((ambidexterref11_Same.f kj2 t192 l0).bind fun t199 => (some t199)) = some r := by rw [if_pos rfl] at H; exact H
              clear H
              have H := H1
              clear H1
              replace H := Option.bind_eq_some_iff.mp H
              obtain ⟨t199, A180, H⟩ := H
              replace H : (some t199) = some r := H
              have A18 := Aside0.mk A180
              clear A180
              obtain rfl := Option.some.inj H
              go_wp2_with (first | ((with_reducible refine gate_callee (f := 13) rfl ?_); refine goesL_ (some 18) rfl rfl Tryd.func13 (by kernel_rfl) rfl #[.slice A0 l0.length c0] rfl (by (try simp only [List.map_toArray, List.map_cons, List.map_nil]); first | done | rfl | (simp only [List.length_drop, List.length_take]; rfl)) ?_; (with_reducible refine (parser_Format.calls kj2 _ _ l0 t191 _ ?side1 ?side2 A12.out (HGL.out.below (by repeat (first | (with_reducible first | exact HB.out | apply below_alloc | apply pw_below_drewN | apply below_drew1) | exact HB.out)))).mono ?_); (case side1 => repeat (first | exact (Kd.C_below HR0.out HB.out) | (with_reducible refine Kd.C_alloc ?_ _) | (with_reducible refine Kd.C_drewN ?_ _) | (with_reducible refine Kd.C_drew ?_))); (case side2 => exact HC0.out); rintro e w19 ⟨rfl, hb⟩; refine ⟨_, rfl, ?_⟩; have n0_ := Aside0.mk (below_step (by repeat (first | (with_reducible first | exact HB.out | apply below_alloc | apply pw_below_drewN | apply below_drew1) | exact HB.out)) hb); clear HB; have HB := n0_; clear n0_; (try clear hb); (try clear hb2); (try clear hk); (try clear hi)) | ((with_reducible refine gate_callee (f := 12) rfl ?_); refine goesL_ (some 19) rfl rfl Tryd.func12 (by kernel_rfl) rfl #[.string t191] rfl (by (try simp only [List.map_toArray, List.map_cons, List.map_nil]); first | done | rfl | (simp only [List.length_drop, List.length_take]; rfl)) ?_; (with_reducible refine (parser_Parse.calls kj2 t191 t192 t193 _ A13.out (HGL.out.below (by repeat (first | (with_reducible first | exact HB.out | apply below_alloc | apply pw_below_drewN | apply below_drew1) | exact HB.out)))).mono ?_); rintro e w20 ⟨v194, v196, rfl, ho0, ho1, hb⟩; refine ⟨_, rfl, ?_⟩; have n0_ := Aside0.mk (Kd.R_lower ho0 (below_size (by repeat (first | (with_reducible first | exact HB.out | apply below_alloc | apply pw_below_drewN | apply below_drew1) | exact HB.out)))); have n1_ := Aside0.mk (Kd.R_lower ho1 (below_size (by repeat (first | (with_reducible first | exact HB.out | apply below_alloc | apply pw_below_drewN | apply below_drew1) | exact HB.out)))); have n2_ := Aside0.mk (below_step (by repeat (first | (with_reducible first | exact HB.out | apply below_alloc | apply pw_below_drewN | apply below_drew1) | exact HB.out)) hb); clear HB; have HO195 := n0_; have HO197 := n1_; have HB := n2_; clear n0_ n1_ n2_; (try clear hb); (try clear hb2); (try clear hk); (try clear hi); (try clear ho0); (try clear ho1); obtain ⟨Ao21, co21, eo21⟩ := Kd.R_slice HO197.out; subst eo21; obtain ⟨Ao22, co22, eo22⟩ := Kd.R_slice HO195.out; subst eo22) | (go_at_call 14; (with_reducible refine (parser_Equal.calls kj2 _ _ t192 _ _ l0 true _ ?side1 ?side2 ?side3 ?side4 A16.out).mono ?_); (case side1 => repeat (first | exact (Kd.R_reads' HO195.out).2.2 | (with_reducible refine Kd.C_alloc ?_ _) | (with_reducible refine Kd.C_drewN ?_ _) | (with_reducible refine Kd.C_drew ?_))); (case side2 => exact (Kd.R_reads' HO195.out).2.1); (case side3 => repeat (first | exact (Kd.C_below HR0.out HB.out) | (with_reducible refine Kd.C_alloc ?_ _) | (with_reducible refine Kd.C_drewN ?_ _) | (with_reducible refine Kd.C_drew ?_))); (case side4 => exact HC0.out); rintro e w23 ⟨rfl, hb⟩; have n0_ := Aside0.mk (Kd.R_below (by (with_reducible repeat (first | apply Kd.R_alloc | apply Kd.R_drewN | apply Kd.R_drew)); exact HO195.out) hb); have n1_ := Aside0.mk (Kd.R_below (by (with_reducible repeat (first | apply Kd.R_alloc | apply Kd.R_drewN | apply Kd.R_drew)); exact HO197.out) hb); have n2_ := Aside0.mk (below_step (by repeat (first | (with_reducible first | exact HB.out | apply below_alloc | apply pw_below_drewN | apply below_drew1) | exact HB.out)) hb); clear HO195; clear HO197; clear HB; have HO195 := n0_; have HO197 := n1_; have HB := n2_; clear n0_ n1_ n2_; (try clear hb); (try clear hb2); (try clear hk); (try clear hi)) | (go_at_call 15; (with_reducible refine (ambidexterref11_Same.calls kj2 _ _ t192 _ _ l0 t199 _ ?side1 ?side2 ?side3 ?side4 A18.out).mono ?_); (case side1 => repeat (first | exact (Kd.R_reads' HO195.out).2.2 | (with_reducible refine Kd.C_alloc ?_ _) | (with_reducible refine Kd.C_drewN ?_ _) | (with_reducible refine Kd.C_drew ?_))); (case side2 => exact (Kd.R_reads' HO195.out).2.1); (case side3 => repeat (first | exact (Kd.C_below HR0.out HB.out) | (with_reducible refine Kd.C_alloc ?_ _) | (with_reducible refine Kd.C_drewN ?_ _) | (with_reducible refine Kd.C_drew ?_))); (case side4 => exact HC0.out); rintro e w24 ⟨rfl, hb⟩; have n0_ := Aside0.mk (Kd.R_below (by (with_reducible repeat (first | apply Kd.R_alloc | apply Kd.R_drewN | apply Kd.R_drew)); exact HO195.out) hb); have n1_ := Aside0.mk (Kd.R_below (by (with_reducible repeat (first | apply Kd.R_alloc | apply Kd.R_drewN | apply Kd.R_drew)); exact HO197.out) hb); have n2_ := Aside0.mk (below_step (by repeat (first | (with_reducible first | exact HB.out | apply below_alloc | apply pw_below_drewN | apply below_drew1) | exact HB.out)) hb); clear HO195; clear HO197; clear HB; have HO195 := n0_; have HO197 := n1_; have HB := n2_; clear n0_ n1_ n2_; (try clear hb); (try clear hb2); (try clear hk); (try clear hi)))
              go_ret
              exact ⟨by first | rfl | (simp [errW_none, errW_some] <;> rfl) | (simp [*, errW_none, errW_some] <;> rfl), by repeat (first | (with_reducible first | exact HB.out | apply below_alloc | apply pw_below_drewN | apply below_drew1) | exact HB.out)⟩
            · replace c17 := Bool.eq_false_iff.mpr c17
              subst c17
              have H1 : (some false) = some r := by rw [if_neg (show ¬ (false = true) by decide)] at H; exact H
              clear H
              have H := H1
              clear H1
              obtain rfl := Option.some.inj H
              go_wp2_with (first | ((with_reducible refine gate_callee (f := 13) rfl ?_); refine goesL_ (some 18) rfl rfl Tryd.func13 (by kernel_rfl) rfl #[.slice A0 l0.length c0] rfl (by (try simp only [List.map_toArray, List.map_cons, List.map_nil]); first | done | rfl | (simp only [List.length_drop, List.length_take]; rfl)) ?_; (with_reducible refine (parser_Format.calls kj2 _ _ l0 t191 _ ?side1 ?side2 A12.out (HGL.out.below (by repeat (first | (with_reducible first | exact HB.out | apply below_alloc | apply pw_below_drewN | apply below_drew1) | exact HB.out)))).mono ?_); (case side1 => repeat (first | exact (Kd.C_below HR0.out HB.out) | (with_reducible refine Kd.C_alloc ?_ _) | (with_reducible refine Kd.C_drewN ?_ _) | (with_reducible refine Kd.C_drew ?_))); (case side2 => exact HC0.out); rintro e w25 ⟨rfl, hb⟩; refine ⟨_, rfl, ?_⟩; have n0_ := Aside0.mk (below_step (by repeat (first | (with_reducible first | exact HB.out | apply below_alloc | apply pw_below_drewN | apply below_drew1) | exact HB.out)) hb); clear HB; have HB := n0_; clear n0_; (try clear hb); (try clear hb2); (try clear hk); (try clear hi)) | ((with_reducible refine gate_callee (f := 12) rfl ?_); refine goesL_ (some 19) rfl rfl Tryd.func12 (by kernel_rfl) rfl #[.string t191] rfl (by (try simp only [List.map_toArray, List.map_cons, List.map_nil]); first | done | rfl | (simp only [List.length_drop, List.length_take]; rfl)) ?_; (with_reducible refine (parser_Parse.calls kj2 t191 t192 t193 _ A13.out (HGL.out.below (by repeat (first | (with_reducible first | exact HB.out | apply below_alloc | apply pw_below_drewN | apply below_drew1) | exact HB.out)))).mono ?_); rintro e w26 ⟨v194, v196, rfl, ho0, ho1, hb⟩; refine ⟨_, rfl, ?_⟩; have n0_ := Aside0.mk (Kd.R_lower ho0 (below_size (by repeat (first | (with_reducible first | exact HB.out | apply below_alloc | apply pw_below_drewN | apply below_drew1) | exact HB.out)))); have n1_ := Aside0.mk (Kd.R_lower ho1 (below_size (by repeat (first | (with_reducible first | exact HB.out | apply below_alloc | apply pw_below_drewN | apply below_drew1) | exact HB.out)))); have n2_ := Aside0.mk (below_step (by repeat (first | (with_reducible first | exact HB.out | apply below_alloc | apply pw_below_drewN | apply below_drew1) | exact HB.out)) hb); clear HB; have HO195 := n0_; have HO197 := n1_; have HB := n2_; clear n0_ n1_ n2_; (try clear hb); (try clear hb2); (try clear hk); (try clear hi); (try clear ho0); (try clear ho1); obtain ⟨Ao27, co27, eo27⟩ := Kd.R_slice HO197.out; subst eo27; obtain ⟨Ao28, co28, eo28⟩ := Kd.R_slice HO195.out; subst eo28) | (go_at_call 14; (with_reducible refine (parser_Equal.calls kj2 _ _ t192 _ _ l0 false _ ?side1 ?side2 ?side3 ?side4 A16.out).mono ?_); (case side1 => repeat (first | exact (Kd.R_reads' HO195.out).2.2 | (with_reducible refine Kd.C_alloc ?_ _) | (with_reducible refine Kd.C_drewN ?_ _) | (with_reducible refine Kd.C_drew ?_))); (case side2 => exact (Kd.R_reads' HO195.out).2.1); (case side3 => repeat (first | exact (Kd.C_below HR0.out HB.out) | (with_reducible refine Kd.C_alloc ?_ _) | (with_reducible refine Kd.C_drewN ?_ _) | (with_reducible refine Kd.C_drew ?_))); (case side4 => exact HC0.out); rintro e w29 ⟨rfl, hb⟩; have n0_ := Aside0.mk (Kd.R_below (by (with_reducible repeat (first | apply Kd.R_alloc | apply Kd.R_drewN | apply Kd.R_drew)); exact HO195.out) hb); have n1_ := Aside0.mk (Kd.R_below (by (with_reducible repeat (first | apply Kd.R_alloc | apply Kd.R_drewN | apply Kd.R_drew)); exact HO197.out) hb); have n2_ := Aside0.mk (below_step (by repeat (first | (with_reducible first | exact HB.out | apply below_alloc | apply pw_below_drewN | apply below_drew1) | exact HB.out)) hb); clear HO195; clear HO197; clear HB; have HO195 := n0_; have HO197 := n1_; have HB := n2_; clear n0_ n1_ n2_; (try clear hb); (try clear hb2); (try clear hk); (try clear hi)))
              go_ret
              exact ⟨by first | rfl | (simp [errW_none, errW_some] <;> rfl) | (simp [*, errW_none, errW_some] <;> rfl), by repeat (first | (with_reducible first | exact HB.out | apply below_alloc | apply pw_below_drewN | apply below_drew1) | exact HB.out)⟩
          · rw [if_neg c15] at H
            have c15b0 : ((t193.length : Int) == 0) = false := beq_eq_false_iff_ne.mpr c15
            have c15b1 : ((t193.length : Int) != 0) = true := bne_iff_ne.mpr c15
            have c15b2 : ¬ (t193 = []) := fun h_ => c15 (by rw [h_]; rfl)
            obtain rfl := Option.some.inj H
            go_wp2_with (first | ((with_reducible refine gate_callee (f := 13) rfl ?_); refine goesL_ (some 18) rfl rfl Tryd.func13 (by kernel_rfl) rfl #[.slice A0 l0.length c0] rfl (by (try simp only [List.map_toArray, List.map_cons, List.map_nil]); first | done | rfl | (simp only [List.length_drop, List.length_take]; rfl)) ?_; (with_reducible refine (parser_Format.calls kj2 _ _ l0 t191 _ ?side1 ?side2 A12.out (HGL.out.below (by repeat (first | (with_reducible first | exact HB.out | apply below_alloc | apply pw_below_drewN | apply below_drew1) | exact HB.out)))).mono ?_); (case side1 => repeat (first | exact (Kd.C_below HR0.out HB.out) | (with_reducible refine Kd.C_alloc ?_ _) | (with_reducible refine Kd.C_drewN ?_ _) | (with_reducible refine Kd.C_drew ?_))); (case side2 => exact HC0.out); rintro e w30 ⟨rfl, hb⟩; refine ⟨_, rfl, ?_⟩; have n0_ := Aside0.mk (below_step (by repeat (first | (with_reducible first | exact HB.out | apply below_alloc | apply pw_below_drewN | apply below_drew1) | exact HB.out)) hb); clear HB; have HB := n0_; clear n0_; (try clear hb); (try clear hb2); (try clear hk); (try clear hi)) | ((with_reducible refine gate_callee (f := 12) rfl ?_); refine goesL_ (some 19) rfl rfl Tryd.func12 (by kernel_rfl) rfl #[.string t191] rfl (by (try simp only [List.map_toArray, List.map_cons, List.map_nil]); first | done | rfl | (simp only [List.length_drop, List.length_take]; rfl)) ?_; (with_reducible refine (parser_Parse.calls kj2 t191 t192 t193 _ A13.out (HGL.out.below (by repeat (first | (with_reducible first | exact HB.out | apply below_alloc | apply pw_below_drewN | apply below_drew1) | exact HB.out)))).mono ?_); rintro e w31 ⟨v194, v196, rfl, ho0, ho1, hb⟩; refine ⟨_, rfl, ?_⟩; have n0_ := Aside0.mk (Kd.R_lower ho0 (below_size (by repeat (first | (with_reducible first | exact HB.out | apply below_alloc | apply pw_below_drewN | apply below_drew1) | exact HB.out)))); have n1_ := Aside0.mk (Kd.R_lower ho1 (below_size (by repeat (first | (with_reducible first | exact HB.out | apply below_alloc | apply pw_below_drewN | apply below_drew1) | exact HB.out)))); have n2_ := Aside0.mk (below_step (by repeat (first | (with_reducible first | exact HB.out | apply below_alloc | apply pw_below_drewN | apply below_drew1) | exact HB.out)) hb); clear HB; have HO195 := n0_; have HO197 := n1_; have HB := n2_; clear n0_ n1_ n2_; (try clear hb); (try clear hb2); (try clear hk); (try clear hi); (try clear ho0); (try clear ho1); obtain ⟨Ao32, co32, eo32⟩ := Kd.R_slice HO197.out; subst eo32))
            go_ret
            exact ⟨by first | rfl | (simp [errW_none, errW_some] <;> rfl) | (simp [*, errW_none, errW_some] <;> rfl), by repeat (first | (with_reducible first | exact HB.out | apply below_alloc | apply pw_below_drewN | apply below_drew1) | exact HB.out)⟩
        · replace c14 := Bool.eq_false_iff.mpr c14
          subst c14
          have H1 : (some false) = some r := by rw [if_neg (show ¬ (false = true) by decide)] at H; exact H
          clear H
          have H := H1
          clear H1
          obtain rfl := Option.some.inj H
          go_wp2_with (first | ((with_reducible refine gate_callee (f := 13) rfl ?_); refine goesL_ (some 18) rfl rfl Tryd.func13 (by kernel_rfl) rfl #[.slice A0 l0.length c0] rfl (by (try simp only [List.map_toArray, List.map_cons, List.map_nil]); first | done | rfl | (simp only [List.length_drop, List.length_take]; rfl)) ?_; (with_reducible refine (parser_Format.calls kj2 _ _ l0 t191 _ ?side1 ?side2 A12.out (HGL.out.below (by repeat (first | (with_reducible first | exact HB.out | apply below_alloc | apply pw_below_drewN | apply below_drew1) | exact HB.out)))).mono ?_); (case side1 => repeat (first | exact (Kd.C_below HR0.out HB.out) | (with_reducible refine Kd.C_alloc ?_ _) | (with_reducible refine Kd.C_drewN ?_ _) | (with_reducible refine Kd.C_drew ?_))); (case side2 => exact HC0.out); rintro e w33 ⟨rfl, hb⟩; refine ⟨_, rfl, ?_⟩; have n0_ := Aside0.mk (below_step (by repeat (first | (with_reducible first | exact HB.out | apply below_alloc | apply pw_below_drewN | apply below_drew1) | exact HB.out)) hb); clear HB; have HB := n0_; clear n0_; (try clear hb); (try clear hb2); (try clear hk); (try clear hi)) | ((with_reducible refine gate_callee (f := 12) rfl ?_); refine goesL_ (some 19) rfl rfl Tryd.func12 (by kernel_rfl) rfl #[.string t191] rfl (by (try simp only [List.map_toArray, List.map_cons, List.map_nil]); first | done | rfl | (simp only [List.length_drop, List.length_take]; rfl)) ?_; (with_reducible refine (parser_Parse.calls kj2 t191 t192 t193 _ A13.out (HGL.out.below (by repeat (first | (with_reducible first | exact HB.out | apply below_alloc | apply pw_below_drewN | apply below_drew1) | exact HB.out)))).mono ?_); rintro e w34 ⟨v194, v196, rfl, ho0, ho1, hb⟩; refine ⟨_, rfl, ?_⟩; have n0_ := Aside0.mk (Kd.R_lower ho0 (below_size (by repeat (first | (with_reducible first | exact HB.out | apply below_alloc | apply pw_below_drewN | apply below_drew1) | exact HB.out)))); have n1_ := Aside0.mk (Kd.R_lower ho1 (below_size (by repeat (first | (with_reducible first | exact HB.out | apply below_alloc | apply pw_below_drewN | apply below_drew1) | exact HB.out)))); have n2_ := Aside0.mk (below_step (by repeat (first | (with_reducible first | exact HB.out | apply below_alloc | apply pw_below_drewN | apply below_drew1) | exact HB.out)) hb); clear HB; have HO195 := n0_; have HO197 := n1_; have HB := n2_; clear n0_ n1_ n2_; (try clear hb); (try clear hb2); (try clear hk); (try clear hi); (try clear ho0); (try clear ho1)))
          go_ret
          exact ⟨by first | rfl | (simp [errW_none, errW_some] <;> rfl) | (simp [*, errW_none, errW_some] <;> rfl), by repeat (first | (with_reducible first | exact HB.out | apply below_alloc | apply pw_below_drewN | apply below_drew1) | exact HB.out)⟩
end Go.Proofs.YtonhcfecfifghaaDoor.PPx
namespace Go.Proofs.YtonhcfecfifghaaDoor.PPx
open Go.RowKit Go.Proofs.YtonhcfecfifghaaDoorW.PrintWords Go.Proofs.YtonhcfecfifghaaDoorW.PrintLast Go.Proofs.YtonhcfecfifghaaDoorW.PrintMore
set_option linter.unusedVariables false
/-- what the walk needs of the program's types -/
structure Ty (P : Program) : Prop where
  u3 : P.underlying 3 = some (.int .i64)
  u9 : P.underlying 9 = some .string
  uS : P.underlying 22 = some (.slice 55)
  uJ : P.underlying 52 = some (.array 3 3)
  uA : P.underlying 53 = some (.array 2 52)
  uT : P.underlying 55 = some (.struct #[{ name := "Kind", type := 3, offset := 0, embedded := false, tag := "", pkgPath := "", byteOffset := 0 }, { name := "Arm", type := 3, offset := 1, embedded := false, tag := "", pkgPath := "", byteOffset := 8 }, { name := "Part", type := 9, offset := 2, embedded := false, tag := "", pkgPath := "", byteOffset := 16 }, { name := "Place", type := 9, offset := 3, embedded := false, tag := "", pkgPath := "", byteOffset := 32 }, { name := "N", type := 3, offset := 4, embedded := false, tag := "", pkgPath := "", byteOffset := 48 }, { name := "To", type := 53, offset := 5, embedded := false, tag := "", pkgPath := "", byteOffset := 56 }, { name := "Kids", type := 22, offset := 11, embedded := false, tag := "", pkgPath := "", byteOffset := 104 }, { name := "At", type := 3, offset := 12, embedded := false, tag := "", pkgPath := "", byteOffset := 128 }])
  c3 : P.cellsOf 3 = 1
  c9 : P.cellsOf 9 = 1
  cS : P.cellsOf 22 = 1
  cJ : P.cellsOf 52 = 3
  cA : P.cellsOf 53 = 6
  cT : P.cellsOf 55 = 13
theorem ty : Ty Tryd.prog := ⟨Tryd.underlying3, Tryd.underlying9, Tryd.underlying22, Tryd.underlying52, Tryd.underlying53, Tryd.underlying55, by kernel_rfl, by kernel_rfl, by kernel_rfl, by kernel_rfl, by kernel_rfl, by kernel_rfl⟩
section
variable {H : Type} {enc : TypeId × Value → H} {P : Program} {W : World} {base : Nat} {sp : Nat → Bool} {held : Bool}
theorem add_add_ (a : Addr) (i j : Nat) : a.add (i + j) = (a.add i).add j := by
  obtain ⟨b, o, s⟩ := a
  unfold Addr.add
  by_cases hi : i = 0
  · subst hi; simp
  · by_cases hj : j = 0
    · subst hj; simp
    · simp [hi, hj, Nat.add_assoc]
theorem get_some {α : Type} {xs : List α} {n i : Nat} (h : xs.length = n) (hi : i < n) : ∃ y, xs[i]? = some y := ⟨xs[i], List.getElem?_eq_getElem (by omega)⟩
theorem len3 {cs : List Value} (h : cs.length = 3) : ∃ a b c, cs = [a, b, c] := by
  match cs, h with
  | [a, b, c], _ => exact ⟨a, b, c, rfl⟩
theorem len6 {cs : List Value} (h : cs.length = 6) : ∃ a b c d e f, cs = [a, b, c, d, e, f] := by
  match cs, h with
  | [a, b, c, d, e, f], _ => exact ⟨a, b, c, d, e, f, rfl⟩
theorem len13 {cs : List Value} (h : cs.length = 13) : ∃ a b c d e f g h i j k l m, cs = [a, b, c, d, e, f, g, h, i, j, k, l, m] := by
  match cs, h with
  | [a, b, c, d, e, f, g, h, i, j, k, l, m], _ => exact ⟨a, b, c, d, e, f, g, h, i, j, k, l, m, rfl⟩
theorem open_one (T : Ty P) {n : Nat} {u : Value} {x : DataW H × List MemPlace} (h : DataW.trod enc P W base sp held n 3 [u] = some x) : ∃ a, u = .int .i64 a := by
  obtain ⟨a, ha, _, _⟩ := DataW.trod_int T.u3 h
  exact ⟨a, by simpa using ha⟩
theorem open_str (T : Ty P) {n : Nat} {u : Value} {x : DataW H × List MemPlace} (h : DataW.trod enc P W base sp held n 9 [u] = some x) : ∃ a, u = .string a := by
  obtain ⟨a, ha, _, _⟩ := DataW.trod_string T.u9 h
  exact ⟨a, by simpa using ha⟩
theorem open_joints (T : Ty P) {n : Nat} {cs : List Value} {x : DataW H × List MemPlace} (h : DataW.trod enc P W base sp held n 52 cs = some x) : ∃ a b c, cs = [.int .i64 a, .int .i64 b, .int .i64 c] := by
  obtain ⟨xs, m, _, _, hl, hx, hi⟩ := DataW.trod_array T.uJ h
  rw [T.cJ] at hl
  obtain ⟨u, v, w, rfl⟩ := len3 hl
  obtain ⟨y0, h0⟩ := get_some (i := 0) hx (by decide)
  obtain ⟨y1, h1⟩ := get_some (i := 1) hx (by decide)
  obtain ⟨y2, h2⟩ := get_some (i := 2) hx (by decide)
  have g0 := hi 0 (by decide)
  have g1 := hi 1 (by decide)
  have g2 := hi 2 (by decide)
  rw [T.c3] at g0 g1 g2
  rw [h0] at g0
  rw [h1] at g1
  rw [h2] at g2
  obtain ⟨a, rfl⟩ := open_one T (u := u) g0
  obtain ⟨b, rfl⟩ := open_one T (u := v) g1
  obtain ⟨c, rfl⟩ := open_one T (u := w) g2
  exact ⟨a, b, c, rfl⟩
theorem open_arms (T : Ty P) {n : Nat} {cs : List Value} {x : DataW H × List MemPlace} (h : DataW.trod enc P W base sp held n 53 cs = some x) : ∃ a b c d e f, cs = [.int .i64 a, .int .i64 b, .int .i64 c, .int .i64 d, .int .i64 e, .int .i64 f] := by
  obtain ⟨xs, m, _, _, hl, hx, hi⟩ := DataW.trod_array T.uA h
  rw [T.cA] at hl
  obtain ⟨u, v, w, u', v', w', rfl⟩ := len6 hl
  obtain ⟨y0, h0⟩ := get_some (i := 0) hx (by decide)
  obtain ⟨y1, h1⟩ := get_some (i := 1) hx (by decide)
  have g0 := hi 0 (by decide)
  have g1 := hi 1 (by decide)
  rw [T.cJ] at g0 g1
  rw [h0] at g0
  rw [h1] at g1
  obtain ⟨a, b, c, e0⟩ := open_joints T (cs := [u, v, w]) g0
  obtain ⟨d, e, f, e1⟩ := open_joints T (cs := [u', v', w']) g1
  simp only [List.cons.injEq, and_true] at e0 e1
  obtain ⟨rfl, rfl, rfl⟩ := e0
  obtain ⟨rfl, rfl, rfl⟩ := e1
  exact ⟨a, b, c, d, e, f, rfl⟩
theorem open_both (T : Ty P) : ∀ (n : Nat), (∀ cs x, DataW.trod enc P W base sp held n 22 cs = some x → ∃ A c l, cs = [.slice A l.length c] ∧ l.length ≤ c ∧ Kd.C k55 W A l.length l) ∧ (∀ cs x, DataW.trod enc P W base sp held n 55 cs = some x → ∃ s, k55.K W s cs)
  | 0 => ⟨fun cs x h => by simp [DataW.trod] at h, fun cs x h => by simp [DataW.trod] at h⟩
  | n + 1 => by
    obtain ⟨ih1, ih2⟩ := open_both T n
    refine ⟨fun cs x h => ?_, fun cs x h => ?_⟩
    · rcases DataW.trod_slice T.uS h with ⟨rfl, _⟩ | ⟨a, len, cap, elems, rest, m, hm, rfl, _, _, hl, hc, hlen, hel, _⟩
      · exact ⟨none, 0, [], rfl, Nat.le_refl _, Kd.C_nil _ _⟩
      · obtain rfl : m = n := by omega
        rw [T.cT] at hel
        have hx : ∀ i, i < len → ∃ s c, c.length = 13 ∧ k55.K W s c ∧ ∀ j u, c[j]? = some u → W.cell? (a.add (i * 13 + j)) = some u := by
          intro i hi
          obtain ⟨y, hy⟩ := get_some hlen hi
          have h1 := hel i hi
          rw [hy] at h1
          obtain ⟨c, hc1, hc2⟩ := Option.bind_eq_some_iff.1 h1
          obtain ⟨s, hs⟩ := ih2 c y hc2
          obtain ⟨_, hcl, hcc⟩ := World.cells?_some hc1
          refine ⟨s, c, hcl, hs, fun j u hu => ?_⟩
          have hj : j < 13 := by
            have := (List.getElem?_eq_some_iff.1 hu).1
            omega
          have := hcc j hj
          rw [hu] at this
          rw [← this]
          congr 1
          exact add_add_ a (i * 13) j
        let f : Nat → S55 := fun i => if h : i < len then (hx i h).choose else z55
        have hf : ∀ i, i < len → ∃ c, c.length = 13 ∧ k55.K W (f i) c ∧ ∀ j u, c[j]? = some u → W.cell? (a.add (i * 13 + j)) = some u := by
          intro i hi
          have := (hx i hi).choose_spec
          have e : f i = (hx i hi).choose := by simp only [f, dif_pos hi]
          rw [e]
          exact this
        have hll : ((List.range len).map f).length = len := by simp
        have hmx : len ≤ 9223372036854775807 := Nat.le_trans hl hc
        refine ⟨some a, cap, (List.range len).map f, by rw [hll], by rw [hll]; exact hl, ?_⟩
        rw [hll]
        refine ⟨hll, hmx, fun _ => ⟨a, rfl, fun j p hp => ?_⟩⟩
        have hj : j < len := by
          have := (List.getElem?_eq_some_iff.1 hp).1
          omega
        rw [List.getElem?_map, List.getElem?_range hj] at hp
        obtain rfl := Option.some.inj hp
        exact hf j hj
    · obtain ⟨xs, m, hm, _, hl, hx, hi⟩ := DataW.trod_struct T.uT h
      obtain rfl : m = n := by omega
      rw [T.cT] at hl
      obtain ⟨u0, u1, u2, u3, u4, u5, u6, u7, u8, u9, u10, u11, u12, rfl⟩ := len13 hl
      obtain ⟨y0, h0⟩ := get_some (i := 0) hx (by decide)
      obtain ⟨y1, h1⟩ := get_some (i := 1) hx (by decide)
      obtain ⟨y2, h2⟩ := get_some (i := 2) hx (by decide)
      obtain ⟨y3, h3⟩ := get_some (i := 3) hx (by decide)
      obtain ⟨y4, h4⟩ := get_some (i := 4) hx (by decide)
      obtain ⟨y5, h5⟩ := get_some (i := 5) hx (by decide)
      obtain ⟨y6, h6⟩ := get_some (i := 6) hx (by decide)
      obtain ⟨y7, h7⟩ := get_some (i := 7) hx (by decide)
      have g0 : DataW.trod enc P W base sp held m 3 (([u0, u1, u2, u3, u4, u5, u6, u7, u8, u9, u10, u11, u12].drop 0).take (P.cellsOf 3)) = xs[0]? := hi 0 _ rfl
      have g1 : DataW.trod enc P W base sp held m 3 (([u0, u1, u2, u3, u4, u5, u6, u7, u8, u9, u10, u11, u12].drop 1).take (P.cellsOf 3)) = xs[1]? := hi 1 _ rfl
      have g2 : DataW.trod enc P W base sp held m 9 (([u0, u1, u2, u3, u4, u5, u6, u7, u8, u9, u10, u11, u12].drop 2).take (P.cellsOf 9)) = xs[2]? := hi 2 _ rfl
      have g3 : DataW.trod enc P W base sp held m 9 (([u0, u1, u2, u3, u4, u5, u6, u7, u8, u9, u10, u11, u12].drop 3).take (P.cellsOf 9)) = xs[3]? := hi 3 _ rfl
      have g4 : DataW.trod enc P W base sp held m 3 (([u0, u1, u2, u3, u4, u5, u6, u7, u8, u9, u10, u11, u12].drop 4).take (P.cellsOf 3)) = xs[4]? := hi 4 _ rfl
      have g5 : DataW.trod enc P W base sp held m 53 (([u0, u1, u2, u3, u4, u5, u6, u7, u8, u9, u10, u11, u12].drop 5).take (P.cellsOf 53)) = xs[5]? := hi 5 _ rfl
      have g6 : DataW.trod enc P W base sp held m 22 (([u0, u1, u2, u3, u4, u5, u6, u7, u8, u9, u10, u11, u12].drop 11).take (P.cellsOf 22)) = xs[6]? := hi 6 _ rfl
      have g7 : DataW.trod enc P W base sp held m 3 (([u0, u1, u2, u3, u4, u5, u6, u7, u8, u9, u10, u11, u12].drop 12).take (P.cellsOf 3)) = xs[7]? := hi 7 _ rfl
      rw [T.c3] at g0 g1 g4 g7
      rw [T.c9] at g2 g3
      rw [T.cA] at g5
      rw [T.cS] at g6
      rw [h0] at g0
      rw [h1] at g1
      rw [h2] at g2
      rw [h3] at g3
      rw [h4] at g4
      rw [h5] at g5
      rw [h6] at g6
      rw [h7] at g7
      obtain ⟨a0, rfl⟩ := open_one T (u := u0) g0
      obtain ⟨a1, rfl⟩ := open_one T (u := u1) g1
      obtain ⟨a2, rfl⟩ := open_str T (u := u2) g2
      obtain ⟨a3, rfl⟩ := open_str T (u := u3) g3
      obtain ⟨a4, rfl⟩ := open_one T (u := u4) g4
      obtain ⟨p0, p1, p2, q0, q1, q2, e5⟩ := open_arms T (cs := [u5, u6, u7, u8, u9, u10]) g5
      simp only [List.cons.injEq, and_true] at e5
      obtain ⟨rfl, rfl, rfl, rfl, rfl, rfl⟩ := e5
      obtain ⟨A, c, l, e6, hlc, hC⟩ := ih1 [u11] _ g6
      simp only [List.cons.injEq, and_true] at e6
      subst e6
      obtain ⟨a7, rfl⟩ := open_one T (u := u12) g7
      exact ⟨⟨a0, a1, a2, a3, a4, ⟨⟨p0, p1, p2⟩, ⟨q0, q1, q2⟩⟩, l, a7⟩, k55_mk W ⟨a0, a1, a2, a3, a4, ⟨⟨p0, p1, p2⟩, ⟨q0, q1, q2⟩⟩, l, a7⟩ hlc hC⟩
/-- a list of statements that came in -/
theorem open_stms (T : Ty P) {v : Value} {d : DataW H} {p : List MemPlace} (h : DataW.Trod enc P W base sp held 22 v d p) : ∃ A c l, v.cells.toList = [.slice A l.length c] ∧ l.length ≤ c ∧ Kd.C k55 W A l.length l := by
  obtain ⟨n, h⟩ := h
  exact (open_both T n).1 _ _ h
end
end Go.Proofs.YtonhcfecfifghaaDoor.PPx
namespace Go.Proofs.YtonhcfecfifghaaDoor.parserRoundTrip
open Go.ChangeShapes Go.WideShapes Go.ChangeAt Go.RowKit
open Go.ChangeMaps (open_string shut_string)
set_option linter.unusedVariables false
theorem laidOut : laidOutB Tryd.prog = true := by kernel_rfl
theorem own : ownKnob Tryd.prog.godebug = none := by kernel_rfl
theorem plainLaid {W : World} (h : laidMetH Tryd.prog Rows.parserRoundTripRow.laid W) : PPx.Glob W := by
  rw [MakeChecks.laidMetH_plain _ _ _ (by kernel_rfl)] at h
  exact PPx.glob_of h
theorem door_met (os : Os) (args : Array Value) : laidMetH Tryd.prog Rows.parserRoundTripRow.laid ((World.doorLaid Tryd.prog 400 os).forCall (fun _ _ => 0) ⟨#[], args, []⟩).memory :=
  laidMetH_of_parts3 (fuel := 8) (laidMet_of_run' 8 (by kernel_rfl) (by kernel_rfl)) (by kernel_rfl) (by kernel_rfl)
set_option maxRecDepth 100000 in
theorem lifted (PU : ∀ l, ∃ k, PPx.ambidexterlaw11_ParserRoundTrip.f k l = some true) (os : Os) (started : os.Started) (H : Type) (enc : TypeId × Value → H) :
    ReturnsInHanded {} Tryd.checked os 3 .any (fun w args => (Rows.parserRoundTripSpec.pre enc Tryd.prog Tryd.f3 [] false w args ∧ laidMetH Tryd.prog Rows.parserRoundTripRow.laid w) ∧ sizedMet enc Tryd.prog Tryd.f3 (OpenSpec.ofChange Rows.parserRoundTripSpec) false w args)
      (Rows.parserRoundTripSpec.post enc Tryd.prog Tryd.f3 false true false false) := by
  refine returnsInHanded_of_change_and (C := Tryd.checked) (X := fun w _ => laidMetH Tryd.prog Rows.parserRoundTripRow.laid w) (fun _ _ _ hh h => h.of_heap hh) own started (by kernel_rfl) Tryd.func3
    (ChangeSpec.witness_shaped (enc := enc) (C := Tryd.checked) (os := os) (X := fun w _ => laidMetH Tryd.prog Rows.parserRoundTripRow.laid w) false (World.doorLaid Tryd.prog 400 os) #[.slice none 0 0] 8 rfl (World.shaped_of_RefB (by kernel_rfl) (by kernel_rfl)) (by kernel_rfl) (by kernel_rfl) (by kernel_rfl) (door_met os _)) ?_
  intro W base args ds gs before hval0 hW hcnd hsz0 hL _
  have hsz : (DataW.weightsEach Tryd.prog (Tryd.f3.params.toList ++ Rows.parserRoundTripSpec.plain.varTypes Tryd.prog) (ds ++ gs)).all (· ≤ reachBytes) = true := hsz0
  have hval : ∀ (j : Nat) t v, Tryd.f3.params[j]? = some t → args[j]? = some v → Value.okWide Tryd.prog W .any base t v := hval0
  have hW' := hW
  obtain ⟨p, q, hA0, hV, rfl, hfz, hnd⟩ := hW
  have hA : DataW.TrodAll enc Tryd.prog W 0 (fun _ => true) true Tryd.f3.params.toList args.toList ds p := hA0
  rw [Tryd.params3] at hA hval hsz
  obtain ⟨v0, vs0, d0, ds0, p0, q0, hargs, rfl, rfl, h0, r0⟩ := trodAll_cons hA
  obtain ⟨rfl, rfl, rfl⟩ := trodAll_nil r0
  obtain rfl : args = #[v0] := by cases args; simp_all
  obtain ⟨rfl, rfl⟩ := trodVars_none hV
  obtain ⟨A0, len0, c0, rfl⟩ := okWide_slice Tryd.underlying22 (hval 0 22 v0 rfl rfl)
  have k0 := h0
  have lt0 : ∀ x ∈ p0, x.block < W.heap.size := by obtain ⟨m, hm⟩ := k0; exact DataW.trod_lt m _ _ _ hm
  obtain ⟨A, c, l, hv, hc, hC⟩ := PPx.open_stms PPx.ty h0
  simp only [Value.cells, List.cons.injEq, Value.slice.injEq, and_true] at hv
  obtain ⟨rfl, rfl, rfl⟩ := hv
  clear hA0 hval0 hsz0 hsz
  obtain ⟨k, hk⟩ := PU l
  refine (PPx.ambidexterlaw11_ParserRoundTrip.calls k A0 c0 l true W hC hc hk (plainLaid hL)).mono fun e W' ⟨he, bel⟩ => ?_
  subst he
  exact ⟨_, rfl, _, _, _, [], _, [], hW', trodAll_mk1 (shut_bool Tryd.underlying4 _), (trodAll_cons_mk (Below.trod laidOut (by kernel_rfl) (of_decide_eq_true (by kernel_rfl)) k0 bel lt0) trodAll_mk0), rfl, bel.frame _, fun h => by cases h⟩
theorem over (PU : ∀ l, ∃ k, PPx.ambidexterlaw11_ParserRoundTrip.f k l = some true) : Rows.ParserRoundTripSaid :=
  OpenClaim.holds_of_wide 3 Tryd.f3 rfl rfl rfl rfl rfl rfl rfl ⟨rfl, rfl, rfl, rfl, rfl⟩ rfl rfl rfl rfl rfl (by kernel_rfl) Tryd.func3 (by kernel_rfl)
    (of_decide_eq_true (by kernel_rfl)) (by unfold Func.isWrapper; first | (rw [if_pos (by decide +kernel)]; kernel_rfl) | (rw [if_neg (by decide +kernel)]; exact ⟨rfl, rfl⟩))
    (fun os started H enc _ => lifted PU os started H enc)
theorem card (PU : ∀ l, ∃ k, PPx.ambidexterlaw11_ParserRoundTrip.f k l = some true) : Rows.ParserRoundTripCardSaid :=
  Claim7.holds_tied_plain_at .later [] [.data, .data, .data, .sentinel, .sentinel, .widerDeep] true (true, "6822103ed093441613754651125a536eb7c88e985074bd3ee2c69459dcd289f4") true
    (over PU) (fun _ h => by cases h) (by kernel_rfl) (fun _ h => by cases h) parserRoundTrip_row_tie rfl ⟨rfl, rfl⟩ (by kernel_rfl) rfl
    (fun f fn hf hfn => by
      obtain rfl : f = 3 := Option.some.inj ((show Tryd.prog.funcNamed "ambidexter/ambidexterlaw11.ParserRoundTrip" = some 3 by kernel_rfl).symm.trans hf) |>.symm
      obtain rfl : fn = Tryd.f3 := (Option.some.inj (Tryd.func3.symm.trans hfn)).symm
      exact ⟨by kernel_rfl, fun j t ht => by
        rw [Tryd.params3] at ht
        have h3 : t = 22 := by
          rcases j with _ | j
          · simpa using ht.symm
          · simp at ht
        subst h3
        exact (show Tryd.prog.wantsStandIn 22 = false by kernel_rfl)⟩)
    (by kernel_rfl)
end Go.Proofs.YtonhcfecfifghaaDoor.parserRoundTrip
namespace Go.Proofs.YtonhcfecfifghaaDoor.PPx
open Go.RowKit Go.Proofs.YtonhcfecfifghaaDoorW.PrintWords Go.Proofs.YtonhcfecfifghaaDoorW.PrintLast Go.Proofs.YtonhcfecfifghaaDoorW.PrintMore
set_option linter.unusedVariables false
/-- lists of at most 100 statements, nested so deep -/
def Lens : Nat → List S55 → Prop
  | 0, l => l = []
  | d + 1, l => l.length ≤ 100 ∧ ∀ x ∈ l, Lens d x.f6
theorem rcount_step (k : Nat) (n : Int) (pre l : List S55) (x : S55) (hp : (pre.length : Int) ≤ 1000) : ambidexterref11_Count.l0 (k + 1) (pre ++ x :: l) n pre.length = (ambidexterref11_Count.f k x.f6).bind fun t => ambidexterref11_Count.l0 k ((pre ++ [x]) ++ l) (wrap64 (n + t)) ((pre ++ [x]).length : Int) := by
  rw [ambidexterref11_Count.l0, if_pos (by simp only [List.length_append, List.length_cons]; omega), if_pos (by omega), rd_mid]
  have hi : wrap64 ((pre.length : Int) + 1) = ((pre ++ [x]).length : Int) := by
    simp only [List.length_append, List.length_cons, List.length_nil]
    unfold wrap64; omega
  rw [hi, List.append_assoc, List.singleton_append]
theorem rcount_end (k : Nat) (n : Int) (l : List S55) : ambidexterref11_Count.l0 (k + 1) l n l.length = some n := by
  rw [ambidexterref11_Count.l0, if_neg (Int.lt_irrefl _)]
theorem rcount_total : ∀ (d : Nat) (l : List S55), Lens d l → ∃ r, EvalsTo (fun k => ambidexterref11_Count.f k l) r
  | 0, l, h => by
    have h : l = [] := h
    subst h
    refine ⟨0, EvalsTo.shift (j := 2) (EvalsTo.const 0) fun k => ?_⟩
    rw [ambidexterref11_Count.f]
    exact rcount_end k 0 []
  | d + 1, l, h => by
    have ih := rcount_total d
    have key : ∀ (l pre : List S55) (n : Int), pre.length + l.length ≤ 100 → (∀ x ∈ l, Lens d x.f6) → ∃ r, EvalsTo (fun k => ambidexterref11_Count.l0 k (pre ++ l) n pre.length) r := by
      intro l
      induction l with
      | nil =>
        intro pre n hp _
        refine ⟨n, EvalsTo.shift (j := 1) (EvalsTo.const n) fun k => ?_⟩
        rw [List.append_nil]
        exact rcount_end k n pre
      | cons x l il =>
        intro pre n hp hx
        obtain ⟨t, ht⟩ := ih x.f6 (hx x List.mem_cons_self)
        obtain ⟨r, hr⟩ := il (pre ++ [x]) (wrap64 (n + t)) (by simp only [List.length_append, List.length_cons, List.length_nil] at hp ⊢; omega) (fun z hz => hx z (List.mem_cons_of_mem _ hz))
        simp only [List.length_cons] at hp
        exact ⟨r, EvalsTo.shift (j := 1) (EvalsTo.bind (g := fun k t => ambidexterref11_Count.l0 k ((pre ++ [x]) ++ l) (wrap64 (n + t)) ((pre ++ [x]).length : Int)) ht hr) fun k => rcount_step k n pre l x (by omega)⟩
    obtain ⟨r, hr⟩ := key l [] l.length (by simpa using h.1) h.2
    refine ⟨r, EvalsTo.shift (j := 1) hr fun k => ?_⟩
    rw [ambidexterref11_Count.f]
    rfl
/-- Count of valid statements -/
theorem rcount_ok {d m : Nat} {l : List S55} {ks : List (Int × ByteArray)} (h : VLs d l m ks) : m ≤ 1000 → EvalsTo (fun k => ambidexterref11_Count.f k l) (m : Int) := by
  have key : ∀ {d m : Nat} {l : List S55} {ks : List (Int × ByteArray)}, VLs d l m ks → ∀ (pre : List S55) (n : Int), 0 ≤ n → n + m ≤ 10000 → m ≤ 1000 → pre.length + m ≤ 1000 → EvalsTo (fun k => ambidexterref11_Count.l0 k (pre ++ l) n pre.length) (n + m - l.length) := by
    intro d m l ks h
    induction h with
    | nil d =>
      intro pre n h0 h1 hm hp
      refine EvalsTo.shift (j := 1) (EvalsTo.const _) fun k => ?_
      rw [List.append_nil]
      have := rcount_end k n pre
      rw [this]; simp
    | @plain d m x l ks hx h7 hl il =>
      intro pre n h0 h1 hm hp
      have h6 : x.f6 = [] := by cases hx <;> first | rfl | exact absurd rfl h7
      have hr := il (pre ++ [x]) n h0 (by omega) (by omega) (by simp only [List.length_append, List.length_cons, List.length_nil]; omega)
      have ht : EvalsTo (fun k => ambidexterref11_Count.f k x.f6) 0 := by
        rw [h6]
        refine EvalsTo.shift (j := 2) (EvalsTo.const 0) fun k => ?_
        rw [ambidexterref11_Count.f]
        exact rcount_end k 0 []
      have hw : wrap64 (n + 0) = n := by unfold wrap64; omega
      have := EvalsTo.shift (g := fun k => ambidexterref11_Count.l0 k (pre ++ x :: l) n pre.length) (j := 1) (EvalsTo.bind (g := fun k t => ambidexterref11_Count.l0 k ((pre ++ [x]) ++ l) (wrap64 (n + t)) ((pre ++ [x]).length : Int)) ht (by simp only [hw]; exact hr)) fun k => rcount_step k n pre l x (by omega)
      have e : n + ((m + 1 : Nat) : Int) - ((x :: l).length : Int) = n + (m : Int) - l.length := by simp only [List.length_cons]; omega
      rw [e]
      exact this
    | @when_ d m1 m2 x l ks ls hx h7 hkd hl ihk ihl =>
      intro pre n h0 h1 hm hp
      have hkl := vls_len hkd
      have hll := vls_len hl
      have hk := ihk [] x.f6.length (by omega) (by omega) (by omega) (by simp only [List.length_nil]; omega)
      have ht : EvalsTo (fun k => ambidexterref11_Count.f k x.f6) (m2 : Int) := by
        have h2 : EvalsTo (fun k => ambidexterref11_Count.f k x.f6) ((x.f6.length : Int) + m2 - x.f6.length) := EvalsTo.shift (j := 1) hk fun k => by rw [ambidexterref11_Count.f]; rfl
        rw [show (x.f6.length : Int) + m2 - x.f6.length = (m2 : Int) by omega] at h2
        exact h2
      have hr := ihl (pre ++ [x]) (n + m2) (by omega) (by omega) (by omega) (by simp only [List.length_append, List.length_cons, List.length_nil]; omega)
      have hw : wrap64 (n + (m2 : Int)) = n + m2 := by unfold wrap64; omega
      have := EvalsTo.shift (g := fun k => ambidexterref11_Count.l0 k (pre ++ x :: l) n pre.length) (j := 1) (EvalsTo.bind (g := fun k t => ambidexterref11_Count.l0 k ((pre ++ [x]) ++ l) (wrap64 (n + t)) ((pre ++ [x]).length : Int)) ht (by simp only [hw]; exact hr)) fun k => rcount_step k n pre l x (by omega)
      have e : n + ((m1 + m2 + 1 : Nat) : Int) - ((x :: l).length : Int) = n + m2 + (m1 : Int) - l.length := by simp only [List.length_cons]; omega
      rw [e]
      exact this
  intro hm
  have hl := vls_len h
  have h2 : EvalsTo (fun k => ambidexterref11_Count.f k l) ((l.length : Int) + m - l.length) := EvalsTo.shift (j := 1) (key h [] l.length (by omega) (by omega) hm (by simp only [List.length_nil]; omega)) fun k => by rw [ambidexterref11_Count.f]; rfl
  rw [show (l.length : Int) + m - l.length = (m : Int) by omega] at h2
  exact h2
end Go.Proofs.YtonhcfecfifghaaDoor.PPx
namespace Go.Proofs.YtonhcfecfifghaaDoor.PPx
open Go.RowKit Go.Proofs.YtonhcfecfifghaaDoorW.PrintWords Go.Proofs.YtonhcfecfifghaaDoorW.PrintLast Go.Proofs.YtonhcfecfifghaaDoorW.PrintMore
set_option linter.unusedVariables false
theorem few_step (k : Nat) (a : Int) (pre l : List S55) (x : S55) (hp : (pre.length : Int) ≤ 1000) : ambidexterlaw11_Few.l0 (k + 1) (pre ++ x :: l) a pre.length = if wrap64 ((x.f2.size : Int) + x.f3.size) > 200 then some false else (ambidexterlaw11_Few.f k x.f6 (wrap64 (a + 1))).bind fun t => if t = true then ambidexterlaw11_Few.l0 k ((pre ++ [x]) ++ l) a ((pre ++ [x]).length : Int) else some false := by
  rw [ambidexterlaw11_Few.l0, if_pos (by simp only [List.length_append, List.length_cons]; omega), if_pos (by omega), rd_mid]
  have hi : wrap64 ((pre.length : Int) + 1) = ((pre ++ [x]).length : Int) := by
    simp only [List.length_append, List.length_cons, List.length_nil]
    unfold wrap64; omega
  rw [hi, List.append_assoc, List.singleton_append]
/-- Few answers; and a yes bounds the lists -/
theorem few_total : ∀ (d : Nat) (a : Int) (l : List S55), 0 ≤ a → a + d = 9 → ∃ b, EvalsTo (fun k => ambidexterlaw11_Few.f k l a) b ∧ (b = true → Lens d l)
  | 0, a, l, h0, ha => by
    refine ⟨false, EvalsTo.shift (j := 2) (EvalsTo.const false) (fun k => ?_), fun h => by cases h⟩
    rw [ambidexterlaw11_Few.f, if_pos (by omega), ambidexterlaw11_Few.j0, if_pos rfl]
  | d + 1, a, l, h0, ha => by
    have ih := few_total d
    by_cases hl : (l.length : Int) > 100
    · refine ⟨false, EvalsTo.shift (j := 2) (EvalsTo.const false) (fun k => ?_), fun h => by cases h⟩
      rw [ambidexterlaw11_Few.f, if_neg (by omega), ambidexterlaw11_Few.j0, if_pos (decide_eq_true hl)]
    have hw : wrap64 (a + 1) = a + 1 := by unfold wrap64; omega
    have key : ∀ (l pre : List S55), pre.length + l.length ≤ 100 → (∀ x ∈ pre, Lens d x.f6) → ∃ b, EvalsTo (fun k => ambidexterlaw11_Few.l0 k (pre ++ l) a pre.length) b ∧ (b = true → ∀ x ∈ pre ++ l, Lens d x.f6) := by
      intro l
      induction l with
      | nil =>
        intro pre hp hx
        rw [List.append_nil]
        by_cases h : a > 0
        · refine ⟨true, EvalsTo.shift (j := 1) (EvalsTo.const true) (fun k => ?_), fun _ => hx⟩
          rw [ambidexterlaw11_Few.l0, if_neg (Int.lt_irrefl _), if_pos h]
        · obtain ⟨r, hr⟩ := rcount_total (d + 1) pre ⟨by simpa using hp, hx⟩
          refine ⟨decide (r ≤ 100), EvalsTo.shift (j := 1) (EvalsTo.bind (g := fun _ t => some (decide (t ≤ 100))) hr (EvalsTo.const _)) (fun k => ?_), fun _ => hx⟩
          rw [ambidexterlaw11_Few.l0, if_neg (Int.lt_irrefl _), if_neg h]
      | cons x l il =>
        intro pre hp hx
        simp only [List.length_cons] at hp
        have hst := fun k => few_step k a pre l x (by omega)
        by_cases hs : wrap64 ((x.f2.size : Int) + x.f3.size) > 200
        · refine ⟨false, EvalsTo.shift (j := 1) (EvalsTo.const false) (fun k => ?_), fun h => by cases h⟩
          rw [hst, if_pos hs]
        · simp only [if_neg hs, hw] at hst
          obtain ⟨b, hb, hbl⟩ := ih (a + 1) x.f6 (by omega) (by omega)
          cases b with
          | false =>
            refine ⟨false, EvalsTo.shift (j := 1) ?_ hst, fun h => by cases h⟩
            refine EvalsTo.bind hb ?_
            simp only [Bool.false_eq_true, if_false]
            exact EvalsTo.const false
          | true =>
            obtain ⟨c, hc, hcl⟩ := il (pre ++ [x]) (by simp only [List.length_append, List.length_cons, List.length_nil]; omega) (fun z hz => by
              rcases List.mem_append.1 hz with h | h
              · exact hx z h
              · rw [List.mem_singleton.1 h]; exact hbl rfl)
            refine ⟨c, EvalsTo.shift (j := 1) ?_ hst, fun h => by simpa using hcl h⟩
            refine EvalsTo.bind hb ?_
            simp only [if_true]
            exact hc
    obtain ⟨b, hb, hbl⟩ := key l [] (by simp only [List.length_nil]; omega) (fun x hx => by cases hx)
    refine ⟨b, EvalsTo.shift (j := 2) hb (fun k => ?_), fun h => ⟨by omega, by simpa using hbl h⟩⟩
    rw [ambidexterlaw11_Few.f, if_neg (by omega), ambidexterlaw11_Few.j0, if_neg (by rw [decide_eq_false hl]; decide)]
    rfl
end Go.Proofs.YtonhcfecfifghaaDoor.PPx
namespace Go.Proofs.YtonhcfecfifghaaDoor.PPx
open Go.RowKit Go.Proofs.YtonhcfecfifghaaDoorW.PrintWords Go.Proofs.YtonhcfecfifghaaDoorW.PrintLast Go.Proofs.YtonhcfecfifghaaDoorW.PrintMore
set_option linter.unusedVariables false
theorem rt_pure (l : List S55) : ∃ k, ambidexterlaw11_ParserRoundTrip.f k l = some true := by
  suffices h : EvalsTo (fun k => ambidexterlaw11_ParserRoundTrip.f k l) true by
    obtain ⟨K, hK⟩ := h
    exact ⟨K, hK K (Nat.le_refl _)⟩
  unfold ambidexterlaw11_ParserRoundTrip.f
  simp only [show ambidexterlaw11_head.f = some true from rfl, Option.bind_some]
  obtain ⟨b, hb, _⟩ := few_total 9 0 l (Int.le_refl _) (by decide)
  have hj : EvalsTo (fun k => ambidexterlaw11_ParserRoundTrip.j0 k l true true) true := by
    refine EvalsTo.shift (j := 1) (EvalsTo.const true) fun k => ?_
    rw [ambidexterlaw11_ParserRoundTrip.j0, if_pos rfl]
  refine EvalsTo.bind hb ?_
  cases b with
  | false => simpa using hj
  | true =>
  simp only [if_true]
  obtain ⟨v, hv⟩ := valid_total l
  refine EvalsTo.bind hv ?_
  cases v with
  | false => exact hj
  | true =>
  obtain ⟨K, hK⟩ := hv
  obtain ⟨n, ks, hl, hn⟩ := valid_inv (hK K (Nat.le_refl _))
  obtain ⟨t, ts, h2, hlx, hk, _⟩ := format_ok hl (by decide) (by omega)
  obtain ⟨a, hsim, hva, K3, h3⟩ := parse_text hl hn hlx hk
  have hf : EvalsTo (fun k => parser_Format.f k l) t := ⟨5, fun k hk => h2 k (by omega)⟩
  have hp : EvalsTo (fun k => parser_Parse.f k t) (a, []) := ⟨K3, h3⟩
  have he : EvalsTo (fun k => parser_Equal.f k a l) true := hsim.symm.equal
  refine EvalsTo.shift (j := 1) ?_ (fun k => by rw [ambidexterlaw11_ParserRoundTrip.j0, if_neg (by decide)])
  refine EvalsTo.bind hf ?_
  refine EvalsTo.bind hp ?_
  simp only [if_true, List.length_nil, Int.ofNat_zero]
  refine EvalsTo.bind he ?_
  simp only [if_true]
  refine EvalsTo.bind (f := fun k => ambidexterref11_Same.f k a l) he ?_
  exact EvalsTo.const true
end Go.Proofs.YtonhcfecfifghaaDoor.PPx
