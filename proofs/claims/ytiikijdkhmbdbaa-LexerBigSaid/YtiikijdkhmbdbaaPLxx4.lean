-- written by a program of this seat (wip/tools/printx.py) with the kit's print and the texts given beside it
import Derived.Test.YtiikijdkhmbdbaaPLxx0
import Derived.Test.YtiikijdkhmbdbaaPLxx2
namespace Go.Proofs.Ytiikijdkhmbdbaa.PLx
open Go.RowKit Go.Proofs.YtiikijdkhmbdbaaW.PrintWords Go.Proofs.YtiikijdkhmbdbaaW.PrintLast Go.Proofs.YtiikijdkhmbdbaaW.PrintMore
attribute [local go_sem] max2_int min2_int max_two min_two max_three min_three max_four min_four   -- for this text's walks alone
set_option linter.unusedVariables false
set_option linter.unusedSimpArgs false

/-! ### ambidexterref10_Kind: function 21 -/
mutual
def ambidexterref10_Kind.j0 : Nat → Int → Bool → Option (Int)
  | 0, _, _ => none
  | k + 1, x0, x16 => if x16 = true then (some 1) else (if x0 ≥ 48 then (ambidexterref10_Kind.j1 k x0 (decide (x0 ≤ 57))) else (ambidexterref10_Kind.j1 k x0 false))
def ambidexterref10_Kind.j1 : Nat → Int → Bool → Option (Int)
  | 0, _, _ => none
  | k + 1, x0, x22 => if x22 = true then (some 2) else (if x0 = 95 then (some 3) else (if x0 = 40 then (ambidexterref10_Kind.j2 k x0 (x0 == 40)) else (if x0 = 41 then (ambidexterref10_Kind.j2 k x0 (x0 == 41)) else (if x0 = 123 then (ambidexterref10_Kind.j2 k x0 (x0 == 123)) else (if x0 = 125 then (ambidexterref10_Kind.j2 k x0 (x0 == 125)) else (if x0 = 59 then (ambidexterref10_Kind.j2 k x0 (x0 == 59)) else (ambidexterref10_Kind.j2 k x0 (x0 == 44))))))))
def ambidexterref10_Kind.j2 : Nat → Int → Bool → Option (Int)
  | 0, _, _ => none
  | k + 1, x23, x26 => if x26 = true then (some 4) else (if x23 = 32 then (ambidexterref10_Kind.j3 k x23 (x23 == 32)) else (if x23 = 9 then (ambidexterref10_Kind.j3 k x23 (x23 == 9)) else (if x23 = 10 then (ambidexterref10_Kind.j3 k x23 (x23 == 10)) else (ambidexterref10_Kind.j3 k x23 (x23 == 13)))))
def ambidexterref10_Kind.j3 : Nat → Int → Bool → Option (Int)
  | 0, _, _ => none
  | k + 1, x23, x33 => if x33 = true then (some 5) else (if x23 = 35 then (some 6) else (if x23 = 45 then (some 7) else (some 0)))
end
def ambidexterref10_Kind.f (k : Nat) (a0 : Int) : Option (Int) := if a0 ≥ 65 then (if a0 ≤ 90 then (ambidexterref10_Kind.j0 k a0 true) else (if a0 ≥ 97 then (ambidexterref10_Kind.j0 k a0 (decide (a0 ≤ 122))) else (ambidexterref10_Kind.j0 k a0 false))) else (if a0 ≥ 97 then (ambidexterref10_Kind.j0 k a0 (decide (a0 ≤ 122))) else (ambidexterref10_Kind.j0 k a0 false))
theorem ambidexterref10_Kind.mono_l : ∀ k, (∀ y0 y1, LeO (ambidexterref10_Kind.j0 k y0 y1) (ambidexterref10_Kind.j0 (k + 1) y0 y1)) ∧ (∀ y0 y1, LeO (ambidexterref10_Kind.j1 k y0 y1) (ambidexterref10_Kind.j1 (k + 1) y0 y1)) ∧ (∀ y0 y1, LeO (ambidexterref10_Kind.j2 k y0 y1) (ambidexterref10_Kind.j2 (k + 1) y0 y1)) ∧ (∀ y0 y1, LeO (ambidexterref10_Kind.j3 k y0 y1) (ambidexterref10_Kind.j3 (k + 1) y0 y1))
  | 0 => ⟨fun _ _ r h => by simp [ambidexterref10_Kind.j0] at h, fun _ _ r h => by simp [ambidexterref10_Kind.j1] at h, fun _ _ r h => by simp [ambidexterref10_Kind.j2] at h, fun _ _ r h => by simp [ambidexterref10_Kind.j3] at h⟩
  | k + 1 => by
    obtain ⟨ih0, ih1, ih2, ih3⟩ := ambidexterref10_Kind.mono_l k
    refine ⟨?_, ?_, ?_, ?_⟩
    · intro y0 y1
      unfold ambidexterref10_Kind.j0
      repeat' first
      | (with_reducible exact ih0 _ _)
      | (with_reducible exact ih1 _ _)
      | (with_reducible exact ih2 _ _)
      | (with_reducible exact ih3 _ _)
      | (with_reducible exact LeO.refl _)
      | (with_reducible exact LeO.none _)
      | (with_reducible refine LeO.ite ?_ ?_)
      | (with_reducible refine LeO.bind ?_ (fun _ => ?_))
      | exact ih0 _ _
      | exact ih1 _ _
      | exact ih2 _ _
      | exact ih3 _ _
      | exact LeO.none _
      | refine LeO.ite ?_ ?_
      | refine LeO.bind ?_ (fun _ => ?_)
    · intro y0 y1
      unfold ambidexterref10_Kind.j1
      repeat' first
      | (with_reducible exact ih0 _ _)
      | (with_reducible exact ih1 _ _)
      | (with_reducible exact ih2 _ _)
      | (with_reducible exact ih3 _ _)
      | (with_reducible exact LeO.refl _)
      | (with_reducible exact LeO.none _)
      | (with_reducible refine LeO.ite ?_ ?_)
      | (with_reducible refine LeO.bind ?_ (fun _ => ?_))
      | exact ih0 _ _
      | exact ih1 _ _
      | exact ih2 _ _
      | exact ih3 _ _
      | exact LeO.none _
      | refine LeO.ite ?_ ?_
      | refine LeO.bind ?_ (fun _ => ?_)
    · intro y0 y1
      unfold ambidexterref10_Kind.j2
      repeat' first
      | (with_reducible exact ih0 _ _)
      | (with_reducible exact ih1 _ _)
      | (with_reducible exact ih2 _ _)
      | (with_reducible exact ih3 _ _)
      | (with_reducible exact LeO.refl _)
      | (with_reducible exact LeO.none _)
      | (with_reducible refine LeO.ite ?_ ?_)
      | (with_reducible refine LeO.bind ?_ (fun _ => ?_))
      | exact ih0 _ _
      | exact ih1 _ _
      | exact ih2 _ _
      | exact ih3 _ _
      | exact LeO.none _
      | refine LeO.ite ?_ ?_
      | refine LeO.bind ?_ (fun _ => ?_)
    · intro y0 y1
      unfold ambidexterref10_Kind.j3
      repeat' first
      | (with_reducible exact ih0 _ _)
      | (with_reducible exact ih1 _ _)
      | (with_reducible exact ih2 _ _)
      | (with_reducible exact ih3 _ _)
      | (with_reducible exact LeO.refl _)
      | (with_reducible exact LeO.none _)
      | (with_reducible refine LeO.ite ?_ ?_)
      | (with_reducible refine LeO.bind ?_ (fun _ => ?_))
      | exact ih0 _ _
      | exact ih1 _ _
      | exact ih2 _ _
      | exact ih3 _ _
      | exact LeO.none _
      | refine LeO.ite ?_ ?_
      | refine LeO.bind ?_ (fun _ => ?_)
theorem ambidexterref10_Kind.mono : ∀ a0 k, LeO (ambidexterref10_Kind.f k a0) (ambidexterref10_Kind.f (k + 1) a0) := by
  intro a0 k
  obtain ⟨ih0, ih1, ih2, ih3⟩ := ambidexterref10_Kind.mono_l k
  unfold ambidexterref10_Kind.f
  repeat' first
      | (with_reducible exact ih0 _ _)
      | (with_reducible exact ih1 _ _)
      | (with_reducible exact ih2 _ _)
      | (with_reducible exact ih3 _ _)
      | (with_reducible exact LeO.refl _)
      | (with_reducible exact LeO.none _)
      | (with_reducible refine LeO.ite ?_ ?_)
      | (with_reducible refine LeO.bind ?_ (fun _ => ?_))
      | exact ih0 _ _
      | exact ih1 _ _
      | exact ih2 _ _
      | exact ih3 _ _
      | exact LeO.none _
      | refine LeO.ite ?_ ?_
      | refine LeO.bind ?_ (fun _ => ?_)
set_option maxHeartbeats 8000000 in
set_option maxRecDepth 100000 in
theorem ambidexterref10_Kind.calls (k : Nat) (a0 : Int) (r : Int) (w : World) (h : ambidexterref10_Kind.f k a0 = some r) :
    Calls Try.prog 21 #[.int .u8 a0] w fun e w' => e = .returned (.int .i64 r) ∧ Drawn0 w w' := by
  have H : (if a0 ≥ 65 then (if a0 ≤ 90 then (ambidexterref10_Kind.j0 k a0 true) else (if a0 ≥ 97 then (ambidexterref10_Kind.j0 k a0 (decide (a0 ≤ 122))) else (ambidexterref10_Kind.j0 k a0 false))) else (if a0 ≥ 97 then (ambidexterref10_Kind.j0 k a0 (decide (a0 ≤ 122))) else (ambidexterref10_Kind.j0 k a0 false))) = some r := h
  clear h
  have HC2 := Aside0.mk H
  clear H
  go_enter Try.func21, Try.ntmps21
  go_upto_region 1 with (fail)
  go_cut [16] (fun v16 wc => ∃ (kq : Nat) (x16_1 : Bool), v16 = .bool x16_1 ∧ Aside0 (ambidexterref10_Kind.j0 kq a0 x16_1 = some r) ∧ Aside0 (kq ≤ k) ∧ Drawn0 w wc)
  case first =>
    have H := HC2.out
    clear HC2
    by_cases c3 : a0 ≥ 65
    · rw [if_pos c3] at H
      have c3b0 : decide (65 ≤ a0) = true := decide_eq_true c3
      clear c3
      (first | rw [c3b0] | (simp only [i64_w, i32_w]; rw [c3b0]) | skip)
      by_cases c4 : a0 ≤ 90
      · rw [if_pos c4] at H
        have c4b0 : decide (a0 ≤ 90) = true := decide_eq_true c4
        clear c4
        have H' := Aside0.mk H
        clear H
        go_wp2
        go_meet
        case rel => exact ⟨_, (true), (by first | rfl | (simp; done) | (simp [*]; done)), H', ⟨by first | omega | exact Nat.le_refl _⟩, by repeat (first | exact Drawn0.refl _ | apply Drawn0.step)⟩
      · rw [if_neg c4] at H
        have c4b0 : decide (a0 ≤ 90) = false := decide_eq_false c4
        clear c4
        by_cases c5 : a0 ≥ 97
        · rw [if_pos c5] at H
          have c5b0 : decide (97 ≤ a0) = true := decide_eq_true c5
          clear c5
          have H' := Aside0.mk H
          clear H
          go_wp2
          go_meet
          case rel => exact ⟨_, (decide (a0 ≤ 122)), (by first | rfl | (simp; done) | (simp [*]; done)), H', ⟨by first | omega | exact Nat.le_refl _⟩, by repeat (first | exact Drawn0.refl _ | apply Drawn0.step)⟩
        · rw [if_neg c5] at H
          have c5b0 : decide (97 ≤ a0) = false := decide_eq_false c5
          clear c5
          have H' := Aside0.mk H
          clear H
          go_wp2
          go_meet
          case rel => exact ⟨_, (false), (by first | rfl | (simp; done) | (simp [*]; done)), H', ⟨by first | omega | exact Nat.le_refl _⟩, by repeat (first | exact Drawn0.refl _ | apply Drawn0.step)⟩
    · rw [if_neg c3] at H
      have c3b0 : decide (65 ≤ a0) = false := decide_eq_false c3
      clear c3
      (first | rw [c3b0] | (simp only [i64_w, i32_w]; rw [c3b0]) | skip)
      by_cases c6 : a0 ≥ 97
      · rw [if_pos c6] at H
        have c6b0 : decide (97 ≤ a0) = true := decide_eq_true c6
        clear c6
        have H' := Aside0.mk H
        clear H
        go_wp2
        go_meet
        case rel => exact ⟨_, (decide (a0 ≤ 122)), (by first | rfl | (simp; done) | (simp [*]; done)), H', ⟨by first | omega | exact Nat.le_refl _⟩, by repeat (first | exact Drawn0.refl _ | apply Drawn0.step)⟩
      · rw [if_neg c6] at H
        have c6b0 : decide (97 ≤ a0) = false := decide_eq_false c6
        clear c6
        have H' := Aside0.mk H
        clear H
        go_wp2
        go_meet
        case rel => exact ⟨_, (false), (by first | rfl | (simp; done) | (simp [*]; done)), H', ⟨by first | omega | exact Nat.le_refl _⟩, by repeat (first | exact Drawn0.refl _ | apply Drawn0.step)⟩
  case rest =>
    clear HC2
    try clear c2
    try clear p2
    try clear c3
    try clear c3b0
    try clear c4
    try clear c4b0
    try clear c5
    try clear c5b0
    try clear c6
    try clear c6b0
    obtain ⟨kq, x16_1, rfl, HA, HJ1, ⟨mc1, rfl⟩⟩ := hcut
    cases kq with
    | zero => exact absurd HA.out (by simp [ambidexterref10_Kind.j0])
    | succ kj1 =>
      have H := HA.out
      clear HA
      simp only [ambidexterref10_Kind.j0] at H
      by_cases c7 : x16_1 = true
      · subst c7
        have H1 : (some 1) = some r := by rw [if_pos rfl] at H; exact H
        clear H
        have H := H1
        clear H1
        obtain rfl := Option.some.inj H
        go_wp2
        go_ret
        exact ⟨by first | rfl | (simp; done) | (simp [*]; done), by repeat (first | exact Drawn0.refl _ | apply Drawn0.step)⟩
      · replace c7 := Bool.eq_false_iff.mpr c7
        subst c7
        have H1 : (if a0 ≥ 48 then (ambidexterref10_Kind.j1 kj1 a0 (decide (a0 ≤ 57))) else (ambidexterref10_Kind.j1 kj1 a0 false)) = some r := by rw [if_neg (show ¬ (false = true) by decide)] at H; exact H
        clear H
        have H := H1
        clear H1
        have HC8 := Aside0.mk H
        clear H
        go_upto_region 3 with (fail)
        go_cut [22] (fun v22 wc => ∃ (kq : Nat) (x22_7 : Bool), v22 = .bool x22_7 ∧ Aside0 (ambidexterref10_Kind.j1 kq a0 x22_7 = some r) ∧ Aside0 (kq ≤ kj1) ∧ Drawn0 w wc)
        case first =>
          have H := HC8.out
          clear HC8
          by_cases c9 : a0 ≥ 48
          · rw [if_pos c9] at H
            have c9b0 : decide (48 ≤ a0) = true := decide_eq_true c9
            clear c9
            (first | rw [c9b0] | (simp only [i64_w, i32_w]; rw [c9b0]) | skip)
            have H' := Aside0.mk H
            clear H
            go_wp2
            go_meet
            case rel => exact ⟨_, (decide (a0 ≤ 57)), (by first | rfl | (simp; done) | (simp [*]; done)), H', ⟨by have := HJ1.out; first | omega | exact Nat.le_refl _⟩, by repeat (first | exact Drawn0.refl _ | apply Drawn0.step)⟩
          · rw [if_neg c9] at H
            have c9b0 : decide (48 ≤ a0) = false := decide_eq_false c9
            clear c9
            (first | rw [c9b0] | (simp only [i64_w, i32_w]; rw [c9b0]) | skip)
            have H' := Aside0.mk H
            clear H
            go_wp2
            go_meet
            case rel => exact ⟨_, (false), (by first | rfl | (simp; done) | (simp [*]; done)), H', ⟨by have := HJ1.out; first | omega | exact Nat.le_refl _⟩, by repeat (first | exact Drawn0.refl _ | apply Drawn0.step)⟩
        case rest =>
          clear HC8
          try clear c1
          try clear c2
          try clear p2
          try clear c3
          try clear c3b0
          try clear c4
          try clear c4b0
          try clear c5
          try clear c5b0
          try clear c6
          try clear c6b0
          try clear c7
          try clear c9
          try clear c9b0
          try clear p2
          obtain ⟨kq, x22_7, rfl, HA, HJ7, ⟨mc7, rfl⟩⟩ := hcut
          cases kq with
          | zero => exact absurd HA.out (by simp [ambidexterref10_Kind.j1])
          | succ kj7 =>
            have H := HA.out
            clear HA
            simp only [ambidexterref10_Kind.j1] at H
            by_cases c10 : x22_7 = true
            · subst c10
              have H1 : (some 2) = some r := by rw [if_pos rfl] at H; exact H
              clear H
              have H := H1
              clear H1
              obtain rfl := Option.some.inj H
              go_wp2
              go_ret
              exact ⟨by first | rfl | (simp; done) | (simp [*]; done), by repeat (first | exact Drawn0.refl _ | apply Drawn0.step)⟩
            · replace c10 := Bool.eq_false_iff.mpr c10
              subst c10
              have H1 : (if a0 = 95 then (some 3) else (if a0 = 40 then (ambidexterref10_Kind.j2 kj7 a0 (a0 == 40)) else (if a0 = 41 then (ambidexterref10_Kind.j2 kj7 a0 (a0 == 41)) else (if a0 = 123 then (ambidexterref10_Kind.j2 kj7 a0 (a0 == 123)) else (if a0 = 125 then (ambidexterref10_Kind.j2 kj7 a0 (a0 == 125)) else (if a0 = 59 then (ambidexterref10_Kind.j2 kj7 a0 (a0 == 59)) else (ambidexterref10_Kind.j2 kj7 a0 (a0 == 44)))))))) = some r := by rw [if_neg (show ¬ (false = true) by decide)] at H; exact H
              clear H
              have H := H1
              clear H1
              by_cases c11 : a0 = 95
              · rw [if_pos c11] at H
                have c11b0 : (a0 == 95) = true := beq_iff_eq.mpr c11
                have c11b1 : (a0 != 95) = false := bne_eq_false_iff_eq.mpr c11
                clear c11
                obtain rfl := Option.some.inj H
                go_wp2
                go_ret
                exact ⟨by first | rfl | (simp; done) | (simp [*]; done), by repeat (first | exact Drawn0.refl _ | apply Drawn0.step)⟩
              · rw [if_neg c11] at H
                have c11b0 : (a0 == 95) = false := beq_eq_false_iff_ne.mpr c11
                have c11b1 : (a0 != 95) = true := bne_iff_ne.mpr c11
                have HC12 := Aside0.mk H
                clear H
                go_upto_if 26 with (fail)
                go_cut [26] (fun v26 wc => ∃ (kq : Nat) (x26_11 : Bool), v26 = .bool x26_11 ∧ Aside0 (ambidexterref10_Kind.j2 kq a0 x26_11 = some r) ∧ Aside0 (kq ≤ kj7) ∧ Drawn0 w wc)
                case first =>
                  have H := HC12.out
                  clear HC12
                  by_cases c13 : a0 = 40
                  · rw [if_pos c13] at H
                    have c13b0 : (a0 == 40) = true := beq_iff_eq.mpr c13
                    have c13b1 : (a0 != 40) = false := bne_eq_false_iff_eq.mpr c13
                    clear c13
                    (first | rw [c13b0] | (simp only [i64_w, i32_w]; rw [c13b0]) | skip)
                    have H' := Aside0.mk H
                    clear H
                    go_wp2
                    go_meet
                    case rel => exact ⟨_, ((a0 == 40)), (by first | rfl | (simp; done) | (simp [*]; done)), H', ⟨by have := HJ1.out; have := HJ7.out; first | omega | exact Nat.le_refl _⟩, by repeat (first | exact Drawn0.refl _ | apply Drawn0.step)⟩
                  · rw [if_neg c13] at H
                    have c13b0 : (a0 == 40) = false := beq_eq_false_iff_ne.mpr c13
                    have c13b1 : (a0 != 40) = true := bne_iff_ne.mpr c13
                    (first | rw [c13b0] | (simp only [i64_w, i32_w]; rw [c13b0]) | skip)
                    by_cases c14 : a0 = 41
                    · rw [if_pos c14] at H
                      have c14b0 : (a0 == 41) = true := beq_iff_eq.mpr c14
                      have c14b1 : (a0 != 41) = false := bne_eq_false_iff_eq.mpr c14
                      clear c14
                      have H' := Aside0.mk H
                      clear H
                      go_wp2
                      go_meet
                      case rel => exact ⟨_, ((a0 == 41)), (by first | rfl | (simp; done) | (simp [*]; done)), H', ⟨by have := HJ1.out; have := HJ7.out; first | omega | exact Nat.le_refl _⟩, by repeat (first | exact Drawn0.refl _ | apply Drawn0.step)⟩
                    · rw [if_neg c14] at H
                      have c14b0 : (a0 == 41) = false := beq_eq_false_iff_ne.mpr c14
                      have c14b1 : (a0 != 41) = true := bne_iff_ne.mpr c14
                      by_cases c15 : a0 = 123
                      · rw [if_pos c15] at H
                        have c15b0 : (a0 == 123) = true := beq_iff_eq.mpr c15
                        have c15b1 : (a0 != 123) = false := bne_eq_false_iff_eq.mpr c15
                        clear c15
                        have H' := Aside0.mk H
                        clear H
                        go_wp2
                        go_meet
                        case rel => exact ⟨_, ((a0 == 123)), (by first | rfl | (simp; done) | (simp [*]; done)), H', ⟨by have := HJ1.out; have := HJ7.out; first | omega | exact Nat.le_refl _⟩, by repeat (first | exact Drawn0.refl _ | apply Drawn0.step)⟩
                      · rw [if_neg c15] at H
                        have c15b0 : (a0 == 123) = false := beq_eq_false_iff_ne.mpr c15
                        have c15b1 : (a0 != 123) = true := bne_iff_ne.mpr c15
                        by_cases c16 : a0 = 125
                        · rw [if_pos c16] at H
                          have c16b0 : (a0 == 125) = true := beq_iff_eq.mpr c16
                          have c16b1 : (a0 != 125) = false := bne_eq_false_iff_eq.mpr c16
                          clear c16
                          have H' := Aside0.mk H
                          clear H
                          go_wp2
                          go_meet
                          case rel => exact ⟨_, ((a0 == 125)), (by first | rfl | (simp; done) | (simp [*]; done)), H', ⟨by have := HJ1.out; have := HJ7.out; first | omega | exact Nat.le_refl _⟩, by repeat (first | exact Drawn0.refl _ | apply Drawn0.step)⟩
                        · rw [if_neg c16] at H
                          have c16b0 : (a0 == 125) = false := beq_eq_false_iff_ne.mpr c16
                          have c16b1 : (a0 != 125) = true := bne_iff_ne.mpr c16
                          by_cases c17 : a0 = 59
                          · rw [if_pos c17] at H
                            have c17b0 : (a0 == 59) = true := beq_iff_eq.mpr c17
                            have c17b1 : (a0 != 59) = false := bne_eq_false_iff_eq.mpr c17
                            clear c17
                            have H' := Aside0.mk H
                            clear H
                            go_wp2
                            go_meet
                            case rel => exact ⟨_, ((a0 == 59)), (by first | rfl | (simp; done) | (simp [*]; done)), H', ⟨by have := HJ1.out; have := HJ7.out; first | omega | exact Nat.le_refl _⟩, by repeat (first | exact Drawn0.refl _ | apply Drawn0.step)⟩
                          · rw [if_neg c17] at H
                            have c17b0 : (a0 == 59) = false := beq_eq_false_iff_ne.mpr c17
                            have c17b1 : (a0 != 59) = true := bne_iff_ne.mpr c17
                            have H' := Aside0.mk H
                            clear H
                            go_wp2
                            go_meet
                            case rel => exact ⟨_, ((a0 == 44)), (by first | rfl | (simp; done) | (simp [*]; done)), H', ⟨by have := HJ1.out; have := HJ7.out; first | omega | exact Nat.le_refl _⟩, by repeat (first | exact Drawn0.refl _ | apply Drawn0.step)⟩
                case rest =>
                  clear HC12
                  try clear c1
                  try clear c2
                  try clear p2
                  try clear c3
                  try clear c3b0
                  try clear c4
                  try clear c4b0
                  try clear c5
                  try clear c5b0
                  try clear c6
                  try clear c6b0
                  try clear c7
                  try clear c9
                  try clear c9b0
                  try clear c10
                  try clear c11
                  try clear c11b0
                  try clear c11b1
                  try clear c13
                  try clear c13b0
                  try clear c13b1
                  try clear c14
                  try clear c14b0
                  try clear c14b1
                  try clear c15
                  try clear c15b0
                  try clear c15b1
                  try clear c16
                  try clear c16b0
                  try clear c16b1
                  try clear c17
                  try clear c17b0
                  try clear c17b1
                  try clear p2
                  obtain ⟨kq, x26_11, rfl, HA, HJ11, ⟨mc11, rfl⟩⟩ := hcut
                  cases kq with
                  | zero => exact absurd HA.out (by simp [ambidexterref10_Kind.j2])
                  | succ kj11 =>
                    have H := HA.out
                    clear HA
                    simp only [ambidexterref10_Kind.j2] at H
                    by_cases c18 : x26_11 = true
                    · subst c18
                      have H1 : (some 4) = some r := by rw [if_pos rfl] at H; exact H
                      clear H
                      have H := H1
                      clear H1
                      obtain rfl := Option.some.inj H
                      go_wp2
                      go_ret
                      exact ⟨by first | rfl | (simp; done) | (simp [*]; done), by repeat (first | exact Drawn0.refl _ | apply Drawn0.step)⟩
                    · replace c18 := Bool.eq_false_iff.mpr c18
                      subst c18
                      have H1 : (if a0 = 32 then (ambidexterref10_Kind.j3 kj11 a0 (a0 == 32)) else (if a0 = 9 then (ambidexterref10_Kind.j3 kj11 a0 (a0 == 9)) else (if a0 = 10 then (ambidexterref10_Kind.j3 kj11 a0 (a0 == 10)) else (ambidexterref10_Kind.j3 kj11 a0 (a0 == 13))))) = some r := by rw [if_neg (show ¬ (false = true) by decide)] at H; exact H
                      clear H
                      have H := H1
                      clear H1
                      have HC19 := Aside0.mk H
                      clear H
                      go_upto_if 33 with (fail)
                      go_cut [33] (fun v33 wc => ∃ (kq : Nat) (x33_18 : Bool), v33 = .bool x33_18 ∧ Aside0 (ambidexterref10_Kind.j3 kq a0 x33_18 = some r) ∧ Aside0 (kq ≤ kj11) ∧ Drawn0 w wc)
                      case first =>
                        have H := HC19.out
                        clear HC19
                        by_cases c20 : a0 = 32
                        · rw [if_pos c20] at H
                          have c20b0 : (a0 == 32) = true := beq_iff_eq.mpr c20
                          have c20b1 : (a0 != 32) = false := bne_eq_false_iff_eq.mpr c20
                          clear c20
                          (first | rw [c20b0] | (simp only [i64_w, i32_w]; rw [c20b0]) | skip)
                          have H' := Aside0.mk H
                          clear H
                          go_wp2
                          go_meet
                          case rel => exact ⟨_, ((a0 == 32)), (by first | rfl | (simp; done) | (simp [*]; done)), H', ⟨by have := HJ1.out; have := HJ7.out; have := HJ11.out; first | omega | exact Nat.le_refl _⟩, by repeat (first | exact Drawn0.refl _ | apply Drawn0.step)⟩
                        · rw [if_neg c20] at H
                          have c20b0 : (a0 == 32) = false := beq_eq_false_iff_ne.mpr c20
                          have c20b1 : (a0 != 32) = true := bne_iff_ne.mpr c20
                          (first | rw [c20b0] | (simp only [i64_w, i32_w]; rw [c20b0]) | skip)
                          by_cases c21 : a0 = 9
                          · rw [if_pos c21] at H
                            have c21b0 : (a0 == 9) = true := beq_iff_eq.mpr c21
                            have c21b1 : (a0 != 9) = false := bne_eq_false_iff_eq.mpr c21
                            clear c21
                            have H' := Aside0.mk H
                            clear H
                            go_wp2
                            go_meet
                            case rel => exact ⟨_, ((a0 == 9)), (by first | rfl | (simp; done) | (simp [*]; done)), H', ⟨by have := HJ1.out; have := HJ7.out; have := HJ11.out; first | omega | exact Nat.le_refl _⟩, by repeat (first | exact Drawn0.refl _ | apply Drawn0.step)⟩
                          · rw [if_neg c21] at H
                            have c21b0 : (a0 == 9) = false := beq_eq_false_iff_ne.mpr c21
                            have c21b1 : (a0 != 9) = true := bne_iff_ne.mpr c21
                            by_cases c22 : a0 = 10
                            · rw [if_pos c22] at H
                              have c22b0 : (a0 == 10) = true := beq_iff_eq.mpr c22
                              have c22b1 : (a0 != 10) = false := bne_eq_false_iff_eq.mpr c22
                              clear c22
                              have H' := Aside0.mk H
                              clear H
                              go_wp2
                              go_meet
                              case rel => exact ⟨_, ((a0 == 10)), (by first | rfl | (simp; done) | (simp [*]; done)), H', ⟨by have := HJ1.out; have := HJ7.out; have := HJ11.out; first | omega | exact Nat.le_refl _⟩, by repeat (first | exact Drawn0.refl _ | apply Drawn0.step)⟩
                            · rw [if_neg c22] at H
                              have c22b0 : (a0 == 10) = false := beq_eq_false_iff_ne.mpr c22
                              have c22b1 : (a0 != 10) = true := bne_iff_ne.mpr c22
                              have H' := Aside0.mk H
                              clear H
                              go_wp2
                              go_meet
                              case rel => exact ⟨_, ((a0 == 13)), (by first | rfl | (simp; done) | (simp [*]; done)), H', ⟨by have := HJ1.out; have := HJ7.out; have := HJ11.out; first | omega | exact Nat.le_refl _⟩, by repeat (first | exact Drawn0.refl _ | apply Drawn0.step)⟩
                      case rest =>
                        clear HC19
                        try clear c1
                        try clear c2
                        try clear p2
                        try clear c3
                        try clear c3b0
                        try clear c4
                        try clear c4b0
                        try clear c5
                        try clear c5b0
                        try clear c6
                        try clear c6b0
                        try clear c7
                        try clear c9
                        try clear c9b0
                        try clear c10
                        try clear c11
                        try clear c11b0
                        try clear c11b1
                        try clear c13
                        try clear c13b0
                        try clear c13b1
                        try clear c14
                        try clear c14b0
                        try clear c14b1
                        try clear c15
                        try clear c15b0
                        try clear c15b1
                        try clear c16
                        try clear c16b0
                        try clear c16b1
                        try clear c17
                        try clear c17b0
                        try clear c17b1
                        try clear c18
                        try clear c20
                        try clear c20b0
                        try clear c20b1
                        try clear c21
                        try clear c21b0
                        try clear c21b1
                        try clear c22
                        try clear c22b0
                        try clear c22b1
                        try clear p2
                        obtain ⟨kq, x33_18, rfl, HA, HJ18, ⟨mc18, rfl⟩⟩ := hcut
                        cases kq with
                        | zero => exact absurd HA.out (by simp [ambidexterref10_Kind.j3])
                        | succ kj18 =>
                          have H := HA.out
                          clear HA
                          simp only [ambidexterref10_Kind.j3] at H
                          by_cases c23 : x33_18 = true
                          · subst c23
                            have H1 : (some 5) = some r := by rw [if_pos rfl] at H; exact H
                            clear H
                            have H := H1
                            clear H1
                            obtain rfl := Option.some.inj H
                            go_wp2
                            go_ret
                            exact ⟨by first | rfl | (simp; done) | (simp [*]; done), by repeat (first | exact Drawn0.refl _ | apply Drawn0.step)⟩
                          · replace c23 := Bool.eq_false_iff.mpr c23
                            subst c23
                            have H1 : (if a0 = 35 then (some 6) else (if a0 = 45 then (some 7) else (some 0))) = some r := by rw [if_neg (show ¬ (false = true) by decide)] at H; exact H
                            clear H
                            have H := H1
                            clear H1
                            by_cases c24 : a0 = 35
                            · rw [if_pos c24] at H
                              have c24b0 : (a0 == 35) = true := beq_iff_eq.mpr c24
                              have c24b1 : (a0 != 35) = false := bne_eq_false_iff_eq.mpr c24
                              clear c24
                              obtain rfl := Option.some.inj H
                              go_wp2
                              go_ret
                              exact ⟨by first | rfl | (simp; done) | (simp [*]; done), by repeat (first | exact Drawn0.refl _ | apply Drawn0.step)⟩
                            · rw [if_neg c24] at H
                              have c24b0 : (a0 == 35) = false := beq_eq_false_iff_ne.mpr c24
                              have c24b1 : (a0 != 35) = true := bne_iff_ne.mpr c24
                              by_cases c25 : a0 = 45
                              · rw [if_pos c25] at H
                                have c25b0 : (a0 == 45) = true := beq_iff_eq.mpr c25
                                have c25b1 : (a0 != 45) = false := bne_eq_false_iff_eq.mpr c25
                                clear c25
                                obtain rfl := Option.some.inj H
                                go_wp2
                                go_ret
                                exact ⟨by first | rfl | (simp; done) | (simp [*]; done), by repeat (first | exact Drawn0.refl _ | apply Drawn0.step)⟩
                              · rw [if_neg c25] at H
                                have c25b0 : (a0 == 45) = false := beq_eq_false_iff_ne.mpr c25
                                have c25b1 : (a0 != 45) = true := bne_iff_ne.mpr c25
                                obtain rfl := Option.some.inj H
                                go_wp2
                                go_ret
                                exact ⟨by first | rfl | (simp; done) | (simp [*]; done), by repeat (first | exact Drawn0.refl _ | apply Drawn0.step)⟩

/-! ### ambidexterref10_gap: function 19 -/
theorem kind_256 : ∀ c : Fin 256, ambidexterref10_Kind.f 9 (c.val : Int) = some (cls c.val) := by decide +kernel
theorem kind_f (c : Int) (h0 : 0 ≤ c) (h1 : c ≤ 255) : ambidexterref10_Kind.f 9 c = some (cls c.toNat) := by
  have := kind_256 ⟨c.toNat, by omega⟩
  simp only at this
  rw [show ((c.toNat : Nat) : Int) = c from by omega] at this
  exact this
/-- the reference's Kind tells a byte's class -/
theorem kind_any (c k : Int) (h0 : 0 ≤ c) (h1 : c ≤ 255) (hk : cls c.toNat = k) (w : World) : Calls Try.prog 21 #[.int .u8 c] w fun e w' => e = .returned (.int .i64 k) ∧ Drawn0 w w' :=
  ambidexterref10_Kind.calls 9 c k w (by rw [kind_f c h0 h1, hk])

theorem scanTo_next {p : Int → Bool} {n i : Int} (h : i < n) (hp : p i = true) : scanTo p n i = scanTo p n (i + 1) := by
  have h1 : scanTo p n i = scan p n ((n - (i + 1)).toNat + 1) i := by unfold scanTo; rw [show (n - i).toNat = (n - (i + 1)).toNat + 1 from by omega]
  rw [h1]
  simp only [scan]
  rw [if_pos h, if_pos hp]
  rfl
theorem scanTo_stop {p : Int → Bool} {n i : Int} (h : ¬ i < n ∨ p i = false) : scanTo p n i = i := by
  unfold scanTo
  cases hk : (n - i).toNat with
  | zero => rfl
  | succ k =>
    simp only [scan]
    rcases h with h | h
    · rw [if_neg h]
    · rw [h]; simp
theorem skipR_more (s : ByteArray) : ∀ (k m : Nat) (i : Int), ((s.size : Int) - i).toNat ≤ k → k ≤ m → 0 ≤ i → i ≤ (s.size : Int) → skipR s m i = skipR s k i := by
  intro k
  induction k with
  | zero =>
    intro m i hk hm h0 h1
    cases m with
    | zero => rfl
    | succ m =>
      simp only [skipR]
      rw [if_neg]
      intro h6
      have := (at_some (by decide) h6).1
      omega
  | succ k ih =>
    intro m i hk hm h0 h1
    cases m with
    | zero => omega
    | succ m =>
      simp only [skipR]
      split
      · rename_i h6
        have hlt := (at_some (by decide) h6).1
        have hst := scanTo_step hlt (line_of_six h6)
        have h2 := scanTo_range (lineAt s) s.size i h1
        have h3 := scanTo_range (blankAt s) s.size (scanTo (lineAt s) s.size i) h2.2
        exact ih m _ (by omega) (by omega) (by omega) h3.2
      · rfl
theorem skipTo_blank {s : ByteArray} {i : Int} (h : at_ s i = 5) : skipTo s (i + 1) = skipTo s i := by
  have hlt := (at_some (by decide) h).1
  unfold skipTo
  rw [scanTo_next hlt (show blankAt s i = true by simp [blankAt, h])]
theorem skipTo_other {s : ByteArray} {i : Int} (h5 : at_ s i ≠ 5) (h6 : at_ s i ≠ 6) : skipTo s i = i := by
  unfold skipTo
  rw [scanTo_stop (.inr (show blankAt s i = false by simpa [blankAt] using h5))]
  cases s.size with
  | zero => rfl
  | succ k => simp only [skipR]; rw [if_neg h6]
theorem skipTo_note {s : ByteArray} {i : Int} (h0 : 0 ≤ i) (h : at_ s i = 6) : skipTo s (scanTo (lineAt s) s.size i) = skipTo s i := by
  have hlt := (at_some (by decide) h).1
  have hst := scanTo_step hlt (line_of_six h)
  have h2 := scanTo_range (lineAt s) s.size i (by omega)
  have h3 := scanTo_range (blankAt s) s.size (scanTo (lineAt s) s.size i) h2.2
  unfold skipTo
  rw [scanTo_stop (i := i) (.inr (show blankAt s i = false by simp [blankAt, h]))]
  obtain ⟨k, hk⟩ : ∃ k, s.size = k + 1 := ⟨s.size - 1, by omega⟩
  conv => rhs; rw [hk]; simp only [skipR]
  rw [if_pos h]
  refine (skipR_more s k s.size _ (by omega) (by omega) (by omega) h3.2)
theorem at_in {s : ByteArray} {i : Int} (h : i < (s.size : Int)) : at_ s i = cls (bt s i).toNat := by unfold at_; rw [if_neg (by omega)]

/-- the reference's gap skips what the lexer skips -/
theorem gap_any (s : ByteArray) (hs : s.size ≤ 140737488351232) (i0 : Int) (h0 : 0 ≤ i0) (h1 : i0 ≤ (s.size : Int)) (w : World) :
    Calls Try.prog 19 #[.string s, .int .i64 i0] w fun e w' => e = .returned (.int .i64 (skipTo s i0)) ∧ Drawn0 w w' := by
  go_enter Try.func19, Try.ntmps19
  go_wp2_with fail
  go_loopg [1] ((s.size : Int) - i0).toNat (fun kq v wr => ∃ i : Int, v = .int .i64 i ∧ 0 ≤ i ∧ i ≤ (s.size : Int) ∧ Aside0 (((s.size : Int) - i).toNat = kq ∧ skipTo s i = skipTo s i0 ∧ Drawn0 w wr))
  case atStart => exact ⟨i0, rfl, by omega, by omega, ⟨rfl, rfl, Drawn0.refl _⟩⟩
  case round =>
    obtain ⟨i, rfl, hi0, hi1, ⟨hk, hr, hd⟩⟩ := hrel
    have HD := Aside0.mk hd
    have HR := Aside0.mk hr
    have HK := Aside0.mk hk
    clear hd hr hk
    have hx := bt_at s i
    have hb := bt_range s i
    by_cases hlt : i < (s.size : Int)
    · have hd : decide (i < (s.size : Int)) = true := decide_eq_true hlt
      by_cases h5 : at_ s i = 5
      · have K5 := fun w => kind_any (bt s i) 5 hb.1 hb.2 (by rw [← at_in hlt, h5]) w
        have K5' := Aside0.mk K5
        have H5 := Aside0.mk h5
        clear K5 h5
        go_wp2_with ((go_at_call 21; (with_reducible refine (K5'.out _).mono ?_); rintro e w' ⟨rfl, ⟨nd, rfl⟩⟩))
        go_roundg ((s.size : Int) - (i + 1)).toNat
        case measure => have := HK.out; omega
        case rel => exact ⟨i + 1, rfl, by omega, by omega, ⟨rfl, by rw [skipTo_blank H5.out]; exact HR.out, by repeat (first | exact HD.out | apply Drawn0.step)⟩⟩
      · by_cases h6 : at_ s i = 6
        · have K6' := Aside0.mk (fun w => kind_any (bt s i) 6 hb.1 hb.2 (by rw [← at_in hlt, h6]) w)
          have hst := scanTo_step hlt (line_of_six h6)
          have H6 := Aside0.mk h6
          clear h6 h5
          go_wp2_with ((go_at_call 21; (with_reducible refine (K6'.out _).mono ?_); rintro e w' ⟨rfl, ⟨nd, rfl⟩⟩))
          have HD2 : Aside0 (∃ W, W = wr) := ⟨⟨_, rfl⟩⟩
          clear hx hb
          go_loopg [1] ((s.size : Int) - i).toNat (fun kq v wr2 => ∃ j : Int, v = .int .i64 j ∧ i ≤ j ∧ j ≤ (s.size : Int) ∧ Aside0 (((s.size : Int) - j).toNat = kq ∧ scanTo (lineAt s) s.size j = scanTo (lineAt s) s.size i ∧ Drawn0 w wr2))
          case atStart => exact ⟨i, rfl, by omega, by omega, ⟨rfl, rfl, by repeat (first | exact HD.out | apply Drawn0.step)⟩⟩
          case round =>
            clear HD HD2
            obtain ⟨j, rfl, hj0, hj1, ⟨hk2, hr2, hd2⟩⟩ := hrel
            have HD := Aside0.mk hd2
            have HR2 := Aside0.mk hr2
            have HK2 := Aside0.mk hk2
            clear hd2 hr2 hk2
            have hx := bt_at s j
            have hj00 : 0 ≤ j := by omega
            by_cases hjl : j < (s.size : Int)
            · have hd2 : decide (j < (s.size : Int)) = true := decide_eq_true hjl
              by_cases hn : bt s j = 10
              · have hn1 : (bt s j != 10) = false := by simp [hn]
                have HN := Aside0.mk hn
                clear hn
                go_wp2_with fail
                have he : scanTo (lineAt s) s.size i = j := by rw [← HR2.out]; exact scanTo_stop (.inr hn1)
                have hs2 := skipTo_note hi0 H6.out
                rw [he] at hs2
                have HS2 := Aside0.mk hs2
                have hij : i + 1 ≤ j := by rw [he] at hst; exact hst
                clear hs2 he
                go_roundg ((s.size : Int) - j).toNat
                case measure => have := HK.out; omega
                case rel => exact ⟨j, rfl, by omega, by omega, ⟨rfl, by rw [HS2.out]; exact HR.out, HD.out⟩⟩
              · have hn1 : (bt s j != 10) = true := by simpa using hn
                clear hn
                go_wp2_with fail
                go_roundg ((s.size : Int) - (j + 1)).toNat
                case measure => have := HK2.out; omega
                case rel => exact ⟨j + 1, rfl, by omega, by omega, ⟨rfl, by rw [← scanTo_next hjl hn1]; exact HR2.out, HD.out⟩⟩
            · have hd2 : decide (j < (s.size : Int)) = false := decide_eq_false hjl
              go_wp2_with fail
              have he : scanTo (lineAt s) s.size i = j := by rw [← HR2.out]; exact scanTo_stop (.inl (by omega))
              have hs2 := skipTo_note hi0 H6.out
              rw [he] at hs2
              have HS2 := Aside0.mk hs2
              have hij : i + 1 ≤ j := by rw [he] at hst; exact hst
              clear hs2 he
              go_roundg ((s.size : Int) - j).toNat
              case measure => have := HK.out; omega
              case rel => exact ⟨j, rfl, by omega, by omega, ⟨rfl, by rw [HS2.out]; exact HR.out, HD.out⟩⟩
        · have hs2 := skipTo_other h5 h6
          have HS2 := Aside0.mk hs2
          clear hs2
          generalize hc : cls (bt s i).toNat = c at *
          have hc5 : (c == 5) = false := beq_eq_false_iff_ne.2 (by rw [← hc, ← at_in hlt]; exact h5)
          have hc6 : (c == 6) = false := beq_eq_false_iff_ne.2 (by rw [← hc, ← at_in hlt]; exact h6)
          have K' := Aside0.mk (fun w => kind_any (bt s i) c hb.1 hb.2 hc w)
          clear h5 h6 hc
          go_wp2_with ((go_at_call 21; (with_reducible refine (K'.out _).mono ?_); rintro e w' ⟨rfl, ⟨nd, rfl⟩⟩))
          go_ret
          exact ⟨by rw [← HR.out, HS2.out]; rfl, by repeat (first | exact HD.out | apply Drawn0.step)⟩
    · have hd : decide (i < (s.size : Int)) = false := decide_eq_false hlt
      have hz : at_ s i = 0 := by unfold at_; rw [if_pos (by omega)]
      have hs2 := skipTo_other (s := s) (i := i) (by omega) (by omega)
      have HS2 := Aside0.mk hs2
      clear hs2 hz
      go_wp2_with fail
      go_ret
      exact ⟨by rw [← HR.out, HS2.out]; rfl, HD.out⟩

def ambidexterref10_gap.f (a0 : ByteArray) (a1 : Int) : Option Int := if 0 ≤ a1 ∧ a1 ≤ (a0.size : Int) ∧ a0.size ≤ 140737488351232 then some (skipTo a0 a1) else none
theorem ambidexterref10_gap.calls (a0 : ByteArray) (a1 : Int) (r : Int) (w : World) (h : ambidexterref10_gap.f a0 a1 = some r) :
    Calls Try.prog 19 #[.string a0, .int .i64 a1] w fun e w' => e = .returned (.int .i64 r) ∧ Drawn0 w w' := by
  unfold ambidexterref10_gap.f at h
  split at h
  · rename_i hc
    obtain rfl := Option.some.inj h
    exact gap_any a0 hc.2.2 a1 hc.1 hc.2.1 w
  · exact absurd h (by simp)


/-! ### ambidexterref10_run: function 29 -/
-- (its contract stands with the reference's Lex)

/-! ### ambidexterref10_number: function 30 -/
-- (its contract stands with the reference's Lex)

/-! ### ambidexterref10_one: function 20 -/
-- (its contract stands with the reference's Lex)

end Go.Proofs.Ytiikijdkhmbdbaa.PLx
