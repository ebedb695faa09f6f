/- Part F of the proof of ParserMatchesReference: the contracts of the functions that the law reaches, and what their plain functions compute. No condition. -/
import Derived.Test.YtonhcfecfifghaaGreatDoorParserMatchesReferencePA
import Derived.Test.YtonhcfecfifghaaGreatDoorParserMatchesReferencePB
import Derived.Test.YtonhcfecfifghaaGreatDoorParserMatchesReferencePC
import Derived.Test.YtonhcfecfifghaaGreatDoorParserMatchesReferencePE
set_option maxHeartbeats 40000000
set_option maxRecDepth 100000
namespace Go.Proofs.YtonhcfecfifghaaGreatDoor.PPx
open Go.RowKit Go.Proofs.YtonhcfecfifghaaGreatDoorW.PrintWords Go.Proofs.YtonhcfecfifghaaGreatDoorW.PrintLast Go.Proofs.YtonhcfecfifghaaGreatDoorW.PrintMore
set_option linter.unusedVariables false
set_option linter.unusedSimpArgs false
mutual
def ambidexterref10_Kind.j0 : Nat → Int → Bool → Option (Int)
 | 0, _, _ => none
 | k + 1, x0, x16 => if x16 = true then (some 1) else (if x0 ≥ 48 then (ambidexterref10_Kind.j1 k x0 (decide (x0 ≤ 57))) else (ambidexterref10_Kind.j1 k x0 false))
def ambidexterref10_Kind.j1 : Nat → Int → Bool → Option (Int)
 | 0, _, _ => none
 | k + 1, x0, x22 => if x22 = true then (some 2) else (if x0 = 95 then (some 3) else (if x0 = 40 then (ambidexterref10_Kind.j2 k x0 (x0 == 40)) else (if x0 = 41 then (ambidexterref10_Kind.j2 k x0 (x0 == 41)) else (if x0 = 123 then (ambidexterref10_Kind.j2 k x0 (x0 == 123)) else (if x0 = 125 then (ambidexterref10_Kind.j2 k x0 (x0 == 125)) else (if x0 = 59 then (ambidexterref10_Kind.j2 k x0 (x0 == 59)) else (ambidexterref10_Kind.j2 k x0 (x0 == 44))))))))
def ambidexterref10_Kind.j2 : Nat → Int → Bool → Option (Int)
 | 0, _, _ => none
 | k + 1, x23, x26 => if x26 = true then (some 4) else (if x23 = 32 then (ambidexterref10_Kind.j3 k x23 (x23 == 32)) else (if x23 = 9 then (ambidexterref10_Kind.j3 k x23 (x23 == 9)) else (if x23 = 10 then (ambidexterref10_Kind.j3 k x23 (x23 == 10)) else (ambidexterref10_Kind.j3 k x23 (x23 == 13)))))
def ambidexterref10_Kind.j3 : Nat → Int → Bool → Option (Int)
 | 0, _, _ => none
 | k + 1, x23, x33 => if x33 = true then (some 5) else (if x23 = 35 then (some 6) else (if x23 = 45 then (some 7) else (some 0)))
end
def ambidexterref10_Kind.f (k : Nat) (a0 : Int) : Option (Int) := if a0 ≥ 65 then (if a0 ≤ 90 then (ambidexterref10_Kind.j0 k a0 true) else (if a0 ≥ 97 then (ambidexterref10_Kind.j0 k a0 (decide (a0 ≤ 122))) else (ambidexterref10_Kind.j0 k a0 false))) else (if a0 ≥ 97 then (ambidexterref10_Kind.j0 k a0 (decide (a0 ≤ 122))) else (ambidexterref10_Kind.j0 k a0 false))
theorem ambidexterref10_Kind.mono_l : ∀ k, (∀ y0 y1, LeO (ambidexterref10_Kind.j0 k y0 y1) (ambidexterref10_Kind.j0 (k + 1) y0 y1)) ∧ (∀ y0 y1, LeO (ambidexterref10_Kind.j1 k y0 y1) (ambidexterref10_Kind.j1 (k + 1) y0 y1)) ∧ (∀ y0 y1, LeO (ambidexterref10_Kind.j2 k y0 y1) (ambidexterref10_Kind.j2 (k + 1) y0 y1)) ∧ (∀ y0 y1, LeO (ambidexterref10_Kind.j3 k y0 y1) (ambidexterref10_Kind.j3 (k + 1) y0 y1))
 | 0 => ⟨fun _ _ r h => by simp [ambidexterref10_Kind.j0] at h, fun _ _ r h => by simp [ambidexterref10_Kind.j1] at h, fun _ _ r h => by simp [ambidexterref10_Kind.j2] at h, fun _ _ r h => by simp [ambidexterref10_Kind.j3] at h⟩
 | k + 1 => by
  obtain ⟨ih0, ih1, ih2, ih3⟩ := ambidexterref10_Kind.mono_l k
  refine ⟨?_, ?_, ?_, ?_⟩
  · intro y0 y1
    unfold ambidexterref10_Kind.j0
    repeat' first
    | (with_reducible exact ih0 _ _)
    | (with_reducible exact ih1 _ _)
    | (with_reducible exact ih2 _ _)
    | (with_reducible exact ih3 _ _)
    | (with_reducible exact LeO.refl _)
    | (with_reducible exact LeO.none _)
    | (with_reducible refine LeO.ite ?_ ?_)
    | (with_reducible refine LeO.bind ?_ (fun _ => ?_))
    | exact ih0 _ _
    | exact ih1 _ _
    | exact ih2 _ _
    | exact ih3 _ _
    | exact LeO.none _
    | refine LeO.ite ?_ ?_
    | refine LeO.bind ?_ (fun _ => ?_)
  · intro y0 y1
    unfold ambidexterref10_Kind.j1
    repeat' first
    | (with_reducible exact ih0 _ _)
    | (with_reducible exact ih1 _ _)
    | (with_reducible exact ih2 _ _)
    | (with_reducible exact ih3 _ _)
    | (with_reducible exact LeO.refl _)
    | (with_reducible exact LeO.none _)
    | (with_reducible refine LeO.ite ?_ ?_)
    | (with_reducible refine LeO.bind ?_ (fun _ => ?_))
    | exact ih0 _ _
    | exact ih1 _ _
    | exact ih2 _ _
    | exact ih3 _ _
    | exact LeO.none _
    | refine LeO.ite ?_ ?_
    | refine LeO.bind ?_ (fun _ => ?_)
  · intro y0 y1
    unfold ambidexterref10_Kind.j2
    repeat' first
    | (with_reducible exact ih0 _ _)
    | (with_reducible exact ih1 _ _)
    | (with_reducible exact ih2 _ _)
    | (with_reducible exact ih3 _ _)
    | (with_reducible exact LeO.refl _)
    | (with_reducible exact LeO.none _)
    | (with_reducible refine LeO.ite ?_ ?_)
    | (with_reducible refine LeO.bind ?_ (fun _ => ?_))
    | exact ih0 _ _
    | exact ih1 _ _
    | exact ih2 _ _
    | exact ih3 _ _
    | exact LeO.none _
    | refine LeO.ite ?_ ?_
    | refine LeO.bind ?_ (fun _ => ?_)
  · intro y0 y1
    unfold ambidexterref10_Kind.j3
    repeat' first
    | (with_reducible exact ih0 _ _)
    | (with_reducible exact ih1 _ _)
    | (with_reducible exact ih2 _ _)
    | (with_reducible exact ih3 _ _)
    | (with_reducible exact LeO.refl _)
    | (with_reducible exact LeO.none _)
    | (with_reducible refine LeO.ite ?_ ?_)
    | (with_reducible refine LeO.bind ?_ (fun _ => ?_))
    | exact ih0 _ _
    | exact ih1 _ _
    | exact ih2 _ _
    | exact ih3 _ _
    | exact LeO.none _
    | refine LeO.ite ?_ ?_
    | refine LeO.bind ?_ (fun _ => ?_)
theorem ambidexterref10_Kind.calls (k : Nat) (a0 : Int) (r : Int) (w : World) (h : ambidexterref10_Kind.f k a0 = some r) :
 Calls Tryz.prog 52 #[.int .u8 a0] w fun e w' => e = .returned (.int .i64 r) ∧ Drawn0 w w' := by
 have H : (if a0 ≥ 65 then (if a0 ≤ 90 then (ambidexterref10_Kind.j0 k a0 true) else (if a0 ≥ 97 then (ambidexterref10_Kind.j0 k a0 (decide (a0 ≤ 122))) else (ambidexterref10_Kind.j0 k a0 false))) else (if a0 ≥ 97 then (ambidexterref10_Kind.j0 k a0 (decide (a0 ≤ 122))) else (ambidexterref10_Kind.j0 k a0 false))) = some r := h
 clear h
 have HC2 := Aside0.mk H
 clear H
 go_enter Tryz.func52, Tryz.ntmps52
 go_upto_region 1 with (fail)
 go_cut [16] (fun v16 wc => ∃ (kq : Nat) (x16_1 : Bool), v16 = .bool x16_1 ∧ Aside0 (ambidexterref10_Kind.j0 kq a0 x16_1 = some r) ∧ Aside0 (kq ≤ k) ∧ Drawn0 w wc)
 case first =>
  have H := HC2.out
  clear HC2
  by_cases c3 : a0 ≥ 65
  · rw [if_pos c3] at H
    have c3b0 : decide (65 ≤ a0) = true := decide_eq_true c3
    clear c3
    (first | rw [c3b0] | (simp only [i64_w, i32_w]; rw [c3b0]) | skip)
    by_cases c4 : a0 ≤ 90
    · rw [if_pos c4] at H
      have c4b0 : decide (a0 ≤ 90) = true := decide_eq_true c4
      clear c4
      have H' := Aside0.mk H
      clear H
      go_wp2
      go_meet
      case rel => exact ⟨_, (true), (by first | rfl | (simp; done) | (simp [*]; done)), H', ⟨by first | omega | exact Nat.le_refl _⟩, by repeat (first | exact Drawn0.refl _ | apply Drawn0.step)⟩
    · rw [if_neg c4] at H
      have c4b0 : decide (a0 ≤ 90) = false := decide_eq_false c4
      clear c4
      by_cases c5 : a0 ≥ 97
      · rw [if_pos c5] at H
        have c5b0 : decide (97 ≤ a0) = true := decide_eq_true c5
        clear c5
        have H' := Aside0.mk H
        clear H
        go_wp2
        go_meet
        case rel => exact ⟨_, (decide (a0 ≤ 122)), (by first | rfl | (simp; done) | (simp [*]; done)), H', ⟨by first | omega | exact Nat.le_refl _⟩, by repeat (first | exact Drawn0.refl _ | apply Drawn0.step)⟩
      · rw [if_neg c5] at H
        have c5b0 : decide (97 ≤ a0) = false := decide_eq_false c5
        clear c5
        have H' := Aside0.mk H
        clear H
        go_wp2
        go_meet
        case rel => exact ⟨_, (false), (by first | rfl | (simp; done) | (simp [*]; done)), H', ⟨by first | omega | exact Nat.le_refl _⟩, by repeat (first | exact Drawn0.refl _ | apply Drawn0.step)⟩
  · rw [if_neg c3] at H
    have c3b0 : decide (65 ≤ a0) = false := decide_eq_false c3
    clear c3
    (first | rw [c3b0] | (simp only [i64_w, i32_w]; rw [c3b0]) | skip)
    by_cases c6 : a0 ≥ 97
    · rw [if_pos c6] at H
      have c6b0 : decide (97 ≤ a0) = true := decide_eq_true c6
      clear c6
      have H' := Aside0.mk H
      clear H
      go_wp2
      go_meet
      case rel => exact ⟨_, (decide (a0 ≤ 122)), (by first | rfl | (simp; done) | (simp [*]; done)), H', ⟨by first | omega | exact Nat.le_refl _⟩, by repeat (first | exact Drawn0.refl _ | apply Drawn0.step)⟩
    · rw [if_neg c6] at H
      have c6b0 : decide (97 ≤ a0) = false := decide_eq_false c6
      clear c6
      have H' := Aside0.mk H
      clear H
      go_wp2
      go_meet
      case rel => exact ⟨_, (false), (by first | rfl | (simp; done) | (simp [*]; done)), H', ⟨by first | omega | exact Nat.le_refl _⟩, by repeat (first | exact Drawn0.refl _ | apply Drawn0.step)⟩
 case rest =>
  clear HC2
  try clear p2
  try clear c3
  try clear c3b0
  try clear c4
  try clear c4b0
  try clear c5
  try clear c5b0
  try clear c6
  try clear c6b0
  obtain ⟨kq, x16_1, rfl, HA, HJ1, ⟨mc1, rfl⟩⟩ := hcut
  cases kq with
  | zero => exact absurd HA.out (by simp [ambidexterref10_Kind.j0])
  | succ kj1 =>
   have H := HA.out
   clear HA
   simp only [ambidexterref10_Kind.j0] at H
   by_cases c7 : x16_1 = true
   · subst c7
     have H1 : (some 1) = some r := by rw [if_pos rfl] at H; exact H
     clear H
     have H := H1
     clear H1
     obtain rfl := Option.some.inj H
     go_wp2
     go_ret
     exact ⟨by first | rfl | (simp; done) | (simp [*]; done), by repeat (first | exact Drawn0.refl _ | apply Drawn0.step)⟩
   · replace c7 := Bool.eq_false_iff.mpr c7
     subst c7
     have H1 : (if a0 ≥ 48 then (ambidexterref10_Kind.j1 kj1 a0 (decide (a0 ≤ 57))) else (ambidexterref10_Kind.j1 kj1 a0 false)) = some r := by rw [if_neg (show ¬ (false = true) by decide)] at H; exact H
     clear H
     have H := H1
     clear H1
     have HC8 := Aside0.mk H
     clear H
     go_upto_region 3 with (fail)
     go_cut [22] (fun v22 wc => ∃ (kq : Nat) (x22_7 : Bool), v22 = .bool x22_7 ∧ Aside0 (ambidexterref10_Kind.j1 kq a0 x22_7 = some r) ∧ Aside0 (kq ≤ kj1) ∧ Drawn0 w wc)
     case first =>
      have H := HC8.out
      clear HC8
      by_cases c9 : a0 ≥ 48
      · rw [if_pos c9] at H
        have c9b0 : decide (48 ≤ a0) = true := decide_eq_true c9
        clear c9
        (first | rw [c9b0] | (simp only [i64_w, i32_w]; rw [c9b0]) | skip)
        have H' := Aside0.mk H
        clear H
        go_wp2
        go_meet
        case rel => exact ⟨_, (decide (a0 ≤ 57)), (by first | rfl | (simp; done) | (simp [*]; done)), H', ⟨by have := HJ1.out; first | omega | exact Nat.le_refl _⟩, by repeat (first | exact Drawn0.refl _ | apply Drawn0.step)⟩
      · rw [if_neg c9] at H
        have c9b0 : decide (48 ≤ a0) = false := decide_eq_false c9
        clear c9
        (first | rw [c9b0] | (simp only [i64_w, i32_w]; rw [c9b0]) | skip)
        have H' := Aside0.mk H
        clear H
        go_wp2
        go_meet
        case rel => exact ⟨_, (false), (by first | rfl | (simp; done) | (simp [*]; done)), H', ⟨by have := HJ1.out; first | omega | exact Nat.le_refl _⟩, by repeat (first | exact Drawn0.refl _ | apply Drawn0.step)⟩
     case rest =>
      clear HC8
      try clear c1
      try clear p2
      try clear c3
      try clear c3b0
      try clear c4
      try clear c4b0
      try clear c5
      try clear c5b0
      try clear c6
      try clear c6b0
      try clear c7
      try clear c9
      try clear c9b0
      try clear p2
      obtain ⟨kq, x22_7, rfl, HA, HJ7, ⟨mc7, rfl⟩⟩ := hcut
      cases kq with
      | zero => exact absurd HA.out (by simp [ambidexterref10_Kind.j1])
      | succ kj7 =>
       have H := HA.out
       clear HA
       simp only [ambidexterref10_Kind.j1] at H
       by_cases c10 : x22_7 = true
       · subst c10
         have H1 : (some 2) = some r := by rw [if_pos rfl] at H; exact H
         clear H
         have H := H1
         clear H1
         obtain rfl := Option.some.inj H
         go_wp2
         go_ret
         exact ⟨by first | rfl | (simp; done) | (simp [*]; done), by repeat (first | exact Drawn0.refl _ | apply Drawn0.step)⟩
       · replace c10 := Bool.eq_false_iff.mpr c10
         subst c10
         have H1 : (if a0 = 95 then (some 3) else (if a0 = 40 then (ambidexterref10_Kind.j2 kj7 a0 (a0 == 40)) else (if a0 = 41 then (ambidexterref10_Kind.j2 kj7 a0 (a0 == 41)) else (if a0 = 123 then (ambidexterref10_Kind.j2 kj7 a0 (a0 == 123)) else (if a0 = 125 then (ambidexterref10_Kind.j2 kj7 a0 (a0 == 125)) else (if a0 = 59 then (ambidexterref10_Kind.j2 kj7 a0 (a0 == 59)) else (ambidexterref10_Kind.j2 kj7 a0 (a0 == 44)))))))) = some r := by rw [if_neg (show ¬ (false = true) by decide)] at H; exact H
         clear H
         have H := H1
         clear H1
         by_cases c11 : a0 = 95
         · rw [if_pos c11] at H
           have c11b0 : (a0 == 95) = true := beq_iff_eq.mpr c11
           have c11b1 : (a0 != 95) = false := bne_eq_false_iff_eq.mpr c11
           clear c11
           obtain rfl := Option.some.inj H
           go_wp2
           go_ret
           exact ⟨by first | rfl | (simp; done) | (simp [*]; done), by repeat (first | exact Drawn0.refl _ | apply Drawn0.step)⟩
         · rw [if_neg c11] at H
           have c11b0 : (a0 == 95) = false := beq_eq_false_iff_ne.mpr c11
           have c11b1 : (a0 != 95) = true := bne_iff_ne.mpr c11
           have HC12 := Aside0.mk H
           clear H
           go_upto_if 26 with (fail)
           go_cut [26] (fun v26 wc => ∃ (kq : Nat) (x26_11 : Bool), v26 = .bool x26_11 ∧ Aside0 (ambidexterref10_Kind.j2 kq a0 x26_11 = some r) ∧ Aside0 (kq ≤ kj7) ∧ Drawn0 w wc)
           case first =>
            have H := HC12.out
            clear HC12
            by_cases c13 : a0 = 40
            · rw [if_pos c13] at H
              have c13b0 : (a0 == 40) = true := beq_iff_eq.mpr c13
              have c13b1 : (a0 != 40) = false := bne_eq_false_iff_eq.mpr c13
              clear c13
              (first | rw [c13b0] | (simp only [i64_w, i32_w]; rw [c13b0]) | skip)
              have H' := Aside0.mk H
              clear H
              go_wp2
              go_meet
              case rel => exact ⟨_, ((a0 == 40)), (by first | rfl | (simp; done) | (simp [*]; done)), H', ⟨by have := HJ1.out; have := HJ7.out; first | omega | exact Nat.le_refl _⟩, by repeat (first | exact Drawn0.refl _ | apply Drawn0.step)⟩
            · rw [if_neg c13] at H
              have c13b0 : (a0 == 40) = false := beq_eq_false_iff_ne.mpr c13
              have c13b1 : (a0 != 40) = true := bne_iff_ne.mpr c13
              (first | rw [c13b0] | (simp only [i64_w, i32_w]; rw [c13b0]) | skip)
              by_cases c14 : a0 = 41
              · rw [if_pos c14] at H
                have c14b0 : (a0 == 41) = true := beq_iff_eq.mpr c14
                have c14b1 : (a0 != 41) = false := bne_eq_false_iff_eq.mpr c14
                clear c14
                have H' := Aside0.mk H
                clear H
                go_wp2
                go_meet
                case rel => exact ⟨_, ((a0 == 41)), (by first | rfl | (simp; done) | (simp [*]; done)), H', ⟨by have := HJ1.out; have := HJ7.out; first | omega | exact Nat.le_refl _⟩, by repeat (first | exact Drawn0.refl _ | apply Drawn0.step)⟩
              · rw [if_neg c14] at H
                have c14b0 : (a0 == 41) = false := beq_eq_false_iff_ne.mpr c14
                have c14b1 : (a0 != 41) = true := bne_iff_ne.mpr c14
                by_cases c15 : a0 = 123
                · rw [if_pos c15] at H
                  have c15b0 : (a0 == 123) = true := beq_iff_eq.mpr c15
                  have c15b1 : (a0 != 123) = false := bne_eq_false_iff_eq.mpr c15
                  clear c15
                  have H' := Aside0.mk H
                  clear H
                  go_wp2
                  go_meet
                  case rel => exact ⟨_, ((a0 == 123)), (by first | rfl | (simp; done) | (simp [*]; done)), H', ⟨by have := HJ1.out; have := HJ7.out; first | omega | exact Nat.le_refl _⟩, by repeat (first | exact Drawn0.refl _ | apply Drawn0.step)⟩
                · rw [if_neg c15] at H
                  have c15b0 : (a0 == 123) = false := beq_eq_false_iff_ne.mpr c15
                  have c15b1 : (a0 != 123) = true := bne_iff_ne.mpr c15
                  by_cases c16 : a0 = 125
                  · rw [if_pos c16] at H
                    have c16b0 : (a0 == 125) = true := beq_iff_eq.mpr c16
                    have c16b1 : (a0 != 125) = false := bne_eq_false_iff_eq.mpr c16
                    clear c16
                    have H' := Aside0.mk H
                    clear H
                    go_wp2
                    go_meet
                    case rel => exact ⟨_, ((a0 == 125)), (by first | rfl | (simp; done) | (simp [*]; done)), H', ⟨by have := HJ1.out; have := HJ7.out; first | omega | exact Nat.le_refl _⟩, by repeat (first | exact Drawn0.refl _ | apply Drawn0.step)⟩
                  · rw [if_neg c16] at H
                    have c16b0 : (a0 == 125) = false := beq_eq_false_iff_ne.mpr c16
                    have c16b1 : (a0 != 125) = true := bne_iff_ne.mpr c16
                    by_cases c17 : a0 = 59
                    · rw [if_pos c17] at H
                      have c17b0 : (a0 == 59) = true := beq_iff_eq.mpr c17
                      have c17b1 : (a0 != 59) = false := bne_eq_false_iff_eq.mpr c17
                      clear c17
                      have H' := Aside0.mk H
                      clear H
                      go_wp2
                      go_meet
                      case rel => exact ⟨_, ((a0 == 59)), (by first | rfl | (simp; done) | (simp [*]; done)), H', ⟨by have := HJ1.out; have := HJ7.out; first | omega | exact Nat.le_refl _⟩, by repeat (first | exact Drawn0.refl _ | apply Drawn0.step)⟩
                    · rw [if_neg c17] at H
                      have c17b0 : (a0 == 59) = false := beq_eq_false_iff_ne.mpr c17
                      have c17b1 : (a0 != 59) = true := bne_iff_ne.mpr c17
                      have H' := Aside0.mk H
                      clear H
                      go_wp2
                      go_meet
                      case rel => exact ⟨_, ((a0 == 44)), (by first | rfl | (simp; done) | (simp [*]; done)), H', ⟨by have := HJ1.out; have := HJ7.out; first | omega | exact Nat.le_refl _⟩, by repeat (first | exact Drawn0.refl _ | apply Drawn0.step)⟩
           case rest =>
            clear HC12
            try clear c1
            try clear p2
            try clear c3
            try clear c3b0
            try clear c4
            try clear c4b0
            try clear c5
            try clear c5b0
            try clear c6
            try clear c6b0
            try clear c7
            try clear c9
            try clear c9b0
            try clear c10
            try clear c11
            try clear c11b0
            try clear c11b1
            try clear c13
            try clear c13b0
            try clear c13b1
            try clear c14
            try clear c14b0
            try clear c14b1
            try clear c15
            try clear c15b0
            try clear c15b1
            try clear c16
            try clear c16b0
            try clear c16b1
            try clear c17
            try clear c17b0
            try clear c17b1
            try clear p2
            obtain ⟨kq, x26_11, rfl, HA, HJ11, ⟨mc11, rfl⟩⟩ := hcut
            cases kq with
            | zero => exact absurd HA.out (by simp [ambidexterref10_Kind.j2])
            | succ kj11 =>
             have H := HA.out
             clear HA
             simp only [ambidexterref10_Kind.j2] at H
             by_cases c18 : x26_11 = true
             · subst c18
               have H1 : (some 4) = some r := by rw [if_pos rfl] at H; exact H
               clear H
               have H := H1
               clear H1
               obtain rfl := Option.some.inj H
               go_wp2
               go_ret
               exact ⟨by first | rfl | (simp; done) | (simp [*]; done), by repeat (first | exact Drawn0.refl _ | apply Drawn0.step)⟩
             · replace c18 := Bool.eq_false_iff.mpr c18
               subst c18
               have H1 : (if a0 = 32 then (ambidexterref10_Kind.j3 kj11 a0 (a0 == 32)) else (if a0 = 9 then (ambidexterref10_Kind.j3 kj11 a0 (a0 == 9)) else (if a0 = 10 then (ambidexterref10_Kind.j3 kj11 a0 (a0 == 10)) else (ambidexterref10_Kind.j3 kj11 a0 (a0 == 13))))) = some r := by rw [if_neg (show ¬ (false = true) by decide)] at H; exact H
               clear H
               have H := H1
               clear H1
               have HC19 := Aside0.mk H
               clear H
               go_upto_if 33 with (fail)
               go_cut [33] (fun v33 wc => ∃ (kq : Nat) (x33_18 : Bool), v33 = .bool x33_18 ∧ Aside0 (ambidexterref10_Kind.j3 kq a0 x33_18 = some r) ∧ Aside0 (kq ≤ kj11) ∧ Drawn0 w wc)
               case first =>
                have H := HC19.out
                clear HC19
                by_cases c20 : a0 = 32
                · rw [if_pos c20] at H
                  have c20b0 : (a0 == 32) = true := beq_iff_eq.mpr c20
                  have c20b1 : (a0 != 32) = false := bne_eq_false_iff_eq.mpr c20
                  clear c20
                  (first | rw [c20b0] | (simp only [i64_w, i32_w]; rw [c20b0]) | skip)
                  have H' := Aside0.mk H
                  clear H
                  go_wp2
                  go_meet
                  case rel => exact ⟨_, ((a0 == 32)), (by first | rfl | (simp; done) | (simp [*]; done)), H', ⟨by have := HJ1.out; have := HJ7.out; have := HJ11.out; first | omega | exact Nat.le_refl _⟩, by repeat (first | exact Drawn0.refl _ | apply Drawn0.step)⟩
                · rw [if_neg c20] at H
                  have c20b0 : (a0 == 32) = false := beq_eq_false_iff_ne.mpr c20
                  have c20b1 : (a0 != 32) = true := bne_iff_ne.mpr c20
                  (first | rw [c20b0] | (simp only [i64_w, i32_w]; rw [c20b0]) | skip)
                  by_cases c21 : a0 = 9
                  · rw [if_pos c21] at H
                    have c21b0 : (a0 == 9) = true := beq_iff_eq.mpr c21
                    have c21b1 : (a0 != 9) = false := bne_eq_false_iff_eq.mpr c21
                    clear c21
                    have H' := Aside0.mk H
                    clear H
                    go_wp2
                    go_meet
                    case rel => exact ⟨_, ((a0 == 9)), (by first | rfl | (simp; done) | (simp [*]; done)), H', ⟨by have := HJ1.out; have := HJ7.out; have := HJ11.out; first | omega | exact Nat.le_refl _⟩, by repeat (first | exact Drawn0.refl _ | apply Drawn0.step)⟩
                  · rw [if_neg c21] at H
                    have c21b0 : (a0 == 9) = false := beq_eq_false_iff_ne.mpr c21
                    have c21b1 : (a0 != 9) = true := bne_iff_ne.mpr c21
                    by_cases c22 : a0 = 10
                    · rw [if_pos c22] at H
                      have c22b0 : (a0 == 10) = true := beq_iff_eq.mpr c22
                      have c22b1 : (a0 != 10) = false := bne_eq_false_iff_eq.mpr c22
                      clear c22
                      have H' := Aside0.mk H
                      clear H
                      go_wp2
                      go_meet
                      case rel => exact ⟨_, ((a0 == 10)), (by first | rfl | (simp; done) | (simp [*]; done)), H', ⟨by have := HJ1.out; have := HJ7.out; have := HJ11.out; first | omega | exact Nat.le_refl _⟩, by repeat (first | exact Drawn0.refl _ | apply Drawn0.step)⟩
                    · rw [if_neg c22] at H
                      have c22b0 : (a0 == 10) = false := beq_eq_false_iff_ne.mpr c22
                      have c22b1 : (a0 != 10) = true := bne_iff_ne.mpr c22
                      have H' := Aside0.mk H
                      clear H
                      go_wp2
                      go_meet
                      case rel => exact ⟨_, ((a0 == 13)), (by first | rfl | (simp; done) | (simp [*]; done)), H', ⟨by have := HJ1.out; have := HJ7.out; have := HJ11.out; first | omega | exact Nat.le_refl _⟩, by repeat (first | exact Drawn0.refl _ | apply Drawn0.step)⟩
               case rest =>
                clear HC19
                try clear c1
                try clear c2
                try clear p2
                try clear c3
                try clear c3b0
                try clear c4
                try clear c4b0
                try clear c5
                try clear c5b0
                try clear c6
                try clear c6b0
                try clear c7
                try clear c9
                try clear c9b0
                try clear c10
                try clear c11
                try clear c11b0
                try clear c11b1
                try clear c13
                try clear c13b0
                try clear c13b1
                try clear c14
                try clear c14b0
                try clear c14b1
                try clear c15
                try clear c15b0
                try clear c15b1
                try clear c16
                try clear c16b0
                try clear c16b1
                try clear c17
                try clear c17b0
                try clear c17b1
                try clear c18
                try clear c20
                try clear c20b0
                try clear c20b1
                try clear c21
                try clear c21b0
                try clear c21b1
                try clear c22
                try clear c22b0
                try clear c22b1
                try clear p2
                obtain ⟨kq, x33_18, rfl, HA, HJ18, ⟨mc18, rfl⟩⟩ := hcut
                cases kq with
                | zero => exact absurd HA.out (by simp [ambidexterref10_Kind.j3])
                | succ kj18 =>
                 have H := HA.out
                 clear HA
                 simp only [ambidexterref10_Kind.j3] at H
                 by_cases c23 : x33_18 = true
                 · subst c23
                   have H1 : (some 5) = some r := by rw [if_pos rfl] at H; exact H
                   clear H
                   have H := H1
                   clear H1
                   obtain rfl := Option.some.inj H
                   go_wp2
                   go_ret
                   exact ⟨by first | rfl | (simp; done) | (simp [*]; done), by repeat (first | exact Drawn0.refl _ | apply Drawn0.step)⟩
                 · replace c23 := Bool.eq_false_iff.mpr c23
                   subst c23
                   have H1 : (if a0 = 35 then (some 6) else (if a0 = 45 then (some 7) else (some 0))) = some r := by rw [if_neg (show ¬ (false = true) by decide)] at H; exact H
                   clear H
                   have H := H1
                   clear H1
                   by_cases c24 : a0 = 35
                   · rw [if_pos c24] at H
                     have c24b0 : (a0 == 35) = true := beq_iff_eq.mpr c24
                     have c24b1 : (a0 != 35) = false := bne_eq_false_iff_eq.mpr c24
                     clear c24
                     obtain rfl := Option.some.inj H
                     go_wp2
                     go_ret
                     exact ⟨by first | rfl | (simp; done) | (simp [*]; done), by repeat (first | exact Drawn0.refl _ | apply Drawn0.step)⟩
                   · rw [if_neg c24] at H
                     have c24b0 : (a0 == 35) = false := beq_eq_false_iff_ne.mpr c24
                     have c24b1 : (a0 != 35) = true := bne_iff_ne.mpr c24
                     by_cases c25 : a0 = 45
                     · rw [if_pos c25] at H
                       have c25b0 : (a0 == 45) = true := beq_iff_eq.mpr c25
                       have c25b1 : (a0 != 45) = false := bne_eq_false_iff_eq.mpr c25
                       clear c25
                       obtain rfl := Option.some.inj H
                       go_wp2
                       go_ret
                       exact ⟨by first | rfl | (simp; done) | (simp [*]; done), by repeat (first | exact Drawn0.refl _ | apply Drawn0.step)⟩
                     · rw [if_neg c25] at H
                       have c25b0 : (a0 == 45) = false := beq_eq_false_iff_ne.mpr c25
                       have c25b1 : (a0 != 45) = true := bne_iff_ne.mpr c25
                       obtain rfl := Option.some.inj H
                       go_wp2
                       go_ret
                       exact ⟨by first | rfl | (simp; done) | (simp [*]; done), by repeat (first | exact Drawn0.refl _ | apply Drawn0.step)⟩
theorem kind_256 : ∀ c : Fin 256, ambidexterref10_Kind.f 9 (c.val : Int) = some (cls c.val) := by decide +kernel
theorem kind_f (c : Int) (h0 : 0 ≤ c) (h1 : c ≤ 255) : ambidexterref10_Kind.f 9 c = some (cls c.toNat) := by
 have := kind_256 ⟨c.toNat, by omega⟩
 simp only at this
 rw [show ((c.toNat : Nat) : Int) = c from by omega] at this
 exact this
theorem kind_any (c k : Int) (h0 : 0 ≤ c) (h1 : c ≤ 255) (hk : cls c.toNat = k) (w : World) : Calls Tryz.prog 52 #[.int .u8 c] w fun e w' => e = .returned (.int .i64 k) ∧ Drawn0 w w' :=
 ambidexterref10_Kind.calls 9 c k w (by rw [kind_f c h0 h1, hk])
theorem scanTo_next {p : Int → Bool} {n i : Int} (h : i < n) (hp : p i = true) : scanTo p n i = scanTo p n (i + 1) := by
 have h1 : scanTo p n i = scan p n ((n - (i + 1)).toNat + 1) i := by unfold scanTo; rw [show (n - i).toNat = (n - (i + 1)).toNat + 1 from by omega]
 rw [h1]
 simp only [scan]
 rw [if_pos h, if_pos hp]
 rfl
theorem scanTo_stop {p : Int → Bool} {n i : Int} (h : ¬ i < n ∨ p i = false) : scanTo p n i = i := by
 unfold scanTo
 cases hk : (n - i).toNat with
 | zero => rfl
 | succ k =>
  simp only [scan]
  rcases h with h | h
  · rw [if_neg h]
  · rw [h]; simp
theorem skipR_more (s : ByteArray) : ∀ (k m : Nat) (i : Int), ((s.size : Int) - i).toNat ≤ k → k ≤ m → 0 ≤ i → i ≤ (s.size : Int) → skipR s m i = skipR s k i := by
 intro k
 induction k with
 | zero =>
  intro m i hk hm h0 h1
  cases m with
  | zero => rfl
  | succ m =>
   simp only [skipR]
   rw [if_neg]
   intro h6
   have := (at_some (by decide) h6).1
   omega
 | succ k ih =>
  intro m i hk hm h0 h1
  cases m with
  | zero => omega
  | succ m =>
   simp only [skipR]
   split
   · rename_i h6
     have hlt := (at_some (by decide) h6).1
     have hst := scanTo_step hlt (line_of_six h6)
     have h2 := scanTo_range (lineAt s) s.size i h1
     have h3 := scanTo_range (blankAt s) s.size (scanTo (lineAt s) s.size i) h2.2
     exact ih m _ (by omega) (by omega) (by omega) h3.2
   · rfl
theorem skipTo_blank {s : ByteArray} {i : Int} (h : at_ s i = 5) : skipTo s (i + 1) = skipTo s i := by
 have hlt := (at_some (by decide) h).1
 unfold skipTo
 rw [scanTo_next hlt (show blankAt s i = true by simp [blankAt, h])]
theorem skipTo_other {s : ByteArray} {i : Int} (h5 : at_ s i ≠ 5) (h6 : at_ s i ≠ 6) : skipTo s i = i := by
 unfold skipTo
 rw [scanTo_stop (.inr (show blankAt s i = false by simpa [blankAt] using h5))]
 cases s.size with
 | zero => rfl
 | succ k => simp only [skipR]; rw [if_neg h6]
theorem skipTo_note {s : ByteArray} {i : Int} (h0 : 0 ≤ i) (h : at_ s i = 6) : skipTo s (scanTo (lineAt s) s.size i) = skipTo s i := by
 have hlt := (at_some (by decide) h).1
 have hst := scanTo_step hlt (line_of_six h)
 have h2 := scanTo_range (lineAt s) s.size i (by omega)
 have h3 := scanTo_range (blankAt s) s.size (scanTo (lineAt s) s.size i) h2.2
 unfold skipTo
 rw [scanTo_stop (i := i) (.inr (show blankAt s i = false by simp [blankAt, h]))]
 obtain ⟨k, hk⟩ : ∃ k, s.size = k + 1 := ⟨s.size - 1, by omega⟩
 conv => rhs; rw [hk]; simp only [skipR]
 rw [if_pos h]
 refine (skipR_more s k s.size _ (by omega) (by omega) (by omega) h3.2)
theorem at_in {s : ByteArray} {i : Int} (h : i < (s.size : Int)) : at_ s i = cls (bt s i).toNat := by unfold at_; rw [if_neg (by omega)]
theorem gap_any (s : ByteArray) (hs : s.size ≤ 140737488351232) (i0 : Int) (h0 : 0 ≤ i0) (h1 : i0 ≤ (s.size : Int)) (w : World) :
 Calls Tryz.prog 33 #[.string s, .int .i64 i0] w fun e w' => e = .returned (.int .i64 (skipTo s i0)) ∧ Drawn0 w w' := by
 go_enter Tryz.func33, Tryz.ntmps33
 go_wp2_with fail
 go_loopg [1] ((s.size : Int) - i0).toNat (fun kq v wr => ∃ i : Int, v = .int .i64 i ∧ 0 ≤ i ∧ i ≤ (s.size : Int) ∧ Aside0 (((s.size : Int) - i).toNat = kq ∧ skipTo s i = skipTo s i0 ∧ Drawn0 w wr))
 case atStart => exact ⟨i0, rfl, by omega, by omega, ⟨rfl, rfl, Drawn0.refl _⟩⟩
 case round =>
  obtain ⟨i, rfl, hi0, hi1, ⟨hk, hr, hd⟩⟩ := hrel
  have HD := Aside0.mk hd
  have HR := Aside0.mk hr
  have HK := Aside0.mk hk
  clear hd hr hk
  have hx := bt_at s i
  have hb := bt_range s i
  by_cases hlt : i < (s.size : Int)
  · have hd : decide (i < (s.size : Int)) = true := decide_eq_true hlt
    by_cases h5 : at_ s i = 5
    · have K5 := fun w => kind_any (bt s i) 5 hb.1 hb.2 (by rw [← at_in hlt, h5]) w
      have K5' := Aside0.mk K5
      have H5 := Aside0.mk h5
      clear K5 h5
      go_wp2_with ((go_at_call 52; (with_reducible refine (K5'.out _).mono ?_); rintro e w' ⟨rfl, ⟨nd, rfl⟩⟩))
      go_roundg ((s.size : Int) - (i + 1)).toNat
      case measure => have := HK.out; omega
      case rel => exact ⟨i + 1, rfl, by omega, by omega, ⟨rfl, by rw [skipTo_blank H5.out]; exact HR.out, by repeat (first | exact HD.out | apply Drawn0.step)⟩⟩
    · by_cases h6 : at_ s i = 6
      · have K6' := Aside0.mk (fun w => kind_any (bt s i) 6 hb.1 hb.2 (by rw [← at_in hlt, h6]) w)
        have hst := scanTo_step hlt (line_of_six h6)
        have H6 := Aside0.mk h6
        clear h6 h5
        go_wp2_with ((go_at_call 52; (with_reducible refine (K6'.out _).mono ?_); rintro e w' ⟨rfl, ⟨nd, rfl⟩⟩))
        have HD2 : Aside0 (∃ W, W = wr) := ⟨⟨_, rfl⟩⟩
        clear hx hb
        go_loopg [1] ((s.size : Int) - i).toNat (fun kq v wr2 => ∃ j : Int, v = .int .i64 j ∧ i ≤ j ∧ j ≤ (s.size : Int) ∧ Aside0 (((s.size : Int) - j).toNat = kq ∧ scanTo (lineAt s) s.size j = scanTo (lineAt s) s.size i ∧ Drawn0 w wr2))
        case atStart => exact ⟨i, rfl, by omega, by omega, ⟨rfl, rfl, by repeat (first | exact HD.out | apply Drawn0.step)⟩⟩
        case round =>
         clear HD HD2
         obtain ⟨j, rfl, hj0, hj1, ⟨hk2, hr2, hd2⟩⟩ := hrel
         have HD := Aside0.mk hd2
         have HR2 := Aside0.mk hr2
         have HK2 := Aside0.mk hk2
         clear hd2 hr2 hk2
         have hx := bt_at s j
         have hj00 : 0 ≤ j := by omega
         by_cases hjl : j < (s.size : Int)
         · have hd2 : decide (j < (s.size : Int)) = true := decide_eq_true hjl
           by_cases hn : bt s j = 10
           · have hn1 : (bt s j != 10) = false := by simp [hn]
             have HN := Aside0.mk hn
             clear hn
             go_wp2_with fail
             have he : scanTo (lineAt s) s.size i = j := by rw [← HR2.out]; exact scanTo_stop (.inr hn1)
             have hs2 := skipTo_note hi0 H6.out
             rw [he] at hs2
             have HS2 := Aside0.mk hs2
             have hij : i + 1 ≤ j := by rw [he] at hst; exact hst
             clear hs2 he
             go_roundg ((s.size : Int) - j).toNat
             case measure => have := HK.out; omega
             case rel => exact ⟨j, rfl, by omega, by omega, ⟨rfl, by rw [HS2.out]; exact HR.out, HD.out⟩⟩
           · have hn1 : (bt s j != 10) = true := by simpa using hn
             clear hn
             go_wp2_with fail
             go_roundg ((s.size : Int) - (j + 1)).toNat
             case measure => have := HK2.out; omega
             case rel => exact ⟨j + 1, rfl, by omega, by omega, ⟨rfl, by rw [← scanTo_next hjl hn1]; exact HR2.out, HD.out⟩⟩
         · have hd2 : decide (j < (s.size : Int)) = false := decide_eq_false hjl
           go_wp2_with fail
           have he : scanTo (lineAt s) s.size i = j := by rw [← HR2.out]; exact scanTo_stop (.inl (by omega))
           have hs2 := skipTo_note hi0 H6.out
           rw [he] at hs2
           have HS2 := Aside0.mk hs2
           have hij : i + 1 ≤ j := by rw [he] at hst; exact hst
           clear hs2 he
           go_roundg ((s.size : Int) - j).toNat
           case measure => have := HK.out; omega
           case rel => exact ⟨j, rfl, by omega, by omega, ⟨rfl, by rw [HS2.out]; exact HR.out, HD.out⟩⟩
      · have hs2 := skipTo_other h5 h6
        have HS2 := Aside0.mk hs2
        clear hs2
        generalize hc : cls (bt s i).toNat = c at *
        have hc5 : (c == 5) = false := beq_eq_false_iff_ne.2 (by rw [← hc, ← at_in hlt]; exact h5)
        have hc6 : (c == 6) = false := beq_eq_false_iff_ne.2 (by rw [← hc, ← at_in hlt]; exact h6)
        have K' := Aside0.mk (fun w => kind_any (bt s i) c hb.1 hb.2 hc w)
        clear h5 h6 hc
        go_wp2_with ((go_at_call 52; (with_reducible refine (K'.out _).mono ?_); rintro e w' ⟨rfl, ⟨nd, rfl⟩⟩))
        go_ret
        exact ⟨by rw [← HR.out, HS2.out]; rfl, by repeat (first | exact HD.out | apply Drawn0.step)⟩
  · have hd : decide (i < (s.size : Int)) = false := decide_eq_false hlt
    have hz : at_ s i = 0 := by unfold at_; rw [if_pos (by omega)]
    have hs2 := skipTo_other (s := s) (i := i) (by omega) (by omega)
    have HS2 := Aside0.mk hs2
    clear hs2 hz
    go_wp2_with fail
    go_ret
    exact ⟨by rw [← HR.out, HS2.out]; rfl, HD.out⟩
def ambidexterref10_gap.f (a0 : ByteArray) (a1 : Int) : Option Int := if 0 ≤ a1 ∧ a1 ≤ (a0.size : Int) ∧ a0.size ≤ 140737488351232 then some (skipTo a0 a1) else none
theorem run_word (s : ByteArray) (hs : s.size ≤ 140737488351232) (i0 : Int) (h0 : 0 ≤ i0) (h1 : i0 ≤ (s.size : Int)) (w : World) :
 Calls Tryz.prog 53 #[.string s, .int .i64 i0, .int .i64 3] w fun e w' => e = .returned (.int .i64 (scanTo (wordAt s) s.size i0)) ∧ Drawn0 w w' := by
 go_enter Tryz.func53, Tryz.ntmps53
 go_wp2_with fail
 go_loopg [1] ((s.size : Int) - i0).toNat (fun kq v wr => ∃ i : Int, v = .int .i64 i ∧ 0 ≤ i ∧ i ≤ (s.size : Int) ∧ Aside0 (((s.size : Int) - i).toNat = kq ∧ scanTo (wordAt s) s.size i = scanTo (wordAt s) s.size i0 ∧ Drawn0 w wr))
 case atStart => exact ⟨i0, rfl, by omega, by omega, ⟨rfl, rfl, Drawn0.refl _⟩⟩
 case round =>
  obtain ⟨i, rfl, hi0, hi1, ⟨hk, hr, hd⟩⟩ := hrel
  have HD := Aside0.mk hd
  have HR := Aside0.mk hr
  have HK := Aside0.mk hk
  clear hd hr hk
  have hx := bt_at s i
  have hb := bt_range s i
  by_cases hlt : i < (s.size : Int)
  · have hd : decide (i < (s.size : Int)) = true := decide_eq_true hlt
    generalize hc : cls (bt s i).toNat = c at *
    have K' := Aside0.mk (fun w => kind_any (bt s i) c hb.1 hb.2 hc w)
    cases hw : wordAt s i with
    | true =>
     have hc3 : c = 1 ∨ c = 2 ∨ c = 3 := by
      have := hw
      simp only [wordAt, at_in hlt, hc, Bool.or_eq_true, beq_iff_eq] at this
      omega
     have HN := Aside0.mk (scanTo_next hlt hw)
     clear hw
     rcases hc3 with rfl | rfl | rfl
     all_goals
      clear hc
      go_wp2_with ((go_at_call 52; (with_reducible refine (K'.out _).mono ?_); rintro e w' ⟨rfl, ⟨nd, rfl⟩⟩))
      go_roundg ((s.size : Int) - (i + 1)).toNat
      case measure => have := HK.out; omega
      case rel => exact ⟨i + 1, rfl, by omega, by omega, ⟨rfl, by rw [← HN.out]; exact HR.out, by repeat (first | exact HD.out | apply Drawn0.step)⟩⟩
    | false =>
     have hh : c ≠ 1 ∧ c ≠ 2 ∧ c ≠ 3 := by
      have := hw
      simp only [wordAt, at_in hlt, hc, Bool.or_eq_false_iff, beq_eq_false_iff_ne] at this
      omega
     have hc1 : (c != 1) = true := bne_iff_ne.2 hh.1
     have hc2 : (c != 2) = true := bne_iff_ne.2 hh.2.1
     have hc3 : (c != 3) = true := bne_iff_ne.2 hh.2.2
     have HN := Aside0.mk (scanTo_stop (n := (s.size : Int)) (.inr hw))
     clear hw hc hh
     go_wp2_with ((go_at_call 52; (with_reducible refine (K'.out _).mono ?_); rintro e w' ⟨rfl, ⟨nd, rfl⟩⟩))
     go_ret
     exact ⟨by rw [← HR.out, HN.out]; rfl, by repeat (first | exact HD.out | apply Drawn0.step)⟩
  · have hd : decide (i < (s.size : Int)) = false := decide_eq_false hlt
    have HN := Aside0.mk (scanTo_stop (p := wordAt s) (.inl (by omega)))
    go_wp2_with fail
    go_ret
    exact ⟨by rw [← HR.out, HN.out]; rfl, HD.out⟩
theorem run_digit (s : ByteArray) (hs : s.size ≤ 140737488351232) (i0 : Int) (h0 : 0 ≤ i0) (h1 : i0 ≤ (s.size : Int)) (w : World) :
 Calls Tryz.prog 53 #[.string s, .int .i64 i0, .int .i64 2] w fun e w' => e = .returned (.int .i64 (scanTo (digitAt s) s.size i0)) ∧ Drawn0 w w' := by
 go_enter Tryz.func53, Tryz.ntmps53
 go_wp2_with fail
 go_loopg [1] ((s.size : Int) - i0).toNat (fun kq v wr => ∃ i : Int, v = .int .i64 i ∧ 0 ≤ i ∧ i ≤ (s.size : Int) ∧ Aside0 (((s.size : Int) - i).toNat = kq ∧ scanTo (digitAt s) s.size i = scanTo (digitAt s) s.size i0 ∧ Drawn0 w wr))
 case atStart => exact ⟨i0, rfl, by omega, by omega, ⟨rfl, rfl, Drawn0.refl _⟩⟩
 case round =>
  obtain ⟨i, rfl, hi0, hi1, ⟨hk, hr, hd⟩⟩ := hrel
  have HD := Aside0.mk hd
  have HR := Aside0.mk hr
  have HK := Aside0.mk hk
  clear hd hr hk
  have hx := bt_at s i
  have hb := bt_range s i
  by_cases hlt : i < (s.size : Int)
  · have hd : decide (i < (s.size : Int)) = true := decide_eq_true hlt
    generalize hc : cls (bt s i).toNat = c at *
    have K' := Aside0.mk (fun w => kind_any (bt s i) c hb.1 hb.2 hc w)
    by_cases h2 : c = 2
    · have HN := Aside0.mk (scanTo_next hlt (show digitAt s i = true by simp [digitAt, at_in hlt, hc, h2]))
      subst h2
      clear hc
      go_wp2_with ((go_at_call 52; (with_reducible refine (K'.out _).mono ?_); rintro e w' ⟨rfl, ⟨nd, rfl⟩⟩))
      go_roundg ((s.size : Int) - (i + 1)).toNat
      case measure => have := HK.out; omega
      case rel => exact ⟨i + 1, rfl, by omega, by omega, ⟨rfl, by rw [← HN.out]; exact HR.out, by repeat (first | exact HD.out | apply Drawn0.step)⟩⟩
    · have hc2 : (c != 2) = true := bne_iff_ne.2 h2
      have HN := Aside0.mk (scanTo_stop (n := (s.size : Int)) (.inr (show digitAt s i = false by simpa [digitAt, at_in hlt, hc] using h2)))
      clear hc h2
      go_wp2_with ((go_at_call 52; (with_reducible refine (K'.out _).mono ?_); rintro e w' ⟨rfl, ⟨nd, rfl⟩⟩))
      go_ret
      exact ⟨by rw [← HR.out, HN.out]; rfl, by repeat (first | exact HD.out | apply Drawn0.step)⟩
  · have hd : decide (i < (s.size : Int)) = false := decide_eq_false hlt
    have HN := Aside0.mk (scanTo_stop (p := digitAt s) (.inl (by omega)))
    go_wp2_with fail
    go_ret
    exact ⟨by rw [← HR.out, HN.out]; rfl, HD.out⟩
theorem toList_nil_iff (d : ByteArray) : d.toList = [] ↔ d.size = 0 := by
 rw [ByteArray.toList_eq]
 constructor
 · intro h; have := congrArg List.length h; simpa using this
 · intro h; rw [Array.eq_empty_of_size_eq_zero (show d.data.size = 0 from h)]
theorem toList_one_size {d : ByteArray} (h : d.toList = [48]) : d.size = 1 := by
 rw [ByteArray.toList_eq] at h
 have := congrArg List.length h
 simpa using this
theorem numOK_eq (sg : Bool) (d : ByteArray) : numOK sg d = (decide (1 ≤ d.size) && (decide (d.size ≤ 9) && (bt d 0 != 48 || (d.toList == [48] && !sg)))) := by
 have h := number_f sg d
 unfold lexer_number.f at h
 by_cases h0 : d.size = 0
 · rw [if_pos ((toList_nil_iff d).2 h0)] at h
   have := Option.some.inj h
   simp [← this, h0]
 · rw [if_neg (fun e => h0 ((toList_nil_iff d).1 e))] at h
   by_cases h9 : (d.size : Int) > 9
   · rw [if_pos h9] at h
     have := Option.some.inj h
     have h9' : ¬ d.size ≤ 9 := by omega
     simp [← this, h9']
   · rw [if_neg h9, if_pos (by omega)] at h
     have h9' : d.size ≤ 9 := by omega
     have h1' : 1 ≤ d.size := by omega
     by_cases h48 : bt d 0 = 48
     · rw [if_pos h48] at h
       by_cases hl : d.toList = [48]
       · rw [if_pos hl] at h
         have := Option.some.inj h
         simp [← this, h9', h1', h48, hl]
       · rw [if_neg hl] at h
         have := Option.some.inj h
         simp [← this, h48, hl]
     · rw [if_neg h48] at h
       have := Option.some.inj h
       simp [← this, h9', h1', h48]
def unsigned (s : ByteArray) : ByteArray := if bt s 0 = 45 then s.extract 1 s.size else s
theorem number_ref (s : ByteArray) (hs0 : 0 < s.size) (hs : s.size ≤ 140737488351232) (r : Bool) (hr : numOK (bt s 0 == 45) (unsigned s) = r) (w : World) :
 Calls Tryz.prog 54 #[.string s] w fun e w' => e = .returned (.bool r) ∧ Drawn0 w w' := by
 have hx : ∀ h : 0 < s.size, ((s[0]'h).toNat : Int) = bt s 0 := bt_at s 0
 have q : (0 < (s.size : Int)) = True := eq_true (by omega)
 have q' : (0 < s.size) = True := eq_true hs0
 rw [numOK_eq] at hr
 unfold unsigned at hr
 by_cases h45 : bt s 0 = 45
 · have hb : (bt s 0 == 45) = true := beq_iff_eq.2 h45
   have hne : (s.toList == [48]) = false := beq_eq_false_iff_ne.2 (fun e => by
    have h1 := toList_one_size e
    rw [ByteArray.toList_eq] at e
    have : bt s 0 = 48 := by
     rw [← hx hs0]
     have : s.data.toList[0]? = some 48 := by rw [e]; rfl
     have h2 : s.data[0]? = some 48 := by simpa using this
     have h3 : s.data[0]'(by simpa using hs0) = 48 := by
      rw [Array.getElem?_eq_getElem (by simpa using hs0)] at h2; exact Option.some.inj h2
     show ((s.data[0]'_).toNat : Int) = 48
     rw [h3]; rfl
    omega)
   rw [if_pos h45, hb] at hr
   have H45 := Aside0.mk h45
   have Hr := Aside0.mk hr
   clear h45 hr
   go_enter Tryz.func54, Tryz.ntmps54
   go_upto_region 4 with (fail)
   have hd : (s.extract 1 s.size).size = s.size - 1 := by simp
   have hx2 : ∀ h : 0 < (s.extract 1 s.size).size, (((s.extract 1 s.size)[0]'h).toNat : Int) = bt (s.extract 1 s.size) 0 := bt_at (s.extract 1 s.size) 0
   generalize s.extract 1 s.size = d at *
   have Hd := Aside0.mk hd
   clear hd
   by_cases h1 : 1 ≤ d.size
   · have h1b : decide (1 ≤ d.size) = true := decide_eq_true h1
     have h1i : decide (1 ≤ (d.size : Int)) = true := decide_eq_true (by omega)
     have hq : (0 < (d.size : Int)) = True := eq_true (by omega)
     have hq' : (0 < d.size) = True := eq_true (by omega)
     by_cases h9 : d.size ≤ 9
     · have h9b : decide (d.size ≤ 9) = true := decide_eq_true h9
       have h9i : decide ((d.size : Int) ≤ 9) = true := decide_eq_true (by omega)
       cases h48 : bt d 0 != 48 with
       | true =>
        have h48b : (bt d 0 == 48) = false := beq_eq_false_iff_ne.2 (bne_iff_ne.1 h48)
        go_wp2_with fail
        go_ret
        exact ⟨by rw [← Hr.out, h48, h1b, h9b]; rfl, Drawn0.refl _⟩
       | false =>
        have h48b : (bt d 0 == 48) = true := by simpa using h48
        go_wp2_with fail
        go_ret
        exact ⟨by rw [← Hr.out, h48, h1b, h9b, Bool.not_true, Bool.and_false]; rfl, Drawn0.refl _⟩
     · have h9b : decide (d.size ≤ 9) = false := decide_eq_false h9
       have h9i : decide ((d.size : Int) ≤ 9) = false := decide_eq_false (by omega)
       go_wp2_with fail
       go_ret
       exact ⟨by rw [← Hr.out, h1b, h9b]; rfl, Drawn0.refl _⟩
   · have h1b : decide (1 ≤ d.size) = false := decide_eq_false h1
     have h1i : decide (1 ≤ (d.size : Int)) = false := decide_eq_false (by omega)
     go_wp2_with fail
     go_ret
     exact ⟨by rw [← Hr.out, h1b]; rfl, Drawn0.refl _⟩
 · have hb : (bt s 0 == 45) = false := beq_eq_false_iff_ne.2 h45
   rw [if_neg h45, hb] at hr
   have H45 := Aside0.mk h45
   have Hr := Aside0.mk hr
   clear h45 hr
   go_enter Tryz.func54, Tryz.ntmps54
   by_cases h1 : 1 ≤ s.size
   · have h1b : decide (1 ≤ s.size) = true := decide_eq_true h1
     have h1i : decide (1 ≤ (s.size : Int)) = true := decide_eq_true (by omega)
     have hq : (0 < (s.size : Int)) = True := eq_true (by omega)
     have hq' : (0 < s.size) = True := eq_true (by omega)
     by_cases h9 : s.size ≤ 9
     · have h9b : decide (s.size ≤ 9) = true := decide_eq_true h9
       have h9i : decide ((s.size : Int) ≤ 9) = true := decide_eq_true (by omega)
       cases h48 : bt s 0 != 48 with
       | true =>
        have h48b : (bt s 0 == 48) = false := beq_eq_false_iff_ne.2 (bne_iff_ne.1 h48)
        go_wp2_with fail
        go_ret
        exact ⟨by rw [← Hr.out, h48, h1b, h9b]; rfl, Drawn0.refl _⟩
       | false =>
        have h48b : (bt s 0 == 48) = true := by simpa using h48
        cases hl : s.toList == [48]
        · rw [hl] at Hr
          go_wp2_with fail
          go_ret
          exact ⟨by rw [← Hr.out, h48, h1b, h9b]; rfl, Drawn0.refl _⟩
        · rw [hl] at Hr
          go_wp2_with fail
          go_ret
          exact ⟨by rw [← Hr.out, h48, h1b, h9b]; rfl, Drawn0.refl _⟩
     · have h9b : decide (s.size ≤ 9) = false := decide_eq_false h9
       have h9i : decide ((s.size : Int) ≤ 9) = false := decide_eq_false (by omega)
       go_wp2_with fail
       go_ret
       exact ⟨by rw [← Hr.out, h1b, h9b]; rfl, Drawn0.refl _⟩
   · have h1b : decide (1 ≤ s.size) = false := decide_eq_false h1
     have h1i : decide (1 ≤ (s.size : Int)) = false := decide_eq_false (by omega)
     go_wp2_with fail
     go_ret
     exact ⟨by rw [← Hr.out, h1b]; rfl, Drawn0.refl _⟩
theorem bt_extract0 {s : ByteArray} {a b : Int} (h0 : 0 ≤ a) (h1 : a < b) (h2 : b ≤ (s.size : Int)) : bt (s.extract a.toNat b.toNat) 0 = bt s a := by
 have hl : 0 < (s.extract a.toNat b.toNat).size := by rw [ByteArray.size_extract]; omega
 have e1 : bt (s.extract a.toNat b.toNat) 0 = (((s.extract a.toNat b.toNat)[0]'hl).toNat : Int) := (bt_at _ 0 hl).symm
 have h3 : a.toNat < s.size := by omega
 rw [e1, ← bt_at s a h3, ByteArray.getElem_extract]
 simp
theorem extract_extract1 {s : ByteArray} {a b : Int} (h0 : 0 ≤ a) (h1 : a < b) (h2 : b ≤ (s.size : Int)) : (s.extract a.toNat b.toNat).extract 1 (s.extract a.toNat b.toNat).size = s.extract (a + 1).toNat b.toNat := by
 rw [ByteArray.extract_extract, ByteArray.size_extract]
 congr 1 <;> omega
theorem scan_idem (p : Int → Bool) (n : Int) : ∀ (k : Nat) (i : Int), (n - i).toNat ≤ k → scanTo p n (scan p n k i) = scan p n k i := by
 intro k
 induction k with
 | zero => intro i hk; simp only [scan]; exact scanTo_stop (.inl (by omega))
 | succ k ih =>
  intro i hk
  simp only [scan]
  by_cases h : i < n
  · rw [if_pos h]
    by_cases hp : p i = true
    · rw [if_pos hp]; exact ih (i + 1) (by omega)
    · rw [if_neg hp]; exact scanTo_stop (.inr (by simpa using hp))
  · rw [if_neg h]; exact scanTo_stop (.inl h)
theorem scanTo_idem (p : Int → Bool) (n i : Int) : scanTo p n (scanTo p n i) = scanTo p n i := scan_idem p n _ i (Nat.le_refl _)
def oneAt (s : ByteArray) (i : Int) : S67 × Int × Bool := if (nextAt s i).2.2.2.1 = true then (⟨(nextAt s i).1, (nextAt s i).2.1, (nextAt s i).2.2.1⟩, (nextAt s i).2.2.2.2, true) else (⟨0, ⟨#[]⟩, 0⟩, 0, false)
theorem one_word (s : ByteArray) (hs : s.size ≤ 140737488351232) (i : Int) (h0 : 0 ≤ i) (h1 : i < (s.size : Int)) (hc : at_ s i = 1) (w : World) :
 Calls Tryz.prog 34 #[.string s, .int .i64 i] w fun e w' => e = .returned (.tuple #[.agg #[.int .i64 1, .string (s.extract i.toNat (scanTo (wordAt s) s.size i).toNat), .int .i64 i], .int .i64 (scanTo (wordAt s) s.size i), .bool true]) ∧ Below w.heap.size w w' := by
 have hx := bt_at s i
 have hb := bt_range s i
 have K := Aside0.mk (fun w => kind_any (bt s i) 1 hb.1 hb.2 (by rw [← at_in h1, hc]) w)
 have R := Aside0.mk (fun w => run_word s hs i h0 (by omega) w)
 have hr := scanTo_range (wordAt s) s.size i (by omega)
 generalize scanTo (wordAt s) s.size i = j at *
 clear hc
 go_enter Tryz.func34, Tryz.ntmps34
 go_wp2_with (first | (go_at_call 52; (with_reducible refine (K.out _).mono ?_); rintro e w' ⟨rfl, ⟨nd, rfl⟩⟩) | (go_at_call 53; (with_reducible refine (R.out _).mono ?_); rintro e w' ⟨rfl, ⟨nd2, rfl⟩⟩))
 refine bodyPost_ret (v := .tuple #[.agg #[.int .i64 1, .string (s.extract i.toNat j.toNat), .int .i64 i], .int .i64 j, .bool true]) (by simp [results, Tryz.results34, go_sem]) rfl ⟨rfl, ?_⟩
 repeat (first | exact Below.refl _ _ | refine below_set ?_ (Nat.le_refl _) | apply below_alloc | apply pw_below_drewN | apply below_drew1)
theorem one_sign (s : ByteArray) (hs : s.size ≤ 140737488351232) (i : Int) (h0 : 0 ≤ i) (h1 : i < (s.size : Int)) (hc : at_ s i = 4) (w : World) :
 Calls Tryz.prog 34 #[.string s, .int .i64 i] w fun e w' => e = .returned (.tuple #[.agg #[.int .i64 3, .string (s.extract i.toNat (i + 1).toNat), .int .i64 i], .int .i64 (i + 1), .bool true]) ∧ Below w.heap.size w w' := by
 have hx := bt_at s i
 have hb := bt_range s i
 have K := Aside0.mk (fun w => kind_any (bt s i) 4 hb.1 hb.2 (by rw [← at_in h1, hc]) w)
 have hr : i ≤ i + 1 ∧ i + 1 ≤ (s.size : Int) := by omega
 clear hc
 go_enter Tryz.func34, Tryz.ntmps34
 go_wp2_with (first | (go_at_call 52; (with_reducible refine (K.out _).mono ?_); rintro e w' ⟨rfl, ⟨nd, rfl⟩⟩))
 refine bodyPost_ret (v := .tuple #[.agg #[.int .i64 3, .string (s.extract i.toNat (i + 1).toNat), .int .i64 i], .int .i64 (i + 1), .bool true]) (by simp [results, Tryz.results34, go_sem]) rfl ⟨rfl, ?_⟩
 repeat (first | exact Below.refl _ _ | refine below_set ?_ (Nat.le_refl _) | apply below_alloc | apply pw_below_drewN | apply below_drew1)
theorem one_none (s : ByteArray) (hs : s.size ≤ 140737488351232) (i : Int) (h0 : 0 ≤ i) (h1 : i < (s.size : Int)) (c : Int) (hc : at_ s i = c) (n1 : c ≠ 1) (n4 : c ≠ 4) (n2 : c ≠ 2) (n7 : c ≠ 7) (w : World) :
 Calls Tryz.prog 34 #[.string s, .int .i64 i] w fun e w' => e = .returned (.tuple #[.agg #[.int .i64 0, .string ⟨#[]⟩, .int .i64 0], .int .i64 0, .bool false]) ∧ Below w.heap.size w w' := by
 have hx := bt_at s i
 have hb := bt_range s i
 have K := Aside0.mk (fun w => kind_any (bt s i) c hb.1 hb.2 (by rw [← at_in h1, hc]) w)
 have b1 : (c == 1) = false := beq_eq_false_iff_ne.2 n1
 have b4 : (c == 4) = false := beq_eq_false_iff_ne.2 n4
 have b2 : (c == 2) = false := beq_eq_false_iff_ne.2 n2
 have b7 : (c == 7) = false := beq_eq_false_iff_ne.2 n7
 clear hc n1 n4 n2 n7
 go_enter Tryz.func34, Tryz.ntmps34
 go_wp2_with (first | (go_at_call 52; (with_reducible refine (K.out _).mono ?_); rintro e w' ⟨rfl, ⟨nd, rfl⟩⟩))
 refine bodyPost_ret (v := .tuple #[.agg #[.int .i64 0, .string ⟨#[]⟩, .int .i64 0], .int .i64 0, .bool false]) (by simp [results, Tryz.results34, go_sem]) rfl ⟨rfl, ?_⟩
 repeat (first | exact Below.refl _ _ | refine below_set ?_ (Nat.le_refl _) | apply below_alloc | apply pw_below_drewN | apply below_drew1)
theorem one_number (sg : Bool) (s : ByteArray) (hs : s.size ≤ 140737488351232) (i j : Int) (h0 : 0 ≤ i) (h1 : i < (s.size : Int)) (hc : at_ s i = if sg = true then 7 else 2)
 (hj : scanTo (digitAt s) s.size (firstAt sg i) = j) (v wd : Bool) (hv : numOK sg (s.extract (firstAt sg i).toNat j.toNat) = v) (hw : wordAt s j = wd) (w : World) :
 Calls Tryz.prog 34 #[.string s, .int .i64 i] w fun e w' => e = .returned (if (v && !wd) = true then .tuple #[.agg #[.int .i64 2, .string (s.extract i.toNat j.toNat), .int .i64 i], .int .i64 j, .bool true] else .tuple #[.agg #[.int .i64 0, .string ⟨#[]⟩, .int .i64 0], .int .i64 0, .bool false]) ∧ Below w.heap.size w w' := by
 have hx := bt_at s i
 have hb := bt_range s i
 have hf : i ≤ firstAt sg i ∧ firstAt sg i ≤ (s.size : Int) ∧ 0 ≤ firstAt sg i := by unfold firstAt; split <;> omega
 have hr := scanTo_range (digitAt s) s.size (firstAt sg i) hf.2.1
 rw [hj] at hr
 have hij : i < j := by
  cases sg with
  | true => simp only [firstAt, if_true] at hr; omega
  | false =>
   have hd : digitAt s i = true := by simp only [Bool.false_eq_true, if_false] at hc; simp [digitAt, hc]
   have := scanTo_step (n := (s.size : Int)) h1 hd
   simp only [firstAt, Bool.false_eq_true, if_false] at hj
   omega
 have hb45 : (bt s i == 45) = sg := by
  have h2 : cls (bt s i).toNat = if sg = true then 7 else 2 := by rw [← at_in h1, hc]
  have h3 : ∀ c : Fin 256, cls c.val = 7 → c.val = 45 := by decide +kernel
  have h4 : ∀ c : Fin 256, cls c.val = 2 → c.val ≠ 45 := by decide +kernel
  cases sg with
  | true =>
   have := h3 ⟨(bt s i).toNat, by omega⟩ (by simpa using h2)
   simp only at this
   rw [beq_iff_eq]; omega
  | false =>
   have := h4 ⟨(bt s i).toNat, by omega⟩ (by simpa using h2)
   simp only at this
   rw [beq_eq_false_iff_ne]; omega
 have hnum : ∀ w, Calls Tryz.prog 54 #[.string (s.extract i.toNat j.toNat)] w fun e w' => e = .returned (.bool v) ∧ Drawn0 w w' := by
  intro w
  refine number_ref _ (by rw [ByteArray.size_extract]; omega) (by rw [ByteArray.size_extract]; omega) v ?_ w
  rw [bt_extract0 h0 hij hr.2, hb45]
  unfold unsigned
  rw [bt_extract0 h0 hij hr.2]
  rw [← hv]
  cases sg with
  | true => rw [if_pos (by simpa using hb45), extract_extract1 h0 hij hr.2]; rfl
  | false => rw [if_neg (by simpa using hb45)]; rfl
 have hrun : ∀ w, Calls Tryz.prog 53 #[.string s, .int .i64 (firstAt sg i), .int .i64 2] w fun e w' => e = .returned (.int .i64 j) ∧ Drawn0 w w' := by
  intro w; have := run_digit s hs (firstAt sg i) hf.2.2 hf.2.1 w; rwa [hj] at this
 have hx2 := bt_at s j
 have hb2 := bt_range s j
 have K := Aside0.mk (fun w => kind_any (bt s i) (if sg = true then 7 else 2) hb.1 hb.2 (by rw [← at_in h1, hc]) w)
 have N := Aside0.mk hnum
 have Hw := Aside0.mk hw
 have Hj := Aside0.mk hj
 have hw2 : at_ s j ≠ 2 := by
  intro h2
  have hjl := (at_some (by decide) h2).1
  have := scanTo_step (p := digitAt s) (n := (s.size : Int)) hjl (by simp [digitAt, h2])
  have h5 := scanTo_range (digitAt s) s.size (firstAt sg i) hf.2.1
  have h6 : scanTo (digitAt s) s.size j = j := by rw [← hj]; exact scanTo_idem _ _ _
  omega
 have hij2 : i ≤ j ∧ j ≤ (s.size : Int) := ⟨by omega, hr.2⟩
 clear hnum hc hv hw hj hb45
 cases sg with
 | true =>
  simp only [if_true, firstAt] at *
  have R := Aside0.mk hrun
  clear hrun
  go_enter Tryz.func34, Tryz.ntmps34
  cases v with
  | false =>
   go_wp2_with (first | (go_at_call 52; (with_reducible refine (K.out _).mono ?_); rintro e w' ⟨rfl, ⟨nd, rfl⟩⟩) | (go_at_call 53; (with_reducible refine (R.out _).mono ?_); rintro e w' ⟨rfl, ⟨nd2, rfl⟩⟩) | (go_at_call 54; (with_reducible refine (N.out _).mono ?_); rintro e w' ⟨rfl, ⟨nd3, rfl⟩⟩))
   refine bodyPost_ret (v := .tuple #[.agg #[.int .i64 0, .string ⟨#[]⟩, .int .i64 0], .int .i64 0, .bool false]) (by simp [results, Tryz.results34, go_sem]) rfl ⟨rfl, ?_⟩
   repeat (first | exact Below.refl _ _ | refine below_set ?_ (Nat.le_refl _) | apply below_alloc | apply pw_below_drewN | apply below_drew1)
  | true =>
   by_cases hjn : j < (s.size : Int)
   · have hjb : decide (j < (s.size : Int)) = true := decide_eq_true hjn
     rw [at_in hjn] at hw2
     generalize hcj : cls (bt s j).toNat = c at *
     have K2 := Aside0.mk (fun w => kind_any (bt s j) c hb2.1 hb2.2 hcj w)
     by_cases c1 : c = 1
     · have : wd = true := by rw [← Hw.out]; simp [wordAt, at_in hjn, hcj, c1]
       subst this
       subst c1
       clear hcj
       go_wp2_with (first | (go_at_call 52; (with_reducible refine (K.out _).mono ?_); rintro e w' ⟨rfl, ⟨nd, rfl⟩⟩) | (go_at_call 53; (with_reducible refine (R.out _).mono ?_); rintro e w' ⟨rfl, ⟨nd2, rfl⟩⟩) | (go_at_call 54; (with_reducible refine (N.out _).mono ?_); rintro e w' ⟨rfl, ⟨nd3, rfl⟩⟩) | (go_at_call 52; (with_reducible refine (K2.out _).mono ?_); rintro e w' ⟨rfl, ⟨nd4, rfl⟩⟩))
       refine bodyPost_ret (v := .tuple #[.agg #[.int .i64 0, .string ⟨#[]⟩, .int .i64 0], .int .i64 0, .bool false]) (by simp [results, Tryz.results34, go_sem]) rfl ⟨rfl, ?_⟩
       repeat (first | exact Below.refl _ _ | refine below_set ?_ (Nat.le_refl _) | apply below_alloc | apply pw_below_drewN | apply below_drew1)
     · by_cases c3 : c = 3
       · have : wd = true := by rw [← Hw.out]; simp [wordAt, at_in hjn, hcj, c3]
         subst this
         subst c3
         clear hcj
         go_wp2_with (first | (go_at_call 52; (with_reducible refine (K.out _).mono ?_); rintro e w' ⟨rfl, ⟨nd, rfl⟩⟩) | (go_at_call 53; (with_reducible refine (R.out _).mono ?_); rintro e w' ⟨rfl, ⟨nd2, rfl⟩⟩) | (go_at_call 54; (with_reducible refine (N.out _).mono ?_); rintro e w' ⟨rfl, ⟨nd3, rfl⟩⟩) | (go_at_call 52; (with_reducible refine (K2.out _).mono ?_); rintro e w' ⟨rfl, ⟨nd4, rfl⟩⟩))
         refine bodyPost_ret (v := .tuple #[.agg #[.int .i64 0, .string ⟨#[]⟩, .int .i64 0], .int .i64 0, .bool false]) (by simp [results, Tryz.results34, go_sem]) rfl ⟨rfl, ?_⟩
         repeat (first | exact Below.refl _ _ | refine below_set ?_ (Nat.le_refl _) | apply below_alloc | apply pw_below_drewN | apply below_drew1)
       · have : wd = false := by rw [← Hw.out]; simp [wordAt, at_in hjn, hcj, c1, c3, hw2]
         subst this
         have b1 : (c == 1) = false := beq_eq_false_iff_ne.2 c1
         have b3 : (c == 3) = false := beq_eq_false_iff_ne.2 c3
         clear hcj c1 c3 hw2
         go_wp2_with (first | (go_at_call 52; (with_reducible refine (K.out _).mono ?_); rintro e w' ⟨rfl, ⟨nd, rfl⟩⟩) | (go_at_call 53; (with_reducible refine (R.out _).mono ?_); rintro e w' ⟨rfl, ⟨nd2, rfl⟩⟩) | (go_at_call 54; (with_reducible refine (N.out _).mono ?_); rintro e w' ⟨rfl, ⟨nd3, rfl⟩⟩) | (go_at_call 52; (with_reducible refine (K2.out _).mono ?_); rintro e w' ⟨rfl, ⟨nd4, rfl⟩⟩))
         refine bodyPost_ret (v := .tuple #[.agg #[.int .i64 2, .string (s.extract i.toNat j.toNat), .int .i64 i], .int .i64 j, .bool true]) (by simp [results, Tryz.results34, go_sem]) rfl ⟨rfl, ?_⟩
         repeat (first | exact Below.refl _ _ | refine below_set ?_ (Nat.le_refl _) | apply below_alloc | apply pw_below_drewN | apply below_drew1)
   · have hjb : decide (j < (s.size : Int)) = false := decide_eq_false hjn
     have : wd = false := by rw [← Hw.out]; simp [wordAt, at_, show (s.size : Int) ≤ j from by omega]
     subst this
     go_wp2_with (first | (go_at_call 52; (with_reducible refine (K.out _).mono ?_); rintro e w' ⟨rfl, ⟨nd, rfl⟩⟩) | (go_at_call 53; (with_reducible refine (R.out _).mono ?_); rintro e w' ⟨rfl, ⟨nd2, rfl⟩⟩) | (go_at_call 54; (with_reducible refine (N.out _).mono ?_); rintro e w' ⟨rfl, ⟨nd3, rfl⟩⟩))
     refine bodyPost_ret (v := .tuple #[.agg #[.int .i64 2, .string (s.extract i.toNat j.toNat), .int .i64 i], .int .i64 j, .bool true]) (by simp [results, Tryz.results34, go_sem]) rfl ⟨rfl, ?_⟩
     repeat (first | exact Below.refl _ _ | refine below_set ?_ (Nat.le_refl _) | apply below_alloc | apply pw_below_drewN | apply below_drew1)
 | false =>
  simp only [Bool.false_eq_true, if_false, firstAt] at *
  have R := Aside0.mk hrun
  clear hrun
  go_enter Tryz.func34, Tryz.ntmps34
  cases v with
  | false =>
   go_wp2_with (first | (go_at_call 52; (with_reducible refine (K.out _).mono ?_); rintro e w' ⟨rfl, ⟨nd, rfl⟩⟩) | (go_at_call 53; (with_reducible refine (R.out _).mono ?_); rintro e w' ⟨rfl, ⟨nd2, rfl⟩⟩) | (go_at_call 54; (with_reducible refine (N.out _).mono ?_); rintro e w' ⟨rfl, ⟨nd3, rfl⟩⟩))
   refine bodyPost_ret (v := .tuple #[.agg #[.int .i64 0, .string ⟨#[]⟩, .int .i64 0], .int .i64 0, .bool false]) (by simp [results, Tryz.results34, go_sem]) rfl ⟨rfl, ?_⟩
   repeat (first | exact Below.refl _ _ | refine below_set ?_ (Nat.le_refl _) | apply below_alloc | apply pw_below_drewN | apply below_drew1)
  | true =>
   by_cases hjn : j < (s.size : Int)
   · have hjb : decide (j < (s.size : Int)) = true := decide_eq_true hjn
     rw [at_in hjn] at hw2
     generalize hcj : cls (bt s j).toNat = c at *
     have K2 := Aside0.mk (fun w => kind_any (bt s j) c hb2.1 hb2.2 hcj w)
     by_cases c1 : c = 1
     · have : wd = true := by rw [← Hw.out]; simp [wordAt, at_in hjn, hcj, c1]
       subst this
       subst c1
       clear hcj
       go_wp2_with (first | (go_at_call 52; (with_reducible refine (K.out _).mono ?_); rintro e w' ⟨rfl, ⟨nd, rfl⟩⟩) | (go_at_call 53; (with_reducible refine (R.out _).mono ?_); rintro e w' ⟨rfl, ⟨nd2, rfl⟩⟩) | (go_at_call 54; (with_reducible refine (N.out _).mono ?_); rintro e w' ⟨rfl, ⟨nd3, rfl⟩⟩) | (go_at_call 52; (with_reducible refine (K2.out _).mono ?_); rintro e w' ⟨rfl, ⟨nd4, rfl⟩⟩))
       refine bodyPost_ret (v := .tuple #[.agg #[.int .i64 0, .string ⟨#[]⟩, .int .i64 0], .int .i64 0, .bool false]) (by simp [results, Tryz.results34, go_sem]) rfl ⟨rfl, ?_⟩
       repeat (first | exact Below.refl _ _ | refine below_set ?_ (Nat.le_refl _) | apply below_alloc | apply pw_below_drewN | apply below_drew1)
     · by_cases c3 : c = 3
       · have : wd = true := by rw [← Hw.out]; simp [wordAt, at_in hjn, hcj, c3]
         subst this
         subst c3
         clear hcj
         go_wp2_with (first | (go_at_call 52; (with_reducible refine (K.out _).mono ?_); rintro e w' ⟨rfl, ⟨nd, rfl⟩⟩) | (go_at_call 53; (with_reducible refine (R.out _).mono ?_); rintro e w' ⟨rfl, ⟨nd2, rfl⟩⟩) | (go_at_call 54; (with_reducible refine (N.out _).mono ?_); rintro e w' ⟨rfl, ⟨nd3, rfl⟩⟩) | (go_at_call 52; (with_reducible refine (K2.out _).mono ?_); rintro e w' ⟨rfl, ⟨nd4, rfl⟩⟩))
         refine bodyPost_ret (v := .tuple #[.agg #[.int .i64 0, .string ⟨#[]⟩, .int .i64 0], .int .i64 0, .bool false]) (by simp [results, Tryz.results34, go_sem]) rfl ⟨rfl, ?_⟩
         repeat (first | exact Below.refl _ _ | refine below_set ?_ (Nat.le_refl _) | apply below_alloc | apply pw_below_drewN | apply below_drew1)
       · have : wd = false := by rw [← Hw.out]; simp [wordAt, at_in hjn, hcj, c1, c3, hw2]
         subst this
         have b1 : (c == 1) = false := beq_eq_false_iff_ne.2 c1
         have b3 : (c == 3) = false := beq_eq_false_iff_ne.2 c3
         clear hcj c1 c3 hw2
         go_wp2_with (first | (go_at_call 52; (with_reducible refine (K.out _).mono ?_); rintro e w' ⟨rfl, ⟨nd, rfl⟩⟩) | (go_at_call 53; (with_reducible refine (R.out _).mono ?_); rintro e w' ⟨rfl, ⟨nd2, rfl⟩⟩) | (go_at_call 54; (with_reducible refine (N.out _).mono ?_); rintro e w' ⟨rfl, ⟨nd3, rfl⟩⟩) | (go_at_call 52; (with_reducible refine (K2.out _).mono ?_); rintro e w' ⟨rfl, ⟨nd4, rfl⟩⟩))
         refine bodyPost_ret (v := .tuple #[.agg #[.int .i64 2, .string (s.extract i.toNat j.toNat), .int .i64 i], .int .i64 j, .bool true]) (by simp [results, Tryz.results34, go_sem]) rfl ⟨rfl, ?_⟩
         repeat (first | exact Below.refl _ _ | refine below_set ?_ (Nat.le_refl _) | apply below_alloc | apply pw_below_drewN | apply below_drew1)
   · have hjb : decide (j < (s.size : Int)) = false := decide_eq_false hjn
     have : wd = false := by rw [← Hw.out]; simp [wordAt, at_, show (s.size : Int) ≤ j from by omega]
     subst this
     go_wp2_with (first | (go_at_call 52; (with_reducible refine (K.out _).mono ?_); rintro e w' ⟨rfl, ⟨nd, rfl⟩⟩) | (go_at_call 53; (with_reducible refine (R.out _).mono ?_); rintro e w' ⟨rfl, ⟨nd2, rfl⟩⟩) | (go_at_call 54; (with_reducible refine (N.out _).mono ?_); rintro e w' ⟨rfl, ⟨nd3, rfl⟩⟩))
     refine bodyPost_ret (v := .tuple #[.agg #[.int .i64 2, .string (s.extract i.toNat j.toNat), .int .i64 i], .int .i64 j, .bool true]) (by simp [results, Tryz.results34, go_sem]) rfl ⟨rfl, ?_⟩
     repeat (first | exact Below.refl _ _ | refine below_set ?_ (Nat.le_refl _) | apply below_alloc | apply pw_below_drewN | apply below_drew1)
theorem one_any (s : ByteArray) (hs : s.size ≤ 140737488351232) (i : Int) (h0 : 0 ≤ i) (h1 : i < (s.size : Int)) (w : World) :
 Calls Tryz.prog 34 #[.string s, .int .i64 i] w fun e w' => e = .returned (.tuple #[.agg #[.int .i64 (oneAt s i).1.f0, .string (oneAt s i).1.f1, .int .i64 (oneAt s i).1.f2], .int .i64 (oneAt s i).2.1, .bool (oneAt s i).2.2]) ∧ Below w.heap.size w w' := by
 unfold oneAt nextAt
 by_cases c1 : at_ s i = 1
 · simp only [if_pos c1, if_true]
   exact one_word s hs i h0 h1 c1 w
 · simp only [if_neg c1]
   by_cases c4 : at_ s i = 4
   · simp only [if_pos c4, if_true]
     exact one_sign s hs i h0 h1 c4 w
   · simp only [if_neg c4]
     by_cases c7 : at_ s i = 7 ∨ at_ s i = 2
     · simp only [if_pos c7]
       have hcc : at_ s i = if (at_ s i == 7) = true then 7 else 2 := by
        rcases c7 with h7 | h7 <;> simp [h7]
       refine (one_number _ s hs i _ h0 h1 hcc rfl _ _ rfl rfl w).mono fun e w' ⟨he, hB⟩ => ⟨?_, hB⟩
       rw [he]
       generalize (at_ s i == 7) = sg
       generalize scanTo (digitAt s) s.size (firstAt sg i) = j
       generalize numOK sg (s.extract (firstAt sg i).toNat j.toNat) = v
       generalize wordAt s j = wd
       cases v <;> cases wd <;> rfl
     · simp only [if_neg c7, Bool.false_eq_true, if_false]
       exact one_none s hs i h0 h1 _ rfl c1 c4 (fun h => c7 (.inr h)) (fun h => c7 (.inl h)) w
def ambidexterref10_Lex.f (a0 : ByteArray) : Option (List S67 × Int × Int) := some (lexB a0)
theorem ambidexterref10_Lex.calls (a0 : ByteArray) (r1 : List (S67)) (r2 : Int) (r3 : Int) (w : World) (h : ambidexterref10_Lex.f a0 = some (r1, r2, r3)) :
 Calls Tryz.prog 19 #[.string a0] w fun e w' => ∃ v0_ : Value, e = .returned (.tuple #[v0_, .int .i64 r2, .int .i64 r3]) ∧ Kd.R k67 67 w' w.heap.size (fun _ => True) v0_ r1 ∧ Below w.heap.size w w' := by
 unfold ambidexterref10_Lex.f lexB at h
 have huT := Tryz.underlying67
 by_cases c2 : a0.size > 20000
 · rw [if_pos c2] at h
   simp only [Option.some.injEq, Prod.mk.injEq] at h
   obtain ⟨rfl, rfl, rfl⟩ := h
   have c2b0 : decide (20000 < (a0.size : Int)) = true := decide_eq_true (by omega)
   have c2b1 : decide (20000 < a0.size) = true := decide_eq_true c2
   clear c2
   go_enter Tryz.func19, Tryz.ntmps19
   go_wp2
   go_ret3
   exact ⟨_, rfl, Kd.R_nil _ _ _ _ _, Below.refl _ _⟩
 · rw [if_neg c2] at h
   have c2b0 : decide (20000 < (a0.size : Int)) = false := decide_eq_false (by omega)
   have c2b1 : decide (20000 < a0.size) = false := decide_eq_false (by omega)
   have H := Aside0.mk (Option.some.inj h)
   clear h
   have hsz : a0.size ≤ 20000 := by omega
   clear c2
   have hs2 : a0.size ≤ 140737488351232 := by omega
   have hr := skipTo_range a0 0 (by omega) (by omega)
   go_enter Tryz.func19, Tryz.ntmps19
   have G0 := Aside0.mk (fun w => gap_any a0 hs2 0 (by omega) (by omega) w)
   go_wp2_with (first | ((with_reducible refine gate_dst (N := 13) rfl ?_); refine Kd.R_lit k67 w.heap.size 67 ?hg (N := 13) ?hd (xs := ([] : List (S67))) (inner := []) (ok := fun _ => True) (okp := fun _ => True) ?hr ?hp (fun _ hk => hk) trivial (Below.refl _ _) (Nat.le_refl _) (by simp) ?_; (case hd => rfl); (case hg => rfl); (case hr => first | (go_simp; done) | (go_simp; rfl)); (case hp => exact (Reps.none _ _)); intro v13 w4 ho5 hb hg_ hnew_; clear hg_ hnew_; have HO := Aside0.mk ho5; have HB := Aside0.mk hb; clear ho5 hb) | (go_at_call 33; (with_reducible refine (G0.out _).mono ?_); rintro e w' ⟨rfl, ⟨nd, rfl⟩⟩))
   go_loopg [5, 6] (a0.size + 1) (fun kq v v6 wr => ∃ (i : Int) (acc : List S67), v6 = .int .i64 i ∧ Aside0 (0 < kq ∧ ((a0.size : Int) - i).toNat < kq ∧ acc.length + kq ≤ a0.size + 1 ∧ 0 ≤ i ∧ i ≤ (a0.size : Int) ∧ lexGo a0 kq i acc = (r1, r2, r3) ∧ Kd.R k67 67 wr w.heap.size (fun _ => True) v acc ∧ Below w.heap.size w wr))
   case atStart => exact ⟨skipTo a0 0, [], rfl, ⟨by omega, by omega, by simp, by omega, by omega, H.out, Kd.R_drewN HO.out _, pw_below_drewN HB.out _⟩⟩
   case round =>
    clear H HO HB G0
    obtain ⟨i, acc, rfl, ⟨hk0, hk, hlen, hi0, hi1, hgo, hR, hB⟩⟩ := hrel
    cases gk with
    | zero => exact absurd hk0 (by omega)
    | succ k =>
     simp only [lexGo] at hgo
     have HR := Aside0.mk hR
     have HB := Aside0.mk hB
     clear hR hB
     by_cases c6 : i < (a0.size : Int)
     · rw [if_pos c6] at hgo
       have c6b0 : decide (i < (a0.size : Int)) = true := decide_eq_true c6
       have hnr := nextAt_range a0 i hi0 hi1
       have HN := one_any a0 hs2 i hi0 c6
       unfold oneAt at HN
       generalize nextAt a0 i = x at *
       obtain ⟨x1, x2, x3, x4, x5⟩ := x
       simp only at hgo hnr HN
       cases x4 with
       | false =>
        rw [if_neg (by simp)] at hgo
        simp only [Prod.mk.injEq] at hgo
        obtain ⟨rfl, rfl, rfl⟩ := hgo
        have HN' : Aside0 (∀ w, Calls Tryz.prog 34 #[.string a0, .int .i64 i] w fun e w' => e = .returned (.tuple #[.agg #[.int .i64 0, .string ⟨#[]⟩, .int .i64 0], .int .i64 0, .bool false]) ∧ Below w.heap.size w w') := ⟨HN⟩
        clear HN
        go_wp2_with (go_at_call 34; (with_reducible refine (HN'.out _).mono ?_); rintro e w2 ⟨rfl, hB2⟩; have HB2 := Aside0.mk (below_step HB.out hB2); clear hB2)
        go_ret3
        exact ⟨_, rfl, Kd.R_nil _ _ _ _ _, by repeat (first | exact HB2.out | apply below_alloc)⟩
       | true =>
        rw [if_pos rfl] at hgo
        have HN' : Aside0 (∀ w, Calls Tryz.prog 34 #[.string a0, .int .i64 i] w fun e w' => e = .returned (.tuple #[.agg #[.int .i64 x1, .string x2, .int .i64 x3], .int .i64 x5, .bool true]) ∧ Below w.heap.size w w') := ⟨HN⟩
        have hn1 : x5 ≤ (a0.size : Int) ∧ i + 1 ≤ x5 := by have := hnr; simp only [forall_const] at this; omega
        have G := Aside0.mk (fun w => gap_any a0 hs2 x5 (by omega) (by omega) w)
        have Hgo := Aside0.mk hgo
        have Hlen := Aside0.mk hlen
        clear HN hgo hnr hlen
        have hr4 := skipTo_range a0 x5 (by omega) (by omega)
        go_wp2_with fail
        refine (HN'.out _).mono ?_
        rintro e w2 ⟨rfl, hB2⟩
        have HR2 := Aside0.mk (Kd.R_below HR.out hB2)
        have HB2 := Aside0.mk (below_step HB.out hB2)
        clear hB2 HR HB HN'
        go_wp2_with (at_builtin; refine Kd.R_append k67 (w0 := w) w.heap.size rfl (.tmp 30) (.tmp 32) 42 67 (.agg #[(.int .i64 0), (.string ⟨#[]⟩), (.int .i64 0)]) 32 rfl Tryz.underlying42 info67 rfl (by decide) (by omega) u5 acc (⟨x1, x2, x3⟩ : S67) [.int .i64 x1, .string x2, .int .i64 x3] (fun _ => True) (fun _ => False) rfl (by first | (go_simp; done) | (go_simp; rfl)) ?aP (fun _ hk => hk.elim) ?aF ?aO ?aB ?aS ?aL ?_)
        case aP => exact k67_mkM _ _ _ (⟨x1, x2, x3⟩ : S67)
        case aF => intro k hk; trivial
        case aO => exact Kd.R_alloc HR2.out _
        case aB => exact below_alloc HB2.out _
        case aS => have := HB2.out.size; simp; omega
        case aL => have := Hlen.out; omega
        intro v1 w3 hR3 hB3 hg3 hat3
        have HR3 := Aside0.mk hR3
        have HB3 := Aside0.mk hB3
        clear hR3 hB3 hg3 hat3 HR2 HB2
        go_wp2_with (go_at_call 33; (with_reducible refine (G.out _).mono ?_); rintro e w' ⟨rfl, ⟨nd, rfl⟩⟩)
        go_roundg k
        case measure => omega
        case rel =>
         have := Hlen.out
         exact ⟨skipTo a0 x5, acc ++ [⟨x1, x2, x3⟩], rfl, ⟨by omega, by omega, by simp; omega, by omega, by omega, Hgo.out, Kd.R_drewN HR3.out _, pw_below_drewN HB3.out _⟩⟩
     · rw [if_neg c6] at hgo
       have c6b0 : decide (i < (a0.size : Int)) = false := decide_eq_false c6
       simp only [Prod.mk.injEq] at hgo
       obtain ⟨rfl, rfl, rfl⟩ := hgo
       go_wp2_with fail
       go_ret3
       exact ⟨_, rfl, HR.out, HB.out⟩
def ambidexterref11_Words.f  : Option (List ByteArray) := some (([(⟨#[]⟩ : ByteArray), (⟨#[103, 111]⟩ : ByteArray), (⟨#[104, 111, 109, 101]⟩ : ByteArray), (⟨#[112, 105, 99, 107]⟩ : ByteArray), (⟨#[112, 117, 116]⟩ : ByteArray), (⟨#[104, 97, 110, 100]⟩ : ByteArray), (⟨#[119, 97, 105, 116]⟩ : ByteArray), (⟨#[119, 104, 101, 110]⟩ : ByteArray), (⟨#[98, 111, 116, 104]⟩ : ByteArray)] : List ByteArray))
theorem ambidexterref11_Words.calls  (r : List ByteArray) (w : World) (h : ambidexterref11_Words.f  = some r) :
 Calls Tryz.prog 40 #[] w fun e w' => ∃ v0_ : Value, e = .returned (v0_) ∧ Kd.R Kd.string 9 w' w.heap.size (fun _ => True) v0_ r ∧ Below w.heap.size w w' := by
 have HB := Aside0.mk (Below.refl w.heap.size w)
 have H : (some (([(⟨#[]⟩ : ByteArray), (⟨#[103, 111]⟩ : ByteArray), (⟨#[104, 111, 109, 101]⟩ : ByteArray), (⟨#[112, 105, 99, 107]⟩ : ByteArray), (⟨#[112, 117, 116]⟩ : ByteArray), (⟨#[104, 97, 110, 100]⟩ : ByteArray), (⟨#[119, 97, 105, 116]⟩ : ByteArray), (⟨#[119, 104, 101, 110]⟩ : ByteArray), (⟨#[98, 111, 116, 104]⟩ : ByteArray)] : List ByteArray))) = some r := h
 clear h
 obtain ⟨y172, hy172⟩ : ∃ y_ : List ByteArray, y_ = (([(⟨#[]⟩ : ByteArray), (⟨#[103, 111]⟩ : ByteArray), (⟨#[104, 111, 109, 101]⟩ : ByteArray), (⟨#[112, 105, 99, 107]⟩ : ByteArray), (⟨#[112, 117, 116]⟩ : ByteArray), (⟨#[104, 97, 110, 100]⟩ : ByteArray), (⟨#[119, 97, 105, 116]⟩ : ByteArray), (⟨#[119, 104, 101, 110]⟩ : ByteArray), (⟨#[98, 111, 116, 104]⟩ : ByteArray)] : List ByteArray)) := ⟨_, rfl⟩
 replace H : (some y172) = some r := by first | (rw [hy172]; with_reducible exact H) | (have H2_ := (Option.bind_some _ _).symm.trans H; rw [hy172]; with_reducible exact H2_) | (have H2_ := (Option.bind_some _ _).symm.trans H; with_reducible exact H2_) | with_reducible exact H | (rw [hy172]; exact H) | exact H
 have Ny172 := Aside0.mk hy172
 clear hy172
 obtain rfl := Option.some.inj H
 go_enter Tryz.func40, Tryz.ntmps40
 go_wp2_with (first | ((with_reducible refine gate_dst (N := 1) rfl ?_); refine Kd.R_lit Kd.string _ 9 ?hg (N := 1) ?hd (xs := ([(⟨#[]⟩ : ByteArray), (⟨#[103, 111]⟩ : ByteArray), (⟨#[104, 111, 109, 101]⟩ : ByteArray), (⟨#[112, 105, 99, 107]⟩ : ByteArray), (⟨#[112, 117, 116]⟩ : ByteArray), (⟨#[104, 97, 110, 100]⟩ : ByteArray), (⟨#[119, 97, 105, 116]⟩ : ByteArray), (⟨#[119, 104, 101, 110]⟩ : ByteArray), (⟨#[98, 111, 116, 104]⟩ : ByteArray)] : List ByteArray)) (inner := [.string (⟨#[]⟩ : ByteArray), .string (⟨#[103, 111]⟩ : ByteArray), .string (⟨#[104, 111, 109, 101]⟩ : ByteArray), .string (⟨#[112, 105, 99, 107]⟩ : ByteArray), .string (⟨#[112, 117, 116]⟩ : ByteArray), .string (⟨#[104, 97, 110, 100]⟩ : ByteArray), .string (⟨#[119, 97, 105, 116]⟩ : ByteArray), .string (⟨#[119, 104, 101, 110]⟩ : ByteArray), .string (⟨#[98, 111, 116, 104]⟩ : ByteArray)]) (ok := fun _ => True) (okp := fun _ => True) ?hr ?hp (fun _ hk => hk) trivial (Below.refl _ _) (Nat.le_refl _) (by simp) ?_; (case hd => rfl); (case hg => rfl); (case hr => first | (go_simp; done) | (go_simp; rfl)); (case hp => exact (Reps.one (show Kd.M Kd.string _ _ _ (⟨#[]⟩ : ByteArray) [.string (⟨#[]⟩ : ByteArray)] from rfl) (Reps.one (show Kd.M Kd.string _ _ _ (⟨#[103, 111]⟩ : ByteArray) [.string (⟨#[103, 111]⟩ : ByteArray)] from rfl) (Reps.one (show Kd.M Kd.string _ _ _ (⟨#[104, 111, 109, 101]⟩ : ByteArray) [.string (⟨#[104, 111, 109, 101]⟩ : ByteArray)] from rfl) (Reps.one (show Kd.M Kd.string _ _ _ (⟨#[112, 105, 99, 107]⟩ : ByteArray) [.string (⟨#[112, 105, 99, 107]⟩ : ByteArray)] from rfl) (Reps.one (show Kd.M Kd.string _ _ _ (⟨#[112, 117, 116]⟩ : ByteArray) [.string (⟨#[112, 117, 116]⟩ : ByteArray)] from rfl) (Reps.one (show Kd.M Kd.string _ _ _ (⟨#[104, 97, 110, 100]⟩ : ByteArray) [.string (⟨#[104, 97, 110, 100]⟩ : ByteArray)] from rfl) (Reps.one (show Kd.M Kd.string _ _ _ (⟨#[119, 97, 105, 116]⟩ : ByteArray) [.string (⟨#[119, 97, 105, 116]⟩ : ByteArray)] from rfl) (Reps.one (show Kd.M Kd.string _ _ _ (⟨#[119, 104, 101, 110]⟩ : ByteArray) [.string (⟨#[119, 104, 101, 110]⟩ : ByteArray)] from rfl) (Reps.one (show Kd.M Kd.string _ _ _ (⟨#[98, 111, 116, 104]⟩ : ByteArray) [.string (⟨#[98, 111, 116, 104]⟩ : ByteArray)] from rfl) (Reps.none _ _))))))))))); intro v173 w1 ho2 hb hg_ hnew_; clear hg_ hnew_; (first | rw [← Ny172.out] at ho2 | (simp only [Int.reduceToNat] at ho2; rw [← Ny172.out] at ho2)); have n0_ := Aside0.mk (Kd.R_lower ho2 (below_size (by exact up_ HB.out))); have n1_ := Aside0.mk (below_step (by exact up_ HB.out) hb); clear HB; have HO174 := n0_; have HB := n1_; clear n0_ n1_; clear hb ho2))
 go_ret
 exact ⟨_, by first | rfl | (simp [errW_none, errW_some] <;> rfl) | (simp [*, errW_none, errW_some] <;> rfl), by (with_reducible repeat (first | apply Kd.R_alloc | apply Kd.R_drewN | apply Kd.R_drew)); exact HO174.out, by exact up_ HB.out⟩
def ambidexterref11_kind.l0 : Nat → ByteArray → List ByteArray → Int → Option (Int)
 | 0, _, _, _ => none
 | k + 1, x0, x3, x4 => if x4 < (x3.length : Int) then (if 0 ≤ x4 then (if (rdOf ByteArray.empty x3 x4).toList = x0.toList then (some x4) else (ambidexterref11_kind.l0 k x0 x3 (wrap64 (x4 + 1)))) else (none)) else (some 0)
def ambidexterref11_kind.f (k : Nat) (a0 : ByteArray) : Option (Int) := (ambidexterref11_Words.f).bind fun t175 => (ambidexterref11_kind.l0 k a0 t175 1)
theorem ambidexterref11_kind.mono_l : ∀ k, (∀ y0 y1 y2, LeO (ambidexterref11_kind.l0 k y0 y1 y2) (ambidexterref11_kind.l0 (k + 1) y0 y1 y2))
 | 0 => fun _ _ _ r h => by simp [ambidexterref11_kind.l0] at h
 | k + 1 => by
  have ih0 := ambidexterref11_kind.mono_l k
  · intro y0 y1 y2
    unfold ambidexterref11_kind.l0
    repeat' first
    | (with_reducible exact ih0 _ _ _)
    | (with_reducible exact LeO.refl _)
    | (with_reducible exact LeO.none _)
    | (with_reducible refine LeO.ite ?_ ?_)
    | (with_reducible refine LeO.bind ?_ (fun _ => ?_))
    | exact ih0 _ _ _
    | exact LeO.none _
    | refine LeO.ite ?_ ?_
    | refine LeO.bind ?_ (fun _ => ?_)
theorem ambidexterref11_kind.mono : ∀ a0 k, LeO (ambidexterref11_kind.f k a0) (ambidexterref11_kind.f (k + 1) a0) := by
 intro a0 k
 have ih0 := ambidexterref11_kind.mono_l k
 unfold ambidexterref11_kind.f
 repeat' first
  | (with_reducible exact ih0 _ _ _)
  | (with_reducible exact LeO.refl _)
  | (with_reducible exact LeO.none _)
  | (with_reducible refine LeO.ite ?_ ?_)
  | (with_reducible refine LeO.bind ?_ (fun _ => ?_))
  | exact ih0 _ _ _
  | exact LeO.none _
  | refine LeO.ite ?_ ?_
  | refine LeO.bind ?_ (fun _ => ?_)
theorem ambidexterref11_kind.calls (k : Nat) (a0 : ByteArray) (r : Int) (w : World) (h : ambidexterref11_kind.f k a0 = some r) :
 Calls Tryz.prog 55 #[.string a0] w fun e w' => e = .returned (.int .i64 r) ∧ Below w.heap.size w w' := by
 have HB := Aside0.mk (Below.refl w.heap.size w)
 have H : ((ambidexterref11_Words.f).bind fun t175 => (ambidexterref11_kind.l0 k a0 t175 1)) = some r := h
 clear h
 replace H := Option.bind_eq_some_iff.mp H
 obtain ⟨t175, A20, H⟩ := H
 replace H : (ambidexterref11_kind.l0 k a0 t175 1) = some r := H
 have A2 := Aside0.mk A20
 clear A20
 have H' := Aside0.mk H
 clear H
 go_enter Tryz.func55, Tryz.ntmps55
 go_wp2_with (first | ((with_reducible refine gate_callee (f := 40) rfl ?_); refine goesL_ (some 5) rfl rfl Tryz.func40 (by kernel_rfl) rfl #[] rfl (by (try simp only [List.map_toArray, List.map_cons, List.map_nil]); first | done | rfl | (simp only [List.length_drop, List.length_take]; rfl)) ?_; (with_reducible refine (ambidexterref11_Words.calls  t175 _ A2.out).mono ?_); rintro e w3 ⟨v176, rfl, ho0, hb⟩; refine ⟨_, rfl, ?_⟩; have n0_ := Aside0.mk (Kd.R_lower ho0 (below_size (by exact up_ HB.out))); have n1_ := Aside0.mk (below_step (by exact up_ HB.out) hb); clear HB; have HO177 := n0_; have HB := n1_; clear n0_ n1_; (try clear hb); (try clear hb2); (try clear hk); (try clear hi); (try clear ho0)))
 go_loopg [4] k (fun kq v4 w' => ∃ (x4_1 : Int), v4 = .int .i64 x4_1 ∧ Aside0 (ambidexterref11_kind.l0 kq a0 t175 x4_1 = some r) ∧ Aside0 (kq ≤ k) ∧ Aside0 (Kd.R Kd.string 9 w' w.heap.size (fun _ => True) v176 t175) ∧ Aside0 (Below w.heap.size w w'))
 case atStart => exact ⟨(1), (by first | rfl | (simp; done) | (simp [*]; done)), H', ⟨Nat.le_refl _⟩, ⟨by (with_reducible repeat (first | apply Kd.R_alloc | apply Kd.R_drewN | apply Kd.R_drew)); exact HO177.out⟩, ⟨by exact up_ HB.out⟩⟩
 case round =>
  clear H'
  try clear p2
  obtain ⟨x4_1, rfl, HA, HK1, HO_3, HB⟩ := hrel
  cases gk with
  | zero => exact absurd HA.out (by simp [ambidexterref11_kind.l0])
  | succ k1 =>
   have H := HA.out
   clear HA
   simp only [ambidexterref11_kind.l0] at H
   by_cases c4 : x4_1 < (t175.length : Int)
   · rw [if_pos c4] at H
     have c4b0 : decide (x4_1 < (t175.length : Int)) = true := decide_eq_true c4
     clear c4
     by_cases c5 : 0 ≤ x4_1
     · rw [if_pos c5] at H
       have c5b0 : decide (0 ≤ x4_1) = true := decide_eq_true c5
       clear c5
       by_cases c6 : (rdOf ByteArray.empty t175 x4_1).toList = a0.toList
       · rw [if_pos c6] at H
         have c6b0 : ((rdOf ByteArray.empty t175 x4_1).toList == a0.toList) = true := beq_iff_eq.mpr c6
         have c6b1 : ((rdOf ByteArray.empty t175 x4_1).toList != a0.toList) = false := bne_eq_false_iff_eq.mpr c6
         clear c6
         obtain rfl := Option.some.inj H
         obtain ⟨Ao7, co7, eo7⟩ := Kd.R_slice HO_3.out
         subst eo7
         have p178 : 0 ≤ (x4_1 : Int) := of_decide_eq_true (by first | (with_reducible assumption) | assumption)
         have q178 : x4_1 < (t175.length : Int) := of_decide_eq_true (by first | (with_reducible assumption) | assumption)
         obtain ⟨ad178, e178, hx178_0⟩ := Kd.at_string (Kd.R_reads' HO_3.out).2.2 x4_1 p178 q178
         cases e178
         replace p178 := eq_true p178
         replace q178 := eq_true q178
         go_wp2
         go_ret
         exact ⟨by first | rfl | (simp [errW_none, errW_some] <;> rfl) | (simp [*, errW_none, errW_some] <;> rfl), by exact up_ HB.out⟩
       · rw [if_neg c6] at H
         have c6b0 : ((rdOf ByteArray.empty t175 x4_1).toList == a0.toList) = false := beq_eq_false_iff_ne.mpr c6
         have c6b1 : ((rdOf ByteArray.empty t175 x4_1).toList != a0.toList) = true := bne_iff_ne.mpr c6
         have H' := Aside0.mk H
         clear H
         obtain ⟨Ao8, co8, eo8⟩ := Kd.R_slice HO_3.out
         subst eo8
         have p178 : 0 ≤ (x4_1 : Int) := of_decide_eq_true (by first | (with_reducible assumption) | assumption)
         have q178 : x4_1 < (t175.length : Int) := of_decide_eq_true (by first | (with_reducible assumption) | assumption)
         obtain ⟨ad178, e178, hx178_0⟩ := Kd.at_string (Kd.R_reads' HO_3.out).2.2 x4_1 p178 q178
         cases e178
         replace p178 := eq_true p178
         replace q178 := eq_true q178
         go_wp2
         go_roundg k1
         case measure => have := HK1.out; omega
         case rel => exact ⟨(wrap64 (x4_1 + 1)), (by first | rfl | (simp; done) | (simp [*]; done)), H', ⟨by have := HK1.out; omega⟩, ⟨by (with_reducible repeat (first | apply Kd.R_alloc | apply Kd.R_drewN | apply Kd.R_drew)); exact HO_3.out⟩, ⟨by exact up_ HB.out⟩⟩
     · rw [if_neg c5] at H
       exact absurd H (by simp)
   · rw [if_neg c4] at H
     have c4b0 : decide (x4_1 < (t175.length : Int)) = false := decide_eq_false c4
     clear c4
     obtain rfl := Option.some.inj H
     obtain ⟨Ao9, co9, eo9⟩ := Kd.R_slice HO_3.out
     subst eo9
     go_wp2
     go_ret
     exact ⟨by first | rfl | (simp [errW_none, errW_some] <;> rfl) | (simp [*, errW_none, errW_some] <;> rfl), by exact up_ HB.out⟩
mutual
def ambidexterref11_Name.j0 : Nat → ByteArray → Bool → Option (Bool)
 | 0, _, _ => none
 | k + 1, x0, x17 => if x17 = true then (some false) else (ambidexterref11_Name.l0 k x0 0)
def ambidexterref11_Name.l0 : Nat → ByteArray → Int → Option (Bool)
 | 0, _, _ => none
 | k + 1, x0, x3 => if x3 < (x0.size : Int) then (if 0 ≤ x3 then (if (bt x0 x3) ≥ 97 then (if (bt x0 x3) ≤ 122 then (ambidexterref11_Name.l0 k x0 (wrap64 (x3 + 1))) else (if (bt x0 x3) ≥ 65 then (if ((bt x0 x3) ≤ 90) then (ambidexterref11_Name.l0 k x0 (wrap64 (x3 + 1))) else (if x3 = 0 then (some false) else (if (bt x0 x3) < 48 then (if (bt x0 x3) = 95 then (ambidexterref11_Name.l0 k x0 (wrap64 (x3 + 1))) else (some false)) else (if (bt x0 x3) > 57 then (if (bt x0 x3) = 95 then (ambidexterref11_Name.l0 k x0 (wrap64 (x3 + 1))) else (some false)) else (ambidexterref11_Name.l0 k x0 (wrap64 (x3 + 1))))))) else (if x3 = 0 then (some false) else (if (bt x0 x3) < 48 then (if (bt x0 x3) = 95 then (ambidexterref11_Name.l0 k x0 (wrap64 (x3 + 1))) else (some false)) else (if (bt x0 x3) > 57 then (if (bt x0 x3) = 95 then (ambidexterref11_Name.l0 k x0 (wrap64 (x3 + 1))) else (some false)) else (ambidexterref11_Name.l0 k x0 (wrap64 (x3 + 1)))))))) else (if (bt x0 x3) ≥ 65 then (if ((bt x0 x3) ≤ 90) then (ambidexterref11_Name.l0 k x0 (wrap64 (x3 + 1))) else (if x3 = 0 then (some false) else (if (bt x0 x3) < 48 then (if (bt x0 x3) = 95 then (ambidexterref11_Name.l0 k x0 (wrap64 (x3 + 1))) else (some false)) else (if (bt x0 x3) > 57 then (if (bt x0 x3) = 95 then (ambidexterref11_Name.l0 k x0 (wrap64 (x3 + 1))) else (some false)) else (ambidexterref11_Name.l0 k x0 (wrap64 (x3 + 1))))))) else (if x3 = 0 then (some false) else (if (bt x0 x3) < 48 then (if (bt x0 x3) = 95 then (ambidexterref11_Name.l0 k x0 (wrap64 (x3 + 1))) else (some false)) else (if (bt x0 x3) > 57 then (if (bt x0 x3) = 95 then (ambidexterref11_Name.l0 k x0 (wrap64 (x3 + 1))) else (some false)) else (ambidexterref11_Name.l0 k x0 (wrap64 (x3 + 1)))))))) else (none)) else (some true)
end
def ambidexterref11_Name.f (k : Nat) (a0 : ByteArray) : Option (Bool) := if a0.toList = ([] : List UInt8) then (ambidexterref11_Name.j0 k a0 true) else (if (a0.size : Int) > 12 then (ambidexterref11_Name.j0 k a0 true) else ((ambidexterref11_kind.f k a0).bind fun t328 => (ambidexterref11_Name.j0 k a0 (decide (t328 > 0)))))
theorem ambidexterref11_Name.mono_l : ∀ k, (∀ y0 y1, LeO (ambidexterref11_Name.j0 k y0 y1) (ambidexterref11_Name.j0 (k + 1) y0 y1)) ∧ (∀ y0 y1, LeO (ambidexterref11_Name.l0 k y0 y1) (ambidexterref11_Name.l0 (k + 1) y0 y1))
 | 0 => ⟨fun _ _ r h => by simp [ambidexterref11_Name.j0] at h, fun _ _ r h => by simp [ambidexterref11_Name.l0] at h⟩
 | k + 1 => by
  obtain ⟨ih0, ih1⟩ := ambidexterref11_Name.mono_l k
  refine ⟨?_, ?_⟩
  · intro y0 y1
    unfold ambidexterref11_Name.j0
    repeat' first
    | (with_reducible exact ih0 _ _)
    | (with_reducible exact ih1 _ _)
    | (with_reducible exact ambidexterref11_kind.mono _ _)
    | (with_reducible exact LeO.refl _)
    | (with_reducible exact LeO.none _)
    | (with_reducible refine LeO.ite ?_ ?_)
    | (with_reducible refine LeO.bind ?_ (fun _ => ?_))
    | exact ih0 _ _
    | exact ih1 _ _
    | exact ambidexterref11_kind.mono _ _
    | exact LeO.none _
    | refine LeO.ite ?_ ?_
    | refine LeO.bind ?_ (fun _ => ?_)
  · intro y0 y1
    unfold ambidexterref11_Name.l0
    repeat' first
    | (with_reducible exact ih0 _ _)
    | (with_reducible exact ih1 _ _)
    | (with_reducible exact ambidexterref11_kind.mono _ _)
    | (with_reducible exact LeO.refl _)
    | (with_reducible exact LeO.none _)
    | (with_reducible refine LeO.ite ?_ ?_)
    | (with_reducible refine LeO.bind ?_ (fun _ => ?_))
    | exact ih0 _ _
    | exact ih1 _ _
    | exact ambidexterref11_kind.mono _ _
    | exact LeO.none _
    | refine LeO.ite ?_ ?_
    | refine LeO.bind ?_ (fun _ => ?_)
theorem ambidexterref11_Name.calls (k : Nat) (a0 : ByteArray) (r : Bool) (w : World) (h : ambidexterref11_Name.f k a0 = some r) :
 Calls Tryz.prog 68 #[.string a0] w fun e w' => e = .returned (.bool r) ∧ Below w.heap.size w w' := by
 have HB := Aside0.mk (Below.refl w.heap.size w)
 have H : (if a0.toList = ([] : List UInt8) then (ambidexterref11_Name.j0 k a0 true) else (if (a0.size : Int) > 12 then (ambidexterref11_Name.j0 k a0 true) else ((ambidexterref11_kind.f k a0).bind fun t328 => (ambidexterref11_Name.j0 k a0 (decide (t328 > 0)))))) = some r := h
 clear h
 have HC2 := Aside0.mk H
 clear H
 go_enter Tryz.func68, Tryz.ntmps68
 go_upto_region 1 with (fail)
 go_cut [17] (fun v17 wc => ∃ (kq : Nat) (x17_1 : Bool), v17 = .bool x17_1 ∧ Aside0 (ambidexterref11_Name.j0 kq a0 x17_1 = some r) ∧ Aside0 (kq ≤ k) ∧ Aside0 (Below w.heap.size w wc))
 case first =>
  have H := HC2.out
  clear HC2
  by_cases c3 : a0.toList = ([] : List UInt8)
  · rw [if_pos c3] at H
    have c3b0 : (a0.toList == ([] : List UInt8)) = true := beq_iff_eq.mpr c3
    have c3b1 : (a0.toList != ([] : List UInt8)) = false := bne_eq_false_iff_eq.mpr c3
    clear c3
    (first | rw [c3b0] | (simp only [i64_w, i32_w]; rw [c3b0]) | skip)
    have H' := Aside0.mk H
    clear H
    go_wp2
    go_meet
    case rel => exact ⟨_, (true), (by first | rfl | (simp; done) | (simp [*]; done)), H', ⟨by first | omega | exact Nat.le_refl _⟩, ⟨by exact up_ HB.out⟩⟩
  · rw [if_neg c3] at H
    have c3b0 : (a0.toList == ([] : List UInt8)) = false := beq_eq_false_iff_ne.mpr c3
    have c3b1 : (a0.toList != ([] : List UInt8)) = true := bne_iff_ne.mpr c3
    (first | rw [c3b0] | (simp only [i64_w, i32_w]; rw [c3b0]) | skip)
    by_cases c4 : (a0.size : Int) > 12
    · rw [if_pos c4] at H
      have c4b0 : decide (12 < (a0.size : Int)) = true := decide_eq_true c4
      have c4b1 : decide (12 < a0.size) = true := decide_eq_true (by omega)
      clear c4
      have H' := Aside0.mk H
      clear H
      go_wp2
      go_meet
      case rel => exact ⟨_, (true), (by first | rfl | (simp; done) | (simp [*]; done)), H', ⟨by first | omega | exact Nat.le_refl _⟩, ⟨by exact up_ HB.out⟩⟩
    · rw [if_neg c4] at H
      have c4b0 : decide (12 < (a0.size : Int)) = false := decide_eq_false c4
      have c4b1 : decide (12 < a0.size) = false := decide_eq_false (by omega)
      clear c4
      replace H := Option.bind_eq_some_iff.mp H
      obtain ⟨t328, A50, H⟩ := H
      replace H : (ambidexterref11_Name.j0 k a0 (decide (t328 > 0))) = some r := H
      have A5 := Aside0.mk A50
      clear A50
      have H' := Aside0.mk H
      clear H
      go_wp2_with (first | (go_at_call 55; (with_reducible refine (ambidexterref11_kind.calls k a0 t328 _ A5.out).mono ?_); rintro e w6 ⟨rfl, hb⟩; have n0_ := Aside0.mk (below_step (by exact up_ HB.out) hb); clear HB; have HB := n0_; clear n0_; (try clear hb); (try clear hb2); (try clear hk); (try clear hi)))
      go_meet
      case rel => exact ⟨_, (decide (t328 > 0)), (by first | rfl | (simp; done) | (simp [*]; done)), H', ⟨by first | omega | exact Nat.le_refl _⟩, ⟨by exact up_ HB.out⟩⟩
 case rest =>
  clear HC2
  try clear p2
  try clear c3
  try clear c3b0
  try clear c3b1
  try clear c4
  try clear c4b0
  try clear c4b1
  try clear c6
  obtain ⟨kq, x17_1, rfl, HA, HJ1, HB⟩ := hcut
  cases kq with
  | zero => exact absurd HA.out (by simp [ambidexterref11_Name.j0])
  | succ kj1 =>
   have H := HA.out
   clear HA
   simp only [ambidexterref11_Name.j0] at H
   by_cases c7 : x17_1 = true
   · subst c7
     have H1 : (some false) = some r := by rw [if_pos rfl] at H; exact H
     clear H
     have H := H1
     clear H1
     obtain rfl := Option.some.inj H
     go_wp2
     go_ret
     exact ⟨by first | rfl | (simp [errW_none, errW_some] <;> rfl) | (simp [*, errW_none, errW_some] <;> rfl), by exact up_ HB.out⟩
   · replace c7 := Bool.eq_false_iff.mpr c7
     subst c7
     have H1 : (ambidexterref11_Name.l0 kj1 a0 0) = some r := by rw [if_neg (show ¬ (false = true) by decide)] at H; exact H
     clear H
     have H := H1
     clear H1
     have H' := Aside0.mk H
     clear H
     go_wp2
     go_loopg [3] kj1 (fun kq v3 w' => ∃ (x3_2 : Int), v3 = .int .i64 x3_2 ∧ Aside0 (ambidexterref11_Name.l0 kq a0 x3_2 = some r) ∧ Aside0 (kq ≤ kj1) ∧ Aside0 (Below w.heap.size w w'))
     case atStart => exact ⟨(0), (by first | rfl | (simp; done) | (simp [*]; done)), H', ⟨Nat.le_refl _⟩, ⟨by exact up_ HB.out⟩⟩
     case round =>
      clear H'
      try clear p2
      try clear c3
      try clear c3b0
      try clear c3b1
      try clear c4
      try clear c4b0
      try clear c4b1
      try clear c6
      try clear c7
      try clear p2
      obtain ⟨x3_2, rfl, HA, HK2, HB⟩ := hrel
      cases gk with
      | zero => exact absurd HA.out (by simp [ambidexterref11_Name.l0])
      | succ k2 =>
       have H := HA.out
       clear HA
       simp only [ambidexterref11_Name.l0] at H
       by_cases c8 : x3_2 < (a0.size : Int)
       · rw [if_pos c8] at H
         have c8b0 : decide (x3_2 < (a0.size : Int)) = true := decide_eq_true c8
         clear c8
         by_cases c9 : 0 ≤ x3_2
         · rw [if_pos c9] at H
           have c9b0 : decide (0 ≤ x3_2) = true := decide_eq_true c9
           clear c9
           by_cases c11 : (bt a0 x3_2) ≥ 97
           · rw [if_pos c11] at H
             have c11b0 : decide (97 ≤ (bt a0 x3_2)) = true := decide_eq_true c11
             clear c11
             by_cases c12 : (bt a0 x3_2) ≤ 122
             · rw [if_pos c12] at H
               have c12b0 : decide ((bt a0 x3_2) ≤ 122) = true := decide_eq_true c12
               clear c12
               have H' := Aside0.mk H
               clear H
               have p10 : 0 ≤ (x3_2 : Int) := of_decide_eq_true (by first | (with_reducible assumption) | assumption)
               have q10 : x3_2 < (a0.size : Int) := of_decide_eq_true (by first | (with_reducible assumption) | assumption)
               have hx10 := bt_at a0 x3_2
               replace p10 := eq_true p10
               replace q10 := eq_true q10
               go_wp2
               go_roundg k2
               case measure => have := HJ1.out; have := HK2.out; omega
               case rel => exact ⟨(wrap64 (x3_2 + 1)), (by first | rfl | (simp; done) | (simp [*]; done)), H', ⟨by have := HJ1.out; have := HK2.out; omega⟩, ⟨by exact up_ HB.out⟩⟩
             · rw [if_neg c12] at H
               have c12b0 : decide ((bt a0 x3_2) ≤ 122) = false := decide_eq_false c12
               clear c12
               by_cases c13 : (bt a0 x3_2) ≥ 65
               · rw [if_pos c13] at H
                 have c13b0 : decide (65 ≤ (bt a0 x3_2)) = true := decide_eq_true c13
                 clear c13
                 by_cases c14 : ((bt a0 x3_2) ≤ 90)
                 · rw [if_pos c14] at H
                   have c14b0 : decide ((bt a0 x3_2) ≤ 90) = true := decide_eq_true c14
                   clear c14
                   have H' := Aside0.mk H
                   clear H
                   have p10 : 0 ≤ (x3_2 : Int) := of_decide_eq_true (by first | (with_reducible assumption) | assumption)
                   have q10 : x3_2 < (a0.size : Int) := of_decide_eq_true (by first | (with_reducible assumption) | assumption)
                   have hx10 := bt_at a0 x3_2
                   replace p10 := eq_true p10
                   replace q10 := eq_true q10
                   go_wp2
                   go_roundg k2
                   case measure => have := HJ1.out; have := HK2.out; omega
                   case rel => exact ⟨(wrap64 (x3_2 + 1)), (by first | rfl | (simp; done) | (simp [*]; done)), H', ⟨by have := HJ1.out; have := HK2.out; omega⟩, ⟨by exact up_ HB.out⟩⟩
                 · rw [if_neg c14] at H
                   have c14b0 : decide ((bt a0 x3_2) ≤ 90) = false := decide_eq_false c14
                   clear c14
                   by_cases c15 : x3_2 = 0
                   · rw [if_pos c15] at H
                     have c15b0 : (x3_2 == 0) = true := beq_iff_eq.mpr c15
                     have c15b1 : (x3_2 != 0) = false := bne_eq_false_iff_eq.mpr c15
                     clear c15
                     obtain rfl := Option.some.inj H
                     have p10 : 0 ≤ (x3_2 : Int) := of_decide_eq_true (by first | (with_reducible assumption) | assumption)
                     have q10 : x3_2 < (a0.size : Int) := of_decide_eq_true (by first | (with_reducible assumption) | assumption)
                     have hx10 := bt_at a0 x3_2
                     replace p10 := eq_true p10
                     replace q10 := eq_true q10
                     go_wp2
                     go_ret
                     exact ⟨by first | rfl | (simp [errW_none, errW_some] <;> rfl) | (simp [*, errW_none, errW_some] <;> rfl), by exact up_ HB.out⟩
                   · rw [if_neg c15] at H
                     have c15b0 : (x3_2 == 0) = false := beq_eq_false_iff_ne.mpr c15
                     have c15b1 : (x3_2 != 0) = true := bne_iff_ne.mpr c15
                     by_cases c16 : (bt a0 x3_2) < 48
                     · rw [if_pos c16] at H
                       have c16b0 : decide ((bt a0 x3_2) < 48) = true := decide_eq_true c16
                       clear c16
                       by_cases c17 : (bt a0 x3_2) = 95
                       · rw [if_pos c17] at H
                         have c17b0 : ((bt a0 x3_2) == 95) = true := beq_iff_eq.mpr c17
                         have c17b1 : ((bt a0 x3_2) != 95) = false := bne_eq_false_iff_eq.mpr c17
                         clear c17
                         have H' := Aside0.mk H
                         clear H
                         have p10 : 0 ≤ (x3_2 : Int) := of_decide_eq_true (by first | (with_reducible assumption) | assumption)
                         have q10 : x3_2 < (a0.size : Int) := of_decide_eq_true (by first | (with_reducible assumption) | assumption)
                         have hx10 := bt_at a0 x3_2
                         replace p10 := eq_true p10
                         replace q10 := eq_true q10
                         go_wp2
                         go_roundg k2
                         case measure => have := HJ1.out; have := HK2.out; omega
                         case rel => exact ⟨(wrap64 (x3_2 + 1)), (by first | rfl | (simp; done) | (simp [*]; done)), H', ⟨by have := HJ1.out; have := HK2.out; omega⟩, ⟨by exact up_ HB.out⟩⟩
                       · rw [if_neg c17] at H
                         have c17b0 : ((bt a0 x3_2) == 95) = false := beq_eq_false_iff_ne.mpr c17
                         have c17b1 : ((bt a0 x3_2) != 95) = true := bne_iff_ne.mpr c17
                         obtain rfl := Option.some.inj H
                         have p10 : 0 ≤ (x3_2 : Int) := of_decide_eq_true (by first | (with_reducible assumption) | assumption)
                         have q10 : x3_2 < (a0.size : Int) := of_decide_eq_true (by first | (with_reducible assumption) | assumption)
                         have hx10 := bt_at a0 x3_2
                         replace p10 := eq_true p10
                         replace q10 := eq_true q10
                         go_wp2
                         go_ret
                         exact ⟨by first | rfl | (simp [errW_none, errW_some] <;> rfl) | (simp [*, errW_none, errW_some] <;> rfl), by exact up_ HB.out⟩
                     · rw [if_neg c16] at H
                       have c16b0 : decide ((bt a0 x3_2) < 48) = false := decide_eq_false c16
                       clear c16
                       by_cases c18 : (bt a0 x3_2) > 57
                       · rw [if_pos c18] at H
                         have c18b0 : decide (57 < (bt a0 x3_2)) = true := decide_eq_true c18
                         clear c18
                         by_cases c19 : (bt a0 x3_2) = 95
                         · rw [if_pos c19] at H
                           have c19b0 : ((bt a0 x3_2) == 95) = true := beq_iff_eq.mpr c19
                           have c19b1 : ((bt a0 x3_2) != 95) = false := bne_eq_false_iff_eq.mpr c19
                           clear c19
                           have H' := Aside0.mk H
                           clear H
                           have p10 : 0 ≤ (x3_2 : Int) := of_decide_eq_true (by first | (with_reducible assumption) | assumption)
                           have q10 : x3_2 < (a0.size : Int) := of_decide_eq_true (by first | (with_reducible assumption) | assumption)
                           have hx10 := bt_at a0 x3_2
                           replace p10 := eq_true p10
                           replace q10 := eq_true q10
                           go_wp2
                           go_roundg k2
                           case measure => have := HJ1.out; have := HK2.out; omega
                           case rel => exact ⟨(wrap64 (x3_2 + 1)), (by first | rfl | (simp; done) | (simp [*]; done)), H', ⟨by have := HJ1.out; have := HK2.out; omega⟩, ⟨by exact up_ HB.out⟩⟩
                         · rw [if_neg c19] at H
                           have c19b0 : ((bt a0 x3_2) == 95) = false := beq_eq_false_iff_ne.mpr c19
                           have c19b1 : ((bt a0 x3_2) != 95) = true := bne_iff_ne.mpr c19
                           obtain rfl := Option.some.inj H
                           have p10 : 0 ≤ (x3_2 : Int) := of_decide_eq_true (by first | (with_reducible assumption) | assumption)
                           have q10 : x3_2 < (a0.size : Int) := of_decide_eq_true (by first | (with_reducible assumption) | assumption)
                           have hx10 := bt_at a0 x3_2
                           replace p10 := eq_true p10
                           replace q10 := eq_true q10
                           go_wp2
                           go_ret
                           exact ⟨by first | rfl | (simp [errW_none, errW_some] <;> rfl) | (simp [*, errW_none, errW_some] <;> rfl), by exact up_ HB.out⟩
                       · rw [if_neg c18] at H
                         have c18b0 : decide (57 < (bt a0 x3_2)) = false := decide_eq_false c18
                         clear c18
                         have H' := Aside0.mk H
                         clear H
                         have p10 : 0 ≤ (x3_2 : Int) := of_decide_eq_true (by first | (with_reducible assumption) | assumption)
                         have q10 : x3_2 < (a0.size : Int) := of_decide_eq_true (by first | (with_reducible assumption) | assumption)
                         have hx10 := bt_at a0 x3_2
                         replace p10 := eq_true p10
                         replace q10 := eq_true q10
                         go_wp2
                         go_roundg k2
                         case measure => have := HJ1.out; have := HK2.out; omega
                         case rel => exact ⟨(wrap64 (x3_2 + 1)), (by first | rfl | (simp; done) | (simp [*]; done)), H', ⟨by have := HJ1.out; have := HK2.out; omega⟩, ⟨by exact up_ HB.out⟩⟩
               · rw [if_neg c13] at H
                 have c13b0 : decide (65 ≤ (bt a0 x3_2)) = false := decide_eq_false c13
                 clear c13
                 by_cases c20 : x3_2 = 0
                 · rw [if_pos c20] at H
                   have c20b0 : (x3_2 == 0) = true := beq_iff_eq.mpr c20
                   have c20b1 : (x3_2 != 0) = false := bne_eq_false_iff_eq.mpr c20
                   clear c20
                   obtain rfl := Option.some.inj H
                   have p10 : 0 ≤ (x3_2 : Int) := of_decide_eq_true (by first | (with_reducible assumption) | assumption)
                   have q10 : x3_2 < (a0.size : Int) := of_decide_eq_true (by first | (with_reducible assumption) | assumption)
                   have hx10 := bt_at a0 x3_2
                   replace p10 := eq_true p10
                   replace q10 := eq_true q10
                   go_wp2
                   go_ret
                   exact ⟨by first | rfl | (simp [errW_none, errW_some] <;> rfl) | (simp [*, errW_none, errW_some] <;> rfl), by exact up_ HB.out⟩
                 · rw [if_neg c20] at H
                   have c20b0 : (x3_2 == 0) = false := beq_eq_false_iff_ne.mpr c20
                   have c20b1 : (x3_2 != 0) = true := bne_iff_ne.mpr c20
                   by_cases c21 : (bt a0 x3_2) < 48
                   · rw [if_pos c21] at H
                     have c21b0 : decide ((bt a0 x3_2) < 48) = true := decide_eq_true c21
                     clear c21
                     by_cases c22 : (bt a0 x3_2) = 95
                     · rw [if_pos c22] at H
                       have c22b0 : ((bt a0 x3_2) == 95) = true := beq_iff_eq.mpr c22
                       have c22b1 : ((bt a0 x3_2) != 95) = false := bne_eq_false_iff_eq.mpr c22
                       clear c22
                       have H' := Aside0.mk H
                       clear H
                       have p10 : 0 ≤ (x3_2 : Int) := of_decide_eq_true (by first | (with_reducible assumption) | assumption)
                       have q10 : x3_2 < (a0.size : Int) := of_decide_eq_true (by first | (with_reducible assumption) | assumption)
                       have hx10 := bt_at a0 x3_2
                       replace p10 := eq_true p10
                       replace q10 := eq_true q10
                       go_wp2
                       go_roundg k2
                       case measure => have := HJ1.out; have := HK2.out; omega
                       case rel => exact ⟨(wrap64 (x3_2 + 1)), (by first | rfl | (simp; done) | (simp [*]; done)), H', ⟨by have := HJ1.out; have := HK2.out; omega⟩, ⟨by exact up_ HB.out⟩⟩
                     · rw [if_neg c22] at H
                       have c22b0 : ((bt a0 x3_2) == 95) = false := beq_eq_false_iff_ne.mpr c22
                       have c22b1 : ((bt a0 x3_2) != 95) = true := bne_iff_ne.mpr c22
                       obtain rfl := Option.some.inj H
                       have p10 : 0 ≤ (x3_2 : Int) := of_decide_eq_true (by first | (with_reducible assumption) | assumption)
                       have q10 : x3_2 < (a0.size : Int) := of_decide_eq_true (by first | (with_reducible assumption) | assumption)
                       have hx10 := bt_at a0 x3_2
                       replace p10 := eq_true p10
                       replace q10 := eq_true q10
                       go_wp2
                       go_ret
                       exact ⟨by first | rfl | (simp [errW_none, errW_some] <;> rfl) | (simp [*, errW_none, errW_some] <;> rfl), by exact up_ HB.out⟩
                   · rw [if_neg c21] at H
                     have c21b0 : decide ((bt a0 x3_2) < 48) = false := decide_eq_false c21
                     clear c21
                     by_cases c23 : (bt a0 x3_2) > 57
                     · rw [if_pos c23] at H
                       have c23b0 : decide (57 < (bt a0 x3_2)) = true := decide_eq_true c23
                       clear c23
                       by_cases c24 : (bt a0 x3_2) = 95
                       · rw [if_pos c24] at H
                         have c24b0 : ((bt a0 x3_2) == 95) = true := beq_iff_eq.mpr c24
                         have c24b1 : ((bt a0 x3_2) != 95) = false := bne_eq_false_iff_eq.mpr c24
                         clear c24
                         have H' := Aside0.mk H
                         clear H
                         have p10 : 0 ≤ (x3_2 : Int) := of_decide_eq_true (by first | (with_reducible assumption) | assumption)
                         have q10 : x3_2 < (a0.size : Int) := of_decide_eq_true (by first | (with_reducible assumption) | assumption)
                         have hx10 := bt_at a0 x3_2
                         replace p10 := eq_true p10
                         replace q10 := eq_true q10
                         go_wp2
                         go_roundg k2
                         case measure => have := HJ1.out; have := HK2.out; omega
                         case rel => exact ⟨(wrap64 (x3_2 + 1)), (by first | rfl | (simp; done) | (simp [*]; done)), H', ⟨by have := HJ1.out; have := HK2.out; omega⟩, ⟨by exact up_ HB.out⟩⟩
                       · rw [if_neg c24] at H
                         have c24b0 : ((bt a0 x3_2) == 95) = false := beq_eq_false_iff_ne.mpr c24
                         have c24b1 : ((bt a0 x3_2) != 95) = true := bne_iff_ne.mpr c24
                         obtain rfl := Option.some.inj H
                         have p10 : 0 ≤ (x3_2 : Int) := of_decide_eq_true (by first | (with_reducible assumption) | assumption)
                         have q10 : x3_2 < (a0.size : Int) := of_decide_eq_true (by first | (with_reducible assumption) | assumption)
                         have hx10 := bt_at a0 x3_2
                         replace p10 := eq_true p10
                         replace q10 := eq_true q10
                         go_wp2
                         go_ret
                         exact ⟨by first | rfl | (simp [errW_none, errW_some] <;> rfl) | (simp [*, errW_none, errW_some] <;> rfl), by exact up_ HB.out⟩
                     · rw [if_neg c23] at H
                       have c23b0 : decide (57 < (bt a0 x3_2)) = false := decide_eq_false c23
                       clear c23
                       have H' := Aside0.mk H
                       clear H
                       have p10 : 0 ≤ (x3_2 : Int) := of_decide_eq_true (by first | (with_reducible assumption) | assumption)
                       have q10 : x3_2 < (a0.size : Int) := of_decide_eq_true (by first | (with_reducible assumption) | assumption)
                       have hx10 := bt_at a0 x3_2
                       replace p10 := eq_true p10
                       replace q10 := eq_true q10
                       go_wp2
                       go_roundg k2
                       case measure => have := HJ1.out; have := HK2.out; omega
                       case rel => exact ⟨(wrap64 (x3_2 + 1)), (by first | rfl | (simp; done) | (simp [*]; done)), H', ⟨by have := HJ1.out; have := HK2.out; omega⟩, ⟨by exact up_ HB.out⟩⟩
           · rw [if_neg c11] at H
             have c11b0 : decide (97 ≤ (bt a0 x3_2)) = false := decide_eq_false c11
             clear c11
             by_cases c25 : (bt a0 x3_2) ≥ 65
             · rw [if_pos c25] at H
               have c25b0 : decide (65 ≤ (bt a0 x3_2)) = true := decide_eq_true c25
               clear c25
               by_cases c26 : ((bt a0 x3_2) ≤ 90)
               · rw [if_pos c26] at H
                 have c26b0 : decide ((bt a0 x3_2) ≤ 90) = true := decide_eq_true c26
                 clear c26
                 have H' := Aside0.mk H
                 clear H
                 have p10 : 0 ≤ (x3_2 : Int) := of_decide_eq_true (by first | (with_reducible assumption) | assumption)
                 have q10 : x3_2 < (a0.size : Int) := of_decide_eq_true (by first | (with_reducible assumption) | assumption)
                 have hx10 := bt_at a0 x3_2
                 replace p10 := eq_true p10
                 replace q10 := eq_true q10
                 go_wp2
                 go_roundg k2
                 case measure => have := HJ1.out; have := HK2.out; omega
                 case rel => exact ⟨(wrap64 (x3_2 + 1)), (by first | rfl | (simp; done) | (simp [*]; done)), H', ⟨by have := HJ1.out; have := HK2.out; omega⟩, ⟨by exact up_ HB.out⟩⟩
               · rw [if_neg c26] at H
                 have c26b0 : decide ((bt a0 x3_2) ≤ 90) = false := decide_eq_false c26
                 clear c26
                 by_cases c27 : x3_2 = 0
                 · rw [if_pos c27] at H
                   have c27b0 : (x3_2 == 0) = true := beq_iff_eq.mpr c27
                   have c27b1 : (x3_2 != 0) = false := bne_eq_false_iff_eq.mpr c27
                   clear c27
                   obtain rfl := Option.some.inj H
                   have p10 : 0 ≤ (x3_2 : Int) := of_decide_eq_true (by first | (with_reducible assumption) | assumption)
                   have q10 : x3_2 < (a0.size : Int) := of_decide_eq_true (by first | (with_reducible assumption) | assumption)
                   have hx10 := bt_at a0 x3_2
                   replace p10 := eq_true p10
                   replace q10 := eq_true q10
                   go_wp2
                   go_ret
                   exact ⟨by first | rfl | (simp [errW_none, errW_some] <;> rfl) | (simp [*, errW_none, errW_some] <;> rfl), by exact up_ HB.out⟩
                 · rw [if_neg c27] at H
                   have c27b0 : (x3_2 == 0) = false := beq_eq_false_iff_ne.mpr c27
                   have c27b1 : (x3_2 != 0) = true := bne_iff_ne.mpr c27
                   by_cases c28 : (bt a0 x3_2) < 48
                   · rw [if_pos c28] at H
                     have c28b0 : decide ((bt a0 x3_2) < 48) = true := decide_eq_true c28
                     clear c28
                     by_cases c29 : (bt a0 x3_2) = 95
                     · rw [if_pos c29] at H
                       have c29b0 : ((bt a0 x3_2) == 95) = true := beq_iff_eq.mpr c29
                       have c29b1 : ((bt a0 x3_2) != 95) = false := bne_eq_false_iff_eq.mpr c29
                       clear c29
                       have H' := Aside0.mk H
                       clear H
                       have p10 : 0 ≤ (x3_2 : Int) := of_decide_eq_true (by first | (with_reducible assumption) | assumption)
                       have q10 : x3_2 < (a0.size : Int) := of_decide_eq_true (by first | (with_reducible assumption) | assumption)
                       have hx10 := bt_at a0 x3_2
                       replace p10 := eq_true p10
                       replace q10 := eq_true q10
                       go_wp2
                       go_roundg k2
                       case measure => have := HJ1.out; have := HK2.out; omega
                       case rel => exact ⟨(wrap64 (x3_2 + 1)), (by first | rfl | (simp; done) | (simp [*]; done)), H', ⟨by have := HJ1.out; have := HK2.out; omega⟩, ⟨by exact up_ HB.out⟩⟩
                     · rw [if_neg c29] at H
                       have c29b0 : ((bt a0 x3_2) == 95) = false := beq_eq_false_iff_ne.mpr c29
                       have c29b1 : ((bt a0 x3_2) != 95) = true := bne_iff_ne.mpr c29
                       obtain rfl := Option.some.inj H
                       have p10 : 0 ≤ (x3_2 : Int) := of_decide_eq_true (by first | (with_reducible assumption) | assumption)
                       have q10 : x3_2 < (a0.size : Int) := of_decide_eq_true (by first | (with_reducible assumption) | assumption)
                       have hx10 := bt_at a0 x3_2
                       replace p10 := eq_true p10
                       replace q10 := eq_true q10
                       go_wp2
                       go_ret
                       exact ⟨by first | rfl | (simp [errW_none, errW_some] <;> rfl) | (simp [*, errW_none, errW_some] <;> rfl), by exact up_ HB.out⟩
                   · rw [if_neg c28] at H
                     have c28b0 : decide ((bt a0 x3_2) < 48) = false := decide_eq_false c28
                     clear c28
                     by_cases c30 : (bt a0 x3_2) > 57
                     · rw [if_pos c30] at H
                       have c30b0 : decide (57 < (bt a0 x3_2)) = true := decide_eq_true c30
                       clear c30
                       by_cases c31 : (bt a0 x3_2) = 95
                       · rw [if_pos c31] at H
                         have c31b0 : ((bt a0 x3_2) == 95) = true := beq_iff_eq.mpr c31
                         have c31b1 : ((bt a0 x3_2) != 95) = false := bne_eq_false_iff_eq.mpr c31
                         clear c31
                         have H' := Aside0.mk H
                         clear H
                         have p10 : 0 ≤ (x3_2 : Int) := of_decide_eq_true (by first | (with_reducible assumption) | assumption)
                         have q10 : x3_2 < (a0.size : Int) := of_decide_eq_true (by first | (with_reducible assumption) | assumption)
                         have hx10 := bt_at a0 x3_2
                         replace p10 := eq_true p10
                         replace q10 := eq_true q10
                         go_wp2
                         go_roundg k2
                         case measure => have := HJ1.out; have := HK2.out; omega
                         case rel => exact ⟨(wrap64 (x3_2 + 1)), (by first | rfl | (simp; done) | (simp [*]; done)), H', ⟨by have := HJ1.out; have := HK2.out; omega⟩, ⟨by exact up_ HB.out⟩⟩
                       · rw [if_neg c31] at H
                         have c31b0 : ((bt a0 x3_2) == 95) = false := beq_eq_false_iff_ne.mpr c31
                         have c31b1 : ((bt a0 x3_2) != 95) = true := bne_iff_ne.mpr c31
                         obtain rfl := Option.some.inj H
                         have p10 : 0 ≤ (x3_2 : Int) := of_decide_eq_true (by first | (with_reducible assumption) | assumption)
                         have q10 : x3_2 < (a0.size : Int) := of_decide_eq_true (by first | (with_reducible assumption) | assumption)
                         have hx10 := bt_at a0 x3_2
                         replace p10 := eq_true p10
                         replace q10 := eq_true q10
                         go_wp2
                         go_ret
                         exact ⟨by first | rfl | (simp [errW_none, errW_some] <;> rfl) | (simp [*, errW_none, errW_some] <;> rfl), by exact up_ HB.out⟩
                     · rw [if_neg c30] at H
                       have c30b0 : decide (57 < (bt a0 x3_2)) = false := decide_eq_false c30
                       clear c30
                       have H' := Aside0.mk H
                       clear H
                       have p10 : 0 ≤ (x3_2 : Int) := of_decide_eq_true (by first | (with_reducible assumption) | assumption)
                       have q10 : x3_2 < (a0.size : Int) := of_decide_eq_true (by first | (with_reducible assumption) | assumption)
                       have hx10 := bt_at a0 x3_2
                       replace p10 := eq_true p10
                       replace q10 := eq_true q10
                       go_wp2
                       go_roundg k2
                       case measure => have := HJ1.out; have := HK2.out; omega
                       case rel => exact ⟨(wrap64 (x3_2 + 1)), (by first | rfl | (simp; done) | (simp [*]; done)), H', ⟨by have := HJ1.out; have := HK2.out; omega⟩, ⟨by exact up_ HB.out⟩⟩
             · rw [if_neg c25] at H
               have c25b0 : decide (65 ≤ (bt a0 x3_2)) = false := decide_eq_false c25
               clear c25
               by_cases c32 : x3_2 = 0
               · rw [if_pos c32] at H
                 have c32b0 : (x3_2 == 0) = true := beq_iff_eq.mpr c32
                 have c32b1 : (x3_2 != 0) = false := bne_eq_false_iff_eq.mpr c32
                 clear c32
                 obtain rfl := Option.some.inj H
                 have p10 : 0 ≤ (x3_2 : Int) := of_decide_eq_true (by first | (with_reducible assumption) | assumption)
                 have q10 : x3_2 < (a0.size : Int) := of_decide_eq_true (by first | (with_reducible assumption) | assumption)
                 have hx10 := bt_at a0 x3_2
                 replace p10 := eq_true p10
                 replace q10 := eq_true q10
                 go_wp2
                 go_ret
                 exact ⟨by first | rfl | (simp [errW_none, errW_some] <;> rfl) | (simp [*, errW_none, errW_some] <;> rfl), by exact up_ HB.out⟩
               · rw [if_neg c32] at H
                 have c32b0 : (x3_2 == 0) = false := beq_eq_false_iff_ne.mpr c32
                 have c32b1 : (x3_2 != 0) = true := bne_iff_ne.mpr c32
                 by_cases c33 : (bt a0 x3_2) < 48
                 · rw [if_pos c33] at H
                   have c33b0 : decide ((bt a0 x3_2) < 48) = true := decide_eq_true c33
                   clear c33
                   by_cases c34 : (bt a0 x3_2) = 95
                   · rw [if_pos c34] at H
                     have c34b0 : ((bt a0 x3_2) == 95) = true := beq_iff_eq.mpr c34
                     have c34b1 : ((bt a0 x3_2) != 95) = false := bne_eq_false_iff_eq.mpr c34
                     clear c34
                     have H' := Aside0.mk H
                     clear H
                     have p10 : 0 ≤ (x3_2 : Int) := of_decide_eq_true (by first | (with_reducible assumption) | assumption)
                     have q10 : x3_2 < (a0.size : Int) := of_decide_eq_true (by first | (with_reducible assumption) | assumption)
                     have hx10 := bt_at a0 x3_2
                     replace p10 := eq_true p10
                     replace q10 := eq_true q10
                     go_wp2
                     go_roundg k2
                     case measure => have := HJ1.out; have := HK2.out; omega
                     case rel => exact ⟨(wrap64 (x3_2 + 1)), (by first | rfl | (simp; done) | (simp [*]; done)), H', ⟨by have := HJ1.out; have := HK2.out; omega⟩, ⟨by exact up_ HB.out⟩⟩
                   · rw [if_neg c34] at H
                     have c34b0 : ((bt a0 x3_2) == 95) = false := beq_eq_false_iff_ne.mpr c34
                     have c34b1 : ((bt a0 x3_2) != 95) = true := bne_iff_ne.mpr c34
                     obtain rfl := Option.some.inj H
                     have p10 : 0 ≤ (x3_2 : Int) := of_decide_eq_true (by first | (with_reducible assumption) | assumption)
                     have q10 : x3_2 < (a0.size : Int) := of_decide_eq_true (by first | (with_reducible assumption) | assumption)
                     have hx10 := bt_at a0 x3_2
                     replace p10 := eq_true p10
                     replace q10 := eq_true q10
                     go_wp2
                     go_ret
                     exact ⟨by first | rfl | (simp [errW_none, errW_some] <;> rfl) | (simp [*, errW_none, errW_some] <;> rfl), by exact up_ HB.out⟩
                 · rw [if_neg c33] at H
                   have c33b0 : decide ((bt a0 x3_2) < 48) = false := decide_eq_false c33
                   clear c33
                   by_cases c35 : (bt a0 x3_2) > 57
                   · rw [if_pos c35] at H
                     have c35b0 : decide (57 < (bt a0 x3_2)) = true := decide_eq_true c35
                     clear c35
                     by_cases c36 : (bt a0 x3_2) = 95
                     · rw [if_pos c36] at H
                       have c36b0 : ((bt a0 x3_2) == 95) = true := beq_iff_eq.mpr c36
                       have c36b1 : ((bt a0 x3_2) != 95) = false := bne_eq_false_iff_eq.mpr c36
                       clear c36
                       have H' := Aside0.mk H
                       clear H
                       have p10 : 0 ≤ (x3_2 : Int) := of_decide_eq_true (by first | (with_reducible assumption) | assumption)
                       have q10 : x3_2 < (a0.size : Int) := of_decide_eq_true (by first | (with_reducible assumption) | assumption)
                       have hx10 := bt_at a0 x3_2
                       replace p10 := eq_true p10
                       replace q10 := eq_true q10
                       go_wp2
                       go_roundg k2
                       case measure => have := HJ1.out; have := HK2.out; omega
                       case rel => exact ⟨(wrap64 (x3_2 + 1)), (by first | rfl | (simp; done) | (simp [*]; done)), H', ⟨by have := HJ1.out; have := HK2.out; omega⟩, ⟨by exact up_ HB.out⟩⟩
                     · rw [if_neg c36] at H
                       have c36b0 : ((bt a0 x3_2) == 95) = false := beq_eq_false_iff_ne.mpr c36
                       have c36b1 : ((bt a0 x3_2) != 95) = true := bne_iff_ne.mpr c36
                       obtain rfl := Option.some.inj H
                       have p10 : 0 ≤ (x3_2 : Int) := of_decide_eq_true (by first | (with_reducible assumption) | assumption)
                       have q10 : x3_2 < (a0.size : Int) := of_decide_eq_true (by first | (with_reducible assumption) | assumption)
                       have hx10 := bt_at a0 x3_2
                       replace p10 := eq_true p10
                       replace q10 := eq_true q10
                       go_wp2
                       go_ret
                       exact ⟨by first | rfl | (simp [errW_none, errW_some] <;> rfl) | (simp [*, errW_none, errW_some] <;> rfl), by exact up_ HB.out⟩
                   · rw [if_neg c35] at H
                     have c35b0 : decide (57 < (bt a0 x3_2)) = false := decide_eq_false c35
                     clear c35
                     have H' := Aside0.mk H
                     clear H
                     have p10 : 0 ≤ (x3_2 : Int) := of_decide_eq_true (by first | (with_reducible assumption) | assumption)
                     have q10 : x3_2 < (a0.size : Int) := of_decide_eq_true (by first | (with_reducible assumption) | assumption)
                     have hx10 := bt_at a0 x3_2
                     replace p10 := eq_true p10
                     replace q10 := eq_true q10
                     go_wp2
                     go_roundg k2
                     case measure => have := HJ1.out; have := HK2.out; omega
                     case rel => exact ⟨(wrap64 (x3_2 + 1)), (by first | rfl | (simp; done) | (simp [*]; done)), H', ⟨by have := HJ1.out; have := HK2.out; omega⟩, ⟨by exact up_ HB.out⟩⟩
         · rw [if_neg c9] at H
           exact absurd H (by simp)
       · rw [if_neg c8] at H
         have c8b0 : decide (x3_2 < (a0.size : Int)) = false := decide_eq_false c8
         clear c8
         obtain rfl := Option.some.inj H
         go_wp2
         go_ret
         exact ⟨by first | rfl | (simp [errW_none, errW_some] <;> rfl) | (simp [*, errW_none, errW_some] <;> rfl), by exact up_ HB.out⟩
def ambidexterref11_Num.f : Nat → Int → Option (ByteArray)
 | 0, _ => none
 | k + 1, a0 => if a0 < 0 then ((ambidexterref11_Num.f k (wrap64 (-a0))).bind fun t333 => (if 1 + t333.size ≤ 9223372036854775807 then (some ((⟨#[45]⟩ : ByteArray) ++ t333)) else (none))) else (if a0 < 10 then (some (strOfNums (([(wrap64 (48 + a0)) % 256] : List Int)))) else ((ambidexterref11_Num.f k (wrap64 (Int.tdiv a0 10))).bind fun t337 => ((ambidexterref11_Num.f k (Int.tmod a0 10)).bind fun t338 => (if t337.size + t338.size ≤ 9223372036854775807 then (some (t337 ++ t338)) else (none)))))
theorem ambidexterref11_Num.mono_l : ∀ k, (∀ y0, LeO (ambidexterref11_Num.f k y0) (ambidexterref11_Num.f (k + 1) y0))
 | 0 => fun _ r h => by simp [ambidexterref11_Num.f] at h
 | k + 1 => by
  have ih0 := ambidexterref11_Num.mono_l k
  · intro y0
    unfold ambidexterref11_Num.f
    repeat' first
    | (with_reducible exact ih0 _)
    | (with_reducible exact LeO.refl _)
    | (with_reducible exact LeO.none _)
    | (with_reducible refine LeO.ite ?_ ?_)
    | (with_reducible refine LeO.bind ?_ (fun _ => ?_))
    | exact ih0 _
    | exact LeO.none _
    | refine LeO.ite ?_ ?_
    | refine LeO.bind ?_ (fun _ => ?_)
theorem ambidexterref11_Num.mono : ∀ a0 k, LeO (ambidexterref11_Num.f k a0) (ambidexterref11_Num.f (k + 1) a0) := by
 intro a0 k
 have ih0 := ambidexterref11_Num.mono_l k
 exact ih0 a0
theorem ambidexterref11_Num.calls (k : Nat) : ∀ (a0 : Int) (r : ByteArray) (w : World) (h : ambidexterref11_Num.f k a0 = some r),
 Calls Tryz.prog 72 #[.int .i64 a0] w fun e w' => e = .returned (.string r) ∧ Below w.heap.size w w' := by
 induction k using Nat.strongRecOn with
 | _ k ih =>
 intro a0 r w h
 cases k with
 | zero => exact absurd h (by simp [ambidexterref11_Num.f])
 | succ k =>
 simp only [ambidexterref11_Num.f] at h
 have HB := Aside0.mk (Below.refl w.heap.size w)
 have H : (if a0 < 0 then ((ambidexterref11_Num.f k (wrap64 (-a0))).bind fun t333 => (if 1 + t333.size ≤ 9223372036854775807 then (some ((⟨#[45]⟩ : ByteArray) ++ t333)) else (none))) else (if a0 < 10 then (some (strOfNums (([(wrap64 (48 + a0)) % 256] : List Int)))) else ((ambidexterref11_Num.f k (wrap64 (Int.tdiv a0 10))).bind fun t337 => ((ambidexterref11_Num.f k (Int.tmod a0 10)).bind fun t338 => (if t337.size + t338.size ≤ 9223372036854775807 then (some (t337 ++ t338)) else (none)))))) = some r := h
 clear h
 by_cases c2 : a0 < 0
 · rw [if_pos c2] at H
   have c2b0 : decide (a0 < 0) = true := decide_eq_true c2
   clear c2
   replace H := Option.bind_eq_some_iff.mp H
   obtain ⟨t333, A30, H⟩ := H
   replace H : (if 1 + t333.size ≤ 9223372036854775807 then (some ((⟨#[45]⟩ : ByteArray) ++ t333)) else (none)) = some r := H
   have A3 := Aside0.mk A30
   clear A30
   by_cases c4 : 1 + t333.size ≤ 9223372036854775807
   · rw [if_pos c4] at H
     have c4b0 := eq_true c4
     have c4b1 : decide (1 + t333.size ≤ 9223372036854775807) = true := decide_eq_true c4
     try have c4b2 : (9223372036854775807 < 1 + t333.size) = False := eq_false (Nat.not_lt.2 c4)
     obtain rfl := Option.some.inj H
     go_enter Tryz.func72, Tryz.ntmps72
     go_wp2_with (first | ((with_reducible refine gate_callee (f := 72) rfl ?_); refine goesL_ (some 7) rfl rfl Tryz.func72 (by kernel_rfl) rfl #[.int .i64 (wrap64 (-a0))] rfl (by (try simp only [List.map_toArray, List.map_cons, List.map_nil]); first | done | rfl | (simp only [List.length_drop, List.length_take]; rfl)) ?_; (with_reducible refine (ih k (by omega) (wrap64 (-a0)) t333 _ A3.out).mono ?_); rintro e w5 ⟨rfl, hb⟩; refine ⟨_, rfl, ?_⟩; have n0_ := Aside0.mk (below_step (by exact up_ HB.out) hb); clear HB; have HB := n0_; clear n0_; (try clear hb); (try clear hb2); (try clear hk); (try clear hi)))
     go_ret
     exact ⟨by first | rfl | (simp [errW_none, errW_some] <;> rfl) | (simp [*, errW_none, errW_some] <;> rfl), by exact up_ HB.out⟩
   · rw [if_neg c4] at H
     exact absurd H (by simp)
 · rw [if_neg c2] at H
   have c2b0 : decide (a0 < 0) = false := decide_eq_false c2
   clear c2
   by_cases c6 : a0 < 10
   · rw [if_pos c6] at H
     have c6b0 : decide (a0 < 10) = true := decide_eq_true c6
     clear c6
     obtain ⟨y334, hy334⟩ : ∃ y_ : List Int, y_ = (([(wrap64 (48 + a0)) % 256] : List Int)) := ⟨_, rfl⟩
     replace H : (some (strOfNums y334)) = some r := by first | (rw [hy334]; with_reducible exact H) | (have H2_ := (Option.bind_some _ _).symm.trans H; rw [hy334]; with_reducible exact H2_) | (have H2_ := (Option.bind_some _ _).symm.trans H; with_reducible exact H2_) | with_reducible exact H | (rw [hy334]; exact H) | exact H
     have Ny334 := Aside0.mk hy334
     clear hy334
     obtain rfl := Option.some.inj H
     go_enter Tryz.func72, Tryz.ntmps72
     go_wp2_with (first | ((with_reducible refine gate_dst (N := 14) rfl ?_); refine Kd.R_lit (Kd.int .u8) _ 5 ?hg (N := 14) ?hd (xs := ([(wrap64 (48 + a0)) % 256] : List Int)) (inner := [.int .u8 ((wrap64 (48 + a0)) % 256)]) (ok := fun _ => True) (okp := fun _ => True) ?hr ?hp (fun _ hk => hk) trivial (Below.refl _ _) (Nat.le_refl _) (by simp) ?_; (case hd => rfl); (case hg => rfl); (case hr => first | (go_simp; done) | (go_simp; rfl)); (case hp => exact (Reps.one (show Kd.M (Kd.int .u8) _ _ _ ((wrap64 (48 + a0)) % 256) [.int .u8 ((wrap64 (48 + a0)) % 256)] from rfl) (Reps.none _ _))); intro v335 w7 ho8 hb hg_ hnew_; clear hg_ hnew_; (first | rw [← Ny334.out] at ho8 | (simp only [Int.reduceToNat] at ho8; rw [← Ny334.out] at ho8)); have n0_ := Aside0.mk (Kd.R_lower ho8 (below_size (by exact up_ HB.out))); have n1_ := Aside0.mk (below_step (by exact up_ HB.out) hb); clear HB; have HO336 := n0_; have HB := n1_; clear n0_ n1_; clear hb ho8; have hcv9 := own_string (P := Tryz.prog) Tryz.underlying57 Tryz.underlying5 Tryz.underlying9 (Kd.own_of_R HO336.out)))
     go_ret
     exact ⟨by first | rfl | (simp [errW_none, errW_some] <;> rfl) | (simp [*, errW_none, errW_some] <;> rfl), by exact up_ HB.out⟩
   · rw [if_neg c6] at H
     have c6b0 : decide (a0 < 10) = false := decide_eq_false c6
     clear c6
     replace H := Option.bind_eq_some_iff.mp H
     obtain ⟨t337, A100, H⟩ := H
     replace H : ((ambidexterref11_Num.f k (Int.tmod a0 10)).bind fun t338 => (if t337.size + t338.size ≤ 9223372036854775807 then (some (t337 ++ t338)) else (none))) = some r := H
     have A10 := Aside0.mk A100
     clear A100
     replace H := Option.bind_eq_some_iff.mp H
     obtain ⟨t338, A110, H⟩ := H
     replace H : (if t337.size + t338.size ≤ 9223372036854775807 then (some (t337 ++ t338)) else (none)) = some r := H
     have A11 := Aside0.mk A110
     clear A110
     by_cases c12 : t337.size + t338.size ≤ 9223372036854775807
     · rw [if_pos c12] at H
       have c12b0 := eq_true c12
       have c12b1 : decide (t337.size + t338.size ≤ 9223372036854775807) = true := decide_eq_true c12
       try have c12b2 : (9223372036854775807 < t337.size + t338.size) = False := eq_false (Nat.not_lt.2 c12)
       obtain rfl := Option.some.inj H
       go_enter Tryz.func72, Tryz.ntmps72
       go_wp2_with (first | ((with_reducible refine gate_callee (f := 72) rfl ?_); refine goesL_ (some 18) rfl rfl Tryz.func72 (by kernel_rfl) rfl #[.int .i64 (wrap64 (Int.tdiv a0 10))] rfl (by (try simp only [List.map_toArray, List.map_cons, List.map_nil]); first | done | rfl | (simp only [List.length_drop, List.length_take]; rfl)) ?_; (with_reducible refine (ih k (by omega) (wrap64 (Int.tdiv a0 10)) t337 _ A10.out).mono ?_); rintro e w13 ⟨rfl, hb⟩; refine ⟨_, rfl, ?_⟩; have n0_ := Aside0.mk (below_step (by exact up_ HB.out) hb); clear HB; have HB := n0_; clear n0_; (try clear hb); (try clear hb2); (try clear hk); (try clear hi)) | ((with_reducible refine gate_callee (f := 72) rfl ?_); refine goesL_ (some 21) rfl rfl Tryz.func72 (by kernel_rfl) rfl #[.int .i64 (Int.tmod a0 10)] rfl (by (try simp only [List.map_toArray, List.map_cons, List.map_nil]); first | done | rfl | (simp only [List.length_drop, List.length_take]; rfl)) ?_; (with_reducible refine (ih k (by omega) (Int.tmod a0 10) t338 _ A11.out).mono ?_); rintro e w14 ⟨rfl, hb⟩; refine ⟨_, rfl, ?_⟩; have n0_ := Aside0.mk (below_step (by exact up_ HB.out) hb); clear HB; have HB := n0_; clear n0_; (try clear hb); (try clear hb2); (try clear hk); (try clear hi)))
       go_ret
       exact ⟨by first | rfl | (simp [errW_none, errW_some] <;> rfl) | (simp [*, errW_none, errW_some] <;> rfl), by exact up_ HB.out⟩
     · rw [if_neg c12] at H
       exact absurd H (by simp)
theorem R_new0' {α : Type} (d : Kd α) (W : World) (e base : Nat) (hb : base ≤ W.heap.size) : d.R e (W.alloc (.cells #[] e)) base (fun _ => True) (.slice (some ⟨W.heap.size, 0, none⟩) 0 0) [] := by
 refine ⟨fun k hk => trivial, [], ?_, ⟨by simp, fun j p hp => by simp at hp⟩⟩
 exact World.ownsRow_lit (base := base) (e := e) (size := d.sz) W #[] 0 hb (by simp [maxLen]) (by simp)
theorem wpList_of' {P : Program} {ops : Array Oper} {rest : List Oper} {o : Oper} {a : Act} {Q : Exit → Act → World → Prop} {W : World} (h : if Region.wanted o (yielded ops a.tmps) = true then Oper.wp P o a W (wpList P ops Q rest) Q else wpList P ops Q rest (a.put o.dst undef) W) : wpList P ops Q (o :: rest) a W := by
 unfold wpList
 split at h
 · rename_i hw; rw [if_pos hw]; exact .inl h
 · rename_i hw; rw [if_neg hw]; exact h
abbrev stV (A : Option Addr) (m c : Nat) (i fin n : Int) (B : Option Addr) (fm fc : Nat) (o : Bool) : Array Value := #[.slice A m c, .int .i64 i, .int .i64 fin, .int .i64 n, .slice B fm fc, .bool o]
abbrev zSt : Array Value := #[.slice none 0 0, .int .i64 0, .int .i64 0, .int .i64 0, .slice none 0 0, .bool false]
theorem row6 {W : World} {b : Nat} {x0 x1 x2 x3 x4 x5 : Value} (h : W.heap[b]? = some (.cells #[x0, x1, x2, x3, x4, x5] 50 (0, 0))) :
 W.cell? ⟨b, 0, none⟩ = some x0 ∧ W.cell? ⟨b, 1, none⟩ = some x1 ∧ W.cell? ⟨b, 2, none⟩ = some x2 ∧ W.cell? ⟨b, 3, none⟩ = some x3 ∧ W.cell? ⟨b, 4, none⟩ = some x4 ∧ W.cell? ⟨b, 5, none⟩ = some x5 ∧ W.frozen? ⟨b, 0, none⟩ = false ∧ W.frozen? ⟨b, 1, none⟩ = false ∧ W.frozen? ⟨b, 2, none⟩ = false ∧ W.frozen? ⟨b, 3, none⟩ = false ∧ W.frozen? ⟨b, 4, none⟩ = false ∧ W.frozen? ⟨b, 5, none⟩ = false :=
 ⟨blk_cell h 0, blk_cell h 1, blk_cell h 2, blk_cell h 3, blk_cell h 4, blk_cell h 5, blk_frozen h 0, blk_frozen h 1, blk_frozen h 2, blk_frozen h 3, blk_frozen h 4, blk_frozen h 5⟩
theorem set6 {W : World} {b : Nat} {x0 x1 x2 x3 x4 x5 y0 y1 y2 y3 y4 y5 : Value} (h : W.heap[b]? = some (.cells #[x0, x1, x2, x3, x4, x5] 50 (0, 0))) :
 ((((((W.setCell ⟨b, 0, none⟩ y0).setCell ⟨b, 1, none⟩ y1).setCell ⟨b, 2, none⟩ y2).setCell ⟨b, 3, none⟩ y3).setCell ⟨b, 4, none⟩ y4).setCell ⟨b, 5, none⟩ y5).heap[b]? = some (.cells #[y0, y1, y2, y3, y4, y5] 50 (0, 0)) :=
 blk_put (blk_put (blk_put (blk_put (blk_put (blk_put h 0 y0 rfl) 1 y1 rfl) 2 y2 rfl) 3 y3 rfl) 4 y4 rfl) 5 y5 rfl
theorem set6_R {α : Type} {d : Kd α} {w W : World} {b e : Nat} {ok : Nat → Prop} {v : Value} {xs : List α} {y0 y1 y2 y3 y4 y5 : Value} (hR : d.R e W w.heap.size ok v xs) (hB : Below w.heap.size w W) (hb : w.heap.size ≤ b) (hok : ∀ k, ok k → k ≠ b) :
 d.R e ((((((W.setCell ⟨b, 0, none⟩ y0).setCell ⟨b, 1, none⟩ y1).setCell ⟨b, 2, none⟩ y2).setCell ⟨b, 3, none⟩ y3).setCell ⟨b, 4, none⟩ y4).setCell ⟨b, 5, none⟩ y5) w.heap.size ok v xs ∧
 Below w.heap.size w ((((((W.setCell ⟨b, 0, none⟩ y0).setCell ⟨b, 1, none⟩ y1).setCell ⟨b, 2, none⟩ y2).setCell ⟨b, 3, none⟩ y3).setCell ⟨b, 4, none⟩ y4).setCell ⟨b, 5, none⟩ y5) :=
 ⟨Kd.R_far (Kd.R_far (Kd.R_far (Kd.R_far (Kd.R_far (Kd.R_far hR hok _) hok _) hok _) hok _) hok _) hok _, below_set (below_set (below_set (below_set (below_set (below_set hB hb) hb) hb) hb) hb) hb⟩
theorem sizeSt : (Tryz.prog.info? 50).map (·.size) = some 6 := by kernel_rfl
def tellB (fl : List S40) (e : Int) : Bool := e == 3 || ((fl.length + 1 : Nat) : Int) == 20
def ToldOut (A : Option Addr) (c : Nat) (ts : List S67) (i : Nat) (fin n : Int) (fl : List S40) (o : Bool) (e p : Int) (w : World) (en : Ending) (w' : World) : Prop :=
 ∃ (j : Nat) (B' : Option Addr) (fc' : Nat), en = .returned (.agg (stV A ts.length c j fin n B' (fl.length + 1) fc' (o || tellB fl e))) ∧ j ≤ ts.length ∧ (if tellB fl e = true then j = i else ts.drop j = skipS (ts.drop i)) ∧ Kd.R k40 40 w' w.heap.size (fun _ => True) (.slice B' (fl.length + 1) fc') (fl ++ [⟨e, p⟩]) ∧ Below w.heap.size w w'
theorem told_out {A : Option Addr} {c : Nat} {ts : List S67} {i : Nat} {fin n : Int} {fl : List S40} {o o' : Bool} {e p : Int} {w W W' : World} {j : Nat} {z : Int} {B2 : Option Addr} {fc2 : Nat} {ok : Nat → Prop} (hz : z = (j : Int)) (ho : o' = (o || tellB fl e)) (hj : j ≤ ts.length) (h : if tellB fl e = true then j = i else ts.drop j = skipS (ts.drop i)) (hR : Kd.R k40 40 W w.heap.size ok (.slice B2 (fl.length + 1) fc2) (fl ++ [⟨e, p⟩])) (hB : Below w.heap.size w W) (hW : Below W.heap.size W W') :
 ToldOut A c ts i fin n fl o e p w (.returned (.agg (stV A ts.length c z fin n B2 (fl.length + 1) fc2 o'))) W' := by
 subst hz ho
 exact ⟨j, B2, fc2, rfl, hj, h, Kd.R_mono (Kd.R_below hR hW) (fun _ _ => trivial), below_step hB hW⟩
theorem told_calls (A : Option Addr) (c : Nat) (ts : List S67) (i : Nat) (fin n : Int) (B : Option Addr) (fc : Nat) (fl : List S40) (o : Bool) (e p : Int) (w : World) (hC : Kd.C k67 w A ts.length ts) (hc : ts.length ≤ c) (hi : i ≤ ts.length) (hF : Kd.C k40 w B fl.length fl) (hfc : fl.length ≤ fc) (hl : fl.length ≤ 100) (hn : ts.length ≤ 1000000) :
 Calls Tryz.prog 56 #[.agg (stV A ts.length c i fin n B fl.length fc o), .int .i64 e, .int .i64 p] w (ToldOut A c ts i fin n fl o e p w) := by
 have hu := Tryz.underlying50
 have HC := Aside0.mk hC
 have HF := Aside0.mk hF
 clear hC hF
 have H0 := Aside0.mk (blk_alloc (blk_alloc (heap_alloc_new w (.cells (stV A ts.length c i fin n B fl.length fc o) 50)) (.cells zSt 50)) (.cells #[] 40))
 have H1 : Aside0 ((((w.alloc (.cells (stV A ts.length c i fin n B fl.length fc o) 50)).alloc (.cells zSt 50)).alloc (.cells #[] 40)).heap[w.heap.size + 1]? = some (.cells zSt 50 (0, 0))) := ⟨by have h := (blk_alloc (heap_alloc_new (w.alloc (.cells (stV A ts.length c i fin n B fl.length fc o) 50)) (.cells zSt 50)) (.cells #[] 40)); simpa using h⟩
 have HB := Aside0.mk (below_alloc (below_alloc (below_alloc (Below.refl w.heap.size w) (.cells (stV A ts.length c i fin n B fl.length fc o) 50)) (.cells zSt 50)) (.cells #[] 40))
 go_enter Tryz.func56, Tryz.ntmps56
 go_wp2_with ((with_reducible refine gate_builtin (b := .append) (xs := #[.tmp 8, .tmp 10]) rfl ?_); refine Aside0.out ?_)
 refine Aside0.mk ?_
 refine wpList_of' (Kd.R_append_rows_step k40 (Rr := k40.K w) (w0 := w) w.heap.size rfl (.tmp 8) (.tmp 10) 25 40 (.agg #[.int .i64 0, .int .i64 0]) 16 rfl Tryz.underlying25 infoDia rfl (by decide) (by decide) (.slice (some ⟨w.heap.size + 1 + 1, 0, none⟩) 0 0) [] fl B fl.length fc (fun _ => True) (fun _ => False) rfl rfl (by have h := R_new0' k40 ((w.alloc (.cells (stV A ts.length c i fin n B fl.length fc o) 50)).alloc (.cells zSt 50)) 40 w.heap.size (by simp; omega); simpa using h) (Kd.C_below HF.out HB.out) (fun x cs h => by rw [k40_open h]; exact k40_mkM _ _ _ x) (fun _ h => h.elim) (fun _ _ => trivial) HB.out HB.out.size (by simp only [List.length_nil]; omega) ?_)
 intro v1 w3 hR hb hg hat
 have H03 := Aside0.mk ((hg.block w.heap.size (blk_lt H0.out) (by simp [Value.ownBlock]; omega)).trans H0.out)
 have H13 := Aside0.mk ((hg.block (w.heap.size + 1) (blk_lt H1.out) (by simp [Value.ownBlock])).trans H1.out)
 have HR1 := Aside0.mk hR
 have HB3 := Aside0.mk hb
 have N0 := Aside0.mk (Kd.R_ne hR H03.out (by decide))
 have N1 := Aside0.mk (Kd.R_ne hR H13.out (by decide))
 clear hR hb hg hat H0 H1 HB
 go_wp2_with ((with_reducible refine gate_builtin (b := .append) (xs := #[.tmp 11, .tmp 15]) rfl ?_); refine Aside0.out ?_)
 refine Aside0.mk ?_
 refine wpList_of' (Kd.R_append_step k40 (w0 := w) w.heap.size rfl (.tmp 11) (.tmp 15) 25 40 (.agg #[.int .i64 0, .int .i64 0]) 16 rfl Tryz.underlying25 infoDia rfl (by decide) (by decide) v1 ([] ++ fl) ⟨e, p⟩ [.int .i64 e, .int .i64 p] (fun _ => True) (fun _ => False) rfl rfl (k40_mkM _ _ _ ⟨e, p⟩) (fun _ h => h.elim) (fun _ _ => trivial) HR1.out HB3.out HB3.out.size (by simp only [List.nil_append]; omega) ?_)
 intro v2 w4 hR hb hg hat
 have H04 := Aside0.mk ((hg.block w.heap.size (blk_lt H03.out) N0.out).trans H03.out)
 have H14 := Aside0.mk ((hg.block _ (blk_lt H13.out) N1.out).trans H13.out)
 have HR2 := Aside0.mk (Kd.R_types (Kd.R_types hR H04.out (by decide)) H14.out (by decide))
 have HB4 := Aside0.mk hb
 have hlen : (([] ++ fl) ++ [(⟨e, p⟩ : S40)]).length = fl.length + 1 := by simp
 have hEF : ([] ++ fl) ++ [(⟨e, p⟩ : S40)] = fl ++ [⟨e, p⟩] := by simp
 rw [hEF] at hlen HR2
 obtain ⟨B2, fc2, rfl⟩ := Kd.R_slice HR2.out
 rw [hlen] at HR2
 clear hR hb hg hat H03 H13 HR1 HB3 N0 N1 hEF hlen
 have hz := row6 H04.out
 have hz1 := row6 H14.out
 go_split_ands
 cases ht : tellB fl e with
 | true =>
  have hj : (e = 3) ∨ ((e == 3) = false ∧ (((fl.length : Int) + 1) == 20) = true) := by
   unfold tellB at ht
   by_cases he : e = 3
   · exact .inl he
   · rw [beq_eq_false_iff_ne.2 he, Bool.false_or] at ht
     exact .inr ⟨beq_eq_false_iff_ne.2 he, by simpa using ht⟩
  have H05 := Aside0.mk (blk_far (blk_far H14.out (p := ⟨w.heap.size, 4, none⟩) (by simp) (.slice B2 (fl.length + 1) fc2)) (p := ⟨w.heap.size, 5, none⟩) (by simp) (.bool true))
  have HR5 := Aside0.mk (Kd.R_far (Kd.R_far HR2.out (p := ⟨w.heap.size, 4, none⟩) (fun k h => h.1.2) (.slice B2 (fl.length + 1) fc2)) (p := ⟨w.heap.size, 5, none⟩) (fun k h => h.1.2) (.bool true))
  have HB5 := Aside0.mk (below_set (j := 5) (v := .bool true) (below_set (j := 4) (v := .slice B2 (fl.length + 1) fc2) HB4.out (Nat.le_refl _)) (Nat.le_refl _))
  clear H04 H14 HR2 HB4
  rcases hj with he | ⟨he, hl20⟩
  · have he1 : (e == 3) = true := beq_iff_eq.2 he
    clear he
    go_wp2_with fail
    all_goals
     refine bodyPost_ret (results_cell_row rfl _ _ (w.heap.size + 1) 50 (stV A ts.length c i fin n B2 (fl.length + 1) fc2 true) (0, 0) _ rfl (set6 H05.out) hu rfl sizeSt) rfl ?_
     have hR := set6_R (b := w.heap.size + 1) (y0 := .slice A ts.length c) (y1 := .int .i64 i) (y2 := .int .i64 fin) (y3 := .int .i64 n) (y4 := .slice B2 (fl.length + 1) fc2) (y5 := .bool true) HR5.out HB5.out (by omega) (fun k h => h.2)
     exact told_out rfl (by rw [ht, Bool.or_true]) hi (by rw [if_pos ht]) hR.1 hR.2 (Below.refl _ _)
  · go_wp2_with fail
    all_goals
     refine bodyPost_ret (results_cell_row rfl _ _ (w.heap.size + 1) 50 (stV A ts.length c i fin n B2 (fl.length + 1) fc2 true) (0, 0) _ rfl (set6 H05.out) hu rfl sizeSt) rfl ?_
     have hR := set6_R (b := w.heap.size + 1) (y0 := .slice A ts.length c) (y1 := .int .i64 i) (y2 := .int .i64 fin) (y3 := .int .i64 n) (y4 := .slice B2 (fl.length + 1) fc2) (y5 := .bool true) HR5.out HB5.out (by omega) (fun k h => h.2)
     exact told_out rfl (by rw [ht, Bool.or_true]) hi (by rw [if_pos ht]) hR.1 hR.2 (Below.refl _ _)
 | false =>
  have hj : (e == 3) = false ∧ (((fl.length : Int) + 1) == 20) = false := by
   unfold tellB at ht
   simpa using ht
  obtain ⟨he, hl20⟩ := hj
  have H05 := Aside0.mk (blk_put H04.out 4 (.slice B2 (fl.length + 1) fc2) rfl)
  have H15 := Aside0.mk (blk_far H14.out (p := ⟨w.heap.size, 4, none⟩) (by simp) (.slice B2 (fl.length + 1) fc2))
  have HR5 := Aside0.mk (Kd.R_far HR2.out (p := ⟨w.heap.size, 4, none⟩) (fun k h => h.1.2) (.slice B2 (fl.length + 1) fc2))
  have HB5 := Aside0.mk (below_set (j := 4) (v := .slice B2 (fl.length + 1) fc2) HB4.out (Nat.le_refl _))
  have HT := Aside0.mk ht
  clear H04 H14 HR2 HB4 ht
  go_wp2_with fail
  go_loopg [] ts.length (fun kq wr => ∃ j : Nat, Aside0 (ts.length ≤ j + kq ∧ j ≤ ts.length ∧ skipS (ts.drop j) = skipS (ts.drop i) ∧ wr.heap[w.heap.size]? = some (.cells (stV A ts.length c j fin n B2 (fl.length + 1) fc2 o) 50 (0, 0)) ∧ wr.heap[w.heap.size + 1]? = some (.cells zSt 50 (0, 0)) ∧ Kd.R k40 40 wr w.heap.size (fun k => (True ∧ k ≠ w.heap.size) ∧ k ≠ w.heap.size + 1) (.slice B2 (fl.length + 1) fc2) (fl ++ [⟨e, p⟩]) ∧ Below w.heap.size w wr))
  case atStart => exact ⟨i, ⟨by omega, hi, rfl, H05.out, H15.out, HR5.out, HB5.out⟩⟩
  case round =>
   clear H05 H15 HR5 HB5
   obtain ⟨j, ⟨hk, hjl, hs, h0, h1, hR, hB⟩⟩ := hrel
   have HS := Aside0.mk hs
   have H0 := Aside0.mk h0
   have H1 := Aside0.mk h1
   have HR := Aside0.mk hR
   have HB := Aside0.mk hB
   clear hs h0 h1 hR hB
   have hz := row6 H0.out
   have hz1 := row6 H1.out
   have hb0 := blk_lt H0.out
   have hb1 := blk_lt H1.out
   go_split_ands
   by_cases hjlt : ¬ j < ts.length
   · have cb : decide ((j : Int) < (ts.length : Int)) = false := decide_eq_false (by omega)
     go_wp2_with fail
     refine bodyPost_ret (results_cell_row rfl _ _ (w.heap.size + 1) 50 (stV A ts.length c j fin n B2 (fl.length + 1) fc2 o) (0, 0) _ rfl (set6 H1.out) hu rfl sizeSt) rfl ?_
     have hR := set6_R (b := w.heap.size + 1) (y0 := .slice A ts.length c) (y1 := .int .i64 j) (y2 := .int .i64 fin) (y3 := .int .i64 n) (y4 := .slice B2 (fl.length + 1) fc2) (y5 := .bool o) HR.out HB.out (by omega) (fun k h => h.2)
     exact told_out rfl (by rw [HT.out, Bool.or_false]) hjl (by rw [if_neg (by rw [HT.out]; decide), ← HS.out, List.drop_eq_nil_of_le (by omega)]; rfl) hR.1 hR.2 (Below.refl _ _)
   · have hjlt : j < ts.length := by omega
     obtain ⟨k1, rfl⟩ : ∃ k1, gk = k1 + 1 := ⟨gk - 1, by omega⟩
     have hj1 : wrap64 ((j : Int) + 1) = ((j + 1 : Nat) : Int) := by unfold wrap64; omega
     have cb : decide ((j : Int) < (ts.length : Int)) = true := decide_eq_true (by omega)
     have hi0 : (0 : Int) ≤ (j : Int) := by omega
     have hi1 : (j : Int) < (ts.length : Int) := by omega
     obtain ⟨ad, ea, x0, x1, x2⟩ := at_T67 (Kd.C_below HC.out HB.out) (j : Int) hi0 hi1
     subst ea
     simp only [Int.toNat_natCast] at x0 x1 x2
     have hal := cell_lt x0
     have hd := drop_cons ts j (by omega)
     generalize rd_T67 ts (j : Int) = t at *
     have HD := Aside0.mk hd
     have Hk := Aside0.mk hk
     clear hd hk
     replace hi0 := eq_true hi0
     replace hi1 := eq_true hi1
     have e59 : (⟨#[59]⟩ : ByteArray).toList = [59] := by simp [ByteArray.toList_eq]
     have e125 : (⟨#[125]⟩ : ByteArray).toList = [125] := by simp [ByteArray.toList_eq]
     have H6 := Aside0.mk (blk_put H0.out 1 (.int .i64 ((j : Int) + 1)) rfl)
     have H7 := Aside0.mk (blk_far H1.out (p := ⟨w.heap.size, 1, none⟩) (by simp) (.int .i64 ((j : Int) + 1)))
     have HR7 := Aside0.mk (Kd.R_far HR.out (p := ⟨w.heap.size, 1, none⟩) (fun k h => h.1.2) (.int .i64 ((j : Int) + 1)))
     have HB7 := Aside0.mk (below_set (j := 1) (v := .int .i64 ((j : Int) + 1)) HB.out (Nat.le_refl _))
     cases h59 : isSign ⟨#[59]⟩ t with
     | true =>
      have HE := Aside0.mk (show skipS (ts.drop i) = ts.drop (j + 1) from by rw [← HS.out, HD.out, skipS, if_pos h59])
      simp only [isSign, e59, Bool.and_eq_true] at h59
      obtain ⟨bx, b59⟩ := h59
      have b125 : (t.f1.toList == [125]) = false := by rw [beq_iff_eq.1 b59]; rfl
      clear e59 e125 H6 HD HS HR HB H1
      go_wp2_with fail
      all_goals
       refine bodyPost_ret (results_cell_row rfl _ _ (w.heap.size + 1) 50 (stV (some ad) ts.length c ((j : Int) + 1) fin n B2 (fl.length + 1) fc2 o) (0, 0) _ rfl (blk_alloc (set6 H7.out) _) hu rfl sizeSt) rfl ?_
       have hR := set6_R (b := w.heap.size + 1) (y0 := .slice (some ad) ts.length c) (y1 := .int .i64 ((j : Int) + 1)) (y2 := .int .i64 fin) (y3 := .int .i64 n) (y4 := .slice B2 (fl.length + 1) fc2) (y5 := .bool o) HR7.out HB7.out (by omega) (fun k h => h.2)
       exact told_out (j := j + 1) rfl (by rw [HT.out, Bool.or_false]) hjlt (by rw [if_neg (by rw [HT.out]; decide), HE.out]) hR.1 hR.2 (below_alloc (Below.refl _ _) _)
     | false =>
      cases h125 : isSign ⟨#[125]⟩ t with
      | true =>
       have HE := Aside0.mk (show skipS (ts.drop i) = ts.drop j from by rw [← HS.out, HD.out, skipS, if_neg (by rw [h59]; decide), if_pos h125])
       simp only [isSign, e125, Bool.and_eq_true] at h125
       obtain ⟨bx, b125⟩ := h125
       clear e59 e125 H6 H7 HR7 HB7 HD HS h59
       go_wp2_with fail
       all_goals
        refine bodyPost_ret (results_cell_row rfl _ _ (w.heap.size + 1) 50 (stV (some ad) ts.length c j fin n B2 (fl.length + 1) fc2 o) (0, 0) _ rfl (blk_alloc (set6 H1.out) _) hu rfl sizeSt) rfl ?_
        have hR := set6_R (b := w.heap.size + 1) (y0 := .slice (some ad) ts.length c) (y1 := .int .i64 j) (y2 := .int .i64 fin) (y3 := .int .i64 n) (y4 := .slice B2 (fl.length + 1) fc2) (y5 := .bool o) HR.out HB.out (by omega) (fun k h => h.2)
        exact told_out rfl (by rw [HT.out, Bool.or_false]) hjl (by rw [if_neg (by rw [HT.out]; decide), HE.out]) hR.1 hR.2 (below_alloc (Below.refl _ _) _)
      | false =>
       have HE := Aside0.mk (show skipS (ts.drop (j + 1)) = skipS (ts.drop i) from by rw [← HS.out, HD.out, skipS, if_neg (by rw [h59]; decide), if_neg (by rw [h125]; decide)])
       simp only [isSign, e59, e125] at h59 h125
       by_cases hx : t.f0 = 3
       · have bx : (t.f0 == 3) = true := beq_iff_eq.2 hx
         rw [bx, Bool.true_and] at h59 h125
         clear e59 e125 H1 HR HB HD HS hx
         go_wp2_with fail
         go_roundg k1
         case measure => omega
         case rel => exact ⟨j + 1, ⟨by have := Hk.out; omega, hjlt, HE.out, blk_alloc H6.out _, blk_alloc H7.out _, Kd.R_alloc HR7.out _, below_alloc HB7.out _⟩⟩
       · have bx : (t.f0 == 3) = false := beq_eq_false_iff_ne.2 hx
         clear e59 e125 H1 HR HB HD HS hx h59 h125
         go_wp2_with fail
         go_roundg k1
         case measure => omega
         case rel => exact ⟨j + 1, ⟨by have := Hk.out; omega, hjlt, HE.out, blk_alloc H6.out _, blk_alloc H7.out _, Kd.R_alloc HR7.out _, below_alloc HB7.out _⟩⟩
def ambidexterref11_fits.f (k : Nat) (a0_0 : Int) (a0_1 : ByteArray) (a0_2 : Int) (a1 : Int) : Option (Bool) := if a1 = 97 then (if a0_0 = 2 then (if a0_1.toList = ([48] : List UInt8) then (some true) else (some (a0_1.toList == ([49] : List UInt8)))) else (some false)) else (if a1 = 110 then (if a0_0 = 1 then (if (a0_1.size : Int) ≤ 12 then ((ambidexterref11_kind.f k a0_1).bind fun t193 => (some (t193 == 0))) else (some false)) else (some false)) else (if a1 = 105 then (some (a0_0 == 2)) else (if a0_0 = 3 then (if 0 < (a0_1.size : Int) then (some ((bt a0_1 0) == a1)) else (none)) else (some false))))
theorem ambidexterref11_fits.calls (k : Nat) (a0_0 : Int) (a0_1 : ByteArray) (a0_2 : Int) (a1 : Int) (r : Bool) (w : World) (h : ambidexterref11_fits.f k a0_0 a0_1 a0_2 a1 = some r) :
 Calls Tryz.prog 85 #[.agg #[.int .i64 a0_0, .string a0_1, .int .i64 a0_2], .int .u8 a1] w fun e w' => e = .returned (.bool r) ∧ Below w.heap.size w w' := by
 have hu67 := Tryz.underlying67
 have HB := Aside0.mk (Below.refl w.heap.size w)
 have H : (if a1 = 97 then (if a0_0 = 2 then (if a0_1.toList = ([48] : List UInt8) then (some true) else (some (a0_1.toList == ([49] : List UInt8)))) else (some false)) else (if a1 = 110 then (if a0_0 = 1 then (if (a0_1.size : Int) ≤ 12 then ((ambidexterref11_kind.f k a0_1).bind fun t193 => (some (t193 == 0))) else (some false)) else (some false)) else (if a1 = 105 then (some (a0_0 == 2)) else (if a0_0 = 3 then (if 0 < (a0_1.size : Int) then (some ((bt a0_1 0) == a1)) else (none)) else (some false))))) = some r := h
 clear h
 by_cases c3 : a1 = 97
 · rw [if_pos c3] at H
   have c3b0 : (a1 == 97) = true := beq_iff_eq.mpr c3
   have c3b1 : (a1 != 97) = false := bne_eq_false_iff_eq.mpr c3
   clear c3
   by_cases c4 : a0_0 = 2
   · rw [if_pos c4] at H
     have c4b0 : (a0_0 == 2) = true := beq_iff_eq.mpr c4
     have c4b1 : (a0_0 != 2) = false := bne_eq_false_iff_eq.mpr c4
     clear c4
     by_cases c5 : a0_1.toList = ([48] : List UInt8)
     · rw [if_pos c5] at H
       have c5b0 : (a0_1.toList == ([48] : List UInt8)) = true := beq_iff_eq.mpr c5
       have c5b1 : (a0_1.toList != ([48] : List UInt8)) = false := bne_eq_false_iff_eq.mpr c5
       clear c5
       obtain rfl := Option.some.inj H
       go_enter Tryz.func85, Tryz.ntmps85
       go_wp2_with (first | ((with_reducible refine gate_dst (N := 2) rfl ?_); (try (refine gate_guard (by rfl) ?_; dsimp only)); refine box_event ?hg (N := 2) ?hd (cs := #[.int .i64 a0_0, .string a0_1, .int .i64 a0_2]) (t := 67) ?hr ?_; (case hd => rfl); (case hg => rfl); (case hr => first | (go_simp; done) | (go_simp; rfl)); intro gb192 hg w6 hbox hb; have n0_ := Aside0.mk (below_step (by exact up_ HB.out) hb); have n1_ := Aside0.mk (hbox); have n2_ := Aside0.mk ((by rw [hg]; exact (below_size (by exact up_ HB.out)) : w.heap.size ≤ gb192)); have n3_ := Aside0.mk ((by rw [hg]; exact (below_size (by exact up_ HB.out)) : w.heap.size ≤ gb192)); clear HB; have HB := n0_; have BK192 := n1_; have GW192 := n2_; have GE192 := n3_; clear n0_ n1_ n2_ n3_; clear hb hbox hg; have hcz7_0 : w6.cell? ⟨gb192, 0, none⟩ = some (.int .i64 a0_0) := (blk_cell BK192.out 0).trans rfl; have hcz7_1 : w6.cell? ⟨gb192, 1, none⟩ = some (.string a0_1) := (blk_cell BK192.out 1).trans rfl; have hcz7_2 : w6.cell? ⟨gb192, 2, none⟩ = some (.int .i64 a0_2) := (blk_cell BK192.out 2).trans rfl; have hfz7_0 := blk_frozen BK192.out 0; have hfz7_1 := blk_frozen BK192.out 1; have hfz7_2 := blk_frozen BK192.out 2))
       go_ret
       exact ⟨by first | rfl | (simp [errW_none, errW_some] <;> rfl) | (simp [*, errW_none, errW_some] <;> rfl), by repeat (with_reducible first | exact HB.out | apply below_alloc | apply pw_below_drewN | apply below_drew1 | refine below_set ?_ GE192.out)⟩
     · rw [if_neg c5] at H
       have c5b0 : (a0_1.toList == ([48] : List UInt8)) = false := beq_eq_false_iff_ne.mpr c5
       have c5b1 : (a0_1.toList != ([48] : List UInt8)) = true := bne_iff_ne.mpr c5
       obtain rfl := Option.some.inj H
       go_enter Tryz.func85, Tryz.ntmps85
       go_wp2_with (first | ((with_reducible refine gate_dst (N := 2) rfl ?_); (try (refine gate_guard (by rfl) ?_; dsimp only)); refine box_event ?hg (N := 2) ?hd (cs := #[.int .i64 a0_0, .string a0_1, .int .i64 a0_2]) (t := 67) ?hr ?_; (case hd => rfl); (case hg => rfl); (case hr => first | (go_simp; done) | (go_simp; rfl)); intro gb192 hg w8 hbox hb; have n0_ := Aside0.mk (below_step (by exact up_ HB.out) hb); have n1_ := Aside0.mk (hbox); have n2_ := Aside0.mk ((by rw [hg]; exact (below_size (by exact up_ HB.out)) : w.heap.size ≤ gb192)); have n3_ := Aside0.mk ((by rw [hg]; exact (below_size (by exact up_ HB.out)) : w.heap.size ≤ gb192)); clear HB; have HB := n0_; have BK192 := n1_; have GW192 := n2_; have GE192 := n3_; clear n0_ n1_ n2_ n3_; clear hb hbox hg; have hcz9_0 : w8.cell? ⟨gb192, 0, none⟩ = some (.int .i64 a0_0) := (blk_cell BK192.out 0).trans rfl; have hcz9_1 : w8.cell? ⟨gb192, 1, none⟩ = some (.string a0_1) := (blk_cell BK192.out 1).trans rfl; have hcz9_2 : w8.cell? ⟨gb192, 2, none⟩ = some (.int .i64 a0_2) := (blk_cell BK192.out 2).trans rfl; have hfz9_0 := blk_frozen BK192.out 0; have hfz9_1 := blk_frozen BK192.out 1; have hfz9_2 := blk_frozen BK192.out 2))
       go_ret
       exact ⟨by first | rfl | (simp [errW_none, errW_some] <;> rfl) | (simp [*, errW_none, errW_some] <;> rfl), by repeat (with_reducible first | exact HB.out | apply below_alloc | apply pw_below_drewN | apply below_drew1 | refine below_set ?_ GE192.out)⟩
   · rw [if_neg c4] at H
     have c4b0 : (a0_0 == 2) = false := beq_eq_false_iff_ne.mpr c4
     have c4b1 : (a0_0 != 2) = true := bne_iff_ne.mpr c4
     obtain rfl := Option.some.inj H
     go_enter Tryz.func85, Tryz.ntmps85
     go_wp2_with (first | ((with_reducible refine gate_dst (N := 2) rfl ?_); (try (refine gate_guard (by rfl) ?_; dsimp only)); refine box_event ?hg (N := 2) ?hd (cs := #[.int .i64 a0_0, .string a0_1, .int .i64 a0_2]) (t := 67) ?hr ?_; (case hd => rfl); (case hg => rfl); (case hr => first | (go_simp; done) | (go_simp; rfl)); intro gb192 hg w10 hbox hb; have n0_ := Aside0.mk (below_step (by exact up_ HB.out) hb); have n1_ := Aside0.mk (hbox); have n2_ := Aside0.mk ((by rw [hg]; exact (below_size (by exact up_ HB.out)) : w.heap.size ≤ gb192)); have n3_ := Aside0.mk ((by rw [hg]; exact (below_size (by exact up_ HB.out)) : w.heap.size ≤ gb192)); clear HB; have HB := n0_; have BK192 := n1_; have GW192 := n2_; have GE192 := n3_; clear n0_ n1_ n2_ n3_; clear hb hbox hg; have hcz11_0 : w10.cell? ⟨gb192, 0, none⟩ = some (.int .i64 a0_0) := (blk_cell BK192.out 0).trans rfl; have hcz11_1 : w10.cell? ⟨gb192, 1, none⟩ = some (.string a0_1) := (blk_cell BK192.out 1).trans rfl; have hcz11_2 : w10.cell? ⟨gb192, 2, none⟩ = some (.int .i64 a0_2) := (blk_cell BK192.out 2).trans rfl; have hfz11_0 := blk_frozen BK192.out 0; have hfz11_1 := blk_frozen BK192.out 1; have hfz11_2 := blk_frozen BK192.out 2))
     go_ret
     exact ⟨by first | rfl | (simp [errW_none, errW_some] <;> rfl) | (simp [*, errW_none, errW_some] <;> rfl), by repeat (with_reducible first | exact HB.out | apply below_alloc | apply pw_below_drewN | apply below_drew1 | refine below_set ?_ GE192.out)⟩
 · rw [if_neg c3] at H
   have c3b0 : (a1 == 97) = false := beq_eq_false_iff_ne.mpr c3
   have c3b1 : (a1 != 97) = true := bne_iff_ne.mpr c3
   by_cases c12 : a1 = 110
   · rw [if_pos c12] at H
     have c12b0 : (a1 == 110) = true := beq_iff_eq.mpr c12
     have c12b1 : (a1 != 110) = false := bne_eq_false_iff_eq.mpr c12
     clear c12
     by_cases c13 : a0_0 = 1
     · rw [if_pos c13] at H
       have c13b0 : (a0_0 == 1) = true := beq_iff_eq.mpr c13
       have c13b1 : (a0_0 != 1) = false := bne_eq_false_iff_eq.mpr c13
       clear c13
       by_cases c14 : (a0_1.size : Int) ≤ 12
       · rw [if_pos c14] at H
         have c14b0 : decide ((a0_1.size : Int) ≤ 12) = true := decide_eq_true c14
         have c14b1 : decide (a0_1.size ≤ 12) = true := decide_eq_true (by omega)
         clear c14
         replace H := Option.bind_eq_some_iff.mp H
         obtain ⟨t193, A150, H⟩ := H
         replace H : (some (t193 == 0)) = some r := H
         have A15 := Aside0.mk A150
         clear A150
         obtain rfl := Option.some.inj H
         go_enter Tryz.func85, Tryz.ntmps85
         go_wp2_with (first | ((with_reducible refine gate_dst (N := 2) rfl ?_); (try (refine gate_guard (by rfl) ?_; dsimp only)); refine box_event ?hg (N := 2) ?hd (cs := #[.int .i64 a0_0, .string a0_1, .int .i64 a0_2]) (t := 67) ?hr ?_; (case hd => rfl); (case hg => rfl); (case hr => first | (go_simp; done) | (go_simp; rfl)); intro gb192 hg w16 hbox hb; have n0_ := Aside0.mk (below_step (by exact up_ HB.out) hb); have n1_ := Aside0.mk (hbox); have n2_ := Aside0.mk ((by rw [hg]; exact (below_size (by exact up_ HB.out)) : w.heap.size ≤ gb192)); have n3_ := Aside0.mk ((by rw [hg]; exact (below_size (by exact up_ HB.out)) : w.heap.size ≤ gb192)); clear HB; have HB := n0_; have BK192 := n1_; have GW192 := n2_; have GE192 := n3_; clear n0_ n1_ n2_ n3_; clear hb hbox hg; have hcz17_0 : w16.cell? ⟨gb192, 0, none⟩ = some (.int .i64 a0_0) := (blk_cell BK192.out 0).trans rfl; have hcz17_1 : w16.cell? ⟨gb192, 1, none⟩ = some (.string a0_1) := (blk_cell BK192.out 1).trans rfl; have hcz17_2 : w16.cell? ⟨gb192, 2, none⟩ = some (.int .i64 a0_2) := (blk_cell BK192.out 2).trans rfl; have hfz17_0 := blk_frozen BK192.out 0; have hfz17_1 := blk_frozen BK192.out 1; have hfz17_2 := blk_frozen BK192.out 2) | (go_at_call 55; (with_reducible refine (ambidexterref11_kind.calls k a0_1 t193 _ A15.out).mono ?_); rintro e w18 ⟨rfl, hb⟩; have n0_ := Aside0.mk (blk_below (g := gb192) (by exact ub_ BK192.out) hb); have n1_ := Aside0.mk (below_step (by repeat (with_reducible first | exact HB.out | apply below_alloc | apply pw_below_drewN | apply below_drew1 | refine below_set ?_ GE192.out)) hb); clear BK192; clear HB; have BK192 := n0_; have HB := n1_; clear n0_ n1_; (try clear hb); (try clear hb2); (try clear hk); (try clear hi)))
         go_ret
         exact ⟨by first | rfl | (simp [errW_none, errW_some] <;> rfl) | (simp [*, errW_none, errW_some] <;> rfl), by repeat (with_reducible first | exact HB.out | apply below_alloc | apply pw_below_drewN | apply below_drew1 | refine below_set ?_ GE192.out)⟩
       · rw [if_neg c14] at H
         have c14b0 : decide ((a0_1.size : Int) ≤ 12) = false := decide_eq_false c14
         have c14b1 : decide (a0_1.size ≤ 12) = false := decide_eq_false (by omega)
         clear c14
         obtain rfl := Option.some.inj H
         go_enter Tryz.func85, Tryz.ntmps85
         go_wp2_with (first | ((with_reducible refine gate_dst (N := 2) rfl ?_); (try (refine gate_guard (by rfl) ?_; dsimp only)); refine box_event ?hg (N := 2) ?hd (cs := #[.int .i64 a0_0, .string a0_1, .int .i64 a0_2]) (t := 67) ?hr ?_; (case hd => rfl); (case hg => rfl); (case hr => first | (go_simp; done) | (go_simp; rfl)); intro gb192 hg w19 hbox hb; have n0_ := Aside0.mk (below_step (by exact up_ HB.out) hb); have n1_ := Aside0.mk (hbox); have n2_ := Aside0.mk ((by rw [hg]; exact (below_size (by exact up_ HB.out)) : w.heap.size ≤ gb192)); have n3_ := Aside0.mk ((by rw [hg]; exact (below_size (by exact up_ HB.out)) : w.heap.size ≤ gb192)); clear HB; have HB := n0_; have BK192 := n1_; have GW192 := n2_; have GE192 := n3_; clear n0_ n1_ n2_ n3_; clear hb hbox hg; have hcz20_0 : w19.cell? ⟨gb192, 0, none⟩ = some (.int .i64 a0_0) := (blk_cell BK192.out 0).trans rfl; have hcz20_1 : w19.cell? ⟨gb192, 1, none⟩ = some (.string a0_1) := (blk_cell BK192.out 1).trans rfl; have hcz20_2 : w19.cell? ⟨gb192, 2, none⟩ = some (.int .i64 a0_2) := (blk_cell BK192.out 2).trans rfl; have hfz20_0 := blk_frozen BK192.out 0; have hfz20_1 := blk_frozen BK192.out 1; have hfz20_2 := blk_frozen BK192.out 2))
         go_ret
         exact ⟨by first | rfl | (simp [errW_none, errW_some] <;> rfl) | (simp [*, errW_none, errW_some] <;> rfl), by repeat (with_reducible first | exact HB.out | apply below_alloc | apply pw_below_drewN | apply below_drew1 | refine below_set ?_ GE192.out)⟩
     · rw [if_neg c13] at H
       have c13b0 : (a0_0 == 1) = false := beq_eq_false_iff_ne.mpr c13
       have c13b1 : (a0_0 != 1) = true := bne_iff_ne.mpr c13
       obtain rfl := Option.some.inj H
       go_enter Tryz.func85, Tryz.ntmps85
       go_wp2_with (first | ((with_reducible refine gate_dst (N := 2) rfl ?_); (try (refine gate_guard (by rfl) ?_; dsimp only)); refine box_event ?hg (N := 2) ?hd (cs := #[.int .i64 a0_0, .string a0_1, .int .i64 a0_2]) (t := 67) ?hr ?_; (case hd => rfl); (case hg => rfl); (case hr => first | (go_simp; done) | (go_simp; rfl)); intro gb192 hg w21 hbox hb; have n0_ := Aside0.mk (below_step (by exact up_ HB.out) hb); have n1_ := Aside0.mk (hbox); have n2_ := Aside0.mk ((by rw [hg]; exact (below_size (by exact up_ HB.out)) : w.heap.size ≤ gb192)); have n3_ := Aside0.mk ((by rw [hg]; exact (below_size (by exact up_ HB.out)) : w.heap.size ≤ gb192)); clear HB; have HB := n0_; have BK192 := n1_; have GW192 := n2_; have GE192 := n3_; clear n0_ n1_ n2_ n3_; clear hb hbox hg; have hcz22_0 : w21.cell? ⟨gb192, 0, none⟩ = some (.int .i64 a0_0) := (blk_cell BK192.out 0).trans rfl; have hcz22_1 : w21.cell? ⟨gb192, 1, none⟩ = some (.string a0_1) := (blk_cell BK192.out 1).trans rfl; have hcz22_2 : w21.cell? ⟨gb192, 2, none⟩ = some (.int .i64 a0_2) := (blk_cell BK192.out 2).trans rfl; have hfz22_0 := blk_frozen BK192.out 0; have hfz22_1 := blk_frozen BK192.out 1; have hfz22_2 := blk_frozen BK192.out 2))
       go_ret
       exact ⟨by first | rfl | (simp [errW_none, errW_some] <;> rfl) | (simp [*, errW_none, errW_some] <;> rfl), by repeat (with_reducible first | exact HB.out | apply below_alloc | apply pw_below_drewN | apply below_drew1 | refine below_set ?_ GE192.out)⟩
   · rw [if_neg c12] at H
     have c12b0 : (a1 == 110) = false := beq_eq_false_iff_ne.mpr c12
     have c12b1 : (a1 != 110) = true := bne_iff_ne.mpr c12
     by_cases c23 : a1 = 105
     · rw [if_pos c23] at H
       have c23b0 : (a1 == 105) = true := beq_iff_eq.mpr c23
       have c23b1 : (a1 != 105) = false := bne_eq_false_iff_eq.mpr c23
       clear c23
       obtain rfl := Option.some.inj H
       go_enter Tryz.func85, Tryz.ntmps85
       go_wp2_with (first | ((with_reducible refine gate_dst (N := 2) rfl ?_); (try (refine gate_guard (by rfl) ?_; dsimp only)); refine box_event ?hg (N := 2) ?hd (cs := #[.int .i64 a0_0, .string a0_1, .int .i64 a0_2]) (t := 67) ?hr ?_; (case hd => rfl); (case hg => rfl); (case hr => first | (go_simp; done) | (go_simp; rfl)); intro gb192 hg w24 hbox hb; have n0_ := Aside0.mk (below_step (by exact up_ HB.out) hb); have n1_ := Aside0.mk (hbox); have n2_ := Aside0.mk ((by rw [hg]; exact (below_size (by exact up_ HB.out)) : w.heap.size ≤ gb192)); have n3_ := Aside0.mk ((by rw [hg]; exact (below_size (by exact up_ HB.out)) : w.heap.size ≤ gb192)); clear HB; have HB := n0_; have BK192 := n1_; have GW192 := n2_; have GE192 := n3_; clear n0_ n1_ n2_ n3_; clear hb hbox hg; have hcz25_0 : w24.cell? ⟨gb192, 0, none⟩ = some (.int .i64 a0_0) := (blk_cell BK192.out 0).trans rfl; have hcz25_1 : w24.cell? ⟨gb192, 1, none⟩ = some (.string a0_1) := (blk_cell BK192.out 1).trans rfl; have hcz25_2 : w24.cell? ⟨gb192, 2, none⟩ = some (.int .i64 a0_2) := (blk_cell BK192.out 2).trans rfl; have hfz25_0 := blk_frozen BK192.out 0; have hfz25_1 := blk_frozen BK192.out 1; have hfz25_2 := blk_frozen BK192.out 2))
       go_ret
       exact ⟨by first | rfl | (simp [errW_none, errW_some] <;> rfl) | (simp [*, errW_none, errW_some] <;> rfl), by repeat (with_reducible first | exact HB.out | apply below_alloc | apply pw_below_drewN | apply below_drew1 | refine below_set ?_ GE192.out)⟩
     · rw [if_neg c23] at H
       have c23b0 : (a1 == 105) = false := beq_eq_false_iff_ne.mpr c23
       have c23b1 : (a1 != 105) = true := bne_iff_ne.mpr c23
       by_cases c26 : a0_0 = 3
       · rw [if_pos c26] at H
         have c26b0 : (a0_0 == 3) = true := beq_iff_eq.mpr c26
         have c26b1 : (a0_0 != 3) = false := bne_eq_false_iff_eq.mpr c26
         clear c26
         by_cases c27 : 0 < (a0_1.size : Int)
         · rw [if_pos c27] at H
           have c27b0 : decide (0 < (a0_1.size : Int)) = true := decide_eq_true c27
           have c27b1 : decide (0 < a0_1.size) = true := decide_eq_true (by omega)
           clear c27
           obtain rfl := Option.some.inj H
           go_enter Tryz.func85, Tryz.ntmps85
           go_wp2_with (first | ((with_reducible refine gate_dst (N := 2) rfl ?_); (try (refine gate_guard (by rfl) ?_; dsimp only)); refine box_event ?hg (N := 2) ?hd (cs := #[.int .i64 a0_0, .string a0_1, .int .i64 a0_2]) (t := 67) ?hr ?_; (case hd => rfl); (case hg => rfl); (case hr => first | (go_simp; done) | (go_simp; rfl)); intro gb192 hg w29 hbox hb; have n0_ := Aside0.mk (below_step (by exact up_ HB.out) hb); have n1_ := Aside0.mk (hbox); have n2_ := Aside0.mk ((by rw [hg]; exact (below_size (by exact up_ HB.out)) : w.heap.size ≤ gb192)); have n3_ := Aside0.mk ((by rw [hg]; exact (below_size (by exact up_ HB.out)) : w.heap.size ≤ gb192)); clear HB; have HB := n0_; have BK192 := n1_; have GW192 := n2_; have GE192 := n3_; clear n0_ n1_ n2_ n3_; clear hb hbox hg; have hcz30_0 : w29.cell? ⟨gb192, 0, none⟩ = some (.int .i64 a0_0) := (blk_cell BK192.out 0).trans rfl; have hcz30_1 : w29.cell? ⟨gb192, 1, none⟩ = some (.string a0_1) := (blk_cell BK192.out 1).trans rfl; have hcz30_2 : w29.cell? ⟨gb192, 2, none⟩ = some (.int .i64 a0_2) := (blk_cell BK192.out 2).trans rfl; have hfz30_0 := blk_frozen BK192.out 0; have hfz30_1 := blk_frozen BK192.out 1; have hfz30_2 := blk_frozen BK192.out 2; have p28 : 0 ≤ (0 : Int) := (by omega); have q28 : 0 < a0_1.size := (by have : (0 : Int) < (a0_1.size : Int) := of_decide_eq_true (by first | (with_reducible assumption) | assumption); omega); have hx28 : ∀ h : 0 < a0_1.size, ((a0_1[0]'h).toNat : Int) = bt a0_1 0 := bt_at a0_1 0; clear p28; have qi28 : (0 < (a0_1.size : Int)) = True := eq_true (of_decide_eq_true (by first | (with_reducible assumption) | assumption)); replace q28 := eq_true q28))
           go_ret
           exact ⟨by first | rfl | (simp [errW_none, errW_some] <;> rfl) | (simp [*, errW_none, errW_some] <;> rfl), by repeat (with_reducible first | exact HB.out | apply below_alloc | apply pw_below_drewN | apply below_drew1 | refine below_set ?_ GE192.out)⟩
         · rw [if_neg c27] at H
           exact absurd H (by simp)
       · rw [if_neg c26] at H
         have c26b0 : (a0_0 == 3) = false := beq_eq_false_iff_ne.mpr c26
         have c26b1 : (a0_0 != 3) = true := bne_iff_ne.mpr c26
         obtain rfl := Option.some.inj H
         go_enter Tryz.func85, Tryz.ntmps85
         go_wp2_with (first | ((with_reducible refine gate_dst (N := 2) rfl ?_); (try (refine gate_guard (by rfl) ?_; dsimp only)); refine box_event ?hg (N := 2) ?hd (cs := #[.int .i64 a0_0, .string a0_1, .int .i64 a0_2]) (t := 67) ?hr ?_; (case hd => rfl); (case hg => rfl); (case hr => first | (go_simp; done) | (go_simp; rfl)); intro gb192 hg w31 hbox hb; have n0_ := Aside0.mk (below_step (by exact up_ HB.out) hb); have n1_ := Aside0.mk (hbox); have n2_ := Aside0.mk ((by rw [hg]; exact (below_size (by exact up_ HB.out)) : w.heap.size ≤ gb192)); have n3_ := Aside0.mk ((by rw [hg]; exact (below_size (by exact up_ HB.out)) : w.heap.size ≤ gb192)); clear HB; have HB := n0_; have BK192 := n1_; have GW192 := n2_; have GE192 := n3_; clear n0_ n1_ n2_ n3_; clear hb hbox hg; have hcz32_0 : w31.cell? ⟨gb192, 0, none⟩ = some (.int .i64 a0_0) := (blk_cell BK192.out 0).trans rfl; have hcz32_1 : w31.cell? ⟨gb192, 1, none⟩ = some (.string a0_1) := (blk_cell BK192.out 1).trans rfl; have hcz32_2 : w31.cell? ⟨gb192, 2, none⟩ = some (.int .i64 a0_2) := (blk_cell BK192.out 2).trans rfl; have hfz32_0 := blk_frozen BK192.out 0; have hfz32_1 := blk_frozen BK192.out 1; have hfz32_2 := blk_frozen BK192.out 2))
         go_ret
         exact ⟨by first | rfl | (simp [errW_none, errW_some] <;> rfl) | (simp [*, errW_none, errW_some] <;> rfl), by repeat (with_reducible first | exact HB.out | apply below_alloc | apply pw_below_drewN | apply below_drew1 | refine below_set ?_ GE192.out)⟩
def ambidexterref11_spelled.l0 : Nat → ByteArray → ByteArray → Int → Option (ByteArray)
 | 0, _, _, _ => none
 | k + 1, x0, x3, x4 => if x4 < (x0.size : Int) then (if 0 ≤ x4 then (if (bt x0 x4) = 116 then (if x3.size + 7 ≤ 9223372036854775807 then (ambidexterref11_spelled.l0 k x0 (x3 ++ (⟨#[40, 105, 44, 105, 44, 105, 41]⟩ : ByteArray)) (wrap64 (x4 + 1))) else (none)) else (if x4 ≤ (wrap64 (x4 + 1)) then (if (wrap64 (x4 + 1)) ≤ (x0.size : Int) then (if x3.size + (x0.extract (x4 : Int).toNat ((wrap64 (x4 + 1)) : Int).toNat).size ≤ 9223372036854775807 then (ambidexterref11_spelled.l0 k x0 (x3 ++ (x0.extract (x4 : Int).toNat ((wrap64 (x4 + 1)) : Int).toNat)) (wrap64 (x4 + 1))) else (none)) else (none)) else (none))) else (none)) else (some x3)
def ambidexterref11_spelled.f (k : Nat) (a0 : ByteArray) : Option (ByteArray) := ambidexterref11_spelled.l0 k a0 (⟨#[]⟩ : ByteArray) 0
theorem ambidexterref11_spelled.mono_l : ∀ k, (∀ y0 y1 y2, LeO (ambidexterref11_spelled.l0 k y0 y1 y2) (ambidexterref11_spelled.l0 (k + 1) y0 y1 y2))
 | 0 => fun _ _ _ r h => by simp [ambidexterref11_spelled.l0] at h
 | k + 1 => by
  have ih0 := ambidexterref11_spelled.mono_l k
  · intro y0 y1 y2
    unfold ambidexterref11_spelled.l0
    repeat' first
    | (with_reducible exact ih0 _ _ _)
    | (with_reducible exact LeO.refl _)
    | (with_reducible exact LeO.none _)
    | (with_reducible refine LeO.ite ?_ ?_)
    | (with_reducible refine LeO.bind ?_ (fun _ => ?_))
    | exact ih0 _ _ _
    | exact LeO.none _
    | refine LeO.ite ?_ ?_
    | refine LeO.bind ?_ (fun _ => ?_)
theorem ambidexterref11_spelled.calls (k : Nat) (a0 : ByteArray) (r : ByteArray) (w : World) (h : ambidexterref11_spelled.f k a0 = some r) :
 Calls Tryz.prog 58 #[.string a0] w fun e w' => e = .returned (.string r) ∧ Drawn0 w w' := by
 have H : (ambidexterref11_spelled.l0 k a0 (⟨#[]⟩ : ByteArray) 0) = some r := h
 clear h
 have H' := Aside0.mk H
 clear H
 go_enter Tryz.func58, Tryz.ntmps58
 go_wp2
 go_loopg [3, 4] k (fun kq v3 v4 w' => ∃ (x3_1 : ByteArray) (x4_1 : Int), v3 = .string x3_1 ∧ v4 = .int .i64 x4_1 ∧ Aside0 (ambidexterref11_spelled.l0 kq a0 x3_1 x4_1 = some r) ∧ Aside0 (kq ≤ k) ∧ Drawn0 w w')
 case atStart => exact ⟨((⟨#[]⟩ : ByteArray)), (0), (by first | rfl | (simp; done) | (simp [*]; done)), (by first | rfl | (simp; done) | (simp [*]; done)), H', ⟨Nat.le_refl _⟩, by repeat (first | exact Drawn0.refl _ | apply Drawn0.step)⟩
 case round =>
  clear H'
  obtain ⟨x3_1, x4_1, rfl, rfl, HA, HK1, ⟨m1, rfl⟩⟩ := hrel
  cases gk with
  | zero => exact absurd HA.out (by simp [ambidexterref11_spelled.l0])
  | succ k1 =>
   have H := HA.out
   clear HA
   simp only [ambidexterref11_spelled.l0] at H
   by_cases c2 : x4_1 < (a0.size : Int)
   · rw [if_pos c2] at H
     have c2b0 : decide (x4_1 < (a0.size : Int)) = true := decide_eq_true c2
     clear c2
     by_cases c3 : 0 ≤ x4_1
     · rw [if_pos c3] at H
       have c3b0 : decide (0 ≤ x4_1) = true := decide_eq_true c3
       clear c3
       by_cases c5 : (bt a0 x4_1) = 116
       · rw [if_pos c5] at H
         have c5b0 : ((bt a0 x4_1) == 116) = true := beq_iff_eq.mpr c5
         have c5b1 : ((bt a0 x4_1) != 116) = false := bne_eq_false_iff_eq.mpr c5
         clear c5
         by_cases c6 : x3_1.size + 7 ≤ 9223372036854775807
         · rw [if_pos c6] at H
           have c6b0 := eq_true c6
           have c6b1 : decide (x3_1.size + 7 ≤ 9223372036854775807) = true := decide_eq_true c6
           try have c6b2 : (9223372036854775807 < x3_1.size + 7) = False := eq_false (Nat.not_lt.2 c6)
           have H' := Aside0.mk H
           clear H
           have p4 : 0 ≤ (x4_1 : Int) := of_decide_eq_true (by first | (with_reducible assumption) | assumption)
           have q4 : x4_1 < (a0.size : Int) := of_decide_eq_true (by first | (with_reducible assumption) | assumption)
           have hx4 := bt_at a0 x4_1
           replace p4 := eq_true p4
           replace q4 := eq_true q4
           go_wp2
           go_roundg k1
           case measure => have := HK1.out; omega
           case rel => exact ⟨(x3_1 ++ (⟨#[40, 105, 44, 105, 44, 105, 41]⟩ : ByteArray)), (wrap64 (x4_1 + 1)), (by first | rfl | (simp; done) | (simp [*]; done)), (by first | rfl | (simp; done) | (simp [*]; done)), H', ⟨by have := HK1.out; omega⟩, by repeat (first | exact Drawn0.refl _ | apply Drawn0.step)⟩
         · rw [if_neg c6] at H
           exact absurd H (by simp)
       · rw [if_neg c5] at H
         have c5b0 : ((bt a0 x4_1) == 116) = false := beq_eq_false_iff_ne.mpr c5
         have c5b1 : ((bt a0 x4_1) != 116) = true := bne_iff_ne.mpr c5
         have c7b0 := eq_true (of_decide_eq_true (by first | (with_reducible assumption) | assumption) : 0 ≤ x4_1)
         by_cases c8 : x4_1 ≤ (wrap64 (x4_1 + 1))
         · rw [if_pos c8] at H
           have c8b0 := eq_true c8
           have c8b1 : decide (x4_1 ≤ (wrap64 (x4_1 + 1))) = true := decide_eq_true c8
           by_cases c9 : (wrap64 (x4_1 + 1)) ≤ (a0.size : Int)
           · rw [if_pos c9] at H
             have c9b0 := eq_true c9
             have c9b1 : decide ((wrap64 (x4_1 + 1)) ≤ (a0.size : Int)) = true := decide_eq_true c9
             by_cases c10 : x3_1.size + (a0.extract (x4_1 : Int).toNat ((wrap64 (x4_1 + 1)) : Int).toNat).size ≤ 9223372036854775807
             · rw [if_pos c10] at H
               have c10b0 := eq_true c10
               have c10b1 : decide (x3_1.size + (a0.extract (x4_1 : Int).toNat ((wrap64 (x4_1 + 1)) : Int).toNat).size ≤ 9223372036854775807) = true := decide_eq_true c10
               try have c10b2 : (9223372036854775807 < x3_1.size + (a0.extract (x4_1 : Int).toNat ((wrap64 (x4_1 + 1)) : Int).toNat).size) = False := eq_false (Nat.not_lt.2 c10)
               have H' := Aside0.mk H
               clear H
               have p4 : 0 ≤ (x4_1 : Int) := of_decide_eq_true (by first | (with_reducible assumption) | assumption)
               have q4 : x4_1 < (a0.size : Int) := of_decide_eq_true (by first | (with_reducible assumption) | assumption)
               have hx4 := bt_at a0 x4_1
               replace p4 := eq_true p4
               replace q4 := eq_true q4
               go_wp2
               go_roundg k1
               case measure => have := HK1.out; omega
               case rel => exact ⟨(x3_1 ++ (a0.extract (x4_1 : Int).toNat ((wrap64 (x4_1 + 1)) : Int).toNat)), (wrap64 (x4_1 + 1)), (by first | rfl | (simp; done) | (simp [*]; done)), (by first | rfl | (simp; done) | (simp [*]; done)), H', ⟨by have := HK1.out; omega⟩, by repeat (first | exact Drawn0.refl _ | apply Drawn0.step)⟩
             · rw [if_neg c10] at H
               exact absurd H (by simp)
           · rw [if_neg c9] at H
             exact absurd H (by simp)
         · rw [if_neg c8] at H
           exact absurd H (by simp)
     · rw [if_neg c3] at H
       exact absurd H (by simp)
   · rw [if_neg c2] at H
     have c2b0 : decide (x4_1 < (a0.size : Int)) = false := decide_eq_false c2
     clear c2
     obtain rfl := Option.some.inj H
     go_wp2
     go_ret
     exact ⟨by first | rfl | (simp; done) | (simp [*]; done), by repeat (first | exact Drawn0.refl _ | apply Drawn0.step)⟩
def ambidexterref11_Form.f (a0 : Int) : Option (ByteArray) := (some (([(⟨#[]⟩ : ByteArray), (⟨#[97, 116, 59]⟩ : ByteArray), (⟨#[97, 59]⟩ : ByteArray), (⟨#[97, 110, 59]⟩ : ByteArray), (⟨#[97, 110, 59]⟩ : ByteArray), (⟨#[97, 110, 59]⟩ : ByteArray), (⟨#[105, 59]⟩ : ByteArray), (⟨#[110, 110, 123]⟩ : ByteArray), (⟨#[116, 116, 59]⟩ : ByteArray)] : List ByteArray) : List ByteArray)).bind fun y225 => (if 0 ≤ a0 then (if a0 < (y225.length : Int) then (some (rdOf ByteArray.empty y225 a0)) else (none)) else (none))
theorem ambidexterref11_Form.calls (a0 : Int) (r : ByteArray) (w : World) (h : ambidexterref11_Form.f a0 = some r) :
 Calls Tryz.prog 59 #[.int .i64 a0] w fun e w' => e = .returned (.string r) ∧ Below w.heap.size w w' := by
 have HB := Aside0.mk (Below.refl w.heap.size w)
 have H : ((some (([(⟨#[]⟩ : ByteArray), (⟨#[97, 116, 59]⟩ : ByteArray), (⟨#[97, 59]⟩ : ByteArray), (⟨#[97, 110, 59]⟩ : ByteArray), (⟨#[97, 110, 59]⟩ : ByteArray), (⟨#[97, 110, 59]⟩ : ByteArray), (⟨#[105, 59]⟩ : ByteArray), (⟨#[110, 110, 123]⟩ : ByteArray), (⟨#[116, 116, 59]⟩ : ByteArray)] : List ByteArray) : List ByteArray)).bind fun y225 => (if 0 ≤ a0 then (if a0 < (y225.length : Int) then (some (rdOf ByteArray.empty y225 a0)) else (none)) else (none))) = some r := h
 clear h
 obtain ⟨y225, hy225⟩ : ∃ y_ : List ByteArray, y_ = (([(⟨#[]⟩ : ByteArray), (⟨#[97, 116, 59]⟩ : ByteArray), (⟨#[97, 59]⟩ : ByteArray), (⟨#[97, 110, 59]⟩ : ByteArray), (⟨#[97, 110, 59]⟩ : ByteArray), (⟨#[97, 110, 59]⟩ : ByteArray), (⟨#[105, 59]⟩ : ByteArray), (⟨#[110, 110, 123]⟩ : ByteArray), (⟨#[116, 116, 59]⟩ : ByteArray)] : List ByteArray)) := ⟨_, rfl⟩
 replace H : (if 0 ≤ a0 then (if a0 < (y225.length : Int) then (some (rdOf ByteArray.empty y225 a0)) else (none)) else (none)) = some r := by first | (rw [hy225]; with_reducible exact H) | (have H2_ := (Option.bind_some _ _).symm.trans H; rw [hy225]; with_reducible exact H2_) | (have H2_ := (Option.bind_some _ _).symm.trans H; with_reducible exact H2_) | with_reducible exact H | (rw [hy225]; exact H) | exact H
 have Ny225 := Aside0.mk hy225
 clear hy225
 by_cases c2 : 0 ≤ a0
 · rw [if_pos c2] at H
   have c2b0 : decide (0 ≤ a0) = true := decide_eq_true c2
   clear c2
   by_cases c3 : a0 < (y225.length : Int)
   · rw [if_pos c3] at H
     have c3b0 : decide (a0 < (y225.length : Int)) = true := decide_eq_true c3
     clear c3
     obtain rfl := Option.some.inj H
     go_enter Tryz.func59, Tryz.ntmps59
     go_wp2_with (first | ((with_reducible refine gate_dst (N := 3) rfl ?_); refine Kd.R_lit Kd.string _ 9 ?hg (N := 3) ?hd (xs := ([(⟨#[]⟩ : ByteArray), (⟨#[97, 116, 59]⟩ : ByteArray), (⟨#[97, 59]⟩ : ByteArray), (⟨#[97, 110, 59]⟩ : ByteArray), (⟨#[97, 110, 59]⟩ : ByteArray), (⟨#[97, 110, 59]⟩ : ByteArray), (⟨#[105, 59]⟩ : ByteArray), (⟨#[110, 110, 123]⟩ : ByteArray), (⟨#[116, 116, 59]⟩ : ByteArray)] : List ByteArray)) (inner := [.string (⟨#[]⟩ : ByteArray), .string (⟨#[97, 116, 59]⟩ : ByteArray), .string (⟨#[97, 59]⟩ : ByteArray), .string (⟨#[97, 110, 59]⟩ : ByteArray), .string (⟨#[97, 110, 59]⟩ : ByteArray), .string (⟨#[97, 110, 59]⟩ : ByteArray), .string (⟨#[105, 59]⟩ : ByteArray), .string (⟨#[110, 110, 123]⟩ : ByteArray), .string (⟨#[116, 116, 59]⟩ : ByteArray)]) (ok := fun _ => True) (okp := fun _ => True) ?hr ?hp (fun _ hk => hk) trivial (Below.refl _ _) (Nat.le_refl _) (by simp) ?_; (case hd => rfl); (case hg => rfl); (case hr => first | (go_simp; done) | (go_simp; rfl)); (case hp => exact (Reps.one (show Kd.M Kd.string _ _ _ (⟨#[]⟩ : ByteArray) [.string (⟨#[]⟩ : ByteArray)] from rfl) (Reps.one (show Kd.M Kd.string _ _ _ (⟨#[97, 116, 59]⟩ : ByteArray) [.string (⟨#[97, 116, 59]⟩ : ByteArray)] from rfl) (Reps.one (show Kd.M Kd.string _ _ _ (⟨#[97, 59]⟩ : ByteArray) [.string (⟨#[97, 59]⟩ : ByteArray)] from rfl) (Reps.one (show Kd.M Kd.string _ _ _ (⟨#[97, 110, 59]⟩ : ByteArray) [.string (⟨#[97, 110, 59]⟩ : ByteArray)] from rfl) (Reps.one (show Kd.M Kd.string _ _ _ (⟨#[97, 110, 59]⟩ : ByteArray) [.string (⟨#[97, 110, 59]⟩ : ByteArray)] from rfl) (Reps.one (show Kd.M Kd.string _ _ _ (⟨#[97, 110, 59]⟩ : ByteArray) [.string (⟨#[97, 110, 59]⟩ : ByteArray)] from rfl) (Reps.one (show Kd.M Kd.string _ _ _ (⟨#[105, 59]⟩ : ByteArray) [.string (⟨#[105, 59]⟩ : ByteArray)] from rfl) (Reps.one (show Kd.M Kd.string _ _ _ (⟨#[110, 110, 123]⟩ : ByteArray) [.string (⟨#[110, 110, 123]⟩ : ByteArray)] from rfl) (Reps.one (show Kd.M Kd.string _ _ _ (⟨#[116, 116, 59]⟩ : ByteArray) [.string (⟨#[116, 116, 59]⟩ : ByteArray)] from rfl) (Reps.none _ _))))))))))); intro v226 w4 ho5 hb hg_ hnew_; clear hg_ hnew_; (first | rw [← Ny225.out] at ho5 | (simp only [Int.reduceToNat] at ho5; rw [← Ny225.out] at ho5)); have n0_ := Aside0.mk (Kd.R_lower ho5 (below_size (by exact up_ HB.out))); have n1_ := Aside0.mk (below_step (by exact up_ HB.out) hb); clear HB; have HO227 := n0_; have HB := n1_; clear n0_ n1_; clear hb ho5; obtain ⟨Ao6, co6, eo6⟩ := Kd.R_slice HO227.out; subst eo6; have p228 : 0 ≤ (a0 : Int) := of_decide_eq_true (by first | (with_reducible assumption) | assumption); have q228 : a0 < (y225.length : Int) := of_decide_eq_true (by first | (with_reducible assumption) | assumption); obtain ⟨ad228, e228, hx228_0⟩ := Kd.at_string (Kd.R_reads' HO227.out).2.2 a0 p228 q228; cases e228; replace p228 := eq_true p228; replace q228 := eq_true q228))
     go_ret
     exact ⟨by first | rfl | (simp [errW_none, errW_some] <;> rfl) | (simp [*, errW_none, errW_some] <;> rfl), by exact up_ HB.out⟩
   · rw [if_neg c3] at H
     exact absurd H (by simp)
 · rw [if_neg c2] at H
   exact absurd H (by simp)
def ambidexterref11_Int.l0 : Nat → ByteArray → Int → Int → Int → Option (Int)
 | 0, _, _, _, _ => none
 | k + 1, x0, x3, x4, x5 => if x5 < (x0.size : Int) then (if 0 ≤ x5 then (if (bt x0 x5) = 45 then (ambidexterref11_Int.l0 k x0 x3 (-1) (wrap64 (x5 + 1))) else (ambidexterref11_Int.l0 k x0 (wrap64 ((wrap64 ((wrap64 (10 * x3)) + (wrap64 (bt x0 x5)))) - 48)) x4 (wrap64 (x5 + 1)))) else (none)) else (some (wrap64 (x4 * x3)))
def ambidexterref11_Int.f (k : Nat) (a0 : ByteArray) : Option (Int) := ambidexterref11_Int.l0 k a0 0 1 0
theorem ambidexterref11_Int.mono_l : ∀ k, (∀ y0 y1 y2 y3, LeO (ambidexterref11_Int.l0 k y0 y1 y2 y3) (ambidexterref11_Int.l0 (k + 1) y0 y1 y2 y3))
 | 0 => fun _ _ _ _ r h => by simp [ambidexterref11_Int.l0] at h
 | k + 1 => by
  have ih0 := ambidexterref11_Int.mono_l k
  · intro y0 y1 y2 y3
    unfold ambidexterref11_Int.l0
    repeat' first
    | (with_reducible exact ih0 _ _ _ _)
    | (with_reducible exact LeO.refl _)
    | (with_reducible exact LeO.none _)
    | (with_reducible refine LeO.ite ?_ ?_)
    | (with_reducible refine LeO.bind ?_ (fun _ => ?_))
    | exact ih0 _ _ _ _
    | exact LeO.none _
    | refine LeO.ite ?_ ?_
    | refine LeO.bind ?_ (fun _ => ?_)
theorem ambidexterref11_Int.mono : ∀ a0 k, LeO (ambidexterref11_Int.f k a0) (ambidexterref11_Int.f (k + 1) a0) := by
 intro a0 k
 have ih0 := ambidexterref11_Int.mono_l k
 unfold ambidexterref11_Int.f
 repeat' first
  | (with_reducible exact ih0 _ _ _ _)
  | (with_reducible exact LeO.refl _)
  | (with_reducible exact LeO.none _)
  | (with_reducible refine LeO.ite ?_ ?_)
  | (with_reducible refine LeO.bind ?_ (fun _ => ?_))
  | exact ih0 _ _ _ _
  | exact LeO.none _
  | refine LeO.ite ?_ ?_
  | refine LeO.bind ?_ (fun _ => ?_)
theorem ambidexterref11_Int.calls (k : Nat) (a0 : ByteArray) (r : Int) (w : World) (h : ambidexterref11_Int.f k a0 = some r) :
 Calls Tryz.prog 86 #[.string a0] w fun e w' => e = .returned (.int .i64 r) ∧ Drawn0 w w' := by
 have H : (ambidexterref11_Int.l0 k a0 0 1 0) = some r := h
 clear h
 have H' := Aside0.mk H
 clear H
 go_enter Tryz.func86, Tryz.ntmps86
 go_wp2
 go_loopg [3, 4, 5] k (fun kq v3 v4 v5 w' => ∃ (x3_1 : Int) (x4_1 : Int) (x5_1 : Int), v3 = .int .i64 x3_1 ∧ v4 = .int .i64 x4_1 ∧ v5 = .int .i64 x5_1 ∧ Aside0 (ambidexterref11_Int.l0 kq a0 x3_1 x4_1 x5_1 = some r) ∧ Aside0 (kq ≤ k) ∧ Drawn0 w w')
 case atStart => exact ⟨(0), (1), (0), (by first | rfl | (simp; done) | (simp [*]; done)), (by first | rfl | (simp; done) | (simp [*]; done)), (by first | rfl | (simp; done) | (simp [*]; done)), H', ⟨Nat.le_refl _⟩, by repeat (first | exact Drawn0.refl _ | apply Drawn0.step)⟩
 case round =>
  clear H'
  obtain ⟨x3_1, x4_1, x5_1, rfl, rfl, rfl, HA, HK1, ⟨m1, rfl⟩⟩ := hrel
  cases gk with
  | zero => exact absurd HA.out (by simp [ambidexterref11_Int.l0])
  | succ k1 =>
   have H := HA.out
   clear HA
   simp only [ambidexterref11_Int.l0] at H
   by_cases c2 : x5_1 < (a0.size : Int)
   · rw [if_pos c2] at H
     have c2b0 : decide (x5_1 < (a0.size : Int)) = true := decide_eq_true c2
     clear c2
     by_cases c3 : 0 ≤ x5_1
     · rw [if_pos c3] at H
       have c3b0 : decide (0 ≤ x5_1) = true := decide_eq_true c3
       clear c3
       by_cases c5 : (bt a0 x5_1) = 45
       · rw [if_pos c5] at H
         have c5b0 : ((bt a0 x5_1) == 45) = true := beq_iff_eq.mpr c5
         have c5b1 : ((bt a0 x5_1) != 45) = false := bne_eq_false_iff_eq.mpr c5
         clear c5
         have H' := Aside0.mk H
         clear H
         have p4 : 0 ≤ (x5_1 : Int) := of_decide_eq_true (by first | (with_reducible assumption) | assumption)
         have q4 : x5_1 < (a0.size : Int) := of_decide_eq_true (by first | (with_reducible assumption) | assumption)
         have hx4 := bt_at a0 x5_1
         replace p4 := eq_true p4
         replace q4 := eq_true q4
         go_wp2
         go_roundg k1
         case measure => have := HK1.out; omega
         case rel => exact ⟨(x3_1), ((-1)), (wrap64 (x5_1 + 1)), (by first | rfl | (simp; done) | (simp [*]; done)), (by first | rfl | (simp; done) | (simp [*]; done)), (by first | rfl | (simp; done) | (simp [*]; done)), H', ⟨by have := HK1.out; omega⟩, by repeat (first | exact Drawn0.refl _ | apply Drawn0.step)⟩
       · rw [if_neg c5] at H
         have c5b0 : ((bt a0 x5_1) == 45) = false := beq_eq_false_iff_ne.mpr c5
         have c5b1 : ((bt a0 x5_1) != 45) = true := bne_iff_ne.mpr c5
         have H' := Aside0.mk H
         clear H
         have p4 : 0 ≤ (x5_1 : Int) := of_decide_eq_true (by first | (with_reducible assumption) | assumption)
         have q4 : x5_1 < (a0.size : Int) := of_decide_eq_true (by first | (with_reducible assumption) | assumption)
         have hx4 := bt_at a0 x5_1
         replace p4 := eq_true p4
         replace q4 := eq_true q4
         have p6 : 0 ≤ (x5_1 : Int) := of_decide_eq_true (by first | (with_reducible assumption) | assumption)
         have q6 : x5_1 < (a0.size : Int) := of_decide_eq_true (by first | (with_reducible assumption) | assumption)
         have hx6 := bt_at a0 x5_1
         replace p6 := eq_true p6
         replace q6 := eq_true q6
         go_wp2
         go_roundg k1
         case measure => have := HK1.out; omega
         case rel => exact ⟨(wrap64 ((wrap64 ((wrap64 (10 * x3_1)) + (wrap64 (bt a0 x5_1)))) - 48)), (x4_1), (wrap64 (x5_1 + 1)), (by first | rfl | (simp; done) | (simp [*]; done)), (by first | rfl | (simp; done) | (simp [*]; done)), (by first | rfl | (simp; done) | (simp [*]; done)), H', ⟨by have := HK1.out; omega⟩, by repeat (first | exact Drawn0.refl _ | apply Drawn0.step)⟩
     · rw [if_neg c3] at H
       exact absurd H (by simp)
   · rw [if_neg c2] at H
     have c2b0 : decide (x5_1 < (a0.size : Int)) = false := decide_eq_false c2
     clear c2
     obtain rfl := Option.some.inj H
     go_wp2
     go_ret
     exact ⟨by first | rfl | (simp; done) | (simp [*]; done), by repeat (first | exact Drawn0.refl _ | apply Drawn0.step)⟩
def ambidexterref11_joints.f (k : Nat) (l0 : List ByteArray) (a1 : Int) : Option (Int × Int × Int) := if 0 ≤ a1 then (if a1 < (l0.length : Int) then ((ambidexterref11_Int.f k (rdOf ByteArray.empty l0 a1)).bind fun t231 => (if 0 ≤ (wrap64 (a1 + 1)) then (if (wrap64 (a1 + 1)) < (l0.length : Int) then ((ambidexterref11_Int.f k (rdOf ByteArray.empty l0 (wrap64 (a1 + 1)))).bind fun t233 => (if 0 ≤ (wrap64 (a1 + 2)) then (if (wrap64 (a1 + 2)) < (l0.length : Int) then ((ambidexterref11_Int.f k (rdOf ByteArray.empty l0 (wrap64 (a1 + 2)))).bind fun t235 => (some (t231, t233, t235))) else (none)) else (none))) else (none)) else (none))) else (none)) else (none)
def ambidexterref11_joints.T1 : Bool × List (List Nat × List Nat) := (true, [([], []), ([], []), ([0, 1], [0, 1]), ([2], [2]), ([3], [3]), ([], []), ([], []), ([6], [6]), ([5, 7], [5, 7]), ([8], [8]), ([9, 4], [9]), ([], []), ([], []), ([12], [12]), ([11, 13], [11, 13]), ([14], [14]), ([15, 10], [15]), ([4, 10, 16], [4, 10, 16]), ([17, 16, 0, 1, 2, 3, 4, 5, 6, 7, 8, 9, 10, 11, 12, 13, 14, 15, 16, 17], [17])])
def ambidexterref11_joints.B1 : List Nat := [0, 0, 3, 7, 15, 0, 0, 64, 224, 480, 1023, 0, 0, 4096, 14336, 30720, 65535, 131071, 262143]
theorem ambidexterref11_joints.tab1 : rtab .any (opsOf Tryz.f87 1) = ambidexterref11_joints.T1 := by kernel_rfl
theorem ambidexterref11_joints.bits1 : waitsOk ambidexterref11_joints.T1.2 ambidexterref11_joints.B1 = true := by kernel_rfl
theorem ambidexterref11_joints.calls (k : Nat) (A0 : Option Addr) (c0 : Nat) (l0 : List ByteArray) (a1 : Int) (r1 : Int) (r2 : Int) (r3 : Int) (w : World) (hr0 : Kd.C Kd.string w A0 l0.length l0) (hc0 : l0.length ≤ c0) (h : ambidexterref11_joints.f k l0 a1 = some (r1, r2, r3)) :
 Calls Tryz.prog 87 #[.slice A0 l0.length c0, .int .i64 a1] w fun e w' => e = .returned (.agg #[.int .i64 r1, .int .i64 r2, .int .i64 r3]) ∧ Below w.heap.size w w' := by
 have hu34 := Tryz.underlying34
 have HR0 := Aside0.mk hr0
 have HC0 := Aside0.mk hc0
 clear hr0 hc0
 have HB := Aside0.mk (Below.refl w.heap.size w)
 have H : (if 0 ≤ a1 then (if a1 < (l0.length : Int) then ((ambidexterref11_Int.f k (rdOf ByteArray.empty l0 a1)).bind fun t231 => (if 0 ≤ (wrap64 (a1 + 1)) then (if (wrap64 (a1 + 1)) < (l0.length : Int) then ((ambidexterref11_Int.f k (rdOf ByteArray.empty l0 (wrap64 (a1 + 1)))).bind fun t233 => (if 0 ≤ (wrap64 (a1 + 2)) then (if (wrap64 (a1 + 2)) < (l0.length : Int) then ((ambidexterref11_Int.f k (rdOf ByteArray.empty l0 (wrap64 (a1 + 2)))).bind fun t235 => (some (t231, t233, t235))) else (none)) else (none))) else (none)) else (none))) else (none)) else (none)) = some (r1, r2, r3) := h
 clear h
 by_cases c3 : 0 ≤ a1
 · rw [if_pos c3] at H
   have c3b0 : decide (0 ≤ a1) = true := decide_eq_true c3
   clear c3
   by_cases c4 : a1 < (l0.length : Int)
   · rw [if_pos c4] at H
     have c4b0 : decide (a1 < (l0.length : Int)) = true := decide_eq_true c4
     clear c4
     replace H := Option.bind_eq_some_iff.mp H
     obtain ⟨t231, A50, H⟩ := H
     replace H : (if 0 ≤ (wrap64 (a1 + 1)) then (if (wrap64 (a1 + 1)) < (l0.length : Int) then ((ambidexterref11_Int.f k (rdOf ByteArray.empty l0 (wrap64 (a1 + 1)))).bind fun t233 => (if 0 ≤ (wrap64 (a1 + 2)) then (if (wrap64 (a1 + 2)) < (l0.length : Int) then ((ambidexterref11_Int.f k (rdOf ByteArray.empty l0 (wrap64 (a1 + 2)))).bind fun t235 => (some (t231, t233, t235))) else (none)) else (none))) else (none)) else (none)) = some (r1, r2, r3) := H
     have A5 := Aside0.mk A50
     clear A50
     obtain ⟨ji6, hji6⟩ : ∃ j_ : Int, (wrap64 (a1 + 1)) = j_ := ⟨_, rfl⟩
     replace H : (if 0 ≤ (ji6) then (if (ji6) < (l0.length : Int) then ((ambidexterref11_Int.f k (rdOf ByteArray.empty l0 (ji6))).bind fun t233 => (if 0 ≤ (wrap64 (a1 + 2)) then (if (wrap64 (a1 + 2)) < (l0.length : Int) then ((ambidexterref11_Int.f k (rdOf ByteArray.empty l0 (wrap64 (a1 + 2)))).bind fun t235 => (some (t231, t233, t235))) else (none)) else (none))) else (none)) else (none)) = some (r1, r2, r3) := by first | (rw [hji6] at H; exact H) | (simp only [hji6] at H ⊢; exact H)
     (try rw [hji6] at A5)
     have hji6w : (IntKind.i64.wrap (a1 + 1)) = ji6 := (i64_w _).trans hji6
     by_cases c7 : 0 ≤ (ji6)
     · rw [if_pos c7] at H
       have c7b0 : decide (0 ≤ (ji6)) = true := decide_eq_true c7
       clear c7
       by_cases c8 : (ji6) < (l0.length : Int)
       · rw [if_pos c8] at H
         have c8b0 : decide ((ji6) < (l0.length : Int)) = true := decide_eq_true c8
         clear c8
         replace H := Option.bind_eq_some_iff.mp H
         obtain ⟨t233, A90, H⟩ := H
         replace H : (if 0 ≤ (wrap64 (a1 + 2)) then (if (wrap64 (a1 + 2)) < (l0.length : Int) then ((ambidexterref11_Int.f k (rdOf ByteArray.empty l0 (wrap64 (a1 + 2)))).bind fun t235 => (some (t231, t233, t235))) else (none)) else (none)) = some (r1, r2, r3) := H
         have A9 := Aside0.mk A90
         clear A90
         obtain ⟨ji10, hji10⟩ : ∃ j_ : Int, (wrap64 (a1 + 2)) = j_ := ⟨_, rfl⟩
         replace H : (if 0 ≤ (ji10) then (if (ji10) < (l0.length : Int) then ((ambidexterref11_Int.f k (rdOf ByteArray.empty l0 (ji10))).bind fun t235 => (some (t231, t233, t235))) else (none)) else (none)) = some (r1, r2, r3) := by first | (rw [hji10] at H; exact H) | (simp only [hji10] at H ⊢; exact H)
         (try rw [hji10] at A5)
         (try rw [hji10] at A9)
         have hji10w : (IntKind.i64.wrap (a1 + 2)) = ji10 := (i64_w _).trans hji10
         by_cases c11 : 0 ≤ (ji10)
         · rw [if_pos c11] at H
           have c11b0 : decide (0 ≤ (ji10)) = true := decide_eq_true c11
           clear c11
           by_cases c12 : (ji10) < (l0.length : Int)
           · rw [if_pos c12] at H
             have c12b0 : decide ((ji10) < (l0.length : Int)) = true := decide_eq_true c12
             clear c12
             replace H := Option.bind_eq_some_iff.mp H
             obtain ⟨t235, A130, H⟩ := H
             replace H : (some (t231, t233, t235)) = some (r1, r2, r3) := H
             have A13 := Aside0.mk A130
             clear A130
             simp only [Option.some.injEq, Prod.mk.injEq] at H
             obtain ⟨rfl, rfl, rfl⟩ := H
             go_enter Tryz.func87, Tryz.ntmps87
             try go_wp2_with (first | ((with_reducible refine gate_dst (N := 4) rfl ?_); refine box_event ?hg (N := 4) ?hd (cs := #[.int .i64 0, .int .i64 0, .int .i64 0]) (t := 34) ?hr ?_; (case hd => rfl); (case hg => rfl); (case hr => first | (go_simp; done) | (go_simp; rfl)); intro gb229 hg w14 hbox hb; have n0_ := Aside0.mk (below_step (by exact up_ HB.out) hb); have n1_ := Aside0.mk (hbox); have n2_ := Aside0.mk ((by rw [hg]; exact (below_size (by exact up_ HB.out)) : w.heap.size ≤ gb229)); have n3_ := Aside0.mk ((by rw [hg]; exact (below_size (by exact up_ HB.out)) : w.heap.size ≤ gb229)); clear HB; have HB := n0_; have BK229 := n1_; have GW229 := n2_; have GE229 := n3_; clear n0_ n1_ n2_ n3_; clear hb hbox hg))
             have n0_ := Aside0.mk (blk_drew BK229.out)
             have n1_ := Aside0.mk (below_drew1 HB.out)
             clear BK229
             clear HB
             have BK229 := n0_
             have HB := n1_
             clear n0_ n1_
             have p230 : 0 ≤ (a1 : Int) := of_decide_eq_true (by first | (with_reducible assumption) | assumption)
             have q230 : a1 < (l0.length : Int) := of_decide_eq_true (by first | (with_reducible assumption) | assumption)
             obtain ⟨ad230, e230, hx230_0⟩ := Kd.at_string HR0.out a1 p230 q230
             have hw230_0 := hx230_0
             cases e230
             replace hx230_0 := (HB.out.cell (World.block_lt_of_cell? w _ hx230_0)).trans hx230_0
             replace p230 := eq_true p230
             replace q230 := eq_true q230
             have p232 : 0 ≤ ((ji6) : Int) := of_decide_eq_true (by first | (with_reducible assumption) | assumption)
             have q232 : (ji6) < (l0.length : Int) := of_decide_eq_true (by first | (with_reducible assumption) | assumption)
             obtain ⟨ad232, e232, hx232_0⟩ := Kd.at_string HR0.out (ji6) p232 q232
             have hw232_0 := hx232_0
             obtain rfl : ad230 = ad232 := (by injection e232)
             replace hx232_0 := (HB.out.cell (World.block_lt_of_cell? w _ hx232_0)).trans hx232_0
             replace p232 := eq_true p232
             replace q232 := eq_true q232
             have p234 : 0 ≤ ((ji10) : Int) := of_decide_eq_true (by first | (with_reducible assumption) | assumption)
             have q234 : (ji10) < (l0.length : Int) := of_decide_eq_true (by first | (with_reducible assumption) | assumption)
             obtain ⟨ad234, e234, hx234_0⟩ := Kd.at_string HR0.out (ji10) p234 q234
             have hw234_0 := hx234_0
             obtain rfl : ad230 = ad234 := (by injection e234)
             replace hx234_0 := (HB.out.cell (World.block_lt_of_cell? w _ hx234_0)).trans hx234_0
             replace p234 := eq_true p234
             replace q234 := eq_true q234
             refine start_ (n := 19) (S := fun w' => w'.cell? (ad230.add (a1).toNat) = some (.string (rdOf ByteArray.empty l0 a1)) ∧ w'.cell? (ad230.add ((ji6)).toNat) = some (.string (rdOf ByteArray.empty l0 (ji6))) ∧ w'.cell? (ad230.add ((ji10)).toNat) = some (.string (rdOf ByteArray.empty l0 (ji10)))) (ds := []) #[false, false, false, false, false, false, false, false, false, false, false, false, false, false, false, false, false, false, false] (by kernel_rfl) rfl rfl ⟨((HB.out.cell (World.block_lt_of_cell? w _ hw230_0)).trans hw230_0), ((HB.out.cell (World.block_lt_of_cell? w _ hw232_0)).trans hw232_0), ((HB.out.cell (World.block_lt_of_cell? w _ hw234_0)).trans hw234_0)⟩ (fun hHeld => ?_); refine with_tabW ambidexterref11_joints.tab1 ambidexterref11_joints.bits1 (fun HT_ HW_ => ?_)
             generalize w14.drew = w15 at BK229 HB hx230_0 hx232_0 hx234_0 hHeld ⊢
             refine pure_ (i := 0) (N := some 5) (v := ?_) (a' := ?_) #[true, false, false, false, false, false, false, false, false, false, false, false, false, false, false, false, false, false, false] rfl rfl (any_of HT_.out (by kernel_rfl)) (fun _ _ _ h => h) (Or.inl ⟨by rfl, ?_⟩) ?_ ?_
             rotate_left
             · intro w'
               go_simp
               with_reducible rfl
             rotate_left
             · simp only [Act.put, List.setIfInBounds_toArray, List.set_cons_zero, List.set_cons_succ, i64_w, i32_w]
               rfl
             refine pure_ (i := 1) (N := some 6) (v := ?_) (a' := ?_) #[true, true, false, false, false, false, false, false, false, false, false, false, false, false, false, false, false, false, false] rfl rfl (any_of HT_.out (by kernel_rfl)) (fun _ _ _ h => h) (Or.inl ⟨by rfl, ?_⟩) ?_ ?_
             rotate_left
             · intro w'
               go_simp
               with_reducible rfl
             rotate_left
             · simp only [Act.put, List.setIfInBounds_toArray, List.set_cons_zero, List.set_cons_succ, i64_w, i32_w]
               rfl
             refine pure_ (i := 2) (N := some 7) (v := ?_) (a' := ?_) #[true, true, true, false, false, false, false, false, false, false, false, false, false, false, false, false, false, false, false] rfl rfl (any_of HT_.out (by kernel_rfl)) (fun _ _ _ h => h) (Or.inl ⟨by rfl, ?_⟩) ?_ ?_
             rotate_left
             · intro w'
               go_simp
               with_reducible rfl
             rotate_left
             · simp only [Act.put, List.setIfInBounds_toArray, List.set_cons_zero, List.set_cons_succ, i64_w, i32_w]
               rfl
             refine pure_ (i := 5) (N := some 10) (v := ?_) (a' := ?_) #[true, true, true, false, false, true, false, false, false, false, false, false, false, false, false, false, false, false, false] rfl rfl (any_of HT_.out (by kernel_rfl)) (fun _ _ _ h => h) (Or.inl ⟨by rfl, ?_⟩) ?_ ?_
             rotate_left
             · intro w'
               go_simp
               with_reducible rfl
             rotate_left
             · simp only [Act.put, List.setIfInBounds_toArray, List.set_cons_zero, List.set_cons_succ, i64_w, i32_w]
               rfl
             refine pure_ (i := 6) (N := some 11) (v := ?_) (a' := ?_) #[true, true, true, false, false, true, true, false, false, false, false, false, false, false, false, false, false, false, false] rfl rfl (any_of HT_.out (by kernel_rfl)) (fun _ _ _ h => h) (Or.inl ⟨by rfl, ?_⟩) ?_ ?_
             rotate_left
             · intro w'
               go_simp
               with_reducible rfl
             rotate_left
             · simp only [Act.put, List.setIfInBounds_toArray, List.set_cons_zero, List.set_cons_succ, i64_w, i32_w]
               rfl
             refine pure_ (i := 7) (N := some 12) (v := ?_) (a' := ?_) #[true, true, true, false, false, true, true, true, false, false, false, false, false, false, false, false, false, false, false] rfl rfl (any_of HT_.out (by kernel_rfl)) (fun _ _ _ h => h) (Or.inl ⟨by rfl, ?_⟩) ?_ ?_
             rotate_left
             · intro w'
               go_simp
               with_reducible rfl
             rotate_left
             · simp only [Act.put, List.setIfInBounds_toArray, List.set_cons_zero, List.set_cons_succ, i64_w, i32_w]
               rfl
             refine pure_ (i := 8) (N := some 13) (v := ?_) (a' := ?_) #[true, true, true, false, false, true, true, true, true, false, false, false, false, false, false, false, false, false, false] rfl rfl (any_of HT_.out (by kernel_rfl)) (fun _ _ _ h => h) (Or.inl ⟨by rfl, ?_⟩) ?_ ?_
             rotate_left
             · intro w'
               go_simp
               with_reducible rfl
             rotate_left
             · simp only [Act.put, List.setIfInBounds_toArray, List.set_cons_zero, List.set_cons_succ, i64_w, i32_w]
               rfl
             refine pure_ (i := 11) (N := some 16) (v := ?_) (a' := ?_) #[true, true, true, false, false, true, true, true, true, false, false, true, false, false, false, false, false, false, false] rfl rfl (any_of HT_.out (by kernel_rfl)) (fun _ _ _ h => h) (Or.inl ⟨by rfl, ?_⟩) ?_ ?_
             rotate_left
             · intro w'
               go_simp
               with_reducible rfl
             rotate_left
             · simp only [Act.put, List.setIfInBounds_toArray, List.set_cons_zero, List.set_cons_succ, i64_w, i32_w]
               rfl
             refine pure_ (i := 12) (N := some 17) (v := ?_) (a' := ?_) #[true, true, true, false, false, true, true, true, true, false, false, true, true, false, false, false, false, false, false] rfl rfl (any_of HT_.out (by kernel_rfl)) (fun _ _ _ h => h) (Or.inl ⟨by rfl, ?_⟩) ?_ ?_
             rotate_left
             · intro w'
               go_simp
               with_reducible rfl
             rotate_left
             · simp only [Act.put, List.setIfInBounds_toArray, List.set_cons_zero, List.set_cons_succ, i64_w, i32_w]
               rfl
             refine pure_ (i := 13) (N := some 18) (v := ?_) (a' := ?_) #[true, true, true, false, false, true, true, true, true, false, false, true, true, true, false, false, false, false, false] rfl rfl (any_of HT_.out (by kernel_rfl)) (fun _ _ _ h => h) (Or.inl ⟨by rfl, ?_⟩) ?_ ?_
             rotate_left
             · intro w'
               go_simp
               with_reducible rfl
             rotate_left
             · simp only [Act.put, List.setIfInBounds_toArray, List.set_cons_zero, List.set_cons_succ, i64_w, i32_w]
               rfl
             refine pure_ (i := 14) (N := some 19) (v := ?_) (a' := ?_) #[true, true, true, false, false, true, true, true, true, false, false, true, true, true, true, false, false, false, false] rfl rfl (any_of HT_.out (by kernel_rfl)) (fun _ _ _ h => h) (Or.inl ⟨by rfl, ?_⟩) ?_ ?_
             rotate_left
             · intro w'
               go_simp
               with_reducible rfl
             rotate_left
             · simp only [Act.put, List.setIfInBounds_toArray, List.set_cons_zero, List.set_cons_succ, i64_w, i32_w]
               rfl
             refine take_ (i := 3) (N := some 8) (v := ?_) (a' := ?_) #[true, true, true, true, false, true, true, true, true, false, false, true, true, true, true, false, false, false, false] rfl rfl (take_ofW HT_.out HW_.out (by kernel_rfl)) (fun _ _ _ h => h) (Or.inl ⟨by rfl, ?_⟩) hHeld ?_ ?_
             rotate_left
             · rintro w' ⟨s0, s1, s2⟩
               go_simp
               with_reducible rfl
             rotate_left
             · simp only [Act.put, List.setIfInBounds_toArray, List.set_cons_zero, List.set_cons_succ, i64_w, i32_w]
               rfl
             refine take_ (i := 9) (N := some 14) (v := ?_) (a' := ?_) #[true, true, true, true, false, true, true, true, true, true, false, true, true, true, true, false, false, false, false] rfl rfl (take_ofW HT_.out HW_.out (by kernel_rfl)) (fun _ _ _ h => h) (Or.inl ⟨by rfl, ?_⟩) hHeld ?_ ?_
             rotate_left
             · rintro w' ⟨s0, s1, s2⟩
               go_simp
               with_reducible rfl
             rotate_left
             · simp only [Act.put, List.setIfInBounds_toArray, List.set_cons_zero, List.set_cons_succ, i64_w, i32_w]
               rfl
             refine take_ (i := 15) (N := some 20) (v := ?_) (a' := ?_) #[true, true, true, true, false, true, true, true, true, true, false, true, true, true, true, true, false, false, false] rfl rfl (take_ofW HT_.out HW_.out (by kernel_rfl)) (fun _ _ _ h => h) (Or.inl ⟨by rfl, ?_⟩) hHeld ?_ ?_
             rotate_left
             · rintro w' ⟨s0, s1, s2⟩
               go_simp
               with_reducible rfl
             rotate_left
             · simp only [Act.put, List.setIfInBounds_toArray, List.set_cons_zero, List.set_cons_succ, i64_w, i32_w]
               rfl
             refine one_ (i := 4) (N := some 9) #[true, true, true, true, true, true, true, true, true, true, false, true, true, true, true, true, false, false, false] rfl rfl (one_of HT_.out (by kernel_rfl)) (by decide) (fun K hK => ?_)
             refine goes_ Tryz.func86 (by kernel_rfl) rfl #[.string (rdOf ByteArray.empty l0 a1)] (by rfl) rfl rfl (by (try simp only [List.map_toArray, List.map_cons, List.map_nil]); first | done | rfl | (simp only [List.length_drop, List.length_take]; rfl)) ?_
             with_reducible refine (ambidexterref11_Int.calls k (rdOf ByteArray.empty l0 a1) t231 _ A5.out).mono ?_
             rintro e w' ⟨rfl, ⟨nd, rfl⟩⟩
             refine ⟨_, rfl, ?_⟩
             refine hK.out _ _ ⟨((HB.out.cell (World.block_lt_of_cell? w _ hw230_0)).trans hw230_0), ((HB.out.cell (World.block_lt_of_cell? w _ hw232_0)).trans hw232_0), ((HB.out.cell (World.block_lt_of_cell? w _ hw234_0)).trans hw234_0)⟩ (fun hHeld => ?_)
             clear hK K
             refine norm_ (a' := ?_) ?_ ?_
             rotate_left
             · show Act.put _ (some 9) _ = _
               simp only [Act.put, List.setIfInBounds_toArray, List.set_cons_zero, List.set_cons_succ, i64_w, i32_w]
               rfl
             refine one_ (i := 10) (N := some 15) #[true, true, true, true, true, true, true, true, true, true, true, true, true, true, true, true, false, false, false] rfl rfl (one_of HT_.out (by kernel_rfl)) (by decide) (fun K hK => ?_)
             refine goes_ Tryz.func86 (by kernel_rfl) rfl #[.string (rdOf ByteArray.empty l0 (ji6))] (by rfl) rfl rfl (by (try simp only [List.map_toArray, List.map_cons, List.map_nil]); first | done | (simp only [hji6]; rfl) | rfl | (simp only [List.length_drop, List.length_take]; rfl)) ?_
             with_reducible refine (ambidexterref11_Int.calls k (rdOf ByteArray.empty l0 (ji6)) t233 _ A9.out).mono ?_
             rintro e w' ⟨rfl, ⟨nd, rfl⟩⟩
             refine ⟨_, rfl, ?_⟩
             refine hK.out _ _ ⟨((HB.out.cell (World.block_lt_of_cell? w _ hw230_0)).trans hw230_0), ((HB.out.cell (World.block_lt_of_cell? w _ hw232_0)).trans hw232_0), ((HB.out.cell (World.block_lt_of_cell? w _ hw234_0)).trans hw234_0)⟩ (fun hHeld => ?_)
             clear hK K
             refine norm_ (a' := ?_) ?_ ?_
             rotate_left
             · show Act.put _ (some 15) _ = _
               simp only [Act.put, List.setIfInBounds_toArray, List.set_cons_zero, List.set_cons_succ, i64_w, i32_w]
               rfl
             refine one_ (i := 16) (N := some 21) #[true, true, true, true, true, true, true, true, true, true, true, true, true, true, true, true, true, false, false] rfl rfl (one_of HT_.out (by kernel_rfl)) (by decide) (fun K hK => ?_)
             refine goes_ Tryz.func86 (by kernel_rfl) rfl #[.string (rdOf ByteArray.empty l0 (ji10))] (by rfl) rfl rfl (by (try simp only [List.map_toArray, List.map_cons, List.map_nil]); first | done | (simp only [hji10]; rfl) | rfl | (simp only [List.length_drop, List.length_take]; rfl)) ?_
             with_reducible refine (ambidexterref11_Int.calls k (rdOf ByteArray.empty l0 (ji10)) t235 _ A13.out).mono ?_
             rintro e w' ⟨rfl, ⟨nd, rfl⟩⟩
             refine ⟨_, rfl, ?_⟩
             refine hK.out _ _ ⟨((HB.out.cell (World.block_lt_of_cell? w _ hw230_0)).trans hw230_0), ((HB.out.cell (World.block_lt_of_cell? w _ hw232_0)).trans hw232_0), ((HB.out.cell (World.block_lt_of_cell? w _ hw234_0)).trans hw234_0)⟩ (fun hHeld => ?_)
             clear hK K
             refine norm_ (a' := ?_) ?_ ?_
             rotate_left
             · show Act.put _ (some 21) _ = _
               simp only [Act.put, List.setIfInBounds_toArray, List.set_cons_zero, List.set_cons_succ, i64_w, i32_w]
               rfl
             refine pure_ (i := 17) (N := some 22) (v := ?_) (a' := ?_) #[true, true, true, true, true, true, true, true, true, true, true, true, true, true, true, true, true, true, false] rfl rfl (any_of HT_.out (by kernel_rfl)) (fun _ _ _ h => h) (Or.inl ⟨by rfl, ?_⟩) ?_ ?_
             rotate_left
             · intro w'
               go_simp
               with_reducible rfl
             rotate_left
             · simp only [Act.put, List.setIfInBounds_toArray, List.set_cons_zero, List.set_cons_succ, i64_w, i32_w]
               rfl
             refine one_ (i := 18) (N := none) #[true, true, true, true, true, true, true, true, true, true, true, true, true, true, true, true, true, true, true] rfl rfl (one_of HT_.out (by kernel_rfl)) (by decide) (fun K hK => ?_)
             have hs16 : w15.cell? ⟨gb229, 0, none⟩ = some (.int .i64 0) := (blk_cell BK229.out 0).trans rfl
             have hfs16 := blk_frozen BK229.out 0
             have hs17 : w15.cell? ⟨gb229, 1, none⟩ = some (.int .i64 0) := (blk_cell BK229.out 1).trans rfl
             have hfs17 := blk_frozen BK229.out 1
             have hs18 : w15.cell? ⟨gb229, 2, none⟩ = some (.int .i64 0) := (blk_cell BK229.out 2).trans rfl
             have hfs18 := blk_frozen BK229.out 2
             refine skip_ (w1 := ?_) (by rfl) rfl ?_ ?_
             rotate_left
             · go_simp
               rfl
             refine hK.out _ _ ⟨((cell_far (p := ⟨gb229, _, none⟩) (by first | exact Nat.ne_of_lt (Nat.lt_of_lt_of_le (by have := World.block_lt_of_cell? _ _ hw230_0; first | rwa [add_block] at this | exact this) GW229.out) | (rw [add_block]; exact Nat.ne_of_lt (Nat.lt_of_lt_of_le (by have := World.block_lt_of_cell? _ _ hw230_0; first | rwa [add_block] at this | exact this) GW229.out)) | (show (Addr.add _ _).block ≠ _; rw [add_block]; exact Nat.ne_of_lt (Nat.lt_of_lt_of_le (by have := World.block_lt_of_cell? _ _ hw230_0; first | rwa [add_block] at this | exact this) GW229.out)) | (dsimp only; exact Nat.ne_of_lt (Nat.lt_of_lt_of_le (by have := World.block_lt_of_cell? _ _ hw230_0; first | rwa [add_block] at this | exact this) GW229.out))) _).trans (((cell_far (p := ⟨gb229, _, none⟩) (by first | exact Nat.ne_of_lt (Nat.lt_of_lt_of_le (by have := World.block_lt_of_cell? _ _ hw230_0; first | rwa [add_block] at this | exact this) GW229.out) | (rw [add_block]; exact Nat.ne_of_lt (Nat.lt_of_lt_of_le (by have := World.block_lt_of_cell? _ _ hw230_0; first | rwa [add_block] at this | exact this) GW229.out)) | (show (Addr.add _ _).block ≠ _; rw [add_block]; exact Nat.ne_of_lt (Nat.lt_of_lt_of_le (by have := World.block_lt_of_cell? _ _ hw230_0; first | rwa [add_block] at this | exact this) GW229.out)) | (dsimp only; exact Nat.ne_of_lt (Nat.lt_of_lt_of_le (by have := World.block_lt_of_cell? _ _ hw230_0; first | rwa [add_block] at this | exact this) GW229.out))) _).trans (((cell_far (p := ⟨gb229, _, none⟩) (by first | exact Nat.ne_of_lt (Nat.lt_of_lt_of_le (by have := World.block_lt_of_cell? _ _ hw230_0; first | rwa [add_block] at this | exact this) GW229.out) | (rw [add_block]; exact Nat.ne_of_lt (Nat.lt_of_lt_of_le (by have := World.block_lt_of_cell? _ _ hw230_0; first | rwa [add_block] at this | exact this) GW229.out)) | (show (Addr.add _ _).block ≠ _; rw [add_block]; exact Nat.ne_of_lt (Nat.lt_of_lt_of_le (by have := World.block_lt_of_cell? _ _ hw230_0; first | rwa [add_block] at this | exact this) GW229.out)) | (dsimp only; exact Nat.ne_of_lt (Nat.lt_of_lt_of_le (by have := World.block_lt_of_cell? _ _ hw230_0; first | rwa [add_block] at this | exact this) GW229.out))) _).trans (hHeld.1)))))), ((cell_far (p := ⟨gb229, _, none⟩) (by first | exact Nat.ne_of_lt (Nat.lt_of_lt_of_le (by have := World.block_lt_of_cell? _ _ hw232_0; first | rwa [add_block] at this | exact this) GW229.out) | (rw [add_block]; exact Nat.ne_of_lt (Nat.lt_of_lt_of_le (by have := World.block_lt_of_cell? _ _ hw232_0; first | rwa [add_block] at this | exact this) GW229.out)) | (show (Addr.add _ _).block ≠ _; rw [add_block]; exact Nat.ne_of_lt (Nat.lt_of_lt_of_le (by have := World.block_lt_of_cell? _ _ hw232_0; first | rwa [add_block] at this | exact this) GW229.out)) | (dsimp only; exact Nat.ne_of_lt (Nat.lt_of_lt_of_le (by have := World.block_lt_of_cell? _ _ hw232_0; first | rwa [add_block] at this | exact this) GW229.out))) _).trans (((cell_far (p := ⟨gb229, _, none⟩) (by first | exact Nat.ne_of_lt (Nat.lt_of_lt_of_le (by have := World.block_lt_of_cell? _ _ hw232_0; first | rwa [add_block] at this | exact this) GW229.out) | (rw [add_block]; exact Nat.ne_of_lt (Nat.lt_of_lt_of_le (by have := World.block_lt_of_cell? _ _ hw232_0; first | rwa [add_block] at this | exact this) GW229.out)) | (show (Addr.add _ _).block ≠ _; rw [add_block]; exact Nat.ne_of_lt (Nat.lt_of_lt_of_le (by have := World.block_lt_of_cell? _ _ hw232_0; first | rwa [add_block] at this | exact this) GW229.out)) | (dsimp only; exact Nat.ne_of_lt (Nat.lt_of_lt_of_le (by have := World.block_lt_of_cell? _ _ hw232_0; first | rwa [add_block] at this | exact this) GW229.out))) _).trans (((cell_far (p := ⟨gb229, _, none⟩) (by first | exact Nat.ne_of_lt (Nat.lt_of_lt_of_le (by have := World.block_lt_of_cell? _ _ hw232_0; first | rwa [add_block] at this | exact this) GW229.out) | (rw [add_block]; exact Nat.ne_of_lt (Nat.lt_of_lt_of_le (by have := World.block_lt_of_cell? _ _ hw232_0; first | rwa [add_block] at this | exact this) GW229.out)) | (show (Addr.add _ _).block ≠ _; rw [add_block]; exact Nat.ne_of_lt (Nat.lt_of_lt_of_le (by have := World.block_lt_of_cell? _ _ hw232_0; first | rwa [add_block] at this | exact this) GW229.out)) | (dsimp only; exact Nat.ne_of_lt (Nat.lt_of_lt_of_le (by have := World.block_lt_of_cell? _ _ hw232_0; first | rwa [add_block] at this | exact this) GW229.out))) _).trans (hHeld.2.1)))))), ((cell_far (p := ⟨gb229, _, none⟩) (by first | exact Nat.ne_of_lt (Nat.lt_of_lt_of_le (by have := World.block_lt_of_cell? _ _ hw234_0; first | rwa [add_block] at this | exact this) GW229.out) | (rw [add_block]; exact Nat.ne_of_lt (Nat.lt_of_lt_of_le (by have := World.block_lt_of_cell? _ _ hw234_0; first | rwa [add_block] at this | exact this) GW229.out)) | (show (Addr.add _ _).block ≠ _; rw [add_block]; exact Nat.ne_of_lt (Nat.lt_of_lt_of_le (by have := World.block_lt_of_cell? _ _ hw234_0; first | rwa [add_block] at this | exact this) GW229.out)) | (dsimp only; exact Nat.ne_of_lt (Nat.lt_of_lt_of_le (by have := World.block_lt_of_cell? _ _ hw234_0; first | rwa [add_block] at this | exact this) GW229.out))) _).trans (((cell_far (p := ⟨gb229, _, none⟩) (by first | exact Nat.ne_of_lt (Nat.lt_of_lt_of_le (by have := World.block_lt_of_cell? _ _ hw234_0; first | rwa [add_block] at this | exact this) GW229.out) | (rw [add_block]; exact Nat.ne_of_lt (Nat.lt_of_lt_of_le (by have := World.block_lt_of_cell? _ _ hw234_0; first | rwa [add_block] at this | exact this) GW229.out)) | (show (Addr.add _ _).block ≠ _; rw [add_block]; exact Nat.ne_of_lt (Nat.lt_of_lt_of_le (by have := World.block_lt_of_cell? _ _ hw234_0; first | rwa [add_block] at this | exact this) GW229.out)) | (dsimp only; exact Nat.ne_of_lt (Nat.lt_of_lt_of_le (by have := World.block_lt_of_cell? _ _ hw234_0; first | rwa [add_block] at this | exact this) GW229.out))) _).trans (((cell_far (p := ⟨gb229, _, none⟩) (by first | exact Nat.ne_of_lt (Nat.lt_of_lt_of_le (by have := World.block_lt_of_cell? _ _ hw234_0; first | rwa [add_block] at this | exact this) GW229.out) | (rw [add_block]; exact Nat.ne_of_lt (Nat.lt_of_lt_of_le (by have := World.block_lt_of_cell? _ _ hw234_0; first | rwa [add_block] at this | exact this) GW229.out)) | (show (Addr.add _ _).block ≠ _; rw [add_block]; exact Nat.ne_of_lt (Nat.lt_of_lt_of_le (by have := World.block_lt_of_cell? _ _ hw234_0; first | rwa [add_block] at this | exact this) GW229.out)) | (dsimp only; exact Nat.ne_of_lt (Nat.lt_of_lt_of_le (by have := World.block_lt_of_cell? _ _ hw234_0; first | rwa [add_block] at this | exact this) GW229.out))) _).trans (hHeld.2.2))))))⟩ (fun hHeld => ?_)
             clear hK K
             refine done_ (done_of HT_.out (by kernel_rfl)) ?_
             try go_wp2
             refine bodyPost_ret (results_cell_row rfl _ _ gb229 34 #[.int .i64 t231, .int .i64 t233, .int .i64 t235] (0, 0) _ rfl (by (with_reducible repeat (first | refine blk_drewN ?_ _ | refine blk_drew ?_ | refine blk_alloc ?_ _)); refine blk_put (cs := #[.int .i64 t231, .int .i64 t233, .int .i64 0]) ?_ 2 _ rfl; (with_reducible repeat (first | refine blk_drewN ?_ _ | refine blk_drew ?_ | refine blk_alloc ?_ _)); refine blk_put (cs := #[.int .i64 t231, .int .i64 0, .int .i64 0]) ?_ 1 _ rfl; (with_reducible repeat (first | refine blk_drewN ?_ _ | refine blk_drew ?_ | refine blk_alloc ?_ _)); refine blk_put (cs := #[.int .i64 0, .int .i64 0, .int .i64 0]) ?_ 0 _ rfl; exact ub_ BK229.out) Tryz.underlying34 rfl (by kernel_rfl)) rfl ?_
             exact ⟨by first | rfl | (simp [errW_none, errW_some] <;> rfl) | (simp only [← hji6, ← hji10]; first | rfl | (simp [errW_none, errW_some] <;> rfl)) | (simp [*, errW_none, errW_some] <;> rfl), by repeat (with_reducible first | exact HB.out | apply below_alloc | apply pw_below_drewN | apply below_drew1 | refine below_set ?_ GE229.out)⟩
           · rw [if_neg c12] at H
             exact absurd H (by simp)
         · rw [if_neg c11] at H
           exact absurd H (by simp)
       · rw [if_neg c8] at H
         exact absurd H (by simp)
     · rw [if_neg c7] at H
       exact absurd H (by simp)
   · rw [if_neg c4] at H
     exact absurd H (by simp)
 · rw [if_neg c3] at H
   exact absurd H (by simp)
def ambidexterref11_small.f (a0 : Int) : Option (Bool) := if a0 ≥ (-999999999) then (some (decide (a0 ≤ 999999999))) else (some false)
theorem ambidexterref11_small.calls (a0 : Int) (r : Bool) (w : World) (h : ambidexterref11_small.f a0 = some r) :
 Calls Tryz.prog 66 #[.int .i64 a0] w fun e w' => e = .returned (.bool r) ∧ Drawn0 w w' := by
 have H : (if a0 ≥ (-999999999) then (some (decide (a0 ≤ 999999999))) else (some false)) = some r := h
 clear h
 by_cases c2 : a0 ≥ (-999999999)
 · rw [if_pos c2] at H
   have c2b0 : decide ((-999999999) ≤ a0) = true := decide_eq_true c2
   clear c2
   obtain rfl := Option.some.inj H
   go_enter Tryz.func66, Tryz.ntmps66
   go_wp2
   go_ret
   exact ⟨by first | rfl | (simp; done) | (simp [*]; done), by repeat (first | exact Drawn0.refl _ | apply Drawn0.step)⟩
 · rw [if_neg c2] at H
   have c2b0 : decide ((-999999999) ≤ a0) = false := decide_eq_false c2
   clear c2
   obtain rfl := Option.some.inj H
   go_enter Tryz.func66, Tryz.ntmps66
   go_wp2
   go_ret
   exact ⟨by first | rfl | (simp; done) | (simp [*]; done), by repeat (first | exact Drawn0.refl _ | apply Drawn0.step)⟩
def kindS (s : ByteArray) : Int := if 1 ≤ wordIx s then wordIx s else 0
theorem kind_l0 (l : List ByteArray) (s : ByteArray) (hl : l.length ≤ 1000) : ∀ (d k k' : Nat) (i : Int), 0 ≤ i → i ≤ l.length → (l.length : Int) - i = d → d < k → d < k' → ∃ r, slices_Index_string_string.l0 k l s l.length i = some r ∧ (r = -1 ∨ i ≤ r) ∧ ambidexterref11_kind.l0 k' s l i = some (if r = -1 then 0 else r) := by
 intro d
 induction d with
 | zero =>
  intro k k' i h0 h1 hd hk hk'
  obtain ⟨k, rfl⟩ : ∃ m, k = m + 1 := ⟨k - 1, by omega⟩
  obtain ⟨k', rfl⟩ : ∃ m, k' = m + 1 := ⟨k' - 1, by omega⟩
  exact ⟨-1, by rw [slices_Index_string_string.l0, if_neg (by omega)], .inl rfl, by rw [ambidexterref11_kind.l0, if_neg (by omega)]; rfl⟩
 | succ d ih =>
  intro k k' i h0 h1 hd hk hk'
  obtain ⟨k, rfl⟩ : ∃ m, k = m + 1 := ⟨k - 1, by omega⟩
  obtain ⟨k', rfl⟩ : ∃ m, k' = m + 1 := ⟨k' - 1, by omega⟩
  have e1 : slices_Index_string_string.l0 (k + 1) l s l.length i = if s.toList = (rdOf ByteArray.empty l i).toList then some i else slices_Index_string_string.l0 k l s l.length (wrap64 (i + 1)) := by
   rw [slices_Index_string_string.l0, if_pos (show i < (l.length : Int) from by omega), if_pos h0, if_pos (show i < (l.length : Int) from by omega)]
  have e2 : ambidexterref11_kind.l0 (k' + 1) s l i = if (rdOf ByteArray.empty l i).toList = s.toList then some i else ambidexterref11_kind.l0 k' s l (wrap64 (i + 1)) := by
   rw [ambidexterref11_kind.l0, if_pos (show i < (l.length : Int) from by omega), if_pos h0]
  have hw : wrap64 (i + 1) = i + 1 := by unfold wrap64; omega
  rw [hw] at e1 e2
  by_cases he : s.toList = (rdOf ByteArray.empty l i).toList
  · rw [if_pos he] at e1
    rw [if_pos he.symm] at e2
    exact ⟨i, e1, .inr (Int.le_refl _), by rw [e2, if_neg (show ¬ i = -1 from by omega)]⟩
  · rw [if_neg he] at e1
    rw [if_neg (fun e => he e.symm)] at e2
    obtain ⟨r, h, hr, h'⟩ := ih k k' (i + 1) (by omega) (by omega) (by omega) (by omega) (by omega)
    exact ⟨r, e1.trans h, by omega, e2.trans h'⟩
theorem kindR_f (s : ByteArray) (k : Nat) (hk : 10 ≤ k) : ambidexterref11_kind.f k s = some (kindS s) := by
 have h := (wordIx_f s).1
 rw [slices_Index_string_string.f, slices_Index_string_string.l0, if_pos (by decide), if_pos (by decide), if_pos (by decide)] at h
 obtain ⟨r, hr, hr2, hk2⟩ := kind_l0 wordsL s (by decide) 8 19 k 1 (by decide) (by decide) (by decide) (by decide) (by omega)
 have e : ambidexterref11_kind.f k s = ambidexterref11_kind.l0 k s wordsL 1 := rfl
 rw [e, hk2, kindS]
 by_cases h0 : s.toList = (rdOf ByteArray.empty wordsL 0).toList
 · rw [if_pos h0] at h
   have h := Option.some.inj h
   have hs : s = ⟨#[]⟩ := by
    rw [ByteArray.toList_eq, ByteArray.toList_eq] at h0
    exact ByteArray.ext (Array.toList_inj.1 h0)
   subst hs
   have hr0 : r = -1 := Option.some.inj (hr.symm.trans (by decide +kernel))
   rw [if_pos hr0, if_neg (by omega)]
 · rw [if_neg h0, show wrap64 (0 + 1) = 1 from by unfold wrap64; omega, hr] at h
   have h := Option.some.inj h
   rw [← h]
   by_cases h1 : r = -1
   · rw [if_pos h1, if_neg (by omega)]
   · rw [if_neg h1, if_pos (by omega)]
theorem kind_range (s : ByteArray) : 0 ≤ kindS s ∧ kindS s ≤ 8 := by
 have h := (wordIx_f s).2
 unfold kindS
 split <;> omega
def fitsB (t : S67) (c : Int) : Bool :=
 if c = 97 then isArm t else if c = 110 then t.f0 == 1 && (decide ((t.f1.size : Int) ≤ 12) && kindS t.f1 == 0) else if c = 105 then t.f0 == 2 else t.f0 == 3 && bt t.f1 0 == c
theorem fits_f (t : S67) (c : Int) (h : t.f0 = 3 → 0 < t.f1.size) : ambidexterref11_fits.f 12 t.f0 t.f1 t.f2 c = some (fitsB t c) := by
 unfold ambidexterref11_fits.f fitsB isArm
 rw [kindR_f _ _ (by decide)]
 simp only [Option.bind_some]
 repeat' split
 all_goals simp_all
 all_goals omega
def rtoldS (e p : Int) (s : Rs) : Rs := if tellB s.fl e = true then { s with fl := s.fl ++ [⟨e, p⟩], over := true } else { s with fl := s.fl ++ [⟨e, p⟩], toks := skipS s.toks }
def headS (fin : Int) (f : ByteArray) : Nat → Nat → Rs → List ByteArray → Rs × List ByteArray × Bool
 | 0, _, s, out => (s, out, true)
 | m + 1, q, s, out => match s.toks with
  | [] => (rtoldS 3 fin s, out, false)
  | t :: ts => if fitsB t (bt f q) = true then headS fin f m (q + 1) { s with toks := ts } (if t.f0 = 3 then out else out ++ [t.f1]) else (rtoldS 110 t.f2 s, out, false)
def intS (s : ByteArray) : Int := (ambidexterref11_Int.f (s.size + 1) s).getD 0
theorem int_l0 (s : ByteArray) (hs : s.size ≤ 1000000) : ∀ (d k : Nat) (n sg : Int) (i : Nat), i ≤ s.size → s.size - i = d → d < k → ∃ r, ambidexterref11_Int.l0 k s n sg i = some r := by
 intro d
 induction d with
 | zero =>
  intro k n sg i hi hd hk
  obtain ⟨k, rfl⟩ : ∃ m, k = m + 1 := ⟨k - 1, by omega⟩
  exact ⟨_, by rw [ambidexterref11_Int.l0, if_neg (by omega)]⟩
 | succ d ih =>
  intro k n sg i hi hd hk
  obtain ⟨k, rfl⟩ : ∃ m, k = m + 1 := ⟨k - 1, by omega⟩
  have hw : wrap64 ((i : Int) + 1) = ((i + 1 : Nat) : Int) := by unfold wrap64; omega
  rw [ambidexterref11_Int.l0, if_pos (by omega), if_pos (by omega), hw]
  by_cases hc : bt s i = 45
  · rw [if_pos hc]; exact ih k _ _ (i + 1) (by omega) (by omega) (by omega)
  · rw [if_neg hc]; exact ih k _ _ (i + 1) (by omega) (by omega) (by omega)
theorem int_lift {s : ByteArray} {r : Int} {k k' : Nat} (hk : k ≤ k') (h : ambidexterref11_Int.f k s = some r) : ambidexterref11_Int.f k' s = some r := by
 induction hk with
 | refl => exact h
 | step _ ih => exact ambidexterref11_Int.mono _ _ _ ih
theorem int_f (s : ByteArray) (hs : s.size ≤ 1000000) {k : Nat} (hk : s.size + 1 ≤ k) : ambidexterref11_Int.f k s = some (intS s) := by
 obtain ⟨r, hr⟩ := int_l0 s hs (s.size - 0) (s.size + 1) 0 1 0 (by omega) rfl (by omega)
 have hr' : ambidexterref11_Int.f (s.size + 1) s = some r := hr
 rw [int_lift hk hr', intS, hr']; rfl
def jointsS (l : List ByteArray) (i : Int) : S34 := ⟨intS (rdOf ByteArray.empty l i), intS (rdOf ByteArray.empty l (i + 1)), intS (rdOf ByteArray.empty l (i + 2))⟩
theorem joints_f (l : List ByteArray) (i : Nat) (hi : i + 2 < l.length) (hl : l.length ≤ 100000) (hs : ∀ s ∈ l, s.size ≤ 100000) : ambidexterref11_joints.f 100001 l i = some ((jointsS l i).f0, (jointsS l i).f1, (jointsS l i).f2) := by
 have hw1 : wrap64 ((i : Int) + 1) = (i : Int) + 1 := by unfold wrap64; omega
 have hw2 : wrap64 ((i : Int) + 2) = (i : Int) + 2 := by unfold wrap64; omega
 have hr : ∀ j : Nat, j < l.length → (rdOf ByteArray.empty l (j : Int)).size ≤ 100000 := by
  intro j hj
  have e : rdOf ByteArray.empty l (j : Int) = l[j] := by simp [rdOf, hj]
  rw [e]; exact hs _ (List.getElem_mem hj)
 have h0 := hr i (by omega)
 have h1 := hr (i + 1) (by omega)
 have h2 := hr (i + 2) (by omega)
 rw [show ((i + 1 : Nat) : Int) = (i : Int) + 1 from rfl] at h1
 rw [show ((i + 2 : Nat) : Int) = (i : Int) + 2 from rfl] at h2
 unfold ambidexterref11_joints.f jointsS
 rw [hw1, hw2, if_pos (by omega), if_pos (by omega), int_f _ (by omega) (by omega)]
 simp only [Option.bind_some]
 rw [if_pos (by omega), if_pos (by omega), int_f _ (by omega) (by omega)]
 simp only [Option.bind_some]
 rw [if_pos (by omega), if_pos (by omega), int_f _ (by omega) (by omega)]
 rfl
def formS (k : Int) : ByteArray :=
 if k = 1 then ⟨#[97, 40, 105, 44, 105, 44, 105, 41, 59]⟩ else if k = 2 then ⟨#[97, 59]⟩ else if k = 3 ∨ k = 4 ∨ k = 5 then ⟨#[97, 110, 59]⟩ else if k = 6 then ⟨#[105, 59]⟩ else if k = 7 then ⟨#[110, 110, 123]⟩ else ⟨#[40, 105, 44, 105, 44, 105, 41, 40, 105, 44, 105, 44, 105, 41, 59]⟩
theorem form_f {k : Int} (h1 : 1 ≤ k) (h8 : k ≤ 8) : ∃ b, ambidexterref11_Form.f k = some b ∧ ambidexterref11_spelled.f 20 b = some (formS k) := by
 obtain rfl | rfl | rfl | rfl | rfl | rfl | rfl | rfl : k = 1 ∨ k = 2 ∨ k = 3 ∨ k = 4 ∨ k = 5 ∨ k = 6 ∨ k = 7 ∨ k = 8 := by omega
 all_goals exact ⟨_, rfl, by decide +kernel⟩
def FillOK (k : Int) (l : List ByteArray) : Prop :=
 l.length ≤ 100 ∧ (∀ s ∈ l, s.size ≤ 100000) ∧ if k = 6 then 1 ≤ l.length else if k = 7 then 2 ≤ l.length else if k = 8 then 6 ≤ l.length else 1 ≤ l.length ∧ (k = 1 → 4 ≤ l.length ∧ (intS (rdOf ByteArray.empty l 0) = 0 ∨ intS (rdOf ByteArray.empty l 0) = 1)) ∧ (k = 3 ∨ k = 4 ∨ k = 5 → 2 ≤ l.length)
instance (k : Int) (l : List ByteArray) : Decidable (FillOK k l) := by unfold FillOK; infer_instance
def filledS (k c : Int) (l : List ByteArray) : S37 :=
 if k = 6 then ⟨6, 0, ⟨#[]⟩, ⟨#[]⟩, intS (rdOf ByteArray.empty l 0), ⟨⟨0, 0, 0⟩, ⟨0, 0, 0⟩⟩, [], c⟩
 else if k = 7 then ⟨7, 0, rdOf ByteArray.empty l 1, rdOf ByteArray.empty l 0, 0, ⟨⟨0, 0, 0⟩, ⟨0, 0, 0⟩⟩, [], c⟩
 else if k = 8 then ⟨8, 0, ⟨#[]⟩, ⟨#[]⟩, 0, ⟨jointsS l 0, jointsS l 3⟩, [], c⟩
 else if k = 1 then ⟨1, intS (rdOf ByteArray.empty l 0), ⟨#[]⟩, ⟨#[]⟩, 0, toOf (intS (rdOf ByteArray.empty l 0)) (jointsS l 1), [], c⟩
 else if k = 3 then ⟨3, intS (rdOf ByteArray.empty l 0), rdOf ByteArray.empty l 1, ⟨#[]⟩, 0, ⟨⟨0, 0, 0⟩, ⟨0, 0, 0⟩⟩, [], c⟩
 else if k = 2 then ⟨2, intS (rdOf ByteArray.empty l 0), ⟨#[]⟩, ⟨#[]⟩, 0, ⟨⟨0, 0, 0⟩, ⟨0, 0, 0⟩⟩, [], c⟩
 else ⟨k, intS (rdOf ByteArray.empty l 0), ⟨#[]⟩, rdOf ByteArray.empty l 1, 0, ⟨⟨0, 0, 0⟩, ⟨0, 0, 0⟩⟩, [], c⟩
def keyS (t : S67) : Int := if t.f0 = 1 then kindS t.f1 else 0
def rstmtE (fin c : Int) (l : List ByteArray) (r : List S37 × Rs) : Option (Option S37 × Rs) :=
 if r.2.over = true then some (none, r.2)
 else if 100 < r.2.fl.length then none
 else some (if (headS fin ⟨#[125]⟩ 1 0 r.2 []).2.2 = true then some { filledS 7 c l with f6 := r.1 } else none, (headS fin ⟨#[125]⟩ 1 0 r.2 []).1)
def rstmtH (rec : Int → Rs → Option (List S37 × Rs)) (fin deep k c : Int) (h : Rs × List ByteArray × Bool) : Option (Option S37 × Rs) :=
 if h.2.2 = false then some (none, h.1)
 else if ¬ FillOK k h.2.1 then none
 else if k ≠ 7 then some (some (filledS k c h.2.1), h.1)
 else (rec (wrap64 (deep + 1)) h.1).bind fun r => rstmtE fin c h.2.1 r
def rstmtK (rec : Int → Rs → Option (List S37 × Rs)) (fin deep k c : Int) (s s1 : Rs) : Option (Option S37 × Rs) :=
 if k = 0 then some (none, rtoldS 110 c s)
 else if k = 7 ∧ deep = 4 then some (none, rtoldS 2 c s1)
 else rstmtH rec fin deep k c (headS fin (formS k) (formS k).size 0 s1 [])
def rstmtS (rec : Int → Rs → Option (List S37 × Rs)) (fin deep : Int) (s : Rs) : Option (Option S37 × Rs) := match s.toks with
 | [] => none
 | t :: ts => rstmtK rec fin deep (keyS t) t.f2 s { s with toks := ts }
def rstmtsS (fin : Int) : Nat → Int → Rs → List S37 → Option (List S37 × Rs)
 | 0, _, _, _ => none
 | k + 1, deep, s, out =>
  if s.over = true ∨ s.toks = [] then some (out, s)
  else if isSign ⟨#[125]⟩ (lookS fin s.toks) = true then
   if deep > 0 then some (out, s)
   else if 100 < s.fl.length then none
   else rstmtsS fin k deep { s with fl := s.fl ++ [⟨110, (lookS fin s.toks).f2⟩], over := (((s.fl.length + 1 : Nat) : Int) == 20), toks := s.toks.tail } out
  else if 100 < s.fl.length ∨ 1000 < out.length then none
  else if wrap64 (s.n + 1) > 64 then some (out, { s with n := wrap64 (s.n + 1), fl := s.fl ++ [⟨2, (lookS fin s.toks).f2⟩], over := true })
  else (rstmtS (fun d s => rstmtsS fin k d s []) fin deep { s with n := wrap64 (s.n + 1) }).bind fun r => rstmtsS fin k deep r.2 (match r.1 with | some x => out ++ [x] | none => out)
def KeepC (S : Nat → Prop) (W : World) (B : Option Addr) (fl : List S40) : Prop := ∀ W' : World, (∀ k, k < W.heap.size → ¬ S k → W'.heap[k]? = W.heap[k]?) → Kd.C k40 W' B fl.length fl
theorem KeepC.here {S : Nat → Prop} {W : World} {B : Option Addr} {fl : List S40} (h : KeepC S W B fl) : Kd.C k40 W B fl.length fl := h W (fun _ _ _ => rfl)
theorem KeepC.below {S : Nat → Prop} {W W' : World} {B : Option Addr} {fl : List S40} (h : KeepC S W B fl) (hb : Below W.heap.size W W') : KeepC S W' B fl := fun W2 h2 => h W2 (fun k hk hs => (h2 k (Nat.lt_of_lt_of_le hk hb.size) hs).trans (hb.block k hk))
theorem KeepC.frame {S : Nat → Prop} {W W' : World} {B : Option Addr} {fl : List S40} (h : KeepC S W B fl) (hb : Below W.heap.size W W') : KeepC (fun k => S k ∨ (W.heap.size ≤ k ∧ k < W'.heap.size)) W' B fl := fun W2 h2 => h W2 (fun k hk hs => (h2 k (Nat.lt_of_lt_of_le hk hb.size) (fun e => e.elim hs (fun e => by omega))).trans (hb.block k hk))
theorem KeepC.less {S S' : Nat → Prop} {W : World} {B : Option Addr} {fl : List S40} (h : KeepC S' W B fl) (hs : ∀ k, S k → S' k) : KeepC S W B fl := fun W2 h2 => h W2 (fun k hk hn => h2 k hk (fun e => hn (hs k e)))
theorem KeepC.set {S : Nat → Prop} {W : World} {B : Option Addr} {fl : List S40} (h : KeepC S W B fl) {p : Addr} (hp : S p.block) (v : Value) : KeepC S (W.setCell p v) B fl := fun W2 h2 => h W2 (fun k hk hn => by
 have hne : k ≠ p.block := fun e => hn (e ▸ hp)
 rw [h2 k (by simpa using hk) hn]
 exact Below.heap_setCell W p v k hne)
theorem keep_of_R {S : Nat → Prop} {W : World} {base : Nat} {ok : Nat → Prop} {B : Option Addr} {c : Nat} {fl : List S40} (h : Kd.R k40 40 W base ok (.slice B fl.length c) fl) (hs : ∀ k, S k → k < base) : KeepC S W B fl := fun W2 h2 =>
 (Kd.R_reads' (Kd.R_step (Kd.R_bound h) (fun k ho hk => h2 k hk (fun e => by have := hs k e; have := ho.2.1; omega)))).2.2
def IsSt (A : Option Addr) (c : Nat) (ts : List S67) (fin : Int) (S : Nat → Prop) (W : World) (v : Array Value) (s : Rs) : Prop :=
 ∃ (i : Nat) (B : Option Addr) (fc : Nat), v = stV A ts.length c i fin s.n B s.fl.length fc s.over ∧ i ≤ ts.length ∧ s.toks = ts.drop i ∧ s.fl.length ≤ fc ∧ KeepC S W B s.fl
theorem told_is {A : Option Addr} {c : Nat} {ts : List S67} {i : Nat} {fin n : Int} {fl : List S40} {o : Bool} {e p : Int} {w : World} {en : Ending} {w' : World} {s1 : Rs} (h : ToldOut A c ts i fin n fl o e p w en w') (hs1 : rtoldS e p ⟨ts.drop i, n, fl, o⟩ = s1) :
 ∃ (i1 : Nat) (B1 : Option Addr) (fc1 : Nat), en = .returned (.agg (stV A ts.length c i1 fin s1.n B1 s1.fl.length fc1 s1.over)) ∧ i1 ≤ ts.length ∧ s1.toks = ts.drop i1 ∧ s1.fl.length ≤ fc1 ∧ Kd.R k40 40 w' w.heap.size (fun _ => True) (.slice B1 s1.fl.length fc1) s1.fl ∧ Below w.heap.size w w' := by
 subst hs1
 obtain ⟨j, B', fc', rfl, hj, hs, hR, hb⟩ := h
 have hf := (Kd.R_reads' hR).2.1
 unfold rtoldS
 cases ht : tellB fl e with
 | true =>
  rw [if_pos ht] at hs
  subst hs
  simp only [ht, if_true, Bool.or_true]
  exact ⟨j, B', fc', by simp, hj, rfl, by simpa using hf, by simpa using hR, hb⟩
 | false =>
  rw [if_neg (by rw [ht]; decide)] at hs
  simp only [ht, Bool.or_false]
  exact ⟨j, B', fc', by simp, hj, hs.symm, by simpa using hf, by simpa using hR, hb⟩
def HeadOut (A : Option Addr) (c : Nat) (ts : List S67) (fin : Int) (S : Nat → Prop) (w : World) (R : Rs × List ByteArray × Bool) (en : Ending) (w' : World) : Prop :=
 ∃ (v : Array Value) (A' : Option Addr) (c' : Nat), en = .returned (.tuple #[.agg v, .slice A' R.2.1.length c', .bool R.2.2]) ∧ IsSt A c ts fin S w' v R.1 ∧ Kd.R Kd.string 9 w' w.heap.size (fun _ => True) (.slice A' R.2.1.length c') R.2.1 ∧ Below w.heap.size w w'
theorem wrap_nat (q : Nat) (h : q ≤ 1000000) : wrap64 ((q : Int) + 1) = ((q + 1 : Nat) : Int) := by unfold wrap64; omega
theorem head_end {A : Option Addr} {c : Nat} {ts : List S67} {fin : Int} {S : Nat → Prop} {w W W2 : World} {R : Rs × List ByteArray × Bool} {s1 : Rs} {out : List ByteArray} {i1 fc1 co base1 : Nat} {B1 Ao : Option Addr} {ok : Nat → Prop}
 (hi : i1 ≤ ts.length) (hs : s1.toks = ts.drop i1) (hf : s1.fl.length ≤ fc1) (hF : Kd.R k40 40 W base1 (fun _ => True) (.slice B1 s1.fl.length fc1) s1.fl) (hbase : w.heap.size + 1 < base1) (hS : ∀ k, S k → k < w.heap.size)
 (hO : Kd.R Kd.string 9 W w.heap.size ok (.slice Ao out.length co) out) (hok : ∀ k, ok k → k ≠ w.heap.size + 1) (hB : Below w.heap.size w W) (hR : R = (s1, out, false)) (y0 y1 y2 y3 y4 y5 : Value)
 (hW : W2 = ((((((W.setCell ⟨w.heap.size + 1, 0, none⟩ y0).setCell ⟨w.heap.size + 1, 1, none⟩ y1).setCell ⟨w.heap.size + 1, 2, none⟩ y2).setCell ⟨w.heap.size + 1, 3, none⟩ y3).setCell ⟨w.heap.size + 1, 4, none⟩ y4).setCell ⟨w.heap.size + 1, 5, none⟩ y5)) :
 HeadOut A c ts fin S w R (.returned (.tuple #[.agg (stV A ts.length c i1 fin s1.n B1 s1.fl.length fc1 s1.over), .slice Ao out.length co, .bool false])) W2 := by
 subst hR hW
 have hR := set6_R (b := w.heap.size + 1) (y0 := y0) (y1 := y1) (y2 := y2) (y3 := y3) (y4 := y4) (y5 := y5) hO hB (by omega) hok
 have hF1 := Kd.R_mono (Kd.R_bound hF) (ok' := fun k => base1 ≤ k) (fun k hk => hk.2.1)
 have hne : ∀ k, base1 ≤ k → k ≠ w.heap.size + 1 := fun k hk => by omega
 exact ⟨_, Ao, co, rfl, ⟨i1, B1, fc1, rfl, hi, hs, hf, keep_of_R (Kd.R_far (Kd.R_far (Kd.R_far (Kd.R_far (Kd.R_far (Kd.R_far hF1 hne _) hne _) hne _) hne _) hne _) hne _) (fun k hk => by have := hS k hk; omega)⟩, Kd.R_mono hR.1 (fun _ _ => trivial), hR.2⟩
theorem len_ok {l q s : Nat} (h : l ≤ q) (hq : q < s) (hs : s ≤ 1000) : (l + 1) * 16 ≤ 140737488355328 := by omega
theorem tok3 {W : World} {b : Nat} {x0 x1 x2 : Value} (h : W.heap[b]? = some (.cells #[x0, x1, x2] 67 (0, 0))) :
 W.cell? ⟨b, 0, none⟩ = some x0 ∧ W.cell? ⟨b, 1, none⟩ = some x1 ∧ W.cell? ⟨b, 2, none⟩ = some x2 ∧ W.frozen? ⟨b, 0, none⟩ = false ∧ W.frozen? ⟨b, 1, none⟩ = false ∧ W.frozen? ⟨b, 2, none⟩ = false :=
 ⟨blk_cell h 0, blk_cell h 1, blk_cell h 2, blk_frozen h 0, blk_frozen h 1, blk_frozen h 2⟩
theorem head_calls (A : Option Addr) (c : Nat) (ts : List S67) (i : Nat) (fin n : Int) (B : Option Addr) (fc : Nat) (fl : List S40) (o : Bool) (f : ByteArray) (w : World) (hC : Kd.C k67 w A ts.length ts) (hc : ts.length ≤ c) (hi : i ≤ ts.length) (S : Nat → Prop) (hF : KeepC S w B fl) (hSw : ∀ k, S k → k < w.heap.size) (hfc : fl.length ≤ fc) (hl : fl.length ≤ 100) (hn : ts.length ≤ 1000000) (hsz : f.size ≤ 1000) (hS : ∀ t ∈ ts, t.f0 = 3 → 0 < t.f1.size) :
 Calls Tryz.prog 57 #[.agg (stV A ts.length c i fin n B fl.length fc o), .string f] w (HeadOut A c ts fin S w (headS fin f f.size 0 ⟨ts.drop i, n, fl, o⟩ [])) := by
 have hu := Tryz.underlying50
 have HC := Aside0.mk hC
 have HF := Aside0.mk hF
 have HS := Aside0.mk hS
 clear hC hF hS
 obtain ⟨R, hR⟩ : ∃ R, R = headS fin f f.size 0 ⟨ts.drop i, n, fl, o⟩ [] := ⟨_, rfl⟩
 rw [← hR]
 have HR := Aside0.mk hR
 clear hR
 have H0 := Aside0.mk (blk_alloc (blk_alloc (heap_alloc_new w (.cells (stV A ts.length c i fin n B fl.length fc o) 50)) (.cells zSt 50)) (.cells #[] 9))
 have H1 : Aside0 ((((w.alloc (.cells (stV A ts.length c i fin n B fl.length fc o) 50)).alloc (.cells zSt 50)).alloc (.cells #[] 9)).heap[w.heap.size + 1]? = some (.cells zSt 50 (0, 0))) := ⟨by have h := (blk_alloc (heap_alloc_new (w.alloc (.cells (stV A ts.length c i fin n B fl.length fc o) 50)) (.cells zSt 50)) (.cells #[] 9)); simpa using h⟩
 have HB := Aside0.mk (below_alloc (below_alloc (below_alloc (Below.refl w.heap.size w) (.cells (stV A ts.length c i fin n B fl.length fc o) 50)) (.cells zSt 50)) (.cells #[] 9))
 have HO : Aside0 (Kd.R Kd.string 9 (((w.alloc (.cells (stV A ts.length c i fin n B fl.length fc o) 50)).alloc (.cells zSt 50)).alloc (.cells #[] 9)) w.heap.size (fun k => (True ∧ k ≠ w.heap.size) ∧ k ≠ w.heap.size + 1) (.slice (some ⟨w.heap.size + 1 + 1, 0, none⟩) 0 0) []) :=
  ⟨Kd.R_types (Kd.R_types (by have h := R_new0' Kd.string ((w.alloc (.cells (stV A ts.length c i fin n B fl.length fc o) 50)).alloc (.cells zSt 50)) 9 w.heap.size (by simp; omega); simpa using h) H0.out (by decide)) H1.out (by decide)⟩
 go_enter Tryz.func57, Tryz.ntmps57
 go_wp2_with fail
 go_loopg [7, 8] f.size (fun kq v7 v8 wr => ∃ (q j : Nat) (out : List ByteArray), v8 = .int .i64 q ∧ Aside0 (q + kq = f.size ∧ j ≤ ts.length ∧ out.length ≤ q ∧ R = headS fin f kq q ⟨ts.drop j, n, fl, o⟩ out ∧ wr.heap[w.heap.size]? = some (.cells (stV A ts.length c j fin n B fl.length fc o) 50 (0, 0)) ∧ wr.heap[w.heap.size + 1]? = some (.cells zSt 50 (0, 0)) ∧ Kd.R Kd.string 9 wr w.heap.size (fun k => (True ∧ k ≠ w.heap.size) ∧ k ≠ w.heap.size + 1) v7 out ∧ Below w.heap.size w wr))
 case atStart => exact ⟨0, i, [], rfl, ⟨by omega, hi, Nat.le_refl _, HR.out, H0.out, H1.out, HO.out, HB.out⟩⟩
 case round =>
  clear H0 H1 HO HB HR
  obtain ⟨q, j, out, rfl, ⟨hk, hjl, hol, hr, h0, h1, hO, hB⟩⟩ := hrel
  have HR := Aside0.mk hr
  have H0 := Aside0.mk h0
  have H1 := Aside0.mk h1
  have HO := Aside0.mk hO
  have HB := Aside0.mk hB
  clear hr h0 h1 hO hB
  have hz := row6 H0.out
  have hz1 := row6 H1.out
  have hb0 := blk_lt H0.out
  have hb1 := blk_lt H1.out
  obtain ⟨Ao, co, rfl⟩ := Kd.R_slice HO.out
  go_split_ands
  rcases gk with _ | k1
  · have cb : decide ((q : Int) < (f.size : Int)) = false := decide_eq_false (by omega)
    go_wp2_with fail
    refine bodyPost_ret (results_ctt rfl _ _ (w.heap.size + 1) 50 (stV A ts.length c j fin n B fl.length fc o) (0, 0) _ rfl (set6 H1.out) hu rfl sizeSt) rfl ?_
    have hR := set6_R (b := w.heap.size + 1) (y0 := .slice A ts.length c) (y1 := .int .i64 j) (y2 := .int .i64 fin) (y3 := .int .i64 n) (y4 := .slice B fl.length fc) (y5 := .bool o) HO.out HB.out (by omega) (fun k h => h.2)
    have hR0 : R = (⟨ts.drop j, n, fl, o⟩, out, true) := HR.out
    clear HR
    subst hR0
    exact ⟨_, Ao, co, rfl, ⟨j, B, fc, rfl, hjl, rfl, hfc, HF.out.below hR.2⟩, Kd.R_mono hR.1 (fun _ _ => trivial), hR.2⟩
  · have hq : q < f.size := by omega
    have cb : decide ((q : Int) < (f.size : Int)) = true := decide_eq_true (by omega)
    have hq1 := wrap_nat q (by omega)
    have hqA := Aside0.mk hq1
    clear hq1
    by_cases hjlt : j < ts.length
    · have cj : decide ((j : Int) ≥ (ts.length : Int)) = false := decide_eq_false (by omega)
      have hi0 : (0 : Int) ≤ (j : Int) := by omega
      have hi1 : (j : Int) < (ts.length : Int) := by omega
      obtain ⟨ad, ea, x0, x1, x2⟩ := at_T67 (Kd.C_below HC.out HB.out) (j : Int) hi0 hi1
      subst ea
      simp only [Int.toNat_natCast] at x0 x1 x2
      have hal := cell_lt x0
      have hd := drop_cons ts j (by omega)
      have hts := HS.out (rd_T67 ts (j : Int)) (by have h := List.drop_subset j ts; rw [hd] at h; exact h (List.mem_cons_self ..))
      generalize rd_T67 ts (j : Int) = t at *
      have HD := Aside0.mk hd
      have Hk := Aside0.mk hk
      have HTs := Aside0.mk hts
      clear hd hk hts
      replace hi0 := eq_true hi0
      replace hi1 := eq_true hi1
      have hjA := Aside0.mk (wrap_nat j (Nat.le_trans hjl hn))
      have hq0 : ((0 : Int) ≤ (q : Int)) = True := eq_true (Int.natCast_nonneg q)
      have hql : ((q : Int) < (f.size : Int)) = True := eq_true (Int.ofNat_lt.2 hq)
      go_wp2_with fail
      have HTk := Aside0.mk (heap_alloc_new wr (.cells #[.int .i64 t.f0, .string t.f1, .int .i64 t.f2] 67))
      have HBw := Aside0.mk (below_alloc (Below.refl wr.heap.size wr) (.cells #[.int .i64 t.f0, .string t.f1, .int .i64 t.f2] 67))
      go_region_with (first | (go_at_call 85; (with_reducible refine (ambidexterref11_fits.calls 12 t.f0 t.f1 t.f2 (((f[q]'hq).toNat : Nat) : Int) _ _ (fits_f t _ HTs.out)).mono ?_); rintro e w1 ⟨rfl, hb⟩; have HTk1 := Aside0.mk (blk_below (by first | exact HTk.out | exact blk_drew HTk.out | exact blk_drewN HTk.out _) hb); have HBw1 := Aside0.mk (below_step (by first | exact HBw.out | exact below_drew1 HBw.out | exact pw_below_drewN HBw.out _) hb); clear hb HTk HBw))
      all_goals
       have hbw := HBw1.out
       have H0n := Aside0.mk (blk_below H0.out hbw)
       have H1n := Aside0.mk (blk_below H1.out hbw)
       have HOn := Aside0.mk (Kd.R_below HO.out hbw)
       have HBn := Aside0.mk (below_step HB.out hbw)
       clear hbw H0 H1 HO HB HBw1
       have hz := row6 H0n.out
       have hz1 := row6 H1n.out
       have ht3 := tok3 HTk1.out
       have hb0 := blk_lt H0n.out
       have hb1 := blk_lt H1n.out
       go_split_ands
       have hbt : (((f[q]'hq).toNat : Nat) : Int) = bt f (q : Int) := bt_at f (q : Int) hq
       rw [hbt] at *
       have HR1 : Aside0 (R = if fitsB t (bt f q) = true then headS fin f k1 (q + 1) ⟨ts.drop (j + 1), n, fl, o⟩ (if t.f0 = 3 then out else out ++ [t.f1]) else (rtoldS 110 t.f2 ⟨ts.drop j, n, fl, o⟩, out, false)) := ⟨by rw [HR.out, headS, HD.out]⟩
       clear HR
       cases hfit : fitsB t (bt f q) with
       | false =>
        obtain ⟨s1, hs1⟩ : ∃ s1, rtoldS 110 t.f2 ⟨ts.drop j, n, fl, o⟩ = s1 := ⟨_, rfl⟩
        have hR1 := Aside0.mk (show R = (s1, out, false) from by rw [HR1.out, hfit, hs1]; rfl)
        have HS1 := Aside0.mk hs1
        clear HR1 hs1
        go_wp2_with (go_at_call 56; (with_reducible refine (told_calls (some ad) c ts j fin n B fc fl o 110 t.f2 _ (Kd.C_below HC.out HBn.out) hc hjl (HF.out.below HBn.out).here hfc hl hn).mono ?_); rintro e w2 hto; obtain ⟨i1, B1, fc1, rfl, hi1, hs2, hf1, hF1, hb⟩ := told_is hto HS1.out; have HF1 := Aside0.mk hF1; have hbs := blk_lt H1n.out; have HSd := Aside0.mk hs2; have H12 := Aside0.mk (blk_below H1n.out hb); have HO2 := Aside0.mk (Kd.R_below HOn.out hb); have HB2 := Aside0.mk (below_step HBn.out hb); have hz := row6 H12.out; have hb1 := blk_lt H12.out; clear hto hb hF1 hs2 H1n HOn HBn H0n; go_split_ands)
        refine bodyPost_ret (results_ctt rfl _ _ (w.heap.size + 1) 50 (stV (some ad) ts.length c i1 fin s1.n B1 s1.fl.length fc1 s1.over) (0, 0) _ rfl (set6 H12.out) hu rfl sizeSt) rfl ?_
        exact head_end hi1 HSd.out hf1 HF1.out hbs hSw HO2.out (fun k h => h.2) HB2.out hR1.out _ _ _ _ _ _ rfl
       | true =>
        by_cases h3 : t.f0 = 3
        · have bx : (t.f0 != 3) = false := by simp [h3]
          have hR1 := Aside0.mk (show R = headS fin f k1 (q + 1) ⟨ts.drop (j + 1), n, fl, o⟩ out from by rw [HR1.out, hfit, if_pos rfl, if_pos h3])
          have H6 := Aside0.mk (blk_put H0n.out 1 (.int .i64 ((j : Int) + 1)) rfl)
          have H7 := Aside0.mk (blk_far H1n.out (p := ⟨w.heap.size, 1, none⟩) (by simp) (.int .i64 ((j : Int) + 1)))
          have HR7 := Aside0.mk (Kd.R_far HOn.out (p := ⟨w.heap.size, 1, none⟩) (fun k h => h.1.2) (.int .i64 ((j : Int) + 1)))
          have HB7 := Aside0.mk (below_set (j := 1) (v := .int .i64 ((j : Int) + 1)) HBn.out (Nat.le_refl _))
          clear HR1 H0n H1n HOn HBn h3
          go_wp2_with fail
          go_roundg k1
          case measure => exact Nat.lt_succ_self _
          case rel => exact ⟨q + 1, j + 1, out, rfl, ⟨(Nat.succ_add_eq_add_succ q k1).trans Hk.out, hjlt, Nat.le_succ_of_le hol, hR1.out, H6.out, H7.out, HR7.out, HB7.out⟩⟩
        · have bx : (t.f0 != 3) = true := by simp [h3]
          have hR1 := Aside0.mk (show R = headS fin f k1 (q + 1) ⟨ts.drop (j + 1), n, fl, o⟩ (out ++ [t.f1]) from by rw [HR1.out, hfit, if_pos rfl, if_neg h3])
          clear HR1 h3
          go_wp2_with ((with_reducible refine gate_builtin (b := .append) (xs := #[.tmp 48, .tmp 51]) rfl ?_); refine Aside0.out ?_)
          refine Aside0.mk ?_
          refine wpList_of' (Kd.R_append_step Kd.string (w0 := w) w.heap.size rfl (.tmp 48) (.tmp 51) 86 9 (.string ⟨#[]⟩) 16 rfl Tryz.underlying86 info9 rfl (by decide) (by decide) (.slice Ao out.length co) out t.f1 [.string t.f1] (fun k => (True ∧ k ≠ w.heap.size) ∧ k ≠ w.heap.size + 1) (fun _ => False) rfl rfl rfl (fun _ h => h.elim) (fun k hk => ⟨⟨trivial, Nat.ne_of_gt (Nat.lt_of_lt_of_le hb0 hk)⟩, Nat.ne_of_gt (Nat.lt_of_lt_of_le hb1 hk)⟩) HOn.out HBn.out HBn.out.size (len_ok hol hq hsz) ?_)
          intro v1 w3 hR hb hg hat
          have N0 := Kd.R_ne HOn.out H0n.out (by decide)
          have N1 := Kd.R_ne HOn.out H1n.out (by decide)
          have H6 := Aside0.mk (blk_put ((hg.block w.heap.size (blk_lt H0n.out) N0).trans H0n.out) 1 (.int .i64 ((j : Int) + 1)) rfl)
          have H7 := Aside0.mk (blk_far ((hg.block (w.heap.size + 1) (blk_lt H1n.out) N1).trans H1n.out) (p := ⟨w.heap.size, 1, none⟩) (by simp) (.int .i64 ((j : Int) + 1)))
          have HR7 := Aside0.mk (Kd.R_far hR (p := ⟨w.heap.size, 1, none⟩) (fun k h => h.1.2) (.int .i64 ((j : Int) + 1)))
          have HB7 := Aside0.mk (below_set (j := 1) (v := .int .i64 ((j : Int) + 1)) hb (Nat.le_refl _))
          have hz := row6 ((hg.block w.heap.size (blk_lt H0n.out) N0).trans H0n.out)
          clear H0n H1n HOn HBn hR hb hg hat N0 N1
          go_split_ands
          go_wp2_with fail
          go_roundg k1
          case measure => exact Nat.lt_succ_self _
          case rel => exact ⟨q + 1, j + 1, out ++ [t.f1], rfl, ⟨(Nat.succ_add_eq_add_succ q k1).trans Hk.out, hjlt, (by rw [List.length_append]; exact Nat.succ_le_succ hol), hR1.out, H6.out, H7.out, HR7.out, HB7.out⟩⟩
    · have cj : decide ((j : Int) ≥ (ts.length : Int)) = true := decide_eq_true (by omega)
      have hd : ts.drop j = [] := List.drop_eq_nil_of_le (by omega)
      obtain ⟨s1, hs1⟩ : ∃ s1, rtoldS 3 fin ⟨ts.drop j, n, fl, o⟩ = s1 := ⟨_, rfl⟩
      have hR1 := Aside0.mk (show R = (s1, out, false) from by rw [HR.out, headS, ← hs1, hd])
      have HS1 := Aside0.mk hs1
      clear HR hs1 hd
      go_wp2_with (go_at_call 56; (with_reducible refine (told_calls A c ts j fin n B fc fl o 3 fin _ (Kd.C_below HC.out HB.out) hc hjl (HF.out.below HB.out).here hfc hl hn).mono ?_); rintro e w2 hto; obtain ⟨i1, B1, fc1, rfl, hi1, hs2, hf1, hF1, hb⟩ := told_is hto HS1.out; have HF1 := Aside0.mk hF1; have hbs := blk_lt H1.out; have HSd := Aside0.mk hs2; have H12 := Aside0.mk (blk_below H1.out hb); have HO2 := Aside0.mk (Kd.R_below HO.out hb); have HB2 := Aside0.mk (below_step HB.out hb); have hz := row6 H12.out; have hb1 := blk_lt H12.out; clear hto hb hF1 hs2 H1 HO HB H0; go_split_ands)
      refine bodyPost_ret (results_ctt rfl _ _ (w.heap.size + 1) 50 (stV A ts.length c i1 fin s1.n B1 s1.fl.length fc1 s1.over) (0, 0) _ rfl (set6 H12.out) hu rfl sizeSt) rfl ?_
      exact head_end hi1 HSd.out hf1 HF1.out hbs hSw HO2.out (fun k h => h.2) HB2.out hR1.out _ _ _ _ _ _ rfl
theorem of_drawn {W W1 : World} (h : Drawn0 W W1) : Below W.heap.size W W1 := by
 obtain ⟨m, rfl⟩ := h
 exact pw_below_drewN (Below.refl _ _) m
theorem row13 {W : World} {b : Nat} {x0 x1 x2 x3 x4 x5 x6 x7 x8 x9 x10 x11 x12 : Value} (h : W.heap[b]? = some (.cells #[x0, x1, x2, x3, x4, x5, x6, x7, x8, x9, x10, x11, x12] 37 (0, 0))) :
 (W.cell? ⟨b, 0, none⟩ = some x0 ∧ W.cell? ⟨b, 1, none⟩ = some x1 ∧ W.cell? ⟨b, 2, none⟩ = some x2 ∧ W.cell? ⟨b, 3, none⟩ = some x3 ∧ W.cell? ⟨b, 4, none⟩ = some x4 ∧ W.cell? ⟨b, 5, none⟩ = some x5 ∧ W.cell? ⟨b, 6, none⟩ = some x6 ∧ W.cell? ⟨b, 7, none⟩ = some x7 ∧ W.cell? ⟨b, 8, none⟩ = some x8 ∧ W.cell? ⟨b, 9, none⟩ = some x9 ∧ W.cell? ⟨b, 10, none⟩ = some x10 ∧ W.cell? ⟨b, 11, none⟩ = some x11 ∧ W.cell? ⟨b, 12, none⟩ = some x12) ∧
 (W.frozen? ⟨b, 0, none⟩ = false ∧ W.frozen? ⟨b, 1, none⟩ = false ∧ W.frozen? ⟨b, 2, none⟩ = false ∧ W.frozen? ⟨b, 3, none⟩ = false ∧ W.frozen? ⟨b, 4, none⟩ = false ∧ W.frozen? ⟨b, 5, none⟩ = false ∧ W.frozen? ⟨b, 6, none⟩ = false ∧ W.frozen? ⟨b, 7, none⟩ = false ∧ W.frozen? ⟨b, 8, none⟩ = false ∧ W.frozen? ⟨b, 9, none⟩ = false ∧ W.frozen? ⟨b, 10, none⟩ = false ∧ W.frozen? ⟨b, 11, none⟩ = false ∧ W.frozen? ⟨b, 12, none⟩ = false) :=
 ⟨⟨blk_cell h 0, blk_cell h 1, blk_cell h 2, blk_cell h 3, blk_cell h 4, blk_cell h 5, blk_cell h 6, blk_cell h 7, blk_cell h 8, blk_cell h 9, blk_cell h 10, blk_cell h 11, blk_cell h 12⟩, blk_frozen h 0, blk_frozen h 1, blk_frozen h 2, blk_frozen h 3, blk_frozen h 4, blk_frozen h 5, blk_frozen h 6, blk_frozen h 7, blk_frozen h 8, blk_frozen h 9, blk_frozen h 10, blk_frozen h 11, blk_frozen h 12⟩
theorem set13 {W : World} {b : Nat} {x0 x1 x2 x3 x4 x5 x6 x7 x8 x9 x10 x11 x12 y0 y1 y2 y3 y4 y5 y6 y7 y8 y9 y10 y11 y12 : Value} (h : W.heap[b]? = some (.cells #[x0, x1, x2, x3, x4, x5, x6, x7, x8, x9, x10, x11, x12] 37 (0, 0))) :
 (((((((((((((W.setCell ⟨b, 0, none⟩ y0).setCell ⟨b, 1, none⟩ y1).setCell ⟨b, 2, none⟩ y2).setCell ⟨b, 3, none⟩ y3).setCell ⟨b, 4, none⟩ y4).setCell ⟨b, 5, none⟩ y5).setCell ⟨b, 6, none⟩ y6).setCell ⟨b, 7, none⟩ y7).setCell ⟨b, 8, none⟩ y8).setCell ⟨b, 9, none⟩ y9).setCell ⟨b, 10, none⟩ y10).setCell ⟨b, 11, none⟩ y11).setCell ⟨b, 12, none⟩ y12).heap[b]? = some (.cells #[y0, y1, y2, y3, y4, y5, y6, y7, y8, y9, y10, y11, y12] 37 (0, 0)) := by
 have h : (W.setCell ⟨b, 0, none⟩ y0).heap[b]? = some (.cells #[y0, x1, x2, x3, x4, x5, x6, x7, x8, x9, x10, x11, x12] 37 (0, 0)) := blk_put h 0 y0 rfl
 have h : ((W.setCell ⟨b, 0, none⟩ y0).setCell ⟨b, 1, none⟩ y1).heap[b]? = some (.cells #[y0, y1, x2, x3, x4, x5, x6, x7, x8, x9, x10, x11, x12] 37 (0, 0)) := blk_put h 1 y1 rfl
 have h : (((W.setCell ⟨b, 0, none⟩ y0).setCell ⟨b, 1, none⟩ y1).setCell ⟨b, 2, none⟩ y2).heap[b]? = some (.cells #[y0, y1, y2, x3, x4, x5, x6, x7, x8, x9, x10, x11, x12] 37 (0, 0)) := blk_put h 2 y2 rfl
 have h : ((((W.setCell ⟨b, 0, none⟩ y0).setCell ⟨b, 1, none⟩ y1).setCell ⟨b, 2, none⟩ y2).setCell ⟨b, 3, none⟩ y3).heap[b]? = some (.cells #[y0, y1, y2, y3, x4, x5, x6, x7, x8, x9, x10, x11, x12] 37 (0, 0)) := blk_put h 3 y3 rfl
 have h : (((((W.setCell ⟨b, 0, none⟩ y0).setCell ⟨b, 1, none⟩ y1).setCell ⟨b, 2, none⟩ y2).setCell ⟨b, 3, none⟩ y3).setCell ⟨b, 4, none⟩ y4).heap[b]? = some (.cells #[y0, y1, y2, y3, y4, x5, x6, x7, x8, x9, x10, x11, x12] 37 (0, 0)) := blk_put h 4 y4 rfl
 have h : ((((((W.setCell ⟨b, 0, none⟩ y0).setCell ⟨b, 1, none⟩ y1).setCell ⟨b, 2, none⟩ y2).setCell ⟨b, 3, none⟩ y3).setCell ⟨b, 4, none⟩ y4).setCell ⟨b, 5, none⟩ y5).heap[b]? = some (.cells #[y0, y1, y2, y3, y4, y5, x6, x7, x8, x9, x10, x11, x12] 37 (0, 0)) := blk_put h 5 y5 rfl
 have h : (((((((W.setCell ⟨b, 0, none⟩ y0).setCell ⟨b, 1, none⟩ y1).setCell ⟨b, 2, none⟩ y2).setCell ⟨b, 3, none⟩ y3).setCell ⟨b, 4, none⟩ y4).setCell ⟨b, 5, none⟩ y5).setCell ⟨b, 6, none⟩ y6).heap[b]? = some (.cells #[y0, y1, y2, y3, y4, y5, y6, x7, x8, x9, x10, x11, x12] 37 (0, 0)) := blk_put h 6 y6 rfl
 have h : ((((((((W.setCell ⟨b, 0, none⟩ y0).setCell ⟨b, 1, none⟩ y1).setCell ⟨b, 2, none⟩ y2).setCell ⟨b, 3, none⟩ y3).setCell ⟨b, 4, none⟩ y4).setCell ⟨b, 5, none⟩ y5).setCell ⟨b, 6, none⟩ y6).setCell ⟨b, 7, none⟩ y7).heap[b]? = some (.cells #[y0, y1, y2, y3, y4, y5, y6, y7, x8, x9, x10, x11, x12] 37 (0, 0)) := blk_put h 7 y7 rfl
 have h : (((((((((W.setCell ⟨b, 0, none⟩ y0).setCell ⟨b, 1, none⟩ y1).setCell ⟨b, 2, none⟩ y2).setCell ⟨b, 3, none⟩ y3).setCell ⟨b, 4, none⟩ y4).setCell ⟨b, 5, none⟩ y5).setCell ⟨b, 6, none⟩ y6).setCell ⟨b, 7, none⟩ y7).setCell ⟨b, 8, none⟩ y8).heap[b]? = some (.cells #[y0, y1, y2, y3, y4, y5, y6, y7, y8, x9, x10, x11, x12] 37 (0, 0)) := blk_put h 8 y8 rfl
 have h : ((((((((((W.setCell ⟨b, 0, none⟩ y0).setCell ⟨b, 1, none⟩ y1).setCell ⟨b, 2, none⟩ y2).setCell ⟨b, 3, none⟩ y3).setCell ⟨b, 4, none⟩ y4).setCell ⟨b, 5, none⟩ y5).setCell ⟨b, 6, none⟩ y6).setCell ⟨b, 7, none⟩ y7).setCell ⟨b, 8, none⟩ y8).setCell ⟨b, 9, none⟩ y9).heap[b]? = some (.cells #[y0, y1, y2, y3, y4, y5, y6, y7, y8, y9, x10, x11, x12] 37 (0, 0)) := blk_put h 9 y9 rfl
 have h : (((((((((((W.setCell ⟨b, 0, none⟩ y0).setCell ⟨b, 1, none⟩ y1).setCell ⟨b, 2, none⟩ y2).setCell ⟨b, 3, none⟩ y3).setCell ⟨b, 4, none⟩ y4).setCell ⟨b, 5, none⟩ y5).setCell ⟨b, 6, none⟩ y6).setCell ⟨b, 7, none⟩ y7).setCell ⟨b, 8, none⟩ y8).setCell ⟨b, 9, none⟩ y9).setCell ⟨b, 10, none⟩ y10).heap[b]? = some (.cells #[y0, y1, y2, y3, y4, y5, y6, y7, y8, y9, y10, x11, x12] 37 (0, 0)) := blk_put h 10 y10 rfl
 have h : ((((((((((((W.setCell ⟨b, 0, none⟩ y0).setCell ⟨b, 1, none⟩ y1).setCell ⟨b, 2, none⟩ y2).setCell ⟨b, 3, none⟩ y3).setCell ⟨b, 4, none⟩ y4).setCell ⟨b, 5, none⟩ y5).setCell ⟨b, 6, none⟩ y6).setCell ⟨b, 7, none⟩ y7).setCell ⟨b, 8, none⟩ y8).setCell ⟨b, 9, none⟩ y9).setCell ⟨b, 10, none⟩ y10).setCell ⟨b, 11, none⟩ y11).heap[b]? = some (.cells #[y0, y1, y2, y3, y4, y5, y6, y7, y8, y9, y10, y11, x12] 37 (0, 0)) := blk_put h 11 y11 rfl
 have h : (((((((((((((W.setCell ⟨b, 0, none⟩ y0).setCell ⟨b, 1, none⟩ y1).setCell ⟨b, 2, none⟩ y2).setCell ⟨b, 3, none⟩ y3).setCell ⟨b, 4, none⟩ y4).setCell ⟨b, 5, none⟩ y5).setCell ⟨b, 6, none⟩ y6).setCell ⟨b, 7, none⟩ y7).setCell ⟨b, 8, none⟩ y8).setCell ⟨b, 9, none⟩ y9).setCell ⟨b, 10, none⟩ y10).setCell ⟨b, 11, none⟩ y11).setCell ⟨b, 12, none⟩ y12).heap[b]? = some (.cells #[y0, y1, y2, y3, y4, y5, y6, y7, y8, y9, y10, y11, y12] 37 (0, 0)) := blk_put h 12 y12 rfl
 exact h
theorem below13 {w W : World} {b : Nat} {y0 y1 y2 y3 y4 y5 y6 y7 y8 y9 y10 y11 y12 : Value} (hB : Below w.heap.size w W) (hb : w.heap.size ≤ b) : Below w.heap.size w (((((((((((((W.setCell ⟨b, 0, none⟩ y0).setCell ⟨b, 1, none⟩ y1).setCell ⟨b, 2, none⟩ y2).setCell ⟨b, 3, none⟩ y3).setCell ⟨b, 4, none⟩ y4).setCell ⟨b, 5, none⟩ y5).setCell ⟨b, 6, none⟩ y6).setCell ⟨b, 7, none⟩ y7).setCell ⟨b, 8, none⟩ y8).setCell ⟨b, 9, none⟩ y9).setCell ⟨b, 10, none⟩ y10).setCell ⟨b, 11, none⟩ y11).setCell ⟨b, 12, none⟩ y12) :=
 below_set (below_set (below_set (below_set (below_set (below_set (below_set (below_set (below_set (below_set (below_set (below_set (below_set hB hb) hb) hb) hb) hb) hb) hb) hb) hb) hb) hb) hb) hb
theorem rd_small {l : List ByteArray} (h : ∀ s ∈ l, s.size ≤ 100000) (i : Nat) (hi : i < l.length) : (rdOf ByteArray.empty l (i : Int)).size ≤ 1000000 := by
 have e : rdOf ByteArray.empty l (i : Int) = l[i] := by simp [rdOf, hi]
 rw [e]; exact Nat.le_trans (h _ (List.getElem_mem hi)) (by decide)
abbrev FilOut (k c : Int) (l : List ByteArray) (w : World) (e : Ending) (w' : World) : Prop := e = .returned (.agg (stmC (filledS k c l) (.slice none 0 0))) ∧ Below w.heap.size w w'
theorem fill_wait (c : Int) (A : Option Addr) (cl : Nat) (l : List ByteArray) (w : World) (hC : Kd.C Kd.string w A l.length l) (hcl : l.length ≤ cl) (hF : FillOK 6 l) :
 Calls Tryz.prog 60 #[.agg (stmC ⟨6, 0, ⟨#[]⟩, ⟨#[]⟩, 0, ⟨⟨0, 0, 0⟩, ⟨0, 0, 0⟩⟩, [], c⟩ (.slice none 0 0)), .slice A l.length cl] w (FilOut 6 c l w) := by
 have hu := Tryz.underlying37
 have hlen : 1 ≤ l.length := hF.2.2
 have hi := int_f (rdOf ByteArray.empty l 0) (rd_small hF.2.1 0 hlen) (Nat.le_refl _)
 have HC := Aside0.mk hC
 obtain ⟨ad, rfl, x0⟩ := Kd.at_string hC 0 (Int.le_refl _) (by omega)
 have x0 : w.cell? ad = some (.string (rdOf ByteArray.empty l 0)) := x0
 have hal := cell_lt x0
 have hl0 : ((0 : Int) < (l.length : Int)) = True := eq_true (by omega)
 have HI := Aside0.mk hi
 clear hC hi hF
 go_enter Tryz.func60, Tryz.ntmps60
 go_wp2_with fail
 refine (ambidexterref11_Int.calls _ _ _ _ HI.out).mono ?_
 rintro e w1 ⟨rfl, hd⟩
 have hb := of_drawn hd
 have HB1 := Aside0.mk (below_step (below_alloc (below_alloc (Below.refl _ _) _) _) hb)
 have H0 := Aside0.mk (blk_below (blk_alloc (alloc_at rfl) _) hb)
 have H1 := Aside0.mk (blk_below (alloc_at (n := w.heap.size + 1) (by simp)) hb)
 have hz := row13 H0.out
 have hz1 := row13 H1.out
 clear hb hd
 go_split_ands
 go_wp2_with fail
 refine bodyPost_ret (results_cell_row rfl _ _ (w.heap.size + 1) 37 (stmC (filledS 6 c l) (.slice none 0 0)) (0, 0) _ rfl (set13 (blk_far H1.out (p := ⟨w.heap.size, 4, none⟩) (by simp) _)) hu rfl sizeStm) rfl ?_
 exact ⟨rfl, below13 (below_set HB1.out (Nat.le_refl _)) (by omega)⟩
theorem fill_when (c : Int) (A : Option Addr) (cl : Nat) (l : List ByteArray) (w : World) (hC : Kd.C Kd.string w A l.length l) (hcl : l.length ≤ cl) (hF : FillOK 7 l) :
 Calls Tryz.prog 60 #[.agg (stmC ⟨7, 0, ⟨#[]⟩, ⟨#[]⟩, 0, ⟨⟨0, 0, 0⟩, ⟨0, 0, 0⟩⟩, [], c⟩ (.slice none 0 0)), .slice A l.length cl] w (FilOut 7 c l w) := by
 have hu := Tryz.underlying37
 have hlen : 2 ≤ l.length := hF.2.2
 obtain ⟨ad, rfl, x0⟩ := Kd.at_string hC 0 (Int.le_refl _) (by omega)
 obtain ⟨_, e, x1⟩ := Kd.at_string hC 1 (by decide) (by omega)
 obtain rfl := Option.some.inj e
 have x0 : w.cell? ad = some (.string (rdOf ByteArray.empty l 0)) := x0
 have x1 : w.cell? ⟨ad.block, ad.off + 1, none⟩ = some (.string (rdOf ByteArray.empty l 1)) := x1
 have hal := cell_lt x0
 have hl0 : ((0 : Int) < (l.length : Int)) = True := eq_true (by omega)
 have hl1 : ((1 : Int) < (l.length : Int)) = True := eq_true (by omega)
 clear hC hF
 go_enter Tryz.func60, Tryz.ntmps60
 go_wp2_with fail
 refine bodyPost_ret (results_cell_row rfl _ _ (w.heap.size + 1) 37 (stmC (filledS 7 c l) (.slice none 0 0)) (0, 0) _ rfl (alloc_at (n := w.heap.size + 1) (by simp)) hu rfl sizeStm) rfl ?_
 exact ⟨rfl, below_alloc (below_alloc (Below.refl _ _) _) _⟩
theorem fill_home (c : Int) (A : Option Addr) (cl : Nat) (l : List ByteArray) (w : World) (hC : Kd.C Kd.string w A l.length l) (hcl : l.length ≤ cl) (hF : FillOK 2 l) :
 Calls Tryz.prog 60 #[.agg (stmC ⟨2, 0, ⟨#[]⟩, ⟨#[]⟩, 0, ⟨⟨0, 0, 0⟩, ⟨0, 0, 0⟩⟩, [], c⟩ (.slice none 0 0)), .slice A l.length cl] w (FilOut 2 c l w) := by
 have hu := Tryz.underlying37
 have hlen : 1 ≤ l.length := hF.2.2.1
 have hi := int_f (rdOf ByteArray.empty l 0) (rd_small hF.2.1 0 hlen) (Nat.le_refl _)
 obtain ⟨ad, rfl, x0⟩ := Kd.at_string hC 0 (Int.le_refl _) (by omega)
 have x0 : w.cell? ad = some (.string (rdOf ByteArray.empty l 0)) := x0
 have hal := cell_lt x0
 have hl0 : ((0 : Int) < (l.length : Int)) = True := eq_true (by omega)
 have HI := Aside0.mk hi
 clear hC hi hF
 go_enter Tryz.func60, Tryz.ntmps60
 go_wp2_with fail
 refine (ambidexterref11_Int.calls _ _ _ _ HI.out).mono ?_
 rintro e w1 ⟨rfl, hd⟩
 have hb := of_drawn hd
 have HB1 := Aside0.mk (below_step (below_alloc (below_alloc (Below.refl _ _) _) _) hb)
 have H0 := Aside0.mk (blk_below (blk_alloc (alloc_at rfl) _) hb)
 have H1 := Aside0.mk (blk_below (alloc_at (n := w.heap.size + 1) (by simp)) hb)
 have hz := row13 H0.out
 have hz1 := row13 H1.out
 clear hb hd
 go_split_ands
 go_wp2_with fail
 refine bodyPost_ret (results_cell_row rfl _ _ (w.heap.size + 1) 37 (stmC (filledS 2 c l) (.slice none 0 0)) (0, 0) _ rfl (set13 (blk_far H1.out (p := ⟨w.heap.size, 1, none⟩) (by simp) _)) hu rfl sizeStm) rfl ?_
 exact ⟨rfl, below13 (below_set HB1.out (Nat.le_refl _)) (by omega)⟩
theorem fill_pick (c : Int) (A : Option Addr) (cl : Nat) (l : List ByteArray) (w : World) (hC : Kd.C Kd.string w A l.length l) (hcl : l.length ≤ cl) (hF : FillOK 3 l) :
 Calls Tryz.prog 60 #[.agg (stmC ⟨3, 0, ⟨#[]⟩, ⟨#[]⟩, 0, ⟨⟨0, 0, 0⟩, ⟨0, 0, 0⟩⟩, [], c⟩ (.slice none 0 0)), .slice A l.length cl] w (FilOut 3 c l w) := by
 have hu := Tryz.underlying37
 have hlen : 1 ≤ l.length := hF.2.2.1
 have hi := int_f (rdOf ByteArray.empty l 0) (rd_small hF.2.1 0 hlen) (Nat.le_refl _)
 have hlen2 : 2 ≤ l.length := hF.2.2.2.2 (by decide)
 obtain ⟨_, e, x1⟩ := Kd.at_string hC 1 (by decide) (by omega)
 obtain ⟨ad, rfl, x0⟩ := Kd.at_string hC 0 (Int.le_refl _) (by omega)
 obtain rfl := Option.some.inj e
 have x1 : w.cell? ⟨ad.block, ad.off + 1, none⟩ = some (.string (rdOf ByteArray.empty l 1)) := x1
 have hl1 : ((1 : Int) < (l.length : Int)) = True := eq_true (by omega)
 have x0 : w.cell? ad = some (.string (rdOf ByteArray.empty l 0)) := x0
 have hal := cell_lt x0
 have hl0 : ((0 : Int) < (l.length : Int)) = True := eq_true (by omega)
 have HI := Aside0.mk hi
 clear hC hi hF
 go_enter Tryz.func60, Tryz.ntmps60
 go_wp2_with fail
 refine (ambidexterref11_Int.calls _ _ _ _ HI.out).mono ?_
 rintro e w1 ⟨rfl, hd⟩
 have hb := of_drawn hd
 have HB1 := Aside0.mk (below_step (below_alloc (below_alloc (Below.refl _ _) _) _) hb)
 have H0 := Aside0.mk (blk_below (blk_alloc (alloc_at rfl) _) hb)
 have H1 := Aside0.mk (blk_below (alloc_at (n := w.heap.size + 1) (by simp)) hb)
 have y1 : w1.cell? ⟨ad.block, ad.off + 1, none⟩ = _ := (HB1.out.cell (p := ⟨ad.block, ad.off + 1, none⟩) hal).trans x1
 have hz := row13 H0.out
 have hz1 := row13 H1.out
 clear hb hd
 go_split_ands
 go_wp2_with fail
 refine bodyPost_ret (results_cell_row rfl _ _ (w.heap.size + 1) 37 (stmC (filledS 3 c l) (.slice none 0 0)) (0, 0) _ rfl (set13 (blk_far (blk_far H1.out (p := ⟨w.heap.size, 1, none⟩) (by simp) _) (p := ⟨w.heap.size, 2, none⟩) (by simp) _)) hu rfl sizeStm) rfl ?_
 exact ⟨rfl, below13 (below_set (below_set HB1.out (Nat.le_refl _)) (Nat.le_refl _)) (by omega)⟩
theorem fill_put (c : Int) (A : Option Addr) (cl : Nat) (l : List ByteArray) (w : World) (hC : Kd.C Kd.string w A l.length l) (hcl : l.length ≤ cl) (hF : FillOK 4 l) :
 Calls Tryz.prog 60 #[.agg (stmC ⟨4, 0, ⟨#[]⟩, ⟨#[]⟩, 0, ⟨⟨0, 0, 0⟩, ⟨0, 0, 0⟩⟩, [], c⟩ (.slice none 0 0)), .slice A l.length cl] w (FilOut 4 c l w) := by
 have hu := Tryz.underlying37
 have hlen : 1 ≤ l.length := hF.2.2.1
 have hi := int_f (rdOf ByteArray.empty l 0) (rd_small hF.2.1 0 hlen) (Nat.le_refl _)
 have hlen2 : 2 ≤ l.length := hF.2.2.2.2 (by decide)
 obtain ⟨_, e, x1⟩ := Kd.at_string hC 1 (by decide) (by omega)
 obtain ⟨ad, rfl, x0⟩ := Kd.at_string hC 0 (Int.le_refl _) (by omega)
 obtain rfl := Option.some.inj e
 have x1 : w.cell? ⟨ad.block, ad.off + 1, none⟩ = some (.string (rdOf ByteArray.empty l 1)) := x1
 have hl1 : ((1 : Int) < (l.length : Int)) = True := eq_true (by omega)
 have x0 : w.cell? ad = some (.string (rdOf ByteArray.empty l 0)) := x0
 have hal := cell_lt x0
 have hl0 : ((0 : Int) < (l.length : Int)) = True := eq_true (by omega)
 have HI := Aside0.mk hi
 clear hC hi hF
 go_enter Tryz.func60, Tryz.ntmps60
 go_wp2_with fail
 refine (ambidexterref11_Int.calls _ _ _ _ HI.out).mono ?_
 rintro e w1 ⟨rfl, hd⟩
 have hb := of_drawn hd
 have HB1 := Aside0.mk (below_step (below_alloc (below_alloc (Below.refl _ _) _) _) hb)
 have H0 := Aside0.mk (blk_below (blk_alloc (alloc_at rfl) _) hb)
 have H1 := Aside0.mk (blk_below (alloc_at (n := w.heap.size + 1) (by simp)) hb)
 have y1 : w1.cell? ⟨ad.block, ad.off + 1, none⟩ = _ := (HB1.out.cell (p := ⟨ad.block, ad.off + 1, none⟩) hal).trans x1
 have hz := row13 H0.out
 have hz1 := row13 H1.out
 clear hb hd
 go_split_ands
 go_wp2_with fail
 refine bodyPost_ret (results_cell_row rfl _ _ (w.heap.size + 1) 37 (stmC (filledS 4 c l) (.slice none 0 0)) (0, 0) _ rfl (set13 (blk_far (blk_far H1.out (p := ⟨w.heap.size, 1, none⟩) (by simp) _) (p := ⟨w.heap.size, 3, none⟩) (by simp) _)) hu rfl sizeStm) rfl ?_
 exact ⟨rfl, below13 (below_set (below_set HB1.out (Nat.le_refl _)) (Nat.le_refl _)) (by omega)⟩
theorem fill_hand (c : Int) (A : Option Addr) (cl : Nat) (l : List ByteArray) (w : World) (hC : Kd.C Kd.string w A l.length l) (hcl : l.length ≤ cl) (hF : FillOK 5 l) :
 Calls Tryz.prog 60 #[.agg (stmC ⟨5, 0, ⟨#[]⟩, ⟨#[]⟩, 0, ⟨⟨0, 0, 0⟩, ⟨0, 0, 0⟩⟩, [], c⟩ (.slice none 0 0)), .slice A l.length cl] w (FilOut 5 c l w) := by
 have hu := Tryz.underlying37
 have hlen : 1 ≤ l.length := hF.2.2.1
 have hi := int_f (rdOf ByteArray.empty l 0) (rd_small hF.2.1 0 hlen) (Nat.le_refl _)
 have hlen2 : 2 ≤ l.length := hF.2.2.2.2 (by decide)
 obtain ⟨_, e, x1⟩ := Kd.at_string hC 1 (by decide) (by omega)
 obtain ⟨ad, rfl, x0⟩ := Kd.at_string hC 0 (Int.le_refl _) (by omega)
 obtain rfl := Option.some.inj e
 have x1 : w.cell? ⟨ad.block, ad.off + 1, none⟩ = some (.string (rdOf ByteArray.empty l 1)) := x1
 have hl1 : ((1 : Int) < (l.length : Int)) = True := eq_true (by omega)
 have x0 : w.cell? ad = some (.string (rdOf ByteArray.empty l 0)) := x0
 have hal := cell_lt x0
 have hl0 : ((0 : Int) < (l.length : Int)) = True := eq_true (by omega)
 have HI := Aside0.mk hi
 clear hC hi hF
 go_enter Tryz.func60, Tryz.ntmps60
 go_wp2_with fail
 refine (ambidexterref11_Int.calls _ _ _ _ HI.out).mono ?_
 rintro e w1 ⟨rfl, hd⟩
 have hb := of_drawn hd
 have HB1 := Aside0.mk (below_step (below_alloc (below_alloc (Below.refl _ _) _) _) hb)
 have H0 := Aside0.mk (blk_below (blk_alloc (alloc_at rfl) _) hb)
 have H1 := Aside0.mk (blk_below (alloc_at (n := w.heap.size + 1) (by simp)) hb)
 have y1 : w1.cell? ⟨ad.block, ad.off + 1, none⟩ = _ := (HB1.out.cell (p := ⟨ad.block, ad.off + 1, none⟩) hal).trans x1
 have hz := row13 H0.out
 have hz1 := row13 H1.out
 clear hb hd
 go_split_ands
 go_wp2_with fail
 refine bodyPost_ret (results_cell_row rfl _ _ (w.heap.size + 1) 37 (stmC (filledS 5 c l) (.slice none 0 0)) (0, 0) _ rfl (set13 (blk_far (blk_far H1.out (p := ⟨w.heap.size, 1, none⟩) (by simp) _) (p := ⟨w.heap.size, 3, none⟩) (by simp) _)) hu rfl sizeStm) rfl ?_
 exact ⟨rfl, below13 (below_set (below_set HB1.out (Nat.le_refl _)) (Nat.le_refl _)) (by omega)⟩
theorem fill_go (c : Int) (A : Option Addr) (cl : Nat) (l : List ByteArray) (w : World) (hC : Kd.C Kd.string w A l.length l) (hcl : l.length ≤ cl) (hF : FillOK 1 l) :
 Calls Tryz.prog 60 #[.agg (stmC ⟨1, 0, ⟨#[]⟩, ⟨#[]⟩, 0, ⟨⟨0, 0, 0⟩, ⟨0, 0, 0⟩⟩, [], c⟩ (.slice none 0 0)), .slice A l.length cl] w (FilOut 1 c l w) := by
 have hu := Tryz.underlying37
 have hlen : 1 ≤ l.length := hF.2.2.1
 have hi := int_f (rdOf ByteArray.empty l 0) (rd_small hF.2.1 0 hlen) (Nat.le_refl _)
 have HJ := Aside0.mk (joints_f l 1 (by have := (hF.2.2.2.1 rfl).1; omega) (by have := hF.1; omega) hF.2.1)
 have HA := (hF.2.2.2.1 rfl).2
 have HC := Aside0.mk hC
 obtain ⟨ad, rfl, x0⟩ := Kd.at_string hC 0 (Int.le_refl _) (by omega)
 have x0 : w.cell? ad = some (.string (rdOf ByteArray.empty l 0)) := x0
 have hal := cell_lt x0
 have hl0 : ((0 : Int) < (l.length : Int)) = True := eq_true (by omega)
 have HI := Aside0.mk hi
 have hfs : filledS 1 c l = ⟨1, intS (rdOf ByteArray.empty l 0), ⟨#[]⟩, ⟨#[]⟩, 0, toOf (intS (rdOf ByteArray.empty l 0)) (jointsS l 1), [], c⟩ := rfl
 unfold FilOut
 rw [hfs]
 clear hfs
 rw [show ((1 : Nat) : Int) = 1 from rfl] at HJ
 generalize hja : jointsS l 1 = q at *
 obtain ⟨q0, q1, q2⟩ := q
 generalize hia : intS (rdOf ByteArray.empty l 0) = a at *
 clear hC hi hF
 go_enter Tryz.func60, Tryz.ntmps60
 go_wp2_with fail
 refine (ambidexterref11_Int.calls _ _ _ _ HI.out).mono ?_
 rintro e w1 ⟨rfl, hd⟩
 have hb := of_drawn hd
 have HB1 := Aside0.mk (below_step (below_alloc (below_alloc (Below.refl _ _) _) _) hb)
 have H0 := Aside0.mk (blk_below (blk_alloc (alloc_at rfl) _) hb)
 have H1 := Aside0.mk (blk_below (alloc_at (n := w.heap.size + 1) (by simp)) hb)
 have hz := row13 H0.out
 have hz1 := row13 H1.out
 clear hb hd
 go_split_ands
 rcases HA with rfl | rfl
 · have H0n := Aside0.mk (blk_put H0.out 1 (.int .i64 0) rfl)
   have H1n := Aside0.mk (blk_far H1.out (p := ⟨w.heap.size, 1, none⟩) (by simp) (.int .i64 0))
   have HBn := Aside0.mk (below_set (j := 1) (v := .int .i64 0) HB1.out (Nat.le_refl _))
   clear H0 H1 HB1
   go_wp2_with fail
   generalize w1.setCell ⟨w.heap.size, 1, none⟩ (.int .i64 0) = w2 at *
   have hz := row13 H0n.out
   have hz1 := row13 H1n.out
   have hb0 := blk_lt H0n.out
   have hb1 := blk_lt H1n.out
   go_split_ands
   go_region_with (first | (go_at_call 87; (with_reducible refine (ambidexterref11_joints.calls 100001 (some ad) cl l 1 _ _ _ _ (Kd.C_below HC.out (by first | exact HBn.out | exact below_drew1 HBn.out | exact pw_below_drewN HBn.out _)) hcl HJ.out).mono ?_); rintro e w3 ⟨rfl, hb⟩; have H03 := Aside0.mk (blk_below (by first | exact H0n.out | exact blk_drew H0n.out | exact blk_drewN H0n.out _) hb); have H13 := Aside0.mk (blk_below (by first | exact H1n.out | exact blk_drew H1n.out | exact blk_drewN H1n.out _) hb); have HB3 := Aside0.mk (below_step (by first | exact HBn.out | exact below_drew1 HBn.out | exact pw_below_drewN HBn.out _) hb); have hz3 := row13 H03.out; have hz4 := row13 H13.out; have hb03 := blk_lt H03.out; have hb13 := blk_lt H13.out; clear hb; go_split_ands))
   all_goals
    go_wp2_with fail
    refine bodyPost_ret (results_cell_row rfl _ _ (w.heap.size + 1) 37 (stmC ⟨1, 0, ⟨#[]⟩, ⟨#[]⟩, 0, toOf 0 ⟨q0, q1, q2⟩, [], c⟩ (.slice none 0 0)) (0, 0) _ rfl (set13 (blk_far (blk_far (blk_far H13.out (p := ⟨w.heap.size, 5, none⟩) (by simp) _) (p := ⟨w.heap.size, 6, none⟩) (by simp) _) (p := ⟨w.heap.size, 7, none⟩) (by simp) _)) hu rfl sizeStm) rfl ?_
    exact ⟨rfl, below13 (below_set (below_set (below_set HB3.out (Nat.le_refl _)) (Nat.le_refl _)) (Nat.le_refl _)) (by omega)⟩
 · have H0n := Aside0.mk (blk_put H0.out 1 (.int .i64 1) rfl)
   have H1n := Aside0.mk (blk_far H1.out (p := ⟨w.heap.size, 1, none⟩) (by simp) (.int .i64 1))
   have HBn := Aside0.mk (below_set (j := 1) (v := .int .i64 1) HB1.out (Nat.le_refl _))
   clear H0 H1 HB1
   go_wp2_with fail
   generalize w1.setCell ⟨w.heap.size, 1, none⟩ (.int .i64 1) = w2 at *
   have hz := row13 H0n.out
   have hz1 := row13 H1n.out
   have hb0 := blk_lt H0n.out
   have hb1 := blk_lt H1n.out
   go_split_ands
   go_region_with (first | (go_at_call 87; (with_reducible refine (ambidexterref11_joints.calls 100001 (some ad) cl l 1 _ _ _ _ (Kd.C_below HC.out (by first | exact HBn.out | exact below_drew1 HBn.out | exact pw_below_drewN HBn.out _)) hcl HJ.out).mono ?_); rintro e w3 ⟨rfl, hb⟩; have H03 := Aside0.mk (blk_below (by first | exact H0n.out | exact blk_drew H0n.out | exact blk_drewN H0n.out _) hb); have H13 := Aside0.mk (blk_below (by first | exact H1n.out | exact blk_drew H1n.out | exact blk_drewN H1n.out _) hb); have HB3 := Aside0.mk (below_step (by first | exact HBn.out | exact below_drew1 HBn.out | exact pw_below_drewN HBn.out _) hb); have hz3 := row13 H03.out; have hz4 := row13 H13.out; have hb03 := blk_lt H03.out; have hb13 := blk_lt H13.out; clear hb; go_split_ands))
   all_goals
    go_wp2_with fail
    refine bodyPost_ret (results_cell_row rfl _ _ (w.heap.size + 1) 37 (stmC ⟨1, 1, ⟨#[]⟩, ⟨#[]⟩, 0, toOf 1 ⟨q0, q1, q2⟩, [], c⟩ (.slice none 0 0)) (0, 0) _ rfl (set13 (blk_far (blk_far (blk_far H13.out (p := ⟨w.heap.size, 8, none⟩) (by simp) _) (p := ⟨w.heap.size, 9, none⟩) (by simp) _) (p := ⟨w.heap.size, 10, none⟩) (by simp) _)) hu rfl sizeStm) rfl ?_
    exact ⟨rfl, below13 (below_set (below_set (below_set HB3.out (Nat.le_refl _)) (Nat.le_refl _)) (Nat.le_refl _)) (by omega)⟩
theorem fill_both (c : Int) (A : Option Addr) (cl : Nat) (l : List ByteArray) (w : World) (hC : Kd.C Kd.string w A l.length l) (hcl : l.length ≤ cl) (hF : FillOK 8 l) :
 Calls Tryz.prog 60 #[.agg (stmC ⟨8, 0, ⟨#[]⟩, ⟨#[]⟩, 0, ⟨⟨0, 0, 0⟩, ⟨0, 0, 0⟩⟩, [], c⟩ (.slice none 0 0)), .slice A l.length cl] w (FilOut 8 c l w) := by
 have hu := Tryz.underlying37
 have hlen : 6 ≤ l.length := hF.2.2
 have HJ := Aside0.mk (joints_f l 0 (by omega) (by have := hF.1; omega) hF.2.1)
 have HJ3 := Aside0.mk (joints_f l 3 (by omega) (by have := hF.1; omega) hF.2.1)
 have HC := Aside0.mk hC
 clear hC hF
 unfold FilOut
 rw [show filledS 8 c l = ⟨8, 0, ⟨#[]⟩, ⟨#[]⟩, 0, ⟨jointsS l 0, jointsS l 3⟩, [], c⟩ from rfl]
 rw [show ((0 : Nat) : Int) = 0 from rfl] at HJ
 rw [show ((3 : Nat) : Int) = 3 from rfl] at HJ3
 generalize hja : jointsS l 0 = q at *
 generalize hjb : jointsS l 3 = p at *
 obtain ⟨q0, q1, q2⟩ := q
 obtain ⟨p0, p1, p2⟩ := p
 have HB0 := Aside0.mk (below_alloc (below_alloc (Below.refl w.heap.size w) (.cells (stmC ⟨8, 0, ⟨#[]⟩, ⟨#[]⟩, 0, ⟨⟨0, 0, 0⟩, ⟨0, 0, 0⟩⟩, [], c⟩ (.slice none 0 0)) 37)) (.cells zStm 37))
 go_enter Tryz.func60, Tryz.ntmps60
 go_wp2_with fail
 refine (ambidexterref11_joints.calls 100001 A cl l 0 _ _ _ _ (Kd.C_below HC.out HB0.out) hcl HJ.out).mono ?_
 rintro e w1 ⟨rfl, hb⟩
 have HB1 := Aside0.mk (below_step HB0.out hb)
 have H0 := Aside0.mk (blk_below (blk_alloc (alloc_at rfl) _) hb)
 have H1 := Aside0.mk (blk_below (alloc_at (n := w.heap.size + 1) (by simp)) hb)
 clear hb HB0
 go_wp2_with fail
 refine (ambidexterref11_joints.calls 100001 A cl l 3 _ _ _ _ (Kd.C_below HC.out HB1.out) hcl HJ3.out).mono ?_
 rintro e w2 ⟨rfl, hb⟩
 have HB2 := Aside0.mk (below_step HB1.out hb)
 have H02 := Aside0.mk (blk_below H0.out hb)
 have H12 := Aside0.mk (blk_below H1.out hb)
 clear hb HB1 H0 H1
 have hz := row13 H02.out
 have hz1 := row13 H12.out
 have hb0 := blk_lt H02.out
 have hb1 := blk_lt H12.out
 go_split_ands
 go_wp2_with fail
 refine bodyPost_ret (results_cell_row rfl _ _ (w.heap.size + 1) 37 (stmC ⟨8, 0, ⟨#[]⟩, ⟨#[]⟩, 0, ⟨⟨q0, q1, q2⟩, ⟨p0, p1, p2⟩⟩, [], c⟩ (.slice none 0 0)) (0, 0) _ rfl (set13 (blk_far (blk_far (blk_far (blk_far (blk_far (blk_far H12.out (p := ⟨w.heap.size, 5, none⟩) (by simp) _) (p := ⟨w.heap.size, 6, none⟩) (by simp) _) (p := ⟨w.heap.size, 7, none⟩) (by simp) _) (p := ⟨w.heap.size, 8, none⟩) (by simp) _) (p := ⟨w.heap.size, 9, none⟩) (by simp) _) (p := ⟨w.heap.size, 10, none⟩) (by simp) _)) hu rfl sizeStm) rfl ?_
 exact ⟨rfl, below13 (below_set (below_set (below_set (below_set (below_set (below_set HB2.out (Nat.le_refl _)) (Nat.le_refl _)) (Nat.le_refl _)) (Nat.le_refl _)) (Nat.le_refl _)) (Nat.le_refl _)) (by omega)⟩
theorem filled_calls (k c : Int) (A : Option Addr) (cl : Nat) (l : List ByteArray) (w : World) (h1 : 1 ≤ k) (h8 : k ≤ 8) (hC : Kd.C Kd.string w A l.length l) (hcl : l.length ≤ cl) (hF : FillOK k l) :
 Calls Tryz.prog 60 #[.agg (stmC (xOf k c) (.slice none 0 0)), .slice A l.length cl] w (FilOut k c l w) := by
 obtain rfl | rfl | rfl | rfl | rfl | rfl | rfl | rfl : k = 1 ∨ k = 2 ∨ k = 3 ∨ k = 4 ∨ k = 5 ∨ k = 6 ∨ k = 7 ∨ k = 8 := by omega
 · exact fill_go c A cl l w hC hcl hF
 · exact fill_home c A cl l w hC hcl hF
 · exact fill_pick c A cl l w hC hcl hF
 · exact fill_put c A cl l w hC hcl hF
 · exact fill_hand c A cl l w hC hcl hF
 · exact fill_wait c A cl l w hC hcl hF
 · exact fill_when c A cl l w hC hcl hF
 · exact fill_both c A cl l w hC hcl hF
theorem rsmall_f (n : Int) : ambidexterref11_small.f n = some (smallB n) := by
 unfold ambidexterref11_small.f smallB
 by_cases h : n ≥ -999999999
 · rw [if_pos h]
   congr 1
   rw [decide_eq_true (show n > -1000000000 from by omega), Bool.true_and]
   rw [Bool.eq_iff_iff]
   simp only [decide_eq_true_eq]
   omega
 · rw [if_neg h]
   congr 1
   rw [decide_eq_false (show ¬ n > -1000000000 from by omega), Bool.false_and]
theorem rsmalls_calls (q0 q1 q2 : Int) (w : World) : Calls Tryz.prog 67 #[.agg #[.int .i64 q0, .int .i64 q1, .int .i64 q2]] w fun e w' => e = .returned (.bool (smallJ ⟨q0, q1, q2⟩)) ∧ Below w.heap.size w w' := by
 have hu := Tryz.underlying34
 have HB := Aside0.mk (below_alloc (Below.refl w.heap.size w) (.cells #[.int .i64 q0, .int .i64 q1, .int .i64 q2] 34))
 have H0 := Aside0.mk (heap_alloc_new w (.cells #[.int .i64 q0, .int .i64 q1, .int .i64 q2] 34))
 have HS0 := Aside0.mk (rsmall_f q0)
 have HS1 := Aside0.mk (rsmall_f q1)
 have HS2 := Aside0.mk (rsmall_f q2)
 generalize hs0 : smallB q0 = s0 at *
 generalize hs1 : smallB q1 = s1 at *
 generalize hs2 : smallB q2 = s2 at *
 have hr : smallJ ⟨q0, q1, q2⟩ = (s0 && (s1 && s2)) := by unfold smallJ; rw [hs0, hs1, hs2]
 rw [hr]
 clear hr hs0 hs1 hs2
 go_enter Tryz.func67, Tryz.ntmps67
 go_wp2_with fail
 refine (ambidexterref11_small.calls q0 s0 _ HS0.out).mono ?_
 rintro e w1 ⟨rfl, hd⟩
 have hb := of_drawn hd
 have H1 := Aside0.mk (blk_below H0.out hb)
 have HB1 := Aside0.mk (below_step HB.out hb)
 have hz := row3_held H1.out
 clear hb hd HB H0
 go_split_ands
 cases s0 with
 | false =>
  go_wp2_with fail
  go_ret
  exact ⟨rfl, HB1.out⟩
 | true =>
  go_wp2_with fail
  refine (ambidexterref11_small.calls q1 s1 _ HS1.out).mono ?_
  rintro e w2 ⟨rfl, hd⟩
  have hb := of_drawn hd
  have H2 := Aside0.mk (blk_below H1.out hb)
  have HB2 := Aside0.mk (below_step HB1.out hb)
  have hz := row3_held H2.out
  clear hb hd HB1 H1
  go_split_ands
  cases s1 with
  | false =>
   go_wp2_with fail
   go_ret
   exact ⟨rfl, HB2.out⟩
  | true =>
   go_wp2_with fail
   refine (ambidexterref11_small.calls q2 s2 _ HS2.out).mono ?_
   rintro e w3 ⟨rfl, hd⟩
   have HB3 := Aside0.mk (below_step HB2.out (of_drawn hd))
   clear hd HB2 H2
   go_wp2_with fail
   go_ret
   exact ⟨by simp, HB3.out⟩
end Go.Proofs.YtonhcfecfifghaaGreatDoor.PPx
