-- written by a program of this seat (wip/tools/printx.py) with the kit's print and the texts given beside it
import Derived.Test.YtiikijdkhmbdbaaPLxx0
import Derived.Test.YtiikijdkhmbdbaaPLxx3
import Derived.Test.YtiikijdkhmbdbaaPLxx5
namespace Go.Proofs.Ytiikijdkhmbdbaa.PLx
open Go.RowKit Go.Proofs.YtiikijdkhmbdbaaW.PrintWords Go.Proofs.YtiikijdkhmbdbaaW.PrintLast Go.Proofs.YtiikijdkhmbdbaaW.PrintMore
attribute [local go_sem] max2_int min2_int max_two min_two max_three min_three max_four min_four   -- for this text's walks alone
set_option linter.unusedVariables false
set_option linter.unusedSimpArgs false

/-! ### ambidexterlaw10_LexerFirstError: function 7 -/
mutual
def ambidexterlaw10_LexerFirstError.j1 : Nat → Bool → ByteArray → List (S31) → Int → Int → Bool → Option (Bool)
  | 0, _, _, _, _, _, _ => none
  | k + 1, x5, x6, x7, x16, x17, x101 => if x101 = true then (some false) else (if 0 ≤ x17 then (if x17 ≤ (x6.size : Int) then ((lexer_Lex.f (x6.extract 0 (x17 : Int).toNat)).bind fun bt209 => (if x5 = true then (if bt209.2.1 = 0 then (if 0 ≤ (wrap64 (x16 + 1)) then (if (wrap64 (x16 + 1)) ≤ (x7.length : Int) then ((ambidexterref10_Same.f k bt209.1 (x7.take ((wrap64 (x16 + 1)) : Int).toNat)).bind fun t218 => (some t218)) else (none)) else (none)) else (some false)) else (some false))) else (none)) else (none))
def ambidexterlaw10_LexerFirstError.j0 : Nat → Bool → ByteArray → Int → Bool → Option (Bool)
  | 0, _, _, _, _ => none
  | k + 1, x5, x6, x9, x39 => if x39 = true then (some false) else (if 0 ≤ x9 then (if x9 ≤ (x6.size : Int) then ((lexer_Lex.f (x6.extract 0 (x9 : Int).toNat)).bind fun bt196 => ((lexer_Lex.f (x6.extract (x9 : Int).toNat x6.size)).bind fun bt201 => (if x5 = true then (if bt196.2.1 = 0 then (if bt201.2.1 = 100 then (some (bt201.2.2 == 0)) else (some false)) else (some false)) else (some false)))) else (none)) else (none))
end
def ambidexterlaw10_LexerFirstError.f (k : Nat) (a0 : ByteArray) (a1 : Int) : Option (Bool) := (ambidexterlaw10_head.f).bind fun t189 => ((ambidexterlaw10_few.f a0).bind fun t190 => ((lexer_Lex.f t190).bind fun bt191 => (if bt191.2.1 = 0 then (if (bt191.1.length : Int) = 0 then (if t189 = true then ((ambidexterref10_Void.f t190).bind fun t206 => (some t206)) else (some false)) else (if 0 ≤ (Int.tmod (wrap64 (a1)) (bt191.1.length : Int)) then (if (Int.tmod (wrap64 (a1)) (bt191.1.length : Int)) < (bt191.1.length : Int) then (if (wrap64 (((rd_T31 bt191.1 (Int.tmod (wrap64 (a1)) (bt191.1.length : Int))).f2) + (((rd_T31 bt191.1 (Int.tmod (wrap64 (a1)) (bt191.1.length : Int))).f1).size : Int))) < 0 then (ambidexterlaw10_LexerFirstError.j1 k t189 t190 bt191.1 (Int.tmod (wrap64 (a1)) (bt191.1.length : Int)) (wrap64 (((rd_T31 bt191.1 (Int.tmod (wrap64 (a1)) (bt191.1.length : Int))).f2) + (((rd_T31 bt191.1 (Int.tmod (wrap64 (a1)) (bt191.1.length : Int))).f1).size : Int))) true) else (ambidexterlaw10_LexerFirstError.j1 k t189 t190 bt191.1 (Int.tmod (wrap64 (a1)) (bt191.1.length : Int)) (wrap64 (((rd_T31 bt191.1 (Int.tmod (wrap64 (a1)) (bt191.1.length : Int))).f2) + (((rd_T31 bt191.1 (Int.tmod (wrap64 (a1)) (bt191.1.length : Int))).f1).size : Int))) (decide ((wrap64 (((rd_T31 bt191.1 (Int.tmod (wrap64 (a1)) (bt191.1.length : Int))).f2) + (((rd_T31 bt191.1 (Int.tmod (wrap64 (a1)) (bt191.1.length : Int))).f1).size : Int))) > (t190.size : Int))))) else (none)) else (none))) else (if bt191.2.2 < 0 then (ambidexterlaw10_LexerFirstError.j0 k t189 t190 bt191.2.2 true) else (ambidexterlaw10_LexerFirstError.j0 k t189 t190 bt191.2.2 (decide (bt191.2.2 ≥ (t190.size : Int))))))))
theorem ambidexterlaw10_LexerFirstError.mono_l : ∀ k, (∀ y0 y1 y2 y3 y4 y5, LeO (ambidexterlaw10_LexerFirstError.j1 k y0 y1 y2 y3 y4 y5) (ambidexterlaw10_LexerFirstError.j1 (k + 1) y0 y1 y2 y3 y4 y5)) ∧ (∀ y0 y1 y2 y3, LeO (ambidexterlaw10_LexerFirstError.j0 k y0 y1 y2 y3) (ambidexterlaw10_LexerFirstError.j0 (k + 1) y0 y1 y2 y3))
  | 0 => ⟨fun _ _ _ _ _ _ r h => by simp [ambidexterlaw10_LexerFirstError.j1] at h, fun _ _ _ _ r h => by simp [ambidexterlaw10_LexerFirstError.j0] at h⟩
  | k + 1 => by
    obtain ⟨ih0, ih1⟩ := ambidexterlaw10_LexerFirstError.mono_l k
    refine ⟨?_, ?_⟩
    · intro y0 y1 y2 y3 y4 y5
      unfold ambidexterlaw10_LexerFirstError.j1
      repeat' first
      | (with_reducible exact ih0 _ _ _ _ _ _)
      | (with_reducible exact ih1 _ _ _ _)
      | (with_reducible exact ambidexterref10_Same.mono _ _ _)
      | (with_reducible exact LeO.refl _)
      | (with_reducible exact LeO.none _)
      | (with_reducible refine LeO.ite ?_ ?_)
      | (with_reducible refine LeO.bind ?_ (fun _ => ?_))
      | exact ih0 _ _ _ _ _ _
      | exact ih1 _ _ _ _
      | exact ambidexterref10_Same.mono _ _ _
      | exact LeO.none _
      | refine LeO.ite ?_ ?_
      | refine LeO.bind ?_ (fun _ => ?_)
    · intro y0 y1 y2 y3
      unfold ambidexterlaw10_LexerFirstError.j0
      repeat' first
      | (with_reducible exact ih0 _ _ _ _ _ _)
      | (with_reducible exact ih1 _ _ _ _)
      | (with_reducible exact ambidexterref10_Same.mono _ _ _)
      | (with_reducible exact LeO.refl _)
      | (with_reducible exact LeO.none _)
      | (with_reducible refine LeO.ite ?_ ?_)
      | (with_reducible refine LeO.bind ?_ (fun _ => ?_))
      | exact ih0 _ _ _ _ _ _
      | exact ih1 _ _ _ _
      | exact ambidexterref10_Same.mono _ _ _
      | exact LeO.none _
      | refine LeO.ite ?_ ?_
      | refine LeO.bind ?_ (fun _ => ?_)
theorem ambidexterlaw10_LexerFirstError.mono : ∀ a0 a1 k, LeO (ambidexterlaw10_LexerFirstError.f k a0 a1) (ambidexterlaw10_LexerFirstError.f (k + 1) a0 a1) := by
  intro a0 a1 k
  obtain ⟨ih0, ih1⟩ := ambidexterlaw10_LexerFirstError.mono_l k
  unfold ambidexterlaw10_LexerFirstError.f
  repeat' first
      | (with_reducible exact ih0 _ _ _ _ _ _)
      | (with_reducible exact ih1 _ _ _ _)
      | (with_reducible exact ambidexterref10_Same.mono _ _ _)
      | (with_reducible exact LeO.refl _)
      | (with_reducible exact LeO.none _)
      | (with_reducible refine LeO.ite ?_ ?_)
      | (with_reducible refine LeO.bind ?_ (fun _ => ?_))
      | exact ih0 _ _ _ _ _ _
      | exact ih1 _ _ _ _
      | exact ambidexterref10_Same.mono _ _ _
      | exact LeO.none _
      | refine LeO.ite ?_ ?_
      | refine LeO.bind ?_ (fun _ => ?_)
set_option maxHeartbeats 8000000 in
set_option maxRecDepth 100000 in
theorem ambidexterlaw10_LexerFirstError.calls (k : Nat) (a0 : ByteArray) (a1 : Int) (r : Bool) (w : World) (h : ambidexterlaw10_LexerFirstError.f k a0 a1 = some r) :
    Calls Try.prog 7 #[.string a0, .int .u8 a1] w fun e w' => e = .returned (.bool r) ∧ Below w.heap.size w w' := by
  have HB := Aside0.mk (Below.refl w.heap.size w)
  have H : ((ambidexterlaw10_head.f).bind fun t189 => ((ambidexterlaw10_few.f a0).bind fun t190 => ((lexer_Lex.f t190).bind fun bt191 => (if bt191.2.1 = 0 then (if (bt191.1.length : Int) = 0 then (if t189 = true then ((ambidexterref10_Void.f t190).bind fun t206 => (some t206)) else (some false)) else (if 0 ≤ (Int.tmod (wrap64 (a1)) (bt191.1.length : Int)) then (if (Int.tmod (wrap64 (a1)) (bt191.1.length : Int)) < (bt191.1.length : Int) then (if (wrap64 (((rd_T31 bt191.1 (Int.tmod (wrap64 (a1)) (bt191.1.length : Int))).f2) + (((rd_T31 bt191.1 (Int.tmod (wrap64 (a1)) (bt191.1.length : Int))).f1).size : Int))) < 0 then (ambidexterlaw10_LexerFirstError.j1 k t189 t190 bt191.1 (Int.tmod (wrap64 (a1)) (bt191.1.length : Int)) (wrap64 (((rd_T31 bt191.1 (Int.tmod (wrap64 (a1)) (bt191.1.length : Int))).f2) + (((rd_T31 bt191.1 (Int.tmod (wrap64 (a1)) (bt191.1.length : Int))).f1).size : Int))) true) else (ambidexterlaw10_LexerFirstError.j1 k t189 t190 bt191.1 (Int.tmod (wrap64 (a1)) (bt191.1.length : Int)) (wrap64 (((rd_T31 bt191.1 (Int.tmod (wrap64 (a1)) (bt191.1.length : Int))).f2) + (((rd_T31 bt191.1 (Int.tmod (wrap64 (a1)) (bt191.1.length : Int))).f1).size : Int))) (decide ((wrap64 (((rd_T31 bt191.1 (Int.tmod (wrap64 (a1)) (bt191.1.length : Int))).f2) + (((rd_T31 bt191.1 (Int.tmod (wrap64 (a1)) (bt191.1.length : Int))).f1).size : Int))) > (t190.size : Int))))) else (none)) else (none))) else (if bt191.2.2 < 0 then (ambidexterlaw10_LexerFirstError.j0 k t189 t190 bt191.2.2 true) else (ambidexterlaw10_LexerFirstError.j0 k t189 t190 bt191.2.2 (decide (bt191.2.2 ≥ (t190.size : Int))))))))) = some r := h
  clear h
  replace H := Option.bind_eq_some_iff.mp H
  obtain ⟨t189, A30, H⟩ := H
  replace H : ((ambidexterlaw10_few.f a0).bind fun t190 => ((lexer_Lex.f t190).bind fun bt191 => (if bt191.2.1 = 0 then (if (bt191.1.length : Int) = 0 then (if t189 = true then ((ambidexterref10_Void.f t190).bind fun t206 => (some t206)) else (some false)) else (if 0 ≤ (Int.tmod (wrap64 (a1)) (bt191.1.length : Int)) then (if (Int.tmod (wrap64 (a1)) (bt191.1.length : Int)) < (bt191.1.length : Int) then (if (wrap64 (((rd_T31 bt191.1 (Int.tmod (wrap64 (a1)) (bt191.1.length : Int))).f2) + (((rd_T31 bt191.1 (Int.tmod (wrap64 (a1)) (bt191.1.length : Int))).f1).size : Int))) < 0 then (ambidexterlaw10_LexerFirstError.j1 k t189 t190 bt191.1 (Int.tmod (wrap64 (a1)) (bt191.1.length : Int)) (wrap64 (((rd_T31 bt191.1 (Int.tmod (wrap64 (a1)) (bt191.1.length : Int))).f2) + (((rd_T31 bt191.1 (Int.tmod (wrap64 (a1)) (bt191.1.length : Int))).f1).size : Int))) true) else (ambidexterlaw10_LexerFirstError.j1 k t189 t190 bt191.1 (Int.tmod (wrap64 (a1)) (bt191.1.length : Int)) (wrap64 (((rd_T31 bt191.1 (Int.tmod (wrap64 (a1)) (bt191.1.length : Int))).f2) + (((rd_T31 bt191.1 (Int.tmod (wrap64 (a1)) (bt191.1.length : Int))).f1).size : Int))) (decide ((wrap64 (((rd_T31 bt191.1 (Int.tmod (wrap64 (a1)) (bt191.1.length : Int))).f2) + (((rd_T31 bt191.1 (Int.tmod (wrap64 (a1)) (bt191.1.length : Int))).f1).size : Int))) > (t190.size : Int))))) else (none)) else (none))) else (if bt191.2.2 < 0 then (ambidexterlaw10_LexerFirstError.j0 k t189 t190 bt191.2.2 true) else (ambidexterlaw10_LexerFirstError.j0 k t189 t190 bt191.2.2 (decide (bt191.2.2 ≥ (t190.size : Int)))))))) = some r := H
  have A3 := Aside0.mk A30
  clear A30
  replace H := Option.bind_eq_some_iff.mp H
  obtain ⟨t190, A40, H⟩ := H
  replace H : ((lexer_Lex.f t190).bind fun bt191 => (if bt191.2.1 = 0 then (if (bt191.1.length : Int) = 0 then (if t189 = true then ((ambidexterref10_Void.f t190).bind fun t206 => (some t206)) else (some false)) else (if 0 ≤ (Int.tmod (wrap64 (a1)) (bt191.1.length : Int)) then (if (Int.tmod (wrap64 (a1)) (bt191.1.length : Int)) < (bt191.1.length : Int) then (if (wrap64 (((rd_T31 bt191.1 (Int.tmod (wrap64 (a1)) (bt191.1.length : Int))).f2) + (((rd_T31 bt191.1 (Int.tmod (wrap64 (a1)) (bt191.1.length : Int))).f1).size : Int))) < 0 then (ambidexterlaw10_LexerFirstError.j1 k t189 t190 bt191.1 (Int.tmod (wrap64 (a1)) (bt191.1.length : Int)) (wrap64 (((rd_T31 bt191.1 (Int.tmod (wrap64 (a1)) (bt191.1.length : Int))).f2) + (((rd_T31 bt191.1 (Int.tmod (wrap64 (a1)) (bt191.1.length : Int))).f1).size : Int))) true) else (ambidexterlaw10_LexerFirstError.j1 k t189 t190 bt191.1 (Int.tmod (wrap64 (a1)) (bt191.1.length : Int)) (wrap64 (((rd_T31 bt191.1 (Int.tmod (wrap64 (a1)) (bt191.1.length : Int))).f2) + (((rd_T31 bt191.1 (Int.tmod (wrap64 (a1)) (bt191.1.length : Int))).f1).size : Int))) (decide ((wrap64 (((rd_T31 bt191.1 (Int.tmod (wrap64 (a1)) (bt191.1.length : Int))).f2) + (((rd_T31 bt191.1 (Int.tmod (wrap64 (a1)) (bt191.1.length : Int))).f1).size : Int))) > (t190.size : Int))))) else (none)) else (none))) else (if bt191.2.2 < 0 then (ambidexterlaw10_LexerFirstError.j0 k t189 t190 bt191.2.2 true) else (ambidexterlaw10_LexerFirstError.j0 k t189 t190 bt191.2.2 (decide (bt191.2.2 ≥ (t190.size : Int))))))) = some r := H
  have A4 := Aside0.mk A40
  clear A40
  replace H := Option.bind_eq_some_iff.mp H
  obtain ⟨⟨t191, t192, t193⟩, A50, H⟩ := H
  replace H : (if t192 = 0 then (if (t191.length : Int) = 0 then (if t189 = true then ((ambidexterref10_Void.f t190).bind fun t206 => (some t206)) else (some false)) else (if 0 ≤ (Int.tmod (wrap64 (a1)) (t191.length : Int)) then (if (Int.tmod (wrap64 (a1)) (t191.length : Int)) < (t191.length : Int) then (if (wrap64 (((rd_T31 t191 (Int.tmod (wrap64 (a1)) (t191.length : Int))).f2) + (((rd_T31 t191 (Int.tmod (wrap64 (a1)) (t191.length : Int))).f1).size : Int))) < 0 then (ambidexterlaw10_LexerFirstError.j1 k t189 t190 t191 (Int.tmod (wrap64 (a1)) (t191.length : Int)) (wrap64 (((rd_T31 t191 (Int.tmod (wrap64 (a1)) (t191.length : Int))).f2) + (((rd_T31 t191 (Int.tmod (wrap64 (a1)) (t191.length : Int))).f1).size : Int))) true) else (ambidexterlaw10_LexerFirstError.j1 k t189 t190 t191 (Int.tmod (wrap64 (a1)) (t191.length : Int)) (wrap64 (((rd_T31 t191 (Int.tmod (wrap64 (a1)) (t191.length : Int))).f2) + (((rd_T31 t191 (Int.tmod (wrap64 (a1)) (t191.length : Int))).f1).size : Int))) (decide ((wrap64 (((rd_T31 t191 (Int.tmod (wrap64 (a1)) (t191.length : Int))).f2) + (((rd_T31 t191 (Int.tmod (wrap64 (a1)) (t191.length : Int))).f1).size : Int))) > (t190.size : Int))))) else (none)) else (none))) else (if t193 < 0 then (ambidexterlaw10_LexerFirstError.j0 k t189 t190 t193 true) else (ambidexterlaw10_LexerFirstError.j0 k t189 t190 t193 (decide (t193 ≥ (t190.size : Int)))))) = some r := H
  have A5 := Aside0.mk A50
  clear A50
  by_cases c6 : t192 = 0
  · rw [if_pos c6] at H
    have c6b0 : (t192 == 0) = true := beq_iff_eq.mpr c6
    have c6b1 : (t192 != 0) = false := bne_eq_false_iff_eq.mpr c6
    clear c6
    by_cases c7 : (t191.length : Int) = 0
    · rw [if_pos c7] at H
      have c7b0 : ((t191.length : Int) == 0) = true := beq_iff_eq.mpr c7
      have c7b1 : ((t191.length : Int) != 0) = false := bne_eq_false_iff_eq.mpr c7
      clear c7
      by_cases c8 : t189 = true
      · subst c8
        have H1 : ((ambidexterref10_Void.f t190).bind fun t206 => (some t206)) = some r := by rw [if_pos rfl] at H; exact H
        clear H
        have H := H1
        clear H1
        replace H := Option.bind_eq_some_iff.mp H
        obtain ⟨t206, A90, H⟩ := H
        replace H : (some t206) = some r := H
        have A9 := Aside0.mk A90
        clear A90
        obtain rfl := Option.some.inj H
        go_enter Try.func7, Try.ntmps7
        go_wp2_with (first | (go_at_call 10; (with_reducible refine (ambidexterlaw10_head.calls  true _ A3.out).mono ?_); rintro e w10 ⟨rfl, hb⟩; have n0_ := Aside0.mk (below_step (by repeat (first | (with_reducible first | exact HB.out | apply below_alloc | apply pw_below_drewN | apply below_drew1) | exact HB.out)) hb); clear HB; have HB := n0_; clear n0_; (try clear hb); (try clear hb2); (try clear hk); (try clear hi)) | (go_at_call 11; (with_reducible refine (ambidexterlaw10_few.calls a0 t190 _ A4.out).mono ?_); rintro e w11 ⟨rfl, hb⟩; have n0_ := Aside0.mk (below_step (by repeat (first | (with_reducible first | exact HB.out | apply below_alloc | apply pw_below_drewN | apply below_drew1) | exact HB.out)) hb); clear HB; have HB := n0_; clear n0_; (try clear hb); (try clear hb2); (try clear hk); (try clear hi)) | (go_at_call 12; (with_reducible refine (lexer_Lex.calls t190 t191 t192 t193 _ A5.out).mono ?_); rintro e w12 ⟨v194, rfl, ho0, hb⟩; have n0_ := Aside0.mk (Kd.R_lower ho0 (below_size (by repeat (first | (with_reducible first | exact HB.out | apply below_alloc | apply pw_below_drewN | apply below_drew1) | exact HB.out)))); have n1_ := Aside0.mk (below_step (by repeat (first | (with_reducible first | exact HB.out | apply below_alloc | apply pw_below_drewN | apply below_drew1) | exact HB.out)) hb); clear HB; have HO195 := n0_; have HB := n1_; clear n0_ n1_; (try clear hb); (try clear hb2); (try clear hk); (try clear hi); (try clear ho0); obtain ⟨Ao13, co13, eo13⟩ := Kd.R_slice HO195.out; subst eo13) | (go_at_call 15; (with_reducible refine (ambidexterref10_Void.calls t190 t206 _ A9.out).mono ?_); rintro e w' ⟨rfl, ⟨nd, rfl⟩⟩; (try first | exact ⟨rfl, _, World.drewN_drewN _ _ _⟩ | exact ⟨rfl, _, Eq.trans (World.drewN_drewN _ _ _) (congrArg (World.drewN _) (Nat.add_assoc _ _ _))⟩)))
        repeat (go_quiet (first | (go_at_call 10; (with_reducible refine (ambidexterlaw10_head.calls  true _ A3.out).mono ?_); rintro e w10 ⟨rfl, hb⟩; have n0_ := Aside0.mk (below_step (by repeat (first | (with_reducible first | exact HB.out | apply below_alloc | apply pw_below_drewN | apply below_drew1) | exact HB.out)) hb); clear HB; have HB := n0_; clear n0_; (try clear hb); (try clear hb2); (try clear hk); (try clear hi)) | (go_at_call 11; (with_reducible refine (ambidexterlaw10_few.calls a0 t190 _ A4.out).mono ?_); rintro e w11 ⟨rfl, hb⟩; have n0_ := Aside0.mk (below_step (by repeat (first | (with_reducible first | exact HB.out | apply below_alloc | apply pw_below_drewN | apply below_drew1) | exact HB.out)) hb); clear HB; have HB := n0_; clear n0_; (try clear hb); (try clear hb2); (try clear hk); (try clear hi)) | (go_at_call 12; (with_reducible refine (lexer_Lex.calls t190 t191 t192 t193 _ A5.out).mono ?_); rintro e w12 ⟨v194, rfl, ho0, hb⟩; have n0_ := Aside0.mk (Kd.R_lower ho0 (below_size (by repeat (first | (with_reducible first | exact HB.out | apply below_alloc | apply pw_below_drewN | apply below_drew1) | exact HB.out)))); have n1_ := Aside0.mk (below_step (by repeat (first | (with_reducible first | exact HB.out | apply below_alloc | apply pw_below_drewN | apply below_drew1) | exact HB.out)) hb); clear HB; have HO195 := n0_; have HB := n1_; clear n0_ n1_; (try clear hb); (try clear hb2); (try clear hk); (try clear hi); (try clear ho0); obtain ⟨Ao13, co13, eo13⟩ := Kd.R_slice HO195.out; subst eo13) | (go_at_call 15; (with_reducible refine (ambidexterref10_Void.calls t190 t206 _ A9.out).mono ?_); rintro e w' ⟨rfl, ⟨nd, rfl⟩⟩; (try first | exact ⟨rfl, _, World.drewN_drewN _ _ _⟩ | exact ⟨rfl, _, Eq.trans (World.drewN_drewN _ _ _) (congrArg (World.drewN _) (Nat.add_assoc _ _ _))⟩))); try go_wp2_with (first | (go_at_call 10; (with_reducible refine (ambidexterlaw10_head.calls  true _ A3.out).mono ?_); rintro e w10 ⟨rfl, hb⟩; have n0_ := Aside0.mk (below_step (by repeat (first | (with_reducible first | exact HB.out | apply below_alloc | apply pw_below_drewN | apply below_drew1) | exact HB.out)) hb); clear HB; have HB := n0_; clear n0_; (try clear hb); (try clear hb2); (try clear hk); (try clear hi)) | (go_at_call 11; (with_reducible refine (ambidexterlaw10_few.calls a0 t190 _ A4.out).mono ?_); rintro e w11 ⟨rfl, hb⟩; have n0_ := Aside0.mk (below_step (by repeat (first | (with_reducible first | exact HB.out | apply below_alloc | apply pw_below_drewN | apply below_drew1) | exact HB.out)) hb); clear HB; have HB := n0_; clear n0_; (try clear hb); (try clear hb2); (try clear hk); (try clear hi)) | (go_at_call 12; (with_reducible refine (lexer_Lex.calls t190 t191 t192 t193 _ A5.out).mono ?_); rintro e w12 ⟨v194, rfl, ho0, hb⟩; have n0_ := Aside0.mk (Kd.R_lower ho0 (below_size (by repeat (first | (with_reducible first | exact HB.out | apply below_alloc | apply pw_below_drewN | apply below_drew1) | exact HB.out)))); have n1_ := Aside0.mk (below_step (by repeat (first | (with_reducible first | exact HB.out | apply below_alloc | apply pw_below_drewN | apply below_drew1) | exact HB.out)) hb); clear HB; have HO195 := n0_; have HB := n1_; clear n0_ n1_; (try clear hb); (try clear hb2); (try clear hk); (try clear hi); (try clear ho0); obtain ⟨Ao13, co13, eo13⟩ := Kd.R_slice HO195.out; subst eo13) | (go_at_call 15; (with_reducible refine (ambidexterref10_Void.calls t190 t206 _ A9.out).mono ?_); rintro e w' ⟨rfl, ⟨nd, rfl⟩⟩; (try first | exact ⟨rfl, _, World.drewN_drewN _ _ _⟩ | exact ⟨rfl, _, Eq.trans (World.drewN_drewN _ _ _) (congrArg (World.drewN _) (Nat.add_assoc _ _ _))⟩))))
        go_ret
        exact ⟨by first | rfl | (simp [errW_none, errW_some] <;> rfl) | (simp [*, errW_none, errW_some] <;> rfl), by repeat (first | (with_reducible first | exact HB.out | apply below_alloc | apply pw_below_drewN | apply below_drew1) | exact HB.out)⟩
      · replace c8 := Bool.eq_false_iff.mpr c8
        subst c8
        have H1 : (some false) = some r := by rw [if_neg (show ¬ (false = true) by decide)] at H; exact H
        clear H
        have H := H1
        clear H1
        obtain rfl := Option.some.inj H
        go_enter Try.func7, Try.ntmps7
        go_wp2_with (first | (go_at_call 10; (with_reducible refine (ambidexterlaw10_head.calls  false _ A3.out).mono ?_); rintro e w14 ⟨rfl, hb⟩; have n0_ := Aside0.mk (below_step (by repeat (first | (with_reducible first | exact HB.out | apply below_alloc | apply pw_below_drewN | apply below_drew1) | exact HB.out)) hb); clear HB; have HB := n0_; clear n0_; (try clear hb); (try clear hb2); (try clear hk); (try clear hi)) | (go_at_call 11; (with_reducible refine (ambidexterlaw10_few.calls a0 t190 _ A4.out).mono ?_); rintro e w15 ⟨rfl, hb⟩; have n0_ := Aside0.mk (below_step (by repeat (first | (with_reducible first | exact HB.out | apply below_alloc | apply pw_below_drewN | apply below_drew1) | exact HB.out)) hb); clear HB; have HB := n0_; clear n0_; (try clear hb); (try clear hb2); (try clear hk); (try clear hi)) | (go_at_call 12; (with_reducible refine (lexer_Lex.calls t190 t191 t192 t193 _ A5.out).mono ?_); rintro e w16 ⟨v194, rfl, ho0, hb⟩; have n0_ := Aside0.mk (Kd.R_lower ho0 (below_size (by repeat (first | (with_reducible first | exact HB.out | apply below_alloc | apply pw_below_drewN | apply below_drew1) | exact HB.out)))); have n1_ := Aside0.mk (below_step (by repeat (first | (with_reducible first | exact HB.out | apply below_alloc | apply pw_below_drewN | apply below_drew1) | exact HB.out)) hb); clear HB; have HO195 := n0_; have HB := n1_; clear n0_ n1_; (try clear hb); (try clear hb2); (try clear hk); (try clear hi); (try clear ho0); obtain ⟨Ao17, co17, eo17⟩ := Kd.R_slice HO195.out; subst eo17))
        repeat (go_quiet (first | (go_at_call 10; (with_reducible refine (ambidexterlaw10_head.calls  false _ A3.out).mono ?_); rintro e w14 ⟨rfl, hb⟩; have n0_ := Aside0.mk (below_step (by repeat (first | (with_reducible first | exact HB.out | apply below_alloc | apply pw_below_drewN | apply below_drew1) | exact HB.out)) hb); clear HB; have HB := n0_; clear n0_; (try clear hb); (try clear hb2); (try clear hk); (try clear hi)) | (go_at_call 11; (with_reducible refine (ambidexterlaw10_few.calls a0 t190 _ A4.out).mono ?_); rintro e w15 ⟨rfl, hb⟩; have n0_ := Aside0.mk (below_step (by repeat (first | (with_reducible first | exact HB.out | apply below_alloc | apply pw_below_drewN | apply below_drew1) | exact HB.out)) hb); clear HB; have HB := n0_; clear n0_; (try clear hb); (try clear hb2); (try clear hk); (try clear hi)) | (go_at_call 12; (with_reducible refine (lexer_Lex.calls t190 t191 t192 t193 _ A5.out).mono ?_); rintro e w16 ⟨v194, rfl, ho0, hb⟩; have n0_ := Aside0.mk (Kd.R_lower ho0 (below_size (by repeat (first | (with_reducible first | exact HB.out | apply below_alloc | apply pw_below_drewN | apply below_drew1) | exact HB.out)))); have n1_ := Aside0.mk (below_step (by repeat (first | (with_reducible first | exact HB.out | apply below_alloc | apply pw_below_drewN | apply below_drew1) | exact HB.out)) hb); clear HB; have HO195 := n0_; have HB := n1_; clear n0_ n1_; (try clear hb); (try clear hb2); (try clear hk); (try clear hi); (try clear ho0); obtain ⟨Ao17, co17, eo17⟩ := Kd.R_slice HO195.out; subst eo17)); try go_wp2_with (first | (go_at_call 10; (with_reducible refine (ambidexterlaw10_head.calls  false _ A3.out).mono ?_); rintro e w14 ⟨rfl, hb⟩; have n0_ := Aside0.mk (below_step (by repeat (first | (with_reducible first | exact HB.out | apply below_alloc | apply pw_below_drewN | apply below_drew1) | exact HB.out)) hb); clear HB; have HB := n0_; clear n0_; (try clear hb); (try clear hb2); (try clear hk); (try clear hi)) | (go_at_call 11; (with_reducible refine (ambidexterlaw10_few.calls a0 t190 _ A4.out).mono ?_); rintro e w15 ⟨rfl, hb⟩; have n0_ := Aside0.mk (below_step (by repeat (first | (with_reducible first | exact HB.out | apply below_alloc | apply pw_below_drewN | apply below_drew1) | exact HB.out)) hb); clear HB; have HB := n0_; clear n0_; (try clear hb); (try clear hb2); (try clear hk); (try clear hi)) | (go_at_call 12; (with_reducible refine (lexer_Lex.calls t190 t191 t192 t193 _ A5.out).mono ?_); rintro e w16 ⟨v194, rfl, ho0, hb⟩; have n0_ := Aside0.mk (Kd.R_lower ho0 (below_size (by repeat (first | (with_reducible first | exact HB.out | apply below_alloc | apply pw_below_drewN | apply below_drew1) | exact HB.out)))); have n1_ := Aside0.mk (below_step (by repeat (first | (with_reducible first | exact HB.out | apply below_alloc | apply pw_below_drewN | apply below_drew1) | exact HB.out)) hb); clear HB; have HO195 := n0_; have HB := n1_; clear n0_ n1_; (try clear hb); (try clear hb2); (try clear hk); (try clear hi); (try clear ho0); obtain ⟨Ao17, co17, eo17⟩ := Kd.R_slice HO195.out; subst eo17)))
        go_ret
        exact ⟨by first | rfl | (simp [errW_none, errW_some] <;> rfl) | (simp [*, errW_none, errW_some] <;> rfl), by repeat (first | (with_reducible first | exact HB.out | apply below_alloc | apply pw_below_drewN | apply below_drew1) | exact HB.out)⟩
    · rw [if_neg c7] at H
      have c7b0 : ((t191.length : Int) == 0) = false := beq_eq_false_iff_ne.mpr c7
      have c7b1 : ((t191.length : Int) != 0) = true := bne_iff_ne.mpr c7
      have c7b2 : ¬ (t191 = []) := fun h_ => c7 (by rw [h_]; rfl)
      obtain ⟨ji18, hji18⟩ : ∃ j_ : Int, (Int.tmod (wrap64 (a1)) (t191.length : Int)) = j_ := ⟨_, rfl⟩
      replace H : (if 0 ≤ (ji18) then (if (ji18) < (t191.length : Int) then (if (wrap64 (((rd_T31 t191 (ji18)).f2) + (((rd_T31 t191 (ji18)).f1).size : Int))) < 0 then (ambidexterlaw10_LexerFirstError.j1 k t189 t190 t191 ji18 (wrap64 (((rd_T31 t191 (ji18)).f2) + (((rd_T31 t191 (ji18)).f1).size : Int))) true) else (ambidexterlaw10_LexerFirstError.j1 k t189 t190 t191 ji18 (wrap64 (((rd_T31 t191 (ji18)).f2) + (((rd_T31 t191 (ji18)).f1).size : Int))) (decide ((wrap64 (((rd_T31 t191 (ji18)).f2) + (((rd_T31 t191 (ji18)).f1).size : Int))) > (t190.size : Int))))) else (none)) else (none)) = some r := by first | (rw [hji18] at H; exact H) | (simp only [hji18] at H ⊢; exact H)
      (try rw [hji18] at A3)
      (try rw [hji18] at A4)
      (try rw [hji18] at A5)
      by_cases c19 : 0 ≤ (ji18)
      · rw [if_pos c19] at H
        have c19b0 : decide (0 ≤ (ji18)) = true := decide_eq_true c19
        clear c19
        by_cases c20 : (ji18) < (t191.length : Int)
        · rw [if_pos c20] at H
          have c20b0 : decide ((ji18) < (t191.length : Int)) = true := decide_eq_true c20
          clear c20
          have HC21 := Aside0.mk H
          clear H
          go_enter Try.func7, Try.ntmps7
          go_upto_region 14 with (first | (go_at_call 10; (with_reducible refine (ambidexterlaw10_head.calls  t189 _ A3.out).mono ?_); rintro e w22 ⟨rfl, hb⟩; have n0_ := Aside0.mk (below_step (by repeat (first | (with_reducible first | exact HB.out | apply below_alloc | apply pw_below_drewN | apply below_drew1) | exact HB.out)) hb); clear HB; have HB := n0_; clear n0_; (try clear hb); (try clear hb2); (try clear hk); (try clear hi)) | (go_at_call 11; (with_reducible refine (ambidexterlaw10_few.calls a0 t190 _ A4.out).mono ?_); rintro e w23 ⟨rfl, hb⟩; have n0_ := Aside0.mk (below_step (by repeat (first | (with_reducible first | exact HB.out | apply below_alloc | apply pw_below_drewN | apply below_drew1) | exact HB.out)) hb); clear HB; have HB := n0_; clear n0_; (try clear hb); (try clear hb2); (try clear hk); (try clear hi)) | (go_at_call 12; (with_reducible refine (lexer_Lex.calls t190 t191 t192 t193 _ A5.out).mono ?_); rintro e w24 ⟨v194, rfl, ho0, hb⟩; have n0_ := Aside0.mk (Kd.R_lower ho0 (below_size (by repeat (first | (with_reducible first | exact HB.out | apply below_alloc | apply pw_below_drewN | apply below_drew1) | exact HB.out)))); have n1_ := Aside0.mk (below_step (by repeat (first | (with_reducible first | exact HB.out | apply below_alloc | apply pw_below_drewN | apply below_drew1) | exact HB.out)) hb); clear HB; have HO195 := n0_; have HB := n1_; clear n0_ n1_; (try clear hb); (try clear hb2); (try clear hk); (try clear hi); (try clear ho0); obtain ⟨Ao25, co25, eo25⟩ := Kd.R_slice HO195.out; subst eo25; have p207 : 0 ≤ ((ji18) : Int) := of_decide_eq_true (by first | (with_reducible assumption) | assumption); have q207 : (ji18) < (t191.length : Int) := of_decide_eq_true (by first | (with_reducible assumption) | assumption); obtain ⟨ad207, e207, hx207_0, hx207_1, hx207_2⟩ := at_T31 (Kd.R_reads' HO195.out).2.2 (ji18) p207 q207; cases e207; replace p207 := eq_true p207; replace q207 := eq_true q207; have p208 : 0 ≤ ((ji18) : Int) := of_decide_eq_true (by first | (with_reducible assumption) | assumption); have q208 : (ji18) < (t191.length : Int) := of_decide_eq_true (by first | (with_reducible assumption) | assumption); obtain ⟨ad208, e208, hx208_0, hx208_1, hx208_2⟩ := at_T31 (Kd.R_reads' HO195.out).2.2 (ji18) p208 q208; obtain rfl : ad207 = ad208 := (by injection e208); replace p208 := eq_true p208; replace q208 := eq_true q208))
          repeat (go_quiet (first | (go_at_call 10; (with_reducible refine (ambidexterlaw10_head.calls  t189 _ A3.out).mono ?_); rintro e w22 ⟨rfl, hb⟩; have n0_ := Aside0.mk (below_step (by repeat (first | (with_reducible first | exact HB.out | apply below_alloc | apply pw_below_drewN | apply below_drew1) | exact HB.out)) hb); clear HB; have HB := n0_; clear n0_; (try clear hb); (try clear hb2); (try clear hk); (try clear hi)) | (go_at_call 11; (with_reducible refine (ambidexterlaw10_few.calls a0 t190 _ A4.out).mono ?_); rintro e w23 ⟨rfl, hb⟩; have n0_ := Aside0.mk (below_step (by repeat (first | (with_reducible first | exact HB.out | apply below_alloc | apply pw_below_drewN | apply below_drew1) | exact HB.out)) hb); clear HB; have HB := n0_; clear n0_; (try clear hb); (try clear hb2); (try clear hk); (try clear hi)) | (go_at_call 12; (with_reducible refine (lexer_Lex.calls t190 t191 t192 t193 _ A5.out).mono ?_); rintro e w24 ⟨v194, rfl, ho0, hb⟩; have n0_ := Aside0.mk (Kd.R_lower ho0 (below_size (by repeat (first | (with_reducible first | exact HB.out | apply below_alloc | apply pw_below_drewN | apply below_drew1) | exact HB.out)))); have n1_ := Aside0.mk (below_step (by repeat (first | (with_reducible first | exact HB.out | apply below_alloc | apply pw_below_drewN | apply below_drew1) | exact HB.out)) hb); clear HB; have HO195 := n0_; have HB := n1_; clear n0_ n1_; (try clear hb); (try clear hb2); (try clear hk); (try clear hi); (try clear ho0); obtain ⟨Ao25, co25, eo25⟩ := Kd.R_slice HO195.out; subst eo25; have p207 : 0 ≤ ((ji18) : Int) := of_decide_eq_true (by first | (with_reducible assumption) | assumption); have q207 : (ji18) < (t191.length : Int) := of_decide_eq_true (by first | (with_reducible assumption) | assumption); obtain ⟨ad207, e207, hx207_0, hx207_1, hx207_2⟩ := at_T31 (Kd.R_reads' HO195.out).2.2 (ji18) p207 q207; cases e207; replace p207 := eq_true p207; replace q207 := eq_true q207; have p208 : 0 ≤ ((ji18) : Int) := of_decide_eq_true (by first | (with_reducible assumption) | assumption); have q208 : (ji18) < (t191.length : Int) := of_decide_eq_true (by first | (with_reducible assumption) | assumption); obtain ⟨ad208, e208, hx208_0, hx208_1, hx208_2⟩ := at_T31 (Kd.R_reads' HO195.out).2.2 (ji18) p208 q208; obtain rfl : ad207 = ad208 := (by injection e208); replace p208 := eq_true p208; replace q208 := eq_true q208)); go_upto_region 14 with (first | (go_at_call 10; (with_reducible refine (ambidexterlaw10_head.calls  t189 _ A3.out).mono ?_); rintro e w22 ⟨rfl, hb⟩; have n0_ := Aside0.mk (below_step (by repeat (first | (with_reducible first | exact HB.out | apply below_alloc | apply pw_below_drewN | apply below_drew1) | exact HB.out)) hb); clear HB; have HB := n0_; clear n0_; (try clear hb); (try clear hb2); (try clear hk); (try clear hi)) | (go_at_call 11; (with_reducible refine (ambidexterlaw10_few.calls a0 t190 _ A4.out).mono ?_); rintro e w23 ⟨rfl, hb⟩; have n0_ := Aside0.mk (below_step (by repeat (first | (with_reducible first | exact HB.out | apply below_alloc | apply pw_below_drewN | apply below_drew1) | exact HB.out)) hb); clear HB; have HB := n0_; clear n0_; (try clear hb); (try clear hb2); (try clear hk); (try clear hi)) | (go_at_call 12; (with_reducible refine (lexer_Lex.calls t190 t191 t192 t193 _ A5.out).mono ?_); rintro e w24 ⟨v194, rfl, ho0, hb⟩; have n0_ := Aside0.mk (Kd.R_lower ho0 (below_size (by repeat (first | (with_reducible first | exact HB.out | apply below_alloc | apply pw_below_drewN | apply below_drew1) | exact HB.out)))); have n1_ := Aside0.mk (below_step (by repeat (first | (with_reducible first | exact HB.out | apply below_alloc | apply pw_below_drewN | apply below_drew1) | exact HB.out)) hb); clear HB; have HO195 := n0_; have HB := n1_; clear n0_ n1_; (try clear hb); (try clear hb2); (try clear hk); (try clear hi); (try clear ho0); obtain ⟨Ao25, co25, eo25⟩ := Kd.R_slice HO195.out; subst eo25; have p207 : 0 ≤ ((ji18) : Int) := of_decide_eq_true (by first | (with_reducible assumption) | assumption); have q207 : (ji18) < (t191.length : Int) := of_decide_eq_true (by first | (with_reducible assumption) | assumption); obtain ⟨ad207, e207, hx207_0, hx207_1, hx207_2⟩ := at_T31 (Kd.R_reads' HO195.out).2.2 (ji18) p207 q207; cases e207; replace p207 := eq_true p207; replace q207 := eq_true q207; have p208 : 0 ≤ ((ji18) : Int) := of_decide_eq_true (by first | (with_reducible assumption) | assumption); have q208 : (ji18) < (t191.length : Int) := of_decide_eq_true (by first | (with_reducible assumption) | assumption); obtain ⟨ad208, e208, hx208_0, hx208_1, hx208_2⟩ := at_T31 (Kd.R_reads' HO195.out).2.2 (ji18) p208 q208; obtain rfl : ad207 = ad208 := (by injection e208); replace p208 := eq_true p208; replace q208 := eq_true q208)))
          (try simp only [Act.put, List.setIfInBounds_toArray, List.set_cons_zero, List.set_cons_succ])
          go_cut [101] (fun v101 wc => ∃ (kq : Nat) (x101_20 : Bool), v101 = .bool x101_20 ∧ Aside0 (ambidexterlaw10_LexerFirstError.j1 kq t189 t190 t191 ji18 (wrap64 (((rd_T31 t191 (ji18)).f2) + (((rd_T31 t191 (ji18)).f1).size : Int))) x101_20 = some r) ∧ Aside0 (kq ≤ k) ∧ Aside0 (Kd.R k31 31 wc w.heap.size (fun _ => True) (.slice (some ad207) t191.length co25) t191) ∧ Aside0 (Below w.heap.size w wc))
          case first =>
            have H := HC21.out
            clear HC21
            by_cases c26 : (wrap64 (((rd_T31 t191 (ji18)).f2) + (((rd_T31 t191 (ji18)).f1).size : Int))) < 0
            · rw [if_pos c26] at H
              have c26b0 : decide ((wrap64 (((rd_T31 t191 (ji18)).f2) + (((rd_T31 t191 (ji18)).f1).size : Int))) < 0) = true := decide_eq_true c26
              clear c26
              (first | rw [c26b0] | (simp only [i64_w, i32_w]; rw [c26b0]) | skip)
              have H' := Aside0.mk H
              clear H
              go_wp2
              repeat (go_quiet (fail); try go_wp2)
              go_meet
              case rel => exact ⟨_, (true), (by first | rfl | (simp; done) | (simp [*]; done)), H', ⟨by first | omega | exact Nat.le_refl _⟩, ⟨by (with_reducible repeat (first | apply Kd.R_alloc | apply Kd.R_drewN | apply Kd.R_drew)); exact HO195.out⟩, ⟨by repeat (first | (with_reducible first | exact HB.out | apply below_alloc | apply pw_below_drewN | apply below_drew1) | exact HB.out)⟩⟩
            · rw [if_neg c26] at H
              have c26b0 : decide ((wrap64 (((rd_T31 t191 (ji18)).f2) + (((rd_T31 t191 (ji18)).f1).size : Int))) < 0) = false := decide_eq_false c26
              clear c26
              (first | rw [c26b0] | (simp only [i64_w, i32_w]; rw [c26b0]) | skip)
              have H' := Aside0.mk H
              clear H
              go_wp2
              repeat (go_quiet (fail); try go_wp2)
              go_meet
              case rel => exact ⟨_, (decide ((wrap64 (((rd_T31 t191 (ji18)).f2) + (((rd_T31 t191 (ji18)).f1).size : Int))) > (t190.size : Int))), (by first | rfl | (simp; done) | (simp only [← hji18] <;> (first | rfl | simp)) | (simp [*]; done)), H', ⟨by first | omega | exact Nat.le_refl _⟩, ⟨by (with_reducible repeat (first | apply Kd.R_alloc | apply Kd.R_drewN | apply Kd.R_drew)); exact HO195.out⟩, ⟨by repeat (first | (with_reducible first | exact HB.out | apply below_alloc | apply pw_below_drewN | apply below_drew1) | exact HB.out)⟩⟩
          case rest =>
            clear HC21
            try clear c1
            try clear c2
            try clear p2
            try clear q2
            try clear hx2
            try clear c6
            try clear c6b0
            try clear c6b1
            try clear p6
            try clear c7
            try clear c7b0
            try clear c7b1
            try clear c7b2
            try clear c8
            try clear c19
            try clear c19b0
            try clear c20
            try clear c20b0
            try clear p20
            try clear q20
            try clear hx20
            try clear c26
            try clear c26b0
            try clear hx207_0
            try clear hx207_1
            try clear hx207_2
            try clear hx208_0
            try clear hx208_1
            try clear hx208_2
            try clear p207
            try clear p208
            try clear q207
            try clear q208
            obtain ⟨kq, x101_20, rfl, HA, HJ20, HO_7, HB⟩ := hcut
            cases kq with
            | zero => exact absurd HA.out (by simp [ambidexterlaw10_LexerFirstError.j1])
            | succ kj20 =>
              have H := HA.out
              clear HA
              simp only [ambidexterlaw10_LexerFirstError.j1] at H
              by_cases c27 : x101_20 = true
              · subst c27
                have H1 : (some false) = some r := by rw [if_pos rfl] at H; exact H
                clear H
                have H := H1
                clear H1
                obtain rfl := Option.some.inj H
                go_wp2
                repeat (go_quiet (fail); try go_wp2)
                go_ret
                exact ⟨by first | rfl | (simp [errW_none, errW_some] <;> rfl) | (simp only [← hji18]; first | rfl | (simp [errW_none, errW_some] <;> rfl)) | (simp [*, errW_none, errW_some] <;> rfl), by repeat (first | (with_reducible first | exact HB.out | apply below_alloc | apply pw_below_drewN | apply below_drew1) | exact HB.out)⟩
              · replace c27 := Bool.eq_false_iff.mpr c27
                subst c27
                have H1 : (if 0 ≤ (wrap64 (((rd_T31 t191 (ji18)).f2) + (((rd_T31 t191 (ji18)).f1).size : Int))) then (if (wrap64 (((rd_T31 t191 (ji18)).f2) + (((rd_T31 t191 (ji18)).f1).size : Int))) ≤ (t190.size : Int) then ((lexer_Lex.f (t190.extract 0 ((wrap64 (((rd_T31 t191 (ji18)).f2) + (((rd_T31 t191 (ji18)).f1).size : Int))) : Int).toNat)).bind fun bt209 => (if t189 = true then (if bt209.2.1 = 0 then (if 0 ≤ (wrap64 (ji18 + 1)) then (if (wrap64 (ji18 + 1)) ≤ (t191.length : Int) then ((ambidexterref10_Same.f kj20 bt209.1 (t191.take ((wrap64 (ji18 + 1)) : Int).toNat)).bind fun t218 => (some t218)) else (none)) else (none)) else (some false)) else (some false))) else (none)) else (none)) = some r := by rw [if_neg (show ¬ (false = true) by decide)] at H; exact H
                clear H
                have H := H1
                clear H1
                obtain ⟨ji28, hji28⟩ : ∃ j_ : Int, (wrap64 (((rd_T31 t191 (ji18)).f2) + (((rd_T31 t191 (ji18)).f1).size : Int))) = j_ := ⟨_, rfl⟩
                replace H : (if 0 ≤ (ji28) then (if (ji28) ≤ (t190.size : Int) then ((lexer_Lex.f (t190.extract 0 ((ji28) : Int).toNat)).bind fun bt209 => (if t189 = true then (if bt209.2.1 = 0 then (if 0 ≤ (wrap64 (ji18 + 1)) then (if (wrap64 (ji18 + 1)) ≤ (t191.length : Int) then ((ambidexterref10_Same.f kj20 bt209.1 (t191.take ((wrap64 (ji18 + 1)) : Int).toNat)).bind fun t218 => (some t218)) else (none)) else (none)) else (some false)) else (some false))) else (none)) else (none)) = some r := by first | (rw [hji28] at H; exact H) | (simp only [hji28] at H ⊢; exact H)
                have hji28w : (IntKind.i64.wrap (((rd_T31 t191 (ji18)).f2) + (((rd_T31 t191 (ji18)).f1).size : Int))) = ji28 := (i64_w _).trans hji28
                by_cases c29 : 0 ≤ (ji28)
                · rw [if_pos c29] at H
                  have c29b0 := eq_true c29
                  have c29b1 : decide (0 ≤ (ji28)) = true := decide_eq_true c29
                  clear c29
                  by_cases c30 : (ji28) ≤ (t190.size : Int)
                  · rw [if_pos c30] at H
                    have c30b0 := eq_true c30
                    have c30b1 : decide ((ji28) ≤ (t190.size : Int)) = true := decide_eq_true c30
                    clear c30
                    replace H := Option.bind_eq_some_iff.mp H
                    obtain ⟨⟨t209, t210, t211⟩, A310, H⟩ := H
                    replace H : (if t189 = true then (if t210 = 0 then (if 0 ≤ (wrap64 (ji18 + 1)) then (if (wrap64 (ji18 + 1)) ≤ (t191.length : Int) then ((ambidexterref10_Same.f kj20 t209 (t191.take ((wrap64 (ji18 + 1)) : Int).toNat)).bind fun t218 => (some t218)) else (none)) else (none)) else (some false)) else (some false)) = some r := H
                    have A31 := Aside0.mk A310
                    clear A310
                    by_cases c32 : t189 = true
                    · subst c32
                      have H1 : (if t210 = 0 then (if 0 ≤ (wrap64 (ji18 + 1)) then (if (wrap64 (ji18 + 1)) ≤ (t191.length : Int) then ((ambidexterref10_Same.f kj20 t209 (t191.take ((wrap64 (ji18 + 1)) : Int).toNat)).bind fun t218 => (some t218)) else (none)) else (none)) else (some false)) = some r := by rw [if_pos rfl] at H; exact H
                      clear H
                      have H := H1
                      clear H1
                      by_cases c33 : t210 = 0
                      · rw [if_pos c33] at H
                        have c33b0 : (t210 == 0) = true := beq_iff_eq.mpr c33
                        have c33b1 : (t210 != 0) = false := bne_eq_false_iff_eq.mpr c33
                        clear c33
                        obtain ⟨ji34, hji34⟩ : ∃ j_ : Int, (wrap64 (ji18 + 1)) = j_ := ⟨_, rfl⟩
                        replace H : (if 0 ≤ (ji34) then (if (ji34) ≤ (t191.length : Int) then ((ambidexterref10_Same.f kj20 t209 (t191.take ((ji34) : Int).toNat)).bind fun t218 => (some t218)) else (none)) else (none)) = some r := by first | (rw [hji34] at H; exact H) | (simp only [hji34] at H ⊢; exact H)
                        (try rw [hji34] at A31)
                        have hji34w : (IntKind.i64.wrap (ji18 + 1)) = ji34 := (i64_w _).trans hji34
                        by_cases c35 : 0 ≤ (ji34)
                        · rw [if_pos c35] at H
                          have c35b0 := eq_true c35
                          have c35b1 : decide (0 ≤ (ji34)) = true := decide_eq_true c35
                          clear c35
                          by_cases c36 : (ji34) ≤ (t191.length : Int)
                          · rw [if_pos c36] at H
                            have c36b0 := eq_true c36
                            have c36b1 : decide ((ji34) ≤ (t191.length : Int)) = true := decide_eq_true c36
                            clear c36
                            obtain ⟨y214, hy214⟩ : ∃ y_ : List (S31), y_ = (t191.take ((ji34) : Int).toNat) := ⟨_, rfl⟩
                            replace H : ((ambidexterref10_Same.f kj20 t209 y214).bind fun t218 => (some t218)) = some r := by first | (rw [hy214]; with_reducible exact H) | (have H2_ := (Option.bind_some _ _).symm.trans H; rw [hy214]; with_reducible exact H2_) | (have H2_ := (Option.bind_some _ _).symm.trans H; with_reducible exact H2_) | with_reducible exact H | (rw [hy214]; exact H) | exact H
                            have Ny214 := Aside0.mk hy214
                            clear hy214
                            replace H := Option.bind_eq_some_iff.mp H
                            obtain ⟨t218, A370, H⟩ := H
                            replace H : (some t218) = some r := H
                            have A37 := Aside0.mk A370
                            clear A370
                            obtain rfl := Option.some.inj H
                            go_wp2_with (first | (go_at_call 12; (with_reducible refine (lexer_Lex.calls (t190.extract 0 ((ji28) : Int).toNat) t209 t210 t211 _ A31.out).mono ?_); rintro e w38 ⟨v212, rfl, ho0, hb⟩; have n0_ := Aside0.mk (Kd.R_elder' (by (with_reducible repeat (first | apply Kd.R_alloc | apply Kd.R_drewN | apply Kd.R_drew)); exact HO_7.out) (Kd.R_base ho0) hb); have n1_ := Aside0.mk (Kd.R_lower (Kd.R_new' ho0 (Kd.R_lt (by (with_reducible repeat (first | apply Kd.R_alloc | apply Kd.R_drewN | apply Kd.R_drew)); exact HO_7.out))) (below_size (by repeat (first | (with_reducible first | exact HB.out | apply below_alloc | apply pw_below_drewN | apply below_drew1) | exact HB.out)))); have n2_ := Aside0.mk (below_step (by repeat (first | (with_reducible first | exact HB.out | apply below_alloc | apply pw_below_drewN | apply below_drew1) | exact HB.out)) hb); clear HO_7; clear HB; have HO_7 := n0_; have HO213 := n1_; have HB := n2_; clear n0_ n1_ n2_; (try clear hb); (try clear hb2); (try clear hk); (try clear hi); (try clear ho0); have q39 : ((ji34) : Int) ≤ ((t191.length : Int) : Int) := of_decide_eq_true (by first | (with_reducible assumption) | assumption); obtain ⟨i039, hi039, _, hsz39, _⟩ := info_parts info31; have hroom39 : t191.length ≤ co25 := (Kd.R_reads' HO_7.out).2.1; have hC39 : Kd.C k31 _ (some ad207) t191.length t191 := (Kd.R_reads' HO_7.out).2.2; have hcut39 := cut_to (P := Try.prog) 24 31 .i64 Try.underlying24 hi039 (some ad207) t191.length co25 (ji34) (of_decide_eq_true (by first | (with_reducible assumption) | assumption)) q39 hroom39; have hr39 := Kd.C_take (m := ((ji34) : Int).toNat) hC39 (by omega); have hy39 : y214.length = ((ji34) : Int).toNat := (by rw [Ny214.out, List.length_take]; omega); rw [← Ny214.out] at hr39; rw [← hy39] at hcut39; have HR217 := Aside0.mk hr39; have HC217 := Aside0.mk (show y214.length ≤ co25 from by omega); clear hr39 hC39 hroom39 hi039 hsz39; have KY39 := Aside0.mk hy39; clear hy39; have KL39 := Aside0.mk (show ((ji34) : Int).toNat ≤ t191.length from by omega); replace q39 := eq_true q39; obtain ⟨Ao40, co40, eo40⟩ := Kd.R_slice HO213.out; subst eo40) | (go_at_call 14; (with_reducible refine (ambidexterref10_Same.calls kj20 _ _ t209 _ _ y214 t218 _ ?side1 ?side2 ?side3 ?side4 A37.out).mono ?_); (case side1 => repeat (first | exact (Kd.R_reads' HO213.out).2.2 | (with_reducible refine Kd.C_alloc ?_ _) | (with_reducible refine Kd.C_drewN ?_ _) | (with_reducible refine Kd.C_drew ?_))); (case side2 => exact (Kd.R_reads' HO213.out).2.1); (case side3 => repeat (first | exact (by repeat (first | (with_reducible exact HR217.out) | (with_reducible refine Kd.C_alloc ?_ _) | (with_reducible refine Kd.C_drewN ?_ _) | (with_reducible refine Kd.C_drew ?_) | exact HR217.out)) | (with_reducible refine Kd.C_alloc ?_ _) | (with_reducible refine Kd.C_drewN ?_ _) | (with_reducible refine Kd.C_drew ?_))); (case side4 => exact HC217.out); rintro e w' ⟨rfl, ⟨nd, rfl⟩⟩; (try first | exact ⟨rfl, _, World.drewN_drewN _ _ _⟩ | exact ⟨rfl, _, Eq.trans (World.drewN_drewN _ _ _) (congrArg (World.drewN _) (Nat.add_assoc _ _ _))⟩)))
                            repeat (go_quiet (first | (go_at_call 12; (with_reducible refine (lexer_Lex.calls (t190.extract 0 ((ji28) : Int).toNat) t209 t210 t211 _ A31.out).mono ?_); rintro e w38 ⟨v212, rfl, ho0, hb⟩; have n0_ := Aside0.mk (Kd.R_elder' (by (with_reducible repeat (first | apply Kd.R_alloc | apply Kd.R_drewN | apply Kd.R_drew)); exact HO_7.out) (Kd.R_base ho0) hb); have n1_ := Aside0.mk (Kd.R_lower (Kd.R_new' ho0 (Kd.R_lt (by (with_reducible repeat (first | apply Kd.R_alloc | apply Kd.R_drewN | apply Kd.R_drew)); exact HO_7.out))) (below_size (by repeat (first | (with_reducible first | exact HB.out | apply below_alloc | apply pw_below_drewN | apply below_drew1) | exact HB.out)))); have n2_ := Aside0.mk (below_step (by repeat (first | (with_reducible first | exact HB.out | apply below_alloc | apply pw_below_drewN | apply below_drew1) | exact HB.out)) hb); clear HO_7; clear HB; have HO_7 := n0_; have HO213 := n1_; have HB := n2_; clear n0_ n1_ n2_; (try clear hb); (try clear hb2); (try clear hk); (try clear hi); (try clear ho0); have q39 : ((ji34) : Int) ≤ ((t191.length : Int) : Int) := of_decide_eq_true (by first | (with_reducible assumption) | assumption); obtain ⟨i039, hi039, _, hsz39, _⟩ := info_parts info31; have hroom39 : t191.length ≤ co25 := (Kd.R_reads' HO_7.out).2.1; have hC39 : Kd.C k31 _ (some ad207) t191.length t191 := (Kd.R_reads' HO_7.out).2.2; have hcut39 := cut_to (P := Try.prog) 24 31 .i64 Try.underlying24 hi039 (some ad207) t191.length co25 (ji34) (of_decide_eq_true (by first | (with_reducible assumption) | assumption)) q39 hroom39; have hr39 := Kd.C_take (m := ((ji34) : Int).toNat) hC39 (by omega); have hy39 : y214.length = ((ji34) : Int).toNat := (by rw [Ny214.out, List.length_take]; omega); rw [← Ny214.out] at hr39; rw [← hy39] at hcut39; have HR217 := Aside0.mk hr39; have HC217 := Aside0.mk (show y214.length ≤ co25 from by omega); clear hr39 hC39 hroom39 hi039 hsz39; have KY39 := Aside0.mk hy39; clear hy39; have KL39 := Aside0.mk (show ((ji34) : Int).toNat ≤ t191.length from by omega); replace q39 := eq_true q39; obtain ⟨Ao40, co40, eo40⟩ := Kd.R_slice HO213.out; subst eo40) | (go_at_call 14; (with_reducible refine (ambidexterref10_Same.calls kj20 _ _ t209 _ _ y214 t218 _ ?side1 ?side2 ?side3 ?side4 A37.out).mono ?_); (case side1 => repeat (first | exact (Kd.R_reads' HO213.out).2.2 | (with_reducible refine Kd.C_alloc ?_ _) | (with_reducible refine Kd.C_drewN ?_ _) | (with_reducible refine Kd.C_drew ?_))); (case side2 => exact (Kd.R_reads' HO213.out).2.1); (case side3 => repeat (first | exact (by repeat (first | (with_reducible exact HR217.out) | (with_reducible refine Kd.C_alloc ?_ _) | (with_reducible refine Kd.C_drewN ?_ _) | (with_reducible refine Kd.C_drew ?_) | exact HR217.out)) | (with_reducible refine Kd.C_alloc ?_ _) | (with_reducible refine Kd.C_drewN ?_ _) | (with_reducible refine Kd.C_drew ?_))); (case side4 => exact HC217.out); rintro e w' ⟨rfl, ⟨nd, rfl⟩⟩; (try first | exact ⟨rfl, _, World.drewN_drewN _ _ _⟩ | exact ⟨rfl, _, Eq.trans (World.drewN_drewN _ _ _) (congrArg (World.drewN _) (Nat.add_assoc _ _ _))⟩))); try go_wp2_with (first | (go_at_call 12; (with_reducible refine (lexer_Lex.calls (t190.extract 0 ((ji28) : Int).toNat) t209 t210 t211 _ A31.out).mono ?_); rintro e w38 ⟨v212, rfl, ho0, hb⟩; have n0_ := Aside0.mk (Kd.R_elder' (by (with_reducible repeat (first | apply Kd.R_alloc | apply Kd.R_drewN | apply Kd.R_drew)); exact HO_7.out) (Kd.R_base ho0) hb); have n1_ := Aside0.mk (Kd.R_lower (Kd.R_new' ho0 (Kd.R_lt (by (with_reducible repeat (first | apply Kd.R_alloc | apply Kd.R_drewN | apply Kd.R_drew)); exact HO_7.out))) (below_size (by repeat (first | (with_reducible first | exact HB.out | apply below_alloc | apply pw_below_drewN | apply below_drew1) | exact HB.out)))); have n2_ := Aside0.mk (below_step (by repeat (first | (with_reducible first | exact HB.out | apply below_alloc | apply pw_below_drewN | apply below_drew1) | exact HB.out)) hb); clear HO_7; clear HB; have HO_7 := n0_; have HO213 := n1_; have HB := n2_; clear n0_ n1_ n2_; (try clear hb); (try clear hb2); (try clear hk); (try clear hi); (try clear ho0); have q39 : ((ji34) : Int) ≤ ((t191.length : Int) : Int) := of_decide_eq_true (by first | (with_reducible assumption) | assumption); obtain ⟨i039, hi039, _, hsz39, _⟩ := info_parts info31; have hroom39 : t191.length ≤ co25 := (Kd.R_reads' HO_7.out).2.1; have hC39 : Kd.C k31 _ (some ad207) t191.length t191 := (Kd.R_reads' HO_7.out).2.2; have hcut39 := cut_to (P := Try.prog) 24 31 .i64 Try.underlying24 hi039 (some ad207) t191.length co25 (ji34) (of_decide_eq_true (by first | (with_reducible assumption) | assumption)) q39 hroom39; have hr39 := Kd.C_take (m := ((ji34) : Int).toNat) hC39 (by omega); have hy39 : y214.length = ((ji34) : Int).toNat := (by rw [Ny214.out, List.length_take]; omega); rw [← Ny214.out] at hr39; rw [← hy39] at hcut39; have HR217 := Aside0.mk hr39; have HC217 := Aside0.mk (show y214.length ≤ co25 from by omega); clear hr39 hC39 hroom39 hi039 hsz39; have KY39 := Aside0.mk hy39; clear hy39; have KL39 := Aside0.mk (show ((ji34) : Int).toNat ≤ t191.length from by omega); replace q39 := eq_true q39; obtain ⟨Ao40, co40, eo40⟩ := Kd.R_slice HO213.out; subst eo40) | (go_at_call 14; (with_reducible refine (ambidexterref10_Same.calls kj20 _ _ t209 _ _ y214 t218 _ ?side1 ?side2 ?side3 ?side4 A37.out).mono ?_); (case side1 => repeat (first | exact (Kd.R_reads' HO213.out).2.2 | (with_reducible refine Kd.C_alloc ?_ _) | (with_reducible refine Kd.C_drewN ?_ _) | (with_reducible refine Kd.C_drew ?_))); (case side2 => exact (Kd.R_reads' HO213.out).2.1); (case side3 => repeat (first | exact (by repeat (first | (with_reducible exact HR217.out) | (with_reducible refine Kd.C_alloc ?_ _) | (with_reducible refine Kd.C_drewN ?_ _) | (with_reducible refine Kd.C_drew ?_) | exact HR217.out)) | (with_reducible refine Kd.C_alloc ?_ _) | (with_reducible refine Kd.C_drewN ?_ _) | (with_reducible refine Kd.C_drew ?_))); (case side4 => exact HC217.out); rintro e w' ⟨rfl, ⟨nd, rfl⟩⟩; (try first | exact ⟨rfl, _, World.drewN_drewN _ _ _⟩ | exact ⟨rfl, _, Eq.trans (World.drewN_drewN _ _ _) (congrArg (World.drewN _) (Nat.add_assoc _ _ _))⟩))))
                            go_ret
                            exact ⟨by first | rfl | (simp [errW_none, errW_some] <;> rfl) | (simp only [← hji18, ← hji28, ← hji34]; first | rfl | (simp [errW_none, errW_some] <;> rfl)) | (simp [*, errW_none, errW_some] <;> rfl), by repeat (first | (with_reducible first | exact HB.out | apply below_alloc | apply pw_below_drewN | apply below_drew1) | exact HB.out)⟩
                          · rw [if_neg c36] at H
                            exact absurd H (by simp)
                        · rw [if_neg c35] at H
                          exact absurd H (by simp)
                      · rw [if_neg c33] at H
                        have c33b0 : (t210 == 0) = false := beq_eq_false_iff_ne.mpr c33
                        have c33b1 : (t210 != 0) = true := bne_iff_ne.mpr c33
                        obtain rfl := Option.some.inj H
                        go_wp2_with (first | (go_at_call 12; (with_reducible refine (lexer_Lex.calls (t190.extract 0 ((ji28) : Int).toNat) t209 t210 t211 _ A31.out).mono ?_); rintro e w41 ⟨v212, rfl, ho0, hb⟩; have n0_ := Aside0.mk (Kd.R_elder' (by (with_reducible repeat (first | apply Kd.R_alloc | apply Kd.R_drewN | apply Kd.R_drew)); exact HO_7.out) (Kd.R_base ho0) hb); have n1_ := Aside0.mk (Kd.R_lower (Kd.R_new' ho0 (Kd.R_lt (by (with_reducible repeat (first | apply Kd.R_alloc | apply Kd.R_drewN | apply Kd.R_drew)); exact HO_7.out))) (below_size (by repeat (first | (with_reducible first | exact HB.out | apply below_alloc | apply pw_below_drewN | apply below_drew1) | exact HB.out)))); have n2_ := Aside0.mk (below_step (by repeat (first | (with_reducible first | exact HB.out | apply below_alloc | apply pw_below_drewN | apply below_drew1) | exact HB.out)) hb); clear HO_7; clear HB; have HO_7 := n0_; have HO213 := n1_; have HB := n2_; clear n0_ n1_ n2_; (try clear hb); (try clear hb2); (try clear hk); (try clear hi); (try clear ho0)))
                        repeat (go_quiet (first | (go_at_call 12; (with_reducible refine (lexer_Lex.calls (t190.extract 0 ((ji28) : Int).toNat) t209 t210 t211 _ A31.out).mono ?_); rintro e w41 ⟨v212, rfl, ho0, hb⟩; have n0_ := Aside0.mk (Kd.R_elder' (by (with_reducible repeat (first | apply Kd.R_alloc | apply Kd.R_drewN | apply Kd.R_drew)); exact HO_7.out) (Kd.R_base ho0) hb); have n1_ := Aside0.mk (Kd.R_lower (Kd.R_new' ho0 (Kd.R_lt (by (with_reducible repeat (first | apply Kd.R_alloc | apply Kd.R_drewN | apply Kd.R_drew)); exact HO_7.out))) (below_size (by repeat (first | (with_reducible first | exact HB.out | apply below_alloc | apply pw_below_drewN | apply below_drew1) | exact HB.out)))); have n2_ := Aside0.mk (below_step (by repeat (first | (with_reducible first | exact HB.out | apply below_alloc | apply pw_below_drewN | apply below_drew1) | exact HB.out)) hb); clear HO_7; clear HB; have HO_7 := n0_; have HO213 := n1_; have HB := n2_; clear n0_ n1_ n2_; (try clear hb); (try clear hb2); (try clear hk); (try clear hi); (try clear ho0))); try go_wp2_with (first | (go_at_call 12; (with_reducible refine (lexer_Lex.calls (t190.extract 0 ((ji28) : Int).toNat) t209 t210 t211 _ A31.out).mono ?_); rintro e w41 ⟨v212, rfl, ho0, hb⟩; have n0_ := Aside0.mk (Kd.R_elder' (by (with_reducible repeat (first | apply Kd.R_alloc | apply Kd.R_drewN | apply Kd.R_drew)); exact HO_7.out) (Kd.R_base ho0) hb); have n1_ := Aside0.mk (Kd.R_lower (Kd.R_new' ho0 (Kd.R_lt (by (with_reducible repeat (first | apply Kd.R_alloc | apply Kd.R_drewN | apply Kd.R_drew)); exact HO_7.out))) (below_size (by repeat (first | (with_reducible first | exact HB.out | apply below_alloc | apply pw_below_drewN | apply below_drew1) | exact HB.out)))); have n2_ := Aside0.mk (below_step (by repeat (first | (with_reducible first | exact HB.out | apply below_alloc | apply pw_below_drewN | apply below_drew1) | exact HB.out)) hb); clear HO_7; clear HB; have HO_7 := n0_; have HO213 := n1_; have HB := n2_; clear n0_ n1_ n2_; (try clear hb); (try clear hb2); (try clear hk); (try clear hi); (try clear ho0))))
                        go_ret
                        exact ⟨by first | rfl | (simp [errW_none, errW_some] <;> rfl) | (simp only [← hji18, ← hji28]; first | rfl | (simp [errW_none, errW_some] <;> rfl)) | (simp [*, errW_none, errW_some] <;> rfl), by repeat (first | (with_reducible first | exact HB.out | apply below_alloc | apply pw_below_drewN | apply below_drew1) | exact HB.out)⟩
                    · replace c32 := Bool.eq_false_iff.mpr c32
                      subst c32
                      have H1 : (some false) = some r := by rw [if_neg (show ¬ (false = true) by decide)] at H; exact H
                      clear H
                      have H := H1
                      clear H1
                      obtain rfl := Option.some.inj H
                      go_wp2_with (first | (go_at_call 12; (with_reducible refine (lexer_Lex.calls (t190.extract 0 ((ji28) : Int).toNat) t209 t210 t211 _ A31.out).mono ?_); rintro e w42 ⟨v212, rfl, ho0, hb⟩; have n0_ := Aside0.mk (Kd.R_elder' (by (with_reducible repeat (first | apply Kd.R_alloc | apply Kd.R_drewN | apply Kd.R_drew)); exact HO_7.out) (Kd.R_base ho0) hb); have n1_ := Aside0.mk (Kd.R_lower (Kd.R_new' ho0 (Kd.R_lt (by (with_reducible repeat (first | apply Kd.R_alloc | apply Kd.R_drewN | apply Kd.R_drew)); exact HO_7.out))) (below_size (by repeat (first | (with_reducible first | exact HB.out | apply below_alloc | apply pw_below_drewN | apply below_drew1) | exact HB.out)))); have n2_ := Aside0.mk (below_step (by repeat (first | (with_reducible first | exact HB.out | apply below_alloc | apply pw_below_drewN | apply below_drew1) | exact HB.out)) hb); clear HO_7; clear HB; have HO_7 := n0_; have HO213 := n1_; have HB := n2_; clear n0_ n1_ n2_; (try clear hb); (try clear hb2); (try clear hk); (try clear hi); (try clear ho0)))
                      repeat (go_quiet (first | (go_at_call 12; (with_reducible refine (lexer_Lex.calls (t190.extract 0 ((ji28) : Int).toNat) t209 t210 t211 _ A31.out).mono ?_); rintro e w42 ⟨v212, rfl, ho0, hb⟩; have n0_ := Aside0.mk (Kd.R_elder' (by (with_reducible repeat (first | apply Kd.R_alloc | apply Kd.R_drewN | apply Kd.R_drew)); exact HO_7.out) (Kd.R_base ho0) hb); have n1_ := Aside0.mk (Kd.R_lower (Kd.R_new' ho0 (Kd.R_lt (by (with_reducible repeat (first | apply Kd.R_alloc | apply Kd.R_drewN | apply Kd.R_drew)); exact HO_7.out))) (below_size (by repeat (first | (with_reducible first | exact HB.out | apply below_alloc | apply pw_below_drewN | apply below_drew1) | exact HB.out)))); have n2_ := Aside0.mk (below_step (by repeat (first | (with_reducible first | exact HB.out | apply below_alloc | apply pw_below_drewN | apply below_drew1) | exact HB.out)) hb); clear HO_7; clear HB; have HO_7 := n0_; have HO213 := n1_; have HB := n2_; clear n0_ n1_ n2_; (try clear hb); (try clear hb2); (try clear hk); (try clear hi); (try clear ho0))); try go_wp2_with (first | (go_at_call 12; (with_reducible refine (lexer_Lex.calls (t190.extract 0 ((ji28) : Int).toNat) t209 t210 t211 _ A31.out).mono ?_); rintro e w42 ⟨v212, rfl, ho0, hb⟩; have n0_ := Aside0.mk (Kd.R_elder' (by (with_reducible repeat (first | apply Kd.R_alloc | apply Kd.R_drewN | apply Kd.R_drew)); exact HO_7.out) (Kd.R_base ho0) hb); have n1_ := Aside0.mk (Kd.R_lower (Kd.R_new' ho0 (Kd.R_lt (by (with_reducible repeat (first | apply Kd.R_alloc | apply Kd.R_drewN | apply Kd.R_drew)); exact HO_7.out))) (below_size (by repeat (first | (with_reducible first | exact HB.out | apply below_alloc | apply pw_below_drewN | apply below_drew1) | exact HB.out)))); have n2_ := Aside0.mk (below_step (by repeat (first | (with_reducible first | exact HB.out | apply below_alloc | apply pw_below_drewN | apply below_drew1) | exact HB.out)) hb); clear HO_7; clear HB; have HO_7 := n0_; have HO213 := n1_; have HB := n2_; clear n0_ n1_ n2_; (try clear hb); (try clear hb2); (try clear hk); (try clear hi); (try clear ho0))))
                      go_ret
                      exact ⟨by first | rfl | (simp [errW_none, errW_some] <;> rfl) | (simp only [← hji18, ← hji28]; first | rfl | (simp [errW_none, errW_some] <;> rfl)) | (simp [*, errW_none, errW_some] <;> rfl), by repeat (first | (with_reducible first | exact HB.out | apply below_alloc | apply pw_below_drewN | apply below_drew1) | exact HB.out)⟩
                  · rw [if_neg c30] at H
                    exact absurd H (by simp)
                · rw [if_neg c29] at H
                  exact absurd H (by simp)
        · rw [if_neg c20] at H
          exact absurd H (by simp)
      · rw [if_neg c19] at H
        exact absurd H (by simp)
  · rw [if_neg c6] at H
    have c6b0 : (t192 == 0) = false := beq_eq_false_iff_ne.mpr c6
    have c6b1 : (t192 != 0) = true := bne_iff_ne.mpr c6
    have HC43 := Aside0.mk H
    clear H
    go_enter Try.func7, Try.ntmps7
    go_upto_region 5 with (first | (go_at_call 10; (with_reducible refine (ambidexterlaw10_head.calls  t189 _ A3.out).mono ?_); rintro e w44 ⟨rfl, hb⟩; have n0_ := Aside0.mk (below_step (by repeat (first | (with_reducible first | exact HB.out | apply below_alloc | apply pw_below_drewN | apply below_drew1) | exact HB.out)) hb); clear HB; have HB := n0_; clear n0_; (try clear hb); (try clear hb2); (try clear hk); (try clear hi)) | (go_at_call 11; (with_reducible refine (ambidexterlaw10_few.calls a0 t190 _ A4.out).mono ?_); rintro e w45 ⟨rfl, hb⟩; have n0_ := Aside0.mk (below_step (by repeat (first | (with_reducible first | exact HB.out | apply below_alloc | apply pw_below_drewN | apply below_drew1) | exact HB.out)) hb); clear HB; have HB := n0_; clear n0_; (try clear hb); (try clear hb2); (try clear hk); (try clear hi)) | (go_at_call 12; (with_reducible refine (lexer_Lex.calls t190 t191 t192 t193 _ A5.out).mono ?_); rintro e w46 ⟨v194, rfl, ho0, hb⟩; have n0_ := Aside0.mk (Kd.R_lower ho0 (below_size (by repeat (first | (with_reducible first | exact HB.out | apply below_alloc | apply pw_below_drewN | apply below_drew1) | exact HB.out)))); have n1_ := Aside0.mk (below_step (by repeat (first | (with_reducible first | exact HB.out | apply below_alloc | apply pw_below_drewN | apply below_drew1) | exact HB.out)) hb); clear HB; have HO195 := n0_; have HB := n1_; clear n0_ n1_; (try clear hb); (try clear hb2); (try clear hk); (try clear hi); (try clear ho0)))
    repeat (go_quiet (first | (go_at_call 10; (with_reducible refine (ambidexterlaw10_head.calls  t189 _ A3.out).mono ?_); rintro e w44 ⟨rfl, hb⟩; have n0_ := Aside0.mk (below_step (by repeat (first | (with_reducible first | exact HB.out | apply below_alloc | apply pw_below_drewN | apply below_drew1) | exact HB.out)) hb); clear HB; have HB := n0_; clear n0_; (try clear hb); (try clear hb2); (try clear hk); (try clear hi)) | (go_at_call 11; (with_reducible refine (ambidexterlaw10_few.calls a0 t190 _ A4.out).mono ?_); rintro e w45 ⟨rfl, hb⟩; have n0_ := Aside0.mk (below_step (by repeat (first | (with_reducible first | exact HB.out | apply below_alloc | apply pw_below_drewN | apply below_drew1) | exact HB.out)) hb); clear HB; have HB := n0_; clear n0_; (try clear hb); (try clear hb2); (try clear hk); (try clear hi)) | (go_at_call 12; (with_reducible refine (lexer_Lex.calls t190 t191 t192 t193 _ A5.out).mono ?_); rintro e w46 ⟨v194, rfl, ho0, hb⟩; have n0_ := Aside0.mk (Kd.R_lower ho0 (below_size (by repeat (first | (with_reducible first | exact HB.out | apply below_alloc | apply pw_below_drewN | apply below_drew1) | exact HB.out)))); have n1_ := Aside0.mk (below_step (by repeat (first | (with_reducible first | exact HB.out | apply below_alloc | apply pw_below_drewN | apply below_drew1) | exact HB.out)) hb); clear HB; have HO195 := n0_; have HB := n1_; clear n0_ n1_; (try clear hb); (try clear hb2); (try clear hk); (try clear hi); (try clear ho0))); go_upto_region 5 with (first | (go_at_call 10; (with_reducible refine (ambidexterlaw10_head.calls  t189 _ A3.out).mono ?_); rintro e w44 ⟨rfl, hb⟩; have n0_ := Aside0.mk (below_step (by repeat (first | (with_reducible first | exact HB.out | apply below_alloc | apply pw_below_drewN | apply below_drew1) | exact HB.out)) hb); clear HB; have HB := n0_; clear n0_; (try clear hb); (try clear hb2); (try clear hk); (try clear hi)) | (go_at_call 11; (with_reducible refine (ambidexterlaw10_few.calls a0 t190 _ A4.out).mono ?_); rintro e w45 ⟨rfl, hb⟩; have n0_ := Aside0.mk (below_step (by repeat (first | (with_reducible first | exact HB.out | apply below_alloc | apply pw_below_drewN | apply below_drew1) | exact HB.out)) hb); clear HB; have HB := n0_; clear n0_; (try clear hb); (try clear hb2); (try clear hk); (try clear hi)) | (go_at_call 12; (with_reducible refine (lexer_Lex.calls t190 t191 t192 t193 _ A5.out).mono ?_); rintro e w46 ⟨v194, rfl, ho0, hb⟩; have n0_ := Aside0.mk (Kd.R_lower ho0 (below_size (by repeat (first | (with_reducible first | exact HB.out | apply below_alloc | apply pw_below_drewN | apply below_drew1) | exact HB.out)))); have n1_ := Aside0.mk (below_step (by repeat (first | (with_reducible first | exact HB.out | apply below_alloc | apply pw_below_drewN | apply below_drew1) | exact HB.out)) hb); clear HB; have HO195 := n0_; have HB := n1_; clear n0_ n1_; (try clear hb); (try clear hb2); (try clear hk); (try clear hi); (try clear ho0))))
    (try simp only [Act.put, List.setIfInBounds_toArray, List.set_cons_zero, List.set_cons_succ])
    go_cut [39] (fun v39 wc => ∃ (kq : Nat) (x39_42 : Bool), v39 = .bool x39_42 ∧ Aside0 (ambidexterlaw10_LexerFirstError.j0 kq t189 t190 t193 x39_42 = some r) ∧ Aside0 (kq ≤ k) ∧ Aside0 (Below w.heap.size w wc))
    case first =>
      have H := HC43.out
      clear HC43
      by_cases c47 : t193 < 0
      · rw [if_pos c47] at H
        have c47b0 : decide (t193 < 0) = true := decide_eq_true c47
        clear c47
        (first | rw [c47b0] | (simp only [i64_w, i32_w]; rw [c47b0]) | skip)
        have H' := Aside0.mk H
        clear H
        go_wp2
        repeat (go_quiet (fail); try go_wp2)
        go_meet
        case rel => exact ⟨_, (true), (by first | rfl | (simp; done) | (simp [*]; done)), H', ⟨by first | omega | exact Nat.le_refl _⟩, ⟨by repeat (first | (with_reducible first | exact HB.out | apply below_alloc | apply pw_below_drewN | apply below_drew1) | exact HB.out)⟩⟩
      · rw [if_neg c47] at H
        have c47b0 : decide (t193 < 0) = false := decide_eq_false c47
        clear c47
        (first | rw [c47b0] | (simp only [i64_w, i32_w]; rw [c47b0]) | skip)
        have H' := Aside0.mk H
        clear H
        go_wp2
        repeat (go_quiet (fail); try go_wp2)
        go_meet
        case rel => exact ⟨_, (decide (t193 ≥ (t190.size : Int))), (by first | rfl | (simp; done) | (simp [*]; done)), H', ⟨by first | omega | exact Nat.le_refl _⟩, ⟨by repeat (first | (with_reducible first | exact HB.out | apply below_alloc | apply pw_below_drewN | apply below_drew1) | exact HB.out)⟩⟩
    case rest =>
      clear HC43
      try clear c1
      try clear c2
      try clear p2
      try clear q2
      try clear hx2
      try clear c3
      try clear q3
      try clear c4
      try clear c6
      try clear c6b0
      try clear c6b1
      try clear p6
      try clear c7
      try clear c7b0
      try clear c7b1
      try clear c7b2
      try clear c8
      try clear c19
      try clear c19b0
      try clear c20
      try clear c20b0
      try clear p20
      try clear q20
      try clear hx20
      try clear c26
      try clear c26b0
      try clear c27
      try clear c29
      try clear c29b0
      try clear c29b1
      try clear c30
      try clear c30b0
      try clear c30b1
      try clear c32
      try clear c33
      try clear c33b0
      try clear c33b1
      try clear c35
      try clear c35b0
      try clear c35b1
      try clear c36
      try clear c36b0
      try clear c36b1
      try clear q39
      try clear c47
      try clear c47b0
      try clear hx207_0
      try clear hx207_1
      try clear hx207_2
      try clear hx208_0
      try clear hx208_1
      try clear hx208_2
      try clear p2
      try clear p20
      try clear p207
      try clear p208
      try clear p6
      try clear q2
      try clear q20
      try clear q207
      try clear q208
      try clear q39
      obtain ⟨kq, x39_42, rfl, HA, HJ42, HB⟩ := hcut
      cases kq with
      | zero => exact absurd HA.out (by simp [ambidexterlaw10_LexerFirstError.j0])
      | succ kj42 =>
        have H := HA.out
        clear HA
        simp only [ambidexterlaw10_LexerFirstError.j0] at H
        by_cases c48 : x39_42 = true
        · subst c48
          have H1 : (some false) = some r := by rw [if_pos rfl] at H; exact H
          clear H
          have H := H1
          clear H1
          obtain rfl := Option.some.inj H
          go_wp2
          repeat (go_quiet (fail); try go_wp2)
          go_ret
          exact ⟨by first | rfl | (simp [errW_none, errW_some] <;> rfl) | (simp [*, errW_none, errW_some] <;> rfl), by repeat (first | (with_reducible first | exact HB.out | apply below_alloc | apply pw_below_drewN | apply below_drew1) | exact HB.out)⟩
        · replace c48 := Bool.eq_false_iff.mpr c48
          subst c48
          have H1 : (if 0 ≤ t193 then (if t193 ≤ (t190.size : Int) then ((lexer_Lex.f (t190.extract 0 (t193 : Int).toNat)).bind fun bt196 => ((lexer_Lex.f (t190.extract (t193 : Int).toNat t190.size)).bind fun bt201 => (if t189 = true then (if bt196.2.1 = 0 then (if bt201.2.1 = 100 then (some (bt201.2.2 == 0)) else (some false)) else (some false)) else (some false)))) else (none)) else (none)) = some r := by rw [if_neg (show ¬ (false = true) by decide)] at H; exact H
          clear H
          have H := H1
          clear H1
          by_cases c49 : 0 ≤ t193
          · rw [if_pos c49] at H
            have c49b0 := eq_true c49
            have c49b1 : decide (0 ≤ t193) = true := decide_eq_true c49
            clear c49
            by_cases c50 : t193 ≤ (t190.size : Int)
            · rw [if_pos c50] at H
              have c50b0 := eq_true c50
              have c50b1 : decide (t193 ≤ (t190.size : Int)) = true := decide_eq_true c50
              clear c50
              replace H := Option.bind_eq_some_iff.mp H
              obtain ⟨⟨t196, t197, t198⟩, A510, H⟩ := H
              replace H : ((lexer_Lex.f (t190.extract (t193 : Int).toNat t190.size)).bind fun bt201 => (if t189 = true then (if t197 = 0 then (if bt201.2.1 = 100 then (some (bt201.2.2 == 0)) else (some false)) else (some false)) else (some false))) = some r := H
              have A51 := Aside0.mk A510
              clear A510
              have c52b0 := eq_true (of_decide_eq_true (by first | (with_reducible assumption) | assumption) : 0 ≤ t193)
              have c53b0 := eq_true (of_decide_eq_true (by first | (with_reducible assumption) | assumption) : t193 ≤ (t190.size : Int))
              replace H := Option.bind_eq_some_iff.mp H
              obtain ⟨⟨t201, t202, t203⟩, A540, H⟩ := H
              replace H : (if t189 = true then (if t197 = 0 then (if t202 = 100 then (some (t203 == 0)) else (some false)) else (some false)) else (some false)) = some r := H
              have A54 := Aside0.mk A540
              clear A540
              by_cases c55 : t189 = true
              · subst c55
                have H1 : (if t197 = 0 then (if t202 = 100 then (some (t203 == 0)) else (some false)) else (some false)) = some r := by rw [if_pos rfl] at H; exact H
                clear H
                have H := H1
                clear H1
                by_cases c56 : t197 = 0
                · rw [if_pos c56] at H
                  have c56b0 : (t197 == 0) = true := beq_iff_eq.mpr c56
                  have c56b1 : (t197 != 0) = false := bne_eq_false_iff_eq.mpr c56
                  clear c56
                  by_cases c57 : t202 = 100
                  · rw [if_pos c57] at H
                    have c57b0 : (t202 == 100) = true := beq_iff_eq.mpr c57
                    have c57b1 : (t202 != 100) = false := bne_eq_false_iff_eq.mpr c57
                    clear c57
                    obtain rfl := Option.some.inj H
                    go_wp2_with (first | (go_at_call 12; (with_reducible refine (lexer_Lex.calls (t190.extract 0 (t193 : Int).toNat) t196 t197 t198 _ A51.out).mono ?_); rintro e w58 ⟨v199, rfl, ho0, hb⟩; have n0_ := Aside0.mk (Kd.R_lower ho0 (below_size (by repeat (first | (with_reducible first | exact HB.out | apply below_alloc | apply pw_below_drewN | apply below_drew1) | exact HB.out)))); have n1_ := Aside0.mk (below_step (by repeat (first | (with_reducible first | exact HB.out | apply below_alloc | apply pw_below_drewN | apply below_drew1) | exact HB.out)) hb); clear HB; have HO200 := n0_; have HB := n1_; clear n0_ n1_; (try clear hb); (try clear hb2); (try clear hk); (try clear hi); (try clear ho0)) | (go_at_call 12; (with_reducible refine (lexer_Lex.calls (t190.extract (t193 : Int).toNat t190.size) t201 t202 t203 _ A54.out).mono ?_); rintro e w59 ⟨v204, rfl, ho0, hb⟩; have n0_ := Aside0.mk (Kd.R_elder' (by (with_reducible repeat (first | apply Kd.R_alloc | apply Kd.R_drewN | apply Kd.R_drew)); exact HO200.out) (Kd.R_base ho0) hb); have n1_ := Aside0.mk (Kd.R_lower (Kd.R_new' ho0 (Kd.R_lt (by (with_reducible repeat (first | apply Kd.R_alloc | apply Kd.R_drewN | apply Kd.R_drew)); exact HO200.out))) (below_size (by repeat (first | (with_reducible first | exact HB.out | apply below_alloc | apply pw_below_drewN | apply below_drew1) | exact HB.out)))); have n2_ := Aside0.mk (below_step (by repeat (first | (with_reducible first | exact HB.out | apply below_alloc | apply pw_below_drewN | apply below_drew1) | exact HB.out)) hb); clear HO200; clear HB; have HO200 := n0_; have HO205 := n1_; have HB := n2_; clear n0_ n1_ n2_; (try clear hb); (try clear hb2); (try clear hk); (try clear hi); (try clear ho0)))
                    repeat (go_quiet (first | (go_at_call 12; (with_reducible refine (lexer_Lex.calls (t190.extract 0 (t193 : Int).toNat) t196 t197 t198 _ A51.out).mono ?_); rintro e w58 ⟨v199, rfl, ho0, hb⟩; have n0_ := Aside0.mk (Kd.R_lower ho0 (below_size (by repeat (first | (with_reducible first | exact HB.out | apply below_alloc | apply pw_below_drewN | apply below_drew1) | exact HB.out)))); have n1_ := Aside0.mk (below_step (by repeat (first | (with_reducible first | exact HB.out | apply below_alloc | apply pw_below_drewN | apply below_drew1) | exact HB.out)) hb); clear HB; have HO200 := n0_; have HB := n1_; clear n0_ n1_; (try clear hb); (try clear hb2); (try clear hk); (try clear hi); (try clear ho0)) | (go_at_call 12; (with_reducible refine (lexer_Lex.calls (t190.extract (t193 : Int).toNat t190.size) t201 t202 t203 _ A54.out).mono ?_); rintro e w59 ⟨v204, rfl, ho0, hb⟩; have n0_ := Aside0.mk (Kd.R_elder' (by (with_reducible repeat (first | apply Kd.R_alloc | apply Kd.R_drewN | apply Kd.R_drew)); exact HO200.out) (Kd.R_base ho0) hb); have n1_ := Aside0.mk (Kd.R_lower (Kd.R_new' ho0 (Kd.R_lt (by (with_reducible repeat (first | apply Kd.R_alloc | apply Kd.R_drewN | apply Kd.R_drew)); exact HO200.out))) (below_size (by repeat (first | (with_reducible first | exact HB.out | apply below_alloc | apply pw_below_drewN | apply below_drew1) | exact HB.out)))); have n2_ := Aside0.mk (below_step (by repeat (first | (with_reducible first | exact HB.out | apply below_alloc | apply pw_below_drewN | apply below_drew1) | exact HB.out)) hb); clear HO200; clear HB; have HO200 := n0_; have HO205 := n1_; have HB := n2_; clear n0_ n1_ n2_; (try clear hb); (try clear hb2); (try clear hk); (try clear hi); (try clear ho0))); try go_wp2_with (first | (go_at_call 12; (with_reducible refine (lexer_Lex.calls (t190.extract 0 (t193 : Int).toNat) t196 t197 t198 _ A51.out).mono ?_); rintro e w58 ⟨v199, rfl, ho0, hb⟩; have n0_ := Aside0.mk (Kd.R_lower ho0 (below_size (by repeat (first | (with_reducible first | exact HB.out | apply below_alloc | apply pw_below_drewN | apply below_drew1) | exact HB.out)))); have n1_ := Aside0.mk (below_step (by repeat (first | (with_reducible first | exact HB.out | apply below_alloc | apply pw_below_drewN | apply below_drew1) | exact HB.out)) hb); clear HB; have HO200 := n0_; have HB := n1_; clear n0_ n1_; (try clear hb); (try clear hb2); (try clear hk); (try clear hi); (try clear ho0)) | (go_at_call 12; (with_reducible refine (lexer_Lex.calls (t190.extract (t193 : Int).toNat t190.size) t201 t202 t203 _ A54.out).mono ?_); rintro e w59 ⟨v204, rfl, ho0, hb⟩; have n0_ := Aside0.mk (Kd.R_elder' (by (with_reducible repeat (first | apply Kd.R_alloc | apply Kd.R_drewN | apply Kd.R_drew)); exact HO200.out) (Kd.R_base ho0) hb); have n1_ := Aside0.mk (Kd.R_lower (Kd.R_new' ho0 (Kd.R_lt (by (with_reducible repeat (first | apply Kd.R_alloc | apply Kd.R_drewN | apply Kd.R_drew)); exact HO200.out))) (below_size (by repeat (first | (with_reducible first | exact HB.out | apply below_alloc | apply pw_below_drewN | apply below_drew1) | exact HB.out)))); have n2_ := Aside0.mk (below_step (by repeat (first | (with_reducible first | exact HB.out | apply below_alloc | apply pw_below_drewN | apply below_drew1) | exact HB.out)) hb); clear HO200; clear HB; have HO200 := n0_; have HO205 := n1_; have HB := n2_; clear n0_ n1_ n2_; (try clear hb); (try clear hb2); (try clear hk); (try clear hi); (try clear ho0))))
                    go_ret
                    exact ⟨by first | rfl | (simp [errW_none, errW_some] <;> rfl) | (simp [*, errW_none, errW_some] <;> rfl), by repeat (first | (with_reducible first | exact HB.out | apply below_alloc | apply pw_below_drewN | apply below_drew1) | exact HB.out)⟩
                  · rw [if_neg c57] at H
                    have c57b0 : (t202 == 100) = false := beq_eq_false_iff_ne.mpr c57
                    have c57b1 : (t202 != 100) = true := bne_iff_ne.mpr c57
                    obtain rfl := Option.some.inj H
                    go_wp2_with (first | (go_at_call 12; (with_reducible refine (lexer_Lex.calls (t190.extract 0 (t193 : Int).toNat) t196 t197 t198 _ A51.out).mono ?_); rintro e w60 ⟨v199, rfl, ho0, hb⟩; have n0_ := Aside0.mk (Kd.R_lower ho0 (below_size (by repeat (first | (with_reducible first | exact HB.out | apply below_alloc | apply pw_below_drewN | apply below_drew1) | exact HB.out)))); have n1_ := Aside0.mk (below_step (by repeat (first | (with_reducible first | exact HB.out | apply below_alloc | apply pw_below_drewN | apply below_drew1) | exact HB.out)) hb); clear HB; have HO200 := n0_; have HB := n1_; clear n0_ n1_; (try clear hb); (try clear hb2); (try clear hk); (try clear hi); (try clear ho0)) | (go_at_call 12; (with_reducible refine (lexer_Lex.calls (t190.extract (t193 : Int).toNat t190.size) t201 t202 t203 _ A54.out).mono ?_); rintro e w61 ⟨v204, rfl, ho0, hb⟩; have n0_ := Aside0.mk (Kd.R_elder' (by (with_reducible repeat (first | apply Kd.R_alloc | apply Kd.R_drewN | apply Kd.R_drew)); exact HO200.out) (Kd.R_base ho0) hb); have n1_ := Aside0.mk (Kd.R_lower (Kd.R_new' ho0 (Kd.R_lt (by (with_reducible repeat (first | apply Kd.R_alloc | apply Kd.R_drewN | apply Kd.R_drew)); exact HO200.out))) (below_size (by repeat (first | (with_reducible first | exact HB.out | apply below_alloc | apply pw_below_drewN | apply below_drew1) | exact HB.out)))); have n2_ := Aside0.mk (below_step (by repeat (first | (with_reducible first | exact HB.out | apply below_alloc | apply pw_below_drewN | apply below_drew1) | exact HB.out)) hb); clear HO200; clear HB; have HO200 := n0_; have HO205 := n1_; have HB := n2_; clear n0_ n1_ n2_; (try clear hb); (try clear hb2); (try clear hk); (try clear hi); (try clear ho0)))
                    repeat (go_quiet (first | (go_at_call 12; (with_reducible refine (lexer_Lex.calls (t190.extract 0 (t193 : Int).toNat) t196 t197 t198 _ A51.out).mono ?_); rintro e w60 ⟨v199, rfl, ho0, hb⟩; have n0_ := Aside0.mk (Kd.R_lower ho0 (below_size (by repeat (first | (with_reducible first | exact HB.out | apply below_alloc | apply pw_below_drewN | apply below_drew1) | exact HB.out)))); have n1_ := Aside0.mk (below_step (by repeat (first | (with_reducible first | exact HB.out | apply below_alloc | apply pw_below_drewN | apply below_drew1) | exact HB.out)) hb); clear HB; have HO200 := n0_; have HB := n1_; clear n0_ n1_; (try clear hb); (try clear hb2); (try clear hk); (try clear hi); (try clear ho0)) | (go_at_call 12; (with_reducible refine (lexer_Lex.calls (t190.extract (t193 : Int).toNat t190.size) t201 t202 t203 _ A54.out).mono ?_); rintro e w61 ⟨v204, rfl, ho0, hb⟩; have n0_ := Aside0.mk (Kd.R_elder' (by (with_reducible repeat (first | apply Kd.R_alloc | apply Kd.R_drewN | apply Kd.R_drew)); exact HO200.out) (Kd.R_base ho0) hb); have n1_ := Aside0.mk (Kd.R_lower (Kd.R_new' ho0 (Kd.R_lt (by (with_reducible repeat (first | apply Kd.R_alloc | apply Kd.R_drewN | apply Kd.R_drew)); exact HO200.out))) (below_size (by repeat (first | (with_reducible first | exact HB.out | apply below_alloc | apply pw_below_drewN | apply below_drew1) | exact HB.out)))); have n2_ := Aside0.mk (below_step (by repeat (first | (with_reducible first | exact HB.out | apply below_alloc | apply pw_below_drewN | apply below_drew1) | exact HB.out)) hb); clear HO200; clear HB; have HO200 := n0_; have HO205 := n1_; have HB := n2_; clear n0_ n1_ n2_; (try clear hb); (try clear hb2); (try clear hk); (try clear hi); (try clear ho0))); try go_wp2_with (first | (go_at_call 12; (with_reducible refine (lexer_Lex.calls (t190.extract 0 (t193 : Int).toNat) t196 t197 t198 _ A51.out).mono ?_); rintro e w60 ⟨v199, rfl, ho0, hb⟩; have n0_ := Aside0.mk (Kd.R_lower ho0 (below_size (by repeat (first | (with_reducible first | exact HB.out | apply below_alloc | apply pw_below_drewN | apply below_drew1) | exact HB.out)))); have n1_ := Aside0.mk (below_step (by repeat (first | (with_reducible first | exact HB.out | apply below_alloc | apply pw_below_drewN | apply below_drew1) | exact HB.out)) hb); clear HB; have HO200 := n0_; have HB := n1_; clear n0_ n1_; (try clear hb); (try clear hb2); (try clear hk); (try clear hi); (try clear ho0)) | (go_at_call 12; (with_reducible refine (lexer_Lex.calls (t190.extract (t193 : Int).toNat t190.size) t201 t202 t203 _ A54.out).mono ?_); rintro e w61 ⟨v204, rfl, ho0, hb⟩; have n0_ := Aside0.mk (Kd.R_elder' (by (with_reducible repeat (first | apply Kd.R_alloc | apply Kd.R_drewN | apply Kd.R_drew)); exact HO200.out) (Kd.R_base ho0) hb); have n1_ := Aside0.mk (Kd.R_lower (Kd.R_new' ho0 (Kd.R_lt (by (with_reducible repeat (first | apply Kd.R_alloc | apply Kd.R_drewN | apply Kd.R_drew)); exact HO200.out))) (below_size (by repeat (first | (with_reducible first | exact HB.out | apply below_alloc | apply pw_below_drewN | apply below_drew1) | exact HB.out)))); have n2_ := Aside0.mk (below_step (by repeat (first | (with_reducible first | exact HB.out | apply below_alloc | apply pw_below_drewN | apply below_drew1) | exact HB.out)) hb); clear HO200; clear HB; have HO200 := n0_; have HO205 := n1_; have HB := n2_; clear n0_ n1_ n2_; (try clear hb); (try clear hb2); (try clear hk); (try clear hi); (try clear ho0))))
                    go_ret
                    exact ⟨by first | rfl | (simp [errW_none, errW_some] <;> rfl) | (simp [*, errW_none, errW_some] <;> rfl), by repeat (first | (with_reducible first | exact HB.out | apply below_alloc | apply pw_below_drewN | apply below_drew1) | exact HB.out)⟩
                · rw [if_neg c56] at H
                  have c56b0 : (t197 == 0) = false := beq_eq_false_iff_ne.mpr c56
                  have c56b1 : (t197 != 0) = true := bne_iff_ne.mpr c56
                  obtain rfl := Option.some.inj H
                  go_wp2_with (first | (go_at_call 12; (with_reducible refine (lexer_Lex.calls (t190.extract 0 (t193 : Int).toNat) t196 t197 t198 _ A51.out).mono ?_); rintro e w62 ⟨v199, rfl, ho0, hb⟩; have n0_ := Aside0.mk (Kd.R_lower ho0 (below_size (by repeat (first | (with_reducible first | exact HB.out | apply below_alloc | apply pw_below_drewN | apply below_drew1) | exact HB.out)))); have n1_ := Aside0.mk (below_step (by repeat (first | (with_reducible first | exact HB.out | apply below_alloc | apply pw_below_drewN | apply below_drew1) | exact HB.out)) hb); clear HB; have HO200 := n0_; have HB := n1_; clear n0_ n1_; (try clear hb); (try clear hb2); (try clear hk); (try clear hi); (try clear ho0)) | (go_at_call 12; (with_reducible refine (lexer_Lex.calls (t190.extract (t193 : Int).toNat t190.size) t201 t202 t203 _ A54.out).mono ?_); rintro e w63 ⟨v204, rfl, ho0, hb⟩; have n0_ := Aside0.mk (Kd.R_elder' (by (with_reducible repeat (first | apply Kd.R_alloc | apply Kd.R_drewN | apply Kd.R_drew)); exact HO200.out) (Kd.R_base ho0) hb); have n1_ := Aside0.mk (Kd.R_lower (Kd.R_new' ho0 (Kd.R_lt (by (with_reducible repeat (first | apply Kd.R_alloc | apply Kd.R_drewN | apply Kd.R_drew)); exact HO200.out))) (below_size (by repeat (first | (with_reducible first | exact HB.out | apply below_alloc | apply pw_below_drewN | apply below_drew1) | exact HB.out)))); have n2_ := Aside0.mk (below_step (by repeat (first | (with_reducible first | exact HB.out | apply below_alloc | apply pw_below_drewN | apply below_drew1) | exact HB.out)) hb); clear HO200; clear HB; have HO200 := n0_; have HO205 := n1_; have HB := n2_; clear n0_ n1_ n2_; (try clear hb); (try clear hb2); (try clear hk); (try clear hi); (try clear ho0)))
                  repeat (go_quiet (first | (go_at_call 12; (with_reducible refine (lexer_Lex.calls (t190.extract 0 (t193 : Int).toNat) t196 t197 t198 _ A51.out).mono ?_); rintro e w62 ⟨v199, rfl, ho0, hb⟩; have n0_ := Aside0.mk (Kd.R_lower ho0 (below_size (by repeat (first | (with_reducible first | exact HB.out | apply below_alloc | apply pw_below_drewN | apply below_drew1) | exact HB.out)))); have n1_ := Aside0.mk (below_step (by repeat (first | (with_reducible first | exact HB.out | apply below_alloc | apply pw_below_drewN | apply below_drew1) | exact HB.out)) hb); clear HB; have HO200 := n0_; have HB := n1_; clear n0_ n1_; (try clear hb); (try clear hb2); (try clear hk); (try clear hi); (try clear ho0)) | (go_at_call 12; (with_reducible refine (lexer_Lex.calls (t190.extract (t193 : Int).toNat t190.size) t201 t202 t203 _ A54.out).mono ?_); rintro e w63 ⟨v204, rfl, ho0, hb⟩; have n0_ := Aside0.mk (Kd.R_elder' (by (with_reducible repeat (first | apply Kd.R_alloc | apply Kd.R_drewN | apply Kd.R_drew)); exact HO200.out) (Kd.R_base ho0) hb); have n1_ := Aside0.mk (Kd.R_lower (Kd.R_new' ho0 (Kd.R_lt (by (with_reducible repeat (first | apply Kd.R_alloc | apply Kd.R_drewN | apply Kd.R_drew)); exact HO200.out))) (below_size (by repeat (first | (with_reducible first | exact HB.out | apply below_alloc | apply pw_below_drewN | apply below_drew1) | exact HB.out)))); have n2_ := Aside0.mk (below_step (by repeat (first | (with_reducible first | exact HB.out | apply below_alloc | apply pw_below_drewN | apply below_drew1) | exact HB.out)) hb); clear HO200; clear HB; have HO200 := n0_; have HO205 := n1_; have HB := n2_; clear n0_ n1_ n2_; (try clear hb); (try clear hb2); (try clear hk); (try clear hi); (try clear ho0))); try go_wp2_with (first | (go_at_call 12; (with_reducible refine (lexer_Lex.calls (t190.extract 0 (t193 : Int).toNat) t196 t197 t198 _ A51.out).mono ?_); rintro e w62 ⟨v199, rfl, ho0, hb⟩; have n0_ := Aside0.mk (Kd.R_lower ho0 (below_size (by repeat (first | (with_reducible first | exact HB.out | apply below_alloc | apply pw_below_drewN | apply below_drew1) | exact HB.out)))); have n1_ := Aside0.mk (below_step (by repeat (first | (with_reducible first | exact HB.out | apply below_alloc | apply pw_below_drewN | apply below_drew1) | exact HB.out)) hb); clear HB; have HO200 := n0_; have HB := n1_; clear n0_ n1_; (try clear hb); (try clear hb2); (try clear hk); (try clear hi); (try clear ho0)) | (go_at_call 12; (with_reducible refine (lexer_Lex.calls (t190.extract (t193 : Int).toNat t190.size) t201 t202 t203 _ A54.out).mono ?_); rintro e w63 ⟨v204, rfl, ho0, hb⟩; have n0_ := Aside0.mk (Kd.R_elder' (by (with_reducible repeat (first | apply Kd.R_alloc | apply Kd.R_drewN | apply Kd.R_drew)); exact HO200.out) (Kd.R_base ho0) hb); have n1_ := Aside0.mk (Kd.R_lower (Kd.R_new' ho0 (Kd.R_lt (by (with_reducible repeat (first | apply Kd.R_alloc | apply Kd.R_drewN | apply Kd.R_drew)); exact HO200.out))) (below_size (by repeat (first | (with_reducible first | exact HB.out | apply below_alloc | apply pw_below_drewN | apply below_drew1) | exact HB.out)))); have n2_ := Aside0.mk (below_step (by repeat (first | (with_reducible first | exact HB.out | apply below_alloc | apply pw_below_drewN | apply below_drew1) | exact HB.out)) hb); clear HO200; clear HB; have HO200 := n0_; have HO205 := n1_; have HB := n2_; clear n0_ n1_ n2_; (try clear hb); (try clear hb2); (try clear hk); (try clear hi); (try clear ho0))))
                  go_ret
                  exact ⟨by first | rfl | (simp [errW_none, errW_some] <;> rfl) | (simp [*, errW_none, errW_some] <;> rfl), by repeat (first | (with_reducible first | exact HB.out | apply below_alloc | apply pw_below_drewN | apply below_drew1) | exact HB.out)⟩
              · replace c55 := Bool.eq_false_iff.mpr c55
                subst c55
                have H1 : (some false) = some r := by rw [if_neg (show ¬ (false = true) by decide)] at H; exact H
                clear H
                have H := H1
                clear H1
                obtain rfl := Option.some.inj H
                go_wp2_with (first | (go_at_call 12; (with_reducible refine (lexer_Lex.calls (t190.extract 0 (t193 : Int).toNat) t196 t197 t198 _ A51.out).mono ?_); rintro e w64 ⟨v199, rfl, ho0, hb⟩; have n0_ := Aside0.mk (Kd.R_lower ho0 (below_size (by repeat (first | (with_reducible first | exact HB.out | apply below_alloc | apply pw_below_drewN | apply below_drew1) | exact HB.out)))); have n1_ := Aside0.mk (below_step (by repeat (first | (with_reducible first | exact HB.out | apply below_alloc | apply pw_below_drewN | apply below_drew1) | exact HB.out)) hb); clear HB; have HO200 := n0_; have HB := n1_; clear n0_ n1_; (try clear hb); (try clear hb2); (try clear hk); (try clear hi); (try clear ho0)) | (go_at_call 12; (with_reducible refine (lexer_Lex.calls (t190.extract (t193 : Int).toNat t190.size) t201 t202 t203 _ A54.out).mono ?_); rintro e w65 ⟨v204, rfl, ho0, hb⟩; have n0_ := Aside0.mk (Kd.R_elder' (by (with_reducible repeat (first | apply Kd.R_alloc | apply Kd.R_drewN | apply Kd.R_drew)); exact HO200.out) (Kd.R_base ho0) hb); have n1_ := Aside0.mk (Kd.R_lower (Kd.R_new' ho0 (Kd.R_lt (by (with_reducible repeat (first | apply Kd.R_alloc | apply Kd.R_drewN | apply Kd.R_drew)); exact HO200.out))) (below_size (by repeat (first | (with_reducible first | exact HB.out | apply below_alloc | apply pw_below_drewN | apply below_drew1) | exact HB.out)))); have n2_ := Aside0.mk (below_step (by repeat (first | (with_reducible first | exact HB.out | apply below_alloc | apply pw_below_drewN | apply below_drew1) | exact HB.out)) hb); clear HO200; clear HB; have HO200 := n0_; have HO205 := n1_; have HB := n2_; clear n0_ n1_ n2_; (try clear hb); (try clear hb2); (try clear hk); (try clear hi); (try clear ho0)))
                repeat (go_quiet (first | (go_at_call 12; (with_reducible refine (lexer_Lex.calls (t190.extract 0 (t193 : Int).toNat) t196 t197 t198 _ A51.out).mono ?_); rintro e w64 ⟨v199, rfl, ho0, hb⟩; have n0_ := Aside0.mk (Kd.R_lower ho0 (below_size (by repeat (first | (with_reducible first | exact HB.out | apply below_alloc | apply pw_below_drewN | apply below_drew1) | exact HB.out)))); have n1_ := Aside0.mk (below_step (by repeat (first | (with_reducible first | exact HB.out | apply below_alloc | apply pw_below_drewN | apply below_drew1) | exact HB.out)) hb); clear HB; have HO200 := n0_; have HB := n1_; clear n0_ n1_; (try clear hb); (try clear hb2); (try clear hk); (try clear hi); (try clear ho0)) | (go_at_call 12; (with_reducible refine (lexer_Lex.calls (t190.extract (t193 : Int).toNat t190.size) t201 t202 t203 _ A54.out).mono ?_); rintro e w65 ⟨v204, rfl, ho0, hb⟩; have n0_ := Aside0.mk (Kd.R_elder' (by (with_reducible repeat (first | apply Kd.R_alloc | apply Kd.R_drewN | apply Kd.R_drew)); exact HO200.out) (Kd.R_base ho0) hb); have n1_ := Aside0.mk (Kd.R_lower (Kd.R_new' ho0 (Kd.R_lt (by (with_reducible repeat (first | apply Kd.R_alloc | apply Kd.R_drewN | apply Kd.R_drew)); exact HO200.out))) (below_size (by repeat (first | (with_reducible first | exact HB.out | apply below_alloc | apply pw_below_drewN | apply below_drew1) | exact HB.out)))); have n2_ := Aside0.mk (below_step (by repeat (first | (with_reducible first | exact HB.out | apply below_alloc | apply pw_below_drewN | apply below_drew1) | exact HB.out)) hb); clear HO200; clear HB; have HO200 := n0_; have HO205 := n1_; have HB := n2_; clear n0_ n1_ n2_; (try clear hb); (try clear hb2); (try clear hk); (try clear hi); (try clear ho0))); try go_wp2_with (first | (go_at_call 12; (with_reducible refine (lexer_Lex.calls (t190.extract 0 (t193 : Int).toNat) t196 t197 t198 _ A51.out).mono ?_); rintro e w64 ⟨v199, rfl, ho0, hb⟩; have n0_ := Aside0.mk (Kd.R_lower ho0 (below_size (by repeat (first | (with_reducible first | exact HB.out | apply below_alloc | apply pw_below_drewN | apply below_drew1) | exact HB.out)))); have n1_ := Aside0.mk (below_step (by repeat (first | (with_reducible first | exact HB.out | apply below_alloc | apply pw_below_drewN | apply below_drew1) | exact HB.out)) hb); clear HB; have HO200 := n0_; have HB := n1_; clear n0_ n1_; (try clear hb); (try clear hb2); (try clear hk); (try clear hi); (try clear ho0)) | (go_at_call 12; (with_reducible refine (lexer_Lex.calls (t190.extract (t193 : Int).toNat t190.size) t201 t202 t203 _ A54.out).mono ?_); rintro e w65 ⟨v204, rfl, ho0, hb⟩; have n0_ := Aside0.mk (Kd.R_elder' (by (with_reducible repeat (first | apply Kd.R_alloc | apply Kd.R_drewN | apply Kd.R_drew)); exact HO200.out) (Kd.R_base ho0) hb); have n1_ := Aside0.mk (Kd.R_lower (Kd.R_new' ho0 (Kd.R_lt (by (with_reducible repeat (first | apply Kd.R_alloc | apply Kd.R_drewN | apply Kd.R_drew)); exact HO200.out))) (below_size (by repeat (first | (with_reducible first | exact HB.out | apply below_alloc | apply pw_below_drewN | apply below_drew1) | exact HB.out)))); have n2_ := Aside0.mk (below_step (by repeat (first | (with_reducible first | exact HB.out | apply below_alloc | apply pw_below_drewN | apply below_drew1) | exact HB.out)) hb); clear HO200; clear HB; have HO200 := n0_; have HO205 := n1_; have HB := n2_; clear n0_ n1_ n2_; (try clear hb); (try clear hb2); (try clear hk); (try clear hi); (try clear ho0))))
                go_ret
                exact ⟨by first | rfl | (simp [errW_none, errW_some] <;> rfl) | (simp [*, errW_none, errW_some] <;> rfl), by repeat (first | (with_reducible first | exact HB.out | apply below_alloc | apply pw_below_drewN | apply below_drew1) | exact HB.out)⟩
            · rw [if_neg c50] at H
              exact absurd H (by simp)
          · rw [if_neg c49] at H
            exact absurd H (by simp)

/-- THE ONE PURE STATEMENT of ambidexterlaw10_LexerFirstError: yours. -/
def ambidexterlaw10_LexerFirstError.Pure : Prop := ∀ (a0 : ByteArray) (a1 : Int), a0.size ≤ 140737488351232 → (Lit.int .u8 a1).wf = true → ∃ k, ambidexterlaw10_LexerFirstError.f k a0 a1 = some true
theorem ambidexterlaw10_LexerFirstError.walk (P : ambidexterlaw10_LexerFirstError.Pure) (a0 : ByteArray) (a1 : Int) (w : World) (w0 : a0.size ≤ 140737488351232) (w1 : (Lit.int .u8 a1).wf = true) :
    Calls Try.prog 7 #[.string a0, .int .u8 a1] w fun e w' => e = .returned (.bool true) ∧ Below w.heap.size w w' := by
  obtain ⟨k, h⟩ := P a0 a1 w0 w1
  refine (ambidexterlaw10_LexerFirstError.calls k a0 a1 true w h).mono ?_
  rintro e w' ⟨rfl, hd⟩
  exact ⟨rfl, hd⟩

end Go.Proofs.Ytiikijdkhmbdbaa.PLx
