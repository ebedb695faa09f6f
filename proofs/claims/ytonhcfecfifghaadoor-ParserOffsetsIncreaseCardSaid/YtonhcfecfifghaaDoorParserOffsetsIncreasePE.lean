/- Part E of the proof of ParserOffsetsIncrease: the contracts of the functions that the law reaches, and what their plain functions compute. No condition. -/
import Derived.Test.YtonhcfecfifghaaDoorParserOffsetsIncreasePA
import Derived.Test.YtonhcfecfifghaaDoorParserOffsetsIncreasePB
import Derived.Test.YtonhcfecfifghaaDoorParserOffsetsIncreasePC
import Derived.Test.YtonhcfecfifghaaDoorParserOffsetsIncreasePD
import Derived.Test.YtonhcfecfifghaaDoorRows
import Derived.Test.YtonhcfecfifghaaDoorCards
import Derived.Test.YtonhcfecfifghaaDoorTie
import Derived.WalkKit
import Derived.ProofKit
import Derived.OpenShut
import Derived.ShutString
import Derived.ChangeOld
import Derived.Below
import Derived.SizedLaws
import Derived.LaidMore
import Derived.Stop.Joined
import Derived.SevenTiedAt
namespace Go.Proofs.YtonhcfecfifghaaDoor.PPx
open Go.RowKit Go.Proofs.YtonhcfecfifghaaDoorW.PrintWords Go.Proofs.YtonhcfecfifghaaDoorW.PrintLast Go.Proofs.YtonhcfecfifghaaDoorW.PrintMore
set_option linter.unusedVariables false
set_option linter.unusedSimpArgs false
mutual
def ambidexterlaw11_ParserOffsetsIncrease.j0 : Nat → ByteArray → Bool → List (S44) → List (S55) → List (S35) → Bool → Option (Bool)
 | 0, _, _, _, _, _, _ => none
 | k + 1, x0, x3, x4, x7, x8, x53 => if x53 = true then (some false) else (ambidexterlaw11_ParserOffsetsIncrease.l0 k x0 x3 x4 x7 x8 0)
def ambidexterlaw11_ParserOffsetsIncrease.l0 : Nat → ByteArray → Bool → List (S44) → List (S55) → List (S35) → Int → Option (Bool)
 | 0, _, _, _, _, _, _ => none
 | k + 1, x0, x3, x4, x7, x8, x9 => if x9 < (x8.length : Int) then (if 0 ≤ x9 then (if ((rd_T35 x8 x9).f0) = 3 then (if ((rd_T35 x8 x9).f1) = (x0.size : Int) then (ambidexterlaw11_ParserOffsetsIncrease.j2 k x0 x3 x4 x7 x8 x9 (x9 == (wrap64 ((x8.length : Int) - 1)))) else (ambidexterlaw11_ParserOffsetsIncrease.j2 k x0 x3 x4 x7 x8 x9 false)) else (ambidexterlaw11_ParserOffsetsIncrease.j2 k x0 x3 x4 x7 x8 x9 false)) else (none)) else ((ambidexterlaw11_placed.f k x0 x7 0).bind fun bt171 => (if x3 = true then (some bt171.2) else (some false)))
def ambidexterlaw11_ParserOffsetsIncrease.j2 : Nat → ByteArray → Bool → List (S44) → List (S55) → List (S35) → Int → Bool → Option (Bool)
 | 0, _, _, _, _, _, _, _ => none
 | k + 1, x0, x3, x4, x7, x8, x9, x10 => ambidexterlaw11_ParserOffsetsIncrease.l1 k x0 x3 x4 x7 x8 x9 x10 0
def ambidexterlaw11_ParserOffsetsIncrease.l1 : Nat → ByteArray → Bool → List (S44) → List (S55) → List (S35) → Int → Bool → Int → Option (Bool)
 | 0, _, _, _, _, _, _, _, _ => none
 | k + 1, x0, x3, x4, x7, x8, x9, x10, x11 => if x11 < (x4.length : Int) then (if x10 = true then (ambidexterlaw11_ParserOffsetsIncrease.l1 k x0 x3 x4 x7 x8 x9 true (wrap64 (x11 + 1))) else (if 0 ≤ x11 then (if 0 ≤ x9 then (if x9 < (x8.length : Int) then (if ((rd_T44 x4 x11).f2) = ((rd_T35 x8 x9).f1) then (if ((rd_T35 x8 x9).f0) = 110 then (ambidexterlaw11_ParserOffsetsIncrease.l1 k x0 x3 x4 x7 x8 x9 true (wrap64 (x11 + 1))) else (ambidexterlaw11_ParserOffsetsIncrease.l1 k x0 x3 x4 x7 x8 x9 (((rd_T35 x8 x9).f0) == 2) (wrap64 (x11 + 1)))) else (ambidexterlaw11_ParserOffsetsIncrease.l1 k x0 x3 x4 x7 x8 x9 false (wrap64 (x11 + 1)))) else (none)) else (none)) else (none))) else (if x10 = true then (if x9 > 0 then (if 0 ≤ x9 then (if x9 < (x8.length : Int) then (if 0 ≤ (wrap64 (x9 - 1)) then (if (wrap64 (x9 - 1)) < (x8.length : Int) then (if ((rd_T35 x8 x9).f1) < ((rd_T35 x8 (wrap64 (x9 - 1))).f1) then (some false) else (ambidexterlaw11_ParserOffsetsIncrease.l0 k x0 x3 x4 x7 x8 (wrap64 (x9 + 1)))) else (none)) else (none)) else (none)) else (none)) else (ambidexterlaw11_ParserOffsetsIncrease.l0 k x0 x3 x4 x7 x8 (wrap64 (x9 + 1)))) else (some false))
end
def ambidexterlaw11_ParserOffsetsIncrease.f (k : Nat) (a0 : ByteArray) : Option (Bool) := (ambidexterlaw11_head.f).bind fun t154 => (if (a0.size : Int) > 4000 then (some t154) else ((lexer_Lex.f a0).bind fun bt155 => ((parser_Parse.f k a0).bind fun bt160 => (if bt155.2.1 = 0 then ((parser_Valid.f k bt160.1).bind fun t170 => (if t170 = true then (ambidexterlaw11_ParserOffsetsIncrease.j0 k a0 t154 bt155.1 bt160.1 bt160.2 (decide ((bt160.2.length : Int) > 21))) else (ambidexterlaw11_ParserOffsetsIncrease.j0 k a0 t154 bt155.1 bt160.1 bt160.2 true))) else (if t154 = true then (if (bt160.1.length : Int) = 0 then ((ambidexterref11_Faults.f k bt160.2 (([(⟨bt155.2.1, bt155.2.2⟩ : S35)] : List (S35)))).bind fun t169 => (some t169)) else (some false)) else (some false))))))
theorem ambidexterlaw11_ParserOffsetsIncrease.mono_l : ∀ k, (∀ y0 y1 y2 y3 y4 y5, LeO (ambidexterlaw11_ParserOffsetsIncrease.j0 k y0 y1 y2 y3 y4 y5) (ambidexterlaw11_ParserOffsetsIncrease.j0 (k + 1) y0 y1 y2 y3 y4 y5)) ∧ (∀ y0 y1 y2 y3 y4 y5, LeO (ambidexterlaw11_ParserOffsetsIncrease.l0 k y0 y1 y2 y3 y4 y5) (ambidexterlaw11_ParserOffsetsIncrease.l0 (k + 1) y0 y1 y2 y3 y4 y5)) ∧ (∀ y0 y1 y2 y3 y4 y5 y6, LeO (ambidexterlaw11_ParserOffsetsIncrease.j2 k y0 y1 y2 y3 y4 y5 y6) (ambidexterlaw11_ParserOffsetsIncrease.j2 (k + 1) y0 y1 y2 y3 y4 y5 y6)) ∧ (∀ y0 y1 y2 y3 y4 y5 y6 y7, LeO (ambidexterlaw11_ParserOffsetsIncrease.l1 k y0 y1 y2 y3 y4 y5 y6 y7) (ambidexterlaw11_ParserOffsetsIncrease.l1 (k + 1) y0 y1 y2 y3 y4 y5 y6 y7))
 | 0 => ⟨fun _ _ _ _ _ _ r h => by simp [ambidexterlaw11_ParserOffsetsIncrease.j0] at h, fun _ _ _ _ _ _ r h => by simp [ambidexterlaw11_ParserOffsetsIncrease.l0] at h, fun _ _ _ _ _ _ _ r h => by simp [ambidexterlaw11_ParserOffsetsIncrease.j2] at h, fun _ _ _ _ _ _ _ _ r h => by simp [ambidexterlaw11_ParserOffsetsIncrease.l1] at h⟩
 | k + 1 => by
  obtain ⟨ih0, ih1, ih2, ih3⟩ := ambidexterlaw11_ParserOffsetsIncrease.mono_l k
  refine ⟨?_, ?_, ?_, ?_⟩
  · intro y0 y1 y2 y3 y4 y5
    unfold ambidexterlaw11_ParserOffsetsIncrease.j0
    repeat' first
    | (with_reducible exact ih0 _ _ _ _ _ _)
    | (with_reducible exact ih1 _ _ _ _ _ _)
    | (with_reducible exact ih2 _ _ _ _ _ _ _)
    | (with_reducible exact ih3 _ _ _ _ _ _ _ _)
    | (with_reducible exact ambidexterlaw11_placed.mono _ _ _ _)
    | (with_reducible exact ambidexterref11_Faults.mono _ _ _)
    | (with_reducible exact parser_Parse.mono _ _)
    | (with_reducible exact parser_Valid.mono _ _)
    | (with_reducible exact LeO.refl _)
    | (with_reducible exact LeO.none _)
    | (with_reducible refine LeO.ite ?_ ?_)
    | (with_reducible refine LeO.bind ?_ (fun _ => ?_))
    | exact ih0 _ _ _ _ _ _
    | exact ih1 _ _ _ _ _ _
    | exact ih2 _ _ _ _ _ _ _
    | exact ih3 _ _ _ _ _ _ _ _
    | exact ambidexterlaw11_placed.mono _ _ _ _
    | exact ambidexterref11_Faults.mono _ _ _
    | exact parser_Parse.mono _ _
    | exact parser_Valid.mono _ _
    | exact LeO.none _
    | refine LeO.ite ?_ ?_
    | refine LeO.bind ?_ (fun _ => ?_)
  · intro y0 y1 y2 y3 y4 y5
    unfold ambidexterlaw11_ParserOffsetsIncrease.l0
    repeat' first
    | (with_reducible exact ih0 _ _ _ _ _ _)
    | (with_reducible exact ih1 _ _ _ _ _ _)
    | (with_reducible exact ih2 _ _ _ _ _ _ _)
    | (with_reducible exact ih3 _ _ _ _ _ _ _ _)
    | (with_reducible exact ambidexterlaw11_placed.mono _ _ _ _)
    | (with_reducible exact ambidexterref11_Faults.mono _ _ _)
    | (with_reducible exact parser_Parse.mono _ _)
    | (with_reducible exact parser_Valid.mono _ _)
    | (with_reducible exact LeO.refl _)
    | (with_reducible exact LeO.none _)
    | (with_reducible refine LeO.ite ?_ ?_)
    | (with_reducible refine LeO.bind ?_ (fun _ => ?_))
    | exact ih0 _ _ _ _ _ _
    | exact ih1 _ _ _ _ _ _
    | exact ih2 _ _ _ _ _ _ _
    | exact ih3 _ _ _ _ _ _ _ _
    | exact ambidexterlaw11_placed.mono _ _ _ _
    | exact ambidexterref11_Faults.mono _ _ _
    | exact parser_Parse.mono _ _
    | exact parser_Valid.mono _ _
    | exact LeO.none _
    | refine LeO.ite ?_ ?_
    | refine LeO.bind ?_ (fun _ => ?_)
  · intro y0 y1 y2 y3 y4 y5 y6
    unfold ambidexterlaw11_ParserOffsetsIncrease.j2
    repeat' first
    | (with_reducible exact ih0 _ _ _ _ _ _)
    | (with_reducible exact ih1 _ _ _ _ _ _)
    | (with_reducible exact ih2 _ _ _ _ _ _ _)
    | (with_reducible exact ih3 _ _ _ _ _ _ _ _)
    | (with_reducible exact ambidexterlaw11_placed.mono _ _ _ _)
    | (with_reducible exact ambidexterref11_Faults.mono _ _ _)
    | (with_reducible exact parser_Parse.mono _ _)
    | (with_reducible exact parser_Valid.mono _ _)
    | (with_reducible exact LeO.refl _)
    | (with_reducible exact LeO.none _)
    | (with_reducible refine LeO.ite ?_ ?_)
    | (with_reducible refine LeO.bind ?_ (fun _ => ?_))
    | exact ih0 _ _ _ _ _ _
    | exact ih1 _ _ _ _ _ _
    | exact ih2 _ _ _ _ _ _ _
    | exact ih3 _ _ _ _ _ _ _ _
    | exact ambidexterlaw11_placed.mono _ _ _ _
    | exact ambidexterref11_Faults.mono _ _ _
    | exact parser_Parse.mono _ _
    | exact parser_Valid.mono _ _
    | exact LeO.none _
    | refine LeO.ite ?_ ?_
    | refine LeO.bind ?_ (fun _ => ?_)
  · intro y0 y1 y2 y3 y4 y5 y6 y7
    unfold ambidexterlaw11_ParserOffsetsIncrease.l1
    repeat' first
    | (with_reducible exact ih0 _ _ _ _ _ _)
    | (with_reducible exact ih1 _ _ _ _ _ _)
    | (with_reducible exact ih2 _ _ _ _ _ _ _)
    | (with_reducible exact ih3 _ _ _ _ _ _ _ _)
    | (with_reducible exact ambidexterlaw11_placed.mono _ _ _ _)
    | (with_reducible exact ambidexterref11_Faults.mono _ _ _)
    | (with_reducible exact parser_Parse.mono _ _)
    | (with_reducible exact parser_Valid.mono _ _)
    | (with_reducible exact LeO.refl _)
    | (with_reducible exact LeO.none _)
    | (with_reducible refine LeO.ite ?_ ?_)
    | (with_reducible refine LeO.bind ?_ (fun _ => ?_))
    | exact ih0 _ _ _ _ _ _
    | exact ih1 _ _ _ _ _ _
    | exact ih2 _ _ _ _ _ _ _
    | exact ih3 _ _ _ _ _ _ _ _
    | exact ambidexterlaw11_placed.mono _ _ _ _
    | exact ambidexterref11_Faults.mono _ _ _
    | exact parser_Parse.mono _ _
    | exact parser_Valid.mono _ _
    | exact LeO.none _
    | refine LeO.ite ?_ ?_
    | refine LeO.bind ?_ (fun _ => ?_)
theorem ambidexterlaw11_ParserOffsetsIncrease.mono : ∀ a0 k, LeO (ambidexterlaw11_ParserOffsetsIncrease.f k a0) (ambidexterlaw11_ParserOffsetsIncrease.f (k + 1) a0) := by
 intro a0 k
 obtain ⟨ih0, ih1, ih2, ih3⟩ := ambidexterlaw11_ParserOffsetsIncrease.mono_l k
 unfold ambidexterlaw11_ParserOffsetsIncrease.f
 repeat' first
  | (with_reducible exact ih0 _ _ _ _ _ _)
  | (with_reducible exact ih1 _ _ _ _ _ _)
  | (with_reducible exact ih2 _ _ _ _ _ _ _)
  | (with_reducible exact ih3 _ _ _ _ _ _ _ _)
  | (with_reducible exact ambidexterlaw11_placed.mono _ _ _ _)
  | (with_reducible exact ambidexterref11_Faults.mono _ _ _)
  | (with_reducible exact parser_Parse.mono _ _)
  | (with_reducible exact parser_Valid.mono _ _)
  | (with_reducible exact LeO.refl _)
  | (with_reducible exact LeO.none _)
  | (with_reducible refine LeO.ite ?_ ?_)
  | (with_reducible refine LeO.bind ?_ (fun _ => ?_))
  | exact ih0 _ _ _ _ _ _
  | exact ih1 _ _ _ _ _ _
  | exact ih2 _ _ _ _ _ _ _
  | exact ih3 _ _ _ _ _ _ _ _
  | exact ambidexterlaw11_placed.mono _ _ _ _
  | exact ambidexterref11_Faults.mono _ _ _
  | exact parser_Parse.mono _ _
  | exact parser_Valid.mono _ _
  | exact LeO.none _
  | refine LeO.ite ?_ ?_
  | refine LeO.bind ?_ (fun _ => ?_)
set_option maxHeartbeats 8000000 in
set_option maxRecDepth 100000 in
theorem ambidexterlaw11_ParserOffsetsIncrease.calls (k : Nat) (a0 : ByteArray) (r : Bool) (w : World) (h : ambidexterlaw11_ParserOffsetsIncrease.f k a0 = some r) (hG : Glob w) :
 Calls Tryd.prog 8 #[.string a0] w fun e w' => e = .returned (.bool r) ∧ Below w.heap.size w w' := by
 have HGL := Aside0.mk hG
 clear hG
 have hu35 := Tryd.underlying35
 have HB := Aside0.mk (Below.refl w.heap.size w)
 have H : ((ambidexterlaw11_head.f).bind fun t154 => (if (a0.size : Int) > 4000 then (some t154) else ((lexer_Lex.f a0).bind fun bt155 => ((parser_Parse.f k a0).bind fun bt160 => (if bt155.2.1 = 0 then ((parser_Valid.f k bt160.1).bind fun t170 => (if t170 = true then (ambidexterlaw11_ParserOffsetsIncrease.j0 k a0 t154 bt155.1 bt160.1 bt160.2 (decide ((bt160.2.length : Int) > 21))) else (ambidexterlaw11_ParserOffsetsIncrease.j0 k a0 t154 bt155.1 bt160.1 bt160.2 true))) else (if t154 = true then (if (bt160.1.length : Int) = 0 then ((ambidexterref11_Faults.f k bt160.2 (([(⟨bt155.2.1, bt155.2.2⟩ : S35)] : List (S35)))).bind fun t169 => (some t169)) else (some false)) else (some false))))))) = some r := h
 clear h
 replace H := Option.bind_eq_some_iff.mp H
 obtain ⟨t154, A20, H⟩ := H
 replace H : (if (a0.size : Int) > 4000 then (some t154) else ((lexer_Lex.f a0).bind fun bt155 => ((parser_Parse.f k a0).bind fun bt160 => (if bt155.2.1 = 0 then ((parser_Valid.f k bt160.1).bind fun t170 => (if t170 = true then (ambidexterlaw11_ParserOffsetsIncrease.j0 k a0 t154 bt155.1 bt160.1 bt160.2 (decide ((bt160.2.length : Int) > 21))) else (ambidexterlaw11_ParserOffsetsIncrease.j0 k a0 t154 bt155.1 bt160.1 bt160.2 true))) else (if t154 = true then (if (bt160.1.length : Int) = 0 then ((ambidexterref11_Faults.f k bt160.2 (([(⟨bt155.2.1, bt155.2.2⟩ : S35)] : List (S35)))).bind fun t169 => (some t169)) else (some false)) else (some false)))))) = some r := H
 have A2 := Aside0.mk A20
 clear A20
 by_cases c3 : (a0.size : Int) > 4000
 · rw [if_pos c3] at H
   have c3b0 : decide (4000 < (a0.size : Int)) = true := decide_eq_true c3
   have c3b1 : decide (4000 < a0.size) = true := decide_eq_true (by omega)
   clear c3
   obtain rfl := Option.some.inj H
   go_enter Tryd.func8, Tryd.ntmps8
   go_wp2_with (first | (go_at_call 9; (with_reducible refine (ambidexterlaw11_head.calls  t154 _ A2.out (HGL.out.below (by repeat (first | (with_reducible first | exact HB.out | apply below_alloc | apply pw_below_drewN | apply below_drew1) | exact HB.out)))).mono ?_); rintro e w4 ⟨rfl, hb⟩; have n0_ := Aside0.mk (below_step (by repeat (first | (with_reducible first | exact HB.out | apply below_alloc | apply pw_below_drewN | apply below_drew1) | exact HB.out)) hb); clear HB; have HB := n0_; clear n0_; (try clear hb); (try clear hb2); (try clear hk); (try clear hi)))
   repeat (go_quiet (first | (go_at_call 9; (with_reducible refine (ambidexterlaw11_head.calls  t154 _ A2.out (HGL.out.below (by repeat (first | (with_reducible first | exact HB.out | apply below_alloc | apply pw_below_drewN | apply below_drew1) | exact HB.out)))).mono ?_); rintro e w4 ⟨rfl, hb⟩; have n0_ := Aside0.mk (below_step (by repeat (first | (with_reducible first | exact HB.out | apply below_alloc | apply pw_below_drewN | apply below_drew1) | exact HB.out)) hb); clear HB; have HB := n0_; clear n0_; (try clear hb); (try clear hb2); (try clear hk); (try clear hi))); try go_wp2_with (first | (go_at_call 9; (with_reducible refine (ambidexterlaw11_head.calls  t154 _ A2.out (HGL.out.below (by repeat (first | (with_reducible first | exact HB.out | apply below_alloc | apply pw_below_drewN | apply below_drew1) | exact HB.out)))).mono ?_); rintro e w4 ⟨rfl, hb⟩; have n0_ := Aside0.mk (below_step (by repeat (first | (with_reducible first | exact HB.out | apply below_alloc | apply pw_below_drewN | apply below_drew1) | exact HB.out)) hb); clear HB; have HB := n0_; clear n0_; (try clear hb); (try clear hb2); (try clear hk); (try clear hi))))
   go_ret
   exact ⟨by first | rfl | (simp [errW_none, errW_some] <;> rfl) | (simp [*, errW_none, errW_some] <;> rfl), by repeat (first | (with_reducible first | exact HB.out | apply below_alloc | apply pw_below_drewN | apply below_drew1) | exact HB.out)⟩
 · rw [if_neg c3] at H
   have c3b0 : decide (4000 < (a0.size : Int)) = false := decide_eq_false c3
   have c3b1 : decide (4000 < a0.size) = false := decide_eq_false (by omega)
   clear c3
   replace H := Option.bind_eq_some_iff.mp H
   obtain ⟨⟨t155, t156, t157⟩, A50, H⟩ := H
   replace H : ((parser_Parse.f k a0).bind fun bt160 => (if t156 = 0 then ((parser_Valid.f k bt160.1).bind fun t170 => (if t170 = true then (ambidexterlaw11_ParserOffsetsIncrease.j0 k a0 t154 t155 bt160.1 bt160.2 (decide ((bt160.2.length : Int) > 21))) else (ambidexterlaw11_ParserOffsetsIncrease.j0 k a0 t154 t155 bt160.1 bt160.2 true))) else (if t154 = true then (if (bt160.1.length : Int) = 0 then ((ambidexterref11_Faults.f k bt160.2 (([(⟨t156, t157⟩ : S35)] : List (S35)))).bind fun t169 => (some t169)) else (some false)) else (some false)))) = some r := H
   have A5 := Aside0.mk A50
   clear A50
   replace H := Option.bind_eq_some_iff.mp H
   obtain ⟨⟨t160, t161⟩, A60, H⟩ := H
   replace H : (if t156 = 0 then ((parser_Valid.f k t160).bind fun t170 => (if t170 = true then (ambidexterlaw11_ParserOffsetsIncrease.j0 k a0 t154 t155 t160 t161 (decide ((t161.length : Int) > 21))) else (ambidexterlaw11_ParserOffsetsIncrease.j0 k a0 t154 t155 t160 t161 true))) else (if t154 = true then (if (t160.length : Int) = 0 then ((ambidexterref11_Faults.f k t161 (([(⟨t156, t157⟩ : S35)] : List (S35)))).bind fun t169 => (some t169)) else (some false)) else (some false))) = some r := H
   have A6 := Aside0.mk A60
   clear A60
   by_cases c7 : t156 = 0
   · rw [if_pos c7] at H
     have c7b0 : (t156 == 0) = true := beq_iff_eq.mpr c7
     have c7b1 : (t156 != 0) = false := bne_eq_false_iff_eq.mpr c7
     clear c7
     have HC8 := Aside0.mk H
     clear H
     go_enter Tryd.func8, Tryd.ntmps8
     go_upto_region 8 with (first | (go_at_call 9; (with_reducible refine (ambidexterlaw11_head.calls  t154 _ A2.out (HGL.out.below (by repeat (first | (with_reducible first | exact HB.out | apply below_alloc | apply pw_below_drewN | apply below_drew1) | exact HB.out)))).mono ?_); rintro e w9 ⟨rfl, hb⟩; have n0_ := Aside0.mk (below_step (by repeat (first | (with_reducible first | exact HB.out | apply below_alloc | apply pw_below_drewN | apply below_drew1) | exact HB.out)) hb); clear HB; have HB := n0_; clear n0_; (try clear hb); (try clear hb2); (try clear hk); (try clear hi)) | (go_at_call 17; (with_reducible refine (lexer_Lex.calls a0 t155 t156 t157 _ A5.out).mono ?_); rintro e w10 ⟨v158, rfl, ho0, hb⟩; have n0_ := Aside0.mk (Kd.R_lower ho0 (below_size (by repeat (first | (with_reducible first | exact HB.out | apply below_alloc | apply pw_below_drewN | apply below_drew1) | exact HB.out)))); have n1_ := Aside0.mk (below_step (by repeat (first | (with_reducible first | exact HB.out | apply below_alloc | apply pw_below_drewN | apply below_drew1) | exact HB.out)) hb); clear HB; have HO159 := n0_; have HB := n1_; clear n0_ n1_; (try clear hb); (try clear hb2); (try clear hk); (try clear hi); (try clear ho0)) | (go_at_call 12; (with_reducible refine (parser_Parse.calls k a0 t160 t161 _ A6.out (HGL.out.below (by repeat (first | (with_reducible first | exact HB.out | apply below_alloc | apply pw_below_drewN | apply below_drew1) | exact HB.out)))).mono ?_); rintro e w11 ⟨v162, v164, rfl, ho0, ho1, hb⟩; have n0_ := Aside0.mk (Kd.R_below (by (with_reducible repeat (first | apply Kd.R_alloc | apply Kd.R_drewN | apply Kd.R_drew)); exact HO159.out) hb); have n1_ := Aside0.mk (Kd.R_lower ho0 (below_size (by repeat (first | (with_reducible first | exact HB.out | apply below_alloc | apply pw_below_drewN | apply below_drew1) | exact HB.out)))); have n2_ := Aside0.mk (Kd.R_lower ho1 (below_size (by repeat (first | (with_reducible first | exact HB.out | apply below_alloc | apply pw_below_drewN | apply below_drew1) | exact HB.out)))); have n3_ := Aside0.mk (below_step (by repeat (first | (with_reducible first | exact HB.out | apply below_alloc | apply pw_below_drewN | apply below_drew1) | exact HB.out)) hb); clear HO159; clear HB; have HO159 := n0_; have HO163 := n1_; have HO165 := n2_; have HB := n3_; clear n0_ n1_ n2_ n3_; (try clear hb); (try clear hb2); (try clear hk); (try clear hi); (try clear ho0); (try clear ho1)))
     repeat (go_quiet (first | (go_at_call 9; (with_reducible refine (ambidexterlaw11_head.calls  t154 _ A2.out (HGL.out.below (by repeat (first | (with_reducible first | exact HB.out | apply below_alloc | apply pw_below_drewN | apply below_drew1) | exact HB.out)))).mono ?_); rintro e w9 ⟨rfl, hb⟩; have n0_ := Aside0.mk (below_step (by repeat (first | (with_reducible first | exact HB.out | apply below_alloc | apply pw_below_drewN | apply below_drew1) | exact HB.out)) hb); clear HB; have HB := n0_; clear n0_; (try clear hb); (try clear hb2); (try clear hk); (try clear hi)) | (go_at_call 17; (with_reducible refine (lexer_Lex.calls a0 t155 t156 t157 _ A5.out).mono ?_); rintro e w10 ⟨v158, rfl, ho0, hb⟩; have n0_ := Aside0.mk (Kd.R_lower ho0 (below_size (by repeat (first | (with_reducible first | exact HB.out | apply below_alloc | apply pw_below_drewN | apply below_drew1) | exact HB.out)))); have n1_ := Aside0.mk (below_step (by repeat (first | (with_reducible first | exact HB.out | apply below_alloc | apply pw_below_drewN | apply below_drew1) | exact HB.out)) hb); clear HB; have HO159 := n0_; have HB := n1_; clear n0_ n1_; (try clear hb); (try clear hb2); (try clear hk); (try clear hi); (try clear ho0)) | (go_at_call 12; (with_reducible refine (parser_Parse.calls k a0 t160 t161 _ A6.out (HGL.out.below (by repeat (first | (with_reducible first | exact HB.out | apply below_alloc | apply pw_below_drewN | apply below_drew1) | exact HB.out)))).mono ?_); rintro e w11 ⟨v162, v164, rfl, ho0, ho1, hb⟩; have n0_ := Aside0.mk (Kd.R_below (by (with_reducible repeat (first | apply Kd.R_alloc | apply Kd.R_drewN | apply Kd.R_drew)); exact HO159.out) hb); have n1_ := Aside0.mk (Kd.R_lower ho0 (below_size (by repeat (first | (with_reducible first | exact HB.out | apply below_alloc | apply pw_below_drewN | apply below_drew1) | exact HB.out)))); have n2_ := Aside0.mk (Kd.R_lower ho1 (below_size (by repeat (first | (with_reducible first | exact HB.out | apply below_alloc | apply pw_below_drewN | apply below_drew1) | exact HB.out)))); have n3_ := Aside0.mk (below_step (by repeat (first | (with_reducible first | exact HB.out | apply below_alloc | apply pw_below_drewN | apply below_drew1) | exact HB.out)) hb); clear HO159; clear HB; have HO159 := n0_; have HO163 := n1_; have HO165 := n2_; have HB := n3_; clear n0_ n1_ n2_ n3_; (try clear hb); (try clear hb2); (try clear hk); (try clear hi); (try clear ho0); (try clear ho1))); go_upto_region 8 with (first | (go_at_call 9; (with_reducible refine (ambidexterlaw11_head.calls  t154 _ A2.out (HGL.out.below (by repeat (first | (with_reducible first | exact HB.out | apply below_alloc | apply pw_below_drewN | apply below_drew1) | exact HB.out)))).mono ?_); rintro e w9 ⟨rfl, hb⟩; have n0_ := Aside0.mk (below_step (by repeat (first | (with_reducible first | exact HB.out | apply below_alloc | apply pw_below_drewN | apply below_drew1) | exact HB.out)) hb); clear HB; have HB := n0_; clear n0_; (try clear hb); (try clear hb2); (try clear hk); (try clear hi)) | (go_at_call 17; (with_reducible refine (lexer_Lex.calls a0 t155 t156 t157 _ A5.out).mono ?_); rintro e w10 ⟨v158, rfl, ho0, hb⟩; have n0_ := Aside0.mk (Kd.R_lower ho0 (below_size (by repeat (first | (with_reducible first | exact HB.out | apply below_alloc | apply pw_below_drewN | apply below_drew1) | exact HB.out)))); have n1_ := Aside0.mk (below_step (by repeat (first | (with_reducible first | exact HB.out | apply below_alloc | apply pw_below_drewN | apply below_drew1) | exact HB.out)) hb); clear HB; have HO159 := n0_; have HB := n1_; clear n0_ n1_; (try clear hb); (try clear hb2); (try clear hk); (try clear hi); (try clear ho0)) | (go_at_call 12; (with_reducible refine (parser_Parse.calls k a0 t160 t161 _ A6.out (HGL.out.below (by repeat (first | (with_reducible first | exact HB.out | apply below_alloc | apply pw_below_drewN | apply below_drew1) | exact HB.out)))).mono ?_); rintro e w11 ⟨v162, v164, rfl, ho0, ho1, hb⟩; have n0_ := Aside0.mk (Kd.R_below (by (with_reducible repeat (first | apply Kd.R_alloc | apply Kd.R_drewN | apply Kd.R_drew)); exact HO159.out) hb); have n1_ := Aside0.mk (Kd.R_lower ho0 (below_size (by repeat (first | (with_reducible first | exact HB.out | apply below_alloc | apply pw_below_drewN | apply below_drew1) | exact HB.out)))); have n2_ := Aside0.mk (Kd.R_lower ho1 (below_size (by repeat (first | (with_reducible first | exact HB.out | apply below_alloc | apply pw_below_drewN | apply below_drew1) | exact HB.out)))); have n3_ := Aside0.mk (below_step (by repeat (first | (with_reducible first | exact HB.out | apply below_alloc | apply pw_below_drewN | apply below_drew1) | exact HB.out)) hb); clear HO159; clear HB; have HO159 := n0_; have HO163 := n1_; have HO165 := n2_; have HB := n3_; clear n0_ n1_ n2_ n3_; (try clear hb); (try clear hb2); (try clear hk); (try clear hi); (try clear ho0); (try clear ho1))))
     (try simp only [Act.put, List.setIfInBounds_toArray, List.set_cons_zero, List.set_cons_succ])
     go_cut [53] (fun v53 wc => ∃ (kq : Nat) (x53_7 : Bool), v53 = .bool x53_7 ∧ Aside0 (ambidexterlaw11_ParserOffsetsIncrease.j0 kq a0 t154 t155 t160 t161 x53_7 = some r) ∧ Aside0 (kq ≤ k) ∧ Aside0 (Kd.R k44 44 wc w.heap.size (fun _ => True) v158 t155) ∧ Aside0 (Kd.R k55 55 wc w.heap.size (fun _ => True) v162 t160) ∧ Aside0 (Kd.R k35 35 wc w.heap.size (fun _ => True) v164 t161) ∧ Aside0 (Below w.heap.size w wc))
     case first =>
      have H := HC8.out
      clear HC8
      replace H := Option.bind_eq_some_iff.mp H
      obtain ⟨t170, A120, H⟩ := H
      replace H : (if t170 = true then (ambidexterlaw11_ParserOffsetsIncrease.j0 k a0 t154 t155 t160 t161 (decide ((t161.length : Int) > 21))) else (ambidexterlaw11_ParserOffsetsIncrease.j0 k a0 t154 t155 t160 t161 true)) = some r := H
      have A12 := Aside0.mk A120
      clear A120
      by_cases c13 : t170 = true
      · subst c13
        have H1 : (ambidexterlaw11_ParserOffsetsIncrease.j0 k a0 t154 t155 t160 t161 (decide ((t161.length : Int) > 21))) = some r := by rw [if_pos rfl] at H; exact H
        clear H
        have H := H1
        clear H1
        have H' := Aside0.mk H
        clear H
        obtain ⟨Ao14, co14, eo14⟩ := Kd.R_slice HO163.out
        subst eo14
        go_wp2_with (first | (go_at_call 11; (with_reducible refine (parser_Valid.calls k _ _ t160 true _ ?side1 ?side2 A12.out (HGL.out.below (by repeat (first | (with_reducible first | exact HB.out | apply below_alloc | apply pw_below_drewN | apply below_drew1) | exact HB.out)))).mono ?_); (case side1 => repeat (first | exact (Kd.R_reads' HO163.out).2.2 | (with_reducible refine Kd.C_alloc ?_ _) | (with_reducible refine Kd.C_drewN ?_ _) | (with_reducible refine Kd.C_drew ?_))); (case side2 => exact (Kd.R_reads' HO163.out).2.1); rintro e w15 ⟨rfl, hb⟩; have n0_ := Aside0.mk (Kd.R_below (by (with_reducible repeat (first | apply Kd.R_alloc | apply Kd.R_drewN | apply Kd.R_drew)); exact HO159.out) hb); have n1_ := Aside0.mk (Kd.R_below (by (with_reducible repeat (first | apply Kd.R_alloc | apply Kd.R_drewN | apply Kd.R_drew)); exact HO163.out) hb); have n2_ := Aside0.mk (Kd.R_below (by (with_reducible repeat (first | apply Kd.R_alloc | apply Kd.R_drewN | apply Kd.R_drew)); exact HO165.out) hb); have n3_ := Aside0.mk (below_step (by repeat (first | (with_reducible first | exact HB.out | apply below_alloc | apply pw_below_drewN | apply below_drew1) | exact HB.out)) hb); clear HO159; clear HO163; clear HO165; clear HB; have HO159 := n0_; have HO163 := n1_; have HO165 := n2_; have HB := n3_; clear n0_ n1_ n2_ n3_; (try clear hb); (try clear hb2); (try clear hk); (try clear hi); obtain ⟨Ao16, co16, eo16⟩ := Kd.R_slice HO165.out; subst eo16))
        repeat (go_quiet (first | (go_at_call 11; (with_reducible refine (parser_Valid.calls k _ _ t160 true _ ?side1 ?side2 A12.out (HGL.out.below (by repeat (first | (with_reducible first | exact HB.out | apply below_alloc | apply pw_below_drewN | apply below_drew1) | exact HB.out)))).mono ?_); (case side1 => repeat (first | exact (Kd.R_reads' HO163.out).2.2 | (with_reducible refine Kd.C_alloc ?_ _) | (with_reducible refine Kd.C_drewN ?_ _) | (with_reducible refine Kd.C_drew ?_))); (case side2 => exact (Kd.R_reads' HO163.out).2.1); rintro e w15 ⟨rfl, hb⟩; have n0_ := Aside0.mk (Kd.R_below (by (with_reducible repeat (first | apply Kd.R_alloc | apply Kd.R_drewN | apply Kd.R_drew)); exact HO159.out) hb); have n1_ := Aside0.mk (Kd.R_below (by (with_reducible repeat (first | apply Kd.R_alloc | apply Kd.R_drewN | apply Kd.R_drew)); exact HO163.out) hb); have n2_ := Aside0.mk (Kd.R_below (by (with_reducible repeat (first | apply Kd.R_alloc | apply Kd.R_drewN | apply Kd.R_drew)); exact HO165.out) hb); have n3_ := Aside0.mk (below_step (by repeat (first | (with_reducible first | exact HB.out | apply below_alloc | apply pw_below_drewN | apply below_drew1) | exact HB.out)) hb); clear HO159; clear HO163; clear HO165; clear HB; have HO159 := n0_; have HO163 := n1_; have HO165 := n2_; have HB := n3_; clear n0_ n1_ n2_ n3_; (try clear hb); (try clear hb2); (try clear hk); (try clear hi); obtain ⟨Ao16, co16, eo16⟩ := Kd.R_slice HO165.out; subst eo16)); try go_wp2_with (first | (go_at_call 11; (with_reducible refine (parser_Valid.calls k _ _ t160 true _ ?side1 ?side2 A12.out (HGL.out.below (by repeat (first | (with_reducible first | exact HB.out | apply below_alloc | apply pw_below_drewN | apply below_drew1) | exact HB.out)))).mono ?_); (case side1 => repeat (first | exact (Kd.R_reads' HO163.out).2.2 | (with_reducible refine Kd.C_alloc ?_ _) | (with_reducible refine Kd.C_drewN ?_ _) | (with_reducible refine Kd.C_drew ?_))); (case side2 => exact (Kd.R_reads' HO163.out).2.1); rintro e w15 ⟨rfl, hb⟩; have n0_ := Aside0.mk (Kd.R_below (by (with_reducible repeat (first | apply Kd.R_alloc | apply Kd.R_drewN | apply Kd.R_drew)); exact HO159.out) hb); have n1_ := Aside0.mk (Kd.R_below (by (with_reducible repeat (first | apply Kd.R_alloc | apply Kd.R_drewN | apply Kd.R_drew)); exact HO163.out) hb); have n2_ := Aside0.mk (Kd.R_below (by (with_reducible repeat (first | apply Kd.R_alloc | apply Kd.R_drewN | apply Kd.R_drew)); exact HO165.out) hb); have n3_ := Aside0.mk (below_step (by repeat (first | (with_reducible first | exact HB.out | apply below_alloc | apply pw_below_drewN | apply below_drew1) | exact HB.out)) hb); clear HO159; clear HO163; clear HO165; clear HB; have HO159 := n0_; have HO163 := n1_; have HO165 := n2_; have HB := n3_; clear n0_ n1_ n2_ n3_; (try clear hb); (try clear hb2); (try clear hk); (try clear hi); obtain ⟨Ao16, co16, eo16⟩ := Kd.R_slice HO165.out; subst eo16)))
        go_meet
        case rel => exact ⟨_, (decide ((t161.length : Int) > 21)), (by first | rfl | (simp; done) | (simp [*]; done)), H', ⟨by first | omega | exact Nat.le_refl _⟩, ⟨by (with_reducible repeat (first | apply Kd.R_alloc | apply Kd.R_drewN | apply Kd.R_drew)); exact HO159.out⟩, ⟨by (with_reducible repeat (first | apply Kd.R_alloc | apply Kd.R_drewN | apply Kd.R_drew)); exact HO163.out⟩, ⟨by (with_reducible repeat (first | apply Kd.R_alloc | apply Kd.R_drewN | apply Kd.R_drew)); exact HO165.out⟩, ⟨by repeat (first | (with_reducible first | exact HB.out | apply below_alloc | apply pw_below_drewN | apply below_drew1) | exact HB.out)⟩⟩
      · replace c13 := Bool.eq_false_iff.mpr c13
        subst c13
        have H1 : (ambidexterlaw11_ParserOffsetsIncrease.j0 k a0 t154 t155 t160 t161 true) = some r := by rw [if_neg (show ¬ (false = true) by decide)] at H; exact H
        clear H
        have H := H1
        clear H1
        have H' := Aside0.mk H
        clear H
        obtain ⟨Ao17, co17, eo17⟩ := Kd.R_slice HO163.out
        subst eo17
        go_wp2_with (first | (go_at_call 11; (with_reducible refine (parser_Valid.calls k _ _ t160 false _ ?side1 ?side2 A12.out (HGL.out.below (by repeat (first | (with_reducible first | exact HB.out | apply below_alloc | apply pw_below_drewN | apply below_drew1) | exact HB.out)))).mono ?_); (case side1 => repeat (first | exact (Kd.R_reads' HO163.out).2.2 | (with_reducible refine Kd.C_alloc ?_ _) | (with_reducible refine Kd.C_drewN ?_ _) | (with_reducible refine Kd.C_drew ?_))); (case side2 => exact (Kd.R_reads' HO163.out).2.1); rintro e w18 ⟨rfl, hb⟩; have n0_ := Aside0.mk (Kd.R_below (by (with_reducible repeat (first | apply Kd.R_alloc | apply Kd.R_drewN | apply Kd.R_drew)); exact HO159.out) hb); have n1_ := Aside0.mk (Kd.R_below (by (with_reducible repeat (first | apply Kd.R_alloc | apply Kd.R_drewN | apply Kd.R_drew)); exact HO163.out) hb); have n2_ := Aside0.mk (Kd.R_below (by (with_reducible repeat (first | apply Kd.R_alloc | apply Kd.R_drewN | apply Kd.R_drew)); exact HO165.out) hb); have n3_ := Aside0.mk (below_step (by repeat (first | (with_reducible first | exact HB.out | apply below_alloc | apply pw_below_drewN | apply below_drew1) | exact HB.out)) hb); clear HO159; clear HO163; clear HO165; clear HB; have HO159 := n0_; have HO163 := n1_; have HO165 := n2_; have HB := n3_; clear n0_ n1_ n2_ n3_; (try clear hb); (try clear hb2); (try clear hk); (try clear hi)))
        repeat (go_quiet (first | (go_at_call 11; (with_reducible refine (parser_Valid.calls k _ _ t160 false _ ?side1 ?side2 A12.out (HGL.out.below (by repeat (first | (with_reducible first | exact HB.out | apply below_alloc | apply pw_below_drewN | apply below_drew1) | exact HB.out)))).mono ?_); (case side1 => repeat (first | exact (Kd.R_reads' HO163.out).2.2 | (with_reducible refine Kd.C_alloc ?_ _) | (with_reducible refine Kd.C_drewN ?_ _) | (with_reducible refine Kd.C_drew ?_))); (case side2 => exact (Kd.R_reads' HO163.out).2.1); rintro e w18 ⟨rfl, hb⟩; have n0_ := Aside0.mk (Kd.R_below (by (with_reducible repeat (first | apply Kd.R_alloc | apply Kd.R_drewN | apply Kd.R_drew)); exact HO159.out) hb); have n1_ := Aside0.mk (Kd.R_below (by (with_reducible repeat (first | apply Kd.R_alloc | apply Kd.R_drewN | apply Kd.R_drew)); exact HO163.out) hb); have n2_ := Aside0.mk (Kd.R_below (by (with_reducible repeat (first | apply Kd.R_alloc | apply Kd.R_drewN | apply Kd.R_drew)); exact HO165.out) hb); have n3_ := Aside0.mk (below_step (by repeat (first | (with_reducible first | exact HB.out | apply below_alloc | apply pw_below_drewN | apply below_drew1) | exact HB.out)) hb); clear HO159; clear HO163; clear HO165; clear HB; have HO159 := n0_; have HO163 := n1_; have HO165 := n2_; have HB := n3_; clear n0_ n1_ n2_ n3_; (try clear hb); (try clear hb2); (try clear hk); (try clear hi))); try go_wp2_with (first | (go_at_call 11; (with_reducible refine (parser_Valid.calls k _ _ t160 false _ ?side1 ?side2 A12.out (HGL.out.below (by repeat (first | (with_reducible first | exact HB.out | apply below_alloc | apply pw_below_drewN | apply below_drew1) | exact HB.out)))).mono ?_); (case side1 => repeat (first | exact (Kd.R_reads' HO163.out).2.2 | (with_reducible refine Kd.C_alloc ?_ _) | (with_reducible refine Kd.C_drewN ?_ _) | (with_reducible refine Kd.C_drew ?_))); (case side2 => exact (Kd.R_reads' HO163.out).2.1); rintro e w18 ⟨rfl, hb⟩; have n0_ := Aside0.mk (Kd.R_below (by (with_reducible repeat (first | apply Kd.R_alloc | apply Kd.R_drewN | apply Kd.R_drew)); exact HO159.out) hb); have n1_ := Aside0.mk (Kd.R_below (by (with_reducible repeat (first | apply Kd.R_alloc | apply Kd.R_drewN | apply Kd.R_drew)); exact HO163.out) hb); have n2_ := Aside0.mk (Kd.R_below (by (with_reducible repeat (first | apply Kd.R_alloc | apply Kd.R_drewN | apply Kd.R_drew)); exact HO165.out) hb); have n3_ := Aside0.mk (below_step (by repeat (first | (with_reducible first | exact HB.out | apply below_alloc | apply pw_below_drewN | apply below_drew1) | exact HB.out)) hb); clear HO159; clear HO163; clear HO165; clear HB; have HO159 := n0_; have HO163 := n1_; have HO165 := n2_; have HB := n3_; clear n0_ n1_ n2_ n3_; (try clear hb); (try clear hb2); (try clear hk); (try clear hi))))
        go_meet
        case rel => exact ⟨_, (true), (by first | rfl | (simp; done) | (simp [*]; done)), H', ⟨by first | omega | exact Nat.le_refl _⟩, ⟨by (with_reducible repeat (first | apply Kd.R_alloc | apply Kd.R_drewN | apply Kd.R_drew)); exact HO159.out⟩, ⟨by (with_reducible repeat (first | apply Kd.R_alloc | apply Kd.R_drewN | apply Kd.R_drew)); exact HO163.out⟩, ⟨by (with_reducible repeat (first | apply Kd.R_alloc | apply Kd.R_drewN | apply Kd.R_drew)); exact HO165.out⟩, ⟨by repeat (first | (with_reducible first | exact HB.out | apply below_alloc | apply pw_below_drewN | apply below_drew1) | exact HB.out)⟩⟩
     case rest =>
      clear HC8
      try clear c1
      try clear p2
      try clear c3
      try clear c3b0
      try clear c3b1
      try clear c7
      try clear c7b0
      try clear c7b1
      try clear c8
      try clear c13
      obtain ⟨kq, x53_7, rfl, HA, HJ7, HO_4, HO_7, HO_8, HB⟩ := hcut
      cases kq with
      | zero => exact absurd HA.out (by simp [ambidexterlaw11_ParserOffsetsIncrease.j0])
      | succ kj7 =>
       have H := HA.out
       clear HA
       simp only [ambidexterlaw11_ParserOffsetsIncrease.j0] at H
       by_cases c19 : x53_7 = true
       · subst c19
         have H1 : (some false) = some r := by rw [if_pos rfl] at H; exact H
         clear H
         have H := H1
         clear H1
         obtain rfl := Option.some.inj H
         go_wp2
         repeat (go_quiet (fail); try go_wp2)
         go_ret
         exact ⟨by first | rfl | (simp [errW_none, errW_some] <;> rfl) | (simp [*, errW_none, errW_some] <;> rfl), by repeat (first | (with_reducible first | exact HB.out | apply below_alloc | apply pw_below_drewN | apply below_drew1) | exact HB.out)⟩
       · replace c19 := Bool.eq_false_iff.mpr c19
         subst c19
         have H1 : (ambidexterlaw11_ParserOffsetsIncrease.l0 kj7 a0 t154 t155 t160 t161 0) = some r := by rw [if_neg (show ¬ (false = true) by decide)] at H; exact H
         clear H
         have H := H1
         clear H1
         have H' := Aside0.mk H
         clear H
         go_wp2
         repeat (go_quiet (fail); try go_wp2)
         go_loopg [9] kj7 (fun kq v9 w' => ∃ (x9_2 : Int), v9 = .int .i64 x9_2 ∧ Aside0 (ambidexterlaw11_ParserOffsetsIncrease.l0 kq a0 t154 t155 t160 t161 x9_2 = some r) ∧ Aside0 (kq ≤ kj7) ∧ Aside0 (Kd.R k44 44 w' w.heap.size (fun _ => True) v158 t155) ∧ Aside0 (Kd.R k55 55 w' w.heap.size (fun _ => True) v162 t160) ∧ Aside0 (Kd.R k35 35 w' w.heap.size (fun _ => True) v164 t161) ∧ Aside0 (Below w.heap.size w w'))
         case atStart => exact ⟨(0), (by first | rfl | (simp; done) | (simp [*]; done)), H', ⟨Nat.le_refl _⟩, ⟨by (with_reducible repeat (first | apply Kd.R_alloc | apply Kd.R_drewN | apply Kd.R_drew)); exact HO_4.out⟩, ⟨by (with_reducible repeat (first | apply Kd.R_alloc | apply Kd.R_drewN | apply Kd.R_drew)); exact HO_7.out⟩, ⟨by (with_reducible repeat (first | apply Kd.R_alloc | apply Kd.R_drewN | apply Kd.R_drew)); exact HO_8.out⟩, ⟨by repeat (first | (with_reducible first | exact HB.out | apply below_alloc | apply pw_below_drewN | apply below_drew1) | exact HB.out)⟩⟩
         case round =>
          clear H'
          try clear c1
          try clear p2
          try clear c3
          try clear c3b0
          try clear c3b1
          try clear c7
          try clear c7b0
          try clear c7b1
          try clear c8
          try clear c13
          try clear c19
          try clear p2
          obtain ⟨x9_2, rfl, HA, HK2, HO_4, HO_7, HO_8, HB⟩ := hrel
          cases gk with
          | zero => exact absurd HA.out (by simp [ambidexterlaw11_ParserOffsetsIncrease.l0])
          | succ k2 =>
           have H := HA.out
           clear HA
           simp only [ambidexterlaw11_ParserOffsetsIncrease.l0] at H
           by_cases c20 : x9_2 < (t161.length : Int)
           · rw [if_pos c20] at H
             have c20b0 : decide (x9_2 < (t161.length : Int)) = true := decide_eq_true c20
             clear c20
             have HC21 := Aside0.mk H
             clear H
             obtain ⟨Ao22, co22, eo22⟩ := Kd.R_slice HO_8.out
             subst eo22
             go_upto_region 13 with (fail)
             repeat (go_quiet (fail); go_upto_region 13 with (fail))
             go_cut [10] (fun v10 wc => ∃ (kq : Nat) (x10_20 : Bool), v10 = .bool x10_20 ∧ Aside0 (ambidexterlaw11_ParserOffsetsIncrease.j2 kq a0 t154 t155 t160 t161 x9_2 x10_20 = some r) ∧ Aside0 (kq ≤ k2) ∧ Aside0 (Kd.R k44 44 wc w.heap.size (fun _ => True) v158 t155) ∧ Aside0 (Kd.R k55 55 wc w.heap.size (fun _ => True) v162 t160) ∧ Aside0 (Kd.R k35 35 wc w.heap.size (fun _ => True) (.slice Ao22 t161.length co22) t161) ∧ Aside0 (Below w.heap.size w wc))
             case first =>
              have H := HC21.out
              clear HC21
              by_cases c23 : 0 ≤ x9_2
              · rw [if_pos c23] at H
                have c23b0 : decide (0 ≤ x9_2) = true := decide_eq_true c23
                clear c23
                (first | rw [c23b0] | (simp only [i64_w, i32_w]; rw [c23b0]) | skip)
                by_cases c24 : ((rd_T35 t161 x9_2).f0) = 3
                · rw [if_pos c24] at H
                  have c24b0 : (((rd_T35 t161 x9_2).f0) == 3) = true := beq_iff_eq.mpr c24
                  have c24b1 : (((rd_T35 t161 x9_2).f0) != 3) = false := bne_eq_false_iff_eq.mpr c24
                  clear c24
                  by_cases c25 : ((rd_T35 t161 x9_2).f1) = (a0.size : Int)
                  · rw [if_pos c25] at H
                    have c25b0 : (((rd_T35 t161 x9_2).f1) == (a0.size : Int)) = true := beq_iff_eq.mpr c25
                    have c25b1 : (((rd_T35 t161 x9_2).f1) != (a0.size : Int)) = false := bne_eq_false_iff_eq.mpr c25
                    clear c25
                    have H' := Aside0.mk H
                    clear H
                    have p173 : 0 ≤ (x9_2 : Int) := of_decide_eq_true (by first | (with_reducible assumption) | assumption)
                    have q173 : x9_2 < (t161.length : Int) := of_decide_eq_true (by first | (with_reducible assumption) | assumption)
                    obtain ⟨ad173, e173, hx173_0, hx173_1⟩ := at_T35 (Kd.R_reads' HO_8.out).2.2 x9_2 p173 q173
                    cases e173
                    replace p173 := eq_true p173
                    replace q173 := eq_true q173
                    have p174 : 0 ≤ (x9_2 : Int) := of_decide_eq_true (by first | (with_reducible assumption) | assumption)
                    have q174 : x9_2 < (t161.length : Int) := of_decide_eq_true (by first | (with_reducible assumption) | assumption)
                    obtain ⟨ad174, e174, hx174_0, hx174_1⟩ := at_T35 (Kd.R_reads' HO_8.out).2.2 x9_2 p174 q174
                    obtain rfl : ad173 = ad174 := (by injection e174)
                    replace p174 := eq_true p174
                    replace q174 := eq_true q174
                    go_wp2
                    repeat (go_quiet (fail); try go_wp2)
                    go_meet
                    case rel => exact ⟨_, ((x9_2 == (wrap64 ((t161.length : Int) - 1)))), (by first | rfl | (simp; done) | (simp [*]; done)), H', ⟨by have := HJ7.out; have := HK2.out; first | omega | exact Nat.le_refl _⟩, ⟨by (with_reducible repeat (first | apply Kd.R_alloc | apply Kd.R_drewN | apply Kd.R_drew)); exact HO_4.out⟩, ⟨by (with_reducible repeat (first | apply Kd.R_alloc | apply Kd.R_drewN | apply Kd.R_drew)); exact HO_7.out⟩, ⟨by (with_reducible repeat (first | apply Kd.R_alloc | apply Kd.R_drewN | apply Kd.R_drew)); exact HO_8.out⟩, ⟨by repeat (first | (with_reducible first | exact HB.out | apply below_alloc | apply pw_below_drewN | apply below_drew1) | exact HB.out)⟩⟩
                  · rw [if_neg c25] at H
                    have c25b0 : (((rd_T35 t161 x9_2).f1) == (a0.size : Int)) = false := beq_eq_false_iff_ne.mpr c25
                    have c25b1 : (((rd_T35 t161 x9_2).f1) != (a0.size : Int)) = true := bne_iff_ne.mpr c25
                    have H' := Aside0.mk H
                    clear H
                    have p173 : 0 ≤ (x9_2 : Int) := of_decide_eq_true (by first | (with_reducible assumption) | assumption)
                    have q173 : x9_2 < (t161.length : Int) := of_decide_eq_true (by first | (with_reducible assumption) | assumption)
                    obtain ⟨ad173, e173, hx173_0, hx173_1⟩ := at_T35 (Kd.R_reads' HO_8.out).2.2 x9_2 p173 q173
                    cases e173
                    replace p173 := eq_true p173
                    replace q173 := eq_true q173
                    have p174 : 0 ≤ (x9_2 : Int) := of_decide_eq_true (by first | (with_reducible assumption) | assumption)
                    have q174 : x9_2 < (t161.length : Int) := of_decide_eq_true (by first | (with_reducible assumption) | assumption)
                    obtain ⟨ad174, e174, hx174_0, hx174_1⟩ := at_T35 (Kd.R_reads' HO_8.out).2.2 x9_2 p174 q174
                    obtain rfl : ad173 = ad174 := (by injection e174)
                    replace p174 := eq_true p174
                    replace q174 := eq_true q174
                    go_wp2
                    repeat (go_quiet (fail); try go_wp2)
                    go_meet
                    case rel => exact ⟨_, (false), (by first | rfl | (simp; done) | (simp [*]; done)), H', ⟨by have := HJ7.out; have := HK2.out; first | omega | exact Nat.le_refl _⟩, ⟨by (with_reducible repeat (first | apply Kd.R_alloc | apply Kd.R_drewN | apply Kd.R_drew)); exact HO_4.out⟩, ⟨by (with_reducible repeat (first | apply Kd.R_alloc | apply Kd.R_drewN | apply Kd.R_drew)); exact HO_7.out⟩, ⟨by (with_reducible repeat (first | apply Kd.R_alloc | apply Kd.R_drewN | apply Kd.R_drew)); exact HO_8.out⟩, ⟨by repeat (first | (with_reducible first | exact HB.out | apply below_alloc | apply pw_below_drewN | apply below_drew1) | exact HB.out)⟩⟩
                · rw [if_neg c24] at H
                  have c24b0 : (((rd_T35 t161 x9_2).f0) == 3) = false := beq_eq_false_iff_ne.mpr c24
                  have c24b1 : (((rd_T35 t161 x9_2).f0) != 3) = true := bne_iff_ne.mpr c24
                  have H' := Aside0.mk H
                  clear H
                  have p173 : 0 ≤ (x9_2 : Int) := of_decide_eq_true (by first | (with_reducible assumption) | assumption)
                  have q173 : x9_2 < (t161.length : Int) := of_decide_eq_true (by first | (with_reducible assumption) | assumption)
                  obtain ⟨ad173, e173, hx173_0, hx173_1⟩ := at_T35 (Kd.R_reads' HO_8.out).2.2 x9_2 p173 q173
                  cases e173
                  replace p173 := eq_true p173
                  replace q173 := eq_true q173
                  go_wp2
                  repeat (go_quiet (fail); try go_wp2)
                  go_meet
                  case rel => exact ⟨_, (false), (by first | rfl | (simp; done) | (simp [*]; done)), H', ⟨by have := HJ7.out; have := HK2.out; first | omega | exact Nat.le_refl _⟩, ⟨by (with_reducible repeat (first | apply Kd.R_alloc | apply Kd.R_drewN | apply Kd.R_drew)); exact HO_4.out⟩, ⟨by (with_reducible repeat (first | apply Kd.R_alloc | apply Kd.R_drewN | apply Kd.R_drew)); exact HO_7.out⟩, ⟨by (with_reducible repeat (first | apply Kd.R_alloc | apply Kd.R_drewN | apply Kd.R_drew)); exact HO_8.out⟩, ⟨by repeat (first | (with_reducible first | exact HB.out | apply below_alloc | apply pw_below_drewN | apply below_drew1) | exact HB.out)⟩⟩
              · rw [if_neg c23] at H
                exact absurd H (by simp)
             case rest =>
              clear HC21
              try clear c1
              try clear p1
              try clear q1
              try clear hx1
              try clear c2
              try clear p2
              try clear c3
              try clear c3b0
              try clear c3b1
              try clear p6
              try clear c7
              try clear c7b0
              try clear c7b1
              try clear c8
              try clear c13
              try clear p17
              try clear q17
              try clear hx17
              try clear c19
              try clear c20
              try clear c20b0
              try clear c23
              try clear c23b0
              try clear c24
              try clear c24b0
              try clear c24b1
              try clear c25
              try clear c25b0
              try clear c25b1
              try clear hx173_0
              try clear hx173_1
              try clear hx174_0
              try clear hx174_1
              try clear p173
              try clear p174
              try clear p2
              try clear q173
              try clear q174
              obtain ⟨kq, x10_20, rfl, HA, HJ20, HO_4, HO_7, HO_8, HB⟩ := hcut
              cases kq with
              | zero => exact absurd HA.out (by simp [ambidexterlaw11_ParserOffsetsIncrease.j2])
              | succ kj20 =>
               have H := HA.out
               clear HA
               simp only [ambidexterlaw11_ParserOffsetsIncrease.j2] at H
               have H' := Aside0.mk H
               clear H
               go_wp2
               repeat (go_quiet (fail); try go_wp2)
               go_loopg [10, 11] kj20 (fun kq v10 v11 w' => ∃ (x10_4 : Bool) (x11_4 : Int), v10 = .bool x10_4 ∧ v11 = .int .i64 x11_4 ∧ Aside0 (ambidexterlaw11_ParserOffsetsIncrease.l1 kq a0 t154 t155 t160 t161 x9_2 x10_4 x11_4 = some r) ∧ Aside0 (kq ≤ kj20) ∧ Aside0 (Kd.R k44 44 w' w.heap.size (fun _ => True) v158 t155) ∧ Aside0 (Kd.R k55 55 w' w.heap.size (fun _ => True) v162 t160) ∧ Aside0 (Kd.R k35 35 w' w.heap.size (fun _ => True) (.slice Ao22 t161.length co22) t161) ∧ Aside0 (Below w.heap.size w w'))
               case atStart => exact ⟨(x10_20), (0), (by first | rfl | (simp; done) | (simp [*]; done)), (by first | rfl | (simp; done) | (simp [*]; done)), H', ⟨Nat.le_refl _⟩, ⟨by (with_reducible repeat (first | apply Kd.R_alloc | apply Kd.R_drewN | apply Kd.R_drew)); exact HO_4.out⟩, ⟨by (with_reducible repeat (first | apply Kd.R_alloc | apply Kd.R_drewN | apply Kd.R_drew)); exact HO_7.out⟩, ⟨by (with_reducible repeat (first | apply Kd.R_alloc | apply Kd.R_drewN | apply Kd.R_drew)); exact HO_8.out⟩, ⟨by repeat (first | (with_reducible first | exact HB.out | apply below_alloc | apply pw_below_drewN | apply below_drew1) | exact HB.out)⟩⟩
               case round =>
                clear H'
                try clear c1
                try clear p1
                try clear q1
                try clear hx1
                try clear c2
                try clear p2
                try clear c3
                try clear c3b0
                try clear c3b1
                try clear p6
                try clear c7
                try clear c7b0
                try clear c7b1
                try clear c8
                try clear c13
                try clear p17
                try clear q17
                try clear hx17
                try clear c19
                try clear c20
                try clear c20b0
                try clear c23
                try clear c23b0
                try clear c24
                try clear c24b0
                try clear c24b1
                try clear c25
                try clear c25b0
                try clear c25b1
                try clear hx173_0
                try clear hx173_1
                try clear hx174_0
                try clear hx174_1
                try clear p1
                try clear p17
                try clear p173
                try clear p174
                try clear p2
                try clear p6
                try clear q1
                try clear q17
                try clear q173
                try clear q174
                obtain ⟨x10_4, x11_4, rfl, rfl, HA, HK4, HO_4, HO_7, HO_8, HB⟩ := hrel
                cases gk with
                | zero => exact absurd HA.out (by simp [ambidexterlaw11_ParserOffsetsIncrease.l1])
                | succ k4 =>
                 have H := HA.out
                 clear HA
                 simp only [ambidexterlaw11_ParserOffsetsIncrease.l1] at H
                 by_cases c26 : x11_4 < (t155.length : Int)
                 · rw [if_pos c26] at H
                   have c26b0 : decide (x11_4 < (t155.length : Int)) = true := decide_eq_true c26
                   clear c26
                   by_cases c27 : x10_4 = true
                   · subst c27
                     have H1 : (ambidexterlaw11_ParserOffsetsIncrease.l1 k4 a0 t154 t155 t160 t161 x9_2 true (wrap64 (x11_4 + 1))) = some r := by rw [if_pos rfl] at H; exact H
                     clear H
                     have H := H1
                     clear H1
                     have H' := Aside0.mk H
                     clear H
                     obtain ⟨Ao28, co28, eo28⟩ := Kd.R_slice HO_4.out
                     subst eo28
                     go_wp2
                     repeat (go_quiet (fail); try go_wp2)
                     go_roundg k4
                     case measure => have := HJ7.out; have := HK2.out; have := HJ20.out; have := HK4.out; omega
                     case rel => exact ⟨(true), (wrap64 (x11_4 + 1)), (by first | rfl | (simp; done) | (simp [*]; done)), (by first | rfl | (simp; done) | (simp [*]; done)), H', ⟨by have := HJ7.out; have := HK2.out; have := HJ20.out; have := HK4.out; omega⟩, ⟨by (with_reducible repeat (first | apply Kd.R_alloc | apply Kd.R_drewN | apply Kd.R_drew)); exact HO_4.out⟩, ⟨by (with_reducible repeat (first | apply Kd.R_alloc | apply Kd.R_drewN | apply Kd.R_drew)); exact HO_7.out⟩, ⟨by (with_reducible repeat (first | apply Kd.R_alloc | apply Kd.R_drewN | apply Kd.R_drew)); exact HO_8.out⟩, ⟨by repeat (first | (with_reducible first | exact HB.out | apply below_alloc | apply pw_below_drewN | apply below_drew1) | exact HB.out)⟩⟩
                   · replace c27 := Bool.eq_false_iff.mpr c27
                     subst c27
                     have H1 : (if 0 ≤ x11_4 then (if 0 ≤ x9_2 then (if x9_2 < (t161.length : Int) then (if ((rd_T44 t155 x11_4).f2) = ((rd_T35 t161 x9_2).f1) then (if ((rd_T35 t161 x9_2).f0) = 110 then (ambidexterlaw11_ParserOffsetsIncrease.l1 k4 a0 t154 t155 t160 t161 x9_2 true (wrap64 (x11_4 + 1))) else (ambidexterlaw11_ParserOffsetsIncrease.l1 k4 a0 t154 t155 t160 t161 x9_2 (((rd_T35 t161 x9_2).f0) == 2) (wrap64 (x11_4 + 1)))) else (ambidexterlaw11_ParserOffsetsIncrease.l1 k4 a0 t154 t155 t160 t161 x9_2 false (wrap64 (x11_4 + 1)))) else (none)) else (none)) else (none)) = some r := by rw [if_neg (show ¬ (false = true) by decide)] at H; exact H
                     clear H
                     have H := H1
                     clear H1
                     by_cases c29 : 0 ≤ x11_4
                     · rw [if_pos c29] at H
                       have c29b0 : decide (0 ≤ x11_4) = true := decide_eq_true c29
                       clear c29
                       by_cases c30 : 0 ≤ x9_2
                       · rw [if_pos c30] at H
                         have c30b0 : decide (0 ≤ x9_2) = true := decide_eq_true c30
                         clear c30
                         by_cases c31 : x9_2 < (t161.length : Int)
                         · rw [if_pos c31] at H
                           have c31b0 : decide (x9_2 < (t161.length : Int)) = true := decide_eq_true c31
                           clear c31
                           by_cases c32 : ((rd_T44 t155 x11_4).f2) = ((rd_T35 t161 x9_2).f1)
                           · rw [if_pos c32] at H
                             have c32b0 : (((rd_T44 t155 x11_4).f2) == ((rd_T35 t161 x9_2).f1)) = true := beq_iff_eq.mpr c32
                             have c32b1 : (((rd_T44 t155 x11_4).f2) != ((rd_T35 t161 x9_2).f1)) = false := bne_eq_false_iff_eq.mpr c32
                             clear c32
                             by_cases c33 : ((rd_T35 t161 x9_2).f0) = 110
                             · rw [if_pos c33] at H
                               have c33b0 : (((rd_T35 t161 x9_2).f0) == 110) = true := beq_iff_eq.mpr c33
                               have c33b1 : (((rd_T35 t161 x9_2).f0) != 110) = false := bne_eq_false_iff_eq.mpr c33
                               clear c33
                               have H' := Aside0.mk H
                               clear H
                               obtain ⟨Ao34, co34, eo34⟩ := Kd.R_slice HO_4.out
                               subst eo34
                               have p175 : 0 ≤ (x11_4 : Int) := of_decide_eq_true (by first | (with_reducible assumption) | assumption)
                               have q175 : x11_4 < (t155.length : Int) := of_decide_eq_true (by first | (with_reducible assumption) | assumption)
                               obtain ⟨ad175, e175, hx175_0, hx175_1, hx175_2⟩ := at_T44 (Kd.R_reads' HO_4.out).2.2 x11_4 p175 q175
                               cases e175
                               replace p175 := eq_true p175
                               replace q175 := eq_true q175
                               have p176 : 0 ≤ (x9_2 : Int) := of_decide_eq_true (by first | (with_reducible assumption) | assumption)
                               have q176 : x9_2 < (t161.length : Int) := of_decide_eq_true (by first | (with_reducible assumption) | assumption)
                               obtain ⟨ad176, e176, hx176_0, hx176_1⟩ := at_T35 (Kd.R_reads' HO_8.out).2.2 x9_2 p176 q176
                               cases e176
                               replace p176 := eq_true p176
                               replace q176 := eq_true q176
                               have p177 : 0 ≤ (x9_2 : Int) := of_decide_eq_true (by first | (with_reducible assumption) | assumption)
                               have q177 : x9_2 < (t161.length : Int) := of_decide_eq_true (by first | (with_reducible assumption) | assumption)
                               obtain ⟨ad177, e177, hx177_0, hx177_1⟩ := at_T35 (Kd.R_reads' HO_8.out).2.2 x9_2 p177 q177
                               obtain rfl : ad176 = ad177 := (by injection e177)
                               replace p177 := eq_true p177
                               replace q177 := eq_true q177
                               go_wp2
                               repeat (go_quiet (fail); try go_wp2)
                               go_roundg k4
                               case measure => have := HJ7.out; have := HK2.out; have := HJ20.out; have := HK4.out; omega
                               case rel => exact ⟨(true), (wrap64 (x11_4 + 1)), (by first | rfl | (simp; done) | (simp [*]; done)), (by first | rfl | (simp; done) | (simp [*]; done)), H', ⟨by have := HJ7.out; have := HK2.out; have := HJ20.out; have := HK4.out; omega⟩, ⟨by (with_reducible repeat (first | apply Kd.R_alloc | apply Kd.R_drewN | apply Kd.R_drew)); exact HO_4.out⟩, ⟨by (with_reducible repeat (first | apply Kd.R_alloc | apply Kd.R_drewN | apply Kd.R_drew)); exact HO_7.out⟩, ⟨by (with_reducible repeat (first | apply Kd.R_alloc | apply Kd.R_drewN | apply Kd.R_drew)); exact HO_8.out⟩, ⟨by repeat (first | (with_reducible first | exact HB.out | apply below_alloc | apply pw_below_drewN | apply below_drew1) | exact HB.out)⟩⟩
                             · rw [if_neg c33] at H
                               have c33b0 : (((rd_T35 t161 x9_2).f0) == 110) = false := beq_eq_false_iff_ne.mpr c33
                               have c33b1 : (((rd_T35 t161 x9_2).f0) != 110) = true := bne_iff_ne.mpr c33
                               have H' := Aside0.mk H
                               clear H
                               obtain ⟨Ao35, co35, eo35⟩ := Kd.R_slice HO_4.out
                               subst eo35
                               have p175 : 0 ≤ (x11_4 : Int) := of_decide_eq_true (by first | (with_reducible assumption) | assumption)
                               have q175 : x11_4 < (t155.length : Int) := of_decide_eq_true (by first | (with_reducible assumption) | assumption)
                               obtain ⟨ad175, e175, hx175_0, hx175_1, hx175_2⟩ := at_T44 (Kd.R_reads' HO_4.out).2.2 x11_4 p175 q175
                               cases e175
                               replace p175 := eq_true p175
                               replace q175 := eq_true q175
                               have p176 : 0 ≤ (x9_2 : Int) := of_decide_eq_true (by first | (with_reducible assumption) | assumption)
                               have q176 : x9_2 < (t161.length : Int) := of_decide_eq_true (by first | (with_reducible assumption) | assumption)
                               obtain ⟨ad176, e176, hx176_0, hx176_1⟩ := at_T35 (Kd.R_reads' HO_8.out).2.2 x9_2 p176 q176
                               cases e176
                               replace p176 := eq_true p176
                               replace q176 := eq_true q176
                               have p177 : 0 ≤ (x9_2 : Int) := of_decide_eq_true (by first | (with_reducible assumption) | assumption)
                               have q177 : x9_2 < (t161.length : Int) := of_decide_eq_true (by first | (with_reducible assumption) | assumption)
                               obtain ⟨ad177, e177, hx177_0, hx177_1⟩ := at_T35 (Kd.R_reads' HO_8.out).2.2 x9_2 p177 q177
                               obtain rfl : ad176 = ad177 := (by injection e177)
                               replace p177 := eq_true p177
                               replace q177 := eq_true q177
                               have p178 : 0 ≤ (x9_2 : Int) := of_decide_eq_true (by first | (with_reducible assumption) | assumption)
                               have q178 : x9_2 < (t161.length : Int) := of_decide_eq_true (by first | (with_reducible assumption) | assumption)
                               obtain ⟨ad178, e178, hx178_0, hx178_1⟩ := at_T35 (Kd.R_reads' HO_8.out).2.2 x9_2 p178 q178
                               obtain rfl : ad176 = ad178 := (by injection e178)
                               replace p178 := eq_true p178
                               replace q178 := eq_true q178
                               go_wp2
                               repeat (go_quiet (fail); try go_wp2)
                               go_roundg k4
                               case measure => have := HJ7.out; have := HK2.out; have := HJ20.out; have := HK4.out; omega
                               case rel => exact ⟨((((rd_T35 t161 x9_2).f0) == 2)), (wrap64 (x11_4 + 1)), (by first | rfl | (simp; done) | (simp [*]; done)), (by first | rfl | (simp; done) | (simp [*]; done)), H', ⟨by have := HJ7.out; have := HK2.out; have := HJ20.out; have := HK4.out; omega⟩, ⟨by (with_reducible repeat (first | apply Kd.R_alloc | apply Kd.R_drewN | apply Kd.R_drew)); exact HO_4.out⟩, ⟨by (with_reducible repeat (first | apply Kd.R_alloc | apply Kd.R_drewN | apply Kd.R_drew)); exact HO_7.out⟩, ⟨by (with_reducible repeat (first | apply Kd.R_alloc | apply Kd.R_drewN | apply Kd.R_drew)); exact HO_8.out⟩, ⟨by repeat (first | (with_reducible first | exact HB.out | apply below_alloc | apply pw_below_drewN | apply below_drew1) | exact HB.out)⟩⟩
                           · rw [if_neg c32] at H
                             have c32b0 : (((rd_T44 t155 x11_4).f2) == ((rd_T35 t161 x9_2).f1)) = false := beq_eq_false_iff_ne.mpr c32
                             have c32b1 : (((rd_T44 t155 x11_4).f2) != ((rd_T35 t161 x9_2).f1)) = true := bne_iff_ne.mpr c32
                             have H' := Aside0.mk H
                             clear H
                             obtain ⟨Ao36, co36, eo36⟩ := Kd.R_slice HO_4.out
                             subst eo36
                             have p175 : 0 ≤ (x11_4 : Int) := of_decide_eq_true (by first | (with_reducible assumption) | assumption)
                             have q175 : x11_4 < (t155.length : Int) := of_decide_eq_true (by first | (with_reducible assumption) | assumption)
                             obtain ⟨ad175, e175, hx175_0, hx175_1, hx175_2⟩ := at_T44 (Kd.R_reads' HO_4.out).2.2 x11_4 p175 q175
                             cases e175
                             replace p175 := eq_true p175
                             replace q175 := eq_true q175
                             have p176 : 0 ≤ (x9_2 : Int) := of_decide_eq_true (by first | (with_reducible assumption) | assumption)
                             have q176 : x9_2 < (t161.length : Int) := of_decide_eq_true (by first | (with_reducible assumption) | assumption)
                             obtain ⟨ad176, e176, hx176_0, hx176_1⟩ := at_T35 (Kd.R_reads' HO_8.out).2.2 x9_2 p176 q176
                             cases e176
                             replace p176 := eq_true p176
                             replace q176 := eq_true q176
                             go_wp2
                             repeat (go_quiet (fail); try go_wp2)
                             go_roundg k4
                             case measure => have := HJ7.out; have := HK2.out; have := HJ20.out; have := HK4.out; omega
                             case rel => exact ⟨(false), (wrap64 (x11_4 + 1)), (by first | rfl | (simp; done) | (simp [*]; done)), (by first | rfl | (simp; done) | (simp [*]; done)), H', ⟨by have := HJ7.out; have := HK2.out; have := HJ20.out; have := HK4.out; omega⟩, ⟨by (with_reducible repeat (first | apply Kd.R_alloc | apply Kd.R_drewN | apply Kd.R_drew)); exact HO_4.out⟩, ⟨by (with_reducible repeat (first | apply Kd.R_alloc | apply Kd.R_drewN | apply Kd.R_drew)); exact HO_7.out⟩, ⟨by (with_reducible repeat (first | apply Kd.R_alloc | apply Kd.R_drewN | apply Kd.R_drew)); exact HO_8.out⟩, ⟨by repeat (first | (with_reducible first | exact HB.out | apply below_alloc | apply pw_below_drewN | apply below_drew1) | exact HB.out)⟩⟩
                         · rw [if_neg c31] at H
                           exact absurd H (by simp)
                       · rw [if_neg c30] at H
                         exact absurd H (by simp)
                     · rw [if_neg c29] at H
                       exact absurd H (by simp)
                 · rw [if_neg c26] at H
                   have c26b0 : decide (x11_4 < (t155.length : Int)) = false := decide_eq_false c26
                   clear c26
                   by_cases c37 : x10_4 = true
                   · subst c37
                     have H1 : (if x9_2 > 0 then (if 0 ≤ x9_2 then (if x9_2 < (t161.length : Int) then (if 0 ≤ (wrap64 (x9_2 - 1)) then (if (wrap64 (x9_2 - 1)) < (t161.length : Int) then (if ((rd_T35 t161 x9_2).f1) < ((rd_T35 t161 (wrap64 (x9_2 - 1))).f1) then (some false) else (ambidexterlaw11_ParserOffsetsIncrease.l0 k4 a0 t154 t155 t160 t161 (wrap64 (x9_2 + 1)))) else (none)) else (none)) else (none)) else (none)) else (ambidexterlaw11_ParserOffsetsIncrease.l0 k4 a0 t154 t155 t160 t161 (wrap64 (x9_2 + 1)))) = some r := by rw [if_pos rfl] at H; exact H
                     clear H
                     have H := H1
                     clear H1
                     by_cases c38 : x9_2 > 0
                     · rw [if_pos c38] at H
                       have c38b0 : decide (0 < x9_2) = true := decide_eq_true c38
                       clear c38
                       by_cases c39 : 0 ≤ x9_2
                       · rw [if_pos c39] at H
                         have c39b0 : decide (0 ≤ x9_2) = true := decide_eq_true c39
                         clear c39
                         by_cases c40 : x9_2 < (t161.length : Int)
                         · rw [if_pos c40] at H
                           have c40b0 : decide (x9_2 < (t161.length : Int)) = true := decide_eq_true c40
                           clear c40
                           obtain ⟨ji41, hji41⟩ : ∃ j_ : Int, (wrap64 (x9_2 - 1)) = j_ := ⟨_, rfl⟩
                           replace H : (if 0 ≤ (ji41) then (if (ji41) < (t161.length : Int) then (if ((rd_T35 t161 x9_2).f1) < ((rd_T35 t161 (ji41)).f1) then (some false) else (ambidexterlaw11_ParserOffsetsIncrease.l0 k4 a0 t154 t155 t160 t161 (wrap64 (x9_2 + 1)))) else (none)) else (none)) = some r := by first | (rw [hji41] at H; exact H) | (simp only [hji41] at H ⊢; exact H)
                           have hji41w : (IntKind.i64.wrap (x9_2 - 1)) = ji41 := (i64_w _).trans hji41
                           by_cases c42 : 0 ≤ (ji41)
                           · rw [if_pos c42] at H
                             have c42b0 : decide (0 ≤ (ji41)) = true := decide_eq_true c42
                             clear c42
                             by_cases c43 : (ji41) < (t161.length : Int)
                             · rw [if_pos c43] at H
                               have c43b0 : decide ((ji41) < (t161.length : Int)) = true := decide_eq_true c43
                               clear c43
                               by_cases c44 : ((rd_T35 t161 x9_2).f1) < ((rd_T35 t161 (ji41)).f1)
                               · rw [if_pos c44] at H
                                 have c44b0 : decide (((rd_T35 t161 x9_2).f1) < ((rd_T35 t161 (ji41)).f1)) = true := decide_eq_true c44
                                 clear c44
                                 obtain rfl := Option.some.inj H
                                 obtain ⟨Ao45, co45, eo45⟩ := Kd.R_slice HO_4.out
                                 subst eo45
                                 have p179 : 0 ≤ (x9_2 : Int) := of_decide_eq_true (by first | (with_reducible assumption) | assumption)
                                 have q179 : x9_2 < (t161.length : Int) := of_decide_eq_true (by first | (with_reducible assumption) | assumption)
                                 obtain ⟨ad179, e179, hx179_0, hx179_1⟩ := at_T35 (Kd.R_reads' HO_8.out).2.2 x9_2 p179 q179
                                 cases e179
                                 replace p179 := eq_true p179
                                 replace q179 := eq_true q179
                                 have p180 : 0 ≤ ((ji41) : Int) := of_decide_eq_true (by first | (with_reducible assumption) | assumption)
                                 have q180 : (ji41) < (t161.length : Int) := of_decide_eq_true (by first | (with_reducible assumption) | assumption)
                                 obtain ⟨ad180, e180, hx180_0, hx180_1⟩ := at_T35 (Kd.R_reads' HO_8.out).2.2 (ji41) p180 q180
                                 obtain rfl : ad179 = ad180 := (by injection e180)
                                 replace p180 := eq_true p180
                                 replace q180 := eq_true q180
                                 go_wp2
                                 repeat (go_quiet (fail); try go_wp2)
                                 go_ret
                                 exact ⟨by first | rfl | (simp [errW_none, errW_some] <;> rfl) | (simp only [← hji41]; first | rfl | (simp [errW_none, errW_some] <;> rfl)) | (simp [*, errW_none, errW_some] <;> rfl), by repeat (first | (with_reducible first | exact HB.out | apply below_alloc | apply pw_below_drewN | apply below_drew1) | exact HB.out)⟩
                               · rw [if_neg c44] at H
                                 have c44b0 : decide (((rd_T35 t161 x9_2).f1) < ((rd_T35 t161 (ji41)).f1)) = false := decide_eq_false c44
                                 clear c44
                                 have H' := Aside0.mk H
                                 clear H
                                 obtain ⟨Ao46, co46, eo46⟩ := Kd.R_slice HO_4.out
                                 subst eo46
                                 have p179 : 0 ≤ (x9_2 : Int) := of_decide_eq_true (by first | (with_reducible assumption) | assumption)
                                 have q179 : x9_2 < (t161.length : Int) := of_decide_eq_true (by first | (with_reducible assumption) | assumption)
                                 obtain ⟨ad179, e179, hx179_0, hx179_1⟩ := at_T35 (Kd.R_reads' HO_8.out).2.2 x9_2 p179 q179
                                 cases e179
                                 replace p179 := eq_true p179
                                 replace q179 := eq_true q179
                                 have p180 : 0 ≤ ((ji41) : Int) := of_decide_eq_true (by first | (with_reducible assumption) | assumption)
                                 have q180 : (ji41) < (t161.length : Int) := of_decide_eq_true (by first | (with_reducible assumption) | assumption)
                                 obtain ⟨ad180, e180, hx180_0, hx180_1⟩ := at_T35 (Kd.R_reads' HO_8.out).2.2 (ji41) p180 q180
                                 obtain rfl : ad179 = ad180 := (by injection e180)
                                 replace p180 := eq_true p180
                                 replace q180 := eq_true q180
                                 go_wp2
                                 repeat (go_quiet (fail); try go_wp2)
                                 go_roundg k4
                                 case measure => have := HJ7.out; have := HK2.out; have := HJ20.out; have := HK4.out; omega
                                 case rel => exact ⟨(wrap64 (x9_2 + 1)), (by first | rfl | (simp; done) | (simp [*]; done)), H', ⟨by have := HJ7.out; have := HK2.out; have := HJ20.out; have := HK4.out; omega⟩, ⟨by (with_reducible repeat (first | apply Kd.R_alloc | apply Kd.R_drewN | apply Kd.R_drew)); exact HO_4.out⟩, ⟨by (with_reducible repeat (first | apply Kd.R_alloc | apply Kd.R_drewN | apply Kd.R_drew)); exact HO_7.out⟩, ⟨by (with_reducible repeat (first | apply Kd.R_alloc | apply Kd.R_drewN | apply Kd.R_drew)); exact HO_8.out⟩, ⟨by repeat (first | (with_reducible first | exact HB.out | apply below_alloc | apply pw_below_drewN | apply below_drew1) | exact HB.out)⟩⟩
                             · rw [if_neg c43] at H
                               exact absurd H (by simp)
                           · rw [if_neg c42] at H
                             exact absurd H (by simp)
                         · rw [if_neg c40] at H
                           exact absurd H (by simp)
                       · rw [if_neg c39] at H
                         exact absurd H (by simp)
                     · rw [if_neg c38] at H
                       have c38b0 : decide (0 < x9_2) = false := decide_eq_false c38
                       clear c38
                       have H' := Aside0.mk H
                       clear H
                       obtain ⟨Ao47, co47, eo47⟩ := Kd.R_slice HO_4.out
                       subst eo47
                       go_wp2
                       repeat (go_quiet (fail); try go_wp2)
                       go_roundg k4
                       case measure => have := HJ7.out; have := HK2.out; have := HJ20.out; have := HK4.out; omega
                       case rel => exact ⟨(wrap64 (x9_2 + 1)), (by first | rfl | (simp; done) | (simp [*]; done)), H', ⟨by have := HJ7.out; have := HK2.out; have := HJ20.out; have := HK4.out; omega⟩, ⟨by (with_reducible repeat (first | apply Kd.R_alloc | apply Kd.R_drewN | apply Kd.R_drew)); exact HO_4.out⟩, ⟨by (with_reducible repeat (first | apply Kd.R_alloc | apply Kd.R_drewN | apply Kd.R_drew)); exact HO_7.out⟩, ⟨by (with_reducible repeat (first | apply Kd.R_alloc | apply Kd.R_drewN | apply Kd.R_drew)); exact HO_8.out⟩, ⟨by repeat (first | (with_reducible first | exact HB.out | apply below_alloc | apply pw_below_drewN | apply below_drew1) | exact HB.out)⟩⟩
                   · replace c37 := Bool.eq_false_iff.mpr c37
                     subst c37
                     have H1 : (some false) = some r := by rw [if_neg (show ¬ (false = true) by decide)] at H; exact H
                     clear H
                     have H := H1
                     clear H1
                     obtain rfl := Option.some.inj H
                     obtain ⟨Ao48, co48, eo48⟩ := Kd.R_slice HO_4.out
                     subst eo48
                     go_wp2
                     repeat (go_quiet (fail); try go_wp2)
                     go_ret
                     exact ⟨by first | rfl | (simp [errW_none, errW_some] <;> rfl) | (simp [*, errW_none, errW_some] <;> rfl), by repeat (first | (with_reducible first | exact HB.out | apply below_alloc | apply pw_below_drewN | apply below_drew1) | exact HB.out)⟩
           · rw [if_neg c20] at H
             have c20b0 : decide (x9_2 < (t161.length : Int)) = false := decide_eq_false c20
             clear c20
             replace H := Option.bind_eq_some_iff.mp H
             obtain ⟨⟨t171, t172⟩, A490, H⟩ := H
             replace H : (if t154 = true then (some t172) else (some false)) = some r := H
             have A49 := Aside0.mk A490
             clear A490
             by_cases c50 : t154 = true
             · subst c50
               have H1 : (some t172) = some r := by rw [if_pos rfl] at H; exact H
               clear H
               have H := H1
               clear H1
               obtain rfl := Option.some.inj H
               obtain ⟨Ao51, co51, eo51⟩ := Kd.R_slice HO_8.out
               subst eo51
               obtain ⟨Ao52, co52, eo52⟩ := Kd.R_slice HO_7.out
               subst eo52
               go_wp2_with (first | (go_at_call 20; (with_reducible refine (ambidexterlaw11_placed.calls k2 a0 _ _ t160 0 t171 t172 _ ?side1 ?side2 A49.out).mono ?_); (case side1 => repeat (first | exact (Kd.R_reads' HO_7.out).2.2 | (with_reducible refine Kd.C_alloc ?_ _) | (with_reducible refine Kd.C_drewN ?_ _) | (with_reducible refine Kd.C_drew ?_))); (case side2 => exact (Kd.R_reads' HO_7.out).2.1); rintro e w53 ⟨rfl, hb⟩; have n0_ := Aside0.mk (Kd.R_below (by (with_reducible repeat (first | apply Kd.R_alloc | apply Kd.R_drewN | apply Kd.R_drew)); exact HO_4.out) hb); have n1_ := Aside0.mk (Kd.R_below (by (with_reducible repeat (first | apply Kd.R_alloc | apply Kd.R_drewN | apply Kd.R_drew)); exact HO_7.out) hb); have n2_ := Aside0.mk (Kd.R_below (by (with_reducible repeat (first | apply Kd.R_alloc | apply Kd.R_drewN | apply Kd.R_drew)); exact HO_8.out) hb); have n3_ := Aside0.mk (below_step (by repeat (first | (with_reducible first | exact HB.out | apply below_alloc | apply pw_below_drewN | apply below_drew1) | exact HB.out)) hb); clear HO_4; clear HO_7; clear HO_8; clear HB; have HO_4 := n0_; have HO_7 := n1_; have HO_8 := n2_; have HB := n3_; clear n0_ n1_ n2_ n3_; (try clear hb); (try clear hb2); (try clear hk); (try clear hi)))
               repeat (go_quiet (first | (go_at_call 20; (with_reducible refine (ambidexterlaw11_placed.calls k2 a0 _ _ t160 0 t171 t172 _ ?side1 ?side2 A49.out).mono ?_); (case side1 => repeat (first | exact (Kd.R_reads' HO_7.out).2.2 | (with_reducible refine Kd.C_alloc ?_ _) | (with_reducible refine Kd.C_drewN ?_ _) | (with_reducible refine Kd.C_drew ?_))); (case side2 => exact (Kd.R_reads' HO_7.out).2.1); rintro e w53 ⟨rfl, hb⟩; have n0_ := Aside0.mk (Kd.R_below (by (with_reducible repeat (first | apply Kd.R_alloc | apply Kd.R_drewN | apply Kd.R_drew)); exact HO_4.out) hb); have n1_ := Aside0.mk (Kd.R_below (by (with_reducible repeat (first | apply Kd.R_alloc | apply Kd.R_drewN | apply Kd.R_drew)); exact HO_7.out) hb); have n2_ := Aside0.mk (Kd.R_below (by (with_reducible repeat (first | apply Kd.R_alloc | apply Kd.R_drewN | apply Kd.R_drew)); exact HO_8.out) hb); have n3_ := Aside0.mk (below_step (by repeat (first | (with_reducible first | exact HB.out | apply below_alloc | apply pw_below_drewN | apply below_drew1) | exact HB.out)) hb); clear HO_4; clear HO_7; clear HO_8; clear HB; have HO_4 := n0_; have HO_7 := n1_; have HO_8 := n2_; have HB := n3_; clear n0_ n1_ n2_ n3_; (try clear hb); (try clear hb2); (try clear hk); (try clear hi))); try go_wp2_with (first | (go_at_call 20; (with_reducible refine (ambidexterlaw11_placed.calls k2 a0 _ _ t160 0 t171 t172 _ ?side1 ?side2 A49.out).mono ?_); (case side1 => repeat (first | exact (Kd.R_reads' HO_7.out).2.2 | (with_reducible refine Kd.C_alloc ?_ _) | (with_reducible refine Kd.C_drewN ?_ _) | (with_reducible refine Kd.C_drew ?_))); (case side2 => exact (Kd.R_reads' HO_7.out).2.1); rintro e w53 ⟨rfl, hb⟩; have n0_ := Aside0.mk (Kd.R_below (by (with_reducible repeat (first | apply Kd.R_alloc | apply Kd.R_drewN | apply Kd.R_drew)); exact HO_4.out) hb); have n1_ := Aside0.mk (Kd.R_below (by (with_reducible repeat (first | apply Kd.R_alloc | apply Kd.R_drewN | apply Kd.R_drew)); exact HO_7.out) hb); have n2_ := Aside0.mk (Kd.R_below (by (with_reducible repeat (first | apply Kd.R_alloc | apply Kd.R_drewN | apply Kd.R_drew)); exact HO_8.out) hb); have n3_ := Aside0.mk (below_step (by repeat (first | (with_reducible first | exact HB.out | apply below_alloc | apply pw_below_drewN | apply below_drew1) | exact HB.out)) hb); clear HO_4; clear HO_7; clear HO_8; clear HB; have HO_4 := n0_; have HO_7 := n1_; have HO_8 := n2_; have HB := n3_; clear n0_ n1_ n2_ n3_; (try clear hb); (try clear hb2); (try clear hk); (try clear hi))))
               go_ret
               exact ⟨by first | rfl | (simp [errW_none, errW_some] <;> rfl) | (simp [*, errW_none, errW_some] <;> rfl), by repeat (first | (with_reducible first | exact HB.out | apply below_alloc | apply pw_below_drewN | apply below_drew1) | exact HB.out)⟩
             · replace c50 := Bool.eq_false_iff.mpr c50
               subst c50
               have H1 : (some false) = some r := by rw [if_neg (show ¬ (false = true) by decide)] at H; exact H
               clear H
               have H := H1
               clear H1
               obtain rfl := Option.some.inj H
               obtain ⟨Ao54, co54, eo54⟩ := Kd.R_slice HO_8.out
               subst eo54
               obtain ⟨Ao55, co55, eo55⟩ := Kd.R_slice HO_7.out
               subst eo55
               go_wp2_with (first | (go_at_call 20; (with_reducible refine (ambidexterlaw11_placed.calls k2 a0 _ _ t160 0 t171 t172 _ ?side1 ?side2 A49.out).mono ?_); (case side1 => repeat (first | exact (Kd.R_reads' HO_7.out).2.2 | (with_reducible refine Kd.C_alloc ?_ _) | (with_reducible refine Kd.C_drewN ?_ _) | (with_reducible refine Kd.C_drew ?_))); (case side2 => exact (Kd.R_reads' HO_7.out).2.1); rintro e w56 ⟨rfl, hb⟩; have n0_ := Aside0.mk (Kd.R_below (by (with_reducible repeat (first | apply Kd.R_alloc | apply Kd.R_drewN | apply Kd.R_drew)); exact HO_4.out) hb); have n1_ := Aside0.mk (Kd.R_below (by (with_reducible repeat (first | apply Kd.R_alloc | apply Kd.R_drewN | apply Kd.R_drew)); exact HO_7.out) hb); have n2_ := Aside0.mk (Kd.R_below (by (with_reducible repeat (first | apply Kd.R_alloc | apply Kd.R_drewN | apply Kd.R_drew)); exact HO_8.out) hb); have n3_ := Aside0.mk (below_step (by repeat (first | (with_reducible first | exact HB.out | apply below_alloc | apply pw_below_drewN | apply below_drew1) | exact HB.out)) hb); clear HO_4; clear HO_7; clear HO_8; clear HB; have HO_4 := n0_; have HO_7 := n1_; have HO_8 := n2_; have HB := n3_; clear n0_ n1_ n2_ n3_; (try clear hb); (try clear hb2); (try clear hk); (try clear hi)))
               repeat (go_quiet (first | (go_at_call 20; (with_reducible refine (ambidexterlaw11_placed.calls k2 a0 _ _ t160 0 t171 t172 _ ?side1 ?side2 A49.out).mono ?_); (case side1 => repeat (first | exact (Kd.R_reads' HO_7.out).2.2 | (with_reducible refine Kd.C_alloc ?_ _) | (with_reducible refine Kd.C_drewN ?_ _) | (with_reducible refine Kd.C_drew ?_))); (case side2 => exact (Kd.R_reads' HO_7.out).2.1); rintro e w56 ⟨rfl, hb⟩; have n0_ := Aside0.mk (Kd.R_below (by (with_reducible repeat (first | apply Kd.R_alloc | apply Kd.R_drewN | apply Kd.R_drew)); exact HO_4.out) hb); have n1_ := Aside0.mk (Kd.R_below (by (with_reducible repeat (first | apply Kd.R_alloc | apply Kd.R_drewN | apply Kd.R_drew)); exact HO_7.out) hb); have n2_ := Aside0.mk (Kd.R_below (by (with_reducible repeat (first | apply Kd.R_alloc | apply Kd.R_drewN | apply Kd.R_drew)); exact HO_8.out) hb); have n3_ := Aside0.mk (below_step (by repeat (first | (with_reducible first | exact HB.out | apply below_alloc | apply pw_below_drewN | apply below_drew1) | exact HB.out)) hb); clear HO_4; clear HO_7; clear HO_8; clear HB; have HO_4 := n0_; have HO_7 := n1_; have HO_8 := n2_; have HB := n3_; clear n0_ n1_ n2_ n3_; (try clear hb); (try clear hb2); (try clear hk); (try clear hi))); try go_wp2_with (first | (go_at_call 20; (with_reducible refine (ambidexterlaw11_placed.calls k2 a0 _ _ t160 0 t171 t172 _ ?side1 ?side2 A49.out).mono ?_); (case side1 => repeat (first | exact (Kd.R_reads' HO_7.out).2.2 | (with_reducible refine Kd.C_alloc ?_ _) | (with_reducible refine Kd.C_drewN ?_ _) | (with_reducible refine Kd.C_drew ?_))); (case side2 => exact (Kd.R_reads' HO_7.out).2.1); rintro e w56 ⟨rfl, hb⟩; have n0_ := Aside0.mk (Kd.R_below (by (with_reducible repeat (first | apply Kd.R_alloc | apply Kd.R_drewN | apply Kd.R_drew)); exact HO_4.out) hb); have n1_ := Aside0.mk (Kd.R_below (by (with_reducible repeat (first | apply Kd.R_alloc | apply Kd.R_drewN | apply Kd.R_drew)); exact HO_7.out) hb); have n2_ := Aside0.mk (Kd.R_below (by (with_reducible repeat (first | apply Kd.R_alloc | apply Kd.R_drewN | apply Kd.R_drew)); exact HO_8.out) hb); have n3_ := Aside0.mk (below_step (by repeat (first | (with_reducible first | exact HB.out | apply below_alloc | apply pw_below_drewN | apply below_drew1) | exact HB.out)) hb); clear HO_4; clear HO_7; clear HO_8; clear HB; have HO_4 := n0_; have HO_7 := n1_; have HO_8 := n2_; have HB := n3_; clear n0_ n1_ n2_ n3_; (try clear hb); (try clear hb2); (try clear hk); (try clear hi))))
               go_ret
               exact ⟨by first | rfl | (simp [errW_none, errW_some] <;> rfl) | (simp [*, errW_none, errW_some] <;> rfl), by repeat (first | (with_reducible first | exact HB.out | apply below_alloc | apply pw_below_drewN | apply below_drew1) | exact HB.out)⟩
   · rw [if_neg c7] at H
     have c7b0 : (t156 == 0) = false := beq_eq_false_iff_ne.mpr c7
     have c7b1 : (t156 != 0) = true := bne_iff_ne.mpr c7
     by_cases c57 : t154 = true
     · subst c57
       have H1 : (if (t160.length : Int) = 0 then ((ambidexterref11_Faults.f k t161 (([(⟨t156, t157⟩ : S35)] : List (S35)))).bind fun t169 => (some t169)) else (some false)) = some r := by rw [if_pos rfl] at H; exact H
       clear H
       have H := H1
       clear H1
       by_cases c58 : (t160.length : Int) = 0
       · rw [if_pos c58] at H
         have c58b0 : ((t160.length : Int) == 0) = true := beq_iff_eq.mpr c58
         have c58b1 : ((t160.length : Int) != 0) = false := bne_eq_false_iff_eq.mpr c58
         clear c58
         obtain ⟨y166, hy166⟩ : ∃ y_ : List (S35), y_ = (([(⟨t156, t157⟩ : S35)] : List (S35))) := ⟨_, rfl⟩
         replace H : ((ambidexterref11_Faults.f k t161 y166).bind fun t169 => (some t169)) = some r := by first | (rw [hy166]; with_reducible exact H) | (have H2_ := (Option.bind_some _ _).symm.trans H; rw [hy166]; with_reducible exact H2_) | (have H2_ := (Option.bind_some _ _).symm.trans H; with_reducible exact H2_) | with_reducible exact H | (rw [hy166]; exact H) | exact H
         have Ny166 := Aside0.mk hy166
         clear hy166
         replace H := Option.bind_eq_some_iff.mp H
         obtain ⟨t169, A590, H⟩ := H
         replace H : (some t169) = some r := H
         have A59 := Aside0.mk A590
         clear A590
         obtain rfl := Option.some.inj H
         go_enter Tryd.func8, Tryd.ntmps8
         go_wp2_with (first | (go_at_call 9; (with_reducible refine (ambidexterlaw11_head.calls  true _ A2.out (HGL.out.below (by repeat (first | (with_reducible first | exact HB.out | apply below_alloc | apply pw_below_drewN | apply below_drew1) | exact HB.out)))).mono ?_); rintro e w60 ⟨rfl, hb⟩; have n0_ := Aside0.mk (below_step (by repeat (first | (with_reducible first | exact HB.out | apply below_alloc | apply pw_below_drewN | apply below_drew1) | exact HB.out)) hb); clear HB; have HB := n0_; clear n0_; (try clear hb); (try clear hb2); (try clear hk); (try clear hi)) | (go_at_call 17; (with_reducible refine (lexer_Lex.calls a0 t155 t156 t157 _ A5.out).mono ?_); rintro e w61 ⟨v158, rfl, ho0, hb⟩; have n0_ := Aside0.mk (Kd.R_lower ho0 (below_size (by repeat (first | (with_reducible first | exact HB.out | apply below_alloc | apply pw_below_drewN | apply below_drew1) | exact HB.out)))); have n1_ := Aside0.mk (below_step (by repeat (first | (with_reducible first | exact HB.out | apply below_alloc | apply pw_below_drewN | apply below_drew1) | exact HB.out)) hb); clear HB; have HO159 := n0_; have HB := n1_; clear n0_ n1_; (try clear hb); (try clear hb2); (try clear hk); (try clear hi); (try clear ho0)) | (go_at_call 12; (with_reducible refine (parser_Parse.calls k a0 t160 t161 _ A6.out (HGL.out.below (by repeat (first | (with_reducible first | exact HB.out | apply below_alloc | apply pw_below_drewN | apply below_drew1) | exact HB.out)))).mono ?_); rintro e w62 ⟨v162, v164, rfl, ho0, ho1, hb⟩; have n0_ := Aside0.mk (Kd.R_below (by (with_reducible repeat (first | apply Kd.R_alloc | apply Kd.R_drewN | apply Kd.R_drew)); exact HO159.out) hb); have n1_ := Aside0.mk (Kd.R_lower ho0 (below_size (by repeat (first | (with_reducible first | exact HB.out | apply below_alloc | apply pw_below_drewN | apply below_drew1) | exact HB.out)))); have n2_ := Aside0.mk (Kd.R_lower ho1 (below_size (by repeat (first | (with_reducible first | exact HB.out | apply below_alloc | apply pw_below_drewN | apply below_drew1) | exact HB.out)))); have n3_ := Aside0.mk (below_step (by repeat (first | (with_reducible first | exact HB.out | apply below_alloc | apply pw_below_drewN | apply below_drew1) | exact HB.out)) hb); clear HO159; clear HB; have HO159 := n0_; have HO163 := n1_; have HO165 := n2_; have HB := n3_; clear n0_ n1_ n2_ n3_; (try clear hb); (try clear hb2); (try clear hk); (try clear hi); (try clear ho0); (try clear ho1); obtain ⟨Ao63, co63, eo63⟩ := Kd.R_slice HO163.out; subst eo63) | ((with_reducible refine gate_dst (N := 43) rfl ?_); (try (refine gate_guard (by rfl) ?_; dsimp only)); refine Kd.R_lit k35 _ 35 ?hg (N := 43) ?hd (xs := ([(⟨t156, t157⟩ : S35)] : List (S35))) (inner := [.int .i64 t156, .int .i64 t157]) (ok := fun _ => True) (okp := fun _ => True) ?hr ?hp (fun _ hk => hk) trivial (Below.refl _ _) (Nat.le_refl _) (by simp) ?_; (case hd => rfl); (case hg => rfl); (case hr => first | (go_simp; done) | (go_simp; rfl)); (case hp => exact (Reps.c2 (show Kd.M k35 _ _ _ (⟨t156, t157⟩ : S35) [.int .i64 t156, .int .i64 t157] from (k35_mkM _ _ _ (⟨t156, t157⟩ : S35) )) (Reps.none _ _))); intro v167 w64 ho65 hb hg_ hnew_; clear hg_ hnew_; (first | rw [← Ny166.out] at ho65 | (simp only [Int.reduceToNat] at ho65; rw [← Ny166.out] at ho65)); have n0_ := Aside0.mk (Kd.R_below (by (with_reducible repeat (first | apply Kd.R_alloc | apply Kd.R_drewN | apply Kd.R_drew)); exact HO159.out) hb); have n1_ := Aside0.mk (Kd.R_below (by (with_reducible repeat (first | apply Kd.R_alloc | apply Kd.R_drewN | apply Kd.R_drew)); exact HO163.out) hb); have n2_ := Aside0.mk (Kd.R_elder' (by (with_reducible repeat (first | apply Kd.R_alloc | apply Kd.R_drewN | apply Kd.R_drew)); exact HO165.out) (Kd.R_base ho65) hb); have n3_ := Aside0.mk (Kd.R_lower (Kd.R_new' ho65 (Kd.R_lt (by (with_reducible repeat (first | apply Kd.R_alloc | apply Kd.R_drewN | apply Kd.R_drew)); exact HO165.out))) (below_size (by repeat (first | (with_reducible first | exact HB.out | apply below_alloc | apply pw_below_drewN | apply below_drew1) | exact HB.out)))); have n4_ := Aside0.mk (below_step (by repeat (first | (with_reducible first | exact HB.out | apply below_alloc | apply pw_below_drewN | apply below_drew1) | exact HB.out)) hb); clear HO159; clear HO163; clear HO165; clear HB; have HO159 := n0_; have HO163 := n1_; have HO165 := n2_; have HO168 := n3_; have HB := n4_; clear n0_ n1_ n2_ n3_ n4_; clear hb ho65; obtain ⟨Ao66, co66, eo66⟩ := Kd.R_slice HO165.out; subst eo66; obtain ⟨Ao67, co67, eo67⟩ := Kd.R_slice HO168.out; subst eo67) | (go_at_call 19; (with_reducible refine (ambidexterref11_Faults.calls k _ _ t161 _ _ y166 t169 _ ?side1 ?side2 ?side3 ?side4 A59.out).mono ?_); (case side1 => repeat (first | exact (Kd.R_reads' HO165.out).2.2 | (with_reducible refine Kd.C_alloc ?_ _) | (with_reducible refine Kd.C_drewN ?_ _) | (with_reducible refine Kd.C_drew ?_))); (case side2 => exact (Kd.R_reads' HO165.out).2.1); (case side3 => repeat (first | exact (Kd.R_reads' HO168.out).2.2 | (with_reducible refine Kd.C_alloc ?_ _) | (with_reducible refine Kd.C_drewN ?_ _) | (with_reducible refine Kd.C_drew ?_))); (case side4 => exact (Kd.R_reads' HO168.out).2.1); rintro e w' ⟨rfl, ⟨nd, rfl⟩⟩; (try first | exact ⟨rfl, _, World.drewN_drewN _ _ _⟩ | exact ⟨rfl, _, Eq.trans (World.drewN_drewN _ _ _) (congrArg (World.drewN _) (Nat.add_assoc _ _ _))⟩)))
         repeat (go_quiet (first | (go_at_call 9; (with_reducible refine (ambidexterlaw11_head.calls  true _ A2.out (HGL.out.below (by repeat (first | (with_reducible first | exact HB.out | apply below_alloc | apply pw_below_drewN | apply below_drew1) | exact HB.out)))).mono ?_); rintro e w60 ⟨rfl, hb⟩; have n0_ := Aside0.mk (below_step (by repeat (first | (with_reducible first | exact HB.out | apply below_alloc | apply pw_below_drewN | apply below_drew1) | exact HB.out)) hb); clear HB; have HB := n0_; clear n0_; (try clear hb); (try clear hb2); (try clear hk); (try clear hi)) | (go_at_call 17; (with_reducible refine (lexer_Lex.calls a0 t155 t156 t157 _ A5.out).mono ?_); rintro e w61 ⟨v158, rfl, ho0, hb⟩; have n0_ := Aside0.mk (Kd.R_lower ho0 (below_size (by repeat (first | (with_reducible first | exact HB.out | apply below_alloc | apply pw_below_drewN | apply below_drew1) | exact HB.out)))); have n1_ := Aside0.mk (below_step (by repeat (first | (with_reducible first | exact HB.out | apply below_alloc | apply pw_below_drewN | apply below_drew1) | exact HB.out)) hb); clear HB; have HO159 := n0_; have HB := n1_; clear n0_ n1_; (try clear hb); (try clear hb2); (try clear hk); (try clear hi); (try clear ho0)) | (go_at_call 12; (with_reducible refine (parser_Parse.calls k a0 t160 t161 _ A6.out (HGL.out.below (by repeat (first | (with_reducible first | exact HB.out | apply below_alloc | apply pw_below_drewN | apply below_drew1) | exact HB.out)))).mono ?_); rintro e w62 ⟨v162, v164, rfl, ho0, ho1, hb⟩; have n0_ := Aside0.mk (Kd.R_below (by (with_reducible repeat (first | apply Kd.R_alloc | apply Kd.R_drewN | apply Kd.R_drew)); exact HO159.out) hb); have n1_ := Aside0.mk (Kd.R_lower ho0 (below_size (by repeat (first | (with_reducible first | exact HB.out | apply below_alloc | apply pw_below_drewN | apply below_drew1) | exact HB.out)))); have n2_ := Aside0.mk (Kd.R_lower ho1 (below_size (by repeat (first | (with_reducible first | exact HB.out | apply below_alloc | apply pw_below_drewN | apply below_drew1) | exact HB.out)))); have n3_ := Aside0.mk (below_step (by repeat (first | (with_reducible first | exact HB.out | apply below_alloc | apply pw_below_drewN | apply below_drew1) | exact HB.out)) hb); clear HO159; clear HB; have HO159 := n0_; have HO163 := n1_; have HO165 := n2_; have HB := n3_; clear n0_ n1_ n2_ n3_; (try clear hb); (try clear hb2); (try clear hk); (try clear hi); (try clear ho0); (try clear ho1); obtain ⟨Ao63, co63, eo63⟩ := Kd.R_slice HO163.out; subst eo63) | ((with_reducible refine gate_dst (N := 43) rfl ?_); (try (refine gate_guard (by rfl) ?_; dsimp only)); refine Kd.R_lit k35 _ 35 ?hg (N := 43) ?hd (xs := ([(⟨t156, t157⟩ : S35)] : List (S35))) (inner := [.int .i64 t156, .int .i64 t157]) (ok := fun _ => True) (okp := fun _ => True) ?hr ?hp (fun _ hk => hk) trivial (Below.refl _ _) (Nat.le_refl _) (by simp) ?_; (case hd => rfl); (case hg => rfl); (case hr => first | (go_simp; done) | (go_simp; rfl)); (case hp => exact (Reps.c2 (show Kd.M k35 _ _ _ (⟨t156, t157⟩ : S35) [.int .i64 t156, .int .i64 t157] from (k35_mkM _ _ _ (⟨t156, t157⟩ : S35) )) (Reps.none _ _))); intro v167 w64 ho65 hb hg_ hnew_; clear hg_ hnew_; (first | rw [← Ny166.out] at ho65 | (simp only [Int.reduceToNat] at ho65; rw [← Ny166.out] at ho65)); have n0_ := Aside0.mk (Kd.R_below (by (with_reducible repeat (first | apply Kd.R_alloc | apply Kd.R_drewN | apply Kd.R_drew)); exact HO159.out) hb); have n1_ := Aside0.mk (Kd.R_below (by (with_reducible repeat (first | apply Kd.R_alloc | apply Kd.R_drewN | apply Kd.R_drew)); exact HO163.out) hb); have n2_ := Aside0.mk (Kd.R_elder' (by (with_reducible repeat (first | apply Kd.R_alloc | apply Kd.R_drewN | apply Kd.R_drew)); exact HO165.out) (Kd.R_base ho65) hb); have n3_ := Aside0.mk (Kd.R_lower (Kd.R_new' ho65 (Kd.R_lt (by (with_reducible repeat (first | apply Kd.R_alloc | apply Kd.R_drewN | apply Kd.R_drew)); exact HO165.out))) (below_size (by repeat (first | (with_reducible first | exact HB.out | apply below_alloc | apply pw_below_drewN | apply below_drew1) | exact HB.out)))); have n4_ := Aside0.mk (below_step (by repeat (first | (with_reducible first | exact HB.out | apply below_alloc | apply pw_below_drewN | apply below_drew1) | exact HB.out)) hb); clear HO159; clear HO163; clear HO165; clear HB; have HO159 := n0_; have HO163 := n1_; have HO165 := n2_; have HO168 := n3_; have HB := n4_; clear n0_ n1_ n2_ n3_ n4_; clear hb ho65; obtain ⟨Ao66, co66, eo66⟩ := Kd.R_slice HO165.out; subst eo66; obtain ⟨Ao67, co67, eo67⟩ := Kd.R_slice HO168.out; subst eo67) | (go_at_call 19; (with_reducible refine (ambidexterref11_Faults.calls k _ _ t161 _ _ y166 t169 _ ?side1 ?side2 ?side3 ?side4 A59.out).mono ?_); (case side1 => repeat (first | exact (Kd.R_reads' HO165.out).2.2 | (with_reducible refine Kd.C_alloc ?_ _) | (with_reducible refine Kd.C_drewN ?_ _) | (with_reducible refine Kd.C_drew ?_))); (case side2 => exact (Kd.R_reads' HO165.out).2.1); (case side3 => repeat (first | exact (Kd.R_reads' HO168.out).2.2 | (with_reducible refine Kd.C_alloc ?_ _) | (with_reducible refine Kd.C_drewN ?_ _) | (with_reducible refine Kd.C_drew ?_))); (case side4 => exact (Kd.R_reads' HO168.out).2.1); rintro e w' ⟨rfl, ⟨nd, rfl⟩⟩; (try first | exact ⟨rfl, _, World.drewN_drewN _ _ _⟩ | exact ⟨rfl, _, Eq.trans (World.drewN_drewN _ _ _) (congrArg (World.drewN _) (Nat.add_assoc _ _ _))⟩))); try go_wp2_with (first | (go_at_call 9; (with_reducible refine (ambidexterlaw11_head.calls  true _ A2.out (HGL.out.below (by repeat (first | (with_reducible first | exact HB.out | apply below_alloc | apply pw_below_drewN | apply below_drew1) | exact HB.out)))).mono ?_); rintro e w60 ⟨rfl, hb⟩; have n0_ := Aside0.mk (below_step (by repeat (first | (with_reducible first | exact HB.out | apply below_alloc | apply pw_below_drewN | apply below_drew1) | exact HB.out)) hb); clear HB; have HB := n0_; clear n0_; (try clear hb); (try clear hb2); (try clear hk); (try clear hi)) | (go_at_call 17; (with_reducible refine (lexer_Lex.calls a0 t155 t156 t157 _ A5.out).mono ?_); rintro e w61 ⟨v158, rfl, ho0, hb⟩; have n0_ := Aside0.mk (Kd.R_lower ho0 (below_size (by repeat (first | (with_reducible first | exact HB.out | apply below_alloc | apply pw_below_drewN | apply below_drew1) | exact HB.out)))); have n1_ := Aside0.mk (below_step (by repeat (first | (with_reducible first | exact HB.out | apply below_alloc | apply pw_below_drewN | apply below_drew1) | exact HB.out)) hb); clear HB; have HO159 := n0_; have HB := n1_; clear n0_ n1_; (try clear hb); (try clear hb2); (try clear hk); (try clear hi); (try clear ho0)) | (go_at_call 12; (with_reducible refine (parser_Parse.calls k a0 t160 t161 _ A6.out (HGL.out.below (by repeat (first | (with_reducible first | exact HB.out | apply below_alloc | apply pw_below_drewN | apply below_drew1) | exact HB.out)))).mono ?_); rintro e w62 ⟨v162, v164, rfl, ho0, ho1, hb⟩; have n0_ := Aside0.mk (Kd.R_below (by (with_reducible repeat (first | apply Kd.R_alloc | apply Kd.R_drewN | apply Kd.R_drew)); exact HO159.out) hb); have n1_ := Aside0.mk (Kd.R_lower ho0 (below_size (by repeat (first | (with_reducible first | exact HB.out | apply below_alloc | apply pw_below_drewN | apply below_drew1) | exact HB.out)))); have n2_ := Aside0.mk (Kd.R_lower ho1 (below_size (by repeat (first | (with_reducible first | exact HB.out | apply below_alloc | apply pw_below_drewN | apply below_drew1) | exact HB.out)))); have n3_ := Aside0.mk (below_step (by repeat (first | (with_reducible first | exact HB.out | apply below_alloc | apply pw_below_drewN | apply below_drew1) | exact HB.out)) hb); clear HO159; clear HB; have HO159 := n0_; have HO163 := n1_; have HO165 := n2_; have HB := n3_; clear n0_ n1_ n2_ n3_; (try clear hb); (try clear hb2); (try clear hk); (try clear hi); (try clear ho0); (try clear ho1); obtain ⟨Ao63, co63, eo63⟩ := Kd.R_slice HO163.out; subst eo63) | ((with_reducible refine gate_dst (N := 43) rfl ?_); (try (refine gate_guard (by rfl) ?_; dsimp only)); refine Kd.R_lit k35 _ 35 ?hg (N := 43) ?hd (xs := ([(⟨t156, t157⟩ : S35)] : List (S35))) (inner := [.int .i64 t156, .int .i64 t157]) (ok := fun _ => True) (okp := fun _ => True) ?hr ?hp (fun _ hk => hk) trivial (Below.refl _ _) (Nat.le_refl _) (by simp) ?_; (case hd => rfl); (case hg => rfl); (case hr => first | (go_simp; done) | (go_simp; rfl)); (case hp => exact (Reps.c2 (show Kd.M k35 _ _ _ (⟨t156, t157⟩ : S35) [.int .i64 t156, .int .i64 t157] from (k35_mkM _ _ _ (⟨t156, t157⟩ : S35) )) (Reps.none _ _))); intro v167 w64 ho65 hb hg_ hnew_; clear hg_ hnew_; (first | rw [← Ny166.out] at ho65 | (simp only [Int.reduceToNat] at ho65; rw [← Ny166.out] at ho65)); have n0_ := Aside0.mk (Kd.R_below (by (with_reducible repeat (first | apply Kd.R_alloc | apply Kd.R_drewN | apply Kd.R_drew)); exact HO159.out) hb); have n1_ := Aside0.mk (Kd.R_below (by (with_reducible repeat (first | apply Kd.R_alloc | apply Kd.R_drewN | apply Kd.R_drew)); exact HO163.out) hb); have n2_ := Aside0.mk (Kd.R_elder' (by (with_reducible repeat (first | apply Kd.R_alloc | apply Kd.R_drewN | apply Kd.R_drew)); exact HO165.out) (Kd.R_base ho65) hb); have n3_ := Aside0.mk (Kd.R_lower (Kd.R_new' ho65 (Kd.R_lt (by (with_reducible repeat (first | apply Kd.R_alloc | apply Kd.R_drewN | apply Kd.R_drew)); exact HO165.out))) (below_size (by repeat (first | (with_reducible first | exact HB.out | apply below_alloc | apply pw_below_drewN | apply below_drew1) | exact HB.out)))); have n4_ := Aside0.mk (below_step (by repeat (first | (with_reducible first | exact HB.out | apply below_alloc | apply pw_below_drewN | apply below_drew1) | exact HB.out)) hb); clear HO159; clear HO163; clear HO165; clear HB; have HO159 := n0_; have HO163 := n1_; have HO165 := n2_; have HO168 := n3_; have HB := n4_; clear n0_ n1_ n2_ n3_ n4_; clear hb ho65; obtain ⟨Ao66, co66, eo66⟩ := Kd.R_slice HO165.out; subst eo66; obtain ⟨Ao67, co67, eo67⟩ := Kd.R_slice HO168.out; subst eo67) | (go_at_call 19; (with_reducible refine (ambidexterref11_Faults.calls k _ _ t161 _ _ y166 t169 _ ?side1 ?side2 ?side3 ?side4 A59.out).mono ?_); (case side1 => repeat (first | exact (Kd.R_reads' HO165.out).2.2 | (with_reducible refine Kd.C_alloc ?_ _) | (with_reducible refine Kd.C_drewN ?_ _) | (with_reducible refine Kd.C_drew ?_))); (case side2 => exact (Kd.R_reads' HO165.out).2.1); (case side3 => repeat (first | exact (Kd.R_reads' HO168.out).2.2 | (with_reducible refine Kd.C_alloc ?_ _) | (with_reducible refine Kd.C_drewN ?_ _) | (with_reducible refine Kd.C_drew ?_))); (case side4 => exact (Kd.R_reads' HO168.out).2.1); rintro e w' ⟨rfl, ⟨nd, rfl⟩⟩; (try first | exact ⟨rfl, _, World.drewN_drewN _ _ _⟩ | exact ⟨rfl, _, Eq.trans (World.drewN_drewN _ _ _) (congrArg (World.drewN _) (Nat.add_assoc _ _ _))⟩))))
         go_ret
         exact ⟨by first | rfl | (simp [errW_none, errW_some] <;> rfl) | (simp [*, errW_none, errW_some] <;> rfl), by repeat (first | (with_reducible first | exact HB.out | apply below_alloc | apply pw_below_drewN | apply below_drew1) | exact HB.out)⟩
       · rw [if_neg c58] at H
         have c58b0 : ((t160.length : Int) == 0) = false := beq_eq_false_iff_ne.mpr c58
         have c58b1 : ((t160.length : Int) != 0) = true := bne_iff_ne.mpr c58
         have c58b2 : ¬ (t160 = []) := fun h_ => c58 (by rw [h_]; rfl)
         obtain rfl := Option.some.inj H
         go_enter Tryd.func8, Tryd.ntmps8
         go_wp2_with (first | (go_at_call 9; (with_reducible refine (ambidexterlaw11_head.calls  true _ A2.out (HGL.out.below (by repeat (first | (with_reducible first | exact HB.out | apply below_alloc | apply pw_below_drewN | apply below_drew1) | exact HB.out)))).mono ?_); rintro e w68 ⟨rfl, hb⟩; have n0_ := Aside0.mk (below_step (by repeat (first | (with_reducible first | exact HB.out | apply below_alloc | apply pw_below_drewN | apply below_drew1) | exact HB.out)) hb); clear HB; have HB := n0_; clear n0_; (try clear hb); (try clear hb2); (try clear hk); (try clear hi)) | (go_at_call 17; (with_reducible refine (lexer_Lex.calls a0 t155 t156 t157 _ A5.out).mono ?_); rintro e w69 ⟨v158, rfl, ho0, hb⟩; have n0_ := Aside0.mk (Kd.R_lower ho0 (below_size (by repeat (first | (with_reducible first | exact HB.out | apply below_alloc | apply pw_below_drewN | apply below_drew1) | exact HB.out)))); have n1_ := Aside0.mk (below_step (by repeat (first | (with_reducible first | exact HB.out | apply below_alloc | apply pw_below_drewN | apply below_drew1) | exact HB.out)) hb); clear HB; have HO159 := n0_; have HB := n1_; clear n0_ n1_; (try clear hb); (try clear hb2); (try clear hk); (try clear hi); (try clear ho0)) | (go_at_call 12; (with_reducible refine (parser_Parse.calls k a0 t160 t161 _ A6.out (HGL.out.below (by repeat (first | (with_reducible first | exact HB.out | apply below_alloc | apply pw_below_drewN | apply below_drew1) | exact HB.out)))).mono ?_); rintro e w70 ⟨v162, v164, rfl, ho0, ho1, hb⟩; have n0_ := Aside0.mk (Kd.R_below (by (with_reducible repeat (first | apply Kd.R_alloc | apply Kd.R_drewN | apply Kd.R_drew)); exact HO159.out) hb); have n1_ := Aside0.mk (Kd.R_lower ho0 (below_size (by repeat (first | (with_reducible first | exact HB.out | apply below_alloc | apply pw_below_drewN | apply below_drew1) | exact HB.out)))); have n2_ := Aside0.mk (Kd.R_lower ho1 (below_size (by repeat (first | (with_reducible first | exact HB.out | apply below_alloc | apply pw_below_drewN | apply below_drew1) | exact HB.out)))); have n3_ := Aside0.mk (below_step (by repeat (first | (with_reducible first | exact HB.out | apply below_alloc | apply pw_below_drewN | apply below_drew1) | exact HB.out)) hb); clear HO159; clear HB; have HO159 := n0_; have HO163 := n1_; have HO165 := n2_; have HB := n3_; clear n0_ n1_ n2_ n3_; (try clear hb); (try clear hb2); (try clear hk); (try clear hi); (try clear ho0); (try clear ho1); obtain ⟨Ao71, co71, eo71⟩ := Kd.R_slice HO163.out; subst eo71))
         repeat (go_quiet (first | (go_at_call 9; (with_reducible refine (ambidexterlaw11_head.calls  true _ A2.out (HGL.out.below (by repeat (first | (with_reducible first | exact HB.out | apply below_alloc | apply pw_below_drewN | apply below_drew1) | exact HB.out)))).mono ?_); rintro e w68 ⟨rfl, hb⟩; have n0_ := Aside0.mk (below_step (by repeat (first | (with_reducible first | exact HB.out | apply below_alloc | apply pw_below_drewN | apply below_drew1) | exact HB.out)) hb); clear HB; have HB := n0_; clear n0_; (try clear hb); (try clear hb2); (try clear hk); (try clear hi)) | (go_at_call 17; (with_reducible refine (lexer_Lex.calls a0 t155 t156 t157 _ A5.out).mono ?_); rintro e w69 ⟨v158, rfl, ho0, hb⟩; have n0_ := Aside0.mk (Kd.R_lower ho0 (below_size (by repeat (first | (with_reducible first | exact HB.out | apply below_alloc | apply pw_below_drewN | apply below_drew1) | exact HB.out)))); have n1_ := Aside0.mk (below_step (by repeat (first | (with_reducible first | exact HB.out | apply below_alloc | apply pw_below_drewN | apply below_drew1) | exact HB.out)) hb); clear HB; have HO159 := n0_; have HB := n1_; clear n0_ n1_; (try clear hb); (try clear hb2); (try clear hk); (try clear hi); (try clear ho0)) | (go_at_call 12; (with_reducible refine (parser_Parse.calls k a0 t160 t161 _ A6.out (HGL.out.below (by repeat (first | (with_reducible first | exact HB.out | apply below_alloc | apply pw_below_drewN | apply below_drew1) | exact HB.out)))).mono ?_); rintro e w70 ⟨v162, v164, rfl, ho0, ho1, hb⟩; have n0_ := Aside0.mk (Kd.R_below (by (with_reducible repeat (first | apply Kd.R_alloc | apply Kd.R_drewN | apply Kd.R_drew)); exact HO159.out) hb); have n1_ := Aside0.mk (Kd.R_lower ho0 (below_size (by repeat (first | (with_reducible first | exact HB.out | apply below_alloc | apply pw_below_drewN | apply below_drew1) | exact HB.out)))); have n2_ := Aside0.mk (Kd.R_lower ho1 (below_size (by repeat (first | (with_reducible first | exact HB.out | apply below_alloc | apply pw_below_drewN | apply below_drew1) | exact HB.out)))); have n3_ := Aside0.mk (below_step (by repeat (first | (with_reducible first | exact HB.out | apply below_alloc | apply pw_below_drewN | apply below_drew1) | exact HB.out)) hb); clear HO159; clear HB; have HO159 := n0_; have HO163 := n1_; have HO165 := n2_; have HB := n3_; clear n0_ n1_ n2_ n3_; (try clear hb); (try clear hb2); (try clear hk); (try clear hi); (try clear ho0); (try clear ho1); obtain ⟨Ao71, co71, eo71⟩ := Kd.R_slice HO163.out; subst eo71)); try go_wp2_with (first | (go_at_call 9; (with_reducible refine (ambidexterlaw11_head.calls  true _ A2.out (HGL.out.below (by repeat (first | (with_reducible first | exact HB.out | apply below_alloc | apply pw_below_drewN | apply below_drew1) | exact HB.out)))).mono ?_); rintro e w68 ⟨rfl, hb⟩; have n0_ := Aside0.mk (below_step (by repeat (first | (with_reducible first | exact HB.out | apply below_alloc | apply pw_below_drewN | apply below_drew1) | exact HB.out)) hb); clear HB; have HB := n0_; clear n0_; (try clear hb); (try clear hb2); (try clear hk); (try clear hi)) | (go_at_call 17; (with_reducible refine (lexer_Lex.calls a0 t155 t156 t157 _ A5.out).mono ?_); rintro e w69 ⟨v158, rfl, ho0, hb⟩; have n0_ := Aside0.mk (Kd.R_lower ho0 (below_size (by repeat (first | (with_reducible first | exact HB.out | apply below_alloc | apply pw_below_drewN | apply below_drew1) | exact HB.out)))); have n1_ := Aside0.mk (below_step (by repeat (first | (with_reducible first | exact HB.out | apply below_alloc | apply pw_below_drewN | apply below_drew1) | exact HB.out)) hb); clear HB; have HO159 := n0_; have HB := n1_; clear n0_ n1_; (try clear hb); (try clear hb2); (try clear hk); (try clear hi); (try clear ho0)) | (go_at_call 12; (with_reducible refine (parser_Parse.calls k a0 t160 t161 _ A6.out (HGL.out.below (by repeat (first | (with_reducible first | exact HB.out | apply below_alloc | apply pw_below_drewN | apply below_drew1) | exact HB.out)))).mono ?_); rintro e w70 ⟨v162, v164, rfl, ho0, ho1, hb⟩; have n0_ := Aside0.mk (Kd.R_below (by (with_reducible repeat (first | apply Kd.R_alloc | apply Kd.R_drewN | apply Kd.R_drew)); exact HO159.out) hb); have n1_ := Aside0.mk (Kd.R_lower ho0 (below_size (by repeat (first | (with_reducible first | exact HB.out | apply below_alloc | apply pw_below_drewN | apply below_drew1) | exact HB.out)))); have n2_ := Aside0.mk (Kd.R_lower ho1 (below_size (by repeat (first | (with_reducible first | exact HB.out | apply below_alloc | apply pw_below_drewN | apply below_drew1) | exact HB.out)))); have n3_ := Aside0.mk (below_step (by repeat (first | (with_reducible first | exact HB.out | apply below_alloc | apply pw_below_drewN | apply below_drew1) | exact HB.out)) hb); clear HO159; clear HB; have HO159 := n0_; have HO163 := n1_; have HO165 := n2_; have HB := n3_; clear n0_ n1_ n2_ n3_; (try clear hb); (try clear hb2); (try clear hk); (try clear hi); (try clear ho0); (try clear ho1); obtain ⟨Ao71, co71, eo71⟩ := Kd.R_slice HO163.out; subst eo71)))
         go_ret
         exact ⟨by first | rfl | (simp [errW_none, errW_some] <;> rfl) | (simp [*, errW_none, errW_some] <;> rfl), by repeat (first | (with_reducible first | exact HB.out | apply below_alloc | apply pw_below_drewN | apply below_drew1) | exact HB.out)⟩
     · replace c57 := Bool.eq_false_iff.mpr c57
       subst c57
       have H1 : (some false) = some r := by rw [if_neg (show ¬ (false = true) by decide)] at H; exact H
       clear H
       have H := H1
       clear H1
       obtain rfl := Option.some.inj H
       go_enter Tryd.func8, Tryd.ntmps8
       go_wp2_with (first | (go_at_call 9; (with_reducible refine (ambidexterlaw11_head.calls  false _ A2.out (HGL.out.below (by repeat (first | (with_reducible first | exact HB.out | apply below_alloc | apply pw_below_drewN | apply below_drew1) | exact HB.out)))).mono ?_); rintro e w72 ⟨rfl, hb⟩; have n0_ := Aside0.mk (below_step (by repeat (first | (with_reducible first | exact HB.out | apply below_alloc | apply pw_below_drewN | apply below_drew1) | exact HB.out)) hb); clear HB; have HB := n0_; clear n0_; (try clear hb); (try clear hb2); (try clear hk); (try clear hi)) | (go_at_call 17; (with_reducible refine (lexer_Lex.calls a0 t155 t156 t157 _ A5.out).mono ?_); rintro e w73 ⟨v158, rfl, ho0, hb⟩; have n0_ := Aside0.mk (Kd.R_lower ho0 (below_size (by repeat (first | (with_reducible first | exact HB.out | apply below_alloc | apply pw_below_drewN | apply below_drew1) | exact HB.out)))); have n1_ := Aside0.mk (below_step (by repeat (first | (with_reducible first | exact HB.out | apply below_alloc | apply pw_below_drewN | apply below_drew1) | exact HB.out)) hb); clear HB; have HO159 := n0_; have HB := n1_; clear n0_ n1_; (try clear hb); (try clear hb2); (try clear hk); (try clear hi); (try clear ho0)) | (go_at_call 12; (with_reducible refine (parser_Parse.calls k a0 t160 t161 _ A6.out (HGL.out.below (by repeat (first | (with_reducible first | exact HB.out | apply below_alloc | apply pw_below_drewN | apply below_drew1) | exact HB.out)))).mono ?_); rintro e w74 ⟨v162, v164, rfl, ho0, ho1, hb⟩; have n0_ := Aside0.mk (Kd.R_below (by (with_reducible repeat (first | apply Kd.R_alloc | apply Kd.R_drewN | apply Kd.R_drew)); exact HO159.out) hb); have n1_ := Aside0.mk (Kd.R_lower ho0 (below_size (by repeat (first | (with_reducible first | exact HB.out | apply below_alloc | apply pw_below_drewN | apply below_drew1) | exact HB.out)))); have n2_ := Aside0.mk (Kd.R_lower ho1 (below_size (by repeat (first | (with_reducible first | exact HB.out | apply below_alloc | apply pw_below_drewN | apply below_drew1) | exact HB.out)))); have n3_ := Aside0.mk (below_step (by repeat (first | (with_reducible first | exact HB.out | apply below_alloc | apply pw_below_drewN | apply below_drew1) | exact HB.out)) hb); clear HO159; clear HB; have HO159 := n0_; have HO163 := n1_; have HO165 := n2_; have HB := n3_; clear n0_ n1_ n2_ n3_; (try clear hb); (try clear hb2); (try clear hk); (try clear hi); (try clear ho0); (try clear ho1)))
       repeat (go_quiet (first | (go_at_call 9; (with_reducible refine (ambidexterlaw11_head.calls  false _ A2.out (HGL.out.below (by repeat (first | (with_reducible first | exact HB.out | apply below_alloc | apply pw_below_drewN | apply below_drew1) | exact HB.out)))).mono ?_); rintro e w72 ⟨rfl, hb⟩; have n0_ := Aside0.mk (below_step (by repeat (first | (with_reducible first | exact HB.out | apply below_alloc | apply pw_below_drewN | apply below_drew1) | exact HB.out)) hb); clear HB; have HB := n0_; clear n0_; (try clear hb); (try clear hb2); (try clear hk); (try clear hi)) | (go_at_call 17; (with_reducible refine (lexer_Lex.calls a0 t155 t156 t157 _ A5.out).mono ?_); rintro e w73 ⟨v158, rfl, ho0, hb⟩; have n0_ := Aside0.mk (Kd.R_lower ho0 (below_size (by repeat (first | (with_reducible first | exact HB.out | apply below_alloc | apply pw_below_drewN | apply below_drew1) | exact HB.out)))); have n1_ := Aside0.mk (below_step (by repeat (first | (with_reducible first | exact HB.out | apply below_alloc | apply pw_below_drewN | apply below_drew1) | exact HB.out)) hb); clear HB; have HO159 := n0_; have HB := n1_; clear n0_ n1_; (try clear hb); (try clear hb2); (try clear hk); (try clear hi); (try clear ho0)) | (go_at_call 12; (with_reducible refine (parser_Parse.calls k a0 t160 t161 _ A6.out (HGL.out.below (by repeat (first | (with_reducible first | exact HB.out | apply below_alloc | apply pw_below_drewN | apply below_drew1) | exact HB.out)))).mono ?_); rintro e w74 ⟨v162, v164, rfl, ho0, ho1, hb⟩; have n0_ := Aside0.mk (Kd.R_below (by (with_reducible repeat (first | apply Kd.R_alloc | apply Kd.R_drewN | apply Kd.R_drew)); exact HO159.out) hb); have n1_ := Aside0.mk (Kd.R_lower ho0 (below_size (by repeat (first | (with_reducible first | exact HB.out | apply below_alloc | apply pw_below_drewN | apply below_drew1) | exact HB.out)))); have n2_ := Aside0.mk (Kd.R_lower ho1 (below_size (by repeat (first | (with_reducible first | exact HB.out | apply below_alloc | apply pw_below_drewN | apply below_drew1) | exact HB.out)))); have n3_ := Aside0.mk (below_step (by repeat (first | (with_reducible first | exact HB.out | apply below_alloc | apply pw_below_drewN | apply below_drew1) | exact HB.out)) hb); clear HO159; clear HB; have HO159 := n0_; have HO163 := n1_; have HO165 := n2_; have HB := n3_; clear n0_ n1_ n2_ n3_; (try clear hb); (try clear hb2); (try clear hk); (try clear hi); (try clear ho0); (try clear ho1))); try go_wp2_with (first | (go_at_call 9; (with_reducible refine (ambidexterlaw11_head.calls  false _ A2.out (HGL.out.below (by repeat (first | (with_reducible first | exact HB.out | apply below_alloc | apply pw_below_drewN | apply below_drew1) | exact HB.out)))).mono ?_); rintro e w72 ⟨rfl, hb⟩; have n0_ := Aside0.mk (below_step (by repeat (first | (with_reducible first | exact HB.out | apply below_alloc | apply pw_below_drewN | apply below_drew1) | exact HB.out)) hb); clear HB; have HB := n0_; clear n0_; (try clear hb); (try clear hb2); (try clear hk); (try clear hi)) | (go_at_call 17; (with_reducible refine (lexer_Lex.calls a0 t155 t156 t157 _ A5.out).mono ?_); rintro e w73 ⟨v158, rfl, ho0, hb⟩; have n0_ := Aside0.mk (Kd.R_lower ho0 (below_size (by repeat (first | (with_reducible first | exact HB.out | apply below_alloc | apply pw_below_drewN | apply below_drew1) | exact HB.out)))); have n1_ := Aside0.mk (below_step (by repeat (first | (with_reducible first | exact HB.out | apply below_alloc | apply pw_below_drewN | apply below_drew1) | exact HB.out)) hb); clear HB; have HO159 := n0_; have HB := n1_; clear n0_ n1_; (try clear hb); (try clear hb2); (try clear hk); (try clear hi); (try clear ho0)) | (go_at_call 12; (with_reducible refine (parser_Parse.calls k a0 t160 t161 _ A6.out (HGL.out.below (by repeat (first | (with_reducible first | exact HB.out | apply below_alloc | apply pw_below_drewN | apply below_drew1) | exact HB.out)))).mono ?_); rintro e w74 ⟨v162, v164, rfl, ho0, ho1, hb⟩; have n0_ := Aside0.mk (Kd.R_below (by (with_reducible repeat (first | apply Kd.R_alloc | apply Kd.R_drewN | apply Kd.R_drew)); exact HO159.out) hb); have n1_ := Aside0.mk (Kd.R_lower ho0 (below_size (by repeat (first | (with_reducible first | exact HB.out | apply below_alloc | apply pw_below_drewN | apply below_drew1) | exact HB.out)))); have n2_ := Aside0.mk (Kd.R_lower ho1 (below_size (by repeat (first | (with_reducible first | exact HB.out | apply below_alloc | apply pw_below_drewN | apply below_drew1) | exact HB.out)))); have n3_ := Aside0.mk (below_step (by repeat (first | (with_reducible first | exact HB.out | apply below_alloc | apply pw_below_drewN | apply below_drew1) | exact HB.out)) hb); clear HO159; clear HB; have HO159 := n0_; have HO163 := n1_; have HO165 := n2_; have HB := n3_; clear n0_ n1_ n2_ n3_; (try clear hb); (try clear hb2); (try clear hk); (try clear hi); (try clear ho0); (try clear ho1))))
       go_ret
       exact ⟨by first | rfl | (simp [errW_none, errW_some] <;> rfl) | (simp [*, errW_none, errW_some] <;> rfl), by repeat (first | (with_reducible first | exact HB.out | apply below_alloc | apply pw_below_drewN | apply below_drew1) | exact HB.out)⟩
def ambidexterlaw11_ParserOffsetsIncrease.Pure : Prop := ∀ (a0 : ByteArray), a0.size ≤ 140737488351232 → ∃ k, ambidexterlaw11_ParserOffsetsIncrease.f k a0 = some true
theorem ambidexterlaw11_ParserOffsetsIncrease.walk (P : ambidexterlaw11_ParserOffsetsIncrease.Pure) (a0 : ByteArray) (w : World) (w0 : a0.size ≤ 140737488351232) (hG : Glob w) :
 Calls Tryd.prog 8 #[.string a0] w fun e w' => e = .returned (.bool true) ∧ Below w.heap.size w w' := by
 obtain ⟨k, h⟩ := P a0 w0
 refine (ambidexterlaw11_ParserOffsetsIncrease.calls k a0 true w h hG).mono ?_
 rintro e w' ⟨rfl, hd⟩
 exact ⟨rfl, hd⟩
end Go.Proofs.YtonhcfecfifghaaDoor.PPx
namespace Go.Proofs.YtonhcfecfifghaaDoor.parserOffsetsIncrease
open Go.ChangeShapes Go.WideShapes Go.ChangeAt Go.RowKit
open Go.ChangeMaps (open_string shut_string)
set_option linter.unusedVariables false
theorem own : ownKnob Tryd.prog.godebug = none := by kernel_rfl
theorem plainLaid {W : World} (h : laidMetH Tryd.prog Rows.parserOffsetsIncreaseRow.laid W) : PPx.Glob W := by
 rw [MakeChecks.laidMetH_plain _ _ _ (by kernel_rfl)] at h
 exact PPx.glob_of h
theorem door_met (os : Os) (args : Array Value) : laidMetH Tryd.prog Rows.parserOffsetsIncreaseRow.laid ((World.doorLaid Tryd.prog 400 os).forCall (fun _ _ => 0) ⟨#[], args, []⟩).memory :=
 laidMetH_of_parts3 (fuel := 8) (laidMet_of_run' 8 (by kernel_rfl) (by kernel_rfl)) (by kernel_rfl) (by kernel_rfl)
set_option maxRecDepth 100000 in
theorem lifted (PU : PPx.ambidexterlaw11_ParserOffsetsIncrease.Pure) (os : Os) (started : os.Started) (H : Type) (enc : TypeId × Value → H) :
 ReturnsInHanded {} Tryd.checked os 8 .any (fun w args => (Rows.parserOffsetsIncreaseSpec.pre enc Tryd.prog Tryd.f8 [] false w args ∧ laidMetH Tryd.prog Rows.parserOffsetsIncreaseRow.laid w) ∧ sizedMet enc Tryd.prog Tryd.f8 (OpenSpec.ofChange Rows.parserOffsetsIncreaseSpec) false w args)
  (Rows.parserOffsetsIncreaseSpec.post enc Tryd.prog Tryd.f8 false true false false) := by
 refine returnsInHanded_of_change_and (C := Tryd.checked) (X := fun w _ => laidMetH Tryd.prog Rows.parserOffsetsIncreaseRow.laid w) (fun _ _ _ hh h => h.of_heap hh) own started (by kernel_rfl) Tryd.func8
  (ChangeSpec.witness_shaped (enc := enc) (C := Tryd.checked) (os := os) (X := fun w _ => laidMetH Tryd.prog Rows.parserOffsetsIncreaseRow.laid w) false (World.doorLaid Tryd.prog 400 os) #[.string ByteArray.empty] 8 rfl (World.shaped_of_RefB (by kernel_rfl) (by kernel_rfl)) (by kernel_rfl) (by kernel_rfl) (by kernel_rfl) (door_met os _)) ?_
 intro W base args ds gs before hval0 hW hcnd hsz0 hL _
 have hsz : (DataW.weightsEach Tryd.prog (Tryd.f8.params.toList ++ Rows.parserOffsetsIncreaseSpec.plain.varTypes Tryd.prog) (ds ++ gs)).all (· ≤ reachBytes) = true := hsz0
 have hval : ∀ (j : Nat) t v, Tryd.f8.params[j]? = some t → args[j]? = some v → Value.okWide Tryd.prog W .any base t v := hval0
 have hW' := hW
 obtain ⟨p, q, hA0, hV, rfl, hfz, hnd⟩ := hW
 have hA : DataW.TrodAll enc Tryd.prog W 0 (fun _ => true) true Tryd.f8.params.toList args.toList ds p := hA0
 rw [Tryd.params8] at hA hval hsz
 obtain ⟨v0, vs0, d0, ds0, p0, q0, hargs, rfl, rfl, h0, r0⟩ := trodAll_cons hA
 obtain ⟨rfl, rfl, rfl⟩ := trodAll_nil r0
 obtain rfl : args = #[v0] := by cases args; simp_all
 obtain ⟨rfl, rfl⟩ := trodVars_none hV
 obtain ⟨a0, rfl, rfl, rfl, y0⟩ := open_string Tryd.underlying9 (hval 0 9 v0 rfl rfl) h0
 have w0 : a0.size ≤ 140737488351232 := by
  have z := sized_string hsz (j := 0) (t := 9) rfl rfl
  rw [Array.length_toList] at z
  exact z
 clear hA0 hval0 hsz0 hsz
 refine (PPx.ambidexterlaw11_ParserOffsetsIncrease.walk PU a0 W w0 (plainLaid hL)).mono fun e W' ⟨he, bel⟩ => ?_
 subst he
 exact ⟨_, rfl, _, _, _, [], _, [], hW', trodAll_mk1 (shut_bool Tryd.underlying4 _), (trodAll_cons_mk (shut_string Tryd.underlying9 y0) trodAll_mk0), rfl, bel.frame _, fun h => by cases h⟩
theorem over (PU : PPx.ambidexterlaw11_ParserOffsetsIncrease.Pure) : Rows.ParserOffsetsIncreaseSaid :=
 OpenClaim.holds_of_wide 8 Tryd.f8 rfl rfl rfl rfl rfl rfl rfl ⟨rfl, rfl, rfl, rfl, rfl⟩ rfl rfl rfl rfl rfl (by kernel_rfl) Tryd.func8 (by kernel_rfl)
  (of_decide_eq_true (by kernel_rfl)) (by unfold Func.isWrapper; first | (rw [if_pos (by decide +kernel)]; kernel_rfl) | (rw [if_neg (by decide +kernel)]; exact ⟨rfl, rfl⟩))
  (fun os started H enc _ => lifted PU os started H enc)
theorem card (PU : PPx.ambidexterlaw11_ParserOffsetsIncrease.Pure) : Rows.ParserOffsetsIncreaseCardSaid :=
 Claim7.holds_tied_plain_at .later [] [.data, .data, .data, .sentinel, .sentinel, .widerDeep] true (true, "6822103ed093441613754651125a536eb7c88e985074bd3ee2c69459dcd289f4") true
  (over PU) (fun _ h => by cases h) (by kernel_rfl) (fun _ h => by cases h) parserOffsetsIncrease_row_tie rfl ⟨rfl, rfl⟩ (by kernel_rfl) rfl
  (fun f fn hf hfn => by
   obtain rfl : f = 8 := Option.some.inj ((show Tryd.prog.funcNamed "ambidexter/ambidexterlaw11.ParserOffsetsIncrease" = some 8 by kernel_rfl).symm.trans hf) |>.symm
   obtain rfl : fn = Tryd.f8 := (Option.some.inj (Tryd.func8.symm.trans hfn)).symm
   exact ⟨by kernel_rfl, fun j t ht => by
    rw [Tryd.params8] at ht
    have h3 : t = 9 := by
     rcases j with _ | j
     · simpa using ht.symm
     · simp at ht
    subst h3
    exact (show Tryd.prog.wantsStandIn 9 = false by kernel_rfl)⟩)
  (by kernel_rfl)
end Go.Proofs.YtonhcfecfifghaaDoor.parserOffsetsIncrease
namespace Go.Proofs.YtonhcfecfifghaaDoor.PPx
open Go.RowKit Go.Proofs.YtonhcfecfifghaaDoorW.PrintWords Go.Proofs.YtonhcfecfifghaaDoorW.PrintLast Go.Proofs.YtonhcfecfifghaaDoorW.PrintMore
theorem scanTo_next {p : Int → Bool} {n i : Int} (h : i < n) (hp : p i = true) : scanTo p n i = scanTo p n (i + 1) := by
 have h1 : scanTo p n i = scan p n ((n - (i + 1)).toNat + 1) i := by unfold scanTo; rw [show (n - i).toNat = (n - (i + 1)).toNat + 1 from by omega]
 rw [h1]
 simp only [scan]
 rw [if_pos h, if_pos hp]
 rfl
theorem scanTo_stop {p : Int → Bool} {n i : Int} (h : ¬ i < n ∨ p i = false) : scanTo p n i = i := by
 unfold scanTo
 cases hk : (n - i).toNat with
 | zero => rfl
 | succ k =>
  simp only [scan]
  rcases h with h | h
  · rw [if_neg h]
  · rw [h]; simp
theorem skipR_more (s : ByteArray) : ∀ (k m : Nat) (i : Int), ((s.size : Int) - i).toNat ≤ k → k ≤ m → 0 ≤ i → i ≤ (s.size : Int) → skipR s m i = skipR s k i := by
 intro k
 induction k with
 | zero =>
  intro m i hk hm h0 h1
  cases m with
  | zero => rfl
  | succ m =>
   simp only [skipR]
   rw [if_neg]
   intro h6
   have := (at_some (by decide) h6).1
   omega
 | succ k ih =>
  intro m i hk hm h0 h1
  cases m with
  | zero => omega
  | succ m =>
   simp only [skipR]
   split
   · rename_i h6
     have hlt := (at_some (by decide) h6).1
     have hst := scanTo_step hlt (line_of_six h6)
     have h2 := scanTo_range (lineAt s) s.size i h1
     have h3 := scanTo_range (blankAt s) s.size (scanTo (lineAt s) s.size i) h2.2
     exact ih m _ (by omega) (by omega) (by omega) h3.2
   · rfl
theorem skipTo_blank {s : ByteArray} {i : Int} (h : at_ s i = 5) : skipTo s (i + 1) = skipTo s i := by
 have hlt := (at_some (by decide) h).1
 unfold skipTo
 rw [scanTo_next hlt (show blankAt s i = true by simp [blankAt, h])]
theorem skipTo_other {s : ByteArray} {i : Int} (h5 : at_ s i ≠ 5) (h6 : at_ s i ≠ 6) : skipTo s i = i := by
 unfold skipTo
 rw [scanTo_stop (.inr (show blankAt s i = false by simpa [blankAt] using h5))]
 cases s.size with
 | zero => rfl
 | succ k => simp only [skipR]; rw [if_neg h6]
theorem skipTo_note {s : ByteArray} {i : Int} (h0 : 0 ≤ i) (h : at_ s i = 6) : skipTo s (scanTo (lineAt s) s.size i) = skipTo s i := by
 have hlt := (at_some (by decide) h).1
 have hst := scanTo_step hlt (line_of_six h)
 have h2 := scanTo_range (lineAt s) s.size i (by omega)
 have h3 := scanTo_range (blankAt s) s.size (scanTo (lineAt s) s.size i) h2.2
 unfold skipTo
 rw [scanTo_stop (i := i) (.inr (show blankAt s i = false by simp [blankAt, h]))]
 obtain ⟨k, hk⟩ : ∃ k, s.size = k + 1 := ⟨s.size - 1, by omega⟩
 conv => rhs; rw [hk]; simp only [skipR]
 rw [if_pos h]
 refine (skipR_more s k s.size _ (by omega) (by omega) (by omega) h3.2)
theorem at_in {s : ByteArray} {i : Int} (h : i < (s.size : Int)) : at_ s i = cls (bt s i).toNat := by unfold at_; rw [if_neg (by omega)]
theorem scan_spec (p : Int → Bool) (n : Int) : ∀ (k : Nat) (i : Int), (n - i).toNat ≤ k → (∀ x, i ≤ x → x < scan p n k i → p x = true) ∧ (scan p n k i < n → p (scan p n k i) = false) := by
 intro k
 induction k with
 | zero => intro i hk; simp only [scan]; exact ⟨fun x _ _ => by omega, fun _ => by omega⟩
 | succ k ih =>
  intro i hk
  simp only [scan]
  by_cases h : i < n
  · rw [if_pos h]
    by_cases hp : p i = true
    · rw [if_pos hp]
      obtain ⟨h1, h2⟩ := ih (i + 1) (by omega)
      refine ⟨fun x hx hx2 => ?_, h2⟩
      by_cases e : x = i
      · rw [e]; exact hp
      · exact h1 x (by omega) hx2
    · rw [if_neg hp]
      exact ⟨fun x _ _ => by omega, fun _ => by simpa using hp⟩
  · rw [if_neg h]
    exact ⟨fun x _ _ => by omega, fun _ => by omega⟩
theorem scanTo_spec (p : Int → Bool) (n i : Int) : (∀ x, i ≤ x → x < scanTo p n i → p x = true) ∧ (scanTo p n i < n → p (scanTo p n i) = false) := scan_spec p n _ i (Nat.le_refl _)
theorem scanTo_eq {p : Int → Bool} {n i j : Int} (h1 : i ≤ j) (h2 : j ≤ n) (hp : ∀ x, i ≤ x → x < j → p x = true) (he : j < n → p j = false) : scanTo p n i = j := scan_eq p n _ i j (Nat.le_refl _) h1 h2 hp he
inductive Gap (s : ByteArray) : Int → Int → Prop where
 | here (i : Int) : Gap s i i
 | blank {i j : Int} : at_ s i = 5 → Gap s (i + 1) j → Gap s i j
 | note {i m j : Int} : at_ s i = 6 → m = scanTo (lineAt s) s.size i → Gap s m j → Gap s i j
theorem Gap.skip {s : ByteArray} {i j : Int} (h : Gap s i j) (h0 : 0 ≤ i) : skipTo s j = skipTo s i := by
 induction h with
 | here i => rfl
 | blank h5 _ ih => rw [ih (by omega), skipTo_blank h5]
 | @note i m j h6 hm _ ih =>
  have hlt := (at_some (by decide) h6).1
  have := scanTo_range (lineAt s) s.size i (by omega)
  rw [ih (by omega), hm, skipTo_note h0 h6]
theorem Gap.le {s : ByteArray} {i j : Int} (h : Gap s i j) (h1 : i ≤ (s.size : Int)) : i ≤ j ∧ j ≤ (s.size : Int) := by
 induction h with
 | here i => omega
 | blank h5 _ ih =>
  have := (at_some (by decide) h5).1
  have := ih (by omega)
  omega
 | @note i m j h6 hm _ ih =>
  have := scanTo_range (lineAt s) s.size i h1
  have := ih (by omega)
  omega
theorem Gap.trans {s : ByteArray} {i j k : Int} (h : Gap s i j) (g : Gap s j k) : Gap s i k := by
 induction h with
 | here i => exact g
 | blank h5 _ ih => exact .blank h5 (ih g)
 | note h6 hm _ ih => exact .note h6 hm (ih g)
theorem gap_ex (s : ByteArray) : ∀ (d : Nat) (i : Int), 0 ≤ i → i ≤ (s.size : Int) → ((s.size : Int) - i).toNat ≤ d → ∃ j, Gap s i j ∧ at_ s j ≠ 5 ∧ at_ s j ≠ 6 := by
 intro d
 induction d with
 | zero =>
  intro i h0 h1 hd
  have hz : at_ s i = 0 := by unfold at_; rw [if_pos (by omega)]
  exact ⟨i, .here i, by omega, by omega⟩
 | succ d ih =>
  intro i h0 h1 hd
  by_cases h5 : at_ s i = 5
  · have hlt := (at_some (by decide) h5).1
    obtain ⟨j, hg, hj⟩ := ih (i + 1) (by omega) (by omega) (by omega)
    exact ⟨j, .blank h5 hg, hj⟩
  · by_cases h6 : at_ s i = 6
    · have hlt := (at_some (by decide) h6).1
      have hst := scanTo_step hlt (line_of_six h6)
      have hr := scanTo_range (lineAt s) s.size i h1
      obtain ⟨j, hg, hj⟩ := ih (scanTo (lineAt s) s.size i) (by omega) (by omega) (by omega)
      exact ⟨j, .note h6 rfl hg, hj⟩
    · exact ⟨i, .here i, h5, h6⟩
theorem skip_of_gap {s : ByteArray} {i j : Int} (h0 : 0 ≤ i) (h : Gap s i j) (h5 : at_ s j ≠ 5) (h6 : at_ s j ≠ 6) : skipTo s i = j := by
 rw [← h.skip h0, skipTo_other h5 h6]
theorem skip_gap (s : ByteArray) (i : Int) (h0 : 0 ≤ i) (h1 : i ≤ (s.size : Int)) : Gap s i (skipTo s i) ∧ at_ s (skipTo s i) ≠ 5 ∧ at_ s (skipTo s i) ≠ 6 := by
 obtain ⟨j, hg, h5, h6⟩ := gap_ex s _ i h0 h1 (Nat.le_refl _)
 rw [skip_of_gap h0 hg h5 h6]
 exact ⟨hg, h5, h6⟩
theorem at_end {s : ByteArray} {i : Int} (h : (s.size : Int) ≤ i) : at_ s i = 0 := by unfold at_; rw [if_pos h]
theorem skip_end {s : ByteArray} {i : Int} (h0 : 0 ≤ i) (h : Gap s i s.size) : skipTo s i = s.size := skip_of_gap h0 h (by rw [at_end (Int.le_refl _)]; decide) (by rw [at_end (Int.le_refl _)]; decide)
inductive Lx (s : ByteArray) : Int → List S44 → Option Int → Prop where
 | done {i : Int} : ¬ i < (s.size : Int) → Lx s i [] none
 | err {i : Int} : i < (s.size : Int) → (nextAt s i).2.2.2.1 = false → Lx s i [] (some i)
 | tok {i : Int} {ts : List S44} {e : Option Int} : i < (s.size : Int) → (nextAt s i).2.2.2.1 = true → Lx s (skipTo s (nextAt s i).2.2.2.2) ts e → Lx s i (⟨(nextAt s i).1, (nextAt s i).2.1, (nextAt s i).2.2.1⟩ :: ts) e
theorem lx_ex (s : ByteArray) : ∀ (d : Nat) (i : Int), 0 ≤ i → i ≤ (s.size : Int) → ((s.size : Int) - i).toNat ≤ d → ∃ ts e, Lx s i ts e := by
 intro d
 induction d with
 | zero => intro i h0 h1 hd; exact ⟨[], none, .done (by omega)⟩
 | succ d ih =>
  intro i h0 h1 hd
  by_cases hlt : i < (s.size : Int)
  · cases hok : (nextAt s i).2.2.2.1 with
    | false => exact ⟨[], some i, .err hlt hok⟩
    | true =>
     have hr := nextAt_range s i h0 h1 hok
     have hr2 := skipTo_range s (nextAt s i).2.2.2.2 (by omega) hr.2
     obtain ⟨ts, e, h⟩ := ih (skipTo s (nextAt s i).2.2.2.2) (by omega) (by omega) (by omega)
     exact ⟨_, e, .tok hlt hok h⟩
  · exact ⟨[], none, .done hlt⟩
def outOf (acc : List S44) : Option Int → List S44 × Int × Int
 | none => (acc, 0, 0)
 | some i => ([], 100, i)
theorem lexGo_of {s : ByteArray} {i : Int} {ts : List S44} {e : Option Int} (h : Lx s i ts e) : ∀ (k : Nat) (acc : List S44), 0 ≤ i → i ≤ (s.size : Int) → ((s.size : Int) - i).toNat < k → lexGo s k i acc = outOf (acc ++ ts) e := by
 induction h with
 | done hge =>
  intro k acc h0 h1 hk
  obtain ⟨k, rfl⟩ : ∃ m, k = m + 1 := ⟨k - 1, by omega⟩
  simp only [lexGo]; rw [if_neg hge]; simp [outOf]
 | err hlt hno =>
  intro k acc h0 h1 hk
  obtain ⟨k, rfl⟩ : ∃ m, k = m + 1 := ⟨k - 1, by omega⟩
  simp only [lexGo]; rw [if_pos hlt, hno]; simp [outOf]
 | @tok i ts e hlt hok hl ih =>
  intro k acc h0 h1 hk
  obtain ⟨k, rfl⟩ : ∃ m, k = m + 1 := ⟨k - 1, by omega⟩
  have hr := nextAt_range s i h0 h1 hok
  have hr2 := skipTo_range s (nextAt s i).2.2.2.2 (by omega) hr.2
  simp only [lexGo]; rw [if_pos hlt, if_pos hok, ih k _ (by omega) (by omega) (by omega)]
  simp
theorem lexB_of {s : ByteArray} (hs : s.size ≤ 20000) {ts : List S44} {e : Option Int} (h : Lx s (skipTo s 0) ts e) : lexB s = outOf ts e := by
 have hr := skipTo_range s 0 (by omega) (by omega)
 unfold lexB
 rw [if_neg (by omega), lexGo_of h (s.size + 1) [] (by omega) hr.2 (by omega)]
 rfl
theorem lx_whole (s : ByteArray) : ∃ ts e, Lx s (skipTo s 0) ts e := by
 have hr := skipTo_range s 0 (by omega) (by omega)
 exact lx_ex s _ _ (by omega) hr.2 (Nat.le_refl _)
theorem lexGo_len (s : ByteArray) : ∀ (k : Nat) (i : Int) (acc : List S44), (lexGo s k i acc).1.length ≤ acc.length + k := by
 intro k
 induction k with
 | zero => intro i acc; simp [lexGo]
 | succ k ih =>
  intro i acc
  simp only [lexGo]
  split
  · split
    · have := ih (skipTo s (nextAt s i).2.2.2.2) (acc ++ [⟨(nextAt s i).1, (nextAt s i).2.1, (nextAt s i).2.2.1⟩])
      simp only [List.length_append, List.length_cons, List.length_nil] at this
      omega
    · simp
  · simp
theorem lexB_len (s : ByteArray) : (lexB s).1.length ≤ 20001 := by
 unfold lexB
 split
 · simp
 · have := lexGo_len s (s.size + 1) (skipTo s 0) []
   simp only [List.length_nil] at this
   omega
end Go.Proofs.YtonhcfecfifghaaDoor.PPx
namespace Go.Proofs.YtonhcfecfifghaaDoor.PPx
open Go.RowKit Go.Proofs.YtonhcfecfifghaaDoorW.PrintWords Go.Proofs.YtonhcfecfifghaaDoorW.PrintLast Go.Proofs.YtonhcfecfifghaaDoorW.PrintMore
theorem ext_bt {s u : ByteArray} (hs : s.size = u.size) (h : ∀ x : Int, 0 ≤ x → x < (s.size : Int) → bt s x = bt u x) : s = u := by
 apply ByteArray.ext_getElem hs
 intro i hi hi2
 have := h i (by omega) (by omega)
 rw [← bt_at s i (by omega), ← bt_at u i (by omega)] at this
 have h2 : (s[i]'hi).toNat = (u[i]'hi2).toNat := by
  have e : ((i : Nat) : Int).toNat = i := rfl
  simp only [Int.toNat_natCast] at this
  exact_mod_cast this
 exact UInt8.toNat_inj.1 h2
theorem bt_extract {s : ByteArray} {a b x : Int} (h0 : 0 ≤ a) (hx : 0 ≤ x) (h1 : a + x < b) (h2 : b ≤ (s.size : Int)) : bt (s.extract a.toNat b.toNat) x = bt s (a + x) := by
 have hl : x.toNat < (s.extract a.toNat b.toNat).size := by rw [ByteArray.size_extract]; omega
 rw [← bt_at _ x hl, ← bt_at s (a + x) (by omega), ByteArray.getElem_extract]
 have e : a.toNat + x.toNat = (a + x).toNat := by omega
 simp only [e]
theorem size_extractI {s : ByteArray} {a b : Int} (h0 : 0 ≤ a) (h1 : a ≤ b) (h2 : b ≤ (s.size : Int)) : ((s.extract a.toNat b.toNat).size : Int) = b - a := by
 rw [ByteArray.size_extract]; omega
theorem bt_left {s u : ByteArray} {x : Int} (h0 : 0 ≤ x) (h : x < (s.size : Int)) : bt (s ++ u) x = bt s x := by
 have hl : x.toNat < (s ++ u).size := by rw [ByteArray.size_append]; omega
 rw [← bt_at _ x hl, ← bt_at s x (by omega), ByteArray.getElem_append_left (by omega)]
theorem bt_right {s u : ByteArray} {x : Int} (h0 : (s.size : Int) ≤ x) (h : x < (s.size : Int) + u.size) : bt (s ++ u) x = bt u (x - s.size) := by
 have hl : x.toNat < (s ++ u).size := by rw [ByteArray.size_append]; omega
 rw [← bt_at _ x hl, ← bt_at u (x - s.size) (by omega), ByteArray.getElem_append_right (by omega)]
 have e : x.toNat - s.size = (x - s.size).toNat := by omega
 simp only [e]
structure Move (s u : ByteArray) (d lo hi : Int) : Prop where
 h0 : 0 ≤ lo
 hs : hi ≤ (s.size : Int)
 d0 : 0 ≤ lo + d
 hu : hi + d ≤ (u.size : Int)
 eq : ∀ x, lo ≤ x → x < hi → bt u (x + d) = bt s x
section
variable {s u : ByteArray} {d lo hi : Int}
theorem Move.at (M : Move s u d lo hi) {x : Int} (h1 : lo ≤ x) (h2 : x < hi) : at_ u (x + d) = at_ s x := by
 have := M.hs; have := M.hu
 rw [at_in (by omega), at_in (by omega), M.eq x h1 h2]
theorem Move.line (M : Move s u d lo hi) {x : Int} (h1 : lo ≤ x) (h2 : x < hi) : lineAt u (x + d) = lineAt s x := by
 unfold lineAt; rw [M.eq x h1 h2]
theorem Move.word (M : Move s u d lo hi) {x : Int} (h1 : lo ≤ x) (h2 : x < hi) : wordAt u (x + d) = wordAt s x := by
 unfold wordAt; rw [M.at h1 h2]
theorem Move.digit (M : Move s u d lo hi) {x : Int} (h1 : lo ≤ x) (h2 : x < hi) : digitAt u (x + d) = digitAt s x := by
 unfold digitAt; rw [M.at h1 h2]
theorem Move.scan (M : Move s u d lo hi) {p q : Int → Bool} (hpq : ∀ x, lo ≤ x → x < hi → q (x + d) = p x) {i : Int} (h1 : lo ≤ i) (h2 : i ≤ hi) (hj : scanTo p s.size i ≤ hi)
 (hq : scanTo p s.size i = hi → hi + d < (u.size : Int) → q (hi + d) = false) : scanTo q u.size (i + d) = scanTo p s.size i + d := by
 have hr := scanTo_range p s.size i (by have := M.hs; omega)
 obtain ⟨a, b⟩ := scanTo_spec p s.size i
 generalize scanTo p s.size i = j at *
 have := M.hs; have := M.hu
 refine scanTo_eq (by omega) (by omega) (fun x hx hx2 => ?_) (fun hlt => ?_)
 · have := hpq (x - d) (by omega) (by omega)
   rw [show x - d + d = x from by omega] at this
   rw [this]; exact a _ (by omega) (by omega)
 · by_cases e : j = hi
   · subst e; exact hq rfl hlt
   · rw [hpq j (by omega) (by omega)]; exact b (by omega)
theorem Move.text (M : Move s u d lo hi) {i j : Int} (h1 : lo ≤ i) (h2 : i ≤ j) (h3 : j ≤ hi) : u.extract (i + d).toNat (j + d).toNat = s.extract i.toNat j.toNat := by
 have := M.hs; have := M.hu; have := M.h0; have := M.d0
 have e1 := size_extractI (s := u) (a := i + d) (b := j + d) (by omega) (by omega) (by omega)
 have e2 := size_extractI (s := s) (a := i) (b := j) (by omega) (by omega) (by omega)
 refine ext_bt (by omega) (fun x hx hx2 => ?_)
 rw [bt_extract (by omega) hx (by omega) (by omega), bt_extract (by omega) hx (by omega) (by omega), show i + d + x = (i + x) + d from by omega]
 exact M.eq _ (by omega) (by omega)
def Soft (u : ByteArray) (p : Int) : Prop := wordAt u p = false ∧ digitAt u p = false
theorem soft_end {u : ByteArray} {p : Int} (h : (u.size : Int) ≤ p) : Soft u p := by simp [Soft, wordAt, digitAt, at_end h]
theorem Move.gap (M : Move s u d lo hi) {i j : Int} (h : Gap s i j) : lo ≤ i → j ≤ hi → (j < hi ∨ hi + d = (u.size : Int) ∨ (∀ x, lo ≤ x → x < hi → at_ s x = 6 → scanTo (lineAt s) s.size x < hi)) → Gap u (i + d) (j + d) := by
 induction h with
 | here i => intro _ _ _; exact .here _
 | @blank i j h5 hg ih =>
  intro h1 h2 hb
  have hlt := (at_some (by decide) h5).1
  have hle := hg.le (by omega)
  have hx : at_ u (i + d) = 5 := by rw [M.at h1 (by omega), h5]
  have hi1 := ih (by omega) h2 hb
  rw [show i + 1 + d = i + d + 1 from by omega] at hi1
  exact .blank hx hi1
 | @note i m j h6 hm hg ih =>
  intro h1 h2 hb
  have hlt := (at_some (by decide) h6).1
  have hst := scanTo_step hlt (line_of_six h6)
  have hr := scanTo_range (lineAt s) s.size i (by omega)
  have hle := hg.le (by omega)
  have hx : at_ u (i + d) = 6 := by rw [M.at h1 (by omega), h6]
  have hsc : scanTo (lineAt u) u.size (i + d) = scanTo (lineAt s) s.size i + d := by
   refine M.scan (fun x a b => M.line a b) h1 (by omega) (by omega) (fun he hlt2 => ?_)
   rcases hb with hb | hb | hb
   · omega
   · omega
   · have := hb i h1 (by omega) h6; omega
  exact .note hx (by rw [hsc, hm]) (ih (by omega) h2 hb)
theorem Move.skip (M : Move s u d lo hi) {i : Int} (h1 : lo ≤ i) (h2 : skipTo s i < hi) : skipTo u (i + d) = skipTo s i + d := by
 have hs := M.hs
 have h0 := M.h0
 have hi1 : i ≤ (s.size : Int) := by
  rcases Int.lt_or_le (s.size : Int) i with h | h
  · rw [skipTo_other (by rw [at_end (by omega)]; decide) (by rw [at_end (by omega)]; decide)] at h2; omega
  · exact h
 obtain ⟨hg, h5, h6⟩ := skip_gap s i (by omega) hi1
 have hle := hg.le hi1
 refine skip_of_gap (by have := M.d0; omega) (M.gap hg h1 (by omega) (.inl h2)) ?_ ?_
 · rw [M.at (by omega) h2]; exact h5
 · rw [M.at (by omega) h2]; exact h6
theorem firstAt_move (sg : Bool) (i d : Int) : firstAt sg (i + d) = firstAt sg i + d := by unfold firstAt; split <;> omega
theorem Move.next (M : Move s u d lo hi) {i : Int} (h1 : lo ≤ i) (h2 : i < hi) (hE : (nextAt s i).2.2.2.2 ≤ hi) (hsoft : (nextAt s i).2.2.2.2 = hi → Soft u (hi + d)) (hw : wordAt s hi = false ∨ (nextAt s i).2.2.2.1 = true ∨ (nextAt s i).2.2.2.2 < hi) :
 nextAt u (i + d) = ((nextAt s i).1, (nextAt s i).2.1, (if (nextAt s i).2.2.2.1 = true then (nextAt s i).2.2.1 + d else 0), (nextAt s i).2.2.2.1, (nextAt s i).2.2.2.2 + d) := by
 have hs := M.hs
 have h0 := M.h0
 unfold nextAt at hE hsoft hw ⊢
 rw [M.at h1 h2]
 by_cases c1 : at_ s i = 1
 · simp only [if_pos c1, if_true] at hE hsoft hw ⊢
   have hr := scanTo_range (wordAt s) s.size i (by omega)
   have hsc := M.scan (p := wordAt s) (q := wordAt u) (fun x a b => M.word a b) h1 (by omega) hE (fun e _ => (hsoft e).1)
   rw [hsc, M.text h1 hr.1 hE]
 · simp only [if_neg c1] at hE hsoft hw ⊢
   by_cases c4 : at_ s i = 4
   · simp only [if_pos c4, if_true] at hE hsoft hw ⊢
     rw [show i + d + 1 = i + 1 + d from by omega, M.text h1 (by omega) (by omega)]
   · simp only [if_neg c4] at hE hsoft hw ⊢
     by_cases c7 : at_ s i = 7 ∨ at_ s i = 2
     · simp only [if_pos c7] at hE hsoft hw ⊢
       generalize (at_ s i == 7) = sg at *
       rw [firstAt_move]
       have hf : i ≤ firstAt sg i ∧ firstAt sg i ≤ i + 1 := by unfold firstAt; split <;> omega
       generalize firstAt sg i = f at *
       have hr := scanTo_range (digitAt s) s.size f (by omega)
       have hj : scanTo (digitAt s) s.size f ≤ hi := by
        revert hE; split <;> (intro hE; exact hE)
       have hso : scanTo (digitAt s) s.size f = hi → Soft u (hi + d) := by
        revert hsoft; split <;> (intro hsoft; exact hsoft)
       have hsc := M.scan (p := digitAt s) (q := digitAt u) (fun x a b => M.digit a b) (by omega) (by omega) hj (fun e _ => (hso e).2)
       rw [hsc, M.text (by omega) hr.1 hj, M.text h1 (by omega) hj]
       have hww : wordAt u (scanTo (digitAt s) s.size f + d) = wordAt s (scanTo (digitAt s) s.size f) := by
        by_cases e : scanTo (digitAt s) s.size f = hi
        · rw [e, (hso e).1]
          rcases hw with hw | hw | hw
          · exact hw.symm
          · revert hw
            split
            · rename_i hc
              intro _
              simp only [Bool.and_eq_true, Bool.not_eq_true'] at hc
              rw [← e]; exact hc.2.symm
            · intro hw; exact absurd hw (by simp)
          · exfalso
            revert hw; split <;> (intro hw; simp only at hw; omega)
        · exact M.word (by omega) (by omega)
       rw [hww]
       split <;> simp
     · simp only [if_neg c7, Bool.false_eq_true, if_false] at hE hsoft hw ⊢
end
def tokAt (s : ByteArray) (i : Int) : S44 := ⟨(nextAt s i).1, (nextAt s i).2.1, (nextAt s i).2.2.1⟩
inductive Path (s : ByteArray) : Int → List S44 → Int → Prop where
 | nil (i : Int) : Path s i [] i
 | cons {i j : Int} {ts : List S44} : skipTo s i < (s.size : Int) → (nextAt s (skipTo s i)).2.2.2.1 = true → Path s (nextAt s (skipTo s i)).2.2.2.2 ts j → Path s i (tokAt s (skipTo s i) :: ts) j
theorem Path.le {s : ByteArray} {i j : Int} {ts : List S44} (h : Path s i ts j) : 0 ≤ i → i ≤ (s.size : Int) → i ≤ j ∧ j ≤ (s.size : Int) := by
 induction h with
 | nil i => intro _ h1; omega
 | cons hlt hok hp ih =>
  intro h0 h1
  have hr := skipTo_range s _ h0 h1
  have hn := nextAt_range s _ (by omega) hr.2 hok
  have := ih (by omega) hn.2
  omega
theorem Path.append {s : ByteArray} {i j k : Int} {ts us : List S44} (h : Path s i ts j) (g : Path s j us k) : Path s i (ts ++ us) k := by
 induction h with
 | nil i => exact g
 | cons hlt hok hp ih => exact .cons hlt hok (ih g)
theorem path_of_lx {s : ByteArray} {p : Int} {ts : List S44} {e : Option Int} (h : Lx s p ts e) : ∀ i, p = skipTo s i → ∃ j, Path s i ts j ∧ (e = none → ¬ skipTo s j < (s.size : Int)) ∧ (∀ x, e = some x → x = skipTo s j ∧ x < (s.size : Int) ∧ (nextAt s x).2.2.2.1 = false) := by
 induction h with
 | done hge => intro i hi; subst hi; exact ⟨i, .nil i, fun _ => hge, fun x hx => by cases hx⟩
 | err hlt hno => intro i hi; subst hi; exact ⟨i, .nil i, (fun h => by cases h), (fun x hx => by obtain rfl := Option.some.inj hx; exact ⟨rfl, hlt, hno⟩)⟩
 | tok hlt hok hl ih =>
  intro i hi
  subst hi
  obtain ⟨j, hp, a, b⟩ := ih _ rfl
  exact ⟨j, .cons hlt hok hp, a, b⟩
theorem lx_of_path {s : ByteArray} {i j : Int} {ts : List S44} (h : Path s i ts j) : ∀ {us : List S44} {e : Option Int}, Lx s (skipTo s j) us e → Lx s (skipTo s i) (ts ++ us) e := by
 induction h with
 | nil i => intro us e h; exact h
 | cons hlt hok hp ih => intro us e h; exact .tok hlt hok (ih h)
theorem whole (s : ByteArray) (hs : s.size ≤ 20000) : ∃ ts j, Path s 0 ts j ∧ 0 ≤ j ∧ j ≤ (s.size : Int) ∧ ((lexB s = (ts, 0, 0) ∧ skipTo s j = s.size) ∨ (lexB s = ([], 100, skipTo s j) ∧ skipTo s j < (s.size : Int) ∧ (nextAt s (skipTo s j)).2.2.2.1 = false)) := by
 obtain ⟨ts, e, h⟩ := lx_whole s
 obtain ⟨j, hp, hn, he⟩ := path_of_lx h 0 rfl
 have hle := hp.le (by omega) (by omega)
 have hr := skipTo_range s j (by omega) hle.2
 refine ⟨ts, j, hp, by omega, hle.2, ?_⟩
 cases e with
 | none => exact .inl ⟨lexB_of hs h, by have := hn rfl; omega⟩
 | some x =>
  obtain ⟨hx, hlt, hno⟩ := he x rfl
  subst hx
  exact .inr ⟨lexB_of hs h, hlt, hno⟩
theorem lexB_ok {s : ByteArray} (hs : s.size ≤ 20000) {ts : List S44} {j : Int} (h : Path s 0 ts j) (he : ¬ skipTo s j < (s.size : Int)) : lexB s = (ts, 0, 0) := by
 have := lexB_of hs (lx_of_path h (.done he))
 simpa [outOf] using this
theorem nextAt_at {s : ByteArray} {i : Int} (hok : (nextAt s i).2.2.2.1 = true) : (nextAt s i).2.2.1 = i ∧ (1 ≤ (nextAt s i).1 ∧ (nextAt s i).1 ≤ 3) ∧ (nextAt s i).2.1 = s.extract i.toNat (nextAt s i).2.2.2.2.toNat := by
 revert hok
 unfold nextAt
 by_cases c1 : at_ s i = 1
 · simp only [if_pos c1]; simp
 · simp only [if_neg c1]
   by_cases c4 : at_ s i = 4
   · simp only [if_pos c4]; simp
   · simp only [if_neg c4]
     by_cases c7 : at_ s i = 7 ∨ at_ s i = 2
     · simp only [if_pos c7]
       split
       · simp
       · intro h; exact absurd h (by simp)
     · simp only [if_neg c7]; intro h; exact absurd h (by simp)
def moved (d : Int) (ts : List S44) : List S44 := ts.map fun t => ⟨t.f0, t.f1, t.f2 + d⟩
theorem moved_zero (ts : List S44) : moved 0 ts = ts := by
 unfold moved
 induction ts with
 | nil => rfl
 | cons t ts ih => rw [List.map_cons, ih]; simp
end Go.Proofs.YtonhcfecfifghaaDoor.PPx
namespace Go.Proofs.YtonhcfecfifghaaDoor.PPx
open Go.RowKit Go.Proofs.YtonhcfecfifghaaDoorW.PrintWords Go.Proofs.YtonhcfecfifghaaDoorW.PrintLast Go.Proofs.YtonhcfecfifghaaDoorW.PrintMore
def Holds (s : ByteArray) (i : Int) (u : ByteArray) : Prop := 0 ≤ i ∧ i + u.size ≤ (s.size : Int) ∧ ∀ x : Int, 0 ≤ x → x < (u.size : Int) → bt s (i + x) = bt u x
theorem Holds.move {s u : ByteArray} {i : Int} (h : Holds s i u) : Move u s i 0 u.size := ⟨Int.le_refl _, Int.le_refl _, by have := h.1; omega, by have := h.2.1; omega, fun x h0 h1 => by rw [Int.add_comm]; exact h.2.2 x h0 h1⟩
theorem Holds.left {s u v : ByteArray} {i : Int} (h : Holds s i (u ++ v)) : Holds s i u := by
 obtain ⟨h0, h1, h2⟩ := h
 rw [ByteArray.size_append] at h1 h2
 refine ⟨h0, by omega, fun x hx hy => ?_⟩
 rw [h2 x hx (by omega), bt_left hx hy]
theorem Holds.right {s u v : ByteArray} {i : Int} (h : Holds s i (u ++ v)) : Holds s (i + u.size) v := by
 obtain ⟨h0, h1, h2⟩ := h
 rw [ByteArray.size_append] at h1 h2
 refine ⟨by omega, by omega, fun x hx hy => ?_⟩
 have := h2 (u.size + x) (by omega) (by omega)
 rw [show i + (u.size : Int) + x = i + (u.size + x) by omega, this, bt_right (by omega) (by omega)]
 congr 1; omega
theorem Holds.self (u : ByteArray) : Holds u 0 u := ⟨Int.le_refl _, by omega, fun x _ _ => by rw [Int.zero_add]⟩
theorem Holds.at {s u : ByteArray} {i x : Int} (h : Holds s i u) (h0 : 0 ≤ x) (h1 : x < (u.size : Int)) : at_ s (i + x) = at_ u x := by rw [Int.add_comm]; exact h.move.at h0 h1
def Runs (s : ByteArray) (i : Int) (ts : List S44) (j : Int) : Prop := ∃ j', Path s i ts j' ∧ Gap s j' j
theorem path_of_gap {s : ByteArray} {i' i j : Int} {ts : List S44} (hg : Gap s i' i) (h0 : 0 ≤ i') (h : Path s i ts j) (hne : ts ≠ []) : Path s i' ts j := by
 cases h with
 | nil => exact absurd rfl hne
 | cons hlt hok hp =>
  have e := hg.skip h0
  rw [e] at hlt hok hp ⊢
  exact .cons hlt hok hp
theorem Runs.append {s : ByteArray} {i j k : Int} {ts us : List S44} (h0 : 0 ≤ i) (h1 : i ≤ (s.size : Int)) (h : Runs s i ts j) (g : Runs s j us k) : Runs s i (ts ++ us) k := by
 obtain ⟨j', hp, hg⟩ := h
 obtain ⟨k', gp, gg⟩ := g
 have hj := hp.le h0 h1
 cases us with
 | nil =>
  rw [List.append_nil]
  cases gp
  exact ⟨j', hp, hg.trans gg⟩
 | cons u us => exact ⟨k', hp.append (path_of_gap hg (by omega) gp (by simp)), gg⟩
theorem moved_append (d : Int) (a b : List S44) : moved d (a ++ b) = moved d a ++ moved d b := by simp [moved]
theorem moved_moved (d e : Int) (a : List S44) : moved d (moved e a) = moved (e + d) a := by simp [moved, Int.add_assoc]
def LexT (u : ByteArray) (hard : Bool) (ts : List S44) : Prop := ∀ (s : ByteArray) (i : Int), Holds s i u → (hard = true → Soft s (i + u.size)) → Runs s i (moved i ts) (i + u.size)
def SoftHd (v : ByteArray) : Prop := 0 < v.size ∧ Soft v 0
theorem soft_at {s u : ByteArray} {p q : Int} (h : at_ s p = at_ u q) (g : Soft u q) : Soft s p := by
 unfold Soft wordAt digitAt at *
 rw [h]; exact g
theorem LexT.append {u v : ByteArray} {a b : Bool} {ts us : List S44} (h : LexT u a ts) (g : LexT v b us) (hs : a = true → SoftHd v) : LexT (u ++ v) b (ts ++ moved u.size us) := by
 intro s i hh hb
 have hl := hh.left
 have hr := hh.right
 have h1 := h s i hl (fun e => by
  obtain ⟨hp, hsf⟩ := hs e
  refine soft_at ?_ hsf
  have := hr.at (x := 0) (Int.le_refl _) (by omega)
  rw [Int.add_zero] at this
  exact this)
 have h2 := g s (i + u.size) hr (fun e => by
  have := hb e
  rw [ByteArray.size_append] at this
  rw [show i + (u.size : Int) + v.size = i + ((u.size + v.size : Nat) : Int) by omega]
  exact this)
 rw [moved_append, moved_moved, ByteArray.size_append]
 have hz := hl.2.1
 have := Runs.append hl.1 (by omega) h1 h2
 rw [show i + ((u.size + v.size : Nat) : Int) = i + (u.size : Int) + v.size by omega, show (u.size : Int) + i = i + u.size by omega]
 exact this
def Blank (g : ByteArray) : Prop := ∀ x : Int, 0 ≤ x → x < (g.size : Int) → at_ g x = 5
theorem gap_blanks {s : ByteArray} : ∀ (n : Nat) (i : Int), (∀ x : Int, 0 ≤ x → x < (n : Int) → at_ s (i + x) = 5) → Gap s i (i + n)
 | 0, i, _ => by simpa using Gap.here i
 | n + 1, i, h => by
  have h5 : at_ s i = 5 := by have := h 0 (Int.le_refl _) (by omega); rwa [Int.add_zero] at this
  have := gap_blanks n (i + 1) (fun x h0 h1 => by
   have := h (x + 1) (by omega) (by omega)
   rwa [show i + (x + 1) = i + 1 + x by omega] at this)
  rw [show i + ((n + 1 : Nat) : Int) = i + 1 + n by omega]
  exact .blank h5 this
theorem LexT.blank {g : ByteArray} (h : Blank g) : LexT g false [] := by
 intro s i hh _
 refine ⟨i, .nil i, gap_blanks _ _ (fun x h0 h1 => ?_)⟩
 rw [hh.at h0 h1]
 exact h x h0 h1
theorem LexT.weak {u : ByteArray} {ts : List S44} (h : LexT u false ts) : LexT u true ts := fun s i hh _ => h s i hh (fun e => by cases e)
def TokText (k : Int) (w : ByteArray) : Prop := 0 < w.size ∧ at_ w 0 ≠ 5 ∧ at_ w 0 ≠ 6 ∧ nextAt w 0 = (k, w, 0, true, (w.size : Int))
theorem LexT.tok {k : Int} {w : ByteArray} (h : TokText k w) : LexT w true [⟨k, w, 0⟩] := by
 obtain ⟨h0, h5, h6, hn⟩ := h
 intro s i hh hs
 have hat : at_ s i = at_ w 0 := by have := hh.at (x := 0) (Int.le_refl _) (by omega); rwa [Int.add_zero] at this
 have hsk : skipTo s i = i := skipTo_other (by rw [hat]; exact h5) (by rw [hat]; exact h6)
 have hnx := hh.move.next (i := 0) (Int.le_refl _) (by omega) (by rw [hn]; exact Int.le_refl _) (fun _ => by rw [Int.add_comm]; exact hs rfl) (.inr (.inl (by rw [hn])))
 rw [hn, Int.zero_add] at hnx
 simp only [if_true] at hnx
 have hlt := hh.2.1
 have hp : Path s i [tokAt s (skipTo s i)] (nextAt s (skipTo s i)).2.2.2.2 := .cons (by rw [hsk]; omega) (by rw [hsk, hnx]) (.nil _)
 rw [hsk] at hp
 have e : tokAt s i = ⟨k, w, i⟩ := by unfold tokAt; rw [hnx]
 rw [e, hnx] at hp
 refine ⟨(w.size : Int) + i, by simpa [moved] using hp, ?_⟩
 rw [Int.add_comm]
 exact .here _
theorem LexT.sign {w : ByteArray} (h1 : w.size = 1) (h4 : at_ w 0 = 4) : LexT w false [⟨3, w, 0⟩] := by
 intro s i hh _
 have hat : at_ s i = 4 := by have := hh.at (x := 0) (Int.le_refl _) (by omega); rw [Int.add_zero] at this; rw [this, h4]
 have hsk : skipTo s i = i := skipTo_other (by rw [hat]; decide) (by rw [hat]; decide)
 have hnx : nextAt s i = (3, s.extract i.toNat (i + 1).toNat, i, true, i + 1) := by
  unfold nextAt
  rw [if_neg (by rw [hat]; decide), if_pos hat]
 have hlt := hh.2.1
 have hz := hh.1
 have hp : Path s i [tokAt s (skipTo s i)] (nextAt s (skipTo s i)).2.2.2.2 := .cons (by rw [hsk]; omega) (by rw [hsk, hnx]) (.nil _)
 rw [hsk] at hp
 have hx : s.extract i.toNat (i + 1).toNat = w := by
  refine ext_bt ?_ (fun x h0 h1' => ?_)
  · have := size_extractI (s := s) (a := i) (b := i + 1) hz (by omega) (by omega); omega
  · have hsz := size_extractI (s := s) (a := i) (b := i + 1) hz (by omega) (by omega)
    rw [bt_extract hz h0 (by omega) (by omega)]
    exact hh.2.2 x h0 (by omega)
 have e : tokAt s i = ⟨3, w, i⟩ := by unfold tokAt; rw [hnx, hx]
 rw [e, hnx] at hp
 refine ⟨_, by simpa [moved] using hp, ?_⟩
 simp only [h1]
 exact .here _
theorem LexT.lex {u : ByteArray} {hard : Bool} {ts : List S44} (h : LexT u hard ts) (hs : u.size ≤ 20000) : lexB u = (ts, 0, 0) := by
 obtain ⟨j, hp, hg⟩ := h u 0 (Holds.self u) (fun _ => soft_end (by omega))
 rw [moved_zero] at hp
 have hj := hp.le (Int.le_refl _) (by omega)
 rw [Int.zero_add] at hg
 refine lexB_ok hs hp ?_
 rw [skip_end hj.1 hg]
 omega
end Go.Proofs.YtonhcfecfifghaaDoor.PPx
namespace Go.Proofs.YtonhcfecfifghaaDoor.PPx
open Go.RowKit Go.Proofs.YtonhcfecfifghaaDoorW.PrintWords Go.Proofs.YtonhcfecfifghaaDoorW.PrintLast Go.Proofs.YtonhcfecfifghaaDoorW.PrintMore
set_option linter.unusedVariables false
def Digs (d : ByteArray) : Prop := ∀ x : Int, 0 ≤ x → x < (d.size : Int) → 48 ≤ bt d x ∧ bt d x ≤ 57
def sgn (sg : Bool) : ByteArray := if sg = true then ⟨#[45]⟩ else ⟨#[]⟩
end Go.Proofs.YtonhcfecfifghaaDoor.PPx
namespace Go.Proofs.YtonhcfecfifghaaDoor.PPx
open Go.RowKit Go.Proofs.YtonhcfecfifghaaDoorW.PrintWords Go.Proofs.YtonhcfecfifghaaDoorW.PrintLast Go.Proofs.YtonhcfecfifghaaDoorW.PrintMore
set_option linter.unusedVariables false
def kt (ts : List S44) : List (Int × ByteArray) := ts.map fun t => (t.f0, t.f1)
theorem kt_append (a b : List S44) : kt (a ++ b) = kt a ++ kt b := by simp [kt]
theorem kt_moved (d : Int) (a : List S44) : kt (moved d a) = kt a := by simp [kt, moved]
def LexK (u : ByteArray) (hard : Bool) (ks : List (Int × ByteArray)) : Prop := ∃ ts, LexT u hard ts ∧ kt ts = ks
theorem LexK.append {u v : ByteArray} {a b : Bool} {ks ls : List (Int × ByteArray)} (h : LexK u a ks) (g : LexK v b ls) (hs : a = true → SoftHd v) : LexK (u ++ v) b (ks ++ ls) := by
 obtain ⟨ts, h1, h2⟩ := h
 obtain ⟨us, g1, g2⟩ := g
 exact ⟨_, h1.append g1 hs, by rw [kt_append, kt_moved, h2, g2]⟩
theorem LexK.hard {u v : ByteArray} {b : Bool} {ks ls : List (Int × ByteArray)} (h : LexK u true ks) (g : LexK v b ls) (hs : SoftHd v) : LexK (u ++ v) b (ks ++ ls) := h.append g (fun _ => hs)
theorem LexK.tok {k : Int} {w : ByteArray} (h : TokText k w) : LexK w true [(k, w)] := ⟨_, LexT.tok h, rfl⟩
theorem LexK.blank {g : ByteArray} (h : Blank g) : LexK g false [] := ⟨_, LexT.blank h, rfl⟩
theorem LexK.sign {w : ByteArray} (h1 : w.size = 1) (h4 : at_ w 0 = 4) : LexK w false [(3, w)] := ⟨_, LexT.sign h1 h4, rfl⟩
def sp1 : ByteArray := ⟨#[32]⟩
def nl1 : ByteArray := ⟨#[10]⟩
def semi : ByteArray := ⟨#[59]⟩
def obr : ByteArray := ⟨#[123]⟩
def cbr : ByteArray := ⟨#[125]⟩
def opar : ByteArray := ⟨#[40]⟩
def cpar : ByteArray := ⟨#[41]⟩
def comma : ByteArray := ⟨#[44]⟩
def wGo : ByteArray := ⟨#[103, 111]⟩
def wHome : ByteArray := ⟨#[104, 111, 109, 101]⟩
def wPick : ByteArray := ⟨#[112, 105, 99, 107]⟩
def wPut : ByteArray := ⟨#[112, 117, 116]⟩
def wHand : ByteArray := ⟨#[104, 97, 110, 100]⟩
def wWait : ByteArray := ⟨#[119, 97, 105, 116]⟩
def wWhen : ByteArray := ⟨#[119, 104, 101, 110]⟩
def wBoth : ByteArray := ⟨#[98, 111, 116, 104]⟩
def numB (n : Int) : ByteArray := ⟨(Lib.itoa n).toArray⟩
def Small (n : Int) : Prop := -1000000000 < n ∧ n < 1000000000
def triK (q : S52) : List (Int × ByteArray) := [(3, opar), (2, numB q.f0), (3, comma), (2, numB q.f1), (3, comma), (2, numB q.f2), (3, cpar)]
def SmallQ (q : S52) : Prop := Small q.f0 ∧ Small q.f1 ∧ Small q.f2
def triB (q : S52) : ByteArray := tripleB (numB q.f0) (numB q.f1) (numB q.f2)
end Go.Proofs.YtonhcfecfifghaaDoor.PPx
namespace Go.Proofs.YtonhcfecfifghaaDoor.PPx
open Go.RowKit Go.Proofs.YtonhcfecfifghaaDoorW.PrintWords Go.Proofs.YtonhcfecfifghaaDoorW.PrintLast Go.Proofs.YtonhcfecfifghaaDoorW.PrintMore
set_option linter.unusedVariables false
def NameOK (s : ByteArray) : Prop := TokText 1 s ∧ s.size ≤ 12 ∧ isWord s = false
def none0 : ByteArray := ⟨#[]⟩
inductive PlainOK : S55 → Prop where
 | go0 {q : S52} {a : Int} (h : SmallQ q) : PlainOK ⟨1, 0, none0, none0, 0, ⟨q, zJ⟩, [], a⟩
 | go1 {q : S52} {a : Int} (h : SmallQ q) : PlainOK ⟨1, 1, none0, none0, 0, ⟨zJ, q⟩, [], a⟩
 | home {m a : Int} (h : m = 0 ∨ m = 1) : PlainOK ⟨2, m, none0, none0, 0, ⟨zJ, zJ⟩, [], a⟩
 | pick {m a : Int} {s : ByteArray} (h : m = 0 ∨ m = 1) (hs : NameOK s) : PlainOK ⟨3, m, s, none0, 0, ⟨zJ, zJ⟩, [], a⟩
 | put {m a : Int} {s : ByteArray} (h : m = 0 ∨ m = 1) (hs : NameOK s) : PlainOK ⟨4, m, none0, s, 0, ⟨zJ, zJ⟩, [], a⟩
 | hand {m a : Int} {s : ByteArray} (h : m = 0 ∨ m = 1) (hs : NameOK s) : PlainOK ⟨5, m, none0, s, 0, ⟨zJ, zJ⟩, [], a⟩
 | wait {n a : Int} (h : Small n) : PlainOK ⟨6, 0, none0, none0, n, ⟨zJ, zJ⟩, [], a⟩
 | when_ {s t : ByteArray} {l : List S55} {a : Int} (hs : NameOK s) (ht : NameOK t) : PlainOK ⟨7, 0, s, t, 0, ⟨zJ, zJ⟩, l, a⟩
 | both {q p : S52} {a : Int} (h : SmallQ q) (g : SmallQ p) : PlainOK ⟨8, 0, none0, none0, 0, ⟨q, p⟩, [], a⟩
def lineK (x : S55) : List (Int × ByteArray) :=
 if x.f0 = 1 then [(1, wGo), (2, numB x.f1)] ++ triK (if x.f1 = 0 then x.f5.f0 else x.f5.f1) ++ [(3, semi)]
 else if x.f0 = 2 then [(1, wHome), (2, numB x.f1), (3, semi)]
 else if x.f0 = 3 then [(1, wPick), (2, numB x.f1), (1, x.f2), (3, semi)]
 else if x.f0 = 4 then [(1, wPut), (2, numB x.f1), (1, x.f3), (3, semi)]
 else if x.f0 = 5 then [(1, wHand), (2, numB x.f1), (1, x.f3), (3, semi)]
 else if x.f0 = 6 then [(1, wWait), (2, numB x.f4), (3, semi)]
 else if x.f0 = 7 then [(1, wWhen), (1, x.f3), (1, x.f2), (3, obr)]
 else [(1, wBoth)] ++ triK x.f5.f0 ++ triK x.f5.f1 ++ [(3, semi)]
end Go.Proofs.YtonhcfecfifghaaDoor.PPx
namespace Go.Proofs.YtonhcfecfifghaaDoor.PPx
open Go.RowKit Go.Proofs.YtonhcfecfifghaaDoorW.PrintWords Go.Proofs.YtonhcfecfifghaaDoorW.PrintLast Go.Proofs.YtonhcfecfifghaaDoorW.PrintMore
set_option linter.unusedVariables false
inductive VLs : Nat → List S55 → Nat → List (Int × ByteArray) → Prop where
 | nil (d : Nat) : VLs d [] 0 []
 | plain {d n : Nat} {x : S55} {l : List S55} {ks : List (Int × ByteArray)} : PlainOK x → x.f0 ≠ 7 → VLs d l n ks → VLs d (x :: l) (n + 1) (lineK x ++ ks)
 | when_ {d n m : Nat} {x : S55} {l : List S55} {ks ls : List (Int × ByteArray)} : PlainOK x → x.f0 = 7 → VLs d x.f6 m ls → VLs (d + 1) l n ks → VLs (d + 1) (x :: l) (n + m + 1) (lineK x ++ (ls ++ ((3, cbr) :: ks)))
end Go.Proofs.YtonhcfecfifghaaDoor.PPx
namespace Go.Proofs.YtonhcfecfifghaaDoor.PPx
open Go.RowKit Go.Proofs.YtonhcfecfifghaaDoorW.PrintWords Go.Proofs.YtonhcfecfifghaaDoorW.PrintLast Go.Proofs.YtonhcfecfifghaaDoorW.PrintMore
set_option linter.unusedVariables false
theorem decFrom_app : ∀ (l m : List UInt8) (acc : Nat), Lib.decFrom acc (l ++ m) = (Lib.decFrom acc l).bind fun a => Lib.decFrom a m
 | [], m, acc => rfl
 | b :: l, m, acc => by
  simp only [List.cons_append, Lib.decFrom]
  cases Lib.digitVal b with
  | none => rfl
  | some d => exact decFrom_app l m _
def atA (x : S55) (a : Int) : S55 := ⟨x.f0, x.f1, x.f2, x.f3, x.f4, x.f5, x.f6, a⟩
end Go.Proofs.YtonhcfecfifghaaDoor.PPx
namespace Go.Proofs.YtonhcfecfifghaaDoor.PPx
open Go.RowKit Go.Proofs.YtonhcfecfifghaaDoorW.PrintWords Go.Proofs.YtonhcfecfifghaaDoorW.PrintLast Go.Proofs.YtonhcfecfifghaaDoorW.PrintMore
set_option linter.unusedVariables false
inductive SimL : List S55 → List S55 → Prop where
 | nil : SimL [] []
 | cons {x y : S55} {l m : List S55} : x.f0 = y.f0 → x.f1 = y.f1 → x.f2 = y.f2 → x.f3 = y.f3 → x.f4 = y.f4 → x.f5 = y.f5 → SimL x.f6 y.f6 → SimL l m → SimL (x :: l) (y :: m)
theorem SimL.len {l m : List S55} (h : SimL l m) : l.length = m.length := by
 induction h with
 | nil => rfl
 | cons _ _ _ _ _ _ _ _ _ ih => simp [ih]
theorem VLs.sim {d n : Nat} {l : List S55} {ks : List (Int × ByteArray)} (h : VLs d l n ks) : SimL l l := by
 induction h with
 | nil => exact .nil
 | @plain d n x l ks hx h7 _ ih =>
  refine .cons rfl rfl rfl rfl rfl rfl ?_ ih
  cases hx <;> first | exact .nil | exact absurd rfl h7
 | when_ _ _ _ _ ihk ihl => exact .cons rfl rfl rfl rfl rfl rfl ihk ihl
theorem stmts_lift {fin : Int} {deep : Int} {s : Rs} {out : List S55} {r : List S55 × Rs} {k k' : Nat} (hk : k ≤ k') (h : stmtsS fin k deep s out = some r) : stmtsS fin k' deep s out = some r := by
 obtain ⟨j, rfl⟩ := Nat.exists_eq_add_of_le hk
 induction j with
 | zero => exact h
 | succ j ih => exact stmtsS_le _ _ _ _ _ _ (ih (by omega))
end Go.Proofs.YtonhcfecfifghaaDoor.PPx
namespace Go.Proofs.YtonhcfecfifghaaDoor.PPx
open Go.RowKit Go.Proofs.YtonhcfecfifghaaDoorW.PrintWords Go.Proofs.YtonhcfecfifghaaDoorW.PrintLast Go.Proofs.YtonhcfecfifghaaDoorW.PrintMore
set_option linter.unusedVariables false
theorem same_true {EQ : List S55 → List S55 → Option Bool} {x y : S55} (h0 : x.f0 = y.f0) (h1 : x.f1 = y.f1) (h2 : x.f2 = y.f2) (h3 : x.f3 = y.f3) (h4 : x.f4 = y.f4) (h5 : x.f5 = y.f5) (h : EQ x.f6 y.f6 = some true) : sameS EQ x y = some true := by
 unfold sameS sameE
 rw [h0, h1, h2, h3, h4, h5, h]
 simp
theorem SimL.equal {l m : List S55} (h : SimL l m) : ∃ K, ∀ k, K ≤ k → parser_Equal.f k l m = some true := by
 have key : ∃ K, ∀ k, K ≤ k → eqLoop (parser_Equal.f k) l m = some true := by
  induction h with
  | nil => exact ⟨0, fun k _ => rfl⟩
  | @cons x y l m h0 h1 h2 h3 h4 h5 hk hl ihk ihl =>
   obtain ⟨K1, g1⟩ := ihk
   obtain ⟨K2, g2⟩ := ihl
   refine ⟨max (K1 + 1) K2, fun k hkk => ?_⟩
   have hkid : parser_Equal.f k x.f6 y.f6 = some true := by
    obtain ⟨k, rfl⟩ : ∃ j, k = j + 1 := ⟨k - 1, by omega⟩
    show (if x.f6.length = y.f6.length then eqLoop (parser_Equal.f k) x.f6 y.f6 else some false) = _
    rw [if_pos hk.len]
    exact g1 k (by omega)
   show ((sameS (parser_Equal.f k) x y).bind fun t => if t = true then eqLoop (parser_Equal.f k) l m else some false) = _
   rw [same_true h0 h1 h2 h3 h4 h5 hkid]
   exact g2 k (by omega)
 obtain ⟨K, hK⟩ := key
 refine ⟨K + 1, fun k hk => ?_⟩
 obtain ⟨k, rfl⟩ : ∃ j, k = j + 1 := ⟨k - 1, by omega⟩
 show (if l.length = m.length then eqLoop (parser_Equal.f k) l m else some false) = _
 rw [if_pos h.len]
 exact hK k (by omega)
theorem SimL.symm {l m : List S55} (h : SimL l m) : SimL m l := by
 induction h with
 | nil => exact .nil
 | cons h0 h1 h2 h3 h4 h5 _ _ ihk ihl => exact .cons h0.symm h1.symm h2.symm h3.symm h4.symm h5.symm ihk ihl
end Go.Proofs.YtonhcfecfifghaaDoor.PPx
namespace Go.Proofs.YtonhcfecfifghaaDoor.PPx
open Go.RowKit Go.Proofs.YtonhcfecfifghaaDoorW.PrintWords Go.Proofs.YtonhcfecfifghaaDoorW.PrintLast Go.Proofs.YtonhcfecfifghaaDoorW.PrintMore
set_option linter.unusedVariables false
def TokOK (ts : List S44) : Prop := ∀ t ∈ ts, (t.f0 = 1 → TokText 1 t.f1) ∧ (t.f0 = 2 → Small (numOf t))
def Sub (s s' : Rs) : Prop := s'.toks <:+ s.toks ∧ s'.n = s.n ∧ s'.fl = s.fl ∧ s'.over = s.over
theorem Sub.refl (s : Rs) : Sub s s := ⟨List.suffix_refl _, rfl, rfl, rfl⟩
theorem Sub.trans {a b c : Rs} (h : Sub a b) (g : Sub b c) : Sub a c := ⟨g.1.trans h.1, g.2.1.trans h.2.1, g.2.2.1.trans h.2.2.1, g.2.2.2.trans h.2.2.2⟩
theorem take_sub (p : S44 → Bool) (fin : Int) (s : Rs) : Sub s (takeS p fin s).2 ∧ ∀ t, (takeS p fin s).1 = .ok t → t ∈ s.toks ∧ p t = true ∧ t.f0 ≠ 0 := by
 obtain ⟨ts, n, fl, o⟩ := s
 cases ts with
 | nil => exact ⟨Sub.refl _, fun t h => by simp [takeS] at h⟩
 | cons t ts =>
  by_cases c : (t.f0 == 0 || !p t) = true
  · have e : takeS p fin ⟨t :: ts, n, fl, o⟩ = (.error (110, t.f2), ⟨t :: ts, n, fl, o⟩) := by simp only [takeS, if_pos c]
    rw [e]
    exact ⟨Sub.refl _, fun t h => by simp at h⟩
  · have e : takeS p fin ⟨t :: ts, n, fl, o⟩ = (.ok t, ⟨ts, n, fl, o⟩) := by simp only [takeS, if_neg c]
    rw [e]
    refine ⟨⟨List.suffix_cons _ _, rfl, rfl, rfl⟩, fun t' h => ?_⟩
    obtain rfl : t = t' := by simpa using h
    simp only [Bool.or_eq_true, beq_iff_eq, Bool.not_eq_true', not_or, Bool.not_eq_false] at c
    exact ⟨List.mem_cons_self, c.2, c.1⟩
theorem obind_inv {α β : Type} {r : Step α} {f : α → Rs → Option (Step β)} {y : Step β} (h : obind r f = some y) : (∃ a, r.1 = .ok a ∧ f a r.2 = some y) ∨ (∃ e, r.1 = .error e ∧ y = (.error e, r.2)) := by
 unfold obind at h
 cases hr : r.1 with
 | ok a => rw [hr] at h; exact .inl ⟨a, rfl, h⟩
 | error e => rw [hr] at h; exact .inr ⟨e, rfl, (Option.some.inj h).symm⟩
theorem map_sub {α β : Type} {r : Step α} {f : α → β} {b : β} (h : (r.map f).1 = .ok b) : ∃ a, r.1 = .ok a ∧ b = f a := by
 unfold Step.map at h
 cases hr : r.1 with
 | ok a => rw [hr] at h; simp at h; exact ⟨a, rfl, h.symm⟩
 | error e => rw [hr] at h; simp at h
theorem bind_inv {α β : Type} {r : Step α} {f : α → Rs → Step β} : (∃ a, r.1 = .ok a ∧ r.bind f = f a r.2) ∨ (∃ e, r.1 = .error e ∧ r.bind f = (.error e, r.2)) := by
 cases hr : r.1 with
 | ok a => exact .inl ⟨a, rfl, Step.bind_ok hr⟩
 | error e => exact .inr ⟨e, rfl, Step.bind_err hr⟩
theorem number_sub (fin : Int) (s : Rs) (hs : TokOK s.toks) : Sub s (numberS fin s).2 ∧ ∀ n, (numberS fin s).1 = .ok n → Small n := by
 have h := take_sub isNumber fin s
 refine ⟨h.1, fun n hn => ?_⟩
 obtain ⟨t, ht, rfl⟩ := map_sub hn
 obtain ⟨hm, hp, _⟩ := h.2 t ht
 exact (hs t hm).2 (by simpa [isNumber] using hp)
theorem arm_sub (fin : Int) (s : Rs) : Sub s (armS fin s).2 ∧ ∀ n, (armS fin s).1 = .ok n → n = 0 ∨ n = 1 := by
 have h := take_sub isArm fin s
 refine ⟨h.1, fun n hn => ?_⟩
 obtain ⟨t, ht, rfl⟩ := map_sub hn
 unfold armOf
 split
 · exact .inr rfl
 · exact .inl rfl
theorem name_sub (fin : Int) (s : Rs) (hs : TokOK s.toks) : Sub s (nameS fin s).2 ∧ ∀ n, (nameS fin s).1 = .ok n → NameOK n := by
 have h := take_sub isNamed fin s
 refine ⟨h.1, fun n hn => ?_⟩
 obtain ⟨t, ht, rfl⟩ := map_sub hn
 obtain ⟨hm, hp, _⟩ := h.2 t ht
 simp only [isNamed, Bool.and_eq_true, beq_iff_eq, decide_eq_true_eq, Bool.not_eq_true'] at hp
 exact ⟨(hs t hm).1 hp.1, by omega, hp.2.2⟩
theorem TokOK.sub {s s' : Rs} (h : TokOK s.toks) (g : Sub s s') : TokOK s'.toks := fun t ht => h t (g.1.subset ht)
def StepOK {α : Type} (P : α → Prop) (s : Rs) (r : Step α) : Prop := Sub s r.2 ∧ ∀ a, r.1 = .ok a → P a
theorem StepOK.bind {α β : Type} {P : α → Prop} {Q : β → Prop} {s : Rs} {r : Step α} {f : α → Rs → Step β} (h : StepOK P s r) (g : ∀ a, P a → StepOK Q r.2 (f a r.2)) : StepOK Q s (r.bind f) := by
 rcases bind_inv (r := r) (f := f) with ⟨a, ha, e⟩ | ⟨e', he, e⟩
 · rw [e]
   have := g a (h.2 a ha)
   exact ⟨h.1.trans this.1, this.2⟩
 · rw [e]
   exact ⟨h.1, fun b hb => by simp at hb⟩
def OOK {β : Type} (Q : β → Prop) (s : Rs) (o : Option (Step β)) : Prop := ∀ y, o = some y → StepOK Q s y
theorem OOK.obind {α β : Type} {P : α → Prop} {Q : β → Prop} {s : Rs} {r : Step α} {f : α → Rs → Option (Step β)} (h : StepOK P s r) (g : ∀ a, P a → OOK Q r.2 (f a r.2)) : OOK Q s (PPx.obind r f) := by
 intro y hy
 rcases obind_inv hy with ⟨a, ha, e⟩ | ⟨e', he, e⟩
 · have := g a (h.2 a ha) y e
   exact ⟨h.1.trans this.1, this.2⟩
 · rw [e]
   exact ⟨h.1, fun b hb => by simp at hb⟩
theorem sign_ok' (c : ByteArray) (fin : Int) (s : Rs) : StepOK (fun _ => True) s (signS c fin s) := ⟨(take_sub _ fin s).1, fun _ _ => trivial⟩
theorem triple_sub (fin : Int) (s : Rs) (hs : TokOK s.toks) : StepOK SmallQ s (tripleS fin s) := by
 unfold tripleS
 refine StepOK.bind (sign_ok' _ fin s) fun _ _ => ?_
 have h1 := hs.sub (sign_ok' ⟨#[40]⟩ fin s).1
 refine StepOK.bind (number_sub fin _ h1) fun a ha => ?_
 have h2 := h1.sub (number_sub fin _ h1).1
 unfold tri1
 refine StepOK.bind (sign_ok' _ fin _) fun _ _ => ?_
 have h3 := h2.sub (sign_ok' ⟨#[44]⟩ fin _).1
 refine StepOK.bind (number_sub fin _ h3) fun b hb => ?_
 have h4 := h3.sub (number_sub fin _ h3).1
 unfold tri2
 refine StepOK.bind (sign_ok' _ fin _) fun _ _ => ?_
 have h5 := h4.sub (sign_ok' ⟨#[44]⟩ fin _).1
 refine StepOK.bind (number_sub fin _ h5) fun c hc => ?_
 unfold tri3
 refine StepOK.bind (sign_ok' _ fin _) fun _ _ => ?_
 exact ⟨Sub.refl _, fun q hq => by obtain rfl := Except.ok.inj hq; exact ⟨ha, hb, hc⟩⟩
theorem semi_sub {P : S55 → Prop} (fin : Int) (x : S55) (s : Rs) (hx : P x) : OOK P s (semiS fin x s) := by
 intro y hy
 obtain rfl := Option.some.inj hy
 refine StepOK.bind (sign_ok' _ fin s) fun _ _ => ?_
 exact ⟨Sub.refl _, fun q hq => by obtain rfl := Except.ok.inj hq; exact hx⟩
theorem rest_sub (rec : Int → Rs → Option (List S55 × Rs)) (fin deep k c : Int) (s : Rs) (hs : TokOK s.toks) (h7 : k ≠ 7) (hk : 1 ≤ k ∧ k ≤ 8) : OOK (fun x => PlainOK x ∧ x.f0 ≠ 7) s (restS rec fin deep k c s) := by
 unfold restS
 by_cases k1 : k = 1
 · rw [if_pos k1]
   refine OOK.obind (arm_sub fin s) fun a ha => ?_
   refine OOK.obind (triple_sub fin _ (hs.sub (arm_sub fin s).1)) fun q hq => ?_
   refine semi_sub fin _ _ ?_
   rcases ha with rfl | rfl
   · exact ⟨.go0 hq, by simp⟩
   · exact ⟨.go1 hq, by simp⟩
 rw [if_neg k1]
 by_cases k2 : k = 2
 · rw [if_pos k2]
   refine OOK.obind (arm_sub fin s) fun a ha => ?_
   exact semi_sub fin _ _ ⟨.home ha, by simp⟩
 rw [if_neg k2]
 by_cases k3 : k = 3
 · rw [if_pos k3]
   refine OOK.obind (arm_sub fin s) fun a ha => ?_
   refine OOK.obind (name_sub fin _ (hs.sub (arm_sub fin s).1)) fun q hq => ?_
   exact semi_sub fin _ _ ⟨.pick ha hq, by simp⟩
 rw [if_neg k3]
 by_cases k4 : k = 4
 · rw [if_pos k4]
   refine OOK.obind (arm_sub fin s) fun a ha => ?_
   refine OOK.obind (name_sub fin _ (hs.sub (arm_sub fin s).1)) fun q hq => ?_
   exact semi_sub fin _ _ ⟨.put ha hq, by simp⟩
 rw [if_neg k4]
 by_cases k5 : k = 5
 · rw [if_pos k5]
   refine OOK.obind (arm_sub fin s) fun a ha => ?_
   refine OOK.obind (name_sub fin _ (hs.sub (arm_sub fin s).1)) fun q hq => ?_
   exact semi_sub fin _ _ ⟨.hand ha hq, by simp⟩
 rw [if_neg k5]
 by_cases k6 : k = 6
 · rw [if_pos k6]
   refine OOK.obind (number_sub fin s hs) fun a ha => ?_
   exact semi_sub fin _ _ ⟨.wait ha, by simp⟩
 rw [if_neg k6]
 have k8 : k = 8 := by omega
 rw [if_pos k8]
 refine OOK.obind (triple_sub fin s hs) fun q hq => ?_
 refine OOK.obind (triple_sub fin _ (hs.sub (triple_sub fin s hs).1)) fun p hp => ?_
 exact semi_sub fin _ _ ⟨.both hq hp, by simp⟩
end Go.Proofs.YtonhcfecfifghaaDoor.PPx
namespace Go.Proofs.YtonhcfecfifghaaDoor.PPx
open Go.RowKit Go.Proofs.YtonhcfecfifghaaDoorW.PrintWords Go.Proofs.YtonhcfecfifghaaDoorW.PrintLast Go.Proofs.YtonhcfecfifghaaDoorW.PrintMore
set_option linter.unusedVariables false
theorem index_ge (l : List ByteArray) (s : ByteArray) (hl : l.length ≤ 1000) : ∀ (k : Nat) (i r : Int), 0 ≤ i → i ≤ l.length → slices_Index_string_string.l0 k l s l.length i = some r → r = -1 ∨ i ≤ r := by
 intro k
 induction k with
 | zero => intro i r _ _ h; simp [slices_Index_string_string.l0] at h
 | succ k ih =>
  intro i r h0 h1 h
  rw [slices_Index_string_string.l0] at h
  by_cases hlt : i < (l.length : Int)
  · rw [if_pos hlt, if_pos h0, if_pos hlt, wrap_small' (by omega) (by omega)] at h
    split at h
    · have := Option.some.inj h; omega
    · have := ih (i + 1) r (by omega) (by omega) h; omega
  · rw [if_neg hlt] at h
    have := Option.some.inj h; omega
theorem word0 {s : ByteArray} (h : wordIx s = 0) : s = ⟨#[]⟩ := by
 have hf := (wordIx_f s).1
 rw [h] at hf
 have hf : slices_Index_string_string.l0 20 wordsL s (wordsL.length : Int) 0 = some 0 := hf
 rw [slices_Index_string_string.l0, if_pos (by decide), if_pos (by decide), if_pos (by decide), wrap_small' (by decide) (by decide)] at hf
 by_cases he : s.toList = (rdOf ByteArray.empty wordsL 0).toList
 · rw [ByteArray.toList_eq, ByteArray.toList_eq] at he
   apply ByteArray.ext
   exact Array.toList_inj.1 he
 · rw [if_neg he] at hf
   have := index_ge wordsL s (by decide) _ _ _ (by decide) (by decide) hf
   omega
def Inv (s : Rs) : Prop := 0 ≤ s.n ∧ s.n ≤ 65 ∧ (s.over = false → s.n ≤ 64)
def Res (deep : Int) (s : Rs) (out : List S55) (r : List S55 × Rs) : Prop := r.2.toks <:+ s.toks ∧ Inv r.2 ∧ s.n ≤ r.2.n ∧ ∃ l n ks, r.1 = out ++ l ∧ VLs (4 - deep).toNat l n ks ∧ s.n + n ≤ r.2.n ∧ (n ≠ 0 → s.n + n ≤ 64)
def RecOK (deep : Int) (rec : Int → Rs → Option (List S55 × Rs)) : Prop := ∀ s r, rec (deep + 1) s = some r → TokOK s.toks → Inv s → deep ≠ 4 → Res (deep + 1) s [] r
theorem Inv.sub {s s' : Rs} (h : Inv s) (g : Sub s s') : Inv s' := by
 obtain ⟨_, hn, _, ho⟩ := g
 unfold Inv
 rw [hn, ho]
 exact h
def StmOut (deep : Int) (s : Rs) (y : Step S55) : Prop := y.2.toks <:+ s.toks ∧ Inv y.2 ∧ s.n ≤ y.2.n ∧ ∀ x, y.1 = .ok x → PlainOK x ∧ ((x.f0 ≠ 7) ∨ (x.f0 = 7 ∧ deep ≠ 4 ∧ ∃ m ls, VLs (4 - (deep + 1)).toNat x.f6 m ls ∧ s.n + m ≤ y.2.n))
theorem out_of_step {deep : Int} {s s1 : Rs} {y : Step S55} (h1 : Sub s s1) (hI : Inv s) (h : StepOK (fun x => PlainOK x ∧ x.f0 ≠ 7) s1 y) : StmOut deep s y := by
 have hs := h1.trans h.1
 refine ⟨hs.1, hI.sub hs, by rw [hs.2.1]; exact Int.le_refl _, fun x hx => ⟨(h.2 x hx).1, .inl (h.2 x hx).2⟩⟩
theorem err_out {deep : Int} {s s1 : Rs} {e : Int × Int} (h1 : Sub s s1) (hI : Inv s) : StmOut deep s (.error e, s1) := ⟨h1.1, hI.sub h1, by rw [h1.2.1]; exact Int.le_refl _, fun x hx => by simp at hx⟩
theorem isWord_ix {s : ByteArray} (h : isWord s = true) : 0 ≤ wordIx s ∧ wordIx s ≤ 8 := by
 have h1 : wordIx s ≥ 0 := by simpa [isWord] using h
 have := (wordIx_f s).2.2
 omega
theorem stmt_sound {rec : Int → Rs → Option (List S55 × Rs)} {fin deep : Int} (hr : RecOK deep rec) (hd : 0 ≤ deep) (hd4 : deep ≤ 4) {s : Rs} (hs : TokOK s.toks) (hI : Inv s) {y : Step S55} (h : stmtS rec fin deep s = some y) : StmOut deep s y := by
 unfold stmtS at h
 rcases obind_inv h with ⟨t, ht, h⟩ | ⟨e, he, rfl⟩
 case inr => exact err_out (take_sub isKey fin s).1 hI
 have htk := take_sub isKey fin s
 obtain ⟨hm, hp, hn0⟩ := htk.2 t ht
 have hk : t.f0 = 1 ∧ isWord t.f1 = true := by simpa [isKey] using hp
 have hix := isWord_ix hk.2
 have hs1 := hs.sub htk.1
 have hI1 := hI.sub htk.1
 by_cases h0 : wordIx t.f1 = 0
 · -- the empty keyword is no token
   exfalso
   have hz := ((hs t hm).1 hk.1).1
   rw [word0 h0] at hz
   exact absurd hz (by decide)
 by_cases h7 : wordIx t.f1 = 7
 · rw [h7] at h
   unfold restS at h
   rw [if_neg (by decide), if_neg (by decide), if_neg (by decide), if_neg (by decide), if_neg (by decide), if_neg (by decide), if_neg (by decide), if_pos rfl] at h
   by_cases h4 : deep = 4
   · rw [if_pos h4] at h
     obtain rfl := Option.some.inj h
     exact err_out htk.1 hI
   rw [if_neg h4] at h
   have hw : wrap64 (deep + 1) = deep + 1 := by unfold wrap64; omega
   have n1 := name_sub fin (takeS isKey fin s).2 hs1
   rcases obind_inv h with ⟨p, hp1, h⟩ | ⟨e, he, rfl⟩
   case inr => exact err_out (htk.1.trans n1.1) hI
   have hs2 := hs1.sub n1.1
   have n2 := name_sub fin _ hs2
   rcases obind_inv h with ⟨q, hq1, h⟩ | ⟨e, he, rfl⟩
   case inr => exact err_out (htk.1.trans (n1.1.trans n2.1)) hI
   have hs3 := hs2.sub n2.1
   have n3 := sign_ok' ⟨#[123]⟩ fin (nameS fin (nameS fin (takeS isKey fin s).2).2).2
   rcases obind_inv h with ⟨u, hu1, h⟩ | ⟨e, he, rfl⟩
   case inr => exact err_out (htk.1.trans (n1.1.trans (n2.1.trans n3.1))) hI
   have hs4 := hs3.sub n3.1
   have hsub := htk.1.trans (n1.1.trans (n2.1.trans n3.1))
   obtain ⟨r, hr1, h⟩ := Option.bind_eq_some_iff.1 h
   rw [hw] at hr1
   obtain ⟨ha, hb, hc, l, n, ks, hl, hv, hn, hn64⟩ := hr _ _ hr1 hs4 (hI.sub hsub) h4
   obtain rfl := Option.some.inj h
   have hn1 := hsub.2.1
   rw [List.nil_append] at hl
   have n5 := sign_ok' ⟨#[125]⟩ fin r.2
   rcases bind_inv (r := signS ⟨#[125]⟩ fin r.2) (f := fun _ s => (.ok (⟨7, 0, q, p, 0, ⟨⟨0, 0, 0⟩, ⟨0, 0, 0⟩⟩, r.1, t.f2⟩ : S55), s)) with ⟨a, ha', e⟩ | ⟨e', he, e⟩
   · rw [e]
     refine ⟨n5.1.1.trans (ha.trans hsub.1), hb.sub n5.1, by have := n5.1.2.1; simp only; omega, fun x hx => ?_⟩
     obtain rfl := Except.ok.inj hx
     refine ⟨.when_ (n2.2 q hq1) (n1.2 p hp1), .inr ⟨rfl, h4, n, ks, ?_, ?_⟩⟩
     · rw [← hl] at hv; exact hv
     · have := n5.1.2.1; simp only; omega
   · rw [e]
     refine ⟨n5.1.1.trans (ha.trans hsub.1), hb.sub n5.1, by have := n5.1.2.1; simp only; omega, fun x hx => by simp at hx⟩
 · exact out_of_step htk.1 hI (rest_sub rec fin deep _ _ _ hs1 h7 (by omega) y h)
theorem skip_suf : ∀ (ts : List S44), skipS ts <:+ ts
 | [] => List.suffix_refl _
 | x :: ts => by
  unfold skipS
  split
  · exact List.suffix_cons _ _
  · split
    · exact List.suffix_refl _
    · exact (skip_suf ts).trans (List.suffix_cons _ _)
theorem one_sound {rec : Int → Rs → Option (List S55 × Rs)} {fin deep : Int} (hr : RecOK deep rec) (hd : 0 ≤ deep) (hd4 : deep ≤ 4) {s : Rs} (hs : TokOK s.toks) (hI : Inv s) (ho : s.over = false) {x : Option S55} {s' : Rs} (h : oneS rec fin deep s = some (x, s')) :
 s'.toks <:+ s.toks ∧ Inv s' ∧ s.n ≤ s'.n ∧ ∀ z, x = some z → s'.over = false ∧ PlainOK z ∧ ((z.f0 ≠ 7) ∨ (z.f0 = 7 ∧ deep ≠ 4 ∧ ∃ m ls, VLs (4 - (deep + 1)).toNat z.f6 m ls ∧ s.n + m ≤ s'.n)) := by
 unfold oneS at h
 obtain ⟨⟨y, s1⟩, hy, h⟩ := Option.bind_eq_some_iff.1 h
 obtain ⟨h1, h2, h3, h4⟩ := stmt_sound hr hd hd4 hs hI hy
 simp only at h1 h2 h3 h4
 cases y with
 | ok z =>
  simp only [Option.some.injEq, Prod.mk.injEq] at h
  obtain ⟨hx, rfl⟩ := h
  refine ⟨h1, h2, h3, fun z' hz => ?_⟩
  by_cases hov : s1.over = true
  · rw [if_pos hov] at hx; rw [← hx] at hz; cases hz
  · rw [if_neg hov] at hx
    rw [← hx] at hz
    obtain rfl := Option.some.inj hz
    exact ⟨by simpa using hov, h4 z rfl⟩
 | error f =>
  simp only at h
  split at h
  · simp only [Option.some.injEq, Prod.mk.injEq] at h
    obtain ⟨rfl, rfl⟩ := h
    exact ⟨h1, h2, h3, fun z hz => by cases hz⟩
  · rename_i hov
    split at h
    · cases h
    · simp only [Option.some.injEq, Prod.mk.injEq] at h
      obtain ⟨rfl, rfl⟩ := h
      refine ⟨(skip_suf _).trans h1, ⟨h2.1, h2.2.1, fun _ => h2.2.2 (by simpa using hov)⟩, h3, fun z hz => by cases hz⟩
theorem stmts_sound (fin : Int) : ∀ (k : Nat) (deep : Int) (s : Rs) (out : List S55) (r : List S55 × Rs), stmtsS fin k deep s out = some r → TokOK s.toks → 0 ≤ deep → deep ≤ 4 → Inv s → Res deep s out r
 | 0, deep, s, out, r => fun h => by simp [stmtsS] at h
 | k + 1, deep, s, out, r => fun h hs hd hd4 hI => by
  have ih := stmts_sound fin k
  have none_ : ∀ (s' : Rs), s'.toks <:+ s.toks → Inv s' → s.n ≤ s'.n → Res deep s out (out, s') := fun s' a b c => ⟨a, b, c, [], 0, [], by simp, .nil _, by simpa using c, fun h => absurd rfl h⟩
  rw [stmtsS] at h
  by_cases c1 : s.over = true ∨ s.toks = []
  · rw [if_pos c1] at h
    obtain rfl := Option.some.inj h
    exact none_ s (List.suffix_refl _) hI (Int.le_refl _)
  rw [if_neg c1] at h
  have hov : s.over = false := by simpa using fun h' => c1 (.inl h')
  have h64 := hI.2.2 hov
  have hn0 := hI.1
  by_cases c2 : isSign ⟨#[125]⟩ (lookS fin s.toks) = true
  · rw [if_pos c2] at h
    by_cases c3 : deep > 0
    · rw [if_pos c3] at h
      obtain rfl := Option.some.inj h
      exact none_ s (List.suffix_refl _) hI (Int.le_refl _)
    rw [if_neg c3] at h
    split at h
    · cases h
    · obtain ⟨a, b, c, d⟩ := ih _ _ _ _ h (fun t ht => hs t (List.mem_of_mem_tail ht)) hd hd4 ⟨hI.1, hI.2.1, fun _ => h64⟩
      exact ⟨a.trans (List.tail_suffix _), b, c, d⟩
  rw [if_neg c2] at h
  have hw : wrap64 (s.n + 1) = s.n + 1 := by unfold wrap64; omega
  rw [hw] at h
  by_cases c4 : s.n + 1 > 64
  · rw [if_pos c4] at h
    split at h
    · cases h
    · obtain rfl := Option.some.inj h
      exact none_ _ (List.suffix_refl _) ⟨by simp only; omega, by simp only; omega, fun h => by simp at h⟩ (by simp only; omega)
  rw [if_neg c4] at h
  split at h
  · cases h
  obtain ⟨⟨x, s1⟩, hx, h⟩ := Option.bind_eq_some_iff.1 h
  have hrec : RecOK deep (fun d s => stmtsS fin k d s []) := fun s' r' h' ht hi hd' => ih _ _ _ _ h' ht (by omega) (by omega) hi
  obtain ⟨h1, h2, h3, h4⟩ := one_sound hrec hd hd4 (s := { s with n := s.n + 1 }) hs ⟨by simp only; omega, by simp only; omega, fun _ => by simp only; omega⟩ hov hx
  simp only at h1 h2 h3 h4 h
  cases x with
  | none =>
   obtain ⟨a, b, c, l, n, ks, hl, hv, hn, hn64⟩ := ih _ _ _ _ h (fun t ht => hs t (h1.subset ht)) hd hd4 h2
   exact ⟨a.trans h1, b, by omega, l, n, ks, hl, hv, by omega, fun hne => by have := hn64 hne; omega⟩
  | some z =>
   obtain ⟨hov1, hz, hz7⟩ := h4 z rfl
   have h641 := h2.2.2 hov1
   obtain ⟨a, b, c, l, n, ks, hl, hv, hn, hn64⟩ := ih _ _ _ _ h (fun t ht => hs t (h1.subset ht)) hd hd4 h2
   refine ⟨a.trans h1, b, by omega, z :: l, ?_⟩
   rcases hz7 with hz7 | ⟨hz7, hd', m, ls, hvk, hmk⟩
   · refine ⟨n + 1, lineK z ++ ks, by rw [hl]; simp, .plain hz hz7 hv, by omega, fun _ => ?_⟩
     by_cases hn' : n = 0
     · omega
     · have := hn64 hn'; omega
   · obtain ⟨d, hd2⟩ : ∃ d, (4 - deep).toNat = d + 1 := ⟨(4 - deep).toNat - 1, by omega⟩
     have hd3 : (4 - (deep + 1)).toNat = d := by omega
     rw [hd2] at hv ⊢
     rw [hd3] at hvk
     refine ⟨n + m + 1, lineK z ++ (ls ++ ((3, cbr) :: ks)), by rw [hl]; simp, .when_ hz hz7 hvk hv, by omega, fun _ => ?_⟩
     by_cases hn' : n = 0
     · omega
     · have := hn64 hn'; omega
end Go.Proofs.YtonhcfecfifghaaDoor.PPx
namespace Go.Proofs.YtonhcfecfifghaaDoor.PPx
open Go.RowKit Go.Proofs.YtonhcfecfifghaaDoorW.PrintWords Go.Proofs.YtonhcfecfifghaaDoorW.PrintLast Go.Proofs.YtonhcfecfifghaaDoorW.PrintMore
set_option linter.unusedVariables false
theorem tok_alone {s : ByteArray} {p : Int} (h0 : 0 ≤ p) (h1 : p < (s.size : Int)) (hok : (nextAt s p).2.2.2.1 = true) (h5 : at_ s p ≠ 5) (h6 : at_ s p ≠ 6) : TokText (nextAt s p).1 (nextAt s p).2.1 := by
 obtain ⟨a1, a2, a3⟩ := nextAt_at hok
 have hn := nextAt_range s p h0 (by omega) hok
 have hsz := size_extractI (s := s) (a := p) (b := (nextAt s p).2.2.2.2) h0 (by omega) hn.2
 have M : Move s (s.extract p.toNat (nextAt s p).2.2.2.2.toNat) (-p) p (nextAt s p).2.2.2.2 := by
  refine ⟨h0, hn.2, by omega, by omega, fun x hx hx2 => ?_⟩
  rw [bt_extract h0 (by omega) (by omega) hn.2]
  congr 1; omega
 have hx := M.next (i := p) (Int.le_refl _) (by omega) (Int.le_refl _) (fun _ => soft_end (by omega)) (.inr (.inl hok))
 have hat := M.at (x := p) (Int.le_refl _) (by omega)
 rw [show p + -p = 0 by omega] at hx hat
 rw [hok, a1, ← a3] at hx
 rw [← a3] at hat hsz
 simp only [if_true] at hx
 refine ⟨by omega, by rw [hat]; exact h5, by rw [hat]; exact h6, ?_⟩
 rw [hx]
 refine Prod.ext rfl (Prod.ext rfl (Prod.ext (by simp only; omega) (Prod.ext rfl (by simp only; omega))))
theorem path_tok {s : ByteArray} {i j : Int} {ts : List S44} (h : Path s i ts j) : 0 ≤ i → i ≤ (s.size : Int) → ∀ t ∈ ts, ∃ p, i ≤ p ∧ p < (s.size : Int) ∧ at_ s p ≠ 5 ∧ at_ s p ≠ 6 ∧ (nextAt s p).2.2.2.1 = true ∧ t = tokAt s p := by
 induction h with
 | nil i => intro _ _ t ht; cases ht
 | @cons i j ts hlt hok hp ih =>
  intro h0 h1 t ht
  have hr := skipTo_range s i h0 h1
  have hn := nextAt_range s _ (by omega) hr.2 hok
  obtain ⟨_, h5, h6⟩ := skip_gap s i h0 h1
  rcases List.mem_cons.1 ht with rfl | ht
  · exact ⟨skipTo s i, hr.1, hlt, h5, h6, hok, rfl⟩
  · obtain ⟨p, hp0, hp1⟩ := ih (by omega) hn.2 t ht
    exact ⟨p, by omega, hp1⟩
theorem decNat_lt {l : List UInt8} {m : Nat} (h : Lib.decNat l = some m) (hl : l.length ≤ 9) : m < 1000000000 := by
 unfold Lib.decNat at h
 split at h
 · cases h
 · have h1 := Lib.decFrom_lt _ 0 m h
   have h2 := Nat.pow_le_pow_right (n := 10) (by decide) hl
   rw [Nat.zero_add, Nat.one_mul] at h1
   have e : 10 ^ 9 = 1000000000 := by decide
   omega
theorem atoi_small {b : UInt8} {r : List UInt8} {n : Int} (h : Lib.atoi (b :: r) = some n) (hr : r.length ≤ 8 ∨ (b = 45 ∧ r.length ≤ 9)) : Small n := by
 unfold Lib.atoi at h
 have h : (if (b == 45) = true then (Lib.decNat r).map fun (m : Nat) => -(m : Int) else if (b == 43) = true then (Lib.decNat r).map fun (m : Nat) => (m : Int) else (Lib.decNat (b :: r)).map fun (m : Nat) => (m : Int)) = some n := h
 by_cases c : (b == 45) = true
 · rw [if_pos c] at h
   obtain ⟨m, hm, rfl⟩ := Option.map_eq_some_iff.1 h
   have := decNat_lt hm (by omega)
   exact ⟨by omega, by omega⟩
 · rw [if_neg c] at h
   have hr8 : r.length ≤ 8 := by
    rcases hr with h | ⟨rfl, _⟩
    · exact h
    · exact absurd rfl c
   split at h
   · obtain ⟨m, hm, rfl⟩ := Option.map_eq_some_iff.1 h
     have := decNat_lt hm (by omega)
     exact ⟨by omega, by omega⟩
   · obtain ⟨m, hm, rfl⟩ := Option.map_eq_some_iff.1 h
     have := decNat_lt hm (by simp; omega)
     exact ⟨by omega, by omega⟩
theorem token_small {s : ByteArray} {i : Int} (h0 : 0 ≤ i) (hk : at_ s i = 7 ∨ at_ s i = 2) (hok : numOK (at_ s i == 7) (s.extract (firstAt (at_ s i == 7) i).toNat (scanTo (digitAt s) s.size (firstAt (at_ s i == 7) i)).toNat) = true) :
 ∀ n, Lib.atoi (s.extract i.toNat (scanTo (digitAt s) s.size (firstAt (at_ s i == 7) i)).toNat).data.toList = some n → Small n := by
 intro n hn
 have hlt : i < (s.size : Int) := by rcases hk with h | h <;> exact (at_some (by decide) h).1
 have hsz := numOK_size hok
 rcases hk with h | h
 · have hb : (at_ s i == 7) = true := by simp [h]
   rw [hb] at hok hsz hn
   have hf : firstAt true i = i + 1 := rfl
   rw [hf] at hok hsz hn
   have hr := scanTo_range (digitAt s) s.size (i + 1) (by omega)
   rw [ByteArray.size_extract] at hsz
   obtain ⟨hi, he⟩ := data_ext0 (s := s) (j := scanTo (digitAt s) s.size (i + 1)) h0 (by omega) hr.2
   rw [he] at hn
   have h7 : s[i.toNat] = 45 := by
    have h5 := (at_some (by decide) h).2
    have h6 := bt_at s i hi
    have h8 : (bt s i).toNat = 45 := by
     revert h5; generalize (bt s i).toNat = c
     intro h5; unfold cls at h5; repeat' split at h5
     all_goals first | omega | contradiction
    apply UInt8.toNat_inj.1
    show _ = 45
    omega
   refine atoi_small hn (.inr ⟨h7, ?_⟩)
   rw [data_size, ByteArray.size_extract]; omega
 · have hb : (at_ s i == 7) = false := by simp [h]
   rw [hb] at hok hsz hn
   have hf : firstAt false i = i := rfl
   rw [hf] at hok hsz hn
   have hr := scanTo_range (digitAt s) s.size i (by omega)
   rw [ByteArray.size_extract] at hsz
   obtain ⟨hi, he⟩ := data_ext0 (s := s) (j := scanTo (digitAt s) s.size i) h0 (by omega) hr.2
   rw [he] at hn
   refine atoi_small hn (.inl ?_)
   rw [data_size, ByteArray.size_extract]; omega
theorem next_small {s : ByteArray} {i : Int} (h0 : 0 ≤ i) (hok : (nextAt s i).2.2.2.1 = true) (h2 : (nextAt s i).1 = 2) : ∀ n, Lib.atoi (nextAt s i).2.1.data.toList = some n → Small n := by
 unfold nextAt at hok h2 ⊢
 by_cases c1 : at_ s i = 1
 · simp only [if_pos c1] at h2; omega
 · simp only [if_neg c1] at hok h2 ⊢
   by_cases c4 : at_ s i = 4
   · simp only [if_pos c4] at h2; omega
   · simp only [if_neg c4] at hok h2 ⊢
     by_cases c7 : at_ s i = 7 ∨ at_ s i = 2
     · simp only [if_pos c7] at hok h2 ⊢
       split at hok
       · rename_i hc
         rw [if_pos hc]
         simp only [Bool.and_eq_true] at hc
         exact token_small h0 c7 hc.1
       · simp at hok
     · simp only [if_neg c7] at hok
       exact absurd hok (by simp)
theorem path_ok {s : ByteArray} {j : Int} {ts : List S44} (h : Path s 0 ts j) : TokOK ts := by
 intro t ht
 obtain ⟨p, h0, h1, h5, h6, hok, rfl⟩ := path_tok h (Int.le_refl _) (by omega) t ht
 have ha := tok_alone h0 h1 hok h5 h6
 refine ⟨fun h1 => ?_, fun h2 => ?_⟩
 · have h1' : (nextAt s p).1 = 1 := h1
   rw [h1'] at ha
   exact ha
 · have h2' : (nextAt s p).1 = 2 := h2
   obtain ⟨_, n, hn⟩ := next_num h0 hok h2'
   have := next_small h0 hok h2' n hn
   show Small ((Lib.atoi (nextAt s p).2.1.data.toList).getD 0)
   rw [hn]
   exact this
theorem lex_ok (s : ByteArray) : TokOK (lexB s).1 := by
 by_cases hs : s.size ≤ 20000
 · obtain ⟨ts, j, hp, h0, h1, hc⟩ := whole s hs
   rcases hc with ⟨hl, hk⟩ | ⟨hl, _, _⟩
   · rw [hl]; exact path_ok hp
   · rw [hl]; exact fun t ht => by cases ht
 · unfold lexB
   rw [if_pos (by omega)]
   exact fun t ht => by cases ht
end Go.Proofs.YtonhcfecfifghaaDoor.PPx
namespace Go.Proofs.YtonhcfecfifghaaDoor.PPx
open Go.RowKit Go.Proofs.YtonhcfecfifghaaDoorW.PrintWords Go.Proofs.YtonhcfecfifghaaDoorW.PrintLast Go.Proofs.YtonhcfecfifghaaDoorW.PrintMore
set_option linter.unusedVariables false
def InvT (s : Rs) : Prop := 0 ≤ s.n ∧ s.n ≤ 65 ∧ s.fl.length ≤ 20 ∧ (s.over = false → s.n ≤ 64 ∧ s.fl.length < 20)
theorem InvT.sub {s s' : Rs} (h : InvT s) (g : Sub s s') : InvT s' := by
 obtain ⟨_, hn, hf, ho⟩ := g
 unfold InvT
 rw [hn, hf, ho]
 exact h
theorem suf_len {a b : List S44} (h : a <:+ b) : a.length ≤ b.length := h.length_le
def Tot {α : Type} (o : Option α) : Prop := ∃ y, o = some y
theorem Tot.obind {α β : Type} {r : Step α} {f : α → Rs → Option (Step β)} (g : ∀ a s, Tot (f a s)) : Tot (PPx.obind r f) := by
 unfold PPx.obind
 cases r.1 with
 | ok a => exact g a _
 | error e => exact ⟨_, rfl⟩
theorem semi_tot (fin : Int) (x : S55) (s : Rs) : Tot (semiS fin x s) := ⟨_, rfl⟩
theorem rest_tot (rec : Int → Rs → Option (List S55 × Rs)) (fin deep k c : Int) (s : Rs) (h7 : k ≠ 7) : Tot (restS rec fin deep k c s) := by
 unfold restS
 by_cases k1 : k = 1
 · rw [if_pos k1]; exact Tot.obind fun a s => Tot.obind fun q s => semi_tot _ _ _
 rw [if_neg k1]
 by_cases k2 : k = 2
 · rw [if_pos k2]; exact Tot.obind fun a s => semi_tot _ _ _
 rw [if_neg k2]
 by_cases k3 : k = 3
 · rw [if_pos k3]; exact Tot.obind fun a s => Tot.obind fun q s => semi_tot _ _ _
 rw [if_neg k3]
 by_cases k4 : k = 4
 · rw [if_pos k4]; exact Tot.obind fun a s => Tot.obind fun q s => semi_tot _ _ _
 rw [if_neg k4]
 by_cases k5 : k = 5
 · rw [if_pos k5]; exact Tot.obind fun a s => Tot.obind fun q s => semi_tot _ _ _
 rw [if_neg k5]
 by_cases k6 : k = 6
 · rw [if_pos k6]; exact Tot.obind fun a s => semi_tot _ _ _
 rw [if_neg k6]
 by_cases k8 : k = 8
 · rw [if_pos k8]; exact Tot.obind fun a s => Tot.obind fun q s => semi_tot _ _ _
 rw [if_neg k8, if_neg h7]
 exact semi_tot _ _ _
def Later (s s' : Rs) : Prop := s'.toks <:+ s.toks ∧ s.n ≤ s'.n ∧ InvT s'
def RecT (deep : Int) (rec : Int → Rs → Option (List S55 × Rs)) (s0 : Rs) : Prop := ∀ s, s.toks.length ≤ s0.toks.length → s.n = s0.n → InvT s → TokOK s.toks → deep ≠ 4 → ∃ l s', rec (deep + 1) s = some (l, s') ∧ Later s s'
theorem Later.of_sub {s s' : Rs} (h : Sub s s') (hI : InvT s) : Later s s' := ⟨h.1, by rw [h.2.1]; exact Int.le_refl _, hI.sub h⟩
theorem stmt_total {rec : Int → Rs → Option (List S55 × Rs)} {fin deep : Int} (hd : 0 ≤ deep) (hd4 : deep ≤ 4) {s : Rs} (hr : RecT deep rec s) (hs : TokOK s.toks) (hI : InvT s) : ∃ y s', stmtS rec fin deep s = some (y, s') ∧ Later s s' := by
 have htk := take_sub isKey fin s
 unfold stmtS
 cases ht : (takeS isKey fin s).1 with
 | error e => rw [obind_err ht]; exact ⟨_, _, rfl, Later.of_sub htk.1 hI⟩
 | ok t =>
 rw [obind_ok ht]
 obtain ⟨hm, hp, hn0⟩ := htk.2 t ht
 have hk : t.f0 = 1 ∧ isWord t.f1 = true := by simpa [isKey] using hp
 have hix := isWord_ix hk.2
 have hs1 := hs.sub htk.1
 have hI1 := hI.sub htk.1
 have h0 : wordIx t.f1 ≠ 0 := by
  intro h0
  have hz := ((hs t hm).1 hk.1).1
  rw [word0 h0] at hz
  exact absurd hz (by decide)
 by_cases h7 : wordIx t.f1 = 7
 · rw [h7]
   unfold restS
   rw [if_neg (by decide), if_neg (by decide), if_neg (by decide), if_neg (by decide), if_neg (by decide), if_neg (by decide), if_neg (by decide), if_pos rfl]
   by_cases h4 : deep = 4
   · rw [if_pos h4]; exact ⟨_, _, rfl, Later.of_sub htk.1 hI⟩
   rw [if_neg h4]
   have hw : wrap64 (deep + 1) = deep + 1 := by unfold wrap64; omega
   have n1 := name_sub fin (takeS isKey fin s).2 hs1
   cases hp1 : (nameS fin (takeS isKey fin s).2).1 with
   | error e => rw [obind_err hp1]; exact ⟨_, _, rfl, Later.of_sub (htk.1.trans n1.1) hI⟩
   | ok p =>
   rw [obind_ok hp1]
   have hs2 := hs1.sub n1.1
   have n2 := name_sub fin _ hs2
   cases hq1 : (nameS fin (nameS fin (takeS isKey fin s).2).2).1 with
   | error e => rw [obind_err hq1]; exact ⟨_, _, rfl, Later.of_sub (htk.1.trans (n1.1.trans n2.1)) hI⟩
   | ok q =>
   rw [obind_ok hq1]
   have hs3 := hs2.sub n2.1
   have n3 := sign_ok' ⟨#[123]⟩ fin (nameS fin (nameS fin (takeS isKey fin s).2).2).2
   have hsub := htk.1.trans (n1.1.trans (n2.1.trans n3.1))
   cases hu1 : (signS ⟨#[123]⟩ fin (nameS fin (nameS fin (takeS isKey fin s).2).2).2).1 with
   | error e => rw [obind_err hu1]; exact ⟨_, _, rfl, Later.of_sub hsub hI⟩
   | ok u =>
   rw [obind_ok hu1]
   have hs4 := hs3.sub n3.1
   obtain ⟨l, s', hr1, ha, hb, hc⟩ := hr _ (suf_len hsub.1) hsub.2.1 (hI.sub hsub) hs4 h4
   rw [hw, hr1]
   simp only [Option.bind_some]
   have n5 := sign_ok' ⟨#[125]⟩ fin s'
   rcases bind_inv (r := signS ⟨#[125]⟩ fin s') (f := fun _ s => (.ok (⟨7, 0, q, p, 0, ⟨⟨0, 0, 0⟩, ⟨0, 0, 0⟩⟩, l, t.f2⟩ : S55), s)) with ⟨a, ha', e⟩ | ⟨e', he, e⟩
   all_goals
    rw [e]
    refine ⟨_, _, rfl, n5.1.1.trans (ha.trans hsub.1), ?_, hc.sub n5.1⟩
    have := n5.1.2.1
    have := hsub.2.1
    omega
 · obtain ⟨⟨y, s'⟩, hy⟩ := rest_tot rec fin deep (wordIx t.f1) t.f2 (takeS isKey fin s).2 h7
   refine ⟨y, s', hy, Later.of_sub (htk.1.trans ?_) hI⟩
   exact (rest_sub rec fin deep _ _ _ hs1 h7 (by omega) (y, s') hy).1
theorem tell_inv {s : Rs} (f : S35) (hI : InvT s) (ho : s.over = false) : InvT (tellS f s) := by
 obtain ⟨h0, h1, h2, h3⟩ := hI
 have h4 := h3 ho
 refine ⟨h0, h1, ?_, fun h => ⟨h4.1, ?_⟩⟩
 · simp only [tellS, List.length_append, List.length_cons, List.length_nil]; omega
 · simp only [tellS, List.length_append, List.length_cons, List.length_nil] at h ⊢
   rw [ho] at h
   simp only [Bool.false_or, Bool.or_eq_false_iff, beq_eq_false_iff_ne, ne_eq] at h
   have := h.2
   omega
theorem one_total {rec : Int → Rs → Option (List S55 × Rs)} {fin deep : Int} (hd : 0 ≤ deep) (hd4 : deep ≤ 4) {s : Rs} (hr : RecT deep rec s) (hs : TokOK s.toks) (hI : InvT s) (hl : s.toks.length ≤ 1000000) : ∃ x s', oneS rec fin deep s = some (x, s') ∧ Later s s' := by
 obtain ⟨y, s1, hy, h1, h2, h3⟩ := stmt_total (fin := fin) hd hd4 hr hs hI
 unfold oneS
 rw [hy]
 simp only [Option.bind_some]
 cases y with
 | ok z => exact ⟨_, _, rfl, h1, h2, h3⟩
 | error f =>
  by_cases ho : s1.over = true
  · simp only [if_pos ho]
    exact ⟨_, _, rfl, h1, h2, h3⟩
  · have ho : s1.over = false := by simpa using ho
    have h20 := (h3.2.2.2 ho).2
    have hln := suf_len h1
    simp only [ho, Bool.false_eq_true, if_false]
    rw [if_neg (by omega)]
    have hx := tell_inv ⟨f.1, f.2⟩ h3 ho
    exact ⟨_, _, rfl, (skip_suf _).trans h1, h2, hx⟩
theorem stmts_total (fin : Int) : ∀ (k : Nat) (deep : Int) (s : Rs) (out : List S55), 0 ≤ deep → deep ≤ 4 → TokOK s.toks → s.toks.length ≤ 1000000 → InvT s → (out.length : Int) ≤ s.n → s.toks.length + (65 - s.n).toNat < k → ∃ l s', stmtsS fin k deep s out = some (l, s') ∧ Later s s'
 | 0, deep, s, out, _, _, _, _, _, _, hk => by omega
 | k + 1, deep, s, out, hd, hd4, hs, hl, hI, ho, hk => by
  have ih := stmts_total fin k
  rw [stmtsS]
  by_cases c1 : s.over = true ∨ s.toks = []
  · rw [if_pos c1]; exact ⟨_, _, rfl, List.suffix_refl _, Int.le_refl _, hI⟩
  rw [if_neg c1]
  have hov : s.over = false := by simpa using fun h' => c1 (.inl h')
  have hne : s.toks ≠ [] := fun h' => c1 (.inr h')
  have h64 := hI.2.2.2 hov
  have hn0 := hI.1
  by_cases c2 : isSign ⟨#[125]⟩ (lookS fin s.toks) = true
  · rw [if_pos c2]
    by_cases c3 : deep > 0
    · rw [if_pos c3]; exact ⟨_, _, rfl, List.suffix_refl _, Int.le_refl _, hI⟩
    rw [if_neg c3, if_neg (by omega)]
    have hlen : s.toks.tail.length + 1 = s.toks.length := by
     cases h : s.toks with
     | nil => exact absurd h hne
     | cons => simp
    have hsuf : s.toks.tail <:+ s.toks := List.tail_suffix _
    obtain ⟨l, s', h, ha, hb, hc⟩ := ih deep { tellS ⟨110, (lookS fin s.toks).f2⟩ s with toks := s.toks.tail } out hd hd4 (fun t ht => hs t (hsuf.subset ht)) (by simp only; omega) (tell_inv _ hI hov) ho (by simp only [tellS]; omega)
    exact ⟨l, s', h, ha.trans hsuf, hb, hc⟩
  rw [if_neg c2]
  have hw : wrap64 (s.n + 1) = s.n + 1 := by unfold wrap64; omega
  rw [hw]
  by_cases c4 : s.n + 1 > 64
  · rw [if_pos c4, if_neg (by omega)]
    refine ⟨_, _, rfl, List.suffix_refl _, by simp only; omega, by simp only; omega, by simp only; omega, ?_, fun h => by simp at h⟩
    simp only [List.length_append, List.length_cons, List.length_nil]; omega
  rw [if_neg c4, if_neg (by omega)]
  have hI' : InvT { s with n := s.n + 1 } := ⟨by simp only; omega, by simp only; omega, hI.2.2.1, fun h => ⟨by simp only; omega, h64.2⟩⟩
  have hrec : RecT deep (fun d s => stmtsS fin k d s []) { s with n := s.n + 1 } := by
   intro s2 h1 h2 h3 h4 h5
   simp only at h1 h2
   exact ih (deep + 1) s2 [] (by omega) (by omega) h4 (by omega) h3 (by simp only [List.length_nil]; have := h3.1; omega) (by omega)
  obtain ⟨x, s1, hx, h1, h2, h3⟩ := one_total (fin := fin) hd hd4 hrec hs hI' hl
  rw [hx]
  simp only [Option.bind_some]
  simp only at h1 h2
  have hln := suf_len h1
  cases x with
  | none =>
   obtain ⟨l, s', h, ha, hb, hc⟩ := ih deep s1 out hd hd4 (fun t ht => hs t (h1.subset ht)) (by omega) h3 (by omega) (by omega)
   exact ⟨l, s', h, ha.trans h1, by omega, hc⟩
  | some z =>
   obtain ⟨l, s', h, ha, hb, hc⟩ := ih deep s1 (out ++ [z]) hd hd4 (fun t ht => hs t (h1.subset ht)) (by omega) h3 (by simp only [List.length_append, List.length_cons, List.length_nil]; omega) (by omega)
   exact ⟨l, s', h, ha.trans h1, by omega, hc⟩
theorem inv0 (ts : List S44) : InvT ⟨ts, 0, [], false⟩ := ⟨by simp, by simp, by simp, fun _ => ⟨by simp, by simp⟩⟩
theorem parse_valid {s : ByteArray} {k : Nat} {l : List S55} {f : List S35} (h : parser_Parse.f k s = some (l, f)) : ∃ n ks, VLs 4 l n ks ∧ n ≤ 64 := by
 unfold parser_Parse.f at h
 by_cases he : (lexB s).2.1 = 0
 · rw [if_pos he] at h
   obtain ⟨r, hr, h2⟩ := Option.map_eq_some_iff.1 h
   obtain ⟨_, hI, _, l', n, ks, hl, hv, hn, hn64⟩ := stmts_sound _ _ _ _ _ _ hr (lex_ok s) (Int.le_refl _) (by decide) ⟨by simp, by simp, fun _ => by simp⟩
   simp only at hn hn64
   have e : l = r.1 := (congrArg Prod.fst h2).symm
   rw [hl, List.nil_append] at e
   rw [e]
   refine ⟨n, ks, hv, ?_⟩
   by_cases hz : n = 0
   · omega
   · have := hn64 hz; omega
 · rw [if_neg he] at h
   have e : l = [] := (congrArg Prod.fst (Option.some.inj h)).symm
   rw [e]
   exact ⟨0, [], .nil _, by decide⟩
end Go.Proofs.YtonhcfecfifghaaDoor.PPx
namespace Go.Proofs.YtonhcfecfifghaaDoor.PPx
open Go.RowKit Go.Proofs.YtonhcfecfifghaaDoorW.PrintWords Go.Proofs.YtonhcfecfifghaaDoorW.PrintLast Go.Proofs.YtonhcfecfifghaaDoorW.PrintMore
set_option linter.unusedVariables false
theorem smallB_of {n : Int} (h : Small n) : smallB n = true := by
 obtain ⟨h1, h2⟩ := h
 unfold smallB
 rw [decide_eq_true (show n > -1000000000 from h1), decide_eq_true h2]
 rfl
theorem smallJ_of {q : S52} (h : SmallQ q) : smallJ q = true := by
 unfold smallJ
 rw [smallB_of h.1, smallB_of h.2.1, smallB_of h.2.2]
 rfl
theorem small0 : Small 0 := ⟨by decide, by decide⟩
theorem smallZ : SmallQ zJ := ⟨small0, small0, small0⟩
theorem name_lex {s : ByteArray} (h : TokText 1 s) (hs : s.size ≤ 20000) : lexB s = ([⟨1, s, 0⟩], 0, 0) := (LexT.tok h).lex hs
theorem name_true {s : ByteArray} (h : NameOK s) : parser_name.f s = some true := by
 have hl := name_lex h.1 (by have := h.2.1; omega)
 have hn : isNamed ⟨1, s, 0⟩ = true := by
  have h1 := h.2.1
  simp only [isNamed, h.2.2, Bool.not_false, Bool.and_true, beq_self_eq_true, Bool.true_and, decide_eq_true_eq]
  omega
 unfold parser_name.f
 rw [show lexer_Lex.f s = some (lexB s) from rfl, hl]
 simp only [Option.bind_some]
 rw [if_pos trivial, if_pos (by simp), if_pos (by simp)]
 show (Option.bind (some (isNamed ⟨1, s, 0⟩)) fun t124 => if t124 = true then some (s.toList == s.toList) else some false) = _
 rw [hn]
 simp
theorem plainF_of {k : Nat} {x : S55} (h1 : 1 ≤ x.f0) (h8 : x.f0 ≤ 8) (ha : x.f1 = 0 ∨ x.f1 = 1) (hn : Small x.f4) (hs : sameS (parser_Equal.f k) x (bareS x) = some true) (hq : SmallQ x.f5.f0) (hp : SmallQ x.f5.f1) (hm : namesF x = some true) : plainF k x = some true := by
 unfold plainF
 rw [if_neg (by omega), if_neg (by omega), if_neg (by omega), if_neg (by rw [smallB_of hn]; decide), hs, Option.bind_some, if_neg (by decide), if_neg (by rw [smallJ_of hq]; decide), if_neg (by rw [smallJ_of hp]; decide)]
 exact hm
theorem plain_true {x : S55} (hx : PlainOK x) (hs : SimL x.f6 x.f6) : ∃ K, ∀ k, K ≤ k → plainF k x = some true := by
 obtain ⟨K, hK⟩ := hs.equal
 obtain ⟨K0, hK0⟩ := SimL.nil.equal
 refine ⟨max K K0, fun k hk => ?_⟩
 have hk1 := hK k (by omega)
 have hk0 := hK0 k (by omega)
 cases hx with
 | go0 h => exact plainF_of (by simp) (by simp) (.inl rfl) small0 (same_true rfl rfl rfl rfl rfl rfl hk0) h smallZ rfl
 | go1 h => exact plainF_of (by simp) (by simp) (.inr rfl) small0 (same_true rfl rfl rfl rfl rfl rfl hk0) smallZ h rfl
 | home h => exact plainF_of (by simp) (by simp) h small0 (same_true rfl rfl rfl rfl rfl rfl hk0) smallZ smallZ rfl
 | pick h hn => exact plainF_of (by simp) (by simp) h small0 (same_true rfl rfl rfl rfl rfl rfl hk0) smallZ smallZ (by simp [namesF, name_true hn])
 | put h hn => exact plainF_of (by simp) (by simp) h small0 (same_true rfl rfl rfl rfl rfl rfl hk0) smallZ smallZ (by simp [namesF, name_true hn])
 | hand h hn => exact plainF_of (by simp) (by simp) h small0 (same_true rfl rfl rfl rfl rfl rfl hk0) smallZ smallZ (by simp [namesF, name_true hn])
 | wait h => exact plainF_of (by simp) (by simp) (.inl rfl) h (same_true rfl rfl rfl rfl rfl rfl hk0) smallZ smallZ rfl
 | when_ h g => exact plainF_of (by simp) (by simp) (.inl rfl) small0 (same_true rfl rfl rfl rfl rfl rfl hk1) smallZ smallZ (by simp [namesF, name_true h, name_true g])
 | both h g => exact plainF_of (by simp) (by simp) (.inl rfl) small0 (same_true rfl rfl rfl rfl rfl rfl hk0) h g rfl
theorem count_step (k : Nat) (deep n : Int) (l : List S55) (i : Int) (h0 : 0 ≤ i) (h1 : i < l.length) : parser_count.l0 (k + 2) deep n l l.length i =
 if wrap64 (n + 1) > 64 then some 65 else if (rd_T55 l i).f0 = 7 ∧ deep = 4 then some 65
 else (plainF (k + 1) (rd_T55 l i)).bind fun t => if t = true then (if (rd_T55 l i).f0 = 7 then (parser_count.f k (rd_T55 l i).f6 (wrap64 (deep + 1))).bind fun m => parser_count.l0 k deep (wrap64 (wrap64 (n + 1) + m)) l l.length (wrap64 (i + 1)) else parser_count.l0 k deep (wrap64 (n + 1)) l l.length (wrap64 (i + 1))) else some 65 := by
 rw [parser_count.l0, if_pos h1, if_pos h0, if_pos h1]
 by_cases c : wrap64 (n + 1) > 64
 · rw [if_pos c, if_pos c, parser_count.j1, if_pos rfl]
 rw [if_neg c, if_neg c]
 by_cases c7 : (rd_T55 l i).f0 = 7
 · rw [if_pos c7]
   by_cases c4 : deep = 4
   · rw [if_pos c4, if_pos ⟨c7, c4⟩, parser_count.j1, if_pos rfl]
   · rw [if_neg c4, if_neg (fun h => c4 h.2)]
     simp only [parser_count.j1]
     show (plainF (k + 1) (rd_T55 l i)).bind _ = _
     congr 1
     funext t
     cases t
     · rfl
     · simp only [Bool.not_true, Bool.false_eq_true, if_false, if_true]
 · rw [if_neg c7, if_neg (fun h => c7 h.1)]
   simp only [parser_count.j1]
   show (plainF (k + 1) (rd_T55 l i)).bind _ = _
   congr 1
   funext t
   cases t
   · rfl
   · simp only [Bool.not_true, Bool.false_eq_true, if_false, if_true, if_neg c7]
theorem rd_mid (pre : List S55) (x : S55) (l : List S55) : rd_T55 (pre ++ x :: l) (pre.length : Int) = x := by simp [rd_T55]
theorem count_end (k : Nat) (deep n : Int) (l : List S55) : parser_count.l0 (k + 1) deep n l l.length l.length = some n := by
 rw [parser_count.l0, if_neg (Int.lt_irrefl _)]
theorem plain_lift {k k' : Nat} {x : S55} {r : Bool} (hk : k ≤ k') (h : plainF k x = some r) : plainF k' x = some r := by
 obtain ⟨j, rfl⟩ := Nat.exists_eq_add_of_le hk
 induction j with
 | zero => exact h
 | succ j ih => exact plain_le _ _ _ (ih (by omega))
theorem vls_len {d m : Nat} {l : List S55} {ks : List (Int × ByteArray)} (h : VLs d l m ks) : l.length ≤ m := by
 induction h with
 | nil => simp
 | plain _ _ _ ih => simp only [List.length_cons]; omega
 | when_ _ _ _ _ _ ih => simp only [List.length_cons]; omega
theorem count_ok {d m : Nat} {l : List S55} {ks : List (Int × ByteArray)} (h : VLs d l m ks) : ∀ (deep n : Int) (pre : List S55), 0 ≤ deep → deep + d ≤ 4 → 0 ≤ n → n + m ≤ 64 → (pre.length : Int) + l.length ≤ 1000000 → ∃ K, ∀ k, K ≤ k → parser_count.l0 k deep n (pre ++ l) (pre ++ l).length pre.length = some (n + m) := by
 induction h with
 | nil d =>
  intro deep n pre hd hd4 hn hm hp
  refine ⟨1, fun k hk => ?_⟩
  obtain ⟨k, rfl⟩ : ∃ j, k = j + 1 := ⟨k - 1, by omega⟩
  rw [List.append_nil, count_end]
  simp
 | @plain d m x l ks hx h7 hl ih =>
  intro deep n pre hd hd4 hn hm hp
  obtain ⟨K, hK⟩ := ih deep (n + 1) (pre ++ [x]) hd hd4 (by omega) (by omega) (by simp only [List.length_append, List.length_cons, List.length_nil] at hp ⊢; omega)
  have h6 : SimL x.f6 x.f6 := by cases hx <;> first | exact .nil | exact absurd rfl h7
  obtain ⟨K1, hK1⟩ := plain_true hx h6
  refine ⟨max K K1 + 2, fun k hk => ?_⟩
  obtain ⟨k, rfl⟩ : ∃ j, k = j + 2 := ⟨k - 2, by omega⟩
  have hn1 : wrap64 (n + 1) = n + 1 := by unfold wrap64; omega
  have hi1 : wrap64 ((pre.length : Int) + 1) = ((pre ++ [x]).length : Int) := by
   simp only [List.length_append, List.length_cons, List.length_nil] at hp ⊢
   unfold wrap64; omega
  rw [count_step k deep n (pre ++ x :: l) pre.length (by omega) (by simp only [List.length_append, List.length_cons]; omega), rd_mid, hn1, hi1, if_neg (by omega), if_neg (fun h => h7 h.1), plain_lift (Nat.le_succ k) (hK1 k (by omega)), Option.bind_some, if_pos rfl, if_neg h7]
  have := hK k (by omega)
  rw [List.append_assoc, List.singleton_append] at this
  rw [this]
  congr 1; omega
 | @when_ d m1 m2 x l ks ls hx h7 hkd hl ihk ihl =>
  intro deep n pre hd hd4 hn hm hp
  obtain ⟨K, hK⟩ := ihl deep (n + 1 + m2) (pre ++ [x]) hd hd4 (by omega) (by omega) (by simp only [List.length_append, List.length_cons, List.length_nil] at hp ⊢; omega)
  obtain ⟨K2, hK2⟩ := ihk (deep + 1) 0 [] (by omega) (by omega) (Int.le_refl _) (by omega) (by
   have := vls_len hkd
   simp only [List.length_nil]; omega)
  obtain ⟨K1, hK1⟩ := plain_true hx hkd.sim
  refine ⟨max (max K K1) (K2 + 1) + 2, fun k hk => ?_⟩
  obtain ⟨k, rfl⟩ : ∃ j, k = j + 2 := ⟨k - 2, by omega⟩
  have hn1 : wrap64 (n + 1) = n + 1 := by unfold wrap64; omega
  have hd1 : wrap64 (deep + 1) = deep + 1 := by unfold wrap64; omega
  have hi1 : wrap64 ((pre.length : Int) + 1) = ((pre ++ [x]).length : Int) := by
   simp only [List.length_append, List.length_cons, List.length_nil] at hp ⊢
   unfold wrap64; omega
  have hc : parser_count.f k x.f6 (deep + 1) = some (m2 : Int) := by
   obtain ⟨k, rfl⟩ : ∃ j, k = j + 1 := ⟨k - 1, by omega⟩
   have := hK2 k (by omega)
   rw [parser_count.f]
   simpa using this
  have hn2 : wrap64 (n + 1 + (m2 : Int)) = n + 1 + m2 := by unfold wrap64; omega
  rw [count_step k deep n (pre ++ x :: l) pre.length (by omega) (by simp only [List.length_append, List.length_cons]; omega), rd_mid, hn1, hi1, hd1, if_neg (by omega), if_neg (by omega), plain_lift (Nat.le_succ k) (hK1 k (by omega)), Option.bind_some, if_pos rfl, if_pos h7, hc, Option.bind_some, hn2]
  have := hK k (by omega)
  rw [List.append_assoc, List.singleton_append] at this
  rw [this]
  congr 1; omega
theorem valid_ok {m : Nat} {l : List S55} {ks : List (Int × ByteArray)} (h : VLs 4 l m ks) (hm : m ≤ 64) : ∃ K, ∀ k, K ≤ k → parser_Valid.f k l = some true := by
 obtain ⟨K, hK⟩ := count_ok h 0 0 [] (Int.le_refl _) (by omega) (Int.le_refl _) (by omega) (by have := vls_len h; simp only [List.length_nil]; omega)
 refine ⟨K + 1, fun k hk => ?_⟩
 obtain ⟨k, rfl⟩ : ∃ j, k = j + 1 := ⟨k - 1, by omega⟩
 have := hK k (by omega)
 unfold parser_Valid.f
 rw [parser_count.f]
 have e : parser_count.l0 k 0 0 l (l.length : Int) 0 = some (0 + (m : Int)) := by simpa using this
 rw [e, Option.bind_some, decide_eq_true (by omega)]
end Go.Proofs.YtonhcfecfifghaaDoor.PPx
namespace Go.Proofs.YtonhcfecfifghaaDoor.PPx
open Go.RowKit Go.Proofs.YtonhcfecfifghaaDoorW.PrintWords Go.Proofs.YtonhcfecfifghaaDoorW.PrintLast Go.Proofs.YtonhcfecfifghaaDoorW.PrintMore
set_option linter.unusedVariables false
def EvalsTo {α : Type} (f : Nat → Option α) (b : α) : Prop := ∃ K, ∀ k, K ≤ k → f k = some b
theorem EvalsTo.const {α : Type} (b : α) : EvalsTo (fun _ => some b) b := ⟨0, fun _ _ => rfl⟩
theorem EvalsTo.bind {α β : Type} {f : Nat → Option α} {a : α} {g : Nat → α → Option β} {b : β} (h : EvalsTo f a) (hg : EvalsTo (fun k => g k a) b) : EvalsTo (fun k => (f k).bind (g k)) b := by
 obtain ⟨K, hK⟩ := h
 obtain ⟨K2, hK2⟩ := hg
 exact ⟨max K K2, fun k hk => by simp only; rw [hK k (by omega), Option.bind_some]; exact hK2 k (by omega)⟩
theorem EvalsTo.congr {α : Type} {f g : Nat → Option α} {b : α} (h : EvalsTo f b) (e : ∀ k, g k = f k) : EvalsTo g b := by
 obtain ⟨K, hK⟩ := h
 exact ⟨K, fun k hk => by rw [e k]; exact hK k hk⟩
theorem EvalsTo.shift {α : Type} {f g : Nat → Option α} {b : α} {j : Nat} (h : EvalsTo f b) (e : ∀ k, g (k + j) = f k) : EvalsTo g b := by
 obtain ⟨K, hK⟩ := h
 refine ⟨K + j, fun k hk => ?_⟩
 have := e (k - j)
 rw [show k - j + j = k by omega] at this
 rw [this]
 exact hK _ (by omega)
end Go.Proofs.YtonhcfecfifghaaDoor.PPx
namespace Go.Proofs.YtonhcfecfifghaaDoor.PPx
open Go.RowKit Go.Proofs.YtonhcfecfifghaaDoorW.PrintWords Go.Proofs.YtonhcfecfifghaaDoorW.PrintLast Go.Proofs.YtonhcfecfifghaaDoorW.PrintMore
set_option linter.unusedVariables false
def Sorted (fin : Int) : List S44 → Prop
 | [] => True
 | t :: ts => (∀ u ∈ ts, t.f2 < u.f2) ∧ t.f2 < fin ∧ Sorted fin ts
theorem Sorted.mem {fin : Int} : ∀ {ts : List S44}, Sorted fin ts → ∀ t ∈ ts, t.f2 < fin
 | [], _, t, h => by cases h
 | x :: ts, h, t, ht => by
  rcases List.mem_cons.1 ht with rfl | ht
  · exact h.2.1
  · exact h.2.2.mem t ht
theorem Sorted.suf {fin : Int} : ∀ {ts us : List S44}, Sorted fin ts → us <:+ ts → Sorted fin us ∧ (lookS fin ts).f2 ≤ (lookS fin us).f2
 | [], us, h, hs => by
  obtain rfl := List.suffix_nil.1 hs
  exact ⟨h, Int.le_refl _⟩
 | t :: ts, us, h, hs => by
  rcases List.suffix_cons_iff.1 hs with rfl | hs
  · exact ⟨h, Int.le_refl _⟩
  · obtain ⟨a, b⟩ := h.2.2.suf hs
    refine ⟨a, ?_⟩
    have h1 : t.f2 ≤ (lookS fin ts).f2 := by
     cases ts with
     | nil => exact Int.le_of_lt h.2.1
     | cons u ts => exact Int.le_of_lt (h.1 u List.mem_cons_self)
    show t.f2 ≤ _
    omega
theorem Sorted.head {fin : Int} {t : S44} {ts : List S44} (h : Sorted fin (t :: ts)) : t.f2 < (lookS fin ts).f2 := by
 cases ts with
 | nil => exact h.2.1
 | cons u ts => exact h.1 u List.mem_cons_self
def ErrT {α : Type} (fin : Int) (r : Step α) : Prop := ∀ e, r.1 = .error e → (e = (3, fin) ∧ r.2.toks = []) ∨ (e.1 = 110 ∧ ∃ t us, r.2.toks = t :: us ∧ e.2 = t.f2)
theorem take_err (p : S44 → Bool) (fin : Int) (s : Rs) : ErrT fin (takeS p fin s) := by
 obtain ⟨ts, n, fl, o⟩ := s
 intro e h
 cases ts with
 | nil =>
  simp only [takeS, Except.error.injEq] at h
  exact .inl ⟨h.symm, rfl⟩
 | cons t ts =>
  by_cases c : (t.f0 == 0 || !p t) = true
  · have e' : takeS p fin ⟨t :: ts, n, fl, o⟩ = (.error (110, t.f2), ⟨t :: ts, n, fl, o⟩) := by simp only [takeS, if_pos c]
    rw [e'] at h ⊢
    obtain rfl := Except.error.inj h
    exact .inr ⟨rfl, t, ts, rfl, rfl⟩
  · have e' : takeS p fin ⟨t :: ts, n, fl, o⟩ = (.ok t, ⟨ts, n, fl, o⟩) := by simp only [takeS, if_neg c]
    rw [e'] at h
    simp at h
theorem ErrT.bind {α β : Type} {fin : Int} {r : Step α} {f : α → Rs → Step β} (h : ErrT fin r) (g : ∀ a s, ErrT fin (f a s)) : ErrT fin (r.bind f) := by
 rcases bind_inv (r := r) (f := f) with ⟨a, ha, e⟩ | ⟨e', he, e⟩
 · rw [e]; exact g a _
 · rw [e]
   intro e2 h2
   obtain rfl := Except.error.inj h2
   exact h _ he
theorem ErrT.map {α β : Type} {fin : Int} {r : Step α} {f : α → β} (h : ErrT fin r) : ErrT fin (r.map f) := by
 intro e he
 unfold Step.map at he ⊢
 cases hr : r.1 with
 | ok a => rw [hr] at he; simp at he
 | error e' =>
  rw [hr] at he
  obtain rfl : e' = e := by simpa using he
  exact h _ hr
theorem err_ok {α : Type} {fin : Int} (a : α) (s : Rs) : ErrT fin ((.ok a, s) : Step α) := fun e h => by simp at h
theorem sign_err (c : ByteArray) (fin : Int) (s : Rs) : ErrT fin (signS c fin s) := take_err _ fin s
theorem number_err (fin : Int) (s : Rs) : ErrT fin (numberS fin s) := (take_err _ fin s).map
theorem arm_err (fin : Int) (s : Rs) : ErrT fin (armS fin s) := (take_err _ fin s).map
theorem name_err (fin : Int) (s : Rs) : ErrT fin (nameS fin s) := (take_err _ fin s).map
theorem triple_err (fin : Int) (s : Rs) : ErrT fin (tripleS fin s) := by
 unfold tripleS
 refine (sign_err _ fin s).bind fun _ s => (number_err fin s).bind fun a s => ?_
 unfold tri1
 refine (sign_err _ fin s).bind fun _ s => (number_err fin s).bind fun b s => ?_
 unfold tri2
 refine (sign_err _ fin s).bind fun _ s => (number_err fin s).bind fun c s => ?_
 unfold tri3
 exact (sign_err _ fin s).bind fun _ s => err_ok _ _
def OErrT {β : Type} (fin : Int) (o : Option (Step β)) : Prop := ∀ y, o = some y → ErrT fin y
theorem OErrT.obind {α β : Type} {fin : Int} {r : Step α} {f : α → Rs → Option (Step β)} (h : ErrT fin r) (g : ∀ a s, OErrT fin (f a s)) : OErrT fin (PPx.obind r f) := by
 intro y hy
 rcases obind_inv hy with ⟨a, ha, e⟩ | ⟨e', he, e⟩
 · exact g a _ y e
 · rw [e]
   intro e2 h2
   obtain rfl := Except.error.inj h2
   exact h _ he
theorem semi_errT (fin : Int) (x : S55) (s : Rs) : OErrT fin (semiS fin x s) := by
 intro y hy
 obtain rfl := Option.some.inj hy
 exact (sign_err _ fin s).bind fun _ s => err_ok _ _
theorem rest_err (rec : Int → Rs → Option (List S55 × Rs)) (fin deep k c : Int) (s : Rs) (h7 : k ≠ 7) : OErrT fin (restS rec fin deep k c s) := by
 unfold restS
 by_cases k1 : k = 1
 · rw [if_pos k1]; exact OErrT.obind (arm_err _ _) fun a s => OErrT.obind (triple_err _ _) fun q s => semi_errT _ _ _
 rw [if_neg k1]
 by_cases k2 : k = 2
 · rw [if_pos k2]; exact OErrT.obind (arm_err _ _) fun a s => semi_errT _ _ _
 rw [if_neg k2]
 by_cases k3 : k = 3
 · rw [if_pos k3]; exact OErrT.obind (arm_err _ _) fun a s => OErrT.obind (name_err _ _) fun q s => semi_errT _ _ _
 rw [if_neg k3]
 by_cases k4 : k = 4
 · rw [if_pos k4]; exact OErrT.obind (arm_err _ _) fun a s => OErrT.obind (name_err _ _) fun q s => semi_errT _ _ _
 rw [if_neg k4]
 by_cases k5 : k = 5
 · rw [if_pos k5]; exact OErrT.obind (arm_err _ _) fun a s => OErrT.obind (name_err _ _) fun q s => semi_errT _ _ _
 rw [if_neg k5]
 by_cases k6 : k = 6
 · rw [if_pos k6]; exact OErrT.obind (number_err _ _) fun a s => semi_errT _ _ _
 rw [if_neg k6]
 by_cases k8 : k = 8
 · rw [if_pos k8]; exact OErrT.obind (triple_err _ _) fun q s => OErrT.obind (triple_err _ _) fun q s => semi_errT _ _ _
 rw [if_neg k8, if_neg h7]
 exact semi_errT _ _ _
def AtKind (k c : Int) (o : Option (Step S55)) : Prop := ∀ y x, o = some y → y.1 = .ok x → x.f0 = k ∧ x.f7 = c ∧ x.f6 = []
theorem AtKind.obind {α : Type} {k c : Int} {r : Step α} {f : α → Rs → Option (Step S55)} (g : ∀ a s, AtKind k c (f a s)) : AtKind k c (PPx.obind r f) := by
 intro y x hy hx
 rcases obind_inv hy with ⟨a, ha, e⟩ | ⟨e', he, e⟩
 · exact g a _ y x e hx
 · rw [e] at hx; simp at hx
theorem semi_kind (fin : Int) (x : S55) (s : Rs) (h6 : x.f6 = []) : AtKind x.f0 x.f7 (semiS fin x s) := by
 intro y z hy hz
 obtain rfl := Option.some.inj hy
 rcases bind_inv (r := signS ⟨#[59]⟩ fin s) (f := fun _ s => (.ok x, s)) with ⟨a, ha, e⟩ | ⟨e', he, e⟩
 · rw [e] at hz
   obtain rfl := Except.ok.inj hz
   exact ⟨rfl, rfl, h6⟩
 · rw [e] at hz; simp at hz
theorem rest_kind (rec : Int → Rs → Option (List S55 × Rs)) (fin deep k c : Int) (s : Rs) (h7 : k ≠ 7) : AtKind k c (restS rec fin deep k c s) := by
 unfold restS
 by_cases k1 : k = 1
 · rw [if_pos k1]; subst k1; exact AtKind.obind fun a s => AtKind.obind fun q s => semi_kind _ _ _ rfl
 rw [if_neg k1]
 by_cases k2 : k = 2
 · rw [if_pos k2]; subst k2; exact AtKind.obind fun a s => semi_kind _ _ _ rfl
 rw [if_neg k2]
 by_cases k3 : k = 3
 · rw [if_pos k3]; subst k3; exact AtKind.obind fun a s => AtKind.obind fun q s => semi_kind _ _ _ rfl
 rw [if_neg k3]
 by_cases k4 : k = 4
 · rw [if_pos k4]; subst k4; exact AtKind.obind fun a s => AtKind.obind fun q s => semi_kind _ _ _ rfl
 rw [if_neg k4]
 by_cases k5 : k = 5
 · rw [if_pos k5]; subst k5; exact AtKind.obind fun a s => AtKind.obind fun q s => semi_kind _ _ _ rfl
 rw [if_neg k5]
 by_cases k6 : k = 6
 · rw [if_pos k6]; subst k6; exact AtKind.obind fun a s => semi_kind _ _ _ rfl
 rw [if_neg k6]
 by_cases k8 : k = 8
 · rw [if_pos k8]; subst k8; exact AtKind.obind fun q s => AtKind.obind fun q s => semi_kind _ _ _ rfl
 rw [if_neg k8, if_neg h7]
 exact semi_kind _ (xOf k c) _ rfl
def Good (T : List S44) (d : S35) : Prop := (d.f0 = 110 ∨ d.f0 = 2) ∧ ∃ t ∈ T, t.f2 = d.f1
structure FI (T : List S44) (fin : Int) (s : Rs) : Prop where
 le : ∀ d ∈ s.fl, d.f1 ≤ (lookS fin s.toks).f2
 ord : s.fl.Pairwise fun a b => a.f1 ≤ b.f1
 good : ∃ a b, s.fl = a ++ b ∧ (∀ d ∈ a, Good T d) ∧ (b = [] ∨ (s.over = true ∧ b = [⟨3, fin⟩]))
theorem FI.sub {T : List S44} {fin : Int} {s s' : Rs} (h : FI T fin s) (hs : Sorted fin s.toks) (g : Sub s s') : FI T fin s' := by
 obtain ⟨g1, g2, g3, g4⟩ := g
 have := (hs.suf g1).2
 refine ⟨fun d hd => ?_, by rw [g3]; exact h.ord, by rw [g3, g4]; exact h.good⟩
 rw [g3] at hd
 have := h.le d hd
 omega
def ErrG (T : List S44) (fin : Int) (s : Rs) (e : Int × Int) : Prop := (e = (3, fin) ∧ s.toks = []) ∨ ((e.1 = 110 ∨ e.1 = 2) ∧ (∃ t ∈ T, t.f2 = e.2) ∧ (∀ d ∈ s.fl, d.f1 ≤ e.2) ∧ e.2 ≤ (lookS fin s.toks).f2)
theorem ErrG.of {T : List S44} {fin : Int} {s : Rs} {e : Int × Int} (hF : FI T fin s) (hT : s.toks <:+ T) (h : (e = (3, fin) ∧ s.toks = []) ∨ (e.1 = 110 ∧ ∃ t us, s.toks = t :: us ∧ e.2 = t.f2)) : ErrG T fin s e := by
 rcases h with h | ⟨h1, t, us, h2, h3⟩
 · exact .inl h
 · refine .inr ⟨.inl h1, ⟨t, hT.subset (by rw [h2]; exact List.mem_cons_self), h3.symm⟩, fun d hd => ?_, ?_⟩
   · have := hF.le d hd
     rw [h2] at this
     rw [h3]
     exact this
   · rw [h2, h3]
     exact Int.le_refl _
theorem FI.tell {T : List S44} {fin : Int} {s : Rs} {e : Int × Int} (hF : FI T fin s) (hs : Sorted fin s.toks) (ho : s.over = false) (h : ErrG T fin s e) {us : List S44} (hu : us <:+ s.toks) : FI T fin { tellS ⟨e.1, e.2⟩ s with toks := us } := by
 have hlk := (hs.suf hu).2
 have hle : ∀ d ∈ s.fl, d.f1 ≤ e.2 := by
  rcases h with ⟨rfl, h0⟩ | ⟨_, _, h, _⟩
  · intro d hd
    have := hF.le d hd
    rw [h0] at this
    exact this
  · exact h
 have hel : e.2 ≤ (lookS fin us).f2 := by
  rcases h with ⟨rfl, h0⟩ | ⟨_, _, _, h⟩
  · rw [h0] at hu
    obtain rfl := List.suffix_nil.1 hu
    exact Int.le_refl _
  · omega
 obtain ⟨a, b, hab, ha, hb⟩ := hF.good
 have hb0 : b = [] := by
  rcases hb with hb | ⟨hb, _⟩
  · exact hb
  · rw [ho] at hb; cases hb
 subst hb0
 rw [List.append_nil] at hab
 refine ⟨fun d hd => ?_, ?_, ?_⟩
 · simp only [tellS, List.mem_append, List.mem_singleton] at hd
   rcases hd with hd | rfl
   · have := hF.le d hd
     show d.f1 ≤ (lookS fin us).f2
     omega
   · exact hel
 · show (s.fl ++ [(⟨e.1, e.2⟩ : S35)]).Pairwise _
   rw [List.pairwise_append]
   exact ⟨hF.ord, by simp, fun x hx y hy => by rw [List.mem_singleton.1 hy]; exact hle x hx⟩
 · rcases h with ⟨rfl, h0⟩ | ⟨h1, h2, _, _⟩
   · refine ⟨s.fl, [⟨3, fin⟩], rfl, by rw [hab]; exact ha, .inr ⟨?_, rfl⟩⟩
     simp [tellS]
   · refine ⟨s.fl ++ [⟨e.1, e.2⟩], [], by simp [tellS], fun d hd => ?_, .inl rfl⟩
     rcases List.mem_append.1 hd with hd | hd
     · exact ha d (by rw [← hab]; exact hd)
     · rw [List.mem_singleton.1 hd]; exact ⟨h1, h2⟩
inductive PlacedL (T : List S44) : Int → List S55 → Int → Prop where
 | nil {a b : Int} : a ≤ b → PlacedL T a [] b
 | cons {a b m : Int} {x : S55} {l : List S55} : a ≤ x.f7 → (∃ t ∈ T, t.f2 = x.f7 ∧ wordIx t.f1 = x.f0 ∧ 0 ≤ x.f0 ∧ x.f0 ≤ 8) → PlacedL T (x.f7 + 1) x.f6 m → PlacedL T m l b → PlacedL T a (x :: l) b
theorem PlacedL.weak {T : List S44} {a b : Int} {l : List S55} (h : PlacedL T a l b) : a ≤ b ∧ ∀ a' b', a' ≤ a → b ≤ b' → PlacedL T a' l b' := by
 induction h with
 | nil h => exact ⟨h, fun a' b' h1 h2 => .nil (by omega)⟩
 | cons h1 h2 h3 h4 ih3 ih4 =>
  refine ⟨by have := ih3.1; have := ih4.1; omega, fun a' b' g1 g2 => ?_⟩
  exact .cons (by omega) h2 h3 (ih4.2 _ _ (Int.le_refl _) g2)
theorem PlacedL.append {T : List S44} {a m b : Int} {l l' : List S55} (h : PlacedL T a l m) (g : PlacedL T m l' b) : PlacedL T a (l ++ l') b := by
 induction h with
 | nil h => exact g.weak.2 _ _ h (Int.le_refl _)
 | cons h1 h2 h3 _ _ ih => exact .cons h1 h2 h3 (ih g)
def RecF (T : List S44) (fin deep : Int) (rec : Int → Rs → Option (List S55 × Rs)) : Prop := ∀ s r, rec (deep + 1) s = some r → s.toks <:+ T → TokOK s.toks → Inv s → FI T fin s → s.over = false → deep ≠ 4 → FI T fin r.2 ∧ r.2.toks <:+ s.toks ∧ PlacedL T (lookS fin s.toks).f2 r.1 (lookS fin r.2.toks).f2
theorem stmt_off {rec : Int → Rs → Option (List S55 × Rs)} {T : List S44} {fin deep : Int} (hT : Sorted fin T) (hr : RecF T fin deep rec) (hd : 0 ≤ deep) (hd4 : deep ≤ 4) {s : Rs} (hsT : s.toks <:+ T) (hs : TokOK s.toks) (hI : Inv s) (hF : FI T fin s) (ho : s.over = false) {y : Step S55} (h : stmtS rec fin deep s = some y) :
 FI T fin y.2 ∧ y.2.toks <:+ s.toks ∧ (∀ e, y.1 = .error e → ErrG T fin y.2 e) ∧ ∀ x, y.1 = .ok x → ∃ m, (lookS fin s.toks).f2 ≤ x.f7 ∧ (∃ t ∈ T, t.f2 = x.f7 ∧ wordIx t.f1 = x.f0 ∧ 0 ≤ x.f0 ∧ x.f0 ≤ 8) ∧ PlacedL T (x.f7 + 1) x.f6 m ∧ m ≤ (lookS fin y.2.toks).f2 := by
 have hS := (hT.suf hsT).1
 have htk := take_sub isKey fin s
 have hF1 := hF.sub hS htk.1
 have hT1 := htk.1.1.trans hsT
 unfold stmtS at h
 rcases obind_inv h with ⟨t, ht, h⟩ | ⟨e, he, rfl⟩
 case inr => exact ⟨hF1, htk.1.1, fun e' he' => by obtain rfl := Except.error.inj he'; exact ErrG.of hF1 hT1 (take_err isKey fin s e he), fun x hx => by simp at hx⟩
 obtain ⟨hm, hp, hn0⟩ := htk.2 t ht
 have hk : t.f0 = 1 ∧ isWord t.f1 = true := by simpa [isKey] using hp
 have hix := isWord_ix hk.2
 have hs1 := hs.sub htk.1
 have hI1 := hI.sub htk.1
 have hS1 := (hT.suf hT1).1
 obtain ⟨us, hus, hus2⟩ : ∃ us, s.toks = t :: us ∧ (takeS isKey fin s).2.toks = us := by
  obtain ⟨ts, n, fl, o⟩ := s
  cases ts with
  | nil => simp [takeS] at ht
  | cons x ts =>
   by_cases c : (x.f0 == 0 || !isKey x) = true
   · simp only [takeS, if_pos c] at ht; simp at ht
   · have e' : takeS isKey fin ⟨x :: ts, n, fl, o⟩ = (.ok x, ⟨ts, n, fl, o⟩) := by simp only [takeS, if_neg c]
     rw [e'] at ht ⊢
     obtain rfl := Except.ok.inj ht
     exact ⟨ts, rfl, rfl⟩
 have hlook : (lookS fin s.toks).f2 = t.f2 := by rw [hus]; rfl
 have hnext : t.f2 < (lookS fin (takeS isKey fin s).2.toks).f2 := by
  rw [hus2]
  rw [hus] at hS
  exact hS.head
 have htT : t ∈ T := hsT.subset hm
 by_cases h7 : wordIx t.f1 = 7
 · rw [h7] at h
   unfold restS at h
   rw [if_neg (by decide), if_neg (by decide), if_neg (by decide), if_neg (by decide), if_neg (by decide), if_neg (by decide), if_neg (by decide), if_pos rfl] at h
   by_cases h4 : deep = 4
   · rw [if_pos h4] at h
     obtain rfl := Option.some.inj h
     refine ⟨hF1, htk.1.1, fun e he => ?_, fun x hx => by simp at hx⟩
     obtain rfl := Except.error.inj he
     refine .inr ⟨.inr rfl, ⟨t, htT, rfl⟩, fun d hd => ?_, Int.le_of_lt hnext⟩
     rw [htk.1.2.2.1] at hd
     have := hF.le d hd
     simp only
     omega
   rw [if_neg h4] at h
   have hw : wrap64 (deep + 1) = deep + 1 := by unfold wrap64; omega
   have n1 := name_sub fin (takeS isKey fin s).2 hs1
   have hF2 := hF1.sub hS1 n1.1
   have hT2 := n1.1.1.trans hT1
   rcases obind_inv h with ⟨p, hp1, h⟩ | ⟨e, he, rfl⟩
   case inr => exact ⟨hF2, n1.1.1.trans htk.1.1, fun e' he' => by obtain rfl := Except.error.inj he'; exact ErrG.of hF2 hT2 (name_err fin _ e he), fun x hx => by simp at hx⟩
   have hs2 := hs1.sub n1.1
   have hS2 := (hT.suf hT2).1
   have n2 := name_sub fin _ hs2
   have hF3 := hF2.sub hS2 n2.1
   have hT3 := n2.1.1.trans hT2
   rcases obind_inv h with ⟨q, hq1, h⟩ | ⟨e, he, rfl⟩
   case inr => exact ⟨hF3, n2.1.1.trans (n1.1.1.trans htk.1.1), fun e' he' => by obtain rfl := Except.error.inj he'; exact ErrG.of hF3 hT3 (name_err fin _ e he), fun x hx => by simp at hx⟩
   have hs3 := hs2.sub n2.1
   have hS3 := (hT.suf hT3).1
   have n3 := sign_ok' ⟨#[123]⟩ fin (nameS fin (nameS fin (takeS isKey fin s).2).2).2
   have hF4 := hF3.sub hS3 n3.1
   have hT4 := n3.1.1.trans hT3
   rcases obind_inv h with ⟨u, hu1, h⟩ | ⟨e, he, rfl⟩
   case inr => exact ⟨hF4, n3.1.1.trans (n2.1.1.trans (n1.1.1.trans htk.1.1)), fun e' he' => by obtain rfl := Except.error.inj he'; exact ErrG.of hF4 hT4 (sign_err _ fin _ e he), fun x hx => by simp at hx⟩
   have hs4 := hs3.sub n3.1
   have hS4 := (hT.suf hT4).1
   have hsub := htk.1.trans (n1.1.trans (n2.1.trans n3.1))
   have hsub1 := n1.1.trans (n2.1.trans n3.1)
   obtain ⟨r, hr1, h⟩ := Option.bind_eq_some_iff.1 h
   rw [hw] at hr1
   obtain ⟨hF5, hsuf5, hP⟩ := hr _ _ hr1 hT4 hs4 (hI.sub hsub) hF4 (by rw [hsub.2.2.2]; exact ho) h4
   have hT5 := hsuf5.trans hT4
   have hS5 := (hT.suf hT5).1
   obtain rfl := Option.some.inj h
   have n5 := sign_ok' ⟨#[125]⟩ fin r.2
   have hF6 := hF5.sub hS5 n5.1
   have hT6 := n5.1.1.trans hT5
   have hl1 := (hS1.suf hsub1.1).2
   have hl2 := (hS5.suf n5.1.1).2
   rcases bind_inv (r := signS ⟨#[125]⟩ fin r.2) (f := fun _ s => (.ok (⟨7, 0, q, p, 0, ⟨⟨0, 0, 0⟩, ⟨0, 0, 0⟩⟩, r.1, t.f2⟩ : S55), s)) with ⟨a, ha', e⟩ | ⟨e', he, e⟩
   · rw [e]
     refine ⟨hF6, n5.1.1.trans (hsuf5.trans hsub.1), fun e he => by simp at he, fun x hx => ?_⟩
     obtain rfl := Except.ok.inj hx
     exact ⟨_, by simp only; omega, ⟨t, htT, rfl, h7, by simp, by simp⟩, hP.weak.2 _ _ (by simp only; omega) (Int.le_refl _), hl2⟩
   · rw [e]
     exact ⟨hF6, n5.1.1.trans (hsuf5.trans hsub.1), fun e2 he2 => by obtain rfl := Except.error.inj he2; exact ErrG.of hF6 hT6 (sign_err _ fin _ _ he), fun x hx => by simp at hx⟩
 · have h0 : wordIx t.f1 ≠ 0 := by
    intro h0
    have hz := ((hs t hm).1 hk.1).1
    rw [word0 h0] at hz
    exact absurd hz (by decide)
   have hrs := rest_sub rec fin deep _ _ _ hs1 h7 (by omega) y h
   have hre := rest_err rec fin deep _ _ _ h7 y h
   have hrk := rest_kind rec fin deep _ t.f2 (takeS isKey fin s).2 h7 y
   have hF2 := hF1.sub hS1 hrs.1
   have hT2 := hrs.1.1.trans hT1
   have hl2 := (hS1.suf hrs.1.1).2
   refine ⟨hF2, hrs.1.1.trans htk.1.1, fun e he => ErrG.of hF2 hT2 (hre e he), fun x hx => ?_⟩
   obtain ⟨k0, k7, k6⟩ := hrk x h hx
   refine ⟨x.f7 + 1, by omega, ⟨t, htT, k7.symm, k0.symm, by omega, by omega⟩, ?_, by omega⟩
   rw [k6]
   exact .nil (Int.le_refl _)
theorem stmts_off {T : List S44} {fin : Int} (hT : Sorted fin T) : ∀ (k : Nat) (deep : Int) (s : Rs) (out : List S55) (r : List S55 × Rs), stmtsS fin k deep s out = some r → s.toks <:+ T → TokOK s.toks → 0 ≤ deep → deep ≤ 4 → Inv s → FI T fin s →
 FI T fin r.2 ∧ r.2.toks <:+ s.toks ∧ ∃ l, r.1 = out ++ l ∧ PlacedL T (lookS fin s.toks).f2 l (lookS fin r.2.toks).f2
 | 0, deep, s, out, r => fun h => by simp [stmtsS] at h
 | k + 1, deep, s, out, r => fun h hsT hs hd hd4 hI hF => by
  have ih := stmts_off hT k
  have hS := (hT.suf hsT).1
  rw [stmtsS] at h
  by_cases c1 : s.over = true ∨ s.toks = []
  · rw [if_pos c1] at h
    obtain rfl := Option.some.inj h
    exact ⟨hF, List.suffix_refl _, [], by simp, .nil (Int.le_refl _)⟩
  rw [if_neg c1] at h
  have hov : s.over = false := by simpa using fun h' => c1 (.inl h')
  have hne : s.toks ≠ [] := fun h' => c1 (.inr h')
  have h64 := hI.2.2 hov
  have hn0 := hI.1
  obtain ⟨t0, us0, hts⟩ : ∃ t us, s.toks = t :: us := by
   cases h : s.toks with
   | nil => exact absurd h hne
   | cons t us => exact ⟨t, us, rfl⟩
  have hlk : lookS fin s.toks = t0 := by rw [hts]; rfl
  have ht0 : t0 ∈ T := hsT.subset (by rw [hts]; exact List.mem_cons_self)
  have hG : ∀ c : Int, (c = 110 ∨ c = 2) → ErrG T fin s (c, (lookS fin s.toks).f2) := fun c hc => Or.inr ⟨hc, ⟨t0, ht0, by rw [hlk]⟩, hF.le, Int.le_refl _⟩
  by_cases c2 : isSign ⟨#[125]⟩ (lookS fin s.toks) = true
  · rw [if_pos c2] at h
    by_cases c3 : deep > 0
    · rw [if_pos c3] at h
      obtain rfl := Option.some.inj h
      exact ⟨hF, List.suffix_refl _, [], by simp, .nil (Int.le_refl _)⟩
    rw [if_neg c3] at h
    split at h
    · cases h
    · have htl : s.toks.tail <:+ s.toks := List.tail_suffix _
      have hF' := FI.tell (e := (110, (lookS fin s.toks).f2)) hF hS hov (hG 110 (.inl rfl)) htl
      obtain ⟨a, b, l, c, d⟩ := ih _ _ _ _ h (htl.trans hsT) (fun t ht => hs t (List.mem_of_mem_tail ht)) hd hd4 ⟨hI.1, hI.2.1, fun _ => h64⟩ hF'
      exact ⟨a, b.trans htl, l, c, d.weak.2 _ _ (hS.suf htl).2 (Int.le_refl _)⟩
  rw [if_neg c2] at h
  have hw : wrap64 (s.n + 1) = s.n + 1 := by unfold wrap64; omega
  rw [hw] at h
  by_cases c4 : s.n + 1 > 64
  · rw [if_pos c4] at h
    split at h
    · cases h
    · obtain rfl := Option.some.inj h
      have hF' := FI.tell (e := (2, (lookS fin s.toks).f2)) hF hS hov (hG 2 (.inr rfl)) (List.suffix_refl s.toks)
      refine ⟨⟨hF'.le, hF'.ord, ?_⟩, List.suffix_refl _, [], by simp, .nil (Int.le_refl _)⟩
      obtain ⟨a, b, hab, ha, hb⟩ := hF'.good
      refine ⟨a, b, hab, ha, ?_⟩
      rcases hb with hb | ⟨_, hb⟩
      · exact .inl hb
      · exact .inr ⟨rfl, hb⟩
  rw [if_neg c4] at h
  split at h
  · cases h
  obtain ⟨⟨x, s1⟩, hx, h⟩ := Option.bind_eq_some_iff.1 h
  have hI' : Inv { s with n := s.n + 1 } := ⟨by simp only; omega, by simp only; omega, fun _ => by simp only; omega⟩
  have hF0 : FI T fin { s with n := s.n + 1 } := ⟨hF.le, hF.ord, hF.good⟩
  have hrec : RecOK deep (fun d s => stmtsS fin k d s []) := fun s' r' h' ht hi hd' => stmts_sound fin k _ _ _ _ h' ht (by omega) (by omega) hi
  have hrecF : RecF T fin deep (fun d s => stmtsS fin k d s []) := by
   intro s' r' h' hT' ht hi hF' _ hd'
   obtain ⟨a, b, l, c, d⟩ := ih _ _ _ _ h' hT' ht (by omega) (by omega) hi hF'
   rw [List.nil_append] at c
   rw [← c] at d
   exact ⟨a, b, d⟩
  obtain ⟨h1, h2, h3, h4⟩ := one_sound hrec hd hd4 (s := { s with n := s.n + 1 }) hs hI' hov hx
  simp only at h1 h2 h3 h4 h
  obtain ⟨⟨y, s2⟩, hy, hone⟩ := Option.bind_eq_some_iff.1 hx
  obtain ⟨g1, g2, g3, g4⟩ := stmt_off hT hrecF hd hd4 (s := { s with n := s.n + 1 }) hsT hs hI' hF0 hov hy
  simp only at g1 g2 g3 g4
  have hT2 := g2.trans hsT
  have hS2 := (hT.suf hT2).1
  cases y with
  | error f =>
   simp only at hone
   by_cases ho2 : s2.over = true
   · rw [if_pos ho2] at hone
     simp only [Option.some.injEq, Prod.mk.injEq] at hone
     obtain ⟨rfl, rfl⟩ := hone
     simp only at h
     obtain ⟨a, b, l, c, d⟩ := ih _ _ _ _ h hT2 (fun t ht => hs t (h1.subset ht)) hd hd4 h2 g1
     exact ⟨a, b.trans g2, l, c, d.weak.2 _ _ (hS.suf g2).2 (Int.le_refl _)⟩
   · rw [if_neg ho2] at hone
     have ho2 : s2.over = false := by simpa using ho2
     split at hone
     · cases hone
     · simp only [Option.some.injEq, Prod.mk.injEq] at hone
       obtain ⟨rfl, rfl⟩ := hone
       simp only at h
       have hsk := skip_suf s2.toks
       have hF3 := g1.tell hS2 ho2 (g3 f rfl) hsk
       obtain ⟨a, b, l, c, d⟩ := ih _ _ _ _ h (hsk.trans hT2) (fun t ht => hs t (h1.subset ht)) hd hd4 h2 hF3
       exact ⟨a, b.trans (hsk.trans g2), l, c, d.weak.2 _ _ (hS.suf (hsk.trans g2)).2 (Int.le_refl _)⟩
  | ok z =>
   simp only [Option.some.injEq, Prod.mk.injEq] at hone
   obtain ⟨hxz, rfl⟩ := hone
   obtain ⟨m, m1, m2, m3, m4⟩ := g4 z rfl
   obtain ⟨a, b, l, c, d⟩ := ih _ _ _ _ h hT2 (fun t ht => hs t (h1.subset ht)) hd hd4 h2 g1
   by_cases ho2 : s2.over = true
   · rw [if_pos ho2] at hxz
     subst hxz
     exact ⟨a, b.trans g2, l, c, d.weak.2 _ _ (hS.suf g2).2 (Int.le_refl _)⟩
   · rw [if_neg ho2] at hxz
     subst hxz
     simp only at c
     exact ⟨a, b.trans g2, z :: l, by rw [c]; simp, .cons m1 m2 m3 (d.weak.2 _ _ m4 (Int.le_refl _))⟩
theorem path_sorted {s : ByteArray} {i j : Int} {ts : List S44} (h : Path s i ts j) : 0 ≤ i → i ≤ (s.size : Int) → Sorted s.size ts ∧ ∀ t ∈ ts, i ≤ t.f2 := by
 induction h with
 | nil i => intro _ _; exact ⟨trivial, fun t h => by cases h⟩
 | @cons i j ts hlt hok hp ih =>
  intro h0 h1
  have hr := skipTo_range s i h0 h1
  have hn := nextAt_range s _ (by omega) hr.2 hok
  obtain ⟨a, b⟩ := ih (by omega) hn.2
  have e : (tokAt s (skipTo s i)).f2 = skipTo s i := (nextAt_at hok).1
  refine ⟨⟨fun u hu => by have := b u hu; omega, by omega, a⟩, fun t ht => ?_⟩
  rcases List.mem_cons.1 ht with rfl | ht
  · omega
  · have := b t ht; omega
end Go.Proofs.YtonhcfecfifghaaDoor.PPx
namespace Go.Proofs.YtonhcfecfifghaaDoor.PPx
open Go.RowKit Go.Proofs.YtonhcfecfifghaaDoorW.PrintWords Go.Proofs.YtonhcfecfifghaaDoorW.PrintLast Go.Proofs.YtonhcfecfifghaaDoorW.PrintMore
set_option linter.unusedVariables false
theorem toList_inj' {a b : ByteArray} (h : a.toList = b.toList) : a = b := by
 rw [ByteArray.toList_eq, ByteArray.toList_eq] at h
 apply ByteArray.ext
 exact Array.toList_inj.1 h
theorem index_at (l : List ByteArray) (s : ByteArray) (hl : l.length ≤ 1000) : ∀ (k : Nat) (i r : Int), 0 ≤ i → i ≤ l.length → slices_Index_string_string.l0 k l s l.length i = some r → r ≠ -1 → s = rdOf ByteArray.empty l r := by
 intro k
 induction k with
 | zero => intro i r _ _ h; simp [slices_Index_string_string.l0] at h
 | succ k ih =>
  intro i r h0 h1 h hne
  rw [slices_Index_string_string.l0] at h
  by_cases hlt : i < (l.length : Int)
  · rw [if_pos hlt, if_pos h0, if_pos hlt, wrap_small' (by omega) (by omega)] at h
    split at h
    · rename_i he
      obtain rfl := Option.some.inj h
      exact toList_inj' he
    · exact ih (i + 1) r (by omega) (by omega) h hne
  · rw [if_neg hlt] at h
    have := Option.some.inj h; omega
theorem word_eqW {s : ByteArray} {k : Int} (h : wordIx s = k) (hk : 0 ≤ k) : s = rdOf ByteArray.empty wordsL k := by
 have hf := (wordIx_f s).1
 rw [h] at hf
 exact index_at wordsL s (by decide) _ _ _ (by decide) (by decide) hf (by omega)
end Go.Proofs.YtonhcfecfifghaaDoor.PPx
namespace Go.Proofs.YtonhcfecfifghaaDoor.PPx
open Go.RowKit Go.Proofs.YtonhcfecfifghaaDoorW.PrintWords Go.Proofs.YtonhcfecfifghaaDoorW.PrintLast Go.Proofs.YtonhcfecfifghaaDoorW.PrintMore
set_option linter.unusedVariables false
def TextAt (s : ByteArray) (t : S44) : Prop := 0 ≤ t.f2 ∧ t.f2 + t.f1.size ≤ (s.size : Int) ∧ t.f1 = s.extract t.f2.toNat (t.f2 + t.f1.size).toNat
theorem path_text {s : ByteArray} {j : Int} {ts : List S44} (h : Path s 0 ts j) : ∀ t ∈ ts, TextAt s t := by
 intro t ht
 obtain ⟨p, h0, h1, h5, h6, hok, rfl⟩ := path_tok h (Int.le_refl _) (by omega) t ht
 obtain ⟨a1, a2, a3⟩ := nextAt_at hok
 have hn := nextAt_range s p h0 (by omega) hok
 have hsz := size_extractI (s := s) (a := p) (b := (nextAt s p).2.2.2.2) h0 (by omega) hn.2
 have e1 : (tokAt s p).f2 = p := a1
 have e2 : (tokAt s p).f1 = s.extract p.toNat (nextAt s p).2.2.2.2.toNat := a3
 have e3 : ((tokAt s p).f1.size : Int) = (nextAt s p).2.2.2.2 - p := by rw [e2]; exact hsz
 refine ⟨by omega, by omega, ?_⟩
 have e4 : (tokAt s p).f2 + ((tokAt s p).f1.size : Int) = (nextAt s p).2.2.2.2 := by omega
 rw [e4, e1]
 exact e2
theorem PlacedL.len {T : List S44} {a b : Int} {l : List S55} (h : PlacedL T a l b) : a + l.length ≤ b := by
 induction h with
 | nil h => simpa using h
 | cons h1 h2 h3 h4 ih3 ih4 =>
  have := h3.weak.1
  simp only [List.length_cons]
  omega
theorem placed_end (k : Nat) (s : ByteArray) (l : List S55) (a : Int) : ambidexterlaw11_placed.l0 (k + 1) s l a l.length = some (a, true) := by
 rw [ambidexterlaw11_placed.l0, if_neg (Int.lt_irrefl _)]
theorem placed_step (k : Nat) (s : ByteArray) (pre l : List S55) (x : S55) (a : Int) {t : S44} (hp : (pre.length : Int) ≤ 1000000) (hs : s.size ≤ 100000) (ha : a ≤ x.f7) (h0 : 0 ≤ x.f0) (h8 : x.f0 ≤ 8) (ht : TextAt s t) (h7 : t.f2 = x.f7) (hw : t.f1 = rdOf ByteArray.empty wordsL x.f0) :
 ambidexterlaw11_placed.l0 (k + 2) s (pre ++ x :: l) a pre.length = (ambidexterlaw11_placed.f k s x.f6 (x.f7 + 1)).bind fun r => if r.2 = true then (if ((x.f6.length : Int)) = 0 then ambidexterlaw11_placed.l0 k s ((pre ++ [x]) ++ l) (x.f7 + 1) ((pre ++ [x]).length : Int) else ambidexterlaw11_placed.l0 k s ((pre ++ [x]) ++ l) r.1 ((pre ++ [x]).length : Int)) else some (a, false) := by
 obtain ⟨t0, t1, t2⟩ := ht
 rw [h7] at t0 t1 t2
 have hlt : (pre.length : Int) < ((pre ++ x :: l).length : Int) := by simp only [List.length_append, List.length_cons]; omega
 have hi : wrap64 ((pre.length : Int) + 1) = ((pre ++ [x]).length : Int) := by
  simp only [List.length_append, List.length_cons, List.length_nil]
  unfold wrap64; omega
 have hww : wrap64 (x.f7 + (t.f1.size : Int)) = x.f7 + t.f1.size := by unfold wrap64; omega
 have hw1 : wrap64 (x.f7 + 1) = x.f7 + 1 := by unfold wrap64; omega
 have hWl : ((wordsL.length : Nat) : Int) = 9 := rfl
 rw [ambidexterlaw11_placed.l0, if_pos hlt]
 rw [show ambidexterref11_Words.f = some wordsL from rfl, Option.bind_some, if_pos (by omega), rd_mid, if_pos h0, if_pos (by omega), if_neg (by omega), ← hw, hww, if_neg (by omega), if_pos t0, if_pos (by omega), if_pos t1]
 rw [ambidexterlaw11_placed.j1, ← t2, if_neg (by simp), if_pos (by omega), if_pos hlt, rd_mid, hw1, hi, List.append_assoc, List.singleton_append]
theorem placed_ok {s : ByteArray} {T : List S44} (hs : s.size ≤ 100000) (hT : ∀ t ∈ T, TextAt s t) {a b : Int} {l : List S55} (h : PlacedL T a l b) : 0 ≤ a → b ≤ 200000 → ∀ (pre : List S55) (c : Int), pre.length + l.length ≤ 500000 → 0 ≤ c → c ≤ a → ∃ r, EvalsTo (fun k => ambidexterlaw11_placed.l0 k s (pre ++ l) c pre.length) (r, true) ∧ 0 ≤ r ∧ r ≤ b := by
 induction h with
 | nil h =>
  intro ha hb pre c hp hc hca
  refine ⟨c, EvalsTo.shift (j := 1) (EvalsTo.const (c, true)) (fun k => ?_), hc, by omega⟩
  rw [List.append_nil, placed_end]
 | @cons a b m x l h1 h2 h3 h4 ih3 ih4 =>
  intro ha hb pre c hp hc hca
  obtain ⟨t, ht, t7, tw, t0, t8⟩ := h2
  simp only [List.length_cons] at hp
  have hl3 := h3.len
  have hl4 := h4.len
  have hst := fun k => placed_step k s pre l x c (t := t) (by omega) hs (by omega) t0 t8 (hT t ht) t7 (word_eqW tw t0)
  obtain ⟨r3, e3, r30, r31⟩ := ih3 (by omega) (by omega) [] (x.f7 + 1) (by simp only [List.length_nil]; omega) (by omega) (Int.le_refl _)
  have hf : EvalsTo (fun k => ambidexterlaw11_placed.f k s x.f6 (x.f7 + 1)) (r3, true) := EvalsTo.shift (j := 1) e3 fun k => by rw [ambidexterlaw11_placed.f]; rfl
  by_cases hk : (x.f6.length : Int) = 0
  · obtain ⟨r, e, g0, g1⟩ := ih4 (by omega) (by omega) (pre ++ [x]) (x.f7 + 1) (by simp only [List.length_append, List.length_cons, List.length_nil]; omega) (by omega) (by have := h3.weak.1; omega)
    refine ⟨r, EvalsTo.shift (j := 2) ?_ hst, g0, g1⟩
    refine EvalsTo.bind hf ?_
    simp only [if_true, if_pos hk]
    exact e
  · obtain ⟨r, e, g0, g1⟩ := ih4 (by omega) (by omega) (pre ++ [x]) r3 (by simp only [List.length_append, List.length_cons, List.length_nil]; omega) r30 r31
    refine ⟨r, EvalsTo.shift (j := 2) ?_ hst, g0, g1⟩
    refine EvalsTo.bind hf ?_
    simp only [if_true, if_neg hk]
    exact e
theorem rd_midD (pre : List S35) (x : S35) (l : List S35) : rd_T35 (pre ++ x :: l) (pre.length : Int) = x := by simp [rd_T35]
theorem rd_midT (pre : List S44) (x : S44) (l : List S44) : rd_T44 (pre ++ x :: l) (pre.length : Int) = x := by simp [rd_T44]
section
variable {toks : List S44} (s : ByteArray) (l : List S55) (fp fl : List S35) (d : S35)
theorem l1_run {r : Bool} (hfp : fp.length ≤ 100) (hfl : fl.length ≤ 100) (hmon : ∀ c fp', fp = fp' ++ [c] → c.f1 ≤ d.f1)
 (hend : EvalsTo (fun k => ambidexterlaw11_ParserOffsetsIncrease.l0 k s true toks l ((fp ++ [d]) ++ fl) ((fp ++ [d]).length : Int)) r) :
 ∀ (rest pre : List S44) (b : Bool), toks = pre ++ rest → pre.length + rest.length ≤ 100000 → (b = true ∨ ((d.f0 = 110 ∨ d.f0 = 2) ∧ ∃ t ∈ rest, t.f2 = d.f1)) →
  EvalsTo (fun k => ambidexterlaw11_ParserOffsetsIncrease.l1 k s true toks l (fp ++ d :: fl) fp.length b pre.length) r := by
 have hlt : (fp.length : Int) < ((fp ++ d :: fl).length : Int) := by simp only [List.length_append, List.length_cons]; omega
 have hfi : wrap64 ((fp.length : Int) + 1) = ((fp ++ [d]).length : Int) := by
  simp only [List.length_append, List.length_cons, List.length_nil]
  unfold wrap64; omega
 intro rest
 induction rest with
 | nil =>
  intro pre b ht hlen hb
  have hb : b = true := by
   rcases hb with h | ⟨_, t, h, _⟩
   · exact h
   · cases h
  subst hb
  rw [List.append_nil] at ht
  subst ht
  refine EvalsTo.shift (j := 1) hend fun k => ?_
  rw [ambidexterlaw11_ParserOffsetsIncrease.l1, if_neg (Int.lt_irrefl _), if_pos rfl, hfi, List.append_assoc, List.singleton_append]
  by_cases h0 : (fp.length : Int) > 0
  · have hw1 : wrap64 ((fp.length : Int) - 1) = (fp.length : Int) - 1 := by unfold wrap64; omega
    rw [if_pos h0, if_pos (by omega), if_pos hlt, hw1, if_pos (by omega), if_pos (by omega), rd_midD]
    have hne : fp ≠ [] := fun h => by rw [h] at h0; simp at h0
    obtain ⟨fp', c, hc⟩ : ∃ fp' c, fp = fp' ++ [c] := ⟨fp.dropLast, fp.getLast hne, (List.dropLast_concat_getLast hne).symm⟩
    have hm := hmon c fp' hc
    have e : rd_T35 (fp ++ d :: fl) ((fp.length : Int) - 1) = c := by
     have h1 : ((fp.length : Int) - 1) = (fp'.length : Int) := by rw [hc]; simp
     have h2 : fp ++ d :: fl = fp' ++ c :: (d :: fl) := by rw [hc]; simp
     rw [h1, h2, rd_midD]
    rw [e, if_neg (by omega)]
  · rw [if_neg h0]
 | cons t rest ih =>
  intro pre b ht hlen hb
  have hlen' : (pre ++ [t]).length + rest.length ≤ 100000 := by simp only [List.length_append, List.length_cons, List.length_nil] at hlen ⊢; omega
  have ht' : toks = (pre ++ [t]) ++ rest := by rw [ht]; simp
  simp only [List.length_cons] at hlen
  have hi : wrap64 ((pre.length : Int) + 1) = ((pre ++ [t]).length : Int) := by
   simp only [List.length_append, List.length_cons, List.length_nil]
   unfold wrap64; omega
  have hpl : (pre.length : Int) < (toks.length : Int) := by rw [ht]; simp only [List.length_append, List.length_cons]; omega
  have hrd : rd_T44 toks (pre.length : Int) = t := by rw [ht]; exact rd_midT pre t rest
  have step : ∀ c, (c = true ∨ ((d.f0 = 110 ∨ d.f0 = 2) ∧ ∃ t ∈ rest, t.f2 = d.f1)) → (∀ k, ambidexterlaw11_ParserOffsetsIncrease.l1 (k + 1) s true toks l (fp ++ d :: fl) fp.length b pre.length = ambidexterlaw11_ParserOffsetsIncrease.l1 k s true toks l (fp ++ d :: fl) fp.length c ((pre ++ [t]).length : Int)) → EvalsTo (fun k => ambidexterlaw11_ParserOffsetsIncrease.l1 k s true toks l (fp ++ d :: fl) fp.length b pre.length) r := fun c hc he => EvalsTo.shift (j := 1) (ih (pre ++ [t]) c ht' hlen' hc) he
  cases b with
  | true =>
   refine step true (.inl rfl) fun k => ?_
   rw [ambidexterlaw11_ParserOffsetsIncrease.l1, if_pos hpl, if_pos rfl, hi]
  | false =>
   obtain ⟨hk, u, hu, hud⟩ : (d.f0 = 110 ∨ d.f0 = 2) ∧ ∃ u ∈ t :: rest, u.f2 = d.f1 := by
    rcases hb with h | h
    · cases h
    · exact h
   by_cases htd : t.f2 = d.f1
   · refine step true (.inl rfl) fun k => ?_
     rw [ambidexterlaw11_ParserOffsetsIncrease.l1, if_pos hpl, if_neg (by decide), if_pos (by omega), if_pos (by omega), if_pos hlt, hrd, rd_midD, if_pos htd, hi]
     rcases hk with hk | hk
     · rw [if_pos hk]
     · rw [if_neg (by omega), hk]
       rfl
   · have hu' : u ∈ rest := by
      rcases List.mem_cons.1 hu with rfl | h
      · exact absurd hud htd
      · exact h
     refine step false (.inr ⟨hk, u, hu', hud⟩) fun k => ?_
     rw [ambidexterlaw11_ParserOffsetsIncrease.l1, if_pos hpl, if_neg (by decide), if_pos (by omega), if_pos (by omega), if_pos hlt, hrd, rd_midD, if_neg htd, hi]
end
theorem l0_run (s : ByteArray) (toks : List S44) (l : List S55) (hlen : toks.length ≤ 100000) (hend : ∃ r, EvalsTo (fun k => ambidexterlaw11_placed.f k s l 0) (r, true)) :
 ∀ (fl fp : List S35), fp.length + fl.length ≤ 100 → (fp ++ fl).Pairwise (fun a b => a.f1 ≤ b.f1) → (∃ a b, fl = a ++ b ∧ (∀ d ∈ a, Good toks d) ∧ (b = [] ∨ b = [⟨3, s.size⟩])) →
  EvalsTo (fun k => ambidexterlaw11_ParserOffsetsIncrease.l0 k s true toks l (fp ++ fl) fp.length) true := by
 intro fl
 induction fl with
 | nil =>
  intro fp _ _ _
  obtain ⟨r, hr⟩ := hend
  rw [List.append_nil]
  refine EvalsTo.shift (j := 1) (EvalsTo.bind (g := fun _ bt => if true = true then some bt.2 else some false) hr (by simp only [if_true]; exact EvalsTo.const true)) fun k => ?_
  rw [ambidexterlaw11_ParserOffsetsIncrease.l0, if_neg (Int.lt_irrefl _)]
 | cons d fl ih =>
  intro fp hlf hpw hg
  obtain ⟨a, b, hab, ha, hb⟩ := hg
  simp only [List.length_cons] at hlf
  have hlt : (fp.length : Int) < ((fp ++ d :: fl).length : Int) := by simp only [List.length_append, List.length_cons]; omega
  have happ : (fp ++ [d]) ++ fl = fp ++ d :: fl := by simp
  have hg' : ∃ a b, fl = a ++ b ∧ (∀ d ∈ a, Good toks d) ∧ (b = [] ∨ b = [⟨3, s.size⟩]) := by
   cases a with
   | nil =>
    rw [List.nil_append] at hab
    rcases hb with hb | hb
    · rw [hb] at hab; cases hab
    · rw [hb] at hab
      injection hab with _ h2
      exact ⟨[], [], by simpa using h2, (fun d hd => by cases hd), .inl rfl⟩
   | cons c a =>
    injection hab with _ h2
    exact ⟨a, b, h2, fun d hd => ha d (List.mem_cons_of_mem _ hd), hb⟩
  have hnext := ih (fp ++ [d]) (by simp only [List.length_append, List.length_cons, List.length_nil]; omega) (by rw [happ]; exact hpw) hg'
  have hmon : ∀ c fp', fp = fp' ++ [c] → c.f1 ≤ d.f1 := by
   intro c fp' hc
   rw [hc] at hpw
   have h2 := (List.pairwise_append.1 hpw).2.2
   exact h2 c (by simp) d (by simp)
  have run := fun b (hb : b = true ∨ ((d.f0 = 110 ∨ d.f0 = 2) ∧ ∃ t ∈ toks, t.f2 = d.f1)) => l1_run (toks := toks) s l fp fl d (by omega) (by omega) hmon hnext toks [] b rfl (by simpa using hlen) hb
  by_cases h3 : d.f0 = 3
  · -- the end of the text: the last fault
    have hd : d = ⟨3, s.size⟩ ∧ fl = [] := by
     cases a with
     | nil =>
      rw [List.nil_append] at hab
      rcases hb with hb | hb
      · rw [hb] at hab; cases hab
      · rw [hb] at hab
        injection hab with h1 h2
        exact ⟨h1, h2⟩
     | cons c a =>
      injection hab with h1 h2
      have := (ha c List.mem_cons_self).1
      rw [← h1] at this
      omega
    obtain ⟨hd1, hd2⟩ := hd
    have hd3 : d.f1 = s.size := by rw [hd1]
    have hw : wrap64 (((fp ++ d :: fl).length : Int) - 1) = (fp.length : Int) := by
     rw [hd2]
     simp only [List.length_append, List.length_cons, List.length_nil]
     unfold wrap64; omega
    refine EvalsTo.shift (j := 2) (run true (.inl rfl)) fun k => ?_
    rw [ambidexterlaw11_ParserOffsetsIncrease.l0, if_pos hlt, if_pos (by omega), rd_midD, if_pos h3, if_pos hd3, hw, ambidexterlaw11_ParserOffsetsIncrease.j2]
    simp
  · have hgd : Good toks d := by
     cases a with
     | nil =>
      rw [List.nil_append] at hab
      rcases hb with hb | hb
      · rw [hb] at hab; cases hab
      · rw [hb] at hab
        injection hab with h1 h2
        rw [h1] at h3
        exact absurd rfl h3
     | cons c a =>
      injection hab with h1 h2
      rw [h1]
      exact ha c List.mem_cons_self
    refine EvalsTo.shift (j := 2) (run false (.inr hgd)) fun k => ?_
    rw [ambidexterlaw11_ParserOffsetsIncrease.l0, if_pos hlt, if_pos (by omega), rd_midD, if_neg h3, ambidexterlaw11_ParserOffsetsIncrease.j2]
    simp
theorem faults_one (d : S35) : EvalsTo (fun k => ambidexterref11_Faults.f k [d] [d]) true := by
 refine EvalsTo.shift (j := 2) (EvalsTo.const true) fun k => ?_
 unfold ambidexterref11_Faults.f
 rw [if_pos rfl, ambidexterref11_Faults.l0, if_pos (by simp), if_pos (by decide), if_pos (by simp), if_neg (by simp), ambidexterref11_Faults.l0, if_neg (by simp only [List.length_cons, List.length_nil]; unfold wrap64; omega)]
theorem off_pure : ambidexterlaw11_ParserOffsetsIncrease.Pure := by
 intro s _
 suffices h : EvalsTo (fun k => ambidexterlaw11_ParserOffsetsIncrease.f k s) true by
  obtain ⟨K, hK⟩ := h
  exact ⟨K, hK K (Nat.le_refl _)⟩
 unfold ambidexterlaw11_ParserOffsetsIncrease.f
 simp only [show ambidexterlaw11_head.f = some true from rfl, Option.bind_some]
 by_cases hs : (s.size : Int) > 4000
 · simp only [if_pos hs]; exact EvalsTo.const true
 simp only [if_neg hs, show lexer_Lex.f s = some (lexB s) from rfl, Option.bind_some]
 by_cases he : (lexB s).2.1 = 0
 · -- the text lexes
   have hl := lexB_len s
   obtain ⟨l, s', hr, _, _, hI⟩ := stmts_total s.size 30000 0 ⟨(lexB s).1, 0, [], false⟩ [] (Int.le_refl _) (by decide) (lex_ok s) (by simp only; omega) (inv0 _) (by simp) (by simp only; omega)
   have hp : EvalsTo (fun k => parser_Parse.f k s) (l, s'.fl) := by
    refine ⟨30000, fun k hk => ?_⟩
    show parser_Parse.f k s = _
    unfold parser_Parse.f
    rw [if_pos he, stmts_lift hk hr]
    rfl
   obtain ⟨n, ks, hv, hn⟩ := parse_valid (hp.choose_spec _ (Nat.le_refl _))
   obtain ⟨ts, j, hpath, _, _, hc⟩ := whole s (by omega)
   have hts : (lexB s).1 = ts := by
    rcases hc with ⟨h, _⟩ | ⟨h, _, _⟩
    · rw [h]
    · rw [h] at he; exact absurd he (by simp)
   obtain ⟨hSo, _⟩ := path_sorted hpath (Int.le_refl _) (by omega)
   have htx := path_text hpath
   rw [← hts] at hSo htx
   have hI0 : Inv ⟨(lexB s).1, 0, [], false⟩ := ⟨by simp, by simp, fun _ => by simp⟩
   have hF0 : FI (lexB s).1 s.size ⟨(lexB s).1, 0, [], false⟩ := ⟨fun d hd => by simp at hd, by simp, [], [], by simp, fun d hd => by simp at hd, .inl rfl⟩
   obtain ⟨hF, _, l', hl', hP⟩ := stmts_off hSo _ _ _ _ _ hr (List.suffix_refl _) (lex_ok s) (Int.le_refl _) (by decide) hI0 hF0
   rw [List.nil_append] at hl'
   have hl' : l = l' := hl'
   subst hl'
   have hb : (lookS (s.size : Int) s'.toks).f2 ≤ 200000 := by
    cases h : s'.toks with
    | nil => show (s.size : Int) ≤ _; omega
    | cons t us =>
     obtain ⟨_, hsuf, _⟩ := stmts_off hSo _ _ _ _ _ hr (List.suffix_refl _) (lex_ok s) (Int.le_refl _) (by decide) hI0 hF0
     have := hSo.mem t (hsuf.subset (by rw [h]; exact List.mem_cons_self))
     show t.f2 ≤ _
     omega
   have ha : 0 ≤ (lookS (s.size : Int) (lexB s).1).f2 := by
    cases h : (lexB s).1 with
    | nil => show (0 : Int) ≤ s.size; omega
    | cons t us => exact (htx t (by rw [h]; exact List.mem_cons_self)).1
   obtain ⟨r, hr1, _, _⟩ := placed_ok (by omega) htx hP ha hb [] 0 (by have := vls_len hv; simp only [List.length_nil]; omega) (Int.le_refl _) ha
   have hpf : EvalsTo (fun k => ambidexterlaw11_placed.f k s l 0) (r, true) := EvalsTo.shift (j := 1) hr1 fun k => by rw [ambidexterlaw11_placed.f]; rfl
   have hfl20 : s'.fl.length ≤ 20 := hI.2.2.1
   obtain ⟨a, b, hab, hga, hgb⟩ := hF.good
   have hrun := l0_run s (lexB s).1 l (by omega) ⟨r, hpf⟩ s'.fl [] (by simp only [List.length_nil]; omega) (by simpa using hF.ord) ⟨a, b, hab, hga, by
    rcases hgb with h | ⟨_, h⟩
    · exact .inl h
    · exact .inr h⟩
   refine EvalsTo.bind hp ?_
   simp only [if_pos he]
   refine EvalsTo.bind (valid_ok hv hn) ?_
   simp only [if_true]
   rw [decide_eq_false (by omega)]
   refine EvalsTo.shift (j := 1) hrun fun k => ?_
   rw [ambidexterlaw11_ParserOffsetsIncrease.j0, if_neg (by decide)]
   rfl
 · have hp : EvalsTo (fun k => parser_Parse.f k s) ([], [⟨(lexB s).2.1, (lexB s).2.2⟩]) := ⟨0, fun k _ => by
    show parser_Parse.f k s = _
    unfold parser_Parse.f
    rw [if_neg he]⟩
   refine EvalsTo.bind hp ?_
   simp only [if_neg he, if_true, List.length_nil, Int.ofNat_zero]
   refine EvalsTo.bind (faults_one _) ?_
   exact EvalsTo.const true
end Go.Proofs.YtonhcfecfifghaaDoor.PPx
