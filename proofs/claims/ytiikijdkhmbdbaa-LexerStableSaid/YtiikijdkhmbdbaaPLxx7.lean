-- written by a program of this seat (wip/tools/printx.py) with the kit's print and the texts given beside it
import Derived.Test.YtiikijdkhmbdbaaPLxx0
import Derived.Test.YtiikijdkhmbdbaaPLxx3
namespace Go.Proofs.Ytiikijdkhmbdbaa.PLx
open Go.RowKit Go.Proofs.YtiikijdkhmbdbaaW.PrintWords Go.Proofs.YtiikijdkhmbdbaaW.PrintLast Go.Proofs.YtiikijdkhmbdbaaW.PrintMore
attribute [local go_sem] max2_int min2_int max_two min_two max_three min_three max_four min_four   -- for this text's walks alone
set_option linter.unusedVariables false
set_option linter.unusedSimpArgs false

/-! ### ambidexterlaw10_LexerStable: function 5 -/
mutual
def ambidexterlaw10_LexerStable.l0 : Nat → List Int → Bool → List (S31) → List ByteArray → ByteArray → Int → Option (Bool)
  | 0, _, _, _, _, _, _ => none
  | k + 1, x1, x5, x6, x9, x10, x11 => if x11 < (x6.length : Int) then (ambidexterlaw10_LexerStable.j1 k x1 x5 x6 x9 x10 x11 (decide ((x10.size : Int) < 6000))) else (ambidexterlaw10_LexerStable.j1 k x1 x5 x6 x9 x10 x11 false)
def ambidexterlaw10_LexerStable.j1 : Nat → List Int → Bool → List (S31) → List ByteArray → ByteArray → Int → Bool → Option (Bool)
  | 0, _, _, _, _, _, _, _ => none
  | k + 1, x1, x5, x6, x9, x10, x11, x41 => if x41 = true then (if x11 < (x1.length : Int) then (if 0 ≤ x11 then (if x11 < (x6.length : Int) then (if x10.size + ((rd_T31 x6 x11).f1).size ≤ 9223372036854775807 then (if 0 ≤ (Int.tmod (wrap64 (rd x1 x11)) 5) then (if (Int.tmod (wrap64 (rd x1 x11)) 5) < (x9.length : Int) then (if (x10 ++ ((rd_T31 x6 x11).f1)).size + (rdOf ByteArray.empty x9 (Int.tmod (wrap64 (rd x1 x11)) 5)).size ≤ 9223372036854775807 then (ambidexterlaw10_LexerStable.l0 k x1 x5 x6 x9 ((x10 ++ ((rd_T31 x6 x11).f1)) ++ (rdOf ByteArray.empty x9 (Int.tmod (wrap64 (rd x1 x11)) 5))) (wrap64 (x11 + 1))) else (none)) else (none)) else (none)) else (none)) else (none)) else (none)) else (if 0 ≤ x11 then (if x11 < (x6.length : Int) then (if x10.size + ((rd_T31 x6 x11).f1).size ≤ 9223372036854775807 then (if 0 < (x9.length : Int) then (if (x10 ++ ((rd_T31 x6 x11).f1)).size + (rdOf ByteArray.empty x9 0).size ≤ 9223372036854775807 then (ambidexterlaw10_LexerStable.l0 k x1 x5 x6 x9 ((x10 ++ ((rd_T31 x6 x11).f1)) ++ (rdOf ByteArray.empty x9 0)) (wrap64 (x11 + 1))) else (none)) else (none)) else (none)) else (none)) else (none))) else ((lexer_Lex.f x10).bind fun bt152 => (if bt152.2.1 = 0 then (if (bt152.1.length : Int) = (x6.length : Int) then (ambidexterlaw10_LexerStable.j2 k x5 x6 bt152.1 false) else (ambidexterlaw10_LexerStable.j2 k x5 x6 bt152.1 (decide ((x10.size : Int) < 6000)))) else (ambidexterlaw10_LexerStable.j2 k x5 x6 bt152.1 true)))
def ambidexterlaw10_LexerStable.j2 : Nat → Bool → List (S31) → List (S31) → Bool → Option (Bool)
  | 0, _, _, _, _ => none
  | k + 1, x5, x6, x13, x85 => if x85 = true then (some false) else (ambidexterlaw10_LexerStable.l1 k x5 x6 x13 0)
def ambidexterlaw10_LexerStable.l1 : Nat → Bool → List (S31) → List (S31) → Int → Option (Bool)
  | 0, _, _, _, _ => none
  | k + 1, x5, x6, x13, x16 => if x16 < (x13.length : Int) then (ambidexterlaw10_LexerStable.j4 k x5 x6 x13 x16 (decide (x16 < (x6.length : Int)))) else (ambidexterlaw10_LexerStable.j4 k x5 x6 x13 x16 false)
def ambidexterlaw10_LexerStable.j4 : Nat → Bool → List (S31) → List (S31) → Int → Bool → Option (Bool)
  | 0, _, _, _, _, _ => none
  | k + 1, x5, x6, x13, x16, x95 => if x95 = true then (if 0 ≤ x16 then (if x16 < (x13.length : Int) then (if x16 < (x6.length : Int) then (if ((rd_T31 x13 x16).f0) = ((rd_T31 x6 x16).f0) then (if ((rd_T31 x13 x16).f1).toList = ((rd_T31 x6 x16).f1).toList then (ambidexterlaw10_LexerStable.l1 k x5 x6 x13 (wrap64 (x16 + 1))) else (some false)) else (some false)) else (none)) else (none)) else (none)) else (some x5)
end
def ambidexterlaw10_LexerStable.f (k : Nat) (a0 : ByteArray) (l1 : List Int) : Option (Bool) := (ambidexterlaw10_head.f).bind fun t137 => ((ambidexterlaw10_few.f a0).bind fun t138 => ((lexer_Lex.f t138).bind fun bt139 => (if bt139.2.1 = 0 then (ambidexterlaw10_LexerStable.l0 k l1 t137 bt139.1 (([(⟨#[32]⟩ : ByteArray), (⟨#[10]⟩ : ByteArray), (⟨#[32, 9, 13, 10]⟩ : ByteArray), (⟨#[35, 120, 10]⟩ : ByteArray), (⟨#[32, 35, 32, 97, 32, 35, 32, 10, 10]⟩ : ByteArray)] : List ByteArray)) (⟨#[]⟩ : ByteArray) 0) else (if t137 = true then (some (bt139.2.1 == 100)) else (some false)))))
theorem ambidexterlaw10_LexerStable.mono_l : ∀ k, (∀ y0 y1 y2 y3 y4 y5, LeO (ambidexterlaw10_LexerStable.l0 k y0 y1 y2 y3 y4 y5) (ambidexterlaw10_LexerStable.l0 (k + 1) y0 y1 y2 y3 y4 y5)) ∧ (∀ y0 y1 y2 y3 y4 y5 y6, LeO (ambidexterlaw10_LexerStable.j1 k y0 y1 y2 y3 y4 y5 y6) (ambidexterlaw10_LexerStable.j1 (k + 1) y0 y1 y2 y3 y4 y5 y6)) ∧ (∀ y0 y1 y2 y3, LeO (ambidexterlaw10_LexerStable.j2 k y0 y1 y2 y3) (ambidexterlaw10_LexerStable.j2 (k + 1) y0 y1 y2 y3)) ∧ (∀ y0 y1 y2 y3, LeO (ambidexterlaw10_LexerStable.l1 k y0 y1 y2 y3) (ambidexterlaw10_LexerStable.l1 (k + 1) y0 y1 y2 y3)) ∧ (∀ y0 y1 y2 y3 y4, LeO (ambidexterlaw10_LexerStable.j4 k y0 y1 y2 y3 y4) (ambidexterlaw10_LexerStable.j4 (k + 1) y0 y1 y2 y3 y4))
  | 0 => ⟨fun _ _ _ _ _ _ r h => by simp [ambidexterlaw10_LexerStable.l0] at h, fun _ _ _ _ _ _ _ r h => by simp [ambidexterlaw10_LexerStable.j1] at h, fun _ _ _ _ r h => by simp [ambidexterlaw10_LexerStable.j2] at h, fun _ _ _ _ r h => by simp [ambidexterlaw10_LexerStable.l1] at h, fun _ _ _ _ _ r h => by simp [ambidexterlaw10_LexerStable.j4] at h⟩
  | k + 1 => by
    obtain ⟨ih0, ih1, ih2, ih3, ih4⟩ := ambidexterlaw10_LexerStable.mono_l k
    refine ⟨?_, ?_, ?_, ?_, ?_⟩
    · intro y0 y1 y2 y3 y4 y5
      unfold ambidexterlaw10_LexerStable.l0
      repeat' first
      | (with_reducible exact ih0 _ _ _ _ _ _)
      | (with_reducible exact ih1 _ _ _ _ _ _ _)
      | (with_reducible exact ih2 _ _ _ _)
      | (with_reducible exact ih3 _ _ _ _)
      | (with_reducible exact ih4 _ _ _ _ _)
      | (with_reducible exact LeO.refl _)
      | (with_reducible exact LeO.none _)
      | (with_reducible refine LeO.ite ?_ ?_)
      | (with_reducible refine LeO.bind ?_ (fun _ => ?_))
      | exact ih0 _ _ _ _ _ _
      | exact ih1 _ _ _ _ _ _ _
      | exact ih2 _ _ _ _
      | exact ih3 _ _ _ _
      | exact ih4 _ _ _ _ _
      | exact LeO.none _
      | refine LeO.ite ?_ ?_
      | refine LeO.bind ?_ (fun _ => ?_)
    · intro y0 y1 y2 y3 y4 y5 y6
      unfold ambidexterlaw10_LexerStable.j1
      repeat' first
      | (with_reducible exact ih0 _ _ _ _ _ _)
      | (with_reducible exact ih1 _ _ _ _ _ _ _)
      | (with_reducible exact ih2 _ _ _ _)
      | (with_reducible exact ih3 _ _ _ _)
      | (with_reducible exact ih4 _ _ _ _ _)
      | (with_reducible exact LeO.refl _)
      | (with_reducible exact LeO.none _)
      | (with_reducible refine LeO.ite ?_ ?_)
      | (with_reducible refine LeO.bind ?_ (fun _ => ?_))
      | exact ih0 _ _ _ _ _ _
      | exact ih1 _ _ _ _ _ _ _
      | exact ih2 _ _ _ _
      | exact ih3 _ _ _ _
      | exact ih4 _ _ _ _ _
      | exact LeO.none _
      | refine LeO.ite ?_ ?_
      | refine LeO.bind ?_ (fun _ => ?_)
    · intro y0 y1 y2 y3
      unfold ambidexterlaw10_LexerStable.j2
      repeat' first
      | (with_reducible exact ih0 _ _ _ _ _ _)
      | (with_reducible exact ih1 _ _ _ _ _ _ _)
      | (with_reducible exact ih2 _ _ _ _)
      | (with_reducible exact ih3 _ _ _ _)
      | (with_reducible exact ih4 _ _ _ _ _)
      | (with_reducible exact LeO.refl _)
      | (with_reducible exact LeO.none _)
      | (with_reducible refine LeO.ite ?_ ?_)
      | (with_reducible refine LeO.bind ?_ (fun _ => ?_))
      | exact ih0 _ _ _ _ _ _
      | exact ih1 _ _ _ _ _ _ _
      | exact ih2 _ _ _ _
      | exact ih3 _ _ _ _
      | exact ih4 _ _ _ _ _
      | exact LeO.none _
      | refine LeO.ite ?_ ?_
      | refine LeO.bind ?_ (fun _ => ?_)
    · intro y0 y1 y2 y3
      unfold ambidexterlaw10_LexerStable.l1
      repeat' first
      | (with_reducible exact ih0 _ _ _ _ _ _)
      | (with_reducible exact ih1 _ _ _ _ _ _ _)
      | (with_reducible exact ih2 _ _ _ _)
      | (with_reducible exact ih3 _ _ _ _)
      | (with_reducible exact ih4 _ _ _ _ _)
      | (with_reducible exact LeO.refl _)
      | (with_reducible exact LeO.none _)
      | (with_reducible refine LeO.ite ?_ ?_)
      | (with_reducible refine LeO.bind ?_ (fun _ => ?_))
      | exact ih0 _ _ _ _ _ _
      | exact ih1 _ _ _ _ _ _ _
      | exact ih2 _ _ _ _
      | exact ih3 _ _ _ _
      | exact ih4 _ _ _ _ _
      | exact LeO.none _
      | refine LeO.ite ?_ ?_
      | refine LeO.bind ?_ (fun _ => ?_)
    · intro y0 y1 y2 y3 y4
      unfold ambidexterlaw10_LexerStable.j4
      repeat' first
      | (with_reducible exact ih0 _ _ _ _ _ _)
      | (with_reducible exact ih1 _ _ _ _ _ _ _)
      | (with_reducible exact ih2 _ _ _ _)
      | (with_reducible exact ih3 _ _ _ _)
      | (with_reducible exact ih4 _ _ _ _ _)
      | (with_reducible exact LeO.refl _)
      | (with_reducible exact LeO.none _)
      | (with_reducible refine LeO.ite ?_ ?_)
      | (with_reducible refine LeO.bind ?_ (fun _ => ?_))
      | exact ih0 _ _ _ _ _ _
      | exact ih1 _ _ _ _ _ _ _
      | exact ih2 _ _ _ _
      | exact ih3 _ _ _ _
      | exact ih4 _ _ _ _ _
      | exact LeO.none _
      | refine LeO.ite ?_ ?_
      | refine LeO.bind ?_ (fun _ => ?_)
theorem ambidexterlaw10_LexerStable.mono : ∀ a0 a1 k, LeO (ambidexterlaw10_LexerStable.f k a0 a1) (ambidexterlaw10_LexerStable.f (k + 1) a0 a1) := by
  intro a0 a1 k
  obtain ⟨ih0, ih1, ih2, ih3, ih4⟩ := ambidexterlaw10_LexerStable.mono_l k
  unfold ambidexterlaw10_LexerStable.f
  repeat' first
      | (with_reducible exact ih0 _ _ _ _ _ _)
      | (with_reducible exact ih1 _ _ _ _ _ _ _)
      | (with_reducible exact ih2 _ _ _ _)
      | (with_reducible exact ih3 _ _ _ _)
      | (with_reducible exact ih4 _ _ _ _ _)
      | (with_reducible exact LeO.refl _)
      | (with_reducible exact LeO.none _)
      | (with_reducible refine LeO.ite ?_ ?_)
      | (with_reducible refine LeO.bind ?_ (fun _ => ?_))
      | exact ih0 _ _ _ _ _ _
      | exact ih1 _ _ _ _ _ _ _
      | exact ih2 _ _ _ _
      | exact ih3 _ _ _ _
      | exact ih4 _ _ _ _ _
      | exact LeO.none _
      | refine LeO.ite ?_ ?_
      | refine LeO.bind ?_ (fun _ => ?_)
set_option maxHeartbeats 8000000 in
set_option maxRecDepth 100000 in
theorem ambidexterlaw10_LexerStable.calls (k : Nat) (a0 : ByteArray) (A1 : Option Addr) (c1 : Nat) (l1 : List Int) (r : Bool) (w : World) (hr1 : Kd.C (Kd.int .u8) w A1 l1.length l1) (hc1 : l1.length ≤ c1) (h : ambidexterlaw10_LexerStable.f k a0 l1 = some r) :
    Calls Try.prog 5 #[.string a0, .slice A1 l1.length c1] w fun e w' => e = .returned (.bool r) ∧ Below w.heap.size w w' := by
  have HR1 := Aside0.mk hr1
  have HC1 := Aside0.mk hc1
  clear hr1 hc1
  have HB := Aside0.mk (Below.refl w.heap.size w)
  have H : ((ambidexterlaw10_head.f).bind fun t137 => ((ambidexterlaw10_few.f a0).bind fun t138 => ((lexer_Lex.f t138).bind fun bt139 => (if bt139.2.1 = 0 then (ambidexterlaw10_LexerStable.l0 k l1 t137 bt139.1 (([(⟨#[32]⟩ : ByteArray), (⟨#[10]⟩ : ByteArray), (⟨#[32, 9, 13, 10]⟩ : ByteArray), (⟨#[35, 120, 10]⟩ : ByteArray), (⟨#[32, 35, 32, 97, 32, 35, 32, 10, 10]⟩ : ByteArray)] : List ByteArray)) (⟨#[]⟩ : ByteArray) 0) else (if t137 = true then (some (bt139.2.1 == 100)) else (some false)))))) = some r := h
  clear h
  replace H := Option.bind_eq_some_iff.mp H
  obtain ⟨t137, A30, H⟩ := H
  replace H : ((ambidexterlaw10_few.f a0).bind fun t138 => ((lexer_Lex.f t138).bind fun bt139 => (if bt139.2.1 = 0 then (ambidexterlaw10_LexerStable.l0 k l1 t137 bt139.1 (([(⟨#[32]⟩ : ByteArray), (⟨#[10]⟩ : ByteArray), (⟨#[32, 9, 13, 10]⟩ : ByteArray), (⟨#[35, 120, 10]⟩ : ByteArray), (⟨#[32, 35, 32, 97, 32, 35, 32, 10, 10]⟩ : ByteArray)] : List ByteArray)) (⟨#[]⟩ : ByteArray) 0) else (if t137 = true then (some (bt139.2.1 == 100)) else (some false))))) = some r := H
  have A3 := Aside0.mk A30
  clear A30
  replace H := Option.bind_eq_some_iff.mp H
  obtain ⟨t138, A40, H⟩ := H
  replace H : ((lexer_Lex.f t138).bind fun bt139 => (if bt139.2.1 = 0 then (ambidexterlaw10_LexerStable.l0 k l1 t137 bt139.1 (([(⟨#[32]⟩ : ByteArray), (⟨#[10]⟩ : ByteArray), (⟨#[32, 9, 13, 10]⟩ : ByteArray), (⟨#[35, 120, 10]⟩ : ByteArray), (⟨#[32, 35, 32, 97, 32, 35, 32, 10, 10]⟩ : ByteArray)] : List ByteArray)) (⟨#[]⟩ : ByteArray) 0) else (if t137 = true then (some (bt139.2.1 == 100)) else (some false)))) = some r := H
  have A4 := Aside0.mk A40
  clear A40
  replace H := Option.bind_eq_some_iff.mp H
  obtain ⟨⟨t139, t140, t141⟩, A50, H⟩ := H
  replace H : (if t140 = 0 then (ambidexterlaw10_LexerStable.l0 k l1 t137 t139 (([(⟨#[32]⟩ : ByteArray), (⟨#[10]⟩ : ByteArray), (⟨#[32, 9, 13, 10]⟩ : ByteArray), (⟨#[35, 120, 10]⟩ : ByteArray), (⟨#[32, 35, 32, 97, 32, 35, 32, 10, 10]⟩ : ByteArray)] : List ByteArray)) (⟨#[]⟩ : ByteArray) 0) else (if t137 = true then (some (t140 == 100)) else (some false))) = some r := H
  have A5 := Aside0.mk A50
  clear A50
  by_cases c6 : t140 = 0
  · rw [if_pos c6] at H
    have c6b0 : (t140 == 0) = true := beq_iff_eq.mpr c6
    have c6b1 : (t140 != 0) = false := bne_eq_false_iff_eq.mpr c6
    clear c6
    obtain ⟨y144, hy144⟩ : ∃ y_ : List ByteArray, y_ = (([(⟨#[32]⟩ : ByteArray), (⟨#[10]⟩ : ByteArray), (⟨#[32, 9, 13, 10]⟩ : ByteArray), (⟨#[35, 120, 10]⟩ : ByteArray), (⟨#[32, 35, 32, 97, 32, 35, 32, 10, 10]⟩ : ByteArray)] : List ByteArray)) := ⟨_, rfl⟩
    replace H : (ambidexterlaw10_LexerStable.l0 k l1 t137 t139 y144 (⟨#[]⟩ : ByteArray) 0) = some r := by first | (rw [hy144]; with_reducible exact H) | (have H2_ := (Option.bind_some _ _).symm.trans H; rw [hy144]; with_reducible exact H2_) | (have H2_ := (Option.bind_some _ _).symm.trans H; with_reducible exact H2_) | with_reducible exact H | (rw [hy144]; exact H) | exact H
    have Ny144 := Aside0.mk hy144
    clear hy144
    have H' := Aside0.mk H
    clear H
    go_enter Try.func5, Try.ntmps5
    go_wp2_with (first | (go_at_call 10; (with_reducible refine (ambidexterlaw10_head.calls  t137 _ A3.out).mono ?_); rintro e w7 ⟨rfl, hb⟩; have n0_ := Aside0.mk (below_step (by repeat (first | (with_reducible first | exact HB.out | apply below_alloc | apply pw_below_drewN | apply below_drew1) | exact HB.out)) hb); clear HB; have HB := n0_; clear n0_; (try clear hb); (try clear hb2); (try clear hk); (try clear hi)) | (go_at_call 11; (with_reducible refine (ambidexterlaw10_few.calls a0 t138 _ A4.out).mono ?_); rintro e w8 ⟨rfl, hb⟩; have n0_ := Aside0.mk (below_step (by repeat (first | (with_reducible first | exact HB.out | apply below_alloc | apply pw_below_drewN | apply below_drew1) | exact HB.out)) hb); clear HB; have HB := n0_; clear n0_; (try clear hb); (try clear hb2); (try clear hk); (try clear hi)) | (go_at_call 12; (with_reducible refine (lexer_Lex.calls t138 t139 t140 t141 _ A5.out).mono ?_); rintro e w9 ⟨v142, rfl, ho0, hb⟩; have n0_ := Aside0.mk (Kd.R_lower ho0 (below_size (by repeat (first | (with_reducible first | exact HB.out | apply below_alloc | apply pw_below_drewN | apply below_drew1) | exact HB.out)))); have n1_ := Aside0.mk (below_step (by repeat (first | (with_reducible first | exact HB.out | apply below_alloc | apply pw_below_drewN | apply below_drew1) | exact HB.out)) hb); clear HB; have HO143 := n0_; have HB := n1_; clear n0_ n1_; (try clear hb); (try clear hb2); (try clear hk); (try clear hi); (try clear ho0)) | ((with_reducible refine gate_dst (N := 32) rfl ?_); (try (refine gate_guard (by rfl) ?_; dsimp only)); refine Kd.R_lit Kd.string _ 9 ?hg (N := 32) ?hd (xs := ([(⟨#[32]⟩ : ByteArray), (⟨#[10]⟩ : ByteArray), (⟨#[32, 9, 13, 10]⟩ : ByteArray), (⟨#[35, 120, 10]⟩ : ByteArray), (⟨#[32, 35, 32, 97, 32, 35, 32, 10, 10]⟩ : ByteArray)] : List ByteArray)) (inner := [.string (⟨#[32]⟩ : ByteArray), .string (⟨#[10]⟩ : ByteArray), .string (⟨#[32, 9, 13, 10]⟩ : ByteArray), .string (⟨#[35, 120, 10]⟩ : ByteArray), .string (⟨#[32, 35, 32, 97, 32, 35, 32, 10, 10]⟩ : ByteArray)]) (ok := fun _ => True) (okp := fun _ => True) ?hr ?hp (fun _ hk => hk) trivial (Below.refl _ _) (Nat.le_refl _) (by simp) ?_; (case hd => rfl); (case hg => rfl); (case hr => first | (go_simp; done) | (go_simp; rfl)); (case hp => exact (Reps.one (show Kd.M Kd.string _ _ _ (⟨#[32]⟩ : ByteArray) [.string (⟨#[32]⟩ : ByteArray)] from rfl) (Reps.one (show Kd.M Kd.string _ _ _ (⟨#[10]⟩ : ByteArray) [.string (⟨#[10]⟩ : ByteArray)] from rfl) (Reps.one (show Kd.M Kd.string _ _ _ (⟨#[32, 9, 13, 10]⟩ : ByteArray) [.string (⟨#[32, 9, 13, 10]⟩ : ByteArray)] from rfl) (Reps.one (show Kd.M Kd.string _ _ _ (⟨#[35, 120, 10]⟩ : ByteArray) [.string (⟨#[35, 120, 10]⟩ : ByteArray)] from rfl) (Reps.one (show Kd.M Kd.string _ _ _ (⟨#[32, 35, 32, 97, 32, 35, 32, 10, 10]⟩ : ByteArray) [.string (⟨#[32, 35, 32, 97, 32, 35, 32, 10, 10]⟩ : ByteArray)] from rfl) (Reps.none _ _))))))); intro v145 w10 ho11 hb hg_ hnew_; clear hg_ hnew_; (first | rw [← Ny144.out] at ho11 | (simp only [Int.reduceToNat] at ho11; rw [← Ny144.out] at ho11)); have n0_ := Aside0.mk (Kd.R_below (by (with_reducible repeat (first | apply Kd.R_alloc | apply Kd.R_drewN | apply Kd.R_drew)); exact HO143.out) hb); have n1_ := Aside0.mk (Kd.R_lower ho11 (below_size (by repeat (first | (with_reducible first | exact HB.out | apply below_alloc | apply pw_below_drewN | apply below_drew1) | exact HB.out)))); have n2_ := Aside0.mk (below_step (by repeat (first | (with_reducible first | exact HB.out | apply below_alloc | apply pw_below_drewN | apply below_drew1) | exact HB.out)) hb); clear HO143; clear HB; have HO143 := n0_; have HO146 := n1_; have HB := n2_; clear n0_ n1_ n2_; clear hb ho11))
    repeat (go_quiet (first | (go_at_call 10; (with_reducible refine (ambidexterlaw10_head.calls  t137 _ A3.out).mono ?_); rintro e w7 ⟨rfl, hb⟩; have n0_ := Aside0.mk (below_step (by repeat (first | (with_reducible first | exact HB.out | apply below_alloc | apply pw_below_drewN | apply below_drew1) | exact HB.out)) hb); clear HB; have HB := n0_; clear n0_; (try clear hb); (try clear hb2); (try clear hk); (try clear hi)) | (go_at_call 11; (with_reducible refine (ambidexterlaw10_few.calls a0 t138 _ A4.out).mono ?_); rintro e w8 ⟨rfl, hb⟩; have n0_ := Aside0.mk (below_step (by repeat (first | (with_reducible first | exact HB.out | apply below_alloc | apply pw_below_drewN | apply below_drew1) | exact HB.out)) hb); clear HB; have HB := n0_; clear n0_; (try clear hb); (try clear hb2); (try clear hk); (try clear hi)) | (go_at_call 12; (with_reducible refine (lexer_Lex.calls t138 t139 t140 t141 _ A5.out).mono ?_); rintro e w9 ⟨v142, rfl, ho0, hb⟩; have n0_ := Aside0.mk (Kd.R_lower ho0 (below_size (by repeat (first | (with_reducible first | exact HB.out | apply below_alloc | apply pw_below_drewN | apply below_drew1) | exact HB.out)))); have n1_ := Aside0.mk (below_step (by repeat (first | (with_reducible first | exact HB.out | apply below_alloc | apply pw_below_drewN | apply below_drew1) | exact HB.out)) hb); clear HB; have HO143 := n0_; have HB := n1_; clear n0_ n1_; (try clear hb); (try clear hb2); (try clear hk); (try clear hi); (try clear ho0)) | ((with_reducible refine gate_dst (N := 32) rfl ?_); (try (refine gate_guard (by rfl) ?_; dsimp only)); refine Kd.R_lit Kd.string _ 9 ?hg (N := 32) ?hd (xs := ([(⟨#[32]⟩ : ByteArray), (⟨#[10]⟩ : ByteArray), (⟨#[32, 9, 13, 10]⟩ : ByteArray), (⟨#[35, 120, 10]⟩ : ByteArray), (⟨#[32, 35, 32, 97, 32, 35, 32, 10, 10]⟩ : ByteArray)] : List ByteArray)) (inner := [.string (⟨#[32]⟩ : ByteArray), .string (⟨#[10]⟩ : ByteArray), .string (⟨#[32, 9, 13, 10]⟩ : ByteArray), .string (⟨#[35, 120, 10]⟩ : ByteArray), .string (⟨#[32, 35, 32, 97, 32, 35, 32, 10, 10]⟩ : ByteArray)]) (ok := fun _ => True) (okp := fun _ => True) ?hr ?hp (fun _ hk => hk) trivial (Below.refl _ _) (Nat.le_refl _) (by simp) ?_; (case hd => rfl); (case hg => rfl); (case hr => first | (go_simp; done) | (go_simp; rfl)); (case hp => exact (Reps.one (show Kd.M Kd.string _ _ _ (⟨#[32]⟩ : ByteArray) [.string (⟨#[32]⟩ : ByteArray)] from rfl) (Reps.one (show Kd.M Kd.string _ _ _ (⟨#[10]⟩ : ByteArray) [.string (⟨#[10]⟩ : ByteArray)] from rfl) (Reps.one (show Kd.M Kd.string _ _ _ (⟨#[32, 9, 13, 10]⟩ : ByteArray) [.string (⟨#[32, 9, 13, 10]⟩ : ByteArray)] from rfl) (Reps.one (show Kd.M Kd.string _ _ _ (⟨#[35, 120, 10]⟩ : ByteArray) [.string (⟨#[35, 120, 10]⟩ : ByteArray)] from rfl) (Reps.one (show Kd.M Kd.string _ _ _ (⟨#[32, 35, 32, 97, 32, 35, 32, 10, 10]⟩ : ByteArray) [.string (⟨#[32, 35, 32, 97, 32, 35, 32, 10, 10]⟩ : ByteArray)] from rfl) (Reps.none _ _))))))); intro v145 w10 ho11 hb hg_ hnew_; clear hg_ hnew_; (first | rw [← Ny144.out] at ho11 | (simp only [Int.reduceToNat] at ho11; rw [← Ny144.out] at ho11)); have n0_ := Aside0.mk (Kd.R_below (by (with_reducible repeat (first | apply Kd.R_alloc | apply Kd.R_drewN | apply Kd.R_drew)); exact HO143.out) hb); have n1_ := Aside0.mk (Kd.R_lower ho11 (below_size (by repeat (first | (with_reducible first | exact HB.out | apply below_alloc | apply pw_below_drewN | apply below_drew1) | exact HB.out)))); have n2_ := Aside0.mk (below_step (by repeat (first | (with_reducible first | exact HB.out | apply below_alloc | apply pw_below_drewN | apply below_drew1) | exact HB.out)) hb); clear HO143; clear HB; have HO143 := n0_; have HO146 := n1_; have HB := n2_; clear n0_ n1_ n2_; clear hb ho11)); try go_wp2_with (first | (go_at_call 10; (with_reducible refine (ambidexterlaw10_head.calls  t137 _ A3.out).mono ?_); rintro e w7 ⟨rfl, hb⟩; have n0_ := Aside0.mk (below_step (by repeat (first | (with_reducible first | exact HB.out | apply below_alloc | apply pw_below_drewN | apply below_drew1) | exact HB.out)) hb); clear HB; have HB := n0_; clear n0_; (try clear hb); (try clear hb2); (try clear hk); (try clear hi)) | (go_at_call 11; (with_reducible refine (ambidexterlaw10_few.calls a0 t138 _ A4.out).mono ?_); rintro e w8 ⟨rfl, hb⟩; have n0_ := Aside0.mk (below_step (by repeat (first | (with_reducible first | exact HB.out | apply below_alloc | apply pw_below_drewN | apply below_drew1) | exact HB.out)) hb); clear HB; have HB := n0_; clear n0_; (try clear hb); (try clear hb2); (try clear hk); (try clear hi)) | (go_at_call 12; (with_reducible refine (lexer_Lex.calls t138 t139 t140 t141 _ A5.out).mono ?_); rintro e w9 ⟨v142, rfl, ho0, hb⟩; have n0_ := Aside0.mk (Kd.R_lower ho0 (below_size (by repeat (first | (with_reducible first | exact HB.out | apply below_alloc | apply pw_below_drewN | apply below_drew1) | exact HB.out)))); have n1_ := Aside0.mk (below_step (by repeat (first | (with_reducible first | exact HB.out | apply below_alloc | apply pw_below_drewN | apply below_drew1) | exact HB.out)) hb); clear HB; have HO143 := n0_; have HB := n1_; clear n0_ n1_; (try clear hb); (try clear hb2); (try clear hk); (try clear hi); (try clear ho0)) | ((with_reducible refine gate_dst (N := 32) rfl ?_); (try (refine gate_guard (by rfl) ?_; dsimp only)); refine Kd.R_lit Kd.string _ 9 ?hg (N := 32) ?hd (xs := ([(⟨#[32]⟩ : ByteArray), (⟨#[10]⟩ : ByteArray), (⟨#[32, 9, 13, 10]⟩ : ByteArray), (⟨#[35, 120, 10]⟩ : ByteArray), (⟨#[32, 35, 32, 97, 32, 35, 32, 10, 10]⟩ : ByteArray)] : List ByteArray)) (inner := [.string (⟨#[32]⟩ : ByteArray), .string (⟨#[10]⟩ : ByteArray), .string (⟨#[32, 9, 13, 10]⟩ : ByteArray), .string (⟨#[35, 120, 10]⟩ : ByteArray), .string (⟨#[32, 35, 32, 97, 32, 35, 32, 10, 10]⟩ : ByteArray)]) (ok := fun _ => True) (okp := fun _ => True) ?hr ?hp (fun _ hk => hk) trivial (Below.refl _ _) (Nat.le_refl _) (by simp) ?_; (case hd => rfl); (case hg => rfl); (case hr => first | (go_simp; done) | (go_simp; rfl)); (case hp => exact (Reps.one (show Kd.M Kd.string _ _ _ (⟨#[32]⟩ : ByteArray) [.string (⟨#[32]⟩ : ByteArray)] from rfl) (Reps.one (show Kd.M Kd.string _ _ _ (⟨#[10]⟩ : ByteArray) [.string (⟨#[10]⟩ : ByteArray)] from rfl) (Reps.one (show Kd.M Kd.string _ _ _ (⟨#[32, 9, 13, 10]⟩ : ByteArray) [.string (⟨#[32, 9, 13, 10]⟩ : ByteArray)] from rfl) (Reps.one (show Kd.M Kd.string _ _ _ (⟨#[35, 120, 10]⟩ : ByteArray) [.string (⟨#[35, 120, 10]⟩ : ByteArray)] from rfl) (Reps.one (show Kd.M Kd.string _ _ _ (⟨#[32, 35, 32, 97, 32, 35, 32, 10, 10]⟩ : ByteArray) [.string (⟨#[32, 35, 32, 97, 32, 35, 32, 10, 10]⟩ : ByteArray)] from rfl) (Reps.none _ _))))))); intro v145 w10 ho11 hb hg_ hnew_; clear hg_ hnew_; (first | rw [← Ny144.out] at ho11 | (simp only [Int.reduceToNat] at ho11; rw [← Ny144.out] at ho11)); have n0_ := Aside0.mk (Kd.R_below (by (with_reducible repeat (first | apply Kd.R_alloc | apply Kd.R_drewN | apply Kd.R_drew)); exact HO143.out) hb); have n1_ := Aside0.mk (Kd.R_lower ho11 (below_size (by repeat (first | (with_reducible first | exact HB.out | apply below_alloc | apply pw_below_drewN | apply below_drew1) | exact HB.out)))); have n2_ := Aside0.mk (below_step (by repeat (first | (with_reducible first | exact HB.out | apply below_alloc | apply pw_below_drewN | apply below_drew1) | exact HB.out)) hb); clear HO143; clear HB; have HO143 := n0_; have HO146 := n1_; have HB := n2_; clear n0_ n1_ n2_; clear hb ho11)))
    go_loopg [10, 11] k (fun kq v10 v11 w' => ∃ (x10_1 : ByteArray) (x11_1 : Int), v10 = .string x10_1 ∧ v11 = .int .i64 x11_1 ∧ Aside0 (ambidexterlaw10_LexerStable.l0 kq l1 t137 t139 y144 x10_1 x11_1 = some r) ∧ Aside0 (kq ≤ k) ∧ Aside0 (Kd.R k31 31 w' w.heap.size (fun _ => True) v142 t139) ∧ Aside0 (Kd.R Kd.string 9 w' w.heap.size (fun _ => True) v145 y144) ∧ Aside0 (Below w.heap.size w w'))
    case atStart => exact ⟨((⟨#[]⟩ : ByteArray)), (0), (by first | rfl | (simp; done) | (simp [*]; done)), (by first | rfl | (simp; done) | (simp [*]; done)), H', ⟨Nat.le_refl _⟩, ⟨by (with_reducible repeat (first | apply Kd.R_alloc | apply Kd.R_drewN | apply Kd.R_drew)); exact HO143.out⟩, ⟨by (with_reducible repeat (first | apply Kd.R_alloc | apply Kd.R_drewN | apply Kd.R_drew)); exact HO146.out⟩, ⟨by repeat (first | (with_reducible first | exact HB.out | apply below_alloc | apply pw_below_drewN | apply below_drew1) | exact HB.out)⟩⟩
    case round =>
      clear H'
      try clear c1
      try clear p2
      try clear c5
      try clear c6
      try clear c6b0
      try clear c6b1
      obtain ⟨x10_1, x11_1, rfl, rfl, HA, HK1, HO_6, HO_9, HB⟩ := hrel
      cases gk with
      | zero => exact absurd HA.out (by simp [ambidexterlaw10_LexerStable.l0])
      | succ k1 =>
        have H := HA.out
        clear HA
        simp only [ambidexterlaw10_LexerStable.l0] at H
        have HC12 := Aside0.mk H
        clear H
        go_upto_region 8 with (fail)
        repeat (go_quiet (fail); go_upto_region 8 with (fail))
        go_cut [41] (fun v41 wc => ∃ (kq : Nat) (x41_11 : Bool), v41 = .bool x41_11 ∧ Aside0 (ambidexterlaw10_LexerStable.j1 kq l1 t137 t139 y144 x10_1 x11_1 x41_11 = some r) ∧ Aside0 (kq ≤ k1) ∧ Aside0 (Kd.R k31 31 wc w.heap.size (fun _ => True) v142 t139) ∧ Aside0 (Kd.R Kd.string 9 wc w.heap.size (fun _ => True) v145 y144) ∧ Aside0 (Below w.heap.size w wc))
        case first =>
          have H := HC12.out
          clear HC12
          by_cases c13 : x11_1 < (t139.length : Int)
          · rw [if_pos c13] at H
            have c13b0 : decide (x11_1 < (t139.length : Int)) = true := decide_eq_true c13
            clear c13
            (first | rw [c13b0] | (simp only [i64_w, i32_w]; rw [c13b0]) | skip)
            have H' := Aside0.mk H
            clear H
            obtain ⟨Ao14, co14, eo14⟩ := Kd.R_slice HO_6.out
            subst eo14
            go_wp2
            repeat (go_quiet (fail); try go_wp2)
            go_meet
            case rel => exact ⟨_, (decide ((x10_1.size : Int) < 6000)), (by first | rfl | (simp; done) | (simp [*]; done)), H', ⟨by have := HK1.out; first | omega | exact Nat.le_refl _⟩, ⟨by (with_reducible repeat (first | apply Kd.R_alloc | apply Kd.R_drewN | apply Kd.R_drew)); exact HO_6.out⟩, ⟨by (with_reducible repeat (first | apply Kd.R_alloc | apply Kd.R_drewN | apply Kd.R_drew)); exact HO_9.out⟩, ⟨by repeat (first | (with_reducible first | exact HB.out | apply below_alloc | apply pw_below_drewN | apply below_drew1) | exact HB.out)⟩⟩
          · rw [if_neg c13] at H
            have c13b0 : decide (x11_1 < (t139.length : Int)) = false := decide_eq_false c13
            clear c13
            (first | rw [c13b0] | (simp only [i64_w, i32_w]; rw [c13b0]) | skip)
            have H' := Aside0.mk H
            clear H
            obtain ⟨Ao15, co15, eo15⟩ := Kd.R_slice HO_6.out
            subst eo15
            go_wp2
            repeat (go_quiet (fail); try go_wp2)
            go_meet
            case rel => exact ⟨_, (false), (by first | rfl | (simp; done) | (simp [*]; done)), H', ⟨by have := HK1.out; first | omega | exact Nat.le_refl _⟩, ⟨by (with_reducible repeat (first | apply Kd.R_alloc | apply Kd.R_drewN | apply Kd.R_drew)); exact HO_6.out⟩, ⟨by (with_reducible repeat (first | apply Kd.R_alloc | apply Kd.R_drewN | apply Kd.R_drew)); exact HO_9.out⟩, ⟨by repeat (first | (with_reducible first | exact HB.out | apply below_alloc | apply pw_below_drewN | apply below_drew1) | exact HB.out)⟩⟩
        case rest =>
          clear HC12
          try clear c1
          try clear p2
          try clear c5
          try clear c6
          try clear c6b0
          try clear c6b1
          try clear c13
          try clear c13b0
          try clear p2
          obtain ⟨kq, x41_11, rfl, HA, HJ11, HO_6, HO_9, HB⟩ := hcut
          cases kq with
          | zero => exact absurd HA.out (by simp [ambidexterlaw10_LexerStable.j1])
          | succ kj11 =>
            have H := HA.out
            clear HA
            simp only [ambidexterlaw10_LexerStable.j1] at H
            by_cases c16 : x41_11 = true
            · subst c16
              have H1 : (if x11_1 < (l1.length : Int) then (if 0 ≤ x11_1 then (if x11_1 < (t139.length : Int) then (if x10_1.size + ((rd_T31 t139 x11_1).f1).size ≤ 9223372036854775807 then (if 0 ≤ (Int.tmod (wrap64 (rd l1 x11_1)) 5) then (if (Int.tmod (wrap64 (rd l1 x11_1)) 5) < (y144.length : Int) then (if (x10_1 ++ ((rd_T31 t139 x11_1).f1)).size + (rdOf ByteArray.empty y144 (Int.tmod (wrap64 (rd l1 x11_1)) 5)).size ≤ 9223372036854775807 then (ambidexterlaw10_LexerStable.l0 kj11 l1 t137 t139 y144 ((x10_1 ++ ((rd_T31 t139 x11_1).f1)) ++ (rdOf ByteArray.empty y144 (Int.tmod (wrap64 (rd l1 x11_1)) 5))) (wrap64 (x11_1 + 1))) else (none)) else (none)) else (none)) else (none)) else (none)) else (none)) else (if 0 ≤ x11_1 then (if x11_1 < (t139.length : Int) then (if x10_1.size + ((rd_T31 t139 x11_1).f1).size ≤ 9223372036854775807 then (if 0 < (y144.length : Int) then (if (x10_1 ++ ((rd_T31 t139 x11_1).f1)).size + (rdOf ByteArray.empty y144 0).size ≤ 9223372036854775807 then (ambidexterlaw10_LexerStable.l0 kj11 l1 t137 t139 y144 ((x10_1 ++ ((rd_T31 t139 x11_1).f1)) ++ (rdOf ByteArray.empty y144 0)) (wrap64 (x11_1 + 1))) else (none)) else (none)) else (none)) else (none)) else (none))) = some r := by rw [if_pos rfl] at H; exact H
              clear H
              have H := H1
              clear H1
              by_cases c17 : x11_1 < (l1.length : Int)
              · rw [if_pos c17] at H
                have c17b0 : decide (x11_1 < (l1.length : Int)) = true := decide_eq_true c17
                clear c17
                by_cases c18 : 0 ≤ x11_1
                · rw [if_pos c18] at H
                  have c18b0 : decide (0 ≤ x11_1) = true := decide_eq_true c18
                  clear c18
                  by_cases c19 : x11_1 < (t139.length : Int)
                  · rw [if_pos c19] at H
                    have c19b0 : decide (x11_1 < (t139.length : Int)) = true := decide_eq_true c19
                    clear c19
                    by_cases c20 : x10_1.size + ((rd_T31 t139 x11_1).f1).size ≤ 9223372036854775807
                    · rw [if_pos c20] at H
                      have c20b0 := eq_true c20
                      have c20b1 : decide (x10_1.size + ((rd_T31 t139 x11_1).f1).size ≤ 9223372036854775807) = true := decide_eq_true c20
                      try have c20b2 : (9223372036854775807 < x10_1.size + ((rd_T31 t139 x11_1).f1).size) = False := eq_false (Nat.not_lt.2 c20)
                      obtain ⟨ji21, hji21⟩ : ∃ j_ : Int, (Int.tmod (wrap64 (rd l1 x11_1)) 5) = j_ := ⟨_, rfl⟩
                      replace H : (if 0 ≤ (ji21) then (if (ji21) < (y144.length : Int) then (if (x10_1 ++ ((rd_T31 t139 x11_1).f1)).size + (rdOf ByteArray.empty y144 (ji21)).size ≤ 9223372036854775807 then (ambidexterlaw10_LexerStable.l0 kj11 l1 t137 t139 y144 ((x10_1 ++ ((rd_T31 t139 x11_1).f1)) ++ (rdOf ByteArray.empty y144 (ji21))) (wrap64 (x11_1 + 1))) else (none)) else (none)) else (none)) = some r := by first | (rw [hji21] at H; exact H) | (simp only [hji21] at H ⊢; exact H)
                      by_cases c22 : 0 ≤ (ji21)
                      · rw [if_pos c22] at H
                        have c22b0 : decide (0 ≤ (ji21)) = true := decide_eq_true c22
                        clear c22
                        by_cases c23 : (ji21) < (y144.length : Int)
                        · rw [if_pos c23] at H
                          have c23b0 : decide ((ji21) < (y144.length : Int)) = true := decide_eq_true c23
                          clear c23
                          by_cases c24 : (x10_1 ++ ((rd_T31 t139 x11_1).f1)).size + (rdOf ByteArray.empty y144 (ji21)).size ≤ 9223372036854775807
                          · rw [if_pos c24] at H
                            have c24b0 := eq_true c24
                            have c24b1 : decide ((x10_1 ++ ((rd_T31 t139 x11_1).f1)).size + (rdOf ByteArray.empty y144 (ji21)).size ≤ 9223372036854775807) = true := decide_eq_true c24
                            try have c24b2 : (9223372036854775807 < (x10_1 ++ ((rd_T31 t139 x11_1).f1)).size + (rdOf ByteArray.empty y144 (ji21)).size) = False := eq_false (Nat.not_lt.2 c24)
                            have H' := Aside0.mk H
                            clear H
                            have p147 : 0 ≤ (x11_1 : Int) := of_decide_eq_true (by first | (with_reducible assumption) | assumption)
                            have q147 : x11_1 < (l1.length : Int) := of_decide_eq_true (by first | (with_reducible assumption) | assumption)
                            obtain ⟨ad147, e147, hx147_0⟩ := Kd.at_int HR1.out x11_1 p147 q147
                            cases e147
                            replace hx147_0 := (HB.out.cell (World.block_lt_of_cell? w _ hx147_0)).trans hx147_0
                            replace p147 := eq_true p147
                            replace q147 := eq_true q147
                            obtain ⟨Ao25, co25, eo25⟩ := Kd.R_slice HO_6.out
                            subst eo25
                            have p148 : 0 ≤ (x11_1 : Int) := of_decide_eq_true (by first | (with_reducible assumption) | assumption)
                            have q148 : x11_1 < (t139.length : Int) := of_decide_eq_true (by first | (with_reducible assumption) | assumption)
                            obtain ⟨ad148, e148, hx148_0, hx148_1, hx148_2⟩ := at_T31 (Kd.R_reads' HO_6.out).2.2 x11_1 p148 q148
                            cases e148
                            replace p148 := eq_true p148
                            replace q148 := eq_true q148
                            obtain ⟨Ao26, co26, eo26⟩ := Kd.R_slice HO_9.out
                            subst eo26
                            have p149 : 0 ≤ ((ji21) : Int) := of_decide_eq_true (by first | (with_reducible assumption) | assumption)
                            have q149 : (ji21) < (y144.length : Int) := of_decide_eq_true (by first | (with_reducible assumption) | assumption)
                            obtain ⟨ad149, e149, hx149_0⟩ := Kd.at_string (Kd.R_reads' HO_9.out).2.2 (ji21) p149 q149
                            cases e149
                            replace p149 := eq_true p149
                            replace q149 := eq_true q149
                            go_wp2
                            repeat (go_quiet (fail); try go_wp2)
                            go_roundg kj11
                            case measure => have := HK1.out; have := HJ11.out; omega
                            case rel => exact ⟨((x10_1 ++ ((rd_T31 t139 x11_1).f1)) ++ (rdOf ByteArray.empty y144 (ji21))), (wrap64 (x11_1 + 1)), (by first | rfl | (simp; done) | (simp only [← hji21] <;> (first | rfl | simp)) | (simp [*]; done)), (by first | rfl | (simp; done) | (simp [*]; done)), H', ⟨by have := HK1.out; have := HJ11.out; omega⟩, ⟨by (with_reducible repeat (first | apply Kd.R_alloc | apply Kd.R_drewN | apply Kd.R_drew)); exact HO_6.out⟩, ⟨by (with_reducible repeat (first | apply Kd.R_alloc | apply Kd.R_drewN | apply Kd.R_drew)); exact HO_9.out⟩, ⟨by repeat (first | (with_reducible first | exact HB.out | apply below_alloc | apply pw_below_drewN | apply below_drew1) | exact HB.out)⟩⟩
                          · rw [if_neg c24] at H
                            exact absurd H (by simp)
                        · rw [if_neg c23] at H
                          exact absurd H (by simp)
                      · rw [if_neg c22] at H
                        exact absurd H (by simp)
                    · rw [if_neg c20] at H
                      exact absurd H (by simp)
                  · rw [if_neg c19] at H
                    exact absurd H (by simp)
                · rw [if_neg c18] at H
                  exact absurd H (by simp)
              · rw [if_neg c17] at H
                have c17b0 : decide (x11_1 < (l1.length : Int)) = false := decide_eq_false c17
                clear c17
                by_cases c27 : 0 ≤ x11_1
                · rw [if_pos c27] at H
                  have c27b0 : decide (0 ≤ x11_1) = true := decide_eq_true c27
                  clear c27
                  by_cases c28 : x11_1 < (t139.length : Int)
                  · rw [if_pos c28] at H
                    have c28b0 : decide (x11_1 < (t139.length : Int)) = true := decide_eq_true c28
                    clear c28
                    by_cases c29 : x10_1.size + ((rd_T31 t139 x11_1).f1).size ≤ 9223372036854775807
                    · rw [if_pos c29] at H
                      have c29b0 := eq_true c29
                      have c29b1 : decide (x10_1.size + ((rd_T31 t139 x11_1).f1).size ≤ 9223372036854775807) = true := decide_eq_true c29
                      try have c29b2 : (9223372036854775807 < x10_1.size + ((rd_T31 t139 x11_1).f1).size) = False := eq_false (Nat.not_lt.2 c29)
                      by_cases c30 : 0 < (y144.length : Int)
                      · rw [if_pos c30] at H
                        have c30b0 : decide (0 < (y144.length : Int)) = true := decide_eq_true c30
                        have c30b1 : decide (0 < y144.length) = true := decide_eq_true (by omega)
                        clear c30
                        by_cases c31 : (x10_1 ++ ((rd_T31 t139 x11_1).f1)).size + (rdOf ByteArray.empty y144 0).size ≤ 9223372036854775807
                        · rw [if_pos c31] at H
                          have c31b0 := eq_true c31
                          have c31b1 : decide ((x10_1 ++ ((rd_T31 t139 x11_1).f1)).size + (rdOf ByteArray.empty y144 0).size ≤ 9223372036854775807) = true := decide_eq_true c31
                          try have c31b2 : (9223372036854775807 < (x10_1 ++ ((rd_T31 t139 x11_1).f1)).size + (rdOf ByteArray.empty y144 0).size) = False := eq_false (Nat.not_lt.2 c31)
                          have H' := Aside0.mk H
                          clear H
                          obtain ⟨Ao32, co32, eo32⟩ := Kd.R_slice HO_6.out
                          subst eo32
                          have p150 : 0 ≤ (x11_1 : Int) := of_decide_eq_true (by first | (with_reducible assumption) | assumption)
                          have q150 : x11_1 < (t139.length : Int) := of_decide_eq_true (by first | (with_reducible assumption) | assumption)
                          obtain ⟨ad150, e150, hx150_0, hx150_1, hx150_2⟩ := at_T31 (Kd.R_reads' HO_6.out).2.2 x11_1 p150 q150
                          cases e150
                          replace p150 := eq_true p150
                          replace q150 := eq_true q150
                          obtain ⟨Ao33, co33, eo33⟩ := Kd.R_slice HO_9.out
                          subst eo33
                          have p151 : 0 ≤ (0 : Int) := (by omega)
                          have q151 : 0 < (y144.length : Int) := of_decide_eq_true (by first | (with_reducible assumption) | assumption)
                          obtain ⟨ad151, e151, hx151_0⟩ := Kd.at_string (Kd.R_reads' HO_9.out).2.2 0 p151 q151
                          cases e151
                          have qi151 : (0 < y144.length) = True := eq_true (by omega)
                          (try rw [show ((0 : Int)).toNat = 0 from rfl] at hx151_0)
                          (try rw [Addr.add_zero'] at hx151_0)
                          replace p151 := eq_true p151
                          replace q151 := eq_true q151
                          go_wp2
                          repeat (go_quiet (fail); try go_wp2)
                          go_roundg kj11
                          case measure => have := HK1.out; have := HJ11.out; omega
                          case rel => exact ⟨((x10_1 ++ ((rd_T31 t139 x11_1).f1)) ++ (rdOf ByteArray.empty y144 0)), (wrap64 (x11_1 + 1)), (by first | rfl | (simp; done) | (simp [*]; done)), (by first | rfl | (simp; done) | (simp [*]; done)), H', ⟨by have := HK1.out; have := HJ11.out; omega⟩, ⟨by (with_reducible repeat (first | apply Kd.R_alloc | apply Kd.R_drewN | apply Kd.R_drew)); exact HO_6.out⟩, ⟨by (with_reducible repeat (first | apply Kd.R_alloc | apply Kd.R_drewN | apply Kd.R_drew)); exact HO_9.out⟩, ⟨by repeat (first | (with_reducible first | exact HB.out | apply below_alloc | apply pw_below_drewN | apply below_drew1) | exact HB.out)⟩⟩
                        · rw [if_neg c31] at H
                          exact absurd H (by simp)
                      · rw [if_neg c30] at H
                        exact absurd H (by simp)
                    · rw [if_neg c29] at H
                      exact absurd H (by simp)
                  · rw [if_neg c28] at H
                    exact absurd H (by simp)
                · rw [if_neg c27] at H
                  exact absurd H (by simp)
            · replace c16 := Bool.eq_false_iff.mpr c16
              subst c16
              have H1 : ((lexer_Lex.f x10_1).bind fun bt152 => (if bt152.2.1 = 0 then (if (bt152.1.length : Int) = (t139.length : Int) then (ambidexterlaw10_LexerStable.j2 kj11 t137 t139 bt152.1 false) else (ambidexterlaw10_LexerStable.j2 kj11 t137 t139 bt152.1 (decide ((x10_1.size : Int) < 6000)))) else (ambidexterlaw10_LexerStable.j2 kj11 t137 t139 bt152.1 true))) = some r := by rw [if_neg (show ¬ (false = true) by decide)] at H; exact H
              clear H
              have H := H1
              clear H1
              replace H := Option.bind_eq_some_iff.mp H
              obtain ⟨⟨t152, t153, t154⟩, A340, H⟩ := H
              replace H : (if t153 = 0 then (if (t152.length : Int) = (t139.length : Int) then (ambidexterlaw10_LexerStable.j2 kj11 t137 t139 t152 false) else (ambidexterlaw10_LexerStable.j2 kj11 t137 t139 t152 (decide ((x10_1.size : Int) < 6000)))) else (ambidexterlaw10_LexerStable.j2 kj11 t137 t139 t152 true)) = some r := H
              have A34 := Aside0.mk A340
              clear A340
              have HC35 := Aside0.mk H
              clear H
              go_upto_region 15 with (first | (go_at_call 12; (with_reducible refine (lexer_Lex.calls x10_1 t152 t153 t154 _ A34.out).mono ?_); rintro e w36 ⟨v155, rfl, ho0, hb⟩; have n0_ := Aside0.mk (Kd.R_elder' (by (with_reducible repeat (first | apply Kd.R_alloc | apply Kd.R_drewN | apply Kd.R_drew)); exact HO_6.out) (Kd.R_base ho0) hb); have n1_ := Aside0.mk (Kd.R_below (by (with_reducible repeat (first | apply Kd.R_alloc | apply Kd.R_drewN | apply Kd.R_drew)); exact HO_9.out) hb); have n2_ := Aside0.mk (Kd.R_lower (Kd.R_new' ho0 (Kd.R_lt (by (with_reducible repeat (first | apply Kd.R_alloc | apply Kd.R_drewN | apply Kd.R_drew)); exact HO_6.out))) (below_size (by repeat (first | (with_reducible first | exact HB.out | apply below_alloc | apply pw_below_drewN | apply below_drew1) | exact HB.out)))); have n3_ := Aside0.mk (below_step (by repeat (first | (with_reducible first | exact HB.out | apply below_alloc | apply pw_below_drewN | apply below_drew1) | exact HB.out)) hb); clear HO_6; clear HO_9; clear HB; have HO_6 := n0_; have HO_9 := n1_; have HO156 := n2_; have HB := n3_; clear n0_ n1_ n2_ n3_; (try clear hb); (try clear hb2); (try clear hk); (try clear hi); (try clear ho0)))
              repeat (go_quiet (first | (go_at_call 12; (with_reducible refine (lexer_Lex.calls x10_1 t152 t153 t154 _ A34.out).mono ?_); rintro e w36 ⟨v155, rfl, ho0, hb⟩; have n0_ := Aside0.mk (Kd.R_elder' (by (with_reducible repeat (first | apply Kd.R_alloc | apply Kd.R_drewN | apply Kd.R_drew)); exact HO_6.out) (Kd.R_base ho0) hb); have n1_ := Aside0.mk (Kd.R_below (by (with_reducible repeat (first | apply Kd.R_alloc | apply Kd.R_drewN | apply Kd.R_drew)); exact HO_9.out) hb); have n2_ := Aside0.mk (Kd.R_lower (Kd.R_new' ho0 (Kd.R_lt (by (with_reducible repeat (first | apply Kd.R_alloc | apply Kd.R_drewN | apply Kd.R_drew)); exact HO_6.out))) (below_size (by repeat (first | (with_reducible first | exact HB.out | apply below_alloc | apply pw_below_drewN | apply below_drew1) | exact HB.out)))); have n3_ := Aside0.mk (below_step (by repeat (first | (with_reducible first | exact HB.out | apply below_alloc | apply pw_below_drewN | apply below_drew1) | exact HB.out)) hb); clear HO_6; clear HO_9; clear HB; have HO_6 := n0_; have HO_9 := n1_; have HO156 := n2_; have HB := n3_; clear n0_ n1_ n2_ n3_; (try clear hb); (try clear hb2); (try clear hk); (try clear hi); (try clear ho0))); go_upto_region 15 with (first | (go_at_call 12; (with_reducible refine (lexer_Lex.calls x10_1 t152 t153 t154 _ A34.out).mono ?_); rintro e w36 ⟨v155, rfl, ho0, hb⟩; have n0_ := Aside0.mk (Kd.R_elder' (by (with_reducible repeat (first | apply Kd.R_alloc | apply Kd.R_drewN | apply Kd.R_drew)); exact HO_6.out) (Kd.R_base ho0) hb); have n1_ := Aside0.mk (Kd.R_below (by (with_reducible repeat (first | apply Kd.R_alloc | apply Kd.R_drewN | apply Kd.R_drew)); exact HO_9.out) hb); have n2_ := Aside0.mk (Kd.R_lower (Kd.R_new' ho0 (Kd.R_lt (by (with_reducible repeat (first | apply Kd.R_alloc | apply Kd.R_drewN | apply Kd.R_drew)); exact HO_6.out))) (below_size (by repeat (first | (with_reducible first | exact HB.out | apply below_alloc | apply pw_below_drewN | apply below_drew1) | exact HB.out)))); have n3_ := Aside0.mk (below_step (by repeat (first | (with_reducible first | exact HB.out | apply below_alloc | apply pw_below_drewN | apply below_drew1) | exact HB.out)) hb); clear HO_6; clear HO_9; clear HB; have HO_6 := n0_; have HO_9 := n1_; have HO156 := n2_; have HB := n3_; clear n0_ n1_ n2_ n3_; (try clear hb); (try clear hb2); (try clear hk); (try clear hi); (try clear ho0))))
              (try simp only [Act.put, List.setIfInBounds_toArray, List.set_cons_zero, List.set_cons_succ])
              go_cut [85] (fun v85 wc => ∃ (kq : Nat) (x85_34 : Bool), v85 = .bool x85_34 ∧ Aside0 (ambidexterlaw10_LexerStable.j2 kq t137 t139 t152 x85_34 = some r) ∧ Aside0 (kq ≤ kj11) ∧ Aside0 (Kd.R k31 31 wc w.heap.size (fun k_ => some k_ ≠ (v155 : Value).ownBlock) v142 t139) ∧ Aside0 (Kd.R k31 31 wc w.heap.size (fun k_ => some k_ ≠ (v142 : Value).ownBlock) v155 t152) ∧ Aside0 (Below w.heap.size w wc))
              case first =>
                have H := HC35.out
                clear HC35
                by_cases c37 : t153 = 0
                · rw [if_pos c37] at H
                  have c37b0 : (t153 == 0) = true := beq_iff_eq.mpr c37
                  have c37b1 : (t153 != 0) = false := bne_eq_false_iff_eq.mpr c37
                  clear c37
                  (first | rw [c37b0] | (simp only [i64_w, i32_w]; rw [c37b0]) | skip)
                  by_cases c38 : (t152.length : Int) = (t139.length : Int)
                  · rw [if_pos c38] at H
                    have c38b0 : ((t152.length : Int) == (t139.length : Int)) = true := beq_iff_eq.mpr c38
                    have c38b1 : ((t152.length : Int) != (t139.length : Int)) = false := bne_eq_false_iff_eq.mpr c38
                    have c38b2 : (t152.length == t139.length) = true := by first | simpa using c38 | (simp at c38 ⊢; omega)
                    clear c38
                    have H' := Aside0.mk H
                    clear H
                    obtain ⟨Ao39, co39, eo39⟩ := Kd.R_slice HO156.out
                    subst eo39
                    obtain ⟨Ao40, co40, eo40⟩ := Kd.R_slice HO_6.out
                    subst eo40
                    go_wp2
                    repeat (go_quiet (fail); try go_wp2)
                    go_meet
                    case rel => exact ⟨_, (false), (by first | rfl | (simp; done) | (simp [*]; done)), H', ⟨by have := HK1.out; have := HJ11.out; first | omega | exact Nat.le_refl _⟩, ⟨by (with_reducible repeat (first | apply Kd.R_alloc | apply Kd.R_drewN | apply Kd.R_drew)); exact Kd.R_mono HO_6.out (fun _ hk => hk.2)⟩, ⟨by (with_reducible repeat (first | apply Kd.R_alloc | apply Kd.R_drewN | apply Kd.R_drew)); exact Kd.R_mono HO156.out (fun _ hk => hk.2)⟩, ⟨by repeat (first | (with_reducible first | exact HB.out | apply below_alloc | apply pw_below_drewN | apply below_drew1) | exact HB.out)⟩⟩
                  · rw [if_neg c38] at H
                    have c38b0 : ((t152.length : Int) == (t139.length : Int)) = false := beq_eq_false_iff_ne.mpr c38
                    have c38b1 : ((t152.length : Int) != (t139.length : Int)) = true := bne_iff_ne.mpr c38
                    have c38b2 : (t152.length == t139.length) = false := by first | simpa using c38 | (simp at c38 ⊢; omega)
                    have H' := Aside0.mk H
                    clear H
                    obtain ⟨Ao41, co41, eo41⟩ := Kd.R_slice HO156.out
                    subst eo41
                    obtain ⟨Ao42, co42, eo42⟩ := Kd.R_slice HO_6.out
                    subst eo42
                    go_wp2
                    repeat (go_quiet (fail); try go_wp2)
                    go_meet
                    case rel => exact ⟨_, (decide ((x10_1.size : Int) < 6000)), (by first | rfl | (simp; done) | (simp [*]; done)), H', ⟨by have := HK1.out; have := HJ11.out; first | omega | exact Nat.le_refl _⟩, ⟨by (with_reducible repeat (first | apply Kd.R_alloc | apply Kd.R_drewN | apply Kd.R_drew)); exact Kd.R_mono HO_6.out (fun _ hk => hk.2)⟩, ⟨by (with_reducible repeat (first | apply Kd.R_alloc | apply Kd.R_drewN | apply Kd.R_drew)); exact Kd.R_mono HO156.out (fun _ hk => hk.2)⟩, ⟨by repeat (first | (with_reducible first | exact HB.out | apply below_alloc | apply pw_below_drewN | apply below_drew1) | exact HB.out)⟩⟩
                · rw [if_neg c37] at H
                  have c37b0 : (t153 == 0) = false := beq_eq_false_iff_ne.mpr c37
                  have c37b1 : (t153 != 0) = true := bne_iff_ne.mpr c37
                  (first | rw [c37b0] | (simp only [i64_w, i32_w]; rw [c37b0]) | skip)
                  have H' := Aside0.mk H
                  clear H
                  go_wp2
                  repeat (go_quiet (fail); try go_wp2)
                  go_meet
                  case rel => exact ⟨_, (true), (by first | rfl | (simp; done) | (simp [*]; done)), H', ⟨by have := HK1.out; have := HJ11.out; first | omega | exact Nat.le_refl _⟩, ⟨by (with_reducible repeat (first | apply Kd.R_alloc | apply Kd.R_drewN | apply Kd.R_drew)); exact Kd.R_mono HO_6.out (fun _ hk => hk.2)⟩, ⟨by (with_reducible repeat (first | apply Kd.R_alloc | apply Kd.R_drewN | apply Kd.R_drew)); exact Kd.R_mono HO156.out (fun _ hk => hk.2)⟩, ⟨by repeat (first | (with_reducible first | exact HB.out | apply below_alloc | apply pw_below_drewN | apply below_drew1) | exact HB.out)⟩⟩
              case rest =>
                clear HC35
                try clear c1
                try clear p1
                try clear q1
                try clear hx1
                try clear qi1
                try clear c2
                try clear p2
                try clear c3
                try clear c5
                try clear c6
                try clear c6b0
                try clear c6b1
                try clear p6
                try clear c13
                try clear c13b0
                try clear p14
                try clear q14
                try clear hx14
                try clear p15
                try clear q15
                try clear hx15
                try clear qi15
                try clear c16
                try clear c17
                try clear c17b0
                try clear c18
                try clear c18b0
                try clear c19
                try clear c19b0
                try clear c20
                try clear c20b0
                try clear c20b1
                try clear c20b2
                try clear c22
                try clear c22b0
                try clear c23
                try clear c23b0
                try clear c24
                try clear c24b0
                try clear c24b1
                try clear c24b2
                try clear c27
                try clear c27b0
                try clear c28
                try clear c28b0
                try clear c29
                try clear c29b0
                try clear c29b1
                try clear c29b2
                try clear c30
                try clear c30b0
                try clear c30b1
                try clear c31
                try clear c31b0
                try clear c31b1
                try clear c31b2
                try clear c37
                try clear c37b0
                try clear c37b1
                try clear c38
                try clear c38b0
                try clear c38b1
                try clear c38b2
                try clear hx147_0
                try clear hx148_0
                try clear hx148_1
                try clear hx148_2
                try clear hx149_0
                try clear hx150_0
                try clear hx150_1
                try clear hx150_2
                try clear hx151_0
                try clear p147
                try clear p148
                try clear p149
                try clear p150
                try clear p151
                try clear p2
                try clear q147
                try clear q148
                try clear q149
                try clear q150
                try clear q151
                obtain ⟨kq, x85_34, rfl, HA, HJ34, HO_6, HO_13, HB⟩ := hcut
                cases kq with
                | zero => exact absurd HA.out (by simp [ambidexterlaw10_LexerStable.j2])
                | succ kj34 =>
                  have H := HA.out
                  clear HA
                  simp only [ambidexterlaw10_LexerStable.j2] at H
                  by_cases c43 : x85_34 = true
                  · subst c43
                    have H1 : (some false) = some r := by rw [if_pos rfl] at H; exact H
                    clear H
                    have H := H1
                    clear H1
                    obtain rfl := Option.some.inj H
                    go_wp2
                    repeat (go_quiet (fail); try go_wp2)
                    go_ret
                    exact ⟨by first | rfl | (simp [errW_none, errW_some] <;> rfl) | (simp [*, errW_none, errW_some] <;> rfl), by repeat (first | (with_reducible first | exact HB.out | apply below_alloc | apply pw_below_drewN | apply below_drew1) | exact HB.out)⟩
                  · replace c43 := Bool.eq_false_iff.mpr c43
                    subst c43
                    have H1 : (ambidexterlaw10_LexerStable.l1 kj34 t137 t139 t152 0) = some r := by rw [if_neg (show ¬ (false = true) by decide)] at H; exact H
                    clear H
                    have H := H1
                    clear H1
                    have H' := Aside0.mk H
                    clear H
                    go_wp2
                    repeat (go_quiet (fail); try go_wp2)
                    go_loopg [16] kj34 (fun kq v16 w' => ∃ (x16_4 : Int), v16 = .int .i64 x16_4 ∧ Aside0 (ambidexterlaw10_LexerStable.l1 kq t137 t139 t152 x16_4 = some r) ∧ Aside0 (kq ≤ kj34) ∧ Aside0 (Kd.R k31 31 w' w.heap.size (fun k_ => some k_ ≠ (v155 : Value).ownBlock) v142 t139) ∧ Aside0 (Kd.R k31 31 w' w.heap.size (fun k_ => some k_ ≠ (v142 : Value).ownBlock) v155 t152) ∧ Aside0 (Below w.heap.size w w'))
                    case atStart => exact ⟨(0), (by first | rfl | (simp; done) | (simp [*]; done)), H', ⟨Nat.le_refl _⟩, ⟨by (with_reducible repeat (first | apply Kd.R_alloc | apply Kd.R_drewN | apply Kd.R_drew)); exact HO_6.out⟩, ⟨by (with_reducible repeat (first | apply Kd.R_alloc | apply Kd.R_drewN | apply Kd.R_drew)); exact HO_13.out⟩, ⟨by repeat (first | (with_reducible first | exact HB.out | apply below_alloc | apply pw_below_drewN | apply below_drew1) | exact HB.out)⟩⟩
                    case round =>
                      clear H'
                      try clear c1
                      try clear p1
                      try clear q1
                      try clear hx1
                      try clear qi1
                      try clear c2
                      try clear p2
                      try clear c3
                      try clear c4
                      try clear c5
                      try clear c6
                      try clear c6b0
                      try clear c6b1
                      try clear p6
                      try clear c13
                      try clear c13b0
                      try clear p14
                      try clear q14
                      try clear hx14
                      try clear p15
                      try clear q15
                      try clear hx15
                      try clear qi15
                      try clear c16
                      try clear c17
                      try clear c17b0
                      try clear c18
                      try clear c18b0
                      try clear c19
                      try clear c19b0
                      try clear c20
                      try clear c20b0
                      try clear c20b1
                      try clear c20b2
                      try clear c22
                      try clear c22b0
                      try clear c23
                      try clear c23b0
                      try clear c24
                      try clear c24b0
                      try clear c24b1
                      try clear c24b2
                      try clear c27
                      try clear c27b0
                      try clear c28
                      try clear c28b0
                      try clear c29
                      try clear c29b0
                      try clear c29b1
                      try clear c29b2
                      try clear c30
                      try clear c30b0
                      try clear c30b1
                      try clear c31
                      try clear c31b0
                      try clear c31b1
                      try clear c31b2
                      try clear c37
                      try clear c37b0
                      try clear c37b1
                      try clear c38
                      try clear c38b0
                      try clear c38b1
                      try clear c38b2
                      try clear c43
                      try clear hx147_0
                      try clear hx148_0
                      try clear hx148_1
                      try clear hx148_2
                      try clear hx149_0
                      try clear hx150_0
                      try clear hx150_1
                      try clear hx150_2
                      try clear hx151_0
                      try clear p1
                      try clear p14
                      try clear p147
                      try clear p148
                      try clear p149
                      try clear p15
                      try clear p150
                      try clear p151
                      try clear p2
                      try clear p6
                      try clear q1
                      try clear q14
                      try clear q147
                      try clear q148
                      try clear q149
                      try clear q15
                      try clear q150
                      try clear q151
                      obtain ⟨x16_4, rfl, HA, HK4, HO_6, HO_13, HB⟩ := hrel
                      cases gk with
                      | zero => exact absurd HA.out (by simp [ambidexterlaw10_LexerStable.l1])
                      | succ k4 =>
                        have H := HA.out
                        clear HA
                        simp only [ambidexterlaw10_LexerStable.l1] at H
                        have HC44 := Aside0.mk H
                        clear H
                        go_upto_region 18 with (fail)
                        repeat (go_quiet (fail); go_upto_region 18 with (fail))
                        go_cut [95] (fun v95 wc => ∃ (kq : Nat) (x95_43 : Bool), v95 = .bool x95_43 ∧ Aside0 (ambidexterlaw10_LexerStable.j4 kq t137 t139 t152 x16_4 x95_43 = some r) ∧ Aside0 (kq ≤ k4) ∧ Aside0 (Kd.R k31 31 wc w.heap.size (fun k_ => some k_ ≠ (v155 : Value).ownBlock) v142 t139) ∧ Aside0 (Kd.R k31 31 wc w.heap.size (fun k_ => some k_ ≠ (v142 : Value).ownBlock) v155 t152) ∧ Aside0 (Below w.heap.size w wc))
                        case first =>
                          have H := HC44.out
                          clear HC44
                          by_cases c45 : x16_4 < (t152.length : Int)
                          · rw [if_pos c45] at H
                            have c45b0 : decide (x16_4 < (t152.length : Int)) = true := decide_eq_true c45
                            clear c45
                            (first | rw [c45b0] | (simp only [i64_w, i32_w]; rw [c45b0]) | skip)
                            have H' := Aside0.mk H
                            clear H
                            obtain ⟨Ao46, co46, eo46⟩ := Kd.R_slice HO_13.out
                            subst eo46
                            obtain ⟨Ao47, co47, eo47⟩ := Kd.R_slice HO_6.out
                            subst eo47
                            go_wp2
                            repeat (go_quiet (fail); try go_wp2)
                            go_meet
                            case rel => exact ⟨_, (decide (x16_4 < (t139.length : Int))), (by first | rfl | (simp; done) | (simp [*]; done)), H', ⟨by have := HK1.out; have := HJ11.out; have := HJ34.out; have := HK4.out; first | omega | exact Nat.le_refl _⟩, ⟨by (with_reducible repeat (first | apply Kd.R_alloc | apply Kd.R_drewN | apply Kd.R_drew)); exact HO_6.out⟩, ⟨by (with_reducible repeat (first | apply Kd.R_alloc | apply Kd.R_drewN | apply Kd.R_drew)); exact HO_13.out⟩, ⟨by repeat (first | (with_reducible first | exact HB.out | apply below_alloc | apply pw_below_drewN | apply below_drew1) | exact HB.out)⟩⟩
                          · rw [if_neg c45] at H
                            have c45b0 : decide (x16_4 < (t152.length : Int)) = false := decide_eq_false c45
                            clear c45
                            (first | rw [c45b0] | (simp only [i64_w, i32_w]; rw [c45b0]) | skip)
                            have H' := Aside0.mk H
                            clear H
                            obtain ⟨Ao48, co48, eo48⟩ := Kd.R_slice HO_13.out
                            subst eo48
                            go_wp2
                            repeat (go_quiet (fail); try go_wp2)
                            go_meet
                            case rel => exact ⟨_, (false), (by first | rfl | (simp; done) | (simp [*]; done)), H', ⟨by have := HK1.out; have := HJ11.out; have := HJ34.out; have := HK4.out; first | omega | exact Nat.le_refl _⟩, ⟨by (with_reducible repeat (first | apply Kd.R_alloc | apply Kd.R_drewN | apply Kd.R_drew)); exact HO_6.out⟩, ⟨by (with_reducible repeat (first | apply Kd.R_alloc | apply Kd.R_drewN | apply Kd.R_drew)); exact HO_13.out⟩, ⟨by repeat (first | (with_reducible first | exact HB.out | apply below_alloc | apply pw_below_drewN | apply below_drew1) | exact HB.out)⟩⟩
                        case rest =>
                          clear HC44
                          try clear c1
                          try clear p1
                          try clear q1
                          try clear hx1
                          try clear qi1
                          try clear c2
                          try clear p2
                          try clear c3
                          try clear c4
                          try clear c5
                          try clear c6
                          try clear c6b0
                          try clear c6b1
                          try clear p6
                          try clear c13
                          try clear c13b0
                          try clear p14
                          try clear q14
                          try clear hx14
                          try clear p15
                          try clear q15
                          try clear hx15
                          try clear qi15
                          try clear c16
                          try clear c17
                          try clear c17b0
                          try clear c18
                          try clear c18b0
                          try clear c19
                          try clear c19b0
                          try clear c20
                          try clear c20b0
                          try clear c20b1
                          try clear c20b2
                          try clear c22
                          try clear c22b0
                          try clear c23
                          try clear c23b0
                          try clear c24
                          try clear c24b0
                          try clear c24b1
                          try clear c24b2
                          try clear c27
                          try clear c27b0
                          try clear c28
                          try clear c28b0
                          try clear c29
                          try clear c29b0
                          try clear c29b1
                          try clear c29b2
                          try clear c30
                          try clear c30b0
                          try clear c30b1
                          try clear c31
                          try clear c31b0
                          try clear c31b1
                          try clear c31b2
                          try clear c37
                          try clear c37b0
                          try clear c37b1
                          try clear c38
                          try clear c38b0
                          try clear c38b1
                          try clear c38b2
                          try clear c43
                          try clear c45
                          try clear c45b0
                          try clear hx147_0
                          try clear hx148_0
                          try clear hx148_1
                          try clear hx148_2
                          try clear hx149_0
                          try clear hx150_0
                          try clear hx150_1
                          try clear hx150_2
                          try clear hx151_0
                          try clear p1
                          try clear p14
                          try clear p147
                          try clear p148
                          try clear p149
                          try clear p15
                          try clear p150
                          try clear p151
                          try clear p2
                          try clear p6
                          try clear q1
                          try clear q14
                          try clear q147
                          try clear q148
                          try clear q149
                          try clear q15
                          try clear q150
                          try clear q151
                          obtain ⟨kq, x95_43, rfl, HA, HJ43, HO_6, HO_13, HB⟩ := hcut
                          cases kq with
                          | zero => exact absurd HA.out (by simp [ambidexterlaw10_LexerStable.j4])
                          | succ kj43 =>
                            have H := HA.out
                            clear HA
                            simp only [ambidexterlaw10_LexerStable.j4] at H
                            by_cases c49 : x95_43 = true
                            · subst c49
                              have H1 : (if 0 ≤ x16_4 then (if x16_4 < (t152.length : Int) then (if x16_4 < (t139.length : Int) then (if ((rd_T31 t152 x16_4).f0) = ((rd_T31 t139 x16_4).f0) then (if ((rd_T31 t152 x16_4).f1).toList = ((rd_T31 t139 x16_4).f1).toList then (ambidexterlaw10_LexerStable.l1 kj43 t137 t139 t152 (wrap64 (x16_4 + 1))) else (some false)) else (some false)) else (none)) else (none)) else (none)) = some r := by rw [if_pos rfl] at H; exact H
                              clear H
                              have H := H1
                              clear H1
                              by_cases c50 : 0 ≤ x16_4
                              · rw [if_pos c50] at H
                                have c50b0 : decide (0 ≤ x16_4) = true := decide_eq_true c50
                                clear c50
                                by_cases c51 : x16_4 < (t152.length : Int)
                                · rw [if_pos c51] at H
                                  have c51b0 : decide (x16_4 < (t152.length : Int)) = true := decide_eq_true c51
                                  clear c51
                                  by_cases c52 : x16_4 < (t139.length : Int)
                                  · rw [if_pos c52] at H
                                    have c52b0 : decide (x16_4 < (t139.length : Int)) = true := decide_eq_true c52
                                    clear c52
                                    by_cases c53 : ((rd_T31 t152 x16_4).f0) = ((rd_T31 t139 x16_4).f0)
                                    · rw [if_pos c53] at H
                                      have c53b0 : (((rd_T31 t152 x16_4).f0) == ((rd_T31 t139 x16_4).f0)) = true := beq_iff_eq.mpr c53
                                      have c53b1 : (((rd_T31 t152 x16_4).f0) != ((rd_T31 t139 x16_4).f0)) = false := bne_eq_false_iff_eq.mpr c53
                                      clear c53
                                      by_cases c54 : ((rd_T31 t152 x16_4).f1).toList = ((rd_T31 t139 x16_4).f1).toList
                                      · rw [if_pos c54] at H
                                        have c54b0 : (((rd_T31 t152 x16_4).f1).toList == ((rd_T31 t139 x16_4).f1).toList) = true := beq_iff_eq.mpr c54
                                        have c54b1 : (((rd_T31 t152 x16_4).f1).toList != ((rd_T31 t139 x16_4).f1).toList) = false := bne_eq_false_iff_eq.mpr c54
                                        clear c54
                                        have H' := Aside0.mk H
                                        clear H
                                        obtain ⟨Ao55, co55, eo55⟩ := Kd.R_slice HO_13.out
                                        subst eo55
                                        have p157 : 0 ≤ (x16_4 : Int) := of_decide_eq_true (by first | (with_reducible assumption) | assumption)
                                        have q157 : x16_4 < (t152.length : Int) := of_decide_eq_true (by first | (with_reducible assumption) | assumption)
                                        obtain ⟨ad157, e157, hx157_0, hx157_1, hx157_2⟩ := at_T31 (Kd.R_reads' HO_13.out).2.2 x16_4 p157 q157
                                        cases e157
                                        replace p157 := eq_true p157
                                        replace q157 := eq_true q157
                                        obtain ⟨Ao56, co56, eo56⟩ := Kd.R_slice HO_6.out
                                        subst eo56
                                        have p158 : 0 ≤ (x16_4 : Int) := of_decide_eq_true (by first | (with_reducible assumption) | assumption)
                                        have q158 : x16_4 < (t139.length : Int) := of_decide_eq_true (by first | (with_reducible assumption) | assumption)
                                        obtain ⟨ad158, e158, hx158_0, hx158_1, hx158_2⟩ := at_T31 (Kd.R_reads' HO_6.out).2.2 x16_4 p158 q158
                                        cases e158
                                        replace p158 := eq_true p158
                                        replace q158 := eq_true q158
                                        have p159 : 0 ≤ (x16_4 : Int) := of_decide_eq_true (by first | (with_reducible assumption) | assumption)
                                        have q159 : x16_4 < (t152.length : Int) := of_decide_eq_true (by first | (with_reducible assumption) | assumption)
                                        obtain ⟨ad159, e159, hx159_0, hx159_1, hx159_2⟩ := at_T31 (Kd.R_reads' HO_13.out).2.2 x16_4 p159 q159
                                        obtain rfl : ad157 = ad159 := (by injection e159)
                                        replace p159 := eq_true p159
                                        replace q159 := eq_true q159
                                        have p160 : 0 ≤ (x16_4 : Int) := of_decide_eq_true (by first | (with_reducible assumption) | assumption)
                                        have q160 : x16_4 < (t139.length : Int) := of_decide_eq_true (by first | (with_reducible assumption) | assumption)
                                        obtain ⟨ad160, e160, hx160_0, hx160_1, hx160_2⟩ := at_T31 (Kd.R_reads' HO_6.out).2.2 x16_4 p160 q160
                                        obtain rfl : ad158 = ad160 := (by injection e160)
                                        replace p160 := eq_true p160
                                        replace q160 := eq_true q160
                                        go_wp2
                                        repeat (go_quiet (fail); try go_wp2)
                                        go_roundg kj43
                                        case measure => have := HK1.out; have := HJ11.out; have := HJ34.out; have := HK4.out; have := HJ43.out; omega
                                        case rel => exact ⟨(wrap64 (x16_4 + 1)), (by first | rfl | (simp; done) | (simp [*]; done)), H', ⟨by have := HK1.out; have := HJ11.out; have := HJ34.out; have := HK4.out; have := HJ43.out; omega⟩, ⟨by (with_reducible repeat (first | apply Kd.R_alloc | apply Kd.R_drewN | apply Kd.R_drew)); exact HO_6.out⟩, ⟨by (with_reducible repeat (first | apply Kd.R_alloc | apply Kd.R_drewN | apply Kd.R_drew)); exact HO_13.out⟩, ⟨by repeat (first | (with_reducible first | exact HB.out | apply below_alloc | apply pw_below_drewN | apply below_drew1) | exact HB.out)⟩⟩
                                      · rw [if_neg c54] at H
                                        have c54b0 : (((rd_T31 t152 x16_4).f1).toList == ((rd_T31 t139 x16_4).f1).toList) = false := beq_eq_false_iff_ne.mpr c54
                                        have c54b1 : (((rd_T31 t152 x16_4).f1).toList != ((rd_T31 t139 x16_4).f1).toList) = true := bne_iff_ne.mpr c54
                                        obtain rfl := Option.some.inj H
                                        obtain ⟨Ao57, co57, eo57⟩ := Kd.R_slice HO_13.out
                                        subst eo57
                                        have p157 : 0 ≤ (x16_4 : Int) := of_decide_eq_true (by first | (with_reducible assumption) | assumption)
                                        have q157 : x16_4 < (t152.length : Int) := of_decide_eq_true (by first | (with_reducible assumption) | assumption)
                                        obtain ⟨ad157, e157, hx157_0, hx157_1, hx157_2⟩ := at_T31 (Kd.R_reads' HO_13.out).2.2 x16_4 p157 q157
                                        cases e157
                                        replace p157 := eq_true p157
                                        replace q157 := eq_true q157
                                        obtain ⟨Ao58, co58, eo58⟩ := Kd.R_slice HO_6.out
                                        subst eo58
                                        have p158 : 0 ≤ (x16_4 : Int) := of_decide_eq_true (by first | (with_reducible assumption) | assumption)
                                        have q158 : x16_4 < (t139.length : Int) := of_decide_eq_true (by first | (with_reducible assumption) | assumption)
                                        obtain ⟨ad158, e158, hx158_0, hx158_1, hx158_2⟩ := at_T31 (Kd.R_reads' HO_6.out).2.2 x16_4 p158 q158
                                        cases e158
                                        replace p158 := eq_true p158
                                        replace q158 := eq_true q158
                                        have p159 : 0 ≤ (x16_4 : Int) := of_decide_eq_true (by first | (with_reducible assumption) | assumption)
                                        have q159 : x16_4 < (t152.length : Int) := of_decide_eq_true (by first | (with_reducible assumption) | assumption)
                                        obtain ⟨ad159, e159, hx159_0, hx159_1, hx159_2⟩ := at_T31 (Kd.R_reads' HO_13.out).2.2 x16_4 p159 q159
                                        obtain rfl : ad157 = ad159 := (by injection e159)
                                        replace p159 := eq_true p159
                                        replace q159 := eq_true q159
                                        have p160 : 0 ≤ (x16_4 : Int) := of_decide_eq_true (by first | (with_reducible assumption) | assumption)
                                        have q160 : x16_4 < (t139.length : Int) := of_decide_eq_true (by first | (with_reducible assumption) | assumption)
                                        obtain ⟨ad160, e160, hx160_0, hx160_1, hx160_2⟩ := at_T31 (Kd.R_reads' HO_6.out).2.2 x16_4 p160 q160
                                        obtain rfl : ad158 = ad160 := (by injection e160)
                                        replace p160 := eq_true p160
                                        replace q160 := eq_true q160
                                        go_wp2
                                        repeat (go_quiet (fail); try go_wp2)
                                        go_ret
                                        exact ⟨by first | rfl | (simp [errW_none, errW_some] <;> rfl) | (simp [*, errW_none, errW_some] <;> rfl), by repeat (first | (with_reducible first | exact HB.out | apply below_alloc | apply pw_below_drewN | apply below_drew1) | exact HB.out)⟩
                                    · rw [if_neg c53] at H
                                      have c53b0 : (((rd_T31 t152 x16_4).f0) == ((rd_T31 t139 x16_4).f0)) = false := beq_eq_false_iff_ne.mpr c53
                                      have c53b1 : (((rd_T31 t152 x16_4).f0) != ((rd_T31 t139 x16_4).f0)) = true := bne_iff_ne.mpr c53
                                      obtain rfl := Option.some.inj H
                                      obtain ⟨Ao59, co59, eo59⟩ := Kd.R_slice HO_13.out
                                      subst eo59
                                      have p157 : 0 ≤ (x16_4 : Int) := of_decide_eq_true (by first | (with_reducible assumption) | assumption)
                                      have q157 : x16_4 < (t152.length : Int) := of_decide_eq_true (by first | (with_reducible assumption) | assumption)
                                      obtain ⟨ad157, e157, hx157_0, hx157_1, hx157_2⟩ := at_T31 (Kd.R_reads' HO_13.out).2.2 x16_4 p157 q157
                                      cases e157
                                      replace p157 := eq_true p157
                                      replace q157 := eq_true q157
                                      obtain ⟨Ao60, co60, eo60⟩ := Kd.R_slice HO_6.out
                                      subst eo60
                                      have p158 : 0 ≤ (x16_4 : Int) := of_decide_eq_true (by first | (with_reducible assumption) | assumption)
                                      have q158 : x16_4 < (t139.length : Int) := of_decide_eq_true (by first | (with_reducible assumption) | assumption)
                                      obtain ⟨ad158, e158, hx158_0, hx158_1, hx158_2⟩ := at_T31 (Kd.R_reads' HO_6.out).2.2 x16_4 p158 q158
                                      cases e158
                                      replace p158 := eq_true p158
                                      replace q158 := eq_true q158
                                      go_wp2
                                      repeat (go_quiet (fail); try go_wp2)
                                      go_ret
                                      exact ⟨by first | rfl | (simp [errW_none, errW_some] <;> rfl) | (simp [*, errW_none, errW_some] <;> rfl), by repeat (first | (with_reducible first | exact HB.out | apply below_alloc | apply pw_below_drewN | apply below_drew1) | exact HB.out)⟩
                                  · rw [if_neg c52] at H
                                    exact absurd H (by simp)
                                · rw [if_neg c51] at H
                                  exact absurd H (by simp)
                              · rw [if_neg c50] at H
                                exact absurd H (by simp)
                            · replace c49 := Bool.eq_false_iff.mpr c49
                              subst c49
                              have H1 : (some t137) = some r := by rw [if_neg (show ¬ (false = true) by decide)] at H; exact H
                              clear H
                              have H := H1
                              clear H1
                              obtain rfl := Option.some.inj H
                              go_wp2
                              repeat (go_quiet (fail); try go_wp2)
                              go_ret
                              exact ⟨by first | rfl | (simp [errW_none, errW_some] <;> rfl) | (simp [*, errW_none, errW_some] <;> rfl), by repeat (first | (with_reducible first | exact HB.out | apply below_alloc | apply pw_below_drewN | apply below_drew1) | exact HB.out)⟩
  · rw [if_neg c6] at H
    have c6b0 : (t140 == 0) = false := beq_eq_false_iff_ne.mpr c6
    have c6b1 : (t140 != 0) = true := bne_iff_ne.mpr c6
    by_cases c61 : t137 = true
    · subst c61
      have H1 : (some (t140 == 100)) = some r := by rw [if_pos rfl] at H; exact H
      clear H
      have H := H1
      clear H1
      obtain rfl := Option.some.inj H
      go_enter Try.func5, Try.ntmps5
      go_wp2_with (first | (go_at_call 10; (with_reducible refine (ambidexterlaw10_head.calls  true _ A3.out).mono ?_); rintro e w62 ⟨rfl, hb⟩; have n0_ := Aside0.mk (below_step (by repeat (first | (with_reducible first | exact HB.out | apply below_alloc | apply pw_below_drewN | apply below_drew1) | exact HB.out)) hb); clear HB; have HB := n0_; clear n0_; (try clear hb); (try clear hb2); (try clear hk); (try clear hi)) | (go_at_call 11; (with_reducible refine (ambidexterlaw10_few.calls a0 t138 _ A4.out).mono ?_); rintro e w63 ⟨rfl, hb⟩; have n0_ := Aside0.mk (below_step (by repeat (first | (with_reducible first | exact HB.out | apply below_alloc | apply pw_below_drewN | apply below_drew1) | exact HB.out)) hb); clear HB; have HB := n0_; clear n0_; (try clear hb); (try clear hb2); (try clear hk); (try clear hi)) | (go_at_call 12; (with_reducible refine (lexer_Lex.calls t138 t139 t140 t141 _ A5.out).mono ?_); rintro e w64 ⟨v142, rfl, ho0, hb⟩; have n0_ := Aside0.mk (Kd.R_lower ho0 (below_size (by repeat (first | (with_reducible first | exact HB.out | apply below_alloc | apply pw_below_drewN | apply below_drew1) | exact HB.out)))); have n1_ := Aside0.mk (below_step (by repeat (first | (with_reducible first | exact HB.out | apply below_alloc | apply pw_below_drewN | apply below_drew1) | exact HB.out)) hb); clear HB; have HO143 := n0_; have HB := n1_; clear n0_ n1_; (try clear hb); (try clear hb2); (try clear hk); (try clear hi); (try clear ho0)))
      repeat (go_quiet (first | (go_at_call 10; (with_reducible refine (ambidexterlaw10_head.calls  true _ A3.out).mono ?_); rintro e w62 ⟨rfl, hb⟩; have n0_ := Aside0.mk (below_step (by repeat (first | (with_reducible first | exact HB.out | apply below_alloc | apply pw_below_drewN | apply below_drew1) | exact HB.out)) hb); clear HB; have HB := n0_; clear n0_; (try clear hb); (try clear hb2); (try clear hk); (try clear hi)) | (go_at_call 11; (with_reducible refine (ambidexterlaw10_few.calls a0 t138 _ A4.out).mono ?_); rintro e w63 ⟨rfl, hb⟩; have n0_ := Aside0.mk (below_step (by repeat (first | (with_reducible first | exact HB.out | apply below_alloc | apply pw_below_drewN | apply below_drew1) | exact HB.out)) hb); clear HB; have HB := n0_; clear n0_; (try clear hb); (try clear hb2); (try clear hk); (try clear hi)) | (go_at_call 12; (with_reducible refine (lexer_Lex.calls t138 t139 t140 t141 _ A5.out).mono ?_); rintro e w64 ⟨v142, rfl, ho0, hb⟩; have n0_ := Aside0.mk (Kd.R_lower ho0 (below_size (by repeat (first | (with_reducible first | exact HB.out | apply below_alloc | apply pw_below_drewN | apply below_drew1) | exact HB.out)))); have n1_ := Aside0.mk (below_step (by repeat (first | (with_reducible first | exact HB.out | apply below_alloc | apply pw_below_drewN | apply below_drew1) | exact HB.out)) hb); clear HB; have HO143 := n0_; have HB := n1_; clear n0_ n1_; (try clear hb); (try clear hb2); (try clear hk); (try clear hi); (try clear ho0))); try go_wp2_with (first | (go_at_call 10; (with_reducible refine (ambidexterlaw10_head.calls  true _ A3.out).mono ?_); rintro e w62 ⟨rfl, hb⟩; have n0_ := Aside0.mk (below_step (by repeat (first | (with_reducible first | exact HB.out | apply below_alloc | apply pw_below_drewN | apply below_drew1) | exact HB.out)) hb); clear HB; have HB := n0_; clear n0_; (try clear hb); (try clear hb2); (try clear hk); (try clear hi)) | (go_at_call 11; (with_reducible refine (ambidexterlaw10_few.calls a0 t138 _ A4.out).mono ?_); rintro e w63 ⟨rfl, hb⟩; have n0_ := Aside0.mk (below_step (by repeat (first | (with_reducible first | exact HB.out | apply below_alloc | apply pw_below_drewN | apply below_drew1) | exact HB.out)) hb); clear HB; have HB := n0_; clear n0_; (try clear hb); (try clear hb2); (try clear hk); (try clear hi)) | (go_at_call 12; (with_reducible refine (lexer_Lex.calls t138 t139 t140 t141 _ A5.out).mono ?_); rintro e w64 ⟨v142, rfl, ho0, hb⟩; have n0_ := Aside0.mk (Kd.R_lower ho0 (below_size (by repeat (first | (with_reducible first | exact HB.out | apply below_alloc | apply pw_below_drewN | apply below_drew1) | exact HB.out)))); have n1_ := Aside0.mk (below_step (by repeat (first | (with_reducible first | exact HB.out | apply below_alloc | apply pw_below_drewN | apply below_drew1) | exact HB.out)) hb); clear HB; have HO143 := n0_; have HB := n1_; clear n0_ n1_; (try clear hb); (try clear hb2); (try clear hk); (try clear hi); (try clear ho0))))
      go_ret
      exact ⟨by first | rfl | (simp [errW_none, errW_some] <;> rfl) | (simp [*, errW_none, errW_some] <;> rfl), by repeat (first | (with_reducible first | exact HB.out | apply below_alloc | apply pw_below_drewN | apply below_drew1) | exact HB.out)⟩
    · replace c61 := Bool.eq_false_iff.mpr c61
      subst c61
      have H1 : (some false) = some r := by rw [if_neg (show ¬ (false = true) by decide)] at H; exact H
      clear H
      have H := H1
      clear H1
      obtain rfl := Option.some.inj H
      go_enter Try.func5, Try.ntmps5
      go_wp2_with (first | (go_at_call 10; (with_reducible refine (ambidexterlaw10_head.calls  false _ A3.out).mono ?_); rintro e w65 ⟨rfl, hb⟩; have n0_ := Aside0.mk (below_step (by repeat (first | (with_reducible first | exact HB.out | apply below_alloc | apply pw_below_drewN | apply below_drew1) | exact HB.out)) hb); clear HB; have HB := n0_; clear n0_; (try clear hb); (try clear hb2); (try clear hk); (try clear hi)) | (go_at_call 11; (with_reducible refine (ambidexterlaw10_few.calls a0 t138 _ A4.out).mono ?_); rintro e w66 ⟨rfl, hb⟩; have n0_ := Aside0.mk (below_step (by repeat (first | (with_reducible first | exact HB.out | apply below_alloc | apply pw_below_drewN | apply below_drew1) | exact HB.out)) hb); clear HB; have HB := n0_; clear n0_; (try clear hb); (try clear hb2); (try clear hk); (try clear hi)) | (go_at_call 12; (with_reducible refine (lexer_Lex.calls t138 t139 t140 t141 _ A5.out).mono ?_); rintro e w67 ⟨v142, rfl, ho0, hb⟩; have n0_ := Aside0.mk (Kd.R_lower ho0 (below_size (by repeat (first | (with_reducible first | exact HB.out | apply below_alloc | apply pw_below_drewN | apply below_drew1) | exact HB.out)))); have n1_ := Aside0.mk (below_step (by repeat (first | (with_reducible first | exact HB.out | apply below_alloc | apply pw_below_drewN | apply below_drew1) | exact HB.out)) hb); clear HB; have HO143 := n0_; have HB := n1_; clear n0_ n1_; (try clear hb); (try clear hb2); (try clear hk); (try clear hi); (try clear ho0)))
      repeat (go_quiet (first | (go_at_call 10; (with_reducible refine (ambidexterlaw10_head.calls  false _ A3.out).mono ?_); rintro e w65 ⟨rfl, hb⟩; have n0_ := Aside0.mk (below_step (by repeat (first | (with_reducible first | exact HB.out | apply below_alloc | apply pw_below_drewN | apply below_drew1) | exact HB.out)) hb); clear HB; have HB := n0_; clear n0_; (try clear hb); (try clear hb2); (try clear hk); (try clear hi)) | (go_at_call 11; (with_reducible refine (ambidexterlaw10_few.calls a0 t138 _ A4.out).mono ?_); rintro e w66 ⟨rfl, hb⟩; have n0_ := Aside0.mk (below_step (by repeat (first | (with_reducible first | exact HB.out | apply below_alloc | apply pw_below_drewN | apply below_drew1) | exact HB.out)) hb); clear HB; have HB := n0_; clear n0_; (try clear hb); (try clear hb2); (try clear hk); (try clear hi)) | (go_at_call 12; (with_reducible refine (lexer_Lex.calls t138 t139 t140 t141 _ A5.out).mono ?_); rintro e w67 ⟨v142, rfl, ho0, hb⟩; have n0_ := Aside0.mk (Kd.R_lower ho0 (below_size (by repeat (first | (with_reducible first | exact HB.out | apply below_alloc | apply pw_below_drewN | apply below_drew1) | exact HB.out)))); have n1_ := Aside0.mk (below_step (by repeat (first | (with_reducible first | exact HB.out | apply below_alloc | apply pw_below_drewN | apply below_drew1) | exact HB.out)) hb); clear HB; have HO143 := n0_; have HB := n1_; clear n0_ n1_; (try clear hb); (try clear hb2); (try clear hk); (try clear hi); (try clear ho0))); try go_wp2_with (first | (go_at_call 10; (with_reducible refine (ambidexterlaw10_head.calls  false _ A3.out).mono ?_); rintro e w65 ⟨rfl, hb⟩; have n0_ := Aside0.mk (below_step (by repeat (first | (with_reducible first | exact HB.out | apply below_alloc | apply pw_below_drewN | apply below_drew1) | exact HB.out)) hb); clear HB; have HB := n0_; clear n0_; (try clear hb); (try clear hb2); (try clear hk); (try clear hi)) | (go_at_call 11; (with_reducible refine (ambidexterlaw10_few.calls a0 t138 _ A4.out).mono ?_); rintro e w66 ⟨rfl, hb⟩; have n0_ := Aside0.mk (below_step (by repeat (first | (with_reducible first | exact HB.out | apply below_alloc | apply pw_below_drewN | apply below_drew1) | exact HB.out)) hb); clear HB; have HB := n0_; clear n0_; (try clear hb); (try clear hb2); (try clear hk); (try clear hi)) | (go_at_call 12; (with_reducible refine (lexer_Lex.calls t138 t139 t140 t141 _ A5.out).mono ?_); rintro e w67 ⟨v142, rfl, ho0, hb⟩; have n0_ := Aside0.mk (Kd.R_lower ho0 (below_size (by repeat (first | (with_reducible first | exact HB.out | apply below_alloc | apply pw_below_drewN | apply below_drew1) | exact HB.out)))); have n1_ := Aside0.mk (below_step (by repeat (first | (with_reducible first | exact HB.out | apply below_alloc | apply pw_below_drewN | apply below_drew1) | exact HB.out)) hb); clear HB; have HO143 := n0_; have HB := n1_; clear n0_ n1_; (try clear hb); (try clear hb2); (try clear hk); (try clear hi); (try clear ho0))))
      go_ret
      exact ⟨by first | rfl | (simp [errW_none, errW_some] <;> rfl) | (simp [*, errW_none, errW_some] <;> rfl), by repeat (first | (with_reducible first | exact HB.out | apply below_alloc | apply pw_below_drewN | apply below_drew1) | exact HB.out)⟩

/-- THE ONE PURE STATEMENT of ambidexterlaw10_LexerStable: yours. -/
def ambidexterlaw10_LexerStable.Pure : Prop := ∀ (a0 : ByteArray) (l1 : List Int), a0.size ≤ 140737488351232 → l1.length ≤ maxLen → l1.length * 1 ≤ 140737488351232 → (∀ x ∈ l1, (Lit.int .u8 x).wf = true) → ∃ k, ambidexterlaw10_LexerStable.f k a0 l1 = some true
theorem ambidexterlaw10_LexerStable.walk (P : ambidexterlaw10_LexerStable.Pure) (a0 : ByteArray) (a1 : Option Addr) (len1 cap1 : Nat) (z1 : List Int) (w : World) (w0 : a0.size ≤ 140737488351232) (w1 : (a1 = none ∧ len1 = 0 ∧ cap1 = 0 ∧ z1 = []) ∨ ∃ x, a1 = some x ∧ len1 ≤ cap1 ∧ cap1 ≤ maxLen ∧ z1.length = cap1 ∧ (∀ i, i < z1.length → w.cell? (x.add i) = some (.int .u8 (z1.getD i 0))) ∧ ∀ n ∈ z1, (Lit.int .u8 n).wf = true) (y1 : len1 * 1 ≤ 140737488351232) :
    Calls Try.prog 5 #[.string a0, .slice a1 len1 cap1] w fun e w' => e = .returned (.bool true) ∧ Below w.heap.size w w' := by
  obtain ⟨l1, rfl, hr1, hm1, hw1, hc1⟩ := ReadsInt.ofRowC w1
  obtain ⟨k, h⟩ := P a0 l1 w0 hm1 y1 hw1
  refine (ambidexterlaw10_LexerStable.calls k a0 _ _ l1 true w (Kd.C_of_reads (d := (0 : Int)) (h1 := fun _ => rfl) hr1) hc1 h).mono ?_
  rintro e w' ⟨rfl, hd⟩
  exact ⟨rfl, hd⟩

end Go.Proofs.Ytiikijdkhmbdbaa.PLx
