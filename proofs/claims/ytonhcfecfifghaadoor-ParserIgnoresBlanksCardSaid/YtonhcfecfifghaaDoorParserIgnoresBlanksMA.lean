/- Part A of the proof of ParserIgnoresBlanks: the contracts of the functions that the law reaches, and what their plain functions compute. No condition. -/
import Derived.Test.YtonhcfecfifghaaDoorCoreA
import Derived.Test.YtonhcfecfifghaaDoorCoreB
import Derived.Test.YtonhcfecfifghaaDoorCoreC
import Derived.Test.YtonhcfecfifghaaDoorCoreD
import Derived.Test.YtonhcfecfifghaaDoorRows
import Derived.Test.YtonhcfecfifghaaDoorCards
import Derived.Test.YtonhcfecfifghaaDoorTie
import Derived.WalkKit
import Derived.ProofKit
import Derived.OpenShut
import Derived.ShutString
import Derived.ChangeOld
import Derived.Below
import Derived.SizedLaws
import Derived.LaidMore
import Derived.Stop.Joined
import Derived.SevenTiedAt
namespace Go.Proofs.YtonhcfecfifghaaDoor.PPx
open Go.RowKit Go.Proofs.YtonhcfecfifghaaDoorW.PrintWords Go.Proofs.YtonhcfecfifghaaDoorW.PrintLast Go.Proofs.YtonhcfecfifghaaDoorW.PrintMore
set_option linter.unusedVariables false
set_option linter.unusedSimpArgs false
theorem info3 : (Tryd.prog.info? 3).map (fun i => (i.zero, i.size, i.bytes)) = some (some (.int .i64 0), 1, 8) := by kernel_rfl
mutual
def ambidexterlaw11_ParserIgnoresBlanks.l0 : Nat → ByteArray → List Int → Bool → List (S44) → List ByteArray → ByteArray → List Int → Int → Option (Bool)
  | 0, _, _, _, _, _, _, _, _ => none
  | k + 1, x0, x1, x5, x6, x9, x10, x11, x12 => if x12 < (x6.length : Int) then (if x11.length < 17592186044416 then ((some (x11 ++ [(x10.size : Int)] : List Int)).bind fun y261 => (if x12 < (x1.length : Int) then (if 0 ≤ x12 then (if (x9.length : Int) = 0 then (none) else (if x10.size + ((rd_T44 x6 x12).f1).size ≤ 9223372036854775807 then (if 0 ≤ (Int.tmod (wrap64 (rd x1 x12)) (x9.length : Int)) then (if (Int.tmod (wrap64 (rd x1 x12)) (x9.length : Int)) < (x9.length : Int) then (if (x10 ++ ((rd_T44 x6 x12).f1)).size + (rdOf ByteArray.empty x9 (Int.tmod (wrap64 (rd x1 x12)) (x9.length : Int))).size ≤ 9223372036854775807 then (ambidexterlaw11_ParserIgnoresBlanks.l0 k x0 x1 x5 x6 x9 ((x10 ++ ((rd_T44 x6 x12).f1)) ++ (rdOf ByteArray.empty x9 (Int.tmod (wrap64 (rd x1 x12)) (x9.length : Int)))) y261 (wrap64 (x12 + 1))) else (none)) else (none)) else (none)) else (none))) else (none)) else (if 0 ≤ x12 then (if x10.size + ((rd_T44 x6 x12).f1).size ≤ 9223372036854775807 then (if 0 < (x9.length : Int) then (if (x10 ++ ((rd_T44 x6 x12).f1)).size + (rdOf ByteArray.empty x9 0).size ≤ 9223372036854775807 then (ambidexterlaw11_ParserIgnoresBlanks.l0 k x0 x1 x5 x6 x9 ((x10 ++ ((rd_T44 x6 x12).f1)) ++ (rdOf ByteArray.empty x9 0)) y261 (wrap64 (x12 + 1))) else (none)) else (none)) else (none)) else (none)))) else (none)) else (if (x10.size : Int) > 20000 then (some x5) else ((parser_Parse.f k x0).bind fun bt269 => ((parser_Parse.f k x10).bind fun bt275 => ((ambidexterref11_Same.f k bt269.1 bt275.1).bind fun t281 => (if t281 = true then (ambidexterlaw11_ParserIgnoresBlanks.j1 k x0 x5 x6 x10 x11 bt269.2 bt275.2 ((bt269.2.length : Int) != (bt275.2.length : Int))) else (ambidexterlaw11_ParserIgnoresBlanks.j1 k x0 x5 x6 x10 x11 bt269.2 bt275.2 true))))))
def ambidexterlaw11_ParserIgnoresBlanks.j1 : Nat → ByteArray → Bool → List (S44) → ByteArray → List Int → List (S35) → List (S35) → Bool → Option (Bool)
  | 0, _, _, _, _, _, _, _, _ => none
  | k + 1, x0, x5, x6, x10, x11, x15, x17, x95 => if x95 = true then (some false) else (ambidexterlaw11_ParserIgnoresBlanks.l1 k x0 x5 x6 x10 x11 x15 x17 0)
def ambidexterlaw11_ParserIgnoresBlanks.l1 : Nat → ByteArray → Bool → List (S44) → ByteArray → List Int → List (S35) → List (S35) → Int → Option (Bool)
  | 0, _, _, _, _, _, _, _, _ => none
  | k + 1, x0, x5, x6, x10, x11, x15, x17, x18 => if x18 < (x15.length : Int) then (if 0 ≤ x18 then (if x18 < (x17.length : Int) then (if ((rd_T35 x15 x18).f0) = ((rd_T35 x17 x18).f0) then (if ((rd_T35 x15 x18).f0) = 3 then (if ((rd_T35 x15 x18).f1) = (x0.size : Int) then (ambidexterlaw11_ParserIgnoresBlanks.j3 k x0 x5 x6 x10 x11 x15 x17 x18 (((rd_T35 x17 x18).f1) != (x10.size : Int))) else (ambidexterlaw11_ParserIgnoresBlanks.j3 k x0 x5 x6 x10 x11 x15 x17 x18 true)) else (ambidexterlaw11_ParserIgnoresBlanks.j3 k x0 x5 x6 x10 x11 x15 x17 x18 false)) else (ambidexterlaw11_ParserIgnoresBlanks.j3 k x0 x5 x6 x10 x11 x15 x17 x18 true)) else (none)) else (none)) else (some x5)
def ambidexterlaw11_ParserIgnoresBlanks.j3 : Nat → ByteArray → Bool → List (S44) → ByteArray → List Int → List (S35) → List (S35) → Int → Bool → Option (Bool)
  | 0, _, _, _, _, _, _, _, _, _ => none
  | k + 1, x0, x5, x6, x10, x11, x15, x17, x18, x140 => if x140 = true then (some false) else (ambidexterlaw11_ParserIgnoresBlanks.l2 k x0 x5 x6 x10 x11 x15 x17 x18 0)
def ambidexterlaw11_ParserIgnoresBlanks.l2 : Nat → ByteArray → Bool → List (S44) → ByteArray → List Int → List (S35) → List (S35) → Int → Int → Option (Bool)
  | 0, _, _, _, _, _, _, _, _, _ => none
  | k + 1, x0, x5, x6, x10, x11, x15, x17, x18, x19 => if x19 < (x6.length : Int) then (if 0 ≤ x18 then (if x18 < (x15.length : Int) then (ambidexterlaw11_ParserIgnoresBlanks.j5 k x0 x5 x6 x10 x11 x15 x17 x18 x19 (((rd_T35 x15 x18).f0) != 3)) else (none)) else (none)) else (ambidexterlaw11_ParserIgnoresBlanks.j5 k x0 x5 x6 x10 x11 x15 x17 x18 x19 false)
def ambidexterlaw11_ParserIgnoresBlanks.j5 : Nat → ByteArray → Bool → List (S44) → ByteArray → List Int → List (S35) → List (S35) → Int → Int → Bool → Option (Bool)
  | 0, _, _, _, _, _, _, _, _, _, _ => none
  | k + 1, x0, x5, x6, x10, x11, x15, x17, x18, x19, x152 => if x152 = true then (if 0 ≤ x19 then (if x19 < (x6.length : Int) then (if 0 ≤ x18 then (if x18 < (x15.length : Int) then (if x19 < (x11.length : Int) then (if x18 < (x17.length : Int) then (if ((((rd_T44 x6 x19).f2) == ((rd_T35 x15 x18).f1)) != ((rd x11 x19) == ((rd_T35 x17 x18).f1))) = true then (some false) else (ambidexterlaw11_ParserIgnoresBlanks.l2 k x0 x5 x6 x10 x11 x15 x17 x18 (wrap64 (x19 + 1)))) else (none)) else (none)) else (none)) else (none)) else (none)) else (none)) else (ambidexterlaw11_ParserIgnoresBlanks.l1 k x0 x5 x6 x10 x11 x15 x17 (wrap64 (x18 + 1)))
end
def ambidexterlaw11_ParserIgnoresBlanks.f (k : Nat) (a0 : ByteArray) (l1 : List Int) : Option (Bool) := (ambidexterlaw11_head.f).bind fun t249 => (if (a0.size : Int) > 4000 then (some t249) else ((lexer_Lex.f a0).bind fun bt250 => (if bt250.2.1 = 0 then (ambidexterlaw11_ParserIgnoresBlanks.l0 k a0 l1 t249 bt250.1 (([(⟨#[32]⟩ : ByteArray), (⟨#[10]⟩ : ByteArray), (⟨#[9, 32]⟩ : ByteArray), (⟨#[32, 35, 32, 110, 111, 116, 101, 32, 59, 32, 125, 10]⟩ : ByteArray), (⟨#[13, 10]⟩ : ByteArray)] : List ByteArray)) (⟨#[]⟩ : ByteArray) (([] : List Int)) 0) else (some t249))))
theorem ambidexterlaw11_ParserIgnoresBlanks.mono_l : ∀ k, (∀ y0 y1 y2 y3 y4 y5 y6 y7, LeO (ambidexterlaw11_ParserIgnoresBlanks.l0 k y0 y1 y2 y3 y4 y5 y6 y7) (ambidexterlaw11_ParserIgnoresBlanks.l0 (k + 1) y0 y1 y2 y3 y4 y5 y6 y7)) ∧ (∀ y0 y1 y2 y3 y4 y5 y6 y7, LeO (ambidexterlaw11_ParserIgnoresBlanks.j1 k y0 y1 y2 y3 y4 y5 y6 y7) (ambidexterlaw11_ParserIgnoresBlanks.j1 (k + 1) y0 y1 y2 y3 y4 y5 y6 y7)) ∧ (∀ y0 y1 y2 y3 y4 y5 y6 y7, LeO (ambidexterlaw11_ParserIgnoresBlanks.l1 k y0 y1 y2 y3 y4 y5 y6 y7) (ambidexterlaw11_ParserIgnoresBlanks.l1 (k + 1) y0 y1 y2 y3 y4 y5 y6 y7)) ∧ (∀ y0 y1 y2 y3 y4 y5 y6 y7 y8, LeO (ambidexterlaw11_ParserIgnoresBlanks.j3 k y0 y1 y2 y3 y4 y5 y6 y7 y8) (ambidexterlaw11_ParserIgnoresBlanks.j3 (k + 1) y0 y1 y2 y3 y4 y5 y6 y7 y8)) ∧ (∀ y0 y1 y2 y3 y4 y5 y6 y7 y8, LeO (ambidexterlaw11_ParserIgnoresBlanks.l2 k y0 y1 y2 y3 y4 y5 y6 y7 y8) (ambidexterlaw11_ParserIgnoresBlanks.l2 (k + 1) y0 y1 y2 y3 y4 y5 y6 y7 y8)) ∧ (∀ y0 y1 y2 y3 y4 y5 y6 y7 y8 y9, LeO (ambidexterlaw11_ParserIgnoresBlanks.j5 k y0 y1 y2 y3 y4 y5 y6 y7 y8 y9) (ambidexterlaw11_ParserIgnoresBlanks.j5 (k + 1) y0 y1 y2 y3 y4 y5 y6 y7 y8 y9))
  | 0 => ⟨fun _ _ _ _ _ _ _ _ r h => by simp [ambidexterlaw11_ParserIgnoresBlanks.l0] at h, fun _ _ _ _ _ _ _ _ r h => by simp [ambidexterlaw11_ParserIgnoresBlanks.j1] at h, fun _ _ _ _ _ _ _ _ r h => by simp [ambidexterlaw11_ParserIgnoresBlanks.l1] at h, fun _ _ _ _ _ _ _ _ _ r h => by simp [ambidexterlaw11_ParserIgnoresBlanks.j3] at h, fun _ _ _ _ _ _ _ _ _ r h => by simp [ambidexterlaw11_ParserIgnoresBlanks.l2] at h, fun _ _ _ _ _ _ _ _ _ _ r h => by simp [ambidexterlaw11_ParserIgnoresBlanks.j5] at h⟩
  | k + 1 => by
    obtain ⟨ih0, ih1, ih2, ih3, ih4, ih5⟩ := ambidexterlaw11_ParserIgnoresBlanks.mono_l k
    refine ⟨?_, ?_, ?_, ?_, ?_, ?_⟩
    · intro y0 y1 y2 y3 y4 y5 y6 y7
      unfold ambidexterlaw11_ParserIgnoresBlanks.l0
      repeat' first
      | (with_reducible exact ih0 _ _ _ _ _ _ _ _)
      | (with_reducible exact ih1 _ _ _ _ _ _ _ _)
      | (with_reducible exact ih2 _ _ _ _ _ _ _ _)
      | (with_reducible exact ih3 _ _ _ _ _ _ _ _ _)
      | (with_reducible exact ih4 _ _ _ _ _ _ _ _ _)
      | (with_reducible exact ih5 _ _ _ _ _ _ _ _ _ _)
      | (with_reducible exact ambidexterref11_Same.mono _ _ _)
      | (with_reducible exact parser_Parse.mono _ _)
      | (with_reducible exact LeO.refl _)
      | (with_reducible exact LeO.none _)
      | (with_reducible refine LeO.ite ?_ ?_)
      | (with_reducible refine LeO.bind ?_ (fun _ => ?_))
      | exact ih0 _ _ _ _ _ _ _ _
      | exact ih1 _ _ _ _ _ _ _ _
      | exact ih2 _ _ _ _ _ _ _ _
      | exact ih3 _ _ _ _ _ _ _ _ _
      | exact ih4 _ _ _ _ _ _ _ _ _
      | exact ih5 _ _ _ _ _ _ _ _ _ _
      | exact ambidexterref11_Same.mono _ _ _
      | exact parser_Parse.mono _ _
      | exact LeO.none _
      | refine LeO.ite ?_ ?_
      | refine LeO.bind ?_ (fun _ => ?_)
    · intro y0 y1 y2 y3 y4 y5 y6 y7
      unfold ambidexterlaw11_ParserIgnoresBlanks.j1
      repeat' first
      | (with_reducible exact ih0 _ _ _ _ _ _ _ _)
      | (with_reducible exact ih1 _ _ _ _ _ _ _ _)
      | (with_reducible exact ih2 _ _ _ _ _ _ _ _)
      | (with_reducible exact ih3 _ _ _ _ _ _ _ _ _)
      | (with_reducible exact ih4 _ _ _ _ _ _ _ _ _)
      | (with_reducible exact ih5 _ _ _ _ _ _ _ _ _ _)
      | (with_reducible exact ambidexterref11_Same.mono _ _ _)
      | (with_reducible exact parser_Parse.mono _ _)
      | (with_reducible exact LeO.refl _)
      | (with_reducible exact LeO.none _)
      | (with_reducible refine LeO.ite ?_ ?_)
      | (with_reducible refine LeO.bind ?_ (fun _ => ?_))
      | exact ih0 _ _ _ _ _ _ _ _
      | exact ih1 _ _ _ _ _ _ _ _
      | exact ih2 _ _ _ _ _ _ _ _
      | exact ih3 _ _ _ _ _ _ _ _ _
      | exact ih4 _ _ _ _ _ _ _ _ _
      | exact ih5 _ _ _ _ _ _ _ _ _ _
      | exact ambidexterref11_Same.mono _ _ _
      | exact parser_Parse.mono _ _
      | exact LeO.none _
      | refine LeO.ite ?_ ?_
      | refine LeO.bind ?_ (fun _ => ?_)
    · intro y0 y1 y2 y3 y4 y5 y6 y7
      unfold ambidexterlaw11_ParserIgnoresBlanks.l1
      repeat' first
      | (with_reducible exact ih0 _ _ _ _ _ _ _ _)
      | (with_reducible exact ih1 _ _ _ _ _ _ _ _)
      | (with_reducible exact ih2 _ _ _ _ _ _ _ _)
      | (with_reducible exact ih3 _ _ _ _ _ _ _ _ _)
      | (with_reducible exact ih4 _ _ _ _ _ _ _ _ _)
      | (with_reducible exact ih5 _ _ _ _ _ _ _ _ _ _)
      | (with_reducible exact ambidexterref11_Same.mono _ _ _)
      | (with_reducible exact parser_Parse.mono _ _)
      | (with_reducible exact LeO.refl _)
      | (with_reducible exact LeO.none _)
      | (with_reducible refine LeO.ite ?_ ?_)
      | (with_reducible refine LeO.bind ?_ (fun _ => ?_))
      | exact ih0 _ _ _ _ _ _ _ _
      | exact ih1 _ _ _ _ _ _ _ _
      | exact ih2 _ _ _ _ _ _ _ _
      | exact ih3 _ _ _ _ _ _ _ _ _
      | exact ih4 _ _ _ _ _ _ _ _ _
      | exact ih5 _ _ _ _ _ _ _ _ _ _
      | exact ambidexterref11_Same.mono _ _ _
      | exact parser_Parse.mono _ _
      | exact LeO.none _
      | refine LeO.ite ?_ ?_
      | refine LeO.bind ?_ (fun _ => ?_)
    · intro y0 y1 y2 y3 y4 y5 y6 y7 y8
      unfold ambidexterlaw11_ParserIgnoresBlanks.j3
      repeat' first
      | (with_reducible exact ih0 _ _ _ _ _ _ _ _)
      | (with_reducible exact ih1 _ _ _ _ _ _ _ _)
      | (with_reducible exact ih2 _ _ _ _ _ _ _ _)
      | (with_reducible exact ih3 _ _ _ _ _ _ _ _ _)
      | (with_reducible exact ih4 _ _ _ _ _ _ _ _ _)
      | (with_reducible exact ih5 _ _ _ _ _ _ _ _ _ _)
      | (with_reducible exact ambidexterref11_Same.mono _ _ _)
      | (with_reducible exact parser_Parse.mono _ _)
      | (with_reducible exact LeO.refl _)
      | (with_reducible exact LeO.none _)
      | (with_reducible refine LeO.ite ?_ ?_)
      | (with_reducible refine LeO.bind ?_ (fun _ => ?_))
      | exact ih0 _ _ _ _ _ _ _ _
      | exact ih1 _ _ _ _ _ _ _ _
      | exact ih2 _ _ _ _ _ _ _ _
      | exact ih3 _ _ _ _ _ _ _ _ _
      | exact ih4 _ _ _ _ _ _ _ _ _
      | exact ih5 _ _ _ _ _ _ _ _ _ _
      | exact ambidexterref11_Same.mono _ _ _
      | exact parser_Parse.mono _ _
      | exact LeO.none _
      | refine LeO.ite ?_ ?_
      | refine LeO.bind ?_ (fun _ => ?_)
    · intro y0 y1 y2 y3 y4 y5 y6 y7 y8
      unfold ambidexterlaw11_ParserIgnoresBlanks.l2
      repeat' first
      | (with_reducible exact ih0 _ _ _ _ _ _ _ _)
      | (with_reducible exact ih1 _ _ _ _ _ _ _ _)
      | (with_reducible exact ih2 _ _ _ _ _ _ _ _)
      | (with_reducible exact ih3 _ _ _ _ _ _ _ _ _)
      | (with_reducible exact ih4 _ _ _ _ _ _ _ _ _)
      | (with_reducible exact ih5 _ _ _ _ _ _ _ _ _ _)
      | (with_reducible exact ambidexterref11_Same.mono _ _ _)
      | (with_reducible exact parser_Parse.mono _ _)
      | (with_reducible exact LeO.refl _)
      | (with_reducible exact LeO.none _)
      | (with_reducible refine LeO.ite ?_ ?_)
      | (with_reducible refine LeO.bind ?_ (fun _ => ?_))
      | exact ih0 _ _ _ _ _ _ _ _
      | exact ih1 _ _ _ _ _ _ _ _
      | exact ih2 _ _ _ _ _ _ _ _
      | exact ih3 _ _ _ _ _ _ _ _ _
      | exact ih4 _ _ _ _ _ _ _ _ _
      | exact ih5 _ _ _ _ _ _ _ _ _ _
      | exact ambidexterref11_Same.mono _ _ _
      | exact parser_Parse.mono _ _
      | exact LeO.none _
      | refine LeO.ite ?_ ?_
      | refine LeO.bind ?_ (fun _ => ?_)
    · intro y0 y1 y2 y3 y4 y5 y6 y7 y8 y9
      unfold ambidexterlaw11_ParserIgnoresBlanks.j5
      repeat' first
      | (with_reducible exact ih0 _ _ _ _ _ _ _ _)
      | (with_reducible exact ih1 _ _ _ _ _ _ _ _)
      | (with_reducible exact ih2 _ _ _ _ _ _ _ _)
      | (with_reducible exact ih3 _ _ _ _ _ _ _ _ _)
      | (with_reducible exact ih4 _ _ _ _ _ _ _ _ _)
      | (with_reducible exact ih5 _ _ _ _ _ _ _ _ _ _)
      | (with_reducible exact ambidexterref11_Same.mono _ _ _)
      | (with_reducible exact parser_Parse.mono _ _)
      | (with_reducible exact LeO.refl _)
      | (with_reducible exact LeO.none _)
      | (with_reducible refine LeO.ite ?_ ?_)
      | (with_reducible refine LeO.bind ?_ (fun _ => ?_))
      | exact ih0 _ _ _ _ _ _ _ _
      | exact ih1 _ _ _ _ _ _ _ _
      | exact ih2 _ _ _ _ _ _ _ _
      | exact ih3 _ _ _ _ _ _ _ _ _
      | exact ih4 _ _ _ _ _ _ _ _ _
      | exact ih5 _ _ _ _ _ _ _ _ _ _
      | exact ambidexterref11_Same.mono _ _ _
      | exact parser_Parse.mono _ _
      | exact LeO.none _
      | refine LeO.ite ?_ ?_
      | refine LeO.bind ?_ (fun _ => ?_)
theorem ambidexterlaw11_ParserIgnoresBlanks.mono : ∀ a0 a1 k, LeO (ambidexterlaw11_ParserIgnoresBlanks.f k a0 a1) (ambidexterlaw11_ParserIgnoresBlanks.f (k + 1) a0 a1) := by
  intro a0 a1 k
  obtain ⟨ih0, ih1, ih2, ih3, ih4, ih5⟩ := ambidexterlaw11_ParserIgnoresBlanks.mono_l k
  unfold ambidexterlaw11_ParserIgnoresBlanks.f
  repeat' first
      | (with_reducible exact ih0 _ _ _ _ _ _ _ _)
      | (with_reducible exact ih1 _ _ _ _ _ _ _ _)
      | (with_reducible exact ih2 _ _ _ _ _ _ _ _)
      | (with_reducible exact ih3 _ _ _ _ _ _ _ _ _)
      | (with_reducible exact ih4 _ _ _ _ _ _ _ _ _)
      | (with_reducible exact ih5 _ _ _ _ _ _ _ _ _ _)
      | (with_reducible exact ambidexterref11_Same.mono _ _ _)
      | (with_reducible exact parser_Parse.mono _ _)
      | (with_reducible exact LeO.refl _)
      | (with_reducible exact LeO.none _)
      | (with_reducible refine LeO.ite ?_ ?_)
      | (with_reducible refine LeO.bind ?_ (fun _ => ?_))
      | exact ih0 _ _ _ _ _ _ _ _
      | exact ih1 _ _ _ _ _ _ _ _
      | exact ih2 _ _ _ _ _ _ _ _
      | exact ih3 _ _ _ _ _ _ _ _ _
      | exact ih4 _ _ _ _ _ _ _ _ _
      | exact ih5 _ _ _ _ _ _ _ _ _ _
      | exact ambidexterref11_Same.mono _ _ _
      | exact parser_Parse.mono _ _
      | exact LeO.none _
      | refine LeO.ite ?_ ?_
      | refine LeO.bind ?_ (fun _ => ?_)
set_option maxHeartbeats 8000000 in
set_option maxRecDepth 100000 in
theorem ambidexterlaw11_ParserIgnoresBlanks.calls (k : Nat) (a0 : ByteArray) (A1 : Option Addr) (c1 : Nat) (l1 : List Int) (r : Bool) (w : World) (hr1 : Kd.C (Kd.int .u8) w A1 l1.length l1) (hc1 : l1.length ≤ c1) (h : ambidexterlaw11_ParserIgnoresBlanks.f k a0 l1 = some r) (hG : Glob w) :
    Calls Tryd.prog 6 #[.string a0, .slice A1 l1.length c1] w fun e w' => e = .returned (.bool r) ∧ Below w.heap.size w w' := by
  have HGL := Aside0.mk hG
  clear hG
  have HR1 := Aside0.mk hr1
  have HC1 := Aside0.mk hc1
  clear hr1 hc1
  have HB := Aside0.mk (Below.refl w.heap.size w)
  have H : ((ambidexterlaw11_head.f).bind fun t249 => (if (a0.size : Int) > 4000 then (some t249) else ((lexer_Lex.f a0).bind fun bt250 => (if bt250.2.1 = 0 then (ambidexterlaw11_ParserIgnoresBlanks.l0 k a0 l1 t249 bt250.1 (([(⟨#[32]⟩ : ByteArray), (⟨#[10]⟩ : ByteArray), (⟨#[9, 32]⟩ : ByteArray), (⟨#[32, 35, 32, 110, 111, 116, 101, 32, 59, 32, 125, 10]⟩ : ByteArray), (⟨#[13, 10]⟩ : ByteArray)] : List ByteArray)) (⟨#[]⟩ : ByteArray) (([] : List Int)) 0) else (some t249))))) = some r := h
  clear h
  replace H := Option.bind_eq_some_iff.mp H
  obtain ⟨t249, A30, H⟩ := H
  replace H : (if (a0.size : Int) > 4000 then (some t249) else ((lexer_Lex.f a0).bind fun bt250 => (if bt250.2.1 = 0 then (ambidexterlaw11_ParserIgnoresBlanks.l0 k a0 l1 t249 bt250.1 (([(⟨#[32]⟩ : ByteArray), (⟨#[10]⟩ : ByteArray), (⟨#[9, 32]⟩ : ByteArray), (⟨#[32, 35, 32, 110, 111, 116, 101, 32, 59, 32, 125, 10]⟩ : ByteArray), (⟨#[13, 10]⟩ : ByteArray)] : List ByteArray)) (⟨#[]⟩ : ByteArray) (([] : List Int)) 0) else (some t249)))) = some r := H
  have A3 := Aside0.mk A30
  clear A30
  by_cases c4 : (a0.size : Int) > 4000
  · rw [if_pos c4] at H
    have c4b0 : decide (4000 < (a0.size : Int)) = true := decide_eq_true c4
    have c4b1 : decide (4000 < a0.size) = true := decide_eq_true (by omega)
    clear c4
    obtain rfl := Option.some.inj H
    go_enter Tryd.func6, Tryd.ntmps6
    go_wp2_with (first | (go_at_call 9; (with_reducible refine (ambidexterlaw11_head.calls  t249 _ A3.out (HGL.out.below (by repeat (first | (with_reducible first | exact HB.out | apply below_alloc | apply pw_below_drewN | apply below_drew1) | exact HB.out)))).mono ?_); rintro e w5 ⟨rfl, hb⟩; have n0_ := Aside0.mk (below_step (by repeat (first | (with_reducible first | exact HB.out | apply below_alloc | apply pw_below_drewN | apply below_drew1) | exact HB.out)) hb); clear HB; have HB := n0_; clear n0_; (try clear hb); (try clear hb2); (try clear hk); (try clear hi)))
    repeat (go_quiet (first | (go_at_call 9; (with_reducible refine (ambidexterlaw11_head.calls  t249 _ A3.out (HGL.out.below (by repeat (first | (with_reducible first | exact HB.out | apply below_alloc | apply pw_below_drewN | apply below_drew1) | exact HB.out)))).mono ?_); rintro e w5 ⟨rfl, hb⟩; have n0_ := Aside0.mk (below_step (by repeat (first | (with_reducible first | exact HB.out | apply below_alloc | apply pw_below_drewN | apply below_drew1) | exact HB.out)) hb); clear HB; have HB := n0_; clear n0_; (try clear hb); (try clear hb2); (try clear hk); (try clear hi))); try go_wp2_with (first | (go_at_call 9; (with_reducible refine (ambidexterlaw11_head.calls  t249 _ A3.out (HGL.out.below (by repeat (first | (with_reducible first | exact HB.out | apply below_alloc | apply pw_below_drewN | apply below_drew1) | exact HB.out)))).mono ?_); rintro e w5 ⟨rfl, hb⟩; have n0_ := Aside0.mk (below_step (by repeat (first | (with_reducible first | exact HB.out | apply below_alloc | apply pw_below_drewN | apply below_drew1) | exact HB.out)) hb); clear HB; have HB := n0_; clear n0_; (try clear hb); (try clear hb2); (try clear hk); (try clear hi))))
    go_ret
    exact ⟨by first | rfl | (simp [errW_none, errW_some] <;> rfl) | (simp [*, errW_none, errW_some] <;> rfl), by repeat (first | (with_reducible first | exact HB.out | apply below_alloc | apply pw_below_drewN | apply below_drew1) | exact HB.out)⟩
  · rw [if_neg c4] at H
    have c4b0 : decide (4000 < (a0.size : Int)) = false := decide_eq_false c4
    have c4b1 : decide (4000 < a0.size) = false := decide_eq_false (by omega)
    clear c4
    replace H := Option.bind_eq_some_iff.mp H
    obtain ⟨⟨t250, t251, t252⟩, A60, H⟩ := H
    replace H : (if t251 = 0 then (ambidexterlaw11_ParserIgnoresBlanks.l0 k a0 l1 t249 t250 (([(⟨#[32]⟩ : ByteArray), (⟨#[10]⟩ : ByteArray), (⟨#[9, 32]⟩ : ByteArray), (⟨#[32, 35, 32, 110, 111, 116, 101, 32, 59, 32, 125, 10]⟩ : ByteArray), (⟨#[13, 10]⟩ : ByteArray)] : List ByteArray)) (⟨#[]⟩ : ByteArray) (([] : List Int)) 0) else (some t249)) = some r := H
    have A6 := Aside0.mk A60
    clear A60
    by_cases c7 : t251 = 0
    · rw [if_pos c7] at H
      have c7b0 : (t251 == 0) = true := beq_iff_eq.mpr c7
      have c7b1 : (t251 != 0) = false := bne_eq_false_iff_eq.mpr c7
      clear c7
      obtain ⟨y255, hy255⟩ : ∃ y_ : List ByteArray, y_ = (([(⟨#[32]⟩ : ByteArray), (⟨#[10]⟩ : ByteArray), (⟨#[9, 32]⟩ : ByteArray), (⟨#[32, 35, 32, 110, 111, 116, 101, 32, 59, 32, 125, 10]⟩ : ByteArray), (⟨#[13, 10]⟩ : ByteArray)] : List ByteArray)) := ⟨_, rfl⟩
      replace H : (ambidexterlaw11_ParserIgnoresBlanks.l0 k a0 l1 t249 t250 y255 (⟨#[]⟩ : ByteArray) (([] : List Int)) 0) = some r := by first | (rw [hy255]; with_reducible exact H) | (have H2_ := (Option.bind_some _ _).symm.trans H; rw [hy255]; with_reducible exact H2_) | (have H2_ := (Option.bind_some _ _).symm.trans H; with_reducible exact H2_) | with_reducible exact H | (rw [hy255]; exact H) | exact H
      have Ny255 := Aside0.mk hy255
      clear hy255
      obtain ⟨y258, hy258⟩ : ∃ y_ : List Int, y_ = (([] : List Int)) := ⟨_, rfl⟩
      replace H : (ambidexterlaw11_ParserIgnoresBlanks.l0 k a0 l1 t249 t250 y255 (⟨#[]⟩ : ByteArray) y258 0) = some r := by first | (rw [hy258]; with_reducible exact H) | (have H2_ := (Option.bind_some _ _).symm.trans H; rw [hy258]; with_reducible exact H2_) | (have H2_ := (Option.bind_some _ _).symm.trans H; with_reducible exact H2_) | with_reducible exact H | (rw [hy258]; exact H) | exact H
      have Ny258 := Aside0.mk hy258
      clear hy258
      have H' := Aside0.mk H
      clear H
      go_enter Tryd.func6, Tryd.ntmps6
      go_wp2_with (first | (go_at_call 9; (with_reducible refine (ambidexterlaw11_head.calls  t249 _ A3.out (HGL.out.below (by repeat (first | (with_reducible first | exact HB.out | apply below_alloc | apply pw_below_drewN | apply below_drew1) | exact HB.out)))).mono ?_); rintro e w8 ⟨rfl, hb⟩; have n0_ := Aside0.mk (below_step (by repeat (first | (with_reducible first | exact HB.out | apply below_alloc | apply pw_below_drewN | apply below_drew1) | exact HB.out)) hb); clear HB; have HB := n0_; clear n0_; (try clear hb); (try clear hb2); (try clear hk); (try clear hi)) | (go_at_call 17; (with_reducible refine (lexer_Lex.calls a0 t250 t251 t252 _ A6.out).mono ?_); rintro e w9 ⟨v253, rfl, ho0, hb⟩; have n0_ := Aside0.mk (Kd.R_lower ho0 (below_size (by repeat (first | (with_reducible first | exact HB.out | apply below_alloc | apply pw_below_drewN | apply below_drew1) | exact HB.out)))); have n1_ := Aside0.mk (below_step (by repeat (first | (with_reducible first | exact HB.out | apply below_alloc | apply pw_below_drewN | apply below_drew1) | exact HB.out)) hb); clear HB; have HO254 := n0_; have HB := n1_; clear n0_ n1_; (try clear hb); (try clear hb2); (try clear hk); (try clear hi); (try clear ho0)) | ((with_reducible refine gate_dst (N := 34) rfl ?_); (try (refine gate_guard (by rfl) ?_; dsimp only)); refine Kd.R_lit Kd.string _ 9 ?hg (N := 34) ?hd (xs := ([(⟨#[32]⟩ : ByteArray), (⟨#[10]⟩ : ByteArray), (⟨#[9, 32]⟩ : ByteArray), (⟨#[32, 35, 32, 110, 111, 116, 101, 32, 59, 32, 125, 10]⟩ : ByteArray), (⟨#[13, 10]⟩ : ByteArray)] : List ByteArray)) (inner := [.string (⟨#[32]⟩ : ByteArray), .string (⟨#[10]⟩ : ByteArray), .string (⟨#[9, 32]⟩ : ByteArray), .string (⟨#[32, 35, 32, 110, 111, 116, 101, 32, 59, 32, 125, 10]⟩ : ByteArray), .string (⟨#[13, 10]⟩ : ByteArray)]) (ok := fun _ => True) (okp := fun _ => True) ?hr ?hp (fun _ hk => hk) trivial (Below.refl _ _) (Nat.le_refl _) (by simp) ?_; (case hd => rfl); (case hg => rfl); (case hr => first | (go_simp; done) | (go_simp; rfl)); (case hp => exact (Reps.one (show Kd.M Kd.string _ _ _ (⟨#[32]⟩ : ByteArray) [.string (⟨#[32]⟩ : ByteArray)] from rfl) (Reps.one (show Kd.M Kd.string _ _ _ (⟨#[10]⟩ : ByteArray) [.string (⟨#[10]⟩ : ByteArray)] from rfl) (Reps.one (show Kd.M Kd.string _ _ _ (⟨#[9, 32]⟩ : ByteArray) [.string (⟨#[9, 32]⟩ : ByteArray)] from rfl) (Reps.one (show Kd.M Kd.string _ _ _ (⟨#[32, 35, 32, 110, 111, 116, 101, 32, 59, 32, 125, 10]⟩ : ByteArray) [.string (⟨#[32, 35, 32, 110, 111, 116, 101, 32, 59, 32, 125, 10]⟩ : ByteArray)] from rfl) (Reps.one (show Kd.M Kd.string _ _ _ (⟨#[13, 10]⟩ : ByteArray) [.string (⟨#[13, 10]⟩ : ByteArray)] from rfl) (Reps.none _ _))))))); intro v256 w10 ho11 hb hg_ hnew_; clear hg_ hnew_; (first | rw [← Ny255.out] at ho11 | (simp only [Int.reduceToNat] at ho11; rw [← Ny255.out] at ho11)); have n0_ := Aside0.mk (Kd.R_below (by (with_reducible repeat (first | apply Kd.R_alloc | apply Kd.R_drewN | apply Kd.R_drew)); exact HO254.out) hb); have n1_ := Aside0.mk (Kd.R_lower ho11 (below_size (by repeat (first | (with_reducible first | exact HB.out | apply below_alloc | apply pw_below_drewN | apply below_drew1) | exact HB.out)))); have n2_ := Aside0.mk (below_step (by repeat (first | (with_reducible first | exact HB.out | apply below_alloc | apply pw_below_drewN | apply below_drew1) | exact HB.out)) hb); clear HO254; clear HB; have HO254 := n0_; have HO257 := n1_; have HB := n2_; clear n0_ n1_ n2_; clear hb ho11) | ((with_reducible refine gate_dst (N := 35) rfl ?_); (try (refine gate_guard (by rfl) ?_; dsimp only)); refine Kd.R_lit (Kd.int .i64) _ 3 ?hg (N := 35) ?hd (xs := ([] : List Int)) (inner := []) (ok := fun _ => True) (okp := fun _ => True) ?hr ?hp (fun _ hk => hk) trivial (Below.refl _ _) (Nat.le_refl _) (by simp) ?_; (case hd => rfl); (case hg => rfl); (case hr => first | (go_simp; done) | (go_simp; rfl)); (case hp => exact (Reps.none _ _)); intro v259 w12 ho13 hb hg_ hnew_; clear hg_ hnew_; (first | rw [← Ny258.out] at ho13 | (simp only [Int.reduceToNat] at ho13; rw [← Ny258.out] at ho13)); have n0_ := Aside0.mk (Kd.R_below (by (with_reducible repeat (first | apply Kd.R_alloc | apply Kd.R_drewN | apply Kd.R_drew)); exact HO254.out) hb); have n1_ := Aside0.mk (Kd.R_below (by (with_reducible repeat (first | apply Kd.R_alloc | apply Kd.R_drewN | apply Kd.R_drew)); exact HO257.out) hb); have n2_ := Aside0.mk (Kd.R_lower ho13 (below_size (by repeat (first | (with_reducible first | exact HB.out | apply below_alloc | apply pw_below_drewN | apply below_drew1) | exact HB.out)))); have n3_ := Aside0.mk (below_step (by repeat (first | (with_reducible first | exact HB.out | apply below_alloc | apply pw_below_drewN | apply below_drew1) | exact HB.out)) hb); clear HO254; clear HO257; clear HB; have HO254 := n0_; have HO257 := n1_; have HO260 := n2_; have HB := n3_; clear n0_ n1_ n2_ n3_; clear hb ho13))
      repeat (go_quiet (first | (go_at_call 9; (with_reducible refine (ambidexterlaw11_head.calls  t249 _ A3.out (HGL.out.below (by repeat (first | (with_reducible first | exact HB.out | apply below_alloc | apply pw_below_drewN | apply below_drew1) | exact HB.out)))).mono ?_); rintro e w8 ⟨rfl, hb⟩; have n0_ := Aside0.mk (below_step (by repeat (first | (with_reducible first | exact HB.out | apply below_alloc | apply pw_below_drewN | apply below_drew1) | exact HB.out)) hb); clear HB; have HB := n0_; clear n0_; (try clear hb); (try clear hb2); (try clear hk); (try clear hi)) | (go_at_call 17; (with_reducible refine (lexer_Lex.calls a0 t250 t251 t252 _ A6.out).mono ?_); rintro e w9 ⟨v253, rfl, ho0, hb⟩; have n0_ := Aside0.mk (Kd.R_lower ho0 (below_size (by repeat (first | (with_reducible first | exact HB.out | apply below_alloc | apply pw_below_drewN | apply below_drew1) | exact HB.out)))); have n1_ := Aside0.mk (below_step (by repeat (first | (with_reducible first | exact HB.out | apply below_alloc | apply pw_below_drewN | apply below_drew1) | exact HB.out)) hb); clear HB; have HO254 := n0_; have HB := n1_; clear n0_ n1_; (try clear hb); (try clear hb2); (try clear hk); (try clear hi); (try clear ho0)) | ((with_reducible refine gate_dst (N := 34) rfl ?_); (try (refine gate_guard (by rfl) ?_; dsimp only)); refine Kd.R_lit Kd.string _ 9 ?hg (N := 34) ?hd (xs := ([(⟨#[32]⟩ : ByteArray), (⟨#[10]⟩ : ByteArray), (⟨#[9, 32]⟩ : ByteArray), (⟨#[32, 35, 32, 110, 111, 116, 101, 32, 59, 32, 125, 10]⟩ : ByteArray), (⟨#[13, 10]⟩ : ByteArray)] : List ByteArray)) (inner := [.string (⟨#[32]⟩ : ByteArray), .string (⟨#[10]⟩ : ByteArray), .string (⟨#[9, 32]⟩ : ByteArray), .string (⟨#[32, 35, 32, 110, 111, 116, 101, 32, 59, 32, 125, 10]⟩ : ByteArray), .string (⟨#[13, 10]⟩ : ByteArray)]) (ok := fun _ => True) (okp := fun _ => True) ?hr ?hp (fun _ hk => hk) trivial (Below.refl _ _) (Nat.le_refl _) (by simp) ?_; (case hd => rfl); (case hg => rfl); (case hr => first | (go_simp; done) | (go_simp; rfl)); (case hp => exact (Reps.one (show Kd.M Kd.string _ _ _ (⟨#[32]⟩ : ByteArray) [.string (⟨#[32]⟩ : ByteArray)] from rfl) (Reps.one (show Kd.M Kd.string _ _ _ (⟨#[10]⟩ : ByteArray) [.string (⟨#[10]⟩ : ByteArray)] from rfl) (Reps.one (show Kd.M Kd.string _ _ _ (⟨#[9, 32]⟩ : ByteArray) [.string (⟨#[9, 32]⟩ : ByteArray)] from rfl) (Reps.one (show Kd.M Kd.string _ _ _ (⟨#[32, 35, 32, 110, 111, 116, 101, 32, 59, 32, 125, 10]⟩ : ByteArray) [.string (⟨#[32, 35, 32, 110, 111, 116, 101, 32, 59, 32, 125, 10]⟩ : ByteArray)] from rfl) (Reps.one (show Kd.M Kd.string _ _ _ (⟨#[13, 10]⟩ : ByteArray) [.string (⟨#[13, 10]⟩ : ByteArray)] from rfl) (Reps.none _ _))))))); intro v256 w10 ho11 hb hg_ hnew_; clear hg_ hnew_; (first | rw [← Ny255.out] at ho11 | (simp only [Int.reduceToNat] at ho11; rw [← Ny255.out] at ho11)); have n0_ := Aside0.mk (Kd.R_below (by (with_reducible repeat (first | apply Kd.R_alloc | apply Kd.R_drewN | apply Kd.R_drew)); exact HO254.out) hb); have n1_ := Aside0.mk (Kd.R_lower ho11 (below_size (by repeat (first | (with_reducible first | exact HB.out | apply below_alloc | apply pw_below_drewN | apply below_drew1) | exact HB.out)))); have n2_ := Aside0.mk (below_step (by repeat (first | (with_reducible first | exact HB.out | apply below_alloc | apply pw_below_drewN | apply below_drew1) | exact HB.out)) hb); clear HO254; clear HB; have HO254 := n0_; have HO257 := n1_; have HB := n2_; clear n0_ n1_ n2_; clear hb ho11) | ((with_reducible refine gate_dst (N := 35) rfl ?_); (try (refine gate_guard (by rfl) ?_; dsimp only)); refine Kd.R_lit (Kd.int .i64) _ 3 ?hg (N := 35) ?hd (xs := ([] : List Int)) (inner := []) (ok := fun _ => True) (okp := fun _ => True) ?hr ?hp (fun _ hk => hk) trivial (Below.refl _ _) (Nat.le_refl _) (by simp) ?_; (case hd => rfl); (case hg => rfl); (case hr => first | (go_simp; done) | (go_simp; rfl)); (case hp => exact (Reps.none _ _)); intro v259 w12 ho13 hb hg_ hnew_; clear hg_ hnew_; (first | rw [← Ny258.out] at ho13 | (simp only [Int.reduceToNat] at ho13; rw [← Ny258.out] at ho13)); have n0_ := Aside0.mk (Kd.R_below (by (with_reducible repeat (first | apply Kd.R_alloc | apply Kd.R_drewN | apply Kd.R_drew)); exact HO254.out) hb); have n1_ := Aside0.mk (Kd.R_below (by (with_reducible repeat (first | apply Kd.R_alloc | apply Kd.R_drewN | apply Kd.R_drew)); exact HO257.out) hb); have n2_ := Aside0.mk (Kd.R_lower ho13 (below_size (by repeat (first | (with_reducible first | exact HB.out | apply below_alloc | apply pw_below_drewN | apply below_drew1) | exact HB.out)))); have n3_ := Aside0.mk (below_step (by repeat (first | (with_reducible first | exact HB.out | apply below_alloc | apply pw_below_drewN | apply below_drew1) | exact HB.out)) hb); clear HO254; clear HO257; clear HB; have HO254 := n0_; have HO257 := n1_; have HO260 := n2_; have HB := n3_; clear n0_ n1_ n2_ n3_; clear hb ho13)); try go_wp2_with (first | (go_at_call 9; (with_reducible refine (ambidexterlaw11_head.calls  t249 _ A3.out (HGL.out.below (by repeat (first | (with_reducible first | exact HB.out | apply below_alloc | apply pw_below_drewN | apply below_drew1) | exact HB.out)))).mono ?_); rintro e w8 ⟨rfl, hb⟩; have n0_ := Aside0.mk (below_step (by repeat (first | (with_reducible first | exact HB.out | apply below_alloc | apply pw_below_drewN | apply below_drew1) | exact HB.out)) hb); clear HB; have HB := n0_; clear n0_; (try clear hb); (try clear hb2); (try clear hk); (try clear hi)) | (go_at_call 17; (with_reducible refine (lexer_Lex.calls a0 t250 t251 t252 _ A6.out).mono ?_); rintro e w9 ⟨v253, rfl, ho0, hb⟩; have n0_ := Aside0.mk (Kd.R_lower ho0 (below_size (by repeat (first | (with_reducible first | exact HB.out | apply below_alloc | apply pw_below_drewN | apply below_drew1) | exact HB.out)))); have n1_ := Aside0.mk (below_step (by repeat (first | (with_reducible first | exact HB.out | apply below_alloc | apply pw_below_drewN | apply below_drew1) | exact HB.out)) hb); clear HB; have HO254 := n0_; have HB := n1_; clear n0_ n1_; (try clear hb); (try clear hb2); (try clear hk); (try clear hi); (try clear ho0)) | ((with_reducible refine gate_dst (N := 34) rfl ?_); (try (refine gate_guard (by rfl) ?_; dsimp only)); refine Kd.R_lit Kd.string _ 9 ?hg (N := 34) ?hd (xs := ([(⟨#[32]⟩ : ByteArray), (⟨#[10]⟩ : ByteArray), (⟨#[9, 32]⟩ : ByteArray), (⟨#[32, 35, 32, 110, 111, 116, 101, 32, 59, 32, 125, 10]⟩ : ByteArray), (⟨#[13, 10]⟩ : ByteArray)] : List ByteArray)) (inner := [.string (⟨#[32]⟩ : ByteArray), .string (⟨#[10]⟩ : ByteArray), .string (⟨#[9, 32]⟩ : ByteArray), .string (⟨#[32, 35, 32, 110, 111, 116, 101, 32, 59, 32, 125, 10]⟩ : ByteArray), .string (⟨#[13, 10]⟩ : ByteArray)]) (ok := fun _ => True) (okp := fun _ => True) ?hr ?hp (fun _ hk => hk) trivial (Below.refl _ _) (Nat.le_refl _) (by simp) ?_; (case hd => rfl); (case hg => rfl); (case hr => first | (go_simp; done) | (go_simp; rfl)); (case hp => exact (Reps.one (show Kd.M Kd.string _ _ _ (⟨#[32]⟩ : ByteArray) [.string (⟨#[32]⟩ : ByteArray)] from rfl) (Reps.one (show Kd.M Kd.string _ _ _ (⟨#[10]⟩ : ByteArray) [.string (⟨#[10]⟩ : ByteArray)] from rfl) (Reps.one (show Kd.M Kd.string _ _ _ (⟨#[9, 32]⟩ : ByteArray) [.string (⟨#[9, 32]⟩ : ByteArray)] from rfl) (Reps.one (show Kd.M Kd.string _ _ _ (⟨#[32, 35, 32, 110, 111, 116, 101, 32, 59, 32, 125, 10]⟩ : ByteArray) [.string (⟨#[32, 35, 32, 110, 111, 116, 101, 32, 59, 32, 125, 10]⟩ : ByteArray)] from rfl) (Reps.one (show Kd.M Kd.string _ _ _ (⟨#[13, 10]⟩ : ByteArray) [.string (⟨#[13, 10]⟩ : ByteArray)] from rfl) (Reps.none _ _))))))); intro v256 w10 ho11 hb hg_ hnew_; clear hg_ hnew_; (first | rw [← Ny255.out] at ho11 | (simp only [Int.reduceToNat] at ho11; rw [← Ny255.out] at ho11)); have n0_ := Aside0.mk (Kd.R_below (by (with_reducible repeat (first | apply Kd.R_alloc | apply Kd.R_drewN | apply Kd.R_drew)); exact HO254.out) hb); have n1_ := Aside0.mk (Kd.R_lower ho11 (below_size (by repeat (first | (with_reducible first | exact HB.out | apply below_alloc | apply pw_below_drewN | apply below_drew1) | exact HB.out)))); have n2_ := Aside0.mk (below_step (by repeat (first | (with_reducible first | exact HB.out | apply below_alloc | apply pw_below_drewN | apply below_drew1) | exact HB.out)) hb); clear HO254; clear HB; have HO254 := n0_; have HO257 := n1_; have HB := n2_; clear n0_ n1_ n2_; clear hb ho11) | ((with_reducible refine gate_dst (N := 35) rfl ?_); (try (refine gate_guard (by rfl) ?_; dsimp only)); refine Kd.R_lit (Kd.int .i64) _ 3 ?hg (N := 35) ?hd (xs := ([] : List Int)) (inner := []) (ok := fun _ => True) (okp := fun _ => True) ?hr ?hp (fun _ hk => hk) trivial (Below.refl _ _) (Nat.le_refl _) (by simp) ?_; (case hd => rfl); (case hg => rfl); (case hr => first | (go_simp; done) | (go_simp; rfl)); (case hp => exact (Reps.none _ _)); intro v259 w12 ho13 hb hg_ hnew_; clear hg_ hnew_; (first | rw [← Ny258.out] at ho13 | (simp only [Int.reduceToNat] at ho13; rw [← Ny258.out] at ho13)); have n0_ := Aside0.mk (Kd.R_below (by (with_reducible repeat (first | apply Kd.R_alloc | apply Kd.R_drewN | apply Kd.R_drew)); exact HO254.out) hb); have n1_ := Aside0.mk (Kd.R_below (by (with_reducible repeat (first | apply Kd.R_alloc | apply Kd.R_drewN | apply Kd.R_drew)); exact HO257.out) hb); have n2_ := Aside0.mk (Kd.R_lower ho13 (below_size (by repeat (first | (with_reducible first | exact HB.out | apply below_alloc | apply pw_below_drewN | apply below_drew1) | exact HB.out)))); have n3_ := Aside0.mk (below_step (by repeat (first | (with_reducible first | exact HB.out | apply below_alloc | apply pw_below_drewN | apply below_drew1) | exact HB.out)) hb); clear HO254; clear HO257; clear HB; have HO254 := n0_; have HO257 := n1_; have HO260 := n2_; have HB := n3_; clear n0_ n1_ n2_ n3_; clear hb ho13)))
      go_loopg [10, 11, 12] k (fun kq v10 v11 v12 w' => ∃ (x10_1 : ByteArray) (x11_1 : List Int) (x12_1 : Int), v10 = .string x10_1 ∧ v12 = .int .i64 x12_1 ∧ Aside0 (ambidexterlaw11_ParserIgnoresBlanks.l0 kq a0 l1 t249 t250 y255 x10_1 x11_1 x12_1 = some r) ∧ Aside0 (kq ≤ k) ∧ Aside0 (Kd.R k44 44 w' w.heap.size (fun _ => True) v253 t250) ∧ Aside0 (Kd.R Kd.string 9 w' w.heap.size (fun _ => True) v256 y255) ∧ Aside0 (Kd.R (Kd.int .i64) 3 w' w.heap.size (fun _ => True) v11 x11_1) ∧ Aside0 (Below w.heap.size w w'))
      case atStart => exact ⟨((⟨#[]⟩ : ByteArray)), (y258), (0), (by first | rfl | (simp; done) | (simp [*]; done)), (by first | rfl | (simp; done) | (simp [*]; done)), H', ⟨Nat.le_refl _⟩, ⟨by (with_reducible repeat (first | apply Kd.R_alloc | apply Kd.R_drewN | apply Kd.R_drew)); exact HO254.out⟩, ⟨by (with_reducible repeat (first | apply Kd.R_alloc | apply Kd.R_drewN | apply Kd.R_drew)); exact HO257.out⟩, ⟨by (with_reducible repeat (first | apply Kd.R_alloc | apply Kd.R_drewN | apply Kd.R_drew)); exact HO260.out⟩, ⟨by repeat (first | (with_reducible first | exact HB.out | apply below_alloc | apply pw_below_drewN | apply below_drew1) | exact HB.out)⟩⟩
      case round =>
        clear H'
        try clear c1
        try clear p2
        try clear c4
        try clear c4b0
        try clear c4b1
        try clear c6
        try clear c7
        try clear c7b0
        try clear c7b1
        obtain ⟨x10_1, x11_1, x12_1, rfl, rfl, HA, HK1, HO_6, HO_9, HO_11, HB⟩ := hrel
        cases gk with
        | zero => exact absurd HA.out (by simp [ambidexterlaw11_ParserIgnoresBlanks.l0])
        | succ k1 =>
          have H := HA.out
          clear HA
          simp only [ambidexterlaw11_ParserIgnoresBlanks.l0] at H
          by_cases c14 : x12_1 < (t250.length : Int)
          · rw [if_pos c14] at H
            have c14b0 : decide (x12_1 < (t250.length : Int)) = true := decide_eq_true c14
            clear c14
            by_cases c15 : x11_1.length < 17592186044416
            · rw [if_pos c15] at H
              have LMc15 := Aside0.mk c15
              clear c15
              obtain ⟨y261, hy261⟩ : ∃ y_ : List Int, y_ = (x11_1 ++ [(x10_1.size : Int)]) := ⟨_, rfl⟩
              replace H : (if x12_1 < (l1.length : Int) then (if 0 ≤ x12_1 then (if (y255.length : Int) = 0 then (none) else (if x10_1.size + ((rd_T44 t250 x12_1).f1).size ≤ 9223372036854775807 then (if 0 ≤ (Int.tmod (wrap64 (rd l1 x12_1)) (y255.length : Int)) then (if (Int.tmod (wrap64 (rd l1 x12_1)) (y255.length : Int)) < (y255.length : Int) then (if (x10_1 ++ ((rd_T44 t250 x12_1).f1)).size + (rdOf ByteArray.empty y255 (Int.tmod (wrap64 (rd l1 x12_1)) (y255.length : Int))).size ≤ 9223372036854775807 then (ambidexterlaw11_ParserIgnoresBlanks.l0 k1 a0 l1 t249 t250 y255 ((x10_1 ++ ((rd_T44 t250 x12_1).f1)) ++ (rdOf ByteArray.empty y255 (Int.tmod (wrap64 (rd l1 x12_1)) (y255.length : Int)))) y261 (wrap64 (x12_1 + 1))) else (none)) else (none)) else (none)) else (none))) else (none)) else (if 0 ≤ x12_1 then (if x10_1.size + ((rd_T44 t250 x12_1).f1).size ≤ 9223372036854775807 then (if 0 < (y255.length : Int) then (if (x10_1 ++ ((rd_T44 t250 x12_1).f1)).size + (rdOf ByteArray.empty y255 0).size ≤ 9223372036854775807 then (ambidexterlaw11_ParserIgnoresBlanks.l0 k1 a0 l1 t249 t250 y255 ((x10_1 ++ ((rd_T44 t250 x12_1).f1)) ++ (rdOf ByteArray.empty y255 0)) y261 (wrap64 (x12_1 + 1))) else (none)) else (none)) else (none)) else (none))) = some r := by first | (rw [hy261]; with_reducible exact H) | (have H2_ := (Option.bind_some _ _).symm.trans H; rw [hy261]; with_reducible exact H2_) | (have H2_ := (Option.bind_some _ _).symm.trans H; with_reducible exact H2_) | with_reducible exact H | (rw [hy261]; exact H) | exact H
              have Ny261 := Aside0.mk hy261
              clear hy261
              by_cases c16 : x12_1 < (l1.length : Int)
              · rw [if_pos c16] at H
                have c16b0 : decide (x12_1 < (l1.length : Int)) = true := decide_eq_true c16
                clear c16
                by_cases c17 : 0 ≤ x12_1
                · rw [if_pos c17] at H
                  have c17b0 : decide (0 ≤ x12_1) = true := decide_eq_true c17
                  clear c17
                  by_cases c18 : (y255.length : Int) = 0
                  · rw [if_pos c18] at H
                    exact absurd H (by simp)
                  · rw [if_neg c18] at H
                    have c18b0 : ((y255.length : Int) == 0) = false := beq_eq_false_iff_ne.mpr c18
                    have c18b1 : ((y255.length : Int) != 0) = true := bne_iff_ne.mpr c18
                    have c18b2 : ¬ (y255 = []) := fun h_ => c18 (by rw [h_]; rfl)
                    by_cases c19 : x10_1.size + ((rd_T44 t250 x12_1).f1).size ≤ 9223372036854775807
                    · rw [if_pos c19] at H
                      have c19b0 := eq_true c19
                      have c19b1 : decide (x10_1.size + ((rd_T44 t250 x12_1).f1).size ≤ 9223372036854775807) = true := decide_eq_true c19
                      try have c19b2 : (9223372036854775807 < x10_1.size + ((rd_T44 t250 x12_1).f1).size) = False := eq_false (Nat.not_lt.2 c19)
                      obtain ⟨ji20, hji20⟩ : ∃ j_ : Int, (Int.tmod (wrap64 (rd l1 x12_1)) (y255.length : Int)) = j_ := ⟨_, rfl⟩
                      replace H : (if 0 ≤ (ji20) then (if (ji20) < (y255.length : Int) then (if (x10_1 ++ ((rd_T44 t250 x12_1).f1)).size + (rdOf ByteArray.empty y255 (ji20)).size ≤ 9223372036854775807 then (ambidexterlaw11_ParserIgnoresBlanks.l0 k1 a0 l1 t249 t250 y255 ((x10_1 ++ ((rd_T44 t250 x12_1).f1)) ++ (rdOf ByteArray.empty y255 (ji20))) y261 (wrap64 (x12_1 + 1))) else (none)) else (none)) else (none)) = some r := by first | (rw [hji20] at H; exact H) | (simp only [hji20] at H ⊢; exact H)
                      by_cases c21 : 0 ≤ (ji20)
                      · rw [if_pos c21] at H
                        have c21b0 : decide (0 ≤ (ji20)) = true := decide_eq_true c21
                        clear c21
                        by_cases c22 : (ji20) < (y255.length : Int)
                        · rw [if_pos c22] at H
                          have c22b0 : decide ((ji20) < (y255.length : Int)) = true := decide_eq_true c22
                          clear c22
                          by_cases c23 : (x10_1 ++ ((rd_T44 t250 x12_1).f1)).size + (rdOf ByteArray.empty y255 (ji20)).size ≤ 9223372036854775807
                          · rw [if_pos c23] at H
                            have c23b0 := eq_true c23
                            have c23b1 : decide ((x10_1 ++ ((rd_T44 t250 x12_1).f1)).size + (rdOf ByteArray.empty y255 (ji20)).size ≤ 9223372036854775807) = true := decide_eq_true c23
                            try have c23b2 : (9223372036854775807 < (x10_1 ++ ((rd_T44 t250 x12_1).f1)).size + (rdOf ByteArray.empty y255 (ji20)).size) = False := eq_false (Nat.not_lt.2 c23)
                            have H' := Aside0.mk H
                            clear H
                            obtain ⟨Ao24, co24, eo24⟩ := Kd.R_slice HO_6.out
                            subst eo24
                            go_wp2_with (first | ((with_reducible refine gate_builtin (b := .append) (xs := #[.tmp 42, .tmp 45]) rfl ?_); (try (refine gate_guard (by rfl) ?_; dsimp only)); at_builtin; refine Kd.R_append (Kd.int .i64) (w0 := w) w.heap.size rfl (.tmp 42) (.tmp 45) 42 3 (.int .i64 0) 8 rfl Tryd.underlying42 info3 rfl (by decide) (by omega) u11 x11_1 (x10_1.size : Int) [.int .i64 (x10_1.size : Int)] (fun _ => True) (fun _ => False) rfl rfl ?aP (fun _ hk => hk.elim) ?aF ?aO ?aB ?aS ?aL ?_; (case aP => exact rfl); (case aB => exact (by repeat (first | (with_reducible first | exact HB.out | apply below_alloc | apply pw_below_drewN | apply below_drew1) | exact HB.out))); (case aF => exact (fun _ _ => trivial)); (case aO => exact (by (with_reducible repeat (first | apply Kd.R_alloc | apply Kd.R_drewN | apply Kd.R_drew)); exact HO_11.out)); (case aS => exact (below_size (by repeat (first | (with_reducible first | exact HB.out | apply below_alloc | apply pw_below_drewN | apply below_drew1) | exact HB.out)))); (case aL => have := LMc15.out; omega); intro v262 w25 ho hb hg hat; rw [← Ny261.out] at ho; have n0_ := Aside0.mk (Kd.R_over' (by (with_reducible repeat (first | apply Kd.R_alloc | apply Kd.R_drewN | apply Kd.R_drew)); exact HO_6.out) (Kd.R_typed (by (with_reducible repeat (first | apply Kd.R_alloc | apply Kd.R_drewN | apply Kd.R_drew)); exact HO_11.out)) (by decide) hg); have n1_ := Aside0.mk (Kd.R_over' (by (with_reducible repeat (first | apply Kd.R_alloc | apply Kd.R_drewN | apply Kd.R_drew)); exact HO_9.out) (Kd.R_typed (by (with_reducible repeat (first | apply Kd.R_alloc | apply Kd.R_drewN | apply Kd.R_drew)); exact HO_11.out)) (by decide) hg); have n2_ := Aside0.mk (hb); have n3_ := Aside0.mk (ho); clear HO_6; clear HO_9; clear HB; clear HO_11; have HO_6 := n0_; have HO_9 := n1_; have HB := n2_; have HO263 := n3_; clear n0_ n1_ n2_ n3_; clear ho hb hg hat; have p264 : 0 ≤ (x12_1 : Int) := of_decide_eq_true (by first | (with_reducible assumption) | assumption); have q264 : x12_1 < (l1.length : Int) := of_decide_eq_true (by first | (with_reducible assumption) | assumption); obtain ⟨ad264, e264, hx264_0⟩ := Kd.at_int HR1.out x12_1 p264 q264; cases e264; replace hx264_0 := (HB.out.cell (World.block_lt_of_cell? w _ hx264_0)).trans hx264_0; replace p264 := eq_true p264; replace q264 := eq_true q264; obtain ⟨Ao26, co26, eo26⟩ := Kd.R_slice HO_9.out; subst eo26; have p265 : 0 ≤ (x12_1 : Int) := of_decide_eq_true (by first | (with_reducible assumption) | assumption); have q265 : x12_1 < (t250.length : Int) := of_decide_eq_true (by first | (with_reducible assumption) | assumption); obtain ⟨ad265, e265, hx265_0, hx265_1, hx265_2⟩ := at_T44 (Kd.R_reads' HO_6.out).2.2 x12_1 p265 q265; cases e265; replace p265 := eq_true p265; replace q265 := eq_true q265; have p266 : 0 ≤ ((ji20) : Int) := of_decide_eq_true (by first | (with_reducible assumption) | assumption); have q266 : (ji20) < (y255.length : Int) := of_decide_eq_true (by first | (with_reducible assumption) | assumption); obtain ⟨ad266, e266, hx266_0⟩ := Kd.at_string (Kd.R_reads' HO_9.out).2.2 (ji20) p266 q266; cases e266; replace p266 := eq_true p266; replace q266 := eq_true q266))
                            repeat (go_quiet (first | ((with_reducible refine gate_builtin (b := .append) (xs := #[.tmp 42, .tmp 45]) rfl ?_); (try (refine gate_guard (by rfl) ?_; dsimp only)); at_builtin; refine Kd.R_append (Kd.int .i64) (w0 := w) w.heap.size rfl (.tmp 42) (.tmp 45) 42 3 (.int .i64 0) 8 rfl Tryd.underlying42 info3 rfl (by decide) (by omega) u11 x11_1 (x10_1.size : Int) [.int .i64 (x10_1.size : Int)] (fun _ => True) (fun _ => False) rfl rfl ?aP (fun _ hk => hk.elim) ?aF ?aO ?aB ?aS ?aL ?_; (case aP => exact rfl); (case aB => exact (by repeat (first | (with_reducible first | exact HB.out | apply below_alloc | apply pw_below_drewN | apply below_drew1) | exact HB.out))); (case aF => exact (fun _ _ => trivial)); (case aO => exact (by (with_reducible repeat (first | apply Kd.R_alloc | apply Kd.R_drewN | apply Kd.R_drew)); exact HO_11.out)); (case aS => exact (below_size (by repeat (first | (with_reducible first | exact HB.out | apply below_alloc | apply pw_below_drewN | apply below_drew1) | exact HB.out)))); (case aL => have := LMc15.out; omega); intro v262 w25 ho hb hg hat; rw [← Ny261.out] at ho; have n0_ := Aside0.mk (Kd.R_over' (by (with_reducible repeat (first | apply Kd.R_alloc | apply Kd.R_drewN | apply Kd.R_drew)); exact HO_6.out) (Kd.R_typed (by (with_reducible repeat (first | apply Kd.R_alloc | apply Kd.R_drewN | apply Kd.R_drew)); exact HO_11.out)) (by decide) hg); have n1_ := Aside0.mk (Kd.R_over' (by (with_reducible repeat (first | apply Kd.R_alloc | apply Kd.R_drewN | apply Kd.R_drew)); exact HO_9.out) (Kd.R_typed (by (with_reducible repeat (first | apply Kd.R_alloc | apply Kd.R_drewN | apply Kd.R_drew)); exact HO_11.out)) (by decide) hg); have n2_ := Aside0.mk (hb); have n3_ := Aside0.mk (ho); clear HO_6; clear HO_9; clear HB; clear HO_11; have HO_6 := n0_; have HO_9 := n1_; have HB := n2_; have HO263 := n3_; clear n0_ n1_ n2_ n3_; clear ho hb hg hat; have p264 : 0 ≤ (x12_1 : Int) := of_decide_eq_true (by first | (with_reducible assumption) | assumption); have q264 : x12_1 < (l1.length : Int) := of_decide_eq_true (by first | (with_reducible assumption) | assumption); obtain ⟨ad264, e264, hx264_0⟩ := Kd.at_int HR1.out x12_1 p264 q264; cases e264; replace hx264_0 := (HB.out.cell (World.block_lt_of_cell? w _ hx264_0)).trans hx264_0; replace p264 := eq_true p264; replace q264 := eq_true q264; obtain ⟨Ao26, co26, eo26⟩ := Kd.R_slice HO_9.out; subst eo26; have p265 : 0 ≤ (x12_1 : Int) := of_decide_eq_true (by first | (with_reducible assumption) | assumption); have q265 : x12_1 < (t250.length : Int) := of_decide_eq_true (by first | (with_reducible assumption) | assumption); obtain ⟨ad265, e265, hx265_0, hx265_1, hx265_2⟩ := at_T44 (Kd.R_reads' HO_6.out).2.2 x12_1 p265 q265; cases e265; replace p265 := eq_true p265; replace q265 := eq_true q265; have p266 : 0 ≤ ((ji20) : Int) := of_decide_eq_true (by first | (with_reducible assumption) | assumption); have q266 : (ji20) < (y255.length : Int) := of_decide_eq_true (by first | (with_reducible assumption) | assumption); obtain ⟨ad266, e266, hx266_0⟩ := Kd.at_string (Kd.R_reads' HO_9.out).2.2 (ji20) p266 q266; cases e266; replace p266 := eq_true p266; replace q266 := eq_true q266)); try go_wp2_with (first | ((with_reducible refine gate_builtin (b := .append) (xs := #[.tmp 42, .tmp 45]) rfl ?_); (try (refine gate_guard (by rfl) ?_; dsimp only)); at_builtin; refine Kd.R_append (Kd.int .i64) (w0 := w) w.heap.size rfl (.tmp 42) (.tmp 45) 42 3 (.int .i64 0) 8 rfl Tryd.underlying42 info3 rfl (by decide) (by omega) u11 x11_1 (x10_1.size : Int) [.int .i64 (x10_1.size : Int)] (fun _ => True) (fun _ => False) rfl rfl ?aP (fun _ hk => hk.elim) ?aF ?aO ?aB ?aS ?aL ?_; (case aP => exact rfl); (case aB => exact (by repeat (first | (with_reducible first | exact HB.out | apply below_alloc | apply pw_below_drewN | apply below_drew1) | exact HB.out))); (case aF => exact (fun _ _ => trivial)); (case aO => exact (by (with_reducible repeat (first | apply Kd.R_alloc | apply Kd.R_drewN | apply Kd.R_drew)); exact HO_11.out)); (case aS => exact (below_size (by repeat (first | (with_reducible first | exact HB.out | apply below_alloc | apply pw_below_drewN | apply below_drew1) | exact HB.out)))); (case aL => have := LMc15.out; omega); intro v262 w25 ho hb hg hat; rw [← Ny261.out] at ho; have n0_ := Aside0.mk (Kd.R_over' (by (with_reducible repeat (first | apply Kd.R_alloc | apply Kd.R_drewN | apply Kd.R_drew)); exact HO_6.out) (Kd.R_typed (by (with_reducible repeat (first | apply Kd.R_alloc | apply Kd.R_drewN | apply Kd.R_drew)); exact HO_11.out)) (by decide) hg); have n1_ := Aside0.mk (Kd.R_over' (by (with_reducible repeat (first | apply Kd.R_alloc | apply Kd.R_drewN | apply Kd.R_drew)); exact HO_9.out) (Kd.R_typed (by (with_reducible repeat (first | apply Kd.R_alloc | apply Kd.R_drewN | apply Kd.R_drew)); exact HO_11.out)) (by decide) hg); have n2_ := Aside0.mk (hb); have n3_ := Aside0.mk (ho); clear HO_6; clear HO_9; clear HB; clear HO_11; have HO_6 := n0_; have HO_9 := n1_; have HB := n2_; have HO263 := n3_; clear n0_ n1_ n2_ n3_; clear ho hb hg hat; have p264 : 0 ≤ (x12_1 : Int) := of_decide_eq_true (by first | (with_reducible assumption) | assumption); have q264 : x12_1 < (l1.length : Int) := of_decide_eq_true (by first | (with_reducible assumption) | assumption); obtain ⟨ad264, e264, hx264_0⟩ := Kd.at_int HR1.out x12_1 p264 q264; cases e264; replace hx264_0 := (HB.out.cell (World.block_lt_of_cell? w _ hx264_0)).trans hx264_0; replace p264 := eq_true p264; replace q264 := eq_true q264; obtain ⟨Ao26, co26, eo26⟩ := Kd.R_slice HO_9.out; subst eo26; have p265 : 0 ≤ (x12_1 : Int) := of_decide_eq_true (by first | (with_reducible assumption) | assumption); have q265 : x12_1 < (t250.length : Int) := of_decide_eq_true (by first | (with_reducible assumption) | assumption); obtain ⟨ad265, e265, hx265_0, hx265_1, hx265_2⟩ := at_T44 (Kd.R_reads' HO_6.out).2.2 x12_1 p265 q265; cases e265; replace p265 := eq_true p265; replace q265 := eq_true q265; have p266 : 0 ≤ ((ji20) : Int) := of_decide_eq_true (by first | (with_reducible assumption) | assumption); have q266 : (ji20) < (y255.length : Int) := of_decide_eq_true (by first | (with_reducible assumption) | assumption); obtain ⟨ad266, e266, hx266_0⟩ := Kd.at_string (Kd.R_reads' HO_9.out).2.2 (ji20) p266 q266; cases e266; replace p266 := eq_true p266; replace q266 := eq_true q266)))
                            go_roundg k1
                            case measure => have := HK1.out; omega
                            case rel => exact ⟨((x10_1 ++ ((rd_T44 t250 x12_1).f1)) ++ (rdOf ByteArray.empty y255 (ji20))), (y261), (wrap64 (x12_1 + 1)), (by first | rfl | (simp; done) | (simp only [← hji20] <;> (first | rfl | simp)) | (simp [*]; done)), (by first | rfl | (simp; done) | (simp [*]; done)), H', ⟨by have := HK1.out; omega⟩, ⟨by (with_reducible repeat (first | apply Kd.R_alloc | apply Kd.R_drewN | apply Kd.R_drew)); exact HO_6.out⟩, ⟨by (with_reducible repeat (first | apply Kd.R_alloc | apply Kd.R_drewN | apply Kd.R_drew)); exact HO_9.out⟩, ⟨by (with_reducible repeat (first | apply Kd.R_alloc | apply Kd.R_drewN | apply Kd.R_drew)); exact HO263.out⟩, ⟨by repeat (first | (with_reducible first | exact HB.out | apply below_alloc | apply pw_below_drewN | apply below_drew1) | exact HB.out)⟩⟩
                          · rw [if_neg c23] at H
                            exact absurd H (by simp)
                        · rw [if_neg c22] at H
                          exact absurd H (by simp)
                      · rw [if_neg c21] at H
                        exact absurd H (by simp)
                    · rw [if_neg c19] at H
                      exact absurd H (by simp)
                · rw [if_neg c17] at H
                  exact absurd H (by simp)
              · rw [if_neg c16] at H
                have c16b0 : decide (x12_1 < (l1.length : Int)) = false := decide_eq_false c16
                clear c16
                by_cases c27 : 0 ≤ x12_1
                · rw [if_pos c27] at H
                  have c27b0 : decide (0 ≤ x12_1) = true := decide_eq_true c27
                  clear c27
                  by_cases c28 : x10_1.size + ((rd_T44 t250 x12_1).f1).size ≤ 9223372036854775807
                  · rw [if_pos c28] at H
                    have c28b0 := eq_true c28
                    have c28b1 : decide (x10_1.size + ((rd_T44 t250 x12_1).f1).size ≤ 9223372036854775807) = true := decide_eq_true c28
                    try have c28b2 : (9223372036854775807 < x10_1.size + ((rd_T44 t250 x12_1).f1).size) = False := eq_false (Nat.not_lt.2 c28)
                    by_cases c29 : 0 < (y255.length : Int)
                    · rw [if_pos c29] at H
                      have c29b0 : decide (0 < (y255.length : Int)) = true := decide_eq_true c29
                      have c29b1 : decide (0 < y255.length) = true := decide_eq_true (by omega)
                      clear c29
                      by_cases c30 : (x10_1 ++ ((rd_T44 t250 x12_1).f1)).size + (rdOf ByteArray.empty y255 0).size ≤ 9223372036854775807
                      · rw [if_pos c30] at H
                        have c30b0 := eq_true c30
                        have c30b1 : decide ((x10_1 ++ ((rd_T44 t250 x12_1).f1)).size + (rdOf ByteArray.empty y255 0).size ≤ 9223372036854775807) = true := decide_eq_true c30
                        try have c30b2 : (9223372036854775807 < (x10_1 ++ ((rd_T44 t250 x12_1).f1)).size + (rdOf ByteArray.empty y255 0).size) = False := eq_false (Nat.not_lt.2 c30)
                        have H' := Aside0.mk H
                        clear H
                        obtain ⟨Ao31, co31, eo31⟩ := Kd.R_slice HO_6.out
                        subst eo31
                        go_wp2_with (first | ((with_reducible refine gate_builtin (b := .append) (xs := #[.tmp 42, .tmp 45]) rfl ?_); (try (refine gate_guard (by rfl) ?_; dsimp only)); at_builtin; refine Kd.R_append (Kd.int .i64) (w0 := w) w.heap.size rfl (.tmp 42) (.tmp 45) 42 3 (.int .i64 0) 8 rfl Tryd.underlying42 info3 rfl (by decide) (by omega) u11 x11_1 (x10_1.size : Int) [.int .i64 (x10_1.size : Int)] (fun _ => True) (fun _ => False) rfl rfl ?aP (fun _ hk => hk.elim) ?aF ?aO ?aB ?aS ?aL ?_; (case aP => exact rfl); (case aB => exact (by repeat (first | (with_reducible first | exact HB.out | apply below_alloc | apply pw_below_drewN | apply below_drew1) | exact HB.out))); (case aF => exact (fun _ _ => trivial)); (case aO => exact (by (with_reducible repeat (first | apply Kd.R_alloc | apply Kd.R_drewN | apply Kd.R_drew)); exact HO_11.out)); (case aS => exact (below_size (by repeat (first | (with_reducible first | exact HB.out | apply below_alloc | apply pw_below_drewN | apply below_drew1) | exact HB.out)))); (case aL => have := LMc15.out; omega); intro v262 w32 ho hb hg hat; rw [← Ny261.out] at ho; have n0_ := Aside0.mk (Kd.R_over' (by (with_reducible repeat (first | apply Kd.R_alloc | apply Kd.R_drewN | apply Kd.R_drew)); exact HO_6.out) (Kd.R_typed (by (with_reducible repeat (first | apply Kd.R_alloc | apply Kd.R_drewN | apply Kd.R_drew)); exact HO_11.out)) (by decide) hg); have n1_ := Aside0.mk (Kd.R_over' (by (with_reducible repeat (first | apply Kd.R_alloc | apply Kd.R_drewN | apply Kd.R_drew)); exact HO_9.out) (Kd.R_typed (by (with_reducible repeat (first | apply Kd.R_alloc | apply Kd.R_drewN | apply Kd.R_drew)); exact HO_11.out)) (by decide) hg); have n2_ := Aside0.mk (hb); have n3_ := Aside0.mk (ho); clear HO_6; clear HO_9; clear HB; clear HO_11; have HO_6 := n0_; have HO_9 := n1_; have HB := n2_; have HO263 := n3_; clear n0_ n1_ n2_ n3_; clear ho hb hg hat; have p267 : 0 ≤ (x12_1 : Int) := of_decide_eq_true (by first | (with_reducible assumption) | assumption); have q267 : x12_1 < (t250.length : Int) := of_decide_eq_true (by first | (with_reducible assumption) | assumption); obtain ⟨ad267, e267, hx267_0, hx267_1, hx267_2⟩ := at_T44 (Kd.R_reads' HO_6.out).2.2 x12_1 p267 q267; cases e267; replace p267 := eq_true p267; replace q267 := eq_true q267; obtain ⟨Ao33, co33, eo33⟩ := Kd.R_slice HO_9.out; subst eo33; have p268 : 0 ≤ (0 : Int) := (by omega); have q268 : 0 < (y255.length : Int) := of_decide_eq_true (by first | (with_reducible assumption) | assumption); obtain ⟨ad268, e268, hx268_0⟩ := Kd.at_string (Kd.R_reads' HO_9.out).2.2 0 p268 q268; cases e268; have qi268 : (0 < y255.length) = True := eq_true (by omega); (try rw [show ((0 : Int)).toNat = 0 from rfl] at hx268_0); (try rw [Addr.add_zero'] at hx268_0); replace p268 := eq_true p268; replace q268 := eq_true q268))
                        repeat (go_quiet (first | ((with_reducible refine gate_builtin (b := .append) (xs := #[.tmp 42, .tmp 45]) rfl ?_); (try (refine gate_guard (by rfl) ?_; dsimp only)); at_builtin; refine Kd.R_append (Kd.int .i64) (w0 := w) w.heap.size rfl (.tmp 42) (.tmp 45) 42 3 (.int .i64 0) 8 rfl Tryd.underlying42 info3 rfl (by decide) (by omega) u11 x11_1 (x10_1.size : Int) [.int .i64 (x10_1.size : Int)] (fun _ => True) (fun _ => False) rfl rfl ?aP (fun _ hk => hk.elim) ?aF ?aO ?aB ?aS ?aL ?_; (case aP => exact rfl); (case aB => exact (by repeat (first | (with_reducible first | exact HB.out | apply below_alloc | apply pw_below_drewN | apply below_drew1) | exact HB.out))); (case aF => exact (fun _ _ => trivial)); (case aO => exact (by (with_reducible repeat (first | apply Kd.R_alloc | apply Kd.R_drewN | apply Kd.R_drew)); exact HO_11.out)); (case aS => exact (below_size (by repeat (first | (with_reducible first | exact HB.out | apply below_alloc | apply pw_below_drewN | apply below_drew1) | exact HB.out)))); (case aL => have := LMc15.out; omega); intro v262 w32 ho hb hg hat; rw [← Ny261.out] at ho; have n0_ := Aside0.mk (Kd.R_over' (by (with_reducible repeat (first | apply Kd.R_alloc | apply Kd.R_drewN | apply Kd.R_drew)); exact HO_6.out) (Kd.R_typed (by (with_reducible repeat (first | apply Kd.R_alloc | apply Kd.R_drewN | apply Kd.R_drew)); exact HO_11.out)) (by decide) hg); have n1_ := Aside0.mk (Kd.R_over' (by (with_reducible repeat (first | apply Kd.R_alloc | apply Kd.R_drewN | apply Kd.R_drew)); exact HO_9.out) (Kd.R_typed (by (with_reducible repeat (first | apply Kd.R_alloc | apply Kd.R_drewN | apply Kd.R_drew)); exact HO_11.out)) (by decide) hg); have n2_ := Aside0.mk (hb); have n3_ := Aside0.mk (ho); clear HO_6; clear HO_9; clear HB; clear HO_11; have HO_6 := n0_; have HO_9 := n1_; have HB := n2_; have HO263 := n3_; clear n0_ n1_ n2_ n3_; clear ho hb hg hat; have p267 : 0 ≤ (x12_1 : Int) := of_decide_eq_true (by first | (with_reducible assumption) | assumption); have q267 : x12_1 < (t250.length : Int) := of_decide_eq_true (by first | (with_reducible assumption) | assumption); obtain ⟨ad267, e267, hx267_0, hx267_1, hx267_2⟩ := at_T44 (Kd.R_reads' HO_6.out).2.2 x12_1 p267 q267; cases e267; replace p267 := eq_true p267; replace q267 := eq_true q267; obtain ⟨Ao33, co33, eo33⟩ := Kd.R_slice HO_9.out; subst eo33; have p268 : 0 ≤ (0 : Int) := (by omega); have q268 : 0 < (y255.length : Int) := of_decide_eq_true (by first | (with_reducible assumption) | assumption); obtain ⟨ad268, e268, hx268_0⟩ := Kd.at_string (Kd.R_reads' HO_9.out).2.2 0 p268 q268; cases e268; have qi268 : (0 < y255.length) = True := eq_true (by omega); (try rw [show ((0 : Int)).toNat = 0 from rfl] at hx268_0); (try rw [Addr.add_zero'] at hx268_0); replace p268 := eq_true p268; replace q268 := eq_true q268)); try go_wp2_with (first | ((with_reducible refine gate_builtin (b := .append) (xs := #[.tmp 42, .tmp 45]) rfl ?_); (try (refine gate_guard (by rfl) ?_; dsimp only)); at_builtin; refine Kd.R_append (Kd.int .i64) (w0 := w) w.heap.size rfl (.tmp 42) (.tmp 45) 42 3 (.int .i64 0) 8 rfl Tryd.underlying42 info3 rfl (by decide) (by omega) u11 x11_1 (x10_1.size : Int) [.int .i64 (x10_1.size : Int)] (fun _ => True) (fun _ => False) rfl rfl ?aP (fun _ hk => hk.elim) ?aF ?aO ?aB ?aS ?aL ?_; (case aP => exact rfl); (case aB => exact (by repeat (first | (with_reducible first | exact HB.out | apply below_alloc | apply pw_below_drewN | apply below_drew1) | exact HB.out))); (case aF => exact (fun _ _ => trivial)); (case aO => exact (by (with_reducible repeat (first | apply Kd.R_alloc | apply Kd.R_drewN | apply Kd.R_drew)); exact HO_11.out)); (case aS => exact (below_size (by repeat (first | (with_reducible first | exact HB.out | apply below_alloc | apply pw_below_drewN | apply below_drew1) | exact HB.out)))); (case aL => have := LMc15.out; omega); intro v262 w32 ho hb hg hat; rw [← Ny261.out] at ho; have n0_ := Aside0.mk (Kd.R_over' (by (with_reducible repeat (first | apply Kd.R_alloc | apply Kd.R_drewN | apply Kd.R_drew)); exact HO_6.out) (Kd.R_typed (by (with_reducible repeat (first | apply Kd.R_alloc | apply Kd.R_drewN | apply Kd.R_drew)); exact HO_11.out)) (by decide) hg); have n1_ := Aside0.mk (Kd.R_over' (by (with_reducible repeat (first | apply Kd.R_alloc | apply Kd.R_drewN | apply Kd.R_drew)); exact HO_9.out) (Kd.R_typed (by (with_reducible repeat (first | apply Kd.R_alloc | apply Kd.R_drewN | apply Kd.R_drew)); exact HO_11.out)) (by decide) hg); have n2_ := Aside0.mk (hb); have n3_ := Aside0.mk (ho); clear HO_6; clear HO_9; clear HB; clear HO_11; have HO_6 := n0_; have HO_9 := n1_; have HB := n2_; have HO263 := n3_; clear n0_ n1_ n2_ n3_; clear ho hb hg hat; have p267 : 0 ≤ (x12_1 : Int) := of_decide_eq_true (by first | (with_reducible assumption) | assumption); have q267 : x12_1 < (t250.length : Int) := of_decide_eq_true (by first | (with_reducible assumption) | assumption); obtain ⟨ad267, e267, hx267_0, hx267_1, hx267_2⟩ := at_T44 (Kd.R_reads' HO_6.out).2.2 x12_1 p267 q267; cases e267; replace p267 := eq_true p267; replace q267 := eq_true q267; obtain ⟨Ao33, co33, eo33⟩ := Kd.R_slice HO_9.out; subst eo33; have p268 : 0 ≤ (0 : Int) := (by omega); have q268 : 0 < (y255.length : Int) := of_decide_eq_true (by first | (with_reducible assumption) | assumption); obtain ⟨ad268, e268, hx268_0⟩ := Kd.at_string (Kd.R_reads' HO_9.out).2.2 0 p268 q268; cases e268; have qi268 : (0 < y255.length) = True := eq_true (by omega); (try rw [show ((0 : Int)).toNat = 0 from rfl] at hx268_0); (try rw [Addr.add_zero'] at hx268_0); replace p268 := eq_true p268; replace q268 := eq_true q268)))
                        go_roundg k1
                        case measure => have := HK1.out; omega
                        case rel => exact ⟨((x10_1 ++ ((rd_T44 t250 x12_1).f1)) ++ (rdOf ByteArray.empty y255 0)), (y261), (wrap64 (x12_1 + 1)), (by first | rfl | (simp; done) | (simp [*]; done)), (by first | rfl | (simp; done) | (simp [*]; done)), H', ⟨by have := HK1.out; omega⟩, ⟨by (with_reducible repeat (first | apply Kd.R_alloc | apply Kd.R_drewN | apply Kd.R_drew)); exact HO_6.out⟩, ⟨by (with_reducible repeat (first | apply Kd.R_alloc | apply Kd.R_drewN | apply Kd.R_drew)); exact HO_9.out⟩, ⟨by (with_reducible repeat (first | apply Kd.R_alloc | apply Kd.R_drewN | apply Kd.R_drew)); exact HO263.out⟩, ⟨by repeat (first | (with_reducible first | exact HB.out | apply below_alloc | apply pw_below_drewN | apply below_drew1) | exact HB.out)⟩⟩
                      · rw [if_neg c30] at H
                        exact absurd H (by simp)
                    · rw [if_neg c29] at H
                      exact absurd H (by simp)
                  · rw [if_neg c28] at H
                    exact absurd H (by simp)
                · rw [if_neg c27] at H
                  exact absurd H (by simp)
            · rw [if_neg c15] at H
              exact absurd H (by simp)
          · rw [if_neg c14] at H
            have c14b0 : decide (x12_1 < (t250.length : Int)) = false := decide_eq_false c14
            clear c14
            by_cases c34 : (x10_1.size : Int) > 20000
            · rw [if_pos c34] at H
              have c34b0 : decide (20000 < (x10_1.size : Int)) = true := decide_eq_true c34
              have c34b1 : decide (20000 < x10_1.size) = true := decide_eq_true (by omega)
              clear c34
              obtain rfl := Option.some.inj H
              obtain ⟨Ao35, co35, eo35⟩ := Kd.R_slice HO_6.out
              subst eo35
              go_wp2
              repeat (go_quiet (fail); try go_wp2)
              go_ret
              exact ⟨by first | rfl | (simp [errW_none, errW_some] <;> rfl) | (simp [*, errW_none, errW_some] <;> rfl), by repeat (first | (with_reducible first | exact HB.out | apply below_alloc | apply pw_below_drewN | apply below_drew1) | exact HB.out)⟩
            · rw [if_neg c34] at H
              have c34b0 : decide (20000 < (x10_1.size : Int)) = false := decide_eq_false c34
              have c34b1 : decide (20000 < x10_1.size) = false := decide_eq_false (by omega)
              clear c34
              replace H := Option.bind_eq_some_iff.mp H
              obtain ⟨⟨t269, t270⟩, A360, H⟩ := H
              replace H : ((parser_Parse.f k1 x10_1).bind fun bt275 => ((ambidexterref11_Same.f k1 t269 bt275.1).bind fun t281 => (if t281 = true then (ambidexterlaw11_ParserIgnoresBlanks.j1 k1 a0 t249 t250 x10_1 x11_1 t270 bt275.2 ((t270.length : Int) != (bt275.2.length : Int))) else (ambidexterlaw11_ParserIgnoresBlanks.j1 k1 a0 t249 t250 x10_1 x11_1 t270 bt275.2 true)))) = some r := H
              have A36 := Aside0.mk A360
              clear A360
              replace H := Option.bind_eq_some_iff.mp H
              obtain ⟨⟨t275, t276⟩, A370, H⟩ := H
              replace H : ((ambidexterref11_Same.f k1 t269 t275).bind fun t281 => (if t281 = true then (ambidexterlaw11_ParserIgnoresBlanks.j1 k1 a0 t249 t250 x10_1 x11_1 t270 t276 ((t270.length : Int) != (t276.length : Int))) else (ambidexterlaw11_ParserIgnoresBlanks.j1 k1 a0 t249 t250 x10_1 x11_1 t270 t276 true))) = some r := H
              have A37 := Aside0.mk A370
              clear A370
              have HC38 := Aside0.mk H
              clear H
              obtain ⟨Ao39, co39, eo39⟩ := Kd.R_slice HO_6.out
              subst eo39
              go_upto_region 22 with (first | (go_at_call 12; (with_reducible refine (parser_Parse.calls k1 a0 t269 t270 _ A36.out (HGL.out.below (by repeat (first | (with_reducible first | exact HB.out | apply below_alloc | apply pw_below_drewN | apply below_drew1) | exact HB.out)))).mono ?_); rintro e w40 ⟨v271, v273, rfl, ho0, ho1, hb⟩; have n0_ := Aside0.mk (Kd.R_below (by (with_reducible repeat (first | apply Kd.R_alloc | apply Kd.R_drewN | apply Kd.R_drew)); exact HO_6.out) hb); have n1_ := Aside0.mk (Kd.R_below (by (with_reducible repeat (first | apply Kd.R_alloc | apply Kd.R_drewN | apply Kd.R_drew)); exact HO_9.out) hb); have n2_ := Aside0.mk (Kd.R_below (by (with_reducible repeat (first | apply Kd.R_alloc | apply Kd.R_drewN | apply Kd.R_drew)); exact HO_11.out) hb); have n3_ := Aside0.mk (Kd.R_lower ho0 (below_size (by repeat (first | (with_reducible first | exact HB.out | apply below_alloc | apply pw_below_drewN | apply below_drew1) | exact HB.out)))); have n4_ := Aside0.mk (Kd.R_lower ho1 (below_size (by repeat (first | (with_reducible first | exact HB.out | apply below_alloc | apply pw_below_drewN | apply below_drew1) | exact HB.out)))); have n5_ := Aside0.mk (below_step (by repeat (first | (with_reducible first | exact HB.out | apply below_alloc | apply pw_below_drewN | apply below_drew1) | exact HB.out)) hb); clear HO_6; clear HO_9; clear HO_11; clear HB; have HO_6 := n0_; have HO_9 := n1_; have HO_11 := n2_; have HO272 := n3_; have HO274 := n4_; have HB := n5_; clear n0_ n1_ n2_ n3_ n4_ n5_; (try clear hb); (try clear hb2); (try clear hk); (try clear hi); (try clear ho0); (try clear ho1)) | (go_at_call 12; (with_reducible refine (parser_Parse.calls k1 x10_1 t275 t276 _ A37.out (HGL.out.below (by repeat (first | (with_reducible first | exact HB.out | apply below_alloc | apply pw_below_drewN | apply below_drew1) | exact HB.out)))).mono ?_); rintro e w41 ⟨v277, v279, rfl, ho0, ho1, hb⟩; have n0_ := Aside0.mk (Kd.R_below (by (with_reducible repeat (first | apply Kd.R_alloc | apply Kd.R_drewN | apply Kd.R_drew)); exact HO_6.out) hb); have n1_ := Aside0.mk (Kd.R_below (by (with_reducible repeat (first | apply Kd.R_alloc | apply Kd.R_drewN | apply Kd.R_drew)); exact HO_9.out) hb); have n2_ := Aside0.mk (Kd.R_below (by (with_reducible repeat (first | apply Kd.R_alloc | apply Kd.R_drewN | apply Kd.R_drew)); exact HO_11.out) hb); have n3_ := Aside0.mk (Kd.R_elder' (by (with_reducible repeat (first | apply Kd.R_alloc | apply Kd.R_drewN | apply Kd.R_drew)); exact HO272.out) (Kd.R_base ho0) hb); have n4_ := Aside0.mk (Kd.R_elder' (by (with_reducible repeat (first | apply Kd.R_alloc | apply Kd.R_drewN | apply Kd.R_drew)); exact HO274.out) (Kd.R_base ho1) hb); have n5_ := Aside0.mk (Kd.R_lower (Kd.R_new' ho0 (Kd.R_lt (by (with_reducible repeat (first | apply Kd.R_alloc | apply Kd.R_drewN | apply Kd.R_drew)); exact HO272.out))) (below_size (by repeat (first | (with_reducible first | exact HB.out | apply below_alloc | apply pw_below_drewN | apply below_drew1) | exact HB.out)))); have n6_ := Aside0.mk (Kd.R_lower (Kd.R_new' ho1 (Kd.R_lt (by (with_reducible repeat (first | apply Kd.R_alloc | apply Kd.R_drewN | apply Kd.R_drew)); exact HO274.out))) (below_size (by repeat (first | (with_reducible first | exact HB.out | apply below_alloc | apply pw_below_drewN | apply below_drew1) | exact HB.out)))); have n7_ := Aside0.mk (below_step (by repeat (first | (with_reducible first | exact HB.out | apply below_alloc | apply pw_below_drewN | apply below_drew1) | exact HB.out)) hb); clear HO_6; clear HO_9; clear HO_11; clear HO272; clear HO274; clear HB; have HO_6 := n0_; have HO_9 := n1_; have HO_11 := n2_; have HO272 := n3_; have HO274 := n4_; have HO278 := n5_; have HO280 := n6_; have HB := n7_; clear n0_ n1_ n2_ n3_ n4_ n5_ n6_ n7_; (try clear hb); (try clear hb2); (try clear hk); (try clear hi); (try clear ho0); (try clear ho1)))
              repeat (go_quiet (first | (go_at_call 12; (with_reducible refine (parser_Parse.calls k1 a0 t269 t270 _ A36.out (HGL.out.below (by repeat (first | (with_reducible first | exact HB.out | apply below_alloc | apply pw_below_drewN | apply below_drew1) | exact HB.out)))).mono ?_); rintro e w40 ⟨v271, v273, rfl, ho0, ho1, hb⟩; have n0_ := Aside0.mk (Kd.R_below (by (with_reducible repeat (first | apply Kd.R_alloc | apply Kd.R_drewN | apply Kd.R_drew)); exact HO_6.out) hb); have n1_ := Aside0.mk (Kd.R_below (by (with_reducible repeat (first | apply Kd.R_alloc | apply Kd.R_drewN | apply Kd.R_drew)); exact HO_9.out) hb); have n2_ := Aside0.mk (Kd.R_below (by (with_reducible repeat (first | apply Kd.R_alloc | apply Kd.R_drewN | apply Kd.R_drew)); exact HO_11.out) hb); have n3_ := Aside0.mk (Kd.R_lower ho0 (below_size (by repeat (first | (with_reducible first | exact HB.out | apply below_alloc | apply pw_below_drewN | apply below_drew1) | exact HB.out)))); have n4_ := Aside0.mk (Kd.R_lower ho1 (below_size (by repeat (first | (with_reducible first | exact HB.out | apply below_alloc | apply pw_below_drewN | apply below_drew1) | exact HB.out)))); have n5_ := Aside0.mk (below_step (by repeat (first | (with_reducible first | exact HB.out | apply below_alloc | apply pw_below_drewN | apply below_drew1) | exact HB.out)) hb); clear HO_6; clear HO_9; clear HO_11; clear HB; have HO_6 := n0_; have HO_9 := n1_; have HO_11 := n2_; have HO272 := n3_; have HO274 := n4_; have HB := n5_; clear n0_ n1_ n2_ n3_ n4_ n5_; (try clear hb); (try clear hb2); (try clear hk); (try clear hi); (try clear ho0); (try clear ho1)) | (go_at_call 12; (with_reducible refine (parser_Parse.calls k1 x10_1 t275 t276 _ A37.out (HGL.out.below (by repeat (first | (with_reducible first | exact HB.out | apply below_alloc | apply pw_below_drewN | apply below_drew1) | exact HB.out)))).mono ?_); rintro e w41 ⟨v277, v279, rfl, ho0, ho1, hb⟩; have n0_ := Aside0.mk (Kd.R_below (by (with_reducible repeat (first | apply Kd.R_alloc | apply Kd.R_drewN | apply Kd.R_drew)); exact HO_6.out) hb); have n1_ := Aside0.mk (Kd.R_below (by (with_reducible repeat (first | apply Kd.R_alloc | apply Kd.R_drewN | apply Kd.R_drew)); exact HO_9.out) hb); have n2_ := Aside0.mk (Kd.R_below (by (with_reducible repeat (first | apply Kd.R_alloc | apply Kd.R_drewN | apply Kd.R_drew)); exact HO_11.out) hb); have n3_ := Aside0.mk (Kd.R_elder' (by (with_reducible repeat (first | apply Kd.R_alloc | apply Kd.R_drewN | apply Kd.R_drew)); exact HO272.out) (Kd.R_base ho0) hb); have n4_ := Aside0.mk (Kd.R_elder' (by (with_reducible repeat (first | apply Kd.R_alloc | apply Kd.R_drewN | apply Kd.R_drew)); exact HO274.out) (Kd.R_base ho1) hb); have n5_ := Aside0.mk (Kd.R_lower (Kd.R_new' ho0 (Kd.R_lt (by (with_reducible repeat (first | apply Kd.R_alloc | apply Kd.R_drewN | apply Kd.R_drew)); exact HO272.out))) (below_size (by repeat (first | (with_reducible first | exact HB.out | apply below_alloc | apply pw_below_drewN | apply below_drew1) | exact HB.out)))); have n6_ := Aside0.mk (Kd.R_lower (Kd.R_new' ho1 (Kd.R_lt (by (with_reducible repeat (first | apply Kd.R_alloc | apply Kd.R_drewN | apply Kd.R_drew)); exact HO274.out))) (below_size (by repeat (first | (with_reducible first | exact HB.out | apply below_alloc | apply pw_below_drewN | apply below_drew1) | exact HB.out)))); have n7_ := Aside0.mk (below_step (by repeat (first | (with_reducible first | exact HB.out | apply below_alloc | apply pw_below_drewN | apply below_drew1) | exact HB.out)) hb); clear HO_6; clear HO_9; clear HO_11; clear HO272; clear HO274; clear HB; have HO_6 := n0_; have HO_9 := n1_; have HO_11 := n2_; have HO272 := n3_; have HO274 := n4_; have HO278 := n5_; have HO280 := n6_; have HB := n7_; clear n0_ n1_ n2_ n3_ n4_ n5_ n6_ n7_; (try clear hb); (try clear hb2); (try clear hk); (try clear hi); (try clear ho0); (try clear ho1))); go_upto_region 22 with (first | (go_at_call 12; (with_reducible refine (parser_Parse.calls k1 a0 t269 t270 _ A36.out (HGL.out.below (by repeat (first | (with_reducible first | exact HB.out | apply below_alloc | apply pw_below_drewN | apply below_drew1) | exact HB.out)))).mono ?_); rintro e w40 ⟨v271, v273, rfl, ho0, ho1, hb⟩; have n0_ := Aside0.mk (Kd.R_below (by (with_reducible repeat (first | apply Kd.R_alloc | apply Kd.R_drewN | apply Kd.R_drew)); exact HO_6.out) hb); have n1_ := Aside0.mk (Kd.R_below (by (with_reducible repeat (first | apply Kd.R_alloc | apply Kd.R_drewN | apply Kd.R_drew)); exact HO_9.out) hb); have n2_ := Aside0.mk (Kd.R_below (by (with_reducible repeat (first | apply Kd.R_alloc | apply Kd.R_drewN | apply Kd.R_drew)); exact HO_11.out) hb); have n3_ := Aside0.mk (Kd.R_lower ho0 (below_size (by repeat (first | (with_reducible first | exact HB.out | apply below_alloc | apply pw_below_drewN | apply below_drew1) | exact HB.out)))); have n4_ := Aside0.mk (Kd.R_lower ho1 (below_size (by repeat (first | (with_reducible first | exact HB.out | apply below_alloc | apply pw_below_drewN | apply below_drew1) | exact HB.out)))); have n5_ := Aside0.mk (below_step (by repeat (first | (with_reducible first | exact HB.out | apply below_alloc | apply pw_below_drewN | apply below_drew1) | exact HB.out)) hb); clear HO_6; clear HO_9; clear HO_11; clear HB; have HO_6 := n0_; have HO_9 := n1_; have HO_11 := n2_; have HO272 := n3_; have HO274 := n4_; have HB := n5_; clear n0_ n1_ n2_ n3_ n4_ n5_; (try clear hb); (try clear hb2); (try clear hk); (try clear hi); (try clear ho0); (try clear ho1)) | (go_at_call 12; (with_reducible refine (parser_Parse.calls k1 x10_1 t275 t276 _ A37.out (HGL.out.below (by repeat (first | (with_reducible first | exact HB.out | apply below_alloc | apply pw_below_drewN | apply below_drew1) | exact HB.out)))).mono ?_); rintro e w41 ⟨v277, v279, rfl, ho0, ho1, hb⟩; have n0_ := Aside0.mk (Kd.R_below (by (with_reducible repeat (first | apply Kd.R_alloc | apply Kd.R_drewN | apply Kd.R_drew)); exact HO_6.out) hb); have n1_ := Aside0.mk (Kd.R_below (by (with_reducible repeat (first | apply Kd.R_alloc | apply Kd.R_drewN | apply Kd.R_drew)); exact HO_9.out) hb); have n2_ := Aside0.mk (Kd.R_below (by (with_reducible repeat (first | apply Kd.R_alloc | apply Kd.R_drewN | apply Kd.R_drew)); exact HO_11.out) hb); have n3_ := Aside0.mk (Kd.R_elder' (by (with_reducible repeat (first | apply Kd.R_alloc | apply Kd.R_drewN | apply Kd.R_drew)); exact HO272.out) (Kd.R_base ho0) hb); have n4_ := Aside0.mk (Kd.R_elder' (by (with_reducible repeat (first | apply Kd.R_alloc | apply Kd.R_drewN | apply Kd.R_drew)); exact HO274.out) (Kd.R_base ho1) hb); have n5_ := Aside0.mk (Kd.R_lower (Kd.R_new' ho0 (Kd.R_lt (by (with_reducible repeat (first | apply Kd.R_alloc | apply Kd.R_drewN | apply Kd.R_drew)); exact HO272.out))) (below_size (by repeat (first | (with_reducible first | exact HB.out | apply below_alloc | apply pw_below_drewN | apply below_drew1) | exact HB.out)))); have n6_ := Aside0.mk (Kd.R_lower (Kd.R_new' ho1 (Kd.R_lt (by (with_reducible repeat (first | apply Kd.R_alloc | apply Kd.R_drewN | apply Kd.R_drew)); exact HO274.out))) (below_size (by repeat (first | (with_reducible first | exact HB.out | apply below_alloc | apply pw_below_drewN | apply below_drew1) | exact HB.out)))); have n7_ := Aside0.mk (below_step (by repeat (first | (with_reducible first | exact HB.out | apply below_alloc | apply pw_below_drewN | apply below_drew1) | exact HB.out)) hb); clear HO_6; clear HO_9; clear HO_11; clear HO272; clear HO274; clear HB; have HO_6 := n0_; have HO_9 := n1_; have HO_11 := n2_; have HO272 := n3_; have HO274 := n4_; have HO278 := n5_; have HO280 := n6_; have HB := n7_; clear n0_ n1_ n2_ n3_ n4_ n5_ n6_ n7_; (try clear hb); (try clear hb2); (try clear hk); (try clear hi); (try clear ho0); (try clear ho1))))
              (try simp only [Act.put, List.setIfInBounds_toArray, List.set_cons_zero, List.set_cons_succ])
              go_cut [95] (fun v95 wc => ∃ (kq : Nat) (x95_37 : Bool), v95 = .bool x95_37 ∧ Aside0 (ambidexterlaw11_ParserIgnoresBlanks.j1 kq a0 t249 t250 x10_1 x11_1 t270 t276 x95_37 = some r) ∧ Aside0 (kq ≤ k1) ∧ Aside0 (Kd.R k44 44 wc w.heap.size (fun _ => True) (.slice Ao39 t250.length co39) t250) ∧ Aside0 (Kd.R (Kd.int .i64) 3 wc w.heap.size (fun _ => True) u11 x11_1) ∧ Aside0 (Kd.R k35 35 wc w.heap.size (fun k_ => some k_ ≠ (v279 : Value).ownBlock) v273 t270) ∧ Aside0 (Kd.R k35 35 wc w.heap.size (fun k_ => some k_ ≠ (v273 : Value).ownBlock) v279 t276) ∧ Aside0 (Below w.heap.size w wc))
              case first =>
                have H := HC38.out
                clear HC38
                replace H := Option.bind_eq_some_iff.mp H
                obtain ⟨t281, A420, H⟩ := H
                replace H : (if t281 = true then (ambidexterlaw11_ParserIgnoresBlanks.j1 k1 a0 t249 t250 x10_1 x11_1 t270 t276 ((t270.length : Int) != (t276.length : Int))) else (ambidexterlaw11_ParserIgnoresBlanks.j1 k1 a0 t249 t250 x10_1 x11_1 t270 t276 true)) = some r := H
                have A42 := Aside0.mk A420
                clear A420
                by_cases c43 : t281 = true
                · subst c43
                  have H1 : (ambidexterlaw11_ParserIgnoresBlanks.j1 k1 a0 t249 t250 x10_1 x11_1 t270 t276 ((t270.length : Int) != (t276.length : Int))) = some r := by rw [if_pos rfl] at H; exact H
                  clear H
                  have H := H1
                  clear H1
                  have H' := Aside0.mk H
                  clear H
                  obtain ⟨Ao44, co44, eo44⟩ := Kd.R_slice HO272.out
                  subst eo44
                  obtain ⟨Ao45, co45, eo45⟩ := Kd.R_slice HO278.out
                  subst eo45
                  go_wp2_with (first | (go_at_call 15; (with_reducible refine (ambidexterref11_Same.calls k1 _ _ t269 _ _ t275 true _ ?side1 ?side2 ?side3 ?side4 A42.out).mono ?_); (case side1 => repeat (first | exact (Kd.R_reads' HO272.out).2.2 | (with_reducible refine Kd.C_alloc ?_ _) | (with_reducible refine Kd.C_drewN ?_ _) | (with_reducible refine Kd.C_drew ?_))); (case side2 => exact (Kd.R_reads' HO272.out).2.1); (case side3 => repeat (first | exact (Kd.R_reads' HO278.out).2.2 | (with_reducible refine Kd.C_alloc ?_ _) | (with_reducible refine Kd.C_drewN ?_ _) | (with_reducible refine Kd.C_drew ?_))); (case side4 => exact (Kd.R_reads' HO278.out).2.1); rintro e w46 ⟨rfl, hb⟩; have n0_ := Aside0.mk (Kd.R_below (by (with_reducible repeat (first | apply Kd.R_alloc | apply Kd.R_drewN | apply Kd.R_drew)); exact HO_6.out) hb); have n1_ := Aside0.mk (Kd.R_below (by (with_reducible repeat (first | apply Kd.R_alloc | apply Kd.R_drewN | apply Kd.R_drew)); exact HO_9.out) hb); have n2_ := Aside0.mk (Kd.R_below (by (with_reducible repeat (first | apply Kd.R_alloc | apply Kd.R_drewN | apply Kd.R_drew)); exact HO_11.out) hb); have n3_ := Aside0.mk (Kd.R_below (by (with_reducible repeat (first | apply Kd.R_alloc | apply Kd.R_drewN | apply Kd.R_drew)); exact HO272.out) hb); have n4_ := Aside0.mk (Kd.R_below (by (with_reducible repeat (first | apply Kd.R_alloc | apply Kd.R_drewN | apply Kd.R_drew)); exact HO274.out) hb); have n5_ := Aside0.mk (Kd.R_below (by (with_reducible repeat (first | apply Kd.R_alloc | apply Kd.R_drewN | apply Kd.R_drew)); exact HO278.out) hb); have n6_ := Aside0.mk (Kd.R_below (by (with_reducible repeat (first | apply Kd.R_alloc | apply Kd.R_drewN | apply Kd.R_drew)); exact HO280.out) hb); have n7_ := Aside0.mk (below_step (by repeat (first | (with_reducible first | exact HB.out | apply below_alloc | apply pw_below_drewN | apply below_drew1) | exact HB.out)) hb); clear HO_6; clear HO_9; clear HO_11; clear HO272; clear HO274; clear HO278; clear HO280; clear HB; have HO_6 := n0_; have HO_9 := n1_; have HO_11 := n2_; have HO272 := n3_; have HO274 := n4_; have HO278 := n5_; have HO280 := n6_; have HB := n7_; clear n0_ n1_ n2_ n3_ n4_ n5_ n6_ n7_; (try clear hb); (try clear hb2); (try clear hk); (try clear hi); obtain ⟨Ao47, co47, eo47⟩ := Kd.R_slice HO274.out; subst eo47; obtain ⟨Ao48, co48, eo48⟩ := Kd.R_slice HO280.out; subst eo48))
                  repeat (go_quiet (first | (go_at_call 15; (with_reducible refine (ambidexterref11_Same.calls k1 _ _ t269 _ _ t275 true _ ?side1 ?side2 ?side3 ?side4 A42.out).mono ?_); (case side1 => repeat (first | exact (Kd.R_reads' HO272.out).2.2 | (with_reducible refine Kd.C_alloc ?_ _) | (with_reducible refine Kd.C_drewN ?_ _) | (with_reducible refine Kd.C_drew ?_))); (case side2 => exact (Kd.R_reads' HO272.out).2.1); (case side3 => repeat (first | exact (Kd.R_reads' HO278.out).2.2 | (with_reducible refine Kd.C_alloc ?_ _) | (with_reducible refine Kd.C_drewN ?_ _) | (with_reducible refine Kd.C_drew ?_))); (case side4 => exact (Kd.R_reads' HO278.out).2.1); rintro e w46 ⟨rfl, hb⟩; have n0_ := Aside0.mk (Kd.R_below (by (with_reducible repeat (first | apply Kd.R_alloc | apply Kd.R_drewN | apply Kd.R_drew)); exact HO_6.out) hb); have n1_ := Aside0.mk (Kd.R_below (by (with_reducible repeat (first | apply Kd.R_alloc | apply Kd.R_drewN | apply Kd.R_drew)); exact HO_9.out) hb); have n2_ := Aside0.mk (Kd.R_below (by (with_reducible repeat (first | apply Kd.R_alloc | apply Kd.R_drewN | apply Kd.R_drew)); exact HO_11.out) hb); have n3_ := Aside0.mk (Kd.R_below (by (with_reducible repeat (first | apply Kd.R_alloc | apply Kd.R_drewN | apply Kd.R_drew)); exact HO272.out) hb); have n4_ := Aside0.mk (Kd.R_below (by (with_reducible repeat (first | apply Kd.R_alloc | apply Kd.R_drewN | apply Kd.R_drew)); exact HO274.out) hb); have n5_ := Aside0.mk (Kd.R_below (by (with_reducible repeat (first | apply Kd.R_alloc | apply Kd.R_drewN | apply Kd.R_drew)); exact HO278.out) hb); have n6_ := Aside0.mk (Kd.R_below (by (with_reducible repeat (first | apply Kd.R_alloc | apply Kd.R_drewN | apply Kd.R_drew)); exact HO280.out) hb); have n7_ := Aside0.mk (below_step (by repeat (first | (with_reducible first | exact HB.out | apply below_alloc | apply pw_below_drewN | apply below_drew1) | exact HB.out)) hb); clear HO_6; clear HO_9; clear HO_11; clear HO272; clear HO274; clear HO278; clear HO280; clear HB; have HO_6 := n0_; have HO_9 := n1_; have HO_11 := n2_; have HO272 := n3_; have HO274 := n4_; have HO278 := n5_; have HO280 := n6_; have HB := n7_; clear n0_ n1_ n2_ n3_ n4_ n5_ n6_ n7_; (try clear hb); (try clear hb2); (try clear hk); (try clear hi); obtain ⟨Ao47, co47, eo47⟩ := Kd.R_slice HO274.out; subst eo47; obtain ⟨Ao48, co48, eo48⟩ := Kd.R_slice HO280.out; subst eo48)); try go_wp2_with (first | (go_at_call 15; (with_reducible refine (ambidexterref11_Same.calls k1 _ _ t269 _ _ t275 true _ ?side1 ?side2 ?side3 ?side4 A42.out).mono ?_); (case side1 => repeat (first | exact (Kd.R_reads' HO272.out).2.2 | (with_reducible refine Kd.C_alloc ?_ _) | (with_reducible refine Kd.C_drewN ?_ _) | (with_reducible refine Kd.C_drew ?_))); (case side2 => exact (Kd.R_reads' HO272.out).2.1); (case side3 => repeat (first | exact (Kd.R_reads' HO278.out).2.2 | (with_reducible refine Kd.C_alloc ?_ _) | (with_reducible refine Kd.C_drewN ?_ _) | (with_reducible refine Kd.C_drew ?_))); (case side4 => exact (Kd.R_reads' HO278.out).2.1); rintro e w46 ⟨rfl, hb⟩; have n0_ := Aside0.mk (Kd.R_below (by (with_reducible repeat (first | apply Kd.R_alloc | apply Kd.R_drewN | apply Kd.R_drew)); exact HO_6.out) hb); have n1_ := Aside0.mk (Kd.R_below (by (with_reducible repeat (first | apply Kd.R_alloc | apply Kd.R_drewN | apply Kd.R_drew)); exact HO_9.out) hb); have n2_ := Aside0.mk (Kd.R_below (by (with_reducible repeat (first | apply Kd.R_alloc | apply Kd.R_drewN | apply Kd.R_drew)); exact HO_11.out) hb); have n3_ := Aside0.mk (Kd.R_below (by (with_reducible repeat (first | apply Kd.R_alloc | apply Kd.R_drewN | apply Kd.R_drew)); exact HO272.out) hb); have n4_ := Aside0.mk (Kd.R_below (by (with_reducible repeat (first | apply Kd.R_alloc | apply Kd.R_drewN | apply Kd.R_drew)); exact HO274.out) hb); have n5_ := Aside0.mk (Kd.R_below (by (with_reducible repeat (first | apply Kd.R_alloc | apply Kd.R_drewN | apply Kd.R_drew)); exact HO278.out) hb); have n6_ := Aside0.mk (Kd.R_below (by (with_reducible repeat (first | apply Kd.R_alloc | apply Kd.R_drewN | apply Kd.R_drew)); exact HO280.out) hb); have n7_ := Aside0.mk (below_step (by repeat (first | (with_reducible first | exact HB.out | apply below_alloc | apply pw_below_drewN | apply below_drew1) | exact HB.out)) hb); clear HO_6; clear HO_9; clear HO_11; clear HO272; clear HO274; clear HO278; clear HO280; clear HB; have HO_6 := n0_; have HO_9 := n1_; have HO_11 := n2_; have HO272 := n3_; have HO274 := n4_; have HO278 := n5_; have HO280 := n6_; have HB := n7_; clear n0_ n1_ n2_ n3_ n4_ n5_ n6_ n7_; (try clear hb); (try clear hb2); (try clear hk); (try clear hi); obtain ⟨Ao47, co47, eo47⟩ := Kd.R_slice HO274.out; subst eo47; obtain ⟨Ao48, co48, eo48⟩ := Kd.R_slice HO280.out; subst eo48)))
                  go_meet
                  case rel => exact ⟨_, (((t270.length : Int) != (t276.length : Int))), (by first | rfl | (simp; done) | (simp [*]; done)), H', ⟨by have := HK1.out; first | omega | exact Nat.le_refl _⟩, ⟨by (with_reducible repeat (first | apply Kd.R_alloc | apply Kd.R_drewN | apply Kd.R_drew)); exact HO_6.out⟩, ⟨by (with_reducible repeat (first | apply Kd.R_alloc | apply Kd.R_drewN | apply Kd.R_drew)); exact HO_11.out⟩, ⟨by (with_reducible repeat (first | apply Kd.R_alloc | apply Kd.R_drewN | apply Kd.R_drew)); exact Kd.R_mono HO274.out (fun _ hk => hk.2)⟩, ⟨by (with_reducible repeat (first | apply Kd.R_alloc | apply Kd.R_drewN | apply Kd.R_drew)); exact Kd.R_mono HO280.out (fun _ hk => hk.2)⟩, ⟨by repeat (first | (with_reducible first | exact HB.out | apply below_alloc | apply pw_below_drewN | apply below_drew1) | exact HB.out)⟩⟩
                · replace c43 := Bool.eq_false_iff.mpr c43
                  subst c43
                  have H1 : (ambidexterlaw11_ParserIgnoresBlanks.j1 k1 a0 t249 t250 x10_1 x11_1 t270 t276 true) = some r := by rw [if_neg (show ¬ (false = true) by decide)] at H; exact H
                  clear H
                  have H := H1
                  clear H1
                  have H' := Aside0.mk H
                  clear H
                  obtain ⟨Ao49, co49, eo49⟩ := Kd.R_slice HO272.out
                  subst eo49
                  obtain ⟨Ao50, co50, eo50⟩ := Kd.R_slice HO278.out
                  subst eo50
                  go_wp2_with (first | (go_at_call 15; (with_reducible refine (ambidexterref11_Same.calls k1 _ _ t269 _ _ t275 false _ ?side1 ?side2 ?side3 ?side4 A42.out).mono ?_); (case side1 => repeat (first | exact (Kd.R_reads' HO272.out).2.2 | (with_reducible refine Kd.C_alloc ?_ _) | (with_reducible refine Kd.C_drewN ?_ _) | (with_reducible refine Kd.C_drew ?_))); (case side2 => exact (Kd.R_reads' HO272.out).2.1); (case side3 => repeat (first | exact (Kd.R_reads' HO278.out).2.2 | (with_reducible refine Kd.C_alloc ?_ _) | (with_reducible refine Kd.C_drewN ?_ _) | (with_reducible refine Kd.C_drew ?_))); (case side4 => exact (Kd.R_reads' HO278.out).2.1); rintro e w51 ⟨rfl, hb⟩; have n0_ := Aside0.mk (Kd.R_below (by (with_reducible repeat (first | apply Kd.R_alloc | apply Kd.R_drewN | apply Kd.R_drew)); exact HO_6.out) hb); have n1_ := Aside0.mk (Kd.R_below (by (with_reducible repeat (first | apply Kd.R_alloc | apply Kd.R_drewN | apply Kd.R_drew)); exact HO_9.out) hb); have n2_ := Aside0.mk (Kd.R_below (by (with_reducible repeat (first | apply Kd.R_alloc | apply Kd.R_drewN | apply Kd.R_drew)); exact HO_11.out) hb); have n3_ := Aside0.mk (Kd.R_below (by (with_reducible repeat (first | apply Kd.R_alloc | apply Kd.R_drewN | apply Kd.R_drew)); exact HO272.out) hb); have n4_ := Aside0.mk (Kd.R_below (by (with_reducible repeat (first | apply Kd.R_alloc | apply Kd.R_drewN | apply Kd.R_drew)); exact HO274.out) hb); have n5_ := Aside0.mk (Kd.R_below (by (with_reducible repeat (first | apply Kd.R_alloc | apply Kd.R_drewN | apply Kd.R_drew)); exact HO278.out) hb); have n6_ := Aside0.mk (Kd.R_below (by (with_reducible repeat (first | apply Kd.R_alloc | apply Kd.R_drewN | apply Kd.R_drew)); exact HO280.out) hb); have n7_ := Aside0.mk (below_step (by repeat (first | (with_reducible first | exact HB.out | apply below_alloc | apply pw_below_drewN | apply below_drew1) | exact HB.out)) hb); clear HO_6; clear HO_9; clear HO_11; clear HO272; clear HO274; clear HO278; clear HO280; clear HB; have HO_6 := n0_; have HO_9 := n1_; have HO_11 := n2_; have HO272 := n3_; have HO274 := n4_; have HO278 := n5_; have HO280 := n6_; have HB := n7_; clear n0_ n1_ n2_ n3_ n4_ n5_ n6_ n7_; (try clear hb); (try clear hb2); (try clear hk); (try clear hi)))
                  repeat (go_quiet (first | (go_at_call 15; (with_reducible refine (ambidexterref11_Same.calls k1 _ _ t269 _ _ t275 false _ ?side1 ?side2 ?side3 ?side4 A42.out).mono ?_); (case side1 => repeat (first | exact (Kd.R_reads' HO272.out).2.2 | (with_reducible refine Kd.C_alloc ?_ _) | (with_reducible refine Kd.C_drewN ?_ _) | (with_reducible refine Kd.C_drew ?_))); (case side2 => exact (Kd.R_reads' HO272.out).2.1); (case side3 => repeat (first | exact (Kd.R_reads' HO278.out).2.2 | (with_reducible refine Kd.C_alloc ?_ _) | (with_reducible refine Kd.C_drewN ?_ _) | (with_reducible refine Kd.C_drew ?_))); (case side4 => exact (Kd.R_reads' HO278.out).2.1); rintro e w51 ⟨rfl, hb⟩; have n0_ := Aside0.mk (Kd.R_below (by (with_reducible repeat (first | apply Kd.R_alloc | apply Kd.R_drewN | apply Kd.R_drew)); exact HO_6.out) hb); have n1_ := Aside0.mk (Kd.R_below (by (with_reducible repeat (first | apply Kd.R_alloc | apply Kd.R_drewN | apply Kd.R_drew)); exact HO_9.out) hb); have n2_ := Aside0.mk (Kd.R_below (by (with_reducible repeat (first | apply Kd.R_alloc | apply Kd.R_drewN | apply Kd.R_drew)); exact HO_11.out) hb); have n3_ := Aside0.mk (Kd.R_below (by (with_reducible repeat (first | apply Kd.R_alloc | apply Kd.R_drewN | apply Kd.R_drew)); exact HO272.out) hb); have n4_ := Aside0.mk (Kd.R_below (by (with_reducible repeat (first | apply Kd.R_alloc | apply Kd.R_drewN | apply Kd.R_drew)); exact HO274.out) hb); have n5_ := Aside0.mk (Kd.R_below (by (with_reducible repeat (first | apply Kd.R_alloc | apply Kd.R_drewN | apply Kd.R_drew)); exact HO278.out) hb); have n6_ := Aside0.mk (Kd.R_below (by (with_reducible repeat (first | apply Kd.R_alloc | apply Kd.R_drewN | apply Kd.R_drew)); exact HO280.out) hb); have n7_ := Aside0.mk (below_step (by repeat (first | (with_reducible first | exact HB.out | apply below_alloc | apply pw_below_drewN | apply below_drew1) | exact HB.out)) hb); clear HO_6; clear HO_9; clear HO_11; clear HO272; clear HO274; clear HO278; clear HO280; clear HB; have HO_6 := n0_; have HO_9 := n1_; have HO_11 := n2_; have HO272 := n3_; have HO274 := n4_; have HO278 := n5_; have HO280 := n6_; have HB := n7_; clear n0_ n1_ n2_ n3_ n4_ n5_ n6_ n7_; (try clear hb); (try clear hb2); (try clear hk); (try clear hi))); try go_wp2_with (first | (go_at_call 15; (with_reducible refine (ambidexterref11_Same.calls k1 _ _ t269 _ _ t275 false _ ?side1 ?side2 ?side3 ?side4 A42.out).mono ?_); (case side1 => repeat (first | exact (Kd.R_reads' HO272.out).2.2 | (with_reducible refine Kd.C_alloc ?_ _) | (with_reducible refine Kd.C_drewN ?_ _) | (with_reducible refine Kd.C_drew ?_))); (case side2 => exact (Kd.R_reads' HO272.out).2.1); (case side3 => repeat (first | exact (Kd.R_reads' HO278.out).2.2 | (with_reducible refine Kd.C_alloc ?_ _) | (with_reducible refine Kd.C_drewN ?_ _) | (with_reducible refine Kd.C_drew ?_))); (case side4 => exact (Kd.R_reads' HO278.out).2.1); rintro e w51 ⟨rfl, hb⟩; have n0_ := Aside0.mk (Kd.R_below (by (with_reducible repeat (first | apply Kd.R_alloc | apply Kd.R_drewN | apply Kd.R_drew)); exact HO_6.out) hb); have n1_ := Aside0.mk (Kd.R_below (by (with_reducible repeat (first | apply Kd.R_alloc | apply Kd.R_drewN | apply Kd.R_drew)); exact HO_9.out) hb); have n2_ := Aside0.mk (Kd.R_below (by (with_reducible repeat (first | apply Kd.R_alloc | apply Kd.R_drewN | apply Kd.R_drew)); exact HO_11.out) hb); have n3_ := Aside0.mk (Kd.R_below (by (with_reducible repeat (first | apply Kd.R_alloc | apply Kd.R_drewN | apply Kd.R_drew)); exact HO272.out) hb); have n4_ := Aside0.mk (Kd.R_below (by (with_reducible repeat (first | apply Kd.R_alloc | apply Kd.R_drewN | apply Kd.R_drew)); exact HO274.out) hb); have n5_ := Aside0.mk (Kd.R_below (by (with_reducible repeat (first | apply Kd.R_alloc | apply Kd.R_drewN | apply Kd.R_drew)); exact HO278.out) hb); have n6_ := Aside0.mk (Kd.R_below (by (with_reducible repeat (first | apply Kd.R_alloc | apply Kd.R_drewN | apply Kd.R_drew)); exact HO280.out) hb); have n7_ := Aside0.mk (below_step (by repeat (first | (with_reducible first | exact HB.out | apply below_alloc | apply pw_below_drewN | apply below_drew1) | exact HB.out)) hb); clear HO_6; clear HO_9; clear HO_11; clear HO272; clear HO274; clear HO278; clear HO280; clear HB; have HO_6 := n0_; have HO_9 := n1_; have HO_11 := n2_; have HO272 := n3_; have HO274 := n4_; have HO278 := n5_; have HO280 := n6_; have HB := n7_; clear n0_ n1_ n2_ n3_ n4_ n5_ n6_ n7_; (try clear hb); (try clear hb2); (try clear hk); (try clear hi))))
                  go_meet
                  case rel => exact ⟨_, (true), (by first | rfl | (simp; done) | (simp [*]; done)), H', ⟨by have := HK1.out; first | omega | exact Nat.le_refl _⟩, ⟨by (with_reducible repeat (first | apply Kd.R_alloc | apply Kd.R_drewN | apply Kd.R_drew)); exact HO_6.out⟩, ⟨by (with_reducible repeat (first | apply Kd.R_alloc | apply Kd.R_drewN | apply Kd.R_drew)); exact HO_11.out⟩, ⟨by (with_reducible repeat (first | apply Kd.R_alloc | apply Kd.R_drewN | apply Kd.R_drew)); exact Kd.R_mono HO274.out (fun _ hk => hk.2)⟩, ⟨by (with_reducible repeat (first | apply Kd.R_alloc | apply Kd.R_drewN | apply Kd.R_drew)); exact Kd.R_mono HO280.out (fun _ hk => hk.2)⟩, ⟨by repeat (first | (with_reducible first | exact HB.out | apply below_alloc | apply pw_below_drewN | apply below_drew1) | exact HB.out)⟩⟩
              case rest =>
                clear HC38
                try clear c1
                try clear c2
                try clear p2
                try clear q2
                try clear hx2
                try clear qi2
                try clear c3
                try clear c4
                try clear c4b0
                try clear c4b1
                try clear c6
                try clear p6
                try clear c7
                try clear c7b0
                try clear c7b1
                try clear c14
                try clear c14b0
                try clear c15
                try clear c16
                try clear c16b0
                try clear c17
                try clear c17b0
                try clear c18
                try clear c18b0
                try clear c18b1
                try clear c18b2
                try clear c19
                try clear c19b0
                try clear c19b1
                try clear c19b2
                try clear c21
                try clear c21b0
                try clear c22
                try clear c22b0
                try clear c23
                try clear c23b0
                try clear c23b1
                try clear c23b2
                try clear p26
                try clear q26
                try clear hx26
                try clear qi26
                try clear c27
                try clear c27b0
                try clear c28
                try clear c28b0
                try clear c28b1
                try clear c28b2
                try clear c29
                try clear c29b0
                try clear c29b1
                try clear c30
                try clear c30b0
                try clear c30b1
                try clear c30b2
                try clear c34
                try clear c34b0
                try clear c34b1
                try clear c43
                try clear hx264_0
                try clear hx265_0
                try clear hx265_1
                try clear hx265_2
                try clear hx266_0
                try clear hx267_0
                try clear hx267_1
                try clear hx267_2
                try clear hx268_0
                try clear p2
                try clear p264
                try clear p265
                try clear p266
                try clear p267
                try clear p268
                try clear q264
                try clear q265
                try clear q266
                try clear q267
                try clear q268
                obtain ⟨kq, x95_37, rfl, HA, HJ37, HO_6, HO_11, HO_15, HO_17, HB⟩ := hcut
                cases kq with
                | zero => exact absurd HA.out (by simp [ambidexterlaw11_ParserIgnoresBlanks.j1])
                | succ kj37 =>
                  have H := HA.out
                  clear HA
                  simp only [ambidexterlaw11_ParserIgnoresBlanks.j1] at H
                  by_cases c52 : x95_37 = true
                  · subst c52
                    have H1 : (some false) = some r := by rw [if_pos rfl] at H; exact H
                    clear H
                    have H := H1
                    clear H1
                    obtain rfl := Option.some.inj H
                    go_wp2
                    repeat (go_quiet (fail); try go_wp2)
                    go_ret
                    exact ⟨by first | rfl | (simp [errW_none, errW_some] <;> rfl) | (simp [*, errW_none, errW_some] <;> rfl), by repeat (first | (with_reducible first | exact HB.out | apply below_alloc | apply pw_below_drewN | apply below_drew1) | exact HB.out)⟩
                  · replace c52 := Bool.eq_false_iff.mpr c52
                    subst c52
                    have H1 : (ambidexterlaw11_ParserIgnoresBlanks.l1 kj37 a0 t249 t250 x10_1 x11_1 t270 t276 0) = some r := by rw [if_neg (show ¬ (false = true) by decide)] at H; exact H
                    clear H
                    have H := H1
                    clear H1
                    have H' := Aside0.mk H
                    clear H
                    go_wp2
                    repeat (go_quiet (fail); try go_wp2)
                    go_loopg [18] kj37 (fun kq v18 w' => ∃ (x18_3 : Int), v18 = .int .i64 x18_3 ∧ Aside0 (ambidexterlaw11_ParserIgnoresBlanks.l1 kq a0 t249 t250 x10_1 x11_1 t270 t276 x18_3 = some r) ∧ Aside0 (kq ≤ kj37) ∧ Aside0 (Kd.R k44 44 w' w.heap.size (fun _ => True) (.slice Ao39 t250.length co39) t250) ∧ Aside0 (Kd.R (Kd.int .i64) 3 w' w.heap.size (fun _ => True) u11 x11_1) ∧ Aside0 (Kd.R k35 35 w' w.heap.size (fun k_ => some k_ ≠ (v279 : Value).ownBlock) v273 t270) ∧ Aside0 (Kd.R k35 35 w' w.heap.size (fun k_ => some k_ ≠ (v273 : Value).ownBlock) v279 t276) ∧ Aside0 (Below w.heap.size w w'))
                    case atStart => exact ⟨(0), (by first | rfl | (simp; done) | (simp [*]; done)), H', ⟨Nat.le_refl _⟩, ⟨by (with_reducible repeat (first | apply Kd.R_alloc | apply Kd.R_drewN | apply Kd.R_drew)); exact HO_6.out⟩, ⟨by (with_reducible repeat (first | apply Kd.R_alloc | apply Kd.R_drewN | apply Kd.R_drew)); exact HO_11.out⟩, ⟨by (with_reducible repeat (first | apply Kd.R_alloc | apply Kd.R_drewN | apply Kd.R_drew)); exact HO_15.out⟩, ⟨by (with_reducible repeat (first | apply Kd.R_alloc | apply Kd.R_drewN | apply Kd.R_drew)); exact HO_17.out⟩, ⟨by repeat (first | (with_reducible first | exact HB.out | apply below_alloc | apply pw_below_drewN | apply below_drew1) | exact HB.out)⟩⟩
                    case round =>
                      clear H'
                      try clear c1
                      try clear c2
                      try clear p2
                      try clear q2
                      try clear hx2
                      try clear qi2
                      try clear c3
                      try clear c4
                      try clear c4b0
                      try clear c4b1
                      try clear c5
                      try clear c6
                      try clear p6
                      try clear c7
                      try clear c7b0
                      try clear c7b1
                      try clear c14
                      try clear c14b0
                      try clear c15
                      try clear c16
                      try clear c16b0
                      try clear c17
                      try clear c17b0
                      try clear c18
                      try clear c18b0
                      try clear c18b1
                      try clear c18b2
                      try clear c19
                      try clear c19b0
                      try clear c19b1
                      try clear c19b2
                      try clear c21
                      try clear c21b0
                      try clear c22
                      try clear c22b0
                      try clear c23
                      try clear c23b0
                      try clear c23b1
                      try clear c23b2
                      try clear p26
                      try clear q26
                      try clear hx26
                      try clear qi26
                      try clear c27
                      try clear c27b0
                      try clear c28
                      try clear c28b0
                      try clear c28b1
                      try clear c28b2
                      try clear c29
                      try clear c29b0
                      try clear c29b1
                      try clear c30
                      try clear c30b0
                      try clear c30b1
                      try clear c30b2
                      try clear c34
                      try clear c34b0
                      try clear c34b1
                      try clear c43
                      try clear c52
                      try clear hx264_0
                      try clear hx265_0
                      try clear hx265_1
                      try clear hx265_2
                      try clear hx266_0
                      try clear hx267_0
                      try clear hx267_1
                      try clear hx267_2
                      try clear hx268_0
                      try clear p2
                      try clear p26
                      try clear p264
                      try clear p265
                      try clear p266
                      try clear p267
                      try clear p268
                      try clear p6
                      try clear q2
                      try clear q26
                      try clear q264
                      try clear q265
                      try clear q266
                      try clear q267
                      try clear q268
                      obtain ⟨x18_3, rfl, HA, HK3, HO_6, HO_11, HO_15, HO_17, HB⟩ := hrel
                      cases gk with
                      | zero => exact absurd HA.out (by simp [ambidexterlaw11_ParserIgnoresBlanks.l1])
                      | succ k3 =>
                        have H := HA.out
                        clear HA
                        simp only [ambidexterlaw11_ParserIgnoresBlanks.l1] at H
                        by_cases c53 : x18_3 < (t270.length : Int)
                        · rw [if_pos c53] at H
                          have c53b0 : decide (x18_3 < (t270.length : Int)) = true := decide_eq_true c53
                          clear c53
                          have HC54 := Aside0.mk H
                          clear H
                          obtain ⟨Ao55, co55, eo55⟩ := Kd.R_slice HO_15.out
                          subst eo55
                          go_upto_region 27 with (fail)
                          repeat (go_quiet (fail); go_upto_region 27 with (fail))
                          go_cut [140] (fun v140 wc => ∃ (kq : Nat) (x140_53 : Bool), v140 = .bool x140_53 ∧ Aside0 (ambidexterlaw11_ParserIgnoresBlanks.j3 kq a0 t249 t250 x10_1 x11_1 t270 t276 x18_3 x140_53 = some r) ∧ Aside0 (kq ≤ k3) ∧ Aside0 (Kd.R k44 44 wc w.heap.size (fun _ => True) (.slice Ao39 t250.length co39) t250) ∧ Aside0 (Kd.R (Kd.int .i64) 3 wc w.heap.size (fun _ => True) u11 x11_1) ∧ Aside0 (Kd.R k35 35 wc w.heap.size (fun k_ => some k_ ≠ (v279 : Value).ownBlock) (.slice Ao55 t270.length co55) t270) ∧ Aside0 (Kd.R k35 35 wc w.heap.size (fun k_ => some k_ ≠ ((.slice Ao55 t270.length co55) : Value).ownBlock) v279 t276) ∧ Aside0 (Below w.heap.size w wc))
                          case first =>
                            have H := HC54.out
                            clear HC54
                            by_cases c56 : 0 ≤ x18_3
                            · rw [if_pos c56] at H
                              have c56b0 : decide (0 ≤ x18_3) = true := decide_eq_true c56
                              clear c56
                              (first | rw [c56b0] | (simp only [i64_w, i32_w]; rw [c56b0]) | skip)
                              by_cases c57 : x18_3 < (t276.length : Int)
                              · rw [if_pos c57] at H
                                have c57b0 : decide (x18_3 < (t276.length : Int)) = true := decide_eq_true c57
                                clear c57
                                by_cases c58 : ((rd_T35 t270 x18_3).f0) = ((rd_T35 t276 x18_3).f0)
                                · rw [if_pos c58] at H
                                  have c58b0 : (((rd_T35 t270 x18_3).f0) == ((rd_T35 t276 x18_3).f0)) = true := beq_iff_eq.mpr c58
                                  have c58b1 : (((rd_T35 t270 x18_3).f0) != ((rd_T35 t276 x18_3).f0)) = false := bne_eq_false_iff_eq.mpr c58
                                  clear c58
                                  by_cases c59 : ((rd_T35 t270 x18_3).f0) = 3
                                  · rw [if_pos c59] at H
                                    have c59b0 : (((rd_T35 t270 x18_3).f0) == 3) = true := beq_iff_eq.mpr c59
                                    have c59b1 : (((rd_T35 t270 x18_3).f0) != 3) = false := bne_eq_false_iff_eq.mpr c59
                                    clear c59
                                    by_cases c60 : ((rd_T35 t270 x18_3).f1) = (a0.size : Int)
                                    · rw [if_pos c60] at H
                                      have c60b0 : (((rd_T35 t270 x18_3).f1) == (a0.size : Int)) = true := beq_iff_eq.mpr c60
                                      have c60b1 : (((rd_T35 t270 x18_3).f1) != (a0.size : Int)) = false := bne_eq_false_iff_eq.mpr c60
                                      clear c60
                                      have H' := Aside0.mk H
                                      clear H
                                      have p282 : 0 ≤ (x18_3 : Int) := of_decide_eq_true (by first | (with_reducible assumption) | assumption)
                                      have q282 : x18_3 < (t270.length : Int) := of_decide_eq_true (by first | (with_reducible assumption) | assumption)
                                      obtain ⟨ad282, e282, hx282_0, hx282_1⟩ := at_T35 (Kd.R_reads' HO_15.out).2.2 x18_3 p282 q282
                                      cases e282
                                      replace p282 := eq_true p282
                                      replace q282 := eq_true q282
                                      obtain ⟨Ao61, co61, eo61⟩ := Kd.R_slice HO_17.out
                                      subst eo61
                                      have p283 : 0 ≤ (x18_3 : Int) := of_decide_eq_true (by first | (with_reducible assumption) | assumption)
                                      have q283 : x18_3 < (t276.length : Int) := of_decide_eq_true (by first | (with_reducible assumption) | assumption)
                                      obtain ⟨ad283, e283, hx283_0, hx283_1⟩ := at_T35 (Kd.R_reads' HO_17.out).2.2 x18_3 p283 q283
                                      cases e283
                                      replace p283 := eq_true p283
                                      replace q283 := eq_true q283
                                      have p284 : 0 ≤ (x18_3 : Int) := of_decide_eq_true (by first | (with_reducible assumption) | assumption)
                                      have q284 : x18_3 < (t270.length : Int) := of_decide_eq_true (by first | (with_reducible assumption) | assumption)
                                      obtain ⟨ad284, e284, hx284_0, hx284_1⟩ := at_T35 (Kd.R_reads' HO_15.out).2.2 x18_3 p284 q284
                                      obtain rfl : ad282 = ad284 := (by injection e284)
                                      replace p284 := eq_true p284
                                      replace q284 := eq_true q284
                                      have p285 : 0 ≤ (x18_3 : Int) := of_decide_eq_true (by first | (with_reducible assumption) | assumption)
                                      have q285 : x18_3 < (t270.length : Int) := of_decide_eq_true (by first | (with_reducible assumption) | assumption)
                                      obtain ⟨ad285, e285, hx285_0, hx285_1⟩ := at_T35 (Kd.R_reads' HO_15.out).2.2 x18_3 p285 q285
                                      obtain rfl : ad282 = ad285 := (by injection e285)
                                      replace p285 := eq_true p285
                                      replace q285 := eq_true q285
                                      have p286 : 0 ≤ (x18_3 : Int) := of_decide_eq_true (by first | (with_reducible assumption) | assumption)
                                      have q286 : x18_3 < (t276.length : Int) := of_decide_eq_true (by first | (with_reducible assumption) | assumption)
                                      obtain ⟨ad286, e286, hx286_0, hx286_1⟩ := at_T35 (Kd.R_reads' HO_17.out).2.2 x18_3 p286 q286
                                      obtain rfl : ad283 = ad286 := (by injection e286)
                                      replace p286 := eq_true p286
                                      replace q286 := eq_true q286
                                      go_wp2
                                      repeat (go_quiet (fail); try go_wp2)
                                      go_meet
                                      case rel => exact ⟨_, ((((rd_T35 t276 x18_3).f1) != (x10_1.size : Int))), (by first | rfl | (simp; done) | (simp [*]; done)), H', ⟨by have := HK1.out; have := HJ37.out; have := HK3.out; first | omega | exact Nat.le_refl _⟩, ⟨by (with_reducible repeat (first | apply Kd.R_alloc | apply Kd.R_drewN | apply Kd.R_drew)); exact HO_6.out⟩, ⟨by (with_reducible repeat (first | apply Kd.R_alloc | apply Kd.R_drewN | apply Kd.R_drew)); exact HO_11.out⟩, ⟨by (with_reducible repeat (first | apply Kd.R_alloc | apply Kd.R_drewN | apply Kd.R_drew)); exact HO_15.out⟩, ⟨by (with_reducible repeat (first | apply Kd.R_alloc | apply Kd.R_drewN | apply Kd.R_drew)); exact HO_17.out⟩, ⟨by repeat (first | (with_reducible first | exact HB.out | apply below_alloc | apply pw_below_drewN | apply below_drew1) | exact HB.out)⟩⟩
                                    · rw [if_neg c60] at H
                                      have c60b0 : (((rd_T35 t270 x18_3).f1) == (a0.size : Int)) = false := beq_eq_false_iff_ne.mpr c60
                                      have c60b1 : (((rd_T35 t270 x18_3).f1) != (a0.size : Int)) = true := bne_iff_ne.mpr c60
                                      have H' := Aside0.mk H
                                      clear H
                                      have p282 : 0 ≤ (x18_3 : Int) := of_decide_eq_true (by first | (with_reducible assumption) | assumption)
                                      have q282 : x18_3 < (t270.length : Int) := of_decide_eq_true (by first | (with_reducible assumption) | assumption)
                                      obtain ⟨ad282, e282, hx282_0, hx282_1⟩ := at_T35 (Kd.R_reads' HO_15.out).2.2 x18_3 p282 q282
                                      cases e282
                                      replace p282 := eq_true p282
                                      replace q282 := eq_true q282
                                      obtain ⟨Ao62, co62, eo62⟩ := Kd.R_slice HO_17.out
                                      subst eo62
                                      have p283 : 0 ≤ (x18_3 : Int) := of_decide_eq_true (by first | (with_reducible assumption) | assumption)
                                      have q283 : x18_3 < (t276.length : Int) := of_decide_eq_true (by first | (with_reducible assumption) | assumption)
                                      obtain ⟨ad283, e283, hx283_0, hx283_1⟩ := at_T35 (Kd.R_reads' HO_17.out).2.2 x18_3 p283 q283
                                      cases e283
                                      replace p283 := eq_true p283
                                      replace q283 := eq_true q283
                                      have p284 : 0 ≤ (x18_3 : Int) := of_decide_eq_true (by first | (with_reducible assumption) | assumption)
                                      have q284 : x18_3 < (t270.length : Int) := of_decide_eq_true (by first | (with_reducible assumption) | assumption)
                                      obtain ⟨ad284, e284, hx284_0, hx284_1⟩ := at_T35 (Kd.R_reads' HO_15.out).2.2 x18_3 p284 q284
                                      obtain rfl : ad282 = ad284 := (by injection e284)
                                      replace p284 := eq_true p284
                                      replace q284 := eq_true q284
                                      have p285 : 0 ≤ (x18_3 : Int) := of_decide_eq_true (by first | (with_reducible assumption) | assumption)
                                      have q285 : x18_3 < (t270.length : Int) := of_decide_eq_true (by first | (with_reducible assumption) | assumption)
                                      obtain ⟨ad285, e285, hx285_0, hx285_1⟩ := at_T35 (Kd.R_reads' HO_15.out).2.2 x18_3 p285 q285
                                      obtain rfl : ad282 = ad285 := (by injection e285)
                                      replace p285 := eq_true p285
                                      replace q285 := eq_true q285
                                      go_wp2
                                      repeat (go_quiet (fail); try go_wp2)
                                      go_meet
                                      case rel => exact ⟨_, (true), (by first | rfl | (simp; done) | (simp [*]; done)), H', ⟨by have := HK1.out; have := HJ37.out; have := HK3.out; first | omega | exact Nat.le_refl _⟩, ⟨by (with_reducible repeat (first | apply Kd.R_alloc | apply Kd.R_drewN | apply Kd.R_drew)); exact HO_6.out⟩, ⟨by (with_reducible repeat (first | apply Kd.R_alloc | apply Kd.R_drewN | apply Kd.R_drew)); exact HO_11.out⟩, ⟨by (with_reducible repeat (first | apply Kd.R_alloc | apply Kd.R_drewN | apply Kd.R_drew)); exact HO_15.out⟩, ⟨by (with_reducible repeat (first | apply Kd.R_alloc | apply Kd.R_drewN | apply Kd.R_drew)); exact HO_17.out⟩, ⟨by repeat (first | (with_reducible first | exact HB.out | apply below_alloc | apply pw_below_drewN | apply below_drew1) | exact HB.out)⟩⟩
                                  · rw [if_neg c59] at H
                                    have c59b0 : (((rd_T35 t270 x18_3).f0) == 3) = false := beq_eq_false_iff_ne.mpr c59
                                    have c59b1 : (((rd_T35 t270 x18_3).f0) != 3) = true := bne_iff_ne.mpr c59
                                    have H' := Aside0.mk H
                                    clear H
                                    have p282 : 0 ≤ (x18_3 : Int) := of_decide_eq_true (by first | (with_reducible assumption) | assumption)
                                    have q282 : x18_3 < (t270.length : Int) := of_decide_eq_true (by first | (with_reducible assumption) | assumption)
                                    obtain ⟨ad282, e282, hx282_0, hx282_1⟩ := at_T35 (Kd.R_reads' HO_15.out).2.2 x18_3 p282 q282
                                    cases e282
                                    replace p282 := eq_true p282
                                    replace q282 := eq_true q282
                                    obtain ⟨Ao63, co63, eo63⟩ := Kd.R_slice HO_17.out
                                    subst eo63
                                    have p283 : 0 ≤ (x18_3 : Int) := of_decide_eq_true (by first | (with_reducible assumption) | assumption)
                                    have q283 : x18_3 < (t276.length : Int) := of_decide_eq_true (by first | (with_reducible assumption) | assumption)
                                    obtain ⟨ad283, e283, hx283_0, hx283_1⟩ := at_T35 (Kd.R_reads' HO_17.out).2.2 x18_3 p283 q283
                                    cases e283
                                    replace p283 := eq_true p283
                                    replace q283 := eq_true q283
                                    have p284 : 0 ≤ (x18_3 : Int) := of_decide_eq_true (by first | (with_reducible assumption) | assumption)
                                    have q284 : x18_3 < (t270.length : Int) := of_decide_eq_true (by first | (with_reducible assumption) | assumption)
                                    obtain ⟨ad284, e284, hx284_0, hx284_1⟩ := at_T35 (Kd.R_reads' HO_15.out).2.2 x18_3 p284 q284
                                    obtain rfl : ad282 = ad284 := (by injection e284)
                                    replace p284 := eq_true p284
                                    replace q284 := eq_true q284
                                    go_wp2
                                    repeat (go_quiet (fail); try go_wp2)
                                    go_meet
                                    case rel => exact ⟨_, (false), (by first | rfl | (simp; done) | (simp [*]; done)), H', ⟨by have := HK1.out; have := HJ37.out; have := HK3.out; first | omega | exact Nat.le_refl _⟩, ⟨by (with_reducible repeat (first | apply Kd.R_alloc | apply Kd.R_drewN | apply Kd.R_drew)); exact HO_6.out⟩, ⟨by (with_reducible repeat (first | apply Kd.R_alloc | apply Kd.R_drewN | apply Kd.R_drew)); exact HO_11.out⟩, ⟨by (with_reducible repeat (first | apply Kd.R_alloc | apply Kd.R_drewN | apply Kd.R_drew)); exact HO_15.out⟩, ⟨by (with_reducible repeat (first | apply Kd.R_alloc | apply Kd.R_drewN | apply Kd.R_drew)); exact HO_17.out⟩, ⟨by repeat (first | (with_reducible first | exact HB.out | apply below_alloc | apply pw_below_drewN | apply below_drew1) | exact HB.out)⟩⟩
                                · rw [if_neg c58] at H
                                  have c58b0 : (((rd_T35 t270 x18_3).f0) == ((rd_T35 t276 x18_3).f0)) = false := beq_eq_false_iff_ne.mpr c58
                                  have c58b1 : (((rd_T35 t270 x18_3).f0) != ((rd_T35 t276 x18_3).f0)) = true := bne_iff_ne.mpr c58
                                  have H' := Aside0.mk H
                                  clear H
                                  have p282 : 0 ≤ (x18_3 : Int) := of_decide_eq_true (by first | (with_reducible assumption) | assumption)
                                  have q282 : x18_3 < (t270.length : Int) := of_decide_eq_true (by first | (with_reducible assumption) | assumption)
                                  obtain ⟨ad282, e282, hx282_0, hx282_1⟩ := at_T35 (Kd.R_reads' HO_15.out).2.2 x18_3 p282 q282
                                  cases e282
                                  replace p282 := eq_true p282
                                  replace q282 := eq_true q282
                                  obtain ⟨Ao64, co64, eo64⟩ := Kd.R_slice HO_17.out
                                  subst eo64
                                  have p283 : 0 ≤ (x18_3 : Int) := of_decide_eq_true (by first | (with_reducible assumption) | assumption)
                                  have q283 : x18_3 < (t276.length : Int) := of_decide_eq_true (by first | (with_reducible assumption) | assumption)
                                  obtain ⟨ad283, e283, hx283_0, hx283_1⟩ := at_T35 (Kd.R_reads' HO_17.out).2.2 x18_3 p283 q283
                                  cases e283
                                  replace p283 := eq_true p283
                                  replace q283 := eq_true q283
                                  go_wp2
                                  repeat (go_quiet (fail); try go_wp2)
                                  go_meet
                                  case rel => exact ⟨_, (true), (by first | rfl | (simp; done) | (simp [*]; done)), H', ⟨by have := HK1.out; have := HJ37.out; have := HK3.out; first | omega | exact Nat.le_refl _⟩, ⟨by (with_reducible repeat (first | apply Kd.R_alloc | apply Kd.R_drewN | apply Kd.R_drew)); exact HO_6.out⟩, ⟨by (with_reducible repeat (first | apply Kd.R_alloc | apply Kd.R_drewN | apply Kd.R_drew)); exact HO_11.out⟩, ⟨by (with_reducible repeat (first | apply Kd.R_alloc | apply Kd.R_drewN | apply Kd.R_drew)); exact HO_15.out⟩, ⟨by (with_reducible repeat (first | apply Kd.R_alloc | apply Kd.R_drewN | apply Kd.R_drew)); exact HO_17.out⟩, ⟨by repeat (first | (with_reducible first | exact HB.out | apply below_alloc | apply pw_below_drewN | apply below_drew1) | exact HB.out)⟩⟩
                              · rw [if_neg c57] at H
                                exact absurd H (by simp)
                            · rw [if_neg c56] at H
                              exact absurd H (by simp)
                          case rest =>
                            clear HC54
                            try clear c1
                            try clear c2
                            try clear p2
                            try clear q2
                            try clear hx2
                            try clear qi2
                            try clear c3
                            try clear c4
                            try clear c4b0
                            try clear c4b1
                            try clear c5
                            try clear c6
                            try clear p6
                            try clear c7
                            try clear c7b0
                            try clear c7b1
                            try clear c14
                            try clear c14b0
                            try clear c15
                            try clear c16
                            try clear c16b0
                            try clear c17
                            try clear c17b0
                            try clear c18
                            try clear c18b0
                            try clear c18b1
                            try clear c18b2
                            try clear c19
                            try clear c19b0
                            try clear c19b1
                            try clear c19b2
                            try clear c21
                            try clear c21b0
                            try clear c22
                            try clear c22b0
                            try clear c23
                            try clear c23b0
                            try clear c23b1
                            try clear c23b2
                            try clear p26
                            try clear q26
                            try clear hx26
                            try clear qi26
                            try clear c27
                            try clear c27b0
                            try clear c28
                            try clear c28b0
                            try clear c28b1
                            try clear c28b2
                            try clear p28
                            try clear q28
                            try clear hx28
                            try clear c29
                            try clear c29b0
                            try clear c29b1
                            try clear c30
                            try clear c30b0
                            try clear c30b1
                            try clear c30b2
                            try clear c34
                            try clear c34b0
                            try clear c34b1
                            try clear c43
                            try clear c52
                            try clear c53
                            try clear c53b0
                            try clear c56
                            try clear c56b0
                            try clear c57
                            try clear c57b0
                            try clear c58
                            try clear c58b0
                            try clear c58b1
                            try clear c59
                            try clear c59b0
                            try clear c59b1
                            try clear c60
                            try clear c60b0
                            try clear c60b1
                            try clear p64
                            try clear hx264_0
                            try clear hx265_0
                            try clear hx265_1
                            try clear hx265_2
                            try clear hx266_0
                            try clear hx267_0
                            try clear hx267_1
                            try clear hx267_2
                            try clear hx268_0
                            try clear hx282_0
                            try clear hx282_1
                            try clear hx283_0
                            try clear hx283_1
                            try clear hx284_0
                            try clear hx284_1
                            try clear hx285_0
                            try clear hx285_1
                            try clear hx286_0
                            try clear hx286_1
                            try clear p2
                            try clear p26
                            try clear p264
                            try clear p265
                            try clear p266
                            try clear p267
                            try clear p268
                            try clear p282
                            try clear p283
                            try clear p284
                            try clear p285
                            try clear p286
                            try clear p6
                            try clear q2
                            try clear q26
                            try clear q264
                            try clear q265
                            try clear q266
                            try clear q267
                            try clear q268
                            try clear q282
                            try clear q283
                            try clear q284
                            try clear q285
                            try clear q286
                            obtain ⟨kq, x140_53, rfl, HA, HJ53, HO_6, HO_11, HO_15, HO_17, HB⟩ := hcut
                            cases kq with
                            | zero => exact absurd HA.out (by simp [ambidexterlaw11_ParserIgnoresBlanks.j3])
                            | succ kj53 =>
                              have H := HA.out
                              clear HA
                              simp only [ambidexterlaw11_ParserIgnoresBlanks.j3] at H
                              by_cases c65 : x140_53 = true
                              · subst c65
                                have H1 : (some false) = some r := by rw [if_pos rfl] at H; exact H
                                clear H
                                have H := H1
                                clear H1
                                obtain rfl := Option.some.inj H
                                go_wp2
                                repeat (go_quiet (fail); try go_wp2)
                                go_ret
                                exact ⟨by first | rfl | (simp [errW_none, errW_some] <;> rfl) | (simp [*, errW_none, errW_some] <;> rfl), by repeat (first | (with_reducible first | exact HB.out | apply below_alloc | apply pw_below_drewN | apply below_drew1) | exact HB.out)⟩
                              · replace c65 := Bool.eq_false_iff.mpr c65
                                subst c65
                                have H1 : (ambidexterlaw11_ParserIgnoresBlanks.l2 kj53 a0 t249 t250 x10_1 x11_1 t270 t276 x18_3 0) = some r := by rw [if_neg (show ¬ (false = true) by decide)] at H; exact H
                                clear H
                                have H := H1
                                clear H1
                                have H' := Aside0.mk H
                                clear H
                                go_wp2
                                repeat (go_quiet (fail); try go_wp2)
                                go_loopg [19] kj53 (fun kq v19 w' => ∃ (x19_5 : Int), v19 = .int .i64 x19_5 ∧ Aside0 (ambidexterlaw11_ParserIgnoresBlanks.l2 kq a0 t249 t250 x10_1 x11_1 t270 t276 x18_3 x19_5 = some r) ∧ Aside0 (kq ≤ kj53) ∧ Aside0 (Kd.R k44 44 w' w.heap.size (fun _ => True) (.slice Ao39 t250.length co39) t250) ∧ Aside0 (Kd.R (Kd.int .i64) 3 w' w.heap.size (fun _ => True) u11 x11_1) ∧ Aside0 (Kd.R k35 35 w' w.heap.size (fun k_ => some k_ ≠ (v279 : Value).ownBlock) (.slice Ao55 t270.length co55) t270) ∧ Aside0 (Kd.R k35 35 w' w.heap.size (fun k_ => some k_ ≠ ((.slice Ao55 t270.length co55) : Value).ownBlock) v279 t276) ∧ Aside0 (Below w.heap.size w w'))
                                case atStart => exact ⟨(0), (by first | rfl | (simp; done) | (simp [*]; done)), H', ⟨Nat.le_refl _⟩, ⟨by (with_reducible repeat (first | apply Kd.R_alloc | apply Kd.R_drewN | apply Kd.R_drew)); exact HO_6.out⟩, ⟨by (with_reducible repeat (first | apply Kd.R_alloc | apply Kd.R_drewN | apply Kd.R_drew)); exact HO_11.out⟩, ⟨by (with_reducible repeat (first | apply Kd.R_alloc | apply Kd.R_drewN | apply Kd.R_drew)); exact HO_15.out⟩, ⟨by (with_reducible repeat (first | apply Kd.R_alloc | apply Kd.R_drewN | apply Kd.R_drew)); exact HO_17.out⟩, ⟨by repeat (first | (with_reducible first | exact HB.out | apply below_alloc | apply pw_below_drewN | apply below_drew1) | exact HB.out)⟩⟩
                                case round =>
                                  clear H'
                                  try clear c1
                                  try clear c2
                                  try clear p2
                                  try clear q2
                                  try clear hx2
                                  try clear qi2
                                  try clear c3
                                  try clear c4
                                  try clear c4b0
                                  try clear c4b1
                                  try clear c5
                                  try clear c6
                                  try clear p6
                                  try clear c7
                                  try clear c7b0
                                  try clear c7b1
                                  try clear c14
                                  try clear c14b0
                                  try clear c15
                                  try clear c16
                                  try clear c16b0
                                  try clear c17
                                  try clear c17b0
                                  try clear c18
                                  try clear c18b0
                                  try clear c18b1
                                  try clear c18b2
                                  try clear c19
                                  try clear c19b0
                                  try clear c19b1
                                  try clear c19b2
                                  try clear c21
                                  try clear c21b0
                                  try clear c22
                                  try clear c22b0
                                  try clear c23
                                  try clear c23b0
                                  try clear c23b1
                                  try clear c23b2
                                  try clear p26
                                  try clear q26
                                  try clear hx26
                                  try clear qi26
                                  try clear c27
                                  try clear c27b0
                                  try clear c28
                                  try clear c28b0
                                  try clear c28b1
                                  try clear c28b2
                                  try clear p28
                                  try clear q28
                                  try clear hx28
                                  try clear c29
                                  try clear c29b0
                                  try clear c29b1
                                  try clear c30
                                  try clear c30b0
                                  try clear c30b1
                                  try clear c30b2
                                  try clear c34
                                  try clear c34b0
                                  try clear c34b1
                                  try clear c43
                                  try clear c52
                                  try clear c53
                                  try clear c53b0
                                  try clear c56
                                  try clear c56b0
                                  try clear c57
                                  try clear c57b0
                                  try clear c58
                                  try clear c58b0
                                  try clear c58b1
                                  try clear c59
                                  try clear c59b0
                                  try clear c59b1
                                  try clear c60
                                  try clear c60b0
                                  try clear c60b1
                                  try clear p64
                                  try clear c65
                                  try clear hx264_0
                                  try clear hx265_0
                                  try clear hx265_1
                                  try clear hx265_2
                                  try clear hx266_0
                                  try clear hx267_0
                                  try clear hx267_1
                                  try clear hx267_2
                                  try clear hx268_0
                                  try clear hx282_0
                                  try clear hx282_1
                                  try clear hx283_0
                                  try clear hx283_1
                                  try clear hx284_0
                                  try clear hx284_1
                                  try clear hx285_0
                                  try clear hx285_1
                                  try clear hx286_0
                                  try clear hx286_1
                                  try clear p2
                                  try clear p26
                                  try clear p264
                                  try clear p265
                                  try clear p266
                                  try clear p267
                                  try clear p268
                                  try clear p28
                                  try clear p282
                                  try clear p283
                                  try clear p284
                                  try clear p285
                                  try clear p286
                                  try clear p6
                                  try clear p64
                                  try clear q2
                                  try clear q26
                                  try clear q264
                                  try clear q265
                                  try clear q266
                                  try clear q267
                                  try clear q268
                                  try clear q28
                                  try clear q282
                                  try clear q283
                                  try clear q284
                                  try clear q285
                                  try clear q286
                                  obtain ⟨x19_5, rfl, HA, HK5, HO_6, HO_11, HO_15, HO_17, HB⟩ := hrel
                                  cases gk with
                                  | zero => exact absurd HA.out (by simp [ambidexterlaw11_ParserIgnoresBlanks.l2])
                                  | succ k5 =>
                                    have H := HA.out
                                    clear HA
                                    simp only [ambidexterlaw11_ParserIgnoresBlanks.l2] at H
                                    have HC66 := Aside0.mk H
                                    clear H
                                    go_upto_region 30 with (fail)
                                    repeat (go_quiet (fail); go_upto_region 30 with (fail))
                                    go_cut [152] (fun v152 wc => ∃ (kq : Nat) (x152_65 : Bool), v152 = .bool x152_65 ∧ Aside0 (ambidexterlaw11_ParserIgnoresBlanks.j5 kq a0 t249 t250 x10_1 x11_1 t270 t276 x18_3 x19_5 x152_65 = some r) ∧ Aside0 (kq ≤ k5) ∧ Aside0 (Kd.R k44 44 wc w.heap.size (fun _ => True) (.slice Ao39 t250.length co39) t250) ∧ Aside0 (Kd.R (Kd.int .i64) 3 wc w.heap.size (fun _ => True) u11 x11_1) ∧ Aside0 (Kd.R k35 35 wc w.heap.size (fun k_ => some k_ ≠ (v279 : Value).ownBlock) (.slice Ao55 t270.length co55) t270) ∧ Aside0 (Kd.R k35 35 wc w.heap.size (fun k_ => some k_ ≠ ((.slice Ao55 t270.length co55) : Value).ownBlock) v279 t276) ∧ Aside0 (Below w.heap.size w wc))
                                    case first =>
                                      have H := HC66.out
                                      clear HC66
                                      by_cases c67 : x19_5 < (t250.length : Int)
                                      · rw [if_pos c67] at H
                                        have c67b0 : decide (x19_5 < (t250.length : Int)) = true := decide_eq_true c67
                                        clear c67
                                        (first | rw [c67b0] | (simp only [i64_w, i32_w]; rw [c67b0]) | skip)
                                        by_cases c68 : 0 ≤ x18_3
                                        · rw [if_pos c68] at H
                                          have c68b0 : decide (0 ≤ x18_3) = true := decide_eq_true c68
                                          clear c68
                                          by_cases c69 : x18_3 < (t270.length : Int)
                                          · rw [if_pos c69] at H
                                            have c69b0 : decide (x18_3 < (t270.length : Int)) = true := decide_eq_true c69
                                            clear c69
                                            have H' := Aside0.mk H
                                            clear H
                                            have p287 : 0 ≤ (x18_3 : Int) := of_decide_eq_true (by first | (with_reducible assumption) | assumption)
                                            have q287 : x18_3 < (t270.length : Int) := of_decide_eq_true (by first | (with_reducible assumption) | assumption)
                                            obtain ⟨ad287, e287, hx287_0, hx287_1⟩ := at_T35 (Kd.R_reads' HO_15.out).2.2 x18_3 p287 q287
                                            cases e287
                                            replace p287 := eq_true p287
                                            replace q287 := eq_true q287
                                            go_wp2
                                            repeat (go_quiet (fail); try go_wp2)
                                            go_meet
                                            case rel => exact ⟨_, ((((rd_T35 t270 x18_3).f0) != 3)), (by first | rfl | (simp; done) | (simp [*]; done)), H', ⟨by have := HK1.out; have := HJ37.out; have := HK3.out; have := HJ53.out; have := HK5.out; first | omega | exact Nat.le_refl _⟩, ⟨by (with_reducible repeat (first | apply Kd.R_alloc | apply Kd.R_drewN | apply Kd.R_drew)); exact HO_6.out⟩, ⟨by (with_reducible repeat (first | apply Kd.R_alloc | apply Kd.R_drewN | apply Kd.R_drew)); exact HO_11.out⟩, ⟨by (with_reducible repeat (first | apply Kd.R_alloc | apply Kd.R_drewN | apply Kd.R_drew)); exact HO_15.out⟩, ⟨by (with_reducible repeat (first | apply Kd.R_alloc | apply Kd.R_drewN | apply Kd.R_drew)); exact HO_17.out⟩, ⟨by repeat (first | (with_reducible first | exact HB.out | apply below_alloc | apply pw_below_drewN | apply below_drew1) | exact HB.out)⟩⟩
                                          · rw [if_neg c69] at H
                                            exact absurd H (by simp)
                                        · rw [if_neg c68] at H
                                          exact absurd H (by simp)
                                      · rw [if_neg c67] at H
                                        have c67b0 : decide (x19_5 < (t250.length : Int)) = false := decide_eq_false c67
                                        clear c67
                                        (first | rw [c67b0] | (simp only [i64_w, i32_w]; rw [c67b0]) | skip)
                                        have H' := Aside0.mk H
                                        clear H
                                        go_wp2
                                        repeat (go_quiet (fail); try go_wp2)
                                        go_meet
                                        case rel => exact ⟨_, (false), (by first | rfl | (simp; done) | (simp [*]; done)), H', ⟨by have := HK1.out; have := HJ37.out; have := HK3.out; have := HJ53.out; have := HK5.out; first | omega | exact Nat.le_refl _⟩, ⟨by (with_reducible repeat (first | apply Kd.R_alloc | apply Kd.R_drewN | apply Kd.R_drew)); exact HO_6.out⟩, ⟨by (with_reducible repeat (first | apply Kd.R_alloc | apply Kd.R_drewN | apply Kd.R_drew)); exact HO_11.out⟩, ⟨by (with_reducible repeat (first | apply Kd.R_alloc | apply Kd.R_drewN | apply Kd.R_drew)); exact HO_15.out⟩, ⟨by (with_reducible repeat (first | apply Kd.R_alloc | apply Kd.R_drewN | apply Kd.R_drew)); exact HO_17.out⟩, ⟨by repeat (first | (with_reducible first | exact HB.out | apply below_alloc | apply pw_below_drewN | apply below_drew1) | exact HB.out)⟩⟩
                                    case rest =>
                                      clear HC66
                                      try clear c1
                                      try clear c2
                                      try clear p2
                                      try clear q2
                                      try clear hx2
                                      try clear qi2
                                      try clear c3
                                      try clear c4
                                      try clear c4b0
                                      try clear c4b1
                                      try clear c5
                                      try clear c6
                                      try clear p6
                                      try clear c7
                                      try clear c7b0
                                      try clear c7b1
                                      try clear c14
                                      try clear c14b0
                                      try clear c15
                                      try clear c16
                                      try clear c16b0
                                      try clear c17
                                      try clear c17b0
                                      try clear c18
                                      try clear c18b0
                                      try clear c18b1
                                      try clear c18b2
                                      try clear c19
                                      try clear c19b0
                                      try clear c19b1
                                      try clear c19b2
                                      try clear c21
                                      try clear c21b0
                                      try clear c22
                                      try clear c22b0
                                      try clear c23
                                      try clear c23b0
                                      try clear c23b1
                                      try clear c23b2
                                      try clear p26
                                      try clear q26
                                      try clear hx26
                                      try clear qi26
                                      try clear c27
                                      try clear c27b0
                                      try clear c28
                                      try clear c28b0
                                      try clear c28b1
                                      try clear c28b2
                                      try clear p28
                                      try clear q28
                                      try clear hx28
                                      try clear c29
                                      try clear c29b0
                                      try clear c29b1
                                      try clear c30
                                      try clear c30b0
                                      try clear c30b1
                                      try clear c30b2
                                      try clear c34
                                      try clear c34b0
                                      try clear c34b1
                                      try clear c43
                                      try clear c52
                                      try clear c53
                                      try clear c53b0
                                      try clear c56
                                      try clear c56b0
                                      try clear c57
                                      try clear c57b0
                                      try clear c58
                                      try clear c58b0
                                      try clear c58b1
                                      try clear c59
                                      try clear c59b0
                                      try clear c59b1
                                      try clear c60
                                      try clear c60b0
                                      try clear c60b1
                                      try clear p64
                                      try clear c65
                                      try clear c67
                                      try clear c67b0
                                      try clear c68
                                      try clear c68b0
                                      try clear c69
                                      try clear c69b0
                                      try clear hx264_0
                                      try clear hx265_0
                                      try clear hx265_1
                                      try clear hx265_2
                                      try clear hx266_0
                                      try clear hx267_0
                                      try clear hx267_1
                                      try clear hx267_2
                                      try clear hx268_0
                                      try clear hx282_0
                                      try clear hx282_1
                                      try clear hx283_0
                                      try clear hx283_1
                                      try clear hx284_0
                                      try clear hx284_1
                                      try clear hx285_0
                                      try clear hx285_1
                                      try clear hx286_0
                                      try clear hx286_1
                                      try clear hx287_0
                                      try clear hx287_1
                                      try clear p2
                                      try clear p26
                                      try clear p264
                                      try clear p265
                                      try clear p266
                                      try clear p267
                                      try clear p268
                                      try clear p28
                                      try clear p282
                                      try clear p283
                                      try clear p284
                                      try clear p285
                                      try clear p286
                                      try clear p287
                                      try clear p6
                                      try clear p64
                                      try clear q2
                                      try clear q26
                                      try clear q264
                                      try clear q265
                                      try clear q266
                                      try clear q267
                                      try clear q268
                                      try clear q28
                                      try clear q282
                                      try clear q283
                                      try clear q284
                                      try clear q285
                                      try clear q286
                                      try clear q287
                                      obtain ⟨kq, x152_65, rfl, HA, HJ65, HO_6, HO_11, HO_15, HO_17, HB⟩ := hcut
                                      cases kq with
                                      | zero => exact absurd HA.out (by simp [ambidexterlaw11_ParserIgnoresBlanks.j5])
                                      | succ kj65 =>
                                        have H := HA.out
                                        clear HA
                                        simp only [ambidexterlaw11_ParserIgnoresBlanks.j5] at H
                                        by_cases c70 : x152_65 = true
                                        · subst c70
                                          have H1 : (if 0 ≤ x19_5 then (if x19_5 < (t250.length : Int) then (if 0 ≤ x18_3 then (if x18_3 < (t270.length : Int) then (if x19_5 < (x11_1.length : Int) then (if x18_3 < (t276.length : Int) then (if ((((rd_T44 t250 x19_5).f2) == ((rd_T35 t270 x18_3).f1)) != ((rd x11_1 x19_5) == ((rd_T35 t276 x18_3).f1))) = true then (some false) else (ambidexterlaw11_ParserIgnoresBlanks.l2 kj65 a0 t249 t250 x10_1 x11_1 t270 t276 x18_3 (wrap64 (x19_5 + 1)))) else (none)) else (none)) else (none)) else (none)) else (none)) else (none)) = some r := by rw [if_pos rfl] at H; exact H
                                          clear H
                                          have H := H1
                                          clear H1
                                          by_cases c71 : 0 ≤ x19_5
                                          · rw [if_pos c71] at H
                                            have c71b0 : decide (0 ≤ x19_5) = true := decide_eq_true c71
                                            clear c71
                                            by_cases c72 : x19_5 < (t250.length : Int)
                                            · rw [if_pos c72] at H
                                              have c72b0 : decide (x19_5 < (t250.length : Int)) = true := decide_eq_true c72
                                              clear c72
                                              by_cases c73 : 0 ≤ x18_3
                                              · rw [if_pos c73] at H
                                                have c73b0 : decide (0 ≤ x18_3) = true := decide_eq_true c73
                                                clear c73
                                                by_cases c74 : x18_3 < (t270.length : Int)
                                                · rw [if_pos c74] at H
                                                  have c74b0 : decide (x18_3 < (t270.length : Int)) = true := decide_eq_true c74
                                                  clear c74
                                                  by_cases c75 : x19_5 < (x11_1.length : Int)
                                                  · rw [if_pos c75] at H
                                                    have c75b0 : decide (x19_5 < (x11_1.length : Int)) = true := decide_eq_true c75
                                                    clear c75
                                                    by_cases c76 : x18_3 < (t276.length : Int)
                                                    · rw [if_pos c76] at H
                                                      have c76b0 : decide (x18_3 < (t276.length : Int)) = true := decide_eq_true c76
                                                      clear c76
                                                      by_cases c77 : ((((rd_T44 t250 x19_5).f2) == ((rd_T35 t270 x18_3).f1)) != ((rd x11_1 x19_5) == ((rd_T35 t276 x18_3).f1))) = true
                                                      · rw [if_pos c77] at H
                                                        have c77b0 : ((((rd_T44 t250 x19_5).f2) == ((rd_T35 t270 x18_3).f1)) != ((rd x11_1 x19_5) == ((rd_T35 t276 x18_3).f1))) = true := c77
                                                        (try (have c77b1 : decide ((((rd_T44 t250 x19_5).f2) == ((rd_T35 t270 x18_3).f1)) = ((rd x11_1 x19_5) == ((rd_T35 t276 x18_3).f1))) = false := by simpa using c77))
                                                        (try (have c77b2 : ((((rd_T44 t250 x19_5).f2) == ((rd_T35 t270 x18_3).f1)) == ((rd x11_1 x19_5) == ((rd_T35 t276 x18_3).f1))) = false := by simpa using c77))
                                                        (try (have c77b3 : ¬ ((((rd_T44 t250 x19_5).f2) == ((rd_T35 t270 x18_3).f1)) = ((rd x11_1 x19_5) == ((rd_T35 t276 x18_3).f1))) := by simpa using c77))
                                                        clear c77
                                                        obtain rfl := Option.some.inj H
                                                        have p288 : 0 ≤ (x19_5 : Int) := of_decide_eq_true (by first | (with_reducible assumption) | assumption)
                                                        have q288 : x19_5 < (t250.length : Int) := of_decide_eq_true (by first | (with_reducible assumption) | assumption)
                                                        obtain ⟨ad288, e288, hx288_0, hx288_1, hx288_2⟩ := at_T44 (Kd.R_reads' HO_6.out).2.2 x19_5 p288 q288
                                                        cases e288
                                                        replace p288 := eq_true p288
                                                        replace q288 := eq_true q288
                                                        have p289 : 0 ≤ (x18_3 : Int) := of_decide_eq_true (by first | (with_reducible assumption) | assumption)
                                                        have q289 : x18_3 < (t270.length : Int) := of_decide_eq_true (by first | (with_reducible assumption) | assumption)
                                                        obtain ⟨ad289, e289, hx289_0, hx289_1⟩ := at_T35 (Kd.R_reads' HO_15.out).2.2 x18_3 p289 q289
                                                        cases e289
                                                        replace p289 := eq_true p289
                                                        replace q289 := eq_true q289
                                                        obtain ⟨Ao78, co78, eo78⟩ := Kd.R_slice HO_11.out
                                                        subst eo78
                                                        have p290 : 0 ≤ (x19_5 : Int) := of_decide_eq_true (by first | (with_reducible assumption) | assumption)
                                                        have q290 : x19_5 < (x11_1.length : Int) := of_decide_eq_true (by first | (with_reducible assumption) | assumption)
                                                        obtain ⟨ad290, e290, hx290_0⟩ := Kd.at_int (Kd.R_reads' HO_11.out).2.2 x19_5 p290 q290
                                                        cases e290
                                                        replace p290 := eq_true p290
                                                        replace q290 := eq_true q290
                                                        obtain ⟨Ao79, co79, eo79⟩ := Kd.R_slice HO_17.out
                                                        subst eo79
                                                        have p291 : 0 ≤ (x18_3 : Int) := of_decide_eq_true (by first | (with_reducible assumption) | assumption)
                                                        have q291 : x18_3 < (t276.length : Int) := of_decide_eq_true (by first | (with_reducible assumption) | assumption)
                                                        obtain ⟨ad291, e291, hx291_0, hx291_1⟩ := at_T35 (Kd.R_reads' HO_17.out).2.2 x18_3 p291 q291
                                                        cases e291
                                                        replace p291 := eq_true p291
                                                        replace q291 := eq_true q291
                                                        go_wp2
                                                        repeat (go_quiet (fail); try go_wp2)
                                                        go_ret
                                                        exact ⟨by first | rfl | (simp [errW_none, errW_some] <;> rfl) | (simp [*, errW_none, errW_some] <;> rfl), by repeat (first | (with_reducible first | exact HB.out | apply below_alloc | apply pw_below_drewN | apply below_drew1) | exact HB.out)⟩
                                                      · rw [if_neg c77] at H
                                                        have c77b0 : ((((rd_T44 t250 x19_5).f2) == ((rd_T35 t270 x18_3).f1)) != ((rd x11_1 x19_5) == ((rd_T35 t276 x18_3).f1))) = false := by simpa using c77
                                                        (try (have c77b1 : decide ((((rd_T44 t250 x19_5).f2) == ((rd_T35 t270 x18_3).f1)) = ((rd x11_1 x19_5) == ((rd_T35 t276 x18_3).f1))) = true := by simpa using c77))
                                                        (try (have c77b2 : ((((rd_T44 t250 x19_5).f2) == ((rd_T35 t270 x18_3).f1)) == ((rd x11_1 x19_5) == ((rd_T35 t276 x18_3).f1))) = true := by simpa using c77))
                                                        clear c77
                                                        have H' := Aside0.mk H
                                                        clear H
                                                        have p288 : 0 ≤ (x19_5 : Int) := of_decide_eq_true (by first | (with_reducible assumption) | assumption)
                                                        have q288 : x19_5 < (t250.length : Int) := of_decide_eq_true (by first | (with_reducible assumption) | assumption)
                                                        obtain ⟨ad288, e288, hx288_0, hx288_1, hx288_2⟩ := at_T44 (Kd.R_reads' HO_6.out).2.2 x19_5 p288 q288
                                                        cases e288
                                                        replace p288 := eq_true p288
                                                        replace q288 := eq_true q288
                                                        have p289 : 0 ≤ (x18_3 : Int) := of_decide_eq_true (by first | (with_reducible assumption) | assumption)
                                                        have q289 : x18_3 < (t270.length : Int) := of_decide_eq_true (by first | (with_reducible assumption) | assumption)
                                                        obtain ⟨ad289, e289, hx289_0, hx289_1⟩ := at_T35 (Kd.R_reads' HO_15.out).2.2 x18_3 p289 q289
                                                        cases e289
                                                        replace p289 := eq_true p289
                                                        replace q289 := eq_true q289
                                                        obtain ⟨Ao80, co80, eo80⟩ := Kd.R_slice HO_11.out
                                                        subst eo80
                                                        have p290 : 0 ≤ (x19_5 : Int) := of_decide_eq_true (by first | (with_reducible assumption) | assumption)
                                                        have q290 : x19_5 < (x11_1.length : Int) := of_decide_eq_true (by first | (with_reducible assumption) | assumption)
                                                        obtain ⟨ad290, e290, hx290_0⟩ := Kd.at_int (Kd.R_reads' HO_11.out).2.2 x19_5 p290 q290
                                                        cases e290
                                                        replace p290 := eq_true p290
                                                        replace q290 := eq_true q290
                                                        obtain ⟨Ao81, co81, eo81⟩ := Kd.R_slice HO_17.out
                                                        subst eo81
                                                        have p291 : 0 ≤ (x18_3 : Int) := of_decide_eq_true (by first | (with_reducible assumption) | assumption)
                                                        have q291 : x18_3 < (t276.length : Int) := of_decide_eq_true (by first | (with_reducible assumption) | assumption)
                                                        obtain ⟨ad291, e291, hx291_0, hx291_1⟩ := at_T35 (Kd.R_reads' HO_17.out).2.2 x18_3 p291 q291
                                                        cases e291
                                                        replace p291 := eq_true p291
                                                        replace q291 := eq_true q291
                                                        go_wp2
                                                        repeat (go_quiet (fail); try go_wp2)
                                                        go_roundg kj65
                                                        case measure => have := HK1.out; have := HJ37.out; have := HK3.out; have := HJ53.out; have := HK5.out; have := HJ65.out; omega
                                                        case rel => exact ⟨(wrap64 (x19_5 + 1)), (by first | rfl | (simp; done) | (simp [*]; done)), H', ⟨by have := HK1.out; have := HJ37.out; have := HK3.out; have := HJ53.out; have := HK5.out; have := HJ65.out; omega⟩, ⟨by (with_reducible repeat (first | apply Kd.R_alloc | apply Kd.R_drewN | apply Kd.R_drew)); exact HO_6.out⟩, ⟨by (with_reducible repeat (first | apply Kd.R_alloc | apply Kd.R_drewN | apply Kd.R_drew)); exact HO_11.out⟩, ⟨by (with_reducible repeat (first | apply Kd.R_alloc | apply Kd.R_drewN | apply Kd.R_drew)); exact HO_15.out⟩, ⟨by (with_reducible repeat (first | apply Kd.R_alloc | apply Kd.R_drewN | apply Kd.R_drew)); exact HO_17.out⟩, ⟨by repeat (first | (with_reducible first | exact HB.out | apply below_alloc | apply pw_below_drewN | apply below_drew1) | exact HB.out)⟩⟩
                                                    · rw [if_neg c76] at H
                                                      exact absurd H (by simp)
                                                  · rw [if_neg c75] at H
                                                    exact absurd H (by simp)
                                                · rw [if_neg c74] at H
                                                  exact absurd H (by simp)
                                              · rw [if_neg c73] at H
                                                exact absurd H (by simp)
                                            · rw [if_neg c72] at H
                                              exact absurd H (by simp)
                                          · rw [if_neg c71] at H
                                            exact absurd H (by simp)
                                        · replace c70 := Bool.eq_false_iff.mpr c70
                                          subst c70
                                          have H1 : (ambidexterlaw11_ParserIgnoresBlanks.l1 kj65 a0 t249 t250 x10_1 x11_1 t270 t276 (wrap64 (x18_3 + 1))) = some r := by rw [if_neg (show ¬ (false = true) by decide)] at H; exact H
                                          clear H
                                          have H := H1
                                          clear H1
                                          have H' := Aside0.mk H
                                          clear H
                                          go_wp2
                                          repeat (go_quiet (fail); try go_wp2)
                                          go_roundg kj65
                                          case measure => have := HK1.out; have := HJ37.out; have := HK3.out; have := HJ53.out; have := HK5.out; have := HJ65.out; omega
                                          case rel => exact ⟨(wrap64 (x18_3 + 1)), (by first | rfl | (simp; done) | (simp [*]; done)), H', ⟨by have := HK1.out; have := HJ37.out; have := HK3.out; have := HJ53.out; have := HK5.out; have := HJ65.out; omega⟩, ⟨by (with_reducible repeat (first | apply Kd.R_alloc | apply Kd.R_drewN | apply Kd.R_drew)); exact HO_6.out⟩, ⟨by (with_reducible repeat (first | apply Kd.R_alloc | apply Kd.R_drewN | apply Kd.R_drew)); exact HO_11.out⟩, ⟨by (with_reducible repeat (first | apply Kd.R_alloc | apply Kd.R_drewN | apply Kd.R_drew)); exact HO_15.out⟩, ⟨by (with_reducible repeat (first | apply Kd.R_alloc | apply Kd.R_drewN | apply Kd.R_drew)); exact HO_17.out⟩, ⟨by repeat (first | (with_reducible first | exact HB.out | apply below_alloc | apply pw_below_drewN | apply below_drew1) | exact HB.out)⟩⟩
                        · rw [if_neg c53] at H
                          have c53b0 : decide (x18_3 < (t270.length : Int)) = false := decide_eq_false c53
                          clear c53
                          obtain rfl := Option.some.inj H
                          obtain ⟨Ao82, co82, eo82⟩ := Kd.R_slice HO_15.out
                          subst eo82
                          go_wp2
                          repeat (go_quiet (fail); try go_wp2)
                          go_ret
                          exact ⟨by first | rfl | (simp [errW_none, errW_some] <;> rfl) | (simp [*, errW_none, errW_some] <;> rfl), by repeat (first | (with_reducible first | exact HB.out | apply below_alloc | apply pw_below_drewN | apply below_drew1) | exact HB.out)⟩
    · rw [if_neg c7] at H
      have c7b0 : (t251 == 0) = false := beq_eq_false_iff_ne.mpr c7
      have c7b1 : (t251 != 0) = true := bne_iff_ne.mpr c7
      obtain rfl := Option.some.inj H
      go_enter Tryd.func6, Tryd.ntmps6
      go_wp2_with (first | (go_at_call 9; (with_reducible refine (ambidexterlaw11_head.calls  t249 _ A3.out (HGL.out.below (by repeat (first | (with_reducible first | exact HB.out | apply below_alloc | apply pw_below_drewN | apply below_drew1) | exact HB.out)))).mono ?_); rintro e w83 ⟨rfl, hb⟩; have n0_ := Aside0.mk (below_step (by repeat (first | (with_reducible first | exact HB.out | apply below_alloc | apply pw_below_drewN | apply below_drew1) | exact HB.out)) hb); clear HB; have HB := n0_; clear n0_; (try clear hb); (try clear hb2); (try clear hk); (try clear hi)) | (go_at_call 17; (with_reducible refine (lexer_Lex.calls a0 t250 t251 t252 _ A6.out).mono ?_); rintro e w84 ⟨v253, rfl, ho0, hb⟩; have n0_ := Aside0.mk (Kd.R_lower ho0 (below_size (by repeat (first | (with_reducible first | exact HB.out | apply below_alloc | apply pw_below_drewN | apply below_drew1) | exact HB.out)))); have n1_ := Aside0.mk (below_step (by repeat (first | (with_reducible first | exact HB.out | apply below_alloc | apply pw_below_drewN | apply below_drew1) | exact HB.out)) hb); clear HB; have HO254 := n0_; have HB := n1_; clear n0_ n1_; (try clear hb); (try clear hb2); (try clear hk); (try clear hi); (try clear ho0)))
      repeat (go_quiet (first | (go_at_call 9; (with_reducible refine (ambidexterlaw11_head.calls  t249 _ A3.out (HGL.out.below (by repeat (first | (with_reducible first | exact HB.out | apply below_alloc | apply pw_below_drewN | apply below_drew1) | exact HB.out)))).mono ?_); rintro e w83 ⟨rfl, hb⟩; have n0_ := Aside0.mk (below_step (by repeat (first | (with_reducible first | exact HB.out | apply below_alloc | apply pw_below_drewN | apply below_drew1) | exact HB.out)) hb); clear HB; have HB := n0_; clear n0_; (try clear hb); (try clear hb2); (try clear hk); (try clear hi)) | (go_at_call 17; (with_reducible refine (lexer_Lex.calls a0 t250 t251 t252 _ A6.out).mono ?_); rintro e w84 ⟨v253, rfl, ho0, hb⟩; have n0_ := Aside0.mk (Kd.R_lower ho0 (below_size (by repeat (first | (with_reducible first | exact HB.out | apply below_alloc | apply pw_below_drewN | apply below_drew1) | exact HB.out)))); have n1_ := Aside0.mk (below_step (by repeat (first | (with_reducible first | exact HB.out | apply below_alloc | apply pw_below_drewN | apply below_drew1) | exact HB.out)) hb); clear HB; have HO254 := n0_; have HB := n1_; clear n0_ n1_; (try clear hb); (try clear hb2); (try clear hk); (try clear hi); (try clear ho0))); try go_wp2_with (first | (go_at_call 9; (with_reducible refine (ambidexterlaw11_head.calls  t249 _ A3.out (HGL.out.below (by repeat (first | (with_reducible first | exact HB.out | apply below_alloc | apply pw_below_drewN | apply below_drew1) | exact HB.out)))).mono ?_); rintro e w83 ⟨rfl, hb⟩; have n0_ := Aside0.mk (below_step (by repeat (first | (with_reducible first | exact HB.out | apply below_alloc | apply pw_below_drewN | apply below_drew1) | exact HB.out)) hb); clear HB; have HB := n0_; clear n0_; (try clear hb); (try clear hb2); (try clear hk); (try clear hi)) | (go_at_call 17; (with_reducible refine (lexer_Lex.calls a0 t250 t251 t252 _ A6.out).mono ?_); rintro e w84 ⟨v253, rfl, ho0, hb⟩; have n0_ := Aside0.mk (Kd.R_lower ho0 (below_size (by repeat (first | (with_reducible first | exact HB.out | apply below_alloc | apply pw_below_drewN | apply below_drew1) | exact HB.out)))); have n1_ := Aside0.mk (below_step (by repeat (first | (with_reducible first | exact HB.out | apply below_alloc | apply pw_below_drewN | apply below_drew1) | exact HB.out)) hb); clear HB; have HO254 := n0_; have HB := n1_; clear n0_ n1_; (try clear hb); (try clear hb2); (try clear hk); (try clear hi); (try clear ho0))))
      go_ret
      exact ⟨by first | rfl | (simp [errW_none, errW_some] <;> rfl) | (simp [*, errW_none, errW_some] <;> rfl), by repeat (first | (with_reducible first | exact HB.out | apply below_alloc | apply pw_below_drewN | apply below_drew1) | exact HB.out)⟩
/-- THE ONE PURE STATEMENT of ambidexterlaw11_ParserIgnoresBlanks: yours. -/
def ambidexterlaw11_ParserIgnoresBlanks.Pure : Prop := ∀ (a0 : ByteArray) (l1 : List Int), a0.size ≤ 140737488351232 → l1.length ≤ maxLen → l1.length * 1 ≤ 140737488351232 → (∀ x ∈ l1, (Lit.int .u8 x).wf = true) → ∃ k, ambidexterlaw11_ParserIgnoresBlanks.f k a0 l1 = some true
theorem ambidexterlaw11_ParserIgnoresBlanks.walk (P : ambidexterlaw11_ParserIgnoresBlanks.Pure) (a0 : ByteArray) (a1 : Option Addr) (len1 cap1 : Nat) (z1 : List Int) (w : World) (w0 : a0.size ≤ 140737488351232) (w1 : (a1 = none ∧ len1 = 0 ∧ cap1 = 0 ∧ z1 = []) ∨ ∃ x, a1 = some x ∧ len1 ≤ cap1 ∧ cap1 ≤ maxLen ∧ z1.length = cap1 ∧ (∀ i, i < z1.length → w.cell? (x.add i) = some (.int .u8 (z1.getD i 0))) ∧ ∀ n ∈ z1, (Lit.int .u8 n).wf = true) (y1 : len1 * 1 ≤ 140737488351232) (hG : Glob w) :
    Calls Tryd.prog 6 #[.string a0, .slice a1 len1 cap1] w fun e w' => e = .returned (.bool true) ∧ Below w.heap.size w w' := by
  obtain ⟨l1, rfl, hr1, hm1, hw1, hc1⟩ := ReadsInt.ofRowC w1
  obtain ⟨k, h⟩ := P a0 l1 w0 hm1 y1 hw1
  refine (ambidexterlaw11_ParserIgnoresBlanks.calls k a0 _ _ l1 true w (Kd.C_of_reads (d := (0 : Int)) (h1 := fun _ => rfl) hr1) hc1 h hG).mono ?_
  rintro e w' ⟨rfl, hd⟩
  exact ⟨rfl, hd⟩
end Go.Proofs.YtonhcfecfifghaaDoor.PPx
namespace Go.Proofs.YtonhcfecfifghaaDoor.parserIgnoresBlanks
open Go.ChangeShapes Go.WideShapes Go.ChangeAt Go.RowKit
open Go.ChangeMaps (open_string shut_string)
set_option linter.unusedVariables false
theorem laidOut : laidOutB Tryd.prog = true := by kernel_rfl
theorem own : ownKnob Tryd.prog.godebug = none := by kernel_rfl
theorem plainLaid {W : World} (h : laidMetH Tryd.prog Rows.parserIgnoresBlanksRow.laid W) : PPx.Glob W := by
  rw [MakeChecks.laidMetH_plain _ _ _ (by kernel_rfl)] at h
  exact PPx.glob_of h
theorem door_met (os : Os) (args : Array Value) : laidMetH Tryd.prog Rows.parserIgnoresBlanksRow.laid ((World.doorLaid Tryd.prog 400 os).forCall (fun _ _ => 0) ⟨#[], args, []⟩).memory :=
  laidMetH_of_parts3 (fuel := 8) (laidMet_of_run' 8 (by kernel_rfl) (by kernel_rfl)) (by kernel_rfl) (by kernel_rfl)
set_option maxRecDepth 100000 in
theorem lifted (PU : ∀ (s : ByteArray) (picks : List Int), (∀ x ∈ picks, (Lit.int .u8 x).wf = true) → ∃ k, PPx.ambidexterlaw11_ParserIgnoresBlanks.f k s picks = some true) (os : Os) (started : os.Started) (H : Type) (enc : TypeId × Value → H) :
    ReturnsInHanded {} Tryd.checked os 6 .any (fun w args => (Rows.parserIgnoresBlanksSpec.pre enc Tryd.prog Tryd.f6 [] false w args ∧ laidMetH Tryd.prog Rows.parserIgnoresBlanksRow.laid w) ∧ sizedMet enc Tryd.prog Tryd.f6 (OpenSpec.ofChange Rows.parserIgnoresBlanksSpec) false w args)
      (Rows.parserIgnoresBlanksSpec.post enc Tryd.prog Tryd.f6 false true false false) := by
  refine returnsInHanded_of_change_and (C := Tryd.checked) (X := fun w _ => laidMetH Tryd.prog Rows.parserIgnoresBlanksRow.laid w) (fun _ _ _ hh h => h.of_heap hh) own started (by kernel_rfl) Tryd.func6
    (ChangeSpec.witness_shaped (enc := enc) (C := Tryd.checked) (os := os) (X := fun w _ => laidMetH Tryd.prog Rows.parserIgnoresBlanksRow.laid w) false (World.doorLaid Tryd.prog 400 os) #[.string ByteArray.empty, .slice none 0 0] 8 rfl (World.shaped_of_RefB (by kernel_rfl) (by kernel_rfl)) (by kernel_rfl) (by kernel_rfl) (by kernel_rfl) (door_met os _)) ?_
  intro W base args ds gs before hval0 hW hcnd hsz0 hL _
  have hsz : (DataW.weightsEach Tryd.prog (Tryd.f6.params.toList ++ Rows.parserIgnoresBlanksSpec.plain.varTypes Tryd.prog) (ds ++ gs)).all (· ≤ reachBytes) = true := hsz0
  have hval : ∀ (j : Nat) t v, Tryd.f6.params[j]? = some t → args[j]? = some v → Value.okWide Tryd.prog W .any base t v := hval0
  have hW' := hW
  obtain ⟨p, q, hA0, hV, rfl, hfz, hnd⟩ := hW
  have hA : DataW.TrodAll enc Tryd.prog W 0 (fun _ => true) true Tryd.f6.params.toList args.toList ds p := hA0
  rw [Tryd.params6] at hA hval hsz
  obtain ⟨v0, vs0, d0, ds0, p0, q0, hargs, rfl, rfl, h0, r0⟩ := trodAll_cons hA
  obtain ⟨v1, vs1, d1, ds1, p1, q1, rfl, rfl, rfl, h1, r1⟩ := trodAll_cons r0
  obtain ⟨rfl, rfl, rfl⟩ := trodAll_nil r1
  obtain rfl : args = #[v0, v1] := by cases args; simp_all
  obtain ⟨rfl, rfl⟩ := trodVars_none hV
  obtain ⟨a0, rfl, rfl, rfl, y0⟩ := open_string Tryd.underlying9 (hval 0 9 v0 rfl rfl) h0
  obtain ⟨a1, len1, cap1, rfl⟩ := okWide_slice Tryd.underlying37 (hval 1 37 v1 rfl rfl)
  have k1 := h1
  have lt1 : ∀ x ∈ p1, x.block < W.heap.size := by obtain ⟨m, hm⟩ := k1; exact DataW.trod_lt m _ _ _ hm
  obtain ⟨z1, w1⟩ : ∃ z1 : List Int, (a1 = none ∧ len1 = 0 ∧ cap1 = 0 ∧ z1 = []) ∨ ∃ x, a1 = some x ∧ len1 ≤ cap1 ∧ cap1 ≤ maxLen ∧ z1.length = cap1 ∧ (∀ i, i < z1.length → W.cell? (x.add i) = some (.int .u8 (z1.getD i 0))) ∧ ∀ n ∈ z1, (Lit.int .u8 n).wf = true := by
    obtain ⟨fuel, hf⟩ := h1
    rcases open_ints Tryd.underlying37 Tryd.underlying5 (by kernel_rfl) hf with ⟨hcs, _⟩ | ⟨x, l, c, zs, hcs, _, hl, hm, hz, _, hcell, hwz⟩
    · simp [Value.cells] at hcs
      obtain ⟨rfl, rfl, rfl⟩ := hcs
      exact ⟨[], .inl ⟨rfl, rfl, rfl, rfl⟩⟩
    · simp [Value.cells] at hcs
      obtain ⟨rfl, rfl, rfl⟩ := hcs
      exact ⟨zs, .inr ⟨x, rfl, hl, hm, by simpa using hz, hcell, hwz⟩⟩
  clear hA0 hval0 hsz0 hsz
  obtain ⟨l1, rfl, hr1, hm1, hw1, hc1⟩ := Go.Proofs.YtonhcfecfifghaaDoorW.PrintWords.ReadsInt.ofRowC w1
  obtain ⟨k, h⟩ := PU a0 l1 hw1
  refine (PPx.ambidexterlaw11_ParserIgnoresBlanks.calls k a0 _ _ l1 true W (Go.Proofs.YtonhcfecfifghaaDoorW.PrintWords.Kd.C_of_reads (d := (0 : Int)) (h1 := fun _ => rfl) hr1) hc1 h (plainLaid hL)).mono fun e W' ⟨he, bel⟩ => ?_
  subst he
  exact ⟨_, rfl, _, _, _, [], _, [], hW', trodAll_mk1 (shut_bool Tryd.underlying4 _), (trodAll_cons_mk (shut_string Tryd.underlying9 y0) (trodAll_cons_mk (Below.trod laidOut (by kernel_rfl) (of_decide_eq_true (by kernel_rfl)) k1 bel lt1) trodAll_mk0)), rfl, bel.frame _, fun h => by cases h⟩
theorem over (PU : ∀ (s : ByteArray) (picks : List Int), (∀ x ∈ picks, (Lit.int .u8 x).wf = true) → ∃ k, PPx.ambidexterlaw11_ParserIgnoresBlanks.f k s picks = some true) : Rows.ParserIgnoresBlanksSaid :=
  OpenClaim.holds_of_wide 6 Tryd.f6 rfl rfl rfl rfl rfl rfl rfl ⟨rfl, rfl, rfl, rfl, rfl⟩ rfl rfl rfl rfl rfl (by kernel_rfl) Tryd.func6 (by kernel_rfl)
    (of_decide_eq_true (by kernel_rfl)) (by unfold Func.isWrapper; first | (rw [if_pos (by decide +kernel)]; kernel_rfl) | (rw [if_neg (by decide +kernel)]; exact ⟨rfl, rfl⟩))
    (fun os started H enc _ => lifted PU os started H enc)
theorem card (PU : ∀ (s : ByteArray) (picks : List Int), (∀ x ∈ picks, (Lit.int .u8 x).wf = true) → ∃ k, PPx.ambidexterlaw11_ParserIgnoresBlanks.f k s picks = some true) : Rows.ParserIgnoresBlanksCardSaid :=
  Claim7.holds_tied_plain_at .later [] [.data, .data, .data, .sentinel, .sentinel, .widerDeep] true (true, "6822103ed093441613754651125a536eb7c88e985074bd3ee2c69459dcd289f4") true
    (over PU) (fun _ h => by cases h) (by kernel_rfl) (fun _ h => by cases h) parserIgnoresBlanks_row_tie rfl ⟨rfl, rfl⟩ (by kernel_rfl) rfl
    (fun f fn hf hfn => by
      obtain rfl : f = 6 := Option.some.inj ((show Tryd.prog.funcNamed "ambidexter/ambidexterlaw11.ParserIgnoresBlanks" = some 6 by kernel_rfl).symm.trans hf) |>.symm
      obtain rfl : fn = Tryd.f6 := (Option.some.inj (Tryd.func6.symm.trans hfn)).symm
      exact ⟨by kernel_rfl, fun j t ht => by
        rw [Tryd.params6] at ht
        have h3 : t = 9 ∨ t = 37 := by
          rcases j with _ | _ | j
          · left; simpa using ht.symm
          · right; simpa using ht.symm
          · simp at ht
        rcases h3 with rfl | rfl
        · exact (show Tryd.prog.wantsStandIn 9 = false by kernel_rfl)
        · exact (show Tryd.prog.wantsStandIn 37 = false by kernel_rfl)⟩)
    (by kernel_rfl)
end Go.Proofs.YtonhcfecfifghaaDoor.parserIgnoresBlanks
namespace Go.Proofs.YtonhcfecfifghaaDoor.PPx
open Go.RowKit Go.Proofs.YtonhcfecfifghaaDoorW.PrintWords Go.Proofs.YtonhcfecfifghaaDoorW.PrintLast Go.Proofs.YtonhcfecfifghaaDoorW.PrintMore
set_option linter.unusedVariables false
section
variable {R : Int → Int → Prop} {fin fin' : Int}
/-- the same tokens at related places -/
inductive TR (R : Int → Int → Prop) : List S44 → List S44 → Prop where
  | nil : TR R [] []
  | cons {t u : S44} {ts us : List S44} : t.f0 = u.f0 → t.f1 = u.f1 → R t.f2 u.f2 → TR R ts us → TR R (t :: ts) (u :: us)
/-- the same fault at related places -/
def ER (R : Int → Int → Prop) (fin fin' : Int) (e e' : Int × Int) : Prop := e.1 = e'.1 ∧ (e.1 = 3 → e.2 = fin ∧ e'.2 = fin') ∧ (e.1 ≠ 3 → R e.2 e'.2)
inductive DR (R : Int → Int → Prop) (fin fin' : Int) : List S35 → List S35 → Prop where
  | nil : DR R fin fin' [] []
  | cons {d e : S35} {ds es : List S35} : ER R fin fin' (d.f0, d.f1) (e.f0, e.f1) → DR R fin fin' ds es → DR R fin fin' (d :: ds) (e :: es)
theorem TR.len {ts us : List S44} (h : TR R ts us) : ts.length = us.length := by
  induction h with
  | nil => rfl
  | cons _ _ _ _ ih => simp [ih]
theorem DR.len {ts us : List S35} (h : DR R fin fin' ts us) : ts.length = us.length := by
  induction h with
  | nil => rfl
  | cons _ _ ih => simp [ih]
theorem DR.snoc {ts us : List S35} {d e : S35} (h : DR R fin fin' ts us) (g : ER R fin fin' (d.f0, d.f1) (e.f0, e.f1)) : DR R fin fin' (ts ++ [d]) (us ++ [e]) := by
  induction h with
  | nil => exact .cons g .nil
  | cons h1 _ ih => exact .cons h1 ih
theorem SimL.snoc {a b : List S55} {x y : S55} (h : SimL a b) (g : SimL [x] [y]) : SimL (a ++ [x]) (b ++ [y]) := by
  induction h with
  | nil => exact g
  | cons h0 h1 h2 h3 h4 h5 hk _ _ ih => exact .cons h0 h1 h2 h3 h4 h5 hk ih
structure SR (R : Int → Int → Prop) (fin fin' : Int) (s s' : Rs) : Prop where
  toks : TR R s.toks s'.toks
  n : s.n = s'.n
  fl : DR R fin fin' s.fl s'.fl
  over : s.over = s'.over
/-- steps that do the same -/
def StR {α : Type} (R : Int → Int → Prop) (fin fin' : Int) (P : α → α → Prop) (r r' : Step α) : Prop := SR R fin fin' r.2 r'.2 ∧ ((∃ a b, r.1 = .ok a ∧ r'.1 = .ok b ∧ P a b) ∨ (∃ e e', r.1 = .error e ∧ r'.1 = .error e' ∧ ER R fin fin' e e'))
theorem take_rel {p : S44 → Bool} (hp : ∀ t u : S44, t.f0 = u.f0 → t.f1 = u.f1 → p t = p u) {s s' : Rs} (h : SR R fin fin' s s') : StR R fin fin' (fun t u => t.f0 = u.f0 ∧ t.f1 = u.f1 ∧ R t.f2 u.f2) (takeS p fin s) (takeS p fin' s') := by
  obtain ⟨ts, n, fl, o⟩ := s
  obtain ⟨us, n', fl', o'⟩ := s'
  obtain ⟨h1, h2, h3, h4⟩ := h
  simp only at h1 h2 h3 h4
  cases h1 with
  | nil => exact ⟨⟨.nil, h2, h3, h4⟩, .inr ⟨_, _, rfl, rfl, rfl, fun _ => ⟨rfl, rfl⟩, fun h => absurd rfl h⟩⟩
  | @cons t u ts us e0 e1 e2 hr =>
    have hc : (t.f0 == 0 || !p t) = (u.f0 == 0 || !p u) := by rw [e0, hp t u e0 e1]
    by_cases c : (t.f0 == 0 || !p t) = true
    · have c' := hc.symm.trans c
      have a1 : takeS p fin ⟨t :: ts, n, fl, o⟩ = (.error (110, t.f2), ⟨t :: ts, n, fl, o⟩) := by simp only [takeS, if_pos c]
      have a2 : takeS p fin' ⟨u :: us, n', fl', o'⟩ = (.error (110, u.f2), ⟨u :: us, n', fl', o'⟩) := by simp only [takeS, if_pos c']
      rw [a1, a2]
      exact ⟨⟨.cons e0 e1 e2 hr, h2, h3, h4⟩, .inr ⟨_, _, rfl, rfl, rfl, (fun h => absurd h (by simp)), fun _ => e2⟩⟩
    · have c' : ¬ (u.f0 == 0 || !p u) = true := by rw [← hc]; exact c
      have a1 : takeS p fin ⟨t :: ts, n, fl, o⟩ = (.ok t, ⟨ts, n, fl, o⟩) := by simp only [takeS, if_neg c]
      have a2 : takeS p fin' ⟨u :: us, n', fl', o'⟩ = (.ok u, ⟨us, n', fl', o'⟩) := by simp only [takeS, if_neg c']
      rw [a1, a2]
      exact ⟨⟨hr, h2, h3, h4⟩, .inl ⟨t, u, rfl, rfl, e0, e1, e2⟩⟩
theorem StR.bind {α β : Type} {P : α → α → Prop} {Q : β → β → Prop} {r r' : Step α} {f f' : α → Rs → Step β} (h : StR R fin fin' P r r') (g : ∀ a b s s', P a b → SR R fin fin' s s' → StR R fin fin' Q (f a s) (f' b s')) : StR R fin fin' Q (r.bind f) (r'.bind f') := by
  obtain ⟨hs, ⟨a, b, ha, hb, hp⟩ | ⟨e, e', he, he', hE⟩⟩ := h
  · rw [Step.bind_ok ha, Step.bind_ok hb]
    exact g a b _ _ hp hs
  · rw [Step.bind_err he, Step.bind_err he']
    exact ⟨hs, .inr ⟨e, e', rfl, rfl, hE⟩⟩
theorem StR.map {α β : Type} {P : α → α → Prop} {Q : β → β → Prop} {r r' : Step α} {f : α → β} (h : StR R fin fin' P r r') (g : ∀ a b, P a b → Q (f a) (f b)) : StR R fin fin' Q (r.map f) (r'.map f) := by
  obtain ⟨hs, ⟨a, b, ha, hb, hp⟩ | ⟨e, e', he, he', hE⟩⟩ := h
  · unfold Step.map
    rw [ha, hb]
    exact ⟨hs, .inl ⟨_, _, rfl, rfl, g a b hp⟩⟩
  · unfold Step.map
    rw [he, he']
    exact ⟨hs, .inr ⟨e, e', rfl, rfl, hE⟩⟩
theorem sign_rel (c : ByteArray) {s s' : Rs} (h : SR R fin fin' s s') : StR R fin fin' (fun _ _ => True) (signS c fin s) (signS c fin' s') := by
  obtain ⟨h1, h2⟩ := take_rel (p := isSign c) (fun t u e0 e1 => by simp only [isSign, e0, e1]) h
  refine ⟨h1, ?_⟩
  rcases h2 with ⟨a, b, ha, hb, _⟩ | h2
  · exact .inl ⟨a, b, ha, hb, trivial⟩
  · exact .inr h2
theorem number_rel {s s' : Rs} (h : SR R fin fin' s s') : StR R fin fin' Eq (numberS fin s) (numberS fin' s') := (take_rel (p := isNumber) (fun t u e0 e1 => by simp only [isNumber, e0]) h).map fun a b hp => by unfold numOf; rw [hp.2.1]
theorem arm_rel {s s' : Rs} (h : SR R fin fin' s s') : StR R fin fin' Eq (armS fin s) (armS fin' s') := (take_rel (p := isArm) (fun t u e0 e1 => by simp only [isArm, e0, e1]) h).map fun a b hp => by unfold armOf; rw [hp.2.1]
theorem name_rel {s s' : Rs} (h : SR R fin fin' s s') : StR R fin fin' Eq (nameS fin s) (nameS fin' s') := (take_rel (p := isNamed) (fun t u e0 e1 => by simp only [isNamed, e0, e1]) h).map fun a b hp => hp.2.1
theorem ok_rel {α : Type} {P : α → α → Prop} {a b : α} {s s' : Rs} (h : SR R fin fin' s s') (hp : P a b) : StR R fin fin' P (.ok a, s) (.ok b, s') := ⟨h, .inl ⟨a, b, rfl, rfl, hp⟩⟩
theorem triple_rel {s s' : Rs} (h : SR R fin fin' s s') : StR R fin fin' Eq (tripleS fin s) (tripleS fin' s') := by
  unfold tripleS
  refine (sign_rel _ h).bind fun _ _ s s' _ h => (number_rel h).bind fun a b s s' hab h => ?_
  subst hab
  unfold tri1
  refine (sign_rel _ h).bind fun _ _ s s' _ h => (number_rel h).bind fun c d s s' hcd h => ?_
  subst hcd
  unfold tri2
  refine (sign_rel _ h).bind fun _ _ s s' _ h => (number_rel h).bind fun e f s s' hef h => ?_
  subst hef
  unfold tri3
  exact (sign_rel _ h).bind fun _ _ s s' _ h => ok_rel h rfl
def OStR {α : Type} (R : Int → Int → Prop) (fin fin' : Int) (P : α → α → Prop) (o o' : Option (Step α)) : Prop := ∀ y, o = some y → ∃ y', o' = some y' ∧ StR R fin fin' P y y'
theorem OStR.obind {α β : Type} {P : α → α → Prop} {Q : β → β → Prop} {r r' : Step α} {f f' : α → Rs → Option (Step β)} (h : StR R fin fin' P r r') (g : ∀ a b s s', P a b → SR R fin fin' s s' → OStR R fin fin' Q (f a s) (f' b s')) : OStR R fin fin' Q (PPx.obind r f) (PPx.obind r' f') := by
  obtain ⟨hs, ⟨a, b, ha, hb, hp⟩ | ⟨e, e', he, he', hE⟩⟩ := h
  · rw [obind_ok ha, obind_ok hb]
    exact g a b _ _ hp hs
  · rw [obind_err he, obind_err he']
    intro y hy
    obtain rfl := Option.some.inj hy
    exact ⟨_, rfl, hs, .inr ⟨e, e', rfl, rfl, hE⟩⟩
/-- statements that are the same, their places apart -/
def XR (x y : S55) : Prop := SimL [x] [y]
theorem semi_rel {x y : S55} (hx : XR x y) {s s' : Rs} (h : SR R fin fin' s s') : OStR R fin fin' XR (semiS fin x s) (semiS fin' y s') := by
  intro z hz
  obtain rfl := Option.some.inj hz
  exact ⟨_, rfl, (sign_rel _ h).bind fun _ _ s s' _ h => ok_rel h hx⟩
theorem XR.of {x y : S55} (h0 : x.f0 = y.f0) (h1 : x.f1 = y.f1) (h2 : x.f2 = y.f2) (h3 : x.f3 = y.f3) (h4 : x.f4 = y.f4) (h5 : x.f5 = y.f5) (h6 : SimL x.f6 y.f6) : XR x y := .cons h0 h1 h2 h3 h4 h5 h6 .nil
def RecR (R : Int → Int → Prop) (fin fin' deep : Int) (rec rec' : Int → Rs → Option (List S55 × Rs)) : Prop := ∀ s s' r, SR R fin fin' s s' → rec (deep + 1) s = some r → ∃ r', rec' (deep + 1) s' = some r' ∧ SimL r.1 r'.1 ∧ SR R fin fin' r.2 r'.2
theorem rest_rel {rec rec' : Int → Rs → Option (List S55 × Rs)} {deep k c c' : Int} (hr : RecR R fin fin' deep rec rec') (hd : 0 ≤ deep) (hd4 : deep ≤ 1000000000) (hc : R c c') {s s' : Rs} (h : SR R fin fin' s s') : OStR R fin fin' XR (restS rec fin deep k c s) (restS rec' fin' deep k c' s') := by
  unfold restS
  by_cases k1 : k = 1
  · rw [if_pos k1, if_pos k1]
    refine OStR.obind (arm_rel h) fun a b s s' hab h => ?_
    subst hab
    refine OStR.obind (triple_rel h) fun q p s s' hqp h => ?_
    subst hqp
    exact semi_rel (by exact XR.of rfl rfl rfl rfl rfl rfl .nil) h
  rw [if_neg k1, if_neg k1]
  by_cases k2 : k = 2
  · rw [if_pos k2, if_pos k2]
    refine OStR.obind (arm_rel h) fun a b s s' hab h => ?_
    subst hab
    exact semi_rel (by exact XR.of rfl rfl rfl rfl rfl rfl .nil) h
  rw [if_neg k2, if_neg k2]
  by_cases k3 : k = 3
  · rw [if_pos k3, if_pos k3]
    refine OStR.obind (arm_rel h) fun a b s s' hab h => ?_
    subst hab
    refine OStR.obind (name_rel h) fun q p s s' hqp h => ?_
    subst hqp
    exact semi_rel (by exact XR.of rfl rfl rfl rfl rfl rfl .nil) h
  rw [if_neg k3, if_neg k3]
  by_cases k4 : k = 4
  · rw [if_pos k4, if_pos k4]
    refine OStR.obind (arm_rel h) fun a b s s' hab h => ?_
    subst hab
    refine OStR.obind (name_rel h) fun q p s s' hqp h => ?_
    subst hqp
    exact semi_rel (by exact XR.of rfl rfl rfl rfl rfl rfl .nil) h
  rw [if_neg k4, if_neg k4]
  by_cases k5 : k = 5
  · rw [if_pos k5, if_pos k5]
    refine OStR.obind (arm_rel h) fun a b s s' hab h => ?_
    subst hab
    refine OStR.obind (name_rel h) fun q p s s' hqp h => ?_
    subst hqp
    exact semi_rel (by exact XR.of rfl rfl rfl rfl rfl rfl .nil) h
  rw [if_neg k5, if_neg k5]
  by_cases k6 : k = 6
  · rw [if_pos k6, if_pos k6]
    refine OStR.obind (number_rel h) fun a b s s' hab h => ?_
    subst hab
    exact semi_rel (by exact XR.of rfl rfl rfl rfl rfl rfl .nil) h
  rw [if_neg k6, if_neg k6]
  by_cases k8 : k = 8
  · rw [if_pos k8, if_pos k8]
    refine OStR.obind (triple_rel h) fun a b s s' hab h => ?_
    subst hab
    refine OStR.obind (triple_rel h) fun q p s s' hqp h => ?_
    subst hqp
    exact semi_rel (by exact XR.of rfl rfl rfl rfl rfl rfl .nil) h
  rw [if_neg k8, if_neg k8]
  by_cases k7 : k = 7
  · rw [if_pos k7, if_pos k7]
    by_cases h4 : deep = 4
    · rw [if_pos h4, if_pos h4]
      intro y hy
      obtain rfl := Option.some.inj hy
      exact ⟨_, rfl, h, .inr ⟨_, _, rfl, rfl, rfl, (fun h => absurd h (by simp)), fun _ => hc⟩⟩
    rw [if_neg h4, if_neg h4]
    refine OStR.obind (name_rel h) fun a b s s' hab h => ?_
    subst hab
    refine OStR.obind (name_rel h) fun q p s s' hqp h => ?_
    subst hqp
    refine OStR.obind (sign_rel _ h) fun _ _ s s' _ h => ?_
    have hw : wrap64 (deep + 1) = deep + 1 := by unfold wrap64; omega
    rw [hw]
    intro y hy
    obtain ⟨r, hr1, hy⟩ := Option.bind_eq_some_iff.1 hy
    obtain ⟨r', hr2, hsim, hS⟩ := hr s s' r h hr1
    obtain rfl := Option.some.inj hy
    rw [hr2]
    exact ⟨_, rfl, (sign_rel _ hS).bind fun _ _ s s' _ h => ok_rel h (by exact XR.of rfl rfl rfl rfl rfl rfl hsim)⟩
  rw [if_neg k7, if_neg k7]
  exact semi_rel (by exact XR.of rfl rfl rfl rfl rfl rfl .nil) h
theorem stmt_rel {rec rec' : Int → Rs → Option (List S55 × Rs)} {deep : Int} (hr : RecR R fin fin' deep rec rec') (hd : 0 ≤ deep) (hd4 : deep ≤ 1000000000) {s s' : Rs} (h : SR R fin fin' s s') : OStR R fin fin' XR (stmtS rec fin deep s) (stmtS rec' fin' deep s') := by
  unfold stmtS
  refine OStR.obind (take_rel (p := isKey) (fun t u e0 e1 => by simp only [isKey, e0, e1]) h) fun t u s s' htu h => ?_
  obtain ⟨e0, e1, e2⟩ := htu
  rw [e1]
  exact rest_rel hr hd hd4 e2 h
theorem skip_rel {ts us : List S44} (h : TR R ts us) : TR R (skipS ts) (skipS us) := by
  induction h with
  | nil => exact .nil
  | @cons t u ts us e0 e1 e2 hr ih =>
    have h1 : ∀ c, isSign c t = isSign c u := fun c => by simp only [isSign, e0, e1]
    unfold skipS
    rw [h1, h1]
    split
    · exact hr
    · split
      · exact .cons e0 e1 e2 hr
      · exact ih
theorem tell_rel {s s' : Rs} {e e' : Int × Int} (h : SR R fin fin' s s') (he : ER R fin fin' e e') {us us' : List S44} (hu : TR R us us') : SR R fin fin' { tellS ⟨e.1, e.2⟩ s with toks := us } { tellS ⟨e'.1, e'.2⟩ s' with toks := us' } := by
  have hd := h.fl.snoc (d := ⟨e.1, e.2⟩) (e := ⟨e'.1, e'.2⟩) he
  refine ⟨hu, h.n, hd, ?_⟩
  simp only [tellS, List.length_append, List.length_cons, List.length_nil]
  rw [h.over, he.1, h.fl.len]
theorem one_rel {rec rec' : Int → Rs → Option (List S55 × Rs)} {deep : Int} (hr : RecR R fin fin' deep rec rec') (hd : 0 ≤ deep) (hd4 : deep ≤ 1000000000) {s s' : Rs} (h : SR R fin fin' s s') {x : Option S55} {s1 : Rs} (ho : oneS rec fin deep s = some (x, s1)) :
    ∃ x' s1', oneS rec' fin' deep s' = some (x', s1') ∧ SR R fin fin' s1 s1' ∧ ((x = none ∧ x' = none) ∨ ∃ a b, x = some a ∧ x' = some b ∧ XR a b) := by
  unfold oneS at ho ⊢
  obtain ⟨⟨y, s2⟩, hy, ho⟩ := Option.bind_eq_some_iff.1 ho
  obtain ⟨⟨y', s2'⟩, hy', hS, hrel⟩ := stmt_rel hr hd hd4 h _ hy
  rw [hy']
  simp only [Option.bind_some]
  simp only at hS hrel
  rcases hrel with ⟨a, b, ha, hb, hab⟩ | ⟨e, e', he, he', hE⟩
  · subst ha hb
    simp only [Option.some.injEq, Prod.mk.injEq] at ho ⊢
    obtain ⟨ho1, rfl⟩ := ho
    refine ⟨_, s2', ⟨rfl, rfl⟩, hS, ?_⟩
    rw [← ho1, hS.over]
    by_cases c : s2'.over = true
    · rw [if_pos c, if_pos c]; exact .inl ⟨rfl, rfl⟩
    · rw [if_neg c, if_neg c]; exact .inr ⟨a, b, rfl, rfl, hab⟩
  · subst he he'
    simp only at ho ⊢
    rw [hS.over] at ho
    by_cases c : s2'.over = true
    · rw [if_pos c] at ho ⊢
      simp only [Option.some.injEq, Prod.mk.injEq] at ho
      obtain ⟨rfl, rfl⟩ := ho
      exact ⟨none, s2', rfl, hS, .inl ⟨rfl, rfl⟩⟩
    · rw [if_neg c] at ho ⊢
      rw [hS.fl.len, hS.toks.len] at ho
      split at ho
      · cases ho
      · rename_i hg
        rw [if_neg hg]
        simp only [Option.some.injEq, Prod.mk.injEq] at ho
        obtain ⟨rfl, rfl⟩ := ho
        exact ⟨none, _, rfl, tell_rel hS hE (skip_rel hS.toks), .inl ⟨rfl, rfl⟩⟩
/-- related tokens: the same statements, and the same faults at related places -/
theorem stmts_rel : ∀ (k : Nat) (deep : Int) (s s' : Rs) (out out' : List S55) (r : List S55 × Rs), SR R fin fin' s s' → SimL out out' → 0 ≤ deep → deep + k ≤ 1000000000 → stmtsS fin k deep s out = some r → ∃ r', stmtsS fin' k deep s' out' = some r' ∧ SimL r.1 r'.1 ∧ SR R fin fin' r.2 r'.2
  | 0, deep, s, s', out, out', r => fun _ _ _ _ h => by simp [stmtsS] at h
  | k + 1, deep, s, s', out, out', r => fun hS ho hd hd4 h => by
    have ih := stmts_rel k
    rw [stmtsS] at h
    rw [stmtsS]
    have hemp : (s'.over = true ∨ s'.toks = []) ↔ (s.over = true ∨ s.toks = []) := by
      rw [hS.over]
      have := hS.toks.len
      constructor
      · rintro (h | h)
        · exact .inl h
        · rw [h] at this; exact .inr (List.eq_nil_of_length_eq_zero this)
      · rintro (h | h)
        · exact .inl h
        · rw [h] at this; exact .inr (List.eq_nil_of_length_eq_zero this.symm)
    by_cases c1 : s.over = true ∨ s.toks = []
    · rw [if_pos c1] at h
      rw [if_pos (hemp.2 c1)]
      obtain rfl := Option.some.inj h
      exact ⟨_, rfl, ho, hS⟩
    rw [if_neg c1] at h
    rw [if_neg (fun h => c1 (hemp.1 h))]
    obtain ⟨t, u, ts, us, hts, hus, e0, e1, e2, etl⟩ : ∃ t u ts us, s.toks = t :: ts ∧ s'.toks = u :: us ∧ t.f0 = u.f0 ∧ t.f1 = u.f1 ∧ R t.f2 u.f2 ∧ TR R ts us := by
      have := hS.toks
      revert this
      cases h1 : s.toks with
      | nil => exact absurd (.inr h1) c1
      | cons t ts =>
        intro h2
        cases h3 : s'.toks with
        | nil => rw [h3] at h2; cases h2
        | cons u us =>
          rw [h3] at h2
          cases h2 with
          | cons a b c d => exact ⟨t, u, ts, us, rfl, rfl, a, b, c, d⟩
    have hl1 : lookS fin s.toks = t := by rw [hts]; rfl
    have hl2 : lookS fin' s'.toks = u := by rw [hus]; rfl
    have hsg : isSign ⟨#[125]⟩ (lookS fin s.toks) = isSign ⟨#[125]⟩ (lookS fin' s'.toks) := by rw [hl1, hl2]; simp only [isSign, e0, e1]
    rw [← hsg]
    by_cases c2 : isSign ⟨#[125]⟩ (lookS fin s.toks) = true
    · rw [if_pos c2] at h ⊢
      by_cases c3 : deep > 0
      · rw [if_pos c3] at h ⊢
        obtain rfl := Option.some.inj h
        exact ⟨_, rfl, ho, hS⟩
      rw [if_neg c3] at h ⊢
      rw [hS.fl.len] at h
      split at h
      · cases h
      · rename_i hg
        rw [if_neg hg]
        have hS' := tell_rel (e := (110, (lookS fin s.toks).f2)) (e' := (110, (lookS fin' s'.toks).f2)) hS ⟨rfl, (fun h => absurd h (by simp)), fun _ => by rw [hl1, hl2]; exact e2⟩ (us := s.toks.tail) (us' := s'.toks.tail) (by rw [hts, hus]; exact etl)
        exact ih deep _ _ out out' r hS' ho hd (by omega) h
    rw [if_neg c2] at h ⊢
    rw [hS.n] at h
    by_cases c4 : wrap64 (s'.n + 1) > 64
    · rw [if_pos c4] at h ⊢
      rw [hS.fl.len] at h
      split at h
      · cases h
      · rename_i hg
        rw [if_neg hg]
        obtain rfl := Option.some.inj h
        refine ⟨_, rfl, ho, hS.toks, rfl, hS.fl.snoc ⟨rfl, (fun h => absurd h (by simp)), fun _ => ?_⟩, rfl⟩
        show R (lookS fin s.toks).f2 (lookS fin' s'.toks).f2
        rw [hl1, hl2]; exact e2
    rw [if_neg c4] at h ⊢
    rw [ho.len] at h
    split at h
    · cases h
    rename_i hg
    rw [if_neg hg]
    obtain ⟨⟨x, s1⟩, hx, h⟩ := Option.bind_eq_some_iff.1 h
    have hrec : RecR R fin fin' deep (fun d s => stmtsS fin k d s []) (fun d s => stmtsS fin' k d s []) := by
      intro a a' r hA hr
      exact ih (deep + 1) a a' [] [] r hA .nil (by omega) (by omega) hr
    obtain ⟨x', s1', hx', hS1, hrel⟩ := one_rel hrec hd (by omega) (s := { s with n := wrap64 (s'.n + 1) }) (s' := { s' with n := wrap64 (s'.n + 1) }) ⟨hS.toks, rfl, hS.fl, hS.over⟩ hx
    rw [hx']
    simp only [Option.bind_some]
    simp only at h
    rcases hrel with ⟨rfl, rfl⟩ | ⟨a, b, rfl, rfl, hab⟩
    · exact ih deep s1 s1' out out' r hS1 ho hd (by omega) h
    · exact ih deep s1 s1' _ _ r hS1 (ho.snoc hab) hd (by omega) h
end
end Go.Proofs.YtonhcfecfifghaaDoor.PPx
namespace Go.Proofs.YtonhcfecfifghaaDoor.PPx
open Go.RowKit Go.Proofs.YtonhcfecfifghaaDoorW.PrintWords Go.Proofs.YtonhcfecfifghaaDoorW.PrintLast Go.Proofs.YtonhcfecfifghaaDoorW.PrintMore
set_option linter.unusedVariables false
theorem nl_bt (s : ByteArray) : bt (s ++ ⟨#[10]⟩) s.size = 10 := by
  rw [bt_right (Int.le_refl _) (by show (s.size : Int) < s.size + 1; omega), Int.sub_self]
  rfl
theorem nl_size (s : ByteArray) : (s ++ ⟨#[10]⟩ : ByteArray).size = s.size + 1 := by rw [ByteArray.size_append]; rfl
theorem nl_at (s : ByteArray) : at_ (s ++ ⟨#[10]⟩) s.size = 5 := by
  rw [at_in (by rw [nl_size]; omega), nl_bt]
  decide +kernel
theorem nl_move (s : ByteArray) : Move s (s ++ ⟨#[10]⟩) 0 0 s.size := by
  have := nl_size s
  refine ⟨by omega, by omega, by omega, by omega, fun x h0 h1 => ?_⟩
  rw [Int.add_zero, bt_left h0 h1]
/-- a line that ends at a line feed -/
theorem nl_scan {s : ByteArray} {x : Int} (h0 : 0 ≤ x) (h1 : x < (s.size : Int)) : scanTo (lineAt (s ++ ⟨#[10]⟩)) (s ++ ⟨#[10]⟩ : ByteArray).size x = scanTo (lineAt s) s.size x := by
  have hr := scanTo_range (lineAt s) s.size x (by omega)
  obtain ⟨a, b⟩ := scanTo_spec (lineAt s) s.size x
  have hsz := nl_size s
  have M := nl_move s
  generalize scanTo (lineAt s) s.size x = m at *
  refine scanTo_eq hr.1 (by omega) (fun y hy hy2 => ?_) (fun hlt => ?_)
  · have := M.line (x := y) (by omega) (by omega)
    rw [Int.add_zero] at this
    rw [this]; exact a y hy hy2
  · by_cases e : m = s.size
    · rw [e]; unfold lineAt; rw [nl_bt]; rfl
    · have := M.line (x := m) (by omega) (by omega)
      rw [Int.add_zero] at this
      rw [this]; exact b (by omega)
theorem nl_gap {s : ByteArray} {i j : Int} (h : Gap s i j) : 0 ≤ i → i ≤ (s.size : Int) → j = s.size → Gap (s ++ ⟨#[10]⟩) i ((s.size : Int) + 1) := by
  have M := nl_move s
  induction h with
  | here i =>
    intro _ _ hj
    subst hj
    exact .blank (nl_at s) (.here _)
  | @blank i j h5 hg ih =>
    intro h0 h1 hj
    have hlt := (at_some (by decide) h5).1
    have hx := M.at (x := i) (by omega) hlt
    rw [Int.add_zero] at hx
    exact .blank (by rw [hx, h5]) (ih (by omega) (by omega) hj)
  | @note i m j h6 hm hg ih =>
    intro h0 h1 hj
    have hlt := (at_some (by decide) h6).1
    have hx := M.at (x := i) (by omega) hlt
    rw [Int.add_zero] at hx
    have hr := scanTo_range (lineAt s) s.size i (by omega)
    exact .note (by rw [hx, h6]) (by rw [nl_scan h0 hlt]; exact hm) (ih (by omega) (by omega) hj)
/-- a text behind which a line feed stands: its tokens, wherever it stands -/
theorem lex_nl {s : ByteArray} {ts : List S44} (hs : s.size ≤ 20000) (h : lexB s = (ts, 0, 0)) : LexT (s ++ ⟨#[10]⟩) false ts := by
  obtain ⟨us, j, hp, h0, h1, hc⟩ := whole s hs
  have hu : us = ts ∧ skipTo s j = s.size := by
    rcases hc with ⟨hl, hk⟩ | ⟨hl, _, _⟩
    · rw [h] at hl; exact ⟨(congrArg Prod.fst hl).symm, hk⟩
    · rw [h] at hl; exact absurd (congrArg (fun p => p.2.1) hl) (by simp)
  obtain ⟨rfl, hk⟩ := hu
  have M := nl_move s
  have hsz := nl_size s
  have p1 := M.path hp (Int.le_refl _) (Int.le_refl _) (by omega) h1 (fun _ => by rw [Int.add_zero]; exact soft_of (.inl (nl_at s)))
  rw [moved_zero] at p1
  simp only [Int.add_zero] at p1
  obtain ⟨hg, -, -⟩ := skip_gap s j h0 h1
  rw [hk] at hg
  have g1 := nl_gap hg h0 h1 rfl
  intro u i hh _
  have MU := hh.move
  have p2 := MU.path p1 (Int.le_refl _) (Int.le_refl _) (by omega) (by omega) (fun e => by omega)
  have g2 := MU.gap g1 h0 (by omega) (.inr (.inr (fun x hx hx2 h6 => by
    have hxs : x < (s.size : Int) := by
      by_cases e : x = s.size
      · rw [e, nl_at] at h6; exact absurd h6 (by decide)
      · omega
    rw [nl_scan hx hxs]
    have := scanTo_range (lineAt s) s.size x (by omega)
    omega)))
  refine ⟨j + i, by simpa using p2, ?_⟩
  rw [hsz]
  have e : i + ((s.size + 1 : Nat) : Int) = (s.size : Int) + 1 + i := by omega
  rw [e]
  exact g2
/-- what stands at the end of a text -/
theorem lex_tail {u v : ByteArray} {ts us : List S44} (h : LexT u false ts) (hv : lexB v = (us, 0, 0)) (hs : (u ++ v).size ≤ 20000) : lexB (u ++ v) = (ts ++ moved u.size us, 0, 0) := by
  have hsz : (u ++ v).size = u.size + v.size := ByteArray.size_append
  obtain ⟨ws, j, hp, h0, h1, hc⟩ := whole v (by omega)
  have hu : ws = us ∧ skipTo v j = v.size := by
    rcases hc with ⟨hl, hk⟩ | ⟨hl, _, _⟩
    · rw [hv] at hl; exact ⟨(congrArg Prod.fst hl).symm, hk⟩
    · rw [hv] at hl; exact absurd (congrArg (fun p => p.2.1) hl) (by simp)
  obtain ⟨rfl, hk⟩ := hu
  have HU : Holds (u ++ v) 0 (u ++ v) := Holds.self _
  have h1' := h (u ++ v) 0 HU.left (fun e => by cases e)
  have MV := HU.right.move
  rw [Int.zero_add] at MV h1'
  rw [moved_zero] at h1'
  have p2 := MV.path hp (Int.le_refl _) (Int.le_refl _) (by omega) h1 (fun _ => soft_end (by omega))
  rw [Int.zero_add] at p2
  obtain ⟨hg, -, -⟩ := skip_gap v j h0 h1
  rw [hk] at hg
  have g2 := MV.gap hg h0 (Int.le_refl _) (.inr (.inl (by omega)))
  have r2 : Runs (u ++ v) u.size (moved u.size ws) ((v.size : Int) + u.size) := ⟨_, p2, g2⟩
  obtain ⟨q, hq, hqg⟩ := Runs.append (Int.le_refl _) (by omega) h1' r2
  have hql := hq.le (Int.le_refl _) (by omega)
  refine lexB_ok hs hq ?_
  rw [show (v.size : Int) + u.size = (u ++ v).size by omega] at hqg
  rw [skip_end hql.1 hqg]
  omega
end Go.Proofs.YtonhcfecfifghaaDoor.PPx
namespace Go.Proofs.YtonhcfecfifghaaDoor.PPx
open Go.RowKit Go.Proofs.YtonhcfecfifghaaDoorW.PrintWords Go.Proofs.YtonhcfecfifghaaDoorW.PrintLast Go.Proofs.YtonhcfecfifghaaDoorW.PrintMore
set_option linter.unusedVariables false
/-- the tokens stand one behind another, ahead of fin -/
def Sorted (fin : Int) : List S44 → Prop
  | [] => True
  | t :: ts => (∀ u ∈ ts, t.f2 < u.f2) ∧ t.f2 < fin ∧ Sorted fin ts
theorem Sorted.mem {fin : Int} : ∀ {ts : List S44}, Sorted fin ts → ∀ t ∈ ts, t.f2 < fin
  | [], _, t, h => by cases h
  | x :: ts, h, t, ht => by
    rcases List.mem_cons.1 ht with rfl | ht
    · exact h.2.1
    · exact h.2.2.mem t ht
theorem Sorted.suf {fin : Int} : ∀ {ts us : List S44}, Sorted fin ts → us <:+ ts → Sorted fin us ∧ (lookS fin ts).f2 ≤ (lookS fin us).f2
  | [], us, h, hs => by
    obtain rfl := List.suffix_nil.1 hs
    exact ⟨h, Int.le_refl _⟩
  | t :: ts, us, h, hs => by
    rcases List.suffix_cons_iff.1 hs with rfl | hs
    · exact ⟨h, Int.le_refl _⟩
    · obtain ⟨a, b⟩ := h.2.2.suf hs
      refine ⟨a, ?_⟩
      have h1 : t.f2 ≤ (lookS fin ts).f2 := by
        cases ts with
        | nil => exact Int.le_of_lt h.2.1
        | cons u ts => exact Int.le_of_lt (h.1 u List.mem_cons_self)
      show t.f2 ≤ _
      omega
theorem Sorted.head {fin : Int} {t : S44} {ts : List S44} (h : Sorted fin (t :: ts)) : t.f2 < (lookS fin ts).f2 := by
  cases ts with
  | nil => exact h.2.1
  | cons u ts => exact h.1 u List.mem_cons_self
/-- a step's error: the end, or the token at hand -/
def ErrT {α : Type} (fin : Int) (r : Step α) : Prop := ∀ e, r.1 = .error e → (e = (3, fin) ∧ r.2.toks = []) ∨ (e.1 = 110 ∧ ∃ t us, r.2.toks = t :: us ∧ e.2 = t.f2)
theorem take_err (p : S44 → Bool) (fin : Int) (s : Rs) : ErrT fin (takeS p fin s) := by
  obtain ⟨ts, n, fl, o⟩ := s
  intro e h
  cases ts with
  | nil =>
    simp only [takeS, Except.error.injEq] at h
    exact .inl ⟨h.symm, rfl⟩
  | cons t ts =>
    by_cases c : (t.f0 == 0 || !p t) = true
    · have e' : takeS p fin ⟨t :: ts, n, fl, o⟩ = (.error (110, t.f2), ⟨t :: ts, n, fl, o⟩) := by simp only [takeS, if_pos c]
      rw [e'] at h ⊢
      obtain rfl := Except.error.inj h
      exact .inr ⟨rfl, t, ts, rfl, rfl⟩
    · have e' : takeS p fin ⟨t :: ts, n, fl, o⟩ = (.ok t, ⟨ts, n, fl, o⟩) := by simp only [takeS, if_neg c]
      rw [e'] at h
      simp at h
theorem ErrT.bind {α β : Type} {fin : Int} {r : Step α} {f : α → Rs → Step β} (h : ErrT fin r) (g : ∀ a s, ErrT fin (f a s)) : ErrT fin (r.bind f) := by
  rcases bind_inv (r := r) (f := f) with ⟨a, ha, e⟩ | ⟨e', he, e⟩
  · rw [e]; exact g a _
  · rw [e]
    intro e2 h2
    obtain rfl := Except.error.inj h2
    exact h _ he
theorem ErrT.map {α β : Type} {fin : Int} {r : Step α} {f : α → β} (h : ErrT fin r) : ErrT fin (r.map f) := by
  intro e he
  unfold Step.map at he ⊢
  cases hr : r.1 with
  | ok a => rw [hr] at he; simp at he
  | error e' =>
    rw [hr] at he
    obtain rfl : e' = e := by simpa using he
    exact h _ hr
theorem err_ok {α : Type} {fin : Int} (a : α) (s : Rs) : ErrT fin ((.ok a, s) : Step α) := fun e h => by simp at h
theorem sign_err (c : ByteArray) (fin : Int) (s : Rs) : ErrT fin (signS c fin s) := take_err _ fin s
theorem number_err (fin : Int) (s : Rs) : ErrT fin (numberS fin s) := (take_err _ fin s).map
theorem arm_err (fin : Int) (s : Rs) : ErrT fin (armS fin s) := (take_err _ fin s).map
theorem name_err (fin : Int) (s : Rs) : ErrT fin (nameS fin s) := (take_err _ fin s).map
theorem triple_err (fin : Int) (s : Rs) : ErrT fin (tripleS fin s) := by
  unfold tripleS
  refine (sign_err _ fin s).bind fun _ s => (number_err fin s).bind fun a s => ?_
  unfold tri1
  refine (sign_err _ fin s).bind fun _ s => (number_err fin s).bind fun b s => ?_
  unfold tri2
  refine (sign_err _ fin s).bind fun _ s => (number_err fin s).bind fun c s => ?_
  unfold tri3
  exact (sign_err _ fin s).bind fun _ s => err_ok _ _
def OErrT {β : Type} (fin : Int) (o : Option (Step β)) : Prop := ∀ y, o = some y → ErrT fin y
theorem OErrT.obind {α β : Type} {fin : Int} {r : Step α} {f : α → Rs → Option (Step β)} (h : ErrT fin r) (g : ∀ a s, OErrT fin (f a s)) : OErrT fin (PPx.obind r f) := by
  intro y hy
  rcases obind_inv hy with ⟨a, ha, e⟩ | ⟨e', he, e⟩
  · exact g a _ y e
  · rw [e]
    intro e2 h2
    obtain rfl := Except.error.inj h2
    exact h _ he
theorem semi_errT (fin : Int) (x : S55) (s : Rs) : OErrT fin (semiS fin x s) := by
  intro y hy
  obtain rfl := Option.some.inj hy
  exact (sign_err _ fin s).bind fun _ s => err_ok _ _
theorem rest_err (rec : Int → Rs → Option (List S55 × Rs)) (fin deep k c : Int) (s : Rs) (h7 : k ≠ 7) : OErrT fin (restS rec fin deep k c s) := by
  unfold restS
  by_cases k1 : k = 1
  · rw [if_pos k1]; exact OErrT.obind (arm_err _ _) fun a s => OErrT.obind (triple_err _ _) fun q s => semi_errT _ _ _
  rw [if_neg k1]
  by_cases k2 : k = 2
  · rw [if_pos k2]; exact OErrT.obind (arm_err _ _) fun a s => semi_errT _ _ _
  rw [if_neg k2]
  by_cases k3 : k = 3
  · rw [if_pos k3]; exact OErrT.obind (arm_err _ _) fun a s => OErrT.obind (name_err _ _) fun q s => semi_errT _ _ _
  rw [if_neg k3]
  by_cases k4 : k = 4
  · rw [if_pos k4]; exact OErrT.obind (arm_err _ _) fun a s => OErrT.obind (name_err _ _) fun q s => semi_errT _ _ _
  rw [if_neg k4]
  by_cases k5 : k = 5
  · rw [if_pos k5]; exact OErrT.obind (arm_err _ _) fun a s => OErrT.obind (name_err _ _) fun q s => semi_errT _ _ _
  rw [if_neg k5]
  by_cases k6 : k = 6
  · rw [if_pos k6]; exact OErrT.obind (number_err _ _) fun a s => semi_errT _ _ _
  rw [if_neg k6]
  by_cases k8 : k = 8
  · rw [if_pos k8]; exact OErrT.obind (triple_err _ _) fun q s => OErrT.obind (triple_err _ _) fun q s => semi_errT _ _ _
  rw [if_neg k8, if_neg h7]
  exact semi_errT _ _ _
/-- what a plain statement bears: its kind and its place -/
def AtKind (k c : Int) (o : Option (Step S55)) : Prop := ∀ y x, o = some y → y.1 = .ok x → x.f0 = k ∧ x.f7 = c ∧ x.f6 = []
theorem AtKind.obind {α : Type} {k c : Int} {r : Step α} {f : α → Rs → Option (Step S55)} (g : ∀ a s, AtKind k c (f a s)) : AtKind k c (PPx.obind r f) := by
  intro y x hy hx
  rcases obind_inv hy with ⟨a, ha, e⟩ | ⟨e', he, e⟩
  · exact g a _ y x e hx
  · rw [e] at hx; simp at hx
theorem semi_kind (fin : Int) (x : S55) (s : Rs) (h6 : x.f6 = []) : AtKind x.f0 x.f7 (semiS fin x s) := by
  intro y z hy hz
  obtain rfl := Option.some.inj hy
  rcases bind_inv (r := signS ⟨#[59]⟩ fin s) (f := fun _ s => (.ok x, s)) with ⟨a, ha, e⟩ | ⟨e', he, e⟩
  · rw [e] at hz
    obtain rfl := Except.ok.inj hz
    exact ⟨rfl, rfl, h6⟩
  · rw [e] at hz; simp at hz
theorem rest_kind (rec : Int → Rs → Option (List S55 × Rs)) (fin deep k c : Int) (s : Rs) (h7 : k ≠ 7) : AtKind k c (restS rec fin deep k c s) := by
  unfold restS
  by_cases k1 : k = 1
  · rw [if_pos k1]; subst k1; exact AtKind.obind fun a s => AtKind.obind fun q s => semi_kind _ _ _ rfl
  rw [if_neg k1]
  by_cases k2 : k = 2
  · rw [if_pos k2]; subst k2; exact AtKind.obind fun a s => semi_kind _ _ _ rfl
  rw [if_neg k2]
  by_cases k3 : k = 3
  · rw [if_pos k3]; subst k3; exact AtKind.obind fun a s => AtKind.obind fun q s => semi_kind _ _ _ rfl
  rw [if_neg k3]
  by_cases k4 : k = 4
  · rw [if_pos k4]; subst k4; exact AtKind.obind fun a s => AtKind.obind fun q s => semi_kind _ _ _ rfl
  rw [if_neg k4]
  by_cases k5 : k = 5
  · rw [if_pos k5]; subst k5; exact AtKind.obind fun a s => AtKind.obind fun q s => semi_kind _ _ _ rfl
  rw [if_neg k5]
  by_cases k6 : k = 6
  · rw [if_pos k6]; subst k6; exact AtKind.obind fun a s => semi_kind _ _ _ rfl
  rw [if_neg k6]
  by_cases k8 : k = 8
  · rw [if_pos k8]; subst k8; exact AtKind.obind fun q s => AtKind.obind fun q s => semi_kind _ _ _ rfl
  rw [if_neg k8, if_neg h7]
  exact semi_kind _ (xOf k c) _ rfl
/-- a fault at a token -/
def Good (T : List S44) (d : S35) : Prop := (d.f0 = 110 ∨ d.f0 = 2) ∧ ∃ t ∈ T, t.f2 = d.f1
/-- the faults told so far: in order, none behind the token at hand; the last may be the text's end, if reading has stopped -/
structure FI (T : List S44) (fin : Int) (s : Rs) : Prop where
  le : ∀ d ∈ s.fl, d.f1 ≤ (lookS fin s.toks).f2
  ord : s.fl.Pairwise fun a b => a.f1 ≤ b.f1
  good : ∃ a b, s.fl = a ++ b ∧ (∀ d ∈ a, Good T d) ∧ (b = [] ∨ (s.over = true ∧ b = [⟨3, fin⟩]))
theorem FI.sub {T : List S44} {fin : Int} {s s' : Rs} (h : FI T fin s) (hs : Sorted fin s.toks) (g : Sub s s') : FI T fin s' := by
  obtain ⟨g1, g2, g3, g4⟩ := g
  have := (hs.suf g1).2
  refine ⟨fun d hd => ?_, by rw [g3]; exact h.ord, by rw [g3, g4]; exact h.good⟩
  rw [g3] at hd
  have := h.le d hd
  omega
/-- an error that may be told next -/
def ErrG (T : List S44) (fin : Int) (s : Rs) (e : Int × Int) : Prop := (e = (3, fin) ∧ s.toks = []) ∨ ((e.1 = 110 ∨ e.1 = 2) ∧ (∃ t ∈ T, t.f2 = e.2) ∧ (∀ d ∈ s.fl, d.f1 ≤ e.2) ∧ e.2 ≤ (lookS fin s.toks).f2)
theorem ErrG.of {T : List S44} {fin : Int} {s : Rs} {e : Int × Int} (hF : FI T fin s) (hT : s.toks <:+ T) (h : (e = (3, fin) ∧ s.toks = []) ∨ (e.1 = 110 ∧ ∃ t us, s.toks = t :: us ∧ e.2 = t.f2)) : ErrG T fin s e := by
  rcases h with h | ⟨h1, t, us, h2, h3⟩
  · exact .inl h
  · refine .inr ⟨.inl h1, ⟨t, hT.subset (by rw [h2]; exact List.mem_cons_self), h3.symm⟩, fun d hd => ?_, ?_⟩
    · have := hF.le d hd
      rw [h2] at this
      rw [h3]
      exact this
    · rw [h2, h3]
      exact Int.le_refl _
/-- an error is told, and the rest of its statement is skipped -/
theorem FI.tell {T : List S44} {fin : Int} {s : Rs} {e : Int × Int} (hF : FI T fin s) (hs : Sorted fin s.toks) (ho : s.over = false) (h : ErrG T fin s e) {us : List S44} (hu : us <:+ s.toks) : FI T fin { tellS ⟨e.1, e.2⟩ s with toks := us } := by
  have hlk := (hs.suf hu).2
  have hle : ∀ d ∈ s.fl, d.f1 ≤ e.2 := by
    rcases h with ⟨rfl, h0⟩ | ⟨_, _, h, _⟩
    · intro d hd
      have := hF.le d hd
      rw [h0] at this
      exact this
    · exact h
  have hel : e.2 ≤ (lookS fin us).f2 := by
    rcases h with ⟨rfl, h0⟩ | ⟨_, _, _, h⟩
    · rw [h0] at hu
      obtain rfl := List.suffix_nil.1 hu
      exact Int.le_refl _
    · omega
  obtain ⟨a, b, hab, ha, hb⟩ := hF.good
  have hb0 : b = [] := by
    rcases hb with hb | ⟨hb, _⟩
    · exact hb
    · rw [ho] at hb; cases hb
  subst hb0
  rw [List.append_nil] at hab
  refine ⟨fun d hd => ?_, ?_, ?_⟩
  · simp only [tellS, List.mem_append, List.mem_singleton] at hd
    rcases hd with hd | rfl
    · have := hF.le d hd
      show d.f1 ≤ (lookS fin us).f2
      omega
    · exact hel
  · show (s.fl ++ [(⟨e.1, e.2⟩ : S35)]).Pairwise _
    rw [List.pairwise_append]
    exact ⟨hF.ord, by simp, fun x hx y hy => by rw [List.mem_singleton.1 hy]; exact hle x hx⟩
  · rcases h with ⟨rfl, h0⟩ | ⟨h1, h2, _, _⟩
    · refine ⟨s.fl, [⟨3, fin⟩], rfl, by rw [hab]; exact ha, .inr ⟨?_, rfl⟩⟩
      simp [tellS]
    · refine ⟨s.fl ++ [⟨e.1, e.2⟩], [], by simp [tellS], fun d hd => ?_, .inl rfl⟩
      rcases List.mem_append.1 hd with hd | hd
      · exact ha d (by rw [← hab]; exact hd)
      · rw [List.mem_singleton.1 hd]; exact ⟨h1, h2⟩
/-- statements at keywords, one behind another -/
inductive PlacedL (T : List S44) : Int → List S55 → Int → Prop where
  | nil {a b : Int} : a ≤ b → PlacedL T a [] b
  | cons {a b m : Int} {x : S55} {l : List S55} : a ≤ x.f7 → (∃ t ∈ T, t.f2 = x.f7 ∧ wordIx t.f1 = x.f0 ∧ 0 ≤ x.f0 ∧ x.f0 ≤ 8) → PlacedL T (x.f7 + 1) x.f6 m → PlacedL T m l b → PlacedL T a (x :: l) b
theorem PlacedL.weak {T : List S44} {a b : Int} {l : List S55} (h : PlacedL T a l b) : a ≤ b ∧ ∀ a' b', a' ≤ a → b ≤ b' → PlacedL T a' l b' := by
  induction h with
  | nil h => exact ⟨h, fun a' b' h1 h2 => .nil (by omega)⟩
  | cons h1 h2 h3 h4 ih3 ih4 =>
    refine ⟨by have := ih3.1; have := ih4.1; omega, fun a' b' g1 g2 => ?_⟩
    exact .cons (by omega) h2 h3 (ih4.2 _ _ (Int.le_refl _) g2)
theorem PlacedL.append {T : List S44} {a m b : Int} {l l' : List S55} (h : PlacedL T a l m) (g : PlacedL T m l' b) : PlacedL T a (l ++ l') b := by
  induction h with
  | nil h => exact g.weak.2 _ _ h (Int.le_refl _)
  | cons h1 h2 h3 _ _ ih => exact .cons h1 h2 h3 (ih g)
def RecF (T : List S44) (fin deep : Int) (rec : Int → Rs → Option (List S55 × Rs)) : Prop := ∀ s r, rec (deep + 1) s = some r → s.toks <:+ T → TokOK s.toks → Inv s → FI T fin s → s.over = false → deep ≠ 4 → FI T fin r.2 ∧ r.2.toks <:+ s.toks ∧ PlacedL T (lookS fin s.toks).f2 r.1 (lookS fin r.2.toks).f2
theorem stmt_off {rec : Int → Rs → Option (List S55 × Rs)} {T : List S44} {fin deep : Int} (hT : Sorted fin T) (hr : RecF T fin deep rec) (hd : 0 ≤ deep) (hd4 : deep ≤ 4) {s : Rs} (hsT : s.toks <:+ T) (hs : TokOK s.toks) (hI : Inv s) (hF : FI T fin s) (ho : s.over = false) {y : Step S55} (h : stmtS rec fin deep s = some y) :
    FI T fin y.2 ∧ y.2.toks <:+ s.toks ∧ (∀ e, y.1 = .error e → ErrG T fin y.2 e) ∧ ∀ x, y.1 = .ok x → ∃ m, (lookS fin s.toks).f2 ≤ x.f7 ∧ (∃ t ∈ T, t.f2 = x.f7 ∧ wordIx t.f1 = x.f0 ∧ 0 ≤ x.f0 ∧ x.f0 ≤ 8) ∧ PlacedL T (x.f7 + 1) x.f6 m ∧ m ≤ (lookS fin y.2.toks).f2 := by
  have hS := (hT.suf hsT).1
  have htk := take_sub isKey fin s
  have hF1 := hF.sub hS htk.1
  have hT1 := htk.1.1.trans hsT
  unfold stmtS at h
  rcases obind_inv h with ⟨t, ht, h⟩ | ⟨e, he, rfl⟩
  case inr => exact ⟨hF1, htk.1.1, fun e' he' => by obtain rfl := Except.error.inj he'; exact ErrG.of hF1 hT1 (take_err isKey fin s e he), fun x hx => by simp at hx⟩
  obtain ⟨hm, hp, hn0⟩ := htk.2 t ht
  have hk : t.f0 = 1 ∧ isWord t.f1 = true := by simpa [isKey] using hp
  have hix := isWord_ix hk.2
  have hs1 := hs.sub htk.1
  have hI1 := hI.sub htk.1
  have hS1 := (hT.suf hT1).1
  obtain ⟨us, hus, hus2⟩ : ∃ us, s.toks = t :: us ∧ (takeS isKey fin s).2.toks = us := by
    obtain ⟨ts, n, fl, o⟩ := s
    cases ts with
    | nil => simp [takeS] at ht
    | cons x ts =>
      by_cases c : (x.f0 == 0 || !isKey x) = true
      · simp only [takeS, if_pos c] at ht; simp at ht
      · have e' : takeS isKey fin ⟨x :: ts, n, fl, o⟩ = (.ok x, ⟨ts, n, fl, o⟩) := by simp only [takeS, if_neg c]
        rw [e'] at ht ⊢
        obtain rfl := Except.ok.inj ht
        exact ⟨ts, rfl, rfl⟩
  have hlook : (lookS fin s.toks).f2 = t.f2 := by rw [hus]; rfl
  have hnext : t.f2 < (lookS fin (takeS isKey fin s).2.toks).f2 := by
    rw [hus2]
    rw [hus] at hS
    exact hS.head
  have htT : t ∈ T := hsT.subset hm
  by_cases h7 : wordIx t.f1 = 7
  · rw [h7] at h
    unfold restS at h
    rw [if_neg (by decide), if_neg (by decide), if_neg (by decide), if_neg (by decide), if_neg (by decide), if_neg (by decide), if_neg (by decide), if_pos rfl] at h
    by_cases h4 : deep = 4
    · rw [if_pos h4] at h
      obtain rfl := Option.some.inj h
      refine ⟨hF1, htk.1.1, fun e he => ?_, fun x hx => by simp at hx⟩
      obtain rfl := Except.error.inj he
      refine .inr ⟨.inr rfl, ⟨t, htT, rfl⟩, fun d hd => ?_, Int.le_of_lt hnext⟩
      rw [htk.1.2.2.1] at hd
      have := hF.le d hd
      simp only
      omega
    rw [if_neg h4] at h
    have hw : wrap64 (deep + 1) = deep + 1 := by unfold wrap64; omega
    have n1 := name_sub fin (takeS isKey fin s).2 hs1
    have hF2 := hF1.sub hS1 n1.1
    have hT2 := n1.1.1.trans hT1
    rcases obind_inv h with ⟨p, hp1, h⟩ | ⟨e, he, rfl⟩
    case inr => exact ⟨hF2, n1.1.1.trans htk.1.1, fun e' he' => by obtain rfl := Except.error.inj he'; exact ErrG.of hF2 hT2 (name_err fin _ e he), fun x hx => by simp at hx⟩
    have hs2 := hs1.sub n1.1
    have hS2 := (hT.suf hT2).1
    have n2 := name_sub fin _ hs2
    have hF3 := hF2.sub hS2 n2.1
    have hT3 := n2.1.1.trans hT2
    rcases obind_inv h with ⟨q, hq1, h⟩ | ⟨e, he, rfl⟩
    case inr => exact ⟨hF3, n2.1.1.trans (n1.1.1.trans htk.1.1), fun e' he' => by obtain rfl := Except.error.inj he'; exact ErrG.of hF3 hT3 (name_err fin _ e he), fun x hx => by simp at hx⟩
    have hs3 := hs2.sub n2.1
    have hS3 := (hT.suf hT3).1
    have n3 := sign_ok' ⟨#[123]⟩ fin (nameS fin (nameS fin (takeS isKey fin s).2).2).2
    have hF4 := hF3.sub hS3 n3.1
    have hT4 := n3.1.1.trans hT3
    rcases obind_inv h with ⟨u, hu1, h⟩ | ⟨e, he, rfl⟩
    case inr => exact ⟨hF4, n3.1.1.trans (n2.1.1.trans (n1.1.1.trans htk.1.1)), fun e' he' => by obtain rfl := Except.error.inj he'; exact ErrG.of hF4 hT4 (sign_err _ fin _ e he), fun x hx => by simp at hx⟩
    have hs4 := hs3.sub n3.1
    have hS4 := (hT.suf hT4).1
    have hsub := htk.1.trans (n1.1.trans (n2.1.trans n3.1))
    have hsub1 := n1.1.trans (n2.1.trans n3.1)
    obtain ⟨r, hr1, h⟩ := Option.bind_eq_some_iff.1 h
    rw [hw] at hr1
    obtain ⟨hF5, hsuf5, hP⟩ := hr _ _ hr1 hT4 hs4 (hI.sub hsub) hF4 (by rw [hsub.2.2.2]; exact ho) h4
    have hT5 := hsuf5.trans hT4
    have hS5 := (hT.suf hT5).1
    obtain rfl := Option.some.inj h
    have n5 := sign_ok' ⟨#[125]⟩ fin r.2
    have hF6 := hF5.sub hS5 n5.1
    have hT6 := n5.1.1.trans hT5
    have hl1 := (hS1.suf hsub1.1).2
    have hl2 := (hS5.suf n5.1.1).2
    rcases bind_inv (r := signS ⟨#[125]⟩ fin r.2) (f := fun _ s => (.ok (⟨7, 0, q, p, 0, ⟨⟨0, 0, 0⟩, ⟨0, 0, 0⟩⟩, r.1, t.f2⟩ : S55), s)) with ⟨a, ha', e⟩ | ⟨e', he, e⟩
    · rw [e]
      refine ⟨hF6, n5.1.1.trans (hsuf5.trans hsub.1), fun e he => by simp at he, fun x hx => ?_⟩
      obtain rfl := Except.ok.inj hx
      exact ⟨_, by simp only; omega, ⟨t, htT, rfl, h7, by simp, by simp⟩, hP.weak.2 _ _ (by simp only; omega) (Int.le_refl _), hl2⟩
    · rw [e]
      exact ⟨hF6, n5.1.1.trans (hsuf5.trans hsub.1), fun e2 he2 => by obtain rfl := Except.error.inj he2; exact ErrG.of hF6 hT6 (sign_err _ fin _ _ he), fun x hx => by simp at hx⟩
  · have h0 : wordIx t.f1 ≠ 0 := by
      intro h0
      have hz := ((hs t hm).1 hk.1).1
      rw [word0 h0] at hz
      exact absurd hz (by decide)
    have hrs := rest_sub rec fin deep _ _ _ hs1 h7 (by omega) y h
    have hre := rest_err rec fin deep _ _ _ h7 y h
    have hrk := rest_kind rec fin deep _ t.f2 (takeS isKey fin s).2 h7 y
    have hF2 := hF1.sub hS1 hrs.1
    have hT2 := hrs.1.1.trans hT1
    have hl2 := (hS1.suf hrs.1.1).2
    refine ⟨hF2, hrs.1.1.trans htk.1.1, fun e he => ErrG.of hF2 hT2 (hre e he), fun x hx => ?_⟩
    obtain ⟨k0, k7, k6⟩ := hrk x h hx
    refine ⟨x.f7 + 1, by omega, ⟨t, htT, k7.symm, k0.symm, by omega, by omega⟩, ?_, by omega⟩
    rw [k6]
    exact .nil (Int.le_refl _)
theorem stmts_off {T : List S44} {fin : Int} (hT : Sorted fin T) : ∀ (k : Nat) (deep : Int) (s : Rs) (out : List S55) (r : List S55 × Rs), stmtsS fin k deep s out = some r → s.toks <:+ T → TokOK s.toks → 0 ≤ deep → deep ≤ 4 → Inv s → FI T fin s →
    FI T fin r.2 ∧ r.2.toks <:+ s.toks ∧ ∃ l, r.1 = out ++ l ∧ PlacedL T (lookS fin s.toks).f2 l (lookS fin r.2.toks).f2
  | 0, deep, s, out, r => fun h => by simp [stmtsS] at h
  | k + 1, deep, s, out, r => fun h hsT hs hd hd4 hI hF => by
    have ih := stmts_off hT k
    have hS := (hT.suf hsT).1
    rw [stmtsS] at h
    by_cases c1 : s.over = true ∨ s.toks = []
    · rw [if_pos c1] at h
      obtain rfl := Option.some.inj h
      exact ⟨hF, List.suffix_refl _, [], by simp, .nil (Int.le_refl _)⟩
    rw [if_neg c1] at h
    have hov : s.over = false := by simpa using fun h' => c1 (.inl h')
    have hne : s.toks ≠ [] := fun h' => c1 (.inr h')
    have h64 := hI.2.2 hov
    have hn0 := hI.1
    obtain ⟨t0, us0, hts⟩ : ∃ t us, s.toks = t :: us := by
      cases h : s.toks with
      | nil => exact absurd h hne
      | cons t us => exact ⟨t, us, rfl⟩
    have hlk : lookS fin s.toks = t0 := by rw [hts]; rfl
    have ht0 : t0 ∈ T := hsT.subset (by rw [hts]; exact List.mem_cons_self)
    have hG : ∀ c : Int, (c = 110 ∨ c = 2) → ErrG T fin s (c, (lookS fin s.toks).f2) := fun c hc => Or.inr ⟨hc, ⟨t0, ht0, by rw [hlk]⟩, hF.le, Int.le_refl _⟩
    by_cases c2 : isSign ⟨#[125]⟩ (lookS fin s.toks) = true
    · rw [if_pos c2] at h
      by_cases c3 : deep > 0
      · rw [if_pos c3] at h
        obtain rfl := Option.some.inj h
        exact ⟨hF, List.suffix_refl _, [], by simp, .nil (Int.le_refl _)⟩
      rw [if_neg c3] at h
      split at h
      · cases h
      · have htl : s.toks.tail <:+ s.toks := List.tail_suffix _
        have hF' := FI.tell (e := (110, (lookS fin s.toks).f2)) hF hS hov (hG 110 (.inl rfl)) htl
        obtain ⟨a, b, l, c, d⟩ := ih _ _ _ _ h (htl.trans hsT) (fun t ht => hs t (List.mem_of_mem_tail ht)) hd hd4 ⟨hI.1, hI.2.1, fun _ => h64⟩ hF'
        exact ⟨a, b.trans htl, l, c, d.weak.2 _ _ (hS.suf htl).2 (Int.le_refl _)⟩
    rw [if_neg c2] at h
    have hw : wrap64 (s.n + 1) = s.n + 1 := by unfold wrap64; omega
    rw [hw] at h
    by_cases c4 : s.n + 1 > 64
    · rw [if_pos c4] at h
      split at h
      · cases h
      · obtain rfl := Option.some.inj h
        have hF' := FI.tell (e := (2, (lookS fin s.toks).f2)) hF hS hov (hG 2 (.inr rfl)) (List.suffix_refl s.toks)
        refine ⟨⟨hF'.le, hF'.ord, ?_⟩, List.suffix_refl _, [], by simp, .nil (Int.le_refl _)⟩
        obtain ⟨a, b, hab, ha, hb⟩ := hF'.good
        refine ⟨a, b, hab, ha, ?_⟩
        rcases hb with hb | ⟨_, hb⟩
        · exact .inl hb
        · exact .inr ⟨rfl, hb⟩
    rw [if_neg c4] at h
    split at h
    · cases h
    obtain ⟨⟨x, s1⟩, hx, h⟩ := Option.bind_eq_some_iff.1 h
    have hI' : Inv { s with n := s.n + 1 } := ⟨by simp only; omega, by simp only; omega, fun _ => by simp only; omega⟩
    have hF0 : FI T fin { s with n := s.n + 1 } := ⟨hF.le, hF.ord, hF.good⟩
    have hrec : RecOK deep (fun d s => stmtsS fin k d s []) := fun s' r' h' ht hi hd' => stmts_sound fin k _ _ _ _ h' ht (by omega) (by omega) hi
    have hrecF : RecF T fin deep (fun d s => stmtsS fin k d s []) := by
      intro s' r' h' hT' ht hi hF' _ hd'
      obtain ⟨a, b, l, c, d⟩ := ih _ _ _ _ h' hT' ht (by omega) (by omega) hi hF'
      rw [List.nil_append] at c
      rw [← c] at d
      exact ⟨a, b, d⟩
    obtain ⟨h1, h2, h3, h4⟩ := one_sound hrec hd hd4 (s := { s with n := s.n + 1 }) hs hI' hov hx
    simp only at h1 h2 h3 h4 h
    obtain ⟨⟨y, s2⟩, hy, hone⟩ := Option.bind_eq_some_iff.1 hx
    obtain ⟨g1, g2, g3, g4⟩ := stmt_off hT hrecF hd hd4 (s := { s with n := s.n + 1 }) hsT hs hI' hF0 hov hy
    simp only at g1 g2 g3 g4
    have hT2 := g2.trans hsT
    have hS2 := (hT.suf hT2).1
    cases y with
    | error f =>
      simp only at hone
      by_cases ho2 : s2.over = true
      · rw [if_pos ho2] at hone
        simp only [Option.some.injEq, Prod.mk.injEq] at hone
        obtain ⟨rfl, rfl⟩ := hone
        simp only at h
        obtain ⟨a, b, l, c, d⟩ := ih _ _ _ _ h hT2 (fun t ht => hs t (h1.subset ht)) hd hd4 h2 g1
        exact ⟨a, b.trans g2, l, c, d.weak.2 _ _ (hS.suf g2).2 (Int.le_refl _)⟩
      · rw [if_neg ho2] at hone
        have ho2 : s2.over = false := by simpa using ho2
        split at hone
        · cases hone
        · simp only [Option.some.injEq, Prod.mk.injEq] at hone
          obtain ⟨rfl, rfl⟩ := hone
          simp only at h
          have hsk := skip_suf s2.toks
          have hF3 := g1.tell hS2 ho2 (g3 f rfl) hsk
          obtain ⟨a, b, l, c, d⟩ := ih _ _ _ _ h (hsk.trans hT2) (fun t ht => hs t (h1.subset ht)) hd hd4 h2 hF3
          exact ⟨a, b.trans (hsk.trans g2), l, c, d.weak.2 _ _ (hS.suf (hsk.trans g2)).2 (Int.le_refl _)⟩
    | ok z =>
      simp only [Option.some.injEq, Prod.mk.injEq] at hone
      obtain ⟨hxz, rfl⟩ := hone
      obtain ⟨m, m1, m2, m3, m4⟩ := g4 z rfl
      obtain ⟨a, b, l, c, d⟩ := ih _ _ _ _ h hT2 (fun t ht => hs t (h1.subset ht)) hd hd4 h2 g1
      by_cases ho2 : s2.over = true
      · rw [if_pos ho2] at hxz
        subst hxz
        exact ⟨a, b.trans g2, l, c, d.weak.2 _ _ (hS.suf g2).2 (Int.le_refl _)⟩
      · rw [if_neg ho2] at hxz
        subst hxz
        simp only at c
        exact ⟨a, b.trans g2, z :: l, by rw [c]; simp, .cons m1 m2 m3 (d.weak.2 _ _ m4 (Int.le_refl _))⟩
theorem path_sorted {s : ByteArray} {i j : Int} {ts : List S44} (h : Path s i ts j) : 0 ≤ i → i ≤ (s.size : Int) → Sorted s.size ts ∧ ∀ t ∈ ts, i ≤ t.f2 := by
  induction h with
  | nil i => intro _ _; exact ⟨trivial, fun t h => by cases h⟩
  | @cons i j ts hlt hok hp ih =>
    intro h0 h1
    have hr := skipTo_range s i h0 h1
    have hn := nextAt_range s _ (by omega) hr.2 hok
    obtain ⟨a, b⟩ := ih (by omega) hn.2
    have e : (tokAt s (skipTo s i)).f2 = skipTo s i := (nextAt_at hok).1
    refine ⟨⟨fun u hu => by have := b u hu; omega, by omega, a⟩, fun t ht => ?_⟩
    rcases List.mem_cons.1 ht with rfl | ht
    · omega
    · have := b t ht; omega
end Go.Proofs.YtonhcfecfifghaaDoor.PPx
namespace Go.Proofs.YtonhcfecfifghaaDoor.PPx
open Go.RowKit Go.Proofs.YtonhcfecfifghaaDoorW.PrintWords Go.Proofs.YtonhcfecfifghaaDoorW.PrintLast Go.Proofs.YtonhcfecfifghaaDoorW.PrintMore
set_option linter.unusedVariables false
/-- the gaps that the law takes -/
def gapsL : List ByteArray := [⟨#[32]⟩, ⟨#[10]⟩, ⟨#[9, 32]⟩, ⟨#[32, 35, 32, 110, 111, 116, 101, 32, 59, 32, 125, 10]⟩, ⟨#[13, 10]⟩]
def GapOK (g : ByteArray) : Prop := LexT g false [] ∧ SoftHd g ∧ g.size ≤ 12
theorem gap_blank {g : ByteArray} (h : Blank g) (h0 : 0 < g.size) (h1 : g.size ≤ 12) : GapOK g := ⟨LexT.blank h, ⟨h0, soft_of (.inl (h 0 (Int.le_refl _) (by omega)))⟩, h1⟩
theorem gap_all : ∀ g ∈ gapsL, GapOK g := by
  intro g hg
  simp only [gapsL, List.mem_cons, List.not_mem_nil, or_false] at hg
  rcases hg with rfl | rfl | rfl | rfl | rfl
  · exact gap_blank (blank_one (by decide +kernel)) (by decide) (by decide)
  · exact gap_blank (blank_one (by decide +kernel)) (by decide) (by decide)
  · exact gap_blank (blank_append (a := ⟨#[9]⟩) (b := ⟨#[32]⟩) (blank_one (by decide +kernel)) (blank_one (by decide +kernel))) (by decide) (by decide)
  · exact ⟨lex_nl (s := ⟨#[32, 35, 32, 110, 111, 116, 101, 32, 59, 32, 125]⟩) (by decide) (by kernel_rfl), ⟨by decide, soft_of (.inl (by decide +kernel))⟩, by decide⟩
  · exact gap_blank (blank_append (a := ⟨#[13]⟩) (b := ⟨#[10]⟩) (blank_one (by decide +kernel)) (blank_one (by decide +kernel))) (by decide) (by decide)
theorem gap_at {j : Int} (h0 : 0 ≤ j) (h1 : j < 5) : rdOf ByteArray.empty gapsL j ∈ gapsL := by
  have hj : j = 0 ∨ j = 1 ∨ j = 2 ∨ j = 3 ∨ j = 4 := by omega
  rcases hj with rfl | rfl | rfl | rfl | rfl <;> simp [rdOf, gapsL]
theorem kt_len' (ts : List S44) : (kt ts).length = ts.length := by simp [kt]
/-- the text that is built: its tokens -/
structure Built (t : ByteArray) (at' : List Int) (pre us : List S44) : Prop where
  lex : LexT t false us
  kts : kt us = kt pre
  ats : at' = us.map (·.f2)
  size : t.size ≤ pre.length * 20100
theorem Built.step {t : ByteArray} {a : List Int} {pre us : List S44} (h : Built t a pre us) {x : S44} (hx : TokText x.f0 x.f1) (hs : x.f1.size ≤ 20000) {g : ByteArray} (hg : GapOK g) :
    Built ((t ++ x.f1) ++ g) (a ++ [(t.size : Int)]) (pre ++ [x]) (us ++ [⟨x.f0, x.f1, t.size⟩]) := by
  have h1 := (h.lex.append (LexT.tok hx) (fun e => by cases e)).append hg.1 (fun _ => hg.2.1)
  refine ⟨?_, ?_, ?_, ?_⟩
  · simpa [moved] using h1
  · rw [kt_append, kt_append, h.kts]; rfl
  · rw [h.ats]; simp
  · have := h.size
    have := hg.2.2
    simp only [ByteArray.size_append, List.length_append, List.length_cons, List.length_nil]
    omega
theorem rd_midI (pre : List S44) (x : S44) (l : List S44) : rd_T44 (pre ++ x :: l) (pre.length : Int) = x := by simp [rd_T44]
/-- the loop that builds the text -/
theorem build_run {s : ByteArray} {picks : List Int} {toks : List S44} (hp : ∀ x ∈ picks, (Lit.int .u8 x).wf = true) (htk : ∀ x ∈ toks, TokText x.f0 x.f1 ∧ x.f1.size ≤ 20000) (hlen : toks.length ≤ 100000)
    (hend : ∀ t us, Built t (us.map (·.f2)) toks us → EvalsTo (fun k => ambidexterlaw11_ParserIgnoresBlanks.l0 k s picks true toks gapsL t (us.map (·.f2)) toks.length) true) :
    ∀ (rest pre : List S44) (t : ByteArray) (a : List Int) (us : List S44), toks = pre ++ rest → Built t a pre us → EvalsTo (fun k => ambidexterlaw11_ParserIgnoresBlanks.l0 k s picks true toks gapsL t a pre.length) true := by
  intro rest
  induction rest with
  | nil =>
    intro pre t a us ht hb
    rw [List.append_nil] at ht
    subst ht
    have := hb.ats
    subst this
    exact hend t us hb
  | cons x rest ih =>
    intro pre t a us ht hb
    have hlt : (pre.length : Int) < (toks.length : Int) := by rw [ht]; simp only [List.length_append, List.length_cons]; omega
    have hrd : rd_T44 toks (pre.length : Int) = x := by rw [ht]; exact rd_midI pre x rest
    have hx := htk x (by rw [ht]; simp)
    have hi : wrap64 ((pre.length : Int) + 1) = ((pre ++ [x]).length : Int) := by
      simp only [List.length_append, List.length_cons, List.length_nil]
      unfold wrap64; omega
    have hal : a.length = pre.length := by
      have h1 := congrArg List.length hb.kts
      rw [kt_len', kt_len'] at h1
      rw [hb.ats, List.length_map, h1]
    have ht' : toks = (pre ++ [x]) ++ rest := by rw [ht]; simp
    have hsz := hb.size
    have hmul : pre.length * 20100 ≤ 100000 * 20100 := Nat.mul_le_mul_right _ (by omega)
    have hst : ∀ g, g ∈ gapsL → EvalsTo (fun k => ambidexterlaw11_ParserIgnoresBlanks.l0 k s picks true toks gapsL ((t ++ x.f1) ++ g) (a ++ [(t.size : Int)]) ((pre ++ [x]).length : Int)) true := fun g hg => ih (pre ++ [x]) _ _ _ ht' (hb.step hx.1 hx.2 (gap_all g hg))
    have hgl : ((gapsL.length : Nat) : Int) = 5 := rfl
    by_cases hpk : (pre.length : Int) < (picks.length : Int)
    · have hrg : 0 ≤ rd picks (pre.length : Int) ∧ rd picks (pre.length : Int) ≤ 255 := by
        have hlt' : pre.length < picks.length := by omega
        have e : rd picks (pre.length : Int) = picks[pre.length] := by simp [rd, hlt']
        rw [e]
        exact u8_bounds (hp _ (List.getElem_mem hlt'))
      obtain ⟨m, hm⟩ := Int.eq_ofNat_of_zero_le hrg.1
      have hw : wrap64 (rd picks (pre.length : Int)) = (m : Int) := by rw [hm]; unfold wrap64; omega
      have htm : ((m : Int)).tmod 5 = ((m % 5 : Nat) : Int) := rfl
      have hlt5 : m % 5 < 5 := Nat.mod_lt _ (by decide)
      have hg := gap_at (j := ((m % 5 : Nat) : Int)) (by omega) (by omega)
      have hg12 := (gap_all _ hg).2.2
      refine EvalsTo.shift (j := 1) (hst _ hg) fun k => ?_
      rw [ambidexterlaw11_ParserIgnoresBlanks.l0, if_pos hlt, if_pos (by omega)]
      simp only [Option.bind_some]
      rw [if_pos hpk, if_pos (by omega), hgl, if_neg (by decide), hrd, if_pos (by have := hx.2; omega), hw, htm, if_pos (by omega), if_pos (by omega), if_pos (by have := hx.2; rw [ByteArray.size_append]; omega), hi]
    · have hg := gap_at (j := 0) (by decide) (by decide)
      have hg12 := (gap_all _ hg).2.2
      refine EvalsTo.shift (j := 1) (hst _ hg) fun k => ?_
      rw [ambidexterlaw11_ParserIgnoresBlanks.l0, if_pos hlt, if_pos (by omega)]
      simp only [Option.bind_some]
      rw [if_neg hpk, if_pos (by omega), hrd, if_pos (by have := hx.2; omega), hgl, if_pos (by decide), if_pos (by have := hx.2; rw [ByteArray.size_append]; omega), hi]
def RAt (ts us : List S44) (a b : Int) : Prop := ∃ (j : Nat) (x y : S44), ts[j]? = some x ∧ us[j]? = some y ∧ x.f2 = a ∧ y.f2 = b
theorem TR_of {T U : List S44} : ∀ (ts us pre pre' : List S44), T = pre ++ ts → U = pre' ++ us → pre.length = pre'.length → kt ts = kt us → TR (RAt T U) ts us
  | [], [], _, _, _, _, _, _ => .nil
  | [], u :: us, _, _, _, _, _, h => by simp [kt] at h
  | t :: ts, [], _, _, _, _, _, h => by simp [kt] at h
  | t :: ts, u :: us, pre, pre', h1, h2, h3, h => by
    simp only [kt, List.map_cons, List.cons.injEq, Prod.mk.injEq] at h
    obtain ⟨⟨e0, e1⟩, e2⟩ := h
    refine .cons e0 e1 ⟨pre.length, t, u, by rw [h1]; simp, by rw [h2, h3]; simp, rfl, rfl⟩ (TR_of ts us (pre ++ [t]) (pre' ++ [u]) (by rw [h1]; simp) (by rw [h2]; simp) (by simp [h3]) e2)
theorem Sorted.inj {fin : Int} : ∀ {ts : List S44}, Sorted fin ts → ∀ (i j : Nat) (x y : S44), ts[i]? = some x → ts[j]? = some y → x.f2 = y.f2 → i = j
  | [], _, i, j, x, y, h, _, _ => by simp at h
  | t :: ts, hs, i, j, x, y, hi, hj, he => by
    cases i with
    | zero =>
      cases j with
      | zero => rfl
      | succ j =>
        have hx : t = x := by simpa using hi
        have hy := List.mem_of_getElem? (show ts[j]? = some y by simpa using hj)
        have := hs.1 y hy
        rw [hx] at this
        omega
    | succ i =>
      cases j with
      | zero =>
        have hy : t = y := by simpa using hj
        have hx := List.mem_of_getElem? (show ts[i]? = some x by simpa using hi)
        have := hs.1 x hx
        rw [hy] at this
        omega
      | succ j => rw [hs.2.2.inj i j x y (by simpa using hi) (by simpa using hj) he]
section
variable {s t : ByteArray} {toks us : List S44} (hkt : kt us = kt toks) (hS : Sorted s.size toks) (hU : Sorted t.size us) (hlen : toks.length ≤ 100000)
include hkt hS hU hlen
/-- the inner loop -/
theorem l2_run {f0 f g0 g : List S35} {d e : S35} (h0 : f0.length = g0.length) (hl : f0.length ≤ 1000) (h3 : d.f0 ≠ 3 → RAt toks us d.f1 e.f1)
    (hend : EvalsTo (fun k => ambidexterlaw11_ParserIgnoresBlanks.l1 k s true toks t (us.map (·.f2)) (f0 ++ d :: f) (g0 ++ e :: g) ((f0 ++ [d]).length : Int)) true) :
    ∀ (m j : Nat), j + m = toks.length → EvalsTo (fun k => ambidexterlaw11_ParserIgnoresBlanks.l2 k s true toks t (us.map (·.f2)) (f0 ++ d :: f) (g0 ++ e :: g) f0.length j) true := by
  have hul : us.length = toks.length := by rw [← kt_len', hkt, kt_len']
  have hlt : (f0.length : Int) < ((f0 ++ d :: f).length : Int) := by simp only [List.length_append, List.length_cons]; omega
  have hlt2 : (f0.length : Int) < ((g0 ++ e :: g).length : Int) := by simp only [List.length_append, List.length_cons]; omega
  have hfi : wrap64 ((f0.length : Int) + 1) = ((f0 ++ [d]).length : Int) := by
    simp only [List.length_append, List.length_cons, List.length_nil]
    unfold wrap64; omega
  have hrd : rd_T35 (f0 ++ d :: f) (f0.length : Int) = d := by simp [rd_T35]
  have hrd2 : rd_T35 (g0 ++ e :: g) (f0.length : Int) = e := by rw [h0]; simp [rd_T35]
  have hout : ∀ k j, ambidexterlaw11_ParserIgnoresBlanks.j5 (k + 1) s true toks t (us.map (·.f2)) (f0 ++ d :: f) (g0 ++ e :: g) f0.length j false = ambidexterlaw11_ParserIgnoresBlanks.l1 k s true toks t (us.map (·.f2)) (f0 ++ d :: f) (g0 ++ e :: g) ((f0 ++ [d]).length : Int) := by
    intro k j
    rw [ambidexterlaw11_ParserIgnoresBlanks.j5, if_neg (by decide), hfi]
  intro m
  induction m with
  | zero =>
    intro j hj
    have hj : j = toks.length := by omega
    subst hj
    refine EvalsTo.shift (j := 2) hend fun k => ?_
    rw [ambidexterlaw11_ParserIgnoresBlanks.l2, if_neg (Int.lt_irrefl _), hout]
  | succ m ih =>
    intro j hj
    have hjl : (j : Int) < (toks.length : Int) := by omega
    by_cases hd : d.f0 = 3
    · refine EvalsTo.shift (j := 2) hend fun k => ?_
      rw [ambidexterlaw11_ParserIgnoresBlanks.l2, if_pos hjl, if_pos (by omega), if_pos hlt, hrd, show (d.f0 != 3) = false from by rw [hd]; rfl]
      exact hout k j
    · obtain ⟨q, x, y, hx, hy, hxa, hyb⟩ := h3 hd
      obtain ⟨u, hu⟩ : ∃ u, toks[j]? = some u := ⟨toks[j]'(by omega), List.getElem?_eq_getElem (by omega)⟩
      obtain ⟨v, hv⟩ : ∃ v, us[j]? = some v := ⟨us[j]'(by omega), List.getElem?_eq_getElem (by omega)⟩
      have hru : rd_T44 toks (j : Int) = u := by simp [rd_T44, hu]
      have hrv : rd (us.map (·.f2)) (j : Int) = v.f2 := by simp [rd, hv]
      have hsame : ((u.f2 == d.f1) != (v.f2 == e.f1)) = false := by
        have hiff : u.f2 = d.f1 ↔ v.f2 = e.f1 := by
          constructor
          · intro h
            have := hS.inj j q u x hu hx (by rw [h, hxa])
            subst this
            rw [hv] at hy
            obtain rfl := Option.some.inj hy
            exact hyb
          · intro h
            have := hU.inj j q v y hv hy (by rw [h, hyb])
            subst this
            rw [hu] at hx
            obtain rfl := Option.some.inj hx
            exact hxa
        by_cases h : u.f2 = d.f1
        · rw [beq_iff_eq.2 h, beq_iff_eq.2 (hiff.1 h)]; rfl
        · rw [beq_eq_false_iff_ne.2 h, beq_eq_false_iff_ne.2 (fun h' => h (hiff.2 h'))]; rfl
      have hd' : (d.f0 != 3) = true := bne_iff_ne.2 hd
      have h0j : (0 : Int) ≤ (j : Int) := Int.natCast_nonneg j
      have h0n : (0 : Int) ≤ (f0.length : Int) := Int.natCast_nonneg _
      have hjm : (j : Int) < ((us.map (·.f2)).length : Int) := by rw [List.length_map, hul]; exact hjl
      have hj1 : wrap64 ((j : Int) + 1) = ((j + 1 : Nat) : Int) := by clear hrd hrd2 hru hrv hsame hout; unfold wrap64; omega
      refine EvalsTo.shift (j := 2) (ih (j + 1) (by omega)) fun k => ?_
      rw [ambidexterlaw11_ParserIgnoresBlanks.l2, if_pos hjl, if_pos h0n, if_pos hlt, hrd, hd', ambidexterlaw11_ParserIgnoresBlanks.j5, if_pos (show true = true from rfl), if_pos h0j, if_pos hjl, if_pos h0n, if_pos hlt, if_pos hjm, if_pos hlt2, hru, hrd, hrv, hrd2, hsame, if_neg (by decide), hj1]
/-- the loop over the faults -/
theorem l1_runB : ∀ (f g : List S35), DR (RAt toks us) s.size t.size f g → ∀ (f0 g0 : List S35), f0.length = g0.length → f0.length + f.length ≤ 1000 → EvalsTo (fun k => ambidexterlaw11_ParserIgnoresBlanks.l1 k s true toks t (us.map (·.f2)) (f0 ++ f) (g0 ++ g) f0.length) true := by
  intro f g h
  induction h with
  | nil =>
    intro f0 g0 h0 hl
    refine EvalsTo.shift (j := 1) (EvalsTo.const true) fun k => ?_
    rw [List.append_nil, ambidexterlaw11_ParserIgnoresBlanks.l1, if_neg (Int.lt_irrefl _)]
  | @cons d e f g hE _ ih =>
    intro f0 g0 h0 hl
    obtain ⟨e0, e3, en⟩ := hE
    simp only at e0 e3 en
    simp only [List.length_cons] at hl
    have hnext := ih (f0 ++ [d]) (g0 ++ [e]) (by simp [h0]) (by simp only [List.length_append, List.length_cons, List.length_nil]; omega)
    rw [List.append_assoc, List.append_assoc, List.singleton_append, List.singleton_append] at hnext
    have hlt : (f0.length : Int) < ((f0 ++ d :: f).length : Int) := by simp only [List.length_append, List.length_cons]; omega
    have hlt2 : (f0.length : Int) < ((g0 ++ e :: g).length : Int) := by simp only [List.length_append, List.length_cons]; omega
    have hrd : rd_T35 (f0 ++ d :: f) (f0.length : Int) = d := by simp [rd_T35]
    have hrd2 : rd_T35 (g0 ++ e :: g) (f0.length : Int) = e := by rw [h0]; simp [rd_T35]
    have hl2 := l2_run (s := s) (t := t) hkt hS hU hlen (f0 := f0) (f := f) (g0 := g0) (g := g) (d := d) (e := e) h0 (by omega) en hnext toks.length 0 (by omega)
    refine EvalsTo.shift (j := 2) hl2 fun k => ?_
    rw [ambidexterlaw11_ParserIgnoresBlanks.l1, if_pos hlt, if_pos (by omega), if_pos hlt2, hrd, hrd2, if_pos e0]
    by_cases hd : d.f0 = 3
    · obtain ⟨g1, g2⟩ := e3 hd
      rw [if_pos hd, if_pos g1, g2, ambidexterlaw11_ParserIgnoresBlanks.j3, if_neg (by simp)]
      rfl
    · rw [if_neg hd, ambidexterlaw11_ParserIgnoresBlanks.j3, if_neg (by decide)]
      rfl
end
theorem ib_pure (s : ByteArray) (picks : List Int) (hp : ∀ x ∈ picks, (Lit.int .u8 x).wf = true) : ∃ k, ambidexterlaw11_ParserIgnoresBlanks.f k s picks = some true := by
  suffices h : EvalsTo (fun k => ambidexterlaw11_ParserIgnoresBlanks.f k s picks) true by
    obtain ⟨K, hK⟩ := h
    exact ⟨K, hK K (Nat.le_refl _)⟩
  unfold ambidexterlaw11_ParserIgnoresBlanks.f
  simp only [show ambidexterlaw11_head.f = some true from rfl, Option.bind_some]
  by_cases hs : (s.size : Int) > 4000
  · simp only [if_pos hs]; exact EvalsTo.const true
  simp only [if_neg hs, show lexer_Lex.f s = some (lexB s) from rfl, Option.bind_some]
  by_cases he : (lexB s).2.1 = 0
  case neg => simp only [if_neg he]; exact EvalsTo.const true
  simp only [if_pos he]
  obtain ⟨toks, j, hpath, _, _, hc⟩ := whole s (by omega)
  have hlx : lexB s = (toks, 0, 0) := by
    rcases hc with ⟨h, _⟩ | ⟨h, _, _⟩
    · exact h
    · rw [h] at he; exact absurd he (by simp)
  have hln := lexB_len s
  rw [hlx] at hln ⊢
  simp only at hln ⊢
  have htk : ∀ x ∈ toks, TokText x.f0 x.f1 ∧ x.f1.size ≤ 20000 := by
    intro x hx
    obtain ⟨p, h0, h1, h5, h6, hok, rfl⟩ := path_tok hpath (Int.le_refl _) (by omega) x hx
    refine ⟨tok_alone h0 h1 hok h5 h6, ?_⟩
    obtain ⟨_, _, a3⟩ := nextAt_at hok
    have hn := nextAt_range s p h0 (by omega) hok
    have hsz := size_extractI (s := s) (a := p) (b := (nextAt s p).2.2.2.2) h0 (by omega) hn.2
    show (nextAt s p).2.1.size ≤ 20000
    rw [a3]
    omega
  obtain ⟨hSo, _⟩ := path_sorted hpath (Int.le_refl _) (by omega)
  refine build_run hp htk (by omega) ?_ toks [] ⟨#[]⟩ [] [] rfl ⟨LexT.blank (fun x h0 h1 => by exact absurd h1 (by show ¬ x < 0; omega)), rfl, rfl, by show 0 ≤ _; omega⟩
  intro t us hb
  by_cases ht : (t.size : Int) > 20000
  · refine EvalsTo.shift (j := 1) (EvalsTo.const true) fun k => ?_
    rw [ambidexterlaw11_ParserIgnoresBlanks.l0, if_neg (Int.lt_irrefl _), if_pos ht]
  have hlt : lexB t = (us, 0, 0) := hb.lex.lex (by omega)
  obtain ⟨us', j', hpath', _, _, hc'⟩ := whole t (by omega)
  have hus : us' = us := by
    rcases hc' with ⟨h, _⟩ | ⟨h, _, _⟩
    · rw [hlt] at h; exact (congrArg Prod.fst h).symm
    · rw [hlt] at h; exact absurd (congrArg (fun p => p.2.1) h) (by simp)
  subst hus
  obtain ⟨hSu, _⟩ := path_sorted hpath' (Int.le_refl _) (by omega)
  have hok := lex_ok s
  rw [hlx] at hok
  obtain ⟨a, s1, hr, _, _, hI⟩ := stmts_total s.size 30000 0 ⟨toks, 0, [], false⟩ [] (Int.le_refl _) (by decide) hok (by simp only; omega) (inv0 _) (by simp) (by simp only; omega)
  have hTR : TR (RAt toks us') toks us' := TR_of toks us' [] [] rfl rfl rfl hb.kts.symm
  obtain ⟨⟨b, s2⟩, hr2, hsim, hSR⟩ := stmts_rel (R := RAt toks us') (fin := s.size) (fin' := t.size) 30000 0 ⟨toks, 0, [], false⟩ ⟨us', 0, [], false⟩ [] [] _ ⟨hTR, rfl, .nil, rfl⟩ .nil (Int.le_refl _) (by decide) hr
  simp only at hsim hSR
  have hpa : EvalsTo (fun k => parser_Parse.f k s) (a, s1.fl) := ⟨30000, fun k hk => by
    show parser_Parse.f k s = _
    unfold parser_Parse.f
    rw [hlx]
    simp only [if_true]
    rw [stmts_lift hk hr]
    rfl⟩
  have hpb : EvalsTo (fun k => parser_Parse.f k t) (b, s2.fl) := ⟨30000, fun k hk => by
    show parser_Parse.f k t = _
    unfold parser_Parse.f
    rw [hlt]
    simp only [if_true]
    rw [stmts_lift hk hr2]
    rfl⟩
  have hsm : EvalsTo (fun k => ambidexterref11_Same.f k a b) true := hsim.equal
  have hfl : (((s1.fl.length : Nat) : Int) != ((s2.fl.length : Nat) : Int)) = false := by rw [hSR.fl.len]; simp
  have h20 : s1.fl.length ≤ 20 := hI.2.2.1
  have hrun := l1_runB (s := s) (t := t) hb.kts hSo hSu (by omega) s1.fl s2.fl hSR.fl [] [] rfl (by simp only [List.length_nil]; omega)
  refine EvalsTo.shift (j := 1) ?_ (fun k => by rw [ambidexterlaw11_ParserIgnoresBlanks.l0, if_neg (Int.lt_irrefl _), if_neg ht])
  refine EvalsTo.bind hpa ?_
  refine EvalsTo.bind hpb ?_
  refine EvalsTo.bind hsm ?_
  simp only [if_true]
  rw [hfl]
  refine EvalsTo.shift (j := 1) hrun fun k => ?_
  rw [ambidexterlaw11_ParserIgnoresBlanks.j1, if_neg (by decide)]
  rfl
end Go.Proofs.YtonhcfecfifghaaDoor.PPx
