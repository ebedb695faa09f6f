/- Part L of the proof of ParserMatchesReference: the contracts of the functions that the law reaches, and what their plain functions compute. No condition. -/
import Derived.Test.YtonhcfecfifghaaGreatDoorParserMatchesReferencePA
import Derived.Test.YtonhcfecfifghaaGreatDoorParserMatchesReferencePE
import Derived.Test.YtonhcfecfifghaaGreatDoorParserMatchesReferencePF
import Derived.Test.YtonhcfecfifghaaGreatDoorParserMatchesReferencePG
import Derived.Deep.DeepCutAuto
import Derived.BigQuiet
set_option maxHeartbeats 40000000
set_option maxRecDepth 100000
namespace Go.Proofs.YtonhcfecfifghaaGreatDoor.PPx
open Go.RowKit Go.Proofs.YtonhcfecfifghaaGreatDoorW.PrintWords Go.Proofs.YtonhcfecfifghaaGreatDoorW.PrintLast Go.Proofs.YtonhcfecfifghaaGreatDoorW.PrintMore
set_option linter.unusedVariables false
set_option linter.unusedSimpArgs false
section
attribute [local go_sem high] eqA34
structure PnK (w : World) (C : Array Value) (W : World) : Prop where
 B : Below w.heap.size w W
 X : W.heap[w.heap.size]? = some (.cells C 37 (0, 0))
 Z : W.heap[w.heap.size + 1]? = some (.cells #[.int .i64 0, .int .i64 0, .int .i64 0] 34 (0, 0))
theorem PnK.below {w W W1 : World} {C : Array Value} (h : PnK w C W) (hb : Below W.heap.size W W1) : PnK w C W1 := ⟨below_step h.B hb, blk_below h.X hb, blk_below h.Z hb⟩
def pC (x0 x1 : Int) (x2 x3 : ByteArray) (x4 q0 q1 q2 p0 p1 p2 : Int) (v : Value) (x7 : Int) : Array Value := #[.int .i64 x0, .int .i64 x1, .string x2, .string x3, .int .i64 x4, .int .i64 q0, .int .i64 q1, .int .i64 q2, .int .i64 p0, .int .i64 p1, .int .i64 p2, v, .int .i64 x7]
theorem pnRow {w W : World} {C : Array Value} {x0 x1 : Int} {x2 x3 : ByteArray} {x4 q0 q1 q2 p0 p1 p2 : Int} {v : Value} {x7 : Int} (hC : C = pC x0 x1 x2 x3 x4 q0 q1 q2 p0 p1 p2 v x7) (h : PnK w C W) : W.cell? ⟨w.heap.size, 0, none⟩ = some (.int .i64 x0) ∧ W.cell? ⟨w.heap.size, 1, none⟩ = some (.int .i64 x1) ∧ W.cell? ⟨w.heap.size, 2, none⟩ = some (.string x2) ∧ W.cell? ⟨w.heap.size, 3, none⟩ = some (.string x3) ∧ W.cell? ⟨w.heap.size, 4, none⟩ = some (.int .i64 x4) ∧ W.cell? ⟨w.heap.size, 5, none⟩ = some (.int .i64 q0) ∧ W.cell? ⟨w.heap.size, 6, none⟩ = some (.int .i64 q1) ∧ W.cell? ⟨w.heap.size, 7, none⟩ = some (.int .i64 q2) ∧ W.cell? ⟨w.heap.size, 8, none⟩ = some (.int .i64 p0) ∧ W.cell? ⟨w.heap.size, 9, none⟩ = some (.int .i64 p1) ∧ W.cell? ⟨w.heap.size, 10, none⟩ = some (.int .i64 p2) ∧ W.cell? ⟨w.heap.size, 11, none⟩ = some v ∧ W.cell? ⟨w.heap.size, 12, none⟩ = some (.int .i64 x7) := by
 subst hC
 exact (row13 h.X).1
def tl4 (a b : Bool) (i : Nat) : Bool := if i = 0 then (!a && !b) else if i = 1 then !b else true
theorem rplain_calls : RplainC := by
 intro x Ak ck w hck
 obtain ⟨x0, x1, x2, x3, x4, ⟨⟨q0, q1, q2⟩, ⟨p0, p1, p2⟩⟩, x6, x7⟩ := x
 have hu := Tryz.underlying37
 have hu2 := Tryz.underlying34
 have hu3 := Tryz.underlying35
 generalize hx : (⟨x0, x1, x2, x3, x4, ⟨⟨q0, q1, q2⟩, ⟨p0, p1, p2⟩⟩, x6, x7⟩ : S37) = x
 have e1 : pl1 x = (decide (x0 < 1) || (decide (x0 > 8) || ((x1 != 0 && x1 != 1) || (!smallB x4 || (!smallJ ⟨q0, q1, q2⟩ || !smallJ ⟨p0, p1, p2⟩))))) := by rw [← hx]; rfl
 have e2 : pl2 x = ((!armK x0 && x1 != 0) || ((!partK x0 && x2.toList != []) || ((!placeK x0 && x3.toList != []) || ((x0 != 6 && x4 != 0) || (x0 != 7 && decide ((x6.length : Int) > 0)))))) := by rw [← hx]; rfl
 have e3 : pl3 x = ((partK x0 && !rnameB x2) || (placeK x0 && !rnameB x3)) := by rw [← hx]; rfl
 have e4 : pl4 x 0 = ((x0 != 8 && (x0 != 1 || 0 != x1)) && !(q0 == 0 && (q1 == 0 && q2 == 0))) := by rw [← hx]; rfl
 have e5 : pl4 x 1 = ((x0 != 8 && (x0 != 1 || 1 != x1)) && !(p0 == 0 && (p1 == 0 && p2 == 0))) := by rw [← hx]; rfl
 have er : rplainS x = (!pl1 x && (!pl2 x && (!pl3 x && (!pl4 x 0 && !pl4 x 1)))) := rfl
 have ev : stmC x (.slice Ak x.f6.length ck) = #[.int .i64 x0, .int .i64 x1, .string x2, .string x3, .int .i64 x4, .int .i64 q0, .int .i64 q1, .int .i64 q2, .int .i64 p0, .int .i64 p1, .int .i64 p2, .slice Ak x6.length ck, .int .i64 x7] := by subst hx; rfl
 obtain ⟨C, hC⟩ : ∃ C, C = pC x0 x1 x2 x3 x4 q0 q1 q2 p0 p1 p2 (.slice Ak x6.length ck) x7 := ⟨_, rfl⟩
 have HF0 := Aside0.mk (show PnK w C ((w.alloc (.cells #[.int .i64 x0, .int .i64 x1, .string x2, .string x3, .int .i64 x4, .int .i64 q0, .int .i64 q1, .int .i64 q2, .int .i64 p0, .int .i64 p1, .int .i64 p2, .slice Ak x6.length ck, .int .i64 x7] 37)).alloc (.cells #[.int .i64 0, .int .i64 0, .int .i64 0] 34)) from
  ⟨below_alloc (below_alloc (Below.refl _ _) _) _, by rw [hC]; exact blk_alloc (alloc_at rfl) _, alloc_at (by first | rfl | simp)⟩)
 rw [ev]
 generalize pl1 x = a1 at *
 generalize pl2 x = a2 at *
 generalize pl3 x = a3 at *
 generalize pl4 x 0 = a4 at *
 generalize pl4 x 1 = a5 at *
 generalize rplainS x = r at *
 have HE1 := Aside0.mk e1
 have HE2 := Aside0.mk e2
 have HE3 := Aside0.mk e3
 have HE4 := Aside0.mk e4
 have HE5 := Aside0.mk e5
 have HER := Aside0.mk er
 have HC := Aside0.mk hC
 have hl0 : 0 ≤ (x6.length : Int) := by omega
 clear e1 e2 e3 e4 e5 er hx hC ev x
 go_enter Tryz.func37, Tryz.ntmps37
 go_upto_region 2 with fail
 generalize (w.alloc (.cells #[.int .i64 x0, .int .i64 x1, .string x2, .string x3, .int .i64 x4, .int .i64 q0, .int .i64 q1, .int .i64 q2, .int .i64 p0, .int .i64 p1, .int .i64 p2, .slice Ak x6.length ck, .int .i64 x7] 37)).alloc (.cells #[.int .i64 0, .int .i64 0, .int .i64 0] 34) = W0 at *
 go_cut [46] (fun s46 wx => s46 = .bool a1 ∧ Aside0 (PnK w C wx))
 case first =>
  as_aux_lemma =>
   have hz := pnRow HC.out HF0.out
   go_split_ands
   rcases (show decide (x0 < 1) = true ∨ (decide (x0 < 1) = false ∧ (decide (x0 > 8) = true ∨ (decide (x0 > 8) = false ∧ ((x1 != 0) = true ∧ (x1 != 1) = true ∨ ((x1 != 0) = false ∨ ((x1 != 0) = true ∧ (x1 != 1) = false)))))) from by cases decide (x0 < 1) <;> cases decide (x0 > 8) <;> cases (x1 != 0) <;> cases (x1 != 1) <;> simp) with h1 | ⟨h1, h2 | ⟨h2, ⟨h3, h4⟩ | h34⟩⟩
   · obtain rfl : a1 = true := by rw [HE1.out, h1]; simp
     go_wp2_with fail
     go_meet
     exact ⟨rfl, HF0⟩
   · obtain rfl : a1 = true := by rw [HE1.out, h1, h2]; simp
     go_wp2_with fail
     go_meet
     exact ⟨rfl, HF0⟩
   · obtain rfl : a1 = true := by rw [HE1.out, h1, h2, h3, h4]; simp
     go_wp2_with fail
     go_meet
     exact ⟨rfl, HF0⟩
   · have h5 : (x1 != 0 && x1 != 1) = false := by rcases h34 with h | ⟨h, h'⟩ <;> simp only [h, Bool.false_and]; rw [h']; rfl
     have HE1 := Aside0.mk (show a1 = (!smallB x4 || (!smallJ ⟨q0, q1, q2⟩ || !smallJ ⟨p0, p1, p2⟩)) from by rw [HE1.out, h1, h2, h5]; simp)
     clear h5
     rcases h34 with h3 | ⟨h3, h4⟩
     all_goals
      go_wp2_with fail
      refine (ambidexterref11_small.calls x4 _ _ (rsmall_f x4)).mono ?_
      rintro e w1 ⟨rfl, hd⟩
      have H1 := Aside0.mk (HF0.out.below (of_drawn hd))
      have hz := pnRow HC.out H1.out
      clear hd
      go_split_ands
      cases hs : smallB x4 with
      | false =>
       obtain rfl : a1 = true := by rw [HE1.out, hs]; rfl
       go_wp2_with fail
       go_meet
       exact ⟨rfl, H1⟩
      | true =>
       go_wp2_with fail
       refine (rsmalls_calls q0 q1 q2 _).mono ?_
       rintro e w2 ⟨rfl, hb⟩
       have H2 := Aside0.mk (H1.out.below hb)
       have hz := pnRow HC.out H2.out
       clear hb
       go_split_ands
       cases hj : smallJ ⟨q0, q1, q2⟩ with
       | false =>
        obtain rfl : a1 = true := by rw [HE1.out, hs, hj]; rfl
        go_wp2_with fail
        go_meet
        exact ⟨rfl, H2⟩
       | true =>
        go_wp2_with fail
        refine (rsmalls_calls p0 p1 p2 _).mono ?_
        rintro e w3 ⟨rfl, hb⟩
        have H3 := Aside0.mk (H2.out.below hb)
        clear hb
        have hv : a1 = !smallJ ⟨p0, p1, p2⟩ := by rw [HE1.out, hs, hj]; rfl
        subst hv
        go_wp2_with fail
        go_meet
        exact ⟨rfl, H3⟩
 case rest =>
  obtain ⟨rfl, HK⟩ := hcut
  obtain ⟨W1, hW1⟩ : ∃ W1, W1 = wc := ⟨_, rfl⟩
  subst hW1
  clear HF0
  cases a1 with
  | true =>
   clear HE1
   obtain rfl : r = false := by rw [HER.out]; rfl
   go_wp2_with fail
   go_ret
   exact ⟨rfl, HK.out.B⟩
  | false =>
   have HKD := Aside0.mk (show ¬ x0 < 1 ∧ ¬ x0 > 8 from by have h := HE1.out.symm; simp only [Bool.or_eq_false_iff, decide_eq_false_iff_not] at h; exact ⟨h.1, h.2.1⟩)
   clear HE1
   have hz := pnRow HC.out HK.out
   go_split_ands
   go_upto_region 4 with fail
   go_cut [4] (fun s4 wy => s4 = .bool (armK x0) ∧ wy = W1)
   case first =>
    rcases (show (x0 != 6) = false ∨ ((x0 != 6) = true ∧ (x0 != 7) = false) ∨ ((x0 != 6) = true ∧ (x0 != 7) = true) from by cases (x0 != 6) <;> cases (x0 != 7) <;> simp) with h6 | ⟨h6, h7⟩ | ⟨h6, h7⟩
    all_goals (go_wp2_with fail; go_meet; exact ⟨congrArg Value.bool (by unfold armK; first | (simp [h6]; done) | (simp [h6, h7]; done)), rfl⟩)
   case rest =>
   obtain ⟨rfl, hwc⟩ := hcut
   obtain rfl := hwc.symm
   go_upto_region 5 with fail
   go_cut [5] (fun s5 wy => s5 = .bool (partK x0) ∧ wy = W1)
   case first =>
    rcases (show (x0 == 3) = true ∨ (x0 == 3) = false from by cases (x0 == 3) <;> simp) with h6 | h6
    all_goals (go_wp2_with fail; go_meet; exact ⟨congrArg Value.bool (by unfold partK; simp [h6]), rfl⟩)
   case rest =>
   obtain ⟨rfl, hwc⟩ := hcut
   obtain rfl := hwc.symm
   go_upto_region 6 with fail
   go_cut [6] (fun s6 wy => s6 = .bool (placeK x0) ∧ wy = W1)
   case first =>
    rcases (show (x0 == 4) = true ∨ ((x0 == 4) = false ∧ (x0 == 5) = true) ∨ ((x0 == 4) = false ∧ (x0 == 5) = false) from by cases (x0 == 4) <;> cases (x0 == 5) <;> simp) with h6 | ⟨h6, h7⟩ | ⟨h6, h7⟩
    all_goals (go_wp2_with fail; go_meet; exact ⟨congrArg Value.bool (by unfold placeK; first | (simp [h6]; done) | (simp [h6, h7]; done)), rfl⟩)
   case rest =>
   obtain ⟨rfl, hwc⟩ := hcut
   obtain rfl := hwc.symm
   obtain ⟨ak, hak⟩ : ∃ b, b = armK x0 := ⟨_, rfl⟩
   obtain ⟨pk, hpk⟩ : ∃ b, b = partK x0 := ⟨_, rfl⟩
   obtain ⟨cq, hcq⟩ : ∃ b, b = placeK x0 := ⟨_, rfl⟩
   have HAK := Aside0.mk hak
   have HPK := Aside0.mk hpk
   have HCQ := Aside0.mk hcq
   rw [← hak, ← hpk] at HE2
   rw [← hcq] at HE2
   rw [← hpk, ← hcq] at HE3
   rw [← hak, ← hpk, ← hcq]
   clear hak hpk hcq
   go_upto_region 7 with fail
   go_cut [126] (fun s wy => s = .bool a2 ∧ wy = W1)
   case first =>
    have E1 := Aside0.mk (show (x1 != 0) = true ∨ (x1 != 0) = false from by cases (x1 != 0) <;> simp)
    have E2 := Aside0.mk (show ¬ x2.toList = [] ∨ x2.toList = [] from (Classical.em _).symm)
    have E3 := Aside0.mk (show ¬ x3.toList = [] ∨ x3.toList = [] from (Classical.em _).symm)
    have E4 := Aside0.mk (show (x4 != 0) = true ∨ (x4 != 0) = false from by cases (x4 != 0) <;> simp)
    have E5 := Aside0.mk (show 0 < x6.length ∨ ¬ 0 < x6.length from Classical.em _)
    rcases (show x0 = 1 ∨ x0 = 2 ∨ x0 = 3 ∨ x0 = 4 ∨ x0 = 5 ∨ x0 = 6 ∨ x0 = 7 ∨ x0 = 8 from by have h := HKD.out; omega) with rfl | rfl | rfl | rfl | rfl | rfl | rfl | rfl
    · as_aux_lemma =>
       obtain rfl : ak = true := HAK.out
       obtain rfl : pk = false := HPK.out
       obtain rfl : cq = false := HCQ.out
       rcases E2.out with h2 | h2
       · obtain rfl : a2 = true := (by rw [HE2.out]; simp [h2])
         go_wp2_with fail; go_meet; exact ⟨rfl, rfl⟩
       rcases E3.out with h3 | h3
       · obtain rfl : a2 = true := (by rw [HE2.out]; simp [h2, h3])
         go_wp2_with fail; go_meet; exact ⟨rfl, rfl⟩
       rcases E4.out with h4 | h4
       · obtain rfl : a2 = true := (by rw [HE2.out]; simp [h2, h3, h4])
         go_wp2_with fail; go_meet; exact ⟨rfl, rfl⟩
       rcases E5.out with h5 | h5
       · obtain rfl : a2 = true := (by rw [HE2.out]; simp [h2, h3, h4, h5])
         go_wp2_with fail; go_meet; exact ⟨rfl, rfl⟩
       obtain rfl : a2 = false := (by rw [HE2.out]; simp [h2, h3, h4, h5])
       go_wp2_with fail; go_meet; exact ⟨rfl, rfl⟩
    · as_aux_lemma =>
       obtain rfl : ak = true := HAK.out
       obtain rfl : pk = false := HPK.out
       obtain rfl : cq = false := HCQ.out
       rcases E2.out with h2 | h2
       · obtain rfl : a2 = true := (by rw [HE2.out]; simp [h2])
         go_wp2_with fail; go_meet; exact ⟨rfl, rfl⟩
       rcases E3.out with h3 | h3
       · obtain rfl : a2 = true := (by rw [HE2.out]; simp [h2, h3])
         go_wp2_with fail; go_meet; exact ⟨rfl, rfl⟩
       rcases E4.out with h4 | h4
       · obtain rfl : a2 = true := (by rw [HE2.out]; simp [h2, h3, h4])
         go_wp2_with fail; go_meet; exact ⟨rfl, rfl⟩
       rcases E5.out with h5 | h5
       · obtain rfl : a2 = true := (by rw [HE2.out]; simp [h2, h3, h4, h5])
         go_wp2_with fail; go_meet; exact ⟨rfl, rfl⟩
       obtain rfl : a2 = false := (by rw [HE2.out]; simp [h2, h3, h4, h5])
       go_wp2_with fail; go_meet; exact ⟨rfl, rfl⟩
    · as_aux_lemma =>
       obtain rfl : ak = true := HAK.out
       obtain rfl : pk = true := HPK.out
       obtain rfl : cq = false := HCQ.out
       rcases E3.out with h3 | h3
       · obtain rfl : a2 = true := (by rw [HE2.out]; simp [h3])
         go_wp2_with fail; go_meet; exact ⟨rfl, rfl⟩
       rcases E4.out with h4 | h4
       · obtain rfl : a2 = true := (by rw [HE2.out]; simp [h3, h4])
         go_wp2_with fail; go_meet; exact ⟨rfl, rfl⟩
       rcases E5.out with h5 | h5
       · obtain rfl : a2 = true := (by rw [HE2.out]; simp [h3, h4, h5])
         go_wp2_with fail; go_meet; exact ⟨rfl, rfl⟩
       obtain rfl : a2 = false := (by rw [HE2.out]; simp [h3, h4, h5])
       go_wp2_with fail; go_meet; exact ⟨rfl, rfl⟩
    · as_aux_lemma =>
       obtain rfl : ak = true := HAK.out
       obtain rfl : pk = false := HPK.out
       obtain rfl : cq = true := HCQ.out
       rcases E2.out with h2 | h2
       · obtain rfl : a2 = true := (by rw [HE2.out]; simp [h2])
         go_wp2_with fail; go_meet; exact ⟨rfl, rfl⟩
       rcases E4.out with h4 | h4
       · obtain rfl : a2 = true := (by rw [HE2.out]; simp [h2, h4])
         go_wp2_with fail; go_meet; exact ⟨rfl, rfl⟩
       rcases E5.out with h5 | h5
       · obtain rfl : a2 = true := (by rw [HE2.out]; simp [h2, h4, h5])
         go_wp2_with fail; go_meet; exact ⟨rfl, rfl⟩
       obtain rfl : a2 = false := (by rw [HE2.out]; simp [h2, h4, h5])
       go_wp2_with fail; go_meet; exact ⟨rfl, rfl⟩
    · as_aux_lemma =>
       obtain rfl : ak = true := HAK.out
       obtain rfl : pk = false := HPK.out
       obtain rfl : cq = true := HCQ.out
       rcases E2.out with h2 | h2
       · obtain rfl : a2 = true := (by rw [HE2.out]; simp [h2])
         go_wp2_with fail; go_meet; exact ⟨rfl, rfl⟩
       rcases E4.out with h4 | h4
       · obtain rfl : a2 = true := (by rw [HE2.out]; simp [h2, h4])
         go_wp2_with fail; go_meet; exact ⟨rfl, rfl⟩
       rcases E5.out with h5 | h5
       · obtain rfl : a2 = true := (by rw [HE2.out]; simp [h2, h4, h5])
         go_wp2_with fail; go_meet; exact ⟨rfl, rfl⟩
       obtain rfl : a2 = false := (by rw [HE2.out]; simp [h2, h4, h5])
       go_wp2_with fail; go_meet; exact ⟨rfl, rfl⟩
    · as_aux_lemma =>
       obtain rfl : ak = false := HAK.out
       obtain rfl : pk = false := HPK.out
       obtain rfl : cq = false := HCQ.out
       rcases E1.out with h1 | h1
       · obtain rfl : a2 = true := (by rw [HE2.out]; simp [h1])
         go_wp2_with fail; go_meet; exact ⟨rfl, rfl⟩
       rcases E2.out with h2 | h2
       · obtain rfl : a2 = true := (by rw [HE2.out]; simp [h1, h2])
         go_wp2_with fail; go_meet; exact ⟨rfl, rfl⟩
       rcases E3.out with h3 | h3
       · obtain rfl : a2 = true := (by rw [HE2.out]; simp [h1, h2, h3])
         go_wp2_with fail; go_meet; exact ⟨rfl, rfl⟩
       rcases E5.out with h5 | h5
       · obtain rfl : a2 = true := (by rw [HE2.out]; simp [h1, h2, h3, h5])
         go_wp2_with fail; go_meet; exact ⟨rfl, rfl⟩
       obtain rfl : a2 = false := (by rw [HE2.out]; simp [h1, h2, h3, h5])
       go_wp2_with fail; go_meet; exact ⟨rfl, rfl⟩
    · as_aux_lemma =>
       obtain rfl : ak = false := HAK.out
       obtain rfl : pk = true := HPK.out
       obtain rfl : cq = true := HCQ.out
       rcases E1.out with h1 | h1
       · obtain rfl : a2 = true := (by rw [HE2.out]; simp [h1])
         go_wp2_with fail; go_meet; exact ⟨rfl, rfl⟩
       rcases E4.out with h4 | h4
       · obtain rfl : a2 = true := (by rw [HE2.out]; simp [h1, h4])
         go_wp2_with fail; go_meet; exact ⟨rfl, rfl⟩
       obtain rfl : a2 = false := (by rw [HE2.out]; simp [h1, h4])
       go_wp2_with fail; go_meet; exact ⟨rfl, rfl⟩
    · as_aux_lemma =>
       obtain rfl : ak = false := HAK.out
       obtain rfl : pk = false := HPK.out
       obtain rfl : cq = false := HCQ.out
       rcases E1.out with h1 | h1
       · obtain rfl : a2 = true := (by rw [HE2.out]; simp [h1])
         go_wp2_with fail; go_meet; exact ⟨rfl, rfl⟩
       rcases E2.out with h2 | h2
       · obtain rfl : a2 = true := (by rw [HE2.out]; simp [h1, h2])
         go_wp2_with fail; go_meet; exact ⟨rfl, rfl⟩
       rcases E3.out with h3 | h3
       · obtain rfl : a2 = true := (by rw [HE2.out]; simp [h1, h2, h3])
         go_wp2_with fail; go_meet; exact ⟨rfl, rfl⟩
       rcases E4.out with h4 | h4
       · obtain rfl : a2 = true := (by rw [HE2.out]; simp [h1, h2, h3, h4])
         go_wp2_with fail; go_meet; exact ⟨rfl, rfl⟩
       rcases E5.out with h5 | h5
       · obtain rfl : a2 = true := (by rw [HE2.out]; simp [h1, h2, h3, h4, h5])
         go_wp2_with fail; go_meet; exact ⟨rfl, rfl⟩
       obtain rfl : a2 = false := (by rw [HE2.out]; simp [h1, h2, h3, h4, h5])
       go_wp2_with fail; go_meet; exact ⟨rfl, rfl⟩
   case rest =>
   obtain ⟨rfl, hwc⟩ := hcut
   obtain rfl := hwc.symm
   clear HE2
   cases a2 with
   | true =>
    obtain rfl : r = false := by rw [HER.out]; rfl
    go_wp2_with fail
    go_ret
    exact ⟨rfl, HK.out.B⟩
   | false =>
    go_upto_region 9 with fail
    go_cut [142] (fun s wy => s = .bool a3 ∧ Aside0 (PnK w C wy))
    case first =>
     as_aux_lemma =>
      cases pk with
      | false =>
       cases cq with
       | false =>
        obtain rfl : a3 = false := by rw [HE3.out]; rfl
        go_wp2_with fail
        go_meet
        exact ⟨rfl, HK⟩
       | true =>
        obtain rfl : a3 = !rnameB x3 := by rw [HE3.out]; simp
        go_wp2_with fail
        refine (ambidexterref11_Name.calls 40 x3 _ _ (rname_both x3).1).mono ?_
        rintro e w1 ⟨rfl, hb⟩
        have H1 := Aside0.mk (HK.out.below hb)
        clear hb
        go_wp2_with fail
        go_meet
        exact ⟨rfl, H1⟩
      | true =>
       go_wp2_with fail
       refine (ambidexterref11_Name.calls 40 x2 _ _ (rname_both x2).1).mono ?_
       rintro e w1 ⟨rfl, hb⟩
       have H1 := Aside0.mk (HK.out.below hb)
       have hz := pnRow HC.out H1.out
       clear hb
       go_split_ands
       cases hn : rnameB x2 with
       | false =>
        obtain rfl : a3 = true := by rw [HE3.out, hn]; rfl
        go_wp2_with fail
        go_meet
        exact ⟨rfl, H1⟩
       | true =>
        cases cq with
        | false =>
         obtain rfl : a3 = false := by rw [HE3.out, hn]; rfl
         go_wp2_with fail
         go_meet
         exact ⟨rfl, H1⟩
        | true =>
         obtain rfl : a3 = !rnameB x3 := by rw [HE3.out, hn]; simp
         go_wp2_with fail
         refine (ambidexterref11_Name.calls 40 x3 _ _ (rname_both x3).1).mono ?_
         rintro e w2 ⟨rfl, hb⟩
         have H2 := Aside0.mk (H1.out.below hb)
         clear hb
         go_wp2_with fail
         go_meet
         exact ⟨rfl, H2⟩
    case rest =>
    clear HK
    obtain ⟨rfl, HK⟩ := hcut
    clear HE3
    cases a3 with
    | true =>
     obtain rfl : r = false := by rw [HER.out]; rfl
     go_wp2_with fail
     go_ret
     exact ⟨rfl, HK.out.B⟩
    | false =>
     go_wp2_with fail
     go_loopg [7] 2 (fun kq v7 wr => ∃ i : Nat, v7 = .int .i64 i ∧ Aside0 (i + kq = 2 ∧ r = tl4 a4 a5 i ∧ PnK w C wr))
     case atStart => exact ⟨0, rfl, ⟨rfl, by rw [HER.out]; rfl, HK.out⟩⟩
     case round =>
      clear HK HER
      obtain ⟨i, rfl, ⟨hk, hr, hK⟩⟩ := hrel
      have HK := Aside0.mk hK
      have HR := Aside0.mk hr
      clear hK hr
      rcases gk with _ | k1
      · obtain rfl : i = 2 := by omega
        obtain rfl : r = true := HR.out
        clear hk
        go_wp2_with fail
        go_ret
        exact ⟨rfl, HK.out.B⟩
      · have hz := pnRow HC.out HK.out
        have hzz := row3_held HK.out.Z
        go_split_ands
        have HKk := Aside0.mk hk
        rcases (show i = 0 ∨ i = 1 from by omega) with rfl | rfl
        all_goals clear hk
        · as_aux_lemma =>
          rcases (show (x0 != 8) = false ∨ ((x0 != 8) = true ∧ ((x0 != 1) = false ∧ (0 != x1) = false ∨ ((x0 != 1) = true ∨ ((x0 != 1) = false ∧ (0 != x1) = true)))) from by cases (x0 != 8) <;> cases (x0 != 1) <;> cases (0 != x1) <;> simp) with m1 | ⟨m1, ⟨m2, m3⟩ | m23⟩
          · obtain rfl : a4 = false := (by rw [HE4.out, m1]; simp)
            (go_upto_region 14 with fail; go_quiet (fail); all_goals (go_wp2_with fail; (first | done | (go_roundg k1; (case measure => exact Nat.lt_succ_self _); (case rel => exact ⟨1, rfl, ⟨by have := HKk.out; omega, HR.out.trans (by simp [tl4]), HK.out.below (by repeat (first | exact Below.refl _ _ | refine below_drew ?_ | refine pw_below_drewN ?_ _))⟩⟩)))))
          · obtain rfl : a4 = false := (by rw [HE4.out, m1, m2, m3]; simp)
            (go_upto_region 14 with fail; go_quiet (fail); all_goals (go_wp2_with fail; (first | done | (go_roundg k1; (case measure => exact Nat.lt_succ_self _); (case rel => exact ⟨1, rfl, ⟨by have := HKk.out; omega, HR.out.trans (by simp [tl4]), HK.out.below (by repeat (first | exact Below.refl _ _ | refine below_drew ?_ | refine pw_below_drewN ?_ _))⟩⟩)))))
          · have hm : (x0 != 8 && (x0 != 1 || 0 != x1)) = true := by rcases m23 with h | ⟨h, h'⟩ <;> rw [m1, h] <;> simp [*]
            have HQ := Aside0.mk (show a4 = !(q0 == 0 && (q1 == 0 && q2 == 0)) from by rw [HE4.out, hm]; simp)
            clear hm
            rcases (show (q0 == 0) = false ∨ ((q0 == 0) = true ∧ ((q1 == 0) = false ∨ ((q1 == 0) = true ∧ ((q2 == 0) = false ∨ (q2 == 0) = true)))) from by cases (q0 == 0) <;> cases (q1 == 0) <;> cases (q2 == 0) <;> simp) with n0 | ⟨n0, n1 | ⟨n1, n2 | n2⟩⟩
            · obtain rfl : a4 = true := (by rw [HQ.out, n0]; simp)
              obtain rfl : r = false := HR.out.trans (by simp [tl4])
              rcases m23 with m2 | ⟨m2, m3⟩
              all_goals (go_upto_region 14 with fail; go_quiet (fail); all_goals (go_wp2_with fail; go_ret; exact ⟨rfl, by repeat (first | exact HK.out.B | refine below_drew ?_ | refine pw_below_drewN ?_ _)⟩))
            · obtain rfl : a4 = true := (by rw [HQ.out, n0, n1]; simp)
              obtain rfl : r = false := HR.out.trans (by simp [tl4])
              rcases m23 with m2 | ⟨m2, m3⟩
              all_goals (go_upto_region 14 with fail; go_quiet (fail); all_goals (go_wp2_with fail; go_ret; exact ⟨rfl, by repeat (first | exact HK.out.B | refine below_drew ?_ | refine pw_below_drewN ?_ _)⟩))
            · obtain rfl : a4 = true := (by rw [HQ.out, n0, n1, n2]; simp)
              obtain rfl : r = false := HR.out.trans (by simp [tl4])
              rcases m23 with m2 | ⟨m2, m3⟩
              all_goals (go_upto_region 14 with fail; go_quiet (fail); all_goals (go_wp2_with fail; go_ret; exact ⟨rfl, by repeat (first | exact HK.out.B | refine below_drew ?_ | refine pw_below_drewN ?_ _)⟩))
            · obtain rfl : a4 = false := (by rw [HQ.out, n0, n1, n2]; simp)
              rcases m23 with m2 | ⟨m2, m3⟩
              all_goals (go_upto_region 14 with fail; go_quiet (fail); all_goals (go_wp2_with fail; (first | done | (go_roundg k1; (case measure => exact Nat.lt_succ_self _); (case rel => exact ⟨1, rfl, ⟨by have := HKk.out; omega, HR.out.trans (by simp [tl4]), HK.out.below (by repeat (first | exact Below.refl _ _ | refine below_drew ?_ | refine pw_below_drewN ?_ _))⟩⟩)))))
        · as_aux_lemma =>
          rcases (show (x0 != 8) = false ∨ ((x0 != 8) = true ∧ ((x0 != 1) = false ∧ (1 != x1) = false ∨ ((x0 != 1) = true ∨ ((x0 != 1) = false ∧ (1 != x1) = true)))) from by cases (x0 != 8) <;> cases (x0 != 1) <;> cases (1 != x1) <;> simp) with m1 | ⟨m1, ⟨m2, m3⟩ | m23⟩
          · obtain rfl : a5 = false := (by rw [HE5.out, m1]; simp)
            (go_upto_region 14 with fail; go_quiet (fail); all_goals (go_wp2_with fail; (first | done | (go_roundg k1; (case measure => exact Nat.lt_succ_self _); (case rel => exact ⟨2, rfl, ⟨by have := HKk.out; omega, HR.out.trans (by simp [tl4]), HK.out.below (by repeat (first | exact Below.refl _ _ | refine below_drew ?_ | refine pw_below_drewN ?_ _))⟩⟩)))))
          · obtain rfl : a5 = false := (by rw [HE5.out, m1, m2, m3]; simp)
            (go_upto_region 14 with fail; go_quiet (fail); all_goals (go_wp2_with fail; (first | done | (go_roundg k1; (case measure => exact Nat.lt_succ_self _); (case rel => exact ⟨2, rfl, ⟨by have := HKk.out; omega, HR.out.trans (by simp [tl4]), HK.out.below (by repeat (first | exact Below.refl _ _ | refine below_drew ?_ | refine pw_below_drewN ?_ _))⟩⟩)))))
          · have hm : (x0 != 8 && (x0 != 1 || 1 != x1)) = true := by rcases m23 with h | ⟨h, h'⟩ <;> rw [m1, h] <;> simp [*]
            have HQ := Aside0.mk (show a5 = !(p0 == 0 && (p1 == 0 && p2 == 0)) from by rw [HE5.out, hm]; simp)
            clear hm
            rcases (show (p0 == 0) = false ∨ ((p0 == 0) = true ∧ ((p1 == 0) = false ∨ ((p1 == 0) = true ∧ ((p2 == 0) = false ∨ (p2 == 0) = true)))) from by cases (p0 == 0) <;> cases (p1 == 0) <;> cases (p2 == 0) <;> simp) with n0 | ⟨n0, n1 | ⟨n1, n2 | n2⟩⟩
            · obtain rfl : a5 = true := (by rw [HQ.out, n0]; simp)
              obtain rfl : r = false := HR.out.trans (by simp [tl4])
              rcases m23 with m2 | ⟨m2, m3⟩
              all_goals (go_upto_region 14 with fail; go_quiet (fail); all_goals (go_wp2_with fail; go_ret; exact ⟨rfl, by repeat (first | exact HK.out.B | refine below_drew ?_ | refine pw_below_drewN ?_ _)⟩))
            · obtain rfl : a5 = true := (by rw [HQ.out, n0, n1]; simp)
              obtain rfl : r = false := HR.out.trans (by simp [tl4])
              rcases m23 with m2 | ⟨m2, m3⟩
              all_goals (go_upto_region 14 with fail; go_quiet (fail); all_goals (go_wp2_with fail; go_ret; exact ⟨rfl, by repeat (first | exact HK.out.B | refine below_drew ?_ | refine pw_below_drewN ?_ _)⟩))
            · obtain rfl : a5 = true := (by rw [HQ.out, n0, n1, n2]; simp)
              obtain rfl : r = false := HR.out.trans (by simp [tl4])
              rcases m23 with m2 | ⟨m2, m3⟩
              all_goals (go_upto_region 14 with fail; go_quiet (fail); all_goals (go_wp2_with fail; go_ret; exact ⟨rfl, by repeat (first | exact HK.out.B | refine below_drew ?_ | refine pw_below_drewN ?_ _)⟩))
            · obtain rfl : a5 = false := (by rw [HQ.out, n0, n1, n2]; simp)
              rcases m23 with m2 | ⟨m2, m3⟩
              all_goals (go_upto_region 14 with fail; go_quiet (fail); all_goals (go_wp2_with fail; (first | done | (go_roundg k1; (case measure => exact Nat.lt_succ_self _); (case rel => exact ⟨2, rfl, ⟨by have := HKk.out; omega, HR.out.trans (by simp [tl4]), HK.out.below (by repeat (first | exact Below.refl _ _ | refine below_drew ?_ | refine pw_below_drewN ?_ _))⟩⟩)))))
end
end Go.Proofs.YtonhcfecfifghaaGreatDoor.PPx
