/- Part E of the proof of ParserMatchesReference: the contracts of the functions that the law reaches, and what their plain functions compute. No condition. -/
import Derived.Test.YtonhcfecfifghaaGreatDoorParserMatchesReferencePA
import Derived.Test.YtonhcfecfifghaaGreatDoorParserMatchesReferencePB
import Derived.Test.YtonhcfecfifghaaGreatDoorParserMatchesReferencePD
import Derived.BigRegion
import Derived.Lib.AppendIntMem
set_option maxHeartbeats 40000000
set_option maxRecDepth 100000
namespace Go.Proofs.YtonhcfecfifghaaGreatDoor.PPx
open Go.RowKit Go.Proofs.YtonhcfecfifghaaGreatDoorW.PrintWords Go.Proofs.YtonhcfecfifghaaGreatDoorW.PrintLast Go.Proofs.YtonhcfecfifghaaGreatDoorW.PrintMore
set_option linter.unusedVariables false
set_option linter.unusedSimpArgs false
theorem eqInt (d : Nat) (w : World) (x y : Int) : (Op.equalIn (d + 1) 3 (.int .i64 x) (.int .i64 y)).run Tryz.prog w = .ok (x == y) w := by go_simp
theorem eqA34 (d : Nat) (w : World) (x0 y0 : Int) (x1 y1 : Int) (x2 y2 : Int) :
 (Op.equalIn (d + 2) 34 (.agg #[.int .i64 x0, .int .i64 x1, .int .i64 x2]) (.agg #[.int .i64 y0, .int .i64 y1, .int .i64 y2])).run Tryz.prog w = .ok (x0 == y0 && (x1 == y1 && (x2 == y2))) w := by
 have hs : (sizeOf 3).run Tryz.prog w = .ok 1 w := by kernel_rfl
 have p0 : ∀ (a b c : Int), (part 3 #[.int .i64 a, .int .i64 b, .int .i64 c] 0).run Tryz.prog w = .ok (.int .i64 a) w := fun _ _ _ => by kernel_rfl
 have p1 : ∀ (a b c : Int), (part 3 #[.int .i64 a, .int .i64 b, .int .i64 c] 1).run Tryz.prog w = .ok (.int .i64 b) w := fun _ _ _ => by kernel_rfl
 have p2 : ∀ (a b c : Int), (part 3 #[.int .i64 a, .int .i64 b, .int .i64 c] 2).run Tryz.prog w = .ok (.int .i64 c) w := fun _ _ _ => by kernel_rfl
 have hi := eqInt d w
 unfold Op.equalIn
 simp only [Sem.run_bind, run_underlying Tryz.underlying34, Result.andThen_ok, hs]
 simp [List.range', Sem.run_bind, p0, p1, p2, hi]
 cases h0 : (x0 == y0) <;> cases h1 : (x1 == y1) <;> cases h2 : (x2 == y2) <;> simp_all
theorem eqA35 (d : Nat) (w : World) (x0 y0 : Int) (x1 y1 : Int) (x2 y2 : Int) (x3 y3 : Int) (x4 y4 : Int) (x5 y5 : Int) :
 (Op.equalIn (d + 3) 35 (.agg #[.int .i64 x0, .int .i64 x1, .int .i64 x2, .int .i64 x3, .int .i64 x4, .int .i64 x5]) (.agg #[.int .i64 y0, .int .i64 y1, .int .i64 y2, .int .i64 y3, .int .i64 y4, .int .i64 y5])).run Tryz.prog w = .ok ((x0 == y0 && (x1 == y1 && (x2 == y2))) && ((x3 == y3 && (x4 == y4 && (x5 == y5))))) w := by
 have hs : (sizeOf 34).run Tryz.prog w = .ok 3 w := by kernel_rfl
 have p0 : ∀ (a b c a' b' c' : Int), (part 34 #[.int .i64 a, .int .i64 b, .int .i64 c, .int .i64 a', .int .i64 b', .int .i64 c'] 0).run Tryz.prog w = .ok (.agg #[.int .i64 a, .int .i64 b, .int .i64 c]) w := fun _ _ _ _ _ _ => by kernel_rfl
 have p1 : ∀ (a b c a' b' c' : Int), (part 34 #[.int .i64 a, .int .i64 b, .int .i64 c, .int .i64 a', .int .i64 b', .int .i64 c'] 3).run Tryz.prog w = .ok (.agg #[.int .i64 a', .int .i64 b', .int .i64 c']) w := fun _ _ _ _ _ _ => by kernel_rfl
 have hi := eqA34 d w
 unfold Op.equalIn
 simp only [Sem.run_bind, run_underlying Tryz.underlying35, Result.andThen_ok, hs]
 simp [List.range', Sem.run_bind, p0, p1, hi]
 cases h0 : (x0 == y0 && (x1 == y1 && (x2 == y2))) <;> cases h1 : (x3 == y3 && (x4 == y4 && (x5 == y5))) <;> simp_all
section
attribute [local go_sem high] eqA35
def sameE (EQ : List (S37) → List (S37) → Option Bool) (a0_0 : Int) (a0_1 : Int) (a0_2 : ByteArray) (a0_3 : ByteArray) (a0_4 : Int) (a0_5 : Int) (a0_6 : Int) (a0_7 : Int) (a0_8 : Int) (a0_9 : Int) (a0_10 : Int) (l0_11 : List (S37)) (a0_12 : Int) (a1_0 : Int) (a1_1 : Int) (a1_2 : ByteArray) (a1_3 : ByteArray) (a1_4 : Int) (a1_5 : Int) (a1_6 : Int) (a1_7 : Int) (a1_8 : Int) (a1_9 : Int) (a1_10 : Int) (l1_11 : List (S37)) (a1_12 : Int) : Option (Bool) := if a0_0 = a1_0 then (if a0_1 = a1_1 then (if a0_2.toList = a1_2.toList then (if a0_3.toList = a1_3.toList then (if a0_4 = a1_4 then (if ((a0_5 == a1_5 && (a0_6 == a1_6 && (a0_7 == a1_7))) && ((a0_8 == a1_8 && (a0_9 == a1_9 && (a0_10 == a1_10))))) = true then ((EQ l0_11 l1_11).bind fun t103 => (some t103)) else (some false)) else (some false)) else (some false)) else (some false)) else (some false)) else (some false)
theorem sameE_calls (EQ : List (S37) → List (S37) → Option Bool) (HE : Aside0 (∀ (A0 : Option Addr) (c0 : Nat) (l0 : List (S37)) (A1 : Option Addr) (c1 : Nat) (l1 : List (S37)) (r : Bool) (w : World), Kd.C k37 w A0 l0.length l0 → l0.length ≤ c0 → Kd.C k37 w A1 l1.length l1 → l1.length ≤ c1 → EQ l0 l1 = some r → Calls Tryz.prog 12 #[.slice A0 l0.length c0, .slice A1 l1.length c1] w fun e w' => e = .returned (.bool r) ∧ Below w.heap.size w w')) (a0_0 : Int) (a0_1 : Int) (a0_2 : ByteArray) (a0_3 : ByteArray) (a0_4 : Int) (a0_5 : Int) (a0_6 : Int) (a0_7 : Int) (a0_8 : Int) (a0_9 : Int) (a0_10 : Int) (A0_11 : Option Addr) (c0_11 : Nat) (l0_11 : List (S37)) (a0_12 : Int) (a1_0 : Int) (a1_1 : Int) (a1_2 : ByteArray) (a1_3 : ByteArray) (a1_4 : Int) (a1_5 : Int) (a1_6 : Int) (a1_7 : Int) (a1_8 : Int) (a1_9 : Int) (a1_10 : Int) (A1_11 : Option Addr) (c1_11 : Nat) (l1_11 : List (S37)) (a1_12 : Int) (r : Bool) (w : World) (hr0_11 : Kd.C k37 w A0_11 l0_11.length l0_11) (hc0_11 : l0_11.length ≤ c0_11) (hr1_11 : Kd.C k37 w A1_11 l1_11.length l1_11) (hc1_11 : l1_11.length ≤ c1_11) (h : sameE EQ a0_0 a0_1 a0_2 a0_3 a0_4 a0_5 a0_6 a0_7 a0_8 a0_9 a0_10 l0_11 a0_12 a1_0 a1_1 a1_2 a1_3 a1_4 a1_5 a1_6 a1_7 a1_8 a1_9 a1_10 l1_11 a1_12 = some r) :
 Calls Tryz.prog 24 #[.agg #[.int .i64 a0_0, .int .i64 a0_1, .string a0_2, .string a0_3, .int .i64 a0_4, .int .i64 a0_5, .int .i64 a0_6, .int .i64 a0_7, .int .i64 a0_8, .int .i64 a0_9, .int .i64 a0_10, .slice A0_11 l0_11.length c0_11, .int .i64 a0_12], .agg #[.int .i64 a1_0, .int .i64 a1_1, .string a1_2, .string a1_3, .int .i64 a1_4, .int .i64 a1_5, .int .i64 a1_6, .int .i64 a1_7, .int .i64 a1_8, .int .i64 a1_9, .int .i64 a1_10, .slice A1_11 l1_11.length c1_11, .int .i64 a1_12]] w fun e w' => e = .returned (.bool r) ∧ Below w.heap.size w w' := by
 have hu55 := Tryz.underlying37
 have hu53 := Tryz.underlying35
 have HR0_11 := Aside0.mk hr0_11
 have HC0_11 := Aside0.mk hc0_11
 clear hr0_11 hc0_11
 have HR1_11 := Aside0.mk hr1_11
 have HC1_11 := Aside0.mk hc1_11
 clear hr1_11 hc1_11
 have HB := Aside0.mk (Below.refl w.heap.size w)
 have H : (if a0_0 = a1_0 then (if a0_1 = a1_1 then (if a0_2.toList = a1_2.toList then (if a0_3.toList = a1_3.toList then (if a0_4 = a1_4 then (if ((a0_5 == a1_5 && (a0_6 == a1_6 && (a0_7 == a1_7))) && ((a0_8 == a1_8 && (a0_9 == a1_9 && (a0_10 == a1_10))))) = true then ((EQ l0_11 l1_11).bind fun t103 => (some t103)) else (some false)) else (some false)) else (some false)) else (some false)) else (some false)) else (some false)) = some r := h
 clear h
 by_cases c3 : a0_0 = a1_0
 · rw [if_pos c3] at H
   have c3b0 : (a0_0 == a1_0) = true := beq_iff_eq.mpr c3
   have c3b1 : (a0_0 != a1_0) = false := bne_eq_false_iff_eq.mpr c3
   clear c3
   by_cases c4 : a0_1 = a1_1
   · rw [if_pos c4] at H
     have c4b0 : (a0_1 == a1_1) = true := beq_iff_eq.mpr c4
     have c4b1 : (a0_1 != a1_1) = false := bne_eq_false_iff_eq.mpr c4
     clear c4
     by_cases c5 : a0_2.toList = a1_2.toList
     · rw [if_pos c5] at H
       have c5b0 : (a0_2.toList == a1_2.toList) = true := beq_iff_eq.mpr c5
       have c5b1 : (a0_2.toList != a1_2.toList) = false := bne_eq_false_iff_eq.mpr c5
       clear c5
       by_cases c6 : a0_3.toList = a1_3.toList
       · rw [if_pos c6] at H
         have c6b0 : (a0_3.toList == a1_3.toList) = true := beq_iff_eq.mpr c6
         have c6b1 : (a0_3.toList != a1_3.toList) = false := bne_eq_false_iff_eq.mpr c6
         clear c6
         by_cases c7 : a0_4 = a1_4
         · rw [if_pos c7] at H
           have c7b0 : (a0_4 == a1_4) = true := beq_iff_eq.mpr c7
           have c7b1 : (a0_4 != a1_4) = false := bne_eq_false_iff_eq.mpr c7
           clear c7
           by_cases c8 : ((a0_5 == a1_5 && (a0_6 == a1_6 && (a0_7 == a1_7))) && ((a0_8 == a1_8 && (a0_9 == a1_9 && (a0_10 == a1_10))))) = true
           · rw [if_pos c8] at H
             have c8b0 : ((a0_5 == a1_5 && (a0_6 == a1_6 && (a0_7 == a1_7))) && ((a0_8 == a1_8 && (a0_9 == a1_9 && (a0_10 == a1_10))))) = true := c8
             clear c8
             replace H := Option.bind_eq_some_iff.mp H
             obtain ⟨t103, A90, H⟩ := H
             replace H : (some t103) = some r := H
             have A9 := Aside0.mk A90
             clear A90
             obtain rfl := Option.some.inj H
             go_enter Tryz.func24, Tryz.ntmps24
             go_wp2_with (first | ((with_reducible refine gate_dst (N := 2) rfl ?_); refine box_event ?hg (N := 2) ?hd (cs := #[.int .i64 a0_0, .int .i64 a0_1, .string a0_2, .string a0_3, .int .i64 a0_4, .int .i64 a0_5, .int .i64 a0_6, .int .i64 a0_7, .int .i64 a0_8, .int .i64 a0_9, .int .i64 a0_10, .slice A0_11 l0_11.length c0_11, .int .i64 a0_12]) (t := 37) ?hr ?_; (case hd => rfl); (case hg => rfl); (case hr => first | (go_simp; done) | (go_simp; rfl)); intro gb101 hg w10 hbox hb; have n0_ := Aside0.mk (below_step (by exact up_ HB.out) hb); have n1_ := Aside0.mk (hbox); have n2_ := Aside0.mk ((by rw [hg]; exact (below_size (by exact up_ HB.out)) : w.heap.size ≤ gb101)); have n3_ := Aside0.mk ((by rw [hg]; exact (below_size (by exact up_ HB.out)) : w.heap.size ≤ gb101)); clear HB; have HB := n0_; have BK101 := n1_; have GW101 := n2_; have GE101 := n3_; clear n0_ n1_ n2_ n3_; clear hb hbox hg) | ((with_reducible refine gate_dst (N := 3) rfl ?_); refine box_event ?hg (N := 3) ?hd (cs := #[.int .i64 a1_0, .int .i64 a1_1, .string a1_2, .string a1_3, .int .i64 a1_4, .int .i64 a1_5, .int .i64 a1_6, .int .i64 a1_7, .int .i64 a1_8, .int .i64 a1_9, .int .i64 a1_10, .slice A1_11 l1_11.length c1_11, .int .i64 a1_12]) (t := 37) ?hr ?_; (case hd => rfl); (case hg => rfl); (case hr => first | (go_simp; done) | (go_simp; rfl)); intro gb102 hg w11 hbox hb; have n0_ := Aside0.mk (blk_below (g := gb101) (by exact ub_ BK101.out) hb); have n1_ := Aside0.mk (below_step (by repeat (with_reducible first | exact HB.out | apply below_alloc | apply pw_below_drewN | apply below_drew1 | refine below_set ?_ GE101.out)) hb); have n2_ := Aside0.mk (hbox); have n3_ := Aside0.mk ((by rw [hg]; exact (below_size (by repeat (with_reducible first | exact HB.out | apply below_alloc | apply pw_below_drewN | apply below_drew1 | refine below_set ?_ GE101.out))) : w.heap.size ≤ gb102)); have n4_ := Aside0.mk ((by rw [hg]; exact (below_size (by repeat (with_reducible first | exact HB.out | apply below_alloc | apply pw_below_drewN | apply below_drew1 | refine below_set ?_ GE101.out))) : w.heap.size ≤ gb102)); have n5_ := Aside0.mk ((by rw [hg]; exact Nat.ne_of_lt (blk_lt (g := gb101) (by exact ub_ BK101.out)) : gb101 ≠ gb102)); have n6_ := Aside0.mk ((by rw [hg]; exact Nat.ne_of_gt (blk_lt (g := gb101) (by exact ub_ BK101.out)) : gb102 ≠ gb101)); clear BK101; clear HB; have BK101 := n0_; have HB := n1_; have BK102 := n2_; have GW102 := n3_; have GE102 := n4_; have NB101_102 := n5_; have NB102_101 := n6_; clear n0_ n1_ n2_ n3_ n4_ n5_ n6_; clear hb hbox hg; have hnb12 := NB101_102.out; have hnc12 := NB102_101.out; have hcz13_0 : w11.cell? ⟨gb101, 0, none⟩ = some (.int .i64 a0_0) := (blk_cell BK101.out 0).trans rfl; have hcz13_1 : w11.cell? ⟨gb101, 1, none⟩ = some (.int .i64 a0_1) := (blk_cell BK101.out 1).trans rfl; have hcz13_2 : w11.cell? ⟨gb101, 2, none⟩ = some (.string a0_2) := (blk_cell BK101.out 2).trans rfl; have hcz13_3 : w11.cell? ⟨gb101, 3, none⟩ = some (.string a0_3) := (blk_cell BK101.out 3).trans rfl; have hcz13_4 : w11.cell? ⟨gb101, 4, none⟩ = some (.int .i64 a0_4) := (blk_cell BK101.out 4).trans rfl; have hcz13_5 : w11.cell? ⟨gb101, 5, none⟩ = some (.int .i64 a0_5) := (blk_cell BK101.out 5).trans rfl; have hcz13_6 : w11.cell? ⟨gb101, 6, none⟩ = some (.int .i64 a0_6) := (blk_cell BK101.out 6).trans rfl; have hcz13_7 : w11.cell? ⟨gb101, 7, none⟩ = some (.int .i64 a0_7) := (blk_cell BK101.out 7).trans rfl; have hcz13_8 : w11.cell? ⟨gb101, 8, none⟩ = some (.int .i64 a0_8) := (blk_cell BK101.out 8).trans rfl; have hcz13_9 : w11.cell? ⟨gb101, 9, none⟩ = some (.int .i64 a0_9) := (blk_cell BK101.out 9).trans rfl; have hcz13_10 : w11.cell? ⟨gb101, 10, none⟩ = some (.int .i64 a0_10) := (blk_cell BK101.out 10).trans rfl; have hcz13_11 : w11.cell? ⟨gb101, 11, none⟩ = some (.slice A0_11 l0_11.length c0_11) := (blk_cell BK101.out 11).trans rfl; have hcz13_12 : w11.cell? ⟨gb101, 12, none⟩ = some (.int .i64 a0_12) := (blk_cell BK101.out 12).trans rfl; have hfz13_0 := blk_frozen BK101.out 0; have hfz13_1 := blk_frozen BK101.out 1; have hfz13_2 := blk_frozen BK101.out 2; have hfz13_3 := blk_frozen BK101.out 3; have hfz13_4 := blk_frozen BK101.out 4; have hfz13_5 := blk_frozen BK101.out 5; have hfz13_6 := blk_frozen BK101.out 6; have hfz13_7 := blk_frozen BK101.out 7; have hfz13_8 := blk_frozen BK101.out 8; have hfz13_9 := blk_frozen BK101.out 9; have hfz13_10 := blk_frozen BK101.out 10; have hfz13_11 := blk_frozen BK101.out 11; have hfz13_12 := blk_frozen BK101.out 12; have hcz14_0 : w11.cell? ⟨gb102, 0, none⟩ = some (.int .i64 a1_0) := (blk_cell BK102.out 0).trans rfl; have hcz14_1 : w11.cell? ⟨gb102, 1, none⟩ = some (.int .i64 a1_1) := (blk_cell BK102.out 1).trans rfl; have hcz14_2 : w11.cell? ⟨gb102, 2, none⟩ = some (.string a1_2) := (blk_cell BK102.out 2).trans rfl; have hcz14_3 : w11.cell? ⟨gb102, 3, none⟩ = some (.string a1_3) := (blk_cell BK102.out 3).trans rfl; have hcz14_4 : w11.cell? ⟨gb102, 4, none⟩ = some (.int .i64 a1_4) := (blk_cell BK102.out 4).trans rfl; have hcz14_5 : w11.cell? ⟨gb102, 5, none⟩ = some (.int .i64 a1_5) := (blk_cell BK102.out 5).trans rfl; have hcz14_6 : w11.cell? ⟨gb102, 6, none⟩ = some (.int .i64 a1_6) := (blk_cell BK102.out 6).trans rfl; have hcz14_7 : w11.cell? ⟨gb102, 7, none⟩ = some (.int .i64 a1_7) := (blk_cell BK102.out 7).trans rfl; have hcz14_8 : w11.cell? ⟨gb102, 8, none⟩ = some (.int .i64 a1_8) := (blk_cell BK102.out 8).trans rfl; have hcz14_9 : w11.cell? ⟨gb102, 9, none⟩ = some (.int .i64 a1_9) := (blk_cell BK102.out 9).trans rfl; have hcz14_10 : w11.cell? ⟨gb102, 10, none⟩ = some (.int .i64 a1_10) := (blk_cell BK102.out 10).trans rfl; have hcz14_11 : w11.cell? ⟨gb102, 11, none⟩ = some (.slice A1_11 l1_11.length c1_11) := (blk_cell BK102.out 11).trans rfl; have hcz14_12 : w11.cell? ⟨gb102, 12, none⟩ = some (.int .i64 a1_12) := (blk_cell BK102.out 12).trans rfl; have hfz14_0 := blk_frozen BK102.out 0; have hfz14_1 := blk_frozen BK102.out 1; have hfz14_2 := blk_frozen BK102.out 2; have hfz14_3 := blk_frozen BK102.out 3; have hfz14_4 := blk_frozen BK102.out 4; have hfz14_5 := blk_frozen BK102.out 5; have hfz14_6 := blk_frozen BK102.out 6; have hfz14_7 := blk_frozen BK102.out 7; have hfz14_8 := blk_frozen BK102.out 8; have hfz14_9 := blk_frozen BK102.out 9; have hfz14_10 := blk_frozen BK102.out 10; have hfz14_11 := blk_frozen BK102.out 11; have hfz14_12 := blk_frozen BK102.out 12) | (go_at_call 12; (with_reducible refine (HE.out _ _ l0_11 _ _ l1_11 t103 _ ?side1 ?side2 ?side3 ?side4 A9.out).mono ?_); (case side1 => repeat (first | exact (Kd.C_below HR0_11.out HB.out) | (with_reducible refine Kd.C_alloc ?_ _) | (with_reducible refine Kd.C_drewN ?_ _) | (with_reducible refine Kd.C_drew ?_))); (case side2 => exact HC0_11.out); (case side3 => repeat (first | exact (Kd.C_below HR1_11.out HB.out) | (with_reducible refine Kd.C_alloc ?_ _) | (with_reducible refine Kd.C_drewN ?_ _) | (with_reducible refine Kd.C_drew ?_))); (case side4 => exact HC1_11.out); rintro e w15 ⟨rfl, hb⟩; have n0_ := Aside0.mk (blk_below (g := gb101) (by exact ub_ BK101.out) hb); have n1_ := Aside0.mk (blk_below (g := gb102) (o := .cells #[.int .i64 a1_0, .int .i64 a1_1, .string a1_2, .string a1_3, .int .i64 a1_4, .int .i64 a1_5, .int .i64 a1_6, .int .i64 a1_7, .int .i64 a1_8, .int .i64 a1_9, .int .i64 a1_10, .slice A1_11 l1_11.length c1_11, .int .i64 a1_12] 37 (0, 0)) (by exact ub_ BK102.out) hb); have n2_ := Aside0.mk (below_step (by repeat (with_reducible first | exact HB.out | apply below_alloc | apply pw_below_drewN | apply below_drew1 | refine below_set ?_ GE101.out | refine below_set ?_ GE102.out)) hb); clear BK101; clear BK102; clear HB; have BK101 := n0_; have BK102 := n1_; have HB := n2_; clear n0_ n1_ n2_; (try clear hb); (try clear hb2); (try clear hk); (try clear hi)))
             go_ret
             exact ⟨by first | rfl | (simp [errW_none, errW_some] <;> rfl) | (simp [*, errW_none, errW_some] <;> rfl), by repeat (with_reducible first | exact HB.out | apply below_alloc | apply pw_below_drewN | apply below_drew1 | refine below_set ?_ GE101.out | refine below_set ?_ GE102.out)⟩
           · rw [if_neg c8] at H
             have c8b0 : ((a0_5 == a1_5 && (a0_6 == a1_6 && (a0_7 == a1_7))) && ((a0_8 == a1_8 && (a0_9 == a1_9 && (a0_10 == a1_10))))) = false := by simpa using c8
             clear c8
             obtain rfl := Option.some.inj H
             go_enter Tryz.func24, Tryz.ntmps24
             go_wp2_with (first | ((with_reducible refine gate_dst (N := 2) rfl ?_); refine box_event ?hg (N := 2) ?hd (cs := #[.int .i64 a0_0, .int .i64 a0_1, .string a0_2, .string a0_3, .int .i64 a0_4, .int .i64 a0_5, .int .i64 a0_6, .int .i64 a0_7, .int .i64 a0_8, .int .i64 a0_9, .int .i64 a0_10, .slice A0_11 l0_11.length c0_11, .int .i64 a0_12]) (t := 37) ?hr ?_; (case hd => rfl); (case hg => rfl); (case hr => first | (go_simp; done) | (go_simp; rfl)); intro gb101 hg w16 hbox hb; have n0_ := Aside0.mk (below_step (by exact up_ HB.out) hb); have n1_ := Aside0.mk (hbox); have n2_ := Aside0.mk ((by rw [hg]; exact (below_size (by exact up_ HB.out)) : w.heap.size ≤ gb101)); have n3_ := Aside0.mk ((by rw [hg]; exact (below_size (by exact up_ HB.out)) : w.heap.size ≤ gb101)); clear HB; have HB := n0_; have BK101 := n1_; have GW101 := n2_; have GE101 := n3_; clear n0_ n1_ n2_ n3_; clear hb hbox hg) | ((with_reducible refine gate_dst (N := 3) rfl ?_); refine box_event ?hg (N := 3) ?hd (cs := #[.int .i64 a1_0, .int .i64 a1_1, .string a1_2, .string a1_3, .int .i64 a1_4, .int .i64 a1_5, .int .i64 a1_6, .int .i64 a1_7, .int .i64 a1_8, .int .i64 a1_9, .int .i64 a1_10, .slice A1_11 l1_11.length c1_11, .int .i64 a1_12]) (t := 37) ?hr ?_; (case hd => rfl); (case hg => rfl); (case hr => first | (go_simp; done) | (go_simp; rfl)); intro gb102 hg w17 hbox hb; have n0_ := Aside0.mk (blk_below (g := gb101) (by exact ub_ BK101.out) hb); have n1_ := Aside0.mk (below_step (by repeat (with_reducible first | exact HB.out | apply below_alloc | apply pw_below_drewN | apply below_drew1 | refine below_set ?_ GE101.out)) hb); have n2_ := Aside0.mk (hbox); have n3_ := Aside0.mk ((by rw [hg]; exact (below_size (by repeat (with_reducible first | exact HB.out | apply below_alloc | apply pw_below_drewN | apply below_drew1 | refine below_set ?_ GE101.out))) : w.heap.size ≤ gb102)); have n4_ := Aside0.mk ((by rw [hg]; exact (below_size (by repeat (with_reducible first | exact HB.out | apply below_alloc | apply pw_below_drewN | apply below_drew1 | refine below_set ?_ GE101.out))) : w.heap.size ≤ gb102)); have n5_ := Aside0.mk ((by rw [hg]; exact Nat.ne_of_lt (blk_lt (g := gb101) (by exact ub_ BK101.out)) : gb101 ≠ gb102)); have n6_ := Aside0.mk ((by rw [hg]; exact Nat.ne_of_gt (blk_lt (g := gb101) (by exact ub_ BK101.out)) : gb102 ≠ gb101)); clear BK101; clear HB; have BK101 := n0_; have HB := n1_; have BK102 := n2_; have GW102 := n3_; have GE102 := n4_; have NB101_102 := n5_; have NB102_101 := n6_; clear n0_ n1_ n2_ n3_ n4_ n5_ n6_; clear hb hbox hg; have hnb18 := NB101_102.out; have hnc18 := NB102_101.out; have hcz19_0 : w17.cell? ⟨gb101, 0, none⟩ = some (.int .i64 a0_0) := (blk_cell BK101.out 0).trans rfl; have hcz19_1 : w17.cell? ⟨gb101, 1, none⟩ = some (.int .i64 a0_1) := (blk_cell BK101.out 1).trans rfl; have hcz19_2 : w17.cell? ⟨gb101, 2, none⟩ = some (.string a0_2) := (blk_cell BK101.out 2).trans rfl; have hcz19_3 : w17.cell? ⟨gb101, 3, none⟩ = some (.string a0_3) := (blk_cell BK101.out 3).trans rfl; have hcz19_4 : w17.cell? ⟨gb101, 4, none⟩ = some (.int .i64 a0_4) := (blk_cell BK101.out 4).trans rfl; have hcz19_5 : w17.cell? ⟨gb101, 5, none⟩ = some (.int .i64 a0_5) := (blk_cell BK101.out 5).trans rfl; have hcz19_6 : w17.cell? ⟨gb101, 6, none⟩ = some (.int .i64 a0_6) := (blk_cell BK101.out 6).trans rfl; have hcz19_7 : w17.cell? ⟨gb101, 7, none⟩ = some (.int .i64 a0_7) := (blk_cell BK101.out 7).trans rfl; have hcz19_8 : w17.cell? ⟨gb101, 8, none⟩ = some (.int .i64 a0_8) := (blk_cell BK101.out 8).trans rfl; have hcz19_9 : w17.cell? ⟨gb101, 9, none⟩ = some (.int .i64 a0_9) := (blk_cell BK101.out 9).trans rfl; have hcz19_10 : w17.cell? ⟨gb101, 10, none⟩ = some (.int .i64 a0_10) := (blk_cell BK101.out 10).trans rfl; have hcz19_11 : w17.cell? ⟨gb101, 11, none⟩ = some (.slice A0_11 l0_11.length c0_11) := (blk_cell BK101.out 11).trans rfl; have hcz19_12 : w17.cell? ⟨gb101, 12, none⟩ = some (.int .i64 a0_12) := (blk_cell BK101.out 12).trans rfl; have hfz19_0 := blk_frozen BK101.out 0; have hfz19_1 := blk_frozen BK101.out 1; have hfz19_2 := blk_frozen BK101.out 2; have hfz19_3 := blk_frozen BK101.out 3; have hfz19_4 := blk_frozen BK101.out 4; have hfz19_5 := blk_frozen BK101.out 5; have hfz19_6 := blk_frozen BK101.out 6; have hfz19_7 := blk_frozen BK101.out 7; have hfz19_8 := blk_frozen BK101.out 8; have hfz19_9 := blk_frozen BK101.out 9; have hfz19_10 := blk_frozen BK101.out 10; have hfz19_11 := blk_frozen BK101.out 11; have hfz19_12 := blk_frozen BK101.out 12; have hcz20_0 : w17.cell? ⟨gb102, 0, none⟩ = some (.int .i64 a1_0) := (blk_cell BK102.out 0).trans rfl; have hcz20_1 : w17.cell? ⟨gb102, 1, none⟩ = some (.int .i64 a1_1) := (blk_cell BK102.out 1).trans rfl; have hcz20_2 : w17.cell? ⟨gb102, 2, none⟩ = some (.string a1_2) := (blk_cell BK102.out 2).trans rfl; have hcz20_3 : w17.cell? ⟨gb102, 3, none⟩ = some (.string a1_3) := (blk_cell BK102.out 3).trans rfl; have hcz20_4 : w17.cell? ⟨gb102, 4, none⟩ = some (.int .i64 a1_4) := (blk_cell BK102.out 4).trans rfl; have hcz20_5 : w17.cell? ⟨gb102, 5, none⟩ = some (.int .i64 a1_5) := (blk_cell BK102.out 5).trans rfl; have hcz20_6 : w17.cell? ⟨gb102, 6, none⟩ = some (.int .i64 a1_6) := (blk_cell BK102.out 6).trans rfl; have hcz20_7 : w17.cell? ⟨gb102, 7, none⟩ = some (.int .i64 a1_7) := (blk_cell BK102.out 7).trans rfl; have hcz20_8 : w17.cell? ⟨gb102, 8, none⟩ = some (.int .i64 a1_8) := (blk_cell BK102.out 8).trans rfl; have hcz20_9 : w17.cell? ⟨gb102, 9, none⟩ = some (.int .i64 a1_9) := (blk_cell BK102.out 9).trans rfl; have hcz20_10 : w17.cell? ⟨gb102, 10, none⟩ = some (.int .i64 a1_10) := (blk_cell BK102.out 10).trans rfl; have hcz20_11 : w17.cell? ⟨gb102, 11, none⟩ = some (.slice A1_11 l1_11.length c1_11) := (blk_cell BK102.out 11).trans rfl; have hcz20_12 : w17.cell? ⟨gb102, 12, none⟩ = some (.int .i64 a1_12) := (blk_cell BK102.out 12).trans rfl; have hfz20_0 := blk_frozen BK102.out 0; have hfz20_1 := blk_frozen BK102.out 1; have hfz20_2 := blk_frozen BK102.out 2; have hfz20_3 := blk_frozen BK102.out 3; have hfz20_4 := blk_frozen BK102.out 4; have hfz20_5 := blk_frozen BK102.out 5; have hfz20_6 := blk_frozen BK102.out 6; have hfz20_7 := blk_frozen BK102.out 7; have hfz20_8 := blk_frozen BK102.out 8; have hfz20_9 := blk_frozen BK102.out 9; have hfz20_10 := blk_frozen BK102.out 10; have hfz20_11 := blk_frozen BK102.out 11; have hfz20_12 := blk_frozen BK102.out 12))
             go_ret
             exact ⟨by first | rfl | (simp [errW_none, errW_some] <;> rfl) | (simp [*, errW_none, errW_some] <;> rfl), by repeat (with_reducible first | exact HB.out | apply below_alloc | apply pw_below_drewN | apply below_drew1 | refine below_set ?_ GE101.out | refine below_set ?_ GE102.out)⟩
         · rw [if_neg c7] at H
           have c7b0 : (a0_4 == a1_4) = false := beq_eq_false_iff_ne.mpr c7
           have c7b1 : (a0_4 != a1_4) = true := bne_iff_ne.mpr c7
           obtain rfl := Option.some.inj H
           go_enter Tryz.func24, Tryz.ntmps24
           go_wp2_with (first | ((with_reducible refine gate_dst (N := 2) rfl ?_); refine box_event ?hg (N := 2) ?hd (cs := #[.int .i64 a0_0, .int .i64 a0_1, .string a0_2, .string a0_3, .int .i64 a0_4, .int .i64 a0_5, .int .i64 a0_6, .int .i64 a0_7, .int .i64 a0_8, .int .i64 a0_9, .int .i64 a0_10, .slice A0_11 l0_11.length c0_11, .int .i64 a0_12]) (t := 37) ?hr ?_; (case hd => rfl); (case hg => rfl); (case hr => first | (go_simp; done) | (go_simp; rfl)); intro gb101 hg w21 hbox hb; have n0_ := Aside0.mk (below_step (by exact up_ HB.out) hb); have n1_ := Aside0.mk (hbox); have n2_ := Aside0.mk ((by rw [hg]; exact (below_size (by exact up_ HB.out)) : w.heap.size ≤ gb101)); have n3_ := Aside0.mk ((by rw [hg]; exact (below_size (by exact up_ HB.out)) : w.heap.size ≤ gb101)); clear HB; have HB := n0_; have BK101 := n1_; have GW101 := n2_; have GE101 := n3_; clear n0_ n1_ n2_ n3_; clear hb hbox hg) | ((with_reducible refine gate_dst (N := 3) rfl ?_); refine box_event ?hg (N := 3) ?hd (cs := #[.int .i64 a1_0, .int .i64 a1_1, .string a1_2, .string a1_3, .int .i64 a1_4, .int .i64 a1_5, .int .i64 a1_6, .int .i64 a1_7, .int .i64 a1_8, .int .i64 a1_9, .int .i64 a1_10, .slice A1_11 l1_11.length c1_11, .int .i64 a1_12]) (t := 37) ?hr ?_; (case hd => rfl); (case hg => rfl); (case hr => first | (go_simp; done) | (go_simp; rfl)); intro gb102 hg w22 hbox hb; have n0_ := Aside0.mk (blk_below (g := gb101) (by exact ub_ BK101.out) hb); have n1_ := Aside0.mk (below_step (by repeat (with_reducible first | exact HB.out | apply below_alloc | apply pw_below_drewN | apply below_drew1 | refine below_set ?_ GE101.out)) hb); have n2_ := Aside0.mk (hbox); have n3_ := Aside0.mk ((by rw [hg]; exact (below_size (by repeat (with_reducible first | exact HB.out | apply below_alloc | apply pw_below_drewN | apply below_drew1 | refine below_set ?_ GE101.out))) : w.heap.size ≤ gb102)); have n4_ := Aside0.mk ((by rw [hg]; exact (below_size (by repeat (with_reducible first | exact HB.out | apply below_alloc | apply pw_below_drewN | apply below_drew1 | refine below_set ?_ GE101.out))) : w.heap.size ≤ gb102)); have n5_ := Aside0.mk ((by rw [hg]; exact Nat.ne_of_lt (blk_lt (g := gb101) (by exact ub_ BK101.out)) : gb101 ≠ gb102)); have n6_ := Aside0.mk ((by rw [hg]; exact Nat.ne_of_gt (blk_lt (g := gb101) (by exact ub_ BK101.out)) : gb102 ≠ gb101)); clear BK101; clear HB; have BK101 := n0_; have HB := n1_; have BK102 := n2_; have GW102 := n3_; have GE102 := n4_; have NB101_102 := n5_; have NB102_101 := n6_; clear n0_ n1_ n2_ n3_ n4_ n5_ n6_; clear hb hbox hg; have hnb23 := NB101_102.out; have hnc23 := NB102_101.out; have hcz24_0 : w22.cell? ⟨gb101, 0, none⟩ = some (.int .i64 a0_0) := (blk_cell BK101.out 0).trans rfl; have hcz24_1 : w22.cell? ⟨gb101, 1, none⟩ = some (.int .i64 a0_1) := (blk_cell BK101.out 1).trans rfl; have hcz24_2 : w22.cell? ⟨gb101, 2, none⟩ = some (.string a0_2) := (blk_cell BK101.out 2).trans rfl; have hcz24_3 : w22.cell? ⟨gb101, 3, none⟩ = some (.string a0_3) := (blk_cell BK101.out 3).trans rfl; have hcz24_4 : w22.cell? ⟨gb101, 4, none⟩ = some (.int .i64 a0_4) := (blk_cell BK101.out 4).trans rfl; have hcz24_5 : w22.cell? ⟨gb101, 5, none⟩ = some (.int .i64 a0_5) := (blk_cell BK101.out 5).trans rfl; have hcz24_6 : w22.cell? ⟨gb101, 6, none⟩ = some (.int .i64 a0_6) := (blk_cell BK101.out 6).trans rfl; have hcz24_7 : w22.cell? ⟨gb101, 7, none⟩ = some (.int .i64 a0_7) := (blk_cell BK101.out 7).trans rfl; have hcz24_8 : w22.cell? ⟨gb101, 8, none⟩ = some (.int .i64 a0_8) := (blk_cell BK101.out 8).trans rfl; have hcz24_9 : w22.cell? ⟨gb101, 9, none⟩ = some (.int .i64 a0_9) := (blk_cell BK101.out 9).trans rfl; have hcz24_10 : w22.cell? ⟨gb101, 10, none⟩ = some (.int .i64 a0_10) := (blk_cell BK101.out 10).trans rfl; have hcz24_11 : w22.cell? ⟨gb101, 11, none⟩ = some (.slice A0_11 l0_11.length c0_11) := (blk_cell BK101.out 11).trans rfl; have hcz24_12 : w22.cell? ⟨gb101, 12, none⟩ = some (.int .i64 a0_12) := (blk_cell BK101.out 12).trans rfl; have hfz24_0 := blk_frozen BK101.out 0; have hfz24_1 := blk_frozen BK101.out 1; have hfz24_2 := blk_frozen BK101.out 2; have hfz24_3 := blk_frozen BK101.out 3; have hfz24_4 := blk_frozen BK101.out 4; have hfz24_5 := blk_frozen BK101.out 5; have hfz24_6 := blk_frozen BK101.out 6; have hfz24_7 := blk_frozen BK101.out 7; have hfz24_8 := blk_frozen BK101.out 8; have hfz24_9 := blk_frozen BK101.out 9; have hfz24_10 := blk_frozen BK101.out 10; have hfz24_11 := blk_frozen BK101.out 11; have hfz24_12 := blk_frozen BK101.out 12; have hcz25_0 : w22.cell? ⟨gb102, 0, none⟩ = some (.int .i64 a1_0) := (blk_cell BK102.out 0).trans rfl; have hcz25_1 : w22.cell? ⟨gb102, 1, none⟩ = some (.int .i64 a1_1) := (blk_cell BK102.out 1).trans rfl; have hcz25_2 : w22.cell? ⟨gb102, 2, none⟩ = some (.string a1_2) := (blk_cell BK102.out 2).trans rfl; have hcz25_3 : w22.cell? ⟨gb102, 3, none⟩ = some (.string a1_3) := (blk_cell BK102.out 3).trans rfl; have hcz25_4 : w22.cell? ⟨gb102, 4, none⟩ = some (.int .i64 a1_4) := (blk_cell BK102.out 4).trans rfl; have hcz25_5 : w22.cell? ⟨gb102, 5, none⟩ = some (.int .i64 a1_5) := (blk_cell BK102.out 5).trans rfl; have hcz25_6 : w22.cell? ⟨gb102, 6, none⟩ = some (.int .i64 a1_6) := (blk_cell BK102.out 6).trans rfl; have hcz25_7 : w22.cell? ⟨gb102, 7, none⟩ = some (.int .i64 a1_7) := (blk_cell BK102.out 7).trans rfl; have hcz25_8 : w22.cell? ⟨gb102, 8, none⟩ = some (.int .i64 a1_8) := (blk_cell BK102.out 8).trans rfl; have hcz25_9 : w22.cell? ⟨gb102, 9, none⟩ = some (.int .i64 a1_9) := (blk_cell BK102.out 9).trans rfl; have hcz25_10 : w22.cell? ⟨gb102, 10, none⟩ = some (.int .i64 a1_10) := (blk_cell BK102.out 10).trans rfl; have hcz25_11 : w22.cell? ⟨gb102, 11, none⟩ = some (.slice A1_11 l1_11.length c1_11) := (blk_cell BK102.out 11).trans rfl; have hcz25_12 : w22.cell? ⟨gb102, 12, none⟩ = some (.int .i64 a1_12) := (blk_cell BK102.out 12).trans rfl; have hfz25_0 := blk_frozen BK102.out 0; have hfz25_1 := blk_frozen BK102.out 1; have hfz25_2 := blk_frozen BK102.out 2; have hfz25_3 := blk_frozen BK102.out 3; have hfz25_4 := blk_frozen BK102.out 4; have hfz25_5 := blk_frozen BK102.out 5; have hfz25_6 := blk_frozen BK102.out 6; have hfz25_7 := blk_frozen BK102.out 7; have hfz25_8 := blk_frozen BK102.out 8; have hfz25_9 := blk_frozen BK102.out 9; have hfz25_10 := blk_frozen BK102.out 10; have hfz25_11 := blk_frozen BK102.out 11; have hfz25_12 := blk_frozen BK102.out 12))
           go_ret
           exact ⟨by first | rfl | (simp [errW_none, errW_some] <;> rfl) | (simp [*, errW_none, errW_some] <;> rfl), by repeat (with_reducible first | exact HB.out | apply below_alloc | apply pw_below_drewN | apply below_drew1 | refine below_set ?_ GE101.out | refine below_set ?_ GE102.out)⟩
       · rw [if_neg c6] at H
         have c6b0 : (a0_3.toList == a1_3.toList) = false := beq_eq_false_iff_ne.mpr c6
         have c6b1 : (a0_3.toList != a1_3.toList) = true := bne_iff_ne.mpr c6
         obtain rfl := Option.some.inj H
         go_enter Tryz.func24, Tryz.ntmps24
         go_wp2_with (first | ((with_reducible refine gate_dst (N := 2) rfl ?_); refine box_event ?hg (N := 2) ?hd (cs := #[.int .i64 a0_0, .int .i64 a0_1, .string a0_2, .string a0_3, .int .i64 a0_4, .int .i64 a0_5, .int .i64 a0_6, .int .i64 a0_7, .int .i64 a0_8, .int .i64 a0_9, .int .i64 a0_10, .slice A0_11 l0_11.length c0_11, .int .i64 a0_12]) (t := 37) ?hr ?_; (case hd => rfl); (case hg => rfl); (case hr => first | (go_simp; done) | (go_simp; rfl)); intro gb101 hg w26 hbox hb; have n0_ := Aside0.mk (below_step (by exact up_ HB.out) hb); have n1_ := Aside0.mk (hbox); have n2_ := Aside0.mk ((by rw [hg]; exact (below_size (by exact up_ HB.out)) : w.heap.size ≤ gb101)); have n3_ := Aside0.mk ((by rw [hg]; exact (below_size (by exact up_ HB.out)) : w.heap.size ≤ gb101)); clear HB; have HB := n0_; have BK101 := n1_; have GW101 := n2_; have GE101 := n3_; clear n0_ n1_ n2_ n3_; clear hb hbox hg) | ((with_reducible refine gate_dst (N := 3) rfl ?_); refine box_event ?hg (N := 3) ?hd (cs := #[.int .i64 a1_0, .int .i64 a1_1, .string a1_2, .string a1_3, .int .i64 a1_4, .int .i64 a1_5, .int .i64 a1_6, .int .i64 a1_7, .int .i64 a1_8, .int .i64 a1_9, .int .i64 a1_10, .slice A1_11 l1_11.length c1_11, .int .i64 a1_12]) (t := 37) ?hr ?_; (case hd => rfl); (case hg => rfl); (case hr => first | (go_simp; done) | (go_simp; rfl)); intro gb102 hg w27 hbox hb; have n0_ := Aside0.mk (blk_below (g := gb101) (by exact ub_ BK101.out) hb); have n1_ := Aside0.mk (below_step (by repeat (with_reducible first | exact HB.out | apply below_alloc | apply pw_below_drewN | apply below_drew1 | refine below_set ?_ GE101.out)) hb); have n2_ := Aside0.mk (hbox); have n3_ := Aside0.mk ((by rw [hg]; exact (below_size (by repeat (with_reducible first | exact HB.out | apply below_alloc | apply pw_below_drewN | apply below_drew1 | refine below_set ?_ GE101.out))) : w.heap.size ≤ gb102)); have n4_ := Aside0.mk ((by rw [hg]; exact (below_size (by repeat (with_reducible first | exact HB.out | apply below_alloc | apply pw_below_drewN | apply below_drew1 | refine below_set ?_ GE101.out))) : w.heap.size ≤ gb102)); have n5_ := Aside0.mk ((by rw [hg]; exact Nat.ne_of_lt (blk_lt (g := gb101) (by exact ub_ BK101.out)) : gb101 ≠ gb102)); have n6_ := Aside0.mk ((by rw [hg]; exact Nat.ne_of_gt (blk_lt (g := gb101) (by exact ub_ BK101.out)) : gb102 ≠ gb101)); clear BK101; clear HB; have BK101 := n0_; have HB := n1_; have BK102 := n2_; have GW102 := n3_; have GE102 := n4_; have NB101_102 := n5_; have NB102_101 := n6_; clear n0_ n1_ n2_ n3_ n4_ n5_ n6_; clear hb hbox hg; have hnb28 := NB101_102.out; have hnc28 := NB102_101.out; have hcz29_0 : w27.cell? ⟨gb101, 0, none⟩ = some (.int .i64 a0_0) := (blk_cell BK101.out 0).trans rfl; have hcz29_1 : w27.cell? ⟨gb101, 1, none⟩ = some (.int .i64 a0_1) := (blk_cell BK101.out 1).trans rfl; have hcz29_2 : w27.cell? ⟨gb101, 2, none⟩ = some (.string a0_2) := (blk_cell BK101.out 2).trans rfl; have hcz29_3 : w27.cell? ⟨gb101, 3, none⟩ = some (.string a0_3) := (blk_cell BK101.out 3).trans rfl; have hcz29_4 : w27.cell? ⟨gb101, 4, none⟩ = some (.int .i64 a0_4) := (blk_cell BK101.out 4).trans rfl; have hcz29_5 : w27.cell? ⟨gb101, 5, none⟩ = some (.int .i64 a0_5) := (blk_cell BK101.out 5).trans rfl; have hcz29_6 : w27.cell? ⟨gb101, 6, none⟩ = some (.int .i64 a0_6) := (blk_cell BK101.out 6).trans rfl; have hcz29_7 : w27.cell? ⟨gb101, 7, none⟩ = some (.int .i64 a0_7) := (blk_cell BK101.out 7).trans rfl; have hcz29_8 : w27.cell? ⟨gb101, 8, none⟩ = some (.int .i64 a0_8) := (blk_cell BK101.out 8).trans rfl; have hcz29_9 : w27.cell? ⟨gb101, 9, none⟩ = some (.int .i64 a0_9) := (blk_cell BK101.out 9).trans rfl; have hcz29_10 : w27.cell? ⟨gb101, 10, none⟩ = some (.int .i64 a0_10) := (blk_cell BK101.out 10).trans rfl; have hcz29_11 : w27.cell? ⟨gb101, 11, none⟩ = some (.slice A0_11 l0_11.length c0_11) := (blk_cell BK101.out 11).trans rfl; have hcz29_12 : w27.cell? ⟨gb101, 12, none⟩ = some (.int .i64 a0_12) := (blk_cell BK101.out 12).trans rfl; have hfz29_0 := blk_frozen BK101.out 0; have hfz29_1 := blk_frozen BK101.out 1; have hfz29_2 := blk_frozen BK101.out 2; have hfz29_3 := blk_frozen BK101.out 3; have hfz29_4 := blk_frozen BK101.out 4; have hfz29_5 := blk_frozen BK101.out 5; have hfz29_6 := blk_frozen BK101.out 6; have hfz29_7 := blk_frozen BK101.out 7; have hfz29_8 := blk_frozen BK101.out 8; have hfz29_9 := blk_frozen BK101.out 9; have hfz29_10 := blk_frozen BK101.out 10; have hfz29_11 := blk_frozen BK101.out 11; have hfz29_12 := blk_frozen BK101.out 12; have hcz30_0 : w27.cell? ⟨gb102, 0, none⟩ = some (.int .i64 a1_0) := (blk_cell BK102.out 0).trans rfl; have hcz30_1 : w27.cell? ⟨gb102, 1, none⟩ = some (.int .i64 a1_1) := (blk_cell BK102.out 1).trans rfl; have hcz30_2 : w27.cell? ⟨gb102, 2, none⟩ = some (.string a1_2) := (blk_cell BK102.out 2).trans rfl; have hcz30_3 : w27.cell? ⟨gb102, 3, none⟩ = some (.string a1_3) := (blk_cell BK102.out 3).trans rfl; have hcz30_4 : w27.cell? ⟨gb102, 4, none⟩ = some (.int .i64 a1_4) := (blk_cell BK102.out 4).trans rfl; have hcz30_5 : w27.cell? ⟨gb102, 5, none⟩ = some (.int .i64 a1_5) := (blk_cell BK102.out 5).trans rfl; have hcz30_6 : w27.cell? ⟨gb102, 6, none⟩ = some (.int .i64 a1_6) := (blk_cell BK102.out 6).trans rfl; have hcz30_7 : w27.cell? ⟨gb102, 7, none⟩ = some (.int .i64 a1_7) := (blk_cell BK102.out 7).trans rfl; have hcz30_8 : w27.cell? ⟨gb102, 8, none⟩ = some (.int .i64 a1_8) := (blk_cell BK102.out 8).trans rfl; have hcz30_9 : w27.cell? ⟨gb102, 9, none⟩ = some (.int .i64 a1_9) := (blk_cell BK102.out 9).trans rfl; have hcz30_10 : w27.cell? ⟨gb102, 10, none⟩ = some (.int .i64 a1_10) := (blk_cell BK102.out 10).trans rfl; have hcz30_11 : w27.cell? ⟨gb102, 11, none⟩ = some (.slice A1_11 l1_11.length c1_11) := (blk_cell BK102.out 11).trans rfl; have hcz30_12 : w27.cell? ⟨gb102, 12, none⟩ = some (.int .i64 a1_12) := (blk_cell BK102.out 12).trans rfl; have hfz30_0 := blk_frozen BK102.out 0; have hfz30_1 := blk_frozen BK102.out 1; have hfz30_2 := blk_frozen BK102.out 2; have hfz30_3 := blk_frozen BK102.out 3; have hfz30_4 := blk_frozen BK102.out 4; have hfz30_5 := blk_frozen BK102.out 5; have hfz30_6 := blk_frozen BK102.out 6; have hfz30_7 := blk_frozen BK102.out 7; have hfz30_8 := blk_frozen BK102.out 8; have hfz30_9 := blk_frozen BK102.out 9; have hfz30_10 := blk_frozen BK102.out 10; have hfz30_11 := blk_frozen BK102.out 11; have hfz30_12 := blk_frozen BK102.out 12))
         go_ret
         exact ⟨by first | rfl | (simp [errW_none, errW_some] <;> rfl) | (simp [*, errW_none, errW_some] <;> rfl), by repeat (with_reducible first | exact HB.out | apply below_alloc | apply pw_below_drewN | apply below_drew1 | refine below_set ?_ GE101.out | refine below_set ?_ GE102.out)⟩
     · rw [if_neg c5] at H
       have c5b0 : (a0_2.toList == a1_2.toList) = false := beq_eq_false_iff_ne.mpr c5
       have c5b1 : (a0_2.toList != a1_2.toList) = true := bne_iff_ne.mpr c5
       obtain rfl := Option.some.inj H
       go_enter Tryz.func24, Tryz.ntmps24
       go_wp2_with (first | ((with_reducible refine gate_dst (N := 2) rfl ?_); refine box_event ?hg (N := 2) ?hd (cs := #[.int .i64 a0_0, .int .i64 a0_1, .string a0_2, .string a0_3, .int .i64 a0_4, .int .i64 a0_5, .int .i64 a0_6, .int .i64 a0_7, .int .i64 a0_8, .int .i64 a0_9, .int .i64 a0_10, .slice A0_11 l0_11.length c0_11, .int .i64 a0_12]) (t := 37) ?hr ?_; (case hd => rfl); (case hg => rfl); (case hr => first | (go_simp; done) | (go_simp; rfl)); intro gb101 hg w31 hbox hb; have n0_ := Aside0.mk (below_step (by exact up_ HB.out) hb); have n1_ := Aside0.mk (hbox); have n2_ := Aside0.mk ((by rw [hg]; exact (below_size (by exact up_ HB.out)) : w.heap.size ≤ gb101)); have n3_ := Aside0.mk ((by rw [hg]; exact (below_size (by exact up_ HB.out)) : w.heap.size ≤ gb101)); clear HB; have HB := n0_; have BK101 := n1_; have GW101 := n2_; have GE101 := n3_; clear n0_ n1_ n2_ n3_; clear hb hbox hg) | ((with_reducible refine gate_dst (N := 3) rfl ?_); refine box_event ?hg (N := 3) ?hd (cs := #[.int .i64 a1_0, .int .i64 a1_1, .string a1_2, .string a1_3, .int .i64 a1_4, .int .i64 a1_5, .int .i64 a1_6, .int .i64 a1_7, .int .i64 a1_8, .int .i64 a1_9, .int .i64 a1_10, .slice A1_11 l1_11.length c1_11, .int .i64 a1_12]) (t := 37) ?hr ?_; (case hd => rfl); (case hg => rfl); (case hr => first | (go_simp; done) | (go_simp; rfl)); intro gb102 hg w32 hbox hb; have n0_ := Aside0.mk (blk_below (g := gb101) (by exact ub_ BK101.out) hb); have n1_ := Aside0.mk (below_step (by repeat (with_reducible first | exact HB.out | apply below_alloc | apply pw_below_drewN | apply below_drew1 | refine below_set ?_ GE101.out)) hb); have n2_ := Aside0.mk (hbox); have n3_ := Aside0.mk ((by rw [hg]; exact (below_size (by repeat (with_reducible first | exact HB.out | apply below_alloc | apply pw_below_drewN | apply below_drew1 | refine below_set ?_ GE101.out))) : w.heap.size ≤ gb102)); have n4_ := Aside0.mk ((by rw [hg]; exact (below_size (by repeat (with_reducible first | exact HB.out | apply below_alloc | apply pw_below_drewN | apply below_drew1 | refine below_set ?_ GE101.out))) : w.heap.size ≤ gb102)); have n5_ := Aside0.mk ((by rw [hg]; exact Nat.ne_of_lt (blk_lt (g := gb101) (by exact ub_ BK101.out)) : gb101 ≠ gb102)); have n6_ := Aside0.mk ((by rw [hg]; exact Nat.ne_of_gt (blk_lt (g := gb101) (by exact ub_ BK101.out)) : gb102 ≠ gb101)); clear BK101; clear HB; have BK101 := n0_; have HB := n1_; have BK102 := n2_; have GW102 := n3_; have GE102 := n4_; have NB101_102 := n5_; have NB102_101 := n6_; clear n0_ n1_ n2_ n3_ n4_ n5_ n6_; clear hb hbox hg; have hnb33 := NB101_102.out; have hnc33 := NB102_101.out; have hcz34_0 : w32.cell? ⟨gb101, 0, none⟩ = some (.int .i64 a0_0) := (blk_cell BK101.out 0).trans rfl; have hcz34_1 : w32.cell? ⟨gb101, 1, none⟩ = some (.int .i64 a0_1) := (blk_cell BK101.out 1).trans rfl; have hcz34_2 : w32.cell? ⟨gb101, 2, none⟩ = some (.string a0_2) := (blk_cell BK101.out 2).trans rfl; have hcz34_3 : w32.cell? ⟨gb101, 3, none⟩ = some (.string a0_3) := (blk_cell BK101.out 3).trans rfl; have hcz34_4 : w32.cell? ⟨gb101, 4, none⟩ = some (.int .i64 a0_4) := (blk_cell BK101.out 4).trans rfl; have hcz34_5 : w32.cell? ⟨gb101, 5, none⟩ = some (.int .i64 a0_5) := (blk_cell BK101.out 5).trans rfl; have hcz34_6 : w32.cell? ⟨gb101, 6, none⟩ = some (.int .i64 a0_6) := (blk_cell BK101.out 6).trans rfl; have hcz34_7 : w32.cell? ⟨gb101, 7, none⟩ = some (.int .i64 a0_7) := (blk_cell BK101.out 7).trans rfl; have hcz34_8 : w32.cell? ⟨gb101, 8, none⟩ = some (.int .i64 a0_8) := (blk_cell BK101.out 8).trans rfl; have hcz34_9 : w32.cell? ⟨gb101, 9, none⟩ = some (.int .i64 a0_9) := (blk_cell BK101.out 9).trans rfl; have hcz34_10 : w32.cell? ⟨gb101, 10, none⟩ = some (.int .i64 a0_10) := (blk_cell BK101.out 10).trans rfl; have hcz34_11 : w32.cell? ⟨gb101, 11, none⟩ = some (.slice A0_11 l0_11.length c0_11) := (blk_cell BK101.out 11).trans rfl; have hcz34_12 : w32.cell? ⟨gb101, 12, none⟩ = some (.int .i64 a0_12) := (blk_cell BK101.out 12).trans rfl; have hfz34_0 := blk_frozen BK101.out 0; have hfz34_1 := blk_frozen BK101.out 1; have hfz34_2 := blk_frozen BK101.out 2; have hfz34_3 := blk_frozen BK101.out 3; have hfz34_4 := blk_frozen BK101.out 4; have hfz34_5 := blk_frozen BK101.out 5; have hfz34_6 := blk_frozen BK101.out 6; have hfz34_7 := blk_frozen BK101.out 7; have hfz34_8 := blk_frozen BK101.out 8; have hfz34_9 := blk_frozen BK101.out 9; have hfz34_10 := blk_frozen BK101.out 10; have hfz34_11 := blk_frozen BK101.out 11; have hfz34_12 := blk_frozen BK101.out 12; have hcz35_0 : w32.cell? ⟨gb102, 0, none⟩ = some (.int .i64 a1_0) := (blk_cell BK102.out 0).trans rfl; have hcz35_1 : w32.cell? ⟨gb102, 1, none⟩ = some (.int .i64 a1_1) := (blk_cell BK102.out 1).trans rfl; have hcz35_2 : w32.cell? ⟨gb102, 2, none⟩ = some (.string a1_2) := (blk_cell BK102.out 2).trans rfl; have hcz35_3 : w32.cell? ⟨gb102, 3, none⟩ = some (.string a1_3) := (blk_cell BK102.out 3).trans rfl; have hcz35_4 : w32.cell? ⟨gb102, 4, none⟩ = some (.int .i64 a1_4) := (blk_cell BK102.out 4).trans rfl; have hcz35_5 : w32.cell? ⟨gb102, 5, none⟩ = some (.int .i64 a1_5) := (blk_cell BK102.out 5).trans rfl; have hcz35_6 : w32.cell? ⟨gb102, 6, none⟩ = some (.int .i64 a1_6) := (blk_cell BK102.out 6).trans rfl; have hcz35_7 : w32.cell? ⟨gb102, 7, none⟩ = some (.int .i64 a1_7) := (blk_cell BK102.out 7).trans rfl; have hcz35_8 : w32.cell? ⟨gb102, 8, none⟩ = some (.int .i64 a1_8) := (blk_cell BK102.out 8).trans rfl; have hcz35_9 : w32.cell? ⟨gb102, 9, none⟩ = some (.int .i64 a1_9) := (blk_cell BK102.out 9).trans rfl; have hcz35_10 : w32.cell? ⟨gb102, 10, none⟩ = some (.int .i64 a1_10) := (blk_cell BK102.out 10).trans rfl; have hcz35_11 : w32.cell? ⟨gb102, 11, none⟩ = some (.slice A1_11 l1_11.length c1_11) := (blk_cell BK102.out 11).trans rfl; have hcz35_12 : w32.cell? ⟨gb102, 12, none⟩ = some (.int .i64 a1_12) := (blk_cell BK102.out 12).trans rfl; have hfz35_0 := blk_frozen BK102.out 0; have hfz35_1 := blk_frozen BK102.out 1; have hfz35_2 := blk_frozen BK102.out 2; have hfz35_3 := blk_frozen BK102.out 3; have hfz35_4 := blk_frozen BK102.out 4; have hfz35_5 := blk_frozen BK102.out 5; have hfz35_6 := blk_frozen BK102.out 6; have hfz35_7 := blk_frozen BK102.out 7; have hfz35_8 := blk_frozen BK102.out 8; have hfz35_9 := blk_frozen BK102.out 9; have hfz35_10 := blk_frozen BK102.out 10; have hfz35_11 := blk_frozen BK102.out 11; have hfz35_12 := blk_frozen BK102.out 12))
       go_ret
       exact ⟨by first | rfl | (simp [errW_none, errW_some] <;> rfl) | (simp [*, errW_none, errW_some] <;> rfl), by repeat (with_reducible first | exact HB.out | apply below_alloc | apply pw_below_drewN | apply below_drew1 | refine below_set ?_ GE101.out | refine below_set ?_ GE102.out)⟩
   · rw [if_neg c4] at H
     have c4b0 : (a0_1 == a1_1) = false := beq_eq_false_iff_ne.mpr c4
     have c4b1 : (a0_1 != a1_1) = true := bne_iff_ne.mpr c4
     obtain rfl := Option.some.inj H
     go_enter Tryz.func24, Tryz.ntmps24
     go_wp2_with (first | ((with_reducible refine gate_dst (N := 2) rfl ?_); refine box_event ?hg (N := 2) ?hd (cs := #[.int .i64 a0_0, .int .i64 a0_1, .string a0_2, .string a0_3, .int .i64 a0_4, .int .i64 a0_5, .int .i64 a0_6, .int .i64 a0_7, .int .i64 a0_8, .int .i64 a0_9, .int .i64 a0_10, .slice A0_11 l0_11.length c0_11, .int .i64 a0_12]) (t := 37) ?hr ?_; (case hd => rfl); (case hg => rfl); (case hr => first | (go_simp; done) | (go_simp; rfl)); intro gb101 hg w36 hbox hb; have n0_ := Aside0.mk (below_step (by exact up_ HB.out) hb); have n1_ := Aside0.mk (hbox); have n2_ := Aside0.mk ((by rw [hg]; exact (below_size (by exact up_ HB.out)) : w.heap.size ≤ gb101)); have n3_ := Aside0.mk ((by rw [hg]; exact (below_size (by exact up_ HB.out)) : w.heap.size ≤ gb101)); clear HB; have HB := n0_; have BK101 := n1_; have GW101 := n2_; have GE101 := n3_; clear n0_ n1_ n2_ n3_; clear hb hbox hg) | ((with_reducible refine gate_dst (N := 3) rfl ?_); refine box_event ?hg (N := 3) ?hd (cs := #[.int .i64 a1_0, .int .i64 a1_1, .string a1_2, .string a1_3, .int .i64 a1_4, .int .i64 a1_5, .int .i64 a1_6, .int .i64 a1_7, .int .i64 a1_8, .int .i64 a1_9, .int .i64 a1_10, .slice A1_11 l1_11.length c1_11, .int .i64 a1_12]) (t := 37) ?hr ?_; (case hd => rfl); (case hg => rfl); (case hr => first | (go_simp; done) | (go_simp; rfl)); intro gb102 hg w37 hbox hb; have n0_ := Aside0.mk (blk_below (g := gb101) (by exact ub_ BK101.out) hb); have n1_ := Aside0.mk (below_step (by repeat (with_reducible first | exact HB.out | apply below_alloc | apply pw_below_drewN | apply below_drew1 | refine below_set ?_ GE101.out)) hb); have n2_ := Aside0.mk (hbox); have n3_ := Aside0.mk ((by rw [hg]; exact (below_size (by repeat (with_reducible first | exact HB.out | apply below_alloc | apply pw_below_drewN | apply below_drew1 | refine below_set ?_ GE101.out))) : w.heap.size ≤ gb102)); have n4_ := Aside0.mk ((by rw [hg]; exact (below_size (by repeat (with_reducible first | exact HB.out | apply below_alloc | apply pw_below_drewN | apply below_drew1 | refine below_set ?_ GE101.out))) : w.heap.size ≤ gb102)); have n5_ := Aside0.mk ((by rw [hg]; exact Nat.ne_of_lt (blk_lt (g := gb101) (by exact ub_ BK101.out)) : gb101 ≠ gb102)); have n6_ := Aside0.mk ((by rw [hg]; exact Nat.ne_of_gt (blk_lt (g := gb101) (by exact ub_ BK101.out)) : gb102 ≠ gb101)); clear BK101; clear HB; have BK101 := n0_; have HB := n1_; have BK102 := n2_; have GW102 := n3_; have GE102 := n4_; have NB101_102 := n5_; have NB102_101 := n6_; clear n0_ n1_ n2_ n3_ n4_ n5_ n6_; clear hb hbox hg; have hnb38 := NB101_102.out; have hnc38 := NB102_101.out; have hcz39_0 : w37.cell? ⟨gb101, 0, none⟩ = some (.int .i64 a0_0) := (blk_cell BK101.out 0).trans rfl; have hcz39_1 : w37.cell? ⟨gb101, 1, none⟩ = some (.int .i64 a0_1) := (blk_cell BK101.out 1).trans rfl; have hcz39_2 : w37.cell? ⟨gb101, 2, none⟩ = some (.string a0_2) := (blk_cell BK101.out 2).trans rfl; have hcz39_3 : w37.cell? ⟨gb101, 3, none⟩ = some (.string a0_3) := (blk_cell BK101.out 3).trans rfl; have hcz39_4 : w37.cell? ⟨gb101, 4, none⟩ = some (.int .i64 a0_4) := (blk_cell BK101.out 4).trans rfl; have hcz39_5 : w37.cell? ⟨gb101, 5, none⟩ = some (.int .i64 a0_5) := (blk_cell BK101.out 5).trans rfl; have hcz39_6 : w37.cell? ⟨gb101, 6, none⟩ = some (.int .i64 a0_6) := (blk_cell BK101.out 6).trans rfl; have hcz39_7 : w37.cell? ⟨gb101, 7, none⟩ = some (.int .i64 a0_7) := (blk_cell BK101.out 7).trans rfl; have hcz39_8 : w37.cell? ⟨gb101, 8, none⟩ = some (.int .i64 a0_8) := (blk_cell BK101.out 8).trans rfl; have hcz39_9 : w37.cell? ⟨gb101, 9, none⟩ = some (.int .i64 a0_9) := (blk_cell BK101.out 9).trans rfl; have hcz39_10 : w37.cell? ⟨gb101, 10, none⟩ = some (.int .i64 a0_10) := (blk_cell BK101.out 10).trans rfl; have hcz39_11 : w37.cell? ⟨gb101, 11, none⟩ = some (.slice A0_11 l0_11.length c0_11) := (blk_cell BK101.out 11).trans rfl; have hcz39_12 : w37.cell? ⟨gb101, 12, none⟩ = some (.int .i64 a0_12) := (blk_cell BK101.out 12).trans rfl; have hfz39_0 := blk_frozen BK101.out 0; have hfz39_1 := blk_frozen BK101.out 1; have hfz39_2 := blk_frozen BK101.out 2; have hfz39_3 := blk_frozen BK101.out 3; have hfz39_4 := blk_frozen BK101.out 4; have hfz39_5 := blk_frozen BK101.out 5; have hfz39_6 := blk_frozen BK101.out 6; have hfz39_7 := blk_frozen BK101.out 7; have hfz39_8 := blk_frozen BK101.out 8; have hfz39_9 := blk_frozen BK101.out 9; have hfz39_10 := blk_frozen BK101.out 10; have hfz39_11 := blk_frozen BK101.out 11; have hfz39_12 := blk_frozen BK101.out 12; have hcz40_0 : w37.cell? ⟨gb102, 0, none⟩ = some (.int .i64 a1_0) := (blk_cell BK102.out 0).trans rfl; have hcz40_1 : w37.cell? ⟨gb102, 1, none⟩ = some (.int .i64 a1_1) := (blk_cell BK102.out 1).trans rfl; have hcz40_2 : w37.cell? ⟨gb102, 2, none⟩ = some (.string a1_2) := (blk_cell BK102.out 2).trans rfl; have hcz40_3 : w37.cell? ⟨gb102, 3, none⟩ = some (.string a1_3) := (blk_cell BK102.out 3).trans rfl; have hcz40_4 : w37.cell? ⟨gb102, 4, none⟩ = some (.int .i64 a1_4) := (blk_cell BK102.out 4).trans rfl; have hcz40_5 : w37.cell? ⟨gb102, 5, none⟩ = some (.int .i64 a1_5) := (blk_cell BK102.out 5).trans rfl; have hcz40_6 : w37.cell? ⟨gb102, 6, none⟩ = some (.int .i64 a1_6) := (blk_cell BK102.out 6).trans rfl; have hcz40_7 : w37.cell? ⟨gb102, 7, none⟩ = some (.int .i64 a1_7) := (blk_cell BK102.out 7).trans rfl; have hcz40_8 : w37.cell? ⟨gb102, 8, none⟩ = some (.int .i64 a1_8) := (blk_cell BK102.out 8).trans rfl; have hcz40_9 : w37.cell? ⟨gb102, 9, none⟩ = some (.int .i64 a1_9) := (blk_cell BK102.out 9).trans rfl; have hcz40_10 : w37.cell? ⟨gb102, 10, none⟩ = some (.int .i64 a1_10) := (blk_cell BK102.out 10).trans rfl; have hcz40_11 : w37.cell? ⟨gb102, 11, none⟩ = some (.slice A1_11 l1_11.length c1_11) := (blk_cell BK102.out 11).trans rfl; have hcz40_12 : w37.cell? ⟨gb102, 12, none⟩ = some (.int .i64 a1_12) := (blk_cell BK102.out 12).trans rfl; have hfz40_0 := blk_frozen BK102.out 0; have hfz40_1 := blk_frozen BK102.out 1; have hfz40_2 := blk_frozen BK102.out 2; have hfz40_3 := blk_frozen BK102.out 3; have hfz40_4 := blk_frozen BK102.out 4; have hfz40_5 := blk_frozen BK102.out 5; have hfz40_6 := blk_frozen BK102.out 6; have hfz40_7 := blk_frozen BK102.out 7; have hfz40_8 := blk_frozen BK102.out 8; have hfz40_9 := blk_frozen BK102.out 9; have hfz40_10 := blk_frozen BK102.out 10; have hfz40_11 := blk_frozen BK102.out 11; have hfz40_12 := blk_frozen BK102.out 12))
     go_ret
     exact ⟨by first | rfl | (simp [errW_none, errW_some] <;> rfl) | (simp [*, errW_none, errW_some] <;> rfl), by repeat (with_reducible first | exact HB.out | apply below_alloc | apply pw_below_drewN | apply below_drew1 | refine below_set ?_ GE101.out | refine below_set ?_ GE102.out)⟩
 · rw [if_neg c3] at H
   have c3b0 : (a0_0 == a1_0) = false := beq_eq_false_iff_ne.mpr c3
   have c3b1 : (a0_0 != a1_0) = true := bne_iff_ne.mpr c3
   obtain rfl := Option.some.inj H
   go_enter Tryz.func24, Tryz.ntmps24
   go_wp2_with (first | ((with_reducible refine gate_dst (N := 2) rfl ?_); refine box_event ?hg (N := 2) ?hd (cs := #[.int .i64 a0_0, .int .i64 a0_1, .string a0_2, .string a0_3, .int .i64 a0_4, .int .i64 a0_5, .int .i64 a0_6, .int .i64 a0_7, .int .i64 a0_8, .int .i64 a0_9, .int .i64 a0_10, .slice A0_11 l0_11.length c0_11, .int .i64 a0_12]) (t := 37) ?hr ?_; (case hd => rfl); (case hg => rfl); (case hr => first | (go_simp; done) | (go_simp; rfl)); intro gb101 hg w41 hbox hb; have n0_ := Aside0.mk (below_step (by exact up_ HB.out) hb); have n1_ := Aside0.mk (hbox); have n2_ := Aside0.mk ((by rw [hg]; exact (below_size (by exact up_ HB.out)) : w.heap.size ≤ gb101)); have n3_ := Aside0.mk ((by rw [hg]; exact (below_size (by exact up_ HB.out)) : w.heap.size ≤ gb101)); clear HB; have HB := n0_; have BK101 := n1_; have GW101 := n2_; have GE101 := n3_; clear n0_ n1_ n2_ n3_; clear hb hbox hg) | ((with_reducible refine gate_dst (N := 3) rfl ?_); refine box_event ?hg (N := 3) ?hd (cs := #[.int .i64 a1_0, .int .i64 a1_1, .string a1_2, .string a1_3, .int .i64 a1_4, .int .i64 a1_5, .int .i64 a1_6, .int .i64 a1_7, .int .i64 a1_8, .int .i64 a1_9, .int .i64 a1_10, .slice A1_11 l1_11.length c1_11, .int .i64 a1_12]) (t := 37) ?hr ?_; (case hd => rfl); (case hg => rfl); (case hr => first | (go_simp; done) | (go_simp; rfl)); intro gb102 hg w42 hbox hb; have n0_ := Aside0.mk (blk_below (g := gb101) (by exact ub_ BK101.out) hb); have n1_ := Aside0.mk (below_step (by repeat (with_reducible first | exact HB.out | apply below_alloc | apply pw_below_drewN | apply below_drew1 | refine below_set ?_ GE101.out)) hb); have n2_ := Aside0.mk (hbox); have n3_ := Aside0.mk ((by rw [hg]; exact (below_size (by repeat (with_reducible first | exact HB.out | apply below_alloc | apply pw_below_drewN | apply below_drew1 | refine below_set ?_ GE101.out))) : w.heap.size ≤ gb102)); have n4_ := Aside0.mk ((by rw [hg]; exact (below_size (by repeat (with_reducible first | exact HB.out | apply below_alloc | apply pw_below_drewN | apply below_drew1 | refine below_set ?_ GE101.out))) : w.heap.size ≤ gb102)); have n5_ := Aside0.mk ((by rw [hg]; exact Nat.ne_of_lt (blk_lt (g := gb101) (by exact ub_ BK101.out)) : gb101 ≠ gb102)); have n6_ := Aside0.mk ((by rw [hg]; exact Nat.ne_of_gt (blk_lt (g := gb101) (by exact ub_ BK101.out)) : gb102 ≠ gb101)); clear BK101; clear HB; have BK101 := n0_; have HB := n1_; have BK102 := n2_; have GW102 := n3_; have GE102 := n4_; have NB101_102 := n5_; have NB102_101 := n6_; clear n0_ n1_ n2_ n3_ n4_ n5_ n6_; clear hb hbox hg; have hnb43 := NB101_102.out; have hnc43 := NB102_101.out; have hcz44_0 : w42.cell? ⟨gb101, 0, none⟩ = some (.int .i64 a0_0) := (blk_cell BK101.out 0).trans rfl; have hcz44_1 : w42.cell? ⟨gb101, 1, none⟩ = some (.int .i64 a0_1) := (blk_cell BK101.out 1).trans rfl; have hcz44_2 : w42.cell? ⟨gb101, 2, none⟩ = some (.string a0_2) := (blk_cell BK101.out 2).trans rfl; have hcz44_3 : w42.cell? ⟨gb101, 3, none⟩ = some (.string a0_3) := (blk_cell BK101.out 3).trans rfl; have hcz44_4 : w42.cell? ⟨gb101, 4, none⟩ = some (.int .i64 a0_4) := (blk_cell BK101.out 4).trans rfl; have hcz44_5 : w42.cell? ⟨gb101, 5, none⟩ = some (.int .i64 a0_5) := (blk_cell BK101.out 5).trans rfl; have hcz44_6 : w42.cell? ⟨gb101, 6, none⟩ = some (.int .i64 a0_6) := (blk_cell BK101.out 6).trans rfl; have hcz44_7 : w42.cell? ⟨gb101, 7, none⟩ = some (.int .i64 a0_7) := (blk_cell BK101.out 7).trans rfl; have hcz44_8 : w42.cell? ⟨gb101, 8, none⟩ = some (.int .i64 a0_8) := (blk_cell BK101.out 8).trans rfl; have hcz44_9 : w42.cell? ⟨gb101, 9, none⟩ = some (.int .i64 a0_9) := (blk_cell BK101.out 9).trans rfl; have hcz44_10 : w42.cell? ⟨gb101, 10, none⟩ = some (.int .i64 a0_10) := (blk_cell BK101.out 10).trans rfl; have hcz44_11 : w42.cell? ⟨gb101, 11, none⟩ = some (.slice A0_11 l0_11.length c0_11) := (blk_cell BK101.out 11).trans rfl; have hcz44_12 : w42.cell? ⟨gb101, 12, none⟩ = some (.int .i64 a0_12) := (blk_cell BK101.out 12).trans rfl; have hfz44_0 := blk_frozen BK101.out 0; have hfz44_1 := blk_frozen BK101.out 1; have hfz44_2 := blk_frozen BK101.out 2; have hfz44_3 := blk_frozen BK101.out 3; have hfz44_4 := blk_frozen BK101.out 4; have hfz44_5 := blk_frozen BK101.out 5; have hfz44_6 := blk_frozen BK101.out 6; have hfz44_7 := blk_frozen BK101.out 7; have hfz44_8 := blk_frozen BK101.out 8; have hfz44_9 := blk_frozen BK101.out 9; have hfz44_10 := blk_frozen BK101.out 10; have hfz44_11 := blk_frozen BK101.out 11; have hfz44_12 := blk_frozen BK101.out 12; have hcz45_0 : w42.cell? ⟨gb102, 0, none⟩ = some (.int .i64 a1_0) := (blk_cell BK102.out 0).trans rfl; have hcz45_1 : w42.cell? ⟨gb102, 1, none⟩ = some (.int .i64 a1_1) := (blk_cell BK102.out 1).trans rfl; have hcz45_2 : w42.cell? ⟨gb102, 2, none⟩ = some (.string a1_2) := (blk_cell BK102.out 2).trans rfl; have hcz45_3 : w42.cell? ⟨gb102, 3, none⟩ = some (.string a1_3) := (blk_cell BK102.out 3).trans rfl; have hcz45_4 : w42.cell? ⟨gb102, 4, none⟩ = some (.int .i64 a1_4) := (blk_cell BK102.out 4).trans rfl; have hcz45_5 : w42.cell? ⟨gb102, 5, none⟩ = some (.int .i64 a1_5) := (blk_cell BK102.out 5).trans rfl; have hcz45_6 : w42.cell? ⟨gb102, 6, none⟩ = some (.int .i64 a1_6) := (blk_cell BK102.out 6).trans rfl; have hcz45_7 : w42.cell? ⟨gb102, 7, none⟩ = some (.int .i64 a1_7) := (blk_cell BK102.out 7).trans rfl; have hcz45_8 : w42.cell? ⟨gb102, 8, none⟩ = some (.int .i64 a1_8) := (blk_cell BK102.out 8).trans rfl; have hcz45_9 : w42.cell? ⟨gb102, 9, none⟩ = some (.int .i64 a1_9) := (blk_cell BK102.out 9).trans rfl; have hcz45_10 : w42.cell? ⟨gb102, 10, none⟩ = some (.int .i64 a1_10) := (blk_cell BK102.out 10).trans rfl; have hcz45_11 : w42.cell? ⟨gb102, 11, none⟩ = some (.slice A1_11 l1_11.length c1_11) := (blk_cell BK102.out 11).trans rfl; have hcz45_12 : w42.cell? ⟨gb102, 12, none⟩ = some (.int .i64 a1_12) := (blk_cell BK102.out 12).trans rfl; have hfz45_0 := blk_frozen BK102.out 0; have hfz45_1 := blk_frozen BK102.out 1; have hfz45_2 := blk_frozen BK102.out 2; have hfz45_3 := blk_frozen BK102.out 3; have hfz45_4 := blk_frozen BK102.out 4; have hfz45_5 := blk_frozen BK102.out 5; have hfz45_6 := blk_frozen BK102.out 6; have hfz45_7 := blk_frozen BK102.out 7; have hfz45_8 := blk_frozen BK102.out 8; have hfz45_9 := blk_frozen BK102.out 9; have hfz45_10 := blk_frozen BK102.out 10; have hfz45_11 := blk_frozen BK102.out 11; have hfz45_12 := blk_frozen BK102.out 12))
   go_ret
   exact ⟨by first | rfl | (simp [errW_none, errW_some] <;> rfl) | (simp [*, errW_none, errW_some] <;> rfl), by repeat (with_reducible first | exact HB.out | apply below_alloc | apply pw_below_drewN | apply below_drew1 | refine below_set ?_ GE101.out | refine below_set ?_ GE102.out)⟩
end
def sameS (EQ : List S37 → List S37 → Option Bool) (x y : S37) : Option Bool := sameE EQ x.f0 x.f1 x.f2 x.f3 x.f4 x.f5.f0.f0 x.f5.f0.f1 x.f5.f0.f2 x.f5.f1.f0 x.f5.f1.f1 x.f5.f1.f2 x.f6 x.f7 y.f0 y.f1 y.f2 y.f3 y.f4 y.f5.f0.f0 y.f5.f0.f1 y.f5.f0.f2 y.f5.f1.f0 y.f5.f1.f1 y.f5.f1.f2 y.f6 y.f7
def eqLoop (EQ : List S37 → List S37 → Option Bool) : List S37 → List S37 → Option Bool
 | [], _ => some true
 | _ :: _, [] => some false
 | x :: xs, y :: ys => (sameS EQ x y).bind fun t => if t = true then eqLoop EQ xs ys else some false
def parser_Equal.f : Nat → List S37 → List S37 → Option Bool
 | 0, _, _ => none
 | k + 1, l, m => if l.length = m.length then eqLoop (parser_Equal.f k) l m else some false
theorem sameE_le {E E' : List S37 → List S37 → Option Bool} (h : ∀ l m, LeO (E l m) (E' l m)) (x y : S37) : LeO (sameS E x y) (sameS E' x y) := by
 unfold sameS sameE
 exact LeO.ite (LeO.ite (LeO.ite (LeO.ite (LeO.ite (LeO.ite (LeO.bind (h _ _) fun _ => LeO.refl _) (LeO.refl _)) (LeO.refl _)) (LeO.refl _)) (LeO.refl _)) (LeO.refl _)) (LeO.refl _)
theorem eqLoop_le {E E' : List S37 → List S37 → Option Bool} (h : ∀ l m, LeO (E l m) (E' l m)) : ∀ (l m : List S37), LeO (eqLoop E l m) (eqLoop E' l m)
 | [], _ => LeO.refl _
 | _ :: _, [] => LeO.refl _
 | x :: xs, y :: ys => LeO.bind (sameE_le h x y) fun _ => LeO.ite (eqLoop_le h xs ys) (LeO.refl _)
theorem Equal_le : ∀ (k : Nat) (l m : List S37), LeO (parser_Equal.f k l m) (parser_Equal.f (k + 1) l m)
 | 0, l, m => fun r h => by simp [parser_Equal.f] at h
 | k + 1, l, m => by
  have ih := Equal_le k
  show LeO (if l.length = m.length then eqLoop (parser_Equal.f k) l m else some false) (if l.length = m.length then eqLoop (parser_Equal.f (k + 1)) l m else some false)
  exact LeO.ite (eqLoop_le ih l m) (LeO.refl _)
def EqContract (EQ : List S37 → List S37 → Option Bool) : Prop := ∀ (A0 : Option Addr) (c0 : Nat) (l0 : List (S37)) (A1 : Option Addr) (c1 : Nat) (l1 : List (S37)) (r : Bool) (w : World), Kd.C k37 w A0 l0.length l0 → l0.length ≤ c0 → Kd.C k37 w A1 l1.length l1 → l1.length ≤ c1 → EQ l0 l1 = some r → Calls Tryz.prog 12 #[.slice A0 l0.length c0, .slice A1 l1.length c1] w fun e w' => e = .returned (.bool r) ∧ Below w.heap.size w w'
theorem drop_rd (l : List S37) (i : Nat) (h : i < l.length) : l.drop i = rd_T37 l (i : Int) :: l.drop (i + 1) := by
 rw [List.drop_eq_getElem_cons h]; congr 1; simp [rd_T37, h]
theorem eqFunc_calls (EQ : List S37 → List S37 → Option Bool) (HE : Aside0 (EqContract EQ)) (A0 : Option Addr) (c0 : Nat) (l0 : List (S37)) (A1 : Option Addr) (c1 : Nat) (l1 : List (S37)) (r : Bool) (w : World) (h0 : Kd.C k37 w A0 l0.length l0) (hc0 : l0.length ≤ c0) (h1 : Kd.C k37 w A1 l1.length l1) (hc1 : l1.length ≤ c1) (h : (if l0.length = l1.length then eqLoop EQ l0 l1 else some false) = some r) :
 Calls Tryz.prog 23 #[.slice A0 l0.length c0, .slice A1 l1.length c1, .func (.func 24) #[] #[]] w fun e w' => e = .returned (.bool r) ∧ Below w.heap.size w w' := by
 have hu55 := Tryz.underlying37
 have H0 := Aside0.mk h0
 have H1 := Aside0.mk h1
 have hm0 := Kd.C_max h0
 clear h0 h1
 by_cases hl : l0.length = l1.length
 · rw [if_pos hl] at h
   have HR := Aside0.mk h
   have hlb : ((l0.length : Int) != (l1.length : Int)) = false := by simp [hl]
   have HL := Aside0.mk hl
   clear h hl
   go_enter Tryz.func23, Tryz.ntmps23
   go_wp2_with fail
   go_loopg [17] l0.length (fun kq v17 wr => ∃ (i : Nat), v17 = .int .i64 i ∧ Aside0 (i + kq = l0.length ∧ eqLoop EQ (l0.drop i) (l1.drop i) = some r ∧ Below w.heap.size w wr))
   case atStart => exact ⟨0, rfl, ⟨by omega, by simpa using HR.out, Below.refl _ _⟩⟩
   case round =>
    clear HR
    obtain ⟨i, rfl, ⟨hk, hs, hb⟩⟩ := hrel
    have HS := Aside0.mk hs
    have HB := Aside0.mk hb
    clear hs hb
    rcases gk with _ | k1
    · have hi : i = l0.length := by omega
      have hr : r = true := by have := HS.out; rw [hi, List.drop_length] at this; simpa [eqLoop] using this.symm
      have hlt : decide ((i : Int) < (l0.length : Int)) = false := by simp [hi]
      subst hr
      go_wp2_with fail
      go_ret
      exact ⟨rfl, HB.out⟩
    · have hi : i < l0.length := by omega
      have hlt : decide ((i : Int) < (l0.length : Int)) = true := by simp [hi]
      have hp : (0 ≤ (i : Int)) := by omega
      have hq0 : (i : Int) < (l0.length : Int) := by omega
      have hq1 : (i : Int) < (l1.length : Int) := by have := HL.out; omega
      obtain ⟨ad, Ax, cx, ex, x0, x1, x2, x3, x4, x5, x6, x7, x8, x9, x10, x11, x12, hlx, hCx⟩ := at_T37 (Kd.C_below H0.out HB.out) i hp hq0
      obtain ⟨bd, Ay, cy, ey, y0, y1, y2, y3, y4, y5, y6, y7, y8, y9, y10, y11, y12, hly, hCy⟩ := at_T37 (Kd.C_below H1.out HB.out) i hp hq1
      cases ex
      cases ey
      have HS1 := HS.out
      rw [drop_rd l0 i hi, drop_rd l1 i (by have := HL.out; omega)] at HS1
      simp only [eqLoop] at HS1
      obtain ⟨t, ht, hrest⟩ := Option.bind_eq_some_iff.1 HS1
      have HT := Aside0.mk ht
      have HRest := Aside0.mk hrest
      have HCX := Aside0.mk hCx
      have HCY := Aside0.mk hCy
      clear HS HS1 ht hrest hCx hCy
      simp only [Int.toNat_natCast] at x0 x1 x2 x3 x4 x5 x6 x7 x8 x9 x10 x11 x12 y0 y1 y2 y3 y4 y5 y6 y7 y8 y9 y10 y11 y12
      replace hp := eq_true hp
      replace hq0 := eq_true hq0
      replace hq1 := eq_true hq1
      have hbd := cell_lt y0
      go_wp2_with fail
      refine (sameE_calls EQ HE _ _ _ _ _ _ _ _ _ _ _ _ _ _ _ _ _ _ _ _ _ _ _ _ _ _ _ _ _ _ t _ (Kd.C_alloc (Kd.C_alloc HCX.out _) _) hlx (Kd.C_alloc (Kd.C_alloc HCY.out _) _) hly HT.out).mono ?_
      rintro e w1 ⟨rfl, hb1⟩
      have HB1 := Aside0.mk (below_step (below_alloc (below_alloc HB.out _) _) hb1)
      clear HB hb1 HCX HCY HT hbd x0 y0 x1 y1 x2 y2 x3 y3 x4 y4 x5 y5 x6 y6 x7 y7 x8 y8 x9 y9 x10 y10 x11 y11 x12 y12
      cases t with
      | true =>
       have HRest' := Aside0.mk ((if_pos rfl).symm.trans HRest.out)
       clear HRest
       go_wp2_with fail
       go_roundg k1
       case measure => omega
       case rel => exact ⟨i + 1, by first | rfl | (simp; done), ⟨by omega, HRest'.out, HB1.out⟩⟩
      | false =>
       have hr : r = false := by have := HRest.out; simpa using this.symm
       subst hr
       clear HRest
       go_wp2_with fail
       go_ret
       exact ⟨rfl, HB1.out⟩
 · rw [if_neg hl] at h
   obtain rfl := Option.some.inj h
   have hlb : ((l0.length : Int) != (l1.length : Int)) = true := by simp; omega
   go_enter Tryz.func23, Tryz.ntmps23
   go_wp2_with fail
   go_ret
   exact ⟨rfl, Below.refl _ _⟩
theorem eq_contract : ∀ (k : Nat), EqContract (parser_Equal.f k)
 | 0 => fun A0 c0 l0 A1 c1 l1 r w h0 hc0 h1 hc1 h => by simp [parser_Equal.f] at h
 | k + 1 => fun A0 c0 l0 A1 c1 l1 r w h0 hc0 h1 hc1 h => by
  have HE := Aside0.mk (eqFunc_calls (parser_Equal.f k) ⟨eq_contract k⟩ A0 c0 l0 A1 c1 l1 r w h0 hc0 h1 hc1 h)
  clear h0 hc0 h1 hc1 h
  go_enter Tryz.func12, Tryz.ntmps12
  go_wp2_with fail
  refine HE.out.mono ?_
  rintro e w1 ⟨rfl, hb1⟩
  have HB1 := Aside0.mk hb1
  clear hb1 HE
  go_wp2_with fail
  go_ret
  exact ⟨rfl, HB1.out⟩
theorem parser_Equal.calls (k : Nat) (A0 : Option Addr) (c0 : Nat) (l0 : List (S37)) (A1 : Option Addr) (c1 : Nat) (l1 : List (S37)) (r : Bool) (w : World) (hr0 : Kd.C k37 w A0 l0.length l0) (hc0 : l0.length ≤ c0) (hr1 : Kd.C k37 w A1 l1.length l1) (hc1 : l1.length ≤ c1) (h : parser_Equal.f k l0 l1 = some r) :
 Calls Tryz.prog 12 #[.slice A0 l0.length c0, .slice A1 l1.length c1] w fun e w' => e = .returned (.bool r) ∧ Below w.heap.size w w' := eq_contract k A0 c0 l0 A1 c1 l1 r w hr0 hc0 hr1 hc1 h
theorem sameS_calls (k : Nat) (x y : S37) (Ax Ay : Option Addr) (cx cy : Nat) (r : Bool) (w : World) (hx : Kd.C k37 w Ax x.f6.length x.f6) (hcx : x.f6.length ≤ cx) (hy : Kd.C k37 w Ay y.f6.length y.f6) (hcy : y.f6.length ≤ cy) (h : sameS (parser_Equal.f k) x y = some r) :
 Calls Tryz.prog 24 #[.agg (stmC x (.slice Ax x.f6.length cx)), .agg (stmC y (.slice Ay y.f6.length cy))] w fun e w' => e = .returned (.bool r) ∧ Below w.heap.size w w' :=
 sameE_calls (parser_Equal.f k) ⟨eq_contract k⟩ _ _ _ _ _ _ _ _ _ _ _ _ _ _ _ _ _ _ _ _ _ _ _ _ _ _ _ _ _ _ r w hx hcx hy hcy h
section
attribute [local go_sem high] eqA35
def RContract (EQ : List S37 → List S37 → Option Bool) : Prop := ∀ (A0 : Option Addr) (c0 : Nat) (l0 : List (S37)) (A1 : Option Addr) (c1 : Nat) (l1 : List (S37)) (r : Bool) (w : World), Kd.C k37 w A0 l0.length l0 → l0.length ≤ c0 → Kd.C k37 w A1 l1.length l1 → l1.length ≤ c1 → EQ l0 l1 = some r → Calls Tryz.prog 13 #[.slice A0 l0.length c0, .slice A1 l1.length c1] w fun e w' => e = .returned (.bool r) ∧ Below w.heap.size w w'
theorem rsame_step (EQ : List S37 → List S37 → Option Bool) (HE : Aside0 (RContract EQ)) (A0 : Option Addr) (c0 : Nat) (l0 : List (S37)) (A1 : Option Addr) (c1 : Nat) (l1 : List (S37)) (r : Bool) (w : World) (h0 : Kd.C k37 w A0 l0.length l0) (hc0 : l0.length ≤ c0) (h1 : Kd.C k37 w A1 l1.length l1) (hc1 : l1.length ≤ c1) (h : (if l0.length = l1.length then eqLoop EQ l0 l1 else some false) = some r) :
 Calls Tryz.prog 13 #[.slice A0 l0.length c0, .slice A1 l1.length c1] w fun e w' => e = .returned (.bool r) ∧ Below w.heap.size w w' := by
 have hu55 := Tryz.underlying37
 have hu53 := Tryz.underlying35
 have H0 := Aside0.mk h0
 have H1 := Aside0.mk h1
 have hm0 := Kd.C_max h0
 clear h0 h1
 by_cases hl : l0.length = l1.length
 · rw [if_pos hl] at h
   have HR := Aside0.mk h
   have hlb : ((l0.length : Int) != (l1.length : Int)) = false := by simp [hl]
   have HL := Aside0.mk hl
   clear h hl
   go_enter Tryz.func13, Tryz.ntmps13
   go_wp2_with fail
   go_loopg [5] l0.length (fun kq v5 wr => ∃ (i : Nat), v5 = .int .i64 i ∧ Aside0 (i + kq = l0.length ∧ eqLoop EQ (l0.drop i) (l1.drop i) = some r ∧ Below w.heap.size w wr))
   case atStart => exact ⟨0, rfl, ⟨by omega, by simpa using HR.out, Below.refl _ _⟩⟩
   case round =>
    clear HR
    obtain ⟨i, rfl, ⟨hk, hs, hb⟩⟩ := hrel
    have HS := Aside0.mk hs
    have HB := Aside0.mk hb
    clear hs hb
    rcases gk with _ | k1
    · have hi : i = l0.length := by omega
      have hr : r = true := by have := HS.out; rw [hi, List.drop_length] at this; simpa [eqLoop] using this.symm
      have hlt : decide ((i : Int) < (l0.length : Int)) = false := by simp [hi]
      subst hr
      go_wp2_with fail
      go_ret
      exact ⟨rfl, HB.out⟩
    · have hi : i < l0.length := by omega
      have hlt : decide ((i : Int) < (l0.length : Int)) = true := by simp [hi]
      have hp : (0 ≤ (i : Int)) := by omega
      have hq0 : (i : Int) < (l0.length : Int) := by omega
      have hq1 : (i : Int) < (l1.length : Int) := by have := HL.out; omega
      obtain ⟨ad, Ax, cx, ex, x0, x1, x2, x3, x4, x5, x6, x7, x8, x9, x10, x11, x12, hlx, hCx⟩ := at_T37 (Kd.C_below H0.out HB.out) i hp hq0
      obtain ⟨bd, Ay, cy, ey, y0, y1, y2, y3, y4, y5, y6, y7, y8, y9, y10, y11, y12, hly, hCy⟩ := at_T37 (Kd.C_below H1.out HB.out) i hp hq1
      cases ex
      cases ey
      have HS1 := HS.out
      rw [drop_rd l0 i hi, drop_rd l1 i (by have := HL.out; omega)] at HS1
      simp only [eqLoop] at HS1
      obtain ⟨tq, ht, hrest⟩ := Option.bind_eq_some_iff.1 HS1
      have HRest := Aside0.mk hrest
      have HCX := Aside0.mk hCx
      have HCY := Aside0.mk hCy
      clear HS HS1 hrest hCx hCy
      unfold sameS sameE at ht
      have HS1 := Aside0.mk ht
      clear ht
      simp only [Int.toNat_natCast] at x0 x1 x2 x3 x4 x5 x6 x7 x8 x9 x10 x11 x12 y0 y1 y2 y3 y4 y5 y6 y7 y8 y9 y10 y11 y12
      have hbd := cell_lt y0
      replace hp := eq_true hp
      replace hq0 := eq_true hq0
      replace hq1 := eq_true hq1
      by_cases c0 : (rd_T37 l0 (i : Int)).f0 = (rd_T37 l1 (i : Int)).f0
      · have HS2 := Aside0.mk ((if_pos c0).symm.trans HS1.out)
        have t0 : ((rd_T37 l0 (i : Int)).f0 == (rd_T37 l1 (i : Int)).f0) = true := beq_iff_eq.mpr c0
        have u0 : ((rd_T37 l0 (i : Int)).f0 != (rd_T37 l1 (i : Int)).f0) = false := bne_eq_false_iff_eq.mpr c0
        clear HS1 c0
        have HS1 := HS2
        clear HS2
        by_cases c1 : (rd_T37 l0 (i : Int)).f1 = (rd_T37 l1 (i : Int)).f1
        · have HS2 := Aside0.mk ((if_pos c1).symm.trans HS1.out)
          have t1 : ((rd_T37 l0 (i : Int)).f1 == (rd_T37 l1 (i : Int)).f1) = true := beq_iff_eq.mpr c1
          have u1 : ((rd_T37 l0 (i : Int)).f1 != (rd_T37 l1 (i : Int)).f1) = false := bne_eq_false_iff_eq.mpr c1
          clear HS1 c1
          have HS1 := HS2
          clear HS2
          by_cases c2 : (rd_T37 l0 (i : Int)).f2.toList = (rd_T37 l1 (i : Int)).f2.toList
          · have HS2 := Aside0.mk ((if_pos c2).symm.trans HS1.out)
            have t2 : ((rd_T37 l0 (i : Int)).f2.toList == (rd_T37 l1 (i : Int)).f2.toList) = true := beq_iff_eq.mpr c2
            have u2 : ((rd_T37 l0 (i : Int)).f2.toList != (rd_T37 l1 (i : Int)).f2.toList) = false := bne_eq_false_iff_eq.mpr c2
            clear HS1 c2
            have HS1 := HS2
            clear HS2
            by_cases c3 : (rd_T37 l0 (i : Int)).f3.toList = (rd_T37 l1 (i : Int)).f3.toList
            · have HS2 := Aside0.mk ((if_pos c3).symm.trans HS1.out)
              have t3 : ((rd_T37 l0 (i : Int)).f3.toList == (rd_T37 l1 (i : Int)).f3.toList) = true := beq_iff_eq.mpr c3
              have u3 : ((rd_T37 l0 (i : Int)).f3.toList != (rd_T37 l1 (i : Int)).f3.toList) = false := bne_eq_false_iff_eq.mpr c3
              clear HS1 c3
              have HS1 := HS2
              clear HS2
              by_cases c4 : (rd_T37 l0 (i : Int)).f4 = (rd_T37 l1 (i : Int)).f4
              · have HS2 := Aside0.mk ((if_pos c4).symm.trans HS1.out)
                have t4 : ((rd_T37 l0 (i : Int)).f4 == (rd_T37 l1 (i : Int)).f4) = true := beq_iff_eq.mpr c4
                have u4 : ((rd_T37 l0 (i : Int)).f4 != (rd_T37 l1 (i : Int)).f4) = false := bne_eq_false_iff_eq.mpr c4
                clear HS1 c4
                have HS1 := HS2
                clear HS2
                cases c9 : ((((rd_T37 l0 (i : Int)).f5.f0.f0 == (rd_T37 l1 (i : Int)).f5.f0.f0 && ((rd_T37 l0 (i : Int)).f5.f0.f1 == (rd_T37 l1 (i : Int)).f5.f0.f1 && ((rd_T37 l0 (i : Int)).f5.f0.f2 == (rd_T37 l1 (i : Int)).f5.f0.f2))) && (((rd_T37 l0 (i : Int)).f5.f1.f0 == (rd_T37 l1 (i : Int)).f5.f1.f0 && ((rd_T37 l0 (i : Int)).f5.f1.f1 == (rd_T37 l1 (i : Int)).f5.f1.f1 && ((rd_T37 l0 (i : Int)).f5.f1.f2 == (rd_T37 l1 (i : Int)).f5.f1.f2))))) : Bool) with
                | true =>
                 have HS2 := Aside0.mk ((if_pos c9).symm.trans HS1.out)
                 clear HS1
                 obtain ⟨t, ht, hrest⟩ := Option.bind_eq_some_iff.1 HS2.out
                 obtain rfl := Option.some.inj hrest
                 have HT := Aside0.mk ht
                 clear HS2 ht hrest
                 go_wp2_with fail
                 refine (HE.out _ _ _ _ _ _ t _ (Kd.C_alloc (Kd.C_alloc HCX.out _) _) hlx (Kd.C_alloc (Kd.C_alloc HCY.out _) _) hly HT.out).mono ?_
                 rintro e w1 ⟨rfl, hb1⟩
                 have HB1 := Aside0.mk (below_step (below_alloc (below_alloc HB.out _) _) hb1)
                 clear HB hb1 HCX HCY HT
                 cases t with
                 | true =>
                  have HR1 := Aside0.mk ((if_pos rfl).symm.trans HRest.out)
                  clear HRest
                  go_wp2_with fail
                  go_roundg k1
                  case measure => omega
                  case rel => exact ⟨i + 1, by first | rfl | (simp; done), ⟨by omega, HR1.out, HB1.out⟩⟩
                 | false =>
                  have hr : r = false := by have := HRest.out; simpa using this.symm
                  subst hr
                  clear HRest
                  go_wp2_with fail
                  go_ret
                  exact ⟨rfl, HB1.out⟩
                | false =>
                 have ht : tq = false := by have := HS1.out; simpa [c9] using this.symm
                 subst ht
                 have hr : r = false := by have := HRest.out; simpa using this.symm
                 subst hr
                 clear HS1 HRest
                 go_wp2_with fail
                 go_ret
                 exact ⟨rfl, below_alloc (below_alloc HB.out _) _⟩
              · have t4 : ((rd_T37 l0 (i : Int)).f4 == (rd_T37 l1 (i : Int)).f4) = false := beq_eq_false_iff_ne.mpr c4
                have u4 : ((rd_T37 l0 (i : Int)).f4 != (rd_T37 l1 (i : Int)).f4) = true := bne_iff_ne.mpr c4
                have HS2 := Aside0.mk ((if_neg c4).symm.trans HS1.out)
                clear HS1 c4
                have HS1 := HS2
                clear HS2
                have ht : tq = false := by have := HS1.out; simpa [] using this.symm
                subst ht
                have hr : r = false := by have := HRest.out; simpa using this.symm
                subst hr
                clear HS1 HRest
                go_wp2_with fail
                go_ret
                exact ⟨rfl, below_alloc (below_alloc HB.out _) _⟩
            · have t3 : ((rd_T37 l0 (i : Int)).f3.toList == (rd_T37 l1 (i : Int)).f3.toList) = false := beq_eq_false_iff_ne.mpr c3
              have u3 : ((rd_T37 l0 (i : Int)).f3.toList != (rd_T37 l1 (i : Int)).f3.toList) = true := bne_iff_ne.mpr c3
              have HS2 := Aside0.mk ((if_neg c3).symm.trans HS1.out)
              clear HS1 c3
              have HS1 := HS2
              clear HS2
              have ht : tq = false := by have := HS1.out; simpa [] using this.symm
              subst ht
              have hr : r = false := by have := HRest.out; simpa using this.symm
              subst hr
              clear HS1 HRest
              go_wp2_with fail
              go_ret
              exact ⟨rfl, below_alloc (below_alloc HB.out _) _⟩
          · have t2 : ((rd_T37 l0 (i : Int)).f2.toList == (rd_T37 l1 (i : Int)).f2.toList) = false := beq_eq_false_iff_ne.mpr c2
            have u2 : ((rd_T37 l0 (i : Int)).f2.toList != (rd_T37 l1 (i : Int)).f2.toList) = true := bne_iff_ne.mpr c2
            have HS2 := Aside0.mk ((if_neg c2).symm.trans HS1.out)
            clear HS1 c2
            have HS1 := HS2
            clear HS2
            have ht : tq = false := by have := HS1.out; simpa [] using this.symm
            subst ht
            have hr : r = false := by have := HRest.out; simpa using this.symm
            subst hr
            clear HS1 HRest
            go_wp2_with fail
            go_ret
            exact ⟨rfl, below_alloc (below_alloc HB.out _) _⟩
        · have t1 : ((rd_T37 l0 (i : Int)).f1 == (rd_T37 l1 (i : Int)).f1) = false := beq_eq_false_iff_ne.mpr c1
          have u1 : ((rd_T37 l0 (i : Int)).f1 != (rd_T37 l1 (i : Int)).f1) = true := bne_iff_ne.mpr c1
          have HS2 := Aside0.mk ((if_neg c1).symm.trans HS1.out)
          clear HS1 c1
          have HS1 := HS2
          clear HS2
          have ht : tq = false := by have := HS1.out; simpa [] using this.symm
          subst ht
          have hr : r = false := by have := HRest.out; simpa using this.symm
          subst hr
          clear HS1 HRest
          go_wp2_with fail
          go_ret
          exact ⟨rfl, below_alloc (below_alloc HB.out _) _⟩
      · have t0 : ((rd_T37 l0 (i : Int)).f0 == (rd_T37 l1 (i : Int)).f0) = false := beq_eq_false_iff_ne.mpr c0
        have u0 : ((rd_T37 l0 (i : Int)).f0 != (rd_T37 l1 (i : Int)).f0) = true := bne_iff_ne.mpr c0
        have HS2 := Aside0.mk ((if_neg c0).symm.trans HS1.out)
        clear HS1 c0
        have HS1 := HS2
        clear HS2
        have ht : tq = false := by have := HS1.out; simpa [] using this.symm
        subst ht
        have hr : r = false := by have := HRest.out; simpa using this.symm
        subst hr
        clear HS1 HRest
        go_wp2_with fail
        go_ret
        exact ⟨rfl, below_alloc (below_alloc HB.out _) _⟩
 · rw [if_neg hl] at h
   obtain rfl := Option.some.inj h
   have hlb : ((l0.length : Int) != (l1.length : Int)) = true := by simp; omega
   go_enter Tryz.func13, Tryz.ntmps13
   go_wp2_with fail
   go_ret
   exact ⟨rfl, Below.refl _ _⟩
theorem r_contract : ∀ (k : Nat), RContract (parser_Equal.f k)
 | 0 => fun A0 c0 l0 A1 c1 l1 r w h0 hc0 h1 hc1 h => by simp [parser_Equal.f] at h
 | k + 1 => fun A0 c0 l0 A1 c1 l1 r w h0 hc0 h1 hc1 h => rsame_step (parser_Equal.f k) ⟨r_contract k⟩ A0 c0 l0 A1 c1 l1 r w h0 hc0 h1 hc1 h
def ambidexterref11_Same.f (k : Nat) (l m : List S37) : Option Bool := parser_Equal.f k l m
theorem ambidexterref11_Same.calls (k : Nat) (A0 : Option Addr) (c0 : Nat) (l0 : List (S37)) (A1 : Option Addr) (c1 : Nat) (l1 : List (S37)) (r : Bool) (w : World) (hr0 : Kd.C k37 w A0 l0.length l0) (hc0 : l0.length ≤ c0) (hr1 : Kd.C k37 w A1 l1.length l1) (hc1 : l1.length ≤ c1) (h : ambidexterref11_Same.f k l0 l1 = some r) :
 Calls Tryz.prog 13 #[.slice A0 l0.length c0, .slice A1 l1.length c1] w fun e w' => e = .returned (.bool r) ∧ Below w.heap.size w w' := r_contract k A0 c0 l0 A1 c1 l1 r w hr0 hc0 hr1 hc1 h
end
def parser_named.f (a0_0 : Int) (a0_1 : ByteArray) (a0_2 : Int) : Option Bool := some (isNamed ⟨a0_0, a0_1, a0_2⟩)
theorem parser_named.calls (a0_0 : Int) (a0_1 : ByteArray) (a0_2 : Int) (r : Bool) (w : World) (h : parser_named.f a0_0 a0_1 a0_2 = some r) (hG : Glob w) :
 Calls Tryz.prog 80 #[.agg #[.int .i64 a0_0, .string a0_1, .int .i64 a0_2]] w fun e w' => e = .returned (.bool r) ∧ Below w.heap.size w w' := by
 obtain rfl := Option.some.inj h
 exact named_calls w ⟨a0_0, a0_1, a0_2⟩ hG.1
def parser_name.f (a0 : ByteArray) : Option (Bool) := (lexer_Lex.f a0).bind fun bt118 => (if bt118.2.1 = 0 then (if (bt118.1.length : Int) = 1 then (if 0 < (bt118.1.length : Int) then ((parser_named.f ((rd_T67 bt118.1 0).f0) ((rd_T67 bt118.1 0).f1) ((rd_T67 bt118.1 0).f2)).bind fun t124 => (if t124 = true then (some (((rd_T67 bt118.1 0).f1).toList == a0.toList)) else (some false))) else (none)) else (some false)) else (some false))
theorem parser_name.calls (a0 : ByteArray) (r : Bool) (w : World) (h : parser_name.f a0 = some r) (hG : Glob w) :
 Calls Tryz.prog 65 #[.string a0] w fun e w' => e = .returned (.bool r) ∧ Below w.heap.size w w' := by
 have HGL := Aside0.mk hG
 clear hG
 have hu44 := Tryz.underlying67
 have HB := Aside0.mk (Below.refl w.heap.size w)
 have H : ((lexer_Lex.f a0).bind fun bt118 => (if bt118.2.1 = 0 then (if (bt118.1.length : Int) = 1 then (if 0 < (bt118.1.length : Int) then ((parser_named.f ((rd_T67 bt118.1 0).f0) ((rd_T67 bt118.1 0).f1) ((rd_T67 bt118.1 0).f2)).bind fun t124 => (if t124 = true then (some (((rd_T67 bt118.1 0).f1).toList == a0.toList)) else (some false))) else (none)) else (some false)) else (some false))) = some r := h
 clear h
 replace H := Option.bind_eq_some_iff.mp H
 obtain ⟨⟨t118, t119, t120⟩, A20, H⟩ := H
 replace H : (if t119 = 0 then (if (t118.length : Int) = 1 then (if 0 < (t118.length : Int) then ((parser_named.f ((rd_T67 t118 0).f0) ((rd_T67 t118 0).f1) ((rd_T67 t118 0).f2)).bind fun t124 => (if t124 = true then (some (((rd_T67 t118 0).f1).toList == a0.toList)) else (some false))) else (none)) else (some false)) else (some false)) = some r := H
 have A2 := Aside0.mk A20
 clear A20
 by_cases c3 : t119 = 0
 · rw [if_pos c3] at H
   have c3b0 : (t119 == 0) = true := beq_iff_eq.mpr c3
   have c3b1 : (t119 != 0) = false := bne_eq_false_iff_eq.mpr c3
   clear c3
   by_cases c4 : (t118.length : Int) = 1
   · rw [if_pos c4] at H
     have c4b0 : ((t118.length : Int) == 1) = true := beq_iff_eq.mpr c4
     have c4b1 : ((t118.length : Int) != 1) = false := bne_eq_false_iff_eq.mpr c4
     clear c4
     by_cases c5 : 0 < (t118.length : Int)
     · rw [if_pos c5] at H
       have c5b0 : decide (0 < (t118.length : Int)) = true := decide_eq_true c5
       have c5b1 : decide (0 < t118.length) = true := decide_eq_true (by omega)
       clear c5
       replace H := Option.bind_eq_some_iff.mp H
       obtain ⟨t124, A60, H⟩ := H
       replace H : (if t124 = true then (some (((rd_T67 t118 0).f1).toList == a0.toList)) else (some false)) = some r := H
       have A6 := Aside0.mk A60
       clear A60
       by_cases c7 : t124 = true
       · subst c7
         have H1 : (some (((rd_T67 t118 0).f1).toList == a0.toList)) = some r := by rw [if_pos rfl] at H; exact H
         clear H
         have H := H1
         clear H1
         obtain rfl := Option.some.inj H
         go_enter Tryz.func65, Tryz.ntmps65
         go_wp2_with (first | ((with_reducible refine gate_callee (f := 17) rfl ?_); refine goesL_ (some 8) rfl rfl Tryz.func17 (by kernel_rfl) rfl #[.string a0] rfl (by (try simp only [List.map_toArray, List.map_cons, List.map_nil]); first | done | rfl | (simp only [List.length_drop, List.length_take]; rfl)) ?_; (with_reducible refine (lexer_Lex.calls a0 t118 t119 t120 _ A2.out).mono ?_); rintro e w8 ⟨v121, rfl, ho0, hb⟩; refine ⟨_, rfl, ?_⟩; have n0_ := Aside0.mk (Kd.R_lower ho0 (below_size (by exact up_ HB.out))); have n1_ := Aside0.mk (below_step (by exact up_ HB.out) hb); clear HB; have HO122 := n0_; have HB := n1_; clear n0_ n1_; (try clear hb); (try clear hb2); (try clear hk); (try clear hi); (try clear ho0); obtain ⟨Ao9, co9, eo9⟩ := Kd.R_slice HO122.out; subst eo9; have p123 : 0 ≤ (0 : Int) := (by omega); have q123 : 0 < (t118.length : Int) := of_decide_eq_true (by first | (with_reducible assumption) | assumption); obtain ⟨ad123, e123, hx123_0, hx123_1, hx123_2⟩ := at_T67 (Kd.R_reads' HO122.out).2.2 0 p123 q123; cases e123; have qi123 : (0 < t118.length) = True := eq_true (by omega); (try rw [show ((0 : Int)).toNat = 0 from rfl] at hx123_0); (try rw [show 0 * 3 = 0 from rfl] at hx123_0); (try rw [Addr.add_zero'] at hx123_0); (try rw [show ((0 : Int)).toNat = 0 from rfl] at hx123_1); (try rw [show 0 * 3 = 0 from rfl] at hx123_1); (try rw [Addr.add_zero'] at hx123_1); (try rw [show ((0 : Int)).toNat = 0 from rfl] at hx123_2); (try rw [show 0 * 3 = 0 from rfl] at hx123_2); (try rw [Addr.add_zero'] at hx123_2); replace p123 := eq_true p123; replace q123 := eq_true q123) | (go_at_call 80; (with_reducible refine (parser_named.calls ((rd_T67 t118 0).f0) ((rd_T67 t118 0).f1) ((rd_T67 t118 0).f2) true _ A6.out (HGL.out.below (by exact up_ HB.out))).mono ?_); rintro e w10 ⟨rfl, hb⟩; have n0_ := Aside0.mk (Kd.R_below (by (with_reducible repeat (first | apply Kd.R_alloc | apply Kd.R_drewN | apply Kd.R_drew)); exact HO122.out) hb); have n1_ := Aside0.mk (below_step (by exact up_ HB.out) hb); clear HO122; clear HB; have HO122 := n0_; have HB := n1_; clear n0_ n1_; (try clear hb); (try clear hb2); (try clear hk); (try clear hi); have p125 : 0 ≤ (0 : Int) := (by omega); have q125 : 0 < (t118.length : Int) := of_decide_eq_true (by first | (with_reducible assumption) | assumption); obtain ⟨ad125, e125, hx125_0, hx125_1, hx125_2⟩ := at_T67 (Kd.R_reads' HO122.out).2.2 0 p125 q125; obtain rfl : ad123 = ad125 := (by injection e125); have qi125 : (0 < t118.length) = True := eq_true (by omega); (try rw [show ((0 : Int)).toNat = 0 from rfl] at hx125_0); (try rw [show 0 * 3 = 0 from rfl] at hx125_0); (try rw [Addr.add_zero'] at hx125_0); (try rw [show ((0 : Int)).toNat = 0 from rfl] at hx125_1); (try rw [show 0 * 3 = 0 from rfl] at hx125_1); (try rw [Addr.add_zero'] at hx125_1); (try rw [show ((0 : Int)).toNat = 0 from rfl] at hx125_2); (try rw [show 0 * 3 = 0 from rfl] at hx125_2); (try rw [Addr.add_zero'] at hx125_2); replace p125 := eq_true p125; replace q125 := eq_true q125))
         go_ret
         exact ⟨by first | rfl | (simp [errW_none, errW_some] <;> rfl) | (simp [*, errW_none, errW_some] <;> rfl), by exact up_ HB.out⟩
       · replace c7 := Bool.eq_false_iff.mpr c7
         subst c7
         have H1 : (some false) = some r := by rw [if_neg (show ¬ (false = true) by decide)] at H; exact H
         clear H
         have H := H1
         clear H1
         obtain rfl := Option.some.inj H
         go_enter Tryz.func65, Tryz.ntmps65
         go_wp2_with (first | ((with_reducible refine gate_callee (f := 17) rfl ?_); refine goesL_ (some 8) rfl rfl Tryz.func17 (by kernel_rfl) rfl #[.string a0] rfl (by (try simp only [List.map_toArray, List.map_cons, List.map_nil]); first | done | rfl | (simp only [List.length_drop, List.length_take]; rfl)) ?_; (with_reducible refine (lexer_Lex.calls a0 t118 t119 t120 _ A2.out).mono ?_); rintro e w11 ⟨v121, rfl, ho0, hb⟩; refine ⟨_, rfl, ?_⟩; have n0_ := Aside0.mk (Kd.R_lower ho0 (below_size (by exact up_ HB.out))); have n1_ := Aside0.mk (below_step (by exact up_ HB.out) hb); clear HB; have HO122 := n0_; have HB := n1_; clear n0_ n1_; (try clear hb); (try clear hb2); (try clear hk); (try clear hi); (try clear ho0); obtain ⟨Ao12, co12, eo12⟩ := Kd.R_slice HO122.out; subst eo12; have p123 : 0 ≤ (0 : Int) := (by omega); have q123 : 0 < (t118.length : Int) := of_decide_eq_true (by first | (with_reducible assumption) | assumption); obtain ⟨ad123, e123, hx123_0, hx123_1, hx123_2⟩ := at_T67 (Kd.R_reads' HO122.out).2.2 0 p123 q123; cases e123; have qi123 : (0 < t118.length) = True := eq_true (by omega); (try rw [show ((0 : Int)).toNat = 0 from rfl] at hx123_0); (try rw [show 0 * 3 = 0 from rfl] at hx123_0); (try rw [Addr.add_zero'] at hx123_0); (try rw [show ((0 : Int)).toNat = 0 from rfl] at hx123_1); (try rw [show 0 * 3 = 0 from rfl] at hx123_1); (try rw [Addr.add_zero'] at hx123_1); (try rw [show ((0 : Int)).toNat = 0 from rfl] at hx123_2); (try rw [show 0 * 3 = 0 from rfl] at hx123_2); (try rw [Addr.add_zero'] at hx123_2); replace p123 := eq_true p123; replace q123 := eq_true q123) | (go_at_call 80; (with_reducible refine (parser_named.calls ((rd_T67 t118 0).f0) ((rd_T67 t118 0).f1) ((rd_T67 t118 0).f2) false _ A6.out (HGL.out.below (by exact up_ HB.out))).mono ?_); rintro e w13 ⟨rfl, hb⟩; have n0_ := Aside0.mk (Kd.R_below (by (with_reducible repeat (first | apply Kd.R_alloc | apply Kd.R_drewN | apply Kd.R_drew)); exact HO122.out) hb); have n1_ := Aside0.mk (below_step (by exact up_ HB.out) hb); clear HO122; clear HB; have HO122 := n0_; have HB := n1_; clear n0_ n1_; (try clear hb); (try clear hb2); (try clear hk); (try clear hi)))
         go_ret
         exact ⟨by first | rfl | (simp [errW_none, errW_some] <;> rfl) | (simp [*, errW_none, errW_some] <;> rfl), by exact up_ HB.out⟩
     · rw [if_neg c5] at H
       exact absurd H (by simp)
   · rw [if_neg c4] at H
     have c4b0 : ((t118.length : Int) == 1) = false := beq_eq_false_iff_ne.mpr c4
     have c4b1 : ((t118.length : Int) != 1) = true := bne_iff_ne.mpr c4
     obtain rfl := Option.some.inj H
     go_enter Tryz.func65, Tryz.ntmps65
     go_wp2_with (first | ((with_reducible refine gate_callee (f := 17) rfl ?_); refine goesL_ (some 8) rfl rfl Tryz.func17 (by kernel_rfl) rfl #[.string a0] rfl (by (try simp only [List.map_toArray, List.map_cons, List.map_nil]); first | done | rfl | (simp only [List.length_drop, List.length_take]; rfl)) ?_; (with_reducible refine (lexer_Lex.calls a0 t118 t119 t120 _ A2.out).mono ?_); rintro e w14 ⟨v121, rfl, ho0, hb⟩; refine ⟨_, rfl, ?_⟩; have n0_ := Aside0.mk (Kd.R_lower ho0 (below_size (by exact up_ HB.out))); have n1_ := Aside0.mk (below_step (by exact up_ HB.out) hb); clear HB; have HO122 := n0_; have HB := n1_; clear n0_ n1_; (try clear hb); (try clear hb2); (try clear hk); (try clear hi); (try clear ho0); obtain ⟨Ao15, co15, eo15⟩ := Kd.R_slice HO122.out; subst eo15))
     go_ret
     exact ⟨by first | rfl | (simp [errW_none, errW_some] <;> rfl) | (simp [*, errW_none, errW_some] <;> rfl), by exact up_ HB.out⟩
 · rw [if_neg c3] at H
   have c3b0 : (t119 == 0) = false := beq_eq_false_iff_ne.mpr c3
   have c3b1 : (t119 != 0) = true := bne_iff_ne.mpr c3
   obtain rfl := Option.some.inj H
   go_enter Tryz.func65, Tryz.ntmps65
   go_wp2_with (first | ((with_reducible refine gate_callee (f := 17) rfl ?_); refine goesL_ (some 8) rfl rfl Tryz.func17 (by kernel_rfl) rfl #[.string a0] rfl (by (try simp only [List.map_toArray, List.map_cons, List.map_nil]); first | done | rfl | (simp only [List.length_drop, List.length_take]; rfl)) ?_; (with_reducible refine (lexer_Lex.calls a0 t118 t119 t120 _ A2.out).mono ?_); rintro e w16 ⟨v121, rfl, ho0, hb⟩; refine ⟨_, rfl, ?_⟩; have n0_ := Aside0.mk (Kd.R_lower ho0 (below_size (by exact up_ HB.out))); have n1_ := Aside0.mk (below_step (by exact up_ HB.out) hb); clear HB; have HO122 := n0_; have HB := n1_; clear n0_ n1_; (try clear hb); (try clear hb2); (try clear hk); (try clear hi); (try clear ho0)))
   go_ret
   exact ⟨by first | rfl | (simp [errW_none, errW_some] <;> rfl) | (simp [*, errW_none, errW_some] <;> rfl), by exact up_ HB.out⟩
def zJ : S34 := ⟨0, 0, 0⟩
def bareS (x : S37) : S37 :=
 if x.f0 = 1 then ⟨1, x.f1, ⟨#[]⟩, ⟨#[]⟩, 0, if x.f1 = 0 then ⟨x.f5.f0, zJ⟩ else ⟨zJ, x.f5.f1⟩, [], 0⟩
 else if x.f0 = 2 then ⟨2, x.f1, ⟨#[]⟩, ⟨#[]⟩, 0, ⟨zJ, zJ⟩, [], 0⟩
 else if x.f0 = 3 then ⟨3, x.f1, x.f2, ⟨#[]⟩, 0, ⟨zJ, zJ⟩, [], 0⟩
 else if x.f0 = 4 ∨ x.f0 = 5 then ⟨x.f0, x.f1, ⟨#[]⟩, x.f3, 0, ⟨zJ, zJ⟩, [], 0⟩
 else if x.f0 = 6 then ⟨6, 0, ⟨#[]⟩, ⟨#[]⟩, x.f4, ⟨zJ, zJ⟩, [], 0⟩
 else if x.f0 = 7 then ⟨7, 0, x.f2, x.f3, 0, ⟨zJ, zJ⟩, x.f6, 0⟩
 else if x.f0 = 8 then ⟨8, 0, ⟨#[]⟩, ⟨#[]⟩, 0, x.f5, [], 0⟩
 else ⟨x.f0, 0, ⟨#[]⟩, ⟨#[]⟩, 0, ⟨zJ, zJ⟩, [], 0⟩
def bareV (x : S37) (v : Value) : Value := if x.f0 = 7 then v else .slice none 0 0
theorem bare_calls (x : S37) (A : Option Addr) (n c : Nat) (w : World) (hk : 1 ≤ x.f0 ∧ x.f0 ≤ 8) (ha : x.f1 = 0 ∨ x.f1 = 1) :
 Calls Tryz.prog 62 #[.agg (stmC x (.slice A n c))] w fun e w' => e = .returned (.agg (stmC (bareS x) (bareV x (.slice A n c)))) ∧ Below w.heap.size w w' := by
 have hu55 := Tryz.underlying37
 obtain ⟨x0, x1, x2, x3, x4, ⟨⟨q0, q1, q2⟩, ⟨p0, p1, p2⟩⟩, x6, x7⟩ := x
 simp only at hk ha ⊢
 have hk8 : x0 = 1 ∨ x0 = 2 ∨ x0 = 3 ∨ x0 = 4 ∨ x0 = 5 ∨ x0 = 6 ∨ x0 = 7 ∨ x0 = 8 := by omega
 clear hk
 rcases hk8 with rfl | rfl | rfl | rfl | rfl | rfl | rfl | rfl
 · rcases ha with rfl | rfl
   · go_enter Tryz.func62, Tryz.ntmps62
     go_wp2_with fail
     go_region
     all_goals
      go_wp2_with fail
      refine bodyPost_ret (results_cell_row rfl _ _ (w.heap.size + 1) 37 #[.int .i64 1, .int .i64 0, .string ⟨#[]⟩, .string ⟨#[]⟩, .int .i64 0, .int .i64 q0, .int .i64 q1, .int .i64 q2, .int .i64 0, .int .i64 0, .int .i64 0, .slice none 0 0, .int .i64 0] (0, 0) _ rfl (by first | exact blk_drew (blk_alloc (alloc_at (by simp)) _) | exact blk_alloc (alloc_at (by simp)) _) hu55 rfl sizeStm) rfl ?_
      exact ⟨by simp [bareS, bareV, zJ], by repeat (first | exact Below.refl _ _ | apply below_drew | apply below_alloc)⟩
   · go_enter Tryz.func62, Tryz.ntmps62
     go_wp2_with fail
     go_region
     all_goals
      go_wp2_with fail
      refine bodyPost_ret (results_cell_row rfl _ _ (w.heap.size + 1) 37 #[.int .i64 1, .int .i64 1, .string ⟨#[]⟩, .string ⟨#[]⟩, .int .i64 0, .int .i64 0, .int .i64 0, .int .i64 0, .int .i64 p0, .int .i64 p1, .int .i64 p2, .slice none 0 0, .int .i64 0] (0, 0) _ rfl (by first | exact blk_drew (blk_alloc (alloc_at (by simp)) _) | exact blk_alloc (alloc_at (by simp)) _) hu55 rfl sizeStm) rfl ?_
      exact ⟨by simp [bareS, bareV, zJ], by repeat (first | exact Below.refl _ _ | apply below_drew | apply below_alloc)⟩
 · go_enter Tryz.func62, Tryz.ntmps62
   go_wp2_with fail
   refine bodyPost_ret (results_cell_row rfl _ _ (w.heap.size + 1) 37 #[.int .i64 2, .int .i64 x1, .string ⟨#[]⟩, .string ⟨#[]⟩, .int .i64 0, .int .i64 0, .int .i64 0, .int .i64 0, .int .i64 0, .int .i64 0, .int .i64 0, .slice none 0 0, .int .i64 0] (0, 0) _ rfl (by first | exact blk_drew (blk_alloc (alloc_at (by simp)) _) | exact blk_alloc (alloc_at (by simp)) _) hu55 rfl sizeStm) rfl ?_
   exact ⟨by simp [bareS, bareV, zJ], by repeat (first | exact Below.refl _ _ | apply below_drew | apply below_alloc)⟩
 · go_enter Tryz.func62, Tryz.ntmps62
   go_wp2_with fail
   go_region
   all_goals
    go_wp2_with fail
    refine bodyPost_ret (results_cell_row rfl _ _ (w.heap.size + 1) 37 #[.int .i64 3, .int .i64 x1, .string x2, .string ⟨#[]⟩, .int .i64 0, .int .i64 0, .int .i64 0, .int .i64 0, .int .i64 0, .int .i64 0, .int .i64 0, .slice none 0 0, .int .i64 0] (0, 0) _ rfl (by first | exact blk_drew (blk_alloc (alloc_at (by simp)) _) | exact blk_alloc (alloc_at (by simp)) _) hu55 rfl sizeStm) rfl ?_
    exact ⟨by simp [bareS, bareV, zJ], by repeat (first | exact Below.refl _ _ | apply below_drew | apply below_alloc)⟩
 · go_enter Tryz.func62, Tryz.ntmps62
   go_wp2_with fail
   go_region
   all_goals
    go_wp2_with fail
    refine bodyPost_ret (results_cell_row rfl _ _ (w.heap.size + 1) 37 #[.int .i64 4, .int .i64 x1, .string ⟨#[]⟩, .string x3, .int .i64 0, .int .i64 0, .int .i64 0, .int .i64 0, .int .i64 0, .int .i64 0, .int .i64 0, .slice none 0 0, .int .i64 0] (0, 0) _ rfl (by first | exact blk_drew (blk_alloc (alloc_at (by simp)) _) | exact blk_alloc (alloc_at (by simp)) _) hu55 rfl sizeStm) rfl ?_
    exact ⟨by simp [bareS, bareV, zJ], by repeat (first | exact Below.refl _ _ | apply below_drew | apply below_alloc)⟩
 · go_enter Tryz.func62, Tryz.ntmps62
   go_wp2_with fail
   go_region
   all_goals
    go_wp2_with fail
    refine bodyPost_ret (results_cell_row rfl _ _ (w.heap.size + 1) 37 #[.int .i64 5, .int .i64 x1, .string ⟨#[]⟩, .string x3, .int .i64 0, .int .i64 0, .int .i64 0, .int .i64 0, .int .i64 0, .int .i64 0, .int .i64 0, .slice none 0 0, .int .i64 0] (0, 0) _ rfl (by first | exact blk_drew (blk_alloc (alloc_at (by simp)) _) | exact blk_alloc (alloc_at (by simp)) _) hu55 rfl sizeStm) rfl ?_
    exact ⟨by simp [bareS, bareV, zJ], by repeat (first | exact Below.refl _ _ | apply below_drew | apply below_alloc)⟩
 · go_enter Tryz.func62, Tryz.ntmps62
   go_wp2_with fail
   refine bodyPost_ret (results_cell_row rfl _ _ (w.heap.size + 1) 37 #[.int .i64 6, .int .i64 0, .string ⟨#[]⟩, .string ⟨#[]⟩, .int .i64 x4, .int .i64 0, .int .i64 0, .int .i64 0, .int .i64 0, .int .i64 0, .int .i64 0, .slice none 0 0, .int .i64 0] (0, 0) _ rfl (by first | exact blk_drew (blk_alloc (alloc_at (by simp)) _) | exact blk_alloc (alloc_at (by simp)) _) hu55 rfl sizeStm) rfl ?_
   exact ⟨by simp [bareS, bareV, zJ], by repeat (first | exact Below.refl _ _ | apply below_drew | apply below_alloc)⟩
 · go_enter Tryz.func62, Tryz.ntmps62
   go_wp2_with fail
   go_region
   all_goals
    go_wp2_with fail
    refine bodyPost_ret (results_cell_row rfl _ _ (w.heap.size + 1) 37 #[.int .i64 7, .int .i64 0, .string x2, .string x3, .int .i64 0, .int .i64 0, .int .i64 0, .int .i64 0, .int .i64 0, .int .i64 0, .int .i64 0, .slice A n c, .int .i64 0] (0, 0) _ rfl (by first | exact blk_drew (blk_alloc (alloc_at (by simp)) _) | exact blk_alloc (alloc_at (by simp)) _) hu55 rfl sizeStm) rfl ?_
    exact ⟨by simp [bareS, bareV, zJ], by repeat (first | exact Below.refl _ _ | apply below_drew | apply below_alloc)⟩
 · go_enter Tryz.func62, Tryz.ntmps62
   go_wp2_with fail
   refine bodyPost_ret (results_cell_row rfl _ _ (w.heap.size + 1) 37 #[.int .i64 8, .int .i64 0, .string ⟨#[]⟩, .string ⟨#[]⟩, .int .i64 0, .int .i64 q0, .int .i64 q1, .int .i64 q2, .int .i64 p0, .int .i64 p1, .int .i64 p2, .slice none 0 0, .int .i64 0] (0, 0) _ rfl (by first | exact blk_drew (blk_alloc (alloc_at (by simp)) _) | exact blk_alloc (alloc_at (by simp)) _) hu55 rfl sizeStm) rfl ?_
   exact ⟨by simp [bareS, bareV, zJ], by repeat (first | exact Below.refl _ _ | apply below_drew | apply below_alloc)⟩
def smallB (n : Int) : Bool := decide (n > -1000000000) && decide (n < 1000000000)
theorem small_f (n : Int) : parser_small.f n = some (smallB n) := by
 unfold parser_small.f smallB
 split
 · rename_i h; simp [h]
 · rename_i h; simp [h]
theorem plain1_calls (n : Int) (w : World) : Calls Tryz.prog 64 #[.int .i64 n] w fun e w' => e = .returned (.bool (!smallB n)) ∧ Drawn0 w w' := by
 go_enter Tryz.func64, Tryz.ntmps64
 go_wp2_with fail
 refine (parser_small.calls n _ w (small_f n)).mono ?_
 rintro e w1 ⟨rfl, hd⟩
 go_wp2_with fail
 go_ret
 exact ⟨rfl, hd⟩
theorem indexF_calls (A : Option Addr) (c : Nat) (xs : List Int) (w : World) (h : Kd.C (Kd.int .i64) w A xs.length xs) (hc : xs.length ≤ c) :
 Calls Tryz.prog 88 #[.slice A xs.length c, .func (.func 64) #[] #[]] w fun e w' => ∃ j : Int, e = .returned (.int .i64 j) ∧ (0 ≤ j ↔ xs.any (fun n => !smallB n) = true) ∧ Drawn0 w w' := by
 have HC := Aside0.mk h
 have hm := Kd.C_max h
 clear h
 go_enter Tryz.func88, Tryz.ntmps88
 go_wp2_with fail
 go_loopg [8] xs.length (fun kq v8 wr => ∃ (i : Nat), v8 = .int .i64 i ∧ Aside0 (i + kq = xs.length ∧ (∀ x ∈ xs.take i, smallB x = true) ∧ Drawn0 w wr))
 case atStart => exact ⟨0, rfl, ⟨by omega, by simp, Drawn0.refl _⟩⟩
 case round =>
  obtain ⟨i, rfl, ⟨hk, hs, hb⟩⟩ := hrel
  have HS := Aside0.mk hs
  have HB := Aside0.mk hb
  clear hs hb
  rcases gk with _ | k1
  · have hi : i = xs.length := by omega
    have hlt : decide ((i : Int) < (xs.length : Int)) = false := by simp [hi]
    have hany : xs.any (fun n => !smallB n) = false := by
     have := HS.out; rw [hi, List.take_length] at this
     simpa using this
    have HAny := Aside0.mk hany
    clear hany HS
    go_wp2_with fail
    go_ret
    exact ⟨-1, rfl, by rw [HAny.out]; simp, HB.out⟩
  · have hi : i < xs.length := by omega
    have hlt : decide ((i : Int) < (xs.length : Int)) = true := by simp [hi]
    have hp : (0 ≤ (i : Int)) := by omega
    have hq : (i : Int) < (xs.length : Int) := by omega
    obtain ⟨ad, e, hx⟩ := Kd.at_int (Kd.C_below HC.out HB.out.below) i hp hq
    cases e
    simp only [Int.toNat_natCast] at hx
    have hp' := eq_true hp
    have hq' := eq_true hq
    have hrd : rd xs (i : Int) = xs[i] := by simp [rd, hi]
    have HRd := Aside0.mk hrd
    clear hp hq hrd
    go_wp2_with fail
    refine (plain1_calls (rd xs (i : Int)) wr).mono ?_
    rintro e w1 ⟨rfl, hd⟩
    have HB1 := Aside0.mk (show Drawn0 w w1 from by obtain ⟨n, rfl⟩ := hd; exact HB.out.step n)
    clear hd HB hx
    cases hsm : smallB (rd xs (i : Int)) with
    | true =>
     have hsm2 : xs.take (i + 1) = xs.take i ++ [rd xs (i : Int)] := by rw [HRd.out, List.take_succ_eq_append_getElem hi]
     have HS1 := Aside0.mk (show ∀ x ∈ xs.take (i + 1), smallB x = true from by
      rw [hsm2]; intro x hx
      rcases List.mem_append.1 hx with hx | hx
      · exact HS.out x hx
      · obtain rfl := List.mem_singleton.1 hx; exact hsm)
     clear HS hsm2
     go_wp2_with fail
     go_roundg k1
     case measure => omega
     case rel => exact ⟨i + 1, by first | rfl | (simp; done), ⟨by omega, HS1.out, HB1.out⟩⟩
    | false =>
     have HAny := Aside0.mk (show xs.any (fun n => !smallB n) = true from by
      rw [List.any_eq_true]; exact ⟨xs[i], List.getElem_mem hi, by rw [← HRd.out, hsm]; rfl⟩)
     clear HS
     go_wp2_with fail
     go_ret
     exact ⟨i, rfl, by rw [HAny.out]; simp, HB1.out⟩
theorem containsF_calls (A : Option Addr) (c : Nat) (xs : List Int) (w : World) (h : Kd.C (Kd.int .i64) w A xs.length xs) (hc : xs.length ≤ c) :
 Calls Tryz.prog 63 #[.slice A xs.length c, .func (.func 64) #[] #[]] w fun e w' => e = .returned (.bool (xs.any (fun n => !smallB n))) ∧ Drawn0 w w' := by
 have HC := Aside0.mk h
 clear h
 go_enter Tryz.func63, Tryz.ntmps63
 go_wp2_with fail
 refine (indexF_calls A c xs w HC.out hc).mono ?_
 rintro e w1 ⟨j, rfl, hj, hd⟩
 have HJ := Aside0.mk hj
 clear hj
 by_cases h0 : 0 ≤ j
 · have HT := Aside0.mk (HJ.out.1 h0)
   clear HJ
   go_wp2_with fail
   go_ret
   exact ⟨by rw [HT.out]; simp [h0], hd⟩
 · have HT := Aside0.mk (show xs.any (fun n => !smallB n) = false from by cases hx : xs.any (fun n => !smallB n) with | false => rfl | true => exact absurd (HJ.out.2 hx) h0)
   clear HJ
   go_wp2_with fail
   go_ret
   exact ⟨by rw [HT.out]; simp [h0], hd⟩
def smallJ (q : S34) : Bool := smallB q.f0 && (smallB q.f1 && smallB q.f2)
def namesF (x : S37) : Option Bool :=
 (if x.f0 = 3 ∨ x.f0 = 7 then parser_name.f x.f2 else some true).bind fun a => if a = true then (if x.f0 = 4 ∨ x.f0 = 5 ∨ x.f0 = 7 then parser_name.f x.f3 else some true) else some false
def plainF (k : Nat) (x : S37) : Option Bool :=
 if x.f0 < 1 then some false else if x.f0 > 8 then some false else if x.f1 ≠ 0 ∧ x.f1 ≠ 1 then some false else if smallB x.f4 = false then some false
 else (sameS (parser_Equal.f k) x (bareS x)).bind fun t => if t = false then some false else if smallJ x.f5.f0 = false then some false else if smallJ x.f5.f1 = false then some false else namesF x
theorem plain_le (k : Nat) (x : S37) : LeO (plainF k x) (plainF (k + 1) x) := by
 unfold plainF
 exact LeO.ite (LeO.refl _) (LeO.ite (LeO.refl _) (LeO.ite (LeO.refl _) (LeO.ite (LeO.refl _) (LeO.bind (sameE_le (Equal_le k) x _) fun _ => LeO.refl _))))
theorem small_quiet (N : Int) (W : World) (n : Nat) : Calls Tryz.prog 61 #[.int .i64 N] (W.drewN n) fun e w'' => e = .returned (.bool (smallB N)) ∧ ∃ m, w'' = W.drewN m :=
 Calls.quiet_of ((parser_small.calls N _ _ (small_f N)).mono fun e w' h => ⟨h.1, h.2.out⟩)
theorem row_held {W' : World} {b : Nat} {x : S37} {v : Value} (h : W'.heap[b]? = some (.cells (stmC x v) 37 (0, 0))) : W'.cell? ⟨b, 0, none⟩ = some (.int .i64 x.f0) ∧ W'.cell? ⟨b, 1, none⟩ = some (.int .i64 x.f1) ∧ W'.cell? ⟨b, 2, none⟩ = some (.string x.f2) ∧ W'.cell? ⟨b, 3, none⟩ = some (.string x.f3) ∧ W'.cell? ⟨b, 4, none⟩ = some (.int .i64 x.f4) ∧ W'.cell? ⟨b, 5, none⟩ = some (.int .i64 x.f5.f0.f0) ∧ W'.cell? ⟨b, 6, none⟩ = some (.int .i64 x.f5.f0.f1) ∧ W'.cell? ⟨b, 7, none⟩ = some (.int .i64 x.f5.f0.f2) ∧ W'.cell? ⟨b, 8, none⟩ = some (.int .i64 x.f5.f1.f0) ∧ W'.cell? ⟨b, 9, none⟩ = some (.int .i64 x.f5.f1.f1) ∧ W'.cell? ⟨b, 10, none⟩ = some (.int .i64 x.f5.f1.f2) ∧ W'.cell? ⟨b, 11, none⟩ = some (v) ∧ W'.cell? ⟨b, 12, none⟩ = some (.int .i64 x.f7) :=
 ⟨blk_cell h 0, blk_cell h 1, blk_cell h 2, blk_cell h 3, blk_cell h 4, blk_cell h 5, blk_cell h 6, blk_cell h 7, blk_cell h 8, blk_cell h 9, blk_cell h 10, blk_cell h 11, blk_cell h 12⟩
theorem index53_0 (q0 q1 q2 p0 p1 p2 : Int) (W : World) : Sem.run Tryz.prog (Instr.index 35 (.agg #[.int .i64 q0, .int .i64 q1, .int .i64 q2, .int .i64 p0, .int .i64 p1, .int .i64 p2]) (.int .i64 0)) W = Result.ok (.agg #[.int .i64 q0, .int .i64 q1, .int .i64 q2]) W := by kernel_rfl
theorem index53_1 (q0 q1 q2 p0 p1 p2 : Int) (W : World) : Sem.run Tryz.prog (Instr.index 35 (.agg #[.int .i64 q0, .int .i64 q1, .int .i64 q2, .int .i64 p0, .int .i64 p1, .int .i64 p2]) (.int .i64 1)) W = Result.ok (.agg #[.int .i64 p0, .int .i64 p1, .int .i64 p2]) W := by kernel_rfl
theorem row3_C {W : World} {g t : Nat} {a b c : Int} (h : W.heap[g]? = some (.cells #[.int .i64 a, .int .i64 b, .int .i64 c] t (0, 0))) : Kd.C (Kd.int .i64) W (some ⟨g, 0, none⟩) [a, b, c].length [a, b, c] := by
 refine Kd.C_of_reads (d := 0) ⟨rfl, by simp, fun _ => ⟨_, rfl, fun j hj => ?_⟩⟩
 have hj' : j < 3 := hj
 rcases j with _ | _ | _ | j
 · exact blk_cell h 0
 · exact blk_cell h 1
 · exact blk_cell h 2
 · omega
theorem any_smallJ (a b c : Int) : ([a, b, c].any fun n => !smallB n) = !smallJ ⟨a, b, c⟩ := by
 simp only [List.any_cons, List.any_nil, smallJ]
 cases smallB a <;> cases smallB b <;> cases smallB c <;> rfl
theorem names_cases (x : S37) (hk : 1 ≤ x.f0 ∧ x.f0 ≤ 8) : ((x.f0 == 3) = true ∧ (x.f0 == 7) = false ∧ (x.f0 == 4) = false ∧ (x.f0 == 5) = false ∧ namesF x = parser_name.f x.f2) ∨ ((x.f0 == 3) = false ∧ (x.f0 == 7) = true ∧ (x.f0 == 4) = false ∧ (x.f0 == 5) = false ∧ namesF x = (parser_name.f x.f2).bind fun a => if a = true then parser_name.f x.f3 else some false) ∨ ((x.f0 == 3) = false ∧ (x.f0 == 7) = false ∧ (x.f0 == 4) = true ∧ (x.f0 == 5) = false ∧ namesF x = parser_name.f x.f3) ∨ ((x.f0 == 3) = false ∧ (x.f0 == 7) = false ∧ (x.f0 == 4) = false ∧ (x.f0 == 5) = true ∧ namesF x = parser_name.f x.f3) ∨ ((x.f0 == 3) = false ∧ (x.f0 == 7) = false ∧ (x.f0 == 4) = false ∧ (x.f0 == 5) = false ∧ namesF x = some true) := by
 obtain ⟨x0, x1, x2, x3, x4, x5, x6, x7⟩ := x
 simp only at hk ⊢
 have h8 : x0 = 3 ∨ x0 = 7 ∨ x0 = 4 ∨ x0 = 5 ∨ (x0 ≠ 3 ∧ x0 ≠ 7 ∧ x0 ≠ 4 ∧ x0 ≠ 5) := by omega
 rcases h8 with rfl | rfl | rfl | rfl | ⟨h3, h7, h4, h5⟩
 · left
   refine ⟨rfl, rfl, rfl, rfl, ?_⟩
   simp only [namesF]
   cases parser_name.f x2 with
   | none => rfl
   | some a => cases a <;> rfl
 · right; left
   refine ⟨rfl, rfl, rfl, rfl, ?_⟩
   simp only [namesF]
   rfl
 · right; right; left
   refine ⟨rfl, rfl, rfl, rfl, ?_⟩
   simp only [namesF]
   rfl
 · right; right; right; left
   refine ⟨rfl, rfl, rfl, rfl, ?_⟩
   simp only [namesF]
   rfl
 · right; right; right; right
   refine ⟨by simpa using h3, by simpa using h7, by simpa using h4, by simpa using h5, ?_⟩
   simp [namesF, h3, h7, h4, h5]
theorem bareV_ok (x : S37) (A : Option Addr) (c : Nat) (hc : x.f6.length ≤ c) : ∃ Ay cy, bareV x (.slice A x.f6.length c) = .slice Ay (bareS x).f6.length cy ∧ (bareS x).f6.length ≤ cy ∧ ∀ w, Kd.C k37 w A x.f6.length x.f6 → Kd.C k37 w Ay (bareS x).f6.length (bareS x).f6 := by
 by_cases h7 : x.f0 = 7
 · have h : (bareS x).f6 = x.f6 := by unfold bareS; simp [h7]
   refine ⟨A, c, ?_, ?_, ?_⟩
   · unfold bareV; rw [if_pos h7, h]
   · rw [h]; exact hc
   · intro w hw; rw [h]; exact hw
 · have h : (bareS x).f6 = [] := by unfold bareS; (repeat' split) <;> first | rfl | contradiction
   refine ⟨none, 0, ?_, ?_, ?_⟩
   · unfold bareV; rw [if_neg h7, h]; rfl
   · rw [h]; exact Nat.le_refl _
   · intro w hw; rw [h]; exact Kd.C_nil _ _
theorem plain_calls (k : Nat) (x : S37) (A : Option Addr) (c : Nat) (r : Bool) (w : World) (hx : Kd.C k37 w A x.f6.length x.f6) (hc : x.f6.length ≤ c) (h : plainF k x = some r) (hG : Glob w) :
 Calls Tryz.prog 36 #[.agg (stmC x (.slice A x.f6.length c))] w fun e w' => e = .returned (.bool r) ∧ Below w.heap.size w w' := by
 have hu55 := Tryz.underlying37
 have HX := Aside0.mk hx
 have HG := Aside0.mk hG
 have HR := Aside0.mk h
 clear hx hG h
 by_cases c1 : x.f0 < 1
 · have hr : r = false := by have := HR.out; unfold plainF at this; rw [if_pos c1] at this; simpa using this.symm
   subst hr
   have t1 : decide (x.f0 < 1) = true := decide_eq_true c1
   clear HR
   go_enter Tryz.func36, Tryz.ntmps36
   go_wp2_with fail
   go_quiet (fail)
   go_wp2_with fail
   go_ret
   exact ⟨rfl, pw_below_drewN (below_alloc (Below.refl _ _) _) _⟩
 · have t1 : decide (x.f0 < 1) = false := decide_eq_false c1
   by_cases c2 : x.f0 > 8
   · have hr : r = false := by have := HR.out; unfold plainF at this; rw [if_neg c1, if_pos c2] at this; simpa using this.symm
     subst hr
     have t2 : decide (8 < x.f0) = true := decide_eq_true c2
     have t2' : decide (x.f0 > 8) = true := decide_eq_true c2
     clear HR
     go_enter Tryz.func36, Tryz.ntmps36
     go_wp2_with fail
     go_quiet (fail)
     go_wp2_with fail
     go_ret
     exact ⟨rfl, pw_below_drewN (below_alloc (Below.refl _ _) _) _⟩
   · have t2 : decide (8 < x.f0) = false := decide_eq_false c2
     by_cases c3 : x.f1 ≠ 0 ∧ x.f1 ≠ 1
     · have hr : r = false := by have := HR.out; unfold plainF at this; rw [if_neg c1, if_neg c2, if_pos c3] at this; simpa using this.symm
       subst hr
       have t3 : (x.f1 != 0) = true := bne_iff_ne.mpr c3.1
       have t4 : (x.f1 != 1) = true := bne_iff_ne.mpr c3.2
       clear HR c3
       go_enter Tryz.func36, Tryz.ntmps36
       go_wp2_with fail
       go_quiet (fail)
       go_wp2_with fail
       go_ret
       exact ⟨rfl, pw_below_drewN (below_alloc (Below.refl _ _) _) _⟩
     · have ha : x.f1 = 0 ∨ x.f1 = 1 := by omega
       have hk : 1 ≤ x.f0 ∧ x.f0 ≤ 8 := by omega
       have HA := Aside0.mk ha
       have HK := Aside0.mk hk
       have HR3 := Aside0.mk (show (if smallB x.f4 = false then some false else (sameS (parser_Equal.f k) x (bareS x)).bind fun t => if t = false then some false else if smallJ x.f5.f0 = false then some false else if smallJ x.f5.f1 = false then some false else namesF x) = some r from by have := HR.out; unfold plainF at this; rw [if_neg c1, if_neg c2, if_neg c3] at this; exact this)
       have t3 : (x.f1 != 0) = false ∨ ((x.f1 != 0) = true ∧ (x.f1 != 1) = false) := by rcases ha with h | h <;> simp [h]
       clear HR c1 c2 c3 ha hk
       have HSm := Aside0.mk (small_quiet x.f4 (w.alloc (.cells (stmC x (.slice A x.f6.length c)) 37)))
       cases c4 : smallB x.f4 with
       | false =>
        have hr : r = false := by have := HR3.out; rw [if_pos c4] at this; simpa using this.symm
        subst hr
        rw [c4] at HSm
        clear HR3
        rcases t3 with t3 | ⟨t3, t4⟩
        all_goals
         go_enter Tryz.func36, Tryz.ntmps36
         go_wp2_with fail
         go_quiet ((go_at_call 61; exact HSm.out _))
         go_wp2_with fail
         go_ret
         exact ⟨rfl, pw_below_drewN (below_alloc (Below.refl _ _) _) _⟩
       | true =>
        have HR4 := Aside0.mk ((if_neg (show ¬ smallB x.f4 = false from by rw [c4]; decide)).symm.trans HR3.out)
        clear HR3
        obtain ⟨t0, ht, hrest⟩ := Option.bind_eq_some_iff.1 HR4.out
        have HT := Aside0.mk ht
        have HRest := Aside0.mk hrest
        clear HR4 ht hrest HSm
        obtain ⟨x0, x1, x2, x3, x4, ⟨⟨q0, q1, q2⟩, ⟨p0, p1, p2⟩⟩, x6, x7⟩ := x
        obtain ⟨Ay, cy, hv, hcy, hy⟩ := bareV_ok _ A c hc
        have hbare : ∀ W : World, Calls Tryz.prog 62 #[.agg (stmC ⟨x0, x1, x2, x3, x4, ⟨⟨q0, q1, q2⟩, ⟨p0, p1, p2⟩⟩, x6, x7⟩ (.slice A x6.length c))] W fun e w' => e = .returned (.agg (stmC (bareS ⟨x0, x1, x2, x3, x4, ⟨⟨q0, q1, q2⟩, ⟨p0, p1, p2⟩⟩, x6, x7⟩) (bareV ⟨x0, x1, x2, x3, x4, ⟨⟨q0, q1, q2⟩, ⟨p0, p1, p2⟩⟩, x6, x7⟩ (.slice A x6.length c)))) ∧ Below W.heap.size W w' := fun W => bare_calls _ A _ c W HK.out HA.out
        have hsame : ∀ W : World, Below w.heap.size w W → Calls Tryz.prog 24 #[.agg (stmC ⟨x0, x1, x2, x3, x4, ⟨⟨q0, q1, q2⟩, ⟨p0, p1, p2⟩⟩, x6, x7⟩ (.slice A x6.length c)), .agg (stmC (bareS ⟨x0, x1, x2, x3, x4, ⟨⟨q0, q1, q2⟩, ⟨p0, p1, p2⟩⟩, x6, x7⟩) (.slice Ay (bareS ⟨x0, x1, x2, x3, x4, ⟨⟨q0, q1, q2⟩, ⟨p0, p1, p2⟩⟩, x6, x7⟩).f6.length cy))] W fun e w' => e = .returned (.bool t0) ∧ Below W.heap.size W w' := fun W hW => sameS_calls k _ _ A Ay c cy t0 W (Kd.C_below HX.out hW) hc (Kd.C_below (hy w HX.out) hW) hcy HT.out
        rw [hv] at hbare
        clear hv hcy hy HT HA
        generalize bareS ⟨x0, x1, x2, x3, x4, ⟨⟨q0, q1, q2⟩, ⟨p0, p1, p2⟩⟩, x6, x7⟩ = Y at hbare hsame
        have HBare := Aside0.mk hbare
        have HSame := Aside0.mk hsame
        clear hbare hsame
        simp only [stmC] at HBare HSame
        have HH := Aside0.mk (heap_alloc_new w (.cells (stmC (⟨x0, x1, x2, x3, x4, ⟨⟨q0, q1, q2⟩, ⟨p0, p1, p2⟩⟩, x6, x7⟩ : S37) (.slice A x6.length c)) 37))
        have hz := row_held HH.out
        have hz0 := row_held (blk_drew HH.out)
        have hz1 := fun n1 => row_held (blk_drewN HH.out n1)
        simp only at t1 t2 t3 c4 hz hz0 hz1 hc
        rcases t3 with t3 | ⟨t3, t4⟩
        all_goals
         go_enter Tryz.func36, Tryz.ntmps36
         go_wp2_with fail
         first
         | (have t3' : (x1 != 0) = false := t3
            clear t3'
            go_split_ands
            go_region_with (first | (go_at_call 61; (with_reducible refine (parser_small.calls x4 _ _ (small_f _)).mono ?_); rintro e w1 ⟨rfl, ⟨n1, rfl⟩⟩; have hzn := hz1 n1; go_split_ands) | (go_at_call 62; (with_reducible refine (HBare.out _).mono ?_); rintro e w1 ⟨rfl, hb⟩; have HH1 := Aside0.mk (blk_below (blk_drewN HH.out _) hb); have HB1 := Aside0.mk (below_step (pw_below_drewN (below_alloc (Below.refl _ _) _) _) hb); clear hb; have hzn := row_held HH1.out; simp only at hzn; go_split_ands) | (go_at_call 24; (with_reducible refine (HSame.out _ HB1.out).mono ?_); rintro e w2 ⟨rfl, hb⟩; have HH2 := Aside0.mk (blk_below HH1.out hb); have HB2 := Aside0.mk (below_step HB1.out hb); clear hb HH1 HB1; have HH1 := HH2; have HB1 := HB2; clear HH2 HB2))
            all_goals (have hHeld : True := trivial))
         | (go_region_held3 (fun W' => W'.cell? ⟨w.heap.size, 0, none⟩ = some (.int .i64 x0) ∧ W'.cell? ⟨w.heap.size, 1, none⟩ = some (.int .i64 x1) ∧ W'.cell? ⟨w.heap.size, 2, none⟩ = some (.string x2) ∧ W'.cell? ⟨w.heap.size, 3, none⟩ = some (.string x3) ∧ W'.cell? ⟨w.heap.size, 4, none⟩ = some (.int .i64 x4) ∧ W'.cell? ⟨w.heap.size, 5, none⟩ = some (.int .i64 q0) ∧ W'.cell? ⟨w.heap.size, 6, none⟩ = some (.int .i64 q1) ∧ W'.cell? ⟨w.heap.size, 7, none⟩ = some (.int .i64 q2) ∧ W'.cell? ⟨w.heap.size, 8, none⟩ = some (.int .i64 p0) ∧ W'.cell? ⟨w.heap.size, 9, none⟩ = some (.int .i64 p1) ∧ W'.cell? ⟨w.heap.size, 10, none⟩ = some (.int .i64 p2) ∧ W'.cell? ⟨w.heap.size, 11, none⟩ = some (.slice A x6.length c) ∧ W'.cell? ⟨w.heap.size, 12, none⟩ = some (.int .i64 x7)) (with_reducible first | exact hz0 | exact hz1 _ | exact row_held HH1.out) (first | (go_at_call 61; (with_reducible refine (parser_small.calls x4 _ _ (small_f _)).mono ?_); rintro e w1 ⟨rfl, ⟨n1, rfl⟩⟩) | (go_at_call 62; (with_reducible refine (HBare.out _).mono ?_); rintro e w1 ⟨rfl, hb⟩; have HH1 := Aside0.mk (blk_below (blk_drewN HH.out _) hb); have HB1 := Aside0.mk (below_step (pw_below_drewN (below_alloc (Below.refl _ _) _) _) hb); clear hb) | (go_at_call 24; (with_reducible refine (HSame.out _ HB1.out).mono ?_); rintro e w2 ⟨rfl, hb⟩; have HH2 := Aside0.mk (blk_below HH1.out hb); have HB2 := Aside0.mk (below_step HB1.out hb); clear hb HH1 HB1; have HH1 := HH2; have HB1 := HB2; clear HH2 HB2))
            all_goals rename_i hHeld)
         | fail "held3"
        all_goals
         have HB := HB1
         have HH2 := HH1
         clear hHeld HB1 HH1 HBare HSame hz1 HH
         try clear hz
         try clear hz0
         cases t0 with
         | false =>
          have hr : r = false := by have := HRest.out; simpa using this.symm
          subst hr
          go_wp2_with fail
          go_ret
          exact ⟨rfl, HB.out⟩
         | true =>
          have hz2 := row_held HH2.out
          simp only at hz2
          go_split_ands
          go_wp2_with fail
          go_loopg [40] 2 (fun kq v8 wr => v8 = .int .i64 (2 - kq) ∧ Aside0 (kq ≤ 2 ∧ wr.heap[w.heap.size]? = some (.cells (stmC (⟨x0, x1, x2, x3, x4, ⟨⟨q0, q1, q2⟩, ⟨p0, p1, p2⟩⟩, x6, x7⟩ : S37) (.slice A x6.length c)) 37 (0, 0)) ∧ Below w.heap.size w wr ∧ (kq < 2 → smallJ ⟨q0, q1, q2⟩ = true) ∧ (kq < 1 → smallJ ⟨p0, p1, p2⟩ = true)))
          case atStart => exact ⟨rfl, ⟨by decide, HH2.out, HB.out, fun h => absurd h (by decide), fun h => absurd h (by decide)⟩⟩
          case round =>
           clear HH2 HB
           obtain ⟨hv8, ⟨hKK, hH, hB, hJ1, hJ2⟩⟩ := hrel
           have HK3 := Aside0.mk hKK
           have HH := Aside0.mk hH
           have HB := Aside0.mk hB
           have HJ1 := Aside0.mk hJ1
           have HJ2 := Aside0.mk hJ2
           clear hH hB hJ1 hJ2 hKK
           rcases gk with _ | _ | _ | k
           · have hv9 : _ = Value.int .i64 2 := hv8.trans rfl
             clear hv8
             subst hv9
             have HN := Aside0.mk (show namesF _ = some r from by have := HRest.out; rw [if_neg (by decide), if_neg (by rw [HJ1.out (by decide)]; exact Bool.noConfusion), if_neg (by rw [HJ2.out (by decide)]; exact Bool.noConfusion)] at this; exact this)
             clear HRest HJ1 HJ2 HK3
             have hz3 := row_held HH.out
             simp only at hz3
             have hcase : ((x0 == 3) = true ∧ (x0 == 7) = false ∧ (x0 == 4) = false ∧ (x0 == 5) = false ∧ namesF ⟨x0, x1, x2, x3, x4, ⟨⟨q0, q1, q2⟩, ⟨p0, p1, p2⟩⟩, x6, x7⟩ = parser_name.f x2) ∨ ((x0 == 3) = false ∧ (x0 == 7) = true ∧ (x0 == 4) = false ∧ (x0 == 5) = false ∧ namesF ⟨x0, x1, x2, x3, x4, ⟨⟨q0, q1, q2⟩, ⟨p0, p1, p2⟩⟩, x6, x7⟩ = (parser_name.f x2).bind fun a => if a = true then parser_name.f x3 else some false) ∨ ((x0 == 3) = false ∧ (x0 == 7) = false ∧ (x0 == 4) = true ∧ (x0 == 5) = false ∧ namesF ⟨x0, x1, x2, x3, x4, ⟨⟨q0, q1, q2⟩, ⟨p0, p1, p2⟩⟩, x6, x7⟩ = parser_name.f x3) ∨ ((x0 == 3) = false ∧ (x0 == 7) = false ∧ (x0 == 4) = false ∧ (x0 == 5) = true ∧ namesF ⟨x0, x1, x2, x3, x4, ⟨⟨q0, q1, q2⟩, ⟨p0, p1, p2⟩⟩, x6, x7⟩ = parser_name.f x3) ∨ ((x0 == 3) = false ∧ (x0 == 7) = false ∧ (x0 == 4) = false ∧ (x0 == 5) = false ∧ namesF ⟨x0, x1, x2, x3, x4, ⟨⟨q0, q1, q2⟩, ⟨p0, p1, p2⟩⟩, x6, x7⟩ = some true) := names_cases ⟨x0, x1, x2, x3, x4, ⟨⟨q0, q1, q2⟩, ⟨p0, p1, p2⟩⟩, x6, x7⟩ HK.out
             have HGW := Aside0.mk (HG.out.below HB.out)
             rcases hcase with ⟨e3, e7, e4, e5, hN⟩ | ⟨e3, e7, e4, e5, hN⟩ | ⟨e3, e7, e4, e5, hN⟩ | ⟨e3, e7, e4, e5, hN⟩ | ⟨e3, e7, e4, e5, hN⟩
             · skip
               have HNN := Aside0.mk (hN.symm.trans HN.out)
               clear hN HN
               go_split_ands
               go_wp2_with fail
               go_quiet (fail)
               go_wp2_with fail
               refine (parser_name.calls x2 r _ HNN.out (HGW.out.below (pw_below_drewN (Below.refl _ _) _))).mono ?_
               rintro e w4 ⟨rfl, hb⟩
               have HB4 := Aside0.mk (below_step (pw_below_drewN HB.out _) hb)
               clear hb
               cases r
               all_goals
                go_wp2_with fail
                go_ret
                exact ⟨rfl, HB4.out⟩
             · obtain ⟨a, ha, hrest2⟩ := Option.bind_eq_some_iff.1 (hN.symm.trans HN.out)
               have HA2 := Aside0.mk ha
               have HR2 := Aside0.mk hrest2
               clear ha hrest2 hN HN
               go_split_ands
               go_wp2_with fail
               go_quiet (fail)
               go_wp2_with fail
               refine (parser_name.calls x2 a _ HA2.out (HGW.out.below (pw_below_drewN (Below.refl _ _) _))).mono ?_
               rintro e w4 ⟨rfl, hb⟩
               have HB4 := Aside0.mk (below_step (pw_below_drewN HB.out _) hb)
               have hz4 := row_held (blk_below (blk_drewN HH.out _) hb)
               simp only at hz4
               clear hb
               cases a with
               | false =>
                have hr : r = false := by have := HR2.out; simpa using this.symm
                subst hr
                go_split_ands
                go_wp2_with fail
                go_ret
                exact ⟨rfl, HB4.out⟩
               | true =>
                go_split_ands
                go_wp2_with fail
                refine (parser_name.calls x3 r _ HR2.out (HG.out.below HB4.out)).mono ?_
                rintro e w5 ⟨rfl, hb⟩
                have HB5 := Aside0.mk (below_step HB4.out hb)
                clear hb
                cases r
                all_goals
                 go_wp2_with fail
                 go_ret
                 exact ⟨rfl, HB5.out⟩
             · skip
               have HNN := Aside0.mk (hN.symm.trans HN.out)
               clear hN HN
               go_split_ands
               go_wp2_with fail
               go_quiet (fail)
               go_wp2_with fail
               refine (parser_name.calls x3 r _ HNN.out (HGW.out.below (pw_below_drewN (Below.refl _ _) _))).mono ?_
               rintro e w4 ⟨rfl, hb⟩
               have HB4 := Aside0.mk (below_step (pw_below_drewN HB.out _) hb)
               clear hb
               cases r
               all_goals
                go_wp2_with fail
                go_ret
                exact ⟨rfl, HB4.out⟩
             · skip
               have HNN := Aside0.mk (hN.symm.trans HN.out)
               clear hN HN
               go_split_ands
               go_wp2_with fail
               go_quiet (fail)
               go_wp2_with fail
               refine (parser_name.calls x3 r _ HNN.out (HGW.out.below (pw_below_drewN (Below.refl _ _) _))).mono ?_
               rintro e w4 ⟨rfl, hb⟩
               have HB4 := Aside0.mk (below_step (pw_below_drewN HB.out _) hb)
               clear hb
               cases r
               all_goals
                go_wp2_with fail
                go_ret
                exact ⟨rfl, HB4.out⟩
             · have hr : r = true := by have := hN.symm.trans HN.out; simpa using this.symm
               subst hr
               clear hN HN
               go_split_ands
               go_wp2_with fail
               go_quiet (fail)
               go_wp2_with fail
               go_ret
               exact ⟨rfl, pw_below_drewN HB.out _⟩
           · have hv9 : _ = Value.int .i64 1 := hv8.trans rfl
             clear hv8
             subst hv9
             have hix := index53_1 q0 q1 q2 p0 p1 p2
             have HC3 := Aside0.mk (row3_C (heap_alloc_new wr (.cells #[.int .i64 p0, .int .i64 p1, .int .i64 p2] 34)))
             go_wp2_with fail
             refine (containsF_calls _ 3 [p0, p1, p2] _ HC3.out (Nat.le_refl 3)).mono ?_
             rintro e w3 ⟨rfl, hd⟩
             have HB3 := Aside0.mk (below_step (below_alloc HB.out (.cells #[.int .i64 p0, .int .i64 p1, .int .i64 p2] 34)) hd.below)
             have HH3 := Aside0.mk (blk_below (blk_alloc HH.out (.cells #[.int .i64 p0, .int .i64 p1, .int .i64 p2] 34)) hd.below)
             clear hd HC3 HB HH hix
             rw [any_smallJ]
             cases c5 : smallJ ⟨p0, p1, p2⟩ with
             | false =>
              have hr : r = false := by have := HRest.out; rw [if_neg (by decide), if_neg (by rw [HJ1.out (by decide)]; decide), if_pos c5] at this; simpa using this.symm
              subst hr
              go_wp2_with fail
              go_ret
              exact ⟨rfl, HB3.out⟩
             | true =>
              have c5' := Aside0.mk c5
              clear c5
              go_wp2_with fail
              go_roundg 0
              case measure => omega
              case rel => exact ⟨rfl, ⟨by decide, HH3.out, HB3.out, fun _ => HJ1.out (by decide), fun _ => c5'.out⟩⟩
           · have hv9 : _ = Value.int .i64 0 := hv8.trans rfl
             clear hv8
             subst hv9
             have hix := index53_0 q0 q1 q2 p0 p1 p2
             have HC3 := Aside0.mk (row3_C (heap_alloc_new wr (.cells #[.int .i64 q0, .int .i64 q1, .int .i64 q2] 34)))
             go_wp2_with fail
             refine (containsF_calls _ 3 [q0, q1, q2] _ HC3.out (Nat.le_refl 3)).mono ?_
             rintro e w3 ⟨rfl, hd⟩
             have HB3 := Aside0.mk (below_step (below_alloc HB.out (.cells #[.int .i64 q0, .int .i64 q1, .int .i64 q2] 34)) hd.below)
             have HH3 := Aside0.mk (blk_below (blk_alloc HH.out (.cells #[.int .i64 q0, .int .i64 q1, .int .i64 q2] 34)) hd.below)
             clear hd HC3 HB HH hix
             rw [any_smallJ]
             cases c5 : smallJ ⟨q0, q1, q2⟩ with
             | false =>
              have hr : r = false := by have := HRest.out; rw [if_neg (by decide), if_pos c5] at this; simpa using this.symm
              subst hr
              go_wp2_with fail
              go_ret
              exact ⟨rfl, HB3.out⟩
             | true =>
              have c5' := Aside0.mk c5
              clear c5
              go_wp2_with fail
              go_roundg 1
              case measure => omega
              case rel => exact ⟨rfl, ⟨by decide, HH3.out, HB3.out, fun _ => c5'.out, fun h => absurd h (by decide)⟩⟩
           · exact absurd HK3.out (by omega)
def parser_plain.f (k : Nat) (a0_0 : Int) (a0_1 : Int) (a0_2 : ByteArray) (a0_3 : ByteArray) (a0_4 : Int) (a0_5 : Int) (a0_6 : Int) (a0_7 : Int) (a0_8 : Int) (a0_9 : Int) (a0_10 : Int) (l0_11 : List (S37)) (a0_12 : Int) : Option Bool := plainF k ⟨a0_0, a0_1, a0_2, a0_3, a0_4, ⟨⟨a0_5, a0_6, a0_7⟩, ⟨a0_8, a0_9, a0_10⟩⟩, l0_11, a0_12⟩
theorem parser_plain.mono (a0_0 : Int) (a0_1 : Int) (a0_2 : ByteArray) (a0_3 : ByteArray) (a0_4 : Int) (a0_5 : Int) (a0_6 : Int) (a0_7 : Int) (a0_8 : Int) (a0_9 : Int) (a0_10 : Int) (l0_11 : List (S37)) (a0_12 : Int) (k : Nat) : LeO (parser_plain.f k a0_0 a0_1 a0_2 a0_3 a0_4 a0_5 a0_6 a0_7 a0_8 a0_9 a0_10 l0_11 a0_12) (parser_plain.f (k + 1) a0_0 a0_1 a0_2 a0_3 a0_4 a0_5 a0_6 a0_7 a0_8 a0_9 a0_10 l0_11 a0_12) := plain_le k _
theorem parser_plain.calls (k : Nat) (a0_0 : Int) (a0_1 : Int) (a0_2 : ByteArray) (a0_3 : ByteArray) (a0_4 : Int) (a0_5 : Int) (a0_6 : Int) (a0_7 : Int) (a0_8 : Int) (a0_9 : Int) (a0_10 : Int) (A0_11 : Option Addr) (c0_11 : Nat) (l0_11 : List (S37)) (a0_12 : Int) (r : Bool) (w : World) (hr0_11 : Kd.C k37 w A0_11 l0_11.length l0_11) (hc0_11 : l0_11.length ≤ c0_11) (h : parser_plain.f k a0_0 a0_1 a0_2 a0_3 a0_4 a0_5 a0_6 a0_7 a0_8 a0_9 a0_10 l0_11 a0_12 = some r) (hG : Glob w) :
 Calls Tryz.prog 36 #[.agg #[.int .i64 a0_0, .int .i64 a0_1, .string a0_2, .string a0_3, .int .i64 a0_4, .int .i64 a0_5, .int .i64 a0_6, .int .i64 a0_7, .int .i64 a0_8, .int .i64 a0_9, .int .i64 a0_10, .slice A0_11 l0_11.length c0_11, .int .i64 a0_12]] w fun e w' => e = .returned (.bool r) ∧ Below w.heap.size w w' := plain_calls k ⟨a0_0, a0_1, a0_2, a0_3, a0_4, ⟨⟨a0_5, a0_6, a0_7⟩, ⟨a0_8, a0_9, a0_10⟩⟩, l0_11, a0_12⟩ A0_11 c0_11 r w hr0_11 hc0_11 h hG
def itoaS (n : Int) : Option ByteArray := if -9223372036854775808 ≤ n ∧ n ≤ 9223372036854775807 then some ⟨(Lib.itoa n).toArray⟩ else none
theorem Itoa_calls (n : Int) (s : ByteArray) (w : World) (h : itoaS n = some s) (hG : Glob w) : Calls Tryz.prog 70 #[.int .i64 n] w fun e w' => e = .returned (.string s) ∧ Below w.heap.size w w' := by
 unfold itoaS at h
 split at h
 · rename_i hn
   obtain rfl := Option.some.inj h
   refine (Tryz.strconv_Itoa n hn.1 hn.2 w hG.2).mono ?_
   rintro e w' ⟨rfl, k, os, rfl⟩
   exact ⟨rfl, Lib.below_grow _ w (Nat.le_refl _) k os⟩
 · simp at h
def tripleB (a b c : ByteArray) : ByteArray := (((((⟨#[40]⟩ ++ a) ++ ⟨#[44, 32]⟩) ++ b) ++ ⟨#[44, 32]⟩) ++ c) ++ ⟨#[41]⟩
def fitS (s : ByteArray) : Option ByteArray := if s.size ≤ 9223372036854775807 then some s else none
theorem fitS_eq {s r : ByteArray} (h : fitS s = some r) : s = r ∧ s.size ≤ 9223372036854775807 := by
 unfold fitS at h
 split at h
 · rename_i hs; exact ⟨Option.some.inj h, hs⟩
 · simp at h
def tripleF (q : S34) : Option ByteArray := (itoaS q.f0).bind fun a => (itoaS q.f1).bind fun b => (itoaS q.f2).bind fun c => fitS (tripleB a b c)
theorem no_big {n : Nat} (h : n ≤ 9223372036854775807) : (9223372036854775807 < n) = False := eq_false (Nat.not_lt.2 h)
theorem app_size (x y : ByteArray) : (x ++ y).size = x.size + y.size := ByteArray.size_append
theorem row3_held {W : World} {g t : Nat} {a b c : Int} (h : W.heap[g]? = some (.cells #[.int .i64 a, .int .i64 b, .int .i64 c] t (0, 0))) : W.cell? ⟨g, 0, none⟩ = some (.int .i64 a) ∧ W.cell? ⟨g, 1, none⟩ = some (.int .i64 b) ∧ W.cell? ⟨g, 2, none⟩ = some (.int .i64 c) := ⟨blk_cell h 0, blk_cell h 1, blk_cell h 2⟩
theorem triple_calls2 (q0 q1 q2 : Int) (r : ByteArray) (w : World) (h : tripleF ⟨q0, q1, q2⟩ = some r) (hG : Glob w) : Calls Tryz.prog 71 #[.agg #[.int .i64 q0, .int .i64 q1, .int .i64 q2]] w fun e w' => e = .returned (.string r) ∧ Below w.heap.size w w' := by
 obtain ⟨a, ha, h⟩ := Option.bind_eq_some_iff.1 h
 obtain ⟨b, hb, h⟩ := Option.bind_eq_some_iff.1 h
 obtain ⟨c, hc, h⟩ := Option.bind_eq_some_iff.1 h
 have HA := Aside0.mk ha
 have HBb := Aside0.mk hb
 have HC := Aside0.mk hc
 have HG := Aside0.mk hG
 obtain ⟨rfl, hs⟩ := fitS_eq h
 have e1 : (⟨#[40]⟩ : ByteArray).size = 1 := rfl
 have e2 : (⟨#[44, 32]⟩ : ByteArray).size = 2 := rfl
 have e3 : (⟨#[41]⟩ : ByteArray).size = 1 := rfl
 simp only [tripleB, app_size, e1, e2, e3] at hs
 have k1 := no_big (show 1 + a.size ≤ _ from by omega)
 have k2 := no_big (show 1 + a.size + 2 ≤ _ from by omega)
 have k3 := no_big (show 1 + a.size + 2 + b.size ≤ _ from by omega)
 have k4 := no_big (show 1 + a.size + 2 + b.size + 2 ≤ _ from by omega)
 have k5 := no_big (show 1 + a.size + 2 + b.size + 2 + c.size ≤ _ from by omega)
 have k6 := no_big (show 1 + a.size + 2 + b.size + 2 + c.size + 1 ≤ _ from by omega)
 clear e1 e2 e3
 clear ha hb hc hG h hs
 have HH := Aside0.mk (heap_alloc_new w (.cells #[.int .i64 q0, .int .i64 q1, .int .i64 q2] 34))
 have HB := Aside0.mk (below_alloc (Below.refl w.heap.size w) (.cells #[.int .i64 q0, .int .i64 q1, .int .i64 q2] 34))
 have hz0 := row3_held (blk_drew HH.out)
 have hz := row3_held HH.out
 go_enter Tryz.func71, Tryz.ntmps71
 go_wp2_with fail
 clear hz
 first
 | go_region_held3 (fun W' => W'.cell? ⟨w.heap.size, 0, none⟩ = some (.int .i64 q0) ∧ W'.cell? ⟨w.heap.size, 1, none⟩ = some (.int .i64 q1) ∧ W'.cell? ⟨w.heap.size, 2, none⟩ = some (.int .i64 q2)) (with_reducible first | exact hz0 | exact row3_held HH.out) (first | (go_at_call 70; (with_reducible refine (Itoa_calls q0 _ _ HA.out (HG.out.below (by first | exact HB.out | exact below_drew1 HB.out))).mono ?_); rintro e w1 ⟨rfl, hb⟩; have HH1 := Aside0.mk (blk_below (by first | exact HH.out | exact blk_drew HH.out) hb); have HB1 := Aside0.mk (below_step (by first | exact HB.out | exact below_drew1 HB.out) hb); clear hb HH HB; have HH := HH1; have HB := HB1; clear HH1 HB1) | (go_at_call 70; (with_reducible refine (Itoa_calls q1 _ _ HBb.out (HG.out.below (by first | exact HB.out | exact below_drew1 HB.out))).mono ?_); rintro e w1 ⟨rfl, hb⟩; have HH1 := Aside0.mk (blk_below (by first | exact HH.out | exact blk_drew HH.out) hb); have HB1 := Aside0.mk (below_step (by first | exact HB.out | exact below_drew1 HB.out) hb); clear hb HH HB; have HH := HH1; have HB := HB1; clear HH1 HB1) | (go_at_call 70; (with_reducible refine (Itoa_calls q2 _ _ HC.out (HG.out.below (by first | exact HB.out | exact below_drew1 HB.out))).mono ?_); rintro e w1 ⟨rfl, hb⟩; have HH1 := Aside0.mk (blk_below (by first | exact HH.out | exact blk_drew HH.out) hb); have HB1 := Aside0.mk (below_step (by first | exact HB.out | exact below_drew1 HB.out) hb); clear hb HH HB; have HH := HH1; have HB := HB1; clear HH1 HB1))
 go_wp2_with fail
 go_ret
 exact ⟨rfl, HB.out⟩
def wordB (k : Int) : ByteArray := if k = 3 then ⟨#[112, 105, 99, 107]⟩ else if k = 4 then ⟨#[112, 117, 116]⟩ else ⟨#[104, 97, 110, 100]⟩
def lineGo (a t : ByteArray) : ByteArray := (((⟨#[103, 111, 32]⟩ ++ a) ++ ⟨#[32]⟩) ++ t) ++ ⟨#[59]⟩
def lineOne (p a : ByteArray) : ByteArray := (p ++ a) ++ ⟨#[59]⟩
def lineWhen (p q : ByteArray) : ByteArray := (((⟨#[119, 104, 101, 110, 32]⟩ ++ p) ++ ⟨#[32]⟩) ++ q) ++ ⟨#[32, 123]⟩
def lineBoth (t u : ByteArray) : ByteArray := (((⟨#[98, 111, 116, 104, 32]⟩ ++ t) ++ ⟨#[32]⟩) ++ u) ++ ⟨#[59]⟩
def lineName (k a p q : ByteArray) : ByteArray := (((((k ++ ⟨#[32]⟩) ++ a) ++ ⟨#[32]⟩) ++ p) ++ q) ++ ⟨#[59]⟩
def lineF (x : S37) : Option ByteArray :=
 if x.f0 = 1 then (if x.f1 = 0 then (itoaS 0).bind fun a => (tripleF x.f5.f0).bind fun t => fitS (lineGo a t) else if x.f1 = 1 then (itoaS 1).bind fun a => (tripleF x.f5.f1).bind fun t => fitS (lineGo a t) else none)
 else if x.f0 = 2 then (itoaS x.f1).bind fun a => fitS (lineOne ⟨#[104, 111, 109, 101, 32]⟩ a)
 else if x.f0 = 6 then (itoaS x.f4).bind fun a => fitS (lineOne ⟨#[119, 97, 105, 116, 32]⟩ a)
 else if x.f0 = 7 then fitS (lineWhen x.f3 x.f2)
 else if x.f0 = 8 then (tripleF x.f5.f0).bind fun t => (tripleF x.f5.f1).bind fun u => fitS (lineBoth t u)
 else if x.f0 = 3 ∨ x.f0 = 4 ∨ x.f0 = 5 then (itoaS x.f1).bind fun a => fitS (lineName (wordB x.f0) a x.f2 x.f3)
 else none
theorem line_home (x1 : Int) (x2 x3 : ByteArray) (x4 q0 q1 q2 p0 p1 p2 : Int) (x6 : List S37) (x7 : Int) (a : ByteArray) (r : ByteArray) (v : Value) (w : World) (ha : itoaS x1 = some a) (h : fitS (lineOne ⟨#[104, 111, 109, 101, 32]⟩ a) = some r) (hG : Glob w) : Calls Tryz.prog 39 #[.agg (stmC ⟨2, x1, x2, x3, x4, ⟨⟨q0, q1, q2⟩, ⟨p0, p1, p2⟩⟩, x6, x7⟩ v)] w fun e w' => e = .returned (.string r) ∧ Below w.heap.size w w' := by
 have hu55 := Tryz.underlying37
 have HG := Aside0.mk hG
 clear hG
 have HH := Aside0.mk (heap_alloc_new w (.cells (stmC (⟨2, x1, x2, x3, x4, ⟨⟨q0, q1, q2⟩, ⟨p0, p1, p2⟩⟩, x6, x7⟩ : S37) v) 37))
 have HB := Aside0.mk (below_alloc (Below.refl w.heap.size w) (.cells (stmC (⟨2, x1, x2, x3, x4, ⟨⟨q0, q1, q2⟩, ⟨p0, p1, p2⟩⟩, x6, x7⟩ : S37) v) 37))
 have hz := row_held HH.out
 simp only at hz
 go_split_ands
 obtain ⟨hr, hs⟩ := fitS_eq h
 have e0 : (⟨#[104, 111, 109, 101, 32]⟩ : ByteArray).size = 5 := rfl
 have e1 : (⟨#[59]⟩ : ByteArray).size = 1 := rfl
 simp only [lineOne, app_size, e0, e1] at hs
 have k1 := no_big (show 5 + a.size ≤ _ from by omega)
 have k2 := no_big (show 5 + a.size + 1 ≤ _ from by omega)
 subst hr
 clear h hs e0 e1
 have HA := Aside0.mk ha
 clear ha
 go_enter Tryz.func39, Tryz.ntmps39
 go_wp2_with fail
 refine (Itoa_calls x1 a _ HA.out (HG.out.below HB.out)).mono ?_
 rintro e w1 ⟨rfl, hb⟩
 have HB1 := Aside0.mk (below_step HB.out hb)
 clear hb
 go_wp2_with fail
 go_ret
 exact ⟨rfl, HB1.out⟩
theorem line_wait (x1 : Int) (x2 x3 : ByteArray) (x4 q0 q1 q2 p0 p1 p2 : Int) (x6 : List S37) (x7 : Int) (a : ByteArray) (r : ByteArray) (v : Value) (w : World) (ha : itoaS x4 = some a) (h : fitS (lineOne ⟨#[119, 97, 105, 116, 32]⟩ a) = some r) (hG : Glob w) : Calls Tryz.prog 39 #[.agg (stmC ⟨6, x1, x2, x3, x4, ⟨⟨q0, q1, q2⟩, ⟨p0, p1, p2⟩⟩, x6, x7⟩ v)] w fun e w' => e = .returned (.string r) ∧ Below w.heap.size w w' := by
 have hu55 := Tryz.underlying37
 have HG := Aside0.mk hG
 clear hG
 have HH := Aside0.mk (heap_alloc_new w (.cells (stmC (⟨6, x1, x2, x3, x4, ⟨⟨q0, q1, q2⟩, ⟨p0, p1, p2⟩⟩, x6, x7⟩ : S37) v) 37))
 have HB := Aside0.mk (below_alloc (Below.refl w.heap.size w) (.cells (stmC (⟨6, x1, x2, x3, x4, ⟨⟨q0, q1, q2⟩, ⟨p0, p1, p2⟩⟩, x6, x7⟩ : S37) v) 37))
 have hz := row_held HH.out
 simp only at hz
 go_split_ands
 obtain ⟨hr, hs⟩ := fitS_eq h
 have e0 : (⟨#[119, 97, 105, 116, 32]⟩ : ByteArray).size = 5 := rfl
 have e1 : (⟨#[59]⟩ : ByteArray).size = 1 := rfl
 simp only [lineOne, app_size, e0, e1] at hs
 have k1 := no_big (show 5 + a.size ≤ _ from by omega)
 have k2 := no_big (show 5 + a.size + 1 ≤ _ from by omega)
 subst hr
 clear h hs e0 e1
 have HA := Aside0.mk ha
 clear ha
 go_enter Tryz.func39, Tryz.ntmps39
 go_wp2_with fail
 refine (Itoa_calls x4 a _ HA.out (HG.out.below HB.out)).mono ?_
 rintro e w1 ⟨rfl, hb⟩
 have HB1 := Aside0.mk (below_step HB.out hb)
 clear hb
 go_wp2_with fail
 go_ret
 exact ⟨rfl, HB1.out⟩
theorem line_when (x1 : Int) (x2 x3 : ByteArray) (x4 q0 q1 q2 p0 p1 p2 : Int) (x6 : List S37) (x7 : Int) (r : ByteArray) (v : Value) (w : World) (h : fitS (lineWhen x3 x2) = some r) (hG : Glob w) : Calls Tryz.prog 39 #[.agg (stmC ⟨7, x1, x2, x3, x4, ⟨⟨q0, q1, q2⟩, ⟨p0, p1, p2⟩⟩, x6, x7⟩ v)] w fun e w' => e = .returned (.string r) ∧ Below w.heap.size w w' := by
 have hu55 := Tryz.underlying37
 have HG := Aside0.mk hG
 clear hG
 have HH := Aside0.mk (heap_alloc_new w (.cells (stmC (⟨7, x1, x2, x3, x4, ⟨⟨q0, q1, q2⟩, ⟨p0, p1, p2⟩⟩, x6, x7⟩ : S37) v) 37))
 have HB := Aside0.mk (below_alloc (Below.refl w.heap.size w) (.cells (stmC (⟨7, x1, x2, x3, x4, ⟨⟨q0, q1, q2⟩, ⟨p0, p1, p2⟩⟩, x6, x7⟩ : S37) v) 37))
 have hz := row_held HH.out
 simp only at hz
 go_split_ands
 obtain ⟨hr, hs⟩ := fitS_eq h
 have e0 : (⟨#[119, 104, 101, 110, 32]⟩ : ByteArray).size = 5 := rfl
 have e1 : (⟨#[32]⟩ : ByteArray).size = 1 := rfl
 have e2 : (⟨#[32, 123]⟩ : ByteArray).size = 2 := rfl
 simp only [lineWhen, app_size, e0, e1, e2] at hs
 have k1 := no_big (show 5 + x3.size ≤ _ from by omega)
 have k2 := no_big (show 5 + x3.size + 1 ≤ _ from by omega)
 have k3 := no_big (show 5 + x3.size + 1 + x2.size ≤ _ from by omega)
 have k4 := no_big (show 5 + x3.size + 1 + x2.size + 2 ≤ _ from by omega)
 subst hr
 clear h hs e0 e1 e2
 go_enter Tryz.func39, Tryz.ntmps39
 go_wp2_with fail
 go_ret
 exact ⟨rfl, HB.out⟩
theorem line_both (x1 : Int) (x2 x3 : ByteArray) (x4 q0 q1 q2 p0 p1 p2 : Int) (x6 : List S37) (x7 : Int) (t u : ByteArray) (r : ByteArray) (v : Value) (w : World) (ht : tripleF ⟨q0, q1, q2⟩ = some t) (hu : tripleF ⟨p0, p1, p2⟩ = some u) (h : fitS (lineBoth t u) = some r) (hG : Glob w) : Calls Tryz.prog 39 #[.agg (stmC ⟨8, x1, x2, x3, x4, ⟨⟨q0, q1, q2⟩, ⟨p0, p1, p2⟩⟩, x6, x7⟩ v)] w fun e w' => e = .returned (.string r) ∧ Below w.heap.size w w' := by
 have hu55 := Tryz.underlying37
 have HG := Aside0.mk hG
 clear hG
 have HH := Aside0.mk (heap_alloc_new w (.cells (stmC (⟨8, x1, x2, x3, x4, ⟨⟨q0, q1, q2⟩, ⟨p0, p1, p2⟩⟩, x6, x7⟩ : S37) v) 37))
 have HB := Aside0.mk (below_alloc (Below.refl w.heap.size w) (.cells (stmC (⟨8, x1, x2, x3, x4, ⟨⟨q0, q1, q2⟩, ⟨p0, p1, p2⟩⟩, x6, x7⟩ : S37) v) 37))
 have hz := row_held HH.out
 simp only at hz
 go_split_ands
 obtain ⟨hr, hs⟩ := fitS_eq h
 have e0 : (⟨#[98, 111, 116, 104, 32]⟩ : ByteArray).size = 5 := rfl
 have e1 : (⟨#[32]⟩ : ByteArray).size = 1 := rfl
 have e2 : (⟨#[59]⟩ : ByteArray).size = 1 := rfl
 simp only [lineBoth, app_size, e0, e1, e2] at hs
 have k1 := no_big (show 5 + t.size ≤ _ from by omega)
 have k2 := no_big (show 5 + t.size + 1 ≤ _ from by omega)
 have k3 := no_big (show 5 + t.size + 1 + u.size ≤ _ from by omega)
 have k4 := no_big (show 5 + t.size + 1 + u.size + 1 ≤ _ from by omega)
 subst hr
 clear h hs e0 e1 e2
 have HT := Aside0.mk ht
 have HU := Aside0.mk hu
 clear ht hu
 go_enter Tryz.func39, Tryz.ntmps39
 go_wp2_with fail
 first
 | go_region_held3 (fun W' => W'.cell? ⟨w.heap.size, 0, none⟩ = some (.int .i64 8) ∧ W'.cell? ⟨w.heap.size, 1, none⟩ = some (.int .i64 x1) ∧ W'.cell? ⟨w.heap.size, 2, none⟩ = some (.string x2) ∧ W'.cell? ⟨w.heap.size, 3, none⟩ = some (.string x3) ∧ W'.cell? ⟨w.heap.size, 4, none⟩ = some (.int .i64 x4) ∧ W'.cell? ⟨w.heap.size, 5, none⟩ = some (.int .i64 q0) ∧ W'.cell? ⟨w.heap.size, 6, none⟩ = some (.int .i64 q1) ∧ W'.cell? ⟨w.heap.size, 7, none⟩ = some (.int .i64 q2) ∧ W'.cell? ⟨w.heap.size, 8, none⟩ = some (.int .i64 p0) ∧ W'.cell? ⟨w.heap.size, 9, none⟩ = some (.int .i64 p1) ∧ W'.cell? ⟨w.heap.size, 10, none⟩ = some (.int .i64 p2) ∧ W'.cell? ⟨w.heap.size, 11, none⟩ = some v ∧ W'.cell? ⟨w.heap.size, 12, none⟩ = some (.int .i64 x7)) (with_reducible first | exact row_held HH.out | exact row_held (blk_drew HH.out)) (first | (go_at_call 71; (with_reducible refine (triple_calls2 q0 q1 q2 _ _ HT.out (HG.out.below (by first | exact HB.out | exact below_drew1 HB.out))).mono ?_); rintro e w1 ⟨rfl, hb⟩; have HH1 := Aside0.mk (blk_below (by first | exact HH.out | exact blk_drew HH.out) hb); have HB1 := Aside0.mk (below_step (by first | exact HB.out | exact below_drew1 HB.out) hb); clear hb HH HB; have HH := HH1; have HB := HB1; clear HH1 HB1) | (go_at_call 71; (with_reducible refine (triple_calls2 p0 p1 p2 _ _ HU.out (HG.out.below (by first | exact HB.out | exact below_drew1 HB.out))).mono ?_); rintro e w1 ⟨rfl, hb⟩; have HH1 := Aside0.mk (blk_below (by first | exact HH.out | exact blk_drew HH.out) hb); have HB1 := Aside0.mk (below_step (by first | exact HB.out | exact below_drew1 HB.out) hb); clear hb HH HB; have HH := HH1; have HB := HB1; clear HH1 HB1))
 | fail "held3"
 go_wp2_with fail
 go_ret
 exact ⟨rfl, HB.out⟩
theorem line_go0 (x2 x3 : ByteArray) (x4 q0 q1 q2 p0 p1 p2 : Int) (x6 : List S37) (x7 : Int) (a t : ByteArray) (r : ByteArray) (v : Value) (w : World) (ha : itoaS 0 = some a) (ht : tripleF ⟨q0, q1, q2⟩ = some t) (h : fitS (lineGo a t) = some r) (hG : Glob w) : Calls Tryz.prog 39 #[.agg (stmC ⟨1, 0, x2, x3, x4, ⟨⟨q0, q1, q2⟩, ⟨p0, p1, p2⟩⟩, x6, x7⟩ v)] w fun e w' => e = .returned (.string r) ∧ Below w.heap.size w w' := by
 have hu55 := Tryz.underlying37
 have HG := Aside0.mk hG
 clear hG
 have HH := Aside0.mk (heap_alloc_new w (.cells (stmC (⟨1, 0, x2, x3, x4, ⟨⟨q0, q1, q2⟩, ⟨p0, p1, p2⟩⟩, x6, x7⟩ : S37) v) 37))
 have HB := Aside0.mk (below_alloc (Below.refl w.heap.size w) (.cells (stmC (⟨1, 0, x2, x3, x4, ⟨⟨q0, q1, q2⟩, ⟨p0, p1, p2⟩⟩, x6, x7⟩ : S37) v) 37))
 have hz := row_held HH.out
 simp only at hz
 go_split_ands
 obtain ⟨hr, hs⟩ := fitS_eq h
 have e0 : (⟨#[103, 111, 32]⟩ : ByteArray).size = 3 := rfl
 have e1 : (⟨#[32]⟩ : ByteArray).size = 1 := rfl
 have e2 : (⟨#[59]⟩ : ByteArray).size = 1 := rfl
 simp only [lineGo, app_size, e0, e1, e2] at hs
 have k1 := no_big (show 3 + a.size ≤ _ from by omega)
 have k2 := no_big (show 3 + a.size + 1 ≤ _ from by omega)
 have k3 := no_big (show 3 + a.size + 1 + t.size ≤ _ from by omega)
 have k4 := no_big (show 3 + a.size + 1 + t.size + 1 ≤ _ from by omega)
 subst hr
 clear h hs e0 e1 e2
 have HA := Aside0.mk ha
 have HT := Aside0.mk ht
 clear ha ht
 go_enter Tryz.func39, Tryz.ntmps39
 go_wp2_with fail
 first
 | go_region_held3 (fun W' => W'.cell? ⟨w.heap.size, 0, none⟩ = some (.int .i64 1) ∧ W'.cell? ⟨w.heap.size, 1, none⟩ = some (.int .i64 0) ∧ W'.cell? ⟨w.heap.size, 2, none⟩ = some (.string x2) ∧ W'.cell? ⟨w.heap.size, 3, none⟩ = some (.string x3) ∧ W'.cell? ⟨w.heap.size, 4, none⟩ = some (.int .i64 x4) ∧ W'.cell? ⟨w.heap.size, 5, none⟩ = some (.int .i64 q0) ∧ W'.cell? ⟨w.heap.size, 6, none⟩ = some (.int .i64 q1) ∧ W'.cell? ⟨w.heap.size, 7, none⟩ = some (.int .i64 q2) ∧ W'.cell? ⟨w.heap.size, 8, none⟩ = some (.int .i64 p0) ∧ W'.cell? ⟨w.heap.size, 9, none⟩ = some (.int .i64 p1) ∧ W'.cell? ⟨w.heap.size, 10, none⟩ = some (.int .i64 p2) ∧ W'.cell? ⟨w.heap.size, 11, none⟩ = some v ∧ W'.cell? ⟨w.heap.size, 12, none⟩ = some (.int .i64 x7)) (with_reducible first | exact row_held HH.out | exact row_held (blk_drew HH.out)) (first | (go_at_call 70; (with_reducible refine (Itoa_calls 0 _ _ HA.out (HG.out.below (by first | exact HB.out | exact below_drew1 HB.out))).mono ?_); rintro e w1 ⟨rfl, hb⟩; have HH1 := Aside0.mk (blk_below (by first | exact HH.out | exact blk_drew HH.out) hb); have HB1 := Aside0.mk (below_step (by first | exact HB.out | exact below_drew1 HB.out) hb); clear hb HH HB; have HH := HH1; have HB := HB1; clear HH1 HB1) | (go_at_call 71; (with_reducible refine (triple_calls2 q0 q1 q2 _ _ HT.out (HG.out.below (by first | exact HB.out | exact below_drew1 HB.out))).mono ?_); rintro e w1 ⟨rfl, hb⟩; have HH1 := Aside0.mk (blk_below (by first | exact HH.out | exact blk_drew HH.out) hb); have HB1 := Aside0.mk (below_step (by first | exact HB.out | exact below_drew1 HB.out) hb); clear hb HH HB; have HH := HH1; have HB := HB1; clear HH1 HB1))
 | fail "held3"
 go_wp2_with fail
 go_ret
 exact ⟨rfl, HB.out⟩
theorem line_go1 (x2 x3 : ByteArray) (x4 q0 q1 q2 p0 p1 p2 : Int) (x6 : List S37) (x7 : Int) (a t : ByteArray) (r : ByteArray) (v : Value) (w : World) (ha : itoaS 1 = some a) (ht : tripleF ⟨p0, p1, p2⟩ = some t) (h : fitS (lineGo a t) = some r) (hG : Glob w) : Calls Tryz.prog 39 #[.agg (stmC ⟨1, 1, x2, x3, x4, ⟨⟨q0, q1, q2⟩, ⟨p0, p1, p2⟩⟩, x6, x7⟩ v)] w fun e w' => e = .returned (.string r) ∧ Below w.heap.size w w' := by
 have hu55 := Tryz.underlying37
 have HG := Aside0.mk hG
 clear hG
 have HH := Aside0.mk (heap_alloc_new w (.cells (stmC (⟨1, 1, x2, x3, x4, ⟨⟨q0, q1, q2⟩, ⟨p0, p1, p2⟩⟩, x6, x7⟩ : S37) v) 37))
 have HB := Aside0.mk (below_alloc (Below.refl w.heap.size w) (.cells (stmC (⟨1, 1, x2, x3, x4, ⟨⟨q0, q1, q2⟩, ⟨p0, p1, p2⟩⟩, x6, x7⟩ : S37) v) 37))
 have hz := row_held HH.out
 simp only at hz
 go_split_ands
 obtain ⟨hr, hs⟩ := fitS_eq h
 have e0 : (⟨#[103, 111, 32]⟩ : ByteArray).size = 3 := rfl
 have e1 : (⟨#[32]⟩ : ByteArray).size = 1 := rfl
 have e2 : (⟨#[59]⟩ : ByteArray).size = 1 := rfl
 simp only [lineGo, app_size, e0, e1, e2] at hs
 have k1 := no_big (show 3 + a.size ≤ _ from by omega)
 have k2 := no_big (show 3 + a.size + 1 ≤ _ from by omega)
 have k3 := no_big (show 3 + a.size + 1 + t.size ≤ _ from by omega)
 have k4 := no_big (show 3 + a.size + 1 + t.size + 1 ≤ _ from by omega)
 subst hr
 clear h hs e0 e1 e2
 have HA := Aside0.mk ha
 have HT := Aside0.mk ht
 clear ha ht
 go_enter Tryz.func39, Tryz.ntmps39
 go_wp2_with fail
 first
 | go_region_held3 (fun W' => W'.cell? ⟨w.heap.size, 0, none⟩ = some (.int .i64 1) ∧ W'.cell? ⟨w.heap.size, 1, none⟩ = some (.int .i64 1) ∧ W'.cell? ⟨w.heap.size, 2, none⟩ = some (.string x2) ∧ W'.cell? ⟨w.heap.size, 3, none⟩ = some (.string x3) ∧ W'.cell? ⟨w.heap.size, 4, none⟩ = some (.int .i64 x4) ∧ W'.cell? ⟨w.heap.size, 5, none⟩ = some (.int .i64 q0) ∧ W'.cell? ⟨w.heap.size, 6, none⟩ = some (.int .i64 q1) ∧ W'.cell? ⟨w.heap.size, 7, none⟩ = some (.int .i64 q2) ∧ W'.cell? ⟨w.heap.size, 8, none⟩ = some (.int .i64 p0) ∧ W'.cell? ⟨w.heap.size, 9, none⟩ = some (.int .i64 p1) ∧ W'.cell? ⟨w.heap.size, 10, none⟩ = some (.int .i64 p2) ∧ W'.cell? ⟨w.heap.size, 11, none⟩ = some v ∧ W'.cell? ⟨w.heap.size, 12, none⟩ = some (.int .i64 x7)) (with_reducible first | exact row_held HH.out | exact row_held (blk_drew HH.out)) (first | (go_at_call 70; (with_reducible refine (Itoa_calls 1 _ _ HA.out (HG.out.below (by first | exact HB.out | exact below_drew1 HB.out))).mono ?_); rintro e w1 ⟨rfl, hb⟩; have HH1 := Aside0.mk (blk_below (by first | exact HH.out | exact blk_drew HH.out) hb); have HB1 := Aside0.mk (below_step (by first | exact HB.out | exact below_drew1 HB.out) hb); clear hb HH HB; have HH := HH1; have HB := HB1; clear HH1 HB1) | (go_at_call 71; (with_reducible refine (triple_calls2 p0 p1 p2 _ _ HT.out (HG.out.below (by first | exact HB.out | exact below_drew1 HB.out))).mono ?_); rintro e w1 ⟨rfl, hb⟩; have HH1 := Aside0.mk (blk_below (by first | exact HH.out | exact blk_drew HH.out) hb); have HB1 := Aside0.mk (below_step (by first | exact HB.out | exact below_drew1 HB.out) hb); clear hb HH HB; have HH := HH1; have HB := HB1; clear HH1 HB1))
 | fail "held3"
 go_wp2_with fail
 go_ret
 exact ⟨rfl, HB.out⟩
def WordAt (w : World) (ad : Addr) (cc : Nat) (k : Nat) (s : ByteArray) : Prop := w.cell? ⟨0, 0, none⟩ = some (.slice (some ad) 9 cc) ∧ w.cell? ⟨ad.block, ad.off + k, none⟩ = some (.string s) ∧ 0 < w.heap.size ∧ ad.block < w.heap.size
theorem word_at {w : World} (h : WordsAt w) (k : Nat) (hk : k < 9) (hk0 : k ≠ 0) : ∃ ad cc, WordAt w ad cc k (wordsL[k]'hk) := by
 obtain ⟨A, c, h0, hc, hC, hl⟩ := h
 have hR := Kd.reads_of_C (d := ByteArray.empty) hC
 obtain ⟨ad, e, hx⟩ := hR.2.2 (by decide)
 subst e
 have hx' := hx k hk
 have hg : wordsL.getD k ByteArray.empty = wordsL[k]'hk := by rw [List.getD_eq_getElem?_getD, List.getElem?_eq_getElem (show k < wordsL.length from hk)]; rfl
 rw [hg, show ad.add k = ⟨ad.block, ad.off + k, none⟩ from if_neg hk0] at hx'
 refine ⟨ad, c, h0, hx', hl, ?_⟩
 rcases Nat.lt_or_ge ad.block w.heap.size with h' | h'
 · exact h'
 · exfalso
   have : w.cell? ⟨ad.block, ad.off + k, none⟩ = none := by simp [World.cell?, Array.getElem?_eq_none h']
   rw [this] at hx'
   exact absurd hx' (by simp)
theorem WordAt.below {w W : World} {ad : Addr} {cc k : Nat} {s : ByteArray} (h : WordAt w ad cc k s) (hb : Below w.heap.size w W) : W.cell? ⟨0, 0, none⟩ = some (.slice (some ad) 9 cc) ∧ W.cell? ⟨ad.block, ad.off + k, none⟩ = some (.string s) :=
 ⟨(World.cell?_of_block (a := ⟨0, 0, none⟩) (hb.block 0 h.2.2.1)).trans h.1, (World.cell?_of_block (a := ⟨ad.block, ad.off + k, none⟩) (hb.block _ h.2.2.2)).trans h.2.1⟩
theorem name_held {w W' : World} {b cc k : Nat} {ad : Addr} {s : ByteArray} {x : S37} {v : Value} (h : W'.heap[b]? = some (.cells (stmC x v) 37 (0, 0))) (hb : Below w.heap.size w W') (hw : WordAt w ad cc k s) : W'.cell? ⟨0, 0, none⟩ = some (.slice (some ad) 9 cc) ∧ W'.cell? ⟨ad.block, ad.off + k, none⟩ = some (.string s) ∧ W'.cell? ⟨b, 0, none⟩ = some (.int .i64 x.f0) ∧ W'.cell? ⟨b, 1, none⟩ = some (.int .i64 x.f1) ∧ W'.cell? ⟨b, 2, none⟩ = some (.string x.f2) ∧ W'.cell? ⟨b, 3, none⟩ = some (.string x.f3) ∧ W'.cell? ⟨b, 4, none⟩ = some (.int .i64 x.f4) ∧ W'.cell? ⟨b, 5, none⟩ = some (.int .i64 x.f5.f0.f0) ∧ W'.cell? ⟨b, 6, none⟩ = some (.int .i64 x.f5.f0.f1) ∧ W'.cell? ⟨b, 7, none⟩ = some (.int .i64 x.f5.f0.f2) ∧ W'.cell? ⟨b, 8, none⟩ = some (.int .i64 x.f5.f1.f0) ∧ W'.cell? ⟨b, 9, none⟩ = some (.int .i64 x.f5.f1.f1) ∧ W'.cell? ⟨b, 10, none⟩ = some (.int .i64 x.f5.f1.f2) ∧ W'.cell? ⟨b, 11, none⟩ = some (v) ∧ W'.cell? ⟨b, 12, none⟩ = some (.int .i64 x.f7) :=
 ⟨(hw.below hb).1, (hw.below hb).2, row_held h⟩
theorem line_pick (x1 : Int) (x2 x3 : ByteArray) (x4 q0 q1 q2 p0 p1 p2 : Int) (x6 : List S37) (x7 : Int) (a : ByteArray) (r : ByteArray) (v : Value) (w : World) (ha : itoaS x1 = some a) (h : fitS (lineName ⟨#[112, 105, 99, 107]⟩ a x2 x3) = some r) (hG : Glob w) : Calls Tryz.prog 39 #[.agg (stmC ⟨3, x1, x2, x3, x4, ⟨⟨q0, q1, q2⟩, ⟨p0, p1, p2⟩⟩, x6, x7⟩ v)] w fun e w' => e = .returned (.string r) ∧ Below w.heap.size w w' := by
 have hu55 := Tryz.underlying37
 have HG := Aside0.mk hG
 clear hG
 have HH := Aside0.mk (heap_alloc_new w (.cells (stmC (⟨3, x1, x2, x3, x4, ⟨⟨q0, q1, q2⟩, ⟨p0, p1, p2⟩⟩, x6, x7⟩ : S37) v) 37))
 have HB := Aside0.mk (below_alloc (Below.refl w.heap.size w) (.cells (stmC (⟨3, x1, x2, x3, x4, ⟨⟨q0, q1, q2⟩, ⟨p0, p1, p2⟩⟩, x6, x7⟩ : S37) v) 37))
 have hz := row_held HH.out
 simp only at hz
 go_split_ands
 obtain ⟨hr, hs⟩ := fitS_eq h
 have e0 : (⟨#[112, 105, 99, 107]⟩ : ByteArray).size = 4 := rfl
 have e1 : (⟨#[32]⟩ : ByteArray).size = 1 := rfl
 have e2 : (⟨#[59]⟩ : ByteArray).size = 1 := rfl
 simp only [lineName, app_size, e0, e1, e2] at hs
 have k1 := no_big (show 4 + 1 ≤ _ from by omega)
 have k2 := no_big (show 4 + 1 + a.size ≤ _ from by omega)
 have k3 := no_big (show 4 + 1 + a.size + 1 ≤ _ from by omega)
 have k4 := no_big (show 4 + 1 + a.size + 1 + x2.size ≤ _ from by omega)
 have k5 := no_big (show 4 + 1 + a.size + 1 + x2.size + x3.size ≤ _ from by omega)
 have k6 := no_big (show 4 + 1 + a.size + 1 + x2.size + x3.size + 1 ≤ _ from by omega)
 have k7 := no_big (show 5 + a.size ≤ _ from by omega)
 have k8 := no_big (show 5 + a.size + 1 ≤ _ from by omega)
 have k9 := no_big (show 5 + a.size + 1 + x2.size ≤ _ from by omega)
 have k10 := no_big (show 5 + a.size + 1 + x2.size + x3.size ≤ _ from by omega)
 have k11 := no_big (show 5 + a.size + 1 + x2.size + x3.size + 1 ≤ _ from by omega)
 subst hr
 clear h hs e0 e1 e2
 have HA := Aside0.mk ha
 clear ha
 obtain ⟨ad, cc, hw⟩ := word_at HG.out.1 3 (by decide) (by decide)
 have HW := Aside0.mk (show WordAt w ad cc 3 ⟨#[112, 105, 99, 107]⟩ from hw)
 clear hw
 go_enter Tryz.func39, Tryz.ntmps39
 go_wp2_with fail
 go_region_held3 (fun W' => W'.cell? ⟨0, 0, none⟩ = some (.slice (some ad) 9 cc) ∧ W'.cell? ⟨ad.block, ad.off + 3, none⟩ = some (.string ⟨#[112, 105, 99, 107]⟩) ∧ W'.cell? ⟨w.heap.size, 0, none⟩ = some (.int .i64 3) ∧ W'.cell? ⟨w.heap.size, 1, none⟩ = some (.int .i64 x1) ∧ W'.cell? ⟨w.heap.size, 2, none⟩ = some (.string x2) ∧ W'.cell? ⟨w.heap.size, 3, none⟩ = some (.string x3) ∧ W'.cell? ⟨w.heap.size, 4, none⟩ = some (.int .i64 x4) ∧ W'.cell? ⟨w.heap.size, 5, none⟩ = some (.int .i64 q0) ∧ W'.cell? ⟨w.heap.size, 6, none⟩ = some (.int .i64 q1) ∧ W'.cell? ⟨w.heap.size, 7, none⟩ = some (.int .i64 q2) ∧ W'.cell? ⟨w.heap.size, 8, none⟩ = some (.int .i64 p0) ∧ W'.cell? ⟨w.heap.size, 9, none⟩ = some (.int .i64 p1) ∧ W'.cell? ⟨w.heap.size, 10, none⟩ = some (.int .i64 p2) ∧ W'.cell? ⟨w.heap.size, 11, none⟩ = some v ∧ W'.cell? ⟨w.heap.size, 12, none⟩ = some (.int .i64 x7)) (with_reducible first | exact name_held HH.out HB.out HW.out | exact name_held (blk_drew HH.out) (below_drew1 HB.out) HW.out) (first | (go_at_call 70; (with_reducible refine (Itoa_calls x1 _ _ HA.out (HG.out.below (by first | exact HB.out | exact below_drew1 HB.out))).mono ?_); rintro e w1 ⟨rfl, hb⟩; have HH1 := Aside0.mk (blk_below (by first | exact HH.out | exact blk_drew HH.out) hb); have HB1 := Aside0.mk (below_step (by first | exact HB.out | exact below_drew1 HB.out) hb); clear hb HH HB; have HH := HH1; have HB := HB1; clear HH1 HB1))
 go_wp2_with fail
 go_ret
 exact ⟨rfl, HB.out⟩
theorem line_put (x1 : Int) (x2 x3 : ByteArray) (x4 q0 q1 q2 p0 p1 p2 : Int) (x6 : List S37) (x7 : Int) (a : ByteArray) (r : ByteArray) (v : Value) (w : World) (ha : itoaS x1 = some a) (h : fitS (lineName ⟨#[112, 117, 116]⟩ a x2 x3) = some r) (hG : Glob w) : Calls Tryz.prog 39 #[.agg (stmC ⟨4, x1, x2, x3, x4, ⟨⟨q0, q1, q2⟩, ⟨p0, p1, p2⟩⟩, x6, x7⟩ v)] w fun e w' => e = .returned (.string r) ∧ Below w.heap.size w w' := by
 have hu55 := Tryz.underlying37
 have HG := Aside0.mk hG
 clear hG
 have HH := Aside0.mk (heap_alloc_new w (.cells (stmC (⟨4, x1, x2, x3, x4, ⟨⟨q0, q1, q2⟩, ⟨p0, p1, p2⟩⟩, x6, x7⟩ : S37) v) 37))
 have HB := Aside0.mk (below_alloc (Below.refl w.heap.size w) (.cells (stmC (⟨4, x1, x2, x3, x4, ⟨⟨q0, q1, q2⟩, ⟨p0, p1, p2⟩⟩, x6, x7⟩ : S37) v) 37))
 have hz := row_held HH.out
 simp only at hz
 go_split_ands
 obtain ⟨hr, hs⟩ := fitS_eq h
 have e0 : (⟨#[112, 117, 116]⟩ : ByteArray).size = 3 := rfl
 have e1 : (⟨#[32]⟩ : ByteArray).size = 1 := rfl
 have e2 : (⟨#[59]⟩ : ByteArray).size = 1 := rfl
 simp only [lineName, app_size, e0, e1, e2] at hs
 have k1 := no_big (show 3 + 1 ≤ _ from by omega)
 have k2 := no_big (show 3 + 1 + a.size ≤ _ from by omega)
 have k3 := no_big (show 3 + 1 + a.size + 1 ≤ _ from by omega)
 have k4 := no_big (show 3 + 1 + a.size + 1 + x2.size ≤ _ from by omega)
 have k5 := no_big (show 3 + 1 + a.size + 1 + x2.size + x3.size ≤ _ from by omega)
 have k6 := no_big (show 3 + 1 + a.size + 1 + x2.size + x3.size + 1 ≤ _ from by omega)
 have k7 := no_big (show 4 + a.size ≤ _ from by omega)
 have k8 := no_big (show 4 + a.size + 1 ≤ _ from by omega)
 have k9 := no_big (show 4 + a.size + 1 + x2.size ≤ _ from by omega)
 have k10 := no_big (show 4 + a.size + 1 + x2.size + x3.size ≤ _ from by omega)
 have k11 := no_big (show 4 + a.size + 1 + x2.size + x3.size + 1 ≤ _ from by omega)
 subst hr
 clear h hs e0 e1 e2
 have HA := Aside0.mk ha
 clear ha
 obtain ⟨ad, cc, hw⟩ := word_at HG.out.1 4 (by decide) (by decide)
 have HW := Aside0.mk (show WordAt w ad cc 4 ⟨#[112, 117, 116]⟩ from hw)
 clear hw
 go_enter Tryz.func39, Tryz.ntmps39
 go_wp2_with fail
 first
 | go_region_held3 (fun W' => W'.cell? ⟨0, 0, none⟩ = some (.slice (some ad) 9 cc) ∧ W'.cell? ⟨ad.block, ad.off + 4, none⟩ = some (.string ⟨#[112, 117, 116]⟩) ∧ W'.cell? ⟨w.heap.size, 0, none⟩ = some (.int .i64 4) ∧ W'.cell? ⟨w.heap.size, 1, none⟩ = some (.int .i64 x1) ∧ W'.cell? ⟨w.heap.size, 2, none⟩ = some (.string x2) ∧ W'.cell? ⟨w.heap.size, 3, none⟩ = some (.string x3) ∧ W'.cell? ⟨w.heap.size, 4, none⟩ = some (.int .i64 x4) ∧ W'.cell? ⟨w.heap.size, 5, none⟩ = some (.int .i64 q0) ∧ W'.cell? ⟨w.heap.size, 6, none⟩ = some (.int .i64 q1) ∧ W'.cell? ⟨w.heap.size, 7, none⟩ = some (.int .i64 q2) ∧ W'.cell? ⟨w.heap.size, 8, none⟩ = some (.int .i64 p0) ∧ W'.cell? ⟨w.heap.size, 9, none⟩ = some (.int .i64 p1) ∧ W'.cell? ⟨w.heap.size, 10, none⟩ = some (.int .i64 p2) ∧ W'.cell? ⟨w.heap.size, 11, none⟩ = some v ∧ W'.cell? ⟨w.heap.size, 12, none⟩ = some (.int .i64 x7)) (with_reducible first | exact name_held HH.out HB.out HW.out | exact name_held (blk_drew HH.out) (below_drew1 HB.out) HW.out) (first | (go_at_call 70; (with_reducible refine (Itoa_calls x1 _ _ HA.out (HG.out.below (by first | exact HB.out | exact below_drew1 HB.out))).mono ?_); rintro e w1 ⟨rfl, hb⟩; have HH1 := Aside0.mk (blk_below (by first | exact HH.out | exact blk_drew HH.out) hb); have HB1 := Aside0.mk (below_step (by first | exact HB.out | exact below_drew1 HB.out) hb); clear hb HH HB; have HH := HH1; have HB := HB1; clear HH1 HB1))
 | fail "held3"
 go_wp2_with fail
 go_ret
 exact ⟨rfl, HB.out⟩
theorem line_hand (x1 : Int) (x2 x3 : ByteArray) (x4 q0 q1 q2 p0 p1 p2 : Int) (x6 : List S37) (x7 : Int) (a : ByteArray) (r : ByteArray) (v : Value) (w : World) (ha : itoaS x1 = some a) (h : fitS (lineName ⟨#[104, 97, 110, 100]⟩ a x2 x3) = some r) (hG : Glob w) : Calls Tryz.prog 39 #[.agg (stmC ⟨5, x1, x2, x3, x4, ⟨⟨q0, q1, q2⟩, ⟨p0, p1, p2⟩⟩, x6, x7⟩ v)] w fun e w' => e = .returned (.string r) ∧ Below w.heap.size w w' := by
 have hu55 := Tryz.underlying37
 have HG := Aside0.mk hG
 clear hG
 have HH := Aside0.mk (heap_alloc_new w (.cells (stmC (⟨5, x1, x2, x3, x4, ⟨⟨q0, q1, q2⟩, ⟨p0, p1, p2⟩⟩, x6, x7⟩ : S37) v) 37))
 have HB := Aside0.mk (below_alloc (Below.refl w.heap.size w) (.cells (stmC (⟨5, x1, x2, x3, x4, ⟨⟨q0, q1, q2⟩, ⟨p0, p1, p2⟩⟩, x6, x7⟩ : S37) v) 37))
 have hz := row_held HH.out
 simp only at hz
 go_split_ands
 obtain ⟨hr, hs⟩ := fitS_eq h
 have e0 : (⟨#[104, 97, 110, 100]⟩ : ByteArray).size = 4 := rfl
 have e1 : (⟨#[32]⟩ : ByteArray).size = 1 := rfl
 have e2 : (⟨#[59]⟩ : ByteArray).size = 1 := rfl
 simp only [lineName, app_size, e0, e1, e2] at hs
 have k1 := no_big (show 4 + 1 ≤ _ from by omega)
 have k2 := no_big (show 4 + 1 + a.size ≤ _ from by omega)
 have k3 := no_big (show 4 + 1 + a.size + 1 ≤ _ from by omega)
 have k4 := no_big (show 4 + 1 + a.size + 1 + x2.size ≤ _ from by omega)
 have k5 := no_big (show 4 + 1 + a.size + 1 + x2.size + x3.size ≤ _ from by omega)
 have k6 := no_big (show 4 + 1 + a.size + 1 + x2.size + x3.size + 1 ≤ _ from by omega)
 have k7 := no_big (show 5 + a.size ≤ _ from by omega)
 have k8 := no_big (show 5 + a.size + 1 ≤ _ from by omega)
 have k9 := no_big (show 5 + a.size + 1 + x2.size ≤ _ from by omega)
 have k10 := no_big (show 5 + a.size + 1 + x2.size + x3.size ≤ _ from by omega)
 have k11 := no_big (show 5 + a.size + 1 + x2.size + x3.size + 1 ≤ _ from by omega)
 subst hr
 clear h hs e0 e1 e2
 have HA := Aside0.mk ha
 clear ha
 obtain ⟨ad, cc, hw⟩ := word_at HG.out.1 5 (by decide) (by decide)
 have HW := Aside0.mk (show WordAt w ad cc 5 ⟨#[104, 97, 110, 100]⟩ from hw)
 clear hw
 go_enter Tryz.func39, Tryz.ntmps39
 go_wp2_with fail
 first
 | go_region_held3 (fun W' => W'.cell? ⟨0, 0, none⟩ = some (.slice (some ad) 9 cc) ∧ W'.cell? ⟨ad.block, ad.off + 5, none⟩ = some (.string ⟨#[104, 97, 110, 100]⟩) ∧ W'.cell? ⟨w.heap.size, 0, none⟩ = some (.int .i64 5) ∧ W'.cell? ⟨w.heap.size, 1, none⟩ = some (.int .i64 x1) ∧ W'.cell? ⟨w.heap.size, 2, none⟩ = some (.string x2) ∧ W'.cell? ⟨w.heap.size, 3, none⟩ = some (.string x3) ∧ W'.cell? ⟨w.heap.size, 4, none⟩ = some (.int .i64 x4) ∧ W'.cell? ⟨w.heap.size, 5, none⟩ = some (.int .i64 q0) ∧ W'.cell? ⟨w.heap.size, 6, none⟩ = some (.int .i64 q1) ∧ W'.cell? ⟨w.heap.size, 7, none⟩ = some (.int .i64 q2) ∧ W'.cell? ⟨w.heap.size, 8, none⟩ = some (.int .i64 p0) ∧ W'.cell? ⟨w.heap.size, 9, none⟩ = some (.int .i64 p1) ∧ W'.cell? ⟨w.heap.size, 10, none⟩ = some (.int .i64 p2) ∧ W'.cell? ⟨w.heap.size, 11, none⟩ = some v ∧ W'.cell? ⟨w.heap.size, 12, none⟩ = some (.int .i64 x7)) (with_reducible first | exact name_held HH.out HB.out HW.out | exact name_held (blk_drew HH.out) (below_drew1 HB.out) HW.out) (first | (go_at_call 70; (with_reducible refine (Itoa_calls x1 _ _ HA.out (HG.out.below (by first | exact HB.out | exact below_drew1 HB.out))).mono ?_); rintro e w1 ⟨rfl, hb⟩; have HH1 := Aside0.mk (blk_below (by first | exact HH.out | exact blk_drew HH.out) hb); have HB1 := Aside0.mk (below_step (by first | exact HB.out | exact below_drew1 HB.out) hb); clear hb HH HB; have HH := HH1; have HB := HB1; clear HH1 HB1))
 | fail "held3"
 go_wp2_with fail
 go_ret
 exact ⟨rfl, HB.out⟩
theorem line_calls (x : S37) (v : Value) (r : ByteArray) (w : World) (h : lineF x = some r) (hG : Glob w) : Calls Tryz.prog 39 #[.agg (stmC x v)] w fun e w' => e = .returned (.string r) ∧ Below w.heap.size w w' := by
 obtain ⟨x0, x1, x2, x3, x4, ⟨⟨q0, q1, q2⟩, ⟨p0, p1, p2⟩⟩, x6, x7⟩ := x
 unfold lineF at h
 simp only at h
 split at h
 · rename_i e; subst e
   split at h
   · rename_i e; subst e
     obtain ⟨a, ha, h⟩ := Option.bind_eq_some_iff.1 h
     obtain ⟨t, ht, h⟩ := Option.bind_eq_some_iff.1 h
     exact line_go0 x2 x3 x4 q0 q1 q2 p0 p1 p2 x6 x7 a t r v w ha ht h hG
   · split at h
     · rename_i e; subst e
       obtain ⟨a, ha, h⟩ := Option.bind_eq_some_iff.1 h
       obtain ⟨t, ht, h⟩ := Option.bind_eq_some_iff.1 h
       exact line_go1 x2 x3 x4 q0 q1 q2 p0 p1 p2 x6 x7 a t r v w ha ht h hG
     · simp at h
 · split at h
   · rename_i e; subst e
     obtain ⟨a, ha, h⟩ := Option.bind_eq_some_iff.1 h
     exact line_home x1 x2 x3 x4 q0 q1 q2 p0 p1 p2 x6 x7 a r v w ha h hG
   · split at h
     · rename_i e; subst e
       obtain ⟨a, ha, h⟩ := Option.bind_eq_some_iff.1 h
       exact line_wait x1 x2 x3 x4 q0 q1 q2 p0 p1 p2 x6 x7 a r v w ha h hG
     · split at h
       · rename_i e; subst e
         exact line_when x1 x2 x3 x4 q0 q1 q2 p0 p1 p2 x6 x7 r v w h hG
       · split at h
         · rename_i e; subst e
           obtain ⟨t, ht, h⟩ := Option.bind_eq_some_iff.1 h
           obtain ⟨u, hu, h⟩ := Option.bind_eq_some_iff.1 h
           exact line_both x1 x2 x3 x4 q0 q1 q2 p0 p1 p2 x6 x7 t u r v w ht hu h hG
         · split at h
           · rename_i e
             obtain ⟨a, ha, h⟩ := Option.bind_eq_some_iff.1 h
             rcases e with e | e | e <;> subst e
             · exact line_pick x1 x2 x3 x4 q0 q1 q2 p0 p1 p2 x6 x7 a r v w ha h hG
             · exact line_put x1 x2 x3 x4 q0 q1 q2 p0 p1 p2 x6 x7 a r v w ha h hG
             · exact line_hand x1 x2 x3 x4 q0 q1 q2 p0 p1 p2 x6 x7 a r v w ha h hG
           · simp at h
def kidsW (rec : ByteArray → List S37 → Option ByteArray) (ins : ByteArray) (x : S37) : Option ByteArray :=
 if x.f0 = 7 then (rec (ins ++ ⟨#[32, 32]⟩) x.f6).bind fun t => some (t ++ (ins ++ ⟨#[125, 10]⟩)) else some ⟨#[]⟩
def writtenL (rec : ByteArray → List S37 → Option ByteArray) (ins : ByteArray) : List S37 → Option ByteArray
 | [] => some ⟨#[]⟩
 | x :: l => (lineF x).bind fun s => (kidsW rec ins x).bind fun t => (writtenL rec ins l).bind fun u => some ((((ins ++ s) ++ ⟨#[10]⟩) ++ t) ++ u)
def writtenF : Nat → ByteArray → List S37 → Option ByteArray
 | 0 => fun _ _ => none
 | k + 1 => writtenL (writtenF k)
theorem kids_le {r1 r2 : ByteArray → List S37 → Option ByteArray} (h : ∀ i l, LeO (r1 i l) (r2 i l)) (ins : ByteArray) (x : S37) : LeO (kidsW r1 ins x) (kidsW r2 ins x) := by
 unfold kidsW
 exact LeO.ite (LeO.bind (h _ _) fun _ => LeO.refl _) (LeO.refl _)
theorem writtenL_le {r1 r2 : ByteArray → List S37 → Option ByteArray} (h : ∀ i l, LeO (r1 i l) (r2 i l)) (ins : ByteArray) : ∀ l, LeO (writtenL r1 ins l) (writtenL r2 ins l)
 | [] => LeO.refl _
 | x :: l => LeO.bind (LeO.refl _) fun _ => LeO.bind (kids_le h ins x) fun _ => LeO.bind (writtenL_le h ins l) fun _ => LeO.refl _
theorem written_le : ∀ (k : Nat) (ins : ByteArray) (l : List S37), LeO (writtenF k ins l) (writtenF (k + 1) ins l)
 | 0, ins, l => fun r h => by simp [writtenF] at h
 | k + 1, ins, l => writtenL_le (written_le k) ins l
theorem bldAt_below {B b : Nat} {p : Value} {bs : List Value} {W W' : World} (h : Lib.BuilderAtF 59 5 B b p bs W) (hb : Below W.heap.size W W') : Lib.BuilderAtF 59 5 B b p bs W' := by
 have hlt := h.lt
 obtain ⟨hB, v, hv, hown, hne⟩ := h
 exact ⟨hB, v, (hb.block b hlt).trans hv, hown.kept (row := none) ⟨hb.os, hb.tape, hb.output, hb.size, fun k hk _ => hb.block k hk⟩ (Classical.em _), hne⟩
theorem bld_below {B b : Nat} {bs : List Value} {W W' : World} (h : Lib.IsBuilderF 59 5 B b bs W) (hb : Below W.heap.size W W') : Lib.IsBuilderF 59 5 B b bs W' :=
 h.elim (fun x => .inl (bldAt_below x hb)) (fun x => .inr (bldAt_below x hb))
theorem bld_lt {B b : Nat} {bs : List Value} {W : World} (h : Lib.IsBuilderF 59 5 B b bs W) : b < W.heap.size := h.elim (fun x => x.lt) (fun x => x.lt)
theorem kept_of_below {w w' : World} {b : Nat} (h : Below w.heap.size w w') : Lib.OthersKept 5 (some b) w w' := fun k o hk _ _ => (h.block k ((Array.getElem?_eq_some_iff.1 hk).1)).trans hk
theorem strCells_append (x y : ByteArray) : Lib.strCells (x ++ y) = Lib.strCells x ++ Lib.strCells y := by
 simp [Lib.strCells, ByteArray.data_append, Array.toList_append]
theorem strCells_empty : Lib.strCells ⟨#[]⟩ = [] := rfl
abbrev WrC (w0 : World) (b : Nat) (rec : ByteArray → List S37 → Option ByteArray) : Prop := ∀ (A : Option Addr) (c : Nat) (l : List S37) (ins : ByteArray) (bs : List Value) (out : ByteArray) (W : World), Kd.C k37 w0 A l.length l → l.length ≤ c → Below w0.heap.size w0 W → Lib.IsBuilderF 59 5 w0.heap.size b bs W → rec ins l = some out → bs.length + out.size ≤ 140737488355328 →
 Calls Tryz.prog 25 #[.pointer (some ⟨b, 0, none⟩), .slice A l.length c, .string ins] W fun e w' => e = .returned (.tuple #[]) ∧ Lib.IsBuilderF 59 5 w0.heap.size b (bs ++ Lib.strCells out) w' ∧ Below w0.heap.size w0 w' ∧ Lib.OthersKept 5 (some b) W w'
theorem kept_blk {w w' : World} {b g : Nat} {cs : Array Value} (h : Lib.OthersKept 5 (some b) w w') (hg : w.heap[g]? = some (.cells cs 37 (0, 0))) (hb : g ≠ b) : w'.heap[g]? = some (.cells cs 37 (0, 0)) :=
 h g _ hg (fun e => hb (Option.some.inj e)) (fun c fz e => by simp at e)
theorem written_step (w0 : World) (hG : Glob w0) (b : Nat) (rec : ByteArray → List S37 → Option ByteArray) (HE : Aside0 (WrC w0 b rec)) : WrC w0 b (writtenL rec) := by
 intro A c l ins bs out W hC hc hB hI hrun hlen
 have hu55 := Tryz.underlying37
 have HG := Aside0.mk hG
 have HC := Aside0.mk hC
 have HB := Aside0.mk hB
 have HI := Aside0.mk hI
 have HR := Aside0.mk hrun
 have HL := Aside0.mk hlen
 have hm := Kd.C_max hC
 clear hG hC hB hI hrun hlen
 go_enter Tryz.func25, Tryz.ntmps25
 go_wp2_with fail
 go_loopg [10] l.length (fun kq v10 wr => ∃ (i : Nat) (bs' : List Value) (o' : ByteArray), v10 = .int .i64 i ∧ Aside0 (i + kq = l.length ∧ writtenL rec ins (l.drop i) = some o' ∧ bs' ++ Lib.strCells o' = bs ++ Lib.strCells out ∧ Lib.IsBuilderF 59 5 w0.heap.size b bs' wr ∧ Below w0.heap.size w0 wr ∧ Lib.OthersKept 5 (some b) W wr))
 case atStart => exact ⟨0, bs, out, rfl, ⟨by omega, by simpa using HR.out, rfl, HI.out, HB.out, Lib.OthersKept.refl _ _ _⟩⟩
 case round =>
  clear HR HI HB
  obtain ⟨i, bs', o', rfl, ⟨hk, hs, he, hi1, hb, ho⟩⟩ := hrel
  have HS := Aside0.mk hs
  have HEq := Aside0.mk he
  have HI := Aside0.mk hi1
  have HB := Aside0.mk hb
  have HO := Aside0.mk ho
  clear hs he hi1 hb ho
  rcases gk with _ | k1
  · have hi : i = l.length := by omega
    have ho : o' = ⟨#[]⟩ := by have := HS.out; rw [hi, List.drop_length] at this; simpa [writtenL] using this.symm
    have hlt : decide ((i : Int) < (l.length : Int)) = false := by simp [hi]
    have HE2 := Aside0.mk (show bs' = bs ++ Lib.strCells out from by have := HEq.out; rw [ho, strCells_empty, List.append_nil] at this; exact this)
    clear ho HEq HS
    go_wp2_with fail
    go_end0
    exact ⟨rfl, HE2.out ▸ HI.out, HB.out, HO.out⟩
  · have hi : i < l.length := by omega
    have hlt : decide ((i : Int) < (l.length : Int)) = true := by simp [hi]
    have hp : (0 ≤ (i : Int)) := by omega
    have hq0 : (i : Int) < (l.length : Int) := by omega
    obtain ⟨ad, Ax, cx, ex, x0, x1, x2, x3, x4, x5, x6, x7, x8, x9, x10, x11, x12, hlx, hCx⟩ := at_T37 HC.out i hp hq0
    cases ex
    have HS1 := HS.out
    rw [drop_rd l i hi] at HS1
    simp only [writtenL] at HS1
    obtain ⟨s, hs, h1⟩ := Option.bind_eq_some_iff.1 HS1
    obtain ⟨t, ht, h2⟩ := Option.bind_eq_some_iff.1 h1
    obtain ⟨u, hu, h3⟩ := Option.bind_eq_some_iff.1 h2
    have ho := Option.some.inj h3
    have HLi := Aside0.mk hs
    have HKi := Aside0.mk ht
    have HRe := Aside0.mk hu
    have HCX := Aside0.mk hCx
    have HOo := Aside0.mk ho
    generalize rd_T37 l (i : Int) = X at *
    clear HS HS1 hs ht hu hCx h1 h2 h3 ho
    simp only [Int.toNat_natCast] at x0 x1 x2 x3 x4 x5 x6 x7 x8 x9 x10 x11 x12
    have y0 := (World.cell?_of_block (HB.out.block _ (cell_lt x0))).trans x0
    have y1 := (World.cell?_of_block (HB.out.block _ (cell_lt x1))).trans x1
    have y2 := (World.cell?_of_block (HB.out.block _ (cell_lt x2))).trans x2
    have y3 := (World.cell?_of_block (HB.out.block _ (cell_lt x3))).trans x3
    have y4 := (World.cell?_of_block (HB.out.block _ (cell_lt x4))).trans x4
    have y5 := (World.cell?_of_block (HB.out.block _ (cell_lt x5))).trans x5
    have y6 := (World.cell?_of_block (HB.out.block _ (cell_lt x6))).trans x6
    have y7 := (World.cell?_of_block (HB.out.block _ (cell_lt x7))).trans x7
    have y8 := (World.cell?_of_block (HB.out.block _ (cell_lt x8))).trans x8
    have y9 := (World.cell?_of_block (HB.out.block _ (cell_lt x9))).trans x9
    have y10 := (World.cell?_of_block (HB.out.block _ (cell_lt x10))).trans x10
    have y11 := (World.cell?_of_block (HB.out.block _ (cell_lt x11))).trans x11
    have y12 := (World.cell?_of_block (HB.out.block _ (cell_lt x12))).trans x12
    clear x0 x1 x2 x3 x4 x5 x6 x7 x8 x9 x10 x11 x12
    replace hp := eq_true hp
    replace hq0 := eq_true hq0
    have HXR := Aside0.mk (heap_alloc_new wr (.cells (stmC X (.slice Ax X.f6.length cx)) 37))
    have HBa := Aside0.mk (below_alloc HB.out (.cells (stmC X (.slice Ax X.f6.length cx)) 37))
    have hbw := below_alloc (Below.refl wr.heap.size wr) (.cells (stmC X (.slice Ax X.f6.length cx)) 37)
    have HIa := Aside0.mk (bld_below HI.out hbw)
    have HOa := Aside0.mk (HO.out.trans (kept_of_below hbw))
    have HNb := Aside0.mk (Nat.ne_of_gt (bld_lt HI.out))
    have hsz := congrArg List.length HEq.out
    have hLen := HL.out
    simp only [List.length_append, Lib.strCells_length] at hsz
    have hso := HOo.out
    have hsz2 := congrArg ByteArray.size hso
    have e1 : (⟨#[10]⟩ : ByteArray).size = 1 := rfl
    simp only [app_size, e1] at hsz2
    have kk1 := no_big (show ins.size + s.size ≤ _ from by omega)
    have kk2 := no_big (show ins.size + s.size + 1 ≤ _ from by omega)
    have kl : bs'.length + ((ins ++ s) ++ ⟨#[10]⟩ : ByteArray).size ≤ 140737488355328 := by simp only [app_size, e1]; omega
    have HLen := Aside0.mk hLen
    have HS2 := Aside0.mk hsz
    have HS3 := Aside0.mk hsz2
    have HKl := Aside0.mk kl
    clear hsz hLen hso hsz2 e1 hbw kl HO HI
    have HLine := Aside0.mk (fun (W : World) (g : Glob W) => line_calls X (.slice Ax X.f6.length cx) s W HLi.out g)
    clear HLi
    simp only [stmC] at HXR HBa HIa HOa HLine
    by_cases h7 : X.f0 = 7
    · have hb7 : (X.f0 == 7) = true := by simpa using h7
      have hk7 : ((rec (ins ++ ⟨#[32, 32]⟩) X.f6).bind fun t => some (t ++ (ins ++ ⟨#[125, 10]⟩))) = some t := by have := HKi.out; unfold kidsW at this; rw [if_pos h7] at this; exact this
      obtain ⟨t', ht', hte⟩ := Option.bind_eq_some_iff.1 hk7
      have HRk := Aside0.mk ht'
      have HTe := Aside0.mk (Option.some.inj hte)
      have e2 : (⟨#[125, 10]⟩ : ByteArray).size = 2 := rfl
      have e3 : (⟨#[10]⟩ : ByteArray).size = 1 := rfl
      have hz1 := congrArg ByteArray.size HTe.out
      simp only [app_size, e2] at hz1
      have hz2 := HS2.out
      have hz3 := HS3.out
      have hz4 := HLen.out
      have kk3 := no_big (show ins.size + 2 ≤ _ from by omega)
      have kb1 : (bs' ++ Lib.strCells ((ins ++ s) ++ ⟨#[10]⟩ : ByteArray)).length + t'.size ≤ 140737488355328 := by simp only [List.length_append, Lib.strCells_length, app_size, e3]; omega
      have kb2 : ((bs' ++ Lib.strCells ((ins ++ s) ++ ⟨#[10]⟩ : ByteArray)) ++ Lib.strCells t').length + (ins ++ ⟨#[125, 10]⟩ : ByteArray).size ≤ 140737488355328 := by simp only [List.length_append, Lib.strCells_length, app_size, e2, e3]; omega
      have HKb1 := Aside0.mk kb1
      have HKb2 := Aside0.mk kb2
      clear HKi h7 hk7 ht' hte e2 e3 hz1 hz2 hz3 hz4 kb1 kb2
      go_wp2_with fail
      (with_reducible refine (HLine.out _ (HG.out.below HBa.out)).mono ?_)
      rintro e w1 ⟨rfl, hb⟩
      have HB1 := Aside0.mk (below_step HBa.out hb)
      have HI1 := Aside0.mk (bld_below HIa.out hb)
      have HO1 := Aside0.mk (HOa.out.trans (kept_of_below hb))
      have HX1 := Aside0.mk (blk_below HXR.out hb)
      clear hb HBa HIa HOa HXR HLine y0 y1 y2 y3 y4 y5 y6 y7 y8 y9 y10 y11 y12
      go_wp2_with fail
      (with_reducible refine (WriteString_calls w0.heap.size b bs' _ _ HI1.out HKl.out (below_size HB1.out)).mono ?_)
      rintro e w2 ⟨rfl, h1, h2, h3⟩
      have HB2 := Aside0.mk (HB1.out.trans h2)
      have HI2 := Aside0.mk (show Lib.IsBuilderF 59 5 w0.heap.size b (bs' ++ Lib.strCells ((ins ++ s) ++ ⟨#[10]⟩ : ByteArray)) w2 from .inr h1)
      have HO2 := Aside0.mk (HO1.out.trans h3)
      have HX2 := Aside0.mk (kept_blk h3 HX1.out HNb.out)
      clear h1 h2 h3 HB1 HI1 HO1 HX1
      have hz := row_held (x := X) (v := .slice Ax X.f6.length cx) HX2.out
      go_split_ands
      go_wp2_with fail
      (with_reducible refine (HE.out Ax cx X.f6 _ _ t' _ HCX.out hlx HB2.out HI2.out HRk.out HKb1.out).mono ?_)
      rintro e w3 ⟨rfl, h1, h2, h3⟩
      have HB3 := Aside0.mk h2
      have HI3 := Aside0.mk h1
      have HO3 := Aside0.mk (HO2.out.trans h3)
      clear h1 h2 h3 HB2 HI2 HO2
      go_wp2_with fail
      (with_reducible refine (WriteString_calls w0.heap.size b _ _ _ HI3.out HKb2.out (below_size HB3.out)).mono ?_)
      rintro e w4 ⟨rfl, h1, h2, h3⟩
      have HB4 := Aside0.mk (HB3.out.trans h2)
      have HI4 := Aside0.mk (show Lib.IsBuilderF 59 5 w0.heap.size b (((bs' ++ Lib.strCells ((ins ++ s) ++ ⟨#[10]⟩ : ByteArray)) ++ Lib.strCells t') ++ Lib.strCells (ins ++ ⟨#[125, 10]⟩ : ByteArray)) w4 from .inr h1)
      have HO4 := Aside0.mk (HO3.out.trans h3)
      clear h1 h2 h3 HB3 HI3 HO3
      go_wp2_with fail
      go_roundg k1
      case measure => omega
      case rel =>
       refine ⟨i + 1, _, u, by first | rfl | (simp; done), ⟨by omega, HRe.out, ?_, HI4.out, HB4.out, HO4.out⟩⟩
       rw [← HEq.out, ← HOo.out, ← HTe.out]
       simp only [strCells_append, strCells_empty, List.append_nil, List.append_assoc]
    · have hb7 : (X.f0 == 7) = false := by simpa using h7
      have HK7 := Aside0.mk (show (⟨#[]⟩ : ByteArray) = t from by have := HKi.out; unfold kidsW at this; rw [if_neg h7] at this; exact Option.some.inj this)
      clear HKi h7
      go_wp2_with fail
      (with_reducible refine (HLine.out _ (HG.out.below HBa.out)).mono ?_)
      rintro e w1 ⟨rfl, hb⟩
      have HB1 := Aside0.mk (below_step HBa.out hb)
      have HI1 := Aside0.mk (bld_below HIa.out hb)
      have HO1 := Aside0.mk (HOa.out.trans (kept_of_below hb))
      have HX1 := Aside0.mk (blk_below HXR.out hb)
      clear hb HBa HIa HOa HXR HLine y0 y1 y2 y3 y4 y5 y6 y7 y8 y9 y10 y11 y12
      go_wp2_with fail
      (with_reducible refine (WriteString_calls w0.heap.size b bs' _ _ HI1.out HKl.out (below_size HB1.out)).mono ?_)
      rintro e w2 ⟨rfl, h1, h2, h3⟩
      have HB2 := Aside0.mk (HB1.out.trans h2)
      have HI2 := Aside0.mk (show Lib.IsBuilderF 59 5 w0.heap.size b (bs' ++ Lib.strCells ((ins ++ s) ++ ⟨#[10]⟩ : ByteArray)) w2 from .inr h1)
      have HO2 := Aside0.mk (HO1.out.trans h3)
      have HX2 := Aside0.mk (kept_blk h3 HX1.out HNb.out)
      clear h1 h2 h3 HB1 HI1 HO1 HX1
      have hz := row_held (x := X) (v := .slice Ax X.f6.length cx) HX2.out
      go_split_ands
      go_wp2_with fail
      go_roundg k1
      case measure => omega
      case rel =>
       refine ⟨i + 1, _, u, by first | rfl | (simp; done), ⟨by omega, HRe.out, ?_, HI2.out, HB2.out, HO2.out⟩⟩
       rw [← HEq.out, ← HOo.out, ← HK7.out]
       simp only [strCells_append, strCells_empty, List.append_nil, List.append_assoc]
theorem written_calls (w0 : World) (hG : Glob w0) (b : Nat) : ∀ k, WrC w0 b (writtenF k)
 | 0 => fun A c l ins bs out W _ _ _ _ h => by simp [writtenF] at h
 | k + 1 => written_step w0 hG b (writtenF k) ⟨written_calls w0 hG b k⟩
def parser_Format.f (k : Nat) (l0 : List S37) : Option ByteArray := (writtenF k ⟨#[]⟩ l0).bind fun s => if s.size ≤ 140737488355328 then some s else none
theorem parser_Format.calls (k : Nat) (A0 : Option Addr) (c0 : Nat) (l0 : List S37) (r : ByteArray) (w : World) (hr0 : Kd.C k37 w A0 l0.length l0) (hc0 : l0.length ≤ c0) (h : parser_Format.f k l0 = some r) (hG : Glob w) :
 Calls Tryz.prog 14 #[.slice A0 l0.length c0] w fun e w' => e = .returned (.string r) ∧ Below w.heap.size w w' := by
 obtain ⟨s, hs, h2⟩ := Option.bind_eq_some_iff.1 h
 split at h2
 · rename_i hsz
   obtain rfl := Option.some.inj h2
   have HS := Aside0.mk hs
   have HC := Aside0.mk hr0
   have HG := Aside0.mk hG
   have HZ := Aside0.mk hsz
   have HB := Aside0.mk (below_alloc (Below.refl w.heap.size w) (.cells #[.pointer none, .slice none 0 0] 59))
   have HI : Aside0 (Lib.IsBuilderF 59 5 w.heap.size w.heap.size [] (w.alloc (.cells #[.pointer none, .slice none 0 0] 59))) :=
    ⟨.inl ⟨Nat.le_refl _, .slice none 0 0, heap_alloc_new w _, World.ownsRowF_of (World.ownsRow_nil _ _ _ _), by simp [Value.ownBlock]⟩⟩
   clear h h2 hs hr0 hG hsz
   go_enter Tryz.func14, Tryz.ntmps14
   go_wp2_with fail
   (with_reducible refine (written_calls w HG.out w.heap.size k A0 c0 l0 _ [] s _ HC.out hc0 HB.out HI.out HS.out (by simpa using HZ.out)).mono ?_)
   rintro e w1 ⟨rfl, h1, h2, h3⟩
   have HI1 := Aside0.mk h1
   have HB1 := Aside0.mk h2
   clear h1 h2 h3
   go_wp2_with fail
   refine (Tryz.Builder_String_any_k w.heap.size w.heap.size s.data.toList _ HI1.out (below_size HB1.out)).mono ?_
   rintro e w2 ⟨rfl, h1, h2, h3⟩
   have HB2 := Aside0.mk (HB1.out.trans h2)
   clear h1 h2 h3
   go_wp2_with fail
   go_ret
   exact ⟨rfl, HB2.out⟩
 · simp at h2
section
attribute [local go_sem high] eqA35
theorem set13c {W : World} {b : Nat} {y0 y1 y2 y3 y4 y5 y6 y7 y8 y9 y10 y11 y12 : Value} (h : W.heap[b]? = some (.cells #[.int .i64 0, .int .i64 0, .string (⟨#[]⟩ : ByteArray), .string (⟨#[]⟩ : ByteArray), .int .i64 0, .int .i64 0, .int .i64 0, .int .i64 0, .int .i64 0, .int .i64 0, .int .i64 0, .slice none 0 0, .int .i64 0] 37 (0, 0))) :
 (((((((((((((W.setCell ⟨b, 0, none⟩ y0).setCell ⟨b, 1, none⟩ y1).setCell ⟨b, 2, none⟩ y2).setCell ⟨b, 3, none⟩ y3).setCell ⟨b, 4, none⟩ y4).setCell ⟨b, 5, none⟩ y5).setCell ⟨b, 6, none⟩ y6).setCell ⟨b, 7, none⟩ y7).setCell ⟨b, 8, none⟩ y8).setCell ⟨b, 9, none⟩ y9).setCell ⟨b, 10, none⟩ y10).setCell ⟨b, 11, none⟩ y11).setCell ⟨b, 12, none⟩ y12).heap[b]? = some (.cells #[y0, y1, y2, y3, y4, y5, y6, y7, y8, y9, y10, y11, y12] 37 (0, 0)) := by
 have h : (W.setCell ⟨b, 0, none⟩ y0).heap[b]? = some (.cells #[y0, .int .i64 0, .string (⟨#[]⟩ : ByteArray), .string (⟨#[]⟩ : ByteArray), .int .i64 0, .int .i64 0, .int .i64 0, .int .i64 0, .int .i64 0, .int .i64 0, .int .i64 0, .slice none 0 0, .int .i64 0] 37 (0, 0)) := blk_put h 0 y0 rfl
 have h : ((W.setCell ⟨b, 0, none⟩ y0).setCell ⟨b, 1, none⟩ y1).heap[b]? = some (.cells #[y0, y1, .string (⟨#[]⟩ : ByteArray), .string (⟨#[]⟩ : ByteArray), .int .i64 0, .int .i64 0, .int .i64 0, .int .i64 0, .int .i64 0, .int .i64 0, .int .i64 0, .slice none 0 0, .int .i64 0] 37 (0, 0)) := blk_put h 1 y1 rfl
 have h : (((W.setCell ⟨b, 0, none⟩ y0).setCell ⟨b, 1, none⟩ y1).setCell ⟨b, 2, none⟩ y2).heap[b]? = some (.cells #[y0, y1, y2, .string (⟨#[]⟩ : ByteArray), .int .i64 0, .int .i64 0, .int .i64 0, .int .i64 0, .int .i64 0, .int .i64 0, .int .i64 0, .slice none 0 0, .int .i64 0] 37 (0, 0)) := blk_put h 2 y2 rfl
 have h : ((((W.setCell ⟨b, 0, none⟩ y0).setCell ⟨b, 1, none⟩ y1).setCell ⟨b, 2, none⟩ y2).setCell ⟨b, 3, none⟩ y3).heap[b]? = some (.cells #[y0, y1, y2, y3, .int .i64 0, .int .i64 0, .int .i64 0, .int .i64 0, .int .i64 0, .int .i64 0, .int .i64 0, .slice none 0 0, .int .i64 0] 37 (0, 0)) := blk_put h 3 y3 rfl
 have h : (((((W.setCell ⟨b, 0, none⟩ y0).setCell ⟨b, 1, none⟩ y1).setCell ⟨b, 2, none⟩ y2).setCell ⟨b, 3, none⟩ y3).setCell ⟨b, 4, none⟩ y4).heap[b]? = some (.cells #[y0, y1, y2, y3, y4, .int .i64 0, .int .i64 0, .int .i64 0, .int .i64 0, .int .i64 0, .int .i64 0, .slice none 0 0, .int .i64 0] 37 (0, 0)) := blk_put h 4 y4 rfl
 have h : ((((((W.setCell ⟨b, 0, none⟩ y0).setCell ⟨b, 1, none⟩ y1).setCell ⟨b, 2, none⟩ y2).setCell ⟨b, 3, none⟩ y3).setCell ⟨b, 4, none⟩ y4).setCell ⟨b, 5, none⟩ y5).heap[b]? = some (.cells #[y0, y1, y2, y3, y4, y5, .int .i64 0, .int .i64 0, .int .i64 0, .int .i64 0, .int .i64 0, .slice none 0 0, .int .i64 0] 37 (0, 0)) := blk_put h 5 y5 rfl
 have h : (((((((W.setCell ⟨b, 0, none⟩ y0).setCell ⟨b, 1, none⟩ y1).setCell ⟨b, 2, none⟩ y2).setCell ⟨b, 3, none⟩ y3).setCell ⟨b, 4, none⟩ y4).setCell ⟨b, 5, none⟩ y5).setCell ⟨b, 6, none⟩ y6).heap[b]? = some (.cells #[y0, y1, y2, y3, y4, y5, y6, .int .i64 0, .int .i64 0, .int .i64 0, .int .i64 0, .slice none 0 0, .int .i64 0] 37 (0, 0)) := blk_put h 6 y6 rfl
 have h : ((((((((W.setCell ⟨b, 0, none⟩ y0).setCell ⟨b, 1, none⟩ y1).setCell ⟨b, 2, none⟩ y2).setCell ⟨b, 3, none⟩ y3).setCell ⟨b, 4, none⟩ y4).setCell ⟨b, 5, none⟩ y5).setCell ⟨b, 6, none⟩ y6).setCell ⟨b, 7, none⟩ y7).heap[b]? = some (.cells #[y0, y1, y2, y3, y4, y5, y6, y7, .int .i64 0, .int .i64 0, .int .i64 0, .slice none 0 0, .int .i64 0] 37 (0, 0)) := blk_put h 7 y7 rfl
 have h : (((((((((W.setCell ⟨b, 0, none⟩ y0).setCell ⟨b, 1, none⟩ y1).setCell ⟨b, 2, none⟩ y2).setCell ⟨b, 3, none⟩ y3).setCell ⟨b, 4, none⟩ y4).setCell ⟨b, 5, none⟩ y5).setCell ⟨b, 6, none⟩ y6).setCell ⟨b, 7, none⟩ y7).setCell ⟨b, 8, none⟩ y8).heap[b]? = some (.cells #[y0, y1, y2, y3, y4, y5, y6, y7, y8, .int .i64 0, .int .i64 0, .slice none 0 0, .int .i64 0] 37 (0, 0)) := blk_put h 8 y8 rfl
 have h : ((((((((((W.setCell ⟨b, 0, none⟩ y0).setCell ⟨b, 1, none⟩ y1).setCell ⟨b, 2, none⟩ y2).setCell ⟨b, 3, none⟩ y3).setCell ⟨b, 4, none⟩ y4).setCell ⟨b, 5, none⟩ y5).setCell ⟨b, 6, none⟩ y6).setCell ⟨b, 7, none⟩ y7).setCell ⟨b, 8, none⟩ y8).setCell ⟨b, 9, none⟩ y9).heap[b]? = some (.cells #[y0, y1, y2, y3, y4, y5, y6, y7, y8, y9, .int .i64 0, .slice none 0 0, .int .i64 0] 37 (0, 0)) := blk_put h 9 y9 rfl
 have h : (((((((((((W.setCell ⟨b, 0, none⟩ y0).setCell ⟨b, 1, none⟩ y1).setCell ⟨b, 2, none⟩ y2).setCell ⟨b, 3, none⟩ y3).setCell ⟨b, 4, none⟩ y4).setCell ⟨b, 5, none⟩ y5).setCell ⟨b, 6, none⟩ y6).setCell ⟨b, 7, none⟩ y7).setCell ⟨b, 8, none⟩ y8).setCell ⟨b, 9, none⟩ y9).setCell ⟨b, 10, none⟩ y10).heap[b]? = some (.cells #[y0, y1, y2, y3, y4, y5, y6, y7, y8, y9, y10, .slice none 0 0, .int .i64 0] 37 (0, 0)) := blk_put h 10 y10 rfl
 have h : ((((((((((((W.setCell ⟨b, 0, none⟩ y0).setCell ⟨b, 1, none⟩ y1).setCell ⟨b, 2, none⟩ y2).setCell ⟨b, 3, none⟩ y3).setCell ⟨b, 4, none⟩ y4).setCell ⟨b, 5, none⟩ y5).setCell ⟨b, 6, none⟩ y6).setCell ⟨b, 7, none⟩ y7).setCell ⟨b, 8, none⟩ y8).setCell ⟨b, 9, none⟩ y9).setCell ⟨b, 10, none⟩ y10).setCell ⟨b, 11, none⟩ y11).heap[b]? = some (.cells #[y0, y1, y2, y3, y4, y5, y6, y7, y8, y9, y10, y11, .int .i64 0] 37 (0, 0)) := blk_put h 11 y11 rfl
 have h : (((((((((((((W.setCell ⟨b, 0, none⟩ y0).setCell ⟨b, 1, none⟩ y1).setCell ⟨b, 2, none⟩ y2).setCell ⟨b, 3, none⟩ y3).setCell ⟨b, 4, none⟩ y4).setCell ⟨b, 5, none⟩ y5).setCell ⟨b, 6, none⟩ y6).setCell ⟨b, 7, none⟩ y7).setCell ⟨b, 8, none⟩ y8).setCell ⟨b, 9, none⟩ y9).setCell ⟨b, 10, none⟩ y10).setCell ⟨b, 11, none⟩ y11).setCell ⟨b, 12, none⟩ y12).heap[b]? = some (.cells #[y0, y1, y2, y3, y4, y5, y6, y7, y8, y9, y10, y11, y12] 37 (0, 0)) := blk_put h 12 y12 rfl
 exact h
mutual
def parser_count.l0 : Nat → Int → Int → List (S37) → Int → Int → Option (Int)
 | 0, _, _, _, _, _ => none
 | k + 1, x1, x5, x8, x9, x10 => if x10 < x9 then (if 0 ≤ x10 then (if x10 < (x8.length : Int) then (if (wrap64 (x5 + 1)) > 64 then (parser_count.j1 k x1 (wrap64 (x5 + 1)) x8 x9 x10 true ((rd_T37 x8 x10).f0) ((rd_T37 x8 x10).f1) ((rd_T37 x8 x10).f2) ((rd_T37 x8 x10).f3) ((rd_T37 x8 x10).f4) ((rd_T37 x8 x10).f5.f0.f0) ((rd_T37 x8 x10).f5.f0.f1) ((rd_T37 x8 x10).f5.f0.f2) ((rd_T37 x8 x10).f5.f1.f0) ((rd_T37 x8 x10).f5.f1.f1) ((rd_T37 x8 x10).f5.f1.f2) ((rd_T37 x8 x10).f6) ((rd_T37 x8 x10).f7)) else (if ((rd_T37 x8 x10).f0) = 7 then (if x1 = 4 then (parser_count.j1 k x1 (wrap64 (x5 + 1)) x8 x9 x10 true ((rd_T37 x8 x10).f0) ((rd_T37 x8 x10).f1) ((rd_T37 x8 x10).f2) ((rd_T37 x8 x10).f3) ((rd_T37 x8 x10).f4) ((rd_T37 x8 x10).f5.f0.f0) ((rd_T37 x8 x10).f5.f0.f1) ((rd_T37 x8 x10).f5.f0.f2) ((rd_T37 x8 x10).f5.f1.f0) ((rd_T37 x8 x10).f5.f1.f1) ((rd_T37 x8 x10).f5.f1.f2) ((rd_T37 x8 x10).f6) ((rd_T37 x8 x10).f7)) else ((parser_plain.f k ((rd_T37 x8 x10).f0) ((rd_T37 x8 x10).f1) ((rd_T37 x8 x10).f2) ((rd_T37 x8 x10).f3) ((rd_T37 x8 x10).f4) ((rd_T37 x8 x10).f5.f0.f0) ((rd_T37 x8 x10).f5.f0.f1) ((rd_T37 x8 x10).f5.f0.f2) ((rd_T37 x8 x10).f5.f1.f0) ((rd_T37 x8 x10).f5.f1.f1) ((rd_T37 x8 x10).f5.f1.f2) ((rd_T37 x8 x10).f6) ((rd_T37 x8 x10).f7)).bind fun t128 => (parser_count.j1 k x1 (wrap64 (x5 + 1)) x8 x9 x10 (!t128) ((rd_T37 x8 x10).f0) ((rd_T37 x8 x10).f1) ((rd_T37 x8 x10).f2) ((rd_T37 x8 x10).f3) ((rd_T37 x8 x10).f4) ((rd_T37 x8 x10).f5.f0.f0) ((rd_T37 x8 x10).f5.f0.f1) ((rd_T37 x8 x10).f5.f0.f2) ((rd_T37 x8 x10).f5.f1.f0) ((rd_T37 x8 x10).f5.f1.f1) ((rd_T37 x8 x10).f5.f1.f2) ((rd_T37 x8 x10).f6) ((rd_T37 x8 x10).f7)))) else ((parser_plain.f k ((rd_T37 x8 x10).f0) ((rd_T37 x8 x10).f1) ((rd_T37 x8 x10).f2) ((rd_T37 x8 x10).f3) ((rd_T37 x8 x10).f4) ((rd_T37 x8 x10).f5.f0.f0) ((rd_T37 x8 x10).f5.f0.f1) ((rd_T37 x8 x10).f5.f0.f2) ((rd_T37 x8 x10).f5.f1.f0) ((rd_T37 x8 x10).f5.f1.f1) ((rd_T37 x8 x10).f5.f1.f2) ((rd_T37 x8 x10).f6) ((rd_T37 x8 x10).f7)).bind fun t129 => (parser_count.j1 k x1 (wrap64 (x5 + 1)) x8 x9 x10 (!t129) ((rd_T37 x8 x10).f0) ((rd_T37 x8 x10).f1) ((rd_T37 x8 x10).f2) ((rd_T37 x8 x10).f3) ((rd_T37 x8 x10).f4) ((rd_T37 x8 x10).f5.f0.f0) ((rd_T37 x8 x10).f5.f0.f1) ((rd_T37 x8 x10).f5.f0.f2) ((rd_T37 x8 x10).f5.f1.f0) ((rd_T37 x8 x10).f5.f1.f1) ((rd_T37 x8 x10).f5.f1.f2) ((rd_T37 x8 x10).f6) ((rd_T37 x8 x10).f7))))) else (none)) else (none)) else (some x5)
def parser_count.j1 : Nat → Int → Int → List (S37) → Int → Int → Bool → Int → Int → ByteArray → ByteArray → Int → Int → Int → Int → Int → Int → Int → List (S37) → Int → Option (Int)
 | 0, _, _, _, _, _, _, _, _, _, _, _, _, _, _, _, _, _, _, _ => none
 | k + 1, x1, x5, x8, x9, x10, x31, x128000, x128001, x128002, x128003, x128004, x128005, x128006, x128007, x128008, x128009, x128010, x128011, x128012 => if x31 = true then (some 65) else (if x128000 = 7 then ((parser_count.f k x128011 (wrap64 (x1 + 1))).bind fun t130 => (parser_count.l0 k x1 (wrap64 (x5 + t130)) x8 x9 (wrap64 (x10 + 1)))) else (parser_count.l0 k x1 x5 x8 x9 (wrap64 (x10 + 1))))
def parser_count.f : Nat → List (S37) → Int → Option (Int)
 | 0, _, _ => none
 | k + 1, l0, a1 => parser_count.l0 k a1 0 l0 (l0.length : Int) 0
end
theorem parser_count.mono_l : ∀ k, (∀ y0 y1, LeO (parser_count.f k y0 y1) (parser_count.f (k + 1) y0 y1)) ∧ (∀ y0 y1 y2 y3 y4, LeO (parser_count.l0 k y0 y1 y2 y3 y4) (parser_count.l0 (k + 1) y0 y1 y2 y3 y4)) ∧ (∀ y0 y1 y2 y3 y4 y5 y6 y7 y8 y9 y10 y11 y12 y13 y14 y15 y16 y17 y18, LeO (parser_count.j1 k y0 y1 y2 y3 y4 y5 y6 y7 y8 y9 y10 y11 y12 y13 y14 y15 y16 y17 y18) (parser_count.j1 (k + 1) y0 y1 y2 y3 y4 y5 y6 y7 y8 y9 y10 y11 y12 y13 y14 y15 y16 y17 y18))
 | 0 => ⟨fun _ _ r h => by simp [parser_count.f] at h, fun _ _ _ _ _ r h => by simp [parser_count.l0] at h, fun _ _ _ _ _ _ _ _ _ _ _ _ _ _ _ _ _ _ _ r h => by simp [parser_count.j1] at h⟩
 | k + 1 => by
  obtain ⟨ih0, ih1, ih2⟩ := parser_count.mono_l k
  refine ⟨?_, ?_, ?_⟩
  · intro y0 y1
    unfold parser_count.f
    repeat' first
    | (with_reducible exact ih0 _ _)
    | (with_reducible exact ih1 _ _ _ _ _)
    | (with_reducible exact ih2 _ _ _ _ _ _ _ _ _ _ _ _ _ _ _ _ _ _ _)
    | (with_reducible exact parser_plain.mono _ _ _ _ _ _ _ _ _ _ _ _ _ _)
    | (with_reducible exact LeO.refl _)
    | (with_reducible exact LeO.none _)
    | (with_reducible refine LeO.ite ?_ ?_)
    | (with_reducible refine LeO.bind ?_ (fun _ => ?_))
    | exact ih0 _ _
    | exact ih1 _ _ _ _ _
    | exact ih2 _ _ _ _ _ _ _ _ _ _ _ _ _ _ _ _ _ _ _
    | exact parser_plain.mono _ _ _ _ _ _ _ _ _ _ _ _ _ _
    | exact LeO.none _
    | refine LeO.ite ?_ ?_
    | refine LeO.bind ?_ (fun _ => ?_)
  · intro y0 y1 y2 y3 y4
    unfold parser_count.l0
    repeat' first
    | (with_reducible exact ih0 _ _)
    | (with_reducible exact ih1 _ _ _ _ _)
    | (with_reducible exact ih2 _ _ _ _ _ _ _ _ _ _ _ _ _ _ _ _ _ _ _)
    | (with_reducible exact parser_plain.mono _ _ _ _ _ _ _ _ _ _ _ _ _ _)
    | (with_reducible exact LeO.refl _)
    | (with_reducible exact LeO.none _)
    | (with_reducible refine LeO.ite ?_ ?_)
    | (with_reducible refine LeO.bind ?_ (fun _ => ?_))
    | exact ih0 _ _
    | exact ih1 _ _ _ _ _
    | exact ih2 _ _ _ _ _ _ _ _ _ _ _ _ _ _ _ _ _ _ _
    | exact parser_plain.mono _ _ _ _ _ _ _ _ _ _ _ _ _ _
    | exact LeO.none _
    | refine LeO.ite ?_ ?_
    | refine LeO.bind ?_ (fun _ => ?_)
  · intro y0 y1 y2 y3 y4 y5 y6 y7 y8 y9 y10 y11 y12 y13 y14 y15 y16 y17 y18
    unfold parser_count.j1
    repeat' first
    | (with_reducible exact ih0 _ _)
    | (with_reducible exact ih1 _ _ _ _ _)
    | (with_reducible exact ih2 _ _ _ _ _ _ _ _ _ _ _ _ _ _ _ _ _ _ _)
    | (with_reducible exact parser_plain.mono _ _ _ _ _ _ _ _ _ _ _ _ _ _)
    | (with_reducible exact LeO.refl _)
    | (with_reducible exact LeO.none _)
    | (with_reducible refine LeO.ite ?_ ?_)
    | (with_reducible refine LeO.bind ?_ (fun _ => ?_))
    | exact ih0 _ _
    | exact ih1 _ _ _ _ _
    | exact ih2 _ _ _ _ _ _ _ _ _ _ _ _ _ _ _ _ _ _ _
    | exact parser_plain.mono _ _ _ _ _ _ _ _ _ _ _ _ _ _
    | exact LeO.none _
    | refine LeO.ite ?_ ?_
    | refine LeO.bind ?_ (fun _ => ?_)
theorem parser_count.calls (k : Nat) : ∀ (A0 : Option Addr) (c0 : Nat) (l0 : List (S37)) (a1 : Int) (r : Int) (w : World) (hr0 : Kd.C k37 w A0 l0.length l0) (hc0 : l0.length ≤ c0) (h : parser_count.f k l0 a1 = some r) (hG : Glob w),
 Calls Tryz.prog 21 #[.slice A0 l0.length c0, .int .i64 a1] w fun e w' => e = .returned (.int .i64 r) ∧ Below w.heap.size w w' := by
 induction k using Nat.strongRecOn with
 | _ k ih =>
 intro A0 c0 l0 a1 r w hr0 hc0 h hG
 have HGL := Aside0.mk hG
 clear hG
 cases k with
 | zero => exact absurd h (by simp [parser_count.f])
 | succ k =>
 simp only [parser_count.f] at h
 have hu55 := Tryz.underlying37
 have HR0 := Aside0.mk hr0
 have HC0 := Aside0.mk hc0
 clear hr0 hc0
 have HB := Aside0.mk (Below.refl w.heap.size w)
 have H : (parser_count.l0 k a1 0 l0 (l0.length : Int) 0) = some r := h
 clear h
 have H' := Aside0.mk H
 clear H
 go_enter Tryz.func21, Tryz.ntmps21
 go_wp2
 go_loopg [5, 10] k (fun kq v5 v10 w' => ∃ (x5_1 : Int) (x10_1 : Int), v5 = .int .i64 x5_1 ∧ v10 = .int .i64 x10_1 ∧ Aside0 (parser_count.l0 kq a1 x5_1 l0 (l0.length : Int) x10_1 = some r) ∧ Aside0 (kq ≤ k) ∧ Aside0 (Below w.heap.size w w'))
 case atStart => exact ⟨(0), (0), (by first | rfl | (simp; done) | (simp [*]; done)), (by first | rfl | (simp; done) | (simp [*]; done)), H', ⟨Nat.le_refl _⟩, ⟨by exact up_ HB.out⟩⟩
 case round =>
  clear H'
  try clear c2
  try clear p2
  obtain ⟨x5_1, x10_1, rfl, rfl, HA, HK1, HB⟩ := hrel
  cases gk with
  | zero => exact absurd HA.out (by simp [parser_count.l0])
  | succ k1 =>
   have H := HA.out
   clear HA
   simp only [parser_count.l0] at H
   by_cases c3 : x10_1 < (l0.length : Int)
   · rw [if_pos c3] at H
     have c3b0 : decide (x10_1 < (l0.length : Int)) = true := decide_eq_true c3
     clear c3
     by_cases c4 : 0 ≤ x10_1
     · rw [if_pos c4] at H
       have c4b0 : decide (0 ≤ x10_1) = true := decide_eq_true c4
       clear c4
       by_cases c5 : x10_1 < (l0.length : Int)
       · rw [if_pos c5] at H
         have c5b0 : decide (x10_1 < (l0.length : Int)) = true := decide_eq_true c5
         clear c5
         have HC6 := Aside0.mk H
         clear H
         have p126 : 0 ≤ (x10_1 : Int) := of_decide_eq_true (by first | (with_reducible assumption) | assumption)
         have q126 : x10_1 < (l0.length : Int) := of_decide_eq_true (by first | (with_reducible assumption) | assumption)
         obtain ⟨ad126, A126_11, c126_11, e126, hx126_0, hx126_1, hx126_2, hx126_3, hx126_4, hx126_5, hx126_6, hx126_7, hx126_8, hx126_9, hx126_10, hx126_11, hx126_12, hl126_11, hi126_11⟩ := at_T37 HR0.out x10_1 p126 q126
         cases e126
         replace hx126_0 := (HB.out.cell (World.block_lt_of_cell? w _ hx126_0)).trans hx126_0
         replace hx126_1 := (HB.out.cell (World.block_lt_of_cell? w _ hx126_1)).trans hx126_1
         replace hx126_2 := (HB.out.cell (World.block_lt_of_cell? w _ hx126_2)).trans hx126_2
         replace hx126_3 := (HB.out.cell (World.block_lt_of_cell? w _ hx126_3)).trans hx126_3
         replace hx126_4 := (HB.out.cell (World.block_lt_of_cell? w _ hx126_4)).trans hx126_4
         replace hx126_5 := (HB.out.cell (World.block_lt_of_cell? w _ hx126_5)).trans hx126_5
         replace hx126_6 := (HB.out.cell (World.block_lt_of_cell? w _ hx126_6)).trans hx126_6
         replace hx126_7 := (HB.out.cell (World.block_lt_of_cell? w _ hx126_7)).trans hx126_7
         replace hx126_8 := (HB.out.cell (World.block_lt_of_cell? w _ hx126_8)).trans hx126_8
         replace hx126_9 := (HB.out.cell (World.block_lt_of_cell? w _ hx126_9)).trans hx126_9
         replace hx126_10 := (HB.out.cell (World.block_lt_of_cell? w _ hx126_10)).trans hx126_10
         replace hx126_11 := (HB.out.cell (World.block_lt_of_cell? w _ hx126_11)).trans hx126_11
         replace hx126_12 := (HB.out.cell (World.block_lt_of_cell? w _ hx126_12)).trans hx126_12
         have HR126_11 := Aside0.mk hi126_11
         have HC126_11 := Aside0.mk hl126_11
         clear hi126_11 hl126_11
         replace p126 := eq_true p126
         replace q126 := eq_true q126
         go_upto_region 6 with (first | ((with_reducible refine gate_dst (N := 7) rfl ?_); refine box_event ?hg (N := 7) ?hd (cs := #[.int .i64 0, .int .i64 0, .string (⟨#[]⟩ : ByteArray), .string (⟨#[]⟩ : ByteArray), .int .i64 0, .int .i64 0, .int .i64 0, .int .i64 0, .int .i64 0, .int .i64 0, .int .i64 0, .slice none 0 0, .int .i64 0]) (t := 37) ?hr ?_; (case hd => rfl); (case hg => rfl); (case hr => first | (go_simp; done) | (go_simp; rfl)); intro gb127 hg w7 hbox hb; have n0_ := Aside0.mk (below_step (by exact up_ HB.out) hb); have n1_ := Aside0.mk (hbox); have n2_ := Aside0.mk ((by rw [hg]; exact (below_size (by exact up_ HB.out)) : w.heap.size ≤ gb127)); have n3_ := Aside0.mk ((by rw [hg]; exact (below_size (by exact up_ HB.out)) : w.heap.size ≤ gb127)); clear HB; have HB := n0_; have BK127 := n1_; have GW127 := n2_; have GE127 := n3_; clear n0_ n1_ n2_ n3_; clear hb hbox hg; have hcz8_0 : w7.cell? ⟨gb127, 0, none⟩ = some (.int .i64 0) := (blk_cell BK127.out 0).trans rfl; have hcz8_1 : w7.cell? ⟨gb127, 1, none⟩ = some (.int .i64 0) := (blk_cell BK127.out 1).trans rfl; have hcz8_2 : w7.cell? ⟨gb127, 2, none⟩ = some (.string (⟨#[]⟩ : ByteArray)) := (blk_cell BK127.out 2).trans rfl; have hcz8_3 : w7.cell? ⟨gb127, 3, none⟩ = some (.string (⟨#[]⟩ : ByteArray)) := (blk_cell BK127.out 3).trans rfl; have hcz8_4 : w7.cell? ⟨gb127, 4, none⟩ = some (.int .i64 0) := (blk_cell BK127.out 4).trans rfl; have hcz8_5 : w7.cell? ⟨gb127, 5, none⟩ = some (.int .i64 0) := (blk_cell BK127.out 5).trans rfl; have hcz8_6 : w7.cell? ⟨gb127, 6, none⟩ = some (.int .i64 0) := (blk_cell BK127.out 6).trans rfl; have hcz8_7 : w7.cell? ⟨gb127, 7, none⟩ = some (.int .i64 0) := (blk_cell BK127.out 7).trans rfl; have hcz8_8 : w7.cell? ⟨gb127, 8, none⟩ = some (.int .i64 0) := (blk_cell BK127.out 8).trans rfl; have hcz8_9 : w7.cell? ⟨gb127, 9, none⟩ = some (.int .i64 0) := (blk_cell BK127.out 9).trans rfl; have hcz8_10 : w7.cell? ⟨gb127, 10, none⟩ = some (.int .i64 0) := (blk_cell BK127.out 10).trans rfl; have hcz8_11 : w7.cell? ⟨gb127, 11, none⟩ = some (.slice none 0 0) := (blk_cell BK127.out 11).trans rfl; have hcz8_12 : w7.cell? ⟨gb127, 12, none⟩ = some (.int .i64 0) := (blk_cell BK127.out 12).trans rfl; have hfz8_0 := blk_frozen BK127.out 0; have hfz8_1 := blk_frozen BK127.out 1; have hfz8_2 := blk_frozen BK127.out 2; have hfz8_3 := blk_frozen BK127.out 3; have hfz8_4 := blk_frozen BK127.out 4; have hfz8_5 := blk_frozen BK127.out 5; have hfz8_6 := blk_frozen BK127.out 6; have hfz8_7 := blk_frozen BK127.out 7; have hfz8_8 := blk_frozen BK127.out 8; have hfz8_9 := blk_frozen BK127.out 9; have hfz8_10 := blk_frozen BK127.out 10; have hfz8_11 := blk_frozen BK127.out 11; have hfz8_12 := blk_frozen BK127.out 12))
         (try simp only [Act.put, List.setIfInBounds_toArray, List.set_cons_zero, List.set_cons_succ])
         go_cut [31] (fun v31 wc => ∃ (kq : Nat) (x31_5 : Bool), v31 = .bool x31_5 ∧ Aside0 (parser_count.j1 kq a1 (wrap64 (x5_1 + 1)) l0 (l0.length : Int) x10_1 x31_5 ((rd_T37 l0 x10_1).f0) ((rd_T37 l0 x10_1).f1) ((rd_T37 l0 x10_1).f2) ((rd_T37 l0 x10_1).f3) ((rd_T37 l0 x10_1).f4) ((rd_T37 l0 x10_1).f5.f0.f0) ((rd_T37 l0 x10_1).f5.f0.f1) ((rd_T37 l0 x10_1).f5.f0.f2) ((rd_T37 l0 x10_1).f5.f1.f0) ((rd_T37 l0 x10_1).f5.f1.f1) ((rd_T37 l0 x10_1).f5.f1.f2) ((rd_T37 l0 x10_1).f6) ((rd_T37 l0 x10_1).f7) = some r) ∧ Aside0 (kq ≤ k1) ∧ Aside0 (wc.heap[gb127]? = some (.cells #[.int .i64 ((rd_T37 l0 x10_1).f0), .int .i64 ((rd_T37 l0 x10_1).f1), .string ((rd_T37 l0 x10_1).f2), .string ((rd_T37 l0 x10_1).f3), .int .i64 ((rd_T37 l0 x10_1).f4), .int .i64 ((rd_T37 l0 x10_1).f5.f0.f0), .int .i64 ((rd_T37 l0 x10_1).f5.f0.f1), .int .i64 ((rd_T37 l0 x10_1).f5.f0.f2), .int .i64 ((rd_T37 l0 x10_1).f5.f1.f0), .int .i64 ((rd_T37 l0 x10_1).f5.f1.f1), .int .i64 ((rd_T37 l0 x10_1).f5.f1.f2), (.slice A126_11 ((rd_T37 l0 x10_1).f6).length c126_11), .int .i64 ((rd_T37 l0 x10_1).f7)] 37 (0, 0))) ∧ Aside0 (Below w.heap.size w wc))
         case first =>
          have H := HC6.out
          clear HC6
          by_cases c9 : (wrap64 (x5_1 + 1)) > 64
          · rw [if_pos c9] at H
            have c9b0 : decide (64 < (wrap64 (x5_1 + 1))) = true := decide_eq_true c9
            clear c9
            (first | rw [c9b0] | (simp only [i64_w, i32_w]; rw [c9b0]) | skip)
            have H' := Aside0.mk H
            clear H
            go_wp2
            go_meet
            case rel => exact ⟨_, (true), (by first | rfl | (simp; done) | (simp [*]; done)), H', ⟨by have := HK1.out; first | omega | exact Nat.le_refl _⟩, ⟨by (with_reducible repeat (first | refine blk_drewN ?_ _ | refine blk_drew ?_ | refine blk_alloc ?_ _)); refine set13c ?_; exact ub_ BK127.out⟩, ⟨by repeat (with_reducible first | exact HB.out | apply below_alloc | apply pw_below_drewN | apply below_drew1 | refine below_set ?_ GE127.out)⟩⟩
          · rw [if_neg c9] at H
            have c9b0 : decide (64 < (wrap64 (x5_1 + 1))) = false := decide_eq_false c9
            clear c9
            (first | rw [c9b0] | (simp only [i64_w, i32_w]; rw [c9b0]) | skip)
            by_cases c10 : ((rd_T37 l0 x10_1).f0) = 7
            · rw [if_pos c10] at H
              have c10b0 : (((rd_T37 l0 x10_1).f0) == 7) = true := beq_iff_eq.mpr c10
              have c10b1 : (((rd_T37 l0 x10_1).f0) != 7) = false := bne_eq_false_iff_eq.mpr c10
              clear c10
              by_cases c11 : a1 = 4
              · rw [if_pos c11] at H
                have c11b0 : (a1 == 4) = true := beq_iff_eq.mpr c11
                have c11b1 : (a1 != 4) = false := bne_eq_false_iff_eq.mpr c11
                clear c11
                have H' := Aside0.mk H
                clear H
                have hcz12_0 : w7.cell? ⟨gb127, 0, none⟩ = some (.int .i64 0) := (blk_cell BK127.out 0).trans rfl
                have hcz12_1 : w7.cell? ⟨gb127, 1, none⟩ = some (.int .i64 0) := (blk_cell BK127.out 1).trans rfl
                have hcz12_2 : w7.cell? ⟨gb127, 2, none⟩ = some (.string (⟨#[]⟩ : ByteArray)) := (blk_cell BK127.out 2).trans rfl
                have hcz12_3 : w7.cell? ⟨gb127, 3, none⟩ = some (.string (⟨#[]⟩ : ByteArray)) := (blk_cell BK127.out 3).trans rfl
                have hcz12_4 : w7.cell? ⟨gb127, 4, none⟩ = some (.int .i64 0) := (blk_cell BK127.out 4).trans rfl
                have hcz12_5 : w7.cell? ⟨gb127, 5, none⟩ = some (.int .i64 0) := (blk_cell BK127.out 5).trans rfl
                have hcz12_6 : w7.cell? ⟨gb127, 6, none⟩ = some (.int .i64 0) := (blk_cell BK127.out 6).trans rfl
                have hcz12_7 : w7.cell? ⟨gb127, 7, none⟩ = some (.int .i64 0) := (blk_cell BK127.out 7).trans rfl
                have hcz12_8 : w7.cell? ⟨gb127, 8, none⟩ = some (.int .i64 0) := (blk_cell BK127.out 8).trans rfl
                have hcz12_9 : w7.cell? ⟨gb127, 9, none⟩ = some (.int .i64 0) := (blk_cell BK127.out 9).trans rfl
                have hcz12_10 : w7.cell? ⟨gb127, 10, none⟩ = some (.int .i64 0) := (blk_cell BK127.out 10).trans rfl
                have hcz12_11 : w7.cell? ⟨gb127, 11, none⟩ = some (.slice none 0 0) := (blk_cell BK127.out 11).trans rfl
                have hcz12_12 : w7.cell? ⟨gb127, 12, none⟩ = some (.int .i64 0) := (blk_cell BK127.out 12).trans rfl
                have hfz12_0 := blk_frozen BK127.out 0
                have hfz12_1 := blk_frozen BK127.out 1
                have hfz12_2 := blk_frozen BK127.out 2
                have hfz12_3 := blk_frozen BK127.out 3
                have hfz12_4 := blk_frozen BK127.out 4
                have hfz12_5 := blk_frozen BK127.out 5
                have hfz12_6 := blk_frozen BK127.out 6
                have hfz12_7 := blk_frozen BK127.out 7
                have hfz12_8 := blk_frozen BK127.out 8
                have hfz12_9 := blk_frozen BK127.out 9
                have hfz12_10 := blk_frozen BK127.out 10
                have hfz12_11 := blk_frozen BK127.out 11
                have hfz12_12 := blk_frozen BK127.out 12
                go_wp2
                go_meet
                case rel => exact ⟨_, (true), (by first | rfl | (simp; done) | (simp [*]; done)), H', ⟨by have := HK1.out; first | omega | exact Nat.le_refl _⟩, ⟨by (with_reducible repeat (first | refine blk_drewN ?_ _ | refine blk_drew ?_ | refine blk_alloc ?_ _)); refine set13c ?_; exact ub_ BK127.out⟩, ⟨by repeat (with_reducible first | exact HB.out | apply below_alloc | apply pw_below_drewN | apply below_drew1 | refine below_set ?_ GE127.out)⟩⟩
              · rw [if_neg c11] at H
                have c11b0 : (a1 == 4) = false := beq_eq_false_iff_ne.mpr c11
                have c11b1 : (a1 != 4) = true := bne_iff_ne.mpr c11
                replace H := Option.bind_eq_some_iff.mp H
                obtain ⟨t128, A130, H⟩ := H
                replace H : (parser_count.j1 k1 a1 (wrap64 (x5_1 + 1)) l0 (l0.length : Int) x10_1 (!t128) ((rd_T37 l0 x10_1).f0) ((rd_T37 l0 x10_1).f1) ((rd_T37 l0 x10_1).f2) ((rd_T37 l0 x10_1).f3) ((rd_T37 l0 x10_1).f4) ((rd_T37 l0 x10_1).f5.f0.f0) ((rd_T37 l0 x10_1).f5.f0.f1) ((rd_T37 l0 x10_1).f5.f0.f2) ((rd_T37 l0 x10_1).f5.f1.f0) ((rd_T37 l0 x10_1).f5.f1.f1) ((rd_T37 l0 x10_1).f5.f1.f2) ((rd_T37 l0 x10_1).f6) ((rd_T37 l0 x10_1).f7)) = some r := H
                have A13 := Aside0.mk A130
                clear A130
                have H' := Aside0.mk H
                clear H
                have hcz14_0 : w7.cell? ⟨gb127, 0, none⟩ = some (.int .i64 0) := (blk_cell BK127.out 0).trans rfl
                have hcz14_1 : w7.cell? ⟨gb127, 1, none⟩ = some (.int .i64 0) := (blk_cell BK127.out 1).trans rfl
                have hcz14_2 : w7.cell? ⟨gb127, 2, none⟩ = some (.string (⟨#[]⟩ : ByteArray)) := (blk_cell BK127.out 2).trans rfl
                have hcz14_3 : w7.cell? ⟨gb127, 3, none⟩ = some (.string (⟨#[]⟩ : ByteArray)) := (blk_cell BK127.out 3).trans rfl
                have hcz14_4 : w7.cell? ⟨gb127, 4, none⟩ = some (.int .i64 0) := (blk_cell BK127.out 4).trans rfl
                have hcz14_5 : w7.cell? ⟨gb127, 5, none⟩ = some (.int .i64 0) := (blk_cell BK127.out 5).trans rfl
                have hcz14_6 : w7.cell? ⟨gb127, 6, none⟩ = some (.int .i64 0) := (blk_cell BK127.out 6).trans rfl
                have hcz14_7 : w7.cell? ⟨gb127, 7, none⟩ = some (.int .i64 0) := (blk_cell BK127.out 7).trans rfl
                have hcz14_8 : w7.cell? ⟨gb127, 8, none⟩ = some (.int .i64 0) := (blk_cell BK127.out 8).trans rfl
                have hcz14_9 : w7.cell? ⟨gb127, 9, none⟩ = some (.int .i64 0) := (blk_cell BK127.out 9).trans rfl
                have hcz14_10 : w7.cell? ⟨gb127, 10, none⟩ = some (.int .i64 0) := (blk_cell BK127.out 10).trans rfl
                have hcz14_11 : w7.cell? ⟨gb127, 11, none⟩ = some (.slice none 0 0) := (blk_cell BK127.out 11).trans rfl
                have hcz14_12 : w7.cell? ⟨gb127, 12, none⟩ = some (.int .i64 0) := (blk_cell BK127.out 12).trans rfl
                have hfz14_0 := blk_frozen BK127.out 0
                have hfz14_1 := blk_frozen BK127.out 1
                have hfz14_2 := blk_frozen BK127.out 2
                have hfz14_3 := blk_frozen BK127.out 3
                have hfz14_4 := blk_frozen BK127.out 4
                have hfz14_5 := blk_frozen BK127.out 5
                have hfz14_6 := blk_frozen BK127.out 6
                have hfz14_7 := blk_frozen BK127.out 7
                have hfz14_8 := blk_frozen BK127.out 8
                have hfz14_9 := blk_frozen BK127.out 9
                have hfz14_10 := blk_frozen BK127.out 10
                have hfz14_11 := blk_frozen BK127.out 11
                have hfz14_12 := blk_frozen BK127.out 12
                go_wp2_with (first | (go_at_call 36; (with_reducible refine (parser_plain.calls k1 ((rd_T37 l0 x10_1).f0) ((rd_T37 l0 x10_1).f1) ((rd_T37 l0 x10_1).f2) ((rd_T37 l0 x10_1).f3) ((rd_T37 l0 x10_1).f4) ((rd_T37 l0 x10_1).f5.f0.f0) ((rd_T37 l0 x10_1).f5.f0.f1) ((rd_T37 l0 x10_1).f5.f0.f2) ((rd_T37 l0 x10_1).f5.f1.f0) ((rd_T37 l0 x10_1).f5.f1.f1) ((rd_T37 l0 x10_1).f5.f1.f2) _ _ ((rd_T37 l0 x10_1).f6) ((rd_T37 l0 x10_1).f7) t128 _ ?side1 ?side2 A13.out (HGL.out.below (by repeat (with_reducible first | exact HB.out | apply below_alloc | apply pw_below_drewN | apply below_drew1 | refine below_set ?_ GE127.out)))).mono ?_); (case side1 => exact Kd.C_below HR126_11.out (by repeat (with_reducible first | exact HB.out | apply below_alloc | apply pw_below_drewN | apply below_drew1 | refine below_set ?_ GE127.out))); (case side2 => exact HC126_11.out); rintro e w15 ⟨rfl, hb⟩; have n0_ := Aside0.mk (blk_below (g := gb127) (o := .cells #[.int .i64 ((rd_T37 l0 x10_1).f0), .int .i64 ((rd_T37 l0 x10_1).f1), .string ((rd_T37 l0 x10_1).f2), .string ((rd_T37 l0 x10_1).f3), .int .i64 ((rd_T37 l0 x10_1).f4), .int .i64 ((rd_T37 l0 x10_1).f5.f0.f0), .int .i64 ((rd_T37 l0 x10_1).f5.f0.f1), .int .i64 ((rd_T37 l0 x10_1).f5.f0.f2), .int .i64 ((rd_T37 l0 x10_1).f5.f1.f0), .int .i64 ((rd_T37 l0 x10_1).f5.f1.f1), .int .i64 ((rd_T37 l0 x10_1).f5.f1.f2), .slice A126_11 ((rd_T37 l0 x10_1).f6).length c126_11, .int .i64 ((rd_T37 l0 x10_1).f7)] 37 (0, 0)) (by (with_reducible repeat (first | refine blk_drewN ?_ _ | refine blk_drew ?_ | refine blk_alloc ?_ _)); refine set13c ?_; exact ub_ BK127.out) hb); have n1_ := Aside0.mk (below_step (by repeat (with_reducible first | exact HB.out | apply below_alloc | apply pw_below_drewN | apply below_drew1 | refine below_set ?_ GE127.out)) hb); clear BK127; clear HB; have BK127 := n0_; have HB := n1_; clear n0_ n1_; (try clear hb); (try clear hb2); (try clear hk); (try clear hi)))
                go_meet
                case rel => exact ⟨_, (!t128), (by first | rfl | (simp; done) | (simp [*]; done)), H', ⟨by have := HK1.out; first | omega | exact Nat.le_refl _⟩, ⟨by exact ub_ BK127.out⟩, ⟨by repeat (with_reducible first | exact HB.out | apply below_alloc | apply pw_below_drewN | apply below_drew1 | refine below_set ?_ GE127.out)⟩⟩
            · rw [if_neg c10] at H
              have c10b0 : (((rd_T37 l0 x10_1).f0) == 7) = false := beq_eq_false_iff_ne.mpr c10
              have c10b1 : (((rd_T37 l0 x10_1).f0) != 7) = true := bne_iff_ne.mpr c10
              replace H := Option.bind_eq_some_iff.mp H
              obtain ⟨t129, A160, H⟩ := H
              replace H : (parser_count.j1 k1 a1 (wrap64 (x5_1 + 1)) l0 (l0.length : Int) x10_1 (!t129) ((rd_T37 l0 x10_1).f0) ((rd_T37 l0 x10_1).f1) ((rd_T37 l0 x10_1).f2) ((rd_T37 l0 x10_1).f3) ((rd_T37 l0 x10_1).f4) ((rd_T37 l0 x10_1).f5.f0.f0) ((rd_T37 l0 x10_1).f5.f0.f1) ((rd_T37 l0 x10_1).f5.f0.f2) ((rd_T37 l0 x10_1).f5.f1.f0) ((rd_T37 l0 x10_1).f5.f1.f1) ((rd_T37 l0 x10_1).f5.f1.f2) ((rd_T37 l0 x10_1).f6) ((rd_T37 l0 x10_1).f7)) = some r := H
              have A16 := Aside0.mk A160
              clear A160
              have H' := Aside0.mk H
              clear H
              have hcz17_0 : w7.cell? ⟨gb127, 0, none⟩ = some (.int .i64 0) := (blk_cell BK127.out 0).trans rfl
              have hcz17_1 : w7.cell? ⟨gb127, 1, none⟩ = some (.int .i64 0) := (blk_cell BK127.out 1).trans rfl
              have hcz17_2 : w7.cell? ⟨gb127, 2, none⟩ = some (.string (⟨#[]⟩ : ByteArray)) := (blk_cell BK127.out 2).trans rfl
              have hcz17_3 : w7.cell? ⟨gb127, 3, none⟩ = some (.string (⟨#[]⟩ : ByteArray)) := (blk_cell BK127.out 3).trans rfl
              have hcz17_4 : w7.cell? ⟨gb127, 4, none⟩ = some (.int .i64 0) := (blk_cell BK127.out 4).trans rfl
              have hcz17_5 : w7.cell? ⟨gb127, 5, none⟩ = some (.int .i64 0) := (blk_cell BK127.out 5).trans rfl
              have hcz17_6 : w7.cell? ⟨gb127, 6, none⟩ = some (.int .i64 0) := (blk_cell BK127.out 6).trans rfl
              have hcz17_7 : w7.cell? ⟨gb127, 7, none⟩ = some (.int .i64 0) := (blk_cell BK127.out 7).trans rfl
              have hcz17_8 : w7.cell? ⟨gb127, 8, none⟩ = some (.int .i64 0) := (blk_cell BK127.out 8).trans rfl
              have hcz17_9 : w7.cell? ⟨gb127, 9, none⟩ = some (.int .i64 0) := (blk_cell BK127.out 9).trans rfl
              have hcz17_10 : w7.cell? ⟨gb127, 10, none⟩ = some (.int .i64 0) := (blk_cell BK127.out 10).trans rfl
              have hcz17_11 : w7.cell? ⟨gb127, 11, none⟩ = some (.slice none 0 0) := (blk_cell BK127.out 11).trans rfl
              have hcz17_12 : w7.cell? ⟨gb127, 12, none⟩ = some (.int .i64 0) := (blk_cell BK127.out 12).trans rfl
              have hfz17_0 := blk_frozen BK127.out 0
              have hfz17_1 := blk_frozen BK127.out 1
              have hfz17_2 := blk_frozen BK127.out 2
              have hfz17_3 := blk_frozen BK127.out 3
              have hfz17_4 := blk_frozen BK127.out 4
              have hfz17_5 := blk_frozen BK127.out 5
              have hfz17_6 := blk_frozen BK127.out 6
              have hfz17_7 := blk_frozen BK127.out 7
              have hfz17_8 := blk_frozen BK127.out 8
              have hfz17_9 := blk_frozen BK127.out 9
              have hfz17_10 := blk_frozen BK127.out 10
              have hfz17_11 := blk_frozen BK127.out 11
              have hfz17_12 := blk_frozen BK127.out 12
              go_wp2_with (first | (go_at_call 36; (with_reducible refine (parser_plain.calls k1 ((rd_T37 l0 x10_1).f0) ((rd_T37 l0 x10_1).f1) ((rd_T37 l0 x10_1).f2) ((rd_T37 l0 x10_1).f3) ((rd_T37 l0 x10_1).f4) ((rd_T37 l0 x10_1).f5.f0.f0) ((rd_T37 l0 x10_1).f5.f0.f1) ((rd_T37 l0 x10_1).f5.f0.f2) ((rd_T37 l0 x10_1).f5.f1.f0) ((rd_T37 l0 x10_1).f5.f1.f1) ((rd_T37 l0 x10_1).f5.f1.f2) _ _ ((rd_T37 l0 x10_1).f6) ((rd_T37 l0 x10_1).f7) t129 _ ?side1 ?side2 A16.out (HGL.out.below (by repeat (with_reducible first | exact HB.out | apply below_alloc | apply pw_below_drewN | apply below_drew1 | refine below_set ?_ GE127.out)))).mono ?_); (case side1 => exact Kd.C_below HR126_11.out (by repeat (with_reducible first | exact HB.out | apply below_alloc | apply pw_below_drewN | apply below_drew1 | refine below_set ?_ GE127.out))); (case side2 => exact HC126_11.out); rintro e w18 ⟨rfl, hb⟩; have n0_ := Aside0.mk (blk_below (g := gb127) (o := .cells #[.int .i64 ((rd_T37 l0 x10_1).f0), .int .i64 ((rd_T37 l0 x10_1).f1), .string ((rd_T37 l0 x10_1).f2), .string ((rd_T37 l0 x10_1).f3), .int .i64 ((rd_T37 l0 x10_1).f4), .int .i64 ((rd_T37 l0 x10_1).f5.f0.f0), .int .i64 ((rd_T37 l0 x10_1).f5.f0.f1), .int .i64 ((rd_T37 l0 x10_1).f5.f0.f2), .int .i64 ((rd_T37 l0 x10_1).f5.f1.f0), .int .i64 ((rd_T37 l0 x10_1).f5.f1.f1), .int .i64 ((rd_T37 l0 x10_1).f5.f1.f2), .slice A126_11 ((rd_T37 l0 x10_1).f6).length c126_11, .int .i64 ((rd_T37 l0 x10_1).f7)] 37 (0, 0)) (by (with_reducible repeat (first | refine blk_drewN ?_ _ | refine blk_drew ?_ | refine blk_alloc ?_ _)); refine set13c ?_; exact ub_ BK127.out) hb); have n1_ := Aside0.mk (below_step (by repeat (with_reducible first | exact HB.out | apply below_alloc | apply pw_below_drewN | apply below_drew1 | refine below_set ?_ GE127.out)) hb); clear BK127; clear HB; have BK127 := n0_; have HB := n1_; clear n0_ n1_; (try clear hb); (try clear hb2); (try clear hk); (try clear hi)))
              go_meet
              case rel => exact ⟨_, (!t129), (by first | rfl | (simp; done) | (simp [*]; done)), H', ⟨by have := HK1.out; first | omega | exact Nat.le_refl _⟩, ⟨by exact ub_ BK127.out⟩, ⟨by repeat (with_reducible first | exact HB.out | apply below_alloc | apply pw_below_drewN | apply below_drew1 | refine below_set ?_ GE127.out)⟩⟩
         case rest =>
          clear HC6
          try clear c1
          try clear p1
          try clear q1
          try clear hx1
          try clear c2
          try clear p2
          try clear c3
          try clear c3b0
          try clear c4
          try clear c4b0
          try clear c5
          try clear c5b0
          try clear p6
          try clear c9
          try clear c9b0
          try clear c10
          try clear c10b0
          try clear c10b1
          try clear c11
          try clear c11b0
          try clear c11b1
          try clear c12
          try clear p12
          try clear q12
          try clear hx12
          try clear hcz12_0
          try clear hcz12_1
          try clear hcz12_10
          try clear hcz12_11
          try clear hcz12_12
          try clear hcz12_2
          try clear hcz12_3
          try clear hcz12_4
          try clear hcz12_5
          try clear hcz12_6
          try clear hcz12_7
          try clear hcz12_8
          try clear hcz12_9
          try clear hcz14_0
          try clear hcz14_1
          try clear hcz14_10
          try clear hcz14_11
          try clear hcz14_12
          try clear hcz14_2
          try clear hcz14_3
          try clear hcz14_4
          try clear hcz14_5
          try clear hcz14_6
          try clear hcz14_7
          try clear hcz14_8
          try clear hcz14_9
          try clear hcz17_0
          try clear hcz17_1
          try clear hcz17_10
          try clear hcz17_11
          try clear hcz17_12
          try clear hcz17_2
          try clear hcz17_3
          try clear hcz17_4
          try clear hcz17_5
          try clear hcz17_6
          try clear hcz17_7
          try clear hcz17_8
          try clear hcz17_9
          try clear hcz8_0
          try clear hcz8_1
          try clear hcz8_10
          try clear hcz8_11
          try clear hcz8_12
          try clear hcz8_2
          try clear hcz8_3
          try clear hcz8_4
          try clear hcz8_5
          try clear hcz8_6
          try clear hcz8_7
          try clear hcz8_8
          try clear hcz8_9
          try clear hfz12_0
          try clear hfz12_1
          try clear hfz12_10
          try clear hfz12_11
          try clear hfz12_12
          try clear hfz12_2
          try clear hfz12_3
          try clear hfz12_4
          try clear hfz12_5
          try clear hfz12_6
          try clear hfz12_7
          try clear hfz12_8
          try clear hfz12_9
          try clear hfz14_0
          try clear hfz14_1
          try clear hfz14_10
          try clear hfz14_11
          try clear hfz14_12
          try clear hfz14_2
          try clear hfz14_3
          try clear hfz14_4
          try clear hfz14_5
          try clear hfz14_6
          try clear hfz14_7
          try clear hfz14_8
          try clear hfz14_9
          try clear hfz17_0
          try clear hfz17_1
          try clear hfz17_10
          try clear hfz17_11
          try clear hfz17_12
          try clear hfz17_2
          try clear hfz17_3
          try clear hfz17_4
          try clear hfz17_5
          try clear hfz17_6
          try clear hfz17_7
          try clear hfz17_8
          try clear hfz17_9
          try clear hfz8_0
          try clear hfz8_1
          try clear hfz8_10
          try clear hfz8_11
          try clear hfz8_12
          try clear hfz8_2
          try clear hfz8_3
          try clear hfz8_4
          try clear hfz8_5
          try clear hfz8_6
          try clear hfz8_7
          try clear hfz8_8
          try clear hfz8_9
          try clear hx126_0
          try clear hx126_1
          try clear hx126_10
          try clear hx126_11
          try clear hx126_12
          try clear hx126_2
          try clear hx126_3
          try clear hx126_4
          try clear hx126_5
          try clear hx126_6
          try clear hx126_7
          try clear hx126_8
          try clear hx126_9
          try clear p126
          try clear p2
          try clear q126
          obtain ⟨kq, x31_5, rfl, HA, HJ5, BK127, HB⟩ := hcut
          cases kq with
          | zero => exact absurd HA.out (by simp [parser_count.j1])
          | succ kj5 =>
           have H := HA.out
           clear HA
           simp only [parser_count.j1] at H
           by_cases c19 : x31_5 = true
           · subst c19
             have H1 : (some 65) = some r := by rw [if_pos rfl] at H; exact H
             clear H
             have H := H1
             clear H1
             obtain rfl := Option.some.inj H
             go_wp2
             go_ret
             exact ⟨by first | rfl | (simp [errW_none, errW_some] <;> rfl) | (simp [*, errW_none, errW_some] <;> rfl), by repeat (with_reducible first | exact HB.out | apply below_alloc | apply pw_below_drewN | apply below_drew1 | refine below_set ?_ GE127.out)⟩
           · replace c19 := Bool.eq_false_iff.mpr c19
             subst c19
             have H1 : (if ((rd_T37 l0 x10_1).f0) = 7 then ((parser_count.f kj5 ((rd_T37 l0 x10_1).f6) (wrap64 (a1 + 1))).bind fun t130 => (parser_count.l0 kj5 a1 (wrap64 ((wrap64 (x5_1 + 1)) + t130)) l0 (l0.length : Int) (wrap64 (x10_1 + 1)))) else (parser_count.l0 kj5 a1 (wrap64 (x5_1 + 1)) l0 (l0.length : Int) (wrap64 (x10_1 + 1)))) = some r := by rw [if_neg (show ¬ (false = true) by decide)] at H; exact H
             clear H
             have H := H1
             clear H1
             by_cases c20 : ((rd_T37 l0 x10_1).f0) = 7
             · rw [if_pos c20] at H
               have c20b0 : (((rd_T37 l0 x10_1).f0) == 7) = true := beq_iff_eq.mpr c20
               have c20b1 : (((rd_T37 l0 x10_1).f0) != 7) = false := bne_eq_false_iff_eq.mpr c20
               clear c20
               replace H := Option.bind_eq_some_iff.mp H
               obtain ⟨t130, A210, H⟩ := H
               replace H : (parser_count.l0 kj5 a1 (wrap64 ((wrap64 (x5_1 + 1)) + t130)) l0 (l0.length : Int) (wrap64 (x10_1 + 1))) = some r := H
               have A21 := Aside0.mk A210
               clear A210
               have H' := Aside0.mk H
               clear H
               have hcz22_0 : wc.cell? ⟨gb127, 0, none⟩ = some (.int .i64 ((rd_T37 l0 x10_1).f0)) := (blk_cell BK127.out 0).trans rfl
               have hcz22_1 : wc.cell? ⟨gb127, 1, none⟩ = some (.int .i64 ((rd_T37 l0 x10_1).f1)) := (blk_cell BK127.out 1).trans rfl
               have hcz22_2 : wc.cell? ⟨gb127, 2, none⟩ = some (.string ((rd_T37 l0 x10_1).f2)) := (blk_cell BK127.out 2).trans rfl
               have hcz22_3 : wc.cell? ⟨gb127, 3, none⟩ = some (.string ((rd_T37 l0 x10_1).f3)) := (blk_cell BK127.out 3).trans rfl
               have hcz22_4 : wc.cell? ⟨gb127, 4, none⟩ = some (.int .i64 ((rd_T37 l0 x10_1).f4)) := (blk_cell BK127.out 4).trans rfl
               have hcz22_5 : wc.cell? ⟨gb127, 5, none⟩ = some (.int .i64 ((rd_T37 l0 x10_1).f5.f0.f0)) := (blk_cell BK127.out 5).trans rfl
               have hcz22_6 : wc.cell? ⟨gb127, 6, none⟩ = some (.int .i64 ((rd_T37 l0 x10_1).f5.f0.f1)) := (blk_cell BK127.out 6).trans rfl
               have hcz22_7 : wc.cell? ⟨gb127, 7, none⟩ = some (.int .i64 ((rd_T37 l0 x10_1).f5.f0.f2)) := (blk_cell BK127.out 7).trans rfl
               have hcz22_8 : wc.cell? ⟨gb127, 8, none⟩ = some (.int .i64 ((rd_T37 l0 x10_1).f5.f1.f0)) := (blk_cell BK127.out 8).trans rfl
               have hcz22_9 : wc.cell? ⟨gb127, 9, none⟩ = some (.int .i64 ((rd_T37 l0 x10_1).f5.f1.f1)) := (blk_cell BK127.out 9).trans rfl
               have hcz22_10 : wc.cell? ⟨gb127, 10, none⟩ = some (.int .i64 ((rd_T37 l0 x10_1).f5.f1.f2)) := (blk_cell BK127.out 10).trans rfl
               have hcz22_11 : wc.cell? ⟨gb127, 11, none⟩ = some (.slice A126_11 ((rd_T37 l0 x10_1).f6).length c126_11) := (blk_cell BK127.out 11).trans rfl
               have hcz22_12 : wc.cell? ⟨gb127, 12, none⟩ = some (.int .i64 ((rd_T37 l0 x10_1).f7)) := (blk_cell BK127.out 12).trans rfl
               have hfz22_0 := blk_frozen BK127.out 0
               have hfz22_1 := blk_frozen BK127.out 1
               have hfz22_2 := blk_frozen BK127.out 2
               have hfz22_3 := blk_frozen BK127.out 3
               have hfz22_4 := blk_frozen BK127.out 4
               have hfz22_5 := blk_frozen BK127.out 5
               have hfz22_6 := blk_frozen BK127.out 6
               have hfz22_7 := blk_frozen BK127.out 7
               have hfz22_8 := blk_frozen BK127.out 8
               have hfz22_9 := blk_frozen BK127.out 9
               have hfz22_10 := blk_frozen BK127.out 10
               have hfz22_11 := blk_frozen BK127.out 11
               have hfz22_12 := blk_frozen BK127.out 12
               go_wp2_with (first | ((with_reducible refine gate_callee (f := 21) rfl ?_); refine goesL_ (some 40) rfl rfl Tryz.func21 (by kernel_rfl) rfl #[.slice A126_11 ((rd_T37 l0 x10_1).f6).length c126_11, .int .i64 (wrap64 (a1 + 1))] rfl (by (try simp only [List.map_toArray, List.map_cons, List.map_nil]); first | done | rfl | (simp only [List.length_drop, List.length_take]; rfl)) ?_; (with_reducible refine (ih kj5 (by have := HK1.out; have := HJ5.out; omega) _ _ ((rd_T37 l0 x10_1).f6) (wrap64 (a1 + 1)) t130 _ ?side1 ?side2 A21.out (HGL.out.below (by repeat (with_reducible first | exact HB.out | apply below_alloc | apply pw_below_drewN | apply below_drew1 | refine below_set ?_ GE127.out)))).mono ?_); (case side1 => repeat (first | exact (Kd.C_below HR126_11.out HB.out) | (with_reducible refine Kd.C_alloc ?_ _) | (with_reducible refine Kd.C_drewN ?_ _) | (with_reducible refine Kd.C_drew ?_))); (case side2 => exact HC126_11.out); rintro e w23 ⟨rfl, hb⟩; refine ⟨_, rfl, ?_⟩; have n0_ := Aside0.mk (blk_below (g := gb127) (o := .cells #[.int .i64 ((rd_T37 l0 x10_1).f0), .int .i64 ((rd_T37 l0 x10_1).f1), .string ((rd_T37 l0 x10_1).f2), .string ((rd_T37 l0 x10_1).f3), .int .i64 ((rd_T37 l0 x10_1).f4), .int .i64 ((rd_T37 l0 x10_1).f5.f0.f0), .int .i64 ((rd_T37 l0 x10_1).f5.f0.f1), .int .i64 ((rd_T37 l0 x10_1).f5.f0.f2), .int .i64 ((rd_T37 l0 x10_1).f5.f1.f0), .int .i64 ((rd_T37 l0 x10_1).f5.f1.f1), .int .i64 ((rd_T37 l0 x10_1).f5.f1.f2), .slice A126_11 ((rd_T37 l0 x10_1).f6).length c126_11, .int .i64 ((rd_T37 l0 x10_1).f7)] 37 (0, 0)) (by exact ub_ BK127.out) hb); have n1_ := Aside0.mk (below_step (by repeat (with_reducible first | exact HB.out | apply below_alloc | apply pw_below_drewN | apply below_drew1 | refine below_set ?_ GE127.out)) hb); clear BK127; clear HB; have BK127 := n0_; have HB := n1_; clear n0_ n1_; (try clear hb); (try clear hb2); (try clear hk); (try clear hi)))
               go_roundg kj5
               case measure => have := HK1.out; have := HJ5.out; omega
               case rel => exact ⟨(wrap64 ((wrap64 (x5_1 + 1)) + t130)), (wrap64 (x10_1 + 1)), (by first | rfl | (simp; done) | (simp [*]; done)), (by first | rfl | (simp; done) | (simp [*]; done)), H', ⟨by have := HK1.out; have := HJ5.out; omega⟩, ⟨by repeat (with_reducible first | exact HB.out | apply below_alloc | apply pw_below_drewN | apply below_drew1 | refine below_set ?_ GE127.out)⟩⟩
             · rw [if_neg c20] at H
               have c20b0 : (((rd_T37 l0 x10_1).f0) == 7) = false := beq_eq_false_iff_ne.mpr c20
               have c20b1 : (((rd_T37 l0 x10_1).f0) != 7) = true := bne_iff_ne.mpr c20
               have H' := Aside0.mk H
               clear H
               have hcz24_0 : wc.cell? ⟨gb127, 0, none⟩ = some (.int .i64 ((rd_T37 l0 x10_1).f0)) := (blk_cell BK127.out 0).trans rfl
               have hcz24_1 : wc.cell? ⟨gb127, 1, none⟩ = some (.int .i64 ((rd_T37 l0 x10_1).f1)) := (blk_cell BK127.out 1).trans rfl
               have hcz24_2 : wc.cell? ⟨gb127, 2, none⟩ = some (.string ((rd_T37 l0 x10_1).f2)) := (blk_cell BK127.out 2).trans rfl
               have hcz24_3 : wc.cell? ⟨gb127, 3, none⟩ = some (.string ((rd_T37 l0 x10_1).f3)) := (blk_cell BK127.out 3).trans rfl
               have hcz24_4 : wc.cell? ⟨gb127, 4, none⟩ = some (.int .i64 ((rd_T37 l0 x10_1).f4)) := (blk_cell BK127.out 4).trans rfl
               have hcz24_5 : wc.cell? ⟨gb127, 5, none⟩ = some (.int .i64 ((rd_T37 l0 x10_1).f5.f0.f0)) := (blk_cell BK127.out 5).trans rfl
               have hcz24_6 : wc.cell? ⟨gb127, 6, none⟩ = some (.int .i64 ((rd_T37 l0 x10_1).f5.f0.f1)) := (blk_cell BK127.out 6).trans rfl
               have hcz24_7 : wc.cell? ⟨gb127, 7, none⟩ = some (.int .i64 ((rd_T37 l0 x10_1).f5.f0.f2)) := (blk_cell BK127.out 7).trans rfl
               have hcz24_8 : wc.cell? ⟨gb127, 8, none⟩ = some (.int .i64 ((rd_T37 l0 x10_1).f5.f1.f0)) := (blk_cell BK127.out 8).trans rfl
               have hcz24_9 : wc.cell? ⟨gb127, 9, none⟩ = some (.int .i64 ((rd_T37 l0 x10_1).f5.f1.f1)) := (blk_cell BK127.out 9).trans rfl
               have hcz24_10 : wc.cell? ⟨gb127, 10, none⟩ = some (.int .i64 ((rd_T37 l0 x10_1).f5.f1.f2)) := (blk_cell BK127.out 10).trans rfl
               have hcz24_11 : wc.cell? ⟨gb127, 11, none⟩ = some (.slice A126_11 ((rd_T37 l0 x10_1).f6).length c126_11) := (blk_cell BK127.out 11).trans rfl
               have hcz24_12 : wc.cell? ⟨gb127, 12, none⟩ = some (.int .i64 ((rd_T37 l0 x10_1).f7)) := (blk_cell BK127.out 12).trans rfl
               have hfz24_0 := blk_frozen BK127.out 0
               have hfz24_1 := blk_frozen BK127.out 1
               have hfz24_2 := blk_frozen BK127.out 2
               have hfz24_3 := blk_frozen BK127.out 3
               have hfz24_4 := blk_frozen BK127.out 4
               have hfz24_5 := blk_frozen BK127.out 5
               have hfz24_6 := blk_frozen BK127.out 6
               have hfz24_7 := blk_frozen BK127.out 7
               have hfz24_8 := blk_frozen BK127.out 8
               have hfz24_9 := blk_frozen BK127.out 9
               have hfz24_10 := blk_frozen BK127.out 10
               have hfz24_11 := blk_frozen BK127.out 11
               have hfz24_12 := blk_frozen BK127.out 12
               go_wp2
               go_roundg kj5
               case measure => have := HK1.out; have := HJ5.out; omega
               case rel => exact ⟨((wrap64 (x5_1 + 1))), (wrap64 (x10_1 + 1)), (by first | rfl | (simp; done) | (simp [*]; done)), (by first | rfl | (simp; done) | (simp [*]; done)), H', ⟨by have := HK1.out; have := HJ5.out; omega⟩, ⟨by repeat (with_reducible first | exact HB.out | apply below_alloc | apply pw_below_drewN | apply below_drew1 | refine below_set ?_ GE127.out)⟩⟩
       · rw [if_neg c5] at H
         exact absurd H (by simp)
     · rw [if_neg c4] at H
       exact absurd H (by simp)
   · rw [if_neg c3] at H
     have c3b0 : decide (x10_1 < (l0.length : Int)) = false := decide_eq_false c3
     clear c3
     obtain rfl := Option.some.inj H
     go_wp2
     go_ret
     exact ⟨by first | rfl | (simp [errW_none, errW_some] <;> rfl) | (simp [*, errW_none, errW_some] <;> rfl), by exact up_ HB.out⟩
def parser_Valid.f (k : Nat) (l0 : List (S37)) : Option (Bool) := (parser_count.f k l0 0).bind fun t131 => (some (decide (t131 ≤ 64)))
theorem parser_Valid.calls (k : Nat) (A0 : Option Addr) (c0 : Nat) (l0 : List (S37)) (r : Bool) (w : World) (hr0 : Kd.C k37 w A0 l0.length l0) (hc0 : l0.length ≤ c0) (h : parser_Valid.f k l0 = some r) (hG : Glob w) :
 Calls Tryz.prog 10 #[.slice A0 l0.length c0] w fun e w' => e = .returned (.bool r) ∧ Below w.heap.size w w' := by
 have HGL := Aside0.mk hG
 clear hG
 have HR0 := Aside0.mk hr0
 have HC0 := Aside0.mk hc0
 clear hr0 hc0
 have HB := Aside0.mk (Below.refl w.heap.size w)
 have H : ((parser_count.f k l0 0).bind fun t131 => (some (decide (t131 ≤ 64)))) = some r := h
 clear h
 replace H := Option.bind_eq_some_iff.mp H
 obtain ⟨t131, A20, H⟩ := H
 replace H : (some (decide (t131 ≤ 64))) = some r := H
 have A2 := Aside0.mk A20
 clear A20
 obtain rfl := Option.some.inj H
 go_enter Tryz.func10, Tryz.ntmps10
 go_wp2_with (first | ((with_reducible refine gate_callee (f := 21) rfl ?_); refine goesL_ (some 4) rfl rfl Tryz.func21 (by kernel_rfl) rfl #[.slice A0 l0.length c0, .int .i64 0] rfl (by (try simp only [List.map_toArray, List.map_cons, List.map_nil]); first | done | rfl | (simp only [List.length_drop, List.length_take]; rfl)) ?_; (with_reducible refine (parser_count.calls k _ _ l0 0 t131 _ ?side1 ?side2 A2.out (HGL.out.below (by exact up_ HB.out))).mono ?_); (case side1 => repeat (first | exact HR0.out | (with_reducible refine Kd.C_alloc ?_ _) | (with_reducible refine Kd.C_drewN ?_ _) | (with_reducible refine Kd.C_drew ?_))); (case side2 => exact HC0.out); rintro e w3 ⟨rfl, hb⟩; refine ⟨_, rfl, ?_⟩; have n0_ := Aside0.mk (below_step (by exact up_ HB.out) hb); clear HB; have HB := n0_; clear n0_; (try clear hb); (try clear hb2); (try clear hk); (try clear hi)))
 go_ret
 exact ⟨by first | rfl | (simp [errW_none, errW_some] <;> rfl) | (simp [*, errW_none, errW_some] <;> rfl), by exact up_ HB.out⟩
end
end Go.Proofs.YtonhcfecfifghaaGreatDoor.PPx
