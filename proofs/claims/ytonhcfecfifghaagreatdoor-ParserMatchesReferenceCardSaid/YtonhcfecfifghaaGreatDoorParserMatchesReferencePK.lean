/- Part K of the proof of ParserMatchesReference: the contracts of the functions that the law reaches, and what their plain functions compute. No condition. -/
import Derived.Test.YtonhcfecfifghaaGreatDoorParserMatchesReferencePA
import Derived.Test.YtonhcfecfifghaaGreatDoorParserMatchesReferencePE
import Derived.Test.YtonhcfecfifghaaGreatDoorParserMatchesReferencePF
import Derived.Test.YtonhcfecfifghaaGreatDoorParserMatchesReferencePG
import Derived.Deep.DeepCutAuto
set_option maxHeartbeats 40000000
set_option maxRecDepth 100000
namespace Go.Proofs.YtonhcfecfifghaaGreatDoor.PPx
open Go.RowKit Go.Proofs.YtonhcfecfifghaaGreatDoorW.PrintWords Go.Proofs.YtonhcfecfifghaaGreatDoorW.PrintLast Go.Proofs.YtonhcfecfifghaaGreatDoorW.PrintMore
set_option linter.unusedVariables false
set_option linter.unusedSimpArgs false
theorem rtriple_calls (q0 q1 q2 : Int) (r : ByteArray) (w : World) (h : rtriF ⟨q0, q1, q2⟩ = some r) : Calls Tryz.prog 73 #[.agg #[.int .i64 q0, .int .i64 q1, .int .i64 q2]] w fun e w' => e = .returned (.string r) ∧ Below w.heap.size w w' := by
 obtain ⟨a, ha, h⟩ := Option.bind_eq_some_iff.1 h
 obtain ⟨b, hb, h⟩ := Option.bind_eq_some_iff.1 h
 obtain ⟨c, hc, h⟩ := Option.bind_eq_some_iff.1 h
 have HA := Aside0.mk (show ambidexterref11_Num.f 25 q0 = some a from ha)
 have HBb := Aside0.mk (show ambidexterref11_Num.f 25 q1 = some b from hb)
 have HC := Aside0.mk (show ambidexterref11_Num.f 25 q2 = some c from hc)
 obtain ⟨rfl, hs⟩ := fitS_eq h
 have e1 : (⟨#[32, 40]⟩ : ByteArray).size = 2 := rfl
 have e2 : (⟨#[44, 32]⟩ : ByteArray).size = 2 := rfl
 have e3 : (⟨#[41]⟩ : ByteArray).size = 1 := rfl
 simp only [rtriB, app_size, e1, e2, e3] at hs
 have k1 := no_big (show 2 + a.size ≤ _ from by omega)
 have k2 := no_big (show 2 + a.size + 2 ≤ _ from by omega)
 have k3 := no_big (show 2 + a.size + 2 + b.size ≤ _ from by omega)
 have k4 := no_big (show 2 + a.size + 2 + b.size + 2 ≤ _ from by omega)
 have k5 := no_big (show 2 + a.size + 2 + b.size + 2 + c.size ≤ _ from by omega)
 have k6 := no_big (show 2 + a.size + 2 + b.size + 2 + c.size + 1 ≤ _ from by omega)
 clear e1 e2 e3
 clear ha hb hc h hs
 have HH := Aside0.mk (heap_alloc_new w (.cells #[.int .i64 q0, .int .i64 q1, .int .i64 q2] 34))
 have HB := Aside0.mk (below_alloc (Below.refl w.heap.size w) (.cells #[.int .i64 q0, .int .i64 q1, .int .i64 q2] 34))
 have hz0 := row3_held (blk_drew HH.out)
 have hz := row3_held HH.out
 go_enter Tryz.func73, Tryz.ntmps73
 go_wp2_with fail
 clear hz
 go_region_held3 (fun W' => W'.cell? ⟨w.heap.size, 0, none⟩ = some (.int .i64 q0) ∧ W'.cell? ⟨w.heap.size, 1, none⟩ = some (.int .i64 q1) ∧ W'.cell? ⟨w.heap.size, 2, none⟩ = some (.int .i64 q2)) (with_reducible first | exact hz0 | exact row3_held HH.out) (first | (go_at_call 72; (with_reducible refine (ambidexterref11_Num.calls 25 q0 _ _ HA.out).mono ?_); rintro e w1 ⟨rfl, hb⟩; have HH1 := Aside0.mk (blk_below (by first | exact HH.out | exact blk_drew HH.out) hb); have HB1 := Aside0.mk (below_step (by first | exact HB.out | exact below_drew1 HB.out) hb); clear hb HH HB; have HH := HH1; have HB := HB1; clear HH1 HB1) | (go_at_call 72; (with_reducible refine (ambidexterref11_Num.calls 25 q1 _ _ HBb.out).mono ?_); rintro e w1 ⟨rfl, hb⟩; have HH1 := Aside0.mk (blk_below (by first | exact HH.out | exact blk_drew HH.out) hb); have HB1 := Aside0.mk (below_step (by first | exact HB.out | exact below_drew1 HB.out) hb); clear hb HH HB; have HH := HH1; have HB := HB1; clear HH1 HB1) | (go_at_call 72; (with_reducible refine (ambidexterref11_Num.calls 25 q2 _ _ HC.out).mono ?_); rintro e w1 ⟨rfl, hb⟩; have HH1 := Aside0.mk (blk_below (by first | exact HH.out | exact blk_drew HH.out) hb); have HB1 := Aside0.mk (below_step (by first | exact HB.out | exact below_drew1 HB.out) hb); clear hb HH HB; have HH := HH1; have HB := HB1; clear HH1 HB1))
 go_wp2_with fail
 go_ret
 exact ⟨rfl, HB.out⟩
theorem rb_home (x1 : Int) (x2 x3 : ByteArray) (x4 q0 q1 q2 p0 p1 p2 : Int) (x6 : List S37) (x7 : Int) (v : Value) (a b r : ByteArray) (w : World) (ha : ambidexterref11_Num.f 25 x1 = some a) (h : fitS ((⟨#[32]⟩ ++ a) ++ ⟨#[59]⟩) = some r) : Calls Tryz.prog 41 #[.agg (stmC (⟨2, x1, x2, x3, x4, ⟨⟨q0, q1, q2⟩, ⟨p0, p1, p2⟩⟩, x6, x7⟩ : S37) v)] w fun e w' => e = .returned (.string r) ∧ Below w.heap.size w w' := by
 have hu := Tryz.underlying37
 have HH := Aside0.mk (heap_alloc_new w (.cells (stmC (⟨2, x1, x2, x3, x4, ⟨⟨q0, q1, q2⟩, ⟨p0, p1, p2⟩⟩, x6, x7⟩ : S37) v) 37))
 have HB := Aside0.mk (below_alloc (Below.refl w.heap.size w) (.cells (stmC (⟨2, x1, x2, x3, x4, ⟨⟨q0, q1, q2⟩, ⟨p0, p1, p2⟩⟩, x6, x7⟩ : S37) v) 37))
 have hz := (row13 HH.out).1
 go_split_ands
 obtain ⟨hr, hs⟩ := fitS_eq h
 have e1 : (⟨#[32]⟩ : ByteArray).size = 1 := rfl
 have e2 : (⟨#[59]⟩ : ByteArray).size = 1 := rfl
 have e3 : (⟨#[32, 123]⟩ : ByteArray).size = 2 := rfl
 simp only [app_size, e1, e2, e3] at hs
 have k0 := no_big (show 1 + a.size ≤ _ from by omega)
 have k1 := no_big (show 1 + a.size + 1 ≤ _ from by omega)
 subst hr
 clear h hs e1 e2 e3
 have H0 := Aside0.mk ha
 clear ha
 go_enter Tryz.func41, Tryz.ntmps41
 go_wp2_with fail
 refine (ambidexterref11_Num.calls 25 x1 _ _ H0.out).mono ?_
 rintro e w1 ⟨rfl, hb⟩
 have HB1 := Aside0.mk (below_step HB.out hb)
 clear hb HB HH
 have HB := HB1
 clear HB1
 go_wp2_with fail
 go_ret
 exact ⟨rfl, HB.out⟩
theorem rb_wait (x1 : Int) (x2 x3 : ByteArray) (x4 q0 q1 q2 p0 p1 p2 : Int) (x6 : List S37) (x7 : Int) (v : Value) (a b r : ByteArray) (w : World) (ha : ambidexterref11_Num.f 25 x4 = some a) (h : fitS ((⟨#[32]⟩ ++ a) ++ ⟨#[59]⟩) = some r) : Calls Tryz.prog 41 #[.agg (stmC (⟨6, x1, x2, x3, x4, ⟨⟨q0, q1, q2⟩, ⟨p0, p1, p2⟩⟩, x6, x7⟩ : S37) v)] w fun e w' => e = .returned (.string r) ∧ Below w.heap.size w w' := by
 have hu := Tryz.underlying37
 have HH := Aside0.mk (heap_alloc_new w (.cells (stmC (⟨6, x1, x2, x3, x4, ⟨⟨q0, q1, q2⟩, ⟨p0, p1, p2⟩⟩, x6, x7⟩ : S37) v) 37))
 have HB := Aside0.mk (below_alloc (Below.refl w.heap.size w) (.cells (stmC (⟨6, x1, x2, x3, x4, ⟨⟨q0, q1, q2⟩, ⟨p0, p1, p2⟩⟩, x6, x7⟩ : S37) v) 37))
 have hz := (row13 HH.out).1
 go_split_ands
 obtain ⟨hr, hs⟩ := fitS_eq h
 have e1 : (⟨#[32]⟩ : ByteArray).size = 1 := rfl
 have e2 : (⟨#[59]⟩ : ByteArray).size = 1 := rfl
 have e3 : (⟨#[32, 123]⟩ : ByteArray).size = 2 := rfl
 simp only [app_size, e1, e2, e3] at hs
 have k0 := no_big (show 1 + a.size ≤ _ from by omega)
 have k1 := no_big (show 1 + a.size + 1 ≤ _ from by omega)
 subst hr
 clear h hs e1 e2 e3
 have H0 := Aside0.mk ha
 clear ha
 go_enter Tryz.func41, Tryz.ntmps41
 go_wp2_with fail
 refine (ambidexterref11_Num.calls 25 x4 _ _ H0.out).mono ?_
 rintro e w1 ⟨rfl, hb⟩
 have HB1 := Aside0.mk (below_step HB.out hb)
 clear hb HB HH
 have HB := HB1
 clear HB1
 go_wp2_with fail
 go_ret
 exact ⟨rfl, HB.out⟩
theorem rb_when (x1 : Int) (x2 x3 : ByteArray) (x4 q0 q1 q2 p0 p1 p2 : Int) (x6 : List S37) (x7 : Int) (v : Value) (a b r : ByteArray) (w : World) (h : fitS ((((⟨#[32]⟩ ++ x3) ++ ⟨#[32]⟩) ++ x2) ++ ⟨#[32, 123]⟩) = some r) : Calls Tryz.prog 41 #[.agg (stmC (⟨7, x1, x2, x3, x4, ⟨⟨q0, q1, q2⟩, ⟨p0, p1, p2⟩⟩, x6, x7⟩ : S37) v)] w fun e w' => e = .returned (.string r) ∧ Below w.heap.size w w' := by
 have hu := Tryz.underlying37
 have HH := Aside0.mk (heap_alloc_new w (.cells (stmC (⟨7, x1, x2, x3, x4, ⟨⟨q0, q1, q2⟩, ⟨p0, p1, p2⟩⟩, x6, x7⟩ : S37) v) 37))
 have HB := Aside0.mk (below_alloc (Below.refl w.heap.size w) (.cells (stmC (⟨7, x1, x2, x3, x4, ⟨⟨q0, q1, q2⟩, ⟨p0, p1, p2⟩⟩, x6, x7⟩ : S37) v) 37))
 have hz := (row13 HH.out).1
 go_split_ands
 obtain ⟨hr, hs⟩ := fitS_eq h
 have e1 : (⟨#[32]⟩ : ByteArray).size = 1 := rfl
 have e2 : (⟨#[59]⟩ : ByteArray).size = 1 := rfl
 have e3 : (⟨#[32, 123]⟩ : ByteArray).size = 2 := rfl
 simp only [app_size, e1, e2, e3] at hs
 have k0 := no_big (show 1 + x3.size ≤ _ from by omega)
 have k1 := no_big (show 1 + x3.size + 1 ≤ _ from by omega)
 have k2 := no_big (show 1 + x3.size + 1 + x2.size ≤ _ from by omega)
 have k3 := no_big (show 1 + x3.size + 1 + x2.size + 2 ≤ _ from by omega)
 subst hr
 clear h hs e1 e2 e3
 go_enter Tryz.func41, Tryz.ntmps41
 go_wp2_with fail
 go_ret
 exact ⟨rfl, HB.out⟩
theorem rb_pick (x1 : Int) (x2 x3 : ByteArray) (x4 q0 q1 q2 p0 p1 p2 : Int) (x6 : List S37) (x7 : Int) (v : Value) (a b r : ByteArray) (w : World) (ha : ambidexterref11_Num.f 25 x1 = some a) (h : fitS ((((⟨#[32]⟩ ++ a) ++ ⟨#[32]⟩) ++ x2) ++ ⟨#[59]⟩) = some r) : Calls Tryz.prog 41 #[.agg (stmC (⟨3, x1, x2, x3, x4, ⟨⟨q0, q1, q2⟩, ⟨p0, p1, p2⟩⟩, x6, x7⟩ : S37) v)] w fun e w' => e = .returned (.string r) ∧ Below w.heap.size w w' := by
 have hu := Tryz.underlying37
 have HH := Aside0.mk (heap_alloc_new w (.cells (stmC (⟨3, x1, x2, x3, x4, ⟨⟨q0, q1, q2⟩, ⟨p0, p1, p2⟩⟩, x6, x7⟩ : S37) v) 37))
 have HB := Aside0.mk (below_alloc (Below.refl w.heap.size w) (.cells (stmC (⟨3, x1, x2, x3, x4, ⟨⟨q0, q1, q2⟩, ⟨p0, p1, p2⟩⟩, x6, x7⟩ : S37) v) 37))
 have hz := (row13 HH.out).1
 go_split_ands
 obtain ⟨hr, hs⟩ := fitS_eq h
 have e1 : (⟨#[32]⟩ : ByteArray).size = 1 := rfl
 have e2 : (⟨#[59]⟩ : ByteArray).size = 1 := rfl
 have e3 : (⟨#[32, 123]⟩ : ByteArray).size = 2 := rfl
 simp only [app_size, e1, e2, e3] at hs
 have k0 := no_big (show 1 + a.size ≤ _ from by omega)
 have k1 := no_big (show 1 + a.size + 1 ≤ _ from by omega)
 have k2 := no_big (show 1 + a.size + 1 + x2.size ≤ _ from by omega)
 have k3 := no_big (show 1 + a.size + 1 + x2.size + 1 ≤ _ from by omega)
 subst hr
 clear h hs e1 e2 e3
 have H0 := Aside0.mk ha
 clear ha
 go_enter Tryz.func41, Tryz.ntmps41
 go_wp2_with fail
 go_region_held3 (fun W' => W'.cell? ⟨w.heap.size, 0, none⟩ = some (.int .i64 3) ∧ W'.cell? ⟨w.heap.size, 1, none⟩ = some (.int .i64 x1) ∧ W'.cell? ⟨w.heap.size, 2, none⟩ = some (.string x2) ∧ W'.cell? ⟨w.heap.size, 3, none⟩ = some (.string x3) ∧ W'.cell? ⟨w.heap.size, 4, none⟩ = some (.int .i64 x4) ∧ W'.cell? ⟨w.heap.size, 5, none⟩ = some (.int .i64 q0) ∧ W'.cell? ⟨w.heap.size, 6, none⟩ = some (.int .i64 q1) ∧ W'.cell? ⟨w.heap.size, 7, none⟩ = some (.int .i64 q2) ∧ W'.cell? ⟨w.heap.size, 8, none⟩ = some (.int .i64 p0) ∧ W'.cell? ⟨w.heap.size, 9, none⟩ = some (.int .i64 p1) ∧ W'.cell? ⟨w.heap.size, 10, none⟩ = some (.int .i64 p2) ∧ W'.cell? ⟨w.heap.size, 11, none⟩ = some (v) ∧ W'.cell? ⟨w.heap.size, 12, none⟩ = some (.int .i64 x7)) (with_reducible first | exact (row13 HH.out).1 | exact (row13 (blk_drew HH.out)).1) (first | (go_at_call 72; (with_reducible refine (ambidexterref11_Num.calls 25 x1 _ _ H0.out).mono ?_); rintro e w1 ⟨rfl, hb⟩; have HH1 := Aside0.mk (blk_below (by first | exact HH.out | exact blk_drew HH.out) hb); have HB1 := Aside0.mk (below_step (by first | exact HB.out | exact below_drew1 HB.out) hb); clear hb HH HB; have HH := HH1; have HB := HB1; clear HH1 HB1))
 go_wp2_with fail
 go_ret
 exact ⟨rfl, HB.out⟩
theorem rb_put (x1 : Int) (x2 x3 : ByteArray) (x4 q0 q1 q2 p0 p1 p2 : Int) (x6 : List S37) (x7 : Int) (v : Value) (a b r : ByteArray) (w : World) (ha : ambidexterref11_Num.f 25 x1 = some a) (h : fitS ((((⟨#[32]⟩ ++ a) ++ ⟨#[32]⟩) ++ x3) ++ ⟨#[59]⟩) = some r) : Calls Tryz.prog 41 #[.agg (stmC (⟨4, x1, x2, x3, x4, ⟨⟨q0, q1, q2⟩, ⟨p0, p1, p2⟩⟩, x6, x7⟩ : S37) v)] w fun e w' => e = .returned (.string r) ∧ Below w.heap.size w w' := by
 have hu := Tryz.underlying37
 have HH := Aside0.mk (heap_alloc_new w (.cells (stmC (⟨4, x1, x2, x3, x4, ⟨⟨q0, q1, q2⟩, ⟨p0, p1, p2⟩⟩, x6, x7⟩ : S37) v) 37))
 have HB := Aside0.mk (below_alloc (Below.refl w.heap.size w) (.cells (stmC (⟨4, x1, x2, x3, x4, ⟨⟨q0, q1, q2⟩, ⟨p0, p1, p2⟩⟩, x6, x7⟩ : S37) v) 37))
 have hz := (row13 HH.out).1
 go_split_ands
 obtain ⟨hr, hs⟩ := fitS_eq h
 have e1 : (⟨#[32]⟩ : ByteArray).size = 1 := rfl
 have e2 : (⟨#[59]⟩ : ByteArray).size = 1 := rfl
 have e3 : (⟨#[32, 123]⟩ : ByteArray).size = 2 := rfl
 simp only [app_size, e1, e2, e3] at hs
 have k0 := no_big (show 1 + a.size ≤ _ from by omega)
 have k1 := no_big (show 1 + a.size + 1 ≤ _ from by omega)
 have k2 := no_big (show 1 + a.size + 1 + x3.size ≤ _ from by omega)
 have k3 := no_big (show 1 + a.size + 1 + x3.size + 1 ≤ _ from by omega)
 subst hr
 clear h hs e1 e2 e3
 have H0 := Aside0.mk ha
 clear ha
 go_enter Tryz.func41, Tryz.ntmps41
 go_wp2_with fail
 go_region_held3 (fun W' => W'.cell? ⟨w.heap.size, 0, none⟩ = some (.int .i64 4) ∧ W'.cell? ⟨w.heap.size, 1, none⟩ = some (.int .i64 x1) ∧ W'.cell? ⟨w.heap.size, 2, none⟩ = some (.string x2) ∧ W'.cell? ⟨w.heap.size, 3, none⟩ = some (.string x3) ∧ W'.cell? ⟨w.heap.size, 4, none⟩ = some (.int .i64 x4) ∧ W'.cell? ⟨w.heap.size, 5, none⟩ = some (.int .i64 q0) ∧ W'.cell? ⟨w.heap.size, 6, none⟩ = some (.int .i64 q1) ∧ W'.cell? ⟨w.heap.size, 7, none⟩ = some (.int .i64 q2) ∧ W'.cell? ⟨w.heap.size, 8, none⟩ = some (.int .i64 p0) ∧ W'.cell? ⟨w.heap.size, 9, none⟩ = some (.int .i64 p1) ∧ W'.cell? ⟨w.heap.size, 10, none⟩ = some (.int .i64 p2) ∧ W'.cell? ⟨w.heap.size, 11, none⟩ = some (v) ∧ W'.cell? ⟨w.heap.size, 12, none⟩ = some (.int .i64 x7)) (with_reducible first | exact (row13 HH.out).1 | exact (row13 (blk_drew HH.out)).1) (first | (go_at_call 72; (with_reducible refine (ambidexterref11_Num.calls 25 x1 _ _ H0.out).mono ?_); rintro e w1 ⟨rfl, hb⟩; have HH1 := Aside0.mk (blk_below (by first | exact HH.out | exact blk_drew HH.out) hb); have HB1 := Aside0.mk (below_step (by first | exact HB.out | exact below_drew1 HB.out) hb); clear hb HH HB; have HH := HH1; have HB := HB1; clear HH1 HB1))
 go_wp2_with fail
 go_ret
 exact ⟨rfl, HB.out⟩
theorem rb_hand (x1 : Int) (x2 x3 : ByteArray) (x4 q0 q1 q2 p0 p1 p2 : Int) (x6 : List S37) (x7 : Int) (v : Value) (a b r : ByteArray) (w : World) (ha : ambidexterref11_Num.f 25 x1 = some a) (h : fitS ((((⟨#[32]⟩ ++ a) ++ ⟨#[32]⟩) ++ x3) ++ ⟨#[59]⟩) = some r) : Calls Tryz.prog 41 #[.agg (stmC (⟨5, x1, x2, x3, x4, ⟨⟨q0, q1, q2⟩, ⟨p0, p1, p2⟩⟩, x6, x7⟩ : S37) v)] w fun e w' => e = .returned (.string r) ∧ Below w.heap.size w w' := by
 have hu := Tryz.underlying37
 have HH := Aside0.mk (heap_alloc_new w (.cells (stmC (⟨5, x1, x2, x3, x4, ⟨⟨q0, q1, q2⟩, ⟨p0, p1, p2⟩⟩, x6, x7⟩ : S37) v) 37))
 have HB := Aside0.mk (below_alloc (Below.refl w.heap.size w) (.cells (stmC (⟨5, x1, x2, x3, x4, ⟨⟨q0, q1, q2⟩, ⟨p0, p1, p2⟩⟩, x6, x7⟩ : S37) v) 37))
 have hz := (row13 HH.out).1
 go_split_ands
 obtain ⟨hr, hs⟩ := fitS_eq h
 have e1 : (⟨#[32]⟩ : ByteArray).size = 1 := rfl
 have e2 : (⟨#[59]⟩ : ByteArray).size = 1 := rfl
 have e3 : (⟨#[32, 123]⟩ : ByteArray).size = 2 := rfl
 simp only [app_size, e1, e2, e3] at hs
 have k0 := no_big (show 1 + a.size ≤ _ from by omega)
 have k1 := no_big (show 1 + a.size + 1 ≤ _ from by omega)
 have k2 := no_big (show 1 + a.size + 1 + x3.size ≤ _ from by omega)
 have k3 := no_big (show 1 + a.size + 1 + x3.size + 1 ≤ _ from by omega)
 subst hr
 clear h hs e1 e2 e3
 have H0 := Aside0.mk ha
 clear ha
 go_enter Tryz.func41, Tryz.ntmps41
 go_wp2_with fail
 go_region_held3 (fun W' => W'.cell? ⟨w.heap.size, 0, none⟩ = some (.int .i64 5) ∧ W'.cell? ⟨w.heap.size, 1, none⟩ = some (.int .i64 x1) ∧ W'.cell? ⟨w.heap.size, 2, none⟩ = some (.string x2) ∧ W'.cell? ⟨w.heap.size, 3, none⟩ = some (.string x3) ∧ W'.cell? ⟨w.heap.size, 4, none⟩ = some (.int .i64 x4) ∧ W'.cell? ⟨w.heap.size, 5, none⟩ = some (.int .i64 q0) ∧ W'.cell? ⟨w.heap.size, 6, none⟩ = some (.int .i64 q1) ∧ W'.cell? ⟨w.heap.size, 7, none⟩ = some (.int .i64 q2) ∧ W'.cell? ⟨w.heap.size, 8, none⟩ = some (.int .i64 p0) ∧ W'.cell? ⟨w.heap.size, 9, none⟩ = some (.int .i64 p1) ∧ W'.cell? ⟨w.heap.size, 10, none⟩ = some (.int .i64 p2) ∧ W'.cell? ⟨w.heap.size, 11, none⟩ = some (v) ∧ W'.cell? ⟨w.heap.size, 12, none⟩ = some (.int .i64 x7)) (with_reducible first | exact (row13 HH.out).1 | exact (row13 (blk_drew HH.out)).1) (first | (go_at_call 72; (with_reducible refine (ambidexterref11_Num.calls 25 x1 _ _ H0.out).mono ?_); rintro e w1 ⟨rfl, hb⟩; have HH1 := Aside0.mk (blk_below (by first | exact HH.out | exact blk_drew HH.out) hb); have HB1 := Aside0.mk (below_step (by first | exact HB.out | exact below_drew1 HB.out) hb); clear hb HH HB; have HH := HH1; have HB := HB1; clear HH1 HB1))
 go_wp2_with fail
 go_ret
 exact ⟨rfl, HB.out⟩
theorem rb_go0 (x1 : Int) (x2 x3 : ByteArray) (x4 q0 q1 q2 p0 p1 p2 : Int) (x6 : List S37) (x7 : Int) (v : Value) (a b r : ByteArray) (w : World) (ha : ambidexterref11_Num.f 25 0 = some a) (hb : rtriF ⟨q0, q1, q2⟩ = some b) (h : fitS (((⟨#[32]⟩ ++ a) ++ b) ++ ⟨#[59]⟩) = some r) : Calls Tryz.prog 41 #[.agg (stmC (⟨1, 0, x2, x3, x4, ⟨⟨q0, q1, q2⟩, ⟨p0, p1, p2⟩⟩, x6, x7⟩ : S37) v)] w fun e w' => e = .returned (.string r) ∧ Below w.heap.size w w' := by
 have hu := Tryz.underlying37
 have HH := Aside0.mk (heap_alloc_new w (.cells (stmC (⟨1, 0, x2, x3, x4, ⟨⟨q0, q1, q2⟩, ⟨p0, p1, p2⟩⟩, x6, x7⟩ : S37) v) 37))
 have HB := Aside0.mk (below_alloc (Below.refl w.heap.size w) (.cells (stmC (⟨1, 0, x2, x3, x4, ⟨⟨q0, q1, q2⟩, ⟨p0, p1, p2⟩⟩, x6, x7⟩ : S37) v) 37))
 have hz := (row13 HH.out).1
 go_split_ands
 obtain ⟨hr, hs⟩ := fitS_eq h
 have e1 : (⟨#[32]⟩ : ByteArray).size = 1 := rfl
 have e2 : (⟨#[59]⟩ : ByteArray).size = 1 := rfl
 have e3 : (⟨#[32, 123]⟩ : ByteArray).size = 2 := rfl
 simp only [app_size, e1, e2, e3] at hs
 have k0 := no_big (show 1 + a.size ≤ _ from by omega)
 have k1 := no_big (show 1 + a.size + b.size ≤ _ from by omega)
 have k2 := no_big (show 1 + a.size + b.size + 1 ≤ _ from by omega)
 subst hr
 clear h hs e1 e2 e3
 have H0 := Aside0.mk ha
 have H1 := Aside0.mk hb
 clear ha hb
 go_enter Tryz.func41, Tryz.ntmps41
 go_wp2_with fail
 go_region_held3 (fun W' => W'.cell? ⟨w.heap.size, 0, none⟩ = some (.int .i64 1) ∧ W'.cell? ⟨w.heap.size, 1, none⟩ = some (.int .i64 0) ∧ W'.cell? ⟨w.heap.size, 2, none⟩ = some (.string x2) ∧ W'.cell? ⟨w.heap.size, 3, none⟩ = some (.string x3) ∧ W'.cell? ⟨w.heap.size, 4, none⟩ = some (.int .i64 x4) ∧ W'.cell? ⟨w.heap.size, 5, none⟩ = some (.int .i64 q0) ∧ W'.cell? ⟨w.heap.size, 6, none⟩ = some (.int .i64 q1) ∧ W'.cell? ⟨w.heap.size, 7, none⟩ = some (.int .i64 q2) ∧ W'.cell? ⟨w.heap.size, 8, none⟩ = some (.int .i64 p0) ∧ W'.cell? ⟨w.heap.size, 9, none⟩ = some (.int .i64 p1) ∧ W'.cell? ⟨w.heap.size, 10, none⟩ = some (.int .i64 p2) ∧ W'.cell? ⟨w.heap.size, 11, none⟩ = some (v) ∧ W'.cell? ⟨w.heap.size, 12, none⟩ = some (.int .i64 x7)) (with_reducible first | exact (row13 HH.out).1 | exact (row13 (blk_drew HH.out)).1) (first | (go_at_call 72; (with_reducible refine (ambidexterref11_Num.calls 25 0 _ _ H0.out).mono ?_); rintro e w1 ⟨rfl, hb⟩; have HH1 := Aside0.mk (blk_below (by first | exact HH.out | exact blk_drew HH.out) hb); have HB1 := Aside0.mk (below_step (by first | exact HB.out | exact below_drew1 HB.out) hb); clear hb HH HB; have HH := HH1; have HB := HB1; clear HH1 HB1) | (go_at_call 73; (with_reducible refine (rtriple_calls q0 q1 q2 _ _ H1.out).mono ?_); rintro e w1 ⟨rfl, hb⟩; have HH1 := Aside0.mk (blk_below (by first | exact HH.out | exact blk_drew HH.out) hb); have HB1 := Aside0.mk (below_step (by first | exact HB.out | exact below_drew1 HB.out) hb); clear hb HH HB; have HH := HH1; have HB := HB1; clear HH1 HB1))
 go_wp2_with fail
 go_ret
 exact ⟨rfl, HB.out⟩
theorem rb_go1 (x1 : Int) (x2 x3 : ByteArray) (x4 q0 q1 q2 p0 p1 p2 : Int) (x6 : List S37) (x7 : Int) (v : Value) (a b r : ByteArray) (w : World) (ha : ambidexterref11_Num.f 25 1 = some a) (hb : rtriF ⟨p0, p1, p2⟩ = some b) (h : fitS (((⟨#[32]⟩ ++ a) ++ b) ++ ⟨#[59]⟩) = some r) : Calls Tryz.prog 41 #[.agg (stmC (⟨1, 1, x2, x3, x4, ⟨⟨q0, q1, q2⟩, ⟨p0, p1, p2⟩⟩, x6, x7⟩ : S37) v)] w fun e w' => e = .returned (.string r) ∧ Below w.heap.size w w' := by
 have hu := Tryz.underlying37
 have HH := Aside0.mk (heap_alloc_new w (.cells (stmC (⟨1, 1, x2, x3, x4, ⟨⟨q0, q1, q2⟩, ⟨p0, p1, p2⟩⟩, x6, x7⟩ : S37) v) 37))
 have HB := Aside0.mk (below_alloc (Below.refl w.heap.size w) (.cells (stmC (⟨1, 1, x2, x3, x4, ⟨⟨q0, q1, q2⟩, ⟨p0, p1, p2⟩⟩, x6, x7⟩ : S37) v) 37))
 have hz := (row13 HH.out).1
 go_split_ands
 obtain ⟨hr, hs⟩ := fitS_eq h
 have e1 : (⟨#[32]⟩ : ByteArray).size = 1 := rfl
 have e2 : (⟨#[59]⟩ : ByteArray).size = 1 := rfl
 have e3 : (⟨#[32, 123]⟩ : ByteArray).size = 2 := rfl
 simp only [app_size, e1, e2, e3] at hs
 have k0 := no_big (show 1 + a.size ≤ _ from by omega)
 have k1 := no_big (show 1 + a.size + b.size ≤ _ from by omega)
 have k2 := no_big (show 1 + a.size + b.size + 1 ≤ _ from by omega)
 subst hr
 clear h hs e1 e2 e3
 have H0 := Aside0.mk ha
 have H1 := Aside0.mk hb
 clear ha hb
 go_enter Tryz.func41, Tryz.ntmps41
 go_wp2_with fail
 go_region_held3 (fun W' => W'.cell? ⟨w.heap.size, 0, none⟩ = some (.int .i64 1) ∧ W'.cell? ⟨w.heap.size, 1, none⟩ = some (.int .i64 1) ∧ W'.cell? ⟨w.heap.size, 2, none⟩ = some (.string x2) ∧ W'.cell? ⟨w.heap.size, 3, none⟩ = some (.string x3) ∧ W'.cell? ⟨w.heap.size, 4, none⟩ = some (.int .i64 x4) ∧ W'.cell? ⟨w.heap.size, 5, none⟩ = some (.int .i64 q0) ∧ W'.cell? ⟨w.heap.size, 6, none⟩ = some (.int .i64 q1) ∧ W'.cell? ⟨w.heap.size, 7, none⟩ = some (.int .i64 q2) ∧ W'.cell? ⟨w.heap.size, 8, none⟩ = some (.int .i64 p0) ∧ W'.cell? ⟨w.heap.size, 9, none⟩ = some (.int .i64 p1) ∧ W'.cell? ⟨w.heap.size, 10, none⟩ = some (.int .i64 p2) ∧ W'.cell? ⟨w.heap.size, 11, none⟩ = some (v) ∧ W'.cell? ⟨w.heap.size, 12, none⟩ = some (.int .i64 x7)) (with_reducible first | exact (row13 HH.out).1 | exact (row13 (blk_drew HH.out)).1) (first | (go_at_call 72; (with_reducible refine (ambidexterref11_Num.calls 25 1 _ _ H0.out).mono ?_); rintro e w1 ⟨rfl, hb⟩; have HH1 := Aside0.mk (blk_below (by first | exact HH.out | exact blk_drew HH.out) hb); have HB1 := Aside0.mk (below_step (by first | exact HB.out | exact below_drew1 HB.out) hb); clear hb HH HB; have HH := HH1; have HB := HB1; clear HH1 HB1) | (go_at_call 73; (with_reducible refine (rtriple_calls p0 p1 p2 _ _ H1.out).mono ?_); rintro e w1 ⟨rfl, hb⟩; have HH1 := Aside0.mk (blk_below (by first | exact HH.out | exact blk_drew HH.out) hb); have HB1 := Aside0.mk (below_step (by first | exact HB.out | exact below_drew1 HB.out) hb); clear hb HH HB; have HH := HH1; have HB := HB1; clear HH1 HB1))
 go_wp2_with fail
 go_ret
 exact ⟨rfl, HB.out⟩
theorem rb_both (x1 : Int) (x2 x3 : ByteArray) (x4 q0 q1 q2 p0 p1 p2 : Int) (x6 : List S37) (x7 : Int) (v : Value) (a b r : ByteArray) (w : World) (ha : rtriF ⟨q0, q1, q2⟩ = some a) (hb : rtriF ⟨p0, p1, p2⟩ = some b) (h : fitS ((a ++ b) ++ ⟨#[59]⟩) = some r) : Calls Tryz.prog 41 #[.agg (stmC (⟨8, x1, x2, x3, x4, ⟨⟨q0, q1, q2⟩, ⟨p0, p1, p2⟩⟩, x6, x7⟩ : S37) v)] w fun e w' => e = .returned (.string r) ∧ Below w.heap.size w w' := by
 have hu := Tryz.underlying37
 have HH := Aside0.mk (heap_alloc_new w (.cells (stmC (⟨8, x1, x2, x3, x4, ⟨⟨q0, q1, q2⟩, ⟨p0, p1, p2⟩⟩, x6, x7⟩ : S37) v) 37))
 have HB := Aside0.mk (below_alloc (Below.refl w.heap.size w) (.cells (stmC (⟨8, x1, x2, x3, x4, ⟨⟨q0, q1, q2⟩, ⟨p0, p1, p2⟩⟩, x6, x7⟩ : S37) v) 37))
 have hz := (row13 HH.out).1
 go_split_ands
 obtain ⟨hr, hs⟩ := fitS_eq h
 have e1 : (⟨#[32]⟩ : ByteArray).size = 1 := rfl
 have e2 : (⟨#[59]⟩ : ByteArray).size = 1 := rfl
 have e3 : (⟨#[32, 123]⟩ : ByteArray).size = 2 := rfl
 simp only [app_size, e1, e2, e3] at hs
 have k0 := no_big (show a.size + b.size ≤ _ from by omega)
 have k1 := no_big (show a.size + b.size + 1 ≤ _ from by omega)
 subst hr
 clear h hs e1 e2 e3
 have H0 := Aside0.mk ha
 have H1 := Aside0.mk hb
 clear ha hb
 go_enter Tryz.func41, Tryz.ntmps41
 go_wp2_with fail
 go_region_held3 (fun W' => W'.cell? ⟨w.heap.size, 0, none⟩ = some (.int .i64 8) ∧ W'.cell? ⟨w.heap.size, 1, none⟩ = some (.int .i64 x1) ∧ W'.cell? ⟨w.heap.size, 2, none⟩ = some (.string x2) ∧ W'.cell? ⟨w.heap.size, 3, none⟩ = some (.string x3) ∧ W'.cell? ⟨w.heap.size, 4, none⟩ = some (.int .i64 x4) ∧ W'.cell? ⟨w.heap.size, 5, none⟩ = some (.int .i64 q0) ∧ W'.cell? ⟨w.heap.size, 6, none⟩ = some (.int .i64 q1) ∧ W'.cell? ⟨w.heap.size, 7, none⟩ = some (.int .i64 q2) ∧ W'.cell? ⟨w.heap.size, 8, none⟩ = some (.int .i64 p0) ∧ W'.cell? ⟨w.heap.size, 9, none⟩ = some (.int .i64 p1) ∧ W'.cell? ⟨w.heap.size, 10, none⟩ = some (.int .i64 p2) ∧ W'.cell? ⟨w.heap.size, 11, none⟩ = some (v) ∧ W'.cell? ⟨w.heap.size, 12, none⟩ = some (.int .i64 x7)) (with_reducible first | exact (row13 HH.out).1 | exact (row13 (blk_drew HH.out)).1) (first | (go_at_call 73; (with_reducible refine (rtriple_calls q0 q1 q2 _ _ H0.out).mono ?_); rintro e w1 ⟨rfl, hb⟩; have HH1 := Aside0.mk (blk_below (by first | exact HH.out | exact blk_drew HH.out) hb); have HB1 := Aside0.mk (below_step (by first | exact HB.out | exact below_drew1 HB.out) hb); clear hb HH HB; have HH := HH1; have HB := HB1; clear HH1 HB1) | (go_at_call 73; (with_reducible refine (rtriple_calls p0 p1 p2 _ _ H1.out).mono ?_); rintro e w1 ⟨rfl, hb⟩; have HH1 := Aside0.mk (blk_below (by first | exact HH.out | exact blk_drew HH.out) hb); have HB1 := Aside0.mk (below_step (by first | exact HB.out | exact below_drew1 HB.out) hb); clear hb HH HB; have HH := HH1; have HB := HB1; clear HH1 HB1))
 go_wp2_with fail
 go_ret
 exact ⟨rfl, HB.out⟩
theorem rbody_calls (x : S37) (v : Value) (r : ByteArray) (w : World) (h : rbodyF x = some r) : Calls Tryz.prog 41 #[.agg (stmC x v)] w fun e w' => e = .returned (.string r) ∧ Below w.heap.size w w' := by
 obtain ⟨x0, x1, x2, x3, x4, ⟨⟨q0, q1, q2⟩, ⟨p0, p1, p2⟩⟩, x6, x7⟩ := x
 unfold rbodyF at h
 simp only at h
 split at h
 · rename_i e; subst e
   split at h
   · rename_i e; subst e
     obtain ⟨a, ha, h⟩ := Option.bind_eq_some_iff.1 h
     obtain ⟨b, hb, h⟩ := Option.bind_eq_some_iff.1 h
     exact rb_go0 0 x2 x3 x4 q0 q1 q2 p0 p1 p2 x6 x7 v a b r w ha hb h
   · split at h
     · rename_i e; subst e
       obtain ⟨a, ha, h⟩ := Option.bind_eq_some_iff.1 h
       obtain ⟨b, hb, h⟩ := Option.bind_eq_some_iff.1 h
       exact rb_go1 1 x2 x3 x4 q0 q1 q2 p0 p1 p2 x6 x7 v a b r w ha hb h
     · cases h
 split at h
 · rename_i e; subst e
   obtain ⟨a, ha, h⟩ := Option.bind_eq_some_iff.1 h
   exact rb_home x1 x2 x3 x4 q0 q1 q2 p0 p1 p2 x6 x7 v a a r w ha h
 split at h
 · rename_i e; subst e
   obtain ⟨a, ha, h⟩ := Option.bind_eq_some_iff.1 h
   exact rb_pick x1 x2 x3 x4 q0 q1 q2 p0 p1 p2 x6 x7 v a a r w ha h
 split at h
 · rename_i e; subst e
   obtain ⟨a, ha, h⟩ := Option.bind_eq_some_iff.1 h
   exact rb_wait x1 x2 x3 x4 q0 q1 q2 p0 p1 p2 x6 x7 v a a r w ha h
 split at h
 · rename_i e; subst e
   exact rb_when x1 x2 x3 x4 q0 q1 q2 p0 p1 p2 x6 x7 v x2 x2 r w h
 split at h
 · rename_i e; subst e
   obtain ⟨a, ha, h⟩ := Option.bind_eq_some_iff.1 h
   obtain ⟨b, hb, h⟩ := Option.bind_eq_some_iff.1 h
   exact rb_both x1 x2 x3 x4 q0 q1 q2 p0 p1 p2 x6 x7 v a b r w ha hb h
 split at h
 · rename_i e
   obtain ⟨a, ha, h⟩ := Option.bind_eq_some_iff.1 h
   rcases e with e | e <;> subst e
   · exact rb_put x1 x2 x3 x4 q0 q1 q2 p0 p1 p2 x6 x7 v a a r w ha h
   · exact rb_hand x1 x2 x3 x4 q0 q1 q2 p0 p1 p2 x6 x7 v a a r w ha h
 · cases h
theorem rbody_range {x : S37} {b : ByteArray} (h : rbodyF x = some b) : 1 ≤ x.f0 ∧ x.f0 ≤ 8 := by
 unfold rbodyF at h
 repeat' split at h
 all_goals first
  | omega
  | cases h
abbrev TextC (rec : ByteArray → List S37 → Option ByteArray) : Prop := ∀ (A : Option Addr) (c : Nat) (l : List S37) (ins r : ByteArray) (w : World), Kd.C k37 w A l.length l → l.length ≤ c → rec ins l = some r →
 Calls Tryz.prog 27 #[.slice A l.length c, .string ins] w fun e w' => e = .returned (.string r) ∧ Below w.heap.size w w'
theorem text_step (rec : ByteArray → List S37 → Option ByteArray) (HE0 : TextC rec) : TextC (fun ins l => rtextL rec ins ⟨#[]⟩ l) := by
 intro A c l ins r w hC hc hrun
 have hu := Tryz.underlying37
 have HE := Aside0.mk HE0
 have HC := Aside0.mk hC
 have hm := Kd.C_max hC
 have HR := Aside0.mk (show rtextL rec ins ⟨#[]⟩ l = some r from hrun)
 clear hC HE0 hrun
 go_enter Tryz.func27, Tryz.ntmps27
 go_wp2_with fail
 go_loopg [5, 6] l.length (fun kq v5 v6 wr => ∃ (i : Nat) (out : ByteArray), v6 = .int .i64 i ∧ v5 = .string out ∧ Aside0 (i + kq = l.length ∧ rtextL rec ins out (l.drop i) = some r ∧ Below w.heap.size w wr))
 case atStart => exact ⟨0, ⟨#[]⟩, rfl, rfl, ⟨by omega, HR.out, Below.refl _ _⟩⟩
 case round =>
  clear HR
  obtain ⟨i, out, rfl, rfl, ⟨hk, hs, hb⟩⟩ := hrel
  have HS := Aside0.mk hs
  have HB := Aside0.mk hb
  clear hs hb
  rcases gk with _ | k1
  · have hi : i = l.length := by omega
    have hlt : decide ((i : Int) < (l.length : Int)) = false := by simp [hi]
    have hl2 : (i < l.length) = False := eq_false (by omega)
    have ho : out = r := by have := HS.out; rw [hi, List.drop_length, rtextL] at this; exact Option.some.inj this
    subst ho
    clear HS hk hi
    go_wp2_with fail
    go_ret
    exact ⟨rfl, HB.out⟩
  · have hi : i < l.length := by omega
    have hlt : decide ((i : Int) < (l.length : Int)) = true := by simp [hi]
    have hp : (0 ≤ (i : Int)) := by omega
    have hq0 : (i : Int) < (l.length : Int) := by omega
    obtain ⟨ad, Ax, cx, ex, x0, x1, x2, x3, x4, x5, x6, x7, x8, x9, x10, x11, x12, hlx, hCx⟩ := at_T37 HC.out i hp hq0
    cases ex
    have HS1 := HS.out
    rw [drop_rd l i hi, rtextL] at HS1
    have HCX := Aside0.mk (Kd.C_below hCx HB.out)
    generalize rd_T37 l (i : Int) = X at *
    obtain ⟨b, hb, HS1⟩ := Option.bind_eq_some_iff.1 HS1
    obtain ⟨o, ho, HS1⟩ := Option.bind_eq_some_iff.1 HS1
    obtain ⟨hr1, hr8⟩ := rbody_range hb
    have HBd := Aside0.mk hb
    have HNX := Aside0.mk HS1
    obtain ⟨he, hsz⟩ := fitS_eq ho
    have e1 : (⟨#[10]⟩ : ByteArray).size = 1 := rfl
    simp only [app_size, e1] at hsz
    have k1' := no_big (show out.size + ins.size ≤ _ from by omega)
    have k2' := no_big (show out.size + ins.size + (wordR X.f0).size ≤ _ from by omega)
    have k3' := no_big (show out.size + ins.size + (wordR X.f0).size + b.size ≤ _ from by omega)
    have k4' := no_big (show out.size + ins.size + (wordR X.f0).size + b.size + 1 ≤ _ from by omega)
    have HO := Aside0.mk he
    have HK := Aside0.mk hk
    have hr0 : ((0 : Int) ≤ X.f0) = True := eq_true (by omega)
    have hr9 : (X.f0 < ((9 : Nat) : Int)) = True := eq_true (by omega)
    have hr9b : (X.f0 < 9) = True := eq_true (by omega)
    have hr9c : (X.f0 < ((wordsL.length : Nat) : Int)) = True := eq_true (by rw [show wordsL.length = 9 from rfl]; omega)
    have hr9x := Aside0.mk (show X.f0 < ((wordsL.length : Nat) : Int) from by rw [show wordsL.length = 9 from rfl]; omega)
    have HW := Aside0.mk (show ambidexterref11_Words.f = some wordsL from rfl)
    clear hb ho HS1 he hsz e1 hk HS hCx
    simp only [Int.toNat_natCast] at x0 x1 x2 x3 x4 x5 x6 x7 x8 x9 x10 x11 x12
    have hal := cell_lt x0
    have y0 := (HB.out.cell hal).trans x0
    have y1 := (World.cell?_of_block (HB.out.block _ (cell_lt x1))).trans x1
    have y2 := (World.cell?_of_block (HB.out.block _ (cell_lt x2))).trans x2
    have y3 := (World.cell?_of_block (HB.out.block _ (cell_lt x3))).trans x3
    have y4 := (World.cell?_of_block (HB.out.block _ (cell_lt x4))).trans x4
    have y5 := (World.cell?_of_block (HB.out.block _ (cell_lt x5))).trans x5
    have y6 := (World.cell?_of_block (HB.out.block _ (cell_lt x6))).trans x6
    have y7 := (World.cell?_of_block (HB.out.block _ (cell_lt x7))).trans x7
    have y8 := (World.cell?_of_block (HB.out.block _ (cell_lt x8))).trans x8
    have y9 := (World.cell?_of_block (HB.out.block _ (cell_lt x9))).trans x9
    have y10 := (World.cell?_of_block (HB.out.block _ (cell_lt x10))).trans x10
    have y11 := (World.cell?_of_block (HB.out.block _ (cell_lt x11))).trans x11
    have y12 := (World.cell?_of_block (HB.out.block _ (cell_lt x12))).trans x12
    have lal := cell_lt y0
    clear x0 x1 x2 x3 x4 x5 x6 x7 x8 x9 x10 x11 x12 hal
    replace hp := eq_true hp
    replace hq0 := eq_true hq0
    go_upto_region 5 with fail
    have HBy := Aside0.mk (fun (W : World) => rbody_calls X (.slice Ax X.f6.length cx) b W HBd.out)
    go_cut [5] (fun s5 wx => s5 = .string o ∧ Aside0 (Below wr.heap.size wr wx))
    case first =>
     have HBw := Aside0.mk (Below.refl wr.heap.size wr)
     go_region_with (first | (go_at_call 40; (with_reducible refine (ambidexterref11_Words.calls wordsL _ HW.out).mono ?_); rintro e w1 ⟨v0, rfl, hR, hb⟩; obtain ⟨Aw, cw, rfl⟩ := Kd.R_slice hR; have hCw := (Kd.R_reads' hR).2.2; obtain ⟨aw, rfl, hcw⟩ := Kd.at_string hCw X.f0 (by omega) hr9x.out; rw [show rdOf ByteArray.empty wordsL X.f0 = wordR X.f0 from rfl] at hcw; have haw := cell_lt hcw; have HB1 := Aside0.mk (below_step (by first | exact HBw.out | exact below_drew1 HBw.out | exact pw_below_drewN HBw.out _) hb); clear hR hb hCw HBw; have HBw := HB1; clear HB1; have z0 := (HBw.out.cell lal).trans y0; have z1 := (HBw.out.cell (p := ⟨(ad.add (i * 13)).block, (ad.add (i * 13)).off + 1, none⟩) lal).trans y1; have z2 := (HBw.out.cell (p := ⟨(ad.add (i * 13)).block, (ad.add (i * 13)).off + 2, none⟩) lal).trans y2; have z3 := (HBw.out.cell (p := ⟨(ad.add (i * 13)).block, (ad.add (i * 13)).off + 3, none⟩) lal).trans y3; have z4 := (HBw.out.cell (p := ⟨(ad.add (i * 13)).block, (ad.add (i * 13)).off + 4, none⟩) lal).trans y4; have z5 := (HBw.out.cell (p := ⟨(ad.add (i * 13)).block, (ad.add (i * 13)).off + 5, none⟩) lal).trans y5; have z6 := (HBw.out.cell (p := ⟨(ad.add (i * 13)).block, (ad.add (i * 13)).off + 6, none⟩) lal).trans y6; have z7 := (HBw.out.cell (p := ⟨(ad.add (i * 13)).block, (ad.add (i * 13)).off + 7, none⟩) lal).trans y7; have z8 := (HBw.out.cell (p := ⟨(ad.add (i * 13)).block, (ad.add (i * 13)).off + 8, none⟩) lal).trans y8; have z9 := (HBw.out.cell (p := ⟨(ad.add (i * 13)).block, (ad.add (i * 13)).off + 9, none⟩) lal).trans y9; have z10 := (HBw.out.cell (p := ⟨(ad.add (i * 13)).block, (ad.add (i * 13)).off + 10, none⟩) lal).trans y10; have z11 := (HBw.out.cell (p := ⟨(ad.add (i * 13)).block, (ad.add (i * 13)).off + 11, none⟩) lal).trans y11; have z12 := (HBw.out.cell (p := ⟨(ad.add (i * 13)).block, (ad.add (i * 13)).off + 12, none⟩) lal).trans y12) | (go_at_call 41; (with_reducible refine (HBy.out _).mono ?_); rintro e w2 ⟨rfl, hb⟩; (first | (have hcw2 := (hb.cell haw).trans hcw; have haw2 := cell_lt hcw2) | skip); have HB1 := Aside0.mk (below_step (by first | exact HBw.out | exact below_drew1 HBw.out | exact pw_below_drewN HBw.out _) hb); clear hb HBw; have HBw := HB1; clear HB1; have v0 := (HBw.out.cell lal).trans y0; have v1 := (HBw.out.cell (p := ⟨(ad.add (i * 13)).block, (ad.add (i * 13)).off + 1, none⟩) lal).trans y1; have v2 := (HBw.out.cell (p := ⟨(ad.add (i * 13)).block, (ad.add (i * 13)).off + 2, none⟩) lal).trans y2; have v3 := (HBw.out.cell (p := ⟨(ad.add (i * 13)).block, (ad.add (i * 13)).off + 3, none⟩) lal).trans y3; have v4 := (HBw.out.cell (p := ⟨(ad.add (i * 13)).block, (ad.add (i * 13)).off + 4, none⟩) lal).trans y4; have v5 := (HBw.out.cell (p := ⟨(ad.add (i * 13)).block, (ad.add (i * 13)).off + 5, none⟩) lal).trans y5; have v6 := (HBw.out.cell (p := ⟨(ad.add (i * 13)).block, (ad.add (i * 13)).off + 6, none⟩) lal).trans y6; have v7 := (HBw.out.cell (p := ⟨(ad.add (i * 13)).block, (ad.add (i * 13)).off + 7, none⟩) lal).trans y7; have v8 := (HBw.out.cell (p := ⟨(ad.add (i * 13)).block, (ad.add (i * 13)).off + 8, none⟩) lal).trans y8; have v9 := (HBw.out.cell (p := ⟨(ad.add (i * 13)).block, (ad.add (i * 13)).off + 9, none⟩) lal).trans y9; have v10 := (HBw.out.cell (p := ⟨(ad.add (i * 13)).block, (ad.add (i * 13)).off + 10, none⟩) lal).trans y10; have v11 := (HBw.out.cell (p := ⟨(ad.add (i * 13)).block, (ad.add (i * 13)).off + 11, none⟩) lal).trans y11; have v12 := (HBw.out.cell (p := ⟨(ad.add (i * 13)).block, (ad.add (i * 13)).off + 12, none⟩) lal).trans y12))
     all_goals
      go_wp2_with fail
      go_meet
      exact ⟨congrArg Value.string HO.out, ⟨by repeat (first | exact HBw.out | refine below_drew ?_ | refine pw_below_drewN ?_ _)⟩⟩
    case rest =>
     obtain ⟨rfl, hbx⟩ := hcut
     have HBX := Aside0.mk (below_step HB.out hbx.out)
     have HCW := Aside0.mk (Kd.C_below HCX.out hbx.out)
     have z0 := (hbx.out.cell lal).trans y0
     have z11 := (hbx.out.cell (p := ⟨(ad.add (i * 13)).block, (ad.add (i * 13)).off + 11, none⟩) lal).trans y11
     clear y0 y1 y2 y3 y4 y5 y6 y7 y8 y9 y10 y11 y12 lal hbx HB HCX HBy HW HBd HO k1' k2' k3' k4' hr0 hr9 hr9b hr9c hr9x hr1 hr8
     by_cases h7 : X.f0 = 7
     · have b7 : (X.f0 == 7) = true := beq_iff_eq.2 h7
       have HN := HNX.out
       rw [if_pos h7] at HN
       obtain ⟨i2, hi2, HN1⟩ := Option.bind_eq_some_iff.1 HN
       obtain ⟨t, ht, HN2⟩ := Option.bind_eq_some_iff.1 HN1
       obtain ⟨o2, ho2, HN3⟩ := Option.bind_eq_some_iff.1 HN2
       obtain ⟨rfl, hsi⟩ := fitS_eq hi2
       obtain ⟨ho2e, hso⟩ := fitS_eq ho2
       have e2 : (⟨#[32, 32]⟩ : ByteArray).size = 2 := rfl
       have e3 : (⟨#[125, 10]⟩ : ByteArray).size = 2 := rfl
       simp only [app_size, e2] at hsi
       simp only [app_size, e3] at hso
       have m1 := no_big (show ins.size + 2 ≤ _ from by omega)
       have m2 := no_big (show o.size + t.size ≤ _ from by omega)
       have m3 := no_big (show o.size + t.size + ins.size ≤ _ from by omega)
       have m4 := no_big (show o.size + t.size + ins.size + 2 ≤ _ from by omega)
       have HT := Aside0.mk ht
       have HNN := Aside0.mk HN3
       have HO2 := Aside0.mk ho2e
       clear HN HN1 HN2 HN3 ht hi2 ho2 hsi hso e2 e3 HNX ho2e h7
       go_wp2_with fail
       have HPC := Aside0.mk (HE.out Ax cx X.f6 _ t wc HCW.out hlx HT.out)
       (with_reducible refine HPC.out.mono ?_)
       rintro e w2 ⟨rfl, hb⟩
       have HB2 := Aside0.mk (below_step HBX.out hb)
       clear hb
       go_wp2_with fail
       go_roundg k1
       case measure => exact Nat.lt_succ_self _
       case rel => exact ⟨i + 1, o2, rfl, congrArg Value.string HO2.out, ⟨(Nat.succ_add_eq_add_succ i k1).trans HK.out, HNN.out, HB2.out⟩⟩
     · have b7 : (X.f0 == 7) = false := beq_eq_false_iff_ne.2 h7
       have HN := HNX.out
       rw [if_neg h7] at HN
       have HNN := Aside0.mk HN
       clear HN HNX h7
       go_wp2_with fail
       go_roundg k1
       case measure => exact Nat.lt_succ_self _
       case rel => exact ⟨i + 1, o, rfl, rfl, ⟨(Nat.succ_add_eq_add_succ i k1).trans HK.out, HNN.out, HBX.out⟩⟩
theorem rtext_calls : ∀ k, TextC (rtextF k)
 | 0 => fun _ _ _ _ _ _ _ _ h => by cases h
 | k + 1 => text_step (rtextF k) (rtext_calls k)
theorem ambidexterref11_Text.calls (k : Nat) (A : Option Addr) (c : Nat) (l : List S37) (r : ByteArray) (w : World) (hC : Kd.C k37 w A l.length l) (hc : l.length ≤ c) (h : rtextF k ⟨#[]⟩ l = some r) : Calls Tryz.prog 15 #[.slice A l.length c] w fun e w' => e = .returned (.string r) ∧ Below w.heap.size w w' := by
 have HT := Aside0.mk h
 have HC := Aside0.mk hC
 clear h hC
 go_enter Tryz.func15, Tryz.ntmps15
 go_wp2_with fail
 refine (rtext_calls k A c l ⟨#[]⟩ r w HC.out hc HT.out).mono ?_
 rintro e w2 ⟨rfl, hb⟩
 have HB2 := Aside0.mk hb
 clear hb
 go_wp2_with fail
 go_ret
 exact ⟨rfl, HB2.out⟩
end Go.Proofs.YtonhcfecfifghaaGreatDoor.PPx
