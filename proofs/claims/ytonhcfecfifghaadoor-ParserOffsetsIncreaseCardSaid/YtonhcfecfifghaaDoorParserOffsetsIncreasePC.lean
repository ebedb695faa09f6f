/- Part C of the proof of ParserOffsetsIncrease: the contracts of the functions that the law reaches, and what their plain functions compute. No condition. -/
import Derived.Test.YtonhcfecfifghaaDoorParserOffsetsIncreasePA
import Derived.Test.YtonhcfecfifghaaDoorParserOffsetsIncreasePB
namespace Go.Proofs.YtonhcfecfifghaaDoor.PPx
open Go.RowKit Go.Proofs.YtonhcfecfifghaaDoorW.PrintWords Go.Proofs.YtonhcfecfifghaaDoorW.PrintLast Go.Proofs.YtonhcfecfifghaaDoorW.PrintMore
set_option linter.unusedVariables false
set_option linter.unusedSimpArgs false
def wordB (k : Int) : ByteArray := if k = 3 then ⟨#[112, 105, 99, 107]⟩ else if k = 4 then ⟨#[112, 117, 116]⟩ else ⟨#[104, 97, 110, 100]⟩
def lineGo (a t : ByteArray) : ByteArray := (((⟨#[103, 111, 32]⟩ ++ a) ++ ⟨#[32]⟩) ++ t) ++ ⟨#[59]⟩
def lineOne (p a : ByteArray) : ByteArray := (p ++ a) ++ ⟨#[59]⟩
def lineWhen (p q : ByteArray) : ByteArray := (((⟨#[119, 104, 101, 110, 32]⟩ ++ p) ++ ⟨#[32]⟩) ++ q) ++ ⟨#[32, 123]⟩
def lineBoth (t u : ByteArray) : ByteArray := (((⟨#[98, 111, 116, 104, 32]⟩ ++ t) ++ ⟨#[32]⟩) ++ u) ++ ⟨#[59]⟩
def lineName (k a p q : ByteArray) : ByteArray := (((((k ++ ⟨#[32]⟩) ++ a) ++ ⟨#[32]⟩) ++ p) ++ q) ++ ⟨#[59]⟩
def lineF (x : S55) : Option ByteArray :=
 if x.f0 = 1 then (if x.f1 = 0 then (itoaS 0).bind fun a => (tripleF x.f5.f0).bind fun t => fitS (lineGo a t) else if x.f1 = 1 then (itoaS 1).bind fun a => (tripleF x.f5.f1).bind fun t => fitS (lineGo a t) else none)
 else if x.f0 = 2 then (itoaS x.f1).bind fun a => fitS (lineOne ⟨#[104, 111, 109, 101, 32]⟩ a)
 else if x.f0 = 6 then (itoaS x.f4).bind fun a => fitS (lineOne ⟨#[119, 97, 105, 116, 32]⟩ a)
 else if x.f0 = 7 then fitS (lineWhen x.f3 x.f2)
 else if x.f0 = 8 then (tripleF x.f5.f0).bind fun t => (tripleF x.f5.f1).bind fun u => fitS (lineBoth t u)
 else if x.f0 = 3 ∨ x.f0 = 4 ∨ x.f0 = 5 then (itoaS x.f1).bind fun a => fitS (lineName (wordB x.f0) a x.f2 x.f3)
 else none
set_option maxHeartbeats 2000000 in
set_option maxRecDepth 100000 in
theorem line_home (x1 : Int) (x2 x3 : ByteArray) (x4 q0 q1 q2 p0 p1 p2 : Int) (x6 : List S55) (x7 : Int) (a : ByteArray) (r : ByteArray) (v : Value) (w : World) (ha : itoaS x1 = some a) (h : fitS (lineOne ⟨#[104, 111, 109, 101, 32]⟩ a) = some r) (hG : Glob w) : Calls Tryd.prog 35 #[.agg (stmC ⟨2, x1, x2, x3, x4, ⟨⟨q0, q1, q2⟩, ⟨p0, p1, p2⟩⟩, x6, x7⟩ v)] w fun e w' => e = .returned (.string r) ∧ Below w.heap.size w w' := by
 have hu55 := Tryd.underlying55
 have HG := Aside0.mk hG
 clear hG
 have HH := Aside0.mk (heap_alloc_new w (.cells (stmC (⟨2, x1, x2, x3, x4, ⟨⟨q0, q1, q2⟩, ⟨p0, p1, p2⟩⟩, x6, x7⟩ : S55) v) 55))
 have HB := Aside0.mk (below_alloc (Below.refl w.heap.size w) (.cells (stmC (⟨2, x1, x2, x3, x4, ⟨⟨q0, q1, q2⟩, ⟨p0, p1, p2⟩⟩, x6, x7⟩ : S55) v) 55))
 have hz := row_held HH.out
 simp only at hz
 go_split_ands
 obtain ⟨hr, hs⟩ := fitS_eq h
 have e0 : (⟨#[104, 111, 109, 101, 32]⟩ : ByteArray).size = 5 := rfl
 have e1 : (⟨#[59]⟩ : ByteArray).size = 1 := rfl
 simp only [lineOne, app_size, e0, e1] at hs
 have k1 := no_big (show 5 + a.size ≤ _ from by omega)
 have k2 := no_big (show 5 + a.size + 1 ≤ _ from by omega)
 subst hr
 clear h hs e0 e1
 have HA := Aside0.mk ha
 clear ha
 go_enter Tryd.func35, Tryd.ntmps35
 go_wp2_with fail
 refine (Itoa_calls x1 a _ HA.out (HG.out.below HB.out)).mono ?_
 rintro e w1 ⟨rfl, hb⟩
 have HB1 := Aside0.mk (below_step HB.out hb)
 clear hb
 go_wp2_with fail
 go_ret
 exact ⟨rfl, HB1.out⟩
set_option maxHeartbeats 2000000 in
set_option maxRecDepth 100000 in
theorem line_wait (x1 : Int) (x2 x3 : ByteArray) (x4 q0 q1 q2 p0 p1 p2 : Int) (x6 : List S55) (x7 : Int) (a : ByteArray) (r : ByteArray) (v : Value) (w : World) (ha : itoaS x4 = some a) (h : fitS (lineOne ⟨#[119, 97, 105, 116, 32]⟩ a) = some r) (hG : Glob w) : Calls Tryd.prog 35 #[.agg (stmC ⟨6, x1, x2, x3, x4, ⟨⟨q0, q1, q2⟩, ⟨p0, p1, p2⟩⟩, x6, x7⟩ v)] w fun e w' => e = .returned (.string r) ∧ Below w.heap.size w w' := by
 have hu55 := Tryd.underlying55
 have HG := Aside0.mk hG
 clear hG
 have HH := Aside0.mk (heap_alloc_new w (.cells (stmC (⟨6, x1, x2, x3, x4, ⟨⟨q0, q1, q2⟩, ⟨p0, p1, p2⟩⟩, x6, x7⟩ : S55) v) 55))
 have HB := Aside0.mk (below_alloc (Below.refl w.heap.size w) (.cells (stmC (⟨6, x1, x2, x3, x4, ⟨⟨q0, q1, q2⟩, ⟨p0, p1, p2⟩⟩, x6, x7⟩ : S55) v) 55))
 have hz := row_held HH.out
 simp only at hz
 go_split_ands
 obtain ⟨hr, hs⟩ := fitS_eq h
 have e0 : (⟨#[119, 97, 105, 116, 32]⟩ : ByteArray).size = 5 := rfl
 have e1 : (⟨#[59]⟩ : ByteArray).size = 1 := rfl
 simp only [lineOne, app_size, e0, e1] at hs
 have k1 := no_big (show 5 + a.size ≤ _ from by omega)
 have k2 := no_big (show 5 + a.size + 1 ≤ _ from by omega)
 subst hr
 clear h hs e0 e1
 have HA := Aside0.mk ha
 clear ha
 go_enter Tryd.func35, Tryd.ntmps35
 go_wp2_with fail
 refine (Itoa_calls x4 a _ HA.out (HG.out.below HB.out)).mono ?_
 rintro e w1 ⟨rfl, hb⟩
 have HB1 := Aside0.mk (below_step HB.out hb)
 clear hb
 go_wp2_with fail
 go_ret
 exact ⟨rfl, HB1.out⟩
set_option maxHeartbeats 2000000 in
set_option maxRecDepth 100000 in
theorem line_when (x1 : Int) (x2 x3 : ByteArray) (x4 q0 q1 q2 p0 p1 p2 : Int) (x6 : List S55) (x7 : Int) (r : ByteArray) (v : Value) (w : World) (h : fitS (lineWhen x3 x2) = some r) (hG : Glob w) : Calls Tryd.prog 35 #[.agg (stmC ⟨7, x1, x2, x3, x4, ⟨⟨q0, q1, q2⟩, ⟨p0, p1, p2⟩⟩, x6, x7⟩ v)] w fun e w' => e = .returned (.string r) ∧ Below w.heap.size w w' := by
 have hu55 := Tryd.underlying55
 have HG := Aside0.mk hG
 clear hG
 have HH := Aside0.mk (heap_alloc_new w (.cells (stmC (⟨7, x1, x2, x3, x4, ⟨⟨q0, q1, q2⟩, ⟨p0, p1, p2⟩⟩, x6, x7⟩ : S55) v) 55))
 have HB := Aside0.mk (below_alloc (Below.refl w.heap.size w) (.cells (stmC (⟨7, x1, x2, x3, x4, ⟨⟨q0, q1, q2⟩, ⟨p0, p1, p2⟩⟩, x6, x7⟩ : S55) v) 55))
 have hz := row_held HH.out
 simp only at hz
 go_split_ands
 obtain ⟨hr, hs⟩ := fitS_eq h
 have e0 : (⟨#[119, 104, 101, 110, 32]⟩ : ByteArray).size = 5 := rfl
 have e1 : (⟨#[32]⟩ : ByteArray).size = 1 := rfl
 have e2 : (⟨#[32, 123]⟩ : ByteArray).size = 2 := rfl
 simp only [lineWhen, app_size, e0, e1, e2] at hs
 have k1 := no_big (show 5 + x3.size ≤ _ from by omega)
 have k2 := no_big (show 5 + x3.size + 1 ≤ _ from by omega)
 have k3 := no_big (show 5 + x3.size + 1 + x2.size ≤ _ from by omega)
 have k4 := no_big (show 5 + x3.size + 1 + x2.size + 2 ≤ _ from by omega)
 subst hr
 clear h hs e0 e1 e2
 go_enter Tryd.func35, Tryd.ntmps35
 go_wp2_with fail
 go_ret
 exact ⟨rfl, HB.out⟩
set_option maxHeartbeats 2000000 in
set_option maxRecDepth 100000 in
theorem line_both (x1 : Int) (x2 x3 : ByteArray) (x4 q0 q1 q2 p0 p1 p2 : Int) (x6 : List S55) (x7 : Int) (t u : ByteArray) (r : ByteArray) (v : Value) (w : World) (ht : tripleF ⟨q0, q1, q2⟩ = some t) (hu : tripleF ⟨p0, p1, p2⟩ = some u) (h : fitS (lineBoth t u) = some r) (hG : Glob w) : Calls Tryd.prog 35 #[.agg (stmC ⟨8, x1, x2, x3, x4, ⟨⟨q0, q1, q2⟩, ⟨p0, p1, p2⟩⟩, x6, x7⟩ v)] w fun e w' => e = .returned (.string r) ∧ Below w.heap.size w w' := by
 have hu55 := Tryd.underlying55
 have HG := Aside0.mk hG
 clear hG
 have HH := Aside0.mk (heap_alloc_new w (.cells (stmC (⟨8, x1, x2, x3, x4, ⟨⟨q0, q1, q2⟩, ⟨p0, p1, p2⟩⟩, x6, x7⟩ : S55) v) 55))
 have HB := Aside0.mk (below_alloc (Below.refl w.heap.size w) (.cells (stmC (⟨8, x1, x2, x3, x4, ⟨⟨q0, q1, q2⟩, ⟨p0, p1, p2⟩⟩, x6, x7⟩ : S55) v) 55))
 have hz := row_held HH.out
 simp only at hz
 go_split_ands
 obtain ⟨hr, hs⟩ := fitS_eq h
 have e0 : (⟨#[98, 111, 116, 104, 32]⟩ : ByteArray).size = 5 := rfl
 have e1 : (⟨#[32]⟩ : ByteArray).size = 1 := rfl
 have e2 : (⟨#[59]⟩ : ByteArray).size = 1 := rfl
 simp only [lineBoth, app_size, e0, e1, e2] at hs
 have k1 := no_big (show 5 + t.size ≤ _ from by omega)
 have k2 := no_big (show 5 + t.size + 1 ≤ _ from by omega)
 have k3 := no_big (show 5 + t.size + 1 + u.size ≤ _ from by omega)
 have k4 := no_big (show 5 + t.size + 1 + u.size + 1 ≤ _ from by omega)
 subst hr
 clear h hs e0 e1 e2
 have HT := Aside0.mk ht
 have HU := Aside0.mk hu
 clear ht hu
 go_enter Tryd.func35, Tryd.ntmps35
 go_wp2_with fail
 first
 | go_region_held3 (fun W' => W'.cell? ⟨w.heap.size, 0, none⟩ = some (.int .i64 8) ∧ W'.cell? ⟨w.heap.size, 1, none⟩ = some (.int .i64 x1) ∧ W'.cell? ⟨w.heap.size, 2, none⟩ = some (.string x2) ∧ W'.cell? ⟨w.heap.size, 3, none⟩ = some (.string x3) ∧ W'.cell? ⟨w.heap.size, 4, none⟩ = some (.int .i64 x4) ∧ W'.cell? ⟨w.heap.size, 5, none⟩ = some (.int .i64 q0) ∧ W'.cell? ⟨w.heap.size, 6, none⟩ = some (.int .i64 q1) ∧ W'.cell? ⟨w.heap.size, 7, none⟩ = some (.int .i64 q2) ∧ W'.cell? ⟨w.heap.size, 8, none⟩ = some (.int .i64 p0) ∧ W'.cell? ⟨w.heap.size, 9, none⟩ = some (.int .i64 p1) ∧ W'.cell? ⟨w.heap.size, 10, none⟩ = some (.int .i64 p2) ∧ W'.cell? ⟨w.heap.size, 11, none⟩ = some v ∧ W'.cell? ⟨w.heap.size, 12, none⟩ = some (.int .i64 x7)) (with_reducible first | exact row_held HH.out | exact row_held (blk_drew HH.out)) (first | (go_at_call 53; (with_reducible refine (triple_calls2 q0 q1 q2 _ _ HT.out (HG.out.below (by first | exact HB.out | exact below_drew1 HB.out))).mono ?_); rintro e w1 ⟨rfl, hb⟩; have HH1 := Aside0.mk (blk_below (by first | exact HH.out | exact blk_drew HH.out) hb); have HB1 := Aside0.mk (below_step (by first | exact HB.out | exact below_drew1 HB.out) hb); clear hb HH HB; have HH := HH1; have HB := HB1; clear HH1 HB1) | (go_at_call 53; (with_reducible refine (triple_calls2 p0 p1 p2 _ _ HU.out (HG.out.below (by first | exact HB.out | exact below_drew1 HB.out))).mono ?_); rintro e w1 ⟨rfl, hb⟩; have HH1 := Aside0.mk (blk_below (by first | exact HH.out | exact blk_drew HH.out) hb); have HB1 := Aside0.mk (below_step (by first | exact HB.out | exact below_drew1 HB.out) hb); clear hb HH HB; have HH := HH1; have HB := HB1; clear HH1 HB1))
 | fail "held3"
 go_wp2_with fail
 go_ret
 exact ⟨rfl, HB.out⟩
set_option maxHeartbeats 2000000 in
set_option maxRecDepth 100000 in
theorem line_go0 (x2 x3 : ByteArray) (x4 q0 q1 q2 p0 p1 p2 : Int) (x6 : List S55) (x7 : Int) (a t : ByteArray) (r : ByteArray) (v : Value) (w : World) (ha : itoaS 0 = some a) (ht : tripleF ⟨q0, q1, q2⟩ = some t) (h : fitS (lineGo a t) = some r) (hG : Glob w) : Calls Tryd.prog 35 #[.agg (stmC ⟨1, 0, x2, x3, x4, ⟨⟨q0, q1, q2⟩, ⟨p0, p1, p2⟩⟩, x6, x7⟩ v)] w fun e w' => e = .returned (.string r) ∧ Below w.heap.size w w' := by
 have hu55 := Tryd.underlying55
 have HG := Aside0.mk hG
 clear hG
 have HH := Aside0.mk (heap_alloc_new w (.cells (stmC (⟨1, 0, x2, x3, x4, ⟨⟨q0, q1, q2⟩, ⟨p0, p1, p2⟩⟩, x6, x7⟩ : S55) v) 55))
 have HB := Aside0.mk (below_alloc (Below.refl w.heap.size w) (.cells (stmC (⟨1, 0, x2, x3, x4, ⟨⟨q0, q1, q2⟩, ⟨p0, p1, p2⟩⟩, x6, x7⟩ : S55) v) 55))
 have hz := row_held HH.out
 simp only at hz
 go_split_ands
 obtain ⟨hr, hs⟩ := fitS_eq h
 have e0 : (⟨#[103, 111, 32]⟩ : ByteArray).size = 3 := rfl
 have e1 : (⟨#[32]⟩ : ByteArray).size = 1 := rfl
 have e2 : (⟨#[59]⟩ : ByteArray).size = 1 := rfl
 simp only [lineGo, app_size, e0, e1, e2] at hs
 have k1 := no_big (show 3 + a.size ≤ _ from by omega)
 have k2 := no_big (show 3 + a.size + 1 ≤ _ from by omega)
 have k3 := no_big (show 3 + a.size + 1 + t.size ≤ _ from by omega)
 have k4 := no_big (show 3 + a.size + 1 + t.size + 1 ≤ _ from by omega)
 subst hr
 clear h hs e0 e1 e2
 have HA := Aside0.mk ha
 have HT := Aside0.mk ht
 clear ha ht
 go_enter Tryd.func35, Tryd.ntmps35
 go_wp2_with fail
 first
 | go_region_held3 (fun W' => W'.cell? ⟨w.heap.size, 0, none⟩ = some (.int .i64 1) ∧ W'.cell? ⟨w.heap.size, 1, none⟩ = some (.int .i64 0) ∧ W'.cell? ⟨w.heap.size, 2, none⟩ = some (.string x2) ∧ W'.cell? ⟨w.heap.size, 3, none⟩ = some (.string x3) ∧ W'.cell? ⟨w.heap.size, 4, none⟩ = some (.int .i64 x4) ∧ W'.cell? ⟨w.heap.size, 5, none⟩ = some (.int .i64 q0) ∧ W'.cell? ⟨w.heap.size, 6, none⟩ = some (.int .i64 q1) ∧ W'.cell? ⟨w.heap.size, 7, none⟩ = some (.int .i64 q2) ∧ W'.cell? ⟨w.heap.size, 8, none⟩ = some (.int .i64 p0) ∧ W'.cell? ⟨w.heap.size, 9, none⟩ = some (.int .i64 p1) ∧ W'.cell? ⟨w.heap.size, 10, none⟩ = some (.int .i64 p2) ∧ W'.cell? ⟨w.heap.size, 11, none⟩ = some v ∧ W'.cell? ⟨w.heap.size, 12, none⟩ = some (.int .i64 x7)) (with_reducible first | exact row_held HH.out | exact row_held (blk_drew HH.out)) (first | (go_at_call 52; (with_reducible refine (Itoa_calls 0 _ _ HA.out (HG.out.below (by first | exact HB.out | exact below_drew1 HB.out))).mono ?_); rintro e w1 ⟨rfl, hb⟩; have HH1 := Aside0.mk (blk_below (by first | exact HH.out | exact blk_drew HH.out) hb); have HB1 := Aside0.mk (below_step (by first | exact HB.out | exact below_drew1 HB.out) hb); clear hb HH HB; have HH := HH1; have HB := HB1; clear HH1 HB1) | (go_at_call 53; (with_reducible refine (triple_calls2 q0 q1 q2 _ _ HT.out (HG.out.below (by first | exact HB.out | exact below_drew1 HB.out))).mono ?_); rintro e w1 ⟨rfl, hb⟩; have HH1 := Aside0.mk (blk_below (by first | exact HH.out | exact blk_drew HH.out) hb); have HB1 := Aside0.mk (below_step (by first | exact HB.out | exact below_drew1 HB.out) hb); clear hb HH HB; have HH := HH1; have HB := HB1; clear HH1 HB1))
 | fail "held3"
 go_wp2_with fail
 go_ret
 exact ⟨rfl, HB.out⟩
set_option maxHeartbeats 2000000 in
set_option maxRecDepth 100000 in
theorem line_go1 (x2 x3 : ByteArray) (x4 q0 q1 q2 p0 p1 p2 : Int) (x6 : List S55) (x7 : Int) (a t : ByteArray) (r : ByteArray) (v : Value) (w : World) (ha : itoaS 1 = some a) (ht : tripleF ⟨p0, p1, p2⟩ = some t) (h : fitS (lineGo a t) = some r) (hG : Glob w) : Calls Tryd.prog 35 #[.agg (stmC ⟨1, 1, x2, x3, x4, ⟨⟨q0, q1, q2⟩, ⟨p0, p1, p2⟩⟩, x6, x7⟩ v)] w fun e w' => e = .returned (.string r) ∧ Below w.heap.size w w' := by
 have hu55 := Tryd.underlying55
 have HG := Aside0.mk hG
 clear hG
 have HH := Aside0.mk (heap_alloc_new w (.cells (stmC (⟨1, 1, x2, x3, x4, ⟨⟨q0, q1, q2⟩, ⟨p0, p1, p2⟩⟩, x6, x7⟩ : S55) v) 55))
 have HB := Aside0.mk (below_alloc (Below.refl w.heap.size w) (.cells (stmC (⟨1, 1, x2, x3, x4, ⟨⟨q0, q1, q2⟩, ⟨p0, p1, p2⟩⟩, x6, x7⟩ : S55) v) 55))
 have hz := row_held HH.out
 simp only at hz
 go_split_ands
 obtain ⟨hr, hs⟩ := fitS_eq h
 have e0 : (⟨#[103, 111, 32]⟩ : ByteArray).size = 3 := rfl
 have e1 : (⟨#[32]⟩ : ByteArray).size = 1 := rfl
 have e2 : (⟨#[59]⟩ : ByteArray).size = 1 := rfl
 simp only [lineGo, app_size, e0, e1, e2] at hs
 have k1 := no_big (show 3 + a.size ≤ _ from by omega)
 have k2 := no_big (show 3 + a.size + 1 ≤ _ from by omega)
 have k3 := no_big (show 3 + a.size + 1 + t.size ≤ _ from by omega)
 have k4 := no_big (show 3 + a.size + 1 + t.size + 1 ≤ _ from by omega)
 subst hr
 clear h hs e0 e1 e2
 have HA := Aside0.mk ha
 have HT := Aside0.mk ht
 clear ha ht
 go_enter Tryd.func35, Tryd.ntmps35
 go_wp2_with fail
 first
 | go_region_held3 (fun W' => W'.cell? ⟨w.heap.size, 0, none⟩ = some (.int .i64 1) ∧ W'.cell? ⟨w.heap.size, 1, none⟩ = some (.int .i64 1) ∧ W'.cell? ⟨w.heap.size, 2, none⟩ = some (.string x2) ∧ W'.cell? ⟨w.heap.size, 3, none⟩ = some (.string x3) ∧ W'.cell? ⟨w.heap.size, 4, none⟩ = some (.int .i64 x4) ∧ W'.cell? ⟨w.heap.size, 5, none⟩ = some (.int .i64 q0) ∧ W'.cell? ⟨w.heap.size, 6, none⟩ = some (.int .i64 q1) ∧ W'.cell? ⟨w.heap.size, 7, none⟩ = some (.int .i64 q2) ∧ W'.cell? ⟨w.heap.size, 8, none⟩ = some (.int .i64 p0) ∧ W'.cell? ⟨w.heap.size, 9, none⟩ = some (.int .i64 p1) ∧ W'.cell? ⟨w.heap.size, 10, none⟩ = some (.int .i64 p2) ∧ W'.cell? ⟨w.heap.size, 11, none⟩ = some v ∧ W'.cell? ⟨w.heap.size, 12, none⟩ = some (.int .i64 x7)) (with_reducible first | exact row_held HH.out | exact row_held (blk_drew HH.out)) (first | (go_at_call 52; (with_reducible refine (Itoa_calls 1 _ _ HA.out (HG.out.below (by first | exact HB.out | exact below_drew1 HB.out))).mono ?_); rintro e w1 ⟨rfl, hb⟩; have HH1 := Aside0.mk (blk_below (by first | exact HH.out | exact blk_drew HH.out) hb); have HB1 := Aside0.mk (below_step (by first | exact HB.out | exact below_drew1 HB.out) hb); clear hb HH HB; have HH := HH1; have HB := HB1; clear HH1 HB1) | (go_at_call 53; (with_reducible refine (triple_calls2 p0 p1 p2 _ _ HT.out (HG.out.below (by first | exact HB.out | exact below_drew1 HB.out))).mono ?_); rintro e w1 ⟨rfl, hb⟩; have HH1 := Aside0.mk (blk_below (by first | exact HH.out | exact blk_drew HH.out) hb); have HB1 := Aside0.mk (below_step (by first | exact HB.out | exact below_drew1 HB.out) hb); clear hb HH HB; have HH := HH1; have HB := HB1; clear HH1 HB1))
 | fail "held3"
 go_wp2_with fail
 go_ret
 exact ⟨rfl, HB.out⟩
end Go.Proofs.YtonhcfecfifghaaDoor.PPx
namespace Go.Proofs.YtonhcfecfifghaaDoor.PPx
open Go.RowKit Go.Proofs.YtonhcfecfifghaaDoorW.PrintWords Go.Proofs.YtonhcfecfifghaaDoorW.PrintLast Go.Proofs.YtonhcfecfifghaaDoorW.PrintMore
set_option linter.unusedVariables false
set_option linter.unusedSimpArgs false
def WordAt (w : World) (ad : Addr) (cc : Nat) (k : Nat) (s : ByteArray) : Prop := w.cell? ⟨0, 0, none⟩ = some (.slice (some ad) 9 cc) ∧ w.cell? ⟨ad.block, ad.off + k, none⟩ = some (.string s) ∧ 0 < w.heap.size ∧ ad.block < w.heap.size
theorem word_at {w : World} (h : WordsAt w) (k : Nat) (hk : k < 9) (hk0 : k ≠ 0) : ∃ ad cc, WordAt w ad cc k (wordsL[k]'hk) := by
 obtain ⟨A, c, h0, hc, hC, hl⟩ := h
 have hR := Kd.reads_of_C (d := ByteArray.empty) hC
 obtain ⟨ad, e, hx⟩ := hR.2.2 (by decide)
 subst e
 have hx' := hx k hk
 have hg : wordsL.getD k ByteArray.empty = wordsL[k]'hk := by rw [List.getD_eq_getElem?_getD, List.getElem?_eq_getElem (show k < wordsL.length from hk)]; rfl
 rw [hg, show ad.add k = ⟨ad.block, ad.off + k, none⟩ from if_neg hk0] at hx'
 refine ⟨ad, c, h0, hx', hl, ?_⟩
 rcases Nat.lt_or_ge ad.block w.heap.size with h' | h'
 · exact h'
 · exfalso
   have : w.cell? ⟨ad.block, ad.off + k, none⟩ = none := by simp [World.cell?, Array.getElem?_eq_none h']
   rw [this] at hx'
   exact absurd hx' (by simp)
theorem WordAt.below {w W : World} {ad : Addr} {cc k : Nat} {s : ByteArray} (h : WordAt w ad cc k s) (hb : Below w.heap.size w W) : W.cell? ⟨0, 0, none⟩ = some (.slice (some ad) 9 cc) ∧ W.cell? ⟨ad.block, ad.off + k, none⟩ = some (.string s) :=
 ⟨(World.cell?_of_block (a := ⟨0, 0, none⟩) (hb.block 0 h.2.2.1)).trans h.1, (World.cell?_of_block (a := ⟨ad.block, ad.off + k, none⟩) (hb.block _ h.2.2.2)).trans h.2.1⟩
theorem name_held {w W' : World} {b cc k : Nat} {ad : Addr} {s : ByteArray} {x : S55} {v : Value} (h : W'.heap[b]? = some (.cells (stmC x v) 55 (0, 0))) (hb : Below w.heap.size w W') (hw : WordAt w ad cc k s) : W'.cell? ⟨0, 0, none⟩ = some (.slice (some ad) 9 cc) ∧ W'.cell? ⟨ad.block, ad.off + k, none⟩ = some (.string s) ∧ W'.cell? ⟨b, 0, none⟩ = some (.int .i64 x.f0) ∧ W'.cell? ⟨b, 1, none⟩ = some (.int .i64 x.f1) ∧ W'.cell? ⟨b, 2, none⟩ = some (.string x.f2) ∧ W'.cell? ⟨b, 3, none⟩ = some (.string x.f3) ∧ W'.cell? ⟨b, 4, none⟩ = some (.int .i64 x.f4) ∧ W'.cell? ⟨b, 5, none⟩ = some (.int .i64 x.f5.f0.f0) ∧ W'.cell? ⟨b, 6, none⟩ = some (.int .i64 x.f5.f0.f1) ∧ W'.cell? ⟨b, 7, none⟩ = some (.int .i64 x.f5.f0.f2) ∧ W'.cell? ⟨b, 8, none⟩ = some (.int .i64 x.f5.f1.f0) ∧ W'.cell? ⟨b, 9, none⟩ = some (.int .i64 x.f5.f1.f1) ∧ W'.cell? ⟨b, 10, none⟩ = some (.int .i64 x.f5.f1.f2) ∧ W'.cell? ⟨b, 11, none⟩ = some (v) ∧ W'.cell? ⟨b, 12, none⟩ = some (.int .i64 x.f7) :=
 ⟨(hw.below hb).1, (hw.below hb).2, row_held h⟩
set_option maxHeartbeats 2000000 in
set_option maxRecDepth 100000 in
theorem line_pick (x1 : Int) (x2 x3 : ByteArray) (x4 q0 q1 q2 p0 p1 p2 : Int) (x6 : List S55) (x7 : Int) (a : ByteArray) (r : ByteArray) (v : Value) (w : World) (ha : itoaS x1 = some a) (h : fitS (lineName ⟨#[112, 105, 99, 107]⟩ a x2 x3) = some r) (hG : Glob w) : Calls Tryd.prog 35 #[.agg (stmC ⟨3, x1, x2, x3, x4, ⟨⟨q0, q1, q2⟩, ⟨p0, p1, p2⟩⟩, x6, x7⟩ v)] w fun e w' => e = .returned (.string r) ∧ Below w.heap.size w w' := by
 have hu55 := Tryd.underlying55
 have HG := Aside0.mk hG
 clear hG
 have HH := Aside0.mk (heap_alloc_new w (.cells (stmC (⟨3, x1, x2, x3, x4, ⟨⟨q0, q1, q2⟩, ⟨p0, p1, p2⟩⟩, x6, x7⟩ : S55) v) 55))
 have HB := Aside0.mk (below_alloc (Below.refl w.heap.size w) (.cells (stmC (⟨3, x1, x2, x3, x4, ⟨⟨q0, q1, q2⟩, ⟨p0, p1, p2⟩⟩, x6, x7⟩ : S55) v) 55))
 have hz := row_held HH.out
 simp only at hz
 go_split_ands
 obtain ⟨hr, hs⟩ := fitS_eq h
 have e0 : (⟨#[112, 105, 99, 107]⟩ : ByteArray).size = 4 := rfl
 have e1 : (⟨#[32]⟩ : ByteArray).size = 1 := rfl
 have e2 : (⟨#[59]⟩ : ByteArray).size = 1 := rfl
 simp only [lineName, app_size, e0, e1, e2] at hs
 have k1 := no_big (show 4 + 1 ≤ _ from by omega)
 have k2 := no_big (show 4 + 1 + a.size ≤ _ from by omega)
 have k3 := no_big (show 4 + 1 + a.size + 1 ≤ _ from by omega)
 have k4 := no_big (show 4 + 1 + a.size + 1 + x2.size ≤ _ from by omega)
 have k5 := no_big (show 4 + 1 + a.size + 1 + x2.size + x3.size ≤ _ from by omega)
 have k6 := no_big (show 4 + 1 + a.size + 1 + x2.size + x3.size + 1 ≤ _ from by omega)
 have k7 := no_big (show 5 + a.size ≤ _ from by omega)
 have k8 := no_big (show 5 + a.size + 1 ≤ _ from by omega)
 have k9 := no_big (show 5 + a.size + 1 + x2.size ≤ _ from by omega)
 have k10 := no_big (show 5 + a.size + 1 + x2.size + x3.size ≤ _ from by omega)
 have k11 := no_big (show 5 + a.size + 1 + x2.size + x3.size + 1 ≤ _ from by omega)
 subst hr
 clear h hs e0 e1 e2
 have HA := Aside0.mk ha
 clear ha
 obtain ⟨ad, cc, hw⟩ := word_at HG.out.1 3 (by decide) (by decide)
 have HW := Aside0.mk (show WordAt w ad cc 3 ⟨#[112, 105, 99, 107]⟩ from hw)
 clear hw
 go_enter Tryd.func35, Tryd.ntmps35
 go_wp2_with fail
 go_region_held3 (fun W' => W'.cell? ⟨0, 0, none⟩ = some (.slice (some ad) 9 cc) ∧ W'.cell? ⟨ad.block, ad.off + 3, none⟩ = some (.string ⟨#[112, 105, 99, 107]⟩) ∧ W'.cell? ⟨w.heap.size, 0, none⟩ = some (.int .i64 3) ∧ W'.cell? ⟨w.heap.size, 1, none⟩ = some (.int .i64 x1) ∧ W'.cell? ⟨w.heap.size, 2, none⟩ = some (.string x2) ∧ W'.cell? ⟨w.heap.size, 3, none⟩ = some (.string x3) ∧ W'.cell? ⟨w.heap.size, 4, none⟩ = some (.int .i64 x4) ∧ W'.cell? ⟨w.heap.size, 5, none⟩ = some (.int .i64 q0) ∧ W'.cell? ⟨w.heap.size, 6, none⟩ = some (.int .i64 q1) ∧ W'.cell? ⟨w.heap.size, 7, none⟩ = some (.int .i64 q2) ∧ W'.cell? ⟨w.heap.size, 8, none⟩ = some (.int .i64 p0) ∧ W'.cell? ⟨w.heap.size, 9, none⟩ = some (.int .i64 p1) ∧ W'.cell? ⟨w.heap.size, 10, none⟩ = some (.int .i64 p2) ∧ W'.cell? ⟨w.heap.size, 11, none⟩ = some v ∧ W'.cell? ⟨w.heap.size, 12, none⟩ = some (.int .i64 x7)) (with_reducible first | exact name_held HH.out HB.out HW.out | exact name_held (blk_drew HH.out) (below_drew1 HB.out) HW.out) (first | (go_at_call 52; (with_reducible refine (Itoa_calls x1 _ _ HA.out (HG.out.below (by first | exact HB.out | exact below_drew1 HB.out))).mono ?_); rintro e w1 ⟨rfl, hb⟩; have HH1 := Aside0.mk (blk_below (by first | exact HH.out | exact blk_drew HH.out) hb); have HB1 := Aside0.mk (below_step (by first | exact HB.out | exact below_drew1 HB.out) hb); clear hb HH HB; have HH := HH1; have HB := HB1; clear HH1 HB1))
 go_wp2_with fail
 go_ret
 exact ⟨rfl, HB.out⟩
set_option maxHeartbeats 2000000 in
set_option maxRecDepth 100000 in
theorem line_put (x1 : Int) (x2 x3 : ByteArray) (x4 q0 q1 q2 p0 p1 p2 : Int) (x6 : List S55) (x7 : Int) (a : ByteArray) (r : ByteArray) (v : Value) (w : World) (ha : itoaS x1 = some a) (h : fitS (lineName ⟨#[112, 117, 116]⟩ a x2 x3) = some r) (hG : Glob w) : Calls Tryd.prog 35 #[.agg (stmC ⟨4, x1, x2, x3, x4, ⟨⟨q0, q1, q2⟩, ⟨p0, p1, p2⟩⟩, x6, x7⟩ v)] w fun e w' => e = .returned (.string r) ∧ Below w.heap.size w w' := by
 have hu55 := Tryd.underlying55
 have HG := Aside0.mk hG
 clear hG
 have HH := Aside0.mk (heap_alloc_new w (.cells (stmC (⟨4, x1, x2, x3, x4, ⟨⟨q0, q1, q2⟩, ⟨p0, p1, p2⟩⟩, x6, x7⟩ : S55) v) 55))
 have HB := Aside0.mk (below_alloc (Below.refl w.heap.size w) (.cells (stmC (⟨4, x1, x2, x3, x4, ⟨⟨q0, q1, q2⟩, ⟨p0, p1, p2⟩⟩, x6, x7⟩ : S55) v) 55))
 have hz := row_held HH.out
 simp only at hz
 go_split_ands
 obtain ⟨hr, hs⟩ := fitS_eq h
 have e0 : (⟨#[112, 117, 116]⟩ : ByteArray).size = 3 := rfl
 have e1 : (⟨#[32]⟩ : ByteArray).size = 1 := rfl
 have e2 : (⟨#[59]⟩ : ByteArray).size = 1 := rfl
 simp only [lineName, app_size, e0, e1, e2] at hs
 have k1 := no_big (show 3 + 1 ≤ _ from by omega)
 have k2 := no_big (show 3 + 1 + a.size ≤ _ from by omega)
 have k3 := no_big (show 3 + 1 + a.size + 1 ≤ _ from by omega)
 have k4 := no_big (show 3 + 1 + a.size + 1 + x2.size ≤ _ from by omega)
 have k5 := no_big (show 3 + 1 + a.size + 1 + x2.size + x3.size ≤ _ from by omega)
 have k6 := no_big (show 3 + 1 + a.size + 1 + x2.size + x3.size + 1 ≤ _ from by omega)
 have k7 := no_big (show 4 + a.size ≤ _ from by omega)
 have k8 := no_big (show 4 + a.size + 1 ≤ _ from by omega)
 have k9 := no_big (show 4 + a.size + 1 + x2.size ≤ _ from by omega)
 have k10 := no_big (show 4 + a.size + 1 + x2.size + x3.size ≤ _ from by omega)
 have k11 := no_big (show 4 + a.size + 1 + x2.size + x3.size + 1 ≤ _ from by omega)
 subst hr
 clear h hs e0 e1 e2
 have HA := Aside0.mk ha
 clear ha
 obtain ⟨ad, cc, hw⟩ := word_at HG.out.1 4 (by decide) (by decide)
 have HW := Aside0.mk (show WordAt w ad cc 4 ⟨#[112, 117, 116]⟩ from hw)
 clear hw
 go_enter Tryd.func35, Tryd.ntmps35
 go_wp2_with fail
 first
 | go_region_held3 (fun W' => W'.cell? ⟨0, 0, none⟩ = some (.slice (some ad) 9 cc) ∧ W'.cell? ⟨ad.block, ad.off + 4, none⟩ = some (.string ⟨#[112, 117, 116]⟩) ∧ W'.cell? ⟨w.heap.size, 0, none⟩ = some (.int .i64 4) ∧ W'.cell? ⟨w.heap.size, 1, none⟩ = some (.int .i64 x1) ∧ W'.cell? ⟨w.heap.size, 2, none⟩ = some (.string x2) ∧ W'.cell? ⟨w.heap.size, 3, none⟩ = some (.string x3) ∧ W'.cell? ⟨w.heap.size, 4, none⟩ = some (.int .i64 x4) ∧ W'.cell? ⟨w.heap.size, 5, none⟩ = some (.int .i64 q0) ∧ W'.cell? ⟨w.heap.size, 6, none⟩ = some (.int .i64 q1) ∧ W'.cell? ⟨w.heap.size, 7, none⟩ = some (.int .i64 q2) ∧ W'.cell? ⟨w.heap.size, 8, none⟩ = some (.int .i64 p0) ∧ W'.cell? ⟨w.heap.size, 9, none⟩ = some (.int .i64 p1) ∧ W'.cell? ⟨w.heap.size, 10, none⟩ = some (.int .i64 p2) ∧ W'.cell? ⟨w.heap.size, 11, none⟩ = some v ∧ W'.cell? ⟨w.heap.size, 12, none⟩ = some (.int .i64 x7)) (with_reducible first | exact name_held HH.out HB.out HW.out | exact name_held (blk_drew HH.out) (below_drew1 HB.out) HW.out) (first | (go_at_call 52; (with_reducible refine (Itoa_calls x1 _ _ HA.out (HG.out.below (by first | exact HB.out | exact below_drew1 HB.out))).mono ?_); rintro e w1 ⟨rfl, hb⟩; have HH1 := Aside0.mk (blk_below (by first | exact HH.out | exact blk_drew HH.out) hb); have HB1 := Aside0.mk (below_step (by first | exact HB.out | exact below_drew1 HB.out) hb); clear hb HH HB; have HH := HH1; have HB := HB1; clear HH1 HB1))
 | fail "held3"
 go_wp2_with fail
 go_ret
 exact ⟨rfl, HB.out⟩
set_option maxHeartbeats 2000000 in
set_option maxRecDepth 100000 in
theorem line_hand (x1 : Int) (x2 x3 : ByteArray) (x4 q0 q1 q2 p0 p1 p2 : Int) (x6 : List S55) (x7 : Int) (a : ByteArray) (r : ByteArray) (v : Value) (w : World) (ha : itoaS x1 = some a) (h : fitS (lineName ⟨#[104, 97, 110, 100]⟩ a x2 x3) = some r) (hG : Glob w) : Calls Tryd.prog 35 #[.agg (stmC ⟨5, x1, x2, x3, x4, ⟨⟨q0, q1, q2⟩, ⟨p0, p1, p2⟩⟩, x6, x7⟩ v)] w fun e w' => e = .returned (.string r) ∧ Below w.heap.size w w' := by
 have hu55 := Tryd.underlying55
 have HG := Aside0.mk hG
 clear hG
 have HH := Aside0.mk (heap_alloc_new w (.cells (stmC (⟨5, x1, x2, x3, x4, ⟨⟨q0, q1, q2⟩, ⟨p0, p1, p2⟩⟩, x6, x7⟩ : S55) v) 55))
 have HB := Aside0.mk (below_alloc (Below.refl w.heap.size w) (.cells (stmC (⟨5, x1, x2, x3, x4, ⟨⟨q0, q1, q2⟩, ⟨p0, p1, p2⟩⟩, x6, x7⟩ : S55) v) 55))
 have hz := row_held HH.out
 simp only at hz
 go_split_ands
 obtain ⟨hr, hs⟩ := fitS_eq h
 have e0 : (⟨#[104, 97, 110, 100]⟩ : ByteArray).size = 4 := rfl
 have e1 : (⟨#[32]⟩ : ByteArray).size = 1 := rfl
 have e2 : (⟨#[59]⟩ : ByteArray).size = 1 := rfl
 simp only [lineName, app_size, e0, e1, e2] at hs
 have k1 := no_big (show 4 + 1 ≤ _ from by omega)
 have k2 := no_big (show 4 + 1 + a.size ≤ _ from by omega)
 have k3 := no_big (show 4 + 1 + a.size + 1 ≤ _ from by omega)
 have k4 := no_big (show 4 + 1 + a.size + 1 + x2.size ≤ _ from by omega)
 have k5 := no_big (show 4 + 1 + a.size + 1 + x2.size + x3.size ≤ _ from by omega)
 have k6 := no_big (show 4 + 1 + a.size + 1 + x2.size + x3.size + 1 ≤ _ from by omega)
 have k7 := no_big (show 5 + a.size ≤ _ from by omega)
 have k8 := no_big (show 5 + a.size + 1 ≤ _ from by omega)
 have k9 := no_big (show 5 + a.size + 1 + x2.size ≤ _ from by omega)
 have k10 := no_big (show 5 + a.size + 1 + x2.size + x3.size ≤ _ from by omega)
 have k11 := no_big (show 5 + a.size + 1 + x2.size + x3.size + 1 ≤ _ from by omega)
 subst hr
 clear h hs e0 e1 e2
 have HA := Aside0.mk ha
 clear ha
 obtain ⟨ad, cc, hw⟩ := word_at HG.out.1 5 (by decide) (by decide)
 have HW := Aside0.mk (show WordAt w ad cc 5 ⟨#[104, 97, 110, 100]⟩ from hw)
 clear hw
 go_enter Tryd.func35, Tryd.ntmps35
 go_wp2_with fail
 first
 | go_region_held3 (fun W' => W'.cell? ⟨0, 0, none⟩ = some (.slice (some ad) 9 cc) ∧ W'.cell? ⟨ad.block, ad.off + 5, none⟩ = some (.string ⟨#[104, 97, 110, 100]⟩) ∧ W'.cell? ⟨w.heap.size, 0, none⟩ = some (.int .i64 5) ∧ W'.cell? ⟨w.heap.size, 1, none⟩ = some (.int .i64 x1) ∧ W'.cell? ⟨w.heap.size, 2, none⟩ = some (.string x2) ∧ W'.cell? ⟨w.heap.size, 3, none⟩ = some (.string x3) ∧ W'.cell? ⟨w.heap.size, 4, none⟩ = some (.int .i64 x4) ∧ W'.cell? ⟨w.heap.size, 5, none⟩ = some (.int .i64 q0) ∧ W'.cell? ⟨w.heap.size, 6, none⟩ = some (.int .i64 q1) ∧ W'.cell? ⟨w.heap.size, 7, none⟩ = some (.int .i64 q2) ∧ W'.cell? ⟨w.heap.size, 8, none⟩ = some (.int .i64 p0) ∧ W'.cell? ⟨w.heap.size, 9, none⟩ = some (.int .i64 p1) ∧ W'.cell? ⟨w.heap.size, 10, none⟩ = some (.int .i64 p2) ∧ W'.cell? ⟨w.heap.size, 11, none⟩ = some v ∧ W'.cell? ⟨w.heap.size, 12, none⟩ = some (.int .i64 x7)) (with_reducible first | exact name_held HH.out HB.out HW.out | exact name_held (blk_drew HH.out) (below_drew1 HB.out) HW.out) (first | (go_at_call 52; (with_reducible refine (Itoa_calls x1 _ _ HA.out (HG.out.below (by first | exact HB.out | exact below_drew1 HB.out))).mono ?_); rintro e w1 ⟨rfl, hb⟩; have HH1 := Aside0.mk (blk_below (by first | exact HH.out | exact blk_drew HH.out) hb); have HB1 := Aside0.mk (below_step (by first | exact HB.out | exact below_drew1 HB.out) hb); clear hb HH HB; have HH := HH1; have HB := HB1; clear HH1 HB1))
 | fail "held3"
 go_wp2_with fail
 go_ret
 exact ⟨rfl, HB.out⟩
end Go.Proofs.YtonhcfecfifghaaDoor.PPx
namespace Go.Proofs.YtonhcfecfifghaaDoor.PPx
open Go.RowKit Go.Proofs.YtonhcfecfifghaaDoorW.PrintWords Go.Proofs.YtonhcfecfifghaaDoorW.PrintLast Go.Proofs.YtonhcfecfifghaaDoorW.PrintMore
set_option linter.unusedVariables false
set_option linter.unusedSimpArgs false
theorem line_calls (x : S55) (v : Value) (r : ByteArray) (w : World) (h : lineF x = some r) (hG : Glob w) : Calls Tryd.prog 35 #[.agg (stmC x v)] w fun e w' => e = .returned (.string r) ∧ Below w.heap.size w w' := by
 obtain ⟨x0, x1, x2, x3, x4, ⟨⟨q0, q1, q2⟩, ⟨p0, p1, p2⟩⟩, x6, x7⟩ := x
 unfold lineF at h
 simp only at h
 split at h
 · rename_i e; subst e
   split at h
   · rename_i e; subst e
     obtain ⟨a, ha, h⟩ := Option.bind_eq_some_iff.1 h
     obtain ⟨t, ht, h⟩ := Option.bind_eq_some_iff.1 h
     exact line_go0 x2 x3 x4 q0 q1 q2 p0 p1 p2 x6 x7 a t r v w ha ht h hG
   · split at h
     · rename_i e; subst e
       obtain ⟨a, ha, h⟩ := Option.bind_eq_some_iff.1 h
       obtain ⟨t, ht, h⟩ := Option.bind_eq_some_iff.1 h
       exact line_go1 x2 x3 x4 q0 q1 q2 p0 p1 p2 x6 x7 a t r v w ha ht h hG
     · simp at h
 · split at h
   · rename_i e; subst e
     obtain ⟨a, ha, h⟩ := Option.bind_eq_some_iff.1 h
     exact line_home x1 x2 x3 x4 q0 q1 q2 p0 p1 p2 x6 x7 a r v w ha h hG
   · split at h
     · rename_i e; subst e
       obtain ⟨a, ha, h⟩ := Option.bind_eq_some_iff.1 h
       exact line_wait x1 x2 x3 x4 q0 q1 q2 p0 p1 p2 x6 x7 a r v w ha h hG
     · split at h
       · rename_i e; subst e
         exact line_when x1 x2 x3 x4 q0 q1 q2 p0 p1 p2 x6 x7 r v w h hG
       · split at h
         · rename_i e; subst e
           obtain ⟨t, ht, h⟩ := Option.bind_eq_some_iff.1 h
           obtain ⟨u, hu, h⟩ := Option.bind_eq_some_iff.1 h
           exact line_both x1 x2 x3 x4 q0 q1 q2 p0 p1 p2 x6 x7 t u r v w ht hu h hG
         · split at h
           · rename_i e
             obtain ⟨a, ha, h⟩ := Option.bind_eq_some_iff.1 h
             rcases e with e | e | e <;> subst e
             · exact line_pick x1 x2 x3 x4 q0 q1 q2 p0 p1 p2 x6 x7 a r v w ha h hG
             · exact line_put x1 x2 x3 x4 q0 q1 q2 p0 p1 p2 x6 x7 a r v w ha h hG
             · exact line_hand x1 x2 x3 x4 q0 q1 q2 p0 p1 p2 x6 x7 a r v w ha h hG
           · simp at h
def kidsW (rec : ByteArray → List S55 → Option ByteArray) (ins : ByteArray) (x : S55) : Option ByteArray :=
 if x.f0 = 7 then (rec (ins ++ ⟨#[32, 32]⟩) x.f6).bind fun t => some (t ++ (ins ++ ⟨#[125, 10]⟩)) else some ⟨#[]⟩
def writtenL (rec : ByteArray → List S55 → Option ByteArray) (ins : ByteArray) : List S55 → Option ByteArray
 | [] => some ⟨#[]⟩
 | x :: l => (lineF x).bind fun s => (kidsW rec ins x).bind fun t => (writtenL rec ins l).bind fun u => some ((((ins ++ s) ++ ⟨#[10]⟩) ++ t) ++ u)
def writtenF : Nat → ByteArray → List S55 → Option ByteArray
 | 0 => fun _ _ => none
 | k + 1 => writtenL (writtenF k)
theorem kids_le {r1 r2 : ByteArray → List S55 → Option ByteArray} (h : ∀ i l, LeO (r1 i l) (r2 i l)) (ins : ByteArray) (x : S55) : LeO (kidsW r1 ins x) (kidsW r2 ins x) := by
 unfold kidsW
 exact LeO.ite (LeO.bind (h _ _) fun _ => LeO.refl _) (LeO.refl _)
theorem writtenL_le {r1 r2 : ByteArray → List S55 → Option ByteArray} (h : ∀ i l, LeO (r1 i l) (r2 i l)) (ins : ByteArray) : ∀ l, LeO (writtenL r1 ins l) (writtenL r2 ins l)
 | [] => LeO.refl _
 | x :: l => LeO.bind (LeO.refl _) fun _ => LeO.bind (kids_le h ins x) fun _ => LeO.bind (writtenL_le h ins l) fun _ => LeO.refl _
theorem written_le : ∀ (k : Nat) (ins : ByteArray) (l : List S55), LeO (writtenF k ins l) (writtenF (k + 1) ins l)
 | 0, ins, l => fun r h => by simp [writtenF] at h
 | k + 1, ins, l => writtenL_le (written_le k) ins l
theorem bldAt_below {B b : Nat} {p : Value} {bs : List Value} {W W' : World} (h : Lib.BuilderAtF 63 5 B b p bs W) (hb : Below W.heap.size W W') : Lib.BuilderAtF 63 5 B b p bs W' := by
 have hlt := h.lt
 obtain ⟨hB, v, hv, hown, hne⟩ := h
 exact ⟨hB, v, (hb.block b hlt).trans hv, hown.kept (row := none) ⟨hb.os, hb.tape, hb.output, hb.size, fun k hk _ => hb.block k hk⟩ (Classical.em _), hne⟩
theorem bld_below {B b : Nat} {bs : List Value} {W W' : World} (h : Lib.IsBuilderF 63 5 B b bs W) (hb : Below W.heap.size W W') : Lib.IsBuilderF 63 5 B b bs W' :=
 h.elim (fun x => .inl (bldAt_below x hb)) (fun x => .inr (bldAt_below x hb))
theorem bld_lt {B b : Nat} {bs : List Value} {W : World} (h : Lib.IsBuilderF 63 5 B b bs W) : b < W.heap.size := h.elim (fun x => x.lt) (fun x => x.lt)
theorem kept_of_below {w w' : World} {b : Nat} (h : Below w.heap.size w w') : Lib.OthersKept 5 (some b) w w' := fun k o hk _ _ => (h.block k ((Array.getElem?_eq_some_iff.1 hk).1)).trans hk
theorem strCells_append (x y : ByteArray) : Lib.strCells (x ++ y) = Lib.strCells x ++ Lib.strCells y := by
 simp [Lib.strCells, ByteArray.data_append, Array.toList_append]
theorem strCells_empty : Lib.strCells ⟨#[]⟩ = [] := rfl
abbrev WrC (w0 : World) (b : Nat) (rec : ByteArray → List S55 → Option ByteArray) : Prop := ∀ (A : Option Addr) (c : Nat) (l : List S55) (ins : ByteArray) (bs : List Value) (out : ByteArray) (W : World), Kd.C k55 w0 A l.length l → l.length ≤ c → Below w0.heap.size w0 W → Lib.IsBuilderF 63 5 w0.heap.size b bs W → rec ins l = some out → bs.length + out.size ≤ 140737488355328 →
 Calls Tryd.prog 23 #[.pointer (some ⟨b, 0, none⟩), .slice A l.length c, .string ins] W fun e w' => e = .returned (.tuple #[]) ∧ Lib.IsBuilderF 63 5 w0.heap.size b (bs ++ Lib.strCells out) w' ∧ Below w0.heap.size w0 w' ∧ Lib.OthersKept 5 (some b) W w'
theorem kept_blk {w w' : World} {b g : Nat} {cs : Array Value} (h : Lib.OthersKept 5 (some b) w w') (hg : w.heap[g]? = some (.cells cs 55 (0, 0))) (hb : g ≠ b) : w'.heap[g]? = some (.cells cs 55 (0, 0)) :=
 h g _ hg (fun e => hb (Option.some.inj e)) (fun c fz e => by simp at e)
set_option maxHeartbeats 2000000 in
set_option maxRecDepth 100000 in
theorem written_step (w0 : World) (hG : Glob w0) (b : Nat) (rec : ByteArray → List S55 → Option ByteArray) (HE : Aside0 (WrC w0 b rec)) : WrC w0 b (writtenL rec) := by
 intro A c l ins bs out W hC hc hB hI hrun hlen
 have hu55 := Tryd.underlying55
 have HG := Aside0.mk hG
 have HC := Aside0.mk hC
 have HB := Aside0.mk hB
 have HI := Aside0.mk hI
 have HR := Aside0.mk hrun
 have HL := Aside0.mk hlen
 have hm := Kd.C_max hC
 clear hG hC hB hI hrun hlen
 go_enter Tryd.func23, Tryd.ntmps23
 go_wp2_with fail
 go_loopg [10] l.length (fun kq v10 wr => ∃ (i : Nat) (bs' : List Value) (o' : ByteArray), v10 = .int .i64 i ∧ Aside0 (i + kq = l.length ∧ writtenL rec ins (l.drop i) = some o' ∧ bs' ++ Lib.strCells o' = bs ++ Lib.strCells out ∧ Lib.IsBuilderF 63 5 w0.heap.size b bs' wr ∧ Below w0.heap.size w0 wr ∧ Lib.OthersKept 5 (some b) W wr))
 case atStart => exact ⟨0, bs, out, rfl, ⟨by omega, by simpa using HR.out, rfl, HI.out, HB.out, Lib.OthersKept.refl _ _ _⟩⟩
 case round =>
  clear HR HI HB
  obtain ⟨i, bs', o', rfl, ⟨hk, hs, he, hi1, hb, ho⟩⟩ := hrel
  have HS := Aside0.mk hs
  have HEq := Aside0.mk he
  have HI := Aside0.mk hi1
  have HB := Aside0.mk hb
  have HO := Aside0.mk ho
  clear hs he hi1 hb ho
  rcases gk with _ | k1
  · have hi : i = l.length := by omega
    have ho : o' = ⟨#[]⟩ := by have := HS.out; rw [hi, List.drop_length] at this; simpa [writtenL] using this.symm
    have hlt : decide ((i : Int) < (l.length : Int)) = false := by simp [hi]
    have HE2 := Aside0.mk (show bs' = bs ++ Lib.strCells out from by have := HEq.out; rw [ho, strCells_empty, List.append_nil] at this; exact this)
    clear ho HEq HS
    go_wp2_with fail
    go_end0
    exact ⟨rfl, HE2.out ▸ HI.out, HB.out, HO.out⟩
  · have hi : i < l.length := by omega
    have hlt : decide ((i : Int) < (l.length : Int)) = true := by simp [hi]
    have hp : (0 ≤ (i : Int)) := by omega
    have hq0 : (i : Int) < (l.length : Int) := by omega
    obtain ⟨ad, Ax, cx, ex, x0, x1, x2, x3, x4, x5, x6, x7, x8, x9, x10, x11, x12, hlx, hCx⟩ := at_T55 HC.out i hp hq0
    cases ex
    have HS1 := HS.out
    rw [drop_rd l i hi] at HS1
    simp only [writtenL] at HS1
    obtain ⟨s, hs, h1⟩ := Option.bind_eq_some_iff.1 HS1
    obtain ⟨t, ht, h2⟩ := Option.bind_eq_some_iff.1 h1
    obtain ⟨u, hu, h3⟩ := Option.bind_eq_some_iff.1 h2
    have ho := Option.some.inj h3
    have HLi := Aside0.mk hs
    have HKi := Aside0.mk ht
    have HRe := Aside0.mk hu
    have HCX := Aside0.mk hCx
    have HOo := Aside0.mk ho
    generalize rd_T55 l (i : Int) = X at *
    clear HS HS1 hs ht hu hCx h1 h2 h3 ho
    simp only [Int.toNat_natCast] at x0 x1 x2 x3 x4 x5 x6 x7 x8 x9 x10 x11 x12
    have y0 := (World.cell?_of_block (HB.out.block _ (cell_lt x0))).trans x0
    have y1 := (World.cell?_of_block (HB.out.block _ (cell_lt x1))).trans x1
    have y2 := (World.cell?_of_block (HB.out.block _ (cell_lt x2))).trans x2
    have y3 := (World.cell?_of_block (HB.out.block _ (cell_lt x3))).trans x3
    have y4 := (World.cell?_of_block (HB.out.block _ (cell_lt x4))).trans x4
    have y5 := (World.cell?_of_block (HB.out.block _ (cell_lt x5))).trans x5
    have y6 := (World.cell?_of_block (HB.out.block _ (cell_lt x6))).trans x6
    have y7 := (World.cell?_of_block (HB.out.block _ (cell_lt x7))).trans x7
    have y8 := (World.cell?_of_block (HB.out.block _ (cell_lt x8))).trans x8
    have y9 := (World.cell?_of_block (HB.out.block _ (cell_lt x9))).trans x9
    have y10 := (World.cell?_of_block (HB.out.block _ (cell_lt x10))).trans x10
    have y11 := (World.cell?_of_block (HB.out.block _ (cell_lt x11))).trans x11
    have y12 := (World.cell?_of_block (HB.out.block _ (cell_lt x12))).trans x12
    clear x0 x1 x2 x3 x4 x5 x6 x7 x8 x9 x10 x11 x12
    replace hp := eq_true hp
    replace hq0 := eq_true hq0
    have HXR := Aside0.mk (heap_alloc_new wr (.cells (stmC X (.slice Ax X.f6.length cx)) 55))
    have HBa := Aside0.mk (below_alloc HB.out (.cells (stmC X (.slice Ax X.f6.length cx)) 55))
    have hbw := below_alloc (Below.refl wr.heap.size wr) (.cells (stmC X (.slice Ax X.f6.length cx)) 55)
    have HIa := Aside0.mk (bld_below HI.out hbw)
    have HOa := Aside0.mk (HO.out.trans (kept_of_below hbw))
    have HNb := Aside0.mk (Nat.ne_of_gt (bld_lt HI.out))
    have hsz := congrArg List.length HEq.out
    have hLen := HL.out
    simp only [List.length_append, Lib.strCells_length] at hsz
    have hso := HOo.out
    have hsz2 := congrArg ByteArray.size hso
    have e1 : (⟨#[10]⟩ : ByteArray).size = 1 := rfl
    simp only [app_size, e1] at hsz2
    have kk1 := no_big (show ins.size + s.size ≤ _ from by omega)
    have kk2 := no_big (show ins.size + s.size + 1 ≤ _ from by omega)
    have kl : bs'.length + ((ins ++ s) ++ ⟨#[10]⟩ : ByteArray).size ≤ 140737488355328 := by simp only [app_size, e1]; omega
    have HLen := Aside0.mk hLen
    have HS2 := Aside0.mk hsz
    have HS3 := Aside0.mk hsz2
    have HKl := Aside0.mk kl
    clear hsz hLen hso hsz2 e1 hbw kl HO HI
    have HLine := Aside0.mk (fun (W : World) (g : Glob W) => line_calls X (.slice Ax X.f6.length cx) s W HLi.out g)
    clear HLi
    simp only [stmC] at HXR HBa HIa HOa HLine
    by_cases h7 : X.f0 = 7
    · have hb7 : (X.f0 == 7) = true := by simpa using h7
      have hk7 : ((rec (ins ++ ⟨#[32, 32]⟩) X.f6).bind fun t => some (t ++ (ins ++ ⟨#[125, 10]⟩))) = some t := by have := HKi.out; unfold kidsW at this; rw [if_pos h7] at this; exact this
      obtain ⟨t', ht', hte⟩ := Option.bind_eq_some_iff.1 hk7
      have HRk := Aside0.mk ht'
      have HTe := Aside0.mk (Option.some.inj hte)
      have e2 : (⟨#[125, 10]⟩ : ByteArray).size = 2 := rfl
      have e3 : (⟨#[10]⟩ : ByteArray).size = 1 := rfl
      have hz1 := congrArg ByteArray.size HTe.out
      simp only [app_size, e2] at hz1
      have hz2 := HS2.out
      have hz3 := HS3.out
      have hz4 := HLen.out
      have kk3 := no_big (show ins.size + 2 ≤ _ from by omega)
      have kb1 : (bs' ++ Lib.strCells ((ins ++ s) ++ ⟨#[10]⟩ : ByteArray)).length + t'.size ≤ 140737488355328 := by simp only [List.length_append, Lib.strCells_length, app_size, e3]; omega
      have kb2 : ((bs' ++ Lib.strCells ((ins ++ s) ++ ⟨#[10]⟩ : ByteArray)) ++ Lib.strCells t').length + (ins ++ ⟨#[125, 10]⟩ : ByteArray).size ≤ 140737488355328 := by simp only [List.length_append, Lib.strCells_length, app_size, e2, e3]; omega
      have HKb1 := Aside0.mk kb1
      have HKb2 := Aside0.mk kb2
      clear HKi h7 hk7 ht' hte e2 e3 hz1 hz2 hz3 hz4 kb1 kb2
      go_wp2_with fail
      (with_reducible refine (HLine.out _ (HG.out.below HBa.out)).mono ?_)
      rintro e w1 ⟨rfl, hb⟩
      have HB1 := Aside0.mk (below_step HBa.out hb)
      have HI1 := Aside0.mk (bld_below HIa.out hb)
      have HO1 := Aside0.mk (HOa.out.trans (kept_of_below hb))
      have HX1 := Aside0.mk (blk_below HXR.out hb)
      clear hb HBa HIa HOa HXR HLine y0 y1 y2 y3 y4 y5 y6 y7 y8 y9 y10 y11 y12
      go_wp2_with fail
      (with_reducible refine (WriteString_calls w0.heap.size b bs' _ _ HI1.out HKl.out (below_size HB1.out)).mono ?_)
      rintro e w2 ⟨rfl, h1, h2, h3⟩
      have HB2 := Aside0.mk (HB1.out.trans h2)
      have HI2 := Aside0.mk (show Lib.IsBuilderF 63 5 w0.heap.size b (bs' ++ Lib.strCells ((ins ++ s) ++ ⟨#[10]⟩ : ByteArray)) w2 from .inr h1)
      have HO2 := Aside0.mk (HO1.out.trans h3)
      have HX2 := Aside0.mk (kept_blk h3 HX1.out HNb.out)
      clear h1 h2 h3 HB1 HI1 HO1 HX1
      have hz := row_held (x := X) (v := .slice Ax X.f6.length cx) HX2.out
      go_split_ands
      go_wp2_with fail
      (with_reducible refine (HE.out Ax cx X.f6 _ _ t' _ HCX.out hlx HB2.out HI2.out HRk.out HKb1.out).mono ?_)
      rintro e w3 ⟨rfl, h1, h2, h3⟩
      have HB3 := Aside0.mk h2
      have HI3 := Aside0.mk h1
      have HO3 := Aside0.mk (HO2.out.trans h3)
      clear h1 h2 h3 HB2 HI2 HO2
      go_wp2_with fail
      (with_reducible refine (WriteString_calls w0.heap.size b _ _ _ HI3.out HKb2.out (below_size HB3.out)).mono ?_)
      rintro e w4 ⟨rfl, h1, h2, h3⟩
      have HB4 := Aside0.mk (HB3.out.trans h2)
      have HI4 := Aside0.mk (show Lib.IsBuilderF 63 5 w0.heap.size b (((bs' ++ Lib.strCells ((ins ++ s) ++ ⟨#[10]⟩ : ByteArray)) ++ Lib.strCells t') ++ Lib.strCells (ins ++ ⟨#[125, 10]⟩ : ByteArray)) w4 from .inr h1)
      have HO4 := Aside0.mk (HO3.out.trans h3)
      clear h1 h2 h3 HB3 HI3 HO3
      go_wp2_with fail
      go_roundg k1
      case measure => omega
      case rel =>
       refine ⟨i + 1, _, u, by first | rfl | (simp; done), ⟨by omega, HRe.out, ?_, HI4.out, HB4.out, HO4.out⟩⟩
       rw [← HEq.out, ← HOo.out, ← HTe.out]
       simp only [strCells_append, strCells_empty, List.append_nil, List.append_assoc]
    · have hb7 : (X.f0 == 7) = false := by simpa using h7
      have HK7 := Aside0.mk (show (⟨#[]⟩ : ByteArray) = t from by have := HKi.out; unfold kidsW at this; rw [if_neg h7] at this; exact Option.some.inj this)
      clear HKi h7
      go_wp2_with fail
      (with_reducible refine (HLine.out _ (HG.out.below HBa.out)).mono ?_)
      rintro e w1 ⟨rfl, hb⟩
      have HB1 := Aside0.mk (below_step HBa.out hb)
      have HI1 := Aside0.mk (bld_below HIa.out hb)
      have HO1 := Aside0.mk (HOa.out.trans (kept_of_below hb))
      have HX1 := Aside0.mk (blk_below HXR.out hb)
      clear hb HBa HIa HOa HXR HLine y0 y1 y2 y3 y4 y5 y6 y7 y8 y9 y10 y11 y12
      go_wp2_with fail
      (with_reducible refine (WriteString_calls w0.heap.size b bs' _ _ HI1.out HKl.out (below_size HB1.out)).mono ?_)
      rintro e w2 ⟨rfl, h1, h2, h3⟩
      have HB2 := Aside0.mk (HB1.out.trans h2)
      have HI2 := Aside0.mk (show Lib.IsBuilderF 63 5 w0.heap.size b (bs' ++ Lib.strCells ((ins ++ s) ++ ⟨#[10]⟩ : ByteArray)) w2 from .inr h1)
      have HO2 := Aside0.mk (HO1.out.trans h3)
      have HX2 := Aside0.mk (kept_blk h3 HX1.out HNb.out)
      clear h1 h2 h3 HB1 HI1 HO1 HX1
      have hz := row_held (x := X) (v := .slice Ax X.f6.length cx) HX2.out
      go_split_ands
      go_wp2_with fail
      go_roundg k1
      case measure => omega
      case rel =>
       refine ⟨i + 1, _, u, by first | rfl | (simp; done), ⟨by omega, HRe.out, ?_, HI2.out, HB2.out, HO2.out⟩⟩
       rw [← HEq.out, ← HOo.out, ← HK7.out]
       simp only [strCells_append, strCells_empty, List.append_nil, List.append_assoc]
theorem written_calls (w0 : World) (hG : Glob w0) (b : Nat) : ∀ k, WrC w0 b (writtenF k)
 | 0 => fun A c l ins bs out W _ _ _ _ h => by simp [writtenF] at h
 | k + 1 => written_step w0 hG b (writtenF k) ⟨written_calls w0 hG b k⟩
def parser_Format.f (k : Nat) (l0 : List S55) : Option ByteArray := (writtenF k ⟨#[]⟩ l0).bind fun s => if s.size ≤ 140737488355328 then some s else none
theorem parser_Format.mono (l0 : List S55) (k : Nat) : LeO (parser_Format.f k l0) (parser_Format.f (k + 1) l0) := LeO.bind (written_le k _ l0) fun _ => LeO.refl _
set_option maxHeartbeats 1000000 in
set_option maxRecDepth 100000 in
theorem parser_Format.calls (k : Nat) (A0 : Option Addr) (c0 : Nat) (l0 : List S55) (r : ByteArray) (w : World) (hr0 : Kd.C k55 w A0 l0.length l0) (hc0 : l0.length ≤ c0) (h : parser_Format.f k l0 = some r) (hG : Glob w) :
 Calls Tryd.prog 13 #[.slice A0 l0.length c0] w fun e w' => e = .returned (.string r) ∧ Below w.heap.size w w' := by
 obtain ⟨s, hs, h2⟩ := Option.bind_eq_some_iff.1 h
 split at h2
 · rename_i hsz
   obtain rfl := Option.some.inj h2
   have HS := Aside0.mk hs
   have HC := Aside0.mk hr0
   have HG := Aside0.mk hG
   have HZ := Aside0.mk hsz
   have HB := Aside0.mk (below_alloc (Below.refl w.heap.size w) (.cells #[.pointer none, .slice none 0 0] 63))
   have HI : Aside0 (Lib.IsBuilderF 63 5 w.heap.size w.heap.size [] (w.alloc (.cells #[.pointer none, .slice none 0 0] 63))) :=
    ⟨.inl ⟨Nat.le_refl _, .slice none 0 0, heap_alloc_new w _, World.ownsRowF_of (World.ownsRow_nil _ _ _ _), by simp [Value.ownBlock]⟩⟩
   clear h h2 hs hr0 hG hsz
   go_enter Tryd.func13, Tryd.ntmps13
   go_wp2_with fail
   (with_reducible refine (written_calls w HG.out w.heap.size k A0 c0 l0 _ [] s _ HC.out hc0 HB.out HI.out HS.out (by simpa using HZ.out)).mono ?_)
   rintro e w1 ⟨rfl, h1, h2, h3⟩
   have HI1 := Aside0.mk h1
   have HB1 := Aside0.mk h2
   clear h1 h2 h3
   go_wp2_with fail
   refine (Tryd.Builder_String_any_k w.heap.size w.heap.size s.data.toList _ HI1.out (below_size HB1.out)).mono ?_
   rintro e w2 ⟨rfl, h1, h2, h3⟩
   have HB2 := Aside0.mk (HB1.out.trans h2)
   clear h1 h2 h3
   go_wp2_with fail
   go_ret
   exact ⟨rfl, HB2.out⟩
 · simp at h2
end Go.Proofs.YtonhcfecfifghaaDoor.PPx
namespace Go.Proofs.YtonhcfecfifghaaDoor.PPx
open Go.RowKit Go.Proofs.YtonhcfecfifghaaDoorW.PrintWords Go.Proofs.YtonhcfecfifghaaDoorW.PrintLast Go.Proofs.YtonhcfecfifghaaDoorW.PrintMore
set_option linter.unusedVariables false
set_option linter.unusedSimpArgs false
attribute [local go_sem high] eqA35
mutual
def parser_count.l0 : Nat → Int → Int → List (S55) → Int → Int → Option (Int)
 | 0, _, _, _, _, _ => none
 | k + 1, x1, x5, x8, x9, x10 => if x10 < x9 then (if 0 ≤ x10 then (if x10 < (x8.length : Int) then (if (wrap64 (x5 + 1)) > 64 then (parser_count.j1 k x1 (wrap64 (x5 + 1)) x8 x9 x10 true ((rd_T55 x8 x10).f0) ((rd_T55 x8 x10).f1) ((rd_T55 x8 x10).f2) ((rd_T55 x8 x10).f3) ((rd_T55 x8 x10).f4) ((rd_T55 x8 x10).f5.f0.f0) ((rd_T55 x8 x10).f5.f0.f1) ((rd_T55 x8 x10).f5.f0.f2) ((rd_T55 x8 x10).f5.f1.f0) ((rd_T55 x8 x10).f5.f1.f1) ((rd_T55 x8 x10).f5.f1.f2) ((rd_T55 x8 x10).f6) ((rd_T55 x8 x10).f7)) else (if ((rd_T55 x8 x10).f0) = 7 then (if x1 = 4 then (parser_count.j1 k x1 (wrap64 (x5 + 1)) x8 x9 x10 true ((rd_T55 x8 x10).f0) ((rd_T55 x8 x10).f1) ((rd_T55 x8 x10).f2) ((rd_T55 x8 x10).f3) ((rd_T55 x8 x10).f4) ((rd_T55 x8 x10).f5.f0.f0) ((rd_T55 x8 x10).f5.f0.f1) ((rd_T55 x8 x10).f5.f0.f2) ((rd_T55 x8 x10).f5.f1.f0) ((rd_T55 x8 x10).f5.f1.f1) ((rd_T55 x8 x10).f5.f1.f2) ((rd_T55 x8 x10).f6) ((rd_T55 x8 x10).f7)) else ((parser_plain.f k ((rd_T55 x8 x10).f0) ((rd_T55 x8 x10).f1) ((rd_T55 x8 x10).f2) ((rd_T55 x8 x10).f3) ((rd_T55 x8 x10).f4) ((rd_T55 x8 x10).f5.f0.f0) ((rd_T55 x8 x10).f5.f0.f1) ((rd_T55 x8 x10).f5.f0.f2) ((rd_T55 x8 x10).f5.f1.f0) ((rd_T55 x8 x10).f5.f1.f1) ((rd_T55 x8 x10).f5.f1.f2) ((rd_T55 x8 x10).f6) ((rd_T55 x8 x10).f7)).bind fun t128 => (parser_count.j1 k x1 (wrap64 (x5 + 1)) x8 x9 x10 (!t128) ((rd_T55 x8 x10).f0) ((rd_T55 x8 x10).f1) ((rd_T55 x8 x10).f2) ((rd_T55 x8 x10).f3) ((rd_T55 x8 x10).f4) ((rd_T55 x8 x10).f5.f0.f0) ((rd_T55 x8 x10).f5.f0.f1) ((rd_T55 x8 x10).f5.f0.f2) ((rd_T55 x8 x10).f5.f1.f0) ((rd_T55 x8 x10).f5.f1.f1) ((rd_T55 x8 x10).f5.f1.f2) ((rd_T55 x8 x10).f6) ((rd_T55 x8 x10).f7)))) else ((parser_plain.f k ((rd_T55 x8 x10).f0) ((rd_T55 x8 x10).f1) ((rd_T55 x8 x10).f2) ((rd_T55 x8 x10).f3) ((rd_T55 x8 x10).f4) ((rd_T55 x8 x10).f5.f0.f0) ((rd_T55 x8 x10).f5.f0.f1) ((rd_T55 x8 x10).f5.f0.f2) ((rd_T55 x8 x10).f5.f1.f0) ((rd_T55 x8 x10).f5.f1.f1) ((rd_T55 x8 x10).f5.f1.f2) ((rd_T55 x8 x10).f6) ((rd_T55 x8 x10).f7)).bind fun t129 => (parser_count.j1 k x1 (wrap64 (x5 + 1)) x8 x9 x10 (!t129) ((rd_T55 x8 x10).f0) ((rd_T55 x8 x10).f1) ((rd_T55 x8 x10).f2) ((rd_T55 x8 x10).f3) ((rd_T55 x8 x10).f4) ((rd_T55 x8 x10).f5.f0.f0) ((rd_T55 x8 x10).f5.f0.f1) ((rd_T55 x8 x10).f5.f0.f2) ((rd_T55 x8 x10).f5.f1.f0) ((rd_T55 x8 x10).f5.f1.f1) ((rd_T55 x8 x10).f5.f1.f2) ((rd_T55 x8 x10).f6) ((rd_T55 x8 x10).f7))))) else (none)) else (none)) else (some x5)
def parser_count.j1 : Nat → Int → Int → List (S55) → Int → Int → Bool → Int → Int → ByteArray → ByteArray → Int → Int → Int → Int → Int → Int → Int → List (S55) → Int → Option (Int)
 | 0, _, _, _, _, _, _, _, _, _, _, _, _, _, _, _, _, _, _, _ => none
 | k + 1, x1, x5, x8, x9, x10, x31, x128000, x128001, x128002, x128003, x128004, x128005, x128006, x128007, x128008, x128009, x128010, x128011, x128012 => if x31 = true then (some 65) else (if x128000 = 7 then ((parser_count.f k x128011 (wrap64 (x1 + 1))).bind fun t130 => (parser_count.l0 k x1 (wrap64 (x5 + t130)) x8 x9 (wrap64 (x10 + 1)))) else (parser_count.l0 k x1 x5 x8 x9 (wrap64 (x10 + 1))))
def parser_count.f : Nat → List (S55) → Int → Option (Int)
 | 0, _, _ => none
 | k + 1, l0, a1 => parser_count.l0 k a1 0 l0 (l0.length : Int) 0
end
theorem parser_count.mono_l : ∀ k, (∀ y0 y1, LeO (parser_count.f k y0 y1) (parser_count.f (k + 1) y0 y1)) ∧ (∀ y0 y1 y2 y3 y4, LeO (parser_count.l0 k y0 y1 y2 y3 y4) (parser_count.l0 (k + 1) y0 y1 y2 y3 y4)) ∧ (∀ y0 y1 y2 y3 y4 y5 y6 y7 y8 y9 y10 y11 y12 y13 y14 y15 y16 y17 y18, LeO (parser_count.j1 k y0 y1 y2 y3 y4 y5 y6 y7 y8 y9 y10 y11 y12 y13 y14 y15 y16 y17 y18) (parser_count.j1 (k + 1) y0 y1 y2 y3 y4 y5 y6 y7 y8 y9 y10 y11 y12 y13 y14 y15 y16 y17 y18))
 | 0 => ⟨fun _ _ r h => by simp [parser_count.f] at h, fun _ _ _ _ _ r h => by simp [parser_count.l0] at h, fun _ _ _ _ _ _ _ _ _ _ _ _ _ _ _ _ _ _ _ r h => by simp [parser_count.j1] at h⟩
 | k + 1 => by
  obtain ⟨ih0, ih1, ih2⟩ := parser_count.mono_l k
  refine ⟨?_, ?_, ?_⟩
  · intro y0 y1
    unfold parser_count.f
    repeat' first
    | (with_reducible exact ih0 _ _)
    | (with_reducible exact ih1 _ _ _ _ _)
    | (with_reducible exact ih2 _ _ _ _ _ _ _ _ _ _ _ _ _ _ _ _ _ _ _)
    | (with_reducible exact parser_plain.mono _ _ _ _ _ _ _ _ _ _ _ _ _ _)
    | (with_reducible exact LeO.refl _)
    | (with_reducible exact LeO.none _)
    | (with_reducible refine LeO.ite ?_ ?_)
    | (with_reducible refine LeO.bind ?_ (fun _ => ?_))
    | exact ih0 _ _
    | exact ih1 _ _ _ _ _
    | exact ih2 _ _ _ _ _ _ _ _ _ _ _ _ _ _ _ _ _ _ _
    | exact parser_plain.mono _ _ _ _ _ _ _ _ _ _ _ _ _ _
    | exact LeO.none _
    | refine LeO.ite ?_ ?_
    | refine LeO.bind ?_ (fun _ => ?_)
  · intro y0 y1 y2 y3 y4
    unfold parser_count.l0
    repeat' first
    | (with_reducible exact ih0 _ _)
    | (with_reducible exact ih1 _ _ _ _ _)
    | (with_reducible exact ih2 _ _ _ _ _ _ _ _ _ _ _ _ _ _ _ _ _ _ _)
    | (with_reducible exact parser_plain.mono _ _ _ _ _ _ _ _ _ _ _ _ _ _)
    | (with_reducible exact LeO.refl _)
    | (with_reducible exact LeO.none _)
    | (with_reducible refine LeO.ite ?_ ?_)
    | (with_reducible refine LeO.bind ?_ (fun _ => ?_))
    | exact ih0 _ _
    | exact ih1 _ _ _ _ _
    | exact ih2 _ _ _ _ _ _ _ _ _ _ _ _ _ _ _ _ _ _ _
    | exact parser_plain.mono _ _ _ _ _ _ _ _ _ _ _ _ _ _
    | exact LeO.none _
    | refine LeO.ite ?_ ?_
    | refine LeO.bind ?_ (fun _ => ?_)
  · intro y0 y1 y2 y3 y4 y5 y6 y7 y8 y9 y10 y11 y12 y13 y14 y15 y16 y17 y18
    unfold parser_count.j1
    repeat' first
    | (with_reducible exact ih0 _ _)
    | (with_reducible exact ih1 _ _ _ _ _)
    | (with_reducible exact ih2 _ _ _ _ _ _ _ _ _ _ _ _ _ _ _ _ _ _ _)
    | (with_reducible exact parser_plain.mono _ _ _ _ _ _ _ _ _ _ _ _ _ _)
    | (with_reducible exact LeO.refl _)
    | (with_reducible exact LeO.none _)
    | (with_reducible refine LeO.ite ?_ ?_)
    | (with_reducible refine LeO.bind ?_ (fun _ => ?_))
    | exact ih0 _ _
    | exact ih1 _ _ _ _ _
    | exact ih2 _ _ _ _ _ _ _ _ _ _ _ _ _ _ _ _ _ _ _
    | exact parser_plain.mono _ _ _ _ _ _ _ _ _ _ _ _ _ _
    | exact LeO.none _
    | refine LeO.ite ?_ ?_
    | refine LeO.bind ?_ (fun _ => ?_)
theorem parser_count.mono : ∀ a0 a1 k, LeO (parser_count.f k a0 a1) (parser_count.f (k + 1) a0 a1) := by
 intro a0 a1 k
 obtain ⟨ih0, ih1, ih2⟩ := parser_count.mono_l k
 exact ih0 a0 a1
set_option maxHeartbeats 8000000 in
set_option maxRecDepth 100000 in
theorem parser_count.calls (k : Nat) : ∀ (A0 : Option Addr) (c0 : Nat) (l0 : List (S55)) (a1 : Int) (r : Int) (w : World) (hr0 : Kd.C k55 w A0 l0.length l0) (hc0 : l0.length ≤ c0) (h : parser_count.f k l0 a1 = some r) (hG : Glob w),
 Calls Tryd.prog 21 #[.slice A0 l0.length c0, .int .i64 a1] w fun e w' => e = .returned (.int .i64 r) ∧ Below w.heap.size w w' := by
 induction k using Nat.strongRecOn with
 | _ k ih =>
 intro A0 c0 l0 a1 r w hr0 hc0 h hG
 have HGL := Aside0.mk hG
 clear hG
 cases k with
 | zero => exact absurd h (by simp [parser_count.f])
 | succ k =>
 simp only [parser_count.f] at h
 have hu55 := Tryd.underlying55
 have HR0 := Aside0.mk hr0
 have HC0 := Aside0.mk hc0
 clear hr0 hc0
 have HB := Aside0.mk (Below.refl w.heap.size w)
 have H : (parser_count.l0 k a1 0 l0 (l0.length : Int) 0) = some r := h
 clear h
 have H' := Aside0.mk H
 clear H
 go_enter Tryd.func21, Tryd.ntmps21
 go_wp2
 go_loopg [5, 10] k (fun kq v5 v10 w' => ∃ (x5_1 : Int) (x10_1 : Int), v5 = .int .i64 x5_1 ∧ v10 = .int .i64 x10_1 ∧ Aside0 (parser_count.l0 kq a1 x5_1 l0 (l0.length : Int) x10_1 = some r) ∧ Aside0 (kq ≤ k) ∧ Aside0 (Below w.heap.size w w'))
 case atStart => exact ⟨(0), (0), (by first | rfl | (simp; done) | (simp [*]; done)), (by first | rfl | (simp; done) | (simp [*]; done)), H', ⟨Nat.le_refl _⟩, ⟨by repeat (first | (with_reducible first | exact HB.out | apply below_alloc | apply pw_below_drewN | apply below_drew1) | exact HB.out)⟩⟩
 case round =>
  clear H'
  try clear c2
  try clear p2
  obtain ⟨x5_1, x10_1, rfl, rfl, HA, HK1, HB⟩ := hrel
  cases gk with
  | zero => exact absurd HA.out (by simp [parser_count.l0])
  | succ k1 =>
   have H := HA.out
   clear HA
   simp only [parser_count.l0] at H
   by_cases c3 : x10_1 < (l0.length : Int)
   · rw [if_pos c3] at H
     have c3b0 : decide (x10_1 < (l0.length : Int)) = true := decide_eq_true c3
     clear c3
     by_cases c4 : 0 ≤ x10_1
     · rw [if_pos c4] at H
       have c4b0 : decide (0 ≤ x10_1) = true := decide_eq_true c4
       clear c4
       by_cases c5 : x10_1 < (l0.length : Int)
       · rw [if_pos c5] at H
         have c5b0 : decide (x10_1 < (l0.length : Int)) = true := decide_eq_true c5
         clear c5
         have HC6 := Aside0.mk H
         clear H
         have p126 : 0 ≤ (x10_1 : Int) := of_decide_eq_true (by first | (with_reducible assumption) | assumption)
         have q126 : x10_1 < (l0.length : Int) := of_decide_eq_true (by first | (with_reducible assumption) | assumption)
         obtain ⟨ad126, A126_11, c126_11, e126, hx126_0, hx126_1, hx126_2, hx126_3, hx126_4, hx126_5, hx126_6, hx126_7, hx126_8, hx126_9, hx126_10, hx126_11, hx126_12, hl126_11, hi126_11⟩ := at_T55 HR0.out x10_1 p126 q126
         cases e126
         replace hx126_0 := (HB.out.cell (World.block_lt_of_cell? w _ hx126_0)).trans hx126_0
         replace hx126_1 := (HB.out.cell (World.block_lt_of_cell? w _ hx126_1)).trans hx126_1
         replace hx126_2 := (HB.out.cell (World.block_lt_of_cell? w _ hx126_2)).trans hx126_2
         replace hx126_3 := (HB.out.cell (World.block_lt_of_cell? w _ hx126_3)).trans hx126_3
         replace hx126_4 := (HB.out.cell (World.block_lt_of_cell? w _ hx126_4)).trans hx126_4
         replace hx126_5 := (HB.out.cell (World.block_lt_of_cell? w _ hx126_5)).trans hx126_5
         replace hx126_6 := (HB.out.cell (World.block_lt_of_cell? w _ hx126_6)).trans hx126_6
         replace hx126_7 := (HB.out.cell (World.block_lt_of_cell? w _ hx126_7)).trans hx126_7
         replace hx126_8 := (HB.out.cell (World.block_lt_of_cell? w _ hx126_8)).trans hx126_8
         replace hx126_9 := (HB.out.cell (World.block_lt_of_cell? w _ hx126_9)).trans hx126_9
         replace hx126_10 := (HB.out.cell (World.block_lt_of_cell? w _ hx126_10)).trans hx126_10
         replace hx126_11 := (HB.out.cell (World.block_lt_of_cell? w _ hx126_11)).trans hx126_11
         replace hx126_12 := (HB.out.cell (World.block_lt_of_cell? w _ hx126_12)).trans hx126_12
         have HR126_11 := Aside0.mk hi126_11
         have HC126_11 := Aside0.mk hl126_11
         clear hi126_11 hl126_11
         replace p126 := eq_true p126
         replace q126 := eq_true q126
         go_upto_region 6 with (first | ((with_reducible refine gate_dst (N := 7) rfl ?_); refine box_event ?hg (N := 7) ?hd (cs := #[.int .i64 0, .int .i64 0, .string (⟨#[]⟩ : ByteArray), .string (⟨#[]⟩ : ByteArray), .int .i64 0, .int .i64 0, .int .i64 0, .int .i64 0, .int .i64 0, .int .i64 0, .int .i64 0, .slice none 0 0, .int .i64 0]) (t := 55) ?hr ?_; (case hd => rfl); (case hg => rfl); (case hr => first | (go_simp; done) | (go_simp; rfl)); intro gb127 hg w7 hbox hb; have n0_ := Aside0.mk (below_step (by repeat (first | (with_reducible first | exact HB.out | apply below_alloc | apply pw_below_drewN | apply below_drew1) | exact HB.out)) hb); have n1_ := Aside0.mk (hbox); have n2_ := Aside0.mk ((by rw [hg]; exact (below_size (by repeat (first | (with_reducible first | exact HB.out | apply below_alloc | apply pw_below_drewN | apply below_drew1) | exact HB.out))) : w.heap.size ≤ gb127)); have n3_ := Aside0.mk ((by rw [hg]; exact (below_size (by repeat (first | (with_reducible first | exact HB.out | apply below_alloc | apply pw_below_drewN | apply below_drew1) | exact HB.out))) : w.heap.size ≤ gb127)); clear HB; have HB := n0_; have BK127 := n1_; have GW127 := n2_; have GE127 := n3_; clear n0_ n1_ n2_ n3_; clear hb hbox hg; have hcz8_0 : w7.cell? ⟨gb127, 0, none⟩ = some (.int .i64 0) := (blk_cell BK127.out 0).trans rfl; have hcz8_1 : w7.cell? ⟨gb127, 1, none⟩ = some (.int .i64 0) := (blk_cell BK127.out 1).trans rfl; have hcz8_2 : w7.cell? ⟨gb127, 2, none⟩ = some (.string (⟨#[]⟩ : ByteArray)) := (blk_cell BK127.out 2).trans rfl; have hcz8_3 : w7.cell? ⟨gb127, 3, none⟩ = some (.string (⟨#[]⟩ : ByteArray)) := (blk_cell BK127.out 3).trans rfl; have hcz8_4 : w7.cell? ⟨gb127, 4, none⟩ = some (.int .i64 0) := (blk_cell BK127.out 4).trans rfl; have hcz8_5 : w7.cell? ⟨gb127, 5, none⟩ = some (.int .i64 0) := (blk_cell BK127.out 5).trans rfl; have hcz8_6 : w7.cell? ⟨gb127, 6, none⟩ = some (.int .i64 0) := (blk_cell BK127.out 6).trans rfl; have hcz8_7 : w7.cell? ⟨gb127, 7, none⟩ = some (.int .i64 0) := (blk_cell BK127.out 7).trans rfl; have hcz8_8 : w7.cell? ⟨gb127, 8, none⟩ = some (.int .i64 0) := (blk_cell BK127.out 8).trans rfl; have hcz8_9 : w7.cell? ⟨gb127, 9, none⟩ = some (.int .i64 0) := (blk_cell BK127.out 9).trans rfl; have hcz8_10 : w7.cell? ⟨gb127, 10, none⟩ = some (.int .i64 0) := (blk_cell BK127.out 10).trans rfl; have hcz8_11 : w7.cell? ⟨gb127, 11, none⟩ = some (.slice none 0 0) := (blk_cell BK127.out 11).trans rfl; have hcz8_12 : w7.cell? ⟨gb127, 12, none⟩ = some (.int .i64 0) := (blk_cell BK127.out 12).trans rfl; have hfz8_0 := blk_frozen BK127.out 0; have hfz8_1 := blk_frozen BK127.out 1; have hfz8_2 := blk_frozen BK127.out 2; have hfz8_3 := blk_frozen BK127.out 3; have hfz8_4 := blk_frozen BK127.out 4; have hfz8_5 := blk_frozen BK127.out 5; have hfz8_6 := blk_frozen BK127.out 6; have hfz8_7 := blk_frozen BK127.out 7; have hfz8_8 := blk_frozen BK127.out 8; have hfz8_9 := blk_frozen BK127.out 9; have hfz8_10 := blk_frozen BK127.out 10; have hfz8_11 := blk_frozen BK127.out 11; have hfz8_12 := blk_frozen BK127.out 12))
         (try simp only [Act.put, List.setIfInBounds_toArray, List.set_cons_zero, List.set_cons_succ])
         go_cut [31] (fun v31 wc => ∃ (kq : Nat) (x31_5 : Bool), v31 = .bool x31_5 ∧ Aside0 (parser_count.j1 kq a1 (wrap64 (x5_1 + 1)) l0 (l0.length : Int) x10_1 x31_5 ((rd_T55 l0 x10_1).f0) ((rd_T55 l0 x10_1).f1) ((rd_T55 l0 x10_1).f2) ((rd_T55 l0 x10_1).f3) ((rd_T55 l0 x10_1).f4) ((rd_T55 l0 x10_1).f5.f0.f0) ((rd_T55 l0 x10_1).f5.f0.f1) ((rd_T55 l0 x10_1).f5.f0.f2) ((rd_T55 l0 x10_1).f5.f1.f0) ((rd_T55 l0 x10_1).f5.f1.f1) ((rd_T55 l0 x10_1).f5.f1.f2) ((rd_T55 l0 x10_1).f6) ((rd_T55 l0 x10_1).f7) = some r) ∧ Aside0 (kq ≤ k1) ∧ Aside0 (wc.heap[gb127]? = some (.cells #[.int .i64 ((rd_T55 l0 x10_1).f0), .int .i64 ((rd_T55 l0 x10_1).f1), .string ((rd_T55 l0 x10_1).f2), .string ((rd_T55 l0 x10_1).f3), .int .i64 ((rd_T55 l0 x10_1).f4), .int .i64 ((rd_T55 l0 x10_1).f5.f0.f0), .int .i64 ((rd_T55 l0 x10_1).f5.f0.f1), .int .i64 ((rd_T55 l0 x10_1).f5.f0.f2), .int .i64 ((rd_T55 l0 x10_1).f5.f1.f0), .int .i64 ((rd_T55 l0 x10_1).f5.f1.f1), .int .i64 ((rd_T55 l0 x10_1).f5.f1.f2), (.slice A126_11 ((rd_T55 l0 x10_1).f6).length c126_11), .int .i64 ((rd_T55 l0 x10_1).f7)] 55 (0, 0))) ∧ Aside0 (Below w.heap.size w wc))
         case first =>
          have H := HC6.out
          clear HC6
          by_cases c9 : (wrap64 (x5_1 + 1)) > 64
          · rw [if_pos c9] at H
            have c9b0 : decide (64 < (wrap64 (x5_1 + 1))) = true := decide_eq_true c9
            clear c9
            (first | rw [c9b0] | (simp only [i64_w, i32_w]; rw [c9b0]) | skip)
            have H' := Aside0.mk H
            clear H
            go_wp2
            go_meet
            case rel => exact ⟨_, (true), (by first | rfl | (simp; done) | (simp [*]; done)), H', ⟨by have := HK1.out; first | omega | exact Nat.le_refl _⟩, ⟨by (with_reducible repeat (first | refine blk_drewN ?_ _ | refine blk_drew ?_ | refine blk_alloc ?_ _)); refine blk_put (cs := #[.int .i64 ((rd_T55 l0 x10_1).f0), .int .i64 ((rd_T55 l0 x10_1).f1), .string ((rd_T55 l0 x10_1).f2), .string ((rd_T55 l0 x10_1).f3), .int .i64 ((rd_T55 l0 x10_1).f4), .int .i64 ((rd_T55 l0 x10_1).f5.f0.f0), .int .i64 ((rd_T55 l0 x10_1).f5.f0.f1), .int .i64 ((rd_T55 l0 x10_1).f5.f0.f2), .int .i64 ((rd_T55 l0 x10_1).f5.f1.f0), .int .i64 ((rd_T55 l0 x10_1).f5.f1.f1), .int .i64 ((rd_T55 l0 x10_1).f5.f1.f2), .slice A126_11 ((rd_T55 l0 x10_1).f6).length c126_11, .int .i64 0]) ?_ 12 _ rfl; (with_reducible repeat (first | refine blk_drewN ?_ _ | refine blk_drew ?_ | refine blk_alloc ?_ _)); refine blk_put (cs := #[.int .i64 ((rd_T55 l0 x10_1).f0), .int .i64 ((rd_T55 l0 x10_1).f1), .string ((rd_T55 l0 x10_1).f2), .string ((rd_T55 l0 x10_1).f3), .int .i64 ((rd_T55 l0 x10_1).f4), .int .i64 ((rd_T55 l0 x10_1).f5.f0.f0), .int .i64 ((rd_T55 l0 x10_1).f5.f0.f1), .int .i64 ((rd_T55 l0 x10_1).f5.f0.f2), .int .i64 ((rd_T55 l0 x10_1).f5.f1.f0), .int .i64 ((rd_T55 l0 x10_1).f5.f1.f1), .int .i64 ((rd_T55 l0 x10_1).f5.f1.f2), .slice none 0 0, .int .i64 0]) ?_ 11 _ rfl; (with_reducible repeat (first | refine blk_drewN ?_ _ | refine blk_drew ?_ | refine blk_alloc ?_ _)); refine blk_put (cs := #[.int .i64 ((rd_T55 l0 x10_1).f0), .int .i64 ((rd_T55 l0 x10_1).f1), .string ((rd_T55 l0 x10_1).f2), .string ((rd_T55 l0 x10_1).f3), .int .i64 ((rd_T55 l0 x10_1).f4), .int .i64 ((rd_T55 l0 x10_1).f5.f0.f0), .int .i64 ((rd_T55 l0 x10_1).f5.f0.f1), .int .i64 ((rd_T55 l0 x10_1).f5.f0.f2), .int .i64 ((rd_T55 l0 x10_1).f5.f1.f0), .int .i64 ((rd_T55 l0 x10_1).f5.f1.f1), .int .i64 0, .slice none 0 0, .int .i64 0]) ?_ 10 _ rfl; (with_reducible repeat (first | refine blk_drewN ?_ _ | refine blk_drew ?_ | refine blk_alloc ?_ _)); refine blk_put (cs := #[.int .i64 ((rd_T55 l0 x10_1).f0), .int .i64 ((rd_T55 l0 x10_1).f1), .string ((rd_T55 l0 x10_1).f2), .string ((rd_T55 l0 x10_1).f3), .int .i64 ((rd_T55 l0 x10_1).f4), .int .i64 ((rd_T55 l0 x10_1).f5.f0.f0), .int .i64 ((rd_T55 l0 x10_1).f5.f0.f1), .int .i64 ((rd_T55 l0 x10_1).f5.f0.f2), .int .i64 ((rd_T55 l0 x10_1).f5.f1.f0), .int .i64 0, .int .i64 0, .slice none 0 0, .int .i64 0]) ?_ 9 _ rfl; (with_reducible repeat (first | refine blk_drewN ?_ _ | refine blk_drew ?_ | refine blk_alloc ?_ _)); refine blk_put (cs := #[.int .i64 ((rd_T55 l0 x10_1).f0), .int .i64 ((rd_T55 l0 x10_1).f1), .string ((rd_T55 l0 x10_1).f2), .string ((rd_T55 l0 x10_1).f3), .int .i64 ((rd_T55 l0 x10_1).f4), .int .i64 ((rd_T55 l0 x10_1).f5.f0.f0), .int .i64 ((rd_T55 l0 x10_1).f5.f0.f1), .int .i64 ((rd_T55 l0 x10_1).f5.f0.f2), .int .i64 0, .int .i64 0, .int .i64 0, .slice none 0 0, .int .i64 0]) ?_ 8 _ rfl; (with_reducible repeat (first | refine blk_drewN ?_ _ | refine blk_drew ?_ | refine blk_alloc ?_ _)); refine blk_put (cs := #[.int .i64 ((rd_T55 l0 x10_1).f0), .int .i64 ((rd_T55 l0 x10_1).f1), .string ((rd_T55 l0 x10_1).f2), .string ((rd_T55 l0 x10_1).f3), .int .i64 ((rd_T55 l0 x10_1).f4), .int .i64 ((rd_T55 l0 x10_1).f5.f0.f0), .int .i64 ((rd_T55 l0 x10_1).f5.f0.f1), .int .i64 0, .int .i64 0, .int .i64 0, .int .i64 0, .slice none 0 0, .int .i64 0]) ?_ 7 _ rfl; (with_reducible repeat (first | refine blk_drewN ?_ _ | refine blk_drew ?_ | refine blk_alloc ?_ _)); refine blk_put (cs := #[.int .i64 ((rd_T55 l0 x10_1).f0), .int .i64 ((rd_T55 l0 x10_1).f1), .string ((rd_T55 l0 x10_1).f2), .string ((rd_T55 l0 x10_1).f3), .int .i64 ((rd_T55 l0 x10_1).f4), .int .i64 ((rd_T55 l0 x10_1).f5.f0.f0), .int .i64 0, .int .i64 0, .int .i64 0, .int .i64 0, .int .i64 0, .slice none 0 0, .int .i64 0]) ?_ 6 _ rfl; (with_reducible repeat (first | refine blk_drewN ?_ _ | refine blk_drew ?_ | refine blk_alloc ?_ _)); refine blk_put (cs := #[.int .i64 ((rd_T55 l0 x10_1).f0), .int .i64 ((rd_T55 l0 x10_1).f1), .string ((rd_T55 l0 x10_1).f2), .string ((rd_T55 l0 x10_1).f3), .int .i64 ((rd_T55 l0 x10_1).f4), .int .i64 0, .int .i64 0, .int .i64 0, .int .i64 0, .int .i64 0, .int .i64 0, .slice none 0 0, .int .i64 0]) ?_ 5 _ rfl; (with_reducible repeat (first | refine blk_drewN ?_ _ | refine blk_drew ?_ | refine blk_alloc ?_ _)); refine blk_put (cs := #[.int .i64 ((rd_T55 l0 x10_1).f0), .int .i64 ((rd_T55 l0 x10_1).f1), .string ((rd_T55 l0 x10_1).f2), .string ((rd_T55 l0 x10_1).f3), .int .i64 0, .int .i64 0, .int .i64 0, .int .i64 0, .int .i64 0, .int .i64 0, .int .i64 0, .slice none 0 0, .int .i64 0]) ?_ 4 _ rfl; (with_reducible repeat (first | refine blk_drewN ?_ _ | refine blk_drew ?_ | refine blk_alloc ?_ _)); refine blk_put (cs := #[.int .i64 ((rd_T55 l0 x10_1).f0), .int .i64 ((rd_T55 l0 x10_1).f1), .string ((rd_T55 l0 x10_1).f2), .string (⟨#[]⟩ : ByteArray), .int .i64 0, .int .i64 0, .int .i64 0, .int .i64 0, .int .i64 0, .int .i64 0, .int .i64 0, .slice none 0 0, .int .i64 0]) ?_ 3 _ rfl; (with_reducible repeat (first | refine blk_drewN ?_ _ | refine blk_drew ?_ | refine blk_alloc ?_ _)); refine blk_put (cs := #[.int .i64 ((rd_T55 l0 x10_1).f0), .int .i64 ((rd_T55 l0 x10_1).f1), .string (⟨#[]⟩ : ByteArray), .string (⟨#[]⟩ : ByteArray), .int .i64 0, .int .i64 0, .int .i64 0, .int .i64 0, .int .i64 0, .int .i64 0, .int .i64 0, .slice none 0 0, .int .i64 0]) ?_ 2 _ rfl; (with_reducible repeat (first | refine blk_drewN ?_ _ | refine blk_drew ?_ | refine blk_alloc ?_ _)); refine blk_put (cs := #[.int .i64 ((rd_T55 l0 x10_1).f0), .int .i64 0, .string (⟨#[]⟩ : ByteArray), .string (⟨#[]⟩ : ByteArray), .int .i64 0, .int .i64 0, .int .i64 0, .int .i64 0, .int .i64 0, .int .i64 0, .int .i64 0, .slice none 0 0, .int .i64 0]) ?_ 1 _ rfl; (with_reducible repeat (first | refine blk_drewN ?_ _ | refine blk_drew ?_ | refine blk_alloc ?_ _)); refine blk_put (cs := #[.int .i64 0, .int .i64 0, .string (⟨#[]⟩ : ByteArray), .string (⟨#[]⟩ : ByteArray), .int .i64 0, .int .i64 0, .int .i64 0, .int .i64 0, .int .i64 0, .int .i64 0, .int .i64 0, .slice none 0 0, .int .i64 0]) ?_ 0 _ rfl; (with_reducible repeat (first | refine blk_drewN ?_ _ | refine blk_drew ?_ | refine blk_alloc ?_ _)); exact BK127.out⟩, ⟨by repeat (first | (with_reducible first | exact HB.out | apply below_alloc | apply pw_below_drewN | apply below_drew1 | refine below_set ?_ GE127.out) | exact HB.out)⟩⟩
          · rw [if_neg c9] at H
            have c9b0 : decide (64 < (wrap64 (x5_1 + 1))) = false := decide_eq_false c9
            clear c9
            (first | rw [c9b0] | (simp only [i64_w, i32_w]; rw [c9b0]) | skip)
            by_cases c10 : ((rd_T55 l0 x10_1).f0) = 7
            · rw [if_pos c10] at H
              have c10b0 : (((rd_T55 l0 x10_1).f0) == 7) = true := beq_iff_eq.mpr c10
              have c10b1 : (((rd_T55 l0 x10_1).f0) != 7) = false := bne_eq_false_iff_eq.mpr c10
              clear c10
              by_cases c11 : a1 = 4
              · rw [if_pos c11] at H
                have c11b0 : (a1 == 4) = true := beq_iff_eq.mpr c11
                have c11b1 : (a1 != 4) = false := bne_eq_false_iff_eq.mpr c11
                clear c11
                have H' := Aside0.mk H
                clear H
                have hcz12_0 : w7.cell? ⟨gb127, 0, none⟩ = some (.int .i64 0) := (blk_cell BK127.out 0).trans rfl
                have hcz12_1 : w7.cell? ⟨gb127, 1, none⟩ = some (.int .i64 0) := (blk_cell BK127.out 1).trans rfl
                have hcz12_2 : w7.cell? ⟨gb127, 2, none⟩ = some (.string (⟨#[]⟩ : ByteArray)) := (blk_cell BK127.out 2).trans rfl
                have hcz12_3 : w7.cell? ⟨gb127, 3, none⟩ = some (.string (⟨#[]⟩ : ByteArray)) := (blk_cell BK127.out 3).trans rfl
                have hcz12_4 : w7.cell? ⟨gb127, 4, none⟩ = some (.int .i64 0) := (blk_cell BK127.out 4).trans rfl
                have hcz12_5 : w7.cell? ⟨gb127, 5, none⟩ = some (.int .i64 0) := (blk_cell BK127.out 5).trans rfl
                have hcz12_6 : w7.cell? ⟨gb127, 6, none⟩ = some (.int .i64 0) := (blk_cell BK127.out 6).trans rfl
                have hcz12_7 : w7.cell? ⟨gb127, 7, none⟩ = some (.int .i64 0) := (blk_cell BK127.out 7).trans rfl
                have hcz12_8 : w7.cell? ⟨gb127, 8, none⟩ = some (.int .i64 0) := (blk_cell BK127.out 8).trans rfl
                have hcz12_9 : w7.cell? ⟨gb127, 9, none⟩ = some (.int .i64 0) := (blk_cell BK127.out 9).trans rfl
                have hcz12_10 : w7.cell? ⟨gb127, 10, none⟩ = some (.int .i64 0) := (blk_cell BK127.out 10).trans rfl
                have hcz12_11 : w7.cell? ⟨gb127, 11, none⟩ = some (.slice none 0 0) := (blk_cell BK127.out 11).trans rfl
                have hcz12_12 : w7.cell? ⟨gb127, 12, none⟩ = some (.int .i64 0) := (blk_cell BK127.out 12).trans rfl
                have hfz12_0 := blk_frozen BK127.out 0
                have hfz12_1 := blk_frozen BK127.out 1
                have hfz12_2 := blk_frozen BK127.out 2
                have hfz12_3 := blk_frozen BK127.out 3
                have hfz12_4 := blk_frozen BK127.out 4
                have hfz12_5 := blk_frozen BK127.out 5
                have hfz12_6 := blk_frozen BK127.out 6
                have hfz12_7 := blk_frozen BK127.out 7
                have hfz12_8 := blk_frozen BK127.out 8
                have hfz12_9 := blk_frozen BK127.out 9
                have hfz12_10 := blk_frozen BK127.out 10
                have hfz12_11 := blk_frozen BK127.out 11
                have hfz12_12 := blk_frozen BK127.out 12
                go_wp2
                go_meet
                case rel => exact ⟨_, (true), (by first | rfl | (simp; done) | (simp [*]; done)), H', ⟨by have := HK1.out; first | omega | exact Nat.le_refl _⟩, ⟨by (with_reducible repeat (first | refine blk_drewN ?_ _ | refine blk_drew ?_ | refine blk_alloc ?_ _)); refine blk_put (cs := #[.int .i64 ((rd_T55 l0 x10_1).f0), .int .i64 ((rd_T55 l0 x10_1).f1), .string ((rd_T55 l0 x10_1).f2), .string ((rd_T55 l0 x10_1).f3), .int .i64 ((rd_T55 l0 x10_1).f4), .int .i64 ((rd_T55 l0 x10_1).f5.f0.f0), .int .i64 ((rd_T55 l0 x10_1).f5.f0.f1), .int .i64 ((rd_T55 l0 x10_1).f5.f0.f2), .int .i64 ((rd_T55 l0 x10_1).f5.f1.f0), .int .i64 ((rd_T55 l0 x10_1).f5.f1.f1), .int .i64 ((rd_T55 l0 x10_1).f5.f1.f2), .slice A126_11 ((rd_T55 l0 x10_1).f6).length c126_11, .int .i64 0]) ?_ 12 _ rfl; (with_reducible repeat (first | refine blk_drewN ?_ _ | refine blk_drew ?_ | refine blk_alloc ?_ _)); refine blk_put (cs := #[.int .i64 ((rd_T55 l0 x10_1).f0), .int .i64 ((rd_T55 l0 x10_1).f1), .string ((rd_T55 l0 x10_1).f2), .string ((rd_T55 l0 x10_1).f3), .int .i64 ((rd_T55 l0 x10_1).f4), .int .i64 ((rd_T55 l0 x10_1).f5.f0.f0), .int .i64 ((rd_T55 l0 x10_1).f5.f0.f1), .int .i64 ((rd_T55 l0 x10_1).f5.f0.f2), .int .i64 ((rd_T55 l0 x10_1).f5.f1.f0), .int .i64 ((rd_T55 l0 x10_1).f5.f1.f1), .int .i64 ((rd_T55 l0 x10_1).f5.f1.f2), .slice none 0 0, .int .i64 0]) ?_ 11 _ rfl; (with_reducible repeat (first | refine blk_drewN ?_ _ | refine blk_drew ?_ | refine blk_alloc ?_ _)); refine blk_put (cs := #[.int .i64 ((rd_T55 l0 x10_1).f0), .int .i64 ((rd_T55 l0 x10_1).f1), .string ((rd_T55 l0 x10_1).f2), .string ((rd_T55 l0 x10_1).f3), .int .i64 ((rd_T55 l0 x10_1).f4), .int .i64 ((rd_T55 l0 x10_1).f5.f0.f0), .int .i64 ((rd_T55 l0 x10_1).f5.f0.f1), .int .i64 ((rd_T55 l0 x10_1).f5.f0.f2), .int .i64 ((rd_T55 l0 x10_1).f5.f1.f0), .int .i64 ((rd_T55 l0 x10_1).f5.f1.f1), .int .i64 0, .slice none 0 0, .int .i64 0]) ?_ 10 _ rfl; (with_reducible repeat (first | refine blk_drewN ?_ _ | refine blk_drew ?_ | refine blk_alloc ?_ _)); refine blk_put (cs := #[.int .i64 ((rd_T55 l0 x10_1).f0), .int .i64 ((rd_T55 l0 x10_1).f1), .string ((rd_T55 l0 x10_1).f2), .string ((rd_T55 l0 x10_1).f3), .int .i64 ((rd_T55 l0 x10_1).f4), .int .i64 ((rd_T55 l0 x10_1).f5.f0.f0), .int .i64 ((rd_T55 l0 x10_1).f5.f0.f1), .int .i64 ((rd_T55 l0 x10_1).f5.f0.f2), .int .i64 ((rd_T55 l0 x10_1).f5.f1.f0), .int .i64 0, .int .i64 0, .slice none 0 0, .int .i64 0]) ?_ 9 _ rfl; (with_reducible repeat (first | refine blk_drewN ?_ _ | refine blk_drew ?_ | refine blk_alloc ?_ _)); refine blk_put (cs := #[.int .i64 ((rd_T55 l0 x10_1).f0), .int .i64 ((rd_T55 l0 x10_1).f1), .string ((rd_T55 l0 x10_1).f2), .string ((rd_T55 l0 x10_1).f3), .int .i64 ((rd_T55 l0 x10_1).f4), .int .i64 ((rd_T55 l0 x10_1).f5.f0.f0), .int .i64 ((rd_T55 l0 x10_1).f5.f0.f1), .int .i64 ((rd_T55 l0 x10_1).f5.f0.f2), .int .i64 0, .int .i64 0, .int .i64 0, .slice none 0 0, .int .i64 0]) ?_ 8 _ rfl; (with_reducible repeat (first | refine blk_drewN ?_ _ | refine blk_drew ?_ | refine blk_alloc ?_ _)); refine blk_put (cs := #[.int .i64 ((rd_T55 l0 x10_1).f0), .int .i64 ((rd_T55 l0 x10_1).f1), .string ((rd_T55 l0 x10_1).f2), .string ((rd_T55 l0 x10_1).f3), .int .i64 ((rd_T55 l0 x10_1).f4), .int .i64 ((rd_T55 l0 x10_1).f5.f0.f0), .int .i64 ((rd_T55 l0 x10_1).f5.f0.f1), .int .i64 0, .int .i64 0, .int .i64 0, .int .i64 0, .slice none 0 0, .int .i64 0]) ?_ 7 _ rfl; (with_reducible repeat (first | refine blk_drewN ?_ _ | refine blk_drew ?_ | refine blk_alloc ?_ _)); refine blk_put (cs := #[.int .i64 ((rd_T55 l0 x10_1).f0), .int .i64 ((rd_T55 l0 x10_1).f1), .string ((rd_T55 l0 x10_1).f2), .string ((rd_T55 l0 x10_1).f3), .int .i64 ((rd_T55 l0 x10_1).f4), .int .i64 ((rd_T55 l0 x10_1).f5.f0.f0), .int .i64 0, .int .i64 0, .int .i64 0, .int .i64 0, .int .i64 0, .slice none 0 0, .int .i64 0]) ?_ 6 _ rfl; (with_reducible repeat (first | refine blk_drewN ?_ _ | refine blk_drew ?_ | refine blk_alloc ?_ _)); refine blk_put (cs := #[.int .i64 ((rd_T55 l0 x10_1).f0), .int .i64 ((rd_T55 l0 x10_1).f1), .string ((rd_T55 l0 x10_1).f2), .string ((rd_T55 l0 x10_1).f3), .int .i64 ((rd_T55 l0 x10_1).f4), .int .i64 0, .int .i64 0, .int .i64 0, .int .i64 0, .int .i64 0, .int .i64 0, .slice none 0 0, .int .i64 0]) ?_ 5 _ rfl; (with_reducible repeat (first | refine blk_drewN ?_ _ | refine blk_drew ?_ | refine blk_alloc ?_ _)); refine blk_put (cs := #[.int .i64 ((rd_T55 l0 x10_1).f0), .int .i64 ((rd_T55 l0 x10_1).f1), .string ((rd_T55 l0 x10_1).f2), .string ((rd_T55 l0 x10_1).f3), .int .i64 0, .int .i64 0, .int .i64 0, .int .i64 0, .int .i64 0, .int .i64 0, .int .i64 0, .slice none 0 0, .int .i64 0]) ?_ 4 _ rfl; (with_reducible repeat (first | refine blk_drewN ?_ _ | refine blk_drew ?_ | refine blk_alloc ?_ _)); refine blk_put (cs := #[.int .i64 ((rd_T55 l0 x10_1).f0), .int .i64 ((rd_T55 l0 x10_1).f1), .string ((rd_T55 l0 x10_1).f2), .string (⟨#[]⟩ : ByteArray), .int .i64 0, .int .i64 0, .int .i64 0, .int .i64 0, .int .i64 0, .int .i64 0, .int .i64 0, .slice none 0 0, .int .i64 0]) ?_ 3 _ rfl; (with_reducible repeat (first | refine blk_drewN ?_ _ | refine blk_drew ?_ | refine blk_alloc ?_ _)); refine blk_put (cs := #[.int .i64 ((rd_T55 l0 x10_1).f0), .int .i64 ((rd_T55 l0 x10_1).f1), .string (⟨#[]⟩ : ByteArray), .string (⟨#[]⟩ : ByteArray), .int .i64 0, .int .i64 0, .int .i64 0, .int .i64 0, .int .i64 0, .int .i64 0, .int .i64 0, .slice none 0 0, .int .i64 0]) ?_ 2 _ rfl; (with_reducible repeat (first | refine blk_drewN ?_ _ | refine blk_drew ?_ | refine blk_alloc ?_ _)); refine blk_put (cs := #[.int .i64 ((rd_T55 l0 x10_1).f0), .int .i64 0, .string (⟨#[]⟩ : ByteArray), .string (⟨#[]⟩ : ByteArray), .int .i64 0, .int .i64 0, .int .i64 0, .int .i64 0, .int .i64 0, .int .i64 0, .int .i64 0, .slice none 0 0, .int .i64 0]) ?_ 1 _ rfl; (with_reducible repeat (first | refine blk_drewN ?_ _ | refine blk_drew ?_ | refine blk_alloc ?_ _)); refine blk_put (cs := #[.int .i64 0, .int .i64 0, .string (⟨#[]⟩ : ByteArray), .string (⟨#[]⟩ : ByteArray), .int .i64 0, .int .i64 0, .int .i64 0, .int .i64 0, .int .i64 0, .int .i64 0, .int .i64 0, .slice none 0 0, .int .i64 0]) ?_ 0 _ rfl; (with_reducible repeat (first | refine blk_drewN ?_ _ | refine blk_drew ?_ | refine blk_alloc ?_ _)); exact BK127.out⟩, ⟨by repeat (first | (with_reducible first | exact HB.out | apply below_alloc | apply pw_below_drewN | apply below_drew1 | refine below_set ?_ GE127.out) | exact HB.out)⟩⟩
              · rw [if_neg c11] at H
                have c11b0 : (a1 == 4) = false := beq_eq_false_iff_ne.mpr c11
                have c11b1 : (a1 != 4) = true := bne_iff_ne.mpr c11
                replace H := Option.bind_eq_some_iff.mp H
                obtain ⟨t128, A130, H⟩ := H
                replace H : (parser_count.j1 k1 a1 (wrap64 (x5_1 + 1)) l0 (l0.length : Int) x10_1 (!t128) ((rd_T55 l0 x10_1).f0) ((rd_T55 l0 x10_1).f1) ((rd_T55 l0 x10_1).f2) ((rd_T55 l0 x10_1).f3) ((rd_T55 l0 x10_1).f4) ((rd_T55 l0 x10_1).f5.f0.f0) ((rd_T55 l0 x10_1).f5.f0.f1) ((rd_T55 l0 x10_1).f5.f0.f2) ((rd_T55 l0 x10_1).f5.f1.f0) ((rd_T55 l0 x10_1).f5.f1.f1) ((rd_T55 l0 x10_1).f5.f1.f2) ((rd_T55 l0 x10_1).f6) ((rd_T55 l0 x10_1).f7)) = some r := H
                have A13 := Aside0.mk A130
                clear A130
                have H' := Aside0.mk H
                clear H
                have hcz14_0 : w7.cell? ⟨gb127, 0, none⟩ = some (.int .i64 0) := (blk_cell BK127.out 0).trans rfl
                have hcz14_1 : w7.cell? ⟨gb127, 1, none⟩ = some (.int .i64 0) := (blk_cell BK127.out 1).trans rfl
                have hcz14_2 : w7.cell? ⟨gb127, 2, none⟩ = some (.string (⟨#[]⟩ : ByteArray)) := (blk_cell BK127.out 2).trans rfl
                have hcz14_3 : w7.cell? ⟨gb127, 3, none⟩ = some (.string (⟨#[]⟩ : ByteArray)) := (blk_cell BK127.out 3).trans rfl
                have hcz14_4 : w7.cell? ⟨gb127, 4, none⟩ = some (.int .i64 0) := (blk_cell BK127.out 4).trans rfl
                have hcz14_5 : w7.cell? ⟨gb127, 5, none⟩ = some (.int .i64 0) := (blk_cell BK127.out 5).trans rfl
                have hcz14_6 : w7.cell? ⟨gb127, 6, none⟩ = some (.int .i64 0) := (blk_cell BK127.out 6).trans rfl
                have hcz14_7 : w7.cell? ⟨gb127, 7, none⟩ = some (.int .i64 0) := (blk_cell BK127.out 7).trans rfl
                have hcz14_8 : w7.cell? ⟨gb127, 8, none⟩ = some (.int .i64 0) := (blk_cell BK127.out 8).trans rfl
                have hcz14_9 : w7.cell? ⟨gb127, 9, none⟩ = some (.int .i64 0) := (blk_cell BK127.out 9).trans rfl
                have hcz14_10 : w7.cell? ⟨gb127, 10, none⟩ = some (.int .i64 0) := (blk_cell BK127.out 10).trans rfl
                have hcz14_11 : w7.cell? ⟨gb127, 11, none⟩ = some (.slice none 0 0) := (blk_cell BK127.out 11).trans rfl
                have hcz14_12 : w7.cell? ⟨gb127, 12, none⟩ = some (.int .i64 0) := (blk_cell BK127.out 12).trans rfl
                have hfz14_0 := blk_frozen BK127.out 0
                have hfz14_1 := blk_frozen BK127.out 1
                have hfz14_2 := blk_frozen BK127.out 2
                have hfz14_3 := blk_frozen BK127.out 3
                have hfz14_4 := blk_frozen BK127.out 4
                have hfz14_5 := blk_frozen BK127.out 5
                have hfz14_6 := blk_frozen BK127.out 6
                have hfz14_7 := blk_frozen BK127.out 7
                have hfz14_8 := blk_frozen BK127.out 8
                have hfz14_9 := blk_frozen BK127.out 9
                have hfz14_10 := blk_frozen BK127.out 10
                have hfz14_11 := blk_frozen BK127.out 11
                have hfz14_12 := blk_frozen BK127.out 12
                go_wp2_with (first | (go_at_call 30; (with_reducible refine (parser_plain.calls k1 ((rd_T55 l0 x10_1).f0) ((rd_T55 l0 x10_1).f1) ((rd_T55 l0 x10_1).f2) ((rd_T55 l0 x10_1).f3) ((rd_T55 l0 x10_1).f4) ((rd_T55 l0 x10_1).f5.f0.f0) ((rd_T55 l0 x10_1).f5.f0.f1) ((rd_T55 l0 x10_1).f5.f0.f2) ((rd_T55 l0 x10_1).f5.f1.f0) ((rd_T55 l0 x10_1).f5.f1.f1) ((rd_T55 l0 x10_1).f5.f1.f2) _ _ ((rd_T55 l0 x10_1).f6) ((rd_T55 l0 x10_1).f7) t128 _ ?side1 ?side2 A13.out (HGL.out.below (by repeat (first | (with_reducible first | exact HB.out | apply below_alloc | apply pw_below_drewN | apply below_drew1 | refine below_set ?_ GE127.out) | exact HB.out)))).mono ?_); (case side1 => exact Kd.C_below HR126_11.out (by repeat (first | (with_reducible first | exact HB.out | apply below_alloc | apply pw_below_drewN | apply below_drew1 | refine below_set ?_ GE127.out) | exact HB.out))); (case side2 => exact HC126_11.out); rintro e w15 ⟨rfl, hb⟩; have n0_ := Aside0.mk (blk_below (g := gb127) (o := .cells #[.int .i64 ((rd_T55 l0 x10_1).f0), .int .i64 ((rd_T55 l0 x10_1).f1), .string ((rd_T55 l0 x10_1).f2), .string ((rd_T55 l0 x10_1).f3), .int .i64 ((rd_T55 l0 x10_1).f4), .int .i64 ((rd_T55 l0 x10_1).f5.f0.f0), .int .i64 ((rd_T55 l0 x10_1).f5.f0.f1), .int .i64 ((rd_T55 l0 x10_1).f5.f0.f2), .int .i64 ((rd_T55 l0 x10_1).f5.f1.f0), .int .i64 ((rd_T55 l0 x10_1).f5.f1.f1), .int .i64 ((rd_T55 l0 x10_1).f5.f1.f2), .slice A126_11 ((rd_T55 l0 x10_1).f6).length c126_11, .int .i64 ((rd_T55 l0 x10_1).f7)] 55 (0, 0)) (by (with_reducible repeat (first | refine blk_drewN ?_ _ | refine blk_drew ?_ | refine blk_alloc ?_ _)); refine blk_put (cs := #[.int .i64 ((rd_T55 l0 x10_1).f0), .int .i64 ((rd_T55 l0 x10_1).f1), .string ((rd_T55 l0 x10_1).f2), .string ((rd_T55 l0 x10_1).f3), .int .i64 ((rd_T55 l0 x10_1).f4), .int .i64 ((rd_T55 l0 x10_1).f5.f0.f0), .int .i64 ((rd_T55 l0 x10_1).f5.f0.f1), .int .i64 ((rd_T55 l0 x10_1).f5.f0.f2), .int .i64 ((rd_T55 l0 x10_1).f5.f1.f0), .int .i64 ((rd_T55 l0 x10_1).f5.f1.f1), .int .i64 ((rd_T55 l0 x10_1).f5.f1.f2), .slice A126_11 ((rd_T55 l0 x10_1).f6).length c126_11, .int .i64 0]) ?_ 12 _ rfl; (with_reducible repeat (first | refine blk_drewN ?_ _ | refine blk_drew ?_ | refine blk_alloc ?_ _)); refine blk_put (cs := #[.int .i64 ((rd_T55 l0 x10_1).f0), .int .i64 ((rd_T55 l0 x10_1).f1), .string ((rd_T55 l0 x10_1).f2), .string ((rd_T55 l0 x10_1).f3), .int .i64 ((rd_T55 l0 x10_1).f4), .int .i64 ((rd_T55 l0 x10_1).f5.f0.f0), .int .i64 ((rd_T55 l0 x10_1).f5.f0.f1), .int .i64 ((rd_T55 l0 x10_1).f5.f0.f2), .int .i64 ((rd_T55 l0 x10_1).f5.f1.f0), .int .i64 ((rd_T55 l0 x10_1).f5.f1.f1), .int .i64 ((rd_T55 l0 x10_1).f5.f1.f2), .slice none 0 0, .int .i64 0]) ?_ 11 _ rfl; (with_reducible repeat (first | refine blk_drewN ?_ _ | refine blk_drew ?_ | refine blk_alloc ?_ _)); refine blk_put (cs := #[.int .i64 ((rd_T55 l0 x10_1).f0), .int .i64 ((rd_T55 l0 x10_1).f1), .string ((rd_T55 l0 x10_1).f2), .string ((rd_T55 l0 x10_1).f3), .int .i64 ((rd_T55 l0 x10_1).f4), .int .i64 ((rd_T55 l0 x10_1).f5.f0.f0), .int .i64 ((rd_T55 l0 x10_1).f5.f0.f1), .int .i64 ((rd_T55 l0 x10_1).f5.f0.f2), .int .i64 ((rd_T55 l0 x10_1).f5.f1.f0), .int .i64 ((rd_T55 l0 x10_1).f5.f1.f1), .int .i64 0, .slice none 0 0, .int .i64 0]) ?_ 10 _ rfl; (with_reducible repeat (first | refine blk_drewN ?_ _ | refine blk_drew ?_ | refine blk_alloc ?_ _)); refine blk_put (cs := #[.int .i64 ((rd_T55 l0 x10_1).f0), .int .i64 ((rd_T55 l0 x10_1).f1), .string ((rd_T55 l0 x10_1).f2), .string ((rd_T55 l0 x10_1).f3), .int .i64 ((rd_T55 l0 x10_1).f4), .int .i64 ((rd_T55 l0 x10_1).f5.f0.f0), .int .i64 ((rd_T55 l0 x10_1).f5.f0.f1), .int .i64 ((rd_T55 l0 x10_1).f5.f0.f2), .int .i64 ((rd_T55 l0 x10_1).f5.f1.f0), .int .i64 0, .int .i64 0, .slice none 0 0, .int .i64 0]) ?_ 9 _ rfl; (with_reducible repeat (first | refine blk_drewN ?_ _ | refine blk_drew ?_ | refine blk_alloc ?_ _)); refine blk_put (cs := #[.int .i64 ((rd_T55 l0 x10_1).f0), .int .i64 ((rd_T55 l0 x10_1).f1), .string ((rd_T55 l0 x10_1).f2), .string ((rd_T55 l0 x10_1).f3), .int .i64 ((rd_T55 l0 x10_1).f4), .int .i64 ((rd_T55 l0 x10_1).f5.f0.f0), .int .i64 ((rd_T55 l0 x10_1).f5.f0.f1), .int .i64 ((rd_T55 l0 x10_1).f5.f0.f2), .int .i64 0, .int .i64 0, .int .i64 0, .slice none 0 0, .int .i64 0]) ?_ 8 _ rfl; (with_reducible repeat (first | refine blk_drewN ?_ _ | refine blk_drew ?_ | refine blk_alloc ?_ _)); refine blk_put (cs := #[.int .i64 ((rd_T55 l0 x10_1).f0), .int .i64 ((rd_T55 l0 x10_1).f1), .string ((rd_T55 l0 x10_1).f2), .string ((rd_T55 l0 x10_1).f3), .int .i64 ((rd_T55 l0 x10_1).f4), .int .i64 ((rd_T55 l0 x10_1).f5.f0.f0), .int .i64 ((rd_T55 l0 x10_1).f5.f0.f1), .int .i64 0, .int .i64 0, .int .i64 0, .int .i64 0, .slice none 0 0, .int .i64 0]) ?_ 7 _ rfl; (with_reducible repeat (first | refine blk_drewN ?_ _ | refine blk_drew ?_ | refine blk_alloc ?_ _)); refine blk_put (cs := #[.int .i64 ((rd_T55 l0 x10_1).f0), .int .i64 ((rd_T55 l0 x10_1).f1), .string ((rd_T55 l0 x10_1).f2), .string ((rd_T55 l0 x10_1).f3), .int .i64 ((rd_T55 l0 x10_1).f4), .int .i64 ((rd_T55 l0 x10_1).f5.f0.f0), .int .i64 0, .int .i64 0, .int .i64 0, .int .i64 0, .int .i64 0, .slice none 0 0, .int .i64 0]) ?_ 6 _ rfl; (with_reducible repeat (first | refine blk_drewN ?_ _ | refine blk_drew ?_ | refine blk_alloc ?_ _)); refine blk_put (cs := #[.int .i64 ((rd_T55 l0 x10_1).f0), .int .i64 ((rd_T55 l0 x10_1).f1), .string ((rd_T55 l0 x10_1).f2), .string ((rd_T55 l0 x10_1).f3), .int .i64 ((rd_T55 l0 x10_1).f4), .int .i64 0, .int .i64 0, .int .i64 0, .int .i64 0, .int .i64 0, .int .i64 0, .slice none 0 0, .int .i64 0]) ?_ 5 _ rfl; (with_reducible repeat (first | refine blk_drewN ?_ _ | refine blk_drew ?_ | refine blk_alloc ?_ _)); refine blk_put (cs := #[.int .i64 ((rd_T55 l0 x10_1).f0), .int .i64 ((rd_T55 l0 x10_1).f1), .string ((rd_T55 l0 x10_1).f2), .string ((rd_T55 l0 x10_1).f3), .int .i64 0, .int .i64 0, .int .i64 0, .int .i64 0, .int .i64 0, .int .i64 0, .int .i64 0, .slice none 0 0, .int .i64 0]) ?_ 4 _ rfl; (with_reducible repeat (first | refine blk_drewN ?_ _ | refine blk_drew ?_ | refine blk_alloc ?_ _)); refine blk_put (cs := #[.int .i64 ((rd_T55 l0 x10_1).f0), .int .i64 ((rd_T55 l0 x10_1).f1), .string ((rd_T55 l0 x10_1).f2), .string (⟨#[]⟩ : ByteArray), .int .i64 0, .int .i64 0, .int .i64 0, .int .i64 0, .int .i64 0, .int .i64 0, .int .i64 0, .slice none 0 0, .int .i64 0]) ?_ 3 _ rfl; (with_reducible repeat (first | refine blk_drewN ?_ _ | refine blk_drew ?_ | refine blk_alloc ?_ _)); refine blk_put (cs := #[.int .i64 ((rd_T55 l0 x10_1).f0), .int .i64 ((rd_T55 l0 x10_1).f1), .string (⟨#[]⟩ : ByteArray), .string (⟨#[]⟩ : ByteArray), .int .i64 0, .int .i64 0, .int .i64 0, .int .i64 0, .int .i64 0, .int .i64 0, .int .i64 0, .slice none 0 0, .int .i64 0]) ?_ 2 _ rfl; (with_reducible repeat (first | refine blk_drewN ?_ _ | refine blk_drew ?_ | refine blk_alloc ?_ _)); refine blk_put (cs := #[.int .i64 ((rd_T55 l0 x10_1).f0), .int .i64 0, .string (⟨#[]⟩ : ByteArray), .string (⟨#[]⟩ : ByteArray), .int .i64 0, .int .i64 0, .int .i64 0, .int .i64 0, .int .i64 0, .int .i64 0, .int .i64 0, .slice none 0 0, .int .i64 0]) ?_ 1 _ rfl; (with_reducible repeat (first | refine blk_drewN ?_ _ | refine blk_drew ?_ | refine blk_alloc ?_ _)); refine blk_put (cs := #[.int .i64 0, .int .i64 0, .string (⟨#[]⟩ : ByteArray), .string (⟨#[]⟩ : ByteArray), .int .i64 0, .int .i64 0, .int .i64 0, .int .i64 0, .int .i64 0, .int .i64 0, .int .i64 0, .slice none 0 0, .int .i64 0]) ?_ 0 _ rfl; (with_reducible repeat (first | refine blk_drewN ?_ _ | refine blk_drew ?_ | refine blk_alloc ?_ _)); exact BK127.out) hb); have n1_ := Aside0.mk (below_step (by repeat (first | (with_reducible first | exact HB.out | apply below_alloc | apply pw_below_drewN | apply below_drew1 | refine below_set ?_ GE127.out) | exact HB.out)) hb); clear BK127; clear HB; have BK127 := n0_; have HB := n1_; clear n0_ n1_; (try clear hb); (try clear hb2); (try clear hk); (try clear hi)))
                go_meet
                case rel => exact ⟨_, (!t128), (by first | rfl | (simp; done) | (simp [*]; done)), H', ⟨by have := HK1.out; first | omega | exact Nat.le_refl _⟩, ⟨by (with_reducible repeat (first | refine blk_drewN ?_ _ | refine blk_drew ?_ | refine blk_alloc ?_ _)); exact BK127.out⟩, ⟨by repeat (first | (with_reducible first | exact HB.out | apply below_alloc | apply pw_below_drewN | apply below_drew1 | refine below_set ?_ GE127.out) | exact HB.out)⟩⟩
            · rw [if_neg c10] at H
              have c10b0 : (((rd_T55 l0 x10_1).f0) == 7) = false := beq_eq_false_iff_ne.mpr c10
              have c10b1 : (((rd_T55 l0 x10_1).f0) != 7) = true := bne_iff_ne.mpr c10
              replace H := Option.bind_eq_some_iff.mp H
              obtain ⟨t129, A160, H⟩ := H
              replace H : (parser_count.j1 k1 a1 (wrap64 (x5_1 + 1)) l0 (l0.length : Int) x10_1 (!t129) ((rd_T55 l0 x10_1).f0) ((rd_T55 l0 x10_1).f1) ((rd_T55 l0 x10_1).f2) ((rd_T55 l0 x10_1).f3) ((rd_T55 l0 x10_1).f4) ((rd_T55 l0 x10_1).f5.f0.f0) ((rd_T55 l0 x10_1).f5.f0.f1) ((rd_T55 l0 x10_1).f5.f0.f2) ((rd_T55 l0 x10_1).f5.f1.f0) ((rd_T55 l0 x10_1).f5.f1.f1) ((rd_T55 l0 x10_1).f5.f1.f2) ((rd_T55 l0 x10_1).f6) ((rd_T55 l0 x10_1).f7)) = some r := H
              have A16 := Aside0.mk A160
              clear A160
              have H' := Aside0.mk H
              clear H
              have hcz17_0 : w7.cell? ⟨gb127, 0, none⟩ = some (.int .i64 0) := (blk_cell BK127.out 0).trans rfl
              have hcz17_1 : w7.cell? ⟨gb127, 1, none⟩ = some (.int .i64 0) := (blk_cell BK127.out 1).trans rfl
              have hcz17_2 : w7.cell? ⟨gb127, 2, none⟩ = some (.string (⟨#[]⟩ : ByteArray)) := (blk_cell BK127.out 2).trans rfl
              have hcz17_3 : w7.cell? ⟨gb127, 3, none⟩ = some (.string (⟨#[]⟩ : ByteArray)) := (blk_cell BK127.out 3).trans rfl
              have hcz17_4 : w7.cell? ⟨gb127, 4, none⟩ = some (.int .i64 0) := (blk_cell BK127.out 4).trans rfl
              have hcz17_5 : w7.cell? ⟨gb127, 5, none⟩ = some (.int .i64 0) := (blk_cell BK127.out 5).trans rfl
              have hcz17_6 : w7.cell? ⟨gb127, 6, none⟩ = some (.int .i64 0) := (blk_cell BK127.out 6).trans rfl
              have hcz17_7 : w7.cell? ⟨gb127, 7, none⟩ = some (.int .i64 0) := (blk_cell BK127.out 7).trans rfl
              have hcz17_8 : w7.cell? ⟨gb127, 8, none⟩ = some (.int .i64 0) := (blk_cell BK127.out 8).trans rfl
              have hcz17_9 : w7.cell? ⟨gb127, 9, none⟩ = some (.int .i64 0) := (blk_cell BK127.out 9).trans rfl
              have hcz17_10 : w7.cell? ⟨gb127, 10, none⟩ = some (.int .i64 0) := (blk_cell BK127.out 10).trans rfl
              have hcz17_11 : w7.cell? ⟨gb127, 11, none⟩ = some (.slice none 0 0) := (blk_cell BK127.out 11).trans rfl
              have hcz17_12 : w7.cell? ⟨gb127, 12, none⟩ = some (.int .i64 0) := (blk_cell BK127.out 12).trans rfl
              have hfz17_0 := blk_frozen BK127.out 0
              have hfz17_1 := blk_frozen BK127.out 1
              have hfz17_2 := blk_frozen BK127.out 2
              have hfz17_3 := blk_frozen BK127.out 3
              have hfz17_4 := blk_frozen BK127.out 4
              have hfz17_5 := blk_frozen BK127.out 5
              have hfz17_6 := blk_frozen BK127.out 6
              have hfz17_7 := blk_frozen BK127.out 7
              have hfz17_8 := blk_frozen BK127.out 8
              have hfz17_9 := blk_frozen BK127.out 9
              have hfz17_10 := blk_frozen BK127.out 10
              have hfz17_11 := blk_frozen BK127.out 11
              have hfz17_12 := blk_frozen BK127.out 12
              go_wp2_with (first | (go_at_call 30; (with_reducible refine (parser_plain.calls k1 ((rd_T55 l0 x10_1).f0) ((rd_T55 l0 x10_1).f1) ((rd_T55 l0 x10_1).f2) ((rd_T55 l0 x10_1).f3) ((rd_T55 l0 x10_1).f4) ((rd_T55 l0 x10_1).f5.f0.f0) ((rd_T55 l0 x10_1).f5.f0.f1) ((rd_T55 l0 x10_1).f5.f0.f2) ((rd_T55 l0 x10_1).f5.f1.f0) ((rd_T55 l0 x10_1).f5.f1.f1) ((rd_T55 l0 x10_1).f5.f1.f2) _ _ ((rd_T55 l0 x10_1).f6) ((rd_T55 l0 x10_1).f7) t129 _ ?side1 ?side2 A16.out (HGL.out.below (by repeat (first | (with_reducible first | exact HB.out | apply below_alloc | apply pw_below_drewN | apply below_drew1 | refine below_set ?_ GE127.out) | exact HB.out)))).mono ?_); (case side1 => exact Kd.C_below HR126_11.out (by repeat (first | (with_reducible first | exact HB.out | apply below_alloc | apply pw_below_drewN | apply below_drew1 | refine below_set ?_ GE127.out) | exact HB.out))); (case side2 => exact HC126_11.out); rintro e w18 ⟨rfl, hb⟩; have n0_ := Aside0.mk (blk_below (g := gb127) (o := .cells #[.int .i64 ((rd_T55 l0 x10_1).f0), .int .i64 ((rd_T55 l0 x10_1).f1), .string ((rd_T55 l0 x10_1).f2), .string ((rd_T55 l0 x10_1).f3), .int .i64 ((rd_T55 l0 x10_1).f4), .int .i64 ((rd_T55 l0 x10_1).f5.f0.f0), .int .i64 ((rd_T55 l0 x10_1).f5.f0.f1), .int .i64 ((rd_T55 l0 x10_1).f5.f0.f2), .int .i64 ((rd_T55 l0 x10_1).f5.f1.f0), .int .i64 ((rd_T55 l0 x10_1).f5.f1.f1), .int .i64 ((rd_T55 l0 x10_1).f5.f1.f2), .slice A126_11 ((rd_T55 l0 x10_1).f6).length c126_11, .int .i64 ((rd_T55 l0 x10_1).f7)] 55 (0, 0)) (by (with_reducible repeat (first | refine blk_drewN ?_ _ | refine blk_drew ?_ | refine blk_alloc ?_ _)); refine blk_put (cs := #[.int .i64 ((rd_T55 l0 x10_1).f0), .int .i64 ((rd_T55 l0 x10_1).f1), .string ((rd_T55 l0 x10_1).f2), .string ((rd_T55 l0 x10_1).f3), .int .i64 ((rd_T55 l0 x10_1).f4), .int .i64 ((rd_T55 l0 x10_1).f5.f0.f0), .int .i64 ((rd_T55 l0 x10_1).f5.f0.f1), .int .i64 ((rd_T55 l0 x10_1).f5.f0.f2), .int .i64 ((rd_T55 l0 x10_1).f5.f1.f0), .int .i64 ((rd_T55 l0 x10_1).f5.f1.f1), .int .i64 ((rd_T55 l0 x10_1).f5.f1.f2), .slice A126_11 ((rd_T55 l0 x10_1).f6).length c126_11, .int .i64 0]) ?_ 12 _ rfl; (with_reducible repeat (first | refine blk_drewN ?_ _ | refine blk_drew ?_ | refine blk_alloc ?_ _)); refine blk_put (cs := #[.int .i64 ((rd_T55 l0 x10_1).f0), .int .i64 ((rd_T55 l0 x10_1).f1), .string ((rd_T55 l0 x10_1).f2), .string ((rd_T55 l0 x10_1).f3), .int .i64 ((rd_T55 l0 x10_1).f4), .int .i64 ((rd_T55 l0 x10_1).f5.f0.f0), .int .i64 ((rd_T55 l0 x10_1).f5.f0.f1), .int .i64 ((rd_T55 l0 x10_1).f5.f0.f2), .int .i64 ((rd_T55 l0 x10_1).f5.f1.f0), .int .i64 ((rd_T55 l0 x10_1).f5.f1.f1), .int .i64 ((rd_T55 l0 x10_1).f5.f1.f2), .slice none 0 0, .int .i64 0]) ?_ 11 _ rfl; (with_reducible repeat (first | refine blk_drewN ?_ _ | refine blk_drew ?_ | refine blk_alloc ?_ _)); refine blk_put (cs := #[.int .i64 ((rd_T55 l0 x10_1).f0), .int .i64 ((rd_T55 l0 x10_1).f1), .string ((rd_T55 l0 x10_1).f2), .string ((rd_T55 l0 x10_1).f3), .int .i64 ((rd_T55 l0 x10_1).f4), .int .i64 ((rd_T55 l0 x10_1).f5.f0.f0), .int .i64 ((rd_T55 l0 x10_1).f5.f0.f1), .int .i64 ((rd_T55 l0 x10_1).f5.f0.f2), .int .i64 ((rd_T55 l0 x10_1).f5.f1.f0), .int .i64 ((rd_T55 l0 x10_1).f5.f1.f1), .int .i64 0, .slice none 0 0, .int .i64 0]) ?_ 10 _ rfl; (with_reducible repeat (first | refine blk_drewN ?_ _ | refine blk_drew ?_ | refine blk_alloc ?_ _)); refine blk_put (cs := #[.int .i64 ((rd_T55 l0 x10_1).f0), .int .i64 ((rd_T55 l0 x10_1).f1), .string ((rd_T55 l0 x10_1).f2), .string ((rd_T55 l0 x10_1).f3), .int .i64 ((rd_T55 l0 x10_1).f4), .int .i64 ((rd_T55 l0 x10_1).f5.f0.f0), .int .i64 ((rd_T55 l0 x10_1).f5.f0.f1), .int .i64 ((rd_T55 l0 x10_1).f5.f0.f2), .int .i64 ((rd_T55 l0 x10_1).f5.f1.f0), .int .i64 0, .int .i64 0, .slice none 0 0, .int .i64 0]) ?_ 9 _ rfl; (with_reducible repeat (first | refine blk_drewN ?_ _ | refine blk_drew ?_ | refine blk_alloc ?_ _)); refine blk_put (cs := #[.int .i64 ((rd_T55 l0 x10_1).f0), .int .i64 ((rd_T55 l0 x10_1).f1), .string ((rd_T55 l0 x10_1).f2), .string ((rd_T55 l0 x10_1).f3), .int .i64 ((rd_T55 l0 x10_1).f4), .int .i64 ((rd_T55 l0 x10_1).f5.f0.f0), .int .i64 ((rd_T55 l0 x10_1).f5.f0.f1), .int .i64 ((rd_T55 l0 x10_1).f5.f0.f2), .int .i64 0, .int .i64 0, .int .i64 0, .slice none 0 0, .int .i64 0]) ?_ 8 _ rfl; (with_reducible repeat (first | refine blk_drewN ?_ _ | refine blk_drew ?_ | refine blk_alloc ?_ _)); refine blk_put (cs := #[.int .i64 ((rd_T55 l0 x10_1).f0), .int .i64 ((rd_T55 l0 x10_1).f1), .string ((rd_T55 l0 x10_1).f2), .string ((rd_T55 l0 x10_1).f3), .int .i64 ((rd_T55 l0 x10_1).f4), .int .i64 ((rd_T55 l0 x10_1).f5.f0.f0), .int .i64 ((rd_T55 l0 x10_1).f5.f0.f1), .int .i64 0, .int .i64 0, .int .i64 0, .int .i64 0, .slice none 0 0, .int .i64 0]) ?_ 7 _ rfl; (with_reducible repeat (first | refine blk_drewN ?_ _ | refine blk_drew ?_ | refine blk_alloc ?_ _)); refine blk_put (cs := #[.int .i64 ((rd_T55 l0 x10_1).f0), .int .i64 ((rd_T55 l0 x10_1).f1), .string ((rd_T55 l0 x10_1).f2), .string ((rd_T55 l0 x10_1).f3), .int .i64 ((rd_T55 l0 x10_1).f4), .int .i64 ((rd_T55 l0 x10_1).f5.f0.f0), .int .i64 0, .int .i64 0, .int .i64 0, .int .i64 0, .int .i64 0, .slice none 0 0, .int .i64 0]) ?_ 6 _ rfl; (with_reducible repeat (first | refine blk_drewN ?_ _ | refine blk_drew ?_ | refine blk_alloc ?_ _)); refine blk_put (cs := #[.int .i64 ((rd_T55 l0 x10_1).f0), .int .i64 ((rd_T55 l0 x10_1).f1), .string ((rd_T55 l0 x10_1).f2), .string ((rd_T55 l0 x10_1).f3), .int .i64 ((rd_T55 l0 x10_1).f4), .int .i64 0, .int .i64 0, .int .i64 0, .int .i64 0, .int .i64 0, .int .i64 0, .slice none 0 0, .int .i64 0]) ?_ 5 _ rfl; (with_reducible repeat (first | refine blk_drewN ?_ _ | refine blk_drew ?_ | refine blk_alloc ?_ _)); refine blk_put (cs := #[.int .i64 ((rd_T55 l0 x10_1).f0), .int .i64 ((rd_T55 l0 x10_1).f1), .string ((rd_T55 l0 x10_1).f2), .string ((rd_T55 l0 x10_1).f3), .int .i64 0, .int .i64 0, .int .i64 0, .int .i64 0, .int .i64 0, .int .i64 0, .int .i64 0, .slice none 0 0, .int .i64 0]) ?_ 4 _ rfl; (with_reducible repeat (first | refine blk_drewN ?_ _ | refine blk_drew ?_ | refine blk_alloc ?_ _)); refine blk_put (cs := #[.int .i64 ((rd_T55 l0 x10_1).f0), .int .i64 ((rd_T55 l0 x10_1).f1), .string ((rd_T55 l0 x10_1).f2), .string (⟨#[]⟩ : ByteArray), .int .i64 0, .int .i64 0, .int .i64 0, .int .i64 0, .int .i64 0, .int .i64 0, .int .i64 0, .slice none 0 0, .int .i64 0]) ?_ 3 _ rfl; (with_reducible repeat (first | refine blk_drewN ?_ _ | refine blk_drew ?_ | refine blk_alloc ?_ _)); refine blk_put (cs := #[.int .i64 ((rd_T55 l0 x10_1).f0), .int .i64 ((rd_T55 l0 x10_1).f1), .string (⟨#[]⟩ : ByteArray), .string (⟨#[]⟩ : ByteArray), .int .i64 0, .int .i64 0, .int .i64 0, .int .i64 0, .int .i64 0, .int .i64 0, .int .i64 0, .slice none 0 0, .int .i64 0]) ?_ 2 _ rfl; (with_reducible repeat (first | refine blk_drewN ?_ _ | refine blk_drew ?_ | refine blk_alloc ?_ _)); refine blk_put (cs := #[.int .i64 ((rd_T55 l0 x10_1).f0), .int .i64 0, .string (⟨#[]⟩ : ByteArray), .string (⟨#[]⟩ : ByteArray), .int .i64 0, .int .i64 0, .int .i64 0, .int .i64 0, .int .i64 0, .int .i64 0, .int .i64 0, .slice none 0 0, .int .i64 0]) ?_ 1 _ rfl; (with_reducible repeat (first | refine blk_drewN ?_ _ | refine blk_drew ?_ | refine blk_alloc ?_ _)); refine blk_put (cs := #[.int .i64 0, .int .i64 0, .string (⟨#[]⟩ : ByteArray), .string (⟨#[]⟩ : ByteArray), .int .i64 0, .int .i64 0, .int .i64 0, .int .i64 0, .int .i64 0, .int .i64 0, .int .i64 0, .slice none 0 0, .int .i64 0]) ?_ 0 _ rfl; (with_reducible repeat (first | refine blk_drewN ?_ _ | refine blk_drew ?_ | refine blk_alloc ?_ _)); exact BK127.out) hb); have n1_ := Aside0.mk (below_step (by repeat (first | (with_reducible first | exact HB.out | apply below_alloc | apply pw_below_drewN | apply below_drew1 | refine below_set ?_ GE127.out) | exact HB.out)) hb); clear BK127; clear HB; have BK127 := n0_; have HB := n1_; clear n0_ n1_; (try clear hb); (try clear hb2); (try clear hk); (try clear hi)))
              go_meet
              case rel => exact ⟨_, (!t129), (by first | rfl | (simp; done) | (simp [*]; done)), H', ⟨by have := HK1.out; first | omega | exact Nat.le_refl _⟩, ⟨by (with_reducible repeat (first | refine blk_drewN ?_ _ | refine blk_drew ?_ | refine blk_alloc ?_ _)); exact BK127.out⟩, ⟨by repeat (first | (with_reducible first | exact HB.out | apply below_alloc | apply pw_below_drewN | apply below_drew1 | refine below_set ?_ GE127.out) | exact HB.out)⟩⟩
         case rest =>
          clear HC6
          try clear c1
          try clear p1
          try clear q1
          try clear hx1
          try clear c2
          try clear p2
          try clear c3
          try clear c3b0
          try clear c4
          try clear c4b0
          try clear c5
          try clear c5b0
          try clear p6
          try clear c9
          try clear c9b0
          try clear c10
          try clear c10b0
          try clear c10b1
          try clear c11
          try clear c11b0
          try clear c11b1
          try clear c12
          try clear p12
          try clear q12
          try clear hx12
          try clear hcz12_0
          try clear hcz12_1
          try clear hcz12_10
          try clear hcz12_11
          try clear hcz12_12
          try clear hcz12_2
          try clear hcz12_3
          try clear hcz12_4
          try clear hcz12_5
          try clear hcz12_6
          try clear hcz12_7
          try clear hcz12_8
          try clear hcz12_9
          try clear hcz14_0
          try clear hcz14_1
          try clear hcz14_10
          try clear hcz14_11
          try clear hcz14_12
          try clear hcz14_2
          try clear hcz14_3
          try clear hcz14_4
          try clear hcz14_5
          try clear hcz14_6
          try clear hcz14_7
          try clear hcz14_8
          try clear hcz14_9
          try clear hcz17_0
          try clear hcz17_1
          try clear hcz17_10
          try clear hcz17_11
          try clear hcz17_12
          try clear hcz17_2
          try clear hcz17_3
          try clear hcz17_4
          try clear hcz17_5
          try clear hcz17_6
          try clear hcz17_7
          try clear hcz17_8
          try clear hcz17_9
          try clear hcz8_0
          try clear hcz8_1
          try clear hcz8_10
          try clear hcz8_11
          try clear hcz8_12
          try clear hcz8_2
          try clear hcz8_3
          try clear hcz8_4
          try clear hcz8_5
          try clear hcz8_6
          try clear hcz8_7
          try clear hcz8_8
          try clear hcz8_9
          try clear hfz12_0
          try clear hfz12_1
          try clear hfz12_10
          try clear hfz12_11
          try clear hfz12_12
          try clear hfz12_2
          try clear hfz12_3
          try clear hfz12_4
          try clear hfz12_5
          try clear hfz12_6
          try clear hfz12_7
          try clear hfz12_8
          try clear hfz12_9
          try clear hfz14_0
          try clear hfz14_1
          try clear hfz14_10
          try clear hfz14_11
          try clear hfz14_12
          try clear hfz14_2
          try clear hfz14_3
          try clear hfz14_4
          try clear hfz14_5
          try clear hfz14_6
          try clear hfz14_7
          try clear hfz14_8
          try clear hfz14_9
          try clear hfz17_0
          try clear hfz17_1
          try clear hfz17_10
          try clear hfz17_11
          try clear hfz17_12
          try clear hfz17_2
          try clear hfz17_3
          try clear hfz17_4
          try clear hfz17_5
          try clear hfz17_6
          try clear hfz17_7
          try clear hfz17_8
          try clear hfz17_9
          try clear hfz8_0
          try clear hfz8_1
          try clear hfz8_10
          try clear hfz8_11
          try clear hfz8_12
          try clear hfz8_2
          try clear hfz8_3
          try clear hfz8_4
          try clear hfz8_5
          try clear hfz8_6
          try clear hfz8_7
          try clear hfz8_8
          try clear hfz8_9
          try clear hx126_0
          try clear hx126_1
          try clear hx126_10
          try clear hx126_11
          try clear hx126_12
          try clear hx126_2
          try clear hx126_3
          try clear hx126_4
          try clear hx126_5
          try clear hx126_6
          try clear hx126_7
          try clear hx126_8
          try clear hx126_9
          try clear p126
          try clear p2
          try clear q126
          obtain ⟨kq, x31_5, rfl, HA, HJ5, BK127, HB⟩ := hcut
          cases kq with
          | zero => exact absurd HA.out (by simp [parser_count.j1])
          | succ kj5 =>
           have H := HA.out
           clear HA
           simp only [parser_count.j1] at H
           by_cases c19 : x31_5 = true
           · subst c19
             have H1 : (some 65) = some r := by rw [if_pos rfl] at H; exact H
             clear H
             have H := H1
             clear H1
             obtain rfl := Option.some.inj H
             go_wp2
             go_ret
             exact ⟨by first | rfl | (simp [errW_none, errW_some] <;> rfl) | (simp [*, errW_none, errW_some] <;> rfl), by repeat (first | (with_reducible first | exact HB.out | apply below_alloc | apply pw_below_drewN | apply below_drew1 | refine below_set ?_ GE127.out) | exact HB.out)⟩
           · replace c19 := Bool.eq_false_iff.mpr c19
             subst c19
             have H1 : (if ((rd_T55 l0 x10_1).f0) = 7 then ((parser_count.f kj5 ((rd_T55 l0 x10_1).f6) (wrap64 (a1 + 1))).bind fun t130 => (parser_count.l0 kj5 a1 (wrap64 ((wrap64 (x5_1 + 1)) + t130)) l0 (l0.length : Int) (wrap64 (x10_1 + 1)))) else (parser_count.l0 kj5 a1 (wrap64 (x5_1 + 1)) l0 (l0.length : Int) (wrap64 (x10_1 + 1)))) = some r := by rw [if_neg (show ¬ (false = true) by decide)] at H; exact H
             clear H
             have H := H1
             clear H1
             by_cases c20 : ((rd_T55 l0 x10_1).f0) = 7
             · rw [if_pos c20] at H
               have c20b0 : (((rd_T55 l0 x10_1).f0) == 7) = true := beq_iff_eq.mpr c20
               have c20b1 : (((rd_T55 l0 x10_1).f0) != 7) = false := bne_eq_false_iff_eq.mpr c20
               clear c20
               replace H := Option.bind_eq_some_iff.mp H
               obtain ⟨t130, A210, H⟩ := H
               replace H : (parser_count.l0 kj5 a1 (wrap64 ((wrap64 (x5_1 + 1)) + t130)) l0 (l0.length : Int) (wrap64 (x10_1 + 1))) = some r := H
               have A21 := Aside0.mk A210
               clear A210
               have H' := Aside0.mk H
               clear H
               have hcz22_0 : wc.cell? ⟨gb127, 0, none⟩ = some (.int .i64 ((rd_T55 l0 x10_1).f0)) := (blk_cell BK127.out 0).trans rfl
               have hcz22_1 : wc.cell? ⟨gb127, 1, none⟩ = some (.int .i64 ((rd_T55 l0 x10_1).f1)) := (blk_cell BK127.out 1).trans rfl
               have hcz22_2 : wc.cell? ⟨gb127, 2, none⟩ = some (.string ((rd_T55 l0 x10_1).f2)) := (blk_cell BK127.out 2).trans rfl
               have hcz22_3 : wc.cell? ⟨gb127, 3, none⟩ = some (.string ((rd_T55 l0 x10_1).f3)) := (blk_cell BK127.out 3).trans rfl
               have hcz22_4 : wc.cell? ⟨gb127, 4, none⟩ = some (.int .i64 ((rd_T55 l0 x10_1).f4)) := (blk_cell BK127.out 4).trans rfl
               have hcz22_5 : wc.cell? ⟨gb127, 5, none⟩ = some (.int .i64 ((rd_T55 l0 x10_1).f5.f0.f0)) := (blk_cell BK127.out 5).trans rfl
               have hcz22_6 : wc.cell? ⟨gb127, 6, none⟩ = some (.int .i64 ((rd_T55 l0 x10_1).f5.f0.f1)) := (blk_cell BK127.out 6).trans rfl
               have hcz22_7 : wc.cell? ⟨gb127, 7, none⟩ = some (.int .i64 ((rd_T55 l0 x10_1).f5.f0.f2)) := (blk_cell BK127.out 7).trans rfl
               have hcz22_8 : wc.cell? ⟨gb127, 8, none⟩ = some (.int .i64 ((rd_T55 l0 x10_1).f5.f1.f0)) := (blk_cell BK127.out 8).trans rfl
               have hcz22_9 : wc.cell? ⟨gb127, 9, none⟩ = some (.int .i64 ((rd_T55 l0 x10_1).f5.f1.f1)) := (blk_cell BK127.out 9).trans rfl
               have hcz22_10 : wc.cell? ⟨gb127, 10, none⟩ = some (.int .i64 ((rd_T55 l0 x10_1).f5.f1.f2)) := (blk_cell BK127.out 10).trans rfl
               have hcz22_11 : wc.cell? ⟨gb127, 11, none⟩ = some (.slice A126_11 ((rd_T55 l0 x10_1).f6).length c126_11) := (blk_cell BK127.out 11).trans rfl
               have hcz22_12 : wc.cell? ⟨gb127, 12, none⟩ = some (.int .i64 ((rd_T55 l0 x10_1).f7)) := (blk_cell BK127.out 12).trans rfl
               have hfz22_0 := blk_frozen BK127.out 0
               have hfz22_1 := blk_frozen BK127.out 1
               have hfz22_2 := blk_frozen BK127.out 2
               have hfz22_3 := blk_frozen BK127.out 3
               have hfz22_4 := blk_frozen BK127.out 4
               have hfz22_5 := blk_frozen BK127.out 5
               have hfz22_6 := blk_frozen BK127.out 6
               have hfz22_7 := blk_frozen BK127.out 7
               have hfz22_8 := blk_frozen BK127.out 8
               have hfz22_9 := blk_frozen BK127.out 9
               have hfz22_10 := blk_frozen BK127.out 10
               have hfz22_11 := blk_frozen BK127.out 11
               have hfz22_12 := blk_frozen BK127.out 12
               go_wp2_with (first | ((with_reducible refine gate_callee (f := 21) rfl ?_); refine goesL_ (some 40) rfl rfl Tryd.func21 (by kernel_rfl) rfl #[.slice A126_11 ((rd_T55 l0 x10_1).f6).length c126_11, .int .i64 (wrap64 (a1 + 1))] rfl (by (try simp only [List.map_toArray, List.map_cons, List.map_nil]); first | done | rfl | (simp only [List.length_drop, List.length_take]; rfl)) ?_; (with_reducible refine (ih kj5 (by have := HK1.out; have := HJ5.out; omega) _ _ ((rd_T55 l0 x10_1).f6) (wrap64 (a1 + 1)) t130 _ ?side1 ?side2 A21.out (HGL.out.below (by repeat (first | (with_reducible first | exact HB.out | apply below_alloc | apply pw_below_drewN | apply below_drew1 | refine below_set ?_ GE127.out) | exact HB.out)))).mono ?_); (case side1 => repeat (first | exact (Kd.C_below HR126_11.out HB.out) | (with_reducible refine Kd.C_alloc ?_ _) | (with_reducible refine Kd.C_drewN ?_ _) | (with_reducible refine Kd.C_drew ?_))); (case side2 => exact HC126_11.out); rintro e w23 ⟨rfl, hb⟩; refine ⟨_, rfl, ?_⟩; have n0_ := Aside0.mk (blk_below (g := gb127) (o := .cells #[.int .i64 ((rd_T55 l0 x10_1).f0), .int .i64 ((rd_T55 l0 x10_1).f1), .string ((rd_T55 l0 x10_1).f2), .string ((rd_T55 l0 x10_1).f3), .int .i64 ((rd_T55 l0 x10_1).f4), .int .i64 ((rd_T55 l0 x10_1).f5.f0.f0), .int .i64 ((rd_T55 l0 x10_1).f5.f0.f1), .int .i64 ((rd_T55 l0 x10_1).f5.f0.f2), .int .i64 ((rd_T55 l0 x10_1).f5.f1.f0), .int .i64 ((rd_T55 l0 x10_1).f5.f1.f1), .int .i64 ((rd_T55 l0 x10_1).f5.f1.f2), .slice A126_11 ((rd_T55 l0 x10_1).f6).length c126_11, .int .i64 ((rd_T55 l0 x10_1).f7)] 55 (0, 0)) (by (with_reducible repeat (first | refine blk_drewN ?_ _ | refine blk_drew ?_ | refine blk_alloc ?_ _)); exact BK127.out) hb); have n1_ := Aside0.mk (below_step (by repeat (first | (with_reducible first | exact HB.out | apply below_alloc | apply pw_below_drewN | apply below_drew1 | refine below_set ?_ GE127.out) | exact HB.out)) hb); clear BK127; clear HB; have BK127 := n0_; have HB := n1_; clear n0_ n1_; (try clear hb); (try clear hb2); (try clear hk); (try clear hi)))
               go_roundg kj5
               case measure => have := HK1.out; have := HJ5.out; omega
               case rel => exact ⟨(wrap64 ((wrap64 (x5_1 + 1)) + t130)), (wrap64 (x10_1 + 1)), (by first | rfl | (simp; done) | (simp [*]; done)), (by first | rfl | (simp; done) | (simp [*]; done)), H', ⟨by have := HK1.out; have := HJ5.out; omega⟩, ⟨by repeat (first | (with_reducible first | exact HB.out | apply below_alloc | apply pw_below_drewN | apply below_drew1 | refine below_set ?_ GE127.out) | exact HB.out)⟩⟩
             · rw [if_neg c20] at H
               have c20b0 : (((rd_T55 l0 x10_1).f0) == 7) = false := beq_eq_false_iff_ne.mpr c20
               have c20b1 : (((rd_T55 l0 x10_1).f0) != 7) = true := bne_iff_ne.mpr c20
               have H' := Aside0.mk H
               clear H
               have hcz24_0 : wc.cell? ⟨gb127, 0, none⟩ = some (.int .i64 ((rd_T55 l0 x10_1).f0)) := (blk_cell BK127.out 0).trans rfl
               have hcz24_1 : wc.cell? ⟨gb127, 1, none⟩ = some (.int .i64 ((rd_T55 l0 x10_1).f1)) := (blk_cell BK127.out 1).trans rfl
               have hcz24_2 : wc.cell? ⟨gb127, 2, none⟩ = some (.string ((rd_T55 l0 x10_1).f2)) := (blk_cell BK127.out 2).trans rfl
               have hcz24_3 : wc.cell? ⟨gb127, 3, none⟩ = some (.string ((rd_T55 l0 x10_1).f3)) := (blk_cell BK127.out 3).trans rfl
               have hcz24_4 : wc.cell? ⟨gb127, 4, none⟩ = some (.int .i64 ((rd_T55 l0 x10_1).f4)) := (blk_cell BK127.out 4).trans rfl
               have hcz24_5 : wc.cell? ⟨gb127, 5, none⟩ = some (.int .i64 ((rd_T55 l0 x10_1).f5.f0.f0)) := (blk_cell BK127.out 5).trans rfl
               have hcz24_6 : wc.cell? ⟨gb127, 6, none⟩ = some (.int .i64 ((rd_T55 l0 x10_1).f5.f0.f1)) := (blk_cell BK127.out 6).trans rfl
               have hcz24_7 : wc.cell? ⟨gb127, 7, none⟩ = some (.int .i64 ((rd_T55 l0 x10_1).f5.f0.f2)) := (blk_cell BK127.out 7).trans rfl
               have hcz24_8 : wc.cell? ⟨gb127, 8, none⟩ = some (.int .i64 ((rd_T55 l0 x10_1).f5.f1.f0)) := (blk_cell BK127.out 8).trans rfl
               have hcz24_9 : wc.cell? ⟨gb127, 9, none⟩ = some (.int .i64 ((rd_T55 l0 x10_1).f5.f1.f1)) := (blk_cell BK127.out 9).trans rfl
               have hcz24_10 : wc.cell? ⟨gb127, 10, none⟩ = some (.int .i64 ((rd_T55 l0 x10_1).f5.f1.f2)) := (blk_cell BK127.out 10).trans rfl
               have hcz24_11 : wc.cell? ⟨gb127, 11, none⟩ = some (.slice A126_11 ((rd_T55 l0 x10_1).f6).length c126_11) := (blk_cell BK127.out 11).trans rfl
               have hcz24_12 : wc.cell? ⟨gb127, 12, none⟩ = some (.int .i64 ((rd_T55 l0 x10_1).f7)) := (blk_cell BK127.out 12).trans rfl
               have hfz24_0 := blk_frozen BK127.out 0
               have hfz24_1 := blk_frozen BK127.out 1
               have hfz24_2 := blk_frozen BK127.out 2
               have hfz24_3 := blk_frozen BK127.out 3
               have hfz24_4 := blk_frozen BK127.out 4
               have hfz24_5 := blk_frozen BK127.out 5
               have hfz24_6 := blk_frozen BK127.out 6
               have hfz24_7 := blk_frozen BK127.out 7
               have hfz24_8 := blk_frozen BK127.out 8
               have hfz24_9 := blk_frozen BK127.out 9
               have hfz24_10 := blk_frozen BK127.out 10
               have hfz24_11 := blk_frozen BK127.out 11
               have hfz24_12 := blk_frozen BK127.out 12
               go_wp2
               go_roundg kj5
               case measure => have := HK1.out; have := HJ5.out; omega
               case rel => exact ⟨((wrap64 (x5_1 + 1))), (wrap64 (x10_1 + 1)), (by first | rfl | (simp; done) | (simp [*]; done)), (by first | rfl | (simp; done) | (simp [*]; done)), H', ⟨by have := HK1.out; have := HJ5.out; omega⟩, ⟨by repeat (first | (with_reducible first | exact HB.out | apply below_alloc | apply pw_below_drewN | apply below_drew1 | refine below_set ?_ GE127.out) | exact HB.out)⟩⟩
       · rw [if_neg c5] at H
         exact absurd H (by simp)
     · rw [if_neg c4] at H
       exact absurd H (by simp)
   · rw [if_neg c3] at H
     have c3b0 : decide (x10_1 < (l0.length : Int)) = false := decide_eq_false c3
     clear c3
     obtain rfl := Option.some.inj H
     go_wp2
     go_ret
     exact ⟨by first | rfl | (simp [errW_none, errW_some] <;> rfl) | (simp [*, errW_none, errW_some] <;> rfl), by repeat (first | (with_reducible first | exact HB.out | apply below_alloc | apply pw_below_drewN | apply below_drew1) | exact HB.out)⟩
def parser_Valid.f (k : Nat) (l0 : List (S55)) : Option (Bool) := (parser_count.f k l0 0).bind fun t131 => (some (decide (t131 ≤ 64)))
theorem parser_Valid.mono : ∀ a0 k, LeO (parser_Valid.f k a0) (parser_Valid.f (k + 1) a0) := by
 intro a0 k
 unfold parser_Valid.f
 repeat' first
  | (with_reducible exact parser_count.mono _ _ _)
  | (with_reducible exact LeO.refl _)
  | (with_reducible exact LeO.none _)
  | (with_reducible refine LeO.ite ?_ ?_)
  | (with_reducible refine LeO.bind ?_ (fun _ => ?_))
  | exact parser_count.mono _ _ _
  | exact LeO.none _
  | refine LeO.ite ?_ ?_
  | refine LeO.bind ?_ (fun _ => ?_)
set_option maxHeartbeats 8000000 in
set_option maxRecDepth 100000 in
theorem parser_Valid.calls (k : Nat) (A0 : Option Addr) (c0 : Nat) (l0 : List (S55)) (r : Bool) (w : World) (hr0 : Kd.C k55 w A0 l0.length l0) (hc0 : l0.length ≤ c0) (h : parser_Valid.f k l0 = some r) (hG : Glob w) :
 Calls Tryd.prog 11 #[.slice A0 l0.length c0] w fun e w' => e = .returned (.bool r) ∧ Below w.heap.size w w' := by
 have HGL := Aside0.mk hG
 clear hG
 have HR0 := Aside0.mk hr0
 have HC0 := Aside0.mk hc0
 clear hr0 hc0
 have HB := Aside0.mk (Below.refl w.heap.size w)
 have H : ((parser_count.f k l0 0).bind fun t131 => (some (decide (t131 ≤ 64)))) = some r := h
 clear h
 replace H := Option.bind_eq_some_iff.mp H
 obtain ⟨t131, A20, H⟩ := H
 replace H : (some (decide (t131 ≤ 64))) = some r := H
 have A2 := Aside0.mk A20
 clear A20
 obtain rfl := Option.some.inj H
 go_enter Tryd.func11, Tryd.ntmps11
 go_wp2_with (first | ((with_reducible refine gate_callee (f := 21) rfl ?_); refine goesL_ (some 4) rfl rfl Tryd.func21 (by kernel_rfl) rfl #[.slice A0 l0.length c0, .int .i64 0] rfl (by (try simp only [List.map_toArray, List.map_cons, List.map_nil]); first | done | rfl | (simp only [List.length_drop, List.length_take]; rfl)) ?_; (with_reducible refine (parser_count.calls k _ _ l0 0 t131 _ ?side1 ?side2 A2.out (HGL.out.below (by repeat (first | (with_reducible first | exact HB.out | apply below_alloc | apply pw_below_drewN | apply below_drew1) | exact HB.out)))).mono ?_); (case side1 => repeat (first | exact HR0.out | (with_reducible refine Kd.C_alloc ?_ _) | (with_reducible refine Kd.C_drewN ?_ _) | (with_reducible refine Kd.C_drew ?_))); (case side2 => exact HC0.out); rintro e w3 ⟨rfl, hb⟩; refine ⟨_, rfl, ?_⟩; have n0_ := Aside0.mk (below_step (by repeat (first | (with_reducible first | exact HB.out | apply below_alloc | apply pw_below_drewN | apply below_drew1) | exact HB.out)) hb); clear HB; have HB := n0_; clear n0_; (try clear hb); (try clear hb2); (try clear hk); (try clear hi)))
 go_ret
 exact ⟨by first | rfl | (simp [errW_none, errW_some] <;> rfl) | (simp [*, errW_none, errW_some] <;> rfl), by repeat (first | (with_reducible first | exact HB.out | apply below_alloc | apply pw_below_drewN | apply below_drew1) | exact HB.out)⟩
end Go.Proofs.YtonhcfecfifghaaDoor.PPx
namespace Go.Proofs.YtonhcfecfifghaaDoor.PPx
open Go.RowKit Go.Proofs.YtonhcfecfifghaaDoorW.PrintWords Go.Proofs.YtonhcfecfifghaaDoorW.PrintLast Go.Proofs.YtonhcfecfifghaaDoorW.PrintMore
set_option linter.unusedVariables false
set_option linter.unusedSimpArgs false
def h1L : List S55 := [⟨1, 1, ⟨#[]⟩, ⟨#[]⟩, 0, ⟨⟨0, 0, 0⟩, ⟨0, -3, 4⟩⟩, [], 0⟩]
def h2L : List S55 := [⟨2, 0, ⟨#[]⟩, ⟨#[]⟩, 0, ⟨⟨0, 0, 0⟩, ⟨0, 0, 0⟩⟩, [], 16⟩]
def h2M : List S55 := [⟨2, 0, ⟨#[]⟩, ⟨#[]⟩, 0, ⟨⟨0, 0, 0⟩, ⟨0, 0, 0⟩⟩, [], 0⟩]
def h5L : List S55 := [⟨7, 0, ⟨#[98]⟩, ⟨#[97]⟩, 0, ⟨⟨0, 0, 0⟩, ⟨0, 0, 0⟩⟩, [⟨6, 0, ⟨#[]⟩, ⟨#[]⟩, 5, ⟨⟨0, 0, 0⟩, ⟨0, 0, 0⟩⟩, [], 11⟩], 0⟩, ⟨8, 0, ⟨#[]⟩, ⟨#[]⟩, 0, ⟨⟨1, 2, 3⟩, ⟨4, 5, 6⟩⟩, [], 21⟩]
def h7L : List S55 := [⟨6, 1, ⟨#[]⟩, ⟨#[]⟩, 0, ⟨⟨0, 0, 0⟩, ⟨0, 0, 0⟩⟩, [], 0⟩]
set_option maxRecDepth 100000
def hs1 : ByteArray := ⟨#[103, 111, 32, 49, 32, 40, 48, 44, 32, 45, 51, 44, 32, 52, 41, 59]⟩
theorem head1 : parser_Parse.f 5 hs1 = some (h1L, []) := by kernel_rfl
def hs2 : ByteArray := ⟨#[103, 111, 32, 50, 32, 40, 48, 44, 32, 48, 44, 32, 48, 41, 59, 32, 104, 111, 109, 101, 32, 48, 59]⟩
theorem head2 : parser_Parse.f 5 hs2 = some (h2L, [⟨110, 3⟩]) := by kernel_rfl
def hs3 : ByteArray := ⟨#[119, 104, 101, 110, 32, 98, 101, 108, 116, 32, 99, 117, 112, 32, 123, 32, 112, 105, 99, 107, 32, 48, 32, 99, 117, 112, 59, 32]⟩
theorem head3 : parser_Parse.f 5 hs3 = some ([], [⟨3, 28⟩]) := by kernel_rfl
def hs4 : ByteArray := ⟨#[104, 111, 109, 101, 32, 48]⟩
theorem head4 : parser_Parse.f 5 hs4 = some ([], [⟨3, 6⟩]) := by kernel_rfl
def hs5 : ByteArray := ⟨#[119, 104, 101, 110, 32, 97, 32, 98, 32, 123, 32, 119, 97, 105, 116, 32, 53, 59, 32, 125, 32, 98, 111, 116, 104, 32, 40, 49, 44, 50, 44, 51, 41, 32, 40, 52, 44, 53, 44, 54, 41, 32, 59, 32, 35, 32, 100, 111, 110, 101]⟩
theorem head5 : parser_Parse.f 5 hs5 = some (h5L, []) := by kernel_rfl
def hs6 : ByteArray := ⟨#[112, 105, 99, 107, 32, 48, 32, 103, 111, 59, 32, 125]⟩
theorem head6 : parser_Parse.f 5 hs6 = some ([], [⟨110, 7⟩, ⟨110, 11⟩]) := by kernel_rfl
theorem headF1 : parser_Format.f 5 h1L = some ⟨#[103, 111, 32, 49, 32, 40, 48, 44, 32, 45, 51, 44, 32, 52, 41, 59, 10]⟩ := by kernel_rfl
theorem headF5 : parser_Format.f 5 h5L = some ⟨#[119, 104, 101, 110, 32, 97, 32, 98, 32, 123, 10, 32, 32, 119, 97, 105, 116, 32, 53, 59, 10, 125, 10, 98, 111, 116, 104, 32, 40, 49, 44, 32, 50, 44, 32, 51, 41, 32, 40, 52, 44, 32, 53, 44, 32, 54, 41, 59, 10]⟩ := by kernel_rfl
theorem headS : ambidexterref11_Same.f 5 h2L h2M = some true := by kernel_rfl
theorem headV5 : parser_Valid.f 20 h5L = some true := by kernel_rfl
theorem headV7 : parser_Valid.f 20 h7L = some false := by kernel_rfl
theorem headE1 : parser_Equal.f 5 h5L h5L = some true := by kernel_rfl
theorem headE2 : parser_Equal.f 5 h5L h1L = some false := by kernel_rfl
end Go.Proofs.YtonhcfecfifghaaDoor.PPx
namespace Go.Proofs.YtonhcfecfifghaaDoor.PPx
open Go.RowKit Go.Proofs.YtonhcfecfifghaaDoorW.PrintWords Go.Proofs.YtonhcfecfifghaaDoorW.PrintLast Go.Proofs.YtonhcfecfifghaaDoorW.PrintMore
set_option linter.unusedVariables false
set_option linter.unusedSimpArgs false
attribute [local go_sem high] eqA52
theorem lit_C {α : Type} (d : Kd α) (W : World) (e : TypeId) {xs : List α} {inner : List Value} (hrep : Reps (d.M W W.heap.size (fun _ => True)) d.sz xs inner) (hm : xs.length ≤ 9223372036854775807) : d.C (W.alloc (.cells inner.toArray e)) (some ⟨W.heap.size, 0, none⟩) xs.length xs := by
 have hR : d.R e (W.alloc (.cells inner.toArray e)) W.heap.size (fun _ => True) (.slice (some ⟨W.heap.size, 0, none⟩) xs.length xs.length) xs := by
  refine ⟨fun k hk => trivial, inner, ?_, ?_⟩
  · have h2 := World.ownsRow_lit (base := W.heap.size) (e := e) (size := d.sz) W inner.toArray xs.length (Nat.le_refl _) (by simpa [maxLen] using hm) (by simpa using hrep.1)
    simpa using h2
  · refine hrep.imp_ (fun p c hp => d.M_mono (fun k hk => ⟨trivial, fun he => ?_⟩) (Kd.M_below (d.M_bound hp) (below_alloc (Below.refl _ _) _)))
    have h3 : k = W.heap.size := by simpa [Value.ownBlock] using he
    have := hk.2.2.1
    omega
 exact (Kd.R_reads' hR).2.2
theorem litS_C (k arm : Int) (W : World) : Kd.C k55 (W.alloc (.cells #[.int .i64 k, .int .i64 arm, .string ⟨#[]⟩, .string ⟨#[]⟩, .int .i64 0, .int .i64 0, .int .i64 0, .int .i64 0, .int .i64 0, .int .i64 0, .int .i64 0, .slice none 0 0, .int .i64 0] 55)) (some ⟨W.heap.size, 0, none⟩) 1 [⟨k, arm, ⟨#[]⟩, ⟨#[]⟩, 0, ⟨⟨0, 0, 0⟩, ⟨0, 0, 0⟩⟩, [], 0⟩] :=
 lit_C k55 W 55 (xs := [⟨k, arm, ⟨#[]⟩, ⟨#[]⟩, 0, ⟨⟨0, 0, 0⟩, ⟨0, 0, 0⟩⟩, [], 0⟩]) (inner := [.int .i64 k, .int .i64 arm, .string ⟨#[]⟩, .string ⟨#[]⟩, .int .i64 0, .int .i64 0, .int .i64 0, .int .i64 0, .int .i64 0, .int .i64 0, .int .i64 0, .slice none 0 0, .int .i64 0]) (Reps.front (k55_mkM _ _ _ _ (v11 := .slice none 0 0) (Kd.R_nil _ _ _ _ _)) rfl (Reps.none _ _) rfl) (by simp)
theorem litD_C (e at_ : Int) (W : World) : Kd.C k35 (W.alloc (.cells #[.int .i64 e, .int .i64 at_] 35)) (some ⟨W.heap.size, 0, none⟩) 1 [⟨e, at_⟩] :=
 lit_C k35 W 35 (xs := [⟨e, at_⟩]) (inner := [.int .i64 e, .int .i64 at_]) (Reps.c2 (k35_mkM _ _ _ (⟨e, at_⟩ : S35)) (Reps.none _ _)) (by simp)
theorem litD_C2 (e at_ e2 at2 : Int) (W : World) : Kd.C k35 (W.alloc (.cells #[.int .i64 e, .int .i64 at_, .int .i64 e2, .int .i64 at2] 35)) (some ⟨W.heap.size, 0, none⟩) 2 [⟨e, at_⟩, ⟨e2, at2⟩] :=
 lit_C k35 W 35 (xs := [⟨e, at_⟩, ⟨e2, at2⟩]) (inner := [.int .i64 e, .int .i64 at_, .int .i64 e2, .int .i64 at2]) (Reps.c2 (k35_mkM _ _ _ (⟨e, at_⟩ : S35)) (Reps.c2 (k35_mkM _ _ _ (⟨e2, at2⟩ : S35)) (Reps.none _ _))) (by simp)
theorem headG2 : ambidexterref11_Faults.f 5 [⟨110, 3⟩] [⟨110, 3⟩] = some true := by kernel_rfl
theorem headG3 : ambidexterref11_Faults.f 5 [⟨3, 28⟩] [⟨3, 28⟩] = some true := by kernel_rfl
theorem headG4 : ambidexterref11_Faults.f 5 [⟨3, 6⟩] [⟨3, 6⟩] = some true := by kernel_rfl
theorem headG6 : ambidexterref11_Faults.f 5 [⟨110, 7⟩, ⟨110, 11⟩] [⟨110, 7⟩, ⟨110, 11⟩] = some true := by kernel_rfl
set_option maxHeartbeats 2000000 in
set_option maxRecDepth 100000 in
theorem head_calls (w : World) (hG : Glob w) : Calls Tryd.prog 9 #[] w fun e w' => e = .returned (.bool true) ∧ Below w.heap.size w w' := by
 have hu55 := Tryd.underlying55
 have HG := Aside0.mk hG
 have HB := Aside0.mk (Below.refl w.heap.size w)
 clear hG
 go_enter Tryd.func9, Tryd.ntmps9
 go_wp2_with fail
 refine (parser_Parse.calls 5 hs1 _ _ _ head1 (HG.out.below HB.out)).mono ?_
 rintro e w1 ⟨v1, f1, rfl, hr, hf, hb⟩
 obtain ⟨A1, c1, e1, hc1, hC⟩ := Kd.R_reads hr
 obtain ⟨B1, d1, e2, hd1, hD⟩ := Kd.R_reads hf
 have e1' : v1 = .slice A1 1 c1 := e1
 have e2' : f1 = .slice B1 0 d1 := e2
 subst e1' e2'
 clear e1 e2 hr hf
 have HB' := Aside0.mk (below_step HB.out hb)
 clear HB
 have HB := HB'
 clear HB'
 have HC1 := Aside0.mk hC
 clear hC hD hb
 go_wp2_with fail
 refine (parser_Parse.calls 5 hs2 _ _ _ head2 (HG.out.below HB.out)).mono ?_
 rintro e w2 ⟨v1, f1, rfl, hr, hf, hb⟩
 obtain ⟨A2, c2, e1, hc2, hC⟩ := Kd.R_reads hr
 obtain ⟨B2, d2, e2, hd2, hD⟩ := Kd.R_reads hf
 have e1' : v1 = .slice A2 1 c2 := e1
 have e2' : f1 = .slice B2 1 d2 := e2
 subst e1' e2'
 clear e1 e2 hr hf
 have HC1' := Aside0.mk (Kd.C_below HC1.out hb)
 clear HC1
 have HC1 := HC1'
 clear HC1'
 have HB' := Aside0.mk (below_step HB.out hb)
 clear HB
 have HB := HB'
 clear HB'
 have HC2 := Aside0.mk hC
 have HD2 := Aside0.mk hD
 clear hC hD hb
 go_wp2_with fail
 refine (parser_Parse.calls 5 hs3 _ _ _ head3 (HG.out.below HB.out)).mono ?_
 rintro e w3 ⟨v1, f1, rfl, hr, hf, hb⟩
 obtain ⟨A3, c3, e1, hc3, hC⟩ := Kd.R_reads hr
 obtain ⟨B3, d3, e2, hd3, hD⟩ := Kd.R_reads hf
 have e1' : v1 = .slice A3 0 c3 := e1
 have e2' : f1 = .slice B3 1 d3 := e2
 subst e1' e2'
 clear e1 e2 hr hf
 have HC1' := Aside0.mk (Kd.C_below HC1.out hb)
 clear HC1
 have HC1 := HC1'
 clear HC1'
 have HC2' := Aside0.mk (Kd.C_below HC2.out hb)
 clear HC2
 have HC2 := HC2'
 clear HC2'
 have HD2' := Aside0.mk (Kd.C_below HD2.out hb)
 clear HD2
 have HD2 := HD2'
 clear HD2'
 have HB' := Aside0.mk (below_step HB.out hb)
 clear HB
 have HB := HB'
 clear HB'
 have HD3 := Aside0.mk hD
 clear hC hD hb
 go_wp2_with fail
 refine (parser_Parse.calls 5 hs4 _ _ _ head4 (HG.out.below HB.out)).mono ?_
 rintro e w4 ⟨v1, f1, rfl, hr, hf, hb⟩
 obtain ⟨A4, c4, e1, hc4, hC⟩ := Kd.R_reads hr
 obtain ⟨B4, d4, e2, hd4, hD⟩ := Kd.R_reads hf
 have e1' : v1 = .slice A4 0 c4 := e1
 have e2' : f1 = .slice B4 1 d4 := e2
 subst e1' e2'
 clear e1 e2 hr hf
 have HC1' := Aside0.mk (Kd.C_below HC1.out hb)
 clear HC1
 have HC1 := HC1'
 clear HC1'
 have HC2' := Aside0.mk (Kd.C_below HC2.out hb)
 clear HC2
 have HC2 := HC2'
 clear HC2'
 have HD2' := Aside0.mk (Kd.C_below HD2.out hb)
 clear HD2
 have HD2 := HD2'
 clear HD2'
 have HD3' := Aside0.mk (Kd.C_below HD3.out hb)
 clear HD3
 have HD3 := HD3'
 clear HD3'
 have HB' := Aside0.mk (below_step HB.out hb)
 clear HB
 have HB := HB'
 clear HB'
 have HD4 := Aside0.mk hD
 clear hC hD hb
 go_wp2_with fail
 refine (parser_Parse.calls 5 hs5 _ _ _ head5 (HG.out.below HB.out)).mono ?_
 rintro e w5 ⟨v1, f1, rfl, hr, hf, hb⟩
 obtain ⟨A5, c5, e1, hc5, hC⟩ := Kd.R_reads hr
 obtain ⟨B5, d5, e2, hd5, hD⟩ := Kd.R_reads hf
 have e1' : v1 = .slice A5 2 c5 := e1
 have e2' : f1 = .slice B5 0 d5 := e2
 subst e1' e2'
 clear e1 e2 hr hf
 have HC1' := Aside0.mk (Kd.C_below HC1.out hb)
 clear HC1
 have HC1 := HC1'
 clear HC1'
 have HC2' := Aside0.mk (Kd.C_below HC2.out hb)
 clear HC2
 have HC2 := HC2'
 clear HC2'
 have HD2' := Aside0.mk (Kd.C_below HD2.out hb)
 clear HD2
 have HD2 := HD2'
 clear HD2'
 have HD3' := Aside0.mk (Kd.C_below HD3.out hb)
 clear HD3
 have HD3 := HD3'
 clear HD3'
 have HD4' := Aside0.mk (Kd.C_below HD4.out hb)
 clear HD4
 have HD4 := HD4'
 clear HD4'
 have HB' := Aside0.mk (below_step HB.out hb)
 clear HB
 have HB := HB'
 clear HB'
 have HC5 := Aside0.mk hC
 clear hC hD hb
 go_wp2_with fail
 refine (parser_Parse.calls 5 hs6 _ _ _ head6 (HG.out.below HB.out)).mono ?_
 rintro e w6 ⟨v1, f1, rfl, hr, hf, hb⟩
 obtain ⟨A6, c6, e1, hc6, hC⟩ := Kd.R_reads hr
 obtain ⟨B6, d6, e2, hd6, hD⟩ := Kd.R_reads hf
 have e1' : v1 = .slice A6 0 c6 := e1
 have e2' : f1 = .slice B6 2 d6 := e2
 subst e1' e2'
 clear e1 e2 hr hf
 have HC1' := Aside0.mk (Kd.C_below HC1.out hb)
 clear HC1
 have HC1 := HC1'
 clear HC1'
 have HC2' := Aside0.mk (Kd.C_below HC2.out hb)
 clear HC2
 have HC2 := HC2'
 clear HC2'
 have HD2' := Aside0.mk (Kd.C_below HD2.out hb)
 clear HD2
 have HD2 := HD2'
 clear HD2'
 have HD3' := Aside0.mk (Kd.C_below HD3.out hb)
 clear HD3
 have HD3 := HD3'
 clear HD3'
 have HD4' := Aside0.mk (Kd.C_below HD4.out hb)
 clear HD4
 have HD4 := HD4'
 clear HD4'
 have HC5' := Aside0.mk (Kd.C_below HC5.out hb)
 clear HC5
 have HC5 := HC5'
 clear HC5'
 have HB' := Aside0.mk (below_step HB.out hb)
 clear HB
 have HB := HB'
 clear HB'
 have HD6 := Aside0.mk hD
 clear hC hD hb
 obtain ⟨ad, Ax, cx, ex, x0, x1, x2, x3, x4, x5, x6, x7, x8, x9, x10, x11, x12, hlx, hCx⟩ := at_T55 HC1.out 0 (by decide) (by decide)
 subst ex
 have y0 : w6.cell? ad = some (.int .i64 1) := x0
 have y1 : w6.cell? ⟨ad.block, ad.off + 1, none⟩ = some (.int .i64 1) := x1
 have y8 : w6.cell? ⟨ad.block, ad.off + 8, none⟩ = some (.int .i64 0) := x8
 have y9 : w6.cell? ⟨ad.block, ad.off + 9, none⟩ = some (.int .i64 (-3)) := x9
 have y10 : w6.cell? ⟨ad.block, ad.off + 10, none⟩ = some (.int .i64 4) := x10
 clear hCx hlx x0 x1 x2 x3 x4 x5 x6 x7 x8 x9 x10 x11 x12
 simp only
 go_wp2_with fail
 refine (parser_Format.calls 5 (some ad) c1 h1L _ w6 HC1.out hc1 headF1 (HG.out.below HB.out)).mono ?_
 rintro e w7 ⟨rfl, hb⟩
 have HB7 := Aside0.mk hb
 clear hb y0 y1 y8 y9 y10
 go_wp2_with fail
 have hal := fun k arm => below_alloc (Below.refl w7.heap.size w7) (.cells #[.int .i64 k, .int .i64 arm, .string ⟨#[]⟩, .string ⟨#[]⟩, .int .i64 0, .int .i64 0, .int .i64 0, .int .i64 0, .int .i64 0, .int .i64 0, .int .i64 0, .slice none 0 0, .int .i64 0] 55)
 refine (ambidexterref11_Same.calls 5 A2 c2 h2L (some ⟨w7.heap.size, 0, none⟩) 1 h2M true _ (Kd.C_below (Kd.C_below HC2.out HB7.out) (hal 2 0)) hc2 (litS_C 2 0 w7) (by decide) headS).mono ?_
 rintro e w8 ⟨rfl, hb⟩
 have HB8 := Aside0.mk (below_step (below_step HB7.out (hal 2 0)) hb)
 clear hb hal HB7
 go_wp2_with fail
 have hal := below_alloc (Below.refl w8.heap.size w8) (.cells #[.int .i64 110, .int .i64 3] 35)
 refine (ambidexterref11_Faults.calls 5 B2 d2 _ (some ⟨w8.heap.size, 0, none⟩) 1 _ true _ (Kd.C_below (Kd.C_below HD2.out HB8.out) hal) hd2 (litD_C 110 3 w8) (Nat.le_refl _) headG2).mono ?_
 rintro e w9 ⟨rfl, hb⟩
 have HB9 := Aside0.mk (below_step (below_step HB8.out hal) hb.below)
 clear hb hal HB8
 go_wp2_with fail
 have hal := below_alloc (Below.refl w9.heap.size w9) (.cells #[.int .i64 3, .int .i64 28] 35)
 refine (ambidexterref11_Faults.calls 5 B3 d3 _ (some ⟨w9.heap.size, 0, none⟩) 1 _ true _ (Kd.C_below (Kd.C_below HD3.out HB9.out) hal) hd3 (litD_C 3 28 w9) (Nat.le_refl _) headG3).mono ?_
 rintro e w10 ⟨rfl, hb⟩
 have HB10 := Aside0.mk (below_step (below_step HB9.out hal) hb.below)
 clear hb hal HB9
 go_wp2_with fail
 have hal := below_alloc (Below.refl w10.heap.size w10) (.cells #[.int .i64 3, .int .i64 6] 35)
 refine (ambidexterref11_Faults.calls 5 B4 d4 _ (some ⟨w10.heap.size, 0, none⟩) 1 _ true _ (Kd.C_below (Kd.C_below HD4.out HB10.out) hal) hd4 (litD_C 3 6 w10) (Nat.le_refl _) headG4).mono ?_
 rintro e w11 ⟨rfl, hb⟩
 have HB11 := Aside0.mk (below_step (below_step HB10.out hal) hb.below)
 clear hb hal HB10
 go_wp2_with fail
 refine (parser_Format.calls 5 A5 c5 h5L _ w11 (Kd.C_below HC5.out HB11.out) hc5 headF5 (HG.out.below (below_step HB.out HB11.out))).mono ?_
 rintro e w12 ⟨rfl, hb⟩
 have HB12 := Aside0.mk (below_step HB11.out hb)
 clear hb HB11
 go_wp2_with fail
 have hal := below_alloc (Below.refl w12.heap.size w12) (.cells #[.int .i64 110, .int .i64 7, .int .i64 110, .int .i64 11] 35)
 refine (ambidexterref11_Faults.calls 5 B6 d6 _ (some ⟨w12.heap.size, 0, none⟩) 2 _ true _ (Kd.C_below (Kd.C_below HD6.out HB12.out) hal) hd6 (litD_C2 110 7 110 11 w12) (Nat.le_refl _) headG6).mono ?_
 rintro e w13 ⟨rfl, hb⟩
 have HB13 := Aside0.mk (below_step (below_step HB12.out hal) hb.below)
 clear hb hal HB12
 go_wp2_with fail
 refine (parser_Valid.calls 20 A5 c5 h5L true w13 (Kd.C_below HC5.out HB13.out) hc5 headV5 (HG.out.below (below_step HB.out HB13.out))).mono ?_
 rintro e w14 ⟨rfl, hb⟩
 have HB14 := Aside0.mk (below_step HB13.out hb)
 clear hb HB13
 go_wp2_with fail
 have hal := below_alloc (Below.refl w14.heap.size w14) (.cells #[.int .i64 6, .int .i64 1, .string ⟨#[]⟩, .string ⟨#[]⟩, .int .i64 0, .int .i64 0, .int .i64 0, .int .i64 0, .int .i64 0, .int .i64 0, .int .i64 0, .slice none 0 0, .int .i64 0] 55)
 refine (parser_Valid.calls 20 (some ⟨w14.heap.size, 0, none⟩) 1 h7L false _ (litS_C 6 1 w14) (by decide) headV7 (HG.out.below (below_step (below_step HB.out HB14.out) hal))).mono ?_
 rintro e w15 ⟨rfl, hb⟩
 have HB15 := Aside0.mk (below_step (below_step HB14.out hal) hb)
 clear hb hal HB14
 go_wp2_with fail
 refine (parser_Equal.calls 5 A5 c5 h5L A5 c5 h5L true w15 (Kd.C_below HC5.out HB15.out) hc5 (Kd.C_below HC5.out HB15.out) hc5 headE1).mono ?_
 rintro e w16 ⟨rfl, hb⟩
 have HB16 := Aside0.mk (below_step HB15.out hb)
 clear hb HB15
 go_wp2_with fail
 refine (parser_Equal.calls 5 A5 c5 h5L (some ad) c1 h1L false w16 (Kd.C_below HC5.out HB16.out) hc5 (Kd.C_below HC1.out HB16.out) hc1 headE2).mono ?_
 rintro e w17 ⟨rfl, hb⟩
 have HB17 := Aside0.mk (below_step HB16.out hb)
 clear hb HB16
 go_wp2_with fail
 go_ret
 exact ⟨rfl, below_step HB.out HB17.out⟩
def ambidexterlaw11_head.f : Option Bool := some true
theorem ambidexterlaw11_head.calls (r : Bool) (w : World) (h : ambidexterlaw11_head.f = some r) (hG : Glob w) :
 Calls Tryd.prog 9 #[] w fun e w' => e = .returned (.bool r) ∧ Below w.heap.size w w' := by
 obtain rfl := Option.some.inj h
 exact head_calls w hG
end Go.Proofs.YtonhcfecfifghaaDoor.PPx
