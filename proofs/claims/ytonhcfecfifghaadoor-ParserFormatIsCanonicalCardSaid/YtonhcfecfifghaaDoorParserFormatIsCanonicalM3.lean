/- Part 3 of the proof of ParserFormatIsCanonical: the contracts of the functions that the law reaches, and what their plain functions compute. No condition. -/
import Derived.Test.YtonhcfecfifghaaDoorParserFormatIsCanonicalM1
import Derived.Test.YtonhcfecfifghaaDoorParserFormatIsCanonicalM2
import Derived.Lib.AppendIntMem
import Derived.Test.YtonhcfecfifghaaDoorRows
import Derived.Test.YtonhcfecfifghaaDoorCards
import Derived.Test.YtonhcfecfifghaaDoorTie
import Derived.WalkKit
import Derived.ProofKit
import Derived.OpenShut
import Derived.ShutString
import Derived.ChangeOld
import Derived.Below
import Derived.SizedLaws
import Derived.LaidMore
import Derived.Stop.Joined
import Derived.SevenTiedAt
namespace Go.Proofs.YtonhcfecfifghaaDoor.PPx
open Go.RowKit Go.Proofs.YtonhcfecfifghaaDoorW.PrintWords Go.Proofs.YtonhcfecfifghaaDoorW.PrintLast Go.Proofs.YtonhcfecfifghaaDoorW.PrintMore
set_option linter.unusedVariables false
set_option linter.unusedSimpArgs false
def smallJ (q : S52) : Bool := smallB q.f0 && (smallB q.f1 && smallB q.f2)
/-- do the names hold that the kind wants -/
def namesF (x : S55) : Option Bool :=
  (if x.f0 = 3 ∨ x.f0 = 7 then parser_name.f x.f2 else some true).bind fun a => if a = true then (if x.f0 = 4 ∨ x.f0 = 5 ∨ x.f0 = 7 then parser_name.f x.f3 else some true) else some false
def plainF (k : Nat) (x : S55) : Option Bool :=
  if x.f0 < 1 then some false else if x.f0 > 8 then some false else if x.f1 ≠ 0 ∧ x.f1 ≠ 1 then some false else if smallB x.f4 = false then some false
  else (sameS (parser_Equal.f k) x (bareS x)).bind fun t => if t = false then some false else if smallJ x.f5.f0 = false then some false else if smallJ x.f5.f1 = false then some false else namesF x
theorem plain_le (k : Nat) (x : S55) : LeO (plainF k x) (plainF (k + 1) x) := by
  unfold plainF
  exact LeO.ite (LeO.refl _) (LeO.ite (LeO.refl _) (LeO.ite (LeO.refl _) (LeO.ite (LeO.refl _) (LeO.bind (sameE_le (Equal_le k) x _) fun _ => LeO.refl _))))
theorem small_quiet (N : Int) (W : World) (n : Nat) : Calls Tryd.prog 43 #[.int .i64 N] (W.drewN n) fun e w'' => e = .returned (.bool (smallB N)) ∧ ∃ m, w'' = W.drewN m :=
  Calls.quiet_of ((parser_small.calls N _ _ (small_f N)).mono fun e w' h => ⟨h.1, h.2.out⟩)
theorem row_held {W' : World} {b : Nat} {x : S55} {v : Value} (h : W'.heap[b]? = some (.cells (stmC x v) 55 (0, 0))) : W'.cell? ⟨b, 0, none⟩ = some (.int .i64 x.f0) ∧ W'.cell? ⟨b, 1, none⟩ = some (.int .i64 x.f1) ∧ W'.cell? ⟨b, 2, none⟩ = some (.string x.f2) ∧ W'.cell? ⟨b, 3, none⟩ = some (.string x.f3) ∧ W'.cell? ⟨b, 4, none⟩ = some (.int .i64 x.f4) ∧ W'.cell? ⟨b, 5, none⟩ = some (.int .i64 x.f5.f0.f0) ∧ W'.cell? ⟨b, 6, none⟩ = some (.int .i64 x.f5.f0.f1) ∧ W'.cell? ⟨b, 7, none⟩ = some (.int .i64 x.f5.f0.f2) ∧ W'.cell? ⟨b, 8, none⟩ = some (.int .i64 x.f5.f1.f0) ∧ W'.cell? ⟨b, 9, none⟩ = some (.int .i64 x.f5.f1.f1) ∧ W'.cell? ⟨b, 10, none⟩ = some (.int .i64 x.f5.f1.f2) ∧ W'.cell? ⟨b, 11, none⟩ = some (v) ∧ W'.cell? ⟨b, 12, none⟩ = some (.int .i64 x.f7) :=
  ⟨blk_cell h 0, blk_cell h 1, blk_cell h 2, blk_cell h 3, blk_cell h 4, blk_cell h 5, blk_cell h 6, blk_cell h 7, blk_cell h 8, blk_cell h 9, blk_cell h 10, blk_cell h 11, blk_cell h 12⟩
theorem index53_0 (q0 q1 q2 p0 p1 p2 : Int) (W : World) : Sem.run Tryd.prog (Instr.index 53 (.agg #[.int .i64 q0, .int .i64 q1, .int .i64 q2, .int .i64 p0, .int .i64 p1, .int .i64 p2]) (.int .i64 0)) W = Result.ok (.agg #[.int .i64 q0, .int .i64 q1, .int .i64 q2]) W := by kernel_rfl
theorem index53_1 (q0 q1 q2 p0 p1 p2 : Int) (W : World) : Sem.run Tryd.prog (Instr.index 53 (.agg #[.int .i64 q0, .int .i64 q1, .int .i64 q2, .int .i64 p0, .int .i64 p1, .int .i64 p2]) (.int .i64 1)) W = Result.ok (.agg #[.int .i64 p0, .int .i64 p1, .int .i64 p2]) W := by kernel_rfl
theorem row3_C {W : World} {g t : Nat} {a b c : Int} (h : W.heap[g]? = some (.cells #[.int .i64 a, .int .i64 b, .int .i64 c] t (0, 0))) : Kd.C (Kd.int .i64) W (some ⟨g, 0, none⟩) [a, b, c].length [a, b, c] := by
  refine Kd.C_of_reads (d := 0) ⟨rfl, by simp, fun _ => ⟨_, rfl, fun j hj => ?_⟩⟩
  have hj' : j < 3 := hj
  rcases j with _ | _ | _ | j
  · exact blk_cell h 0
  · exact blk_cell h 1
  · exact blk_cell h 2
  · omega
theorem any_smallJ (a b c : Int) : ([a, b, c].any fun n => !smallB n) = !smallJ ⟨a, b, c⟩ := by
  simp only [List.any_cons, List.any_nil, smallJ]
  cases smallB a <;> cases smallB b <;> cases smallB c <;> rfl
theorem names_cases (x : S55) (hk : 1 ≤ x.f0 ∧ x.f0 ≤ 8) : ((x.f0 == 3) = true ∧ (x.f0 == 7) = false ∧ (x.f0 == 4) = false ∧ (x.f0 == 5) = false ∧ namesF x = parser_name.f x.f2) ∨ ((x.f0 == 3) = false ∧ (x.f0 == 7) = true ∧ (x.f0 == 4) = false ∧ (x.f0 == 5) = false ∧ namesF x = (parser_name.f x.f2).bind fun a => if a = true then parser_name.f x.f3 else some false) ∨ ((x.f0 == 3) = false ∧ (x.f0 == 7) = false ∧ (x.f0 == 4) = true ∧ (x.f0 == 5) = false ∧ namesF x = parser_name.f x.f3) ∨ ((x.f0 == 3) = false ∧ (x.f0 == 7) = false ∧ (x.f0 == 4) = false ∧ (x.f0 == 5) = true ∧ namesF x = parser_name.f x.f3) ∨ ((x.f0 == 3) = false ∧ (x.f0 == 7) = false ∧ (x.f0 == 4) = false ∧ (x.f0 == 5) = false ∧ namesF x = some true) := by
  obtain ⟨x0, x1, x2, x3, x4, x5, x6, x7⟩ := x
  simp only at hk ⊢
  have h8 : x0 = 3 ∨ x0 = 7 ∨ x0 = 4 ∨ x0 = 5 ∨ (x0 ≠ 3 ∧ x0 ≠ 7 ∧ x0 ≠ 4 ∧ x0 ≠ 5) := by omega
  rcases h8 with rfl | rfl | rfl | rfl | ⟨h3, h7, h4, h5⟩
  · left
    refine ⟨rfl, rfl, rfl, rfl, ?_⟩
    simp only [namesF]
    cases parser_name.f x2 with
    | none => rfl
    | some a => cases a <;> rfl
  · right; left
    refine ⟨rfl, rfl, rfl, rfl, ?_⟩
    simp only [namesF]
    rfl
  · right; right; left
    refine ⟨rfl, rfl, rfl, rfl, ?_⟩
    simp only [namesF]
    rfl
  · right; right; right; left
    refine ⟨rfl, rfl, rfl, rfl, ?_⟩
    simp only [namesF]
    rfl
  · right; right; right; right
    refine ⟨by simpa using h3, by simpa using h7, by simpa using h4, by simpa using h5, ?_⟩
    simp [namesF, h3, h7, h4, h5]
theorem bareV_ok (x : S55) (A : Option Addr) (c : Nat) (hc : x.f6.length ≤ c) : ∃ Ay cy, bareV x (.slice A x.f6.length c) = .slice Ay (bareS x).f6.length cy ∧ (bareS x).f6.length ≤ cy ∧ ∀ w, Kd.C k55 w A x.f6.length x.f6 → Kd.C k55 w Ay (bareS x).f6.length (bareS x).f6 := by
  by_cases h7 : x.f0 = 7
  · have h : (bareS x).f6 = x.f6 := by unfold bareS; simp [h7]
    refine ⟨A, c, ?_, ?_, ?_⟩
    · unfold bareV; rw [if_pos h7, h]
    · rw [h]; exact hc
    · intro w hw; rw [h]; exact hw
  · have h : (bareS x).f6 = [] := by unfold bareS; (repeat' split) <;> first | rfl | contradiction
    refine ⟨none, 0, ?_, ?_, ?_⟩
    · unfold bareV; rw [if_neg h7, h]; rfl
    · rw [h]; exact Nat.le_refl _
    · intro w hw; rw [h]; exact Kd.C_nil _ _
set_option maxHeartbeats 4000000 in
set_option maxRecDepth 100000 in
theorem plain_calls (k : Nat) (x : S55) (A : Option Addr) (c : Nat) (r : Bool) (w : World) (hx : Kd.C k55 w A x.f6.length x.f6) (hc : x.f6.length ≤ c) (h : plainF k x = some r) (hG : Glob w) :
    Calls Tryd.prog 30 #[.agg (stmC x (.slice A x.f6.length c))] w fun e w' => e = .returned (.bool r) ∧ Below w.heap.size w w' := by
  have hu55 := Tryd.underlying55
  have HX := Aside0.mk hx
  have HG := Aside0.mk hG
  have HR := Aside0.mk h
  clear hx hG h
  by_cases c1 : x.f0 < 1
  · have hr : r = false := by have := HR.out; unfold plainF at this; rw [if_pos c1] at this; simpa using this.symm
    subst hr
    have t1 : decide (x.f0 < 1) = true := decide_eq_true c1
    clear HR
    go_enter Tryd.func30, Tryd.ntmps30
    go_wp2_with fail
    go_quiet (fail)
    go_wp2_with fail
    go_ret
    exact ⟨rfl, pw_below_drewN (below_alloc (Below.refl _ _) _) _⟩
  · have t1 : decide (x.f0 < 1) = false := decide_eq_false c1
    by_cases c2 : x.f0 > 8
    · have hr : r = false := by have := HR.out; unfold plainF at this; rw [if_neg c1, if_pos c2] at this; simpa using this.symm
      subst hr
      have t2 : decide (8 < x.f0) = true := decide_eq_true c2
      have t2' : decide (x.f0 > 8) = true := decide_eq_true c2
      clear HR
      go_enter Tryd.func30, Tryd.ntmps30
      go_wp2_with fail
      go_quiet (fail)
      go_wp2_with fail
      go_ret
      exact ⟨rfl, pw_below_drewN (below_alloc (Below.refl _ _) _) _⟩
    · have t2 : decide (8 < x.f0) = false := decide_eq_false c2
      by_cases c3 : x.f1 ≠ 0 ∧ x.f1 ≠ 1
      · have hr : r = false := by have := HR.out; unfold plainF at this; rw [if_neg c1, if_neg c2, if_pos c3] at this; simpa using this.symm
        subst hr
        have t3 : (x.f1 != 0) = true := bne_iff_ne.mpr c3.1
        have t4 : (x.f1 != 1) = true := bne_iff_ne.mpr c3.2
        clear HR c3
        go_enter Tryd.func30, Tryd.ntmps30
        go_wp2_with fail
        go_quiet (fail)
        go_wp2_with fail
        go_ret
        exact ⟨rfl, pw_below_drewN (below_alloc (Below.refl _ _) _) _⟩
      · have ha : x.f1 = 0 ∨ x.f1 = 1 := by omega
        have hk : 1 ≤ x.f0 ∧ x.f0 ≤ 8 := by omega
        have HA := Aside0.mk ha
        have HK := Aside0.mk hk
        have HR3 := Aside0.mk (show (if smallB x.f4 = false then some false else (sameS (parser_Equal.f k) x (bareS x)).bind fun t => if t = false then some false else if smallJ x.f5.f0 = false then some false else if smallJ x.f5.f1 = false then some false else namesF x) = some r from by have := HR.out; unfold plainF at this; rw [if_neg c1, if_neg c2, if_neg c3] at this; exact this)
        have t3 : (x.f1 != 0) = false ∨ ((x.f1 != 0) = true ∧ (x.f1 != 1) = false) := by rcases ha with h | h <;> simp [h]
        clear HR c1 c2 c3 ha hk
        have HSm := Aside0.mk (small_quiet x.f4 (w.alloc (.cells (stmC x (.slice A x.f6.length c)) 55)))
        cases c4 : smallB x.f4 with
        | false =>
          have hr : r = false := by have := HR3.out; rw [if_pos c4] at this; simpa using this.symm
          subst hr
          rw [c4] at HSm
          clear HR3
          rcases t3 with t3 | ⟨t3, t4⟩
          all_goals
            go_enter Tryd.func30, Tryd.ntmps30
            go_wp2_with fail
            go_quiet ((go_at_call 43; exact HSm.out _))
            go_wp2_with fail
            go_ret
            exact ⟨rfl, pw_below_drewN (below_alloc (Below.refl _ _) _) _⟩
        | true =>
          have HR4 := Aside0.mk ((if_neg (show ¬ smallB x.f4 = false from by rw [c4]; decide)).symm.trans HR3.out)
          clear HR3
          obtain ⟨t0, ht, hrest⟩ := Option.bind_eq_some_iff.1 HR4.out
          have HT := Aside0.mk ht
          have HRest := Aside0.mk hrest
          clear HR4 ht hrest HSm
          obtain ⟨x0, x1, x2, x3, x4, ⟨⟨q0, q1, q2⟩, ⟨p0, p1, p2⟩⟩, x6, x7⟩ := x
          obtain ⟨Ay, cy, hv, hcy, hy⟩ := bareV_ok _ A c hc
          have hbare : ∀ W : World, Calls Tryd.prog 44 #[.agg (stmC ⟨x0, x1, x2, x3, x4, ⟨⟨q0, q1, q2⟩, ⟨p0, p1, p2⟩⟩, x6, x7⟩ (.slice A x6.length c))] W fun e w' => e = .returned (.agg (stmC (bareS ⟨x0, x1, x2, x3, x4, ⟨⟨q0, q1, q2⟩, ⟨p0, p1, p2⟩⟩, x6, x7⟩) (bareV ⟨x0, x1, x2, x3, x4, ⟨⟨q0, q1, q2⟩, ⟨p0, p1, p2⟩⟩, x6, x7⟩ (.slice A x6.length c)))) ∧ Below W.heap.size W w' := fun W => bare_calls _ A _ c W HK.out HA.out
          have hsame : ∀ W : World, Below w.heap.size w W → Calls Tryd.prog 26 #[.agg (stmC ⟨x0, x1, x2, x3, x4, ⟨⟨q0, q1, q2⟩, ⟨p0, p1, p2⟩⟩, x6, x7⟩ (.slice A x6.length c)), .agg (stmC (bareS ⟨x0, x1, x2, x3, x4, ⟨⟨q0, q1, q2⟩, ⟨p0, p1, p2⟩⟩, x6, x7⟩) (.slice Ay (bareS ⟨x0, x1, x2, x3, x4, ⟨⟨q0, q1, q2⟩, ⟨p0, p1, p2⟩⟩, x6, x7⟩).f6.length cy))] W fun e w' => e = .returned (.bool t0) ∧ Below W.heap.size W w' := fun W hW => sameS_calls k _ _ A Ay c cy t0 W (Kd.C_below HX.out hW) hc (Kd.C_below (hy w HX.out) hW) hcy HT.out
          rw [hv] at hbare
          clear hv hcy hy HT HA
          generalize bareS ⟨x0, x1, x2, x3, x4, ⟨⟨q0, q1, q2⟩, ⟨p0, p1, p2⟩⟩, x6, x7⟩ = Y at hbare hsame
          have HBare := Aside0.mk hbare
          have HSame := Aside0.mk hsame
          clear hbare hsame
          simp only [stmC] at HBare HSame
          have HH := Aside0.mk (heap_alloc_new w (.cells (stmC (⟨x0, x1, x2, x3, x4, ⟨⟨q0, q1, q2⟩, ⟨p0, p1, p2⟩⟩, x6, x7⟩ : S55) (.slice A x6.length c)) 55))
          have hz := row_held HH.out
          have hz0 := row_held (blk_drew HH.out)
          have hz1 := fun n1 => row_held (blk_drewN HH.out n1)
          simp only at t1 t2 t3 c4 hz hz0 hz1 hc
          rcases t3 with t3 | ⟨t3, t4⟩
          all_goals
            go_enter Tryd.func30, Tryd.ntmps30
            go_wp2_with fail
            first
            | (have t3' : (x1 != 0) = false := t3
               clear t3'
               go_split_ands
               go_region_with (first | (go_at_call 43; (with_reducible refine (parser_small.calls x4 _ _ (small_f _)).mono ?_); rintro e w1 ⟨rfl, ⟨n1, rfl⟩⟩; have hzn := hz1 n1; go_split_ands) | (go_at_call 44; (with_reducible refine (HBare.out _).mono ?_); rintro e w1 ⟨rfl, hb⟩; have HH1 := Aside0.mk (blk_below (blk_drewN HH.out _) hb); have HB1 := Aside0.mk (below_step (pw_below_drewN (below_alloc (Below.refl _ _) _) _) hb); clear hb; have hzn := row_held HH1.out; simp only at hzn; go_split_ands) | (go_at_call 26; (with_reducible refine (HSame.out _ HB1.out).mono ?_); rintro e w2 ⟨rfl, hb⟩; have HH2 := Aside0.mk (blk_below HH1.out hb); have HB2 := Aside0.mk (below_step HB1.out hb); clear hb HH1 HB1; have HH1 := HH2; have HB1 := HB2; clear HH2 HB2))
               all_goals (have hHeld : True := trivial))
            | (go_region_held3 (fun W' => W'.cell? ⟨w.heap.size, 0, none⟩ = some (.int .i64 x0) ∧ W'.cell? ⟨w.heap.size, 1, none⟩ = some (.int .i64 x1) ∧ W'.cell? ⟨w.heap.size, 2, none⟩ = some (.string x2) ∧ W'.cell? ⟨w.heap.size, 3, none⟩ = some (.string x3) ∧ W'.cell? ⟨w.heap.size, 4, none⟩ = some (.int .i64 x4) ∧ W'.cell? ⟨w.heap.size, 5, none⟩ = some (.int .i64 q0) ∧ W'.cell? ⟨w.heap.size, 6, none⟩ = some (.int .i64 q1) ∧ W'.cell? ⟨w.heap.size, 7, none⟩ = some (.int .i64 q2) ∧ W'.cell? ⟨w.heap.size, 8, none⟩ = some (.int .i64 p0) ∧ W'.cell? ⟨w.heap.size, 9, none⟩ = some (.int .i64 p1) ∧ W'.cell? ⟨w.heap.size, 10, none⟩ = some (.int .i64 p2) ∧ W'.cell? ⟨w.heap.size, 11, none⟩ = some (.slice A x6.length c) ∧ W'.cell? ⟨w.heap.size, 12, none⟩ = some (.int .i64 x7)) (with_reducible first | exact hz0 | exact hz1 _ | exact row_held HH1.out) (first | (go_at_call 43; (with_reducible refine (parser_small.calls x4 _ _ (small_f _)).mono ?_); rintro e w1 ⟨rfl, ⟨n1, rfl⟩⟩) | (go_at_call 44; (with_reducible refine (HBare.out _).mono ?_); rintro e w1 ⟨rfl, hb⟩; have HH1 := Aside0.mk (blk_below (blk_drewN HH.out _) hb); have HB1 := Aside0.mk (below_step (pw_below_drewN (below_alloc (Below.refl _ _) _) _) hb); clear hb) | (go_at_call 26; (with_reducible refine (HSame.out _ HB1.out).mono ?_); rintro e w2 ⟨rfl, hb⟩; have HH2 := Aside0.mk (blk_below HH1.out hb); have HB2 := Aside0.mk (below_step HB1.out hb); clear hb HH1 HB1; have HH1 := HH2; have HB1 := HB2; clear HH2 HB2))
               all_goals rename_i hHeld)
            | fail "held3"
          all_goals
            have HB := HB1
            have HH2 := HH1
            clear hHeld HB1 HH1 HBare HSame hz1 HH
            try clear hz
            try clear hz0
            cases t0 with
            | false =>
              have hr : r = false := by have := HRest.out; simpa using this.symm
              subst hr
              go_wp2_with fail
              go_ret
              exact ⟨rfl, HB.out⟩
            | true =>
              have hz2 := row_held HH2.out
              simp only at hz2
              go_split_ands
              go_wp2_with fail
              go_loopg [40] 2 (fun kq v8 wr => v8 = .int .i64 (2 - kq) ∧ Aside0 (kq ≤ 2 ∧ wr.heap[w.heap.size]? = some (.cells (stmC (⟨x0, x1, x2, x3, x4, ⟨⟨q0, q1, q2⟩, ⟨p0, p1, p2⟩⟩, x6, x7⟩ : S55) (.slice A x6.length c)) 55 (0, 0)) ∧ Below w.heap.size w wr ∧ (kq < 2 → smallJ ⟨q0, q1, q2⟩ = true) ∧ (kq < 1 → smallJ ⟨p0, p1, p2⟩ = true)))
              case atStart => exact ⟨rfl, ⟨by decide, HH2.out, HB.out, fun h => absurd h (by decide), fun h => absurd h (by decide)⟩⟩
              case round =>
                clear HH2 HB
                obtain ⟨hv8, ⟨hKK, hH, hB, hJ1, hJ2⟩⟩ := hrel
                have HK3 := Aside0.mk hKK
                have HH := Aside0.mk hH
                have HB := Aside0.mk hB
                have HJ1 := Aside0.mk hJ1
                have HJ2 := Aside0.mk hJ2
                clear hH hB hJ1 hJ2 hKK
                rcases gk with _ | _ | _ | k
                · have hv9 : _ = Value.int .i64 2 := hv8.trans rfl
                  clear hv8
                  subst hv9
                  have HN := Aside0.mk (show namesF _ = some r from by have := HRest.out; rw [if_neg (by decide), if_neg (by rw [HJ1.out (by decide)]; exact Bool.noConfusion), if_neg (by rw [HJ2.out (by decide)]; exact Bool.noConfusion)] at this; exact this)
                  clear HRest HJ1 HJ2 HK3
                  have hz3 := row_held HH.out
                  simp only at hz3
                  have hcase : ((x0 == 3) = true ∧ (x0 == 7) = false ∧ (x0 == 4) = false ∧ (x0 == 5) = false ∧ namesF ⟨x0, x1, x2, x3, x4, ⟨⟨q0, q1, q2⟩, ⟨p0, p1, p2⟩⟩, x6, x7⟩ = parser_name.f x2) ∨ ((x0 == 3) = false ∧ (x0 == 7) = true ∧ (x0 == 4) = false ∧ (x0 == 5) = false ∧ namesF ⟨x0, x1, x2, x3, x4, ⟨⟨q0, q1, q2⟩, ⟨p0, p1, p2⟩⟩, x6, x7⟩ = (parser_name.f x2).bind fun a => if a = true then parser_name.f x3 else some false) ∨ ((x0 == 3) = false ∧ (x0 == 7) = false ∧ (x0 == 4) = true ∧ (x0 == 5) = false ∧ namesF ⟨x0, x1, x2, x3, x4, ⟨⟨q0, q1, q2⟩, ⟨p0, p1, p2⟩⟩, x6, x7⟩ = parser_name.f x3) ∨ ((x0 == 3) = false ∧ (x0 == 7) = false ∧ (x0 == 4) = false ∧ (x0 == 5) = true ∧ namesF ⟨x0, x1, x2, x3, x4, ⟨⟨q0, q1, q2⟩, ⟨p0, p1, p2⟩⟩, x6, x7⟩ = parser_name.f x3) ∨ ((x0 == 3) = false ∧ (x0 == 7) = false ∧ (x0 == 4) = false ∧ (x0 == 5) = false ∧ namesF ⟨x0, x1, x2, x3, x4, ⟨⟨q0, q1, q2⟩, ⟨p0, p1, p2⟩⟩, x6, x7⟩ = some true) := names_cases ⟨x0, x1, x2, x3, x4, ⟨⟨q0, q1, q2⟩, ⟨p0, p1, p2⟩⟩, x6, x7⟩ HK.out
                  have HGW := Aside0.mk (HG.out.below HB.out)
                  rcases hcase with ⟨e3, e7, e4, e5, hN⟩ | ⟨e3, e7, e4, e5, hN⟩ | ⟨e3, e7, e4, e5, hN⟩ | ⟨e3, e7, e4, e5, hN⟩ | ⟨e3, e7, e4, e5, hN⟩
                  · skip
                    have HNN := Aside0.mk (hN.symm.trans HN.out)
                    clear hN HN
                    go_split_ands
                    go_wp2_with fail
                    go_quiet (fail)
                    go_wp2_with fail
                    refine (parser_name.calls x2 r _ HNN.out (HGW.out.below (pw_below_drewN (Below.refl _ _) _))).mono ?_
                    rintro e w4 ⟨rfl, hb⟩
                    have HB4 := Aside0.mk (below_step (pw_below_drewN HB.out _) hb)
                    clear hb
                    cases r
                    all_goals
                      go_wp2_with fail
                      go_ret
                      exact ⟨rfl, HB4.out⟩
                  · obtain ⟨a, ha, hrest2⟩ := Option.bind_eq_some_iff.1 (hN.symm.trans HN.out)
                    have HA2 := Aside0.mk ha
                    have HR2 := Aside0.mk hrest2
                    clear ha hrest2 hN HN
                    go_split_ands
                    go_wp2_with fail
                    go_quiet (fail)
                    go_wp2_with fail
                    refine (parser_name.calls x2 a _ HA2.out (HGW.out.below (pw_below_drewN (Below.refl _ _) _))).mono ?_
                    rintro e w4 ⟨rfl, hb⟩
                    have HB4 := Aside0.mk (below_step (pw_below_drewN HB.out _) hb)
                    have hz4 := row_held (blk_below (blk_drewN HH.out _) hb)
                    simp only at hz4
                    clear hb
                    cases a with
                    | false =>
                      have hr : r = false := by have := HR2.out; simpa using this.symm
                      subst hr
                      go_split_ands
                      go_wp2_with fail
                      go_ret
                      exact ⟨rfl, HB4.out⟩
                    | true =>
                      go_split_ands
                      go_wp2_with fail
                      refine (parser_name.calls x3 r _ HR2.out (HG.out.below HB4.out)).mono ?_
                      rintro e w5 ⟨rfl, hb⟩
                      have HB5 := Aside0.mk (below_step HB4.out hb)
                      clear hb
                      cases r
                      all_goals
                        go_wp2_with fail
                        go_ret
                        exact ⟨rfl, HB5.out⟩
                  · skip
                    have HNN := Aside0.mk (hN.symm.trans HN.out)
                    clear hN HN
                    go_split_ands
                    go_wp2_with fail
                    go_quiet (fail)
                    go_wp2_with fail
                    refine (parser_name.calls x3 r _ HNN.out (HGW.out.below (pw_below_drewN (Below.refl _ _) _))).mono ?_
                    rintro e w4 ⟨rfl, hb⟩
                    have HB4 := Aside0.mk (below_step (pw_below_drewN HB.out _) hb)
                    clear hb
                    cases r
                    all_goals
                      go_wp2_with fail
                      go_ret
                      exact ⟨rfl, HB4.out⟩
                  · skip
                    have HNN := Aside0.mk (hN.symm.trans HN.out)
                    clear hN HN
                    go_split_ands
                    go_wp2_with fail
                    go_quiet (fail)
                    go_wp2_with fail
                    refine (parser_name.calls x3 r _ HNN.out (HGW.out.below (pw_below_drewN (Below.refl _ _) _))).mono ?_
                    rintro e w4 ⟨rfl, hb⟩
                    have HB4 := Aside0.mk (below_step (pw_below_drewN HB.out _) hb)
                    clear hb
                    cases r
                    all_goals
                      go_wp2_with fail
                      go_ret
                      exact ⟨rfl, HB4.out⟩
                  · have hr : r = true := by have := hN.symm.trans HN.out; simpa using this.symm
                    subst hr
                    clear hN HN
                    go_split_ands
                    go_wp2_with fail
                    go_quiet (fail)
                    go_wp2_with fail
                    go_ret
                    exact ⟨rfl, pw_below_drewN HB.out _⟩
                · have hv9 : _ = Value.int .i64 1 := hv8.trans rfl
                  clear hv8
                  subst hv9
                  have hix := index53_1 q0 q1 q2 p0 p1 p2
                  have HC3 := Aside0.mk (row3_C (heap_alloc_new wr (.cells #[.int .i64 p0, .int .i64 p1, .int .i64 p2] 52)))
                  go_wp2_with fail
                  refine (containsF_calls _ 3 [p0, p1, p2] _ HC3.out (Nat.le_refl 3)).mono ?_
                  rintro e w3 ⟨rfl, hd⟩
                  have HB3 := Aside0.mk (below_step (below_alloc HB.out (.cells #[.int .i64 p0, .int .i64 p1, .int .i64 p2] 52)) hd.below)
                  have HH3 := Aside0.mk (blk_below (blk_alloc HH.out (.cells #[.int .i64 p0, .int .i64 p1, .int .i64 p2] 52)) hd.below)
                  clear hd HC3 HB HH hix
                  rw [any_smallJ]
                  cases c5 : smallJ ⟨p0, p1, p2⟩ with
                  | false =>
                    have hr : r = false := by have := HRest.out; rw [if_neg (by decide), if_neg (by rw [HJ1.out (by decide)]; decide), if_pos c5] at this; simpa using this.symm
                    subst hr
                    go_wp2_with fail
                    go_ret
                    exact ⟨rfl, HB3.out⟩
                  | true =>
                    have c5' := Aside0.mk c5
                    clear c5
                    go_wp2_with fail
                    go_roundg 0
                    case measure => omega
                    case rel => exact ⟨rfl, ⟨by decide, HH3.out, HB3.out, fun _ => HJ1.out (by decide), fun _ => c5'.out⟩⟩
                · have hv9 : _ = Value.int .i64 0 := hv8.trans rfl
                  clear hv8
                  subst hv9
                  have hix := index53_0 q0 q1 q2 p0 p1 p2
                  have HC3 := Aside0.mk (row3_C (heap_alloc_new wr (.cells #[.int .i64 q0, .int .i64 q1, .int .i64 q2] 52)))
                  go_wp2_with fail
                  refine (containsF_calls _ 3 [q0, q1, q2] _ HC3.out (Nat.le_refl 3)).mono ?_
                  rintro e w3 ⟨rfl, hd⟩
                  have HB3 := Aside0.mk (below_step (below_alloc HB.out (.cells #[.int .i64 q0, .int .i64 q1, .int .i64 q2] 52)) hd.below)
                  have HH3 := Aside0.mk (blk_below (blk_alloc HH.out (.cells #[.int .i64 q0, .int .i64 q1, .int .i64 q2] 52)) hd.below)
                  clear hd HC3 HB HH hix
                  rw [any_smallJ]
                  cases c5 : smallJ ⟨q0, q1, q2⟩ with
                  | false =>
                    have hr : r = false := by have := HRest.out; rw [if_neg (by decide), if_pos c5] at this; simpa using this.symm
                    subst hr
                    go_wp2_with fail
                    go_ret
                    exact ⟨rfl, HB3.out⟩
                  | true =>
                    have c5' := Aside0.mk c5
                    clear c5
                    go_wp2_with fail
                    go_roundg 1
                    case measure => omega
                    case rel => exact ⟨rfl, ⟨by decide, HH3.out, HB3.out, fun _ => c5'.out, fun h => absurd h (by decide)⟩⟩
                · exact absurd HK3.out (by omega)
def parser_plain.f (k : Nat) (a0_0 : Int) (a0_1 : Int) (a0_2 : ByteArray) (a0_3 : ByteArray) (a0_4 : Int) (a0_5 : Int) (a0_6 : Int) (a0_7 : Int) (a0_8 : Int) (a0_9 : Int) (a0_10 : Int) (l0_11 : List (S55)) (a0_12 : Int) : Option Bool := plainF k ⟨a0_0, a0_1, a0_2, a0_3, a0_4, ⟨⟨a0_5, a0_6, a0_7⟩, ⟨a0_8, a0_9, a0_10⟩⟩, l0_11, a0_12⟩
theorem parser_plain.mono (a0_0 : Int) (a0_1 : Int) (a0_2 : ByteArray) (a0_3 : ByteArray) (a0_4 : Int) (a0_5 : Int) (a0_6 : Int) (a0_7 : Int) (a0_8 : Int) (a0_9 : Int) (a0_10 : Int) (l0_11 : List (S55)) (a0_12 : Int) (k : Nat) : LeO (parser_plain.f k a0_0 a0_1 a0_2 a0_3 a0_4 a0_5 a0_6 a0_7 a0_8 a0_9 a0_10 l0_11 a0_12) (parser_plain.f (k + 1) a0_0 a0_1 a0_2 a0_3 a0_4 a0_5 a0_6 a0_7 a0_8 a0_9 a0_10 l0_11 a0_12) := plain_le k _
theorem parser_plain.calls (k : Nat) (a0_0 : Int) (a0_1 : Int) (a0_2 : ByteArray) (a0_3 : ByteArray) (a0_4 : Int) (a0_5 : Int) (a0_6 : Int) (a0_7 : Int) (a0_8 : Int) (a0_9 : Int) (a0_10 : Int) (A0_11 : Option Addr) (c0_11 : Nat) (l0_11 : List (S55)) (a0_12 : Int) (r : Bool) (w : World) (hr0_11 : Kd.C k55 w A0_11 l0_11.length l0_11) (hc0_11 : l0_11.length ≤ c0_11) (h : parser_plain.f k a0_0 a0_1 a0_2 a0_3 a0_4 a0_5 a0_6 a0_7 a0_8 a0_9 a0_10 l0_11 a0_12 = some r) (hG : Glob w) :
    Calls Tryd.prog 30 #[.agg #[.int .i64 a0_0, .int .i64 a0_1, .string a0_2, .string a0_3, .int .i64 a0_4, .int .i64 a0_5, .int .i64 a0_6, .int .i64 a0_7, .int .i64 a0_8, .int .i64 a0_9, .int .i64 a0_10, .slice A0_11 l0_11.length c0_11, .int .i64 a0_12]] w fun e w' => e = .returned (.bool r) ∧ Below w.heap.size w w' := plain_calls k ⟨a0_0, a0_1, a0_2, a0_3, a0_4, ⟨⟨a0_5, a0_6, a0_7⟩, ⟨a0_8, a0_9, a0_10⟩⟩, l0_11, a0_12⟩ A0_11 c0_11 r w hr0_11 hc0_11 h hG
end Go.Proofs.YtonhcfecfifghaaDoor.PPx
namespace Go.Proofs.YtonhcfecfifghaaDoor.PPx
open Go.RowKit Go.Proofs.YtonhcfecfifghaaDoorW.PrintWords Go.Proofs.YtonhcfecfifghaaDoorW.PrintLast Go.Proofs.YtonhcfecfifghaaDoorW.PrintMore
set_option linter.unusedVariables false
set_option linter.unusedSimpArgs false
def itoaS (n : Int) : Option ByteArray := if -9223372036854775808 ≤ n ∧ n ≤ 9223372036854775807 then some ⟨(Lib.itoa n).toArray⟩ else none
theorem Itoa_calls (n : Int) (s : ByteArray) (w : World) (h : itoaS n = some s) (hG : Glob w) : Calls Tryd.prog 52 #[.int .i64 n] w fun e w' => e = .returned (.string s) ∧ Below w.heap.size w w' := by
  unfold itoaS at h
  split at h
  · rename_i hn
    obtain rfl := Option.some.inj h
    refine (Tryd.strconv_Itoa n hn.1 hn.2 w hG.2).mono ?_
    rintro e w' ⟨rfl, k, os, rfl⟩
    exact ⟨rfl, Lib.below_grow _ w (Nat.le_refl _) k os⟩
  · simp at h
def tripleB (a b c : ByteArray) : ByteArray := (((((⟨#[40]⟩ ++ a) ++ ⟨#[44, 32]⟩) ++ b) ++ ⟨#[44, 32]⟩) ++ c) ++ ⟨#[41]⟩
/-- a text that fits an int's length -/
def fitS (s : ByteArray) : Option ByteArray := if s.size ≤ 9223372036854775807 then some s else none
theorem fitS_eq {s r : ByteArray} (h : fitS s = some r) : s = r ∧ s.size ≤ 9223372036854775807 := by
  unfold fitS at h
  split at h
  · rename_i hs; exact ⟨Option.some.inj h, hs⟩
  · simp at h
def tripleF (q : S52) : Option ByteArray := (itoaS q.f0).bind fun a => (itoaS q.f1).bind fun b => (itoaS q.f2).bind fun c => fitS (tripleB a b c)
theorem no_big {n : Nat} (h : n ≤ 9223372036854775807) : (9223372036854775807 < n) = False := eq_false (Nat.not_lt.2 h)
theorem app_size (x y : ByteArray) : (x ++ y).size = x.size + y.size := ByteArray.size_append
theorem row3_held {W : World} {g t : Nat} {a b c : Int} (h : W.heap[g]? = some (.cells #[.int .i64 a, .int .i64 b, .int .i64 c] t (0, 0))) : W.cell? ⟨g, 0, none⟩ = some (.int .i64 a) ∧ W.cell? ⟨g, 1, none⟩ = some (.int .i64 b) ∧ W.cell? ⟨g, 2, none⟩ = some (.int .i64 c) := ⟨blk_cell h 0, blk_cell h 1, blk_cell h 2⟩
set_option maxHeartbeats 2000000 in
set_option maxRecDepth 100000 in
theorem triple_calls2 (q0 q1 q2 : Int) (r : ByteArray) (w : World) (h : tripleF ⟨q0, q1, q2⟩ = some r) (hG : Glob w) : Calls Tryd.prog 53 #[.agg #[.int .i64 q0, .int .i64 q1, .int .i64 q2]] w fun e w' => e = .returned (.string r) ∧ Below w.heap.size w w' := by
  obtain ⟨a, ha, h⟩ := Option.bind_eq_some_iff.1 h
  obtain ⟨b, hb, h⟩ := Option.bind_eq_some_iff.1 h
  obtain ⟨c, hc, h⟩ := Option.bind_eq_some_iff.1 h
  have HA := Aside0.mk ha
  have HBb := Aside0.mk hb
  have HC := Aside0.mk hc
  have HG := Aside0.mk hG
  obtain ⟨rfl, hs⟩ := fitS_eq h
  have e1 : (⟨#[40]⟩ : ByteArray).size = 1 := rfl
  have e2 : (⟨#[44, 32]⟩ : ByteArray).size = 2 := rfl
  have e3 : (⟨#[41]⟩ : ByteArray).size = 1 := rfl
  simp only [tripleB, app_size, e1, e2, e3] at hs
  have k1 := no_big (show 1 + a.size ≤ _ from by omega)
  have k2 := no_big (show 1 + a.size + 2 ≤ _ from by omega)
  have k3 := no_big (show 1 + a.size + 2 + b.size ≤ _ from by omega)
  have k4 := no_big (show 1 + a.size + 2 + b.size + 2 ≤ _ from by omega)
  have k5 := no_big (show 1 + a.size + 2 + b.size + 2 + c.size ≤ _ from by omega)
  have k6 := no_big (show 1 + a.size + 2 + b.size + 2 + c.size + 1 ≤ _ from by omega)
  clear e1 e2 e3
  clear ha hb hc hG h hs
  have HH := Aside0.mk (heap_alloc_new w (.cells #[.int .i64 q0, .int .i64 q1, .int .i64 q2] 52))
  have HB := Aside0.mk (below_alloc (Below.refl w.heap.size w) (.cells #[.int .i64 q0, .int .i64 q1, .int .i64 q2] 52))
  have hz0 := row3_held (blk_drew HH.out)
  have hz := row3_held HH.out
  go_enter Tryd.func53, Tryd.ntmps53
  go_wp2_with fail
  clear hz
  first
  | go_region_held3 (fun W' => W'.cell? ⟨w.heap.size, 0, none⟩ = some (.int .i64 q0) ∧ W'.cell? ⟨w.heap.size, 1, none⟩ = some (.int .i64 q1) ∧ W'.cell? ⟨w.heap.size, 2, none⟩ = some (.int .i64 q2)) (with_reducible first | exact hz0 | exact row3_held HH.out) (first | (go_at_call 52; (with_reducible refine (Itoa_calls q0 _ _ HA.out (HG.out.below (by first | exact HB.out | exact below_drew1 HB.out))).mono ?_); rintro e w1 ⟨rfl, hb⟩; have HH1 := Aside0.mk (blk_below (by first | exact HH.out | exact blk_drew HH.out) hb); have HB1 := Aside0.mk (below_step (by first | exact HB.out | exact below_drew1 HB.out) hb); clear hb HH HB; have HH := HH1; have HB := HB1; clear HH1 HB1) | (go_at_call 52; (with_reducible refine (Itoa_calls q1 _ _ HBb.out (HG.out.below (by first | exact HB.out | exact below_drew1 HB.out))).mono ?_); rintro e w1 ⟨rfl, hb⟩; have HH1 := Aside0.mk (blk_below (by first | exact HH.out | exact blk_drew HH.out) hb); have HB1 := Aside0.mk (below_step (by first | exact HB.out | exact below_drew1 HB.out) hb); clear hb HH HB; have HH := HH1; have HB := HB1; clear HH1 HB1) | (go_at_call 52; (with_reducible refine (Itoa_calls q2 _ _ HC.out (HG.out.below (by first | exact HB.out | exact below_drew1 HB.out))).mono ?_); rintro e w1 ⟨rfl, hb⟩; have HH1 := Aside0.mk (blk_below (by first | exact HH.out | exact blk_drew HH.out) hb); have HB1 := Aside0.mk (below_step (by first | exact HB.out | exact below_drew1 HB.out) hb); clear hb HH HB; have HH := HH1; have HB := HB1; clear HH1 HB1))
  go_wp2_with fail
  go_ret
  exact ⟨rfl, HB.out⟩
end Go.Proofs.YtonhcfecfifghaaDoor.PPx
namespace Go.Proofs.YtonhcfecfifghaaDoor.PPx
open Go.RowKit Go.Proofs.YtonhcfecfifghaaDoorW.PrintWords Go.Proofs.YtonhcfecfifghaaDoorW.PrintLast Go.Proofs.YtonhcfecfifghaaDoorW.PrintMore
set_option linter.unusedVariables false
set_option linter.unusedSimpArgs false
def wordB (k : Int) : ByteArray := if k = 3 then ⟨#[112, 105, 99, 107]⟩ else if k = 4 then ⟨#[112, 117, 116]⟩ else ⟨#[104, 97, 110, 100]⟩
def lineGo (a t : ByteArray) : ByteArray := (((⟨#[103, 111, 32]⟩ ++ a) ++ ⟨#[32]⟩) ++ t) ++ ⟨#[59]⟩
def lineOne (p a : ByteArray) : ByteArray := (p ++ a) ++ ⟨#[59]⟩
def lineWhen (p q : ByteArray) : ByteArray := (((⟨#[119, 104, 101, 110, 32]⟩ ++ p) ++ ⟨#[32]⟩) ++ q) ++ ⟨#[32, 123]⟩
def lineBoth (t u : ByteArray) : ByteArray := (((⟨#[98, 111, 116, 104, 32]⟩ ++ t) ++ ⟨#[32]⟩) ++ u) ++ ⟨#[59]⟩
def lineName (k a p q : ByteArray) : ByteArray := (((((k ++ ⟨#[32]⟩) ++ a) ++ ⟨#[32]⟩) ++ p) ++ q) ++ ⟨#[59]⟩
/-- what line writes -/
def lineF (x : S55) : Option ByteArray :=
  if x.f0 = 1 then (if x.f1 = 0 then (itoaS 0).bind fun a => (tripleF x.f5.f0).bind fun t => fitS (lineGo a t) else if x.f1 = 1 then (itoaS 1).bind fun a => (tripleF x.f5.f1).bind fun t => fitS (lineGo a t) else none)
  else if x.f0 = 2 then (itoaS x.f1).bind fun a => fitS (lineOne ⟨#[104, 111, 109, 101, 32]⟩ a)
  else if x.f0 = 6 then (itoaS x.f4).bind fun a => fitS (lineOne ⟨#[119, 97, 105, 116, 32]⟩ a)
  else if x.f0 = 7 then fitS (lineWhen x.f3 x.f2)
  else if x.f0 = 8 then (tripleF x.f5.f0).bind fun t => (tripleF x.f5.f1).bind fun u => fitS (lineBoth t u)
  else if x.f0 = 3 ∨ x.f0 = 4 ∨ x.f0 = 5 then (itoaS x.f1).bind fun a => fitS (lineName (wordB x.f0) a x.f2 x.f3)
  else none
set_option maxHeartbeats 2000000 in
set_option maxRecDepth 100000 in
theorem line_home (x1 : Int) (x2 x3 : ByteArray) (x4 q0 q1 q2 p0 p1 p2 : Int) (x6 : List S55) (x7 : Int) (a : ByteArray) (r : ByteArray) (v : Value) (w : World) (ha : itoaS x1 = some a) (h : fitS (lineOne ⟨#[104, 111, 109, 101, 32]⟩ a) = some r) (hG : Glob w) : Calls Tryd.prog 35 #[.agg (stmC ⟨2, x1, x2, x3, x4, ⟨⟨q0, q1, q2⟩, ⟨p0, p1, p2⟩⟩, x6, x7⟩ v)] w fun e w' => e = .returned (.string r) ∧ Below w.heap.size w w' := by
  have hu55 := Tryd.underlying55
  have HG := Aside0.mk hG
  clear hG
  have HH := Aside0.mk (heap_alloc_new w (.cells (stmC (⟨2, x1, x2, x3, x4, ⟨⟨q0, q1, q2⟩, ⟨p0, p1, p2⟩⟩, x6, x7⟩ : S55) v) 55))
  have HB := Aside0.mk (below_alloc (Below.refl w.heap.size w) (.cells (stmC (⟨2, x1, x2, x3, x4, ⟨⟨q0, q1, q2⟩, ⟨p0, p1, p2⟩⟩, x6, x7⟩ : S55) v) 55))
  have hz := row_held HH.out
  simp only at hz
  go_split_ands
  obtain ⟨hr, hs⟩ := fitS_eq h
  have e0 : (⟨#[104, 111, 109, 101, 32]⟩ : ByteArray).size = 5 := rfl
  have e1 : (⟨#[59]⟩ : ByteArray).size = 1 := rfl
  simp only [lineOne, app_size, e0, e1] at hs
  have k1 := no_big (show 5 + a.size ≤ _ from by omega)
  have k2 := no_big (show 5 + a.size + 1 ≤ _ from by omega)
  subst hr
  clear h hs e0 e1
  have HA := Aside0.mk ha
  clear ha
  go_enter Tryd.func35, Tryd.ntmps35
  go_wp2_with fail
  refine (Itoa_calls x1 a _ HA.out (HG.out.below HB.out)).mono ?_
  rintro e w1 ⟨rfl, hb⟩
  have HB1 := Aside0.mk (below_step HB.out hb)
  clear hb
  go_wp2_with fail
  go_ret
  exact ⟨rfl, HB1.out⟩
set_option maxHeartbeats 2000000 in
set_option maxRecDepth 100000 in
theorem line_wait (x1 : Int) (x2 x3 : ByteArray) (x4 q0 q1 q2 p0 p1 p2 : Int) (x6 : List S55) (x7 : Int) (a : ByteArray) (r : ByteArray) (v : Value) (w : World) (ha : itoaS x4 = some a) (h : fitS (lineOne ⟨#[119, 97, 105, 116, 32]⟩ a) = some r) (hG : Glob w) : Calls Tryd.prog 35 #[.agg (stmC ⟨6, x1, x2, x3, x4, ⟨⟨q0, q1, q2⟩, ⟨p0, p1, p2⟩⟩, x6, x7⟩ v)] w fun e w' => e = .returned (.string r) ∧ Below w.heap.size w w' := by
  have hu55 := Tryd.underlying55
  have HG := Aside0.mk hG
  clear hG
  have HH := Aside0.mk (heap_alloc_new w (.cells (stmC (⟨6, x1, x2, x3, x4, ⟨⟨q0, q1, q2⟩, ⟨p0, p1, p2⟩⟩, x6, x7⟩ : S55) v) 55))
  have HB := Aside0.mk (below_alloc (Below.refl w.heap.size w) (.cells (stmC (⟨6, x1, x2, x3, x4, ⟨⟨q0, q1, q2⟩, ⟨p0, p1, p2⟩⟩, x6, x7⟩ : S55) v) 55))
  have hz := row_held HH.out
  simp only at hz
  go_split_ands
  obtain ⟨hr, hs⟩ := fitS_eq h
  have e0 : (⟨#[119, 97, 105, 116, 32]⟩ : ByteArray).size = 5 := rfl
  have e1 : (⟨#[59]⟩ : ByteArray).size = 1 := rfl
  simp only [lineOne, app_size, e0, e1] at hs
  have k1 := no_big (show 5 + a.size ≤ _ from by omega)
  have k2 := no_big (show 5 + a.size + 1 ≤ _ from by omega)
  subst hr
  clear h hs e0 e1
  have HA := Aside0.mk ha
  clear ha
  go_enter Tryd.func35, Tryd.ntmps35
  go_wp2_with fail
  refine (Itoa_calls x4 a _ HA.out (HG.out.below HB.out)).mono ?_
  rintro e w1 ⟨rfl, hb⟩
  have HB1 := Aside0.mk (below_step HB.out hb)
  clear hb
  go_wp2_with fail
  go_ret
  exact ⟨rfl, HB1.out⟩
set_option maxHeartbeats 2000000 in
set_option maxRecDepth 100000 in
theorem line_when (x1 : Int) (x2 x3 : ByteArray) (x4 q0 q1 q2 p0 p1 p2 : Int) (x6 : List S55) (x7 : Int) (r : ByteArray) (v : Value) (w : World) (h : fitS (lineWhen x3 x2) = some r) (hG : Glob w) : Calls Tryd.prog 35 #[.agg (stmC ⟨7, x1, x2, x3, x4, ⟨⟨q0, q1, q2⟩, ⟨p0, p1, p2⟩⟩, x6, x7⟩ v)] w fun e w' => e = .returned (.string r) ∧ Below w.heap.size w w' := by
  have hu55 := Tryd.underlying55
  have HG := Aside0.mk hG
  clear hG
  have HH := Aside0.mk (heap_alloc_new w (.cells (stmC (⟨7, x1, x2, x3, x4, ⟨⟨q0, q1, q2⟩, ⟨p0, p1, p2⟩⟩, x6, x7⟩ : S55) v) 55))
  have HB := Aside0.mk (below_alloc (Below.refl w.heap.size w) (.cells (stmC (⟨7, x1, x2, x3, x4, ⟨⟨q0, q1, q2⟩, ⟨p0, p1, p2⟩⟩, x6, x7⟩ : S55) v) 55))
  have hz := row_held HH.out
  simp only at hz
  go_split_ands
  obtain ⟨hr, hs⟩ := fitS_eq h
  have e0 : (⟨#[119, 104, 101, 110, 32]⟩ : ByteArray).size = 5 := rfl
  have e1 : (⟨#[32]⟩ : ByteArray).size = 1 := rfl
  have e2 : (⟨#[32, 123]⟩ : ByteArray).size = 2 := rfl
  simp only [lineWhen, app_size, e0, e1, e2] at hs
  have k1 := no_big (show 5 + x3.size ≤ _ from by omega)
  have k2 := no_big (show 5 + x3.size + 1 ≤ _ from by omega)
  have k3 := no_big (show 5 + x3.size + 1 + x2.size ≤ _ from by omega)
  have k4 := no_big (show 5 + x3.size + 1 + x2.size + 2 ≤ _ from by omega)
  subst hr
  clear h hs e0 e1 e2
  go_enter Tryd.func35, Tryd.ntmps35
  go_wp2_with fail
  go_ret
  exact ⟨rfl, HB.out⟩
set_option maxHeartbeats 2000000 in
set_option maxRecDepth 100000 in
theorem line_both (x1 : Int) (x2 x3 : ByteArray) (x4 q0 q1 q2 p0 p1 p2 : Int) (x6 : List S55) (x7 : Int) (t u : ByteArray) (r : ByteArray) (v : Value) (w : World) (ht : tripleF ⟨q0, q1, q2⟩ = some t) (hu : tripleF ⟨p0, p1, p2⟩ = some u) (h : fitS (lineBoth t u) = some r) (hG : Glob w) : Calls Tryd.prog 35 #[.agg (stmC ⟨8, x1, x2, x3, x4, ⟨⟨q0, q1, q2⟩, ⟨p0, p1, p2⟩⟩, x6, x7⟩ v)] w fun e w' => e = .returned (.string r) ∧ Below w.heap.size w w' := by
  have hu55 := Tryd.underlying55
  have HG := Aside0.mk hG
  clear hG
  have HH := Aside0.mk (heap_alloc_new w (.cells (stmC (⟨8, x1, x2, x3, x4, ⟨⟨q0, q1, q2⟩, ⟨p0, p1, p2⟩⟩, x6, x7⟩ : S55) v) 55))
  have HB := Aside0.mk (below_alloc (Below.refl w.heap.size w) (.cells (stmC (⟨8, x1, x2, x3, x4, ⟨⟨q0, q1, q2⟩, ⟨p0, p1, p2⟩⟩, x6, x7⟩ : S55) v) 55))
  have hz := row_held HH.out
  simp only at hz
  go_split_ands
  obtain ⟨hr, hs⟩ := fitS_eq h
  have e0 : (⟨#[98, 111, 116, 104, 32]⟩ : ByteArray).size = 5 := rfl
  have e1 : (⟨#[32]⟩ : ByteArray).size = 1 := rfl
  have e2 : (⟨#[59]⟩ : ByteArray).size = 1 := rfl
  simp only [lineBoth, app_size, e0, e1, e2] at hs
  have k1 := no_big (show 5 + t.size ≤ _ from by omega)
  have k2 := no_big (show 5 + t.size + 1 ≤ _ from by omega)
  have k3 := no_big (show 5 + t.size + 1 + u.size ≤ _ from by omega)
  have k4 := no_big (show 5 + t.size + 1 + u.size + 1 ≤ _ from by omega)
  subst hr
  clear h hs e0 e1 e2
  have HT := Aside0.mk ht
  have HU := Aside0.mk hu
  clear ht hu
  go_enter Tryd.func35, Tryd.ntmps35
  go_wp2_with fail
  first
  | go_region_held3 (fun W' => W'.cell? ⟨w.heap.size, 0, none⟩ = some (.int .i64 8) ∧ W'.cell? ⟨w.heap.size, 1, none⟩ = some (.int .i64 x1) ∧ W'.cell? ⟨w.heap.size, 2, none⟩ = some (.string x2) ∧ W'.cell? ⟨w.heap.size, 3, none⟩ = some (.string x3) ∧ W'.cell? ⟨w.heap.size, 4, none⟩ = some (.int .i64 x4) ∧ W'.cell? ⟨w.heap.size, 5, none⟩ = some (.int .i64 q0) ∧ W'.cell? ⟨w.heap.size, 6, none⟩ = some (.int .i64 q1) ∧ W'.cell? ⟨w.heap.size, 7, none⟩ = some (.int .i64 q2) ∧ W'.cell? ⟨w.heap.size, 8, none⟩ = some (.int .i64 p0) ∧ W'.cell? ⟨w.heap.size, 9, none⟩ = some (.int .i64 p1) ∧ W'.cell? ⟨w.heap.size, 10, none⟩ = some (.int .i64 p2) ∧ W'.cell? ⟨w.heap.size, 11, none⟩ = some v ∧ W'.cell? ⟨w.heap.size, 12, none⟩ = some (.int .i64 x7)) (with_reducible first | exact row_held HH.out | exact row_held (blk_drew HH.out)) (first | (go_at_call 53; (with_reducible refine (triple_calls2 q0 q1 q2 _ _ HT.out (HG.out.below (by first | exact HB.out | exact below_drew1 HB.out))).mono ?_); rintro e w1 ⟨rfl, hb⟩; have HH1 := Aside0.mk (blk_below (by first | exact HH.out | exact blk_drew HH.out) hb); have HB1 := Aside0.mk (below_step (by first | exact HB.out | exact below_drew1 HB.out) hb); clear hb HH HB; have HH := HH1; have HB := HB1; clear HH1 HB1) | (go_at_call 53; (with_reducible refine (triple_calls2 p0 p1 p2 _ _ HU.out (HG.out.below (by first | exact HB.out | exact below_drew1 HB.out))).mono ?_); rintro e w1 ⟨rfl, hb⟩; have HH1 := Aside0.mk (blk_below (by first | exact HH.out | exact blk_drew HH.out) hb); have HB1 := Aside0.mk (below_step (by first | exact HB.out | exact below_drew1 HB.out) hb); clear hb HH HB; have HH := HH1; have HB := HB1; clear HH1 HB1))
  | fail "held3"
  go_wp2_with fail
  go_ret
  exact ⟨rfl, HB.out⟩
set_option maxHeartbeats 2000000 in
set_option maxRecDepth 100000 in
theorem line_go0 (x2 x3 : ByteArray) (x4 q0 q1 q2 p0 p1 p2 : Int) (x6 : List S55) (x7 : Int) (a t : ByteArray) (r : ByteArray) (v : Value) (w : World) (ha : itoaS 0 = some a) (ht : tripleF ⟨q0, q1, q2⟩ = some t) (h : fitS (lineGo a t) = some r) (hG : Glob w) : Calls Tryd.prog 35 #[.agg (stmC ⟨1, 0, x2, x3, x4, ⟨⟨q0, q1, q2⟩, ⟨p0, p1, p2⟩⟩, x6, x7⟩ v)] w fun e w' => e = .returned (.string r) ∧ Below w.heap.size w w' := by
  have hu55 := Tryd.underlying55
  have HG := Aside0.mk hG
  clear hG
  have HH := Aside0.mk (heap_alloc_new w (.cells (stmC (⟨1, 0, x2, x3, x4, ⟨⟨q0, q1, q2⟩, ⟨p0, p1, p2⟩⟩, x6, x7⟩ : S55) v) 55))
  have HB := Aside0.mk (below_alloc (Below.refl w.heap.size w) (.cells (stmC (⟨1, 0, x2, x3, x4, ⟨⟨q0, q1, q2⟩, ⟨p0, p1, p2⟩⟩, x6, x7⟩ : S55) v) 55))
  have hz := row_held HH.out
  simp only at hz
  go_split_ands
  obtain ⟨hr, hs⟩ := fitS_eq h
  have e0 : (⟨#[103, 111, 32]⟩ : ByteArray).size = 3 := rfl
  have e1 : (⟨#[32]⟩ : ByteArray).size = 1 := rfl
  have e2 : (⟨#[59]⟩ : ByteArray).size = 1 := rfl
  simp only [lineGo, app_size, e0, e1, e2] at hs
  have k1 := no_big (show 3 + a.size ≤ _ from by omega)
  have k2 := no_big (show 3 + a.size + 1 ≤ _ from by omega)
  have k3 := no_big (show 3 + a.size + 1 + t.size ≤ _ from by omega)
  have k4 := no_big (show 3 + a.size + 1 + t.size + 1 ≤ _ from by omega)
  subst hr
  clear h hs e0 e1 e2
  have HA := Aside0.mk ha
  have HT := Aside0.mk ht
  clear ha ht
  go_enter Tryd.func35, Tryd.ntmps35
  go_wp2_with fail
  first
  | go_region_held3 (fun W' => W'.cell? ⟨w.heap.size, 0, none⟩ = some (.int .i64 1) ∧ W'.cell? ⟨w.heap.size, 1, none⟩ = some (.int .i64 0) ∧ W'.cell? ⟨w.heap.size, 2, none⟩ = some (.string x2) ∧ W'.cell? ⟨w.heap.size, 3, none⟩ = some (.string x3) ∧ W'.cell? ⟨w.heap.size, 4, none⟩ = some (.int .i64 x4) ∧ W'.cell? ⟨w.heap.size, 5, none⟩ = some (.int .i64 q0) ∧ W'.cell? ⟨w.heap.size, 6, none⟩ = some (.int .i64 q1) ∧ W'.cell? ⟨w.heap.size, 7, none⟩ = some (.int .i64 q2) ∧ W'.cell? ⟨w.heap.size, 8, none⟩ = some (.int .i64 p0) ∧ W'.cell? ⟨w.heap.size, 9, none⟩ = some (.int .i64 p1) ∧ W'.cell? ⟨w.heap.size, 10, none⟩ = some (.int .i64 p2) ∧ W'.cell? ⟨w.heap.size, 11, none⟩ = some v ∧ W'.cell? ⟨w.heap.size, 12, none⟩ = some (.int .i64 x7)) (with_reducible first | exact row_held HH.out | exact row_held (blk_drew HH.out)) (first | (go_at_call 52; (with_reducible refine (Itoa_calls 0 _ _ HA.out (HG.out.below (by first | exact HB.out | exact below_drew1 HB.out))).mono ?_); rintro e w1 ⟨rfl, hb⟩; have HH1 := Aside0.mk (blk_below (by first | exact HH.out | exact blk_drew HH.out) hb); have HB1 := Aside0.mk (below_step (by first | exact HB.out | exact below_drew1 HB.out) hb); clear hb HH HB; have HH := HH1; have HB := HB1; clear HH1 HB1) | (go_at_call 53; (with_reducible refine (triple_calls2 q0 q1 q2 _ _ HT.out (HG.out.below (by first | exact HB.out | exact below_drew1 HB.out))).mono ?_); rintro e w1 ⟨rfl, hb⟩; have HH1 := Aside0.mk (blk_below (by first | exact HH.out | exact blk_drew HH.out) hb); have HB1 := Aside0.mk (below_step (by first | exact HB.out | exact below_drew1 HB.out) hb); clear hb HH HB; have HH := HH1; have HB := HB1; clear HH1 HB1))
  | fail "held3"
  go_wp2_with fail
  go_ret
  exact ⟨rfl, HB.out⟩
set_option maxHeartbeats 2000000 in
set_option maxRecDepth 100000 in
theorem line_go1 (x2 x3 : ByteArray) (x4 q0 q1 q2 p0 p1 p2 : Int) (x6 : List S55) (x7 : Int) (a t : ByteArray) (r : ByteArray) (v : Value) (w : World) (ha : itoaS 1 = some a) (ht : tripleF ⟨p0, p1, p2⟩ = some t) (h : fitS (lineGo a t) = some r) (hG : Glob w) : Calls Tryd.prog 35 #[.agg (stmC ⟨1, 1, x2, x3, x4, ⟨⟨q0, q1, q2⟩, ⟨p0, p1, p2⟩⟩, x6, x7⟩ v)] w fun e w' => e = .returned (.string r) ∧ Below w.heap.size w w' := by
  have hu55 := Tryd.underlying55
  have HG := Aside0.mk hG
  clear hG
  have HH := Aside0.mk (heap_alloc_new w (.cells (stmC (⟨1, 1, x2, x3, x4, ⟨⟨q0, q1, q2⟩, ⟨p0, p1, p2⟩⟩, x6, x7⟩ : S55) v) 55))
  have HB := Aside0.mk (below_alloc (Below.refl w.heap.size w) (.cells (stmC (⟨1, 1, x2, x3, x4, ⟨⟨q0, q1, q2⟩, ⟨p0, p1, p2⟩⟩, x6, x7⟩ : S55) v) 55))
  have hz := row_held HH.out
  simp only at hz
  go_split_ands
  obtain ⟨hr, hs⟩ := fitS_eq h
  have e0 : (⟨#[103, 111, 32]⟩ : ByteArray).size = 3 := rfl
  have e1 : (⟨#[32]⟩ : ByteArray).size = 1 := rfl
  have e2 : (⟨#[59]⟩ : ByteArray).size = 1 := rfl
  simp only [lineGo, app_size, e0, e1, e2] at hs
  have k1 := no_big (show 3 + a.size ≤ _ from by omega)
  have k2 := no_big (show 3 + a.size + 1 ≤ _ from by omega)
  have k3 := no_big (show 3 + a.size + 1 + t.size ≤ _ from by omega)
  have k4 := no_big (show 3 + a.size + 1 + t.size + 1 ≤ _ from by omega)
  subst hr
  clear h hs e0 e1 e2
  have HA := Aside0.mk ha
  have HT := Aside0.mk ht
  clear ha ht
  go_enter Tryd.func35, Tryd.ntmps35
  go_wp2_with fail
  first
  | go_region_held3 (fun W' => W'.cell? ⟨w.heap.size, 0, none⟩ = some (.int .i64 1) ∧ W'.cell? ⟨w.heap.size, 1, none⟩ = some (.int .i64 1) ∧ W'.cell? ⟨w.heap.size, 2, none⟩ = some (.string x2) ∧ W'.cell? ⟨w.heap.size, 3, none⟩ = some (.string x3) ∧ W'.cell? ⟨w.heap.size, 4, none⟩ = some (.int .i64 x4) ∧ W'.cell? ⟨w.heap.size, 5, none⟩ = some (.int .i64 q0) ∧ W'.cell? ⟨w.heap.size, 6, none⟩ = some (.int .i64 q1) ∧ W'.cell? ⟨w.heap.size, 7, none⟩ = some (.int .i64 q2) ∧ W'.cell? ⟨w.heap.size, 8, none⟩ = some (.int .i64 p0) ∧ W'.cell? ⟨w.heap.size, 9, none⟩ = some (.int .i64 p1) ∧ W'.cell? ⟨w.heap.size, 10, none⟩ = some (.int .i64 p2) ∧ W'.cell? ⟨w.heap.size, 11, none⟩ = some v ∧ W'.cell? ⟨w.heap.size, 12, none⟩ = some (.int .i64 x7)) (with_reducible first | exact row_held HH.out | exact row_held (blk_drew HH.out)) (first | (go_at_call 52; (with_reducible refine (Itoa_calls 1 _ _ HA.out (HG.out.below (by first | exact HB.out | exact below_drew1 HB.out))).mono ?_); rintro e w1 ⟨rfl, hb⟩; have HH1 := Aside0.mk (blk_below (by first | exact HH.out | exact blk_drew HH.out) hb); have HB1 := Aside0.mk (below_step (by first | exact HB.out | exact below_drew1 HB.out) hb); clear hb HH HB; have HH := HH1; have HB := HB1; clear HH1 HB1) | (go_at_call 53; (with_reducible refine (triple_calls2 p0 p1 p2 _ _ HT.out (HG.out.below (by first | exact HB.out | exact below_drew1 HB.out))).mono ?_); rintro e w1 ⟨rfl, hb⟩; have HH1 := Aside0.mk (blk_below (by first | exact HH.out | exact blk_drew HH.out) hb); have HB1 := Aside0.mk (below_step (by first | exact HB.out | exact below_drew1 HB.out) hb); clear hb HH HB; have HH := HH1; have HB := HB1; clear HH1 HB1))
  | fail "held3"
  go_wp2_with fail
  go_ret
  exact ⟨rfl, HB.out⟩
end Go.Proofs.YtonhcfecfifghaaDoor.PPx
namespace Go.Proofs.YtonhcfecfifghaaDoor.PPx
open Go.RowKit Go.Proofs.YtonhcfecfifghaaDoorW.PrintWords Go.Proofs.YtonhcfecfifghaaDoorW.PrintLast Go.Proofs.YtonhcfecfifghaaDoorW.PrintMore
set_option linter.unusedVariables false
set_option linter.unusedSimpArgs false
/-- where a keyword lies -/
def WordAt (w : World) (ad : Addr) (cc : Nat) (k : Nat) (s : ByteArray) : Prop := w.cell? ⟨0, 0, none⟩ = some (.slice (some ad) 9 cc) ∧ w.cell? ⟨ad.block, ad.off + k, none⟩ = some (.string s) ∧ 0 < w.heap.size ∧ ad.block < w.heap.size
theorem word_at {w : World} (h : WordsAt w) (k : Nat) (hk : k < 9) (hk0 : k ≠ 0) : ∃ ad cc, WordAt w ad cc k (wordsL[k]'hk) := by
  obtain ⟨A, c, h0, hc, hC, hl⟩ := h
  have hR := Kd.reads_of_C (d := ByteArray.empty) hC
  obtain ⟨ad, e, hx⟩ := hR.2.2 (by decide)
  subst e
  have hx' := hx k hk
  have hg : wordsL.getD k ByteArray.empty = wordsL[k]'hk := by rw [List.getD_eq_getElem?_getD, List.getElem?_eq_getElem (show k < wordsL.length from hk)]; rfl
  rw [hg, show ad.add k = ⟨ad.block, ad.off + k, none⟩ from if_neg hk0] at hx'
  refine ⟨ad, c, h0, hx', hl, ?_⟩
  rcases Nat.lt_or_ge ad.block w.heap.size with h' | h'
  · exact h'
  · exfalso
    have : w.cell? ⟨ad.block, ad.off + k, none⟩ = none := by simp [World.cell?, Array.getElem?_eq_none h']
    rw [this] at hx'
    exact absurd hx' (by simp)
theorem WordAt.below {w W : World} {ad : Addr} {cc k : Nat} {s : ByteArray} (h : WordAt w ad cc k s) (hb : Below w.heap.size w W) : W.cell? ⟨0, 0, none⟩ = some (.slice (some ad) 9 cc) ∧ W.cell? ⟨ad.block, ad.off + k, none⟩ = some (.string s) :=
  ⟨(World.cell?_of_block (a := ⟨0, 0, none⟩) (hb.block 0 h.2.2.1)).trans h.1, (World.cell?_of_block (a := ⟨ad.block, ad.off + k, none⟩) (hb.block _ h.2.2.2)).trans h.2.1⟩
theorem name_held {w W' : World} {b cc k : Nat} {ad : Addr} {s : ByteArray} {x : S55} {v : Value} (h : W'.heap[b]? = some (.cells (stmC x v) 55 (0, 0))) (hb : Below w.heap.size w W') (hw : WordAt w ad cc k s) : W'.cell? ⟨0, 0, none⟩ = some (.slice (some ad) 9 cc) ∧ W'.cell? ⟨ad.block, ad.off + k, none⟩ = some (.string s) ∧ W'.cell? ⟨b, 0, none⟩ = some (.int .i64 x.f0) ∧ W'.cell? ⟨b, 1, none⟩ = some (.int .i64 x.f1) ∧ W'.cell? ⟨b, 2, none⟩ = some (.string x.f2) ∧ W'.cell? ⟨b, 3, none⟩ = some (.string x.f3) ∧ W'.cell? ⟨b, 4, none⟩ = some (.int .i64 x.f4) ∧ W'.cell? ⟨b, 5, none⟩ = some (.int .i64 x.f5.f0.f0) ∧ W'.cell? ⟨b, 6, none⟩ = some (.int .i64 x.f5.f0.f1) ∧ W'.cell? ⟨b, 7, none⟩ = some (.int .i64 x.f5.f0.f2) ∧ W'.cell? ⟨b, 8, none⟩ = some (.int .i64 x.f5.f1.f0) ∧ W'.cell? ⟨b, 9, none⟩ = some (.int .i64 x.f5.f1.f1) ∧ W'.cell? ⟨b, 10, none⟩ = some (.int .i64 x.f5.f1.f2) ∧ W'.cell? ⟨b, 11, none⟩ = some (v) ∧ W'.cell? ⟨b, 12, none⟩ = some (.int .i64 x.f7) :=
  ⟨(hw.below hb).1, (hw.below hb).2, row_held h⟩
set_option maxHeartbeats 2000000 in
set_option maxRecDepth 100000 in
theorem line_pick (x1 : Int) (x2 x3 : ByteArray) (x4 q0 q1 q2 p0 p1 p2 : Int) (x6 : List S55) (x7 : Int) (a : ByteArray) (r : ByteArray) (v : Value) (w : World) (ha : itoaS x1 = some a) (h : fitS (lineName ⟨#[112, 105, 99, 107]⟩ a x2 x3) = some r) (hG : Glob w) : Calls Tryd.prog 35 #[.agg (stmC ⟨3, x1, x2, x3, x4, ⟨⟨q0, q1, q2⟩, ⟨p0, p1, p2⟩⟩, x6, x7⟩ v)] w fun e w' => e = .returned (.string r) ∧ Below w.heap.size w w' := by
  have hu55 := Tryd.underlying55
  have HG := Aside0.mk hG
  clear hG
  have HH := Aside0.mk (heap_alloc_new w (.cells (stmC (⟨3, x1, x2, x3, x4, ⟨⟨q0, q1, q2⟩, ⟨p0, p1, p2⟩⟩, x6, x7⟩ : S55) v) 55))
  have HB := Aside0.mk (below_alloc (Below.refl w.heap.size w) (.cells (stmC (⟨3, x1, x2, x3, x4, ⟨⟨q0, q1, q2⟩, ⟨p0, p1, p2⟩⟩, x6, x7⟩ : S55) v) 55))
  have hz := row_held HH.out
  simp only at hz
  go_split_ands
  obtain ⟨hr, hs⟩ := fitS_eq h
  have e0 : (⟨#[112, 105, 99, 107]⟩ : ByteArray).size = 4 := rfl
  have e1 : (⟨#[32]⟩ : ByteArray).size = 1 := rfl
  have e2 : (⟨#[59]⟩ : ByteArray).size = 1 := rfl
  simp only [lineName, app_size, e0, e1, e2] at hs
  have k1 := no_big (show 4 + 1 ≤ _ from by omega)
  have k2 := no_big (show 4 + 1 + a.size ≤ _ from by omega)
  have k3 := no_big (show 4 + 1 + a.size + 1 ≤ _ from by omega)
  have k4 := no_big (show 4 + 1 + a.size + 1 + x2.size ≤ _ from by omega)
  have k5 := no_big (show 4 + 1 + a.size + 1 + x2.size + x3.size ≤ _ from by omega)
  have k6 := no_big (show 4 + 1 + a.size + 1 + x2.size + x3.size + 1 ≤ _ from by omega)
  have k7 := no_big (show 5 + a.size ≤ _ from by omega)
  have k8 := no_big (show 5 + a.size + 1 ≤ _ from by omega)
  have k9 := no_big (show 5 + a.size + 1 + x2.size ≤ _ from by omega)
  have k10 := no_big (show 5 + a.size + 1 + x2.size + x3.size ≤ _ from by omega)
  have k11 := no_big (show 5 + a.size + 1 + x2.size + x3.size + 1 ≤ _ from by omega)
  subst hr
  clear h hs e0 e1 e2
  have HA := Aside0.mk ha
  clear ha
  obtain ⟨ad, cc, hw⟩ := word_at HG.out.1 3 (by decide) (by decide)
  have HW := Aside0.mk (show WordAt w ad cc 3 ⟨#[112, 105, 99, 107]⟩ from hw)
  clear hw
  go_enter Tryd.func35, Tryd.ntmps35
  go_wp2_with fail
  go_region_held3 (fun W' => W'.cell? ⟨0, 0, none⟩ = some (.slice (some ad) 9 cc) ∧ W'.cell? ⟨ad.block, ad.off + 3, none⟩ = some (.string ⟨#[112, 105, 99, 107]⟩) ∧ W'.cell? ⟨w.heap.size, 0, none⟩ = some (.int .i64 3) ∧ W'.cell? ⟨w.heap.size, 1, none⟩ = some (.int .i64 x1) ∧ W'.cell? ⟨w.heap.size, 2, none⟩ = some (.string x2) ∧ W'.cell? ⟨w.heap.size, 3, none⟩ = some (.string x3) ∧ W'.cell? ⟨w.heap.size, 4, none⟩ = some (.int .i64 x4) ∧ W'.cell? ⟨w.heap.size, 5, none⟩ = some (.int .i64 q0) ∧ W'.cell? ⟨w.heap.size, 6, none⟩ = some (.int .i64 q1) ∧ W'.cell? ⟨w.heap.size, 7, none⟩ = some (.int .i64 q2) ∧ W'.cell? ⟨w.heap.size, 8, none⟩ = some (.int .i64 p0) ∧ W'.cell? ⟨w.heap.size, 9, none⟩ = some (.int .i64 p1) ∧ W'.cell? ⟨w.heap.size, 10, none⟩ = some (.int .i64 p2) ∧ W'.cell? ⟨w.heap.size, 11, none⟩ = some v ∧ W'.cell? ⟨w.heap.size, 12, none⟩ = some (.int .i64 x7)) (with_reducible first | exact name_held HH.out HB.out HW.out | exact name_held (blk_drew HH.out) (below_drew1 HB.out) HW.out) (first | (go_at_call 52; (with_reducible refine (Itoa_calls x1 _ _ HA.out (HG.out.below (by first | exact HB.out | exact below_drew1 HB.out))).mono ?_); rintro e w1 ⟨rfl, hb⟩; have HH1 := Aside0.mk (blk_below (by first | exact HH.out | exact blk_drew HH.out) hb); have HB1 := Aside0.mk (below_step (by first | exact HB.out | exact below_drew1 HB.out) hb); clear hb HH HB; have HH := HH1; have HB := HB1; clear HH1 HB1))
  go_wp2_with fail
  go_ret
  exact ⟨rfl, HB.out⟩
set_option maxHeartbeats 2000000 in
set_option maxRecDepth 100000 in
theorem line_put (x1 : Int) (x2 x3 : ByteArray) (x4 q0 q1 q2 p0 p1 p2 : Int) (x6 : List S55) (x7 : Int) (a : ByteArray) (r : ByteArray) (v : Value) (w : World) (ha : itoaS x1 = some a) (h : fitS (lineName ⟨#[112, 117, 116]⟩ a x2 x3) = some r) (hG : Glob w) : Calls Tryd.prog 35 #[.agg (stmC ⟨4, x1, x2, x3, x4, ⟨⟨q0, q1, q2⟩, ⟨p0, p1, p2⟩⟩, x6, x7⟩ v)] w fun e w' => e = .returned (.string r) ∧ Below w.heap.size w w' := by
  have hu55 := Tryd.underlying55
  have HG := Aside0.mk hG
  clear hG
  have HH := Aside0.mk (heap_alloc_new w (.cells (stmC (⟨4, x1, x2, x3, x4, ⟨⟨q0, q1, q2⟩, ⟨p0, p1, p2⟩⟩, x6, x7⟩ : S55) v) 55))
  have HB := Aside0.mk (below_alloc (Below.refl w.heap.size w) (.cells (stmC (⟨4, x1, x2, x3, x4, ⟨⟨q0, q1, q2⟩, ⟨p0, p1, p2⟩⟩, x6, x7⟩ : S55) v) 55))
  have hz := row_held HH.out
  simp only at hz
  go_split_ands
  obtain ⟨hr, hs⟩ := fitS_eq h
  have e0 : (⟨#[112, 117, 116]⟩ : ByteArray).size = 3 := rfl
  have e1 : (⟨#[32]⟩ : ByteArray).size = 1 := rfl
  have e2 : (⟨#[59]⟩ : ByteArray).size = 1 := rfl
  simp only [lineName, app_size, e0, e1, e2] at hs
  have k1 := no_big (show 3 + 1 ≤ _ from by omega)
  have k2 := no_big (show 3 + 1 + a.size ≤ _ from by omega)
  have k3 := no_big (show 3 + 1 + a.size + 1 ≤ _ from by omega)
  have k4 := no_big (show 3 + 1 + a.size + 1 + x2.size ≤ _ from by omega)
  have k5 := no_big (show 3 + 1 + a.size + 1 + x2.size + x3.size ≤ _ from by omega)
  have k6 := no_big (show 3 + 1 + a.size + 1 + x2.size + x3.size + 1 ≤ _ from by omega)
  have k7 := no_big (show 4 + a.size ≤ _ from by omega)
  have k8 := no_big (show 4 + a.size + 1 ≤ _ from by omega)
  have k9 := no_big (show 4 + a.size + 1 + x2.size ≤ _ from by omega)
  have k10 := no_big (show 4 + a.size + 1 + x2.size + x3.size ≤ _ from by omega)
  have k11 := no_big (show 4 + a.size + 1 + x2.size + x3.size + 1 ≤ _ from by omega)
  subst hr
  clear h hs e0 e1 e2
  have HA := Aside0.mk ha
  clear ha
  obtain ⟨ad, cc, hw⟩ := word_at HG.out.1 4 (by decide) (by decide)
  have HW := Aside0.mk (show WordAt w ad cc 4 ⟨#[112, 117, 116]⟩ from hw)
  clear hw
  go_enter Tryd.func35, Tryd.ntmps35
  go_wp2_with fail
  first
  | go_region_held3 (fun W' => W'.cell? ⟨0, 0, none⟩ = some (.slice (some ad) 9 cc) ∧ W'.cell? ⟨ad.block, ad.off + 4, none⟩ = some (.string ⟨#[112, 117, 116]⟩) ∧ W'.cell? ⟨w.heap.size, 0, none⟩ = some (.int .i64 4) ∧ W'.cell? ⟨w.heap.size, 1, none⟩ = some (.int .i64 x1) ∧ W'.cell? ⟨w.heap.size, 2, none⟩ = some (.string x2) ∧ W'.cell? ⟨w.heap.size, 3, none⟩ = some (.string x3) ∧ W'.cell? ⟨w.heap.size, 4, none⟩ = some (.int .i64 x4) ∧ W'.cell? ⟨w.heap.size, 5, none⟩ = some (.int .i64 q0) ∧ W'.cell? ⟨w.heap.size, 6, none⟩ = some (.int .i64 q1) ∧ W'.cell? ⟨w.heap.size, 7, none⟩ = some (.int .i64 q2) ∧ W'.cell? ⟨w.heap.size, 8, none⟩ = some (.int .i64 p0) ∧ W'.cell? ⟨w.heap.size, 9, none⟩ = some (.int .i64 p1) ∧ W'.cell? ⟨w.heap.size, 10, none⟩ = some (.int .i64 p2) ∧ W'.cell? ⟨w.heap.size, 11, none⟩ = some v ∧ W'.cell? ⟨w.heap.size, 12, none⟩ = some (.int .i64 x7)) (with_reducible first | exact name_held HH.out HB.out HW.out | exact name_held (blk_drew HH.out) (below_drew1 HB.out) HW.out) (first | (go_at_call 52; (with_reducible refine (Itoa_calls x1 _ _ HA.out (HG.out.below (by first | exact HB.out | exact below_drew1 HB.out))).mono ?_); rintro e w1 ⟨rfl, hb⟩; have HH1 := Aside0.mk (blk_below (by first | exact HH.out | exact blk_drew HH.out) hb); have HB1 := Aside0.mk (below_step (by first | exact HB.out | exact below_drew1 HB.out) hb); clear hb HH HB; have HH := HH1; have HB := HB1; clear HH1 HB1))
  | fail "held3"
  go_wp2_with fail
  go_ret
  exact ⟨rfl, HB.out⟩
set_option maxHeartbeats 2000000 in
set_option maxRecDepth 100000 in
theorem line_hand (x1 : Int) (x2 x3 : ByteArray) (x4 q0 q1 q2 p0 p1 p2 : Int) (x6 : List S55) (x7 : Int) (a : ByteArray) (r : ByteArray) (v : Value) (w : World) (ha : itoaS x1 = some a) (h : fitS (lineName ⟨#[104, 97, 110, 100]⟩ a x2 x3) = some r) (hG : Glob w) : Calls Tryd.prog 35 #[.agg (stmC ⟨5, x1, x2, x3, x4, ⟨⟨q0, q1, q2⟩, ⟨p0, p1, p2⟩⟩, x6, x7⟩ v)] w fun e w' => e = .returned (.string r) ∧ Below w.heap.size w w' := by
  have hu55 := Tryd.underlying55
  have HG := Aside0.mk hG
  clear hG
  have HH := Aside0.mk (heap_alloc_new w (.cells (stmC (⟨5, x1, x2, x3, x4, ⟨⟨q0, q1, q2⟩, ⟨p0, p1, p2⟩⟩, x6, x7⟩ : S55) v) 55))
  have HB := Aside0.mk (below_alloc (Below.refl w.heap.size w) (.cells (stmC (⟨5, x1, x2, x3, x4, ⟨⟨q0, q1, q2⟩, ⟨p0, p1, p2⟩⟩, x6, x7⟩ : S55) v) 55))
  have hz := row_held HH.out
  simp only at hz
  go_split_ands
  obtain ⟨hr, hs⟩ := fitS_eq h
  have e0 : (⟨#[104, 97, 110, 100]⟩ : ByteArray).size = 4 := rfl
  have e1 : (⟨#[32]⟩ : ByteArray).size = 1 := rfl
  have e2 : (⟨#[59]⟩ : ByteArray).size = 1 := rfl
  simp only [lineName, app_size, e0, e1, e2] at hs
  have k1 := no_big (show 4 + 1 ≤ _ from by omega)
  have k2 := no_big (show 4 + 1 + a.size ≤ _ from by omega)
  have k3 := no_big (show 4 + 1 + a.size + 1 ≤ _ from by omega)
  have k4 := no_big (show 4 + 1 + a.size + 1 + x2.size ≤ _ from by omega)
  have k5 := no_big (show 4 + 1 + a.size + 1 + x2.size + x3.size ≤ _ from by omega)
  have k6 := no_big (show 4 + 1 + a.size + 1 + x2.size + x3.size + 1 ≤ _ from by omega)
  have k7 := no_big (show 5 + a.size ≤ _ from by omega)
  have k8 := no_big (show 5 + a.size + 1 ≤ _ from by omega)
  have k9 := no_big (show 5 + a.size + 1 + x2.size ≤ _ from by omega)
  have k10 := no_big (show 5 + a.size + 1 + x2.size + x3.size ≤ _ from by omega)
  have k11 := no_big (show 5 + a.size + 1 + x2.size + x3.size + 1 ≤ _ from by omega)
  subst hr
  clear h hs e0 e1 e2
  have HA := Aside0.mk ha
  clear ha
  obtain ⟨ad, cc, hw⟩ := word_at HG.out.1 5 (by decide) (by decide)
  have HW := Aside0.mk (show WordAt w ad cc 5 ⟨#[104, 97, 110, 100]⟩ from hw)
  clear hw
  go_enter Tryd.func35, Tryd.ntmps35
  go_wp2_with fail
  first
  | go_region_held3 (fun W' => W'.cell? ⟨0, 0, none⟩ = some (.slice (some ad) 9 cc) ∧ W'.cell? ⟨ad.block, ad.off + 5, none⟩ = some (.string ⟨#[104, 97, 110, 100]⟩) ∧ W'.cell? ⟨w.heap.size, 0, none⟩ = some (.int .i64 5) ∧ W'.cell? ⟨w.heap.size, 1, none⟩ = some (.int .i64 x1) ∧ W'.cell? ⟨w.heap.size, 2, none⟩ = some (.string x2) ∧ W'.cell? ⟨w.heap.size, 3, none⟩ = some (.string x3) ∧ W'.cell? ⟨w.heap.size, 4, none⟩ = some (.int .i64 x4) ∧ W'.cell? ⟨w.heap.size, 5, none⟩ = some (.int .i64 q0) ∧ W'.cell? ⟨w.heap.size, 6, none⟩ = some (.int .i64 q1) ∧ W'.cell? ⟨w.heap.size, 7, none⟩ = some (.int .i64 q2) ∧ W'.cell? ⟨w.heap.size, 8, none⟩ = some (.int .i64 p0) ∧ W'.cell? ⟨w.heap.size, 9, none⟩ = some (.int .i64 p1) ∧ W'.cell? ⟨w.heap.size, 10, none⟩ = some (.int .i64 p2) ∧ W'.cell? ⟨w.heap.size, 11, none⟩ = some v ∧ W'.cell? ⟨w.heap.size, 12, none⟩ = some (.int .i64 x7)) (with_reducible first | exact name_held HH.out HB.out HW.out | exact name_held (blk_drew HH.out) (below_drew1 HB.out) HW.out) (first | (go_at_call 52; (with_reducible refine (Itoa_calls x1 _ _ HA.out (HG.out.below (by first | exact HB.out | exact below_drew1 HB.out))).mono ?_); rintro e w1 ⟨rfl, hb⟩; have HH1 := Aside0.mk (blk_below (by first | exact HH.out | exact blk_drew HH.out) hb); have HB1 := Aside0.mk (below_step (by first | exact HB.out | exact below_drew1 HB.out) hb); clear hb HH HB; have HH := HH1; have HB := HB1; clear HH1 HB1))
  | fail "held3"
  go_wp2_with fail
  go_ret
  exact ⟨rfl, HB.out⟩
end Go.Proofs.YtonhcfecfifghaaDoor.PPx
namespace Go.Proofs.YtonhcfecfifghaaDoor.PPx
open Go.RowKit Go.Proofs.YtonhcfecfifghaaDoorW.PrintWords Go.Proofs.YtonhcfecfifghaaDoorW.PrintLast Go.Proofs.YtonhcfecfifghaaDoorW.PrintMore
set_option linter.unusedVariables false
set_option linter.unusedSimpArgs false
theorem line_calls (x : S55) (v : Value) (r : ByteArray) (w : World) (h : lineF x = some r) (hG : Glob w) : Calls Tryd.prog 35 #[.agg (stmC x v)] w fun e w' => e = .returned (.string r) ∧ Below w.heap.size w w' := by
  obtain ⟨x0, x1, x2, x3, x4, ⟨⟨q0, q1, q2⟩, ⟨p0, p1, p2⟩⟩, x6, x7⟩ := x
  unfold lineF at h
  simp only at h
  split at h
  · rename_i e; subst e
    split at h
    · rename_i e; subst e
      obtain ⟨a, ha, h⟩ := Option.bind_eq_some_iff.1 h
      obtain ⟨t, ht, h⟩ := Option.bind_eq_some_iff.1 h
      exact line_go0 x2 x3 x4 q0 q1 q2 p0 p1 p2 x6 x7 a t r v w ha ht h hG
    · split at h
      · rename_i e; subst e
        obtain ⟨a, ha, h⟩ := Option.bind_eq_some_iff.1 h
        obtain ⟨t, ht, h⟩ := Option.bind_eq_some_iff.1 h
        exact line_go1 x2 x3 x4 q0 q1 q2 p0 p1 p2 x6 x7 a t r v w ha ht h hG
      · simp at h
  · split at h
    · rename_i e; subst e
      obtain ⟨a, ha, h⟩ := Option.bind_eq_some_iff.1 h
      exact line_home x1 x2 x3 x4 q0 q1 q2 p0 p1 p2 x6 x7 a r v w ha h hG
    · split at h
      · rename_i e; subst e
        obtain ⟨a, ha, h⟩ := Option.bind_eq_some_iff.1 h
        exact line_wait x1 x2 x3 x4 q0 q1 q2 p0 p1 p2 x6 x7 a r v w ha h hG
      · split at h
        · rename_i e; subst e
          exact line_when x1 x2 x3 x4 q0 q1 q2 p0 p1 p2 x6 x7 r v w h hG
        · split at h
          · rename_i e; subst e
            obtain ⟨t, ht, h⟩ := Option.bind_eq_some_iff.1 h
            obtain ⟨u, hu, h⟩ := Option.bind_eq_some_iff.1 h
            exact line_both x1 x2 x3 x4 q0 q1 q2 p0 p1 p2 x6 x7 t u r v w ht hu h hG
          · split at h
            · rename_i e
              obtain ⟨a, ha, h⟩ := Option.bind_eq_some_iff.1 h
              rcases e with e | e | e <;> subst e
              · exact line_pick x1 x2 x3 x4 q0 q1 q2 p0 p1 p2 x6 x7 a r v w ha h hG
              · exact line_put x1 x2 x3 x4 q0 q1 q2 p0 p1 p2 x6 x7 a r v w ha h hG
              · exact line_hand x1 x2 x3 x4 q0 q1 q2 p0 p1 p2 x6 x7 a r v w ha h hG
            · simp at h
/-- what the kids of a statement write -/
def kidsW (rec : ByteArray → List S55 → Option ByteArray) (ins : ByteArray) (x : S55) : Option ByteArray :=
  if x.f0 = 7 then (rec (ins ++ ⟨#[32, 32]⟩) x.f6).bind fun t => some (t ++ (ins ++ ⟨#[125, 10]⟩)) else some ⟨#[]⟩
/-- what written writes -/
def writtenL (rec : ByteArray → List S55 → Option ByteArray) (ins : ByteArray) : List S55 → Option ByteArray
  | [] => some ⟨#[]⟩
  | x :: l => (lineF x).bind fun s => (kidsW rec ins x).bind fun t => (writtenL rec ins l).bind fun u => some ((((ins ++ s) ++ ⟨#[10]⟩) ++ t) ++ u)
def writtenF : Nat → ByteArray → List S55 → Option ByteArray
  | 0 => fun _ _ => none
  | k + 1 => writtenL (writtenF k)
theorem kids_le {r1 r2 : ByteArray → List S55 → Option ByteArray} (h : ∀ i l, LeO (r1 i l) (r2 i l)) (ins : ByteArray) (x : S55) : LeO (kidsW r1 ins x) (kidsW r2 ins x) := by
  unfold kidsW
  exact LeO.ite (LeO.bind (h _ _) fun _ => LeO.refl _) (LeO.refl _)
theorem writtenL_le {r1 r2 : ByteArray → List S55 → Option ByteArray} (h : ∀ i l, LeO (r1 i l) (r2 i l)) (ins : ByteArray) : ∀ l, LeO (writtenL r1 ins l) (writtenL r2 ins l)
  | [] => LeO.refl _
  | x :: l => LeO.bind (LeO.refl _) fun _ => LeO.bind (kids_le h ins x) fun _ => LeO.bind (writtenL_le h ins l) fun _ => LeO.refl _
theorem written_le : ∀ (k : Nat) (ins : ByteArray) (l : List S55), LeO (writtenF k ins l) (writtenF (k + 1) ins l)
  | 0, ins, l => fun r h => by simp [writtenF] at h
  | k + 1, ins, l => writtenL_le (written_le k) ins l
theorem bldAt_below {B b : Nat} {p : Value} {bs : List Value} {W W' : World} (h : Lib.BuilderAtF 63 5 B b p bs W) (hb : Below W.heap.size W W') : Lib.BuilderAtF 63 5 B b p bs W' := by
  have hlt := h.lt
  obtain ⟨hB, v, hv, hown, hne⟩ := h
  exact ⟨hB, v, (hb.block b hlt).trans hv, hown.kept (row := none) ⟨hb.os, hb.tape, hb.output, hb.size, fun k hk _ => hb.block k hk⟩ (Classical.em _), hne⟩
theorem bld_below {B b : Nat} {bs : List Value} {W W' : World} (h : Lib.IsBuilderF 63 5 B b bs W) (hb : Below W.heap.size W W') : Lib.IsBuilderF 63 5 B b bs W' :=
  h.elim (fun x => .inl (bldAt_below x hb)) (fun x => .inr (bldAt_below x hb))
theorem bld_lt {B b : Nat} {bs : List Value} {W : World} (h : Lib.IsBuilderF 63 5 B b bs W) : b < W.heap.size := h.elim (fun x => x.lt) (fun x => x.lt)
theorem kept_of_below {w w' : World} {b : Nat} (h : Below w.heap.size w w') : Lib.OthersKept 5 (some b) w w' := fun k o hk _ _ => (h.block k ((Array.getElem?_eq_some_iff.1 hk).1)).trans hk
theorem strCells_append (x y : ByteArray) : Lib.strCells (x ++ y) = Lib.strCells x ++ Lib.strCells y := by
  simp [Lib.strCells, ByteArray.data_append, Array.toList_append]
theorem strCells_empty : Lib.strCells ⟨#[]⟩ = [] := rfl
/-- the contract of written, in a world above w0, in which the statements lie -/
abbrev WrC (w0 : World) (b : Nat) (rec : ByteArray → List S55 → Option ByteArray) : Prop := ∀ (A : Option Addr) (c : Nat) (l : List S55) (ins : ByteArray) (bs : List Value) (out : ByteArray) (W : World), Kd.C k55 w0 A l.length l → l.length ≤ c → Below w0.heap.size w0 W → Lib.IsBuilderF 63 5 w0.heap.size b bs W → rec ins l = some out → bs.length + out.size ≤ 140737488355328 →
  Calls Tryd.prog 23 #[.pointer (some ⟨b, 0, none⟩), .slice A l.length c, .string ins] W fun e w' => e = .returned (.tuple #[]) ∧ Lib.IsBuilderF 63 5 w0.heap.size b (bs ++ Lib.strCells out) w' ∧ Below w0.heap.size w0 w' ∧ Lib.OthersKept 5 (some b) W w'
theorem kept_blk {w w' : World} {b g : Nat} {cs : Array Value} (h : Lib.OthersKept 5 (some b) w w') (hg : w.heap[g]? = some (.cells cs 55 (0, 0))) (hb : g ≠ b) : w'.heap[g]? = some (.cells cs 55 (0, 0)) :=
  h g _ hg (fun e => hb (Option.some.inj e)) (fun c fz e => by simp at e)
set_option maxHeartbeats 2000000 in
set_option maxRecDepth 100000 in
theorem written_step (w0 : World) (hG : Glob w0) (b : Nat) (rec : ByteArray → List S55 → Option ByteArray) (HE : Aside0 (WrC w0 b rec)) : WrC w0 b (writtenL rec) := by
  intro A c l ins bs out W hC hc hB hI hrun hlen
  have hu55 := Tryd.underlying55
  have HG := Aside0.mk hG
  have HC := Aside0.mk hC
  have HB := Aside0.mk hB
  have HI := Aside0.mk hI
  have HR := Aside0.mk hrun
  have HL := Aside0.mk hlen
  have hm := Kd.C_max hC
  clear hG hC hB hI hrun hlen
  go_enter Tryd.func23, Tryd.ntmps23
  go_wp2_with fail
  go_loopg [10] l.length (fun kq v10 wr => ∃ (i : Nat) (bs' : List Value) (o' : ByteArray), v10 = .int .i64 i ∧ Aside0 (i + kq = l.length ∧ writtenL rec ins (l.drop i) = some o' ∧ bs' ++ Lib.strCells o' = bs ++ Lib.strCells out ∧ Lib.IsBuilderF 63 5 w0.heap.size b bs' wr ∧ Below w0.heap.size w0 wr ∧ Lib.OthersKept 5 (some b) W wr))
  case atStart => exact ⟨0, bs, out, rfl, ⟨by omega, by simpa using HR.out, rfl, HI.out, HB.out, Lib.OthersKept.refl _ _ _⟩⟩
  case round =>
    clear HR HI HB
    obtain ⟨i, bs', o', rfl, ⟨hk, hs, he, hi1, hb, ho⟩⟩ := hrel
    have HS := Aside0.mk hs
    have HEq := Aside0.mk he
    have HI := Aside0.mk hi1
    have HB := Aside0.mk hb
    have HO := Aside0.mk ho
    clear hs he hi1 hb ho
    rcases gk with _ | k1
    · have hi : i = l.length := by omega
      have ho : o' = ⟨#[]⟩ := by have := HS.out; rw [hi, List.drop_length] at this; simpa [writtenL] using this.symm
      have hlt : decide ((i : Int) < (l.length : Int)) = false := by simp [hi]
      have HE2 := Aside0.mk (show bs' = bs ++ Lib.strCells out from by have := HEq.out; rw [ho, strCells_empty, List.append_nil] at this; exact this)
      clear ho HEq HS
      go_wp2_with fail
      go_end0
      exact ⟨rfl, HE2.out ▸ HI.out, HB.out, HO.out⟩
    · have hi : i < l.length := by omega
      have hlt : decide ((i : Int) < (l.length : Int)) = true := by simp [hi]
      have hp : (0 ≤ (i : Int)) := by omega
      have hq0 : (i : Int) < (l.length : Int) := by omega
      obtain ⟨ad, Ax, cx, ex, x0, x1, x2, x3, x4, x5, x6, x7, x8, x9, x10, x11, x12, hlx, hCx⟩ := at_T55 HC.out i hp hq0
      cases ex
      have HS1 := HS.out
      rw [drop_rd l i hi] at HS1
      simp only [writtenL] at HS1
      obtain ⟨s, hs, h1⟩ := Option.bind_eq_some_iff.1 HS1
      obtain ⟨t, ht, h2⟩ := Option.bind_eq_some_iff.1 h1
      obtain ⟨u, hu, h3⟩ := Option.bind_eq_some_iff.1 h2
      have ho := Option.some.inj h3
      have HLi := Aside0.mk hs
      have HKi := Aside0.mk ht
      have HRe := Aside0.mk hu
      have HCX := Aside0.mk hCx
      have HOo := Aside0.mk ho
      generalize rd_T55 l (i : Int) = X at *
      clear HS HS1 hs ht hu hCx h1 h2 h3 ho
      simp only [Int.toNat_natCast] at x0 x1 x2 x3 x4 x5 x6 x7 x8 x9 x10 x11 x12
      have y0 := (World.cell?_of_block (HB.out.block _ (cell_lt x0))).trans x0
      have y1 := (World.cell?_of_block (HB.out.block _ (cell_lt x1))).trans x1
      have y2 := (World.cell?_of_block (HB.out.block _ (cell_lt x2))).trans x2
      have y3 := (World.cell?_of_block (HB.out.block _ (cell_lt x3))).trans x3
      have y4 := (World.cell?_of_block (HB.out.block _ (cell_lt x4))).trans x4
      have y5 := (World.cell?_of_block (HB.out.block _ (cell_lt x5))).trans x5
      have y6 := (World.cell?_of_block (HB.out.block _ (cell_lt x6))).trans x6
      have y7 := (World.cell?_of_block (HB.out.block _ (cell_lt x7))).trans x7
      have y8 := (World.cell?_of_block (HB.out.block _ (cell_lt x8))).trans x8
      have y9 := (World.cell?_of_block (HB.out.block _ (cell_lt x9))).trans x9
      have y10 := (World.cell?_of_block (HB.out.block _ (cell_lt x10))).trans x10
      have y11 := (World.cell?_of_block (HB.out.block _ (cell_lt x11))).trans x11
      have y12 := (World.cell?_of_block (HB.out.block _ (cell_lt x12))).trans x12
      clear x0 x1 x2 x3 x4 x5 x6 x7 x8 x9 x10 x11 x12
      replace hp := eq_true hp
      replace hq0 := eq_true hq0
      have HXR := Aside0.mk (heap_alloc_new wr (.cells (stmC X (.slice Ax X.f6.length cx)) 55))
      have HBa := Aside0.mk (below_alloc HB.out (.cells (stmC X (.slice Ax X.f6.length cx)) 55))
      have hbw := below_alloc (Below.refl wr.heap.size wr) (.cells (stmC X (.slice Ax X.f6.length cx)) 55)
      have HIa := Aside0.mk (bld_below HI.out hbw)
      have HOa := Aside0.mk (HO.out.trans (kept_of_below hbw))
      have HNb := Aside0.mk (Nat.ne_of_gt (bld_lt HI.out))
      have hsz := congrArg List.length HEq.out
      have hLen := HL.out
      simp only [List.length_append, Lib.strCells_length] at hsz
      have hso := HOo.out
      have hsz2 := congrArg ByteArray.size hso
      have e1 : (⟨#[10]⟩ : ByteArray).size = 1 := rfl
      simp only [app_size, e1] at hsz2
      have kk1 := no_big (show ins.size + s.size ≤ _ from by omega)
      have kk2 := no_big (show ins.size + s.size + 1 ≤ _ from by omega)
      have kl : bs'.length + ((ins ++ s) ++ ⟨#[10]⟩ : ByteArray).size ≤ 140737488355328 := by simp only [app_size, e1]; omega
      have HLen := Aside0.mk hLen
      have HS2 := Aside0.mk hsz
      have HS3 := Aside0.mk hsz2
      have HKl := Aside0.mk kl
      clear hsz hLen hso hsz2 e1 hbw kl HO HI
      have HLine := Aside0.mk (fun (W : World) (g : Glob W) => line_calls X (.slice Ax X.f6.length cx) s W HLi.out g)
      clear HLi
      simp only [stmC] at HXR HBa HIa HOa HLine
      by_cases h7 : X.f0 = 7
      · have hb7 : (X.f0 == 7) = true := by simpa using h7
        have hk7 : ((rec (ins ++ ⟨#[32, 32]⟩) X.f6).bind fun t => some (t ++ (ins ++ ⟨#[125, 10]⟩))) = some t := by have := HKi.out; unfold kidsW at this; rw [if_pos h7] at this; exact this
        obtain ⟨t', ht', hte⟩ := Option.bind_eq_some_iff.1 hk7
        have HRk := Aside0.mk ht'
        have HTe := Aside0.mk (Option.some.inj hte)
        have e2 : (⟨#[125, 10]⟩ : ByteArray).size = 2 := rfl
        have e3 : (⟨#[10]⟩ : ByteArray).size = 1 := rfl
        have hz1 := congrArg ByteArray.size HTe.out
        simp only [app_size, e2] at hz1
        have hz2 := HS2.out
        have hz3 := HS3.out
        have hz4 := HLen.out
        have kk3 := no_big (show ins.size + 2 ≤ _ from by omega)
        have kb1 : (bs' ++ Lib.strCells ((ins ++ s) ++ ⟨#[10]⟩ : ByteArray)).length + t'.size ≤ 140737488355328 := by simp only [List.length_append, Lib.strCells_length, app_size, e3]; omega
        have kb2 : ((bs' ++ Lib.strCells ((ins ++ s) ++ ⟨#[10]⟩ : ByteArray)) ++ Lib.strCells t').length + (ins ++ ⟨#[125, 10]⟩ : ByteArray).size ≤ 140737488355328 := by simp only [List.length_append, Lib.strCells_length, app_size, e2, e3]; omega
        have HKb1 := Aside0.mk kb1
        have HKb2 := Aside0.mk kb2
        clear HKi h7 hk7 ht' hte e2 e3 hz1 hz2 hz3 hz4 kb1 kb2
        go_wp2_with fail
        (with_reducible refine (HLine.out _ (HG.out.below HBa.out)).mono ?_)
        rintro e w1 ⟨rfl, hb⟩
        have HB1 := Aside0.mk (below_step HBa.out hb)
        have HI1 := Aside0.mk (bld_below HIa.out hb)
        have HO1 := Aside0.mk (HOa.out.trans (kept_of_below hb))
        have HX1 := Aside0.mk (blk_below HXR.out hb)
        clear hb HBa HIa HOa HXR HLine y0 y1 y2 y3 y4 y5 y6 y7 y8 y9 y10 y11 y12
        go_wp2_with fail
        (with_reducible refine (WriteString_calls w0.heap.size b bs' _ _ HI1.out HKl.out (below_size HB1.out)).mono ?_)
        rintro e w2 ⟨rfl, h1, h2, h3⟩
        have HB2 := Aside0.mk (HB1.out.trans h2)
        have HI2 := Aside0.mk (show Lib.IsBuilderF 63 5 w0.heap.size b (bs' ++ Lib.strCells ((ins ++ s) ++ ⟨#[10]⟩ : ByteArray)) w2 from .inr h1)
        have HO2 := Aside0.mk (HO1.out.trans h3)
        have HX2 := Aside0.mk (kept_blk h3 HX1.out HNb.out)
        clear h1 h2 h3 HB1 HI1 HO1 HX1
        have hz := row_held (x := X) (v := .slice Ax X.f6.length cx) HX2.out
        go_split_ands
        go_wp2_with fail
        (with_reducible refine (HE.out Ax cx X.f6 _ _ t' _ HCX.out hlx HB2.out HI2.out HRk.out HKb1.out).mono ?_)
        rintro e w3 ⟨rfl, h1, h2, h3⟩
        have HB3 := Aside0.mk h2
        have HI3 := Aside0.mk h1
        have HO3 := Aside0.mk (HO2.out.trans h3)
        clear h1 h2 h3 HB2 HI2 HO2
        go_wp2_with fail
        (with_reducible refine (WriteString_calls w0.heap.size b _ _ _ HI3.out HKb2.out (below_size HB3.out)).mono ?_)
        rintro e w4 ⟨rfl, h1, h2, h3⟩
        have HB4 := Aside0.mk (HB3.out.trans h2)
        have HI4 := Aside0.mk (show Lib.IsBuilderF 63 5 w0.heap.size b (((bs' ++ Lib.strCells ((ins ++ s) ++ ⟨#[10]⟩ : ByteArray)) ++ Lib.strCells t') ++ Lib.strCells (ins ++ ⟨#[125, 10]⟩ : ByteArray)) w4 from .inr h1)
        have HO4 := Aside0.mk (HO3.out.trans h3)
        clear h1 h2 h3 HB3 HI3 HO3
        go_wp2_with fail
        go_roundg k1
        case measure => omega
        case rel =>
          refine ⟨i + 1, _, u, by first | rfl | (simp; done), ⟨by omega, HRe.out, ?_, HI4.out, HB4.out, HO4.out⟩⟩
          rw [← HEq.out, ← HOo.out, ← HTe.out]
          simp only [strCells_append, strCells_empty, List.append_nil, List.append_assoc]
      · have hb7 : (X.f0 == 7) = false := by simpa using h7
        have HK7 := Aside0.mk (show (⟨#[]⟩ : ByteArray) = t from by have := HKi.out; unfold kidsW at this; rw [if_neg h7] at this; exact Option.some.inj this)
        clear HKi h7
        go_wp2_with fail
        (with_reducible refine (HLine.out _ (HG.out.below HBa.out)).mono ?_)
        rintro e w1 ⟨rfl, hb⟩
        have HB1 := Aside0.mk (below_step HBa.out hb)
        have HI1 := Aside0.mk (bld_below HIa.out hb)
        have HO1 := Aside0.mk (HOa.out.trans (kept_of_below hb))
        have HX1 := Aside0.mk (blk_below HXR.out hb)
        clear hb HBa HIa HOa HXR HLine y0 y1 y2 y3 y4 y5 y6 y7 y8 y9 y10 y11 y12
        go_wp2_with fail
        (with_reducible refine (WriteString_calls w0.heap.size b bs' _ _ HI1.out HKl.out (below_size HB1.out)).mono ?_)
        rintro e w2 ⟨rfl, h1, h2, h3⟩
        have HB2 := Aside0.mk (HB1.out.trans h2)
        have HI2 := Aside0.mk (show Lib.IsBuilderF 63 5 w0.heap.size b (bs' ++ Lib.strCells ((ins ++ s) ++ ⟨#[10]⟩ : ByteArray)) w2 from .inr h1)
        have HO2 := Aside0.mk (HO1.out.trans h3)
        have HX2 := Aside0.mk (kept_blk h3 HX1.out HNb.out)
        clear h1 h2 h3 HB1 HI1 HO1 HX1
        have hz := row_held (x := X) (v := .slice Ax X.f6.length cx) HX2.out
        go_split_ands
        go_wp2_with fail
        go_roundg k1
        case measure => omega
        case rel =>
          refine ⟨i + 1, _, u, by first | rfl | (simp; done), ⟨by omega, HRe.out, ?_, HI2.out, HB2.out, HO2.out⟩⟩
          rw [← HEq.out, ← HOo.out, ← HK7.out]
          simp only [strCells_append, strCells_empty, List.append_nil, List.append_assoc]
theorem written_calls (w0 : World) (hG : Glob w0) (b : Nat) : ∀ k, WrC w0 b (writtenF k)
  | 0 => fun A c l ins bs out W _ _ _ _ h => by simp [writtenF] at h
  | k + 1 => written_step w0 hG b (writtenF k) ⟨written_calls w0 hG b k⟩
/-- Format: what written writes from the margin on -/
def parser_Format.f (k : Nat) (l0 : List S55) : Option ByteArray := (writtenF k ⟨#[]⟩ l0).bind fun s => if s.size ≤ 140737488355328 then some s else none
theorem parser_Format.mono (l0 : List S55) (k : Nat) : LeO (parser_Format.f k l0) (parser_Format.f (k + 1) l0) := LeO.bind (written_le k _ l0) fun _ => LeO.refl _
set_option maxHeartbeats 1000000 in
set_option maxRecDepth 100000 in
theorem parser_Format.calls (k : Nat) (A0 : Option Addr) (c0 : Nat) (l0 : List S55) (r : ByteArray) (w : World) (hr0 : Kd.C k55 w A0 l0.length l0) (hc0 : l0.length ≤ c0) (h : parser_Format.f k l0 = some r) (hG : Glob w) :
    Calls Tryd.prog 13 #[.slice A0 l0.length c0] w fun e w' => e = .returned (.string r) ∧ Below w.heap.size w w' := by
  obtain ⟨s, hs, h2⟩ := Option.bind_eq_some_iff.1 h
  split at h2
  · rename_i hsz
    obtain rfl := Option.some.inj h2
    have HS := Aside0.mk hs
    have HC := Aside0.mk hr0
    have HG := Aside0.mk hG
    have HZ := Aside0.mk hsz
    have HB := Aside0.mk (below_alloc (Below.refl w.heap.size w) (.cells #[.pointer none, .slice none 0 0] 63))
    have HI : Aside0 (Lib.IsBuilderF 63 5 w.heap.size w.heap.size [] (w.alloc (.cells #[.pointer none, .slice none 0 0] 63))) :=
      ⟨.inl ⟨Nat.le_refl _, .slice none 0 0, heap_alloc_new w _, World.ownsRowF_of (World.ownsRow_nil _ _ _ _), by simp [Value.ownBlock]⟩⟩
    clear h h2 hs hr0 hG hsz
    go_enter Tryd.func13, Tryd.ntmps13
    go_wp2_with fail
    (with_reducible refine (written_calls w HG.out w.heap.size k A0 c0 l0 _ [] s _ HC.out hc0 HB.out HI.out HS.out (by simpa using HZ.out)).mono ?_)
    rintro e w1 ⟨rfl, h1, h2, h3⟩
    have HI1 := Aside0.mk h1
    have HB1 := Aside0.mk h2
    clear h1 h2 h3
    go_wp2_with fail
    refine (Tryd.Builder_String_any_k w.heap.size w.heap.size s.data.toList _ HI1.out (below_size HB1.out)).mono ?_
    rintro e w2 ⟨rfl, h1, h2, h3⟩
    have HB2 := Aside0.mk (HB1.out.trans h2)
    clear h1 h2 h3
    go_wp2_with fail
    go_ret
    exact ⟨rfl, HB2.out⟩
  · simp at h2
end Go.Proofs.YtonhcfecfifghaaDoor.PPx
namespace Go.Proofs.YtonhcfecfifghaaDoor.PPx
open Go.RowKit Go.Proofs.YtonhcfecfifghaaDoorW.PrintWords Go.Proofs.YtonhcfecfifghaaDoorW.PrintLast Go.Proofs.YtonhcfecfifghaaDoorW.PrintMore
set_option linter.unusedVariables false
set_option linter.unusedSimpArgs false
attribute [local go_sem high] eqA35
mutual
def parser_count.l0 : Nat → Int → Int → List (S55) → Int → Int → Option (Int)
  | 0, _, _, _, _, _ => none
  | k + 1, x1, x5, x8, x9, x10 => if x10 < x9 then (if 0 ≤ x10 then (if x10 < (x8.length : Int) then (if (wrap64 (x5 + 1)) > 64 then (parser_count.j1 k x1 (wrap64 (x5 + 1)) x8 x9 x10 true ((rd_T55 x8 x10).f0) ((rd_T55 x8 x10).f1) ((rd_T55 x8 x10).f2) ((rd_T55 x8 x10).f3) ((rd_T55 x8 x10).f4) ((rd_T55 x8 x10).f5.f0.f0) ((rd_T55 x8 x10).f5.f0.f1) ((rd_T55 x8 x10).f5.f0.f2) ((rd_T55 x8 x10).f5.f1.f0) ((rd_T55 x8 x10).f5.f1.f1) ((rd_T55 x8 x10).f5.f1.f2) ((rd_T55 x8 x10).f6) ((rd_T55 x8 x10).f7)) else (if ((rd_T55 x8 x10).f0) = 7 then (if x1 = 4 then (parser_count.j1 k x1 (wrap64 (x5 + 1)) x8 x9 x10 true ((rd_T55 x8 x10).f0) ((rd_T55 x8 x10).f1) ((rd_T55 x8 x10).f2) ((rd_T55 x8 x10).f3) ((rd_T55 x8 x10).f4) ((rd_T55 x8 x10).f5.f0.f0) ((rd_T55 x8 x10).f5.f0.f1) ((rd_T55 x8 x10).f5.f0.f2) ((rd_T55 x8 x10).f5.f1.f0) ((rd_T55 x8 x10).f5.f1.f1) ((rd_T55 x8 x10).f5.f1.f2) ((rd_T55 x8 x10).f6) ((rd_T55 x8 x10).f7)) else ((parser_plain.f k ((rd_T55 x8 x10).f0) ((rd_T55 x8 x10).f1) ((rd_T55 x8 x10).f2) ((rd_T55 x8 x10).f3) ((rd_T55 x8 x10).f4) ((rd_T55 x8 x10).f5.f0.f0) ((rd_T55 x8 x10).f5.f0.f1) ((rd_T55 x8 x10).f5.f0.f2) ((rd_T55 x8 x10).f5.f1.f0) ((rd_T55 x8 x10).f5.f1.f1) ((rd_T55 x8 x10).f5.f1.f2) ((rd_T55 x8 x10).f6) ((rd_T55 x8 x10).f7)).bind fun t128 => (parser_count.j1 k x1 (wrap64 (x5 + 1)) x8 x9 x10 (!t128) ((rd_T55 x8 x10).f0) ((rd_T55 x8 x10).f1) ((rd_T55 x8 x10).f2) ((rd_T55 x8 x10).f3) ((rd_T55 x8 x10).f4) ((rd_T55 x8 x10).f5.f0.f0) ((rd_T55 x8 x10).f5.f0.f1) ((rd_T55 x8 x10).f5.f0.f2) ((rd_T55 x8 x10).f5.f1.f0) ((rd_T55 x8 x10).f5.f1.f1) ((rd_T55 x8 x10).f5.f1.f2) ((rd_T55 x8 x10).f6) ((rd_T55 x8 x10).f7)))) else ((parser_plain.f k ((rd_T55 x8 x10).f0) ((rd_T55 x8 x10).f1) ((rd_T55 x8 x10).f2) ((rd_T55 x8 x10).f3) ((rd_T55 x8 x10).f4) ((rd_T55 x8 x10).f5.f0.f0) ((rd_T55 x8 x10).f5.f0.f1) ((rd_T55 x8 x10).f5.f0.f2) ((rd_T55 x8 x10).f5.f1.f0) ((rd_T55 x8 x10).f5.f1.f1) ((rd_T55 x8 x10).f5.f1.f2) ((rd_T55 x8 x10).f6) ((rd_T55 x8 x10).f7)).bind fun t129 => (parser_count.j1 k x1 (wrap64 (x5 + 1)) x8 x9 x10 (!t129) ((rd_T55 x8 x10).f0) ((rd_T55 x8 x10).f1) ((rd_T55 x8 x10).f2) ((rd_T55 x8 x10).f3) ((rd_T55 x8 x10).f4) ((rd_T55 x8 x10).f5.f0.f0) ((rd_T55 x8 x10).f5.f0.f1) ((rd_T55 x8 x10).f5.f0.f2) ((rd_T55 x8 x10).f5.f1.f0) ((rd_T55 x8 x10).f5.f1.f1) ((rd_T55 x8 x10).f5.f1.f2) ((rd_T55 x8 x10).f6) ((rd_T55 x8 x10).f7))))) else (none)) else (none)) else (some x5)
def parser_count.j1 : Nat → Int → Int → List (S55) → Int → Int → Bool → Int → Int → ByteArray → ByteArray → Int → Int → Int → Int → Int → Int → Int → List (S55) → Int → Option (Int)
  | 0, _, _, _, _, _, _, _, _, _, _, _, _, _, _, _, _, _, _, _ => none
  | k + 1, x1, x5, x8, x9, x10, x31, x128000, x128001, x128002, x128003, x128004, x128005, x128006, x128007, x128008, x128009, x128010, x128011, x128012 => if x31 = true then (some 65) else (if x128000 = 7 then ((parser_count.f k x128011 (wrap64 (x1 + 1))).bind fun t130 => (parser_count.l0 k x1 (wrap64 (x5 + t130)) x8 x9 (wrap64 (x10 + 1)))) else (parser_count.l0 k x1 x5 x8 x9 (wrap64 (x10 + 1))))
def parser_count.f : Nat → List (S55) → Int → Option (Int)
  | 0, _, _ => none
  | k + 1, l0, a1 => parser_count.l0 k a1 0 l0 (l0.length : Int) 0
end
theorem parser_count.mono_l : ∀ k, (∀ y0 y1, LeO (parser_count.f k y0 y1) (parser_count.f (k + 1) y0 y1)) ∧ (∀ y0 y1 y2 y3 y4, LeO (parser_count.l0 k y0 y1 y2 y3 y4) (parser_count.l0 (k + 1) y0 y1 y2 y3 y4)) ∧ (∀ y0 y1 y2 y3 y4 y5 y6 y7 y8 y9 y10 y11 y12 y13 y14 y15 y16 y17 y18, LeO (parser_count.j1 k y0 y1 y2 y3 y4 y5 y6 y7 y8 y9 y10 y11 y12 y13 y14 y15 y16 y17 y18) (parser_count.j1 (k + 1) y0 y1 y2 y3 y4 y5 y6 y7 y8 y9 y10 y11 y12 y13 y14 y15 y16 y17 y18))
  | 0 => ⟨fun _ _ r h => by simp [parser_count.f] at h, fun _ _ _ _ _ r h => by simp [parser_count.l0] at h, fun _ _ _ _ _ _ _ _ _ _ _ _ _ _ _ _ _ _ _ r h => by simp [parser_count.j1] at h⟩
  | k + 1 => by
    obtain ⟨ih0, ih1, ih2⟩ := parser_count.mono_l k
    refine ⟨?_, ?_, ?_⟩
    · intro y0 y1
      unfold parser_count.f
      repeat' first
      | (with_reducible exact ih0 _ _)
      | (with_reducible exact ih1 _ _ _ _ _)
      | (with_reducible exact ih2 _ _ _ _ _ _ _ _ _ _ _ _ _ _ _ _ _ _ _)
      | (with_reducible exact parser_plain.mono _ _ _ _ _ _ _ _ _ _ _ _ _ _)
      | (with_reducible exact LeO.refl _)
      | (with_reducible exact LeO.none _)
      | (with_reducible refine LeO.ite ?_ ?_)
      | (with_reducible refine LeO.bind ?_ (fun _ => ?_))
      | exact ih0 _ _
      | exact ih1 _ _ _ _ _
      | exact ih2 _ _ _ _ _ _ _ _ _ _ _ _ _ _ _ _ _ _ _
      | exact parser_plain.mono _ _ _ _ _ _ _ _ _ _ _ _ _ _
      | exact LeO.none _
      | refine LeO.ite ?_ ?_
      | refine LeO.bind ?_ (fun _ => ?_)
    · intro y0 y1 y2 y3 y4
      unfold parser_count.l0
      repeat' first
      | (with_reducible exact ih0 _ _)
      | (with_reducible exact ih1 _ _ _ _ _)
      | (with_reducible exact ih2 _ _ _ _ _ _ _ _ _ _ _ _ _ _ _ _ _ _ _)
      | (with_reducible exact parser_plain.mono _ _ _ _ _ _ _ _ _ _ _ _ _ _)
      | (with_reducible exact LeO.refl _)
      | (with_reducible exact LeO.none _)
      | (with_reducible refine LeO.ite ?_ ?_)
      | (with_reducible refine LeO.bind ?_ (fun _ => ?_))
      | exact ih0 _ _
      | exact ih1 _ _ _ _ _
      | exact ih2 _ _ _ _ _ _ _ _ _ _ _ _ _ _ _ _ _ _ _
      | exact parser_plain.mono _ _ _ _ _ _ _ _ _ _ _ _ _ _
      | exact LeO.none _
      | refine LeO.ite ?_ ?_
      | refine LeO.bind ?_ (fun _ => ?_)
    · intro y0 y1 y2 y3 y4 y5 y6 y7 y8 y9 y10 y11 y12 y13 y14 y15 y16 y17 y18
      unfold parser_count.j1
      repeat' first
      | (with_reducible exact ih0 _ _)
      | (with_reducible exact ih1 _ _ _ _ _)
      | (with_reducible exact ih2 _ _ _ _ _ _ _ _ _ _ _ _ _ _ _ _ _ _ _)
      | (with_reducible exact parser_plain.mono _ _ _ _ _ _ _ _ _ _ _ _ _ _)
      | (with_reducible exact LeO.refl _)
      | (with_reducible exact LeO.none _)
      | (with_reducible refine LeO.ite ?_ ?_)
      | (with_reducible refine LeO.bind ?_ (fun _ => ?_))
      | exact ih0 _ _
      | exact ih1 _ _ _ _ _
      | exact ih2 _ _ _ _ _ _ _ _ _ _ _ _ _ _ _ _ _ _ _
      | exact parser_plain.mono _ _ _ _ _ _ _ _ _ _ _ _ _ _
      | exact LeO.none _
      | refine LeO.ite ?_ ?_
      | refine LeO.bind ?_ (fun _ => ?_)
theorem parser_count.mono : ∀ a0 a1 k, LeO (parser_count.f k a0 a1) (parser_count.f (k + 1) a0 a1) := by
  intro a0 a1 k
  obtain ⟨ih0, ih1, ih2⟩ := parser_count.mono_l k
  exact ih0 a0 a1
set_option maxHeartbeats 8000000 in
set_option maxRecDepth 100000 in
theorem parser_count.calls (k : Nat) : ∀ (A0 : Option Addr) (c0 : Nat) (l0 : List (S55)) (a1 : Int) (r : Int) (w : World) (hr0 : Kd.C k55 w A0 l0.length l0) (hc0 : l0.length ≤ c0) (h : parser_count.f k l0 a1 = some r) (hG : Glob w),
    Calls Tryd.prog 21 #[.slice A0 l0.length c0, .int .i64 a1] w fun e w' => e = .returned (.int .i64 r) ∧ Below w.heap.size w w' := by
  induction k using Nat.strongRecOn with
  | _ k ih =>
  intro A0 c0 l0 a1 r w hr0 hc0 h hG
  have HGL := Aside0.mk hG
  clear hG
  cases k with
  | zero => exact absurd h (by simp [parser_count.f])
  | succ k =>
  simp only [parser_count.f] at h
  have hu55 := Tryd.underlying55
  have HR0 := Aside0.mk hr0
  have HC0 := Aside0.mk hc0
  clear hr0 hc0
  have HB := Aside0.mk (Below.refl w.heap.size w)
  have H : (parser_count.l0 k a1 0 l0 (l0.length : Int) 0) = some r := h
  clear h
  have H' := Aside0.mk H
  clear H
  go_enter Tryd.func21, Tryd.ntmps21
  go_wp2
  go_loopg [5, 10] k (fun kq v5 v10 w' => ∃ (x5_1 : Int) (x10_1 : Int), v5 = .int .i64 x5_1 ∧ v10 = .int .i64 x10_1 ∧ Aside0 (parser_count.l0 kq a1 x5_1 l0 (l0.length : Int) x10_1 = some r) ∧ Aside0 (kq ≤ k) ∧ Aside0 (Below w.heap.size w w'))
  case atStart => exact ⟨(0), (0), (by first | rfl | (simp; done) | (simp [*]; done)), (by first | rfl | (simp; done) | (simp [*]; done)), H', ⟨Nat.le_refl _⟩, ⟨by repeat (first | (with_reducible first | exact HB.out | apply below_alloc | apply pw_below_drewN | apply below_drew1) | exact HB.out)⟩⟩
  case round =>
    clear H'
    try clear c2
    try clear p2
    obtain ⟨x5_1, x10_1, rfl, rfl, HA, HK1, HB⟩ := hrel
    cases gk with
    | zero => exact absurd HA.out (by simp [parser_count.l0])
    | succ k1 =>
      have H := HA.out
      clear HA
      simp only [parser_count.l0] at H
      by_cases c3 : x10_1 < (l0.length : Int)
      · rw [if_pos c3] at H
        have c3b0 : decide (x10_1 < (l0.length : Int)) = true := decide_eq_true c3
        clear c3
        by_cases c4 : 0 ≤ x10_1
        · rw [if_pos c4] at H
          have c4b0 : decide (0 ≤ x10_1) = true := decide_eq_true c4
          clear c4
          by_cases c5 : x10_1 < (l0.length : Int)
          · rw [if_pos c5] at H
            have c5b0 : decide (x10_1 < (l0.length : Int)) = true := decide_eq_true c5
            clear c5
            have HC6 := Aside0.mk H
            clear H
            have p126 : 0 ≤ (x10_1 : Int) := of_decide_eq_true (by first | (with_reducible assumption) | assumption)
            have q126 : x10_1 < (l0.length : Int) := of_decide_eq_true (by first | (with_reducible assumption) | assumption)
            obtain ⟨ad126, A126_11, c126_11, e126, hx126_0, hx126_1, hx126_2, hx126_3, hx126_4, hx126_5, hx126_6, hx126_7, hx126_8, hx126_9, hx126_10, hx126_11, hx126_12, hl126_11, hi126_11⟩ := at_T55 HR0.out x10_1 p126 q126
            cases e126
            replace hx126_0 := (HB.out.cell (World.block_lt_of_cell? w _ hx126_0)).trans hx126_0
            replace hx126_1 := (HB.out.cell (World.block_lt_of_cell? w _ hx126_1)).trans hx126_1
            replace hx126_2 := (HB.out.cell (World.block_lt_of_cell? w _ hx126_2)).trans hx126_2
            replace hx126_3 := (HB.out.cell (World.block_lt_of_cell? w _ hx126_3)).trans hx126_3
            replace hx126_4 := (HB.out.cell (World.block_lt_of_cell? w _ hx126_4)).trans hx126_4
            replace hx126_5 := (HB.out.cell (World.block_lt_of_cell? w _ hx126_5)).trans hx126_5
            replace hx126_6 := (HB.out.cell (World.block_lt_of_cell? w _ hx126_6)).trans hx126_6
            replace hx126_7 := (HB.out.cell (World.block_lt_of_cell? w _ hx126_7)).trans hx126_7
            replace hx126_8 := (HB.out.cell (World.block_lt_of_cell? w _ hx126_8)).trans hx126_8
            replace hx126_9 := (HB.out.cell (World.block_lt_of_cell? w _ hx126_9)).trans hx126_9
            replace hx126_10 := (HB.out.cell (World.block_lt_of_cell? w _ hx126_10)).trans hx126_10
            replace hx126_11 := (HB.out.cell (World.block_lt_of_cell? w _ hx126_11)).trans hx126_11
            replace hx126_12 := (HB.out.cell (World.block_lt_of_cell? w _ hx126_12)).trans hx126_12
            have HR126_11 := Aside0.mk hi126_11
            have HC126_11 := Aside0.mk hl126_11
            clear hi126_11 hl126_11
            replace p126 := eq_true p126
            replace q126 := eq_true q126
            go_upto_region 6 with (first | ((with_reducible refine gate_dst (N := 7) rfl ?_); refine box_event ?hg (N := 7) ?hd (cs := #[.int .i64 0, .int .i64 0, .string (⟨#[]⟩ : ByteArray), .string (⟨#[]⟩ : ByteArray), .int .i64 0, .int .i64 0, .int .i64 0, .int .i64 0, .int .i64 0, .int .i64 0, .int .i64 0, .slice none 0 0, .int .i64 0]) (t := 55) ?hr ?_; (case hd => rfl); (case hg => rfl); (case hr => first | (go_simp; done) | (go_simp; rfl)); intro gb127 hg w7 hbox hb; have n0_ := Aside0.mk (below_step (by repeat (first | (with_reducible first | exact HB.out | apply below_alloc | apply pw_below_drewN | apply below_drew1) | exact HB.out)) hb); have n1_ := Aside0.mk (hbox); have n2_ := Aside0.mk ((by rw [hg]; exact (below_size (by repeat (first | (with_reducible first | exact HB.out | apply below_alloc | apply pw_below_drewN | apply below_drew1) | exact HB.out))) : w.heap.size ≤ gb127)); have n3_ := Aside0.mk ((by rw [hg]; exact (below_size (by repeat (first | (with_reducible first | exact HB.out | apply below_alloc | apply pw_below_drewN | apply below_drew1) | exact HB.out))) : w.heap.size ≤ gb127)); clear HB; have HB := n0_; have BK127 := n1_; have GW127 := n2_; have GE127 := n3_; clear n0_ n1_ n2_ n3_; clear hb hbox hg; have hcz8_0 : w7.cell? ⟨gb127, 0, none⟩ = some (.int .i64 0) := (blk_cell BK127.out 0).trans rfl; have hcz8_1 : w7.cell? ⟨gb127, 1, none⟩ = some (.int .i64 0) := (blk_cell BK127.out 1).trans rfl; have hcz8_2 : w7.cell? ⟨gb127, 2, none⟩ = some (.string (⟨#[]⟩ : ByteArray)) := (blk_cell BK127.out 2).trans rfl; have hcz8_3 : w7.cell? ⟨gb127, 3, none⟩ = some (.string (⟨#[]⟩ : ByteArray)) := (blk_cell BK127.out 3).trans rfl; have hcz8_4 : w7.cell? ⟨gb127, 4, none⟩ = some (.int .i64 0) := (blk_cell BK127.out 4).trans rfl; have hcz8_5 : w7.cell? ⟨gb127, 5, none⟩ = some (.int .i64 0) := (blk_cell BK127.out 5).trans rfl; have hcz8_6 : w7.cell? ⟨gb127, 6, none⟩ = some (.int .i64 0) := (blk_cell BK127.out 6).trans rfl; have hcz8_7 : w7.cell? ⟨gb127, 7, none⟩ = some (.int .i64 0) := (blk_cell BK127.out 7).trans rfl; have hcz8_8 : w7.cell? ⟨gb127, 8, none⟩ = some (.int .i64 0) := (blk_cell BK127.out 8).trans rfl; have hcz8_9 : w7.cell? ⟨gb127, 9, none⟩ = some (.int .i64 0) := (blk_cell BK127.out 9).trans rfl; have hcz8_10 : w7.cell? ⟨gb127, 10, none⟩ = some (.int .i64 0) := (blk_cell BK127.out 10).trans rfl; have hcz8_11 : w7.cell? ⟨gb127, 11, none⟩ = some (.slice none 0 0) := (blk_cell BK127.out 11).trans rfl; have hcz8_12 : w7.cell? ⟨gb127, 12, none⟩ = some (.int .i64 0) := (blk_cell BK127.out 12).trans rfl; have hfz8_0 := blk_frozen BK127.out 0; have hfz8_1 := blk_frozen BK127.out 1; have hfz8_2 := blk_frozen BK127.out 2; have hfz8_3 := blk_frozen BK127.out 3; have hfz8_4 := blk_frozen BK127.out 4; have hfz8_5 := blk_frozen BK127.out 5; have hfz8_6 := blk_frozen BK127.out 6; have hfz8_7 := blk_frozen BK127.out 7; have hfz8_8 := blk_frozen BK127.out 8; have hfz8_9 := blk_frozen BK127.out 9; have hfz8_10 := blk_frozen BK127.out 10; have hfz8_11 := blk_frozen BK127.out 11; have hfz8_12 := blk_frozen BK127.out 12))
            (try simp only [Act.put, List.setIfInBounds_toArray, List.set_cons_zero, List.set_cons_succ])
            go_cut [31] (fun v31 wc => ∃ (kq : Nat) (x31_5 : Bool), v31 = .bool x31_5 ∧ Aside0 (parser_count.j1 kq a1 (wrap64 (x5_1 + 1)) l0 (l0.length : Int) x10_1 x31_5 ((rd_T55 l0 x10_1).f0) ((rd_T55 l0 x10_1).f1) ((rd_T55 l0 x10_1).f2) ((rd_T55 l0 x10_1).f3) ((rd_T55 l0 x10_1).f4) ((rd_T55 l0 x10_1).f5.f0.f0) ((rd_T55 l0 x10_1).f5.f0.f1) ((rd_T55 l0 x10_1).f5.f0.f2) ((rd_T55 l0 x10_1).f5.f1.f0) ((rd_T55 l0 x10_1).f5.f1.f1) ((rd_T55 l0 x10_1).f5.f1.f2) ((rd_T55 l0 x10_1).f6) ((rd_T55 l0 x10_1).f7) = some r) ∧ Aside0 (kq ≤ k1) ∧ Aside0 (wc.heap[gb127]? = some (.cells #[.int .i64 ((rd_T55 l0 x10_1).f0), .int .i64 ((rd_T55 l0 x10_1).f1), .string ((rd_T55 l0 x10_1).f2), .string ((rd_T55 l0 x10_1).f3), .int .i64 ((rd_T55 l0 x10_1).f4), .int .i64 ((rd_T55 l0 x10_1).f5.f0.f0), .int .i64 ((rd_T55 l0 x10_1).f5.f0.f1), .int .i64 ((rd_T55 l0 x10_1).f5.f0.f2), .int .i64 ((rd_T55 l0 x10_1).f5.f1.f0), .int .i64 ((rd_T55 l0 x10_1).f5.f1.f1), .int .i64 ((rd_T55 l0 x10_1).f5.f1.f2), (.slice A126_11 ((rd_T55 l0 x10_1).f6).length c126_11), .int .i64 ((rd_T55 l0 x10_1).f7)] 55 (0, 0))) ∧ Aside0 (Below w.heap.size w wc))
            case first =>
              have H := HC6.out
              clear HC6
              by_cases c9 : (wrap64 (x5_1 + 1)) > 64
              · rw [if_pos c9] at H
                have c9b0 : decide (64 < (wrap64 (x5_1 + 1))) = true := decide_eq_true c9
                clear c9
                (first | rw [c9b0] | (simp only [i64_w, i32_w]; rw [c9b0]) | skip)
                have H' := Aside0.mk H
                clear H
                go_wp2
                go_meet
                case rel => exact ⟨_, (true), (by first | rfl | (simp; done) | (simp [*]; done)), H', ⟨by have := HK1.out; first | omega | exact Nat.le_refl _⟩, ⟨by (with_reducible repeat (first | refine blk_drewN ?_ _ | refine blk_drew ?_ | refine blk_alloc ?_ _)); refine blk_put (cs := #[.int .i64 ((rd_T55 l0 x10_1).f0), .int .i64 ((rd_T55 l0 x10_1).f1), .string ((rd_T55 l0 x10_1).f2), .string ((rd_T55 l0 x10_1).f3), .int .i64 ((rd_T55 l0 x10_1).f4), .int .i64 ((rd_T55 l0 x10_1).f5.f0.f0), .int .i64 ((rd_T55 l0 x10_1).f5.f0.f1), .int .i64 ((rd_T55 l0 x10_1).f5.f0.f2), .int .i64 ((rd_T55 l0 x10_1).f5.f1.f0), .int .i64 ((rd_T55 l0 x10_1).f5.f1.f1), .int .i64 ((rd_T55 l0 x10_1).f5.f1.f2), .slice A126_11 ((rd_T55 l0 x10_1).f6).length c126_11, .int .i64 0]) ?_ 12 _ rfl; (with_reducible repeat (first | refine blk_drewN ?_ _ | refine blk_drew ?_ | refine blk_alloc ?_ _)); refine blk_put (cs := #[.int .i64 ((rd_T55 l0 x10_1).f0), .int .i64 ((rd_T55 l0 x10_1).f1), .string ((rd_T55 l0 x10_1).f2), .string ((rd_T55 l0 x10_1).f3), .int .i64 ((rd_T55 l0 x10_1).f4), .int .i64 ((rd_T55 l0 x10_1).f5.f0.f0), .int .i64 ((rd_T55 l0 x10_1).f5.f0.f1), .int .i64 ((rd_T55 l0 x10_1).f5.f0.f2), .int .i64 ((rd_T55 l0 x10_1).f5.f1.f0), .int .i64 ((rd_T55 l0 x10_1).f5.f1.f1), .int .i64 ((rd_T55 l0 x10_1).f5.f1.f2), .slice none 0 0, .int .i64 0]) ?_ 11 _ rfl; (with_reducible repeat (first | refine blk_drewN ?_ _ | refine blk_drew ?_ | refine blk_alloc ?_ _)); refine blk_put (cs := #[.int .i64 ((rd_T55 l0 x10_1).f0), .int .i64 ((rd_T55 l0 x10_1).f1), .string ((rd_T55 l0 x10_1).f2), .string ((rd_T55 l0 x10_1).f3), .int .i64 ((rd_T55 l0 x10_1).f4), .int .i64 ((rd_T55 l0 x10_1).f5.f0.f0), .int .i64 ((rd_T55 l0 x10_1).f5.f0.f1), .int .i64 ((rd_T55 l0 x10_1).f5.f0.f2), .int .i64 ((rd_T55 l0 x10_1).f5.f1.f0), .int .i64 ((rd_T55 l0 x10_1).f5.f1.f1), .int .i64 0, .slice none 0 0, .int .i64 0]) ?_ 10 _ rfl; (with_reducible repeat (first | refine blk_drewN ?_ _ | refine blk_drew ?_ | refine blk_alloc ?_ _)); refine blk_put (cs := #[.int .i64 ((rd_T55 l0 x10_1).f0), .int .i64 ((rd_T55 l0 x10_1).f1), .string ((rd_T55 l0 x10_1).f2), .string ((rd_T55 l0 x10_1).f3), .int .i64 ((rd_T55 l0 x10_1).f4), .int .i64 ((rd_T55 l0 x10_1).f5.f0.f0), .int .i64 ((rd_T55 l0 x10_1).f5.f0.f1), .int .i64 ((rd_T55 l0 x10_1).f5.f0.f2), .int .i64 ((rd_T55 l0 x10_1).f5.f1.f0), .int .i64 0, .int .i64 0, .slice none 0 0, .int .i64 0]) ?_ 9 _ rfl; (with_reducible repeat (first | refine blk_drewN ?_ _ | refine blk_drew ?_ | refine blk_alloc ?_ _)); refine blk_put (cs := #[.int .i64 ((rd_T55 l0 x10_1).f0), .int .i64 ((rd_T55 l0 x10_1).f1), .string ((rd_T55 l0 x10_1).f2), .string ((rd_T55 l0 x10_1).f3), .int .i64 ((rd_T55 l0 x10_1).f4), .int .i64 ((rd_T55 l0 x10_1).f5.f0.f0), .int .i64 ((rd_T55 l0 x10_1).f5.f0.f1), .int .i64 ((rd_T55 l0 x10_1).f5.f0.f2), .int .i64 0, .int .i64 0, .int .i64 0, .slice none 0 0, .int .i64 0]) ?_ 8 _ rfl; (with_reducible repeat (first | refine blk_drewN ?_ _ | refine blk_drew ?_ | refine blk_alloc ?_ _)); refine blk_put (cs := #[.int .i64 ((rd_T55 l0 x10_1).f0), .int .i64 ((rd_T55 l0 x10_1).f1), .string ((rd_T55 l0 x10_1).f2), .string ((rd_T55 l0 x10_1).f3), .int .i64 ((rd_T55 l0 x10_1).f4), .int .i64 ((rd_T55 l0 x10_1).f5.f0.f0), .int .i64 ((rd_T55 l0 x10_1).f5.f0.f1), .int .i64 0, .int .i64 0, .int .i64 0, .int .i64 0, .slice none 0 0, .int .i64 0]) ?_ 7 _ rfl; (with_reducible repeat (first | refine blk_drewN ?_ _ | refine blk_drew ?_ | refine blk_alloc ?_ _)); refine blk_put (cs := #[.int .i64 ((rd_T55 l0 x10_1).f0), .int .i64 ((rd_T55 l0 x10_1).f1), .string ((rd_T55 l0 x10_1).f2), .string ((rd_T55 l0 x10_1).f3), .int .i64 ((rd_T55 l0 x10_1).f4), .int .i64 ((rd_T55 l0 x10_1).f5.f0.f0), .int .i64 0, .int .i64 0, .int .i64 0, .int .i64 0, .int .i64 0, .slice none 0 0, .int .i64 0]) ?_ 6 _ rfl; (with_reducible repeat (first | refine blk_drewN ?_ _ | refine blk_drew ?_ | refine blk_alloc ?_ _)); refine blk_put (cs := #[.int .i64 ((rd_T55 l0 x10_1).f0), .int .i64 ((rd_T55 l0 x10_1).f1), .string ((rd_T55 l0 x10_1).f2), .string ((rd_T55 l0 x10_1).f3), .int .i64 ((rd_T55 l0 x10_1).f4), .int .i64 0, .int .i64 0, .int .i64 0, .int .i64 0, .int .i64 0, .int .i64 0, .slice none 0 0, .int .i64 0]) ?_ 5 _ rfl; (with_reducible repeat (first | refine blk_drewN ?_ _ | refine blk_drew ?_ | refine blk_alloc ?_ _)); refine blk_put (cs := #[.int .i64 ((rd_T55 l0 x10_1).f0), .int .i64 ((rd_T55 l0 x10_1).f1), .string ((rd_T55 l0 x10_1).f2), .string ((rd_T55 l0 x10_1).f3), .int .i64 0, .int .i64 0, .int .i64 0, .int .i64 0, .int .i64 0, .int .i64 0, .int .i64 0, .slice none 0 0, .int .i64 0]) ?_ 4 _ rfl; (with_reducible repeat (first | refine blk_drewN ?_ _ | refine blk_drew ?_ | refine blk_alloc ?_ _)); refine blk_put (cs := #[.int .i64 ((rd_T55 l0 x10_1).f0), .int .i64 ((rd_T55 l0 x10_1).f1), .string ((rd_T55 l0 x10_1).f2), .string (⟨#[]⟩ : ByteArray), .int .i64 0, .int .i64 0, .int .i64 0, .int .i64 0, .int .i64 0, .int .i64 0, .int .i64 0, .slice none 0 0, .int .i64 0]) ?_ 3 _ rfl; (with_reducible repeat (first | refine blk_drewN ?_ _ | refine blk_drew ?_ | refine blk_alloc ?_ _)); refine blk_put (cs := #[.int .i64 ((rd_T55 l0 x10_1).f0), .int .i64 ((rd_T55 l0 x10_1).f1), .string (⟨#[]⟩ : ByteArray), .string (⟨#[]⟩ : ByteArray), .int .i64 0, .int .i64 0, .int .i64 0, .int .i64 0, .int .i64 0, .int .i64 0, .int .i64 0, .slice none 0 0, .int .i64 0]) ?_ 2 _ rfl; (with_reducible repeat (first | refine blk_drewN ?_ _ | refine blk_drew ?_ | refine blk_alloc ?_ _)); refine blk_put (cs := #[.int .i64 ((rd_T55 l0 x10_1).f0), .int .i64 0, .string (⟨#[]⟩ : ByteArray), .string (⟨#[]⟩ : ByteArray), .int .i64 0, .int .i64 0, .int .i64 0, .int .i64 0, .int .i64 0, .int .i64 0, .int .i64 0, .slice none 0 0, .int .i64 0]) ?_ 1 _ rfl; (with_reducible repeat (first | refine blk_drewN ?_ _ | refine blk_drew ?_ | refine blk_alloc ?_ _)); refine blk_put (cs := #[.int .i64 0, .int .i64 0, .string (⟨#[]⟩ : ByteArray), .string (⟨#[]⟩ : ByteArray), .int .i64 0, .int .i64 0, .int .i64 0, .int .i64 0, .int .i64 0, .int .i64 0, .int .i64 0, .slice none 0 0, .int .i64 0]) ?_ 0 _ rfl; (with_reducible repeat (first | refine blk_drewN ?_ _ | refine blk_drew ?_ | refine blk_alloc ?_ _)); exact BK127.out⟩, ⟨by repeat (first | (with_reducible first | exact HB.out | apply below_alloc | apply pw_below_drewN | apply below_drew1 | refine below_set ?_ GE127.out) | exact HB.out)⟩⟩
              · rw [if_neg c9] at H
                have c9b0 : decide (64 < (wrap64 (x5_1 + 1))) = false := decide_eq_false c9
                clear c9
                (first | rw [c9b0] | (simp only [i64_w, i32_w]; rw [c9b0]) | skip)
                by_cases c10 : ((rd_T55 l0 x10_1).f0) = 7
                · rw [if_pos c10] at H
                  have c10b0 : (((rd_T55 l0 x10_1).f0) == 7) = true := beq_iff_eq.mpr c10
                  have c10b1 : (((rd_T55 l0 x10_1).f0) != 7) = false := bne_eq_false_iff_eq.mpr c10
                  clear c10
                  by_cases c11 : a1 = 4
                  · rw [if_pos c11] at H
                    have c11b0 : (a1 == 4) = true := beq_iff_eq.mpr c11
                    have c11b1 : (a1 != 4) = false := bne_eq_false_iff_eq.mpr c11
                    clear c11
                    have H' := Aside0.mk H
                    clear H
                    have hcz12_0 : w7.cell? ⟨gb127, 0, none⟩ = some (.int .i64 0) := (blk_cell BK127.out 0).trans rfl
                    have hcz12_1 : w7.cell? ⟨gb127, 1, none⟩ = some (.int .i64 0) := (blk_cell BK127.out 1).trans rfl
                    have hcz12_2 : w7.cell? ⟨gb127, 2, none⟩ = some (.string (⟨#[]⟩ : ByteArray)) := (blk_cell BK127.out 2).trans rfl
                    have hcz12_3 : w7.cell? ⟨gb127, 3, none⟩ = some (.string (⟨#[]⟩ : ByteArray)) := (blk_cell BK127.out 3).trans rfl
                    have hcz12_4 : w7.cell? ⟨gb127, 4, none⟩ = some (.int .i64 0) := (blk_cell BK127.out 4).trans rfl
                    have hcz12_5 : w7.cell? ⟨gb127, 5, none⟩ = some (.int .i64 0) := (blk_cell BK127.out 5).trans rfl
                    have hcz12_6 : w7.cell? ⟨gb127, 6, none⟩ = some (.int .i64 0) := (blk_cell BK127.out 6).trans rfl
                    have hcz12_7 : w7.cell? ⟨gb127, 7, none⟩ = some (.int .i64 0) := (blk_cell BK127.out 7).trans rfl
                    have hcz12_8 : w7.cell? ⟨gb127, 8, none⟩ = some (.int .i64 0) := (blk_cell BK127.out 8).trans rfl
                    have hcz12_9 : w7.cell? ⟨gb127, 9, none⟩ = some (.int .i64 0) := (blk_cell BK127.out 9).trans rfl
                    have hcz12_10 : w7.cell? ⟨gb127, 10, none⟩ = some (.int .i64 0) := (blk_cell BK127.out 10).trans rfl
                    have hcz12_11 : w7.cell? ⟨gb127, 11, none⟩ = some (.slice none 0 0) := (blk_cell BK127.out 11).trans rfl
                    have hcz12_12 : w7.cell? ⟨gb127, 12, none⟩ = some (.int .i64 0) := (blk_cell BK127.out 12).trans rfl
                    have hfz12_0 := blk_frozen BK127.out 0
                    have hfz12_1 := blk_frozen BK127.out 1
                    have hfz12_2 := blk_frozen BK127.out 2
                    have hfz12_3 := blk_frozen BK127.out 3
                    have hfz12_4 := blk_frozen BK127.out 4
                    have hfz12_5 := blk_frozen BK127.out 5
                    have hfz12_6 := blk_frozen BK127.out 6
                    have hfz12_7 := blk_frozen BK127.out 7
                    have hfz12_8 := blk_frozen BK127.out 8
                    have hfz12_9 := blk_frozen BK127.out 9
                    have hfz12_10 := blk_frozen BK127.out 10
                    have hfz12_11 := blk_frozen BK127.out 11
                    have hfz12_12 := blk_frozen BK127.out 12
                    go_wp2
                    go_meet
                    case rel => exact ⟨_, (true), (by first | rfl | (simp; done) | (simp [*]; done)), H', ⟨by have := HK1.out; first | omega | exact Nat.le_refl _⟩, ⟨by (with_reducible repeat (first | refine blk_drewN ?_ _ | refine blk_drew ?_ | refine blk_alloc ?_ _)); refine blk_put (cs := #[.int .i64 ((rd_T55 l0 x10_1).f0), .int .i64 ((rd_T55 l0 x10_1).f1), .string ((rd_T55 l0 x10_1).f2), .string ((rd_T55 l0 x10_1).f3), .int .i64 ((rd_T55 l0 x10_1).f4), .int .i64 ((rd_T55 l0 x10_1).f5.f0.f0), .int .i64 ((rd_T55 l0 x10_1).f5.f0.f1), .int .i64 ((rd_T55 l0 x10_1).f5.f0.f2), .int .i64 ((rd_T55 l0 x10_1).f5.f1.f0), .int .i64 ((rd_T55 l0 x10_1).f5.f1.f1), .int .i64 ((rd_T55 l0 x10_1).f5.f1.f2), .slice A126_11 ((rd_T55 l0 x10_1).f6).length c126_11, .int .i64 0]) ?_ 12 _ rfl; (with_reducible repeat (first | refine blk_drewN ?_ _ | refine blk_drew ?_ | refine blk_alloc ?_ _)); refine blk_put (cs := #[.int .i64 ((rd_T55 l0 x10_1).f0), .int .i64 ((rd_T55 l0 x10_1).f1), .string ((rd_T55 l0 x10_1).f2), .string ((rd_T55 l0 x10_1).f3), .int .i64 ((rd_T55 l0 x10_1).f4), .int .i64 ((rd_T55 l0 x10_1).f5.f0.f0), .int .i64 ((rd_T55 l0 x10_1).f5.f0.f1), .int .i64 ((rd_T55 l0 x10_1).f5.f0.f2), .int .i64 ((rd_T55 l0 x10_1).f5.f1.f0), .int .i64 ((rd_T55 l0 x10_1).f5.f1.f1), .int .i64 ((rd_T55 l0 x10_1).f5.f1.f2), .slice none 0 0, .int .i64 0]) ?_ 11 _ rfl; (with_reducible repeat (first | refine blk_drewN ?_ _ | refine blk_drew ?_ | refine blk_alloc ?_ _)); refine blk_put (cs := #[.int .i64 ((rd_T55 l0 x10_1).f0), .int .i64 ((rd_T55 l0 x10_1).f1), .string ((rd_T55 l0 x10_1).f2), .string ((rd_T55 l0 x10_1).f3), .int .i64 ((rd_T55 l0 x10_1).f4), .int .i64 ((rd_T55 l0 x10_1).f5.f0.f0), .int .i64 ((rd_T55 l0 x10_1).f5.f0.f1), .int .i64 ((rd_T55 l0 x10_1).f5.f0.f2), .int .i64 ((rd_T55 l0 x10_1).f5.f1.f0), .int .i64 ((rd_T55 l0 x10_1).f5.f1.f1), .int .i64 0, .slice none 0 0, .int .i64 0]) ?_ 10 _ rfl; (with_reducible repeat (first | refine blk_drewN ?_ _ | refine blk_drew ?_ | refine blk_alloc ?_ _)); refine blk_put (cs := #[.int .i64 ((rd_T55 l0 x10_1).f0), .int .i64 ((rd_T55 l0 x10_1).f1), .string ((rd_T55 l0 x10_1).f2), .string ((rd_T55 l0 x10_1).f3), .int .i64 ((rd_T55 l0 x10_1).f4), .int .i64 ((rd_T55 l0 x10_1).f5.f0.f0), .int .i64 ((rd_T55 l0 x10_1).f5.f0.f1), .int .i64 ((rd_T55 l0 x10_1).f5.f0.f2), .int .i64 ((rd_T55 l0 x10_1).f5.f1.f0), .int .i64 0, .int .i64 0, .slice none 0 0, .int .i64 0]) ?_ 9 _ rfl; (with_reducible repeat (first | refine blk_drewN ?_ _ | refine blk_drew ?_ | refine blk_alloc ?_ _)); refine blk_put (cs := #[.int .i64 ((rd_T55 l0 x10_1).f0), .int .i64 ((rd_T55 l0 x10_1).f1), .string ((rd_T55 l0 x10_1).f2), .string ((rd_T55 l0 x10_1).f3), .int .i64 ((rd_T55 l0 x10_1).f4), .int .i64 ((rd_T55 l0 x10_1).f5.f0.f0), .int .i64 ((rd_T55 l0 x10_1).f5.f0.f1), .int .i64 ((rd_T55 l0 x10_1).f5.f0.f2), .int .i64 0, .int .i64 0, .int .i64 0, .slice none 0 0, .int .i64 0]) ?_ 8 _ rfl; (with_reducible repeat (first | refine blk_drewN ?_ _ | refine blk_drew ?_ | refine blk_alloc ?_ _)); refine blk_put (cs := #[.int .i64 ((rd_T55 l0 x10_1).f0), .int .i64 ((rd_T55 l0 x10_1).f1), .string ((rd_T55 l0 x10_1).f2), .string ((rd_T55 l0 x10_1).f3), .int .i64 ((rd_T55 l0 x10_1).f4), .int .i64 ((rd_T55 l0 x10_1).f5.f0.f0), .int .i64 ((rd_T55 l0 x10_1).f5.f0.f1), .int .i64 0, .int .i64 0, .int .i64 0, .int .i64 0, .slice none 0 0, .int .i64 0]) ?_ 7 _ rfl; (with_reducible repeat (first | refine blk_drewN ?_ _ | refine blk_drew ?_ | refine blk_alloc ?_ _)); refine blk_put (cs := #[.int .i64 ((rd_T55 l0 x10_1).f0), .int .i64 ((rd_T55 l0 x10_1).f1), .string ((rd_T55 l0 x10_1).f2), .string ((rd_T55 l0 x10_1).f3), .int .i64 ((rd_T55 l0 x10_1).f4), .int .i64 ((rd_T55 l0 x10_1).f5.f0.f0), .int .i64 0, .int .i64 0, .int .i64 0, .int .i64 0, .int .i64 0, .slice none 0 0, .int .i64 0]) ?_ 6 _ rfl; (with_reducible repeat (first | refine blk_drewN ?_ _ | refine blk_drew ?_ | refine blk_alloc ?_ _)); refine blk_put (cs := #[.int .i64 ((rd_T55 l0 x10_1).f0), .int .i64 ((rd_T55 l0 x10_1).f1), .string ((rd_T55 l0 x10_1).f2), .string ((rd_T55 l0 x10_1).f3), .int .i64 ((rd_T55 l0 x10_1).f4), .int .i64 0, .int .i64 0, .int .i64 0, .int .i64 0, .int .i64 0, .int .i64 0, .slice none 0 0, .int .i64 0]) ?_ 5 _ rfl; (with_reducible repeat (first | refine blk_drewN ?_ _ | refine blk_drew ?_ | refine blk_alloc ?_ _)); refine blk_put (cs := #[.int .i64 ((rd_T55 l0 x10_1).f0), .int .i64 ((rd_T55 l0 x10_1).f1), .string ((rd_T55 l0 x10_1).f2), .string ((rd_T55 l0 x10_1).f3), .int .i64 0, .int .i64 0, .int .i64 0, .int .i64 0, .int .i64 0, .int .i64 0, .int .i64 0, .slice none 0 0, .int .i64 0]) ?_ 4 _ rfl; (with_reducible repeat (first | refine blk_drewN ?_ _ | refine blk_drew ?_ | refine blk_alloc ?_ _)); refine blk_put (cs := #[.int .i64 ((rd_T55 l0 x10_1).f0), .int .i64 ((rd_T55 l0 x10_1).f1), .string ((rd_T55 l0 x10_1).f2), .string (⟨#[]⟩ : ByteArray), .int .i64 0, .int .i64 0, .int .i64 0, .int .i64 0, .int .i64 0, .int .i64 0, .int .i64 0, .slice none 0 0, .int .i64 0]) ?_ 3 _ rfl; (with_reducible repeat (first | refine blk_drewN ?_ _ | refine blk_drew ?_ | refine blk_alloc ?_ _)); refine blk_put (cs := #[.int .i64 ((rd_T55 l0 x10_1).f0), .int .i64 ((rd_T55 l0 x10_1).f1), .string (⟨#[]⟩ : ByteArray), .string (⟨#[]⟩ : ByteArray), .int .i64 0, .int .i64 0, .int .i64 0, .int .i64 0, .int .i64 0, .int .i64 0, .int .i64 0, .slice none 0 0, .int .i64 0]) ?_ 2 _ rfl; (with_reducible repeat (first | refine blk_drewN ?_ _ | refine blk_drew ?_ | refine blk_alloc ?_ _)); refine blk_put (cs := #[.int .i64 ((rd_T55 l0 x10_1).f0), .int .i64 0, .string (⟨#[]⟩ : ByteArray), .string (⟨#[]⟩ : ByteArray), .int .i64 0, .int .i64 0, .int .i64 0, .int .i64 0, .int .i64 0, .int .i64 0, .int .i64 0, .slice none 0 0, .int .i64 0]) ?_ 1 _ rfl; (with_reducible repeat (first | refine blk_drewN ?_ _ | refine blk_drew ?_ | refine blk_alloc ?_ _)); refine blk_put (cs := #[.int .i64 0, .int .i64 0, .string (⟨#[]⟩ : ByteArray), .string (⟨#[]⟩ : ByteArray), .int .i64 0, .int .i64 0, .int .i64 0, .int .i64 0, .int .i64 0, .int .i64 0, .int .i64 0, .slice none 0 0, .int .i64 0]) ?_ 0 _ rfl; (with_reducible repeat (first | refine blk_drewN ?_ _ | refine blk_drew ?_ | refine blk_alloc ?_ _)); exact BK127.out⟩, ⟨by repeat (first | (with_reducible first | exact HB.out | apply below_alloc | apply pw_below_drewN | apply below_drew1 | refine below_set ?_ GE127.out) | exact HB.out)⟩⟩
                  · rw [if_neg c11] at H
                    have c11b0 : (a1 == 4) = false := beq_eq_false_iff_ne.mpr c11
                    have c11b1 : (a1 != 4) = true := bne_iff_ne.mpr c11
                    replace H := Option.bind_eq_some_iff.mp H
                    obtain ⟨t128, A130, H⟩ := H
                    replace H : (parser_count.j1 k1 a1 (wrap64 (x5_1 + 1)) l0 (l0.length : Int) x10_1 (!t128) ((rd_T55 l0 x10_1).f0) ((rd_T55 l0 x10_1).f1) ((rd_T55 l0 x10_1).f2) ((rd_T55 l0 x10_1).f3) ((rd_T55 l0 x10_1).f4) ((rd_T55 l0 x10_1).f5.f0.f0) ((rd_T55 l0 x10_1).f5.f0.f1) ((rd_T55 l0 x10_1).f5.f0.f2) ((rd_T55 l0 x10_1).f5.f1.f0) ((rd_T55 l0 x10_1).f5.f1.f1) ((rd_T55 l0 x10_1).f5.f1.f2) ((rd_T55 l0 x10_1).f6) ((rd_T55 l0 x10_1).f7)) = some r := H
                    have A13 := Aside0.mk A130
                    clear A130
                    have H' := Aside0.mk H
                    clear H
                    have hcz14_0 : w7.cell? ⟨gb127, 0, none⟩ = some (.int .i64 0) := (blk_cell BK127.out 0).trans rfl
                    have hcz14_1 : w7.cell? ⟨gb127, 1, none⟩ = some (.int .i64 0) := (blk_cell BK127.out 1).trans rfl
                    have hcz14_2 : w7.cell? ⟨gb127, 2, none⟩ = some (.string (⟨#[]⟩ : ByteArray)) := (blk_cell BK127.out 2).trans rfl
                    have hcz14_3 : w7.cell? ⟨gb127, 3, none⟩ = some (.string (⟨#[]⟩ : ByteArray)) := (blk_cell BK127.out 3).trans rfl
                    have hcz14_4 : w7.cell? ⟨gb127, 4, none⟩ = some (.int .i64 0) := (blk_cell BK127.out 4).trans rfl
                    have hcz14_5 : w7.cell? ⟨gb127, 5, none⟩ = some (.int .i64 0) := (blk_cell BK127.out 5).trans rfl
                    have hcz14_6 : w7.cell? ⟨gb127, 6, none⟩ = some (.int .i64 0) := (blk_cell BK127.out 6).trans rfl
                    have hcz14_7 : w7.cell? ⟨gb127, 7, none⟩ = some (.int .i64 0) := (blk_cell BK127.out 7).trans rfl
                    have hcz14_8 : w7.cell? ⟨gb127, 8, none⟩ = some (.int .i64 0) := (blk_cell BK127.out 8).trans rfl
                    have hcz14_9 : w7.cell? ⟨gb127, 9, none⟩ = some (.int .i64 0) := (blk_cell BK127.out 9).trans rfl
                    have hcz14_10 : w7.cell? ⟨gb127, 10, none⟩ = some (.int .i64 0) := (blk_cell BK127.out 10).trans rfl
                    have hcz14_11 : w7.cell? ⟨gb127, 11, none⟩ = some (.slice none 0 0) := (blk_cell BK127.out 11).trans rfl
                    have hcz14_12 : w7.cell? ⟨gb127, 12, none⟩ = some (.int .i64 0) := (blk_cell BK127.out 12).trans rfl
                    have hfz14_0 := blk_frozen BK127.out 0
                    have hfz14_1 := blk_frozen BK127.out 1
                    have hfz14_2 := blk_frozen BK127.out 2
                    have hfz14_3 := blk_frozen BK127.out 3
                    have hfz14_4 := blk_frozen BK127.out 4
                    have hfz14_5 := blk_frozen BK127.out 5
                    have hfz14_6 := blk_frozen BK127.out 6
                    have hfz14_7 := blk_frozen BK127.out 7
                    have hfz14_8 := blk_frozen BK127.out 8
                    have hfz14_9 := blk_frozen BK127.out 9
                    have hfz14_10 := blk_frozen BK127.out 10
                    have hfz14_11 := blk_frozen BK127.out 11
                    have hfz14_12 := blk_frozen BK127.out 12
                    go_wp2_with (first | (go_at_call 30; (with_reducible refine (parser_plain.calls k1 ((rd_T55 l0 x10_1).f0) ((rd_T55 l0 x10_1).f1) ((rd_T55 l0 x10_1).f2) ((rd_T55 l0 x10_1).f3) ((rd_T55 l0 x10_1).f4) ((rd_T55 l0 x10_1).f5.f0.f0) ((rd_T55 l0 x10_1).f5.f0.f1) ((rd_T55 l0 x10_1).f5.f0.f2) ((rd_T55 l0 x10_1).f5.f1.f0) ((rd_T55 l0 x10_1).f5.f1.f1) ((rd_T55 l0 x10_1).f5.f1.f2) _ _ ((rd_T55 l0 x10_1).f6) ((rd_T55 l0 x10_1).f7) t128 _ ?side1 ?side2 A13.out (HGL.out.below (by repeat (first | (with_reducible first | exact HB.out | apply below_alloc | apply pw_below_drewN | apply below_drew1 | refine below_set ?_ GE127.out) | exact HB.out)))).mono ?_); (case side1 => exact Kd.C_below HR126_11.out (by repeat (first | (with_reducible first | exact HB.out | apply below_alloc | apply pw_below_drewN | apply below_drew1 | refine below_set ?_ GE127.out) | exact HB.out))); (case side2 => exact HC126_11.out); rintro e w15 ⟨rfl, hb⟩; have n0_ := Aside0.mk (blk_below (g := gb127) (o := .cells #[.int .i64 ((rd_T55 l0 x10_1).f0), .int .i64 ((rd_T55 l0 x10_1).f1), .string ((rd_T55 l0 x10_1).f2), .string ((rd_T55 l0 x10_1).f3), .int .i64 ((rd_T55 l0 x10_1).f4), .int .i64 ((rd_T55 l0 x10_1).f5.f0.f0), .int .i64 ((rd_T55 l0 x10_1).f5.f0.f1), .int .i64 ((rd_T55 l0 x10_1).f5.f0.f2), .int .i64 ((rd_T55 l0 x10_1).f5.f1.f0), .int .i64 ((rd_T55 l0 x10_1).f5.f1.f1), .int .i64 ((rd_T55 l0 x10_1).f5.f1.f2), .slice A126_11 ((rd_T55 l0 x10_1).f6).length c126_11, .int .i64 ((rd_T55 l0 x10_1).f7)] 55 (0, 0)) (by (with_reducible repeat (first | refine blk_drewN ?_ _ | refine blk_drew ?_ | refine blk_alloc ?_ _)); refine blk_put (cs := #[.int .i64 ((rd_T55 l0 x10_1).f0), .int .i64 ((rd_T55 l0 x10_1).f1), .string ((rd_T55 l0 x10_1).f2), .string ((rd_T55 l0 x10_1).f3), .int .i64 ((rd_T55 l0 x10_1).f4), .int .i64 ((rd_T55 l0 x10_1).f5.f0.f0), .int .i64 ((rd_T55 l0 x10_1).f5.f0.f1), .int .i64 ((rd_T55 l0 x10_1).f5.f0.f2), .int .i64 ((rd_T55 l0 x10_1).f5.f1.f0), .int .i64 ((rd_T55 l0 x10_1).f5.f1.f1), .int .i64 ((rd_T55 l0 x10_1).f5.f1.f2), .slice A126_11 ((rd_T55 l0 x10_1).f6).length c126_11, .int .i64 0]) ?_ 12 _ rfl; (with_reducible repeat (first | refine blk_drewN ?_ _ | refine blk_drew ?_ | refine blk_alloc ?_ _)); refine blk_put (cs := #[.int .i64 ((rd_T55 l0 x10_1).f0), .int .i64 ((rd_T55 l0 x10_1).f1), .string ((rd_T55 l0 x10_1).f2), .string ((rd_T55 l0 x10_1).f3), .int .i64 ((rd_T55 l0 x10_1).f4), .int .i64 ((rd_T55 l0 x10_1).f5.f0.f0), .int .i64 ((rd_T55 l0 x10_1).f5.f0.f1), .int .i64 ((rd_T55 l0 x10_1).f5.f0.f2), .int .i64 ((rd_T55 l0 x10_1).f5.f1.f0), .int .i64 ((rd_T55 l0 x10_1).f5.f1.f1), .int .i64 ((rd_T55 l0 x10_1).f5.f1.f2), .slice none 0 0, .int .i64 0]) ?_ 11 _ rfl; (with_reducible repeat (first | refine blk_drewN ?_ _ | refine blk_drew ?_ | refine blk_alloc ?_ _)); refine blk_put (cs := #[.int .i64 ((rd_T55 l0 x10_1).f0), .int .i64 ((rd_T55 l0 x10_1).f1), .string ((rd_T55 l0 x10_1).f2), .string ((rd_T55 l0 x10_1).f3), .int .i64 ((rd_T55 l0 x10_1).f4), .int .i64 ((rd_T55 l0 x10_1).f5.f0.f0), .int .i64 ((rd_T55 l0 x10_1).f5.f0.f1), .int .i64 ((rd_T55 l0 x10_1).f5.f0.f2), .int .i64 ((rd_T55 l0 x10_1).f5.f1.f0), .int .i64 ((rd_T55 l0 x10_1).f5.f1.f1), .int .i64 0, .slice none 0 0, .int .i64 0]) ?_ 10 _ rfl; (with_reducible repeat (first | refine blk_drewN ?_ _ | refine blk_drew ?_ | refine blk_alloc ?_ _)); refine blk_put (cs := #[.int .i64 ((rd_T55 l0 x10_1).f0), .int .i64 ((rd_T55 l0 x10_1).f1), .string ((rd_T55 l0 x10_1).f2), .string ((rd_T55 l0 x10_1).f3), .int .i64 ((rd_T55 l0 x10_1).f4), .int .i64 ((rd_T55 l0 x10_1).f5.f0.f0), .int .i64 ((rd_T55 l0 x10_1).f5.f0.f1), .int .i64 ((rd_T55 l0 x10_1).f5.f0.f2), .int .i64 ((rd_T55 l0 x10_1).f5.f1.f0), .int .i64 0, .int .i64 0, .slice none 0 0, .int .i64 0]) ?_ 9 _ rfl; (with_reducible repeat (first | refine blk_drewN ?_ _ | refine blk_drew ?_ | refine blk_alloc ?_ _)); refine blk_put (cs := #[.int .i64 ((rd_T55 l0 x10_1).f0), .int .i64 ((rd_T55 l0 x10_1).f1), .string ((rd_T55 l0 x10_1).f2), .string ((rd_T55 l0 x10_1).f3), .int .i64 ((rd_T55 l0 x10_1).f4), .int .i64 ((rd_T55 l0 x10_1).f5.f0.f0), .int .i64 ((rd_T55 l0 x10_1).f5.f0.f1), .int .i64 ((rd_T55 l0 x10_1).f5.f0.f2), .int .i64 0, .int .i64 0, .int .i64 0, .slice none 0 0, .int .i64 0]) ?_ 8 _ rfl; (with_reducible repeat (first | refine blk_drewN ?_ _ | refine blk_drew ?_ | refine blk_alloc ?_ _)); refine blk_put (cs := #[.int .i64 ((rd_T55 l0 x10_1).f0), .int .i64 ((rd_T55 l0 x10_1).f1), .string ((rd_T55 l0 x10_1).f2), .string ((rd_T55 l0 x10_1).f3), .int .i64 ((rd_T55 l0 x10_1).f4), .int .i64 ((rd_T55 l0 x10_1).f5.f0.f0), .int .i64 ((rd_T55 l0 x10_1).f5.f0.f1), .int .i64 0, .int .i64 0, .int .i64 0, .int .i64 0, .slice none 0 0, .int .i64 0]) ?_ 7 _ rfl; (with_reducible repeat (first | refine blk_drewN ?_ _ | refine blk_drew ?_ | refine blk_alloc ?_ _)); refine blk_put (cs := #[.int .i64 ((rd_T55 l0 x10_1).f0), .int .i64 ((rd_T55 l0 x10_1).f1), .string ((rd_T55 l0 x10_1).f2), .string ((rd_T55 l0 x10_1).f3), .int .i64 ((rd_T55 l0 x10_1).f4), .int .i64 ((rd_T55 l0 x10_1).f5.f0.f0), .int .i64 0, .int .i64 0, .int .i64 0, .int .i64 0, .int .i64 0, .slice none 0 0, .int .i64 0]) ?_ 6 _ rfl; (with_reducible repeat (first | refine blk_drewN ?_ _ | refine blk_drew ?_ | refine blk_alloc ?_ _)); refine blk_put (cs := #[.int .i64 ((rd_T55 l0 x10_1).f0), .int .i64 ((rd_T55 l0 x10_1).f1), .string ((rd_T55 l0 x10_1).f2), .string ((rd_T55 l0 x10_1).f3), .int .i64 ((rd_T55 l0 x10_1).f4), .int .i64 0, .int .i64 0, .int .i64 0, .int .i64 0, .int .i64 0, .int .i64 0, .slice none 0 0, .int .i64 0]) ?_ 5 _ rfl; (with_reducible repeat (first | refine blk_drewN ?_ _ | refine blk_drew ?_ | refine blk_alloc ?_ _)); refine blk_put (cs := #[.int .i64 ((rd_T55 l0 x10_1).f0), .int .i64 ((rd_T55 l0 x10_1).f1), .string ((rd_T55 l0 x10_1).f2), .string ((rd_T55 l0 x10_1).f3), .int .i64 0, .int .i64 0, .int .i64 0, .int .i64 0, .int .i64 0, .int .i64 0, .int .i64 0, .slice none 0 0, .int .i64 0]) ?_ 4 _ rfl; (with_reducible repeat (first | refine blk_drewN ?_ _ | refine blk_drew ?_ | refine blk_alloc ?_ _)); refine blk_put (cs := #[.int .i64 ((rd_T55 l0 x10_1).f0), .int .i64 ((rd_T55 l0 x10_1).f1), .string ((rd_T55 l0 x10_1).f2), .string (⟨#[]⟩ : ByteArray), .int .i64 0, .int .i64 0, .int .i64 0, .int .i64 0, .int .i64 0, .int .i64 0, .int .i64 0, .slice none 0 0, .int .i64 0]) ?_ 3 _ rfl; (with_reducible repeat (first | refine blk_drewN ?_ _ | refine blk_drew ?_ | refine blk_alloc ?_ _)); refine blk_put (cs := #[.int .i64 ((rd_T55 l0 x10_1).f0), .int .i64 ((rd_T55 l0 x10_1).f1), .string (⟨#[]⟩ : ByteArray), .string (⟨#[]⟩ : ByteArray), .int .i64 0, .int .i64 0, .int .i64 0, .int .i64 0, .int .i64 0, .int .i64 0, .int .i64 0, .slice none 0 0, .int .i64 0]) ?_ 2 _ rfl; (with_reducible repeat (first | refine blk_drewN ?_ _ | refine blk_drew ?_ | refine blk_alloc ?_ _)); refine blk_put (cs := #[.int .i64 ((rd_T55 l0 x10_1).f0), .int .i64 0, .string (⟨#[]⟩ : ByteArray), .string (⟨#[]⟩ : ByteArray), .int .i64 0, .int .i64 0, .int .i64 0, .int .i64 0, .int .i64 0, .int .i64 0, .int .i64 0, .slice none 0 0, .int .i64 0]) ?_ 1 _ rfl; (with_reducible repeat (first | refine blk_drewN ?_ _ | refine blk_drew ?_ | refine blk_alloc ?_ _)); refine blk_put (cs := #[.int .i64 0, .int .i64 0, .string (⟨#[]⟩ : ByteArray), .string (⟨#[]⟩ : ByteArray), .int .i64 0, .int .i64 0, .int .i64 0, .int .i64 0, .int .i64 0, .int .i64 0, .int .i64 0, .slice none 0 0, .int .i64 0]) ?_ 0 _ rfl; (with_reducible repeat (first | refine blk_drewN ?_ _ | refine blk_drew ?_ | refine blk_alloc ?_ _)); exact BK127.out) hb); have n1_ := Aside0.mk (below_step (by repeat (first | (with_reducible first | exact HB.out | apply below_alloc | apply pw_below_drewN | apply below_drew1 | refine below_set ?_ GE127.out) | exact HB.out)) hb); clear BK127; clear HB; have BK127 := n0_; have HB := n1_; clear n0_ n1_; (try clear hb); (try clear hb2); (try clear hk); (try clear hi)))
                    go_meet
                    case rel => exact ⟨_, (!t128), (by first | rfl | (simp; done) | (simp [*]; done)), H', ⟨by have := HK1.out; first | omega | exact Nat.le_refl _⟩, ⟨by (with_reducible repeat (first | refine blk_drewN ?_ _ | refine blk_drew ?_ | refine blk_alloc ?_ _)); exact BK127.out⟩, ⟨by repeat (first | (with_reducible first | exact HB.out | apply below_alloc | apply pw_below_drewN | apply below_drew1 | refine below_set ?_ GE127.out) | exact HB.out)⟩⟩
                · rw [if_neg c10] at H
                  have c10b0 : (((rd_T55 l0 x10_1).f0) == 7) = false := beq_eq_false_iff_ne.mpr c10
                  have c10b1 : (((rd_T55 l0 x10_1).f0) != 7) = true := bne_iff_ne.mpr c10
                  replace H := Option.bind_eq_some_iff.mp H
                  obtain ⟨t129, A160, H⟩ := H
                  replace H : (parser_count.j1 k1 a1 (wrap64 (x5_1 + 1)) l0 (l0.length : Int) x10_1 (!t129) ((rd_T55 l0 x10_1).f0) ((rd_T55 l0 x10_1).f1) ((rd_T55 l0 x10_1).f2) ((rd_T55 l0 x10_1).f3) ((rd_T55 l0 x10_1).f4) ((rd_T55 l0 x10_1).f5.f0.f0) ((rd_T55 l0 x10_1).f5.f0.f1) ((rd_T55 l0 x10_1).f5.f0.f2) ((rd_T55 l0 x10_1).f5.f1.f0) ((rd_T55 l0 x10_1).f5.f1.f1) ((rd_T55 l0 x10_1).f5.f1.f2) ((rd_T55 l0 x10_1).f6) ((rd_T55 l0 x10_1).f7)) = some r := H
                  have A16 := Aside0.mk A160
                  clear A160
                  have H' := Aside0.mk H
                  clear H
                  have hcz17_0 : w7.cell? ⟨gb127, 0, none⟩ = some (.int .i64 0) := (blk_cell BK127.out 0).trans rfl
                  have hcz17_1 : w7.cell? ⟨gb127, 1, none⟩ = some (.int .i64 0) := (blk_cell BK127.out 1).trans rfl
                  have hcz17_2 : w7.cell? ⟨gb127, 2, none⟩ = some (.string (⟨#[]⟩ : ByteArray)) := (blk_cell BK127.out 2).trans rfl
                  have hcz17_3 : w7.cell? ⟨gb127, 3, none⟩ = some (.string (⟨#[]⟩ : ByteArray)) := (blk_cell BK127.out 3).trans rfl
                  have hcz17_4 : w7.cell? ⟨gb127, 4, none⟩ = some (.int .i64 0) := (blk_cell BK127.out 4).trans rfl
                  have hcz17_5 : w7.cell? ⟨gb127, 5, none⟩ = some (.int .i64 0) := (blk_cell BK127.out 5).trans rfl
                  have hcz17_6 : w7.cell? ⟨gb127, 6, none⟩ = some (.int .i64 0) := (blk_cell BK127.out 6).trans rfl
                  have hcz17_7 : w7.cell? ⟨gb127, 7, none⟩ = some (.int .i64 0) := (blk_cell BK127.out 7).trans rfl
                  have hcz17_8 : w7.cell? ⟨gb127, 8, none⟩ = some (.int .i64 0) := (blk_cell BK127.out 8).trans rfl
                  have hcz17_9 : w7.cell? ⟨gb127, 9, none⟩ = some (.int .i64 0) := (blk_cell BK127.out 9).trans rfl
                  have hcz17_10 : w7.cell? ⟨gb127, 10, none⟩ = some (.int .i64 0) := (blk_cell BK127.out 10).trans rfl
                  have hcz17_11 : w7.cell? ⟨gb127, 11, none⟩ = some (.slice none 0 0) := (blk_cell BK127.out 11).trans rfl
                  have hcz17_12 : w7.cell? ⟨gb127, 12, none⟩ = some (.int .i64 0) := (blk_cell BK127.out 12).trans rfl
                  have hfz17_0 := blk_frozen BK127.out 0
                  have hfz17_1 := blk_frozen BK127.out 1
                  have hfz17_2 := blk_frozen BK127.out 2
                  have hfz17_3 := blk_frozen BK127.out 3
                  have hfz17_4 := blk_frozen BK127.out 4
                  have hfz17_5 := blk_frozen BK127.out 5
                  have hfz17_6 := blk_frozen BK127.out 6
                  have hfz17_7 := blk_frozen BK127.out 7
                  have hfz17_8 := blk_frozen BK127.out 8
                  have hfz17_9 := blk_frozen BK127.out 9
                  have hfz17_10 := blk_frozen BK127.out 10
                  have hfz17_11 := blk_frozen BK127.out 11
                  have hfz17_12 := blk_frozen BK127.out 12
                  go_wp2_with (first | (go_at_call 30; (with_reducible refine (parser_plain.calls k1 ((rd_T55 l0 x10_1).f0) ((rd_T55 l0 x10_1).f1) ((rd_T55 l0 x10_1).f2) ((rd_T55 l0 x10_1).f3) ((rd_T55 l0 x10_1).f4) ((rd_T55 l0 x10_1).f5.f0.f0) ((rd_T55 l0 x10_1).f5.f0.f1) ((rd_T55 l0 x10_1).f5.f0.f2) ((rd_T55 l0 x10_1).f5.f1.f0) ((rd_T55 l0 x10_1).f5.f1.f1) ((rd_T55 l0 x10_1).f5.f1.f2) _ _ ((rd_T55 l0 x10_1).f6) ((rd_T55 l0 x10_1).f7) t129 _ ?side1 ?side2 A16.out (HGL.out.below (by repeat (first | (with_reducible first | exact HB.out | apply below_alloc | apply pw_below_drewN | apply below_drew1 | refine below_set ?_ GE127.out) | exact HB.out)))).mono ?_); (case side1 => exact Kd.C_below HR126_11.out (by repeat (first | (with_reducible first | exact HB.out | apply below_alloc | apply pw_below_drewN | apply below_drew1 | refine below_set ?_ GE127.out) | exact HB.out))); (case side2 => exact HC126_11.out); rintro e w18 ⟨rfl, hb⟩; have n0_ := Aside0.mk (blk_below (g := gb127) (o := .cells #[.int .i64 ((rd_T55 l0 x10_1).f0), .int .i64 ((rd_T55 l0 x10_1).f1), .string ((rd_T55 l0 x10_1).f2), .string ((rd_T55 l0 x10_1).f3), .int .i64 ((rd_T55 l0 x10_1).f4), .int .i64 ((rd_T55 l0 x10_1).f5.f0.f0), .int .i64 ((rd_T55 l0 x10_1).f5.f0.f1), .int .i64 ((rd_T55 l0 x10_1).f5.f0.f2), .int .i64 ((rd_T55 l0 x10_1).f5.f1.f0), .int .i64 ((rd_T55 l0 x10_1).f5.f1.f1), .int .i64 ((rd_T55 l0 x10_1).f5.f1.f2), .slice A126_11 ((rd_T55 l0 x10_1).f6).length c126_11, .int .i64 ((rd_T55 l0 x10_1).f7)] 55 (0, 0)) (by (with_reducible repeat (first | refine blk_drewN ?_ _ | refine blk_drew ?_ | refine blk_alloc ?_ _)); refine blk_put (cs := #[.int .i64 ((rd_T55 l0 x10_1).f0), .int .i64 ((rd_T55 l0 x10_1).f1), .string ((rd_T55 l0 x10_1).f2), .string ((rd_T55 l0 x10_1).f3), .int .i64 ((rd_T55 l0 x10_1).f4), .int .i64 ((rd_T55 l0 x10_1).f5.f0.f0), .int .i64 ((rd_T55 l0 x10_1).f5.f0.f1), .int .i64 ((rd_T55 l0 x10_1).f5.f0.f2), .int .i64 ((rd_T55 l0 x10_1).f5.f1.f0), .int .i64 ((rd_T55 l0 x10_1).f5.f1.f1), .int .i64 ((rd_T55 l0 x10_1).f5.f1.f2), .slice A126_11 ((rd_T55 l0 x10_1).f6).length c126_11, .int .i64 0]) ?_ 12 _ rfl; (with_reducible repeat (first | refine blk_drewN ?_ _ | refine blk_drew ?_ | refine blk_alloc ?_ _)); refine blk_put (cs := #[.int .i64 ((rd_T55 l0 x10_1).f0), .int .i64 ((rd_T55 l0 x10_1).f1), .string ((rd_T55 l0 x10_1).f2), .string ((rd_T55 l0 x10_1).f3), .int .i64 ((rd_T55 l0 x10_1).f4), .int .i64 ((rd_T55 l0 x10_1).f5.f0.f0), .int .i64 ((rd_T55 l0 x10_1).f5.f0.f1), .int .i64 ((rd_T55 l0 x10_1).f5.f0.f2), .int .i64 ((rd_T55 l0 x10_1).f5.f1.f0), .int .i64 ((rd_T55 l0 x10_1).f5.f1.f1), .int .i64 ((rd_T55 l0 x10_1).f5.f1.f2), .slice none 0 0, .int .i64 0]) ?_ 11 _ rfl; (with_reducible repeat (first | refine blk_drewN ?_ _ | refine blk_drew ?_ | refine blk_alloc ?_ _)); refine blk_put (cs := #[.int .i64 ((rd_T55 l0 x10_1).f0), .int .i64 ((rd_T55 l0 x10_1).f1), .string ((rd_T55 l0 x10_1).f2), .string ((rd_T55 l0 x10_1).f3), .int .i64 ((rd_T55 l0 x10_1).f4), .int .i64 ((rd_T55 l0 x10_1).f5.f0.f0), .int .i64 ((rd_T55 l0 x10_1).f5.f0.f1), .int .i64 ((rd_T55 l0 x10_1).f5.f0.f2), .int .i64 ((rd_T55 l0 x10_1).f5.f1.f0), .int .i64 ((rd_T55 l0 x10_1).f5.f1.f1), .int .i64 0, .slice none 0 0, .int .i64 0]) ?_ 10 _ rfl; (with_reducible repeat (first | refine blk_drewN ?_ _ | refine blk_drew ?_ | refine blk_alloc ?_ _)); refine blk_put (cs := #[.int .i64 ((rd_T55 l0 x10_1).f0), .int .i64 ((rd_T55 l0 x10_1).f1), .string ((rd_T55 l0 x10_1).f2), .string ((rd_T55 l0 x10_1).f3), .int .i64 ((rd_T55 l0 x10_1).f4), .int .i64 ((rd_T55 l0 x10_1).f5.f0.f0), .int .i64 ((rd_T55 l0 x10_1).f5.f0.f1), .int .i64 ((rd_T55 l0 x10_1).f5.f0.f2), .int .i64 ((rd_T55 l0 x10_1).f5.f1.f0), .int .i64 0, .int .i64 0, .slice none 0 0, .int .i64 0]) ?_ 9 _ rfl; (with_reducible repeat (first | refine blk_drewN ?_ _ | refine blk_drew ?_ | refine blk_alloc ?_ _)); refine blk_put (cs := #[.int .i64 ((rd_T55 l0 x10_1).f0), .int .i64 ((rd_T55 l0 x10_1).f1), .string ((rd_T55 l0 x10_1).f2), .string ((rd_T55 l0 x10_1).f3), .int .i64 ((rd_T55 l0 x10_1).f4), .int .i64 ((rd_T55 l0 x10_1).f5.f0.f0), .int .i64 ((rd_T55 l0 x10_1).f5.f0.f1), .int .i64 ((rd_T55 l0 x10_1).f5.f0.f2), .int .i64 0, .int .i64 0, .int .i64 0, .slice none 0 0, .int .i64 0]) ?_ 8 _ rfl; (with_reducible repeat (first | refine blk_drewN ?_ _ | refine blk_drew ?_ | refine blk_alloc ?_ _)); refine blk_put (cs := #[.int .i64 ((rd_T55 l0 x10_1).f0), .int .i64 ((rd_T55 l0 x10_1).f1), .string ((rd_T55 l0 x10_1).f2), .string ((rd_T55 l0 x10_1).f3), .int .i64 ((rd_T55 l0 x10_1).f4), .int .i64 ((rd_T55 l0 x10_1).f5.f0.f0), .int .i64 ((rd_T55 l0 x10_1).f5.f0.f1), .int .i64 0, .int .i64 0, .int .i64 0, .int .i64 0, .slice none 0 0, .int .i64 0]) ?_ 7 _ rfl; (with_reducible repeat (first | refine blk_drewN ?_ _ | refine blk_drew ?_ | refine blk_alloc ?_ _)); refine blk_put (cs := #[.int .i64 ((rd_T55 l0 x10_1).f0), .int .i64 ((rd_T55 l0 x10_1).f1), .string ((rd_T55 l0 x10_1).f2), .string ((rd_T55 l0 x10_1).f3), .int .i64 ((rd_T55 l0 x10_1).f4), .int .i64 ((rd_T55 l0 x10_1).f5.f0.f0), .int .i64 0, .int .i64 0, .int .i64 0, .int .i64 0, .int .i64 0, .slice none 0 0, .int .i64 0]) ?_ 6 _ rfl; (with_reducible repeat (first | refine blk_drewN ?_ _ | refine blk_drew ?_ | refine blk_alloc ?_ _)); refine blk_put (cs := #[.int .i64 ((rd_T55 l0 x10_1).f0), .int .i64 ((rd_T55 l0 x10_1).f1), .string ((rd_T55 l0 x10_1).f2), .string ((rd_T55 l0 x10_1).f3), .int .i64 ((rd_T55 l0 x10_1).f4), .int .i64 0, .int .i64 0, .int .i64 0, .int .i64 0, .int .i64 0, .int .i64 0, .slice none 0 0, .int .i64 0]) ?_ 5 _ rfl; (with_reducible repeat (first | refine blk_drewN ?_ _ | refine blk_drew ?_ | refine blk_alloc ?_ _)); refine blk_put (cs := #[.int .i64 ((rd_T55 l0 x10_1).f0), .int .i64 ((rd_T55 l0 x10_1).f1), .string ((rd_T55 l0 x10_1).f2), .string ((rd_T55 l0 x10_1).f3), .int .i64 0, .int .i64 0, .int .i64 0, .int .i64 0, .int .i64 0, .int .i64 0, .int .i64 0, .slice none 0 0, .int .i64 0]) ?_ 4 _ rfl; (with_reducible repeat (first | refine blk_drewN ?_ _ | refine blk_drew ?_ | refine blk_alloc ?_ _)); refine blk_put (cs := #[.int .i64 ((rd_T55 l0 x10_1).f0), .int .i64 ((rd_T55 l0 x10_1).f1), .string ((rd_T55 l0 x10_1).f2), .string (⟨#[]⟩ : ByteArray), .int .i64 0, .int .i64 0, .int .i64 0, .int .i64 0, .int .i64 0, .int .i64 0, .int .i64 0, .slice none 0 0, .int .i64 0]) ?_ 3 _ rfl; (with_reducible repeat (first | refine blk_drewN ?_ _ | refine blk_drew ?_ | refine blk_alloc ?_ _)); refine blk_put (cs := #[.int .i64 ((rd_T55 l0 x10_1).f0), .int .i64 ((rd_T55 l0 x10_1).f1), .string (⟨#[]⟩ : ByteArray), .string (⟨#[]⟩ : ByteArray), .int .i64 0, .int .i64 0, .int .i64 0, .int .i64 0, .int .i64 0, .int .i64 0, .int .i64 0, .slice none 0 0, .int .i64 0]) ?_ 2 _ rfl; (with_reducible repeat (first | refine blk_drewN ?_ _ | refine blk_drew ?_ | refine blk_alloc ?_ _)); refine blk_put (cs := #[.int .i64 ((rd_T55 l0 x10_1).f0), .int .i64 0, .string (⟨#[]⟩ : ByteArray), .string (⟨#[]⟩ : ByteArray), .int .i64 0, .int .i64 0, .int .i64 0, .int .i64 0, .int .i64 0, .int .i64 0, .int .i64 0, .slice none 0 0, .int .i64 0]) ?_ 1 _ rfl; (with_reducible repeat (first | refine blk_drewN ?_ _ | refine blk_drew ?_ | refine blk_alloc ?_ _)); refine blk_put (cs := #[.int .i64 0, .int .i64 0, .string (⟨#[]⟩ : ByteArray), .string (⟨#[]⟩ : ByteArray), .int .i64 0, .int .i64 0, .int .i64 0, .int .i64 0, .int .i64 0, .int .i64 0, .int .i64 0, .slice none 0 0, .int .i64 0]) ?_ 0 _ rfl; (with_reducible repeat (first | refine blk_drewN ?_ _ | refine blk_drew ?_ | refine blk_alloc ?_ _)); exact BK127.out) hb); have n1_ := Aside0.mk (below_step (by repeat (first | (with_reducible first | exact HB.out | apply below_alloc | apply pw_below_drewN | apply below_drew1 | refine below_set ?_ GE127.out) | exact HB.out)) hb); clear BK127; clear HB; have BK127 := n0_; have HB := n1_; clear n0_ n1_; (try clear hb); (try clear hb2); (try clear hk); (try clear hi)))
                  go_meet
                  case rel => exact ⟨_, (!t129), (by first | rfl | (simp; done) | (simp [*]; done)), H', ⟨by have := HK1.out; first | omega | exact Nat.le_refl _⟩, ⟨by (with_reducible repeat (first | refine blk_drewN ?_ _ | refine blk_drew ?_ | refine blk_alloc ?_ _)); exact BK127.out⟩, ⟨by repeat (first | (with_reducible first | exact HB.out | apply below_alloc | apply pw_below_drewN | apply below_drew1 | refine below_set ?_ GE127.out) | exact HB.out)⟩⟩
            case rest =>
              clear HC6
              try clear c1
              try clear p1
              try clear q1
              try clear hx1
              try clear c2
              try clear p2
              try clear c3
              try clear c3b0
              try clear c4
              try clear c4b0
              try clear c5
              try clear c5b0
              try clear p6
              try clear c9
              try clear c9b0
              try clear c10
              try clear c10b0
              try clear c10b1
              try clear c11
              try clear c11b0
              try clear c11b1
              try clear c12
              try clear p12
              try clear q12
              try clear hx12
              try clear hcz12_0
              try clear hcz12_1
              try clear hcz12_10
              try clear hcz12_11
              try clear hcz12_12
              try clear hcz12_2
              try clear hcz12_3
              try clear hcz12_4
              try clear hcz12_5
              try clear hcz12_6
              try clear hcz12_7
              try clear hcz12_8
              try clear hcz12_9
              try clear hcz14_0
              try clear hcz14_1
              try clear hcz14_10
              try clear hcz14_11
              try clear hcz14_12
              try clear hcz14_2
              try clear hcz14_3
              try clear hcz14_4
              try clear hcz14_5
              try clear hcz14_6
              try clear hcz14_7
              try clear hcz14_8
              try clear hcz14_9
              try clear hcz17_0
              try clear hcz17_1
              try clear hcz17_10
              try clear hcz17_11
              try clear hcz17_12
              try clear hcz17_2
              try clear hcz17_3
              try clear hcz17_4
              try clear hcz17_5
              try clear hcz17_6
              try clear hcz17_7
              try clear hcz17_8
              try clear hcz17_9
              try clear hcz8_0
              try clear hcz8_1
              try clear hcz8_10
              try clear hcz8_11
              try clear hcz8_12
              try clear hcz8_2
              try clear hcz8_3
              try clear hcz8_4
              try clear hcz8_5
              try clear hcz8_6
              try clear hcz8_7
              try clear hcz8_8
              try clear hcz8_9
              try clear hfz12_0
              try clear hfz12_1
              try clear hfz12_10
              try clear hfz12_11
              try clear hfz12_12
              try clear hfz12_2
              try clear hfz12_3
              try clear hfz12_4
              try clear hfz12_5
              try clear hfz12_6
              try clear hfz12_7
              try clear hfz12_8
              try clear hfz12_9
              try clear hfz14_0
              try clear hfz14_1
              try clear hfz14_10
              try clear hfz14_11
              try clear hfz14_12
              try clear hfz14_2
              try clear hfz14_3
              try clear hfz14_4
              try clear hfz14_5
              try clear hfz14_6
              try clear hfz14_7
              try clear hfz14_8
              try clear hfz14_9
              try clear hfz17_0
              try clear hfz17_1
              try clear hfz17_10
              try clear hfz17_11
              try clear hfz17_12
              try clear hfz17_2
              try clear hfz17_3
              try clear hfz17_4
              try clear hfz17_5
              try clear hfz17_6
              try clear hfz17_7
              try clear hfz17_8
              try clear hfz17_9
              try clear hfz8_0
              try clear hfz8_1
              try clear hfz8_10
              try clear hfz8_11
              try clear hfz8_12
              try clear hfz8_2
              try clear hfz8_3
              try clear hfz8_4
              try clear hfz8_5
              try clear hfz8_6
              try clear hfz8_7
              try clear hfz8_8
              try clear hfz8_9
              try clear hx126_0
              try clear hx126_1
              try clear hx126_10
              try clear hx126_11
              try clear hx126_12
              try clear hx126_2
              try clear hx126_3
              try clear hx126_4
              try clear hx126_5
              try clear hx126_6
              try clear hx126_7
              try clear hx126_8
              try clear hx126_9
              try clear p126
              try clear p2
              try clear q126
              obtain ⟨kq, x31_5, rfl, HA, HJ5, BK127, HB⟩ := hcut
              cases kq with
              | zero => exact absurd HA.out (by simp [parser_count.j1])
              | succ kj5 =>
                have H := HA.out
                clear HA
                simp only [parser_count.j1] at H
                by_cases c19 : x31_5 = true
                · subst c19
                  have H1 : (some 65) = some r := by rw [if_pos rfl] at H; exact H
                  clear H
                  have H := H1
                  clear H1
                  obtain rfl := Option.some.inj H
                  go_wp2
                  go_ret
                  exact ⟨by first | rfl | (simp [errW_none, errW_some] <;> rfl) | (simp [*, errW_none, errW_some] <;> rfl), by repeat (first | (with_reducible first | exact HB.out | apply below_alloc | apply pw_below_drewN | apply below_drew1 | refine below_set ?_ GE127.out) | exact HB.out)⟩
                · replace c19 := Bool.eq_false_iff.mpr c19
                  subst c19
                  have H1 : (if ((rd_T55 l0 x10_1).f0) = 7 then ((parser_count.f kj5 ((rd_T55 l0 x10_1).f6) (wrap64 (a1 + 1))).bind fun t130 => (parser_count.l0 kj5 a1 (wrap64 ((wrap64 (x5_1 + 1)) + t130)) l0 (l0.length : Int) (wrap64 (x10_1 + 1)))) else (parser_count.l0 kj5 a1 (wrap64 (x5_1 + 1)) l0 (l0.length : Int) (wrap64 (x10_1 + 1)))) = some r := by rw [if_neg (show ¬ (false = true) by decide)] at H; exact H
                  clear H
                  have H := H1
                  clear H1
                  by_cases c20 : ((rd_T55 l0 x10_1).f0) = 7
                  · rw [if_pos c20] at H
                    have c20b0 : (((rd_T55 l0 x10_1).f0) == 7) = true := beq_iff_eq.mpr c20
                    have c20b1 : (((rd_T55 l0 x10_1).f0) != 7) = false := bne_eq_false_iff_eq.mpr c20
                    clear c20
                    replace H := Option.bind_eq_some_iff.mp H
                    obtain ⟨t130, A210, H⟩ := H
                    replace H : (parser_count.l0 kj5 a1 (wrap64 ((wrap64 (x5_1 + 1)) + t130)) l0 (l0.length : Int) (wrap64 (x10_1 + 1))) = some r := H
                    have A21 := Aside0.mk A210
                    clear A210
                    have H' := Aside0.mk H
                    clear H
                    have hcz22_0 : wc.cell? ⟨gb127, 0, none⟩ = some (.int .i64 ((rd_T55 l0 x10_1).f0)) := (blk_cell BK127.out 0).trans rfl
                    have hcz22_1 : wc.cell? ⟨gb127, 1, none⟩ = some (.int .i64 ((rd_T55 l0 x10_1).f1)) := (blk_cell BK127.out 1).trans rfl
                    have hcz22_2 : wc.cell? ⟨gb127, 2, none⟩ = some (.string ((rd_T55 l0 x10_1).f2)) := (blk_cell BK127.out 2).trans rfl
                    have hcz22_3 : wc.cell? ⟨gb127, 3, none⟩ = some (.string ((rd_T55 l0 x10_1).f3)) := (blk_cell BK127.out 3).trans rfl
                    have hcz22_4 : wc.cell? ⟨gb127, 4, none⟩ = some (.int .i64 ((rd_T55 l0 x10_1).f4)) := (blk_cell BK127.out 4).trans rfl
                    have hcz22_5 : wc.cell? ⟨gb127, 5, none⟩ = some (.int .i64 ((rd_T55 l0 x10_1).f5.f0.f0)) := (blk_cell BK127.out 5).trans rfl
                    have hcz22_6 : wc.cell? ⟨gb127, 6, none⟩ = some (.int .i64 ((rd_T55 l0 x10_1).f5.f0.f1)) := (blk_cell BK127.out 6).trans rfl
                    have hcz22_7 : wc.cell? ⟨gb127, 7, none⟩ = some (.int .i64 ((rd_T55 l0 x10_1).f5.f0.f2)) := (blk_cell BK127.out 7).trans rfl
                    have hcz22_8 : wc.cell? ⟨gb127, 8, none⟩ = some (.int .i64 ((rd_T55 l0 x10_1).f5.f1.f0)) := (blk_cell BK127.out 8).trans rfl
                    have hcz22_9 : wc.cell? ⟨gb127, 9, none⟩ = some (.int .i64 ((rd_T55 l0 x10_1).f5.f1.f1)) := (blk_cell BK127.out 9).trans rfl
                    have hcz22_10 : wc.cell? ⟨gb127, 10, none⟩ = some (.int .i64 ((rd_T55 l0 x10_1).f5.f1.f2)) := (blk_cell BK127.out 10).trans rfl
                    have hcz22_11 : wc.cell? ⟨gb127, 11, none⟩ = some (.slice A126_11 ((rd_T55 l0 x10_1).f6).length c126_11) := (blk_cell BK127.out 11).trans rfl
                    have hcz22_12 : wc.cell? ⟨gb127, 12, none⟩ = some (.int .i64 ((rd_T55 l0 x10_1).f7)) := (blk_cell BK127.out 12).trans rfl
                    have hfz22_0 := blk_frozen BK127.out 0
                    have hfz22_1 := blk_frozen BK127.out 1
                    have hfz22_2 := blk_frozen BK127.out 2
                    have hfz22_3 := blk_frozen BK127.out 3
                    have hfz22_4 := blk_frozen BK127.out 4
                    have hfz22_5 := blk_frozen BK127.out 5
                    have hfz22_6 := blk_frozen BK127.out 6
                    have hfz22_7 := blk_frozen BK127.out 7
                    have hfz22_8 := blk_frozen BK127.out 8
                    have hfz22_9 := blk_frozen BK127.out 9
                    have hfz22_10 := blk_frozen BK127.out 10
                    have hfz22_11 := blk_frozen BK127.out 11
                    have hfz22_12 := blk_frozen BK127.out 12
                    go_wp2_with (first | ((with_reducible refine gate_callee (f := 21) rfl ?_); refine goesL_ (some 40) rfl rfl Tryd.func21 (by kernel_rfl) rfl #[.slice A126_11 ((rd_T55 l0 x10_1).f6).length c126_11, .int .i64 (wrap64 (a1 + 1))] rfl (by (try simp only [List.map_toArray, List.map_cons, List.map_nil]); first | done | rfl | (simp only [List.length_drop, List.length_take]; rfl)) ?_; (with_reducible refine (ih kj5 (by have := HK1.out; have := HJ5.out; omega) _ _ ((rd_T55 l0 x10_1).f6) (wrap64 (a1 + 1)) t130 _ ?side1 ?side2 A21.out (HGL.out.below (by repeat (first | (with_reducible first | exact HB.out | apply below_alloc | apply pw_below_drewN | apply below_drew1 | refine below_set ?_ GE127.out) | exact HB.out)))).mono ?_); (case side1 => repeat (first | exact (Kd.C_below HR126_11.out HB.out) | (with_reducible refine Kd.C_alloc ?_ _) | (with_reducible refine Kd.C_drewN ?_ _) | (with_reducible refine Kd.C_drew ?_))); (case side2 => exact HC126_11.out); rintro e w23 ⟨rfl, hb⟩; refine ⟨_, rfl, ?_⟩; have n0_ := Aside0.mk (blk_below (g := gb127) (o := .cells #[.int .i64 ((rd_T55 l0 x10_1).f0), .int .i64 ((rd_T55 l0 x10_1).f1), .string ((rd_T55 l0 x10_1).f2), .string ((rd_T55 l0 x10_1).f3), .int .i64 ((rd_T55 l0 x10_1).f4), .int .i64 ((rd_T55 l0 x10_1).f5.f0.f0), .int .i64 ((rd_T55 l0 x10_1).f5.f0.f1), .int .i64 ((rd_T55 l0 x10_1).f5.f0.f2), .int .i64 ((rd_T55 l0 x10_1).f5.f1.f0), .int .i64 ((rd_T55 l0 x10_1).f5.f1.f1), .int .i64 ((rd_T55 l0 x10_1).f5.f1.f2), .slice A126_11 ((rd_T55 l0 x10_1).f6).length c126_11, .int .i64 ((rd_T55 l0 x10_1).f7)] 55 (0, 0)) (by (with_reducible repeat (first | refine blk_drewN ?_ _ | refine blk_drew ?_ | refine blk_alloc ?_ _)); exact BK127.out) hb); have n1_ := Aside0.mk (below_step (by repeat (first | (with_reducible first | exact HB.out | apply below_alloc | apply pw_below_drewN | apply below_drew1 | refine below_set ?_ GE127.out) | exact HB.out)) hb); clear BK127; clear HB; have BK127 := n0_; have HB := n1_; clear n0_ n1_; (try clear hb); (try clear hb2); (try clear hk); (try clear hi)))
                    go_roundg kj5
                    case measure => have := HK1.out; have := HJ5.out; omega
                    case rel => exact ⟨(wrap64 ((wrap64 (x5_1 + 1)) + t130)), (wrap64 (x10_1 + 1)), (by first | rfl | (simp; done) | (simp [*]; done)), (by first | rfl | (simp; done) | (simp [*]; done)), H', ⟨by have := HK1.out; have := HJ5.out; omega⟩, ⟨by repeat (first | (with_reducible first | exact HB.out | apply below_alloc | apply pw_below_drewN | apply below_drew1 | refine below_set ?_ GE127.out) | exact HB.out)⟩⟩
                  · rw [if_neg c20] at H
                    have c20b0 : (((rd_T55 l0 x10_1).f0) == 7) = false := beq_eq_false_iff_ne.mpr c20
                    have c20b1 : (((rd_T55 l0 x10_1).f0) != 7) = true := bne_iff_ne.mpr c20
                    have H' := Aside0.mk H
                    clear H
                    have hcz24_0 : wc.cell? ⟨gb127, 0, none⟩ = some (.int .i64 ((rd_T55 l0 x10_1).f0)) := (blk_cell BK127.out 0).trans rfl
                    have hcz24_1 : wc.cell? ⟨gb127, 1, none⟩ = some (.int .i64 ((rd_T55 l0 x10_1).f1)) := (blk_cell BK127.out 1).trans rfl
                    have hcz24_2 : wc.cell? ⟨gb127, 2, none⟩ = some (.string ((rd_T55 l0 x10_1).f2)) := (blk_cell BK127.out 2).trans rfl
                    have hcz24_3 : wc.cell? ⟨gb127, 3, none⟩ = some (.string ((rd_T55 l0 x10_1).f3)) := (blk_cell BK127.out 3).trans rfl
                    have hcz24_4 : wc.cell? ⟨gb127, 4, none⟩ = some (.int .i64 ((rd_T55 l0 x10_1).f4)) := (blk_cell BK127.out 4).trans rfl
                    have hcz24_5 : wc.cell? ⟨gb127, 5, none⟩ = some (.int .i64 ((rd_T55 l0 x10_1).f5.f0.f0)) := (blk_cell BK127.out 5).trans rfl
                    have hcz24_6 : wc.cell? ⟨gb127, 6, none⟩ = some (.int .i64 ((rd_T55 l0 x10_1).f5.f0.f1)) := (blk_cell BK127.out 6).trans rfl
                    have hcz24_7 : wc.cell? ⟨gb127, 7, none⟩ = some (.int .i64 ((rd_T55 l0 x10_1).f5.f0.f2)) := (blk_cell BK127.out 7).trans rfl
                    have hcz24_8 : wc.cell? ⟨gb127, 8, none⟩ = some (.int .i64 ((rd_T55 l0 x10_1).f5.f1.f0)) := (blk_cell BK127.out 8).trans rfl
                    have hcz24_9 : wc.cell? ⟨gb127, 9, none⟩ = some (.int .i64 ((rd_T55 l0 x10_1).f5.f1.f1)) := (blk_cell BK127.out 9).trans rfl
                    have hcz24_10 : wc.cell? ⟨gb127, 10, none⟩ = some (.int .i64 ((rd_T55 l0 x10_1).f5.f1.f2)) := (blk_cell BK127.out 10).trans rfl
                    have hcz24_11 : wc.cell? ⟨gb127, 11, none⟩ = some (.slice A126_11 ((rd_T55 l0 x10_1).f6).length c126_11) := (blk_cell BK127.out 11).trans rfl
                    have hcz24_12 : wc.cell? ⟨gb127, 12, none⟩ = some (.int .i64 ((rd_T55 l0 x10_1).f7)) := (blk_cell BK127.out 12).trans rfl
                    have hfz24_0 := blk_frozen BK127.out 0
                    have hfz24_1 := blk_frozen BK127.out 1
                    have hfz24_2 := blk_frozen BK127.out 2
                    have hfz24_3 := blk_frozen BK127.out 3
                    have hfz24_4 := blk_frozen BK127.out 4
                    have hfz24_5 := blk_frozen BK127.out 5
                    have hfz24_6 := blk_frozen BK127.out 6
                    have hfz24_7 := blk_frozen BK127.out 7
                    have hfz24_8 := blk_frozen BK127.out 8
                    have hfz24_9 := blk_frozen BK127.out 9
                    have hfz24_10 := blk_frozen BK127.out 10
                    have hfz24_11 := blk_frozen BK127.out 11
                    have hfz24_12 := blk_frozen BK127.out 12
                    go_wp2
                    go_roundg kj5
                    case measure => have := HK1.out; have := HJ5.out; omega
                    case rel => exact ⟨((wrap64 (x5_1 + 1))), (wrap64 (x10_1 + 1)), (by first | rfl | (simp; done) | (simp [*]; done)), (by first | rfl | (simp; done) | (simp [*]; done)), H', ⟨by have := HK1.out; have := HJ5.out; omega⟩, ⟨by repeat (first | (with_reducible first | exact HB.out | apply below_alloc | apply pw_below_drewN | apply below_drew1 | refine below_set ?_ GE127.out) | exact HB.out)⟩⟩
          · rw [if_neg c5] at H
            exact absurd H (by simp)
        · rw [if_neg c4] at H
          exact absurd H (by simp)
      · rw [if_neg c3] at H
        have c3b0 : decide (x10_1 < (l0.length : Int)) = false := decide_eq_false c3
        clear c3
        obtain rfl := Option.some.inj H
        go_wp2
        go_ret
        exact ⟨by first | rfl | (simp [errW_none, errW_some] <;> rfl) | (simp [*, errW_none, errW_some] <;> rfl), by repeat (first | (with_reducible first | exact HB.out | apply below_alloc | apply pw_below_drewN | apply below_drew1) | exact HB.out)⟩
def parser_Valid.f (k : Nat) (l0 : List (S55)) : Option (Bool) := (parser_count.f k l0 0).bind fun t131 => (some (decide (t131 ≤ 64)))
theorem parser_Valid.mono : ∀ a0 k, LeO (parser_Valid.f k a0) (parser_Valid.f (k + 1) a0) := by
  intro a0 k
  unfold parser_Valid.f
  repeat' first
      | (with_reducible exact parser_count.mono _ _ _)
      | (with_reducible exact LeO.refl _)
      | (with_reducible exact LeO.none _)
      | (with_reducible refine LeO.ite ?_ ?_)
      | (with_reducible refine LeO.bind ?_ (fun _ => ?_))
      | exact parser_count.mono _ _ _
      | exact LeO.none _
      | refine LeO.ite ?_ ?_
      | refine LeO.bind ?_ (fun _ => ?_)
set_option maxHeartbeats 8000000 in
set_option maxRecDepth 100000 in
theorem parser_Valid.calls (k : Nat) (A0 : Option Addr) (c0 : Nat) (l0 : List (S55)) (r : Bool) (w : World) (hr0 : Kd.C k55 w A0 l0.length l0) (hc0 : l0.length ≤ c0) (h : parser_Valid.f k l0 = some r) (hG : Glob w) :
    Calls Tryd.prog 11 #[.slice A0 l0.length c0] w fun e w' => e = .returned (.bool r) ∧ Below w.heap.size w w' := by
  have HGL := Aside0.mk hG
  clear hG
  have HR0 := Aside0.mk hr0
  have HC0 := Aside0.mk hc0
  clear hr0 hc0
  have HB := Aside0.mk (Below.refl w.heap.size w)
  have H : ((parser_count.f k l0 0).bind fun t131 => (some (decide (t131 ≤ 64)))) = some r := h
  clear h
  replace H := Option.bind_eq_some_iff.mp H
  obtain ⟨t131, A20, H⟩ := H
  replace H : (some (decide (t131 ≤ 64))) = some r := H
  have A2 := Aside0.mk A20
  clear A20
  obtain rfl := Option.some.inj H
  go_enter Tryd.func11, Tryd.ntmps11
  go_wp2_with (first | ((with_reducible refine gate_callee (f := 21) rfl ?_); refine goesL_ (some 4) rfl rfl Tryd.func21 (by kernel_rfl) rfl #[.slice A0 l0.length c0, .int .i64 0] rfl (by (try simp only [List.map_toArray, List.map_cons, List.map_nil]); first | done | rfl | (simp only [List.length_drop, List.length_take]; rfl)) ?_; (with_reducible refine (parser_count.calls k _ _ l0 0 t131 _ ?side1 ?side2 A2.out (HGL.out.below (by repeat (first | (with_reducible first | exact HB.out | apply below_alloc | apply pw_below_drewN | apply below_drew1) | exact HB.out)))).mono ?_); (case side1 => repeat (first | exact HR0.out | (with_reducible refine Kd.C_alloc ?_ _) | (with_reducible refine Kd.C_drewN ?_ _) | (with_reducible refine Kd.C_drew ?_))); (case side2 => exact HC0.out); rintro e w3 ⟨rfl, hb⟩; refine ⟨_, rfl, ?_⟩; have n0_ := Aside0.mk (below_step (by repeat (first | (with_reducible first | exact HB.out | apply below_alloc | apply pw_below_drewN | apply below_drew1) | exact HB.out)) hb); clear HB; have HB := n0_; clear n0_; (try clear hb); (try clear hb2); (try clear hk); (try clear hi)))
  go_ret
  exact ⟨by first | rfl | (simp [errW_none, errW_some] <;> rfl) | (simp [*, errW_none, errW_some] <;> rfl), by repeat (first | (with_reducible first | exact HB.out | apply below_alloc | apply pw_below_drewN | apply below_drew1) | exact HB.out)⟩
end Go.Proofs.YtonhcfecfifghaaDoor.PPx
namespace Go.Proofs.YtonhcfecfifghaaDoor.PPx
open Go.RowKit Go.Proofs.YtonhcfecfifghaaDoorW.PrintWords Go.Proofs.YtonhcfecfifghaaDoorW.PrintLast Go.Proofs.YtonhcfecfifghaaDoorW.PrintMore
set_option linter.unusedVariables false
set_option linter.unusedSimpArgs false
def h1L : List S55 := [⟨1, 1, ⟨#[]⟩, ⟨#[]⟩, 0, ⟨⟨0, 0, 0⟩, ⟨0, -3, 4⟩⟩, [], 0⟩]
def h2L : List S55 := [⟨2, 0, ⟨#[]⟩, ⟨#[]⟩, 0, ⟨⟨0, 0, 0⟩, ⟨0, 0, 0⟩⟩, [], 16⟩]
def h2M : List S55 := [⟨2, 0, ⟨#[]⟩, ⟨#[]⟩, 0, ⟨⟨0, 0, 0⟩, ⟨0, 0, 0⟩⟩, [], 0⟩]
def h5L : List S55 := [⟨7, 0, ⟨#[98]⟩, ⟨#[97]⟩, 0, ⟨⟨0, 0, 0⟩, ⟨0, 0, 0⟩⟩, [⟨6, 0, ⟨#[]⟩, ⟨#[]⟩, 5, ⟨⟨0, 0, 0⟩, ⟨0, 0, 0⟩⟩, [], 11⟩], 0⟩, ⟨8, 0, ⟨#[]⟩, ⟨#[]⟩, 0, ⟨⟨1, 2, 3⟩, ⟨4, 5, 6⟩⟩, [], 21⟩]
def h7L : List S55 := [⟨6, 1, ⟨#[]⟩, ⟨#[]⟩, 0, ⟨⟨0, 0, 0⟩, ⟨0, 0, 0⟩⟩, [], 0⟩]
set_option maxRecDepth 100000
def hs1 : ByteArray := ⟨#[103, 111, 32, 49, 32, 40, 48, 44, 32, 45, 51, 44, 32, 52, 41, 59]⟩
theorem head1 : parser_Parse.f 5 hs1 = some (h1L, []) := by kernel_rfl
def hs2 : ByteArray := ⟨#[103, 111, 32, 50, 32, 40, 48, 44, 32, 48, 44, 32, 48, 41, 59, 32, 104, 111, 109, 101, 32, 48, 59]⟩
theorem head2 : parser_Parse.f 5 hs2 = some (h2L, [⟨110, 3⟩]) := by kernel_rfl
def hs3 : ByteArray := ⟨#[119, 104, 101, 110, 32, 98, 101, 108, 116, 32, 99, 117, 112, 32, 123, 32, 112, 105, 99, 107, 32, 48, 32, 99, 117, 112, 59, 32]⟩
theorem head3 : parser_Parse.f 5 hs3 = some ([], [⟨3, 28⟩]) := by kernel_rfl
def hs4 : ByteArray := ⟨#[104, 111, 109, 101, 32, 48]⟩
theorem head4 : parser_Parse.f 5 hs4 = some ([], [⟨3, 6⟩]) := by kernel_rfl
def hs5 : ByteArray := ⟨#[119, 104, 101, 110, 32, 97, 32, 98, 32, 123, 32, 119, 97, 105, 116, 32, 53, 59, 32, 125, 32, 98, 111, 116, 104, 32, 40, 49, 44, 50, 44, 51, 41, 32, 40, 52, 44, 53, 44, 54, 41, 32, 59, 32, 35, 32, 100, 111, 110, 101]⟩
theorem head5 : parser_Parse.f 5 hs5 = some (h5L, []) := by kernel_rfl
def hs6 : ByteArray := ⟨#[112, 105, 99, 107, 32, 48, 32, 103, 111, 59, 32, 125]⟩
theorem head6 : parser_Parse.f 5 hs6 = some ([], [⟨110, 7⟩, ⟨110, 11⟩]) := by kernel_rfl
theorem headF1 : parser_Format.f 5 h1L = some ⟨#[103, 111, 32, 49, 32, 40, 48, 44, 32, 45, 51, 44, 32, 52, 41, 59, 10]⟩ := by kernel_rfl
theorem headF5 : parser_Format.f 5 h5L = some ⟨#[119, 104, 101, 110, 32, 97, 32, 98, 32, 123, 10, 32, 32, 119, 97, 105, 116, 32, 53, 59, 10, 125, 10, 98, 111, 116, 104, 32, 40, 49, 44, 32, 50, 44, 32, 51, 41, 32, 40, 52, 44, 32, 53, 44, 32, 54, 41, 59, 10]⟩ := by kernel_rfl
theorem headS : ambidexterref11_Same.f 5 h2L h2M = some true := by kernel_rfl
theorem headV5 : parser_Valid.f 20 h5L = some true := by kernel_rfl
theorem headV7 : parser_Valid.f 20 h7L = some false := by kernel_rfl
theorem headE1 : parser_Equal.f 5 h5L h5L = some true := by kernel_rfl
theorem headE2 : parser_Equal.f 5 h5L h1L = some false := by kernel_rfl
end Go.Proofs.YtonhcfecfifghaaDoor.PPx
namespace Go.Proofs.YtonhcfecfifghaaDoor.PPx
open Go.RowKit Go.Proofs.YtonhcfecfifghaaDoorW.PrintWords Go.Proofs.YtonhcfecfifghaaDoorW.PrintLast Go.Proofs.YtonhcfecfifghaaDoorW.PrintMore
set_option linter.unusedVariables false
set_option linter.unusedSimpArgs false
attribute [local go_sem high] eqA52
theorem lit_C {α : Type} (d : Kd α) (W : World) (e : TypeId) {xs : List α} {inner : List Value} (hrep : Reps (d.M W W.heap.size (fun _ => True)) d.sz xs inner) (hm : xs.length ≤ 9223372036854775807) : d.C (W.alloc (.cells inner.toArray e)) (some ⟨W.heap.size, 0, none⟩) xs.length xs := by
  have hR : d.R e (W.alloc (.cells inner.toArray e)) W.heap.size (fun _ => True) (.slice (some ⟨W.heap.size, 0, none⟩) xs.length xs.length) xs := by
    refine ⟨fun k hk => trivial, inner, ?_, ?_⟩
    · have h2 := World.ownsRow_lit (base := W.heap.size) (e := e) (size := d.sz) W inner.toArray xs.length (Nat.le_refl _) (by simpa [maxLen] using hm) (by simpa using hrep.1)
      simpa using h2
    · refine hrep.imp_ (fun p c hp => d.M_mono (fun k hk => ⟨trivial, fun he => ?_⟩) (Kd.M_below (d.M_bound hp) (below_alloc (Below.refl _ _) _)))
      have h3 : k = W.heap.size := by simpa [Value.ownBlock] using he
      have := hk.2.2.1
      omega
  exact (Kd.R_reads' hR).2.2
theorem litS_C (k arm : Int) (W : World) : Kd.C k55 (W.alloc (.cells #[.int .i64 k, .int .i64 arm, .string ⟨#[]⟩, .string ⟨#[]⟩, .int .i64 0, .int .i64 0, .int .i64 0, .int .i64 0, .int .i64 0, .int .i64 0, .int .i64 0, .slice none 0 0, .int .i64 0] 55)) (some ⟨W.heap.size, 0, none⟩) 1 [⟨k, arm, ⟨#[]⟩, ⟨#[]⟩, 0, ⟨⟨0, 0, 0⟩, ⟨0, 0, 0⟩⟩, [], 0⟩] :=
  lit_C k55 W 55 (xs := [⟨k, arm, ⟨#[]⟩, ⟨#[]⟩, 0, ⟨⟨0, 0, 0⟩, ⟨0, 0, 0⟩⟩, [], 0⟩]) (inner := [.int .i64 k, .int .i64 arm, .string ⟨#[]⟩, .string ⟨#[]⟩, .int .i64 0, .int .i64 0, .int .i64 0, .int .i64 0, .int .i64 0, .int .i64 0, .int .i64 0, .slice none 0 0, .int .i64 0]) (Reps.front (k55_mkM _ _ _ _ (v11 := .slice none 0 0) (Kd.R_nil _ _ _ _ _)) rfl (Reps.none _ _) rfl) (by simp)
theorem litD_C (e at_ : Int) (W : World) : Kd.C k35 (W.alloc (.cells #[.int .i64 e, .int .i64 at_] 35)) (some ⟨W.heap.size, 0, none⟩) 1 [⟨e, at_⟩] :=
  lit_C k35 W 35 (xs := [⟨e, at_⟩]) (inner := [.int .i64 e, .int .i64 at_]) (Reps.c2 (k35_mkM _ _ _ (⟨e, at_⟩ : S35)) (Reps.none _ _)) (by simp)
theorem litD_C2 (e at_ e2 at2 : Int) (W : World) : Kd.C k35 (W.alloc (.cells #[.int .i64 e, .int .i64 at_, .int .i64 e2, .int .i64 at2] 35)) (some ⟨W.heap.size, 0, none⟩) 2 [⟨e, at_⟩, ⟨e2, at2⟩] :=
  lit_C k35 W 35 (xs := [⟨e, at_⟩, ⟨e2, at2⟩]) (inner := [.int .i64 e, .int .i64 at_, .int .i64 e2, .int .i64 at2]) (Reps.c2 (k35_mkM _ _ _ (⟨e, at_⟩ : S35)) (Reps.c2 (k35_mkM _ _ _ (⟨e2, at2⟩ : S35)) (Reps.none _ _))) (by simp)
theorem headG2 : ambidexterref11_Faults.f 5 [⟨110, 3⟩] [⟨110, 3⟩] = some true := by kernel_rfl
theorem headG3 : ambidexterref11_Faults.f 5 [⟨3, 28⟩] [⟨3, 28⟩] = some true := by kernel_rfl
theorem headG4 : ambidexterref11_Faults.f 5 [⟨3, 6⟩] [⟨3, 6⟩] = some true := by kernel_rfl
theorem headG6 : ambidexterref11_Faults.f 5 [⟨110, 7⟩, ⟨110, 11⟩] [⟨110, 7⟩, ⟨110, 11⟩] = some true := by kernel_rfl
set_option maxHeartbeats 2000000 in
set_option maxRecDepth 100000 in
theorem head_calls (w : World) (hG : Glob w) : Calls Tryd.prog 9 #[] w fun e w' => e = .returned (.bool true) ∧ Below w.heap.size w w' := by
  have hu55 := Tryd.underlying55
  have HG := Aside0.mk hG
  have HB := Aside0.mk (Below.refl w.heap.size w)
  clear hG
  go_enter Tryd.func9, Tryd.ntmps9
  go_wp2_with fail
  refine (parser_Parse.calls 5 hs1 _ _ _ head1 (HG.out.below HB.out)).mono ?_
  rintro e w1 ⟨v1, f1, rfl, hr, hf, hb⟩
  obtain ⟨A1, c1, e1, hc1, hC⟩ := Kd.R_reads hr
  obtain ⟨B1, d1, e2, hd1, hD⟩ := Kd.R_reads hf
  have e1' : v1 = .slice A1 1 c1 := e1
  have e2' : f1 = .slice B1 0 d1 := e2
  subst e1' e2'
  clear e1 e2 hr hf
  have HB' := Aside0.mk (below_step HB.out hb)
  clear HB
  have HB := HB'
  clear HB'
  have HC1 := Aside0.mk hC
  clear hC hD hb
  go_wp2_with fail
  refine (parser_Parse.calls 5 hs2 _ _ _ head2 (HG.out.below HB.out)).mono ?_
  rintro e w2 ⟨v1, f1, rfl, hr, hf, hb⟩
  obtain ⟨A2, c2, e1, hc2, hC⟩ := Kd.R_reads hr
  obtain ⟨B2, d2, e2, hd2, hD⟩ := Kd.R_reads hf
  have e1' : v1 = .slice A2 1 c2 := e1
  have e2' : f1 = .slice B2 1 d2 := e2
  subst e1' e2'
  clear e1 e2 hr hf
  have HC1' := Aside0.mk (Kd.C_below HC1.out hb)
  clear HC1
  have HC1 := HC1'
  clear HC1'
  have HB' := Aside0.mk (below_step HB.out hb)
  clear HB
  have HB := HB'
  clear HB'
  have HC2 := Aside0.mk hC
  have HD2 := Aside0.mk hD
  clear hC hD hb
  go_wp2_with fail
  refine (parser_Parse.calls 5 hs3 _ _ _ head3 (HG.out.below HB.out)).mono ?_
  rintro e w3 ⟨v1, f1, rfl, hr, hf, hb⟩
  obtain ⟨A3, c3, e1, hc3, hC⟩ := Kd.R_reads hr
  obtain ⟨B3, d3, e2, hd3, hD⟩ := Kd.R_reads hf
  have e1' : v1 = .slice A3 0 c3 := e1
  have e2' : f1 = .slice B3 1 d3 := e2
  subst e1' e2'
  clear e1 e2 hr hf
  have HC1' := Aside0.mk (Kd.C_below HC1.out hb)
  clear HC1
  have HC1 := HC1'
  clear HC1'
  have HC2' := Aside0.mk (Kd.C_below HC2.out hb)
  clear HC2
  have HC2 := HC2'
  clear HC2'
  have HD2' := Aside0.mk (Kd.C_below HD2.out hb)
  clear HD2
  have HD2 := HD2'
  clear HD2'
  have HB' := Aside0.mk (below_step HB.out hb)
  clear HB
  have HB := HB'
  clear HB'
  have HD3 := Aside0.mk hD
  clear hC hD hb
  go_wp2_with fail
  refine (parser_Parse.calls 5 hs4 _ _ _ head4 (HG.out.below HB.out)).mono ?_
  rintro e w4 ⟨v1, f1, rfl, hr, hf, hb⟩
  obtain ⟨A4, c4, e1, hc4, hC⟩ := Kd.R_reads hr
  obtain ⟨B4, d4, e2, hd4, hD⟩ := Kd.R_reads hf
  have e1' : v1 = .slice A4 0 c4 := e1
  have e2' : f1 = .slice B4 1 d4 := e2
  subst e1' e2'
  clear e1 e2 hr hf
  have HC1' := Aside0.mk (Kd.C_below HC1.out hb)
  clear HC1
  have HC1 := HC1'
  clear HC1'
  have HC2' := Aside0.mk (Kd.C_below HC2.out hb)
  clear HC2
  have HC2 := HC2'
  clear HC2'
  have HD2' := Aside0.mk (Kd.C_below HD2.out hb)
  clear HD2
  have HD2 := HD2'
  clear HD2'
  have HD3' := Aside0.mk (Kd.C_below HD3.out hb)
  clear HD3
  have HD3 := HD3'
  clear HD3'
  have HB' := Aside0.mk (below_step HB.out hb)
  clear HB
  have HB := HB'
  clear HB'
  have HD4 := Aside0.mk hD
  clear hC hD hb
  go_wp2_with fail
  refine (parser_Parse.calls 5 hs5 _ _ _ head5 (HG.out.below HB.out)).mono ?_
  rintro e w5 ⟨v1, f1, rfl, hr, hf, hb⟩
  obtain ⟨A5, c5, e1, hc5, hC⟩ := Kd.R_reads hr
  obtain ⟨B5, d5, e2, hd5, hD⟩ := Kd.R_reads hf
  have e1' : v1 = .slice A5 2 c5 := e1
  have e2' : f1 = .slice B5 0 d5 := e2
  subst e1' e2'
  clear e1 e2 hr hf
  have HC1' := Aside0.mk (Kd.C_below HC1.out hb)
  clear HC1
  have HC1 := HC1'
  clear HC1'
  have HC2' := Aside0.mk (Kd.C_below HC2.out hb)
  clear HC2
  have HC2 := HC2'
  clear HC2'
  have HD2' := Aside0.mk (Kd.C_below HD2.out hb)
  clear HD2
  have HD2 := HD2'
  clear HD2'
  have HD3' := Aside0.mk (Kd.C_below HD3.out hb)
  clear HD3
  have HD3 := HD3'
  clear HD3'
  have HD4' := Aside0.mk (Kd.C_below HD4.out hb)
  clear HD4
  have HD4 := HD4'
  clear HD4'
  have HB' := Aside0.mk (below_step HB.out hb)
  clear HB
  have HB := HB'
  clear HB'
  have HC5 := Aside0.mk hC
  clear hC hD hb
  go_wp2_with fail
  refine (parser_Parse.calls 5 hs6 _ _ _ head6 (HG.out.below HB.out)).mono ?_
  rintro e w6 ⟨v1, f1, rfl, hr, hf, hb⟩
  obtain ⟨A6, c6, e1, hc6, hC⟩ := Kd.R_reads hr
  obtain ⟨B6, d6, e2, hd6, hD⟩ := Kd.R_reads hf
  have e1' : v1 = .slice A6 0 c6 := e1
  have e2' : f1 = .slice B6 2 d6 := e2
  subst e1' e2'
  clear e1 e2 hr hf
  have HC1' := Aside0.mk (Kd.C_below HC1.out hb)
  clear HC1
  have HC1 := HC1'
  clear HC1'
  have HC2' := Aside0.mk (Kd.C_below HC2.out hb)
  clear HC2
  have HC2 := HC2'
  clear HC2'
  have HD2' := Aside0.mk (Kd.C_below HD2.out hb)
  clear HD2
  have HD2 := HD2'
  clear HD2'
  have HD3' := Aside0.mk (Kd.C_below HD3.out hb)
  clear HD3
  have HD3 := HD3'
  clear HD3'
  have HD4' := Aside0.mk (Kd.C_below HD4.out hb)
  clear HD4
  have HD4 := HD4'
  clear HD4'
  have HC5' := Aside0.mk (Kd.C_below HC5.out hb)
  clear HC5
  have HC5 := HC5'
  clear HC5'
  have HB' := Aside0.mk (below_step HB.out hb)
  clear HB
  have HB := HB'
  clear HB'
  have HD6 := Aside0.mk hD
  clear hC hD hb
  obtain ⟨ad, Ax, cx, ex, x0, x1, x2, x3, x4, x5, x6, x7, x8, x9, x10, x11, x12, hlx, hCx⟩ := at_T55 HC1.out 0 (by decide) (by decide)
  subst ex
  have y0 : w6.cell? ad = some (.int .i64 1) := x0
  have y1 : w6.cell? ⟨ad.block, ad.off + 1, none⟩ = some (.int .i64 1) := x1
  have y8 : w6.cell? ⟨ad.block, ad.off + 8, none⟩ = some (.int .i64 0) := x8
  have y9 : w6.cell? ⟨ad.block, ad.off + 9, none⟩ = some (.int .i64 (-3)) := x9
  have y10 : w6.cell? ⟨ad.block, ad.off + 10, none⟩ = some (.int .i64 4) := x10
  clear hCx hlx x0 x1 x2 x3 x4 x5 x6 x7 x8 x9 x10 x11 x12
  simp only
  go_wp2_with fail
  refine (parser_Format.calls 5 (some ad) c1 h1L _ w6 HC1.out hc1 headF1 (HG.out.below HB.out)).mono ?_
  rintro e w7 ⟨rfl, hb⟩
  have HB7 := Aside0.mk hb
  clear hb y0 y1 y8 y9 y10
  go_wp2_with fail
  have hal := fun k arm => below_alloc (Below.refl w7.heap.size w7) (.cells #[.int .i64 k, .int .i64 arm, .string ⟨#[]⟩, .string ⟨#[]⟩, .int .i64 0, .int .i64 0, .int .i64 0, .int .i64 0, .int .i64 0, .int .i64 0, .int .i64 0, .slice none 0 0, .int .i64 0] 55)
  refine (ambidexterref11_Same.calls 5 A2 c2 h2L (some ⟨w7.heap.size, 0, none⟩) 1 h2M true _ (Kd.C_below (Kd.C_below HC2.out HB7.out) (hal 2 0)) hc2 (litS_C 2 0 w7) (by decide) headS).mono ?_
  rintro e w8 ⟨rfl, hb⟩
  have HB8 := Aside0.mk (below_step (below_step HB7.out (hal 2 0)) hb)
  clear hb hal HB7
  go_wp2_with fail
  have hal := below_alloc (Below.refl w8.heap.size w8) (.cells #[.int .i64 110, .int .i64 3] 35)
  refine (ambidexterref11_Faults.calls 5 B2 d2 _ (some ⟨w8.heap.size, 0, none⟩) 1 _ true _ (Kd.C_below (Kd.C_below HD2.out HB8.out) hal) hd2 (litD_C 110 3 w8) (Nat.le_refl _) headG2).mono ?_
  rintro e w9 ⟨rfl, hb⟩
  have HB9 := Aside0.mk (below_step (below_step HB8.out hal) hb.below)
  clear hb hal HB8
  go_wp2_with fail
  have hal := below_alloc (Below.refl w9.heap.size w9) (.cells #[.int .i64 3, .int .i64 28] 35)
  refine (ambidexterref11_Faults.calls 5 B3 d3 _ (some ⟨w9.heap.size, 0, none⟩) 1 _ true _ (Kd.C_below (Kd.C_below HD3.out HB9.out) hal) hd3 (litD_C 3 28 w9) (Nat.le_refl _) headG3).mono ?_
  rintro e w10 ⟨rfl, hb⟩
  have HB10 := Aside0.mk (below_step (below_step HB9.out hal) hb.below)
  clear hb hal HB9
  go_wp2_with fail
  have hal := below_alloc (Below.refl w10.heap.size w10) (.cells #[.int .i64 3, .int .i64 6] 35)
  refine (ambidexterref11_Faults.calls 5 B4 d4 _ (some ⟨w10.heap.size, 0, none⟩) 1 _ true _ (Kd.C_below (Kd.C_below HD4.out HB10.out) hal) hd4 (litD_C 3 6 w10) (Nat.le_refl _) headG4).mono ?_
  rintro e w11 ⟨rfl, hb⟩
  have HB11 := Aside0.mk (below_step (below_step HB10.out hal) hb.below)
  clear hb hal HB10
  go_wp2_with fail
  refine (parser_Format.calls 5 A5 c5 h5L _ w11 (Kd.C_below HC5.out HB11.out) hc5 headF5 (HG.out.below (below_step HB.out HB11.out))).mono ?_
  rintro e w12 ⟨rfl, hb⟩
  have HB12 := Aside0.mk (below_step HB11.out hb)
  clear hb HB11
  go_wp2_with fail
  have hal := below_alloc (Below.refl w12.heap.size w12) (.cells #[.int .i64 110, .int .i64 7, .int .i64 110, .int .i64 11] 35)
  refine (ambidexterref11_Faults.calls 5 B6 d6 _ (some ⟨w12.heap.size, 0, none⟩) 2 _ true _ (Kd.C_below (Kd.C_below HD6.out HB12.out) hal) hd6 (litD_C2 110 7 110 11 w12) (Nat.le_refl _) headG6).mono ?_
  rintro e w13 ⟨rfl, hb⟩
  have HB13 := Aside0.mk (below_step (below_step HB12.out hal) hb.below)
  clear hb hal HB12
  go_wp2_with fail
  refine (parser_Valid.calls 20 A5 c5 h5L true w13 (Kd.C_below HC5.out HB13.out) hc5 headV5 (HG.out.below (below_step HB.out HB13.out))).mono ?_
  rintro e w14 ⟨rfl, hb⟩
  have HB14 := Aside0.mk (below_step HB13.out hb)
  clear hb HB13
  go_wp2_with fail
  have hal := below_alloc (Below.refl w14.heap.size w14) (.cells #[.int .i64 6, .int .i64 1, .string ⟨#[]⟩, .string ⟨#[]⟩, .int .i64 0, .int .i64 0, .int .i64 0, .int .i64 0, .int .i64 0, .int .i64 0, .int .i64 0, .slice none 0 0, .int .i64 0] 55)
  refine (parser_Valid.calls 20 (some ⟨w14.heap.size, 0, none⟩) 1 h7L false _ (litS_C 6 1 w14) (by decide) headV7 (HG.out.below (below_step (below_step HB.out HB14.out) hal))).mono ?_
  rintro e w15 ⟨rfl, hb⟩
  have HB15 := Aside0.mk (below_step (below_step HB14.out hal) hb)
  clear hb hal HB14
  go_wp2_with fail
  refine (parser_Equal.calls 5 A5 c5 h5L A5 c5 h5L true w15 (Kd.C_below HC5.out HB15.out) hc5 (Kd.C_below HC5.out HB15.out) hc5 headE1).mono ?_
  rintro e w16 ⟨rfl, hb⟩
  have HB16 := Aside0.mk (below_step HB15.out hb)
  clear hb HB15
  go_wp2_with fail
  refine (parser_Equal.calls 5 A5 c5 h5L (some ad) c1 h1L false w16 (Kd.C_below HC5.out HB16.out) hc5 (Kd.C_below HC1.out HB16.out) hc1 headE2).mono ?_
  rintro e w17 ⟨rfl, hb⟩
  have HB17 := Aside0.mk (below_step HB16.out hb)
  clear hb HB16
  go_wp2_with fail
  go_ret
  exact ⟨rfl, below_step HB.out HB17.out⟩
def ambidexterlaw11_head.f : Option Bool := some true
theorem ambidexterlaw11_head.calls (r : Bool) (w : World) (h : ambidexterlaw11_head.f = some r) (hG : Glob w) :
    Calls Tryd.prog 9 #[] w fun e w' => e = .returned (.bool r) ∧ Below w.heap.size w w' := by
  obtain rfl := Option.some.inj h
  exact head_calls w hG
end Go.Proofs.YtonhcfecfifghaaDoor.PPx
namespace Go.Proofs.YtonhcfecfifghaaDoor.PPx
open Go.RowKit Go.Proofs.YtonhcfecfifghaaDoorW.PrintWords Go.Proofs.YtonhcfecfifghaaDoorW.PrintLast Go.Proofs.YtonhcfecfifghaaDoorW.PrintMore
set_option linter.unusedVariables false
set_option linter.unusedSimpArgs false
def ambidexterlaw11_ParserFormatIsCanonical.f (k : Nat) (a0 : ByteArray) : Option (Bool) := (ambidexterlaw11_head.f).bind fun t200 => (if (a0.size : Int) > 4000 then (some t200) else ((parser_Parse.f k a0).bind fun bt201 => ((parser_Format.f k bt201.1).bind fun t207 => ((parser_Parse.f k t207).bind fun bt208 => (if t200 = true then ((parser_Valid.f k bt201.1).bind fun t214 => (if t214 = true then (if (bt208.2.length : Int) = 0 then ((ambidexterref11_Same.f k bt201.1 bt208.1).bind fun t215 => (if t215 = true then ((parser_Format.f k bt208.1).bind fun t216 => (some (t216.toList == t207.toList))) else (some false))) else (some false)) else (some false))) else (some false))))))
theorem ambidexterlaw11_ParserFormatIsCanonical.mono : ∀ a0 k, LeO (ambidexterlaw11_ParserFormatIsCanonical.f k a0) (ambidexterlaw11_ParserFormatIsCanonical.f (k + 1) a0) := by
  intro a0 k
  unfold ambidexterlaw11_ParserFormatIsCanonical.f
  repeat' first
      | (with_reducible exact ambidexterref11_Same.mono _ _ _)
      | (with_reducible exact parser_Format.mono _ _)
      | (with_reducible exact parser_Parse.mono _ _)
      | (with_reducible exact parser_Valid.mono _ _)
      | (with_reducible exact LeO.refl _)
      | (with_reducible exact LeO.none _)
      | (with_reducible refine LeO.ite ?_ ?_)
      | (with_reducible refine LeO.bind ?_ (fun _ => ?_))
      | exact ambidexterref11_Same.mono _ _ _
      | exact parser_Format.mono _ _
      | exact parser_Parse.mono _ _
      | exact parser_Valid.mono _ _
      | exact LeO.none _
      | refine LeO.ite ?_ ?_
      | refine LeO.bind ?_ (fun _ => ?_)
set_option maxHeartbeats 8000000 in
set_option maxRecDepth 100000 in
theorem ambidexterlaw11_ParserFormatIsCanonical.calls (k : Nat) (a0 : ByteArray) (r : Bool) (w : World) (h : ambidexterlaw11_ParserFormatIsCanonical.f k a0 = some r) (hG : Glob w) :
    Calls Tryd.prog 4 #[.string a0] w fun e w' => e = .returned (.bool r) ∧ Below w.heap.size w w' := by
  have HGL := Aside0.mk hG
  clear hG
  have HB := Aside0.mk (Below.refl w.heap.size w)
  have H : ((ambidexterlaw11_head.f).bind fun t200 => (if (a0.size : Int) > 4000 then (some t200) else ((parser_Parse.f k a0).bind fun bt201 => ((parser_Format.f k bt201.1).bind fun t207 => ((parser_Parse.f k t207).bind fun bt208 => (if t200 = true then ((parser_Valid.f k bt201.1).bind fun t214 => (if t214 = true then (if (bt208.2.length : Int) = 0 then ((ambidexterref11_Same.f k bt201.1 bt208.1).bind fun t215 => (if t215 = true then ((parser_Format.f k bt208.1).bind fun t216 => (some (t216.toList == t207.toList))) else (some false))) else (some false)) else (some false))) else (some false))))))) = some r := h
  clear h
  replace H := Option.bind_eq_some_iff.mp H
  obtain ⟨t200, A20, H⟩ := H
  replace H : (if (a0.size : Int) > 4000 then (some t200) else ((parser_Parse.f k a0).bind fun bt201 => ((parser_Format.f k bt201.1).bind fun t207 => ((parser_Parse.f k t207).bind fun bt208 => (if t200 = true then ((parser_Valid.f k bt201.1).bind fun t214 => (if t214 = true then (if (bt208.2.length : Int) = 0 then ((ambidexterref11_Same.f k bt201.1 bt208.1).bind fun t215 => (if t215 = true then ((parser_Format.f k bt208.1).bind fun t216 => (some (t216.toList == t207.toList))) else (some false))) else (some false)) else (some false))) else (some false)))))) = some r := H
  have A2 := Aside0.mk A20
  clear A20
  by_cases c3 : (a0.size : Int) > 4000
  · rw [if_pos c3] at H
    have c3b0 : decide (4000 < (a0.size : Int)) = true := decide_eq_true c3
    have c3b1 : decide (4000 < a0.size) = true := decide_eq_true (by omega)
    clear c3
    obtain rfl := Option.some.inj H
    go_enter Tryd.func4, Tryd.ntmps4
    go_wp2_with (first | ((with_reducible refine gate_callee (f := 9) rfl ?_); refine goesL_ (some 9) rfl rfl Tryd.func9 (by kernel_rfl) rfl #[] rfl (by (try simp only [List.map_toArray, List.map_cons, List.map_nil]); first | done | rfl | (simp only [List.length_drop, List.length_take]; rfl)) ?_; (with_reducible refine (ambidexterlaw11_head.calls  t200 _ A2.out (HGL.out.below (by repeat (first | (with_reducible first | exact HB.out | apply below_alloc | apply pw_below_drewN | apply below_drew1) | exact HB.out)))).mono ?_); rintro e w4 ⟨rfl, hb⟩; refine ⟨_, rfl, ?_⟩; have n0_ := Aside0.mk (below_step (by repeat (first | (with_reducible first | exact HB.out | apply below_alloc | apply pw_below_drewN | apply below_drew1) | exact HB.out)) hb); clear HB; have HB := n0_; clear n0_; (try clear hb); (try clear hb2); (try clear hk); (try clear hi)))
    go_ret
    exact ⟨by first | rfl | (simp [errW_none, errW_some] <;> rfl) | (simp [*, errW_none, errW_some] <;> rfl), by repeat (first | (with_reducible first | exact HB.out | apply below_alloc | apply pw_below_drewN | apply below_drew1) | exact HB.out)⟩
  · rw [if_neg c3] at H
    have c3b0 : decide (4000 < (a0.size : Int)) = false := decide_eq_false c3
    have c3b1 : decide (4000 < a0.size) = false := decide_eq_false (by omega)
    clear c3
    replace H := Option.bind_eq_some_iff.mp H
    obtain ⟨⟨t201, t202⟩, A50, H⟩ := H
    replace H : ((parser_Format.f k t201).bind fun t207 => ((parser_Parse.f k t207).bind fun bt208 => (if t200 = true then ((parser_Valid.f k t201).bind fun t214 => (if t214 = true then (if (bt208.2.length : Int) = 0 then ((ambidexterref11_Same.f k t201 bt208.1).bind fun t215 => (if t215 = true then ((parser_Format.f k bt208.1).bind fun t216 => (some (t216.toList == t207.toList))) else (some false))) else (some false)) else (some false))) else (some false)))) = some r := H
    have A5 := Aside0.mk A50
    clear A50
    replace H := Option.bind_eq_some_iff.mp H
    obtain ⟨t207, A60, H⟩ := H
    replace H : ((parser_Parse.f k t207).bind fun bt208 => (if t200 = true then ((parser_Valid.f k t201).bind fun t214 => (if t214 = true then (if (bt208.2.length : Int) = 0 then ((ambidexterref11_Same.f k t201 bt208.1).bind fun t215 => (if t215 = true then ((parser_Format.f k bt208.1).bind fun t216 => (some (t216.toList == t207.toList))) else (some false))) else (some false)) else (some false))) else (some false))) = some r := H
    have A6 := Aside0.mk A60
    clear A60
    replace H := Option.bind_eq_some_iff.mp H
    obtain ⟨⟨t208, t209⟩, A70, H⟩ := H
    replace H : (if t200 = true then ((parser_Valid.f k t201).bind fun t214 => (if t214 = true then (if (t209.length : Int) = 0 then ((ambidexterref11_Same.f k t201 t208).bind fun t215 => (if t215 = true then ((parser_Format.f k t208).bind fun t216 => (some (t216.toList == t207.toList))) else (some false))) else (some false)) else (some false))) else (some false)) = some r := H
    have A7 := Aside0.mk A70
    clear A70
    by_cases c8 : t200 = true
    · subst c8
      have H1 : ((parser_Valid.f k t201).bind fun t214 => (if t214 = true then (if (t209.length : Int) = 0 then ((ambidexterref11_Same.f k t201 t208).bind fun t215 => (if t215 = true then ((parser_Format.f k t208).bind fun t216 => (some (t216.toList == t207.toList))) else (some false))) else (some false)) else (some false))) = some r := by rw [if_pos rfl] at H; exact H
      clear H
      have H := H1
      clear H1
      replace H := Option.bind_eq_some_iff.mp H
      obtain ⟨t214, A90, H⟩ := H
      replace H : (if t214 = true then (if (t209.length : Int) = 0 then ((ambidexterref11_Same.f k t201 t208).bind fun t215 => (if t215 = true then ((parser_Format.f k t208).bind fun t216 => (some (t216.toList == t207.toList))) else (some false))) else (some false)) else (some false)) = some r := H
      have A9 := Aside0.mk A90
      clear A90
      by_cases c10 : t214 = true
      · subst c10
        have H1 : (if (t209.length : Int) = 0 then ((ambidexterref11_Same.f k t201 t208).bind fun t215 => (if t215 = true then ((parser_Format.f k t208).bind fun t216 => (some (t216.toList == t207.toList))) else (some false))) else (some false)) = some r := by rw [if_pos rfl] at H; exact H
        clear H
        have H := H1
        clear H1
        by_cases c11 : (t209.length : Int) = 0
        · rw [if_pos c11] at H
          have c11b0 : ((t209.length : Int) == 0) = true := beq_iff_eq.mpr c11
          have c11b1 : ((t209.length : Int) != 0) = false := bne_eq_false_iff_eq.mpr c11
          clear c11
          replace H := Option.bind_eq_some_iff.mp H
          obtain ⟨t215, A120, H⟩ := H
          replace H : (if t215 = true then ((parser_Format.f k t208).bind fun t216 => (some (t216.toList == t207.toList))) else (some false)) = some r := H
          have A12 := Aside0.mk A120
          clear A120
          by_cases c13 : t215 = true
          · subst c13
            have H1 : ((parser_Format.f k t208).bind fun t216 => (some (t216.toList == t207.toList))) = some r := by rw [if_pos rfl] at H; exact H
            clear H
            have H := H1
            clear H1
            replace H := Option.bind_eq_some_iff.mp H
            obtain ⟨t216, A140, H⟩ := H
            replace H : (some (t216.toList == t207.toList)) = some r := H
            have A14 := Aside0.mk A140
            clear A140
            obtain rfl := Option.some.inj H
            go_enter Tryd.func4, Tryd.ntmps4
            go_wp2_with (first | ((with_reducible refine gate_callee (f := 9) rfl ?_); refine goesL_ (some 9) rfl rfl Tryd.func9 (by kernel_rfl) rfl #[] rfl (by (try simp only [List.map_toArray, List.map_cons, List.map_nil]); first | done | rfl | (simp only [List.length_drop, List.length_take]; rfl)) ?_; (with_reducible refine (ambidexterlaw11_head.calls  true _ A2.out (HGL.out.below (by repeat (first | (with_reducible first | exact HB.out | apply below_alloc | apply pw_below_drewN | apply below_drew1) | exact HB.out)))).mono ?_); rintro e w15 ⟨rfl, hb⟩; refine ⟨_, rfl, ?_⟩; have n0_ := Aside0.mk (below_step (by repeat (first | (with_reducible first | exact HB.out | apply below_alloc | apply pw_below_drewN | apply below_drew1) | exact HB.out)) hb); clear HB; have HB := n0_; clear n0_; (try clear hb); (try clear hb2); (try clear hk); (try clear hi)) | ((with_reducible refine gate_callee (f := 12) rfl ?_); refine goesL_ (some 16) rfl rfl Tryd.func12 (by kernel_rfl) rfl #[.string a0] rfl (by (try simp only [List.map_toArray, List.map_cons, List.map_nil]); first | done | rfl | (simp only [List.length_drop, List.length_take]; rfl)) ?_; (with_reducible refine (parser_Parse.calls k a0 t201 t202 _ A5.out (HGL.out.below (by repeat (first | (with_reducible first | exact HB.out | apply below_alloc | apply pw_below_drewN | apply below_drew1) | exact HB.out)))).mono ?_); rintro e w16 ⟨v203, v205, rfl, ho0, ho1, hb⟩; refine ⟨_, rfl, ?_⟩; have n0_ := Aside0.mk (Kd.R_lower ho0 (below_size (by repeat (first | (with_reducible first | exact HB.out | apply below_alloc | apply pw_below_drewN | apply below_drew1) | exact HB.out)))); have n1_ := Aside0.mk (Kd.R_lower ho1 (below_size (by repeat (first | (with_reducible first | exact HB.out | apply below_alloc | apply pw_below_drewN | apply below_drew1) | exact HB.out)))); have n2_ := Aside0.mk (below_step (by repeat (first | (with_reducible first | exact HB.out | apply below_alloc | apply pw_below_drewN | apply below_drew1) | exact HB.out)) hb); clear HB; have HO204 := n0_; have HO206 := n1_; have HB := n2_; clear n0_ n1_ n2_; (try clear hb); (try clear hb2); (try clear hk); (try clear hi); (try clear ho0); (try clear ho1); obtain ⟨Ao17, co17, eo17⟩ := Kd.R_slice HO204.out; subst eo17) | ((with_reducible refine gate_callee (f := 13) rfl ?_); refine goesL_ (some 20) rfl rfl Tryd.func13 (by kernel_rfl) rfl #[.slice Ao17 t201.length co17] rfl (by (try simp only [List.map_toArray, List.map_cons, List.map_nil]); first | done | rfl | (simp only [List.length_drop, List.length_take]; rfl)) ?_; (with_reducible refine (parser_Format.calls k _ _ t201 t207 _ ?side1 ?side2 A6.out (HGL.out.below (by repeat (first | (with_reducible first | exact HB.out | apply below_alloc | apply pw_below_drewN | apply below_drew1) | exact HB.out)))).mono ?_); (case side1 => repeat (first | exact (Kd.R_reads' HO204.out).2.2 | (with_reducible refine Kd.C_alloc ?_ _) | (with_reducible refine Kd.C_drewN ?_ _) | (with_reducible refine Kd.C_drew ?_))); (case side2 => exact (Kd.R_reads' HO204.out).2.1); rintro e w18 ⟨rfl, hb⟩; refine ⟨_, rfl, ?_⟩; have n0_ := Aside0.mk (Kd.R_below (by (with_reducible repeat (first | apply Kd.R_alloc | apply Kd.R_drewN | apply Kd.R_drew)); exact HO204.out) hb); have n1_ := Aside0.mk (Kd.R_below (by (with_reducible repeat (first | apply Kd.R_alloc | apply Kd.R_drewN | apply Kd.R_drew)); exact HO206.out) hb); have n2_ := Aside0.mk (below_step (by repeat (first | (with_reducible first | exact HB.out | apply below_alloc | apply pw_below_drewN | apply below_drew1) | exact HB.out)) hb); clear HO204; clear HO206; clear HB; have HO204 := n0_; have HO206 := n1_; have HB := n2_; clear n0_ n1_ n2_; (try clear hb); (try clear hb2); (try clear hk); (try clear hi)) | ((with_reducible refine gate_callee (f := 12) rfl ?_); refine goesL_ (some 23) rfl rfl Tryd.func12 (by kernel_rfl) rfl #[.string t207] rfl (by (try simp only [List.map_toArray, List.map_cons, List.map_nil]); first | done | rfl | (simp only [List.length_drop, List.length_take]; rfl)) ?_; (with_reducible refine (parser_Parse.calls k t207 t208 t209 _ A7.out (HGL.out.below (by repeat (first | (with_reducible first | exact HB.out | apply below_alloc | apply pw_below_drewN | apply below_drew1) | exact HB.out)))).mono ?_); rintro e w19 ⟨v210, v212, rfl, ho0, ho1, hb⟩; refine ⟨_, rfl, ?_⟩; have n0_ := Aside0.mk (Kd.R_elder' (by (with_reducible repeat (first | apply Kd.R_alloc | apply Kd.R_drewN | apply Kd.R_drew)); exact HO204.out) (Kd.R_base ho0) hb); have n1_ := Aside0.mk (Kd.R_elder' (by (with_reducible repeat (first | apply Kd.R_alloc | apply Kd.R_drewN | apply Kd.R_drew)); exact HO206.out) (Kd.R_base ho1) hb); have n2_ := Aside0.mk (Kd.R_lower (Kd.R_new' ho0 (Kd.R_lt (by (with_reducible repeat (first | apply Kd.R_alloc | apply Kd.R_drewN | apply Kd.R_drew)); exact HO204.out))) (below_size (by repeat (first | (with_reducible first | exact HB.out | apply below_alloc | apply pw_below_drewN | apply below_drew1) | exact HB.out)))); have n3_ := Aside0.mk (Kd.R_lower (Kd.R_new' ho1 (Kd.R_lt (by (with_reducible repeat (first | apply Kd.R_alloc | apply Kd.R_drewN | apply Kd.R_drew)); exact HO206.out))) (below_size (by repeat (first | (with_reducible first | exact HB.out | apply below_alloc | apply pw_below_drewN | apply below_drew1) | exact HB.out)))); have n4_ := Aside0.mk (below_step (by repeat (first | (with_reducible first | exact HB.out | apply below_alloc | apply pw_below_drewN | apply below_drew1) | exact HB.out)) hb); clear HO204; clear HO206; clear HB; have HO204 := n0_; have HO206 := n1_; have HO211 := n2_; have HO213 := n3_; have HB := n4_; clear n0_ n1_ n2_ n3_ n4_; (try clear hb); (try clear hb2); (try clear hk); (try clear hi); (try clear ho0); (try clear ho1)) | (go_at_call 11; (with_reducible refine (parser_Valid.calls k _ _ t201 true _ ?side1 ?side2 A9.out (HGL.out.below (by repeat (first | (with_reducible first | exact HB.out | apply below_alloc | apply pw_below_drewN | apply below_drew1) | exact HB.out)))).mono ?_); (case side1 => repeat (first | exact (Kd.R_reads' HO204.out).2.2 | (with_reducible refine Kd.C_alloc ?_ _) | (with_reducible refine Kd.C_drewN ?_ _) | (with_reducible refine Kd.C_drew ?_))); (case side2 => exact (Kd.R_reads' HO204.out).2.1); rintro e w20 ⟨rfl, hb⟩; have n0_ := Aside0.mk (Kd.R_below (by (with_reducible repeat (first | apply Kd.R_alloc | apply Kd.R_drewN | apply Kd.R_drew)); exact HO204.out) hb); have n1_ := Aside0.mk (Kd.R_below (by (with_reducible repeat (first | apply Kd.R_alloc | apply Kd.R_drewN | apply Kd.R_drew)); exact HO206.out) hb); have n2_ := Aside0.mk (Kd.R_below (by (with_reducible repeat (first | apply Kd.R_alloc | apply Kd.R_drewN | apply Kd.R_drew)); exact HO211.out) hb); have n3_ := Aside0.mk (Kd.R_below (by (with_reducible repeat (first | apply Kd.R_alloc | apply Kd.R_drewN | apply Kd.R_drew)); exact HO213.out) hb); have n4_ := Aside0.mk (below_step (by repeat (first | (with_reducible first | exact HB.out | apply below_alloc | apply pw_below_drewN | apply below_drew1) | exact HB.out)) hb); clear HO204; clear HO206; clear HO211; clear HO213; clear HB; have HO204 := n0_; have HO206 := n1_; have HO211 := n2_; have HO213 := n3_; have HB := n4_; clear n0_ n1_ n2_ n3_ n4_; (try clear hb); (try clear hb2); (try clear hk); (try clear hi); obtain ⟨Ao21, co21, eo21⟩ := Kd.R_slice HO213.out; subst eo21; obtain ⟨Ao22, co22, eo22⟩ := Kd.R_slice HO211.out; subst eo22) | (go_at_call 15; (with_reducible refine (ambidexterref11_Same.calls k _ _ t201 _ _ t208 true _ ?side1 ?side2 ?side3 ?side4 A12.out).mono ?_); (case side1 => repeat (first | exact (Kd.R_reads' HO204.out).2.2 | (with_reducible refine Kd.C_alloc ?_ _) | (with_reducible refine Kd.C_drewN ?_ _) | (with_reducible refine Kd.C_drew ?_))); (case side2 => exact (Kd.R_reads' HO204.out).2.1); (case side3 => repeat (first | exact (Kd.R_reads' HO211.out).2.2 | (with_reducible refine Kd.C_alloc ?_ _) | (with_reducible refine Kd.C_drewN ?_ _) | (with_reducible refine Kd.C_drew ?_))); (case side4 => exact (Kd.R_reads' HO211.out).2.1); rintro e w23 ⟨rfl, hb⟩; have n0_ := Aside0.mk (Kd.R_below (by (with_reducible repeat (first | apply Kd.R_alloc | apply Kd.R_drewN | apply Kd.R_drew)); exact HO204.out) hb); have n1_ := Aside0.mk (Kd.R_below (by (with_reducible repeat (first | apply Kd.R_alloc | apply Kd.R_drewN | apply Kd.R_drew)); exact HO206.out) hb); have n2_ := Aside0.mk (Kd.R_below (by (with_reducible repeat (first | apply Kd.R_alloc | apply Kd.R_drewN | apply Kd.R_drew)); exact HO211.out) hb); have n3_ := Aside0.mk (Kd.R_below (by (with_reducible repeat (first | apply Kd.R_alloc | apply Kd.R_drewN | apply Kd.R_drew)); exact HO213.out) hb); have n4_ := Aside0.mk (below_step (by repeat (first | (with_reducible first | exact HB.out | apply below_alloc | apply pw_below_drewN | apply below_drew1) | exact HB.out)) hb); clear HO204; clear HO206; clear HO211; clear HO213; clear HB; have HO204 := n0_; have HO206 := n1_; have HO211 := n2_; have HO213 := n3_; have HB := n4_; clear n0_ n1_ n2_ n3_ n4_; (try clear hb); (try clear hb2); (try clear hk); (try clear hi)) | (go_at_call 13; (with_reducible refine (parser_Format.calls k _ _ t208 t216 _ ?side1 ?side2 A14.out (HGL.out.below (by repeat (first | (with_reducible first | exact HB.out | apply below_alloc | apply pw_below_drewN | apply below_drew1) | exact HB.out)))).mono ?_); (case side1 => repeat (first | exact (Kd.R_reads' HO211.out).2.2 | (with_reducible refine Kd.C_alloc ?_ _) | (with_reducible refine Kd.C_drewN ?_ _) | (with_reducible refine Kd.C_drew ?_))); (case side2 => exact (Kd.R_reads' HO211.out).2.1); rintro e w24 ⟨rfl, hb⟩; have n0_ := Aside0.mk (Kd.R_below (by (with_reducible repeat (first | apply Kd.R_alloc | apply Kd.R_drewN | apply Kd.R_drew)); exact HO204.out) hb); have n1_ := Aside0.mk (Kd.R_below (by (with_reducible repeat (first | apply Kd.R_alloc | apply Kd.R_drewN | apply Kd.R_drew)); exact HO206.out) hb); have n2_ := Aside0.mk (Kd.R_below (by (with_reducible repeat (first | apply Kd.R_alloc | apply Kd.R_drewN | apply Kd.R_drew)); exact HO211.out) hb); have n3_ := Aside0.mk (Kd.R_below (by (with_reducible repeat (first | apply Kd.R_alloc | apply Kd.R_drewN | apply Kd.R_drew)); exact HO213.out) hb); have n4_ := Aside0.mk (below_step (by repeat (first | (with_reducible first | exact HB.out | apply below_alloc | apply pw_below_drewN | apply below_drew1) | exact HB.out)) hb); clear HO204; clear HO206; clear HO211; clear HO213; clear HB; have HO204 := n0_; have HO206 := n1_; have HO211 := n2_; have HO213 := n3_; have HB := n4_; clear n0_ n1_ n2_ n3_ n4_; (try clear hb); (try clear hb2); (try clear hk); (try clear hi)))
            go_ret
            exact ⟨by first | rfl | (simp [errW_none, errW_some] <;> rfl) | (simp [*, errW_none, errW_some] <;> rfl), by repeat (first | (with_reducible first | exact HB.out | apply below_alloc | apply pw_below_drewN | apply below_drew1) | exact HB.out)⟩
          · replace c13 := Bool.eq_false_iff.mpr c13
            subst c13
            have H1 : (some false) = some r := by rw [if_neg (show ¬ (false = true) by decide)] at H; exact H
            clear H
            have H := H1
            clear H1
            obtain rfl := Option.some.inj H
            go_enter Tryd.func4, Tryd.ntmps4
            go_wp2_with (first | ((with_reducible refine gate_callee (f := 9) rfl ?_); refine goesL_ (some 9) rfl rfl Tryd.func9 (by kernel_rfl) rfl #[] rfl (by (try simp only [List.map_toArray, List.map_cons, List.map_nil]); first | done | rfl | (simp only [List.length_drop, List.length_take]; rfl)) ?_; (with_reducible refine (ambidexterlaw11_head.calls  true _ A2.out (HGL.out.below (by repeat (first | (with_reducible first | exact HB.out | apply below_alloc | apply pw_below_drewN | apply below_drew1) | exact HB.out)))).mono ?_); rintro e w25 ⟨rfl, hb⟩; refine ⟨_, rfl, ?_⟩; have n0_ := Aside0.mk (below_step (by repeat (first | (with_reducible first | exact HB.out | apply below_alloc | apply pw_below_drewN | apply below_drew1) | exact HB.out)) hb); clear HB; have HB := n0_; clear n0_; (try clear hb); (try clear hb2); (try clear hk); (try clear hi)) | ((with_reducible refine gate_callee (f := 12) rfl ?_); refine goesL_ (some 16) rfl rfl Tryd.func12 (by kernel_rfl) rfl #[.string a0] rfl (by (try simp only [List.map_toArray, List.map_cons, List.map_nil]); first | done | rfl | (simp only [List.length_drop, List.length_take]; rfl)) ?_; (with_reducible refine (parser_Parse.calls k a0 t201 t202 _ A5.out (HGL.out.below (by repeat (first | (with_reducible first | exact HB.out | apply below_alloc | apply pw_below_drewN | apply below_drew1) | exact HB.out)))).mono ?_); rintro e w26 ⟨v203, v205, rfl, ho0, ho1, hb⟩; refine ⟨_, rfl, ?_⟩; have n0_ := Aside0.mk (Kd.R_lower ho0 (below_size (by repeat (first | (with_reducible first | exact HB.out | apply below_alloc | apply pw_below_drewN | apply below_drew1) | exact HB.out)))); have n1_ := Aside0.mk (Kd.R_lower ho1 (below_size (by repeat (first | (with_reducible first | exact HB.out | apply below_alloc | apply pw_below_drewN | apply below_drew1) | exact HB.out)))); have n2_ := Aside0.mk (below_step (by repeat (first | (with_reducible first | exact HB.out | apply below_alloc | apply pw_below_drewN | apply below_drew1) | exact HB.out)) hb); clear HB; have HO204 := n0_; have HO206 := n1_; have HB := n2_; clear n0_ n1_ n2_; (try clear hb); (try clear hb2); (try clear hk); (try clear hi); (try clear ho0); (try clear ho1); obtain ⟨Ao27, co27, eo27⟩ := Kd.R_slice HO204.out; subst eo27) | ((with_reducible refine gate_callee (f := 13) rfl ?_); refine goesL_ (some 20) rfl rfl Tryd.func13 (by kernel_rfl) rfl #[.slice Ao27 t201.length co27] rfl (by (try simp only [List.map_toArray, List.map_cons, List.map_nil]); first | done | rfl | (simp only [List.length_drop, List.length_take]; rfl)) ?_; (with_reducible refine (parser_Format.calls k _ _ t201 t207 _ ?side1 ?side2 A6.out (HGL.out.below (by repeat (first | (with_reducible first | exact HB.out | apply below_alloc | apply pw_below_drewN | apply below_drew1) | exact HB.out)))).mono ?_); (case side1 => repeat (first | exact (Kd.R_reads' HO204.out).2.2 | (with_reducible refine Kd.C_alloc ?_ _) | (with_reducible refine Kd.C_drewN ?_ _) | (with_reducible refine Kd.C_drew ?_))); (case side2 => exact (Kd.R_reads' HO204.out).2.1); rintro e w28 ⟨rfl, hb⟩; refine ⟨_, rfl, ?_⟩; have n0_ := Aside0.mk (Kd.R_below (by (with_reducible repeat (first | apply Kd.R_alloc | apply Kd.R_drewN | apply Kd.R_drew)); exact HO204.out) hb); have n1_ := Aside0.mk (Kd.R_below (by (with_reducible repeat (first | apply Kd.R_alloc | apply Kd.R_drewN | apply Kd.R_drew)); exact HO206.out) hb); have n2_ := Aside0.mk (below_step (by repeat (first | (with_reducible first | exact HB.out | apply below_alloc | apply pw_below_drewN | apply below_drew1) | exact HB.out)) hb); clear HO204; clear HO206; clear HB; have HO204 := n0_; have HO206 := n1_; have HB := n2_; clear n0_ n1_ n2_; (try clear hb); (try clear hb2); (try clear hk); (try clear hi)) | ((with_reducible refine gate_callee (f := 12) rfl ?_); refine goesL_ (some 23) rfl rfl Tryd.func12 (by kernel_rfl) rfl #[.string t207] rfl (by (try simp only [List.map_toArray, List.map_cons, List.map_nil]); first | done | rfl | (simp only [List.length_drop, List.length_take]; rfl)) ?_; (with_reducible refine (parser_Parse.calls k t207 t208 t209 _ A7.out (HGL.out.below (by repeat (first | (with_reducible first | exact HB.out | apply below_alloc | apply pw_below_drewN | apply below_drew1) | exact HB.out)))).mono ?_); rintro e w29 ⟨v210, v212, rfl, ho0, ho1, hb⟩; refine ⟨_, rfl, ?_⟩; have n0_ := Aside0.mk (Kd.R_elder' (by (with_reducible repeat (first | apply Kd.R_alloc | apply Kd.R_drewN | apply Kd.R_drew)); exact HO204.out) (Kd.R_base ho0) hb); have n1_ := Aside0.mk (Kd.R_elder' (by (with_reducible repeat (first | apply Kd.R_alloc | apply Kd.R_drewN | apply Kd.R_drew)); exact HO206.out) (Kd.R_base ho1) hb); have n2_ := Aside0.mk (Kd.R_lower (Kd.R_new' ho0 (Kd.R_lt (by (with_reducible repeat (first | apply Kd.R_alloc | apply Kd.R_drewN | apply Kd.R_drew)); exact HO204.out))) (below_size (by repeat (first | (with_reducible first | exact HB.out | apply below_alloc | apply pw_below_drewN | apply below_drew1) | exact HB.out)))); have n3_ := Aside0.mk (Kd.R_lower (Kd.R_new' ho1 (Kd.R_lt (by (with_reducible repeat (first | apply Kd.R_alloc | apply Kd.R_drewN | apply Kd.R_drew)); exact HO206.out))) (below_size (by repeat (first | (with_reducible first | exact HB.out | apply below_alloc | apply pw_below_drewN | apply below_drew1) | exact HB.out)))); have n4_ := Aside0.mk (below_step (by repeat (first | (with_reducible first | exact HB.out | apply below_alloc | apply pw_below_drewN | apply below_drew1) | exact HB.out)) hb); clear HO204; clear HO206; clear HB; have HO204 := n0_; have HO206 := n1_; have HO211 := n2_; have HO213 := n3_; have HB := n4_; clear n0_ n1_ n2_ n3_ n4_; (try clear hb); (try clear hb2); (try clear hk); (try clear hi); (try clear ho0); (try clear ho1)) | (go_at_call 11; (with_reducible refine (parser_Valid.calls k _ _ t201 true _ ?side1 ?side2 A9.out (HGL.out.below (by repeat (first | (with_reducible first | exact HB.out | apply below_alloc | apply pw_below_drewN | apply below_drew1) | exact HB.out)))).mono ?_); (case side1 => repeat (first | exact (Kd.R_reads' HO204.out).2.2 | (with_reducible refine Kd.C_alloc ?_ _) | (with_reducible refine Kd.C_drewN ?_ _) | (with_reducible refine Kd.C_drew ?_))); (case side2 => exact (Kd.R_reads' HO204.out).2.1); rintro e w30 ⟨rfl, hb⟩; have n0_ := Aside0.mk (Kd.R_below (by (with_reducible repeat (first | apply Kd.R_alloc | apply Kd.R_drewN | apply Kd.R_drew)); exact HO204.out) hb); have n1_ := Aside0.mk (Kd.R_below (by (with_reducible repeat (first | apply Kd.R_alloc | apply Kd.R_drewN | apply Kd.R_drew)); exact HO206.out) hb); have n2_ := Aside0.mk (Kd.R_below (by (with_reducible repeat (first | apply Kd.R_alloc | apply Kd.R_drewN | apply Kd.R_drew)); exact HO211.out) hb); have n3_ := Aside0.mk (Kd.R_below (by (with_reducible repeat (first | apply Kd.R_alloc | apply Kd.R_drewN | apply Kd.R_drew)); exact HO213.out) hb); have n4_ := Aside0.mk (below_step (by repeat (first | (with_reducible first | exact HB.out | apply below_alloc | apply pw_below_drewN | apply below_drew1) | exact HB.out)) hb); clear HO204; clear HO206; clear HO211; clear HO213; clear HB; have HO204 := n0_; have HO206 := n1_; have HO211 := n2_; have HO213 := n3_; have HB := n4_; clear n0_ n1_ n2_ n3_ n4_; (try clear hb); (try clear hb2); (try clear hk); (try clear hi); obtain ⟨Ao31, co31, eo31⟩ := Kd.R_slice HO213.out; subst eo31; obtain ⟨Ao32, co32, eo32⟩ := Kd.R_slice HO211.out; subst eo32) | (go_at_call 15; (with_reducible refine (ambidexterref11_Same.calls k _ _ t201 _ _ t208 false _ ?side1 ?side2 ?side3 ?side4 A12.out).mono ?_); (case side1 => repeat (first | exact (Kd.R_reads' HO204.out).2.2 | (with_reducible refine Kd.C_alloc ?_ _) | (with_reducible refine Kd.C_drewN ?_ _) | (with_reducible refine Kd.C_drew ?_))); (case side2 => exact (Kd.R_reads' HO204.out).2.1); (case side3 => repeat (first | exact (Kd.R_reads' HO211.out).2.2 | (with_reducible refine Kd.C_alloc ?_ _) | (with_reducible refine Kd.C_drewN ?_ _) | (with_reducible refine Kd.C_drew ?_))); (case side4 => exact (Kd.R_reads' HO211.out).2.1); rintro e w33 ⟨rfl, hb⟩; have n0_ := Aside0.mk (Kd.R_below (by (with_reducible repeat (first | apply Kd.R_alloc | apply Kd.R_drewN | apply Kd.R_drew)); exact HO204.out) hb); have n1_ := Aside0.mk (Kd.R_below (by (with_reducible repeat (first | apply Kd.R_alloc | apply Kd.R_drewN | apply Kd.R_drew)); exact HO206.out) hb); have n2_ := Aside0.mk (Kd.R_below (by (with_reducible repeat (first | apply Kd.R_alloc | apply Kd.R_drewN | apply Kd.R_drew)); exact HO211.out) hb); have n3_ := Aside0.mk (Kd.R_below (by (with_reducible repeat (first | apply Kd.R_alloc | apply Kd.R_drewN | apply Kd.R_drew)); exact HO213.out) hb); have n4_ := Aside0.mk (below_step (by repeat (first | (with_reducible first | exact HB.out | apply below_alloc | apply pw_below_drewN | apply below_drew1) | exact HB.out)) hb); clear HO204; clear HO206; clear HO211; clear HO213; clear HB; have HO204 := n0_; have HO206 := n1_; have HO211 := n2_; have HO213 := n3_; have HB := n4_; clear n0_ n1_ n2_ n3_ n4_; (try clear hb); (try clear hb2); (try clear hk); (try clear hi)))
            go_ret
            exact ⟨by first | rfl | (simp [errW_none, errW_some] <;> rfl) | (simp [*, errW_none, errW_some] <;> rfl), by repeat (first | (with_reducible first | exact HB.out | apply below_alloc | apply pw_below_drewN | apply below_drew1) | exact HB.out)⟩
        · rw [if_neg c11] at H
          have c11b0 : ((t209.length : Int) == 0) = false := beq_eq_false_iff_ne.mpr c11
          have c11b1 : ((t209.length : Int) != 0) = true := bne_iff_ne.mpr c11
          have c11b2 : ¬ (t209 = []) := fun h_ => c11 (by rw [h_]; rfl)
          obtain rfl := Option.some.inj H
          go_enter Tryd.func4, Tryd.ntmps4
          go_wp2_with (first | ((with_reducible refine gate_callee (f := 9) rfl ?_); refine goesL_ (some 9) rfl rfl Tryd.func9 (by kernel_rfl) rfl #[] rfl (by (try simp only [List.map_toArray, List.map_cons, List.map_nil]); first | done | rfl | (simp only [List.length_drop, List.length_take]; rfl)) ?_; (with_reducible refine (ambidexterlaw11_head.calls  true _ A2.out (HGL.out.below (by repeat (first | (with_reducible first | exact HB.out | apply below_alloc | apply pw_below_drewN | apply below_drew1) | exact HB.out)))).mono ?_); rintro e w34 ⟨rfl, hb⟩; refine ⟨_, rfl, ?_⟩; have n0_ := Aside0.mk (below_step (by repeat (first | (with_reducible first | exact HB.out | apply below_alloc | apply pw_below_drewN | apply below_drew1) | exact HB.out)) hb); clear HB; have HB := n0_; clear n0_; (try clear hb); (try clear hb2); (try clear hk); (try clear hi)) | ((with_reducible refine gate_callee (f := 12) rfl ?_); refine goesL_ (some 16) rfl rfl Tryd.func12 (by kernel_rfl) rfl #[.string a0] rfl (by (try simp only [List.map_toArray, List.map_cons, List.map_nil]); first | done | rfl | (simp only [List.length_drop, List.length_take]; rfl)) ?_; (with_reducible refine (parser_Parse.calls k a0 t201 t202 _ A5.out (HGL.out.below (by repeat (first | (with_reducible first | exact HB.out | apply below_alloc | apply pw_below_drewN | apply below_drew1) | exact HB.out)))).mono ?_); rintro e w35 ⟨v203, v205, rfl, ho0, ho1, hb⟩; refine ⟨_, rfl, ?_⟩; have n0_ := Aside0.mk (Kd.R_lower ho0 (below_size (by repeat (first | (with_reducible first | exact HB.out | apply below_alloc | apply pw_below_drewN | apply below_drew1) | exact HB.out)))); have n1_ := Aside0.mk (Kd.R_lower ho1 (below_size (by repeat (first | (with_reducible first | exact HB.out | apply below_alloc | apply pw_below_drewN | apply below_drew1) | exact HB.out)))); have n2_ := Aside0.mk (below_step (by repeat (first | (with_reducible first | exact HB.out | apply below_alloc | apply pw_below_drewN | apply below_drew1) | exact HB.out)) hb); clear HB; have HO204 := n0_; have HO206 := n1_; have HB := n2_; clear n0_ n1_ n2_; (try clear hb); (try clear hb2); (try clear hk); (try clear hi); (try clear ho0); (try clear ho1); obtain ⟨Ao36, co36, eo36⟩ := Kd.R_slice HO204.out; subst eo36) | ((with_reducible refine gate_callee (f := 13) rfl ?_); refine goesL_ (some 20) rfl rfl Tryd.func13 (by kernel_rfl) rfl #[.slice Ao36 t201.length co36] rfl (by (try simp only [List.map_toArray, List.map_cons, List.map_nil]); first | done | rfl | (simp only [List.length_drop, List.length_take]; rfl)) ?_; (with_reducible refine (parser_Format.calls k _ _ t201 t207 _ ?side1 ?side2 A6.out (HGL.out.below (by repeat (first | (with_reducible first | exact HB.out | apply below_alloc | apply pw_below_drewN | apply below_drew1) | exact HB.out)))).mono ?_); (case side1 => repeat (first | exact (Kd.R_reads' HO204.out).2.2 | (with_reducible refine Kd.C_alloc ?_ _) | (with_reducible refine Kd.C_drewN ?_ _) | (with_reducible refine Kd.C_drew ?_))); (case side2 => exact (Kd.R_reads' HO204.out).2.1); rintro e w37 ⟨rfl, hb⟩; refine ⟨_, rfl, ?_⟩; have n0_ := Aside0.mk (Kd.R_below (by (with_reducible repeat (first | apply Kd.R_alloc | apply Kd.R_drewN | apply Kd.R_drew)); exact HO204.out) hb); have n1_ := Aside0.mk (Kd.R_below (by (with_reducible repeat (first | apply Kd.R_alloc | apply Kd.R_drewN | apply Kd.R_drew)); exact HO206.out) hb); have n2_ := Aside0.mk (below_step (by repeat (first | (with_reducible first | exact HB.out | apply below_alloc | apply pw_below_drewN | apply below_drew1) | exact HB.out)) hb); clear HO204; clear HO206; clear HB; have HO204 := n0_; have HO206 := n1_; have HB := n2_; clear n0_ n1_ n2_; (try clear hb); (try clear hb2); (try clear hk); (try clear hi)) | ((with_reducible refine gate_callee (f := 12) rfl ?_); refine goesL_ (some 23) rfl rfl Tryd.func12 (by kernel_rfl) rfl #[.string t207] rfl (by (try simp only [List.map_toArray, List.map_cons, List.map_nil]); first | done | rfl | (simp only [List.length_drop, List.length_take]; rfl)) ?_; (with_reducible refine (parser_Parse.calls k t207 t208 t209 _ A7.out (HGL.out.below (by repeat (first | (with_reducible first | exact HB.out | apply below_alloc | apply pw_below_drewN | apply below_drew1) | exact HB.out)))).mono ?_); rintro e w38 ⟨v210, v212, rfl, ho0, ho1, hb⟩; refine ⟨_, rfl, ?_⟩; have n0_ := Aside0.mk (Kd.R_elder' (by (with_reducible repeat (first | apply Kd.R_alloc | apply Kd.R_drewN | apply Kd.R_drew)); exact HO204.out) (Kd.R_base ho0) hb); have n1_ := Aside0.mk (Kd.R_elder' (by (with_reducible repeat (first | apply Kd.R_alloc | apply Kd.R_drewN | apply Kd.R_drew)); exact HO206.out) (Kd.R_base ho1) hb); have n2_ := Aside0.mk (Kd.R_lower (Kd.R_new' ho0 (Kd.R_lt (by (with_reducible repeat (first | apply Kd.R_alloc | apply Kd.R_drewN | apply Kd.R_drew)); exact HO204.out))) (below_size (by repeat (first | (with_reducible first | exact HB.out | apply below_alloc | apply pw_below_drewN | apply below_drew1) | exact HB.out)))); have n3_ := Aside0.mk (Kd.R_lower (Kd.R_new' ho1 (Kd.R_lt (by (with_reducible repeat (first | apply Kd.R_alloc | apply Kd.R_drewN | apply Kd.R_drew)); exact HO206.out))) (below_size (by repeat (first | (with_reducible first | exact HB.out | apply below_alloc | apply pw_below_drewN | apply below_drew1) | exact HB.out)))); have n4_ := Aside0.mk (below_step (by repeat (first | (with_reducible first | exact HB.out | apply below_alloc | apply pw_below_drewN | apply below_drew1) | exact HB.out)) hb); clear HO204; clear HO206; clear HB; have HO204 := n0_; have HO206 := n1_; have HO211 := n2_; have HO213 := n3_; have HB := n4_; clear n0_ n1_ n2_ n3_ n4_; (try clear hb); (try clear hb2); (try clear hk); (try clear hi); (try clear ho0); (try clear ho1)) | (go_at_call 11; (with_reducible refine (parser_Valid.calls k _ _ t201 true _ ?side1 ?side2 A9.out (HGL.out.below (by repeat (first | (with_reducible first | exact HB.out | apply below_alloc | apply pw_below_drewN | apply below_drew1) | exact HB.out)))).mono ?_); (case side1 => repeat (first | exact (Kd.R_reads' HO204.out).2.2 | (with_reducible refine Kd.C_alloc ?_ _) | (with_reducible refine Kd.C_drewN ?_ _) | (with_reducible refine Kd.C_drew ?_))); (case side2 => exact (Kd.R_reads' HO204.out).2.1); rintro e w39 ⟨rfl, hb⟩; have n0_ := Aside0.mk (Kd.R_below (by (with_reducible repeat (first | apply Kd.R_alloc | apply Kd.R_drewN | apply Kd.R_drew)); exact HO204.out) hb); have n1_ := Aside0.mk (Kd.R_below (by (with_reducible repeat (first | apply Kd.R_alloc | apply Kd.R_drewN | apply Kd.R_drew)); exact HO206.out) hb); have n2_ := Aside0.mk (Kd.R_below (by (with_reducible repeat (first | apply Kd.R_alloc | apply Kd.R_drewN | apply Kd.R_drew)); exact HO211.out) hb); have n3_ := Aside0.mk (Kd.R_below (by (with_reducible repeat (first | apply Kd.R_alloc | apply Kd.R_drewN | apply Kd.R_drew)); exact HO213.out) hb); have n4_ := Aside0.mk (below_step (by repeat (first | (with_reducible first | exact HB.out | apply below_alloc | apply pw_below_drewN | apply below_drew1) | exact HB.out)) hb); clear HO204; clear HO206; clear HO211; clear HO213; clear HB; have HO204 := n0_; have HO206 := n1_; have HO211 := n2_; have HO213 := n3_; have HB := n4_; clear n0_ n1_ n2_ n3_ n4_; (try clear hb); (try clear hb2); (try clear hk); (try clear hi); obtain ⟨Ao40, co40, eo40⟩ := Kd.R_slice HO213.out; subst eo40))
          go_ret
          exact ⟨by first | rfl | (simp [errW_none, errW_some] <;> rfl) | (simp [*, errW_none, errW_some] <;> rfl), by repeat (first | (with_reducible first | exact HB.out | apply below_alloc | apply pw_below_drewN | apply below_drew1) | exact HB.out)⟩
      · replace c10 := Bool.eq_false_iff.mpr c10
        subst c10
        have H1 : (some false) = some r := by rw [if_neg (show ¬ (false = true) by decide)] at H; exact H
        clear H
        have H := H1
        clear H1
        obtain rfl := Option.some.inj H
        go_enter Tryd.func4, Tryd.ntmps4
        go_wp2_with (first | ((with_reducible refine gate_callee (f := 9) rfl ?_); refine goesL_ (some 9) rfl rfl Tryd.func9 (by kernel_rfl) rfl #[] rfl (by (try simp only [List.map_toArray, List.map_cons, List.map_nil]); first | done | rfl | (simp only [List.length_drop, List.length_take]; rfl)) ?_; (with_reducible refine (ambidexterlaw11_head.calls  true _ A2.out (HGL.out.below (by repeat (first | (with_reducible first | exact HB.out | apply below_alloc | apply pw_below_drewN | apply below_drew1) | exact HB.out)))).mono ?_); rintro e w41 ⟨rfl, hb⟩; refine ⟨_, rfl, ?_⟩; have n0_ := Aside0.mk (below_step (by repeat (first | (with_reducible first | exact HB.out | apply below_alloc | apply pw_below_drewN | apply below_drew1) | exact HB.out)) hb); clear HB; have HB := n0_; clear n0_; (try clear hb); (try clear hb2); (try clear hk); (try clear hi)) | ((with_reducible refine gate_callee (f := 12) rfl ?_); refine goesL_ (some 16) rfl rfl Tryd.func12 (by kernel_rfl) rfl #[.string a0] rfl (by (try simp only [List.map_toArray, List.map_cons, List.map_nil]); first | done | rfl | (simp only [List.length_drop, List.length_take]; rfl)) ?_; (with_reducible refine (parser_Parse.calls k a0 t201 t202 _ A5.out (HGL.out.below (by repeat (first | (with_reducible first | exact HB.out | apply below_alloc | apply pw_below_drewN | apply below_drew1) | exact HB.out)))).mono ?_); rintro e w42 ⟨v203, v205, rfl, ho0, ho1, hb⟩; refine ⟨_, rfl, ?_⟩; have n0_ := Aside0.mk (Kd.R_lower ho0 (below_size (by repeat (first | (with_reducible first | exact HB.out | apply below_alloc | apply pw_below_drewN | apply below_drew1) | exact HB.out)))); have n1_ := Aside0.mk (Kd.R_lower ho1 (below_size (by repeat (first | (with_reducible first | exact HB.out | apply below_alloc | apply pw_below_drewN | apply below_drew1) | exact HB.out)))); have n2_ := Aside0.mk (below_step (by repeat (first | (with_reducible first | exact HB.out | apply below_alloc | apply pw_below_drewN | apply below_drew1) | exact HB.out)) hb); clear HB; have HO204 := n0_; have HO206 := n1_; have HB := n2_; clear n0_ n1_ n2_; (try clear hb); (try clear hb2); (try clear hk); (try clear hi); (try clear ho0); (try clear ho1); obtain ⟨Ao43, co43, eo43⟩ := Kd.R_slice HO204.out; subst eo43) | ((with_reducible refine gate_callee (f := 13) rfl ?_); refine goesL_ (some 20) rfl rfl Tryd.func13 (by kernel_rfl) rfl #[.slice Ao43 t201.length co43] rfl (by (try simp only [List.map_toArray, List.map_cons, List.map_nil]); first | done | rfl | (simp only [List.length_drop, List.length_take]; rfl)) ?_; (with_reducible refine (parser_Format.calls k _ _ t201 t207 _ ?side1 ?side2 A6.out (HGL.out.below (by repeat (first | (with_reducible first | exact HB.out | apply below_alloc | apply pw_below_drewN | apply below_drew1) | exact HB.out)))).mono ?_); (case side1 => repeat (first | exact (Kd.R_reads' HO204.out).2.2 | (with_reducible refine Kd.C_alloc ?_ _) | (with_reducible refine Kd.C_drewN ?_ _) | (with_reducible refine Kd.C_drew ?_))); (case side2 => exact (Kd.R_reads' HO204.out).2.1); rintro e w44 ⟨rfl, hb⟩; refine ⟨_, rfl, ?_⟩; have n0_ := Aside0.mk (Kd.R_below (by (with_reducible repeat (first | apply Kd.R_alloc | apply Kd.R_drewN | apply Kd.R_drew)); exact HO204.out) hb); have n1_ := Aside0.mk (Kd.R_below (by (with_reducible repeat (first | apply Kd.R_alloc | apply Kd.R_drewN | apply Kd.R_drew)); exact HO206.out) hb); have n2_ := Aside0.mk (below_step (by repeat (first | (with_reducible first | exact HB.out | apply below_alloc | apply pw_below_drewN | apply below_drew1) | exact HB.out)) hb); clear HO204; clear HO206; clear HB; have HO204 := n0_; have HO206 := n1_; have HB := n2_; clear n0_ n1_ n2_; (try clear hb); (try clear hb2); (try clear hk); (try clear hi)) | ((with_reducible refine gate_callee (f := 12) rfl ?_); refine goesL_ (some 23) rfl rfl Tryd.func12 (by kernel_rfl) rfl #[.string t207] rfl (by (try simp only [List.map_toArray, List.map_cons, List.map_nil]); first | done | rfl | (simp only [List.length_drop, List.length_take]; rfl)) ?_; (with_reducible refine (parser_Parse.calls k t207 t208 t209 _ A7.out (HGL.out.below (by repeat (first | (with_reducible first | exact HB.out | apply below_alloc | apply pw_below_drewN | apply below_drew1) | exact HB.out)))).mono ?_); rintro e w45 ⟨v210, v212, rfl, ho0, ho1, hb⟩; refine ⟨_, rfl, ?_⟩; have n0_ := Aside0.mk (Kd.R_elder' (by (with_reducible repeat (first | apply Kd.R_alloc | apply Kd.R_drewN | apply Kd.R_drew)); exact HO204.out) (Kd.R_base ho0) hb); have n1_ := Aside0.mk (Kd.R_elder' (by (with_reducible repeat (first | apply Kd.R_alloc | apply Kd.R_drewN | apply Kd.R_drew)); exact HO206.out) (Kd.R_base ho1) hb); have n2_ := Aside0.mk (Kd.R_lower (Kd.R_new' ho0 (Kd.R_lt (by (with_reducible repeat (first | apply Kd.R_alloc | apply Kd.R_drewN | apply Kd.R_drew)); exact HO204.out))) (below_size (by repeat (first | (with_reducible first | exact HB.out | apply below_alloc | apply pw_below_drewN | apply below_drew1) | exact HB.out)))); have n3_ := Aside0.mk (Kd.R_lower (Kd.R_new' ho1 (Kd.R_lt (by (with_reducible repeat (first | apply Kd.R_alloc | apply Kd.R_drewN | apply Kd.R_drew)); exact HO206.out))) (below_size (by repeat (first | (with_reducible first | exact HB.out | apply below_alloc | apply pw_below_drewN | apply below_drew1) | exact HB.out)))); have n4_ := Aside0.mk (below_step (by repeat (first | (with_reducible first | exact HB.out | apply below_alloc | apply pw_below_drewN | apply below_drew1) | exact HB.out)) hb); clear HO204; clear HO206; clear HB; have HO204 := n0_; have HO206 := n1_; have HO211 := n2_; have HO213 := n3_; have HB := n4_; clear n0_ n1_ n2_ n3_ n4_; (try clear hb); (try clear hb2); (try clear hk); (try clear hi); (try clear ho0); (try clear ho1)) | (go_at_call 11; (with_reducible refine (parser_Valid.calls k _ _ t201 false _ ?side1 ?side2 A9.out (HGL.out.below (by repeat (first | (with_reducible first | exact HB.out | apply below_alloc | apply pw_below_drewN | apply below_drew1) | exact HB.out)))).mono ?_); (case side1 => repeat (first | exact (Kd.R_reads' HO204.out).2.2 | (with_reducible refine Kd.C_alloc ?_ _) | (with_reducible refine Kd.C_drewN ?_ _) | (with_reducible refine Kd.C_drew ?_))); (case side2 => exact (Kd.R_reads' HO204.out).2.1); rintro e w46 ⟨rfl, hb⟩; have n0_ := Aside0.mk (Kd.R_below (by (with_reducible repeat (first | apply Kd.R_alloc | apply Kd.R_drewN | apply Kd.R_drew)); exact HO204.out) hb); have n1_ := Aside0.mk (Kd.R_below (by (with_reducible repeat (first | apply Kd.R_alloc | apply Kd.R_drewN | apply Kd.R_drew)); exact HO206.out) hb); have n2_ := Aside0.mk (Kd.R_below (by (with_reducible repeat (first | apply Kd.R_alloc | apply Kd.R_drewN | apply Kd.R_drew)); exact HO211.out) hb); have n3_ := Aside0.mk (Kd.R_below (by (with_reducible repeat (first | apply Kd.R_alloc | apply Kd.R_drewN | apply Kd.R_drew)); exact HO213.out) hb); have n4_ := Aside0.mk (below_step (by repeat (first | (with_reducible first | exact HB.out | apply below_alloc | apply pw_below_drewN | apply below_drew1) | exact HB.out)) hb); clear HO204; clear HO206; clear HO211; clear HO213; clear HB; have HO204 := n0_; have HO206 := n1_; have HO211 := n2_; have HO213 := n3_; have HB := n4_; clear n0_ n1_ n2_ n3_ n4_; (try clear hb); (try clear hb2); (try clear hk); (try clear hi)))
        go_ret
        exact ⟨by first | rfl | (simp [errW_none, errW_some] <;> rfl) | (simp [*, errW_none, errW_some] <;> rfl), by repeat (first | (with_reducible first | exact HB.out | apply below_alloc | apply pw_below_drewN | apply below_drew1) | exact HB.out)⟩
    · replace c8 := Bool.eq_false_iff.mpr c8
      subst c8
      have H1 : (some false) = some r := by rw [if_neg (show ¬ (false = true) by decide)] at H; exact H
      clear H
      have H := H1
      clear H1
      obtain rfl := Option.some.inj H
      go_enter Tryd.func4, Tryd.ntmps4
      go_wp2_with (first | ((with_reducible refine gate_callee (f := 9) rfl ?_); refine goesL_ (some 9) rfl rfl Tryd.func9 (by kernel_rfl) rfl #[] rfl (by (try simp only [List.map_toArray, List.map_cons, List.map_nil]); first | done | rfl | (simp only [List.length_drop, List.length_take]; rfl)) ?_; (with_reducible refine (ambidexterlaw11_head.calls  false _ A2.out (HGL.out.below (by repeat (first | (with_reducible first | exact HB.out | apply below_alloc | apply pw_below_drewN | apply below_drew1) | exact HB.out)))).mono ?_); rintro e w47 ⟨rfl, hb⟩; refine ⟨_, rfl, ?_⟩; have n0_ := Aside0.mk (below_step (by repeat (first | (with_reducible first | exact HB.out | apply below_alloc | apply pw_below_drewN | apply below_drew1) | exact HB.out)) hb); clear HB; have HB := n0_; clear n0_; (try clear hb); (try clear hb2); (try clear hk); (try clear hi)) | ((with_reducible refine gate_callee (f := 12) rfl ?_); refine goesL_ (some 16) rfl rfl Tryd.func12 (by kernel_rfl) rfl #[.string a0] rfl (by (try simp only [List.map_toArray, List.map_cons, List.map_nil]); first | done | rfl | (simp only [List.length_drop, List.length_take]; rfl)) ?_; (with_reducible refine (parser_Parse.calls k a0 t201 t202 _ A5.out (HGL.out.below (by repeat (first | (with_reducible first | exact HB.out | apply below_alloc | apply pw_below_drewN | apply below_drew1) | exact HB.out)))).mono ?_); rintro e w48 ⟨v203, v205, rfl, ho0, ho1, hb⟩; refine ⟨_, rfl, ?_⟩; have n0_ := Aside0.mk (Kd.R_lower ho0 (below_size (by repeat (first | (with_reducible first | exact HB.out | apply below_alloc | apply pw_below_drewN | apply below_drew1) | exact HB.out)))); have n1_ := Aside0.mk (Kd.R_lower ho1 (below_size (by repeat (first | (with_reducible first | exact HB.out | apply below_alloc | apply pw_below_drewN | apply below_drew1) | exact HB.out)))); have n2_ := Aside0.mk (below_step (by repeat (first | (with_reducible first | exact HB.out | apply below_alloc | apply pw_below_drewN | apply below_drew1) | exact HB.out)) hb); clear HB; have HO204 := n0_; have HO206 := n1_; have HB := n2_; clear n0_ n1_ n2_; (try clear hb); (try clear hb2); (try clear hk); (try clear hi); (try clear ho0); (try clear ho1); obtain ⟨Ao49, co49, eo49⟩ := Kd.R_slice HO204.out; subst eo49) | ((with_reducible refine gate_callee (f := 13) rfl ?_); refine goesL_ (some 20) rfl rfl Tryd.func13 (by kernel_rfl) rfl #[.slice Ao49 t201.length co49] rfl (by (try simp only [List.map_toArray, List.map_cons, List.map_nil]); first | done | rfl | (simp only [List.length_drop, List.length_take]; rfl)) ?_; (with_reducible refine (parser_Format.calls k _ _ t201 t207 _ ?side1 ?side2 A6.out (HGL.out.below (by repeat (first | (with_reducible first | exact HB.out | apply below_alloc | apply pw_below_drewN | apply below_drew1) | exact HB.out)))).mono ?_); (case side1 => repeat (first | exact (Kd.R_reads' HO204.out).2.2 | (with_reducible refine Kd.C_alloc ?_ _) | (with_reducible refine Kd.C_drewN ?_ _) | (with_reducible refine Kd.C_drew ?_))); (case side2 => exact (Kd.R_reads' HO204.out).2.1); rintro e w50 ⟨rfl, hb⟩; refine ⟨_, rfl, ?_⟩; have n0_ := Aside0.mk (Kd.R_below (by (with_reducible repeat (first | apply Kd.R_alloc | apply Kd.R_drewN | apply Kd.R_drew)); exact HO204.out) hb); have n1_ := Aside0.mk (Kd.R_below (by (with_reducible repeat (first | apply Kd.R_alloc | apply Kd.R_drewN | apply Kd.R_drew)); exact HO206.out) hb); have n2_ := Aside0.mk (below_step (by repeat (first | (with_reducible first | exact HB.out | apply below_alloc | apply pw_below_drewN | apply below_drew1) | exact HB.out)) hb); clear HO204; clear HO206; clear HB; have HO204 := n0_; have HO206 := n1_; have HB := n2_; clear n0_ n1_ n2_; (try clear hb); (try clear hb2); (try clear hk); (try clear hi)) | ((with_reducible refine gate_callee (f := 12) rfl ?_); refine goesL_ (some 23) rfl rfl Tryd.func12 (by kernel_rfl) rfl #[.string t207] rfl (by (try simp only [List.map_toArray, List.map_cons, List.map_nil]); first | done | rfl | (simp only [List.length_drop, List.length_take]; rfl)) ?_; (with_reducible refine (parser_Parse.calls k t207 t208 t209 _ A7.out (HGL.out.below (by repeat (first | (with_reducible first | exact HB.out | apply below_alloc | apply pw_below_drewN | apply below_drew1) | exact HB.out)))).mono ?_); rintro e w51 ⟨v210, v212, rfl, ho0, ho1, hb⟩; refine ⟨_, rfl, ?_⟩; have n0_ := Aside0.mk (Kd.R_elder' (by (with_reducible repeat (first | apply Kd.R_alloc | apply Kd.R_drewN | apply Kd.R_drew)); exact HO204.out) (Kd.R_base ho0) hb); have n1_ := Aside0.mk (Kd.R_elder' (by (with_reducible repeat (first | apply Kd.R_alloc | apply Kd.R_drewN | apply Kd.R_drew)); exact HO206.out) (Kd.R_base ho1) hb); have n2_ := Aside0.mk (Kd.R_lower (Kd.R_new' ho0 (Kd.R_lt (by (with_reducible repeat (first | apply Kd.R_alloc | apply Kd.R_drewN | apply Kd.R_drew)); exact HO204.out))) (below_size (by repeat (first | (with_reducible first | exact HB.out | apply below_alloc | apply pw_below_drewN | apply below_drew1) | exact HB.out)))); have n3_ := Aside0.mk (Kd.R_lower (Kd.R_new' ho1 (Kd.R_lt (by (with_reducible repeat (first | apply Kd.R_alloc | apply Kd.R_drewN | apply Kd.R_drew)); exact HO206.out))) (below_size (by repeat (first | (with_reducible first | exact HB.out | apply below_alloc | apply pw_below_drewN | apply below_drew1) | exact HB.out)))); have n4_ := Aside0.mk (below_step (by repeat (first | (with_reducible first | exact HB.out | apply below_alloc | apply pw_below_drewN | apply below_drew1) | exact HB.out)) hb); clear HO204; clear HO206; clear HB; have HO204 := n0_; have HO206 := n1_; have HO211 := n2_; have HO213 := n3_; have HB := n4_; clear n0_ n1_ n2_ n3_ n4_; (try clear hb); (try clear hb2); (try clear hk); (try clear hi); (try clear ho0); (try clear ho1)))
      go_ret
      exact ⟨by first | rfl | (simp [errW_none, errW_some] <;> rfl) | (simp [*, errW_none, errW_some] <;> rfl), by repeat (first | (with_reducible first | exact HB.out | apply below_alloc | apply pw_below_drewN | apply below_drew1) | exact HB.out)⟩
/-- THE ONE PURE STATEMENT of ambidexterlaw11_ParserFormatIsCanonical: yours. -/
def ambidexterlaw11_ParserFormatIsCanonical.Pure : Prop := ∀ (a0 : ByteArray), a0.size ≤ 140737488351232 → ∃ k, ambidexterlaw11_ParserFormatIsCanonical.f k a0 = some true
theorem ambidexterlaw11_ParserFormatIsCanonical.walk (P : ambidexterlaw11_ParserFormatIsCanonical.Pure) (a0 : ByteArray) (w : World) (w0 : a0.size ≤ 140737488351232) (hG : Glob w) :
    Calls Tryd.prog 4 #[.string a0] w fun e w' => e = .returned (.bool true) ∧ Below w.heap.size w w' := by
  obtain ⟨k, h⟩ := P a0 w0
  refine (ambidexterlaw11_ParserFormatIsCanonical.calls k a0 true w h hG).mono ?_
  rintro e w' ⟨rfl, hd⟩
  exact ⟨rfl, hd⟩
end Go.Proofs.YtonhcfecfifghaaDoor.PPx
namespace Go.Proofs.YtonhcfecfifghaaDoor.parserFormatIsCanonical
open Go.ChangeShapes Go.WideShapes Go.ChangeAt Go.RowKit
open Go.ChangeMaps (open_string shut_string)
set_option linter.unusedVariables false
theorem own : ownKnob Tryd.prog.godebug = none := by kernel_rfl
theorem plainLaid {W : World} (h : laidMetH Tryd.prog Rows.parserFormatIsCanonicalRow.laid W) : PPx.Glob W := by
  rw [MakeChecks.laidMetH_plain _ _ _ (by kernel_rfl)] at h
  exact PPx.glob_of h
theorem door_met (os : Os) (args : Array Value) : laidMetH Tryd.prog Rows.parserFormatIsCanonicalRow.laid ((World.doorLaid Tryd.prog 400 os).forCall (fun _ _ => 0) ⟨#[], args, []⟩).memory :=
  laidMetH_of_parts3 (fuel := 8) (laidMet_of_run' 8 (by kernel_rfl) (by kernel_rfl)) (by kernel_rfl) (by kernel_rfl)
set_option maxRecDepth 100000 in
theorem lifted (PU : PPx.ambidexterlaw11_ParserFormatIsCanonical.Pure) (os : Os) (started : os.Started) (H : Type) (enc : TypeId × Value → H) :
    ReturnsInHanded {} Tryd.checked os 4 .any (fun w args => (Rows.parserFormatIsCanonicalSpec.pre enc Tryd.prog Tryd.f4 [] false w args ∧ laidMetH Tryd.prog Rows.parserFormatIsCanonicalRow.laid w) ∧ sizedMet enc Tryd.prog Tryd.f4 (OpenSpec.ofChange Rows.parserFormatIsCanonicalSpec) false w args)
      (Rows.parserFormatIsCanonicalSpec.post enc Tryd.prog Tryd.f4 false true false false) := by
  refine returnsInHanded_of_change_and (C := Tryd.checked) (X := fun w _ => laidMetH Tryd.prog Rows.parserFormatIsCanonicalRow.laid w) (fun _ _ _ hh h => h.of_heap hh) own started (by kernel_rfl) Tryd.func4
    (ChangeSpec.witness_shaped (enc := enc) (C := Tryd.checked) (os := os) (X := fun w _ => laidMetH Tryd.prog Rows.parserFormatIsCanonicalRow.laid w) false (World.doorLaid Tryd.prog 400 os) #[.string ByteArray.empty] 8 rfl (World.shaped_of_RefB (by kernel_rfl) (by kernel_rfl)) (by kernel_rfl) (by kernel_rfl) (by kernel_rfl) (door_met os _)) ?_
  intro W base args ds gs before hval0 hW hcnd hsz0 hL _
  have hsz : (DataW.weightsEach Tryd.prog (Tryd.f4.params.toList ++ Rows.parserFormatIsCanonicalSpec.plain.varTypes Tryd.prog) (ds ++ gs)).all (· ≤ reachBytes) = true := hsz0
  have hval : ∀ (j : Nat) t v, Tryd.f4.params[j]? = some t → args[j]? = some v → Value.okWide Tryd.prog W .any base t v := hval0
  have hW' := hW
  obtain ⟨p, q, hA0, hV, rfl, hfz, hnd⟩ := hW
  have hA : DataW.TrodAll enc Tryd.prog W 0 (fun _ => true) true Tryd.f4.params.toList args.toList ds p := hA0
  rw [Tryd.params4] at hA hval hsz
  obtain ⟨v0, vs0, d0, ds0, p0, q0, hargs, rfl, rfl, h0, r0⟩ := trodAll_cons hA
  obtain ⟨rfl, rfl, rfl⟩ := trodAll_nil r0
  obtain rfl : args = #[v0] := by cases args; simp_all
  obtain ⟨rfl, rfl⟩ := trodVars_none hV
  obtain ⟨a0, rfl, rfl, rfl, y0⟩ := open_string Tryd.underlying9 (hval 0 9 v0 rfl rfl) h0
  have w0 : a0.size ≤ 140737488351232 := by
    have z := sized_string hsz (j := 0) (t := 9) rfl rfl
    rw [Array.length_toList] at z
    exact z
  clear hA0 hval0 hsz0 hsz
  refine (PPx.ambidexterlaw11_ParserFormatIsCanonical.walk PU a0 W w0 (plainLaid hL)).mono fun e W' ⟨he, bel⟩ => ?_
  subst he
  exact ⟨_, rfl, _, _, _, [], _, [], hW', trodAll_mk1 (shut_bool Tryd.underlying4 _), (trodAll_cons_mk (shut_string Tryd.underlying9 y0) trodAll_mk0), rfl, bel.frame _, fun h => by cases h⟩
theorem over (PU : PPx.ambidexterlaw11_ParserFormatIsCanonical.Pure) : Rows.ParserFormatIsCanonicalSaid :=
  OpenClaim.holds_of_wide 4 Tryd.f4 rfl rfl rfl rfl rfl rfl rfl ⟨rfl, rfl, rfl, rfl, rfl⟩ rfl rfl rfl rfl rfl (by kernel_rfl) Tryd.func4 (by kernel_rfl)
    (of_decide_eq_true (by kernel_rfl)) (by unfold Func.isWrapper; first | (rw [if_pos (by decide +kernel)]; kernel_rfl) | (rw [if_neg (by decide +kernel)]; exact ⟨rfl, rfl⟩))
    (fun os started H enc _ => lifted PU os started H enc)
theorem card (PU : PPx.ambidexterlaw11_ParserFormatIsCanonical.Pure) : Rows.ParserFormatIsCanonicalCardSaid :=
  Claim7.holds_tied_plain_at .later [] [.data, .data, .data, .sentinel, .sentinel, .widerDeep] true (true, "6822103ed093441613754651125a536eb7c88e985074bd3ee2c69459dcd289f4") true
    (over PU) (fun _ h => by cases h) (by kernel_rfl) (fun _ h => by cases h) parserFormatIsCanonical_row_tie rfl ⟨rfl, rfl⟩ (by kernel_rfl) rfl
    (fun f fn hf hfn => by
      obtain rfl : f = 4 := Option.some.inj ((show Tryd.prog.funcNamed "ambidexter/ambidexterlaw11.ParserFormatIsCanonical" = some 4 by kernel_rfl).symm.trans hf) |>.symm
      obtain rfl : fn = Tryd.f4 := (Option.some.inj (Tryd.func4.symm.trans hfn)).symm
      exact ⟨by kernel_rfl, fun j t ht => by
        rw [Tryd.params4] at ht
        have h3 : t = 9 := by
          rcases j with _ | j
          · simpa using ht.symm
          · simp at ht
        subst h3
        exact (show Tryd.prog.wantsStandIn 9 = false by kernel_rfl)⟩)
    (by kernel_rfl)
end Go.Proofs.YtonhcfecfifghaaDoor.parserFormatIsCanonical
namespace Go.Proofs.YtonhcfecfifghaaDoor.PPx
open Go.RowKit Go.Proofs.YtonhcfecfifghaaDoorW.PrintWords Go.Proofs.YtonhcfecfifghaaDoorW.PrintLast Go.Proofs.YtonhcfecfifghaaDoorW.PrintMore
theorem scanTo_next {p : Int → Bool} {n i : Int} (h : i < n) (hp : p i = true) : scanTo p n i = scanTo p n (i + 1) := by
  have h1 : scanTo p n i = scan p n ((n - (i + 1)).toNat + 1) i := by unfold scanTo; rw [show (n - i).toNat = (n - (i + 1)).toNat + 1 from by omega]
  rw [h1]
  simp only [scan]
  rw [if_pos h, if_pos hp]
  rfl
theorem scanTo_stop {p : Int → Bool} {n i : Int} (h : ¬ i < n ∨ p i = false) : scanTo p n i = i := by
  unfold scanTo
  cases hk : (n - i).toNat with
  | zero => rfl
  | succ k =>
    simp only [scan]
    rcases h with h | h
    · rw [if_neg h]
    · rw [h]; simp
theorem skipR_more (s : ByteArray) : ∀ (k m : Nat) (i : Int), ((s.size : Int) - i).toNat ≤ k → k ≤ m → 0 ≤ i → i ≤ (s.size : Int) → skipR s m i = skipR s k i := by
  intro k
  induction k with
  | zero =>
    intro m i hk hm h0 h1
    cases m with
    | zero => rfl
    | succ m =>
      simp only [skipR]
      rw [if_neg]
      intro h6
      have := (at_some (by decide) h6).1
      omega
  | succ k ih =>
    intro m i hk hm h0 h1
    cases m with
    | zero => omega
    | succ m =>
      simp only [skipR]
      split
      · rename_i h6
        have hlt := (at_some (by decide) h6).1
        have hst := scanTo_step hlt (line_of_six h6)
        have h2 := scanTo_range (lineAt s) s.size i h1
        have h3 := scanTo_range (blankAt s) s.size (scanTo (lineAt s) s.size i) h2.2
        exact ih m _ (by omega) (by omega) (by omega) h3.2
      · rfl
theorem skipTo_blank {s : ByteArray} {i : Int} (h : at_ s i = 5) : skipTo s (i + 1) = skipTo s i := by
  have hlt := (at_some (by decide) h).1
  unfold skipTo
  rw [scanTo_next hlt (show blankAt s i = true by simp [blankAt, h])]
theorem skipTo_other {s : ByteArray} {i : Int} (h5 : at_ s i ≠ 5) (h6 : at_ s i ≠ 6) : skipTo s i = i := by
  unfold skipTo
  rw [scanTo_stop (.inr (show blankAt s i = false by simpa [blankAt] using h5))]
  cases s.size with
  | zero => rfl
  | succ k => simp only [skipR]; rw [if_neg h6]
theorem skipTo_note {s : ByteArray} {i : Int} (h0 : 0 ≤ i) (h : at_ s i = 6) : skipTo s (scanTo (lineAt s) s.size i) = skipTo s i := by
  have hlt := (at_some (by decide) h).1
  have hst := scanTo_step hlt (line_of_six h)
  have h2 := scanTo_range (lineAt s) s.size i (by omega)
  have h3 := scanTo_range (blankAt s) s.size (scanTo (lineAt s) s.size i) h2.2
  unfold skipTo
  rw [scanTo_stop (i := i) (.inr (show blankAt s i = false by simp [blankAt, h]))]
  obtain ⟨k, hk⟩ : ∃ k, s.size = k + 1 := ⟨s.size - 1, by omega⟩
  conv => rhs; rw [hk]; simp only [skipR]
  rw [if_pos h]
  refine (skipR_more s k s.size _ (by omega) (by omega) (by omega) h3.2)
theorem at_in {s : ByteArray} {i : Int} (h : i < (s.size : Int)) : at_ s i = cls (bt s i).toNat := by unfold at_; rw [if_neg (by omega)]
theorem scan_spec (p : Int → Bool) (n : Int) : ∀ (k : Nat) (i : Int), (n - i).toNat ≤ k → (∀ x, i ≤ x → x < scan p n k i → p x = true) ∧ (scan p n k i < n → p (scan p n k i) = false) := by
  intro k
  induction k with
  | zero => intro i hk; simp only [scan]; exact ⟨fun x _ _ => by omega, fun _ => by omega⟩
  | succ k ih =>
    intro i hk
    simp only [scan]
    by_cases h : i < n
    · rw [if_pos h]
      by_cases hp : p i = true
      · rw [if_pos hp]
        obtain ⟨h1, h2⟩ := ih (i + 1) (by omega)
        refine ⟨fun x hx hx2 => ?_, h2⟩
        by_cases e : x = i
        · rw [e]; exact hp
        · exact h1 x (by omega) hx2
      · rw [if_neg hp]
        exact ⟨fun x _ _ => by omega, fun _ => by simpa using hp⟩
    · rw [if_neg h]
      exact ⟨fun x _ _ => by omega, fun _ => by omega⟩
theorem scanTo_spec (p : Int → Bool) (n i : Int) : (∀ x, i ≤ x → x < scanTo p n i → p x = true) ∧ (scanTo p n i < n → p (scanTo p n i) = false) := scan_spec p n _ i (Nat.le_refl _)
theorem scanTo_eq {p : Int → Bool} {n i j : Int} (h1 : i ≤ j) (h2 : j ≤ n) (hp : ∀ x, i ≤ x → x < j → p x = true) (he : j < n → p j = false) : scanTo p n i = j := scan_eq p n _ i j (Nat.le_refl _) h1 h2 hp he
/-- from i to j there is white space and comments alone -/
inductive Gap (s : ByteArray) : Int → Int → Prop where
  | here (i : Int) : Gap s i i
  | blank {i j : Int} : at_ s i = 5 → Gap s (i + 1) j → Gap s i j
  | note {i m j : Int} : at_ s i = 6 → m = scanTo (lineAt s) s.size i → Gap s m j → Gap s i j
theorem Gap.skip {s : ByteArray} {i j : Int} (h : Gap s i j) (h0 : 0 ≤ i) : skipTo s j = skipTo s i := by
  induction h with
  | here i => rfl
  | blank h5 _ ih => rw [ih (by omega), skipTo_blank h5]
  | @note i m j h6 hm _ ih =>
    have hlt := (at_some (by decide) h6).1
    have := scanTo_range (lineAt s) s.size i (by omega)
    rw [ih (by omega), hm, skipTo_note h0 h6]
theorem Gap.le {s : ByteArray} {i j : Int} (h : Gap s i j) (h1 : i ≤ (s.size : Int)) : i ≤ j ∧ j ≤ (s.size : Int) := by
  induction h with
  | here i => omega
  | blank h5 _ ih =>
    have := (at_some (by decide) h5).1
    have := ih (by omega)
    omega
  | @note i m j h6 hm _ ih =>
    have := scanTo_range (lineAt s) s.size i h1
    have := ih (by omega)
    omega
theorem Gap.trans {s : ByteArray} {i j k : Int} (h : Gap s i j) (g : Gap s j k) : Gap s i k := by
  induction h with
  | here i => exact g
  | blank h5 _ ih => exact .blank h5 (ih g)
  | note h6 hm _ ih => exact .note h6 hm (ih g)
theorem gap_ex (s : ByteArray) : ∀ (d : Nat) (i : Int), 0 ≤ i → i ≤ (s.size : Int) → ((s.size : Int) - i).toNat ≤ d → ∃ j, Gap s i j ∧ at_ s j ≠ 5 ∧ at_ s j ≠ 6 := by
  intro d
  induction d with
  | zero =>
    intro i h0 h1 hd
    have hz : at_ s i = 0 := by unfold at_; rw [if_pos (by omega)]
    exact ⟨i, .here i, by omega, by omega⟩
  | succ d ih =>
    intro i h0 h1 hd
    by_cases h5 : at_ s i = 5
    · have hlt := (at_some (by decide) h5).1
      obtain ⟨j, hg, hj⟩ := ih (i + 1) (by omega) (by omega) (by omega)
      exact ⟨j, .blank h5 hg, hj⟩
    · by_cases h6 : at_ s i = 6
      · have hlt := (at_some (by decide) h6).1
        have hst := scanTo_step hlt (line_of_six h6)
        have hr := scanTo_range (lineAt s) s.size i h1
        obtain ⟨j, hg, hj⟩ := ih (scanTo (lineAt s) s.size i) (by omega) (by omega) (by omega)
        exact ⟨j, .note h6 rfl hg, hj⟩
      · exact ⟨i, .here i, h5, h6⟩
theorem skip_of_gap {s : ByteArray} {i j : Int} (h0 : 0 ≤ i) (h : Gap s i j) (h5 : at_ s j ≠ 5) (h6 : at_ s j ≠ 6) : skipTo s i = j := by
  rw [← h.skip h0, skipTo_other h5 h6]
theorem skip_gap (s : ByteArray) (i : Int) (h0 : 0 ≤ i) (h1 : i ≤ (s.size : Int)) : Gap s i (skipTo s i) ∧ at_ s (skipTo s i) ≠ 5 ∧ at_ s (skipTo s i) ≠ 6 := by
  obtain ⟨j, hg, h5, h6⟩ := gap_ex s _ i h0 h1 (Nat.le_refl _)
  rw [skip_of_gap h0 hg h5 h6]
  exact ⟨hg, h5, h6⟩
theorem at_end {s : ByteArray} {i : Int} (h : (s.size : Int) ≤ i) : at_ s i = 0 := by unfold at_; rw [if_pos h]
/-- a gap that ends at the end of the text -/
theorem skip_end {s : ByteArray} {i : Int} (h0 : 0 ≤ i) (h : Gap s i s.size) : skipTo s i = s.size := skip_of_gap h0 h (by rw [at_end (Int.le_refl _)]; decide) (by rw [at_end (Int.le_refl _)]; decide)
/-- the tokens from i on, and where the first error is, if there is one -/
inductive Lx (s : ByteArray) : Int → List S44 → Option Int → Prop where
  | done {i : Int} : ¬ i < (s.size : Int) → Lx s i [] none
  | err {i : Int} : i < (s.size : Int) → (nextAt s i).2.2.2.1 = false → Lx s i [] (some i)
  | tok {i : Int} {ts : List S44} {e : Option Int} : i < (s.size : Int) → (nextAt s i).2.2.2.1 = true → Lx s (skipTo s (nextAt s i).2.2.2.2) ts e → Lx s i (⟨(nextAt s i).1, (nextAt s i).2.1, (nextAt s i).2.2.1⟩ :: ts) e
theorem lx_ex (s : ByteArray) : ∀ (d : Nat) (i : Int), 0 ≤ i → i ≤ (s.size : Int) → ((s.size : Int) - i).toNat ≤ d → ∃ ts e, Lx s i ts e := by
  intro d
  induction d with
  | zero => intro i h0 h1 hd; exact ⟨[], none, .done (by omega)⟩
  | succ d ih =>
    intro i h0 h1 hd
    by_cases hlt : i < (s.size : Int)
    · cases hok : (nextAt s i).2.2.2.1 with
      | false => exact ⟨[], some i, .err hlt hok⟩
      | true =>
        have hr := nextAt_range s i h0 h1 hok
        have hr2 := skipTo_range s (nextAt s i).2.2.2.2 (by omega) hr.2
        obtain ⟨ts, e, h⟩ := ih (skipTo s (nextAt s i).2.2.2.2) (by omega) (by omega) (by omega)
        exact ⟨_, e, .tok hlt hok h⟩
    · exact ⟨[], none, .done hlt⟩
/-- what Lex hands back of that -/
def outOf (acc : List S44) : Option Int → List S44 × Int × Int
  | none => (acc, 0, 0)
  | some i => ([], 100, i)
theorem lexGo_of {s : ByteArray} {i : Int} {ts : List S44} {e : Option Int} (h : Lx s i ts e) : ∀ (k : Nat) (acc : List S44), 0 ≤ i → i ≤ (s.size : Int) → ((s.size : Int) - i).toNat < k → lexGo s k i acc = outOf (acc ++ ts) e := by
  induction h with
  | done hge =>
    intro k acc h0 h1 hk
    obtain ⟨k, rfl⟩ : ∃ m, k = m + 1 := ⟨k - 1, by omega⟩
    simp only [lexGo]; rw [if_neg hge]; simp [outOf]
  | err hlt hno =>
    intro k acc h0 h1 hk
    obtain ⟨k, rfl⟩ : ∃ m, k = m + 1 := ⟨k - 1, by omega⟩
    simp only [lexGo]; rw [if_pos hlt, hno]; simp [outOf]
  | @tok i ts e hlt hok hl ih =>
    intro k acc h0 h1 hk
    obtain ⟨k, rfl⟩ : ∃ m, k = m + 1 := ⟨k - 1, by omega⟩
    have hr := nextAt_range s i h0 h1 hok
    have hr2 := skipTo_range s (nextAt s i).2.2.2.2 (by omega) hr.2
    simp only [lexGo]; rw [if_pos hlt, if_pos hok, ih k _ (by omega) (by omega) (by omega)]
    simp
theorem lexB_of {s : ByteArray} (hs : s.size ≤ 20000) {ts : List S44} {e : Option Int} (h : Lx s (skipTo s 0) ts e) : lexB s = outOf ts e := by
  have hr := skipTo_range s 0 (by omega) (by omega)
  unfold lexB
  rw [if_neg (by omega), lexGo_of h (s.size + 1) [] (by omega) hr.2 (by omega)]
  rfl
theorem lx_whole (s : ByteArray) : ∃ ts e, Lx s (skipTo s 0) ts e := by
  have hr := skipTo_range s 0 (by omega) (by omega)
  exact lx_ex s _ _ (by omega) hr.2 (Nat.le_refl _)
theorem wrap_small {x : Int} (h0 : -1000000000000 ≤ x) (h1 : x ≤ 1000000000000) : wrap64 x = x := by
  unfold wrap64; omega
theorem lexGo_len (s : ByteArray) : ∀ (k : Nat) (i : Int) (acc : List S44), (lexGo s k i acc).1.length ≤ acc.length + k := by
  intro k
  induction k with
  | zero => intro i acc; simp [lexGo]
  | succ k ih =>
    intro i acc
    simp only [lexGo]
    split
    · split
      · have := ih (skipTo s (nextAt s i).2.2.2.2) (acc ++ [⟨(nextAt s i).1, (nextAt s i).2.1, (nextAt s i).2.2.1⟩])
        simp only [List.length_append, List.length_cons, List.length_nil] at this
        omega
      · simp
    · simp
theorem lexB_len (s : ByteArray) : (lexB s).1.length ≤ 20001 := by
  unfold lexB
  split
  · simp
  · have := lexGo_len s (s.size + 1) (skipTo s 0) []
    simp only [List.length_nil] at this
    omega
end Go.Proofs.YtonhcfecfifghaaDoor.PPx
namespace Go.Proofs.YtonhcfecfifghaaDoor.PPx
open Go.RowKit Go.Proofs.YtonhcfecfifghaaDoorW.PrintWords Go.Proofs.YtonhcfecfifghaaDoorW.PrintLast Go.Proofs.YtonhcfecfifghaaDoorW.PrintMore
theorem u8_bounds {n : Int} (h : (Lit.int .u8 n).wf = true) : 0 ≤ n ∧ n ≤ 255 := by
  simp only [Lit.wf, Bool.and_eq_true, decide_eq_true_eq] at h
  exact ⟨h.1, h.2⟩
theorem i64_bounds {n : Int} (h : (Lit.int .i64 n).wf = true) : -9223372036854775808 ≤ n ∧ n ≤ 9223372036854775807 := by
  simp only [Lit.wf, Bool.and_eq_true, decide_eq_true_eq] at h
  exact ⟨h.1, h.2⟩
theorem ext_bt {s u : ByteArray} (hs : s.size = u.size) (h : ∀ x : Int, 0 ≤ x → x < (s.size : Int) → bt s x = bt u x) : s = u := by
  apply ByteArray.ext_getElem hs
  intro i hi hi2
  have := h i (by omega) (by omega)
  rw [← bt_at s i (by omega), ← bt_at u i (by omega)] at this
  have h2 : (s[i]'hi).toNat = (u[i]'hi2).toNat := by
    have e : ((i : Nat) : Int).toNat = i := rfl
    simp only [Int.toNat_natCast] at this
    exact_mod_cast this
  exact UInt8.toNat_inj.1 h2
theorem bt_extract {s : ByteArray} {a b x : Int} (h0 : 0 ≤ a) (hx : 0 ≤ x) (h1 : a + x < b) (h2 : b ≤ (s.size : Int)) : bt (s.extract a.toNat b.toNat) x = bt s (a + x) := by
  have hl : x.toNat < (s.extract a.toNat b.toNat).size := by rw [ByteArray.size_extract]; omega
  rw [← bt_at _ x hl, ← bt_at s (a + x) (by omega), ByteArray.getElem_extract]
  have e : a.toNat + x.toNat = (a + x).toNat := by omega
  simp only [e]
theorem size_extractI {s : ByteArray} {a b : Int} (h0 : 0 ≤ a) (h1 : a ≤ b) (h2 : b ≤ (s.size : Int)) : ((s.extract a.toNat b.toNat).size : Int) = b - a := by
  rw [ByteArray.size_extract]; omega
theorem bt_left {s u : ByteArray} {x : Int} (h0 : 0 ≤ x) (h : x < (s.size : Int)) : bt (s ++ u) x = bt s x := by
  have hl : x.toNat < (s ++ u).size := by rw [ByteArray.size_append]; omega
  rw [← bt_at _ x hl, ← bt_at s x (by omega), ByteArray.getElem_append_left (by omega)]
theorem bt_right {s u : ByteArray} {x : Int} (h0 : (s.size : Int) ≤ x) (h : x < (s.size : Int) + u.size) : bt (s ++ u) x = bt u (x - s.size) := by
  have hl : x.toNat < (s ++ u).size := by rw [ByteArray.size_append]; omega
  rw [← bt_at _ x hl, ← bt_at u (x - s.size) (by omega), ByteArray.getElem_append_right (by omega)]
  have e : x.toNat - s.size = (x - s.size).toNat := by omega
  simp only [e]
/-- s from lo to hi lies in u, d places on -/
structure Move (s u : ByteArray) (d lo hi : Int) : Prop where
  h0 : 0 ≤ lo
  hs : hi ≤ (s.size : Int)
  d0 : 0 ≤ lo + d
  hu : hi + d ≤ (u.size : Int)
  eq : ∀ x, lo ≤ x → x < hi → bt u (x + d) = bt s x
section
variable {s u : ByteArray} {d lo hi : Int}
theorem Move.at (M : Move s u d lo hi) {x : Int} (h1 : lo ≤ x) (h2 : x < hi) : at_ u (x + d) = at_ s x := by
  have := M.hs; have := M.hu
  rw [at_in (by omega), at_in (by omega), M.eq x h1 h2]
theorem Move.line (M : Move s u d lo hi) {x : Int} (h1 : lo ≤ x) (h2 : x < hi) : lineAt u (x + d) = lineAt s x := by
  unfold lineAt; rw [M.eq x h1 h2]
theorem Move.word (M : Move s u d lo hi) {x : Int} (h1 : lo ≤ x) (h2 : x < hi) : wordAt u (x + d) = wordAt s x := by
  unfold wordAt; rw [M.at h1 h2]
theorem Move.digit (M : Move s u d lo hi) {x : Int} (h1 : lo ≤ x) (h2 : x < hi) : digitAt u (x + d) = digitAt s x := by
  unfold digitAt; rw [M.at h1 h2]
/-- a scan that ends at or before hi -/
theorem Move.scan (M : Move s u d lo hi) {p q : Int → Bool} (hpq : ∀ x, lo ≤ x → x < hi → q (x + d) = p x) {i : Int} (h1 : lo ≤ i) (h2 : i ≤ hi) (hj : scanTo p s.size i ≤ hi)
    (hq : scanTo p s.size i = hi → hi + d < (u.size : Int) → q (hi + d) = false) : scanTo q u.size (i + d) = scanTo p s.size i + d := by
  have hr := scanTo_range p s.size i (by have := M.hs; omega)
  obtain ⟨a, b⟩ := scanTo_spec p s.size i
  generalize scanTo p s.size i = j at *
  have := M.hs; have := M.hu
  refine scanTo_eq (by omega) (by omega) (fun x hx hx2 => ?_) (fun hlt => ?_)
  · have := hpq (x - d) (by omega) (by omega)
    rw [show x - d + d = x from by omega] at this
    rw [this]; exact a _ (by omega) (by omega)
  · by_cases e : j = hi
    · subst e; exact hq rfl hlt
    · rw [hpq j (by omega) (by omega)]; exact b (by omega)
theorem Move.text (M : Move s u d lo hi) {i j : Int} (h1 : lo ≤ i) (h2 : i ≤ j) (h3 : j ≤ hi) : u.extract (i + d).toNat (j + d).toNat = s.extract i.toNat j.toNat := by
  have := M.hs; have := M.hu; have := M.h0; have := M.d0
  have e1 := size_extractI (s := u) (a := i + d) (b := j + d) (by omega) (by omega) (by omega)
  have e2 := size_extractI (s := s) (a := i) (b := j) (by omega) (by omega) (by omega)
  refine ext_bt (by omega) (fun x hx hx2 => ?_)
  rw [bt_extract (by omega) hx (by omega) (by omega), bt_extract (by omega) hx (by omega) (by omega), show i + d + x = (i + x) + d from by omega]
  exact M.eq _ (by omega) (by omega)
/-- what stands in u behind the piece cuts words and numbers off -/
def Soft (u : ByteArray) (p : Int) : Prop := wordAt u p = false ∧ digitAt u p = false
theorem soft_end {u : ByteArray} {p : Int} (h : (u.size : Int) ≤ p) : Soft u p := by simp [Soft, wordAt, digitAt, at_end h]
theorem soft_of {u : ByteArray} {p : Int} (h : at_ u p = 5 ∨ at_ u p = 6) : Soft u p := by
  rcases h with h | h <;> simp [Soft, wordAt, digitAt, h]
/-- a gap inside the piece -/
theorem Move.gap (M : Move s u d lo hi) {i j : Int} (h : Gap s i j) : lo ≤ i → j ≤ hi → (j < hi ∨ hi + d = (u.size : Int) ∨ (∀ x, lo ≤ x → x < hi → at_ s x = 6 → scanTo (lineAt s) s.size x < hi)) → Gap u (i + d) (j + d) := by
  induction h with
  | here i => intro _ _ _; exact .here _
  | @blank i j h5 hg ih =>
    intro h1 h2 hb
    have hlt := (at_some (by decide) h5).1
    have hle := hg.le (by omega)
    have hx : at_ u (i + d) = 5 := by rw [M.at h1 (by omega), h5]
    have hi1 := ih (by omega) h2 hb
    rw [show i + 1 + d = i + d + 1 from by omega] at hi1
    exact .blank hx hi1
  | @note i m j h6 hm hg ih =>
    intro h1 h2 hb
    have hlt := (at_some (by decide) h6).1
    have hst := scanTo_step hlt (line_of_six h6)
    have hr := scanTo_range (lineAt s) s.size i (by omega)
    have hle := hg.le (by omega)
    have hx : at_ u (i + d) = 6 := by rw [M.at h1 (by omega), h6]
    have hsc : scanTo (lineAt u) u.size (i + d) = scanTo (lineAt s) s.size i + d := by
      refine M.scan (fun x a b => M.line a b) h1 (by omega) (by omega) (fun he hlt2 => ?_)
      rcases hb with hb | hb | hb
      · omega
      · omega
      · have := hb i h1 (by omega) h6; omega
    exact .note hx (by rw [hsc, hm]) (ih (by omega) h2 hb)
/-- what is skipped, where it ends inside the piece -/
theorem Move.skip (M : Move s u d lo hi) {i : Int} (h1 : lo ≤ i) (h2 : skipTo s i < hi) : skipTo u (i + d) = skipTo s i + d := by
  have hs := M.hs
  have h0 := M.h0
  have hi1 : i ≤ (s.size : Int) := by
    rcases Int.lt_or_le (s.size : Int) i with h | h
    · rw [skipTo_other (by rw [at_end (by omega)]; decide) (by rw [at_end (by omega)]; decide)] at h2; omega
    · exact h
  obtain ⟨hg, h5, h6⟩ := skip_gap s i (by omega) hi1
  have hle := hg.le hi1
  refine skip_of_gap (by have := M.d0; omega) (M.gap hg h1 (by omega) (.inl h2)) ?_ ?_
  · rw [M.at (by omega) h2]; exact h5
  · rw [M.at (by omega) h2]; exact h6
theorem firstAt_move (sg : Bool) (i d : Int) : firstAt sg (i + d) = firstAt sg i + d := by unfold firstAt; split <;> omega
/-- the token at i -/
theorem Move.next (M : Move s u d lo hi) {i : Int} (h1 : lo ≤ i) (h2 : i < hi) (hE : (nextAt s i).2.2.2.2 ≤ hi) (hsoft : (nextAt s i).2.2.2.2 = hi → Soft u (hi + d)) (hw : wordAt s hi = false ∨ (nextAt s i).2.2.2.1 = true ∨ (nextAt s i).2.2.2.2 < hi) :
    nextAt u (i + d) = ((nextAt s i).1, (nextAt s i).2.1, (if (nextAt s i).2.2.2.1 = true then (nextAt s i).2.2.1 + d else 0), (nextAt s i).2.2.2.1, (nextAt s i).2.2.2.2 + d) := by
  have hs := M.hs
  have h0 := M.h0
  unfold nextAt at hE hsoft hw ⊢
  rw [M.at h1 h2]
  by_cases c1 : at_ s i = 1
  · simp only [if_pos c1, if_true] at hE hsoft hw ⊢
    have hr := scanTo_range (wordAt s) s.size i (by omega)
    have hsc := M.scan (p := wordAt s) (q := wordAt u) (fun x a b => M.word a b) h1 (by omega) hE (fun e _ => (hsoft e).1)
    rw [hsc, M.text h1 hr.1 hE]
  · simp only [if_neg c1] at hE hsoft hw ⊢
    by_cases c4 : at_ s i = 4
    · simp only [if_pos c4, if_true] at hE hsoft hw ⊢
      rw [show i + d + 1 = i + 1 + d from by omega, M.text h1 (by omega) (by omega)]
    · simp only [if_neg c4] at hE hsoft hw ⊢
      by_cases c7 : at_ s i = 7 ∨ at_ s i = 2
      · simp only [if_pos c7] at hE hsoft hw ⊢
        generalize (at_ s i == 7) = sg at *
        rw [firstAt_move]
        have hf : i ≤ firstAt sg i ∧ firstAt sg i ≤ i + 1 := by unfold firstAt; split <;> omega
        generalize firstAt sg i = f at *
        have hr := scanTo_range (digitAt s) s.size f (by omega)
        have hj : scanTo (digitAt s) s.size f ≤ hi := by
          revert hE; split <;> (intro hE; exact hE)
        have hso : scanTo (digitAt s) s.size f = hi → Soft u (hi + d) := by
          revert hsoft; split <;> (intro hsoft; exact hsoft)
        have hsc := M.scan (p := digitAt s) (q := digitAt u) (fun x a b => M.digit a b) (by omega) (by omega) hj (fun e _ => (hso e).2)
        rw [hsc, M.text (by omega) hr.1 hj, M.text h1 (by omega) hj]
        have hww : wordAt u (scanTo (digitAt s) s.size f + d) = wordAt s (scanTo (digitAt s) s.size f) := by
          by_cases e : scanTo (digitAt s) s.size f = hi
          · rw [e, (hso e).1]
            rcases hw with hw | hw | hw
            · exact hw.symm
            · revert hw
              split
              · rename_i hc
                intro _
                simp only [Bool.and_eq_true, Bool.not_eq_true'] at hc
                rw [← e]; exact hc.2.symm
              · intro hw; exact absurd hw (by simp)
            · exfalso
              revert hw; split <;> (intro hw; simp only at hw; omega)
          · exact M.word (by omega) (by omega)
        rw [hww]
        split <;> simp
      · simp only [if_neg c7, Bool.false_eq_true, if_false] at hE hsoft hw ⊢
end
def tokAt (s : ByteArray) (i : Int) : S44 := ⟨(nextAt s i).1, (nextAt s i).2.1, (nextAt s i).2.2.1⟩
/-- from i on (ahead of the gap) the tokens ts are read; then the lexer stands at j, right behind the last -/
inductive Path (s : ByteArray) : Int → List S44 → Int → Prop where
  | nil (i : Int) : Path s i [] i
  | cons {i j : Int} {ts : List S44} : skipTo s i < (s.size : Int) → (nextAt s (skipTo s i)).2.2.2.1 = true → Path s (nextAt s (skipTo s i)).2.2.2.2 ts j → Path s i (tokAt s (skipTo s i) :: ts) j
theorem Path.le {s : ByteArray} {i j : Int} {ts : List S44} (h : Path s i ts j) : 0 ≤ i → i ≤ (s.size : Int) → i ≤ j ∧ j ≤ (s.size : Int) := by
  induction h with
  | nil i => intro _ h1; omega
  | cons hlt hok hp ih =>
    intro h0 h1
    have hr := skipTo_range s _ h0 h1
    have hn := nextAt_range s _ (by omega) hr.2 hok
    have := ih (by omega) hn.2
    omega
theorem Path.append {s : ByteArray} {i j k : Int} {ts us : List S44} (h : Path s i ts j) (g : Path s j us k) : Path s i (ts ++ us) k := by
  induction h with
  | nil i => exact g
  | cons hlt hok hp ih => exact .cons hlt hok (ih g)
theorem Path.cut {s : ByteArray} {i j : Int} {ts : List S44} (h : Path s i ts j) : ∀ n, n ≤ ts.length → ∃ m, Path s i (ts.take n) m ∧ Path s m (ts.drop n) j := by
  induction h with
  | nil i => intro n hn; exact ⟨i, by simpa using .nil i, by simpa using .nil i⟩
  | @cons i j ts hlt hok hp ih =>
    intro n hn
    cases n with
    | zero => exact ⟨i, .nil i, by simpa using .cons hlt hok hp⟩
    | succ n =>
      obtain ⟨m, h1, h2⟩ := ih n (by simpa using hn)
      exact ⟨m, .cons hlt hok h1, h2⟩
theorem path_of_lx {s : ByteArray} {p : Int} {ts : List S44} {e : Option Int} (h : Lx s p ts e) : ∀ i, p = skipTo s i → ∃ j, Path s i ts j ∧ (e = none → ¬ skipTo s j < (s.size : Int)) ∧ (∀ x, e = some x → x = skipTo s j ∧ x < (s.size : Int) ∧ (nextAt s x).2.2.2.1 = false) := by
  induction h with
  | done hge => intro i hi; subst hi; exact ⟨i, .nil i, fun _ => hge, fun x hx => by cases hx⟩
  | err hlt hno => intro i hi; subst hi; exact ⟨i, .nil i, (fun h => by cases h), (fun x hx => by obtain rfl := Option.some.inj hx; exact ⟨rfl, hlt, hno⟩)⟩
  | tok hlt hok hl ih =>
    intro i hi
    subst hi
    obtain ⟨j, hp, a, b⟩ := ih _ rfl
    exact ⟨j, .cons hlt hok hp, a, b⟩
theorem lx_of_path {s : ByteArray} {i j : Int} {ts : List S44} (h : Path s i ts j) : ∀ {us : List S44} {e : Option Int}, Lx s (skipTo s j) us e → Lx s (skipTo s i) (ts ++ us) e := by
  induction h with
  | nil i => intro us e h; exact h
  | cons hlt hok hp ih => intro us e h; exact .tok hlt hok (ih h)
/-- every text: its tokens, and how they end -/
theorem whole (s : ByteArray) (hs : s.size ≤ 20000) : ∃ ts j, Path s 0 ts j ∧ 0 ≤ j ∧ j ≤ (s.size : Int) ∧ ((lexB s = (ts, 0, 0) ∧ skipTo s j = s.size) ∨ (lexB s = ([], 100, skipTo s j) ∧ skipTo s j < (s.size : Int) ∧ (nextAt s (skipTo s j)).2.2.2.1 = false)) := by
  obtain ⟨ts, e, h⟩ := lx_whole s
  obtain ⟨j, hp, hn, he⟩ := path_of_lx h 0 rfl
  have hle := hp.le (by omega) (by omega)
  have hr := skipTo_range s j (by omega) hle.2
  refine ⟨ts, j, hp, by omega, hle.2, ?_⟩
  cases e with
  | none => exact .inl ⟨lexB_of hs h, by have := hn rfl; omega⟩
  | some x =>
    obtain ⟨hx, hlt, hno⟩ := he x rfl
    subst hx
    exact .inr ⟨lexB_of hs h, hlt, hno⟩
theorem lexB_ok {s : ByteArray} (hs : s.size ≤ 20000) {ts : List S44} {j : Int} (h : Path s 0 ts j) (he : ¬ skipTo s j < (s.size : Int)) : lexB s = (ts, 0, 0) := by
  have := lexB_of hs (lx_of_path h (.done he))
  simpa [outOf] using this
theorem lexB_bad {s : ByteArray} (hs : s.size ≤ 20000) {ts : List S44} {j : Int} (h : Path s 0 ts j) (he : skipTo s j < (s.size : Int)) (hno : (nextAt s (skipTo s j)).2.2.2.1 = false) : lexB s = ([], 100, skipTo s j) := by
  have := lexB_of hs (lx_of_path h (.err he hno))
  simpa [outOf] using this
/-- the place of a token is where it begins -/
theorem nextAt_at {s : ByteArray} {i : Int} (hok : (nextAt s i).2.2.2.1 = true) : (nextAt s i).2.2.1 = i ∧ (1 ≤ (nextAt s i).1 ∧ (nextAt s i).1 ≤ 3) ∧ (nextAt s i).2.1 = s.extract i.toNat (nextAt s i).2.2.2.2.toNat := by
  revert hok
  unfold nextAt
  by_cases c1 : at_ s i = 1
  · simp only [if_pos c1]; simp
  · simp only [if_neg c1]
    by_cases c4 : at_ s i = 4
    · simp only [if_pos c4]; simp
    · simp only [if_neg c4]
      by_cases c7 : at_ s i = 7 ∨ at_ s i = 2
      · simp only [if_pos c7]
        split
        · simp
        · intro h; exact absurd h (by simp)
      · simp only [if_neg c7]; intro h; exact absurd h (by simp)
/-- whatever is read ends in the text -/
theorem nextAt_end (s : ByteArray) (i : Int) (_ : 0 ≤ i) (h1 : i ≤ (s.size : Int)) : (nextAt s i).2.2.2.2 ≤ (s.size : Int) := by
  unfold nextAt
  by_cases c1 : at_ s i = 1
  · simp only [if_pos c1]; exact (scanTo_range _ _ _ h1).2
  · simp only [if_neg c1]
    by_cases c4 : at_ s i = 4
    · simp only [if_pos c4]; have := (at_some (by decide) c4).1; omega
    · simp only [if_neg c4]
      by_cases c7 : at_ s i = 7 ∨ at_ s i = 2
      · simp only [if_pos c7]
        have hlt : i < (s.size : Int) := by rcases c7 with c | c <;> exact (at_some (by decide) c).1
        have hf : firstAt (at_ s i == 7) i ≤ (s.size : Int) := by unfold firstAt; split <;> omega
        have := (scanTo_range (digitAt s) s.size _ hf).2
        split <;> exact this
      · simp only [if_neg c7]; exact h1
/-- tokens d places on -/
def moved (d : Int) (ts : List S44) : List S44 := ts.map fun t => ⟨t.f0, t.f1, t.f2 + d⟩
theorem Move.path {s u : ByteArray} {d lo hi : Int} (M : Move s u d lo hi) {i j : Int} {ts : List S44} (h : Path s i ts j) : lo ≤ i → 0 ≤ i → i ≤ (s.size : Int) → j ≤ hi → (j = hi → Soft u (hi + d)) → Path u (i + d) (moved d ts) (j + d) := by
  induction h with
  | nil i => intro _ _ _ _ _; exact .nil _
  | @cons i j ts hlt hok hp ih =>
    intro h1 h0 hi1 hj hso
    have hr := skipTo_range s i h0 hi1
    have hn := nextAt_range s _ (by omega) hr.2 hok
    have hle := hp.le (by omega) hn.2
    have hs := M.skip h1 (by omega)
    have hx := M.next (i := skipTo s i) (by omega) (by omega) (by omega) (fun e => hso (by omega)) (.inr (.inl hok))
    rw [if_pos hok] at hx
    have h3 := ih (by omega) (by omega) hn.2 hj hso
    have hu := M.hu; have hss := M.hs
    have e1 : tokAt u (skipTo u (i + d)) = ⟨(tokAt s (skipTo s i)).f0, (tokAt s (skipTo s i)).f1, (tokAt s (skipTo s i)).f2 + d⟩ := by
      unfold tokAt; rw [hs, hx]
    show Path u (i + d) (⟨(tokAt s (skipTo s i)).f0, (tokAt s (skipTo s i)).f1, (tokAt s (skipTo s i)).f2 + d⟩ :: moved d ts) (j + d)
    rw [← e1]
    refine .cons (by rw [hs]; omega) (by rw [hs, hx]; exact hok) ?_
    rw [hs, hx]
    exact h3
theorem moved_zero (ts : List S44) : moved 0 ts = ts := by
  unfold moved
  induction ts with
  | nil => rfl
  | cons t ts ih => rw [List.map_cons, ih]; simp
end Go.Proofs.YtonhcfecfifghaaDoor.PPx
namespace Go.Proofs.YtonhcfecfifghaaDoor.PPx
open Go.RowKit Go.Proofs.YtonhcfecfifghaaDoorW.PrintWords Go.Proofs.YtonhcfecfifghaaDoorW.PrintLast Go.Proofs.YtonhcfecfifghaaDoorW.PrintMore
/-- s holds u from i on -/
def Holds (s : ByteArray) (i : Int) (u : ByteArray) : Prop := 0 ≤ i ∧ i + u.size ≤ (s.size : Int) ∧ ∀ x : Int, 0 ≤ x → x < (u.size : Int) → bt s (i + x) = bt u x
theorem Holds.move {s u : ByteArray} {i : Int} (h : Holds s i u) : Move u s i 0 u.size := ⟨Int.le_refl _, Int.le_refl _, by have := h.1; omega, by have := h.2.1; omega, fun x h0 h1 => by rw [Int.add_comm]; exact h.2.2 x h0 h1⟩
theorem Holds.left {s u v : ByteArray} {i : Int} (h : Holds s i (u ++ v)) : Holds s i u := by
  obtain ⟨h0, h1, h2⟩ := h
  rw [ByteArray.size_append] at h1 h2
  refine ⟨h0, by omega, fun x hx hy => ?_⟩
  rw [h2 x hx (by omega), bt_left hx hy]
theorem Holds.right {s u v : ByteArray} {i : Int} (h : Holds s i (u ++ v)) : Holds s (i + u.size) v := by
  obtain ⟨h0, h1, h2⟩ := h
  rw [ByteArray.size_append] at h1 h2
  refine ⟨by omega, by omega, fun x hx hy => ?_⟩
  have := h2 (u.size + x) (by omega) (by omega)
  rw [show i + (u.size : Int) + x = i + (u.size + x) by omega, this, bt_right (by omega) (by omega)]
  congr 1; omega
theorem Holds.self (u : ByteArray) : Holds u 0 u := ⟨Int.le_refl _, by omega, fun x _ _ => by rw [Int.zero_add]⟩
theorem Holds.at {s u : ByteArray} {i x : Int} (h : Holds s i u) (h0 : 0 ≤ x) (h1 : x < (u.size : Int)) : at_ s (i + x) = at_ u x := by rw [Int.add_comm]; exact h.move.at h0 h1
/-- tokens, then a gap -/
def Runs (s : ByteArray) (i : Int) (ts : List S44) (j : Int) : Prop := ∃ j', Path s i ts j' ∧ Gap s j' j
theorem path_of_gap {s : ByteArray} {i' i j : Int} {ts : List S44} (hg : Gap s i' i) (h0 : 0 ≤ i') (h : Path s i ts j) (hne : ts ≠ []) : Path s i' ts j := by
  cases h with
  | nil => exact absurd rfl hne
  | cons hlt hok hp =>
    have e := hg.skip h0
    rw [e] at hlt hok hp ⊢
    exact .cons hlt hok hp
theorem Runs.append {s : ByteArray} {i j k : Int} {ts us : List S44} (h0 : 0 ≤ i) (h1 : i ≤ (s.size : Int)) (h : Runs s i ts j) (g : Runs s j us k) : Runs s i (ts ++ us) k := by
  obtain ⟨j', hp, hg⟩ := h
  obtain ⟨k', gp, gg⟩ := g
  have hj := hp.le h0 h1
  cases us with
  | nil =>
    rw [List.append_nil]
    cases gp
    exact ⟨j', hp, hg.trans gg⟩
  | cons u us => exact ⟨k', hp.append (path_of_gap hg (by omega) gp (by simp)), gg⟩
theorem moved_append (d : Int) (a b : List S44) : moved d (a ++ b) = moved d a ++ moved d b := by simp [moved]
theorem moved_moved (d e : Int) (a : List S44) : moved d (moved e a) = moved (e + d) a := by simp [moved, Int.add_assoc]
theorem moved_nil (d : Int) : moved d [] = [] := rfl
/-- over u the lexer reads ts (offsets from u's head on), wherever u stands; hard: if no byte of a word follows -/
def LexT (u : ByteArray) (hard : Bool) (ts : List S44) : Prop := ∀ (s : ByteArray) (i : Int), Holds s i u → (hard = true → Soft s (i + u.size)) → Runs s i (moved i ts) (i + u.size)
/-- a text that does not begin with a byte of a word -/
def SoftHd (v : ByteArray) : Prop := 0 < v.size ∧ Soft v 0
theorem soft_at {s u : ByteArray} {p q : Int} (h : at_ s p = at_ u q) (g : Soft u q) : Soft s p := by
  unfold Soft wordAt digitAt at *
  rw [h]; exact g
theorem LexT.append {u v : ByteArray} {a b : Bool} {ts us : List S44} (h : LexT u a ts) (g : LexT v b us) (hs : a = true → SoftHd v) : LexT (u ++ v) b (ts ++ moved u.size us) := by
  intro s i hh hb
  have hl := hh.left
  have hr := hh.right
  have h1 := h s i hl (fun e => by
    obtain ⟨hp, hsf⟩ := hs e
    refine soft_at ?_ hsf
    have := hr.at (x := 0) (Int.le_refl _) (by omega)
    rw [Int.add_zero] at this
    exact this)
  have h2 := g s (i + u.size) hr (fun e => by
    have := hb e
    rw [ByteArray.size_append] at this
    rw [show i + (u.size : Int) + v.size = i + ((u.size + v.size : Nat) : Int) by omega]
    exact this)
  rw [moved_append, moved_moved, ByteArray.size_append]
  have hz := hl.2.1
  have := Runs.append hl.1 (by omega) h1 h2
  rw [show i + ((u.size + v.size : Nat) : Int) = i + (u.size : Int) + v.size by omega, show (u.size : Int) + i = i + u.size by omega]
  exact this
/-- a text of blanks -/
def Blank (g : ByteArray) : Prop := ∀ x : Int, 0 ≤ x → x < (g.size : Int) → at_ g x = 5
theorem gap_blanks {s : ByteArray} : ∀ (n : Nat) (i : Int), (∀ x : Int, 0 ≤ x → x < (n : Int) → at_ s (i + x) = 5) → Gap s i (i + n)
  | 0, i, _ => by simpa using Gap.here i
  | n + 1, i, h => by
    have h5 : at_ s i = 5 := by have := h 0 (Int.le_refl _) (by omega); rwa [Int.add_zero] at this
    have := gap_blanks n (i + 1) (fun x h0 h1 => by
      have := h (x + 1) (by omega) (by omega)
      rwa [show i + (x + 1) = i + 1 + x by omega] at this)
    rw [show i + ((n + 1 : Nat) : Int) = i + 1 + n by omega]
    exact .blank h5 this
theorem LexT.blank {g : ByteArray} (h : Blank g) : LexT g false [] := by
  intro s i hh _
  refine ⟨i, .nil i, gap_blanks _ _ (fun x h0 h1 => ?_)⟩
  rw [hh.at h0 h1]
  exact h x h0 h1
theorem LexT.weak {u : ByteArray} {ts : List S44} (h : LexT u false ts) : LexT u true ts := fun s i hh _ => h s i hh (fun e => by cases e)
/-- a text that is one token -/
def TokText (k : Int) (w : ByteArray) : Prop := 0 < w.size ∧ at_ w 0 ≠ 5 ∧ at_ w 0 ≠ 6 ∧ nextAt w 0 = (k, w, 0, true, (w.size : Int))
theorem LexT.tok {k : Int} {w : ByteArray} (h : TokText k w) : LexT w true [⟨k, w, 0⟩] := by
  obtain ⟨h0, h5, h6, hn⟩ := h
  intro s i hh hs
  have hat : at_ s i = at_ w 0 := by have := hh.at (x := 0) (Int.le_refl _) (by omega); rwa [Int.add_zero] at this
  have hsk : skipTo s i = i := skipTo_other (by rw [hat]; exact h5) (by rw [hat]; exact h6)
  have hnx := hh.move.next (i := 0) (Int.le_refl _) (by omega) (by rw [hn]; exact Int.le_refl _) (fun _ => by rw [Int.add_comm]; exact hs rfl) (.inr (.inl (by rw [hn])))
  rw [hn, Int.zero_add] at hnx
  simp only [if_true] at hnx
  have hlt := hh.2.1
  have hp : Path s i [tokAt s (skipTo s i)] (nextAt s (skipTo s i)).2.2.2.2 := .cons (by rw [hsk]; omega) (by rw [hsk, hnx]) (.nil _)
  rw [hsk] at hp
  have e : tokAt s i = ⟨k, w, i⟩ := by unfold tokAt; rw [hnx]
  rw [e, hnx] at hp
  refine ⟨(w.size : Int) + i, by simpa [moved] using hp, ?_⟩
  rw [Int.add_comm]
  exact .here _
/-- a sign: whatever follows -/
theorem LexT.sign {w : ByteArray} (h1 : w.size = 1) (h4 : at_ w 0 = 4) : LexT w false [⟨3, w, 0⟩] := by
  intro s i hh _
  have hat : at_ s i = 4 := by have := hh.at (x := 0) (Int.le_refl _) (by omega); rw [Int.add_zero] at this; rw [this, h4]
  have hsk : skipTo s i = i := skipTo_other (by rw [hat]; decide) (by rw [hat]; decide)
  have hnx : nextAt s i = (3, s.extract i.toNat (i + 1).toNat, i, true, i + 1) := by
    unfold nextAt
    rw [if_neg (by rw [hat]; decide), if_pos hat]
  have hlt := hh.2.1
  have hz := hh.1
  have hp : Path s i [tokAt s (skipTo s i)] (nextAt s (skipTo s i)).2.2.2.2 := .cons (by rw [hsk]; omega) (by rw [hsk, hnx]) (.nil _)
  rw [hsk] at hp
  have hx : s.extract i.toNat (i + 1).toNat = w := by
    refine ext_bt ?_ (fun x h0 h1' => ?_)
    · have := size_extractI (s := s) (a := i) (b := i + 1) hz (by omega) (by omega); omega
    · have hsz := size_extractI (s := s) (a := i) (b := i + 1) hz (by omega) (by omega)
      rw [bt_extract hz h0 (by omega) (by omega)]
      exact hh.2.2 x h0 (by omega)
  have e : tokAt s i = ⟨3, w, i⟩ := by unfold tokAt; rw [hnx, hx]
  rw [e, hnx] at hp
  refine ⟨_, by simpa [moved] using hp, ?_⟩
  simp only [h1]
  exact .here _
/-- a whole text -/
theorem LexT.lex {u : ByteArray} {hard : Bool} {ts : List S44} (h : LexT u hard ts) (hs : u.size ≤ 20000) : lexB u = (ts, 0, 0) := by
  obtain ⟨j, hp, hg⟩ := h u 0 (Holds.self u) (fun _ => soft_end (by omega))
  rw [moved_zero] at hp
  have hj := hp.le (Int.le_refl _) (by omega)
  rw [Int.zero_add] at hg
  refine lexB_ok hs hp ?_
  rw [skip_end hj.1 hg]
  omega
/-- a text that the lexer takes for one token with the text's own bytes -/
theorem tok_of_lex {w : ByteArray} {t : S44} (h : lexB w = ([t], 0, 0)) (he : t.f1 = w) (hs : w.size ≤ 20000) : TokText t.f0 w := by
  obtain ⟨ts, j, hp, h0, h1, hc⟩ := whole w hs
  have hts : ts = [t] ∧ skipTo w j = w.size := by
    rcases hc with ⟨hl, hk⟩ | ⟨hl, _, _⟩
    · rw [h] at hl; exact ⟨(congrArg Prod.fst hl).symm, hk⟩
    · rw [h] at hl; exact absurd (congrArg Prod.fst hl) (by simp)
  obtain ⟨rfl, hk⟩ := hts
  obtain ⟨_, g5, g6⟩ := skip_gap w 0 (Int.le_refl _) (by omega)
  have hr := skipTo_range w 0 (Int.le_refl _) (by omega)
  cases hp with
  | cons hlt hok hp2 =>
    obtain ⟨a1, a2, a3⟩ := nextAt_at hok
    have hn := nextAt_range w _ (by omega) hr.2 hok
    simp only [tokAt] at he ⊢
    have hsz := size_extractI (s := w) (a := skipTo w 0) (b := (nextAt w (skipTo w 0)).2.2.2.2) (by omega) (by omega) hn.2
    have he' := congrArg ByteArray.size he
    rw [a3] at he'
    have hp0 : skipTo w 0 = 0 := by omega
    have hend : (nextAt w (skipTo w 0)).2.2.2.2 = (w.size : Int) := by omega
    have hsz0 : 0 < w.size := by omega
    rw [hp0] at g5 g6 hok a1 a2 a3 hend he ⊢
    refine ⟨hsz0, g5, g6, ?_⟩
    refine Prod.ext rfl (Prod.ext he (Prod.ext a1 (Prod.ext hok hend)))
end Go.Proofs.YtonhcfecfifghaaDoor.PPx
namespace Go.Proofs.YtonhcfecfifghaaDoor.PPx
open Go.RowKit Go.Proofs.YtonhcfecfifghaaDoorW.PrintWords Go.Proofs.YtonhcfecfifghaaDoorW.PrintLast Go.Proofs.YtonhcfecfifghaaDoorW.PrintMore
set_option linter.unusedVariables false
theorem toList_nil_iff (d : ByteArray) : d.toList = [] ↔ d.size = 0 := by
  rw [ByteArray.toList_eq]
  constructor
  · intro h; have := congrArg List.length h; simpa using this
  · intro h; rw [Array.eq_empty_of_size_eq_zero (show d.data.size = 0 from h)]
theorem numOK_eq (sg : Bool) (d : ByteArray) : numOK sg d = (decide (1 ≤ d.size) && (decide (d.size ≤ 9) && (bt d 0 != 48 || (d.toList == [48] && !sg)))) := by
  have h := number_f sg d
  unfold lexer_number.f at h
  by_cases h0 : d.size = 0
  · rw [if_pos ((toList_nil_iff d).2 h0)] at h
    have := Option.some.inj h
    simp [← this, h0]
  · rw [if_neg (fun e => h0 ((toList_nil_iff d).1 e))] at h
    by_cases h9 : (d.size : Int) > 9
    · rw [if_pos h9] at h
      have := Option.some.inj h
      have h9' : ¬ d.size ≤ 9 := by omega
      simp [← this, h9']
    · rw [if_neg h9, if_pos (by omega)] at h
      have h9' : d.size ≤ 9 := by omega
      have h1' : 1 ≤ d.size := by omega
      by_cases h48 : bt d 0 = 48
      · rw [if_pos h48] at h
        by_cases hl : d.toList = [48]
        · rw [if_pos hl] at h
          have := Option.some.inj h
          simp [← this, h9', h1', h48, hl]
        · rw [if_neg hl] at h
          have := Option.some.inj h
          simp [← this, h48, hl]
      · rw [if_neg h48] at h
        have := Option.some.inj h
        simp [← this, h9', h1', h48]
theorem toList_one_size {d : ByteArray} (h : d.toList = [48]) : d.size = 1 := by
  rw [ByteArray.toList_eq] at h
  have := congrArg List.length h
  simpa using this
theorem one_size (c : Int) : (strOfNums [c]).size = 1 := rfl
theorem one_bt (c : Int) (h0 : 0 ≤ c) (h1 : c ≤ 255) : bt (strOfNums [c]) 0 = c := by
  rw [← bt_at (strOfNums [c]) 0 (by rw [one_size]; decide)]
  show ((UInt8.ofNat c.toNat).toNat : Int) = c
  rw [UInt8.toNat_ofNat_of_lt' (by show c.toNat < 256; omega)]
  omega
theorem cls_digit (c : Nat) (h0 : 48 ≤ c) (h1 : c ≤ 57) : cls c = 2 := by
  unfold cls; rw [if_neg (by omega), if_pos (by omega)]
theorem cls_letter (c : Nat) (h0 : 97 ≤ c) (h1 : c ≤ 122) : cls c = 1 := by
  unfold cls; rw [if_pos (by omega)]
/-- all digits -/
def Digs (d : ByteArray) : Prop := ∀ x : Int, 0 ≤ x → x < (d.size : Int) → 48 ≤ bt d x ∧ bt d x ≤ 57
theorem toList_48 {d : ByteArray} (h1 : d.size = 1) (h : bt d 0 = 48) : d.toList = [48] := by
  have e : d = ⟨#[48]⟩ := by
    refine ext_bt (by rw [h1]; rfl) (fun x h0 hx => ?_)
    have : x = 0 := by omega
    subst this
    rw [h]; rfl
  rw [e, ByteArray.toList_eq]
/-- a number at i, its digits from f to j -/
theorem number_next {u : ByteArray} {sg : Bool} {i f j : Int} (_ : 0 ≤ i) (hf : firstAt sg i = f) (hc : at_ u i = if sg = true then 7 else 2) (hd : ∀ x, f ≤ x → x < j → at_ u x = 2) (hfj : f ≤ j) (hj : j ≤ (u.size : Int)) (he : at_ u j ≠ 2) :
    nextAt u i = if (numOK sg (u.extract f.toNat j.toNat) && !wordAt u j) = true then (2, u.extract i.toNat j.toNat, i, true, j) else (0, ⟨#[]⟩, 0, false, j) := by
  have hs : scanTo (digitAt u) u.size f = j := scanTo_eq hfj hj (fun x a b => by simp [digitAt, hd x a b]) (fun _ => by simpa [digitAt] using he)
  have h1 : at_ u i ≠ 1 := by rw [hc]; split <;> decide
  have h4 : at_ u i ≠ 4 := by rw [hc]; split <;> decide
  have h7 : at_ u i = 7 ∨ at_ u i = 2 := by rw [hc]; cases sg <;> simp
  have hb : (at_ u i == 7) = sg := by rw [hc]; cases sg <;> rfl
  unfold nextAt
  rw [if_neg h1, if_neg h4, if_pos h7]
  simp only [hb, hf, hs]
theorem numOK_of {sg : Bool} {d : ByteArray} (h1 : 1 ≤ d.size) (h9 : d.size ≤ 9) (hl : bt d 0 ≠ 48 ∨ (d.size = 1 ∧ sg = false)) : numOK sg d = true := by
  rw [numOK_eq, decide_eq_true h1, decide_eq_true h9]
  rcases hl with h | ⟨ha, hb⟩
  · have e : (bt d 0 != 48) = true := bne_iff_ne.2 h
    rw [e]; rfl
  · by_cases h : bt d 0 = 48
    · have e : (bt d 0 != 48) = false := by simp [h]
      rw [e, toList_48 ha h, hb]; rfl
    · have e : (bt d 0 != 48) = true := bne_iff_ne.2 h
      rw [e]; rfl
theorem numOK_zero {sg : Bool} {d : ByteArray} (h1 : 2 ≤ d.size) (hl : bt d 0 = 48) : numOK sg d = false := by
  rw [numOK_eq]
  have e : (bt d 0 != 48) = false := by simp [hl]
  have e2 : (d.toList == [48]) = false := beq_eq_false_iff_ne.2 (fun h => by have := toList_one_size h; omega)
  rw [e, e2]
  simp
theorem bt_ext0 {s : ByteArray} {a b : Int} (h0 : 0 ≤ a) (h1 : a < b) (h2 : b ≤ (s.size : Int)) : bt (s.extract a.toNat b.toNat) 0 = bt s a := by
  have := bt_extract (s := s) (a := a) (b := b) (x := 0) h0 (by omega) (by omega) h2
  rwa [Int.add_zero] at this
theorem extract_whole (u : ByteArray) : u.extract (0 : Int).toNat ((u.size : Nat) : Int).toNat = u := by
  have e := size_extractI (s := u) (a := 0) (b := u.size) (by omega) (by omega) (by omega)
  refine ext_bt (by omega) (fun x h0 h1 => ?_)
  rw [bt_extract (by omega) h0 (by omega) (by omega), Int.zero_add]
def sgn (sg : Bool) : ByteArray := if sg = true then ⟨#[45]⟩ else ⟨#[]⟩
theorem sgn_size (sg : Bool) : ((sgn sg).size : Int) = if sg = true then 1 else 0 := by cases sg <;> rfl
theorem sgn_first (sg : Bool) : firstAt sg 0 = ((sgn sg).size : Int) := by cases sg <;> rfl
/-- the notation of a number alone -/
theorem lex_number {sg : Bool} {D : ByteArray} (hD : Digs D) (h1 : 1 ≤ D.size) (h9 : D.size ≤ 9) (hl : bt D 0 ≠ 48 ∨ (D.size = 1 ∧ sg = false)) : lexB (sgn sg ++ D) = ([⟨2, sgn sg ++ D, 0⟩], 0, 0) := by
  have hs := sgn_size sg
  have hf := sgn_first sg
  have hn : (sgn sg).size ≤ 1 := by cases sg <;> decide
  have hsz : (sgn sg ++ D).size = (sgn sg).size + D.size := ByteArray.size_append
  have hdig : ∀ x, ((sgn sg).size : Int) ≤ x → x < ((sgn sg ++ D).size : Int) → at_ (sgn sg ++ D) x = 2 := by
    intro x a b
    rw [at_in b, bt_right a (by omega)]
    have := hD (x - (sgn sg).size) (by omega) (by omega)
    exact cls_digit _ (by omega) (by omega)
  have hc : at_ (sgn sg ++ D) 0 = if sg = true then 7 else 2 := by
    cases sg with
    | true => rw [at_in (by omega), bt_left (by omega) (by decide)]; rfl
    | false => exact hdig 0 (by decide) (by omega)
  have hx := number_next (u := sgn sg ++ D) (i := 0) (f := (sgn sg).size) (j := ((sgn sg ++ D).size : Nat)) (by omega) hf hc hdig (by omega) (by omega) (by rw [at_end (Int.le_refl _)]; decide)
  have hok : numOK sg ((sgn sg ++ D).extract (((sgn sg).size : Nat) : Int).toNat (((sgn sg ++ D).size : Nat) : Int).toNat) = true := by
    have e1 := size_extractI (s := sgn sg ++ D) (a := ((sgn sg).size : Nat)) (b := ((sgn sg ++ D).size : Nat)) (by omega) (by omega) (by omega)
    refine numOK_of (by omega) (by omega) ?_
    rw [bt_ext0 (by omega) (by omega) (by omega), bt_right (Int.le_refl _) (by omega), Int.sub_self]
    rcases hl with h | ⟨h, g⟩
    · exact .inl h
    · exact .inr ⟨by omega, g⟩
  rw [hok, (soft_end (u := sgn sg ++ D) (Int.le_refl _)).1] at hx
  simp only [Bool.not_false, Bool.and_self, if_true, extract_whole] at hx
  have hsk : skipTo (sgn sg ++ D) 0 = 0 := skipTo_other (by rw [hc]; split <;> decide) (by rw [hc]; split <;> decide)
  have hp : Path (sgn sg ++ D) 0 [tokAt (sgn sg ++ D) (skipTo (sgn sg ++ D) 0)] (nextAt (sgn sg ++ D) (skipTo (sgn sg ++ D) 0)).2.2.2.2 := .cons (by rw [hsk]; omega) (by rw [hsk, hx]) (.nil _)
  have ht : tokAt (sgn sg ++ D) (skipTo (sgn sg ++ D) 0) = ⟨2, sgn sg ++ D, 0⟩ := by unfold tokAt; rw [hsk, hx]
  rw [ht, hsk, hx] at hp
  simp only at hp
  refine lexB_ok (by omega) hp ?_
  rw [skipTo_other (by rw [at_end (Int.le_refl _)]; decide) (by rw [at_end (Int.le_refl _)]; decide)]
  omega
theorem size_list (l : List UInt8) : (⟨l.toArray⟩ : ByteArray).size = l.length := by simp [ByteArray.size]
theorem bt_list (l : List UInt8) (x : Nat) (h : x < l.length) : bt (⟨l.toArray⟩ : ByteArray) (x : Int) = ((l[x]'h).toNat : Int) := by
  have hs : (x : Int).toNat < (⟨l.toArray⟩ : ByteArray).size := by rw [size_list]; simpa using h
  unfold bt
  rw [dif_pos hs]
  rfl
theorem dec_at (u t : Nat) (h : t < (Lib.decDigits u).length) : ((Lib.decDigits u)[t]'h).toNat = 48 + u / 10 ^ (Lib.nDigits u - 1 - t) % 10 := by
  have h2 : t < Lib.nDigits u := by rw [← Lib.decDigits_length]; exact h
  have e := Lib.decDigits_eq u
  have : (Lib.decDigits u)[t]'h = Lib.dg u (Lib.nDigits u - 1 - t) := by
    simp only [e, List.getElem_map, List.getElem_range]
  rw [this]
  unfold Lib.dg
  have hm := Nat.mod_lt (u / 10 ^ (Lib.nDigits u - 1 - t)) (show 0 < 10 by decide)
  rw [UInt8.toNat_ofNat']
  omega
theorem dec_digs (u : Nat) : Digs ⟨(Lib.decDigits u).toArray⟩ := by
  intro x h0 h1
  rw [size_list] at h1
  obtain ⟨n, rfl⟩ := Int.eq_ofNat_of_zero_le h0
  have hn : n < (Lib.decDigits u).length := by omega
  rw [bt_list _ n hn, dec_at u n hn]
  have := Nat.mod_lt (u / 10 ^ (Lib.nDigits u - 1 - n)) (show 0 < 10 by decide)
  omega
theorem nDigits_le {u d : Nat} (h : u < 10 ^ d) (hd : 1 ≤ d) : Lib.nDigits u ≤ d := by
  induction d generalizing u with
  | zero => omega
  | succ d ih =>
    by_cases hs : u < 10
    · rw [Lib.nDigits_small hs]; omega
    · rw [Lib.nDigits_big hs]
      by_cases h0 : d = 0
      · subst h0; simp at h; omega
      · rw [Nat.pow_succ] at h
        have := ih (u := u / 10) (by omega) (by omega)
        omega
theorem nDigits_ge : ∀ u : Nat, u ≠ 0 → 10 ^ (Lib.nDigits u - 1) ≤ u := by
  intro u
  induction u using Nat.strongRecOn with
  | _ u ih =>
    intro hu
    by_cases hs : u < 10
    · rw [Lib.nDigits_small hs]; simp; omega
    · rw [Lib.nDigits_big hs]
      have h1 := ih (u / 10) (by omega) (by omega)
      have h2 := Lib.nDigits_pos (u / 10)
      have e : Lib.nDigits (u / 10) + 1 - 1 = (Lib.nDigits (u / 10) - 1) + 1 := by omega
      rw [e, Nat.pow_succ]
      omega
theorem dec_lead {u : Nat} (h : u ≠ 0) : bt ⟨(Lib.decDigits u).toArray⟩ 0 ≠ 48 := by
  have hl : 0 < (Lib.decDigits u).length := by rw [Lib.decDigits_length]; exact Lib.nDigits_pos u
  have := bt_list (Lib.decDigits u) 0 hl
  rw [Int.ofNat_zero] at this
  rw [this, dec_at u 0 hl]
  have hge := nDigits_ge u h
  have hlt := Lib.lt_pow_nDigits u
  have hp := Lib.nDigits_pos u
  have e : Lib.nDigits u = (Lib.nDigits u - 1) + 1 := by omega
  rw [e, Nat.pow_succ] at hlt
  have hpos : 0 < 10 ^ (Lib.nDigits u - 1) := Nat.pow_pos (by decide)
  have hq1 : 1 ≤ u / 10 ^ (Lib.nDigits u - 1) := (Nat.le_div_iff_mul_le hpos).2 (by omega)
  have hq2 : u / 10 ^ (Lib.nDigits u - 1) < 10 := (Nat.div_lt_iff_lt_mul hpos).2 (by rw [Nat.mul_comm]; exact hlt)
  rw [Nat.sub_zero]
  omega
/-- the notation of an integer of at most nine digits is one token -/
theorem itoa_tok {n : Int} (h0 : -1000000000 < n) (h1 : n < 1000000000) : TokText 2 ⟨(Lib.itoa n).toArray⟩ ∧ (Lib.itoa n).length ≤ 10 := by
  have key : ∀ (u : Nat) (sg : Bool), u < 1000000000 → (sg = true → u ≠ 0) → TokText 2 (sgn sg ++ ⟨(Lib.decDigits u).toArray⟩) ∧ (Lib.decDigits u).length ≤ 9 := by
    intro u sg hu hsg
    have hl : (Lib.decDigits u).length ≤ 9 := by rw [Lib.decDigits_length]; exact nDigits_le (by simpa using hu) (by decide)
    have hl1 : 1 ≤ (Lib.decDigits u).length := by rw [Lib.decDigits_length]; exact Lib.nDigits_pos u
    refine ⟨?_, hl⟩
    have := lex_number (sg := sg) (dec_digs u) (by rw [size_list]; omega) (by rw [size_list]; omega) (by
      by_cases hz : u = 0
      · refine .inr ⟨?_, ?_⟩
        · rw [size_list, hz, Lib.decDigits_one (by decide)]; rfl
        · cases sg with
          | false => rfl
          | true => exact absurd hz (hsg rfl)
      · exact .inl (dec_lead hz))
    have hz := tok_of_lex this rfl (by
      rw [ByteArray.size_append, size_list (Lib.decDigits u)]
      have h2 : (sgn sg).size ≤ 1 := by cases sg <;> decide
      omega)
    exact hz
  rcases Int.lt_or_le n 0 with hn | hn
  · obtain ⟨u, rfl⟩ : ∃ u : Nat, n = -(u : Int) := ⟨n.natAbs, by omega⟩
    have := key u true (by omega) (fun _ => by omega)
    rw [Lib.itoa_neg u (by omega)]
    refine ⟨?_, by simp; omega⟩
    have e : (⟨(45 :: Lib.decDigits u).toArray⟩ : ByteArray) = sgn true ++ ⟨(Lib.decDigits u).toArray⟩ := by
      apply ByteArray.ext
      simp [sgn, ByteArray.data_append]
    rw [e]
    exact this.1
  · obtain ⟨u, rfl⟩ := Int.eq_ofNat_of_zero_le hn
    have := key u false (by omega) (fun h => by cases h)
    rw [Lib.itoa_nonneg u]
    refine ⟨?_, by omega⟩
    have e : (⟨(Lib.decDigits u).toArray⟩ : ByteArray) = sgn false ++ ⟨(Lib.decDigits u).toArray⟩ := by
      apply ByteArray.ext
      simp [sgn, ByteArray.data_append]
    rw [e]
    exact this.1
end Go.Proofs.YtonhcfecfifghaaDoor.PPx
