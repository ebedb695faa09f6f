/- Part C of the proofs of the parser's laws: the contracts of the functions that the law reaches, and what their plain functions compute. No condition. -/
import Derived.Test.YtonhcfecfifghaaDoorCoreA
import Derived.Test.YtonhcfecfifghaaDoorCoreB
import Derived.BigRegion
import Derived.Lib.AppendIntMem
namespace Go.Proofs.YtonhcfecfifghaaDoor.PPx
open Go.RowKit Go.Proofs.YtonhcfecfifghaaDoorW.PrintWords Go.Proofs.YtonhcfecfifghaaDoorW.PrintLast Go.Proofs.YtonhcfecfifghaaDoorW.PrintMore
set_option linter.unusedVariables false
set_option linter.unusedSimpArgs false
def zJ : S52 := ⟨0, 0, 0⟩
/-- the statement with the fields alone that its kind uses -/
def bareS (x : S55) : S55 :=
  if x.f0 = 1 then ⟨1, x.f1, ⟨#[]⟩, ⟨#[]⟩, 0, if x.f1 = 0 then ⟨x.f5.f0, zJ⟩ else ⟨zJ, x.f5.f1⟩, [], 0⟩
  else if x.f0 = 2 then ⟨2, x.f1, ⟨#[]⟩, ⟨#[]⟩, 0, ⟨zJ, zJ⟩, [], 0⟩
  else if x.f0 = 3 then ⟨3, x.f1, x.f2, ⟨#[]⟩, 0, ⟨zJ, zJ⟩, [], 0⟩
  else if x.f0 = 4 ∨ x.f0 = 5 then ⟨x.f0, x.f1, ⟨#[]⟩, x.f3, 0, ⟨zJ, zJ⟩, [], 0⟩
  else if x.f0 = 6 then ⟨6, 0, ⟨#[]⟩, ⟨#[]⟩, x.f4, ⟨zJ, zJ⟩, [], 0⟩
  else if x.f0 = 7 then ⟨7, 0, x.f2, x.f3, 0, ⟨zJ, zJ⟩, x.f6, 0⟩
  else if x.f0 = 8 then ⟨8, 0, ⟨#[]⟩, ⟨#[]⟩, 0, x.f5, [], 0⟩
  else ⟨x.f0, 0, ⟨#[]⟩, ⟨#[]⟩, 0, ⟨zJ, zJ⟩, [], 0⟩
def bareV (x : S55) (v : Value) : Value := if x.f0 = 7 then v else .slice none 0 0
theorem setRow_below {w W : World} {g : Nat} {cs : Array Value} (h : Below w.heap.size w W) (hg : w.heap.size ≤ g) : Below w.heap.size w (W.setRow g cs) :=
  ⟨h.os, h.tape, h.output, by simpa using h.size, fun k hk => (setRow_other _ _ _ _ (by omega)).trans (h.block k hk)⟩
set_option maxHeartbeats 4000000 in
set_option maxRecDepth 100000 in
theorem bare_calls (x : S55) (A : Option Addr) (n c : Nat) (w : World) (hk : 1 ≤ x.f0 ∧ x.f0 ≤ 8) (ha : x.f1 = 0 ∨ x.f1 = 1) :
    Calls Tryd.prog 44 #[.agg (stmC x (.slice A n c))] w fun e w' => e = .returned (.agg (stmC (bareS x) (bareV x (.slice A n c)))) ∧ Below w.heap.size w w' := by
  have hu55 := Tryd.underlying55
  obtain ⟨x0, x1, x2, x3, x4, ⟨⟨q0, q1, q2⟩, ⟨p0, p1, p2⟩⟩, x6, x7⟩ := x
  simp only at hk ha ⊢
  have hk8 : x0 = 1 ∨ x0 = 2 ∨ x0 = 3 ∨ x0 = 4 ∨ x0 = 5 ∨ x0 = 6 ∨ x0 = 7 ∨ x0 = 8 := by omega
  clear hk
  rcases hk8 with rfl | rfl | rfl | rfl | rfl | rfl | rfl | rfl
  · rcases ha with rfl | rfl
    · go_enter Tryd.func44, Tryd.ntmps44
      go_wp2_with fail
      go_region
      all_goals
        go_wp2_with fail
        refine bodyPost_ret (results_cell_row rfl _ _ (w.heap.size + 1) 55 #[.int .i64 1, .int .i64 0, .string ⟨#[]⟩, .string ⟨#[]⟩, .int .i64 0, .int .i64 q0, .int .i64 q1, .int .i64 q2, .int .i64 0, .int .i64 0, .int .i64 0, .slice none 0 0, .int .i64 0] (0, 0) _ rfl (by first | exact blk_drew (blk_alloc (alloc_at (by simp)) _) | exact blk_alloc (alloc_at (by simp)) _) hu55 rfl sizeStm) rfl ?_
        exact ⟨by simp [bareS, bareV, zJ], by repeat (first | exact Below.refl _ _ | apply below_drew | apply below_alloc)⟩
    · go_enter Tryd.func44, Tryd.ntmps44
      go_wp2_with fail
      go_region
      all_goals
        go_wp2_with fail
        refine bodyPost_ret (results_cell_row rfl _ _ (w.heap.size + 1) 55 #[.int .i64 1, .int .i64 1, .string ⟨#[]⟩, .string ⟨#[]⟩, .int .i64 0, .int .i64 0, .int .i64 0, .int .i64 0, .int .i64 p0, .int .i64 p1, .int .i64 p2, .slice none 0 0, .int .i64 0] (0, 0) _ rfl (by first | exact blk_drew (blk_alloc (alloc_at (by simp)) _) | exact blk_alloc (alloc_at (by simp)) _) hu55 rfl sizeStm) rfl ?_
        exact ⟨by simp [bareS, bareV, zJ], by repeat (first | exact Below.refl _ _ | apply below_drew | apply below_alloc)⟩
  · go_enter Tryd.func44, Tryd.ntmps44
    go_wp2_with fail
    refine bodyPost_ret (results_cell_row rfl _ _ (w.heap.size + 1) 55 #[.int .i64 2, .int .i64 x1, .string ⟨#[]⟩, .string ⟨#[]⟩, .int .i64 0, .int .i64 0, .int .i64 0, .int .i64 0, .int .i64 0, .int .i64 0, .int .i64 0, .slice none 0 0, .int .i64 0] (0, 0) _ rfl (by first | exact blk_drew (blk_alloc (alloc_at (by simp)) _) | exact blk_alloc (alloc_at (by simp)) _) hu55 rfl sizeStm) rfl ?_
    exact ⟨by simp [bareS, bareV, zJ], by repeat (first | exact Below.refl _ _ | apply below_drew | apply below_alloc)⟩
  · go_enter Tryd.func44, Tryd.ntmps44
    go_wp2_with fail
    go_region
    all_goals
      go_wp2_with fail
      refine bodyPost_ret (results_cell_row rfl _ _ (w.heap.size + 1) 55 #[.int .i64 3, .int .i64 x1, .string x2, .string ⟨#[]⟩, .int .i64 0, .int .i64 0, .int .i64 0, .int .i64 0, .int .i64 0, .int .i64 0, .int .i64 0, .slice none 0 0, .int .i64 0] (0, 0) _ rfl (by first | exact blk_drew (blk_alloc (alloc_at (by simp)) _) | exact blk_alloc (alloc_at (by simp)) _) hu55 rfl sizeStm) rfl ?_
      exact ⟨by simp [bareS, bareV, zJ], by repeat (first | exact Below.refl _ _ | apply below_drew | apply below_alloc)⟩
  · go_enter Tryd.func44, Tryd.ntmps44
    go_wp2_with fail
    go_region
    all_goals
      go_wp2_with fail
      refine bodyPost_ret (results_cell_row rfl _ _ (w.heap.size + 1) 55 #[.int .i64 4, .int .i64 x1, .string ⟨#[]⟩, .string x3, .int .i64 0, .int .i64 0, .int .i64 0, .int .i64 0, .int .i64 0, .int .i64 0, .int .i64 0, .slice none 0 0, .int .i64 0] (0, 0) _ rfl (by first | exact blk_drew (blk_alloc (alloc_at (by simp)) _) | exact blk_alloc (alloc_at (by simp)) _) hu55 rfl sizeStm) rfl ?_
      exact ⟨by simp [bareS, bareV, zJ], by repeat (first | exact Below.refl _ _ | apply below_drew | apply below_alloc)⟩
  · go_enter Tryd.func44, Tryd.ntmps44
    go_wp2_with fail
    go_region
    all_goals
      go_wp2_with fail
      refine bodyPost_ret (results_cell_row rfl _ _ (w.heap.size + 1) 55 #[.int .i64 5, .int .i64 x1, .string ⟨#[]⟩, .string x3, .int .i64 0, .int .i64 0, .int .i64 0, .int .i64 0, .int .i64 0, .int .i64 0, .int .i64 0, .slice none 0 0, .int .i64 0] (0, 0) _ rfl (by first | exact blk_drew (blk_alloc (alloc_at (by simp)) _) | exact blk_alloc (alloc_at (by simp)) _) hu55 rfl sizeStm) rfl ?_
      exact ⟨by simp [bareS, bareV, zJ], by repeat (first | exact Below.refl _ _ | apply below_drew | apply below_alloc)⟩
  · go_enter Tryd.func44, Tryd.ntmps44
    go_wp2_with fail
    refine bodyPost_ret (results_cell_row rfl _ _ (w.heap.size + 1) 55 #[.int .i64 6, .int .i64 0, .string ⟨#[]⟩, .string ⟨#[]⟩, .int .i64 x4, .int .i64 0, .int .i64 0, .int .i64 0, .int .i64 0, .int .i64 0, .int .i64 0, .slice none 0 0, .int .i64 0] (0, 0) _ rfl (by first | exact blk_drew (blk_alloc (alloc_at (by simp)) _) | exact blk_alloc (alloc_at (by simp)) _) hu55 rfl sizeStm) rfl ?_
    exact ⟨by simp [bareS, bareV, zJ], by repeat (first | exact Below.refl _ _ | apply below_drew | apply below_alloc)⟩
  · go_enter Tryd.func44, Tryd.ntmps44
    go_wp2_with fail
    go_region
    all_goals
      go_wp2_with fail
      refine bodyPost_ret (results_cell_row rfl _ _ (w.heap.size + 1) 55 #[.int .i64 7, .int .i64 0, .string x2, .string x3, .int .i64 0, .int .i64 0, .int .i64 0, .int .i64 0, .int .i64 0, .int .i64 0, .int .i64 0, .slice A n c, .int .i64 0] (0, 0) _ rfl (by first | exact blk_drew (blk_alloc (alloc_at (by simp)) _) | exact blk_alloc (alloc_at (by simp)) _) hu55 rfl sizeStm) rfl ?_
      exact ⟨by simp [bareS, bareV, zJ], by repeat (first | exact Below.refl _ _ | apply below_drew | apply below_alloc)⟩
  · go_enter Tryd.func44, Tryd.ntmps44
    go_wp2_with fail
    refine bodyPost_ret (results_cell_row rfl _ _ (w.heap.size + 1) 55 #[.int .i64 8, .int .i64 0, .string ⟨#[]⟩, .string ⟨#[]⟩, .int .i64 0, .int .i64 q0, .int .i64 q1, .int .i64 q2, .int .i64 p0, .int .i64 p1, .int .i64 p2, .slice none 0 0, .int .i64 0] (0, 0) _ rfl (by first | exact blk_drew (blk_alloc (alloc_at (by simp)) _) | exact blk_alloc (alloc_at (by simp)) _) hu55 rfl sizeStm) rfl ?_
    exact ⟨by simp [bareS, bareV, zJ], by repeat (first | exact Below.refl _ _ | apply below_drew | apply below_alloc)⟩
end Go.Proofs.YtonhcfecfifghaaDoor.PPx
namespace Go.Proofs.YtonhcfecfifghaaDoor.PPx
open Go.RowKit Go.Proofs.YtonhcfecfifghaaDoorW.PrintWords Go.Proofs.YtonhcfecfifghaaDoorW.PrintLast Go.Proofs.YtonhcfecfifghaaDoorW.PrintMore
set_option linter.unusedVariables false
set_option linter.unusedSimpArgs false
def smallB (n : Int) : Bool := decide (n > -1000000000) && decide (n < 1000000000)
theorem small_f (n : Int) : parser_small.f n = some (smallB n) := by
  unfold parser_small.f smallB
  split
  · rename_i h; simp [h]
  · rename_i h; simp [h]
set_option maxHeartbeats 1000000 in
set_option maxRecDepth 100000 in
theorem plain1_calls (n : Int) (w : World) : Calls Tryd.prog 46 #[.int .i64 n] w fun e w' => e = .returned (.bool (!smallB n)) ∧ Drawn0 w w' := by
  go_enter Tryd.func46, Tryd.ntmps46
  go_wp2_with fail
  refine (parser_small.calls n _ w (small_f n)).mono ?_
  rintro e w1 ⟨rfl, hd⟩
  go_wp2_with fail
  go_ret
  exact ⟨rfl, hd⟩
set_option maxHeartbeats 2000000 in
set_option maxRecDepth 100000 in
theorem indexF_calls (A : Option Addr) (c : Nat) (xs : List Int) (w : World) (h : Kd.C (Kd.int .i64) w A xs.length xs) (hc : xs.length ≤ c) :
    Calls Tryd.prog 55 #[.slice A xs.length c, .func (.func 46) #[] #[]] w fun e w' => ∃ j : Int, e = .returned (.int .i64 j) ∧ (0 ≤ j ↔ xs.any (fun n => !smallB n) = true) ∧ Drawn0 w w' := by
  have HC := Aside0.mk h
  have hm := Kd.C_max h
  clear h
  go_enter Tryd.func55, Tryd.ntmps55
  go_wp2_with fail
  go_loopg [8] xs.length (fun kq v8 wr => ∃ (i : Nat), v8 = .int .i64 i ∧ Aside0 (i + kq = xs.length ∧ (∀ x ∈ xs.take i, smallB x = true) ∧ Drawn0 w wr))
  case atStart => exact ⟨0, rfl, ⟨by omega, by simp, Drawn0.refl _⟩⟩
  case round =>
    obtain ⟨i, rfl, ⟨hk, hs, hb⟩⟩ := hrel
    have HS := Aside0.mk hs
    have HB := Aside0.mk hb
    clear hs hb
    rcases gk with _ | k1
    · have hi : i = xs.length := by omega
      have hlt : decide ((i : Int) < (xs.length : Int)) = false := by simp [hi]
      have hany : xs.any (fun n => !smallB n) = false := by
        have := HS.out; rw [hi, List.take_length] at this
        simpa using this
      have HAny := Aside0.mk hany
      clear hany HS
      go_wp2_with fail
      go_ret
      exact ⟨-1, rfl, by rw [HAny.out]; simp, HB.out⟩
    · have hi : i < xs.length := by omega
      have hlt : decide ((i : Int) < (xs.length : Int)) = true := by simp [hi]
      have hp : (0 ≤ (i : Int)) := by omega
      have hq : (i : Int) < (xs.length : Int) := by omega
      obtain ⟨ad, e, hx⟩ := Kd.at_int (Kd.C_below HC.out HB.out.below) i hp hq
      cases e
      simp only [Int.toNat_natCast] at hx
      have hp' := eq_true hp
      have hq' := eq_true hq
      have hrd : rd xs (i : Int) = xs[i] := by simp [rd, hi]
      have HRd := Aside0.mk hrd
      clear hp hq hrd
      go_wp2_with fail
      refine (plain1_calls (rd xs (i : Int)) wr).mono ?_
      rintro e w1 ⟨rfl, hd⟩
      have HB1 := Aside0.mk (show Drawn0 w w1 from by obtain ⟨n, rfl⟩ := hd; exact HB.out.step n)
      clear hd HB hx
      cases hsm : smallB (rd xs (i : Int)) with
      | true =>
        have hsm2 : xs.take (i + 1) = xs.take i ++ [rd xs (i : Int)] := by rw [HRd.out, List.take_succ_eq_append_getElem hi]
        have HS1 := Aside0.mk (show ∀ x ∈ xs.take (i + 1), smallB x = true from by
          rw [hsm2]; intro x hx
          rcases List.mem_append.1 hx with hx | hx
          · exact HS.out x hx
          · obtain rfl := List.mem_singleton.1 hx; exact hsm)
        clear HS hsm2
        go_wp2_with fail
        go_roundg k1
        case measure => omega
        case rel => exact ⟨i + 1, by first | rfl | (simp; done), ⟨by omega, HS1.out, HB1.out⟩⟩
      | false =>
        have HAny := Aside0.mk (show xs.any (fun n => !smallB n) = true from by
          rw [List.any_eq_true]; exact ⟨xs[i], List.getElem_mem hi, by rw [← HRd.out, hsm]; rfl⟩)
        clear HS
        go_wp2_with fail
        go_ret
        exact ⟨i, rfl, by rw [HAny.out]; simp, HB1.out⟩
set_option maxHeartbeats 1000000 in
set_option maxRecDepth 100000 in
theorem containsF_calls (A : Option Addr) (c : Nat) (xs : List Int) (w : World) (h : Kd.C (Kd.int .i64) w A xs.length xs) (hc : xs.length ≤ c) :
    Calls Tryd.prog 45 #[.slice A xs.length c, .func (.func 46) #[] #[]] w fun e w' => e = .returned (.bool (xs.any (fun n => !smallB n))) ∧ Drawn0 w w' := by
  have HC := Aside0.mk h
  clear h
  go_enter Tryd.func45, Tryd.ntmps45
  go_wp2_with fail
  refine (indexF_calls A c xs w HC.out hc).mono ?_
  rintro e w1 ⟨j, rfl, hj, hd⟩
  have HJ := Aside0.mk hj
  clear hj
  by_cases h0 : 0 ≤ j
  · have HT := Aside0.mk (HJ.out.1 h0)
    clear HJ
    go_wp2_with fail
    go_ret
    exact ⟨by rw [HT.out]; simp [h0], hd⟩
  · have HT := Aside0.mk (show xs.any (fun n => !smallB n) = false from by cases hx : xs.any (fun n => !smallB n) with | false => rfl | true => exact absurd (HJ.out.2 hx) h0)
    clear HJ
    go_wp2_with fail
    go_ret
    exact ⟨by rw [HT.out]; simp [h0], hd⟩
end Go.Proofs.YtonhcfecfifghaaDoor.PPx
namespace Go.Proofs.YtonhcfecfifghaaDoor.PPx
open Go.RowKit Go.Proofs.YtonhcfecfifghaaDoorW.PrintWords Go.Proofs.YtonhcfecfifghaaDoorW.PrintLast Go.Proofs.YtonhcfecfifghaaDoorW.PrintMore
set_option linter.unusedVariables false
set_option linter.unusedSimpArgs false
def smallJ (q : S52) : Bool := smallB q.f0 && (smallB q.f1 && smallB q.f2)
/-- do the names hold that the kind wants -/
def namesF (x : S55) : Option Bool :=
  (if x.f0 = 3 ∨ x.f0 = 7 then parser_name.f x.f2 else some true).bind fun a => if a = true then (if x.f0 = 4 ∨ x.f0 = 5 ∨ x.f0 = 7 then parser_name.f x.f3 else some true) else some false
def plainF (k : Nat) (x : S55) : Option Bool :=
  if x.f0 < 1 then some false else if x.f0 > 8 then some false else if x.f1 ≠ 0 ∧ x.f1 ≠ 1 then some false else if smallB x.f4 = false then some false
  else (sameS (parser_Equal.f k) x (bareS x)).bind fun t => if t = false then some false else if smallJ x.f5.f0 = false then some false else if smallJ x.f5.f1 = false then some false else namesF x
theorem plain_le (k : Nat) (x : S55) : LeO (plainF k x) (plainF (k + 1) x) := by
  unfold plainF
  exact LeO.ite (LeO.refl _) (LeO.ite (LeO.refl _) (LeO.ite (LeO.refl _) (LeO.ite (LeO.refl _) (LeO.bind (sameE_le (Equal_le k) x _) fun _ => LeO.refl _))))
theorem small_quiet (N : Int) (W : World) (n : Nat) : Calls Tryd.prog 43 #[.int .i64 N] (W.drewN n) fun e w'' => e = .returned (.bool (smallB N)) ∧ ∃ m, w'' = W.drewN m :=
  Calls.quiet_of ((parser_small.calls N _ _ (small_f N)).mono fun e w' h => ⟨h.1, h.2.out⟩)
theorem row_held {W' : World} {b : Nat} {x : S55} {v : Value} (h : W'.heap[b]? = some (.cells (stmC x v) 55 (0, 0))) : W'.cell? ⟨b, 0, none⟩ = some (.int .i64 x.f0) ∧ W'.cell? ⟨b, 1, none⟩ = some (.int .i64 x.f1) ∧ W'.cell? ⟨b, 2, none⟩ = some (.string x.f2) ∧ W'.cell? ⟨b, 3, none⟩ = some (.string x.f3) ∧ W'.cell? ⟨b, 4, none⟩ = some (.int .i64 x.f4) ∧ W'.cell? ⟨b, 5, none⟩ = some (.int .i64 x.f5.f0.f0) ∧ W'.cell? ⟨b, 6, none⟩ = some (.int .i64 x.f5.f0.f1) ∧ W'.cell? ⟨b, 7, none⟩ = some (.int .i64 x.f5.f0.f2) ∧ W'.cell? ⟨b, 8, none⟩ = some (.int .i64 x.f5.f1.f0) ∧ W'.cell? ⟨b, 9, none⟩ = some (.int .i64 x.f5.f1.f1) ∧ W'.cell? ⟨b, 10, none⟩ = some (.int .i64 x.f5.f1.f2) ∧ W'.cell? ⟨b, 11, none⟩ = some (v) ∧ W'.cell? ⟨b, 12, none⟩ = some (.int .i64 x.f7) :=
  ⟨blk_cell h 0, blk_cell h 1, blk_cell h 2, blk_cell h 3, blk_cell h 4, blk_cell h 5, blk_cell h 6, blk_cell h 7, blk_cell h 8, blk_cell h 9, blk_cell h 10, blk_cell h 11, blk_cell h 12⟩
theorem index53_0 (q0 q1 q2 p0 p1 p2 : Int) (W : World) : Sem.run Tryd.prog (Instr.index 53 (.agg #[.int .i64 q0, .int .i64 q1, .int .i64 q2, .int .i64 p0, .int .i64 p1, .int .i64 p2]) (.int .i64 0)) W = Result.ok (.agg #[.int .i64 q0, .int .i64 q1, .int .i64 q2]) W := by kernel_rfl
theorem index53_1 (q0 q1 q2 p0 p1 p2 : Int) (W : World) : Sem.run Tryd.prog (Instr.index 53 (.agg #[.int .i64 q0, .int .i64 q1, .int .i64 q2, .int .i64 p0, .int .i64 p1, .int .i64 p2]) (.int .i64 1)) W = Result.ok (.agg #[.int .i64 p0, .int .i64 p1, .int .i64 p2]) W := by kernel_rfl
theorem row3_C {W : World} {g t : Nat} {a b c : Int} (h : W.heap[g]? = some (.cells #[.int .i64 a, .int .i64 b, .int .i64 c] t (0, 0))) : Kd.C (Kd.int .i64) W (some ⟨g, 0, none⟩) [a, b, c].length [a, b, c] := by
  refine Kd.C_of_reads (d := 0) ⟨rfl, by simp, fun _ => ⟨_, rfl, fun j hj => ?_⟩⟩
  have hj' : j < 3 := hj
  rcases j with _ | _ | _ | j
  · exact blk_cell h 0
  · exact blk_cell h 1
  · exact blk_cell h 2
  · omega
theorem any_smallJ (a b c : Int) : ([a, b, c].any fun n => !smallB n) = !smallJ ⟨a, b, c⟩ := by
  simp only [List.any_cons, List.any_nil, smallJ]
  cases smallB a <;> cases smallB b <;> cases smallB c <;> rfl
theorem names_cases (x : S55) (hk : 1 ≤ x.f0 ∧ x.f0 ≤ 8) : ((x.f0 == 3) = true ∧ (x.f0 == 7) = false ∧ (x.f0 == 4) = false ∧ (x.f0 == 5) = false ∧ namesF x = parser_name.f x.f2) ∨ ((x.f0 == 3) = false ∧ (x.f0 == 7) = true ∧ (x.f0 == 4) = false ∧ (x.f0 == 5) = false ∧ namesF x = (parser_name.f x.f2).bind fun a => if a = true then parser_name.f x.f3 else some false) ∨ ((x.f0 == 3) = false ∧ (x.f0 == 7) = false ∧ (x.f0 == 4) = true ∧ (x.f0 == 5) = false ∧ namesF x = parser_name.f x.f3) ∨ ((x.f0 == 3) = false ∧ (x.f0 == 7) = false ∧ (x.f0 == 4) = false ∧ (x.f0 == 5) = true ∧ namesF x = parser_name.f x.f3) ∨ ((x.f0 == 3) = false ∧ (x.f0 == 7) = false ∧ (x.f0 == 4) = false ∧ (x.f0 == 5) = false ∧ namesF x = some true) := by
  obtain ⟨x0, x1, x2, x3, x4, x5, x6, x7⟩ := x
  simp only at hk ⊢
  have h8 : x0 = 3 ∨ x0 = 7 ∨ x0 = 4 ∨ x0 = 5 ∨ (x0 ≠ 3 ∧ x0 ≠ 7 ∧ x0 ≠ 4 ∧ x0 ≠ 5) := by omega
  rcases h8 with rfl | rfl | rfl | rfl | ⟨h3, h7, h4, h5⟩
  · left
    refine ⟨rfl, rfl, rfl, rfl, ?_⟩
    simp only [namesF]
    cases parser_name.f x2 with
    | none => rfl
    | some a => cases a <;> rfl
  · right; left
    refine ⟨rfl, rfl, rfl, rfl, ?_⟩
    simp only [namesF]
    rfl
  · right; right; left
    refine ⟨rfl, rfl, rfl, rfl, ?_⟩
    simp only [namesF]
    rfl
  · right; right; right; left
    refine ⟨rfl, rfl, rfl, rfl, ?_⟩
    simp only [namesF]
    rfl
  · right; right; right; right
    refine ⟨by simpa using h3, by simpa using h7, by simpa using h4, by simpa using h5, ?_⟩
    simp [namesF, h3, h7, h4, h5]
theorem bareV_ok (x : S55) (A : Option Addr) (c : Nat) (hc : x.f6.length ≤ c) : ∃ Ay cy, bareV x (.slice A x.f6.length c) = .slice Ay (bareS x).f6.length cy ∧ (bareS x).f6.length ≤ cy ∧ ∀ w, Kd.C k55 w A x.f6.length x.f6 → Kd.C k55 w Ay (bareS x).f6.length (bareS x).f6 := by
  by_cases h7 : x.f0 = 7
  · have h : (bareS x).f6 = x.f6 := by unfold bareS; simp [h7]
    refine ⟨A, c, ?_, ?_, ?_⟩
    · unfold bareV; rw [if_pos h7, h]
    · rw [h]; exact hc
    · intro w hw; rw [h]; exact hw
  · have h : (bareS x).f6 = [] := by unfold bareS; (repeat' split) <;> first | rfl | contradiction
    refine ⟨none, 0, ?_, ?_, ?_⟩
    · unfold bareV; rw [if_neg h7, h]; rfl
    · rw [h]; exact Nat.le_refl _
    · intro w hw; rw [h]; exact Kd.C_nil _ _
set_option maxHeartbeats 4000000 in
set_option maxRecDepth 100000 in
theorem plain_calls (k : Nat) (x : S55) (A : Option Addr) (c : Nat) (r : Bool) (w : World) (hx : Kd.C k55 w A x.f6.length x.f6) (hc : x.f6.length ≤ c) (h : plainF k x = some r) (hG : Glob w) :
    Calls Tryd.prog 30 #[.agg (stmC x (.slice A x.f6.length c))] w fun e w' => e = .returned (.bool r) ∧ Below w.heap.size w w' := by
  have hu55 := Tryd.underlying55
  have HX := Aside0.mk hx
  have HG := Aside0.mk hG
  have HR := Aside0.mk h
  clear hx hG h
  by_cases c1 : x.f0 < 1
  · have hr : r = false := by have := HR.out; unfold plainF at this; rw [if_pos c1] at this; simpa using this.symm
    subst hr
    have t1 : decide (x.f0 < 1) = true := decide_eq_true c1
    clear HR
    go_enter Tryd.func30, Tryd.ntmps30
    go_wp2_with fail
    go_quiet (fail)
    go_wp2_with fail
    go_ret
    exact ⟨rfl, pw_below_drewN (below_alloc (Below.refl _ _) _) _⟩
  · have t1 : decide (x.f0 < 1) = false := decide_eq_false c1
    by_cases c2 : x.f0 > 8
    · have hr : r = false := by have := HR.out; unfold plainF at this; rw [if_neg c1, if_pos c2] at this; simpa using this.symm
      subst hr
      have t2 : decide (8 < x.f0) = true := decide_eq_true c2
      have t2' : decide (x.f0 > 8) = true := decide_eq_true c2
      clear HR
      go_enter Tryd.func30, Tryd.ntmps30
      go_wp2_with fail
      go_quiet (fail)
      go_wp2_with fail
      go_ret
      exact ⟨rfl, pw_below_drewN (below_alloc (Below.refl _ _) _) _⟩
    · have t2 : decide (8 < x.f0) = false := decide_eq_false c2
      by_cases c3 : x.f1 ≠ 0 ∧ x.f1 ≠ 1
      · have hr : r = false := by have := HR.out; unfold plainF at this; rw [if_neg c1, if_neg c2, if_pos c3] at this; simpa using this.symm
        subst hr
        have t3 : (x.f1 != 0) = true := bne_iff_ne.mpr c3.1
        have t4 : (x.f1 != 1) = true := bne_iff_ne.mpr c3.2
        clear HR c3
        go_enter Tryd.func30, Tryd.ntmps30
        go_wp2_with fail
        go_quiet (fail)
        go_wp2_with fail
        go_ret
        exact ⟨rfl, pw_below_drewN (below_alloc (Below.refl _ _) _) _⟩
      · have ha : x.f1 = 0 ∨ x.f1 = 1 := by omega
        have hk : 1 ≤ x.f0 ∧ x.f0 ≤ 8 := by omega
        have HA := Aside0.mk ha
        have HK := Aside0.mk hk
        have HR3 := Aside0.mk (show (if smallB x.f4 = false then some false else (sameS (parser_Equal.f k) x (bareS x)).bind fun t => if t = false then some false else if smallJ x.f5.f0 = false then some false else if smallJ x.f5.f1 = false then some false else namesF x) = some r from by have := HR.out; unfold plainF at this; rw [if_neg c1, if_neg c2, if_neg c3] at this; exact this)
        have t3 : (x.f1 != 0) = false ∨ ((x.f1 != 0) = true ∧ (x.f1 != 1) = false) := by rcases ha with h | h <;> simp [h]
        clear HR c1 c2 c3 ha hk
        have HSm := Aside0.mk (small_quiet x.f4 (w.alloc (.cells (stmC x (.slice A x.f6.length c)) 55)))
        cases c4 : smallB x.f4 with
        | false =>
          have hr : r = false := by have := HR3.out; rw [if_pos c4] at this; simpa using this.symm
          subst hr
          rw [c4] at HSm
          clear HR3
          rcases t3 with t3 | ⟨t3, t4⟩
          all_goals
            go_enter Tryd.func30, Tryd.ntmps30
            go_wp2_with fail
            go_quiet ((go_at_call 43; exact HSm.out _))
            go_wp2_with fail
            go_ret
            exact ⟨rfl, pw_below_drewN (below_alloc (Below.refl _ _) _) _⟩
        | true =>
          have HR4 := Aside0.mk ((if_neg (show ¬ smallB x.f4 = false from by rw [c4]; decide)).symm.trans HR3.out)
          clear HR3
          obtain ⟨t0, ht, hrest⟩ := Option.bind_eq_some_iff.1 HR4.out
          have HT := Aside0.mk ht
          have HRest := Aside0.mk hrest
          clear HR4 ht hrest HSm
          obtain ⟨x0, x1, x2, x3, x4, ⟨⟨q0, q1, q2⟩, ⟨p0, p1, p2⟩⟩, x6, x7⟩ := x
          obtain ⟨Ay, cy, hv, hcy, hy⟩ := bareV_ok _ A c hc
          have hbare : ∀ W : World, Calls Tryd.prog 44 #[.agg (stmC ⟨x0, x1, x2, x3, x4, ⟨⟨q0, q1, q2⟩, ⟨p0, p1, p2⟩⟩, x6, x7⟩ (.slice A x6.length c))] W fun e w' => e = .returned (.agg (stmC (bareS ⟨x0, x1, x2, x3, x4, ⟨⟨q0, q1, q2⟩, ⟨p0, p1, p2⟩⟩, x6, x7⟩) (bareV ⟨x0, x1, x2, x3, x4, ⟨⟨q0, q1, q2⟩, ⟨p0, p1, p2⟩⟩, x6, x7⟩ (.slice A x6.length c)))) ∧ Below W.heap.size W w' := fun W => bare_calls _ A _ c W HK.out HA.out
          have hsame : ∀ W : World, Below w.heap.size w W → Calls Tryd.prog 26 #[.agg (stmC ⟨x0, x1, x2, x3, x4, ⟨⟨q0, q1, q2⟩, ⟨p0, p1, p2⟩⟩, x6, x7⟩ (.slice A x6.length c)), .agg (stmC (bareS ⟨x0, x1, x2, x3, x4, ⟨⟨q0, q1, q2⟩, ⟨p0, p1, p2⟩⟩, x6, x7⟩) (.slice Ay (bareS ⟨x0, x1, x2, x3, x4, ⟨⟨q0, q1, q2⟩, ⟨p0, p1, p2⟩⟩, x6, x7⟩).f6.length cy))] W fun e w' => e = .returned (.bool t0) ∧ Below W.heap.size W w' := fun W hW => sameS_calls k _ _ A Ay c cy t0 W (Kd.C_below HX.out hW) hc (Kd.C_below (hy w HX.out) hW) hcy HT.out
          rw [hv] at hbare
          clear hv hcy hy HT HA
          generalize bareS ⟨x0, x1, x2, x3, x4, ⟨⟨q0, q1, q2⟩, ⟨p0, p1, p2⟩⟩, x6, x7⟩ = Y at hbare hsame
          have HBare := Aside0.mk hbare
          have HSame := Aside0.mk hsame
          clear hbare hsame
          simp only [stmC] at HBare HSame
          have HH := Aside0.mk (heap_alloc_new w (.cells (stmC (⟨x0, x1, x2, x3, x4, ⟨⟨q0, q1, q2⟩, ⟨p0, p1, p2⟩⟩, x6, x7⟩ : S55) (.slice A x6.length c)) 55))
          have hz := row_held HH.out
          have hz0 := row_held (blk_drew HH.out)
          have hz1 := fun n1 => row_held (blk_drewN HH.out n1)
          simp only at t1 t2 t3 c4 hz hz0 hz1 hc
          rcases t3 with t3 | ⟨t3, t4⟩
          all_goals
            go_enter Tryd.func30, Tryd.ntmps30
            go_wp2_with fail
            first
            | (have t3' : (x1 != 0) = false := t3
               clear t3'
               go_split_ands
               go_region_with (first | (go_at_call 43; (with_reducible refine (parser_small.calls x4 _ _ (small_f _)).mono ?_); rintro e w1 ⟨rfl, ⟨n1, rfl⟩⟩; have hzn := hz1 n1; go_split_ands) | (go_at_call 44; (with_reducible refine (HBare.out _).mono ?_); rintro e w1 ⟨rfl, hb⟩; have HH1 := Aside0.mk (blk_below (blk_drewN HH.out _) hb); have HB1 := Aside0.mk (below_step (pw_below_drewN (below_alloc (Below.refl _ _) _) _) hb); clear hb; have hzn := row_held HH1.out; simp only at hzn; go_split_ands) | (go_at_call 26; (with_reducible refine (HSame.out _ HB1.out).mono ?_); rintro e w2 ⟨rfl, hb⟩; have HH2 := Aside0.mk (blk_below HH1.out hb); have HB2 := Aside0.mk (below_step HB1.out hb); clear hb HH1 HB1; have HH1 := HH2; have HB1 := HB2; clear HH2 HB2))
               all_goals (have hHeld : True := trivial))
            | (go_region_held3 (fun W' => W'.cell? ⟨w.heap.size, 0, none⟩ = some (.int .i64 x0) ∧ W'.cell? ⟨w.heap.size, 1, none⟩ = some (.int .i64 x1) ∧ W'.cell? ⟨w.heap.size, 2, none⟩ = some (.string x2) ∧ W'.cell? ⟨w.heap.size, 3, none⟩ = some (.string x3) ∧ W'.cell? ⟨w.heap.size, 4, none⟩ = some (.int .i64 x4) ∧ W'.cell? ⟨w.heap.size, 5, none⟩ = some (.int .i64 q0) ∧ W'.cell? ⟨w.heap.size, 6, none⟩ = some (.int .i64 q1) ∧ W'.cell? ⟨w.heap.size, 7, none⟩ = some (.int .i64 q2) ∧ W'.cell? ⟨w.heap.size, 8, none⟩ = some (.int .i64 p0) ∧ W'.cell? ⟨w.heap.size, 9, none⟩ = some (.int .i64 p1) ∧ W'.cell? ⟨w.heap.size, 10, none⟩ = some (.int .i64 p2) ∧ W'.cell? ⟨w.heap.size, 11, none⟩ = some (.slice A x6.length c) ∧ W'.cell? ⟨w.heap.size, 12, none⟩ = some (.int .i64 x7)) (with_reducible first | exact hz0 | exact hz1 _ | exact row_held HH1.out) (first | (go_at_call 43; (with_reducible refine (parser_small.calls x4 _ _ (small_f _)).mono ?_); rintro e w1 ⟨rfl, ⟨n1, rfl⟩⟩) | (go_at_call 44; (with_reducible refine (HBare.out _).mono ?_); rintro e w1 ⟨rfl, hb⟩; have HH1 := Aside0.mk (blk_below (blk_drewN HH.out _) hb); have HB1 := Aside0.mk (below_step (pw_below_drewN (below_alloc (Below.refl _ _) _) _) hb); clear hb) | (go_at_call 26; (with_reducible refine (HSame.out _ HB1.out).mono ?_); rintro e w2 ⟨rfl, hb⟩; have HH2 := Aside0.mk (blk_below HH1.out hb); have HB2 := Aside0.mk (below_step HB1.out hb); clear hb HH1 HB1; have HH1 := HH2; have HB1 := HB2; clear HH2 HB2))
               all_goals rename_i hHeld)
            | fail "held3"
          all_goals
            have HB := HB1
            have HH2 := HH1
            clear hHeld HB1 HH1 HBare HSame hz1 HH
            try clear hz
            try clear hz0
            cases t0 with
            | false =>
              have hr : r = false := by have := HRest.out; simpa using this.symm
              subst hr
              go_wp2_with fail
              go_ret
              exact ⟨rfl, HB.out⟩
            | true =>
              have hz2 := row_held HH2.out
              simp only at hz2
              go_split_ands
              go_wp2_with fail
              go_loopg [40] 2 (fun kq v8 wr => v8 = .int .i64 (2 - kq) ∧ Aside0 (kq ≤ 2 ∧ wr.heap[w.heap.size]? = some (.cells (stmC (⟨x0, x1, x2, x3, x4, ⟨⟨q0, q1, q2⟩, ⟨p0, p1, p2⟩⟩, x6, x7⟩ : S55) (.slice A x6.length c)) 55 (0, 0)) ∧ Below w.heap.size w wr ∧ (kq < 2 → smallJ ⟨q0, q1, q2⟩ = true) ∧ (kq < 1 → smallJ ⟨p0, p1, p2⟩ = true)))
              case atStart => exact ⟨rfl, ⟨by decide, HH2.out, HB.out, fun h => absurd h (by decide), fun h => absurd h (by decide)⟩⟩
              case round =>
                clear HH2 HB
                obtain ⟨hv8, ⟨hKK, hH, hB, hJ1, hJ2⟩⟩ := hrel
                have HK3 := Aside0.mk hKK
                have HH := Aside0.mk hH
                have HB := Aside0.mk hB
                have HJ1 := Aside0.mk hJ1
                have HJ2 := Aside0.mk hJ2
                clear hH hB hJ1 hJ2 hKK
                rcases gk with _ | _ | _ | k
                · have hv9 : _ = Value.int .i64 2 := hv8.trans rfl
                  clear hv8
                  subst hv9
                  have HN := Aside0.mk (show namesF _ = some r from by have := HRest.out; rw [if_neg (by decide), if_neg (by rw [HJ1.out (by decide)]; exact Bool.noConfusion), if_neg (by rw [HJ2.out (by decide)]; exact Bool.noConfusion)] at this; exact this)
                  clear HRest HJ1 HJ2 HK3
                  have hz3 := row_held HH.out
                  simp only at hz3
                  have hcase : ((x0 == 3) = true ∧ (x0 == 7) = false ∧ (x0 == 4) = false ∧ (x0 == 5) = false ∧ namesF ⟨x0, x1, x2, x3, x4, ⟨⟨q0, q1, q2⟩, ⟨p0, p1, p2⟩⟩, x6, x7⟩ = parser_name.f x2) ∨ ((x0 == 3) = false ∧ (x0 == 7) = true ∧ (x0 == 4) = false ∧ (x0 == 5) = false ∧ namesF ⟨x0, x1, x2, x3, x4, ⟨⟨q0, q1, q2⟩, ⟨p0, p1, p2⟩⟩, x6, x7⟩ = (parser_name.f x2).bind fun a => if a = true then parser_name.f x3 else some false) ∨ ((x0 == 3) = false ∧ (x0 == 7) = false ∧ (x0 == 4) = true ∧ (x0 == 5) = false ∧ namesF ⟨x0, x1, x2, x3, x4, ⟨⟨q0, q1, q2⟩, ⟨p0, p1, p2⟩⟩, x6, x7⟩ = parser_name.f x3) ∨ ((x0 == 3) = false ∧ (x0 == 7) = false ∧ (x0 == 4) = false ∧ (x0 == 5) = true ∧ namesF ⟨x0, x1, x2, x3, x4, ⟨⟨q0, q1, q2⟩, ⟨p0, p1, p2⟩⟩, x6, x7⟩ = parser_name.f x3) ∨ ((x0 == 3) = false ∧ (x0 == 7) = false ∧ (x0 == 4) = false ∧ (x0 == 5) = false ∧ namesF ⟨x0, x1, x2, x3, x4, ⟨⟨q0, q1, q2⟩, ⟨p0, p1, p2⟩⟩, x6, x7⟩ = some true) := names_cases ⟨x0, x1, x2, x3, x4, ⟨⟨q0, q1, q2⟩, ⟨p0, p1, p2⟩⟩, x6, x7⟩ HK.out
                  have HGW := Aside0.mk (HG.out.below HB.out)
                  rcases hcase with ⟨e3, e7, e4, e5, hN⟩ | ⟨e3, e7, e4, e5, hN⟩ | ⟨e3, e7, e4, e5, hN⟩ | ⟨e3, e7, e4, e5, hN⟩ | ⟨e3, e7, e4, e5, hN⟩
                  · skip
                    have HNN := Aside0.mk (hN.symm.trans HN.out)
                    clear hN HN
                    go_split_ands
                    go_wp2_with fail
                    go_quiet (fail)
                    go_wp2_with fail
                    refine (parser_name.calls x2 r _ HNN.out (HGW.out.below (pw_below_drewN (Below.refl _ _) _))).mono ?_
                    rintro e w4 ⟨rfl, hb⟩
                    have HB4 := Aside0.mk (below_step (pw_below_drewN HB.out _) hb)
                    clear hb
                    cases r
                    all_goals
                      go_wp2_with fail
                      go_ret
                      exact ⟨rfl, HB4.out⟩
                  · obtain ⟨a, ha, hrest2⟩ := Option.bind_eq_some_iff.1 (hN.symm.trans HN.out)
                    have HA2 := Aside0.mk ha
                    have HR2 := Aside0.mk hrest2
                    clear ha hrest2 hN HN
                    go_split_ands
                    go_wp2_with fail
                    go_quiet (fail)
                    go_wp2_with fail
                    refine (parser_name.calls x2 a _ HA2.out (HGW.out.below (pw_below_drewN (Below.refl _ _) _))).mono ?_
                    rintro e w4 ⟨rfl, hb⟩
                    have HB4 := Aside0.mk (below_step (pw_below_drewN HB.out _) hb)
                    have hz4 := row_held (blk_below (blk_drewN HH.out _) hb)
                    simp only at hz4
                    clear hb
                    cases a with
                    | false =>
                      have hr : r = false := by have := HR2.out; simpa using this.symm
                      subst hr
                      go_split_ands
                      go_wp2_with fail
                      go_ret
                      exact ⟨rfl, HB4.out⟩
                    | true =>
                      go_split_ands
                      go_wp2_with fail
                      refine (parser_name.calls x3 r _ HR2.out (HG.out.below HB4.out)).mono ?_
                      rintro e w5 ⟨rfl, hb⟩
                      have HB5 := Aside0.mk (below_step HB4.out hb)
                      clear hb
                      cases r
                      all_goals
                        go_wp2_with fail
                        go_ret
                        exact ⟨rfl, HB5.out⟩
                  · skip
                    have HNN := Aside0.mk (hN.symm.trans HN.out)
                    clear hN HN
                    go_split_ands
                    go_wp2_with fail
                    go_quiet (fail)
                    go_wp2_with fail
                    refine (parser_name.calls x3 r _ HNN.out (HGW.out.below (pw_below_drewN (Below.refl _ _) _))).mono ?_
                    rintro e w4 ⟨rfl, hb⟩
                    have HB4 := Aside0.mk (below_step (pw_below_drewN HB.out _) hb)
                    clear hb
                    cases r
                    all_goals
                      go_wp2_with fail
                      go_ret
                      exact ⟨rfl, HB4.out⟩
                  · skip
                    have HNN := Aside0.mk (hN.symm.trans HN.out)
                    clear hN HN
                    go_split_ands
                    go_wp2_with fail
                    go_quiet (fail)
                    go_wp2_with fail
                    refine (parser_name.calls x3 r _ HNN.out (HGW.out.below (pw_below_drewN (Below.refl _ _) _))).mono ?_
                    rintro e w4 ⟨rfl, hb⟩
                    have HB4 := Aside0.mk (below_step (pw_below_drewN HB.out _) hb)
                    clear hb
                    cases r
                    all_goals
                      go_wp2_with fail
                      go_ret
                      exact ⟨rfl, HB4.out⟩
                  · have hr : r = true := by have := hN.symm.trans HN.out; simpa using this.symm
                    subst hr
                    clear hN HN
                    go_split_ands
                    go_wp2_with fail
                    go_quiet (fail)
                    go_wp2_with fail
                    go_ret
                    exact ⟨rfl, pw_below_drewN HB.out _⟩
                · have hv9 : _ = Value.int .i64 1 := hv8.trans rfl
                  clear hv8
                  subst hv9
                  have hix := index53_1 q0 q1 q2 p0 p1 p2
                  have HC3 := Aside0.mk (row3_C (heap_alloc_new wr (.cells #[.int .i64 p0, .int .i64 p1, .int .i64 p2] 52)))
                  go_wp2_with fail
                  refine (containsF_calls _ 3 [p0, p1, p2] _ HC3.out (Nat.le_refl 3)).mono ?_
                  rintro e w3 ⟨rfl, hd⟩
                  have HB3 := Aside0.mk (below_step (below_alloc HB.out (.cells #[.int .i64 p0, .int .i64 p1, .int .i64 p2] 52)) hd.below)
                  have HH3 := Aside0.mk (blk_below (blk_alloc HH.out (.cells #[.int .i64 p0, .int .i64 p1, .int .i64 p2] 52)) hd.below)
                  clear hd HC3 HB HH hix
                  rw [any_smallJ]
                  cases c5 : smallJ ⟨p0, p1, p2⟩ with
                  | false =>
                    have hr : r = false := by have := HRest.out; rw [if_neg (by decide), if_neg (by rw [HJ1.out (by decide)]; decide), if_pos c5] at this; simpa using this.symm
                    subst hr
                    go_wp2_with fail
                    go_ret
                    exact ⟨rfl, HB3.out⟩
                  | true =>
                    have c5' := Aside0.mk c5
                    clear c5
                    go_wp2_with fail
                    go_roundg 0
                    case measure => omega
                    case rel => exact ⟨rfl, ⟨by decide, HH3.out, HB3.out, fun _ => HJ1.out (by decide), fun _ => c5'.out⟩⟩
                · have hv9 : _ = Value.int .i64 0 := hv8.trans rfl
                  clear hv8
                  subst hv9
                  have hix := index53_0 q0 q1 q2 p0 p1 p2
                  have HC3 := Aside0.mk (row3_C (heap_alloc_new wr (.cells #[.int .i64 q0, .int .i64 q1, .int .i64 q2] 52)))
                  go_wp2_with fail
                  refine (containsF_calls _ 3 [q0, q1, q2] _ HC3.out (Nat.le_refl 3)).mono ?_
                  rintro e w3 ⟨rfl, hd⟩
                  have HB3 := Aside0.mk (below_step (below_alloc HB.out (.cells #[.int .i64 q0, .int .i64 q1, .int .i64 q2] 52)) hd.below)
                  have HH3 := Aside0.mk (blk_below (blk_alloc HH.out (.cells #[.int .i64 q0, .int .i64 q1, .int .i64 q2] 52)) hd.below)
                  clear hd HC3 HB HH hix
                  rw [any_smallJ]
                  cases c5 : smallJ ⟨q0, q1, q2⟩ with
                  | false =>
                    have hr : r = false := by have := HRest.out; rw [if_neg (by decide), if_pos c5] at this; simpa using this.symm
                    subst hr
                    go_wp2_with fail
                    go_ret
                    exact ⟨rfl, HB3.out⟩
                  | true =>
                    have c5' := Aside0.mk c5
                    clear c5
                    go_wp2_with fail
                    go_roundg 1
                    case measure => omega
                    case rel => exact ⟨rfl, ⟨by decide, HH3.out, HB3.out, fun _ => c5'.out, fun h => absurd h (by decide)⟩⟩
                · exact absurd HK3.out (by omega)
def parser_plain.f (k : Nat) (a0_0 : Int) (a0_1 : Int) (a0_2 : ByteArray) (a0_3 : ByteArray) (a0_4 : Int) (a0_5 : Int) (a0_6 : Int) (a0_7 : Int) (a0_8 : Int) (a0_9 : Int) (a0_10 : Int) (l0_11 : List (S55)) (a0_12 : Int) : Option Bool := plainF k ⟨a0_0, a0_1, a0_2, a0_3, a0_4, ⟨⟨a0_5, a0_6, a0_7⟩, ⟨a0_8, a0_9, a0_10⟩⟩, l0_11, a0_12⟩
theorem parser_plain.mono (a0_0 : Int) (a0_1 : Int) (a0_2 : ByteArray) (a0_3 : ByteArray) (a0_4 : Int) (a0_5 : Int) (a0_6 : Int) (a0_7 : Int) (a0_8 : Int) (a0_9 : Int) (a0_10 : Int) (l0_11 : List (S55)) (a0_12 : Int) (k : Nat) : LeO (parser_plain.f k a0_0 a0_1 a0_2 a0_3 a0_4 a0_5 a0_6 a0_7 a0_8 a0_9 a0_10 l0_11 a0_12) (parser_plain.f (k + 1) a0_0 a0_1 a0_2 a0_3 a0_4 a0_5 a0_6 a0_7 a0_8 a0_9 a0_10 l0_11 a0_12) := plain_le k _
theorem parser_plain.calls (k : Nat) (a0_0 : Int) (a0_1 : Int) (a0_2 : ByteArray) (a0_3 : ByteArray) (a0_4 : Int) (a0_5 : Int) (a0_6 : Int) (a0_7 : Int) (a0_8 : Int) (a0_9 : Int) (a0_10 : Int) (A0_11 : Option Addr) (c0_11 : Nat) (l0_11 : List (S55)) (a0_12 : Int) (r : Bool) (w : World) (hr0_11 : Kd.C k55 w A0_11 l0_11.length l0_11) (hc0_11 : l0_11.length ≤ c0_11) (h : parser_plain.f k a0_0 a0_1 a0_2 a0_3 a0_4 a0_5 a0_6 a0_7 a0_8 a0_9 a0_10 l0_11 a0_12 = some r) (hG : Glob w) :
    Calls Tryd.prog 30 #[.agg #[.int .i64 a0_0, .int .i64 a0_1, .string a0_2, .string a0_3, .int .i64 a0_4, .int .i64 a0_5, .int .i64 a0_6, .int .i64 a0_7, .int .i64 a0_8, .int .i64 a0_9, .int .i64 a0_10, .slice A0_11 l0_11.length c0_11, .int .i64 a0_12]] w fun e w' => e = .returned (.bool r) ∧ Below w.heap.size w w' := plain_calls k ⟨a0_0, a0_1, a0_2, a0_3, a0_4, ⟨⟨a0_5, a0_6, a0_7⟩, ⟨a0_8, a0_9, a0_10⟩⟩, l0_11, a0_12⟩ A0_11 c0_11 r w hr0_11 hc0_11 h hG
end Go.Proofs.YtonhcfecfifghaaDoor.PPx
namespace Go.Proofs.YtonhcfecfifghaaDoor.PPx
open Go.RowKit Go.Proofs.YtonhcfecfifghaaDoorW.PrintWords Go.Proofs.YtonhcfecfifghaaDoorW.PrintLast Go.Proofs.YtonhcfecfifghaaDoorW.PrintMore
set_option linter.unusedVariables false
set_option linter.unusedSimpArgs false
def itoaS (n : Int) : Option ByteArray := if -9223372036854775808 ≤ n ∧ n ≤ 9223372036854775807 then some ⟨(Lib.itoa n).toArray⟩ else none
theorem Itoa_calls (n : Int) (s : ByteArray) (w : World) (h : itoaS n = some s) (hG : Glob w) : Calls Tryd.prog 52 #[.int .i64 n] w fun e w' => e = .returned (.string s) ∧ Below w.heap.size w w' := by
  unfold itoaS at h
  split at h
  · rename_i hn
    obtain rfl := Option.some.inj h
    refine (Tryd.strconv_Itoa n hn.1 hn.2 w hG.2).mono ?_
    rintro e w' ⟨rfl, k, os, rfl⟩
    exact ⟨rfl, Lib.below_grow _ w (Nat.le_refl _) k os⟩
  · simp at h
def tripleB (a b c : ByteArray) : ByteArray := (((((⟨#[40]⟩ ++ a) ++ ⟨#[44, 32]⟩) ++ b) ++ ⟨#[44, 32]⟩) ++ c) ++ ⟨#[41]⟩
/-- a text that fits an int's length -/
def fitS (s : ByteArray) : Option ByteArray := if s.size ≤ 9223372036854775807 then some s else none
theorem fitS_eq {s r : ByteArray} (h : fitS s = some r) : s = r ∧ s.size ≤ 9223372036854775807 := by
  unfold fitS at h
  split at h
  · rename_i hs; exact ⟨Option.some.inj h, hs⟩
  · simp at h
def tripleF (q : S52) : Option ByteArray := (itoaS q.f0).bind fun a => (itoaS q.f1).bind fun b => (itoaS q.f2).bind fun c => fitS (tripleB a b c)
theorem no_big {n : Nat} (h : n ≤ 9223372036854775807) : (9223372036854775807 < n) = False := eq_false (Nat.not_lt.2 h)
theorem app_size (x y : ByteArray) : (x ++ y).size = x.size + y.size := ByteArray.size_append
theorem row3_held {W : World} {g t : Nat} {a b c : Int} (h : W.heap[g]? = some (.cells #[.int .i64 a, .int .i64 b, .int .i64 c] t (0, 0))) : W.cell? ⟨g, 0, none⟩ = some (.int .i64 a) ∧ W.cell? ⟨g, 1, none⟩ = some (.int .i64 b) ∧ W.cell? ⟨g, 2, none⟩ = some (.int .i64 c) := ⟨blk_cell h 0, blk_cell h 1, blk_cell h 2⟩
set_option maxHeartbeats 2000000 in
set_option maxRecDepth 100000 in
theorem triple_calls2 (q0 q1 q2 : Int) (r : ByteArray) (w : World) (h : tripleF ⟨q0, q1, q2⟩ = some r) (hG : Glob w) : Calls Tryd.prog 53 #[.agg #[.int .i64 q0, .int .i64 q1, .int .i64 q2]] w fun e w' => e = .returned (.string r) ∧ Below w.heap.size w w' := by
  obtain ⟨a, ha, h⟩ := Option.bind_eq_some_iff.1 h
  obtain ⟨b, hb, h⟩ := Option.bind_eq_some_iff.1 h
  obtain ⟨c, hc, h⟩ := Option.bind_eq_some_iff.1 h
  have HA := Aside0.mk ha
  have HBb := Aside0.mk hb
  have HC := Aside0.mk hc
  have HG := Aside0.mk hG
  obtain ⟨rfl, hs⟩ := fitS_eq h
  have e1 : (⟨#[40]⟩ : ByteArray).size = 1 := rfl
  have e2 : (⟨#[44, 32]⟩ : ByteArray).size = 2 := rfl
  have e3 : (⟨#[41]⟩ : ByteArray).size = 1 := rfl
  simp only [tripleB, app_size, e1, e2, e3] at hs
  have k1 := no_big (show 1 + a.size ≤ _ from by omega)
  have k2 := no_big (show 1 + a.size + 2 ≤ _ from by omega)
  have k3 := no_big (show 1 + a.size + 2 + b.size ≤ _ from by omega)
  have k4 := no_big (show 1 + a.size + 2 + b.size + 2 ≤ _ from by omega)
  have k5 := no_big (show 1 + a.size + 2 + b.size + 2 + c.size ≤ _ from by omega)
  have k6 := no_big (show 1 + a.size + 2 + b.size + 2 + c.size + 1 ≤ _ from by omega)
  clear e1 e2 e3
  clear ha hb hc hG h hs
  have HH := Aside0.mk (heap_alloc_new w (.cells #[.int .i64 q0, .int .i64 q1, .int .i64 q2] 52))
  have HB := Aside0.mk (below_alloc (Below.refl w.heap.size w) (.cells #[.int .i64 q0, .int .i64 q1, .int .i64 q2] 52))
  have hz0 := row3_held (blk_drew HH.out)
  have hz := row3_held HH.out
  go_enter Tryd.func53, Tryd.ntmps53
  go_wp2_with fail
  clear hz
  first
  | go_region_held3 (fun W' => W'.cell? ⟨w.heap.size, 0, none⟩ = some (.int .i64 q0) ∧ W'.cell? ⟨w.heap.size, 1, none⟩ = some (.int .i64 q1) ∧ W'.cell? ⟨w.heap.size, 2, none⟩ = some (.int .i64 q2)) (with_reducible first | exact hz0 | exact row3_held HH.out) (first | (go_at_call 52; (with_reducible refine (Itoa_calls q0 _ _ HA.out (HG.out.below (by first | exact HB.out | exact below_drew1 HB.out))).mono ?_); rintro e w1 ⟨rfl, hb⟩; have HH1 := Aside0.mk (blk_below (by first | exact HH.out | exact blk_drew HH.out) hb); have HB1 := Aside0.mk (below_step (by first | exact HB.out | exact below_drew1 HB.out) hb); clear hb HH HB; have HH := HH1; have HB := HB1; clear HH1 HB1) | (go_at_call 52; (with_reducible refine (Itoa_calls q1 _ _ HBb.out (HG.out.below (by first | exact HB.out | exact below_drew1 HB.out))).mono ?_); rintro e w1 ⟨rfl, hb⟩; have HH1 := Aside0.mk (blk_below (by first | exact HH.out | exact blk_drew HH.out) hb); have HB1 := Aside0.mk (below_step (by first | exact HB.out | exact below_drew1 HB.out) hb); clear hb HH HB; have HH := HH1; have HB := HB1; clear HH1 HB1) | (go_at_call 52; (with_reducible refine (Itoa_calls q2 _ _ HC.out (HG.out.below (by first | exact HB.out | exact below_drew1 HB.out))).mono ?_); rintro e w1 ⟨rfl, hb⟩; have HH1 := Aside0.mk (blk_below (by first | exact HH.out | exact blk_drew HH.out) hb); have HB1 := Aside0.mk (below_step (by first | exact HB.out | exact below_drew1 HB.out) hb); clear hb HH HB; have HH := HH1; have HB := HB1; clear HH1 HB1))
  go_wp2_with fail
  go_ret
  exact ⟨rfl, HB.out⟩
end Go.Proofs.YtonhcfecfifghaaDoor.PPx
namespace Go.Proofs.YtonhcfecfifghaaDoor.PPx
open Go.RowKit Go.Proofs.YtonhcfecfifghaaDoorW.PrintWords Go.Proofs.YtonhcfecfifghaaDoorW.PrintLast Go.Proofs.YtonhcfecfifghaaDoorW.PrintMore
set_option linter.unusedVariables false
theorem toList_nil_iff (d : ByteArray) : d.toList = [] ↔ d.size = 0 := by
  rw [ByteArray.toList_eq]
  constructor
  · intro h; have := congrArg List.length h; simpa using this
  · intro h; rw [Array.eq_empty_of_size_eq_zero (show d.data.size = 0 from h)]
theorem numOK_eq (sg : Bool) (d : ByteArray) : numOK sg d = (decide (1 ≤ d.size) && (decide (d.size ≤ 9) && (bt d 0 != 48 || (d.toList == [48] && !sg)))) := by
  have h := number_f sg d
  unfold lexer_number.f at h
  by_cases h0 : d.size = 0
  · rw [if_pos ((toList_nil_iff d).2 h0)] at h
    have := Option.some.inj h
    simp [← this, h0]
  · rw [if_neg (fun e => h0 ((toList_nil_iff d).1 e))] at h
    by_cases h9 : (d.size : Int) > 9
    · rw [if_pos h9] at h
      have := Option.some.inj h
      have h9' : ¬ d.size ≤ 9 := by omega
      simp [← this, h9']
    · rw [if_neg h9, if_pos (by omega)] at h
      have h9' : d.size ≤ 9 := by omega
      have h1' : 1 ≤ d.size := by omega
      by_cases h48 : bt d 0 = 48
      · rw [if_pos h48] at h
        by_cases hl : d.toList = [48]
        · rw [if_pos hl] at h
          have := Option.some.inj h
          simp [← this, h9', h1', h48, hl]
        · rw [if_neg hl] at h
          have := Option.some.inj h
          simp [← this, h48, hl]
      · rw [if_neg h48] at h
        have := Option.some.inj h
        simp [← this, h9', h1', h48]
theorem toList_one_size {d : ByteArray} (h : d.toList = [48]) : d.size = 1 := by
  rw [ByteArray.toList_eq] at h
  have := congrArg List.length h
  simpa using this
theorem one_size (c : Int) : (strOfNums [c]).size = 1 := rfl
theorem one_bt (c : Int) (h0 : 0 ≤ c) (h1 : c ≤ 255) : bt (strOfNums [c]) 0 = c := by
  rw [← bt_at (strOfNums [c]) 0 (by rw [one_size]; decide)]
  show ((UInt8.ofNat c.toNat).toNat : Int) = c
  rw [UInt8.toNat_ofNat_of_lt' (by show c.toNat < 256; omega)]
  omega
theorem cls_digit (c : Nat) (h0 : 48 ≤ c) (h1 : c ≤ 57) : cls c = 2 := by
  unfold cls; rw [if_neg (by omega), if_pos (by omega)]
theorem cls_letter (c : Nat) (h0 : 97 ≤ c) (h1 : c ≤ 122) : cls c = 1 := by
  unfold cls; rw [if_pos (by omega)]
/-- all digits -/
def Digs (d : ByteArray) : Prop := ∀ x : Int, 0 ≤ x → x < (d.size : Int) → 48 ≤ bt d x ∧ bt d x ≤ 57
theorem toList_48 {d : ByteArray} (h1 : d.size = 1) (h : bt d 0 = 48) : d.toList = [48] := by
  have e : d = ⟨#[48]⟩ := by
    refine ext_bt (by rw [h1]; rfl) (fun x h0 hx => ?_)
    have : x = 0 := by omega
    subst this
    rw [h]; rfl
  rw [e, ByteArray.toList_eq]
/-- a number at i, its digits from f to j -/
theorem number_next {u : ByteArray} {sg : Bool} {i f j : Int} (_ : 0 ≤ i) (hf : firstAt sg i = f) (hc : at_ u i = if sg = true then 7 else 2) (hd : ∀ x, f ≤ x → x < j → at_ u x = 2) (hfj : f ≤ j) (hj : j ≤ (u.size : Int)) (he : at_ u j ≠ 2) :
    nextAt u i = if (numOK sg (u.extract f.toNat j.toNat) && !wordAt u j) = true then (2, u.extract i.toNat j.toNat, i, true, j) else (0, ⟨#[]⟩, 0, false, j) := by
  have hs : scanTo (digitAt u) u.size f = j := scanTo_eq hfj hj (fun x a b => by simp [digitAt, hd x a b]) (fun _ => by simpa [digitAt] using he)
  have h1 : at_ u i ≠ 1 := by rw [hc]; split <;> decide
  have h4 : at_ u i ≠ 4 := by rw [hc]; split <;> decide
  have h7 : at_ u i = 7 ∨ at_ u i = 2 := by rw [hc]; cases sg <;> simp
  have hb : (at_ u i == 7) = sg := by rw [hc]; cases sg <;> rfl
  unfold nextAt
  rw [if_neg h1, if_neg h4, if_pos h7]
  simp only [hb, hf, hs]
theorem numOK_of {sg : Bool} {d : ByteArray} (h1 : 1 ≤ d.size) (h9 : d.size ≤ 9) (hl : bt d 0 ≠ 48 ∨ (d.size = 1 ∧ sg = false)) : numOK sg d = true := by
  rw [numOK_eq, decide_eq_true h1, decide_eq_true h9]
  rcases hl with h | ⟨ha, hb⟩
  · have e : (bt d 0 != 48) = true := bne_iff_ne.2 h
    rw [e]; rfl
  · by_cases h : bt d 0 = 48
    · have e : (bt d 0 != 48) = false := by simp [h]
      rw [e, toList_48 ha h, hb]; rfl
    · have e : (bt d 0 != 48) = true := bne_iff_ne.2 h
      rw [e]; rfl
theorem numOK_zero {sg : Bool} {d : ByteArray} (h1 : 2 ≤ d.size) (hl : bt d 0 = 48) : numOK sg d = false := by
  rw [numOK_eq]
  have e : (bt d 0 != 48) = false := by simp [hl]
  have e2 : (d.toList == [48]) = false := beq_eq_false_iff_ne.2 (fun h => by have := toList_one_size h; omega)
  rw [e, e2]
  simp
theorem bt_ext0 {s : ByteArray} {a b : Int} (h0 : 0 ≤ a) (h1 : a < b) (h2 : b ≤ (s.size : Int)) : bt (s.extract a.toNat b.toNat) 0 = bt s a := by
  have := bt_extract (s := s) (a := a) (b := b) (x := 0) h0 (by omega) (by omega) h2
  rwa [Int.add_zero] at this
theorem extract_whole (u : ByteArray) : u.extract (0 : Int).toNat ((u.size : Nat) : Int).toNat = u := by
  have e := size_extractI (s := u) (a := 0) (b := u.size) (by omega) (by omega) (by omega)
  refine ext_bt (by omega) (fun x h0 h1 => ?_)
  rw [bt_extract (by omega) h0 (by omega) (by omega), Int.zero_add]
def sgn (sg : Bool) : ByteArray := if sg = true then ⟨#[45]⟩ else ⟨#[]⟩
theorem sgn_size (sg : Bool) : ((sgn sg).size : Int) = if sg = true then 1 else 0 := by cases sg <;> rfl
theorem sgn_first (sg : Bool) : firstAt sg 0 = ((sgn sg).size : Int) := by cases sg <;> rfl
/-- the notation of a number alone -/
theorem lex_number {sg : Bool} {D : ByteArray} (hD : Digs D) (h1 : 1 ≤ D.size) (h9 : D.size ≤ 9) (hl : bt D 0 ≠ 48 ∨ (D.size = 1 ∧ sg = false)) : lexB (sgn sg ++ D) = ([⟨2, sgn sg ++ D, 0⟩], 0, 0) := by
  have hs := sgn_size sg
  have hf := sgn_first sg
  have hn : (sgn sg).size ≤ 1 := by cases sg <;> decide
  have hsz : (sgn sg ++ D).size = (sgn sg).size + D.size := ByteArray.size_append
  have hdig : ∀ x, ((sgn sg).size : Int) ≤ x → x < ((sgn sg ++ D).size : Int) → at_ (sgn sg ++ D) x = 2 := by
    intro x a b
    rw [at_in b, bt_right a (by omega)]
    have := hD (x - (sgn sg).size) (by omega) (by omega)
    exact cls_digit _ (by omega) (by omega)
  have hc : at_ (sgn sg ++ D) 0 = if sg = true then 7 else 2 := by
    cases sg with
    | true => rw [at_in (by omega), bt_left (by omega) (by decide)]; rfl
    | false => exact hdig 0 (by decide) (by omega)
  have hx := number_next (u := sgn sg ++ D) (i := 0) (f := (sgn sg).size) (j := ((sgn sg ++ D).size : Nat)) (by omega) hf hc hdig (by omega) (by omega) (by rw [at_end (Int.le_refl _)]; decide)
  have hok : numOK sg ((sgn sg ++ D).extract (((sgn sg).size : Nat) : Int).toNat (((sgn sg ++ D).size : Nat) : Int).toNat) = true := by
    have e1 := size_extractI (s := sgn sg ++ D) (a := ((sgn sg).size : Nat)) (b := ((sgn sg ++ D).size : Nat)) (by omega) (by omega) (by omega)
    refine numOK_of (by omega) (by omega) ?_
    rw [bt_ext0 (by omega) (by omega) (by omega), bt_right (Int.le_refl _) (by omega), Int.sub_self]
    rcases hl with h | ⟨h, g⟩
    · exact .inl h
    · exact .inr ⟨by omega, g⟩
  rw [hok, (soft_end (u := sgn sg ++ D) (Int.le_refl _)).1] at hx
  simp only [Bool.not_false, Bool.and_self, if_true, extract_whole] at hx
  have hsk : skipTo (sgn sg ++ D) 0 = 0 := skipTo_other (by rw [hc]; split <;> decide) (by rw [hc]; split <;> decide)
  have hp : Path (sgn sg ++ D) 0 [tokAt (sgn sg ++ D) (skipTo (sgn sg ++ D) 0)] (nextAt (sgn sg ++ D) (skipTo (sgn sg ++ D) 0)).2.2.2.2 := .cons (by rw [hsk]; omega) (by rw [hsk, hx]) (.nil _)
  have ht : tokAt (sgn sg ++ D) (skipTo (sgn sg ++ D) 0) = ⟨2, sgn sg ++ D, 0⟩ := by unfold tokAt; rw [hsk, hx]
  rw [ht, hsk, hx] at hp
  simp only at hp
  refine lexB_ok (by omega) hp ?_
  rw [skipTo_other (by rw [at_end (Int.le_refl _)]; decide) (by rw [at_end (Int.le_refl _)]; decide)]
  omega
theorem size_list (l : List UInt8) : (⟨l.toArray⟩ : ByteArray).size = l.length := by simp [ByteArray.size]
theorem bt_list (l : List UInt8) (x : Nat) (h : x < l.length) : bt (⟨l.toArray⟩ : ByteArray) (x : Int) = ((l[x]'h).toNat : Int) := by
  have hs : (x : Int).toNat < (⟨l.toArray⟩ : ByteArray).size := by rw [size_list]; simpa using h
  unfold bt
  rw [dif_pos hs]
  rfl
theorem dec_at (u t : Nat) (h : t < (Lib.decDigits u).length) : ((Lib.decDigits u)[t]'h).toNat = 48 + u / 10 ^ (Lib.nDigits u - 1 - t) % 10 := by
  have h2 : t < Lib.nDigits u := by rw [← Lib.decDigits_length]; exact h
  have e := Lib.decDigits_eq u
  have : (Lib.decDigits u)[t]'h = Lib.dg u (Lib.nDigits u - 1 - t) := by
    simp only [e, List.getElem_map, List.getElem_range]
  rw [this]
  unfold Lib.dg
  have hm := Nat.mod_lt (u / 10 ^ (Lib.nDigits u - 1 - t)) (show 0 < 10 by decide)
  rw [UInt8.toNat_ofNat']
  omega
theorem dec_digs (u : Nat) : Digs ⟨(Lib.decDigits u).toArray⟩ := by
  intro x h0 h1
  rw [size_list] at h1
  obtain ⟨n, rfl⟩ := Int.eq_ofNat_of_zero_le h0
  have hn : n < (Lib.decDigits u).length := by omega
  rw [bt_list _ n hn, dec_at u n hn]
  have := Nat.mod_lt (u / 10 ^ (Lib.nDigits u - 1 - n)) (show 0 < 10 by decide)
  omega
theorem nDigits_le {u d : Nat} (h : u < 10 ^ d) (hd : 1 ≤ d) : Lib.nDigits u ≤ d := by
  induction d generalizing u with
  | zero => omega
  | succ d ih =>
    by_cases hs : u < 10
    · rw [Lib.nDigits_small hs]; omega
    · rw [Lib.nDigits_big hs]
      by_cases h0 : d = 0
      · subst h0; simp at h; omega
      · rw [Nat.pow_succ] at h
        have := ih (u := u / 10) (by omega) (by omega)
        omega
theorem nDigits_ge : ∀ u : Nat, u ≠ 0 → 10 ^ (Lib.nDigits u - 1) ≤ u := by
  intro u
  induction u using Nat.strongRecOn with
  | _ u ih =>
    intro hu
    by_cases hs : u < 10
    · rw [Lib.nDigits_small hs]; simp; omega
    · rw [Lib.nDigits_big hs]
      have h1 := ih (u / 10) (by omega) (by omega)
      have h2 := Lib.nDigits_pos (u / 10)
      have e : Lib.nDigits (u / 10) + 1 - 1 = (Lib.nDigits (u / 10) - 1) + 1 := by omega
      rw [e, Nat.pow_succ]
      omega
theorem dec_lead {u : Nat} (h : u ≠ 0) : bt ⟨(Lib.decDigits u).toArray⟩ 0 ≠ 48 := by
  have hl : 0 < (Lib.decDigits u).length := by rw [Lib.decDigits_length]; exact Lib.nDigits_pos u
  have := bt_list (Lib.decDigits u) 0 hl
  rw [Int.ofNat_zero] at this
  rw [this, dec_at u 0 hl]
  have hge := nDigits_ge u h
  have hlt := Lib.lt_pow_nDigits u
  have hp := Lib.nDigits_pos u
  have e : Lib.nDigits u = (Lib.nDigits u - 1) + 1 := by omega
  rw [e, Nat.pow_succ] at hlt
  have hpos : 0 < 10 ^ (Lib.nDigits u - 1) := Nat.pow_pos (by decide)
  have hq1 : 1 ≤ u / 10 ^ (Lib.nDigits u - 1) := (Nat.le_div_iff_mul_le hpos).2 (by omega)
  have hq2 : u / 10 ^ (Lib.nDigits u - 1) < 10 := (Nat.div_lt_iff_lt_mul hpos).2 (by rw [Nat.mul_comm]; exact hlt)
  rw [Nat.sub_zero]
  omega
/-- the notation of an integer of at most nine digits is one token -/
theorem itoa_tok {n : Int} (h0 : -1000000000 < n) (h1 : n < 1000000000) : TokText 2 ⟨(Lib.itoa n).toArray⟩ ∧ (Lib.itoa n).length ≤ 10 := by
  have key : ∀ (u : Nat) (sg : Bool), u < 1000000000 → (sg = true → u ≠ 0) → TokText 2 (sgn sg ++ ⟨(Lib.decDigits u).toArray⟩) ∧ (Lib.decDigits u).length ≤ 9 := by
    intro u sg hu hsg
    have hl : (Lib.decDigits u).length ≤ 9 := by rw [Lib.decDigits_length]; exact nDigits_le (by simpa using hu) (by decide)
    have hl1 : 1 ≤ (Lib.decDigits u).length := by rw [Lib.decDigits_length]; exact Lib.nDigits_pos u
    refine ⟨?_, hl⟩
    have := lex_number (sg := sg) (dec_digs u) (by rw [size_list]; omega) (by rw [size_list]; omega) (by
      by_cases hz : u = 0
      · refine .inr ⟨?_, ?_⟩
        · rw [size_list, hz, Lib.decDigits_one (by decide)]; rfl
        · cases sg with
          | false => rfl
          | true => exact absurd hz (hsg rfl)
      · exact .inl (dec_lead hz))
    have hz := tok_of_lex this rfl (by
      rw [ByteArray.size_append, size_list (Lib.decDigits u)]
      have h2 : (sgn sg).size ≤ 1 := by cases sg <;> decide
      omega)
    exact hz
  rcases Int.lt_or_le n 0 with hn | hn
  · obtain ⟨u, rfl⟩ : ∃ u : Nat, n = -(u : Int) := ⟨n.natAbs, by omega⟩
    have := key u true (by omega) (fun _ => by omega)
    rw [Lib.itoa_neg u (by omega)]
    refine ⟨?_, by simp; omega⟩
    have e : (⟨(45 :: Lib.decDigits u).toArray⟩ : ByteArray) = sgn true ++ ⟨(Lib.decDigits u).toArray⟩ := by
      apply ByteArray.ext
      simp [sgn, ByteArray.data_append]
    rw [e]
    exact this.1
  · obtain ⟨u, rfl⟩ := Int.eq_ofNat_of_zero_le hn
    have := key u false (by omega) (fun h => by cases h)
    rw [Lib.itoa_nonneg u]
    refine ⟨?_, by omega⟩
    have e : (⟨(Lib.decDigits u).toArray⟩ : ByteArray) = sgn false ++ ⟨(Lib.decDigits u).toArray⟩ := by
      apply ByteArray.ext
      simp [sgn, ByteArray.data_append]
    rw [e]
    exact this.1
end Go.Proofs.YtonhcfecfifghaaDoor.PPx
namespace Go.Proofs.YtonhcfecfifghaaDoor.PPx
open Go.RowKit Go.Proofs.YtonhcfecfifghaaDoorW.PrintWords Go.Proofs.YtonhcfecfifghaaDoorW.PrintLast Go.Proofs.YtonhcfecfifghaaDoorW.PrintMore
set_option linter.unusedVariables false
set_option linter.unusedSimpArgs false
def wordB (k : Int) : ByteArray := if k = 3 then ⟨#[112, 105, 99, 107]⟩ else if k = 4 then ⟨#[112, 117, 116]⟩ else ⟨#[104, 97, 110, 100]⟩
def lineGo (a t : ByteArray) : ByteArray := (((⟨#[103, 111, 32]⟩ ++ a) ++ ⟨#[32]⟩) ++ t) ++ ⟨#[59]⟩
def lineOne (p a : ByteArray) : ByteArray := (p ++ a) ++ ⟨#[59]⟩
def lineWhen (p q : ByteArray) : ByteArray := (((⟨#[119, 104, 101, 110, 32]⟩ ++ p) ++ ⟨#[32]⟩) ++ q) ++ ⟨#[32, 123]⟩
def lineBoth (t u : ByteArray) : ByteArray := (((⟨#[98, 111, 116, 104, 32]⟩ ++ t) ++ ⟨#[32]⟩) ++ u) ++ ⟨#[59]⟩
def lineName (k a p q : ByteArray) : ByteArray := (((((k ++ ⟨#[32]⟩) ++ a) ++ ⟨#[32]⟩) ++ p) ++ q) ++ ⟨#[59]⟩
/-- what line writes -/
def lineF (x : S55) : Option ByteArray :=
  if x.f0 = 1 then (if x.f1 = 0 then (itoaS 0).bind fun a => (tripleF x.f5.f0).bind fun t => fitS (lineGo a t) else if x.f1 = 1 then (itoaS 1).bind fun a => (tripleF x.f5.f1).bind fun t => fitS (lineGo a t) else none)
  else if x.f0 = 2 then (itoaS x.f1).bind fun a => fitS (lineOne ⟨#[104, 111, 109, 101, 32]⟩ a)
  else if x.f0 = 6 then (itoaS x.f4).bind fun a => fitS (lineOne ⟨#[119, 97, 105, 116, 32]⟩ a)
  else if x.f0 = 7 then fitS (lineWhen x.f3 x.f2)
  else if x.f0 = 8 then (tripleF x.f5.f0).bind fun t => (tripleF x.f5.f1).bind fun u => fitS (lineBoth t u)
  else if x.f0 = 3 ∨ x.f0 = 4 ∨ x.f0 = 5 then (itoaS x.f1).bind fun a => fitS (lineName (wordB x.f0) a x.f2 x.f3)
  else none
set_option maxHeartbeats 2000000 in
set_option maxRecDepth 100000 in
theorem line_home (x1 : Int) (x2 x3 : ByteArray) (x4 q0 q1 q2 p0 p1 p2 : Int) (x6 : List S55) (x7 : Int) (a : ByteArray) (r : ByteArray) (v : Value) (w : World) (ha : itoaS x1 = some a) (h : fitS (lineOne ⟨#[104, 111, 109, 101, 32]⟩ a) = some r) (hG : Glob w) : Calls Tryd.prog 35 #[.agg (stmC ⟨2, x1, x2, x3, x4, ⟨⟨q0, q1, q2⟩, ⟨p0, p1, p2⟩⟩, x6, x7⟩ v)] w fun e w' => e = .returned (.string r) ∧ Below w.heap.size w w' := by
  have hu55 := Tryd.underlying55
  have HG := Aside0.mk hG
  clear hG
  have HH := Aside0.mk (heap_alloc_new w (.cells (stmC (⟨2, x1, x2, x3, x4, ⟨⟨q0, q1, q2⟩, ⟨p0, p1, p2⟩⟩, x6, x7⟩ : S55) v) 55))
  have HB := Aside0.mk (below_alloc (Below.refl w.heap.size w) (.cells (stmC (⟨2, x1, x2, x3, x4, ⟨⟨q0, q1, q2⟩, ⟨p0, p1, p2⟩⟩, x6, x7⟩ : S55) v) 55))
  have hz := row_held HH.out
  simp only at hz
  go_split_ands
  obtain ⟨hr, hs⟩ := fitS_eq h
  have e0 : (⟨#[104, 111, 109, 101, 32]⟩ : ByteArray).size = 5 := rfl
  have e1 : (⟨#[59]⟩ : ByteArray).size = 1 := rfl
  simp only [lineOne, app_size, e0, e1] at hs
  have k1 := no_big (show 5 + a.size ≤ _ from by omega)
  have k2 := no_big (show 5 + a.size + 1 ≤ _ from by omega)
  subst hr
  clear h hs e0 e1
  have HA := Aside0.mk ha
  clear ha
  go_enter Tryd.func35, Tryd.ntmps35
  go_wp2_with fail
  refine (Itoa_calls x1 a _ HA.out (HG.out.below HB.out)).mono ?_
  rintro e w1 ⟨rfl, hb⟩
  have HB1 := Aside0.mk (below_step HB.out hb)
  clear hb
  go_wp2_with fail
  go_ret
  exact ⟨rfl, HB1.out⟩
set_option maxHeartbeats 2000000 in
set_option maxRecDepth 100000 in
theorem line_wait (x1 : Int) (x2 x3 : ByteArray) (x4 q0 q1 q2 p0 p1 p2 : Int) (x6 : List S55) (x7 : Int) (a : ByteArray) (r : ByteArray) (v : Value) (w : World) (ha : itoaS x4 = some a) (h : fitS (lineOne ⟨#[119, 97, 105, 116, 32]⟩ a) = some r) (hG : Glob w) : Calls Tryd.prog 35 #[.agg (stmC ⟨6, x1, x2, x3, x4, ⟨⟨q0, q1, q2⟩, ⟨p0, p1, p2⟩⟩, x6, x7⟩ v)] w fun e w' => e = .returned (.string r) ∧ Below w.heap.size w w' := by
  have hu55 := Tryd.underlying55
  have HG := Aside0.mk hG
  clear hG
  have HH := Aside0.mk (heap_alloc_new w (.cells (stmC (⟨6, x1, x2, x3, x4, ⟨⟨q0, q1, q2⟩, ⟨p0, p1, p2⟩⟩, x6, x7⟩ : S55) v) 55))
  have HB := Aside0.mk (below_alloc (Below.refl w.heap.size w) (.cells (stmC (⟨6, x1, x2, x3, x4, ⟨⟨q0, q1, q2⟩, ⟨p0, p1, p2⟩⟩, x6, x7⟩ : S55) v) 55))
  have hz := row_held HH.out
  simp only at hz
  go_split_ands
  obtain ⟨hr, hs⟩ := fitS_eq h
  have e0 : (⟨#[119, 97, 105, 116, 32]⟩ : ByteArray).size = 5 := rfl
  have e1 : (⟨#[59]⟩ : ByteArray).size = 1 := rfl
  simp only [lineOne, app_size, e0, e1] at hs
  have k1 := no_big (show 5 + a.size ≤ _ from by omega)
  have k2 := no_big (show 5 + a.size + 1 ≤ _ from by omega)
  subst hr
  clear h hs e0 e1
  have HA := Aside0.mk ha
  clear ha
  go_enter Tryd.func35, Tryd.ntmps35
  go_wp2_with fail
  refine (Itoa_calls x4 a _ HA.out (HG.out.below HB.out)).mono ?_
  rintro e w1 ⟨rfl, hb⟩
  have HB1 := Aside0.mk (below_step HB.out hb)
  clear hb
  go_wp2_with fail
  go_ret
  exact ⟨rfl, HB1.out⟩
set_option maxHeartbeats 2000000 in
set_option maxRecDepth 100000 in
theorem line_when (x1 : Int) (x2 x3 : ByteArray) (x4 q0 q1 q2 p0 p1 p2 : Int) (x6 : List S55) (x7 : Int) (r : ByteArray) (v : Value) (w : World) (h : fitS (lineWhen x3 x2) = some r) (hG : Glob w) : Calls Tryd.prog 35 #[.agg (stmC ⟨7, x1, x2, x3, x4, ⟨⟨q0, q1, q2⟩, ⟨p0, p1, p2⟩⟩, x6, x7⟩ v)] w fun e w' => e = .returned (.string r) ∧ Below w.heap.size w w' := by
  have hu55 := Tryd.underlying55
  have HG := Aside0.mk hG
  clear hG
  have HH := Aside0.mk (heap_alloc_new w (.cells (stmC (⟨7, x1, x2, x3, x4, ⟨⟨q0, q1, q2⟩, ⟨p0, p1, p2⟩⟩, x6, x7⟩ : S55) v) 55))
  have HB := Aside0.mk (below_alloc (Below.refl w.heap.size w) (.cells (stmC (⟨7, x1, x2, x3, x4, ⟨⟨q0, q1, q2⟩, ⟨p0, p1, p2⟩⟩, x6, x7⟩ : S55) v) 55))
  have hz := row_held HH.out
  simp only at hz
  go_split_ands
  obtain ⟨hr, hs⟩ := fitS_eq h
  have e0 : (⟨#[119, 104, 101, 110, 32]⟩ : ByteArray).size = 5 := rfl
  have e1 : (⟨#[32]⟩ : ByteArray).size = 1 := rfl
  have e2 : (⟨#[32, 123]⟩ : ByteArray).size = 2 := rfl
  simp only [lineWhen, app_size, e0, e1, e2] at hs
  have k1 := no_big (show 5 + x3.size ≤ _ from by omega)
  have k2 := no_big (show 5 + x3.size + 1 ≤ _ from by omega)
  have k3 := no_big (show 5 + x3.size + 1 + x2.size ≤ _ from by omega)
  have k4 := no_big (show 5 + x3.size + 1 + x2.size + 2 ≤ _ from by omega)
  subst hr
  clear h hs e0 e1 e2
  go_enter Tryd.func35, Tryd.ntmps35
  go_wp2_with fail
  go_ret
  exact ⟨rfl, HB.out⟩
set_option maxHeartbeats 2000000 in
set_option maxRecDepth 100000 in
theorem line_both (x1 : Int) (x2 x3 : ByteArray) (x4 q0 q1 q2 p0 p1 p2 : Int) (x6 : List S55) (x7 : Int) (t u : ByteArray) (r : ByteArray) (v : Value) (w : World) (ht : tripleF ⟨q0, q1, q2⟩ = some t) (hu : tripleF ⟨p0, p1, p2⟩ = some u) (h : fitS (lineBoth t u) = some r) (hG : Glob w) : Calls Tryd.prog 35 #[.agg (stmC ⟨8, x1, x2, x3, x4, ⟨⟨q0, q1, q2⟩, ⟨p0, p1, p2⟩⟩, x6, x7⟩ v)] w fun e w' => e = .returned (.string r) ∧ Below w.heap.size w w' := by
  have hu55 := Tryd.underlying55
  have HG := Aside0.mk hG
  clear hG
  have HH := Aside0.mk (heap_alloc_new w (.cells (stmC (⟨8, x1, x2, x3, x4, ⟨⟨q0, q1, q2⟩, ⟨p0, p1, p2⟩⟩, x6, x7⟩ : S55) v) 55))
  have HB := Aside0.mk (below_alloc (Below.refl w.heap.size w) (.cells (stmC (⟨8, x1, x2, x3, x4, ⟨⟨q0, q1, q2⟩, ⟨p0, p1, p2⟩⟩, x6, x7⟩ : S55) v) 55))
  have hz := row_held HH.out
  simp only at hz
  go_split_ands
  obtain ⟨hr, hs⟩ := fitS_eq h
  have e0 : (⟨#[98, 111, 116, 104, 32]⟩ : ByteArray).size = 5 := rfl
  have e1 : (⟨#[32]⟩ : ByteArray).size = 1 := rfl
  have e2 : (⟨#[59]⟩ : ByteArray).size = 1 := rfl
  simp only [lineBoth, app_size, e0, e1, e2] at hs
  have k1 := no_big (show 5 + t.size ≤ _ from by omega)
  have k2 := no_big (show 5 + t.size + 1 ≤ _ from by omega)
  have k3 := no_big (show 5 + t.size + 1 + u.size ≤ _ from by omega)
  have k4 := no_big (show 5 + t.size + 1 + u.size + 1 ≤ _ from by omega)
  subst hr
  clear h hs e0 e1 e2
  have HT := Aside0.mk ht
  have HU := Aside0.mk hu
  clear ht hu
  go_enter Tryd.func35, Tryd.ntmps35
  go_wp2_with fail
  first
  | go_region_held3 (fun W' => W'.cell? ⟨w.heap.size, 0, none⟩ = some (.int .i64 8) ∧ W'.cell? ⟨w.heap.size, 1, none⟩ = some (.int .i64 x1) ∧ W'.cell? ⟨w.heap.size, 2, none⟩ = some (.string x2) ∧ W'.cell? ⟨w.heap.size, 3, none⟩ = some (.string x3) ∧ W'.cell? ⟨w.heap.size, 4, none⟩ = some (.int .i64 x4) ∧ W'.cell? ⟨w.heap.size, 5, none⟩ = some (.int .i64 q0) ∧ W'.cell? ⟨w.heap.size, 6, none⟩ = some (.int .i64 q1) ∧ W'.cell? ⟨w.heap.size, 7, none⟩ = some (.int .i64 q2) ∧ W'.cell? ⟨w.heap.size, 8, none⟩ = some (.int .i64 p0) ∧ W'.cell? ⟨w.heap.size, 9, none⟩ = some (.int .i64 p1) ∧ W'.cell? ⟨w.heap.size, 10, none⟩ = some (.int .i64 p2) ∧ W'.cell? ⟨w.heap.size, 11, none⟩ = some v ∧ W'.cell? ⟨w.heap.size, 12, none⟩ = some (.int .i64 x7)) (with_reducible first | exact row_held HH.out | exact row_held (blk_drew HH.out)) (first | (go_at_call 53; (with_reducible refine (triple_calls2 q0 q1 q2 _ _ HT.out (HG.out.below (by first | exact HB.out | exact below_drew1 HB.out))).mono ?_); rintro e w1 ⟨rfl, hb⟩; have HH1 := Aside0.mk (blk_below (by first | exact HH.out | exact blk_drew HH.out) hb); have HB1 := Aside0.mk (below_step (by first | exact HB.out | exact below_drew1 HB.out) hb); clear hb HH HB; have HH := HH1; have HB := HB1; clear HH1 HB1) | (go_at_call 53; (with_reducible refine (triple_calls2 p0 p1 p2 _ _ HU.out (HG.out.below (by first | exact HB.out | exact below_drew1 HB.out))).mono ?_); rintro e w1 ⟨rfl, hb⟩; have HH1 := Aside0.mk (blk_below (by first | exact HH.out | exact blk_drew HH.out) hb); have HB1 := Aside0.mk (below_step (by first | exact HB.out | exact below_drew1 HB.out) hb); clear hb HH HB; have HH := HH1; have HB := HB1; clear HH1 HB1))
  | fail "held3"
  go_wp2_with fail
  go_ret
  exact ⟨rfl, HB.out⟩
set_option maxHeartbeats 2000000 in
set_option maxRecDepth 100000 in
theorem line_go0 (x2 x3 : ByteArray) (x4 q0 q1 q2 p0 p1 p2 : Int) (x6 : List S55) (x7 : Int) (a t : ByteArray) (r : ByteArray) (v : Value) (w : World) (ha : itoaS 0 = some a) (ht : tripleF ⟨q0, q1, q2⟩ = some t) (h : fitS (lineGo a t) = some r) (hG : Glob w) : Calls Tryd.prog 35 #[.agg (stmC ⟨1, 0, x2, x3, x4, ⟨⟨q0, q1, q2⟩, ⟨p0, p1, p2⟩⟩, x6, x7⟩ v)] w fun e w' => e = .returned (.string r) ∧ Below w.heap.size w w' := by
  have hu55 := Tryd.underlying55
  have HG := Aside0.mk hG
  clear hG
  have HH := Aside0.mk (heap_alloc_new w (.cells (stmC (⟨1, 0, x2, x3, x4, ⟨⟨q0, q1, q2⟩, ⟨p0, p1, p2⟩⟩, x6, x7⟩ : S55) v) 55))
  have HB := Aside0.mk (below_alloc (Below.refl w.heap.size w) (.cells (stmC (⟨1, 0, x2, x3, x4, ⟨⟨q0, q1, q2⟩, ⟨p0, p1, p2⟩⟩, x6, x7⟩ : S55) v) 55))
  have hz := row_held HH.out
  simp only at hz
  go_split_ands
  obtain ⟨hr, hs⟩ := fitS_eq h
  have e0 : (⟨#[103, 111, 32]⟩ : ByteArray).size = 3 := rfl
  have e1 : (⟨#[32]⟩ : ByteArray).size = 1 := rfl
  have e2 : (⟨#[59]⟩ : ByteArray).size = 1 := rfl
  simp only [lineGo, app_size, e0, e1, e2] at hs
  have k1 := no_big (show 3 + a.size ≤ _ from by omega)
  have k2 := no_big (show 3 + a.size + 1 ≤ _ from by omega)
  have k3 := no_big (show 3 + a.size + 1 + t.size ≤ _ from by omega)
  have k4 := no_big (show 3 + a.size + 1 + t.size + 1 ≤ _ from by omega)
  subst hr
  clear h hs e0 e1 e2
  have HA := Aside0.mk ha
  have HT := Aside0.mk ht
  clear ha ht
  go_enter Tryd.func35, Tryd.ntmps35
  go_wp2_with fail
  first
  | go_region_held3 (fun W' => W'.cell? ⟨w.heap.size, 0, none⟩ = some (.int .i64 1) ∧ W'.cell? ⟨w.heap.size, 1, none⟩ = some (.int .i64 0) ∧ W'.cell? ⟨w.heap.size, 2, none⟩ = some (.string x2) ∧ W'.cell? ⟨w.heap.size, 3, none⟩ = some (.string x3) ∧ W'.cell? ⟨w.heap.size, 4, none⟩ = some (.int .i64 x4) ∧ W'.cell? ⟨w.heap.size, 5, none⟩ = some (.int .i64 q0) ∧ W'.cell? ⟨w.heap.size, 6, none⟩ = some (.int .i64 q1) ∧ W'.cell? ⟨w.heap.size, 7, none⟩ = some (.int .i64 q2) ∧ W'.cell? ⟨w.heap.size, 8, none⟩ = some (.int .i64 p0) ∧ W'.cell? ⟨w.heap.size, 9, none⟩ = some (.int .i64 p1) ∧ W'.cell? ⟨w.heap.size, 10, none⟩ = some (.int .i64 p2) ∧ W'.cell? ⟨w.heap.size, 11, none⟩ = some v ∧ W'.cell? ⟨w.heap.size, 12, none⟩ = some (.int .i64 x7)) (with_reducible first | exact row_held HH.out | exact row_held (blk_drew HH.out)) (first | (go_at_call 52; (with_reducible refine (Itoa_calls 0 _ _ HA.out (HG.out.below (by first | exact HB.out | exact below_drew1 HB.out))).mono ?_); rintro e w1 ⟨rfl, hb⟩; have HH1 := Aside0.mk (blk_below (by first | exact HH.out | exact blk_drew HH.out) hb); have HB1 := Aside0.mk (below_step (by first | exact HB.out | exact below_drew1 HB.out) hb); clear hb HH HB; have HH := HH1; have HB := HB1; clear HH1 HB1) | (go_at_call 53; (with_reducible refine (triple_calls2 q0 q1 q2 _ _ HT.out (HG.out.below (by first | exact HB.out | exact below_drew1 HB.out))).mono ?_); rintro e w1 ⟨rfl, hb⟩; have HH1 := Aside0.mk (blk_below (by first | exact HH.out | exact blk_drew HH.out) hb); have HB1 := Aside0.mk (below_step (by first | exact HB.out | exact below_drew1 HB.out) hb); clear hb HH HB; have HH := HH1; have HB := HB1; clear HH1 HB1))
  | fail "held3"
  go_wp2_with fail
  go_ret
  exact ⟨rfl, HB.out⟩
set_option maxHeartbeats 2000000 in
set_option maxRecDepth 100000 in
theorem line_go1 (x2 x3 : ByteArray) (x4 q0 q1 q2 p0 p1 p2 : Int) (x6 : List S55) (x7 : Int) (a t : ByteArray) (r : ByteArray) (v : Value) (w : World) (ha : itoaS 1 = some a) (ht : tripleF ⟨p0, p1, p2⟩ = some t) (h : fitS (lineGo a t) = some r) (hG : Glob w) : Calls Tryd.prog 35 #[.agg (stmC ⟨1, 1, x2, x3, x4, ⟨⟨q0, q1, q2⟩, ⟨p0, p1, p2⟩⟩, x6, x7⟩ v)] w fun e w' => e = .returned (.string r) ∧ Below w.heap.size w w' := by
  have hu55 := Tryd.underlying55
  have HG := Aside0.mk hG
  clear hG
  have HH := Aside0.mk (heap_alloc_new w (.cells (stmC (⟨1, 1, x2, x3, x4, ⟨⟨q0, q1, q2⟩, ⟨p0, p1, p2⟩⟩, x6, x7⟩ : S55) v) 55))
  have HB := Aside0.mk (below_alloc (Below.refl w.heap.size w) (.cells (stmC (⟨1, 1, x2, x3, x4, ⟨⟨q0, q1, q2⟩, ⟨p0, p1, p2⟩⟩, x6, x7⟩ : S55) v) 55))
  have hz := row_held HH.out
  simp only at hz
  go_split_ands
  obtain ⟨hr, hs⟩ := fitS_eq h
  have e0 : (⟨#[103, 111, 32]⟩ : ByteArray).size = 3 := rfl
  have e1 : (⟨#[32]⟩ : ByteArray).size = 1 := rfl
  have e2 : (⟨#[59]⟩ : ByteArray).size = 1 := rfl
  simp only [lineGo, app_size, e0, e1, e2] at hs
  have k1 := no_big (show 3 + a.size ≤ _ from by omega)
  have k2 := no_big (show 3 + a.size + 1 ≤ _ from by omega)
  have k3 := no_big (show 3 + a.size + 1 + t.size ≤ _ from by omega)
  have k4 := no_big (show 3 + a.size + 1 + t.size + 1 ≤ _ from by omega)
  subst hr
  clear h hs e0 e1 e2
  have HA := Aside0.mk ha
  have HT := Aside0.mk ht
  clear ha ht
  go_enter Tryd.func35, Tryd.ntmps35
  go_wp2_with fail
  first
  | go_region_held3 (fun W' => W'.cell? ⟨w.heap.size, 0, none⟩ = some (.int .i64 1) ∧ W'.cell? ⟨w.heap.size, 1, none⟩ = some (.int .i64 1) ∧ W'.cell? ⟨w.heap.size, 2, none⟩ = some (.string x2) ∧ W'.cell? ⟨w.heap.size, 3, none⟩ = some (.string x3) ∧ W'.cell? ⟨w.heap.size, 4, none⟩ = some (.int .i64 x4) ∧ W'.cell? ⟨w.heap.size, 5, none⟩ = some (.int .i64 q0) ∧ W'.cell? ⟨w.heap.size, 6, none⟩ = some (.int .i64 q1) ∧ W'.cell? ⟨w.heap.size, 7, none⟩ = some (.int .i64 q2) ∧ W'.cell? ⟨w.heap.size, 8, none⟩ = some (.int .i64 p0) ∧ W'.cell? ⟨w.heap.size, 9, none⟩ = some (.int .i64 p1) ∧ W'.cell? ⟨w.heap.size, 10, none⟩ = some (.int .i64 p2) ∧ W'.cell? ⟨w.heap.size, 11, none⟩ = some v ∧ W'.cell? ⟨w.heap.size, 12, none⟩ = some (.int .i64 x7)) (with_reducible first | exact row_held HH.out | exact row_held (blk_drew HH.out)) (first | (go_at_call 52; (with_reducible refine (Itoa_calls 1 _ _ HA.out (HG.out.below (by first | exact HB.out | exact below_drew1 HB.out))).mono ?_); rintro e w1 ⟨rfl, hb⟩; have HH1 := Aside0.mk (blk_below (by first | exact HH.out | exact blk_drew HH.out) hb); have HB1 := Aside0.mk (below_step (by first | exact HB.out | exact below_drew1 HB.out) hb); clear hb HH HB; have HH := HH1; have HB := HB1; clear HH1 HB1) | (go_at_call 53; (with_reducible refine (triple_calls2 p0 p1 p2 _ _ HT.out (HG.out.below (by first | exact HB.out | exact below_drew1 HB.out))).mono ?_); rintro e w1 ⟨rfl, hb⟩; have HH1 := Aside0.mk (blk_below (by first | exact HH.out | exact blk_drew HH.out) hb); have HB1 := Aside0.mk (below_step (by first | exact HB.out | exact below_drew1 HB.out) hb); clear hb HH HB; have HH := HH1; have HB := HB1; clear HH1 HB1))
  | fail "held3"
  go_wp2_with fail
  go_ret
  exact ⟨rfl, HB.out⟩
end Go.Proofs.YtonhcfecfifghaaDoor.PPx
namespace Go.Proofs.YtonhcfecfifghaaDoor.PPx
open Go.RowKit Go.Proofs.YtonhcfecfifghaaDoorW.PrintWords Go.Proofs.YtonhcfecfifghaaDoorW.PrintLast Go.Proofs.YtonhcfecfifghaaDoorW.PrintMore
set_option linter.unusedVariables false
set_option linter.unusedSimpArgs false
/-- where a keyword lies -/
def WordAt (w : World) (ad : Addr) (cc : Nat) (k : Nat) (s : ByteArray) : Prop := w.cell? ⟨0, 0, none⟩ = some (.slice (some ad) 9 cc) ∧ w.cell? ⟨ad.block, ad.off + k, none⟩ = some (.string s) ∧ 0 < w.heap.size ∧ ad.block < w.heap.size
theorem word_at {w : World} (h : WordsAt w) (k : Nat) (hk : k < 9) (hk0 : k ≠ 0) : ∃ ad cc, WordAt w ad cc k (wordsL[k]'hk) := by
  obtain ⟨A, c, h0, hc, hC, hl⟩ := h
  have hR := Kd.reads_of_C (d := ByteArray.empty) hC
  obtain ⟨ad, e, hx⟩ := hR.2.2 (by decide)
  subst e
  have hx' := hx k hk
  have hg : wordsL.getD k ByteArray.empty = wordsL[k]'hk := by rw [List.getD_eq_getElem?_getD, List.getElem?_eq_getElem (show k < wordsL.length from hk)]; rfl
  rw [hg, show ad.add k = ⟨ad.block, ad.off + k, none⟩ from if_neg hk0] at hx'
  refine ⟨ad, c, h0, hx', hl, ?_⟩
  rcases Nat.lt_or_ge ad.block w.heap.size with h' | h'
  · exact h'
  · exfalso
    have : w.cell? ⟨ad.block, ad.off + k, none⟩ = none := by simp [World.cell?, Array.getElem?_eq_none h']
    rw [this] at hx'
    exact absurd hx' (by simp)
theorem WordAt.below {w W : World} {ad : Addr} {cc k : Nat} {s : ByteArray} (h : WordAt w ad cc k s) (hb : Below w.heap.size w W) : W.cell? ⟨0, 0, none⟩ = some (.slice (some ad) 9 cc) ∧ W.cell? ⟨ad.block, ad.off + k, none⟩ = some (.string s) :=
  ⟨(World.cell?_of_block (a := ⟨0, 0, none⟩) (hb.block 0 h.2.2.1)).trans h.1, (World.cell?_of_block (a := ⟨ad.block, ad.off + k, none⟩) (hb.block _ h.2.2.2)).trans h.2.1⟩
theorem name_held {w W' : World} {b cc k : Nat} {ad : Addr} {s : ByteArray} {x : S55} {v : Value} (h : W'.heap[b]? = some (.cells (stmC x v) 55 (0, 0))) (hb : Below w.heap.size w W') (hw : WordAt w ad cc k s) : W'.cell? ⟨0, 0, none⟩ = some (.slice (some ad) 9 cc) ∧ W'.cell? ⟨ad.block, ad.off + k, none⟩ = some (.string s) ∧ W'.cell? ⟨b, 0, none⟩ = some (.int .i64 x.f0) ∧ W'.cell? ⟨b, 1, none⟩ = some (.int .i64 x.f1) ∧ W'.cell? ⟨b, 2, none⟩ = some (.string x.f2) ∧ W'.cell? ⟨b, 3, none⟩ = some (.string x.f3) ∧ W'.cell? ⟨b, 4, none⟩ = some (.int .i64 x.f4) ∧ W'.cell? ⟨b, 5, none⟩ = some (.int .i64 x.f5.f0.f0) ∧ W'.cell? ⟨b, 6, none⟩ = some (.int .i64 x.f5.f0.f1) ∧ W'.cell? ⟨b, 7, none⟩ = some (.int .i64 x.f5.f0.f2) ∧ W'.cell? ⟨b, 8, none⟩ = some (.int .i64 x.f5.f1.f0) ∧ W'.cell? ⟨b, 9, none⟩ = some (.int .i64 x.f5.f1.f1) ∧ W'.cell? ⟨b, 10, none⟩ = some (.int .i64 x.f5.f1.f2) ∧ W'.cell? ⟨b, 11, none⟩ = some (v) ∧ W'.cell? ⟨b, 12, none⟩ = some (.int .i64 x.f7) :=
  ⟨(hw.below hb).1, (hw.below hb).2, row_held h⟩
set_option maxHeartbeats 2000000 in
set_option maxRecDepth 100000 in
theorem line_pick (x1 : Int) (x2 x3 : ByteArray) (x4 q0 q1 q2 p0 p1 p2 : Int) (x6 : List S55) (x7 : Int) (a : ByteArray) (r : ByteArray) (v : Value) (w : World) (ha : itoaS x1 = some a) (h : fitS (lineName ⟨#[112, 105, 99, 107]⟩ a x2 x3) = some r) (hG : Glob w) : Calls Tryd.prog 35 #[.agg (stmC ⟨3, x1, x2, x3, x4, ⟨⟨q0, q1, q2⟩, ⟨p0, p1, p2⟩⟩, x6, x7⟩ v)] w fun e w' => e = .returned (.string r) ∧ Below w.heap.size w w' := by
  have hu55 := Tryd.underlying55
  have HG := Aside0.mk hG
  clear hG
  have HH := Aside0.mk (heap_alloc_new w (.cells (stmC (⟨3, x1, x2, x3, x4, ⟨⟨q0, q1, q2⟩, ⟨p0, p1, p2⟩⟩, x6, x7⟩ : S55) v) 55))
  have HB := Aside0.mk (below_alloc (Below.refl w.heap.size w) (.cells (stmC (⟨3, x1, x2, x3, x4, ⟨⟨q0, q1, q2⟩, ⟨p0, p1, p2⟩⟩, x6, x7⟩ : S55) v) 55))
  have hz := row_held HH.out
  simp only at hz
  go_split_ands
  obtain ⟨hr, hs⟩ := fitS_eq h
  have e0 : (⟨#[112, 105, 99, 107]⟩ : ByteArray).size = 4 := rfl
  have e1 : (⟨#[32]⟩ : ByteArray).size = 1 := rfl
  have e2 : (⟨#[59]⟩ : ByteArray).size = 1 := rfl
  simp only [lineName, app_size, e0, e1, e2] at hs
  have k1 := no_big (show 4 + 1 ≤ _ from by omega)
  have k2 := no_big (show 4 + 1 + a.size ≤ _ from by omega)
  have k3 := no_big (show 4 + 1 + a.size + 1 ≤ _ from by omega)
  have k4 := no_big (show 4 + 1 + a.size + 1 + x2.size ≤ _ from by omega)
  have k5 := no_big (show 4 + 1 + a.size + 1 + x2.size + x3.size ≤ _ from by omega)
  have k6 := no_big (show 4 + 1 + a.size + 1 + x2.size + x3.size + 1 ≤ _ from by omega)
  have k7 := no_big (show 5 + a.size ≤ _ from by omega)
  have k8 := no_big (show 5 + a.size + 1 ≤ _ from by omega)
  have k9 := no_big (show 5 + a.size + 1 + x2.size ≤ _ from by omega)
  have k10 := no_big (show 5 + a.size + 1 + x2.size + x3.size ≤ _ from by omega)
  have k11 := no_big (show 5 + a.size + 1 + x2.size + x3.size + 1 ≤ _ from by omega)
  subst hr
  clear h hs e0 e1 e2
  have HA := Aside0.mk ha
  clear ha
  obtain ⟨ad, cc, hw⟩ := word_at HG.out.1 3 (by decide) (by decide)
  have HW := Aside0.mk (show WordAt w ad cc 3 ⟨#[112, 105, 99, 107]⟩ from hw)
  clear hw
  go_enter Tryd.func35, Tryd.ntmps35
  go_wp2_with fail
  go_region_held3 (fun W' => W'.cell? ⟨0, 0, none⟩ = some (.slice (some ad) 9 cc) ∧ W'.cell? ⟨ad.block, ad.off + 3, none⟩ = some (.string ⟨#[112, 105, 99, 107]⟩) ∧ W'.cell? ⟨w.heap.size, 0, none⟩ = some (.int .i64 3) ∧ W'.cell? ⟨w.heap.size, 1, none⟩ = some (.int .i64 x1) ∧ W'.cell? ⟨w.heap.size, 2, none⟩ = some (.string x2) ∧ W'.cell? ⟨w.heap.size, 3, none⟩ = some (.string x3) ∧ W'.cell? ⟨w.heap.size, 4, none⟩ = some (.int .i64 x4) ∧ W'.cell? ⟨w.heap.size, 5, none⟩ = some (.int .i64 q0) ∧ W'.cell? ⟨w.heap.size, 6, none⟩ = some (.int .i64 q1) ∧ W'.cell? ⟨w.heap.size, 7, none⟩ = some (.int .i64 q2) ∧ W'.cell? ⟨w.heap.size, 8, none⟩ = some (.int .i64 p0) ∧ W'.cell? ⟨w.heap.size, 9, none⟩ = some (.int .i64 p1) ∧ W'.cell? ⟨w.heap.size, 10, none⟩ = some (.int .i64 p2) ∧ W'.cell? ⟨w.heap.size, 11, none⟩ = some v ∧ W'.cell? ⟨w.heap.size, 12, none⟩ = some (.int .i64 x7)) (with_reducible first | exact name_held HH.out HB.out HW.out | exact name_held (blk_drew HH.out) (below_drew1 HB.out) HW.out) (first | (go_at_call 52; (with_reducible refine (Itoa_calls x1 _ _ HA.out (HG.out.below (by first | exact HB.out | exact below_drew1 HB.out))).mono ?_); rintro e w1 ⟨rfl, hb⟩; have HH1 := Aside0.mk (blk_below (by first | exact HH.out | exact blk_drew HH.out) hb); have HB1 := Aside0.mk (below_step (by first | exact HB.out | exact below_drew1 HB.out) hb); clear hb HH HB; have HH := HH1; have HB := HB1; clear HH1 HB1))
  go_wp2_with fail
  go_ret
  exact ⟨rfl, HB.out⟩
set_option maxHeartbeats 2000000 in
set_option maxRecDepth 100000 in
theorem line_put (x1 : Int) (x2 x3 : ByteArray) (x4 q0 q1 q2 p0 p1 p2 : Int) (x6 : List S55) (x7 : Int) (a : ByteArray) (r : ByteArray) (v : Value) (w : World) (ha : itoaS x1 = some a) (h : fitS (lineName ⟨#[112, 117, 116]⟩ a x2 x3) = some r) (hG : Glob w) : Calls Tryd.prog 35 #[.agg (stmC ⟨4, x1, x2, x3, x4, ⟨⟨q0, q1, q2⟩, ⟨p0, p1, p2⟩⟩, x6, x7⟩ v)] w fun e w' => e = .returned (.string r) ∧ Below w.heap.size w w' := by
  have hu55 := Tryd.underlying55
  have HG := Aside0.mk hG
  clear hG
  have HH := Aside0.mk (heap_alloc_new w (.cells (stmC (⟨4, x1, x2, x3, x4, ⟨⟨q0, q1, q2⟩, ⟨p0, p1, p2⟩⟩, x6, x7⟩ : S55) v) 55))
  have HB := Aside0.mk (below_alloc (Below.refl w.heap.size w) (.cells (stmC (⟨4, x1, x2, x3, x4, ⟨⟨q0, q1, q2⟩, ⟨p0, p1, p2⟩⟩, x6, x7⟩ : S55) v) 55))
  have hz := row_held HH.out
  simp only at hz
  go_split_ands
  obtain ⟨hr, hs⟩ := fitS_eq h
  have e0 : (⟨#[112, 117, 116]⟩ : ByteArray).size = 3 := rfl
  have e1 : (⟨#[32]⟩ : ByteArray).size = 1 := rfl
  have e2 : (⟨#[59]⟩ : ByteArray).size = 1 := rfl
  simp only [lineName, app_size, e0, e1, e2] at hs
  have k1 := no_big (show 3 + 1 ≤ _ from by omega)
  have k2 := no_big (show 3 + 1 + a.size ≤ _ from by omega)
  have k3 := no_big (show 3 + 1 + a.size + 1 ≤ _ from by omega)
  have k4 := no_big (show 3 + 1 + a.size + 1 + x2.size ≤ _ from by omega)
  have k5 := no_big (show 3 + 1 + a.size + 1 + x2.size + x3.size ≤ _ from by omega)
  have k6 := no_big (show 3 + 1 + a.size + 1 + x2.size + x3.size + 1 ≤ _ from by omega)
  have k7 := no_big (show 4 + a.size ≤ _ from by omega)
  have k8 := no_big (show 4 + a.size + 1 ≤ _ from by omega)
  have k9 := no_big (show 4 + a.size + 1 + x2.size ≤ _ from by omega)
  have k10 := no_big (show 4 + a.size + 1 + x2.size + x3.size ≤ _ from by omega)
  have k11 := no_big (show 4 + a.size + 1 + x2.size + x3.size + 1 ≤ _ from by omega)
  subst hr
  clear h hs e0 e1 e2
  have HA := Aside0.mk ha
  clear ha
  obtain ⟨ad, cc, hw⟩ := word_at HG.out.1 4 (by decide) (by decide)
  have HW := Aside0.mk (show WordAt w ad cc 4 ⟨#[112, 117, 116]⟩ from hw)
  clear hw
  go_enter Tryd.func35, Tryd.ntmps35
  go_wp2_with fail
  first
  | go_region_held3 (fun W' => W'.cell? ⟨0, 0, none⟩ = some (.slice (some ad) 9 cc) ∧ W'.cell? ⟨ad.block, ad.off + 4, none⟩ = some (.string ⟨#[112, 117, 116]⟩) ∧ W'.cell? ⟨w.heap.size, 0, none⟩ = some (.int .i64 4) ∧ W'.cell? ⟨w.heap.size, 1, none⟩ = some (.int .i64 x1) ∧ W'.cell? ⟨w.heap.size, 2, none⟩ = some (.string x2) ∧ W'.cell? ⟨w.heap.size, 3, none⟩ = some (.string x3) ∧ W'.cell? ⟨w.heap.size, 4, none⟩ = some (.int .i64 x4) ∧ W'.cell? ⟨w.heap.size, 5, none⟩ = some (.int .i64 q0) ∧ W'.cell? ⟨w.heap.size, 6, none⟩ = some (.int .i64 q1) ∧ W'.cell? ⟨w.heap.size, 7, none⟩ = some (.int .i64 q2) ∧ W'.cell? ⟨w.heap.size, 8, none⟩ = some (.int .i64 p0) ∧ W'.cell? ⟨w.heap.size, 9, none⟩ = some (.int .i64 p1) ∧ W'.cell? ⟨w.heap.size, 10, none⟩ = some (.int .i64 p2) ∧ W'.cell? ⟨w.heap.size, 11, none⟩ = some v ∧ W'.cell? ⟨w.heap.size, 12, none⟩ = some (.int .i64 x7)) (with_reducible first | exact name_held HH.out HB.out HW.out | exact name_held (blk_drew HH.out) (below_drew1 HB.out) HW.out) (first | (go_at_call 52; (with_reducible refine (Itoa_calls x1 _ _ HA.out (HG.out.below (by first | exact HB.out | exact below_drew1 HB.out))).mono ?_); rintro e w1 ⟨rfl, hb⟩; have HH1 := Aside0.mk (blk_below (by first | exact HH.out | exact blk_drew HH.out) hb); have HB1 := Aside0.mk (below_step (by first | exact HB.out | exact below_drew1 HB.out) hb); clear hb HH HB; have HH := HH1; have HB := HB1; clear HH1 HB1))
  | fail "held3"
  go_wp2_with fail
  go_ret
  exact ⟨rfl, HB.out⟩
set_option maxHeartbeats 2000000 in
set_option maxRecDepth 100000 in
theorem line_hand (x1 : Int) (x2 x3 : ByteArray) (x4 q0 q1 q2 p0 p1 p2 : Int) (x6 : List S55) (x7 : Int) (a : ByteArray) (r : ByteArray) (v : Value) (w : World) (ha : itoaS x1 = some a) (h : fitS (lineName ⟨#[104, 97, 110, 100]⟩ a x2 x3) = some r) (hG : Glob w) : Calls Tryd.prog 35 #[.agg (stmC ⟨5, x1, x2, x3, x4, ⟨⟨q0, q1, q2⟩, ⟨p0, p1, p2⟩⟩, x6, x7⟩ v)] w fun e w' => e = .returned (.string r) ∧ Below w.heap.size w w' := by
  have hu55 := Tryd.underlying55
  have HG := Aside0.mk hG
  clear hG
  have HH := Aside0.mk (heap_alloc_new w (.cells (stmC (⟨5, x1, x2, x3, x4, ⟨⟨q0, q1, q2⟩, ⟨p0, p1, p2⟩⟩, x6, x7⟩ : S55) v) 55))
  have HB := Aside0.mk (below_alloc (Below.refl w.heap.size w) (.cells (stmC (⟨5, x1, x2, x3, x4, ⟨⟨q0, q1, q2⟩, ⟨p0, p1, p2⟩⟩, x6, x7⟩ : S55) v) 55))
  have hz := row_held HH.out
  simp only at hz
  go_split_ands
  obtain ⟨hr, hs⟩ := fitS_eq h
  have e0 : (⟨#[104, 97, 110, 100]⟩ : ByteArray).size = 4 := rfl
  have e1 : (⟨#[32]⟩ : ByteArray).size = 1 := rfl
  have e2 : (⟨#[59]⟩ : ByteArray).size = 1 := rfl
  simp only [lineName, app_size, e0, e1, e2] at hs
  have k1 := no_big (show 4 + 1 ≤ _ from by omega)
  have k2 := no_big (show 4 + 1 + a.size ≤ _ from by omega)
  have k3 := no_big (show 4 + 1 + a.size + 1 ≤ _ from by omega)
  have k4 := no_big (show 4 + 1 + a.size + 1 + x2.size ≤ _ from by omega)
  have k5 := no_big (show 4 + 1 + a.size + 1 + x2.size + x3.size ≤ _ from by omega)
  have k6 := no_big (show 4 + 1 + a.size + 1 + x2.size + x3.size + 1 ≤ _ from by omega)
  have k7 := no_big (show 5 + a.size ≤ _ from by omega)
  have k8 := no_big (show 5 + a.size + 1 ≤ _ from by omega)
  have k9 := no_big (show 5 + a.size + 1 + x2.size ≤ _ from by omega)
  have k10 := no_big (show 5 + a.size + 1 + x2.size + x3.size ≤ _ from by omega)
  have k11 := no_big (show 5 + a.size + 1 + x2.size + x3.size + 1 ≤ _ from by omega)
  subst hr
  clear h hs e0 e1 e2
  have HA := Aside0.mk ha
  clear ha
  obtain ⟨ad, cc, hw⟩ := word_at HG.out.1 5 (by decide) (by decide)
  have HW := Aside0.mk (show WordAt w ad cc 5 ⟨#[104, 97, 110, 100]⟩ from hw)
  clear hw
  go_enter Tryd.func35, Tryd.ntmps35
  go_wp2_with fail
  first
  | go_region_held3 (fun W' => W'.cell? ⟨0, 0, none⟩ = some (.slice (some ad) 9 cc) ∧ W'.cell? ⟨ad.block, ad.off + 5, none⟩ = some (.string ⟨#[104, 97, 110, 100]⟩) ∧ W'.cell? ⟨w.heap.size, 0, none⟩ = some (.int .i64 5) ∧ W'.cell? ⟨w.heap.size, 1, none⟩ = some (.int .i64 x1) ∧ W'.cell? ⟨w.heap.size, 2, none⟩ = some (.string x2) ∧ W'.cell? ⟨w.heap.size, 3, none⟩ = some (.string x3) ∧ W'.cell? ⟨w.heap.size, 4, none⟩ = some (.int .i64 x4) ∧ W'.cell? ⟨w.heap.size, 5, none⟩ = some (.int .i64 q0) ∧ W'.cell? ⟨w.heap.size, 6, none⟩ = some (.int .i64 q1) ∧ W'.cell? ⟨w.heap.size, 7, none⟩ = some (.int .i64 q2) ∧ W'.cell? ⟨w.heap.size, 8, none⟩ = some (.int .i64 p0) ∧ W'.cell? ⟨w.heap.size, 9, none⟩ = some (.int .i64 p1) ∧ W'.cell? ⟨w.heap.size, 10, none⟩ = some (.int .i64 p2) ∧ W'.cell? ⟨w.heap.size, 11, none⟩ = some v ∧ W'.cell? ⟨w.heap.size, 12, none⟩ = some (.int .i64 x7)) (with_reducible first | exact name_held HH.out HB.out HW.out | exact name_held (blk_drew HH.out) (below_drew1 HB.out) HW.out) (first | (go_at_call 52; (with_reducible refine (Itoa_calls x1 _ _ HA.out (HG.out.below (by first | exact HB.out | exact below_drew1 HB.out))).mono ?_); rintro e w1 ⟨rfl, hb⟩; have HH1 := Aside0.mk (blk_below (by first | exact HH.out | exact blk_drew HH.out) hb); have HB1 := Aside0.mk (below_step (by first | exact HB.out | exact below_drew1 HB.out) hb); clear hb HH HB; have HH := HH1; have HB := HB1; clear HH1 HB1))
  | fail "held3"
  go_wp2_with fail
  go_ret
  exact ⟨rfl, HB.out⟩
end Go.Proofs.YtonhcfecfifghaaDoor.PPx
namespace Go.Proofs.YtonhcfecfifghaaDoor.PPx
open Go.RowKit Go.Proofs.YtonhcfecfifghaaDoorW.PrintWords Go.Proofs.YtonhcfecfifghaaDoorW.PrintLast Go.Proofs.YtonhcfecfifghaaDoorW.PrintMore
set_option linter.unusedVariables false
set_option linter.unusedSimpArgs false
theorem line_calls (x : S55) (v : Value) (r : ByteArray) (w : World) (h : lineF x = some r) (hG : Glob w) : Calls Tryd.prog 35 #[.agg (stmC x v)] w fun e w' => e = .returned (.string r) ∧ Below w.heap.size w w' := by
  obtain ⟨x0, x1, x2, x3, x4, ⟨⟨q0, q1, q2⟩, ⟨p0, p1, p2⟩⟩, x6, x7⟩ := x
  unfold lineF at h
  simp only at h
  split at h
  · rename_i e; subst e
    split at h
    · rename_i e; subst e
      obtain ⟨a, ha, h⟩ := Option.bind_eq_some_iff.1 h
      obtain ⟨t, ht, h⟩ := Option.bind_eq_some_iff.1 h
      exact line_go0 x2 x3 x4 q0 q1 q2 p0 p1 p2 x6 x7 a t r v w ha ht h hG
    · split at h
      · rename_i e; subst e
        obtain ⟨a, ha, h⟩ := Option.bind_eq_some_iff.1 h
        obtain ⟨t, ht, h⟩ := Option.bind_eq_some_iff.1 h
        exact line_go1 x2 x3 x4 q0 q1 q2 p0 p1 p2 x6 x7 a t r v w ha ht h hG
      · simp at h
  · split at h
    · rename_i e; subst e
      obtain ⟨a, ha, h⟩ := Option.bind_eq_some_iff.1 h
      exact line_home x1 x2 x3 x4 q0 q1 q2 p0 p1 p2 x6 x7 a r v w ha h hG
    · split at h
      · rename_i e; subst e
        obtain ⟨a, ha, h⟩ := Option.bind_eq_some_iff.1 h
        exact line_wait x1 x2 x3 x4 q0 q1 q2 p0 p1 p2 x6 x7 a r v w ha h hG
      · split at h
        · rename_i e; subst e
          exact line_when x1 x2 x3 x4 q0 q1 q2 p0 p1 p2 x6 x7 r v w h hG
        · split at h
          · rename_i e; subst e
            obtain ⟨t, ht, h⟩ := Option.bind_eq_some_iff.1 h
            obtain ⟨u, hu, h⟩ := Option.bind_eq_some_iff.1 h
            exact line_both x1 x2 x3 x4 q0 q1 q2 p0 p1 p2 x6 x7 t u r v w ht hu h hG
          · split at h
            · rename_i e
              obtain ⟨a, ha, h⟩ := Option.bind_eq_some_iff.1 h
              rcases e with e | e | e <;> subst e
              · exact line_pick x1 x2 x3 x4 q0 q1 q2 p0 p1 p2 x6 x7 a r v w ha h hG
              · exact line_put x1 x2 x3 x4 q0 q1 q2 p0 p1 p2 x6 x7 a r v w ha h hG
              · exact line_hand x1 x2 x3 x4 q0 q1 q2 p0 p1 p2 x6 x7 a r v w ha h hG
            · simp at h
/-- what the kids of a statement write -/
def kidsW (rec : ByteArray → List S55 → Option ByteArray) (ins : ByteArray) (x : S55) : Option ByteArray :=
  if x.f0 = 7 then (rec (ins ++ ⟨#[32, 32]⟩) x.f6).bind fun t => some (t ++ (ins ++ ⟨#[125, 10]⟩)) else some ⟨#[]⟩
/-- what written writes -/
def writtenL (rec : ByteArray → List S55 → Option ByteArray) (ins : ByteArray) : List S55 → Option ByteArray
  | [] => some ⟨#[]⟩
  | x :: l => (lineF x).bind fun s => (kidsW rec ins x).bind fun t => (writtenL rec ins l).bind fun u => some ((((ins ++ s) ++ ⟨#[10]⟩) ++ t) ++ u)
def writtenF : Nat → ByteArray → List S55 → Option ByteArray
  | 0 => fun _ _ => none
  | k + 1 => writtenL (writtenF k)
theorem kids_le {r1 r2 : ByteArray → List S55 → Option ByteArray} (h : ∀ i l, LeO (r1 i l) (r2 i l)) (ins : ByteArray) (x : S55) : LeO (kidsW r1 ins x) (kidsW r2 ins x) := by
  unfold kidsW
  exact LeO.ite (LeO.bind (h _ _) fun _ => LeO.refl _) (LeO.refl _)
theorem writtenL_le {r1 r2 : ByteArray → List S55 → Option ByteArray} (h : ∀ i l, LeO (r1 i l) (r2 i l)) (ins : ByteArray) : ∀ l, LeO (writtenL r1 ins l) (writtenL r2 ins l)
  | [] => LeO.refl _
  | x :: l => LeO.bind (LeO.refl _) fun _ => LeO.bind (kids_le h ins x) fun _ => LeO.bind (writtenL_le h ins l) fun _ => LeO.refl _
theorem written_le : ∀ (k : Nat) (ins : ByteArray) (l : List S55), LeO (writtenF k ins l) (writtenF (k + 1) ins l)
  | 0, ins, l => fun r h => by simp [writtenF] at h
  | k + 1, ins, l => writtenL_le (written_le k) ins l
theorem bldAt_below {B b : Nat} {p : Value} {bs : List Value} {W W' : World} (h : Lib.BuilderAtF 63 5 B b p bs W) (hb : Below W.heap.size W W') : Lib.BuilderAtF 63 5 B b p bs W' := by
  have hlt := h.lt
  obtain ⟨hB, v, hv, hown, hne⟩ := h
  exact ⟨hB, v, (hb.block b hlt).trans hv, hown.kept (row := none) ⟨hb.os, hb.tape, hb.output, hb.size, fun k hk _ => hb.block k hk⟩ (Classical.em _), hne⟩
theorem bld_below {B b : Nat} {bs : List Value} {W W' : World} (h : Lib.IsBuilderF 63 5 B b bs W) (hb : Below W.heap.size W W') : Lib.IsBuilderF 63 5 B b bs W' :=
  h.elim (fun x => .inl (bldAt_below x hb)) (fun x => .inr (bldAt_below x hb))
theorem bld_lt {B b : Nat} {bs : List Value} {W : World} (h : Lib.IsBuilderF 63 5 B b bs W) : b < W.heap.size := h.elim (fun x => x.lt) (fun x => x.lt)
theorem kept_of_below {w w' : World} {b : Nat} (h : Below w.heap.size w w') : Lib.OthersKept 5 (some b) w w' := fun k o hk _ _ => (h.block k ((Array.getElem?_eq_some_iff.1 hk).1)).trans hk
theorem strCells_append (x y : ByteArray) : Lib.strCells (x ++ y) = Lib.strCells x ++ Lib.strCells y := by
  simp [Lib.strCells, ByteArray.data_append, Array.toList_append]
theorem strCells_empty : Lib.strCells ⟨#[]⟩ = [] := rfl
/-- the contract of written, in a world above w0, in which the statements lie -/
abbrev WrC (w0 : World) (b : Nat) (rec : ByteArray → List S55 → Option ByteArray) : Prop := ∀ (A : Option Addr) (c : Nat) (l : List S55) (ins : ByteArray) (bs : List Value) (out : ByteArray) (W : World), Kd.C k55 w0 A l.length l → l.length ≤ c → Below w0.heap.size w0 W → Lib.IsBuilderF 63 5 w0.heap.size b bs W → rec ins l = some out → bs.length + out.size ≤ 140737488355328 →
  Calls Tryd.prog 23 #[.pointer (some ⟨b, 0, none⟩), .slice A l.length c, .string ins] W fun e w' => e = .returned (.tuple #[]) ∧ Lib.IsBuilderF 63 5 w0.heap.size b (bs ++ Lib.strCells out) w' ∧ Below w0.heap.size w0 w' ∧ Lib.OthersKept 5 (some b) W w'
theorem kept_blk {w w' : World} {b g : Nat} {cs : Array Value} (h : Lib.OthersKept 5 (some b) w w') (hg : w.heap[g]? = some (.cells cs 55 (0, 0))) (hb : g ≠ b) : w'.heap[g]? = some (.cells cs 55 (0, 0)) :=
  h g _ hg (fun e => hb (Option.some.inj e)) (fun c fz e => by simp at e)
set_option maxHeartbeats 2000000 in
set_option maxRecDepth 100000 in
theorem written_step (w0 : World) (hG : Glob w0) (b : Nat) (rec : ByteArray → List S55 → Option ByteArray) (HE : Aside0 (WrC w0 b rec)) : WrC w0 b (writtenL rec) := by
  intro A c l ins bs out W hC hc hB hI hrun hlen
  have hu55 := Tryd.underlying55
  have HG := Aside0.mk hG
  have HC := Aside0.mk hC
  have HB := Aside0.mk hB
  have HI := Aside0.mk hI
  have HR := Aside0.mk hrun
  have HL := Aside0.mk hlen
  have hm := Kd.C_max hC
  clear hG hC hB hI hrun hlen
  go_enter Tryd.func23, Tryd.ntmps23
  go_wp2_with fail
  go_loopg [10] l.length (fun kq v10 wr => ∃ (i : Nat) (bs' : List Value) (o' : ByteArray), v10 = .int .i64 i ∧ Aside0 (i + kq = l.length ∧ writtenL rec ins (l.drop i) = some o' ∧ bs' ++ Lib.strCells o' = bs ++ Lib.strCells out ∧ Lib.IsBuilderF 63 5 w0.heap.size b bs' wr ∧ Below w0.heap.size w0 wr ∧ Lib.OthersKept 5 (some b) W wr))
  case atStart => exact ⟨0, bs, out, rfl, ⟨by omega, by simpa using HR.out, rfl, HI.out, HB.out, Lib.OthersKept.refl _ _ _⟩⟩
  case round =>
    clear HR HI HB
    obtain ⟨i, bs', o', rfl, ⟨hk, hs, he, hi1, hb, ho⟩⟩ := hrel
    have HS := Aside0.mk hs
    have HEq := Aside0.mk he
    have HI := Aside0.mk hi1
    have HB := Aside0.mk hb
    have HO := Aside0.mk ho
    clear hs he hi1 hb ho
    rcases gk with _ | k1
    · have hi : i = l.length := by omega
      have ho : o' = ⟨#[]⟩ := by have := HS.out; rw [hi, List.drop_length] at this; simpa [writtenL] using this.symm
      have hlt : decide ((i : Int) < (l.length : Int)) = false := by simp [hi]
      have HE2 := Aside0.mk (show bs' = bs ++ Lib.strCells out from by have := HEq.out; rw [ho, strCells_empty, List.append_nil] at this; exact this)
      clear ho HEq HS
      go_wp2_with fail
      go_end0
      exact ⟨rfl, HE2.out ▸ HI.out, HB.out, HO.out⟩
    · have hi : i < l.length := by omega
      have hlt : decide ((i : Int) < (l.length : Int)) = true := by simp [hi]
      have hp : (0 ≤ (i : Int)) := by omega
      have hq0 : (i : Int) < (l.length : Int) := by omega
      obtain ⟨ad, Ax, cx, ex, x0, x1, x2, x3, x4, x5, x6, x7, x8, x9, x10, x11, x12, hlx, hCx⟩ := at_T55 HC.out i hp hq0
      cases ex
      have HS1 := HS.out
      rw [drop_rd l i hi] at HS1
      simp only [writtenL] at HS1
      obtain ⟨s, hs, h1⟩ := Option.bind_eq_some_iff.1 HS1
      obtain ⟨t, ht, h2⟩ := Option.bind_eq_some_iff.1 h1
      obtain ⟨u, hu, h3⟩ := Option.bind_eq_some_iff.1 h2
      have ho := Option.some.inj h3
      have HLi := Aside0.mk hs
      have HKi := Aside0.mk ht
      have HRe := Aside0.mk hu
      have HCX := Aside0.mk hCx
      have HOo := Aside0.mk ho
      generalize rd_T55 l (i : Int) = X at *
      clear HS HS1 hs ht hu hCx h1 h2 h3 ho
      simp only [Int.toNat_natCast] at x0 x1 x2 x3 x4 x5 x6 x7 x8 x9 x10 x11 x12
      have y0 := (World.cell?_of_block (HB.out.block _ (cell_lt x0))).trans x0
      have y1 := (World.cell?_of_block (HB.out.block _ (cell_lt x1))).trans x1
      have y2 := (World.cell?_of_block (HB.out.block _ (cell_lt x2))).trans x2
      have y3 := (World.cell?_of_block (HB.out.block _ (cell_lt x3))).trans x3
      have y4 := (World.cell?_of_block (HB.out.block _ (cell_lt x4))).trans x4
      have y5 := (World.cell?_of_block (HB.out.block _ (cell_lt x5))).trans x5
      have y6 := (World.cell?_of_block (HB.out.block _ (cell_lt x6))).trans x6
      have y7 := (World.cell?_of_block (HB.out.block _ (cell_lt x7))).trans x7
      have y8 := (World.cell?_of_block (HB.out.block _ (cell_lt x8))).trans x8
      have y9 := (World.cell?_of_block (HB.out.block _ (cell_lt x9))).trans x9
      have y10 := (World.cell?_of_block (HB.out.block _ (cell_lt x10))).trans x10
      have y11 := (World.cell?_of_block (HB.out.block _ (cell_lt x11))).trans x11
      have y12 := (World.cell?_of_block (HB.out.block _ (cell_lt x12))).trans x12
      clear x0 x1 x2 x3 x4 x5 x6 x7 x8 x9 x10 x11 x12
      replace hp := eq_true hp
      replace hq0 := eq_true hq0
      have HXR := Aside0.mk (heap_alloc_new wr (.cells (stmC X (.slice Ax X.f6.length cx)) 55))
      have HBa := Aside0.mk (below_alloc HB.out (.cells (stmC X (.slice Ax X.f6.length cx)) 55))
      have hbw := below_alloc (Below.refl wr.heap.size wr) (.cells (stmC X (.slice Ax X.f6.length cx)) 55)
      have HIa := Aside0.mk (bld_below HI.out hbw)
      have HOa := Aside0.mk (HO.out.trans (kept_of_below hbw))
      have HNb := Aside0.mk (Nat.ne_of_gt (bld_lt HI.out))
      have hsz := congrArg List.length HEq.out
      have hLen := HL.out
      simp only [List.length_append, Lib.strCells_length] at hsz
      have hso := HOo.out
      have hsz2 := congrArg ByteArray.size hso
      have e1 : (⟨#[10]⟩ : ByteArray).size = 1 := rfl
      simp only [app_size, e1] at hsz2
      have kk1 := no_big (show ins.size + s.size ≤ _ from by omega)
      have kk2 := no_big (show ins.size + s.size + 1 ≤ _ from by omega)
      have kl : bs'.length + ((ins ++ s) ++ ⟨#[10]⟩ : ByteArray).size ≤ 140737488355328 := by simp only [app_size, e1]; omega
      have HLen := Aside0.mk hLen
      have HS2 := Aside0.mk hsz
      have HS3 := Aside0.mk hsz2
      have HKl := Aside0.mk kl
      clear hsz hLen hso hsz2 e1 hbw kl HO HI
      have HLine := Aside0.mk (fun (W : World) (g : Glob W) => line_calls X (.slice Ax X.f6.length cx) s W HLi.out g)
      clear HLi
      simp only [stmC] at HXR HBa HIa HOa HLine
      by_cases h7 : X.f0 = 7
      · have hb7 : (X.f0 == 7) = true := by simpa using h7
        have hk7 : ((rec (ins ++ ⟨#[32, 32]⟩) X.f6).bind fun t => some (t ++ (ins ++ ⟨#[125, 10]⟩))) = some t := by have := HKi.out; unfold kidsW at this; rw [if_pos h7] at this; exact this
        obtain ⟨t', ht', hte⟩ := Option.bind_eq_some_iff.1 hk7
        have HRk := Aside0.mk ht'
        have HTe := Aside0.mk (Option.some.inj hte)
        have e2 : (⟨#[125, 10]⟩ : ByteArray).size = 2 := rfl
        have e3 : (⟨#[10]⟩ : ByteArray).size = 1 := rfl
        have hz1 := congrArg ByteArray.size HTe.out
        simp only [app_size, e2] at hz1
        have hz2 := HS2.out
        have hz3 := HS3.out
        have hz4 := HLen.out
        have kk3 := no_big (show ins.size + 2 ≤ _ from by omega)
        have kb1 : (bs' ++ Lib.strCells ((ins ++ s) ++ ⟨#[10]⟩ : ByteArray)).length + t'.size ≤ 140737488355328 := by simp only [List.length_append, Lib.strCells_length, app_size, e3]; omega
        have kb2 : ((bs' ++ Lib.strCells ((ins ++ s) ++ ⟨#[10]⟩ : ByteArray)) ++ Lib.strCells t').length + (ins ++ ⟨#[125, 10]⟩ : ByteArray).size ≤ 140737488355328 := by simp only [List.length_append, Lib.strCells_length, app_size, e2, e3]; omega
        have HKb1 := Aside0.mk kb1
        have HKb2 := Aside0.mk kb2
        clear HKi h7 hk7 ht' hte e2 e3 hz1 hz2 hz3 hz4 kb1 kb2
        go_wp2_with fail
        (with_reducible refine (HLine.out _ (HG.out.below HBa.out)).mono ?_)
        rintro e w1 ⟨rfl, hb⟩
        have HB1 := Aside0.mk (below_step HBa.out hb)
        have HI1 := Aside0.mk (bld_below HIa.out hb)
        have HO1 := Aside0.mk (HOa.out.trans (kept_of_below hb))
        have HX1 := Aside0.mk (blk_below HXR.out hb)
        clear hb HBa HIa HOa HXR HLine y0 y1 y2 y3 y4 y5 y6 y7 y8 y9 y10 y11 y12
        go_wp2_with fail
        (with_reducible refine (WriteString_calls w0.heap.size b bs' _ _ HI1.out HKl.out (below_size HB1.out)).mono ?_)
        rintro e w2 ⟨rfl, h1, h2, h3⟩
        have HB2 := Aside0.mk (HB1.out.trans h2)
        have HI2 := Aside0.mk (show Lib.IsBuilderF 63 5 w0.heap.size b (bs' ++ Lib.strCells ((ins ++ s) ++ ⟨#[10]⟩ : ByteArray)) w2 from .inr h1)
        have HO2 := Aside0.mk (HO1.out.trans h3)
        have HX2 := Aside0.mk (kept_blk h3 HX1.out HNb.out)
        clear h1 h2 h3 HB1 HI1 HO1 HX1
        have hz := row_held (x := X) (v := .slice Ax X.f6.length cx) HX2.out
        go_split_ands
        go_wp2_with fail
        (with_reducible refine (HE.out Ax cx X.f6 _ _ t' _ HCX.out hlx HB2.out HI2.out HRk.out HKb1.out).mono ?_)
        rintro e w3 ⟨rfl, h1, h2, h3⟩
        have HB3 := Aside0.mk h2
        have HI3 := Aside0.mk h1
        have HO3 := Aside0.mk (HO2.out.trans h3)
        clear h1 h2 h3 HB2 HI2 HO2
        go_wp2_with fail
        (with_reducible refine (WriteString_calls w0.heap.size b _ _ _ HI3.out HKb2.out (below_size HB3.out)).mono ?_)
        rintro e w4 ⟨rfl, h1, h2, h3⟩
        have HB4 := Aside0.mk (HB3.out.trans h2)
        have HI4 := Aside0.mk (show Lib.IsBuilderF 63 5 w0.heap.size b (((bs' ++ Lib.strCells ((ins ++ s) ++ ⟨#[10]⟩ : ByteArray)) ++ Lib.strCells t') ++ Lib.strCells (ins ++ ⟨#[125, 10]⟩ : ByteArray)) w4 from .inr h1)
        have HO4 := Aside0.mk (HO3.out.trans h3)
        clear h1 h2 h3 HB3 HI3 HO3
        go_wp2_with fail
        go_roundg k1
        case measure => omega
        case rel =>
          refine ⟨i + 1, _, u, by first | rfl | (simp; done), ⟨by omega, HRe.out, ?_, HI4.out, HB4.out, HO4.out⟩⟩
          rw [← HEq.out, ← HOo.out, ← HTe.out]
          simp only [strCells_append, strCells_empty, List.append_nil, List.append_assoc]
      · have hb7 : (X.f0 == 7) = false := by simpa using h7
        have HK7 := Aside0.mk (show (⟨#[]⟩ : ByteArray) = t from by have := HKi.out; unfold kidsW at this; rw [if_neg h7] at this; exact Option.some.inj this)
        clear HKi h7
        go_wp2_with fail
        (with_reducible refine (HLine.out _ (HG.out.below HBa.out)).mono ?_)
        rintro e w1 ⟨rfl, hb⟩
        have HB1 := Aside0.mk (below_step HBa.out hb)
        have HI1 := Aside0.mk (bld_below HIa.out hb)
        have HO1 := Aside0.mk (HOa.out.trans (kept_of_below hb))
        have HX1 := Aside0.mk (blk_below HXR.out hb)
        clear hb HBa HIa HOa HXR HLine y0 y1 y2 y3 y4 y5 y6 y7 y8 y9 y10 y11 y12
        go_wp2_with fail
        (with_reducible refine (WriteString_calls w0.heap.size b bs' _ _ HI1.out HKl.out (below_size HB1.out)).mono ?_)
        rintro e w2 ⟨rfl, h1, h2, h3⟩
        have HB2 := Aside0.mk (HB1.out.trans h2)
        have HI2 := Aside0.mk (show Lib.IsBuilderF 63 5 w0.heap.size b (bs' ++ Lib.strCells ((ins ++ s) ++ ⟨#[10]⟩ : ByteArray)) w2 from .inr h1)
        have HO2 := Aside0.mk (HO1.out.trans h3)
        have HX2 := Aside0.mk (kept_blk h3 HX1.out HNb.out)
        clear h1 h2 h3 HB1 HI1 HO1 HX1
        have hz := row_held (x := X) (v := .slice Ax X.f6.length cx) HX2.out
        go_split_ands
        go_wp2_with fail
        go_roundg k1
        case measure => omega
        case rel =>
          refine ⟨i + 1, _, u, by first | rfl | (simp; done), ⟨by omega, HRe.out, ?_, HI2.out, HB2.out, HO2.out⟩⟩
          rw [← HEq.out, ← HOo.out, ← HK7.out]
          simp only [strCells_append, strCells_empty, List.append_nil, List.append_assoc]
theorem written_calls (w0 : World) (hG : Glob w0) (b : Nat) : ∀ k, WrC w0 b (writtenF k)
  | 0 => fun A c l ins bs out W _ _ _ _ h => by simp [writtenF] at h
  | k + 1 => written_step w0 hG b (writtenF k) ⟨written_calls w0 hG b k⟩
/-- Format: what written writes from the margin on -/
def parser_Format.f (k : Nat) (l0 : List S55) : Option ByteArray := (writtenF k ⟨#[]⟩ l0).bind fun s => if s.size ≤ 140737488355328 then some s else none
theorem parser_Format.mono (l0 : List S55) (k : Nat) : LeO (parser_Format.f k l0) (parser_Format.f (k + 1) l0) := LeO.bind (written_le k _ l0) fun _ => LeO.refl _
set_option maxHeartbeats 1000000 in
set_option maxRecDepth 100000 in
theorem parser_Format.calls (k : Nat) (A0 : Option Addr) (c0 : Nat) (l0 : List S55) (r : ByteArray) (w : World) (hr0 : Kd.C k55 w A0 l0.length l0) (hc0 : l0.length ≤ c0) (h : parser_Format.f k l0 = some r) (hG : Glob w) :
    Calls Tryd.prog 13 #[.slice A0 l0.length c0] w fun e w' => e = .returned (.string r) ∧ Below w.heap.size w w' := by
  obtain ⟨s, hs, h2⟩ := Option.bind_eq_some_iff.1 h
  split at h2
  · rename_i hsz
    obtain rfl := Option.some.inj h2
    have HS := Aside0.mk hs
    have HC := Aside0.mk hr0
    have HG := Aside0.mk hG
    have HZ := Aside0.mk hsz
    have HB := Aside0.mk (below_alloc (Below.refl w.heap.size w) (.cells #[.pointer none, .slice none 0 0] 63))
    have HI : Aside0 (Lib.IsBuilderF 63 5 w.heap.size w.heap.size [] (w.alloc (.cells #[.pointer none, .slice none 0 0] 63))) :=
      ⟨.inl ⟨Nat.le_refl _, .slice none 0 0, heap_alloc_new w _, World.ownsRowF_of (World.ownsRow_nil _ _ _ _), by simp [Value.ownBlock]⟩⟩
    clear h h2 hs hr0 hG hsz
    go_enter Tryd.func13, Tryd.ntmps13
    go_wp2_with fail
    (with_reducible refine (written_calls w HG.out w.heap.size k A0 c0 l0 _ [] s _ HC.out hc0 HB.out HI.out HS.out (by simpa using HZ.out)).mono ?_)
    rintro e w1 ⟨rfl, h1, h2, h3⟩
    have HI1 := Aside0.mk h1
    have HB1 := Aside0.mk h2
    clear h1 h2 h3
    go_wp2_with fail
    refine (Tryd.Builder_String_any_k w.heap.size w.heap.size s.data.toList _ HI1.out (below_size HB1.out)).mono ?_
    rintro e w2 ⟨rfl, h1, h2, h3⟩
    have HB2 := Aside0.mk (HB1.out.trans h2)
    clear h1 h2 h3
    go_wp2_with fail
    go_ret
    exact ⟨rfl, HB2.out⟩
  · simp at h2
end Go.Proofs.YtonhcfecfifghaaDoor.PPx
namespace Go.Proofs.YtonhcfecfifghaaDoor.PPx
open Go.RowKit Go.Proofs.YtonhcfecfifghaaDoorW.PrintWords Go.Proofs.YtonhcfecfifghaaDoorW.PrintLast Go.Proofs.YtonhcfecfifghaaDoorW.PrintMore
set_option linter.unusedVariables false
def kt (ts : List S44) : List (Int × ByteArray) := ts.map fun t => (t.f0, t.f1)
theorem kt_append (a b : List S44) : kt (a ++ b) = kt a ++ kt b := by simp [kt]
theorem kt_moved (d : Int) (a : List S44) : kt (moved d a) = kt a := by simp [kt, moved]
def LexK (u : ByteArray) (hard : Bool) (ks : List (Int × ByteArray)) : Prop := ∃ ts, LexT u hard ts ∧ kt ts = ks
theorem LexK.append {u v : ByteArray} {a b : Bool} {ks ls : List (Int × ByteArray)} (h : LexK u a ks) (g : LexK v b ls) (hs : a = true → SoftHd v) : LexK (u ++ v) b (ks ++ ls) := by
  obtain ⟨ts, h1, h2⟩ := h
  obtain ⟨us, g1, g2⟩ := g
  exact ⟨_, h1.append g1 hs, by rw [kt_append, kt_moved, h2, g2]⟩
theorem LexK.soft {u v : ByteArray} {b : Bool} {ks ls : List (Int × ByteArray)} (h : LexK u false ks) (g : LexK v b ls) : LexK (u ++ v) b (ks ++ ls) := h.append g (fun e => by cases e)
theorem LexK.hard {u v : ByteArray} {b : Bool} {ks ls : List (Int × ByteArray)} (h : LexK u true ks) (g : LexK v b ls) (hs : SoftHd v) : LexK (u ++ v) b (ks ++ ls) := h.append g (fun _ => hs)
theorem LexK.tok {k : Int} {w : ByteArray} (h : TokText k w) : LexK w true [(k, w)] := ⟨_, LexT.tok h, rfl⟩
theorem LexK.blank {g : ByteArray} (h : Blank g) : LexK g false [] := ⟨_, LexT.blank h, rfl⟩
theorem LexK.sign {w : ByteArray} (h1 : w.size = 1) (h4 : at_ w 0 = 4) : LexK w false [(3, w)] := ⟨_, LexT.sign h1 h4, rfl⟩
theorem blank_one {c : UInt8} (h : cls c.toNat = 5) : Blank ⟨#[c]⟩ := by
  intro x h0 h1
  have h1' : x < 1 := h1
  obtain rfl : x = 0 := by omega
  exact h
theorem blank_append {a b : ByteArray} (ha : Blank a) (hb : Blank b) : Blank (a ++ b) := by
  intro x h0 h1
  rw [ByteArray.size_append] at h1
  by_cases hx : x < (a.size : Int)
  · have := ha x h0 hx
    rw [at_in (by omega)] at this
    rw [at_in (by rw [ByteArray.size_append]; omega), bt_left h0 hx]
    exact this
  · have := hb (x - a.size) (by omega) (by omega)
    rw [at_in (by omega)] at this
    rw [at_in (by rw [ByteArray.size_append]; omega), bt_right (by omega) (by omega)]
    exact this
def sp1 : ByteArray := ⟨#[32]⟩
def nl1 : ByteArray := ⟨#[10]⟩
def semi : ByteArray := ⟨#[59]⟩
def obr : ByteArray := ⟨#[123]⟩
def cbr : ByteArray := ⟨#[125]⟩
def opar : ByteArray := ⟨#[40]⟩
def cpar : ByteArray := ⟨#[41]⟩
def comma : ByteArray := ⟨#[44]⟩
theorem l_sp : LexK ⟨#[32]⟩ false [] := .blank (blank_one (by decide +kernel))
theorem l_nl : LexK ⟨#[10]⟩ false [] := .blank (blank_one (by decide +kernel))
theorem l_semi : LexK ⟨#[59]⟩ false [(3, semi)] := .sign rfl (by decide +kernel)
theorem l_opar : LexK ⟨#[40]⟩ false [(3, opar)] := .sign rfl (by decide +kernel)
theorem l_cpar : LexK ⟨#[41]⟩ false [(3, cpar)] := .sign rfl (by decide +kernel)
theorem l_comma : LexK ⟨#[44]⟩ false [(3, comma)] := .sign rfl (by decide +kernel)
theorem l_obr : LexK ⟨#[123]⟩ false [(3, obr)] := .sign rfl (by decide +kernel)
theorem l_cbr : LexK ⟨#[125]⟩ false [(3, cbr)] := .sign rfl (by decide +kernel)
theorem s_sp : SoftHd ⟨#[32]⟩ := ⟨by decide, by constructor <;> decide +kernel⟩
theorem s_semi : SoftHd ⟨#[59]⟩ := ⟨by decide, by constructor <;> decide +kernel⟩
theorem s_cpar : SoftHd ⟨#[41]⟩ := ⟨by decide, by constructor <;> decide +kernel⟩
theorem softHd_append {a b : ByteArray} (h : SoftHd a) : SoftHd (a ++ b) := by
  refine ⟨by rw [ByteArray.size_append]; have := h.1; omega, soft_at ?_ h.2⟩
  have h0 := h.1
  rw [at_in (by rw [ByteArray.size_append]; omega), at_in (by omega), bt_left (Int.le_refl _) (by omega)]
/-- a keyword -/
theorem kw_tok {w : ByteArray} (h : lexB w = ([⟨1, w, 0⟩], 0, 0)) (hs : w.size ≤ 20000) : LexK w true [(1, w)] := .tok (tok_of_lex h rfl hs)
def wGo : ByteArray := ⟨#[103, 111]⟩
def wHome : ByteArray := ⟨#[104, 111, 109, 101]⟩
def wPick : ByteArray := ⟨#[112, 105, 99, 107]⟩
def wPut : ByteArray := ⟨#[112, 117, 116]⟩
def wHand : ByteArray := ⟨#[104, 97, 110, 100]⟩
def wWait : ByteArray := ⟨#[119, 97, 105, 116]⟩
def wWhen : ByteArray := ⟨#[119, 104, 101, 110]⟩
def wBoth : ByteArray := ⟨#[98, 111, 116, 104]⟩
theorem k_go : LexK wGo true [(1, wGo)] := kw_tok (by kernel_rfl) (by decide)
theorem k_home : LexK wHome true [(1, wHome)] := kw_tok (by kernel_rfl) (by decide)
theorem k_pick : LexK wPick true [(1, wPick)] := kw_tok (by kernel_rfl) (by decide)
theorem k_put : LexK wPut true [(1, wPut)] := kw_tok (by kernel_rfl) (by decide)
theorem k_hand : LexK wHand true [(1, wHand)] := kw_tok (by kernel_rfl) (by decide)
theorem k_wait : LexK wWait true [(1, wWait)] := kw_tok (by kernel_rfl) (by decide)
theorem k_when : LexK wWhen true [(1, wWhen)] := kw_tok (by kernel_rfl) (by decide)
theorem k_both : LexK wBoth true [(1, wBoth)] := kw_tok (by kernel_rfl) (by decide)
def numB (n : Int) : ByteArray := ⟨(Lib.itoa n).toArray⟩
def Small (n : Int) : Prop := -1000000000 < n ∧ n < 1000000000
theorem l_num {n : Int} (h : Small n) : LexK (numB n) true [(2, numB n)] := .tok (itoa_tok h.1 h.2).1
theorem num_size {n : Int} (h : Small n) : (numB n).size ≤ 10 := by have := (itoa_tok h.1 h.2).2; unfold numB; rw [size_list]; exact this
theorem itoaS_small {n : Int} (h : Small n) : itoaS n = some (numB n) := by unfold itoaS; rw [if_pos ⟨by have := h.1; omega, by have := h.2; omega⟩]; rfl
def triK (q : S52) : List (Int × ByteArray) := [(3, opar), (2, numB q.f0), (3, comma), (2, numB q.f1), (3, comma), (2, numB q.f2), (3, cpar)]
def SmallQ (q : S52) : Prop := Small q.f0 ∧ Small q.f1 ∧ Small q.f2
def triB (q : S52) : ByteArray := tripleB (numB q.f0) (numB q.f1) (numB q.f2)
theorem l_commasp : LexK ⟨#[44, 32]⟩ false [(3, comma)] := by
  have := l_comma.soft l_sp
  exact this
theorem s_commasp : SoftHd ⟨#[44, 32]⟩ := ⟨by decide, by constructor <;> decide +kernel⟩
theorem l_tri {q : S52} (h : SmallQ q) : LexK (triB q) false (triK q) := by
  obtain ⟨h0, h1, h2⟩ := h
  exact ((((((l_opar.soft (l_num h0)).hard l_commasp s_commasp).soft (l_num h1)).hard l_commasp s_commasp).soft (l_num h2)).hard l_cpar s_cpar)
theorem tri_size {q : S52} (h : SmallQ q) : (triB q).size ≤ 36 := by
  have := num_size h.1; have := num_size h.2.1; have := num_size h.2.2
  have e1 : (⟨#[40]⟩ : ByteArray).size = 1 := rfl
  have e2 : (⟨#[44, 32]⟩ : ByteArray).size = 2 := rfl
  have e3 : (⟨#[41]⟩ : ByteArray).size = 1 := rfl
  simp only [triB, tripleB, app_size, e1, e2, e3]
  omega
theorem tripleF_small {q : S52} (h : SmallQ q) : tripleF q = some (triB q) := by
  unfold tripleF
  rw [itoaS_small h.1, itoaS_small h.2.1, itoaS_small h.2.2]
  simp only [Option.bind_some]
  unfold fitS
  rw [if_pos]
  · rfl
  · have := tri_size h; unfold triB at this; omega
end Go.Proofs.YtonhcfecfifghaaDoor.PPx
namespace Go.Proofs.YtonhcfecfifghaaDoor.PPx
open Go.RowKit Go.Proofs.YtonhcfecfifghaaDoorW.PrintWords Go.Proofs.YtonhcfecfifghaaDoorW.PrintLast Go.Proofs.YtonhcfecfifghaaDoorW.PrintMore
set_option linter.unusedVariables false
set_option linter.unusedSimpArgs false
attribute [local go_sem high] eqA35
mutual
def parser_count.l0 : Nat → Int → Int → List (S55) → Int → Int → Option (Int)
  | 0, _, _, _, _, _ => none
  | k + 1, x1, x5, x8, x9, x10 => if x10 < x9 then (if 0 ≤ x10 then (if x10 < (x8.length : Int) then (if (wrap64 (x5 + 1)) > 64 then (parser_count.j1 k x1 (wrap64 (x5 + 1)) x8 x9 x10 true ((rd_T55 x8 x10).f0) ((rd_T55 x8 x10).f1) ((rd_T55 x8 x10).f2) ((rd_T55 x8 x10).f3) ((rd_T55 x8 x10).f4) ((rd_T55 x8 x10).f5.f0.f0) ((rd_T55 x8 x10).f5.f0.f1) ((rd_T55 x8 x10).f5.f0.f2) ((rd_T55 x8 x10).f5.f1.f0) ((rd_T55 x8 x10).f5.f1.f1) ((rd_T55 x8 x10).f5.f1.f2) ((rd_T55 x8 x10).f6) ((rd_T55 x8 x10).f7)) else (if ((rd_T55 x8 x10).f0) = 7 then (if x1 = 4 then (parser_count.j1 k x1 (wrap64 (x5 + 1)) x8 x9 x10 true ((rd_T55 x8 x10).f0) ((rd_T55 x8 x10).f1) ((rd_T55 x8 x10).f2) ((rd_T55 x8 x10).f3) ((rd_T55 x8 x10).f4) ((rd_T55 x8 x10).f5.f0.f0) ((rd_T55 x8 x10).f5.f0.f1) ((rd_T55 x8 x10).f5.f0.f2) ((rd_T55 x8 x10).f5.f1.f0) ((rd_T55 x8 x10).f5.f1.f1) ((rd_T55 x8 x10).f5.f1.f2) ((rd_T55 x8 x10).f6) ((rd_T55 x8 x10).f7)) else ((parser_plain.f k ((rd_T55 x8 x10).f0) ((rd_T55 x8 x10).f1) ((rd_T55 x8 x10).f2) ((rd_T55 x8 x10).f3) ((rd_T55 x8 x10).f4) ((rd_T55 x8 x10).f5.f0.f0) ((rd_T55 x8 x10).f5.f0.f1) ((rd_T55 x8 x10).f5.f0.f2) ((rd_T55 x8 x10).f5.f1.f0) ((rd_T55 x8 x10).f5.f1.f1) ((rd_T55 x8 x10).f5.f1.f2) ((rd_T55 x8 x10).f6) ((rd_T55 x8 x10).f7)).bind fun t128 => (parser_count.j1 k x1 (wrap64 (x5 + 1)) x8 x9 x10 (!t128) ((rd_T55 x8 x10).f0) ((rd_T55 x8 x10).f1) ((rd_T55 x8 x10).f2) ((rd_T55 x8 x10).f3) ((rd_T55 x8 x10).f4) ((rd_T55 x8 x10).f5.f0.f0) ((rd_T55 x8 x10).f5.f0.f1) ((rd_T55 x8 x10).f5.f0.f2) ((rd_T55 x8 x10).f5.f1.f0) ((rd_T55 x8 x10).f5.f1.f1) ((rd_T55 x8 x10).f5.f1.f2) ((rd_T55 x8 x10).f6) ((rd_T55 x8 x10).f7)))) else ((parser_plain.f k ((rd_T55 x8 x10).f0) ((rd_T55 x8 x10).f1) ((rd_T55 x8 x10).f2) ((rd_T55 x8 x10).f3) ((rd_T55 x8 x10).f4) ((rd_T55 x8 x10).f5.f0.f0) ((rd_T55 x8 x10).f5.f0.f1) ((rd_T55 x8 x10).f5.f0.f2) ((rd_T55 x8 x10).f5.f1.f0) ((rd_T55 x8 x10).f5.f1.f1) ((rd_T55 x8 x10).f5.f1.f2) ((rd_T55 x8 x10).f6) ((rd_T55 x8 x10).f7)).bind fun t129 => (parser_count.j1 k x1 (wrap64 (x5 + 1)) x8 x9 x10 (!t129) ((rd_T55 x8 x10).f0) ((rd_T55 x8 x10).f1) ((rd_T55 x8 x10).f2) ((rd_T55 x8 x10).f3) ((rd_T55 x8 x10).f4) ((rd_T55 x8 x10).f5.f0.f0) ((rd_T55 x8 x10).f5.f0.f1) ((rd_T55 x8 x10).f5.f0.f2) ((rd_T55 x8 x10).f5.f1.f0) ((rd_T55 x8 x10).f5.f1.f1) ((rd_T55 x8 x10).f5.f1.f2) ((rd_T55 x8 x10).f6) ((rd_T55 x8 x10).f7))))) else (none)) else (none)) else (some x5)
def parser_count.j1 : Nat → Int → Int → List (S55) → Int → Int → Bool → Int → Int → ByteArray → ByteArray → Int → Int → Int → Int → Int → Int → Int → List (S55) → Int → Option (Int)
  | 0, _, _, _, _, _, _, _, _, _, _, _, _, _, _, _, _, _, _, _ => none
  | k + 1, x1, x5, x8, x9, x10, x31, x128000, x128001, x128002, x128003, x128004, x128005, x128006, x128007, x128008, x128009, x128010, x128011, x128012 => if x31 = true then (some 65) else (if x128000 = 7 then ((parser_count.f k x128011 (wrap64 (x1 + 1))).bind fun t130 => (parser_count.l0 k x1 (wrap64 (x5 + t130)) x8 x9 (wrap64 (x10 + 1)))) else (parser_count.l0 k x1 x5 x8 x9 (wrap64 (x10 + 1))))
def parser_count.f : Nat → List (S55) → Int → Option (Int)
  | 0, _, _ => none
  | k + 1, l0, a1 => parser_count.l0 k a1 0 l0 (l0.length : Int) 0
end
theorem parser_count.mono_l : ∀ k, (∀ y0 y1, LeO (parser_count.f k y0 y1) (parser_count.f (k + 1) y0 y1)) ∧ (∀ y0 y1 y2 y3 y4, LeO (parser_count.l0 k y0 y1 y2 y3 y4) (parser_count.l0 (k + 1) y0 y1 y2 y3 y4)) ∧ (∀ y0 y1 y2 y3 y4 y5 y6 y7 y8 y9 y10 y11 y12 y13 y14 y15 y16 y17 y18, LeO (parser_count.j1 k y0 y1 y2 y3 y4 y5 y6 y7 y8 y9 y10 y11 y12 y13 y14 y15 y16 y17 y18) (parser_count.j1 (k + 1) y0 y1 y2 y3 y4 y5 y6 y7 y8 y9 y10 y11 y12 y13 y14 y15 y16 y17 y18))
  | 0 => ⟨fun _ _ r h => by simp [parser_count.f] at h, fun _ _ _ _ _ r h => by simp [parser_count.l0] at h, fun _ _ _ _ _ _ _ _ _ _ _ _ _ _ _ _ _ _ _ r h => by simp [parser_count.j1] at h⟩
  | k + 1 => by
    obtain ⟨ih0, ih1, ih2⟩ := parser_count.mono_l k
    refine ⟨?_, ?_, ?_⟩
    · intro y0 y1
      unfold parser_count.f
      repeat' first
      | (with_reducible exact ih0 _ _)
      | (with_reducible exact ih1 _ _ _ _ _)
      | (with_reducible exact ih2 _ _ _ _ _ _ _ _ _ _ _ _ _ _ _ _ _ _ _)
      | (with_reducible exact parser_plain.mono _ _ _ _ _ _ _ _ _ _ _ _ _ _)
      | (with_reducible exact LeO.refl _)
      | (with_reducible exact LeO.none _)
      | (with_reducible refine LeO.ite ?_ ?_)
      | (with_reducible refine LeO.bind ?_ (fun _ => ?_))
      | exact ih0 _ _
      | exact ih1 _ _ _ _ _
      | exact ih2 _ _ _ _ _ _ _ _ _ _ _ _ _ _ _ _ _ _ _
      | exact parser_plain.mono _ _ _ _ _ _ _ _ _ _ _ _ _ _
      | exact LeO.none _
      | refine LeO.ite ?_ ?_
      | refine LeO.bind ?_ (fun _ => ?_)
    · intro y0 y1 y2 y3 y4
      unfold parser_count.l0
      repeat' first
      | (with_reducible exact ih0 _ _)
      | (with_reducible exact ih1 _ _ _ _ _)
      | (with_reducible exact ih2 _ _ _ _ _ _ _ _ _ _ _ _ _ _ _ _ _ _ _)
      | (with_reducible exact parser_plain.mono _ _ _ _ _ _ _ _ _ _ _ _ _ _)
      | (with_reducible exact LeO.refl _)
      | (with_reducible exact LeO.none _)
      | (with_reducible refine LeO.ite ?_ ?_)
      | (with_reducible refine LeO.bind ?_ (fun _ => ?_))
      | exact ih0 _ _
      | exact ih1 _ _ _ _ _
      | exact ih2 _ _ _ _ _ _ _ _ _ _ _ _ _ _ _ _ _ _ _
      | exact parser_plain.mono _ _ _ _ _ _ _ _ _ _ _ _ _ _
      | exact LeO.none _
      | refine LeO.ite ?_ ?_
      | refine LeO.bind ?_ (fun _ => ?_)
    · intro y0 y1 y2 y3 y4 y5 y6 y7 y8 y9 y10 y11 y12 y13 y14 y15 y16 y17 y18
      unfold parser_count.j1
      repeat' first
      | (with_reducible exact ih0 _ _)
      | (with_reducible exact ih1 _ _ _ _ _)
      | (with_reducible exact ih2 _ _ _ _ _ _ _ _ _ _ _ _ _ _ _ _ _ _ _)
      | (with_reducible exact parser_plain.mono _ _ _ _ _ _ _ _ _ _ _ _ _ _)
      | (with_reducible exact LeO.refl _)
      | (with_reducible exact LeO.none _)
      | (with_reducible refine LeO.ite ?_ ?_)
      | (with_reducible refine LeO.bind ?_ (fun _ => ?_))
      | exact ih0 _ _
      | exact ih1 _ _ _ _ _
      | exact ih2 _ _ _ _ _ _ _ _ _ _ _ _ _ _ _ _ _ _ _
      | exact parser_plain.mono _ _ _ _ _ _ _ _ _ _ _ _ _ _
      | exact LeO.none _
      | refine LeO.ite ?_ ?_
      | refine LeO.bind ?_ (fun _ => ?_)
theorem parser_count.mono : ∀ a0 a1 k, LeO (parser_count.f k a0 a1) (parser_count.f (k + 1) a0 a1) := by
  intro a0 a1 k
  obtain ⟨ih0, ih1, ih2⟩ := parser_count.mono_l k
  exact ih0 a0 a1
set_option maxHeartbeats 8000000 in
set_option maxRecDepth 100000 in
theorem parser_count.calls (k : Nat) : ∀ (A0 : Option Addr) (c0 : Nat) (l0 : List (S55)) (a1 : Int) (r : Int) (w : World) (hr0 : Kd.C k55 w A0 l0.length l0) (hc0 : l0.length ≤ c0) (h : parser_count.f k l0 a1 = some r) (hG : Glob w),
    Calls Tryd.prog 21 #[.slice A0 l0.length c0, .int .i64 a1] w fun e w' => e = .returned (.int .i64 r) ∧ Below w.heap.size w w' := by
  induction k using Nat.strongRecOn with
  | _ k ih =>
  intro A0 c0 l0 a1 r w hr0 hc0 h hG
  have HGL := Aside0.mk hG
  clear hG
  cases k with
  | zero => exact absurd h (by simp [parser_count.f])
  | succ k =>
  simp only [parser_count.f] at h
  have hu55 := Tryd.underlying55
  have HR0 := Aside0.mk hr0
  have HC0 := Aside0.mk hc0
  clear hr0 hc0
  have HB := Aside0.mk (Below.refl w.heap.size w)
  have H : (parser_count.l0 k a1 0 l0 (l0.length : Int) 0) = some r := h
  clear h
  have H' := Aside0.mk H
  clear H
  go_enter Tryd.func21, Tryd.ntmps21
  go_wp2
  go_loopg [5, 10] k (fun kq v5 v10 w' => ∃ (x5_1 : Int) (x10_1 : Int), v5 = .int .i64 x5_1 ∧ v10 = .int .i64 x10_1 ∧ Aside0 (parser_count.l0 kq a1 x5_1 l0 (l0.length : Int) x10_1 = some r) ∧ Aside0 (kq ≤ k) ∧ Aside0 (Below w.heap.size w w'))
  case atStart => exact ⟨(0), (0), (by first | rfl | (simp; done) | (simp [*]; done)), (by first | rfl | (simp; done) | (simp [*]; done)), H', ⟨Nat.le_refl _⟩, ⟨by repeat (first | (with_reducible first | exact HB.out | apply below_alloc | apply pw_below_drewN | apply below_drew1) | exact HB.out)⟩⟩
  case round =>
    clear H'
    try clear c2
    try clear p2
    obtain ⟨x5_1, x10_1, rfl, rfl, HA, HK1, HB⟩ := hrel
    cases gk with
    | zero => exact absurd HA.out (by simp [parser_count.l0])
    | succ k1 =>
      have H := HA.out
      clear HA
      simp only [parser_count.l0] at H
      by_cases c3 : x10_1 < (l0.length : Int)
      · rw [if_pos c3] at H
        have c3b0 : decide (x10_1 < (l0.length : Int)) = true := decide_eq_true c3
        clear c3
        by_cases c4 : 0 ≤ x10_1
        · rw [if_pos c4] at H
          have c4b0 : decide (0 ≤ x10_1) = true := decide_eq_true c4
          clear c4
          by_cases c5 : x10_1 < (l0.length : Int)
          · rw [if_pos c5] at H
            have c5b0 : decide (x10_1 < (l0.length : Int)) = true := decide_eq_true c5
            clear c5
            have HC6 := Aside0.mk H
            clear H
            have p126 : 0 ≤ (x10_1 : Int) := of_decide_eq_true (by first | (with_reducible assumption) | assumption)
            have q126 : x10_1 < (l0.length : Int) := of_decide_eq_true (by first | (with_reducible assumption) | assumption)
            obtain ⟨ad126, A126_11, c126_11, e126, hx126_0, hx126_1, hx126_2, hx126_3, hx126_4, hx126_5, hx126_6, hx126_7, hx126_8, hx126_9, hx126_10, hx126_11, hx126_12, hl126_11, hi126_11⟩ := at_T55 HR0.out x10_1 p126 q126
            cases e126
            replace hx126_0 := (HB.out.cell (World.block_lt_of_cell? w _ hx126_0)).trans hx126_0
            replace hx126_1 := (HB.out.cell (World.block_lt_of_cell? w _ hx126_1)).trans hx126_1
            replace hx126_2 := (HB.out.cell (World.block_lt_of_cell? w _ hx126_2)).trans hx126_2
            replace hx126_3 := (HB.out.cell (World.block_lt_of_cell? w _ hx126_3)).trans hx126_3
            replace hx126_4 := (HB.out.cell (World.block_lt_of_cell? w _ hx126_4)).trans hx126_4
            replace hx126_5 := (HB.out.cell (World.block_lt_of_cell? w _ hx126_5)).trans hx126_5
            replace hx126_6 := (HB.out.cell (World.block_lt_of_cell? w _ hx126_6)).trans hx126_6
            replace hx126_7 := (HB.out.cell (World.block_lt_of_cell? w _ hx126_7)).trans hx126_7
            replace hx126_8 := (HB.out.cell (World.block_lt_of_cell? w _ hx126_8)).trans hx126_8
            replace hx126_9 := (HB.out.cell (World.block_lt_of_cell? w _ hx126_9)).trans hx126_9
            replace hx126_10 := (HB.out.cell (World.block_lt_of_cell? w _ hx126_10)).trans hx126_10
            replace hx126_11 := (HB.out.cell (World.block_lt_of_cell? w _ hx126_11)).trans hx126_11
            replace hx126_12 := (HB.out.cell (World.block_lt_of_cell? w _ hx126_12)).trans hx126_12
            have HR126_11 := Aside0.mk hi126_11
            have HC126_11 := Aside0.mk hl126_11
            clear hi126_11 hl126_11
            replace p126 := eq_true p126
            replace q126 := eq_true q126
            go_upto_region 6 with (first | ((with_reducible refine gate_dst (N := 7) rfl ?_); refine box_event ?hg (N := 7) ?hd (cs := #[.int .i64 0, .int .i64 0, .string (⟨#[]⟩ : ByteArray), .string (⟨#[]⟩ : ByteArray), .int .i64 0, .int .i64 0, .int .i64 0, .int .i64 0, .int .i64 0, .int .i64 0, .int .i64 0, .slice none 0 0, .int .i64 0]) (t := 55) ?hr ?_; (case hd => rfl); (case hg => rfl); (case hr => first | (go_simp; done) | (go_simp; rfl)); intro gb127 hg w7 hbox hb; have n0_ := Aside0.mk (below_step (by repeat (first | (with_reducible first | exact HB.out | apply below_alloc | apply pw_below_drewN | apply below_drew1) | exact HB.out)) hb); have n1_ := Aside0.mk (hbox); have n2_ := Aside0.mk ((by rw [hg]; exact (below_size (by repeat (first | (with_reducible first | exact HB.out | apply below_alloc | apply pw_below_drewN | apply below_drew1) | exact HB.out))) : w.heap.size ≤ gb127)); have n3_ := Aside0.mk ((by rw [hg]; exact (below_size (by repeat (first | (with_reducible first | exact HB.out | apply below_alloc | apply pw_below_drewN | apply below_drew1) | exact HB.out))) : w.heap.size ≤ gb127)); clear HB; have HB := n0_; have BK127 := n1_; have GW127 := n2_; have GE127 := n3_; clear n0_ n1_ n2_ n3_; clear hb hbox hg; have hcz8_0 : w7.cell? ⟨gb127, 0, none⟩ = some (.int .i64 0) := (blk_cell BK127.out 0).trans rfl; have hcz8_1 : w7.cell? ⟨gb127, 1, none⟩ = some (.int .i64 0) := (blk_cell BK127.out 1).trans rfl; have hcz8_2 : w7.cell? ⟨gb127, 2, none⟩ = some (.string (⟨#[]⟩ : ByteArray)) := (blk_cell BK127.out 2).trans rfl; have hcz8_3 : w7.cell? ⟨gb127, 3, none⟩ = some (.string (⟨#[]⟩ : ByteArray)) := (blk_cell BK127.out 3).trans rfl; have hcz8_4 : w7.cell? ⟨gb127, 4, none⟩ = some (.int .i64 0) := (blk_cell BK127.out 4).trans rfl; have hcz8_5 : w7.cell? ⟨gb127, 5, none⟩ = some (.int .i64 0) := (blk_cell BK127.out 5).trans rfl; have hcz8_6 : w7.cell? ⟨gb127, 6, none⟩ = some (.int .i64 0) := (blk_cell BK127.out 6).trans rfl; have hcz8_7 : w7.cell? ⟨gb127, 7, none⟩ = some (.int .i64 0) := (blk_cell BK127.out 7).trans rfl; have hcz8_8 : w7.cell? ⟨gb127, 8, none⟩ = some (.int .i64 0) := (blk_cell BK127.out 8).trans rfl; have hcz8_9 : w7.cell? ⟨gb127, 9, none⟩ = some (.int .i64 0) := (blk_cell BK127.out 9).trans rfl; have hcz8_10 : w7.cell? ⟨gb127, 10, none⟩ = some (.int .i64 0) := (blk_cell BK127.out 10).trans rfl; have hcz8_11 : w7.cell? ⟨gb127, 11, none⟩ = some (.slice none 0 0) := (blk_cell BK127.out 11).trans rfl; have hcz8_12 : w7.cell? ⟨gb127, 12, none⟩ = some (.int .i64 0) := (blk_cell BK127.out 12).trans rfl; have hfz8_0 := blk_frozen BK127.out 0; have hfz8_1 := blk_frozen BK127.out 1; have hfz8_2 := blk_frozen BK127.out 2; have hfz8_3 := blk_frozen BK127.out 3; have hfz8_4 := blk_frozen BK127.out 4; have hfz8_5 := blk_frozen BK127.out 5; have hfz8_6 := blk_frozen BK127.out 6; have hfz8_7 := blk_frozen BK127.out 7; have hfz8_8 := blk_frozen BK127.out 8; have hfz8_9 := blk_frozen BK127.out 9; have hfz8_10 := blk_frozen BK127.out 10; have hfz8_11 := blk_frozen BK127.out 11; have hfz8_12 := blk_frozen BK127.out 12))
            (try simp only [Act.put, List.setIfInBounds_toArray, List.set_cons_zero, List.set_cons_succ])
            go_cut [31] (fun v31 wc => ∃ (kq : Nat) (x31_5 : Bool), v31 = .bool x31_5 ∧ Aside0 (parser_count.j1 kq a1 (wrap64 (x5_1 + 1)) l0 (l0.length : Int) x10_1 x31_5 ((rd_T55 l0 x10_1).f0) ((rd_T55 l0 x10_1).f1) ((rd_T55 l0 x10_1).f2) ((rd_T55 l0 x10_1).f3) ((rd_T55 l0 x10_1).f4) ((rd_T55 l0 x10_1).f5.f0.f0) ((rd_T55 l0 x10_1).f5.f0.f1) ((rd_T55 l0 x10_1).f5.f0.f2) ((rd_T55 l0 x10_1).f5.f1.f0) ((rd_T55 l0 x10_1).f5.f1.f1) ((rd_T55 l0 x10_1).f5.f1.f2) ((rd_T55 l0 x10_1).f6) ((rd_T55 l0 x10_1).f7) = some r) ∧ Aside0 (kq ≤ k1) ∧ Aside0 (wc.heap[gb127]? = some (.cells #[.int .i64 ((rd_T55 l0 x10_1).f0), .int .i64 ((rd_T55 l0 x10_1).f1), .string ((rd_T55 l0 x10_1).f2), .string ((rd_T55 l0 x10_1).f3), .int .i64 ((rd_T55 l0 x10_1).f4), .int .i64 ((rd_T55 l0 x10_1).f5.f0.f0), .int .i64 ((rd_T55 l0 x10_1).f5.f0.f1), .int .i64 ((rd_T55 l0 x10_1).f5.f0.f2), .int .i64 ((rd_T55 l0 x10_1).f5.f1.f0), .int .i64 ((rd_T55 l0 x10_1).f5.f1.f1), .int .i64 ((rd_T55 l0 x10_1).f5.f1.f2), (.slice A126_11 ((rd_T55 l0 x10_1).f6).length c126_11), .int .i64 ((rd_T55 l0 x10_1).f7)] 55 (0, 0))) ∧ Aside0 (Below w.heap.size w wc))
            case first =>
              have H := HC6.out
              clear HC6
              by_cases c9 : (wrap64 (x5_1 + 1)) > 64
              · rw [if_pos c9] at H
                have c9b0 : decide (64 < (wrap64 (x5_1 + 1))) = true := decide_eq_true c9
                clear c9
                (first | rw [c9b0] | (simp only [i64_w, i32_w]; rw [c9b0]) | skip)
                have H' := Aside0.mk H
                clear H
                go_wp2
                go_meet
                case rel => exact ⟨_, (true), (by first | rfl | (simp; done) | (simp [*]; done)), H', ⟨by have := HK1.out; first | omega | exact Nat.le_refl _⟩, ⟨by (with_reducible repeat (first | refine blk_drewN ?_ _ | refine blk_drew ?_ | refine blk_alloc ?_ _)); refine blk_put (cs := #[.int .i64 ((rd_T55 l0 x10_1).f0), .int .i64 ((rd_T55 l0 x10_1).f1), .string ((rd_T55 l0 x10_1).f2), .string ((rd_T55 l0 x10_1).f3), .int .i64 ((rd_T55 l0 x10_1).f4), .int .i64 ((rd_T55 l0 x10_1).f5.f0.f0), .int .i64 ((rd_T55 l0 x10_1).f5.f0.f1), .int .i64 ((rd_T55 l0 x10_1).f5.f0.f2), .int .i64 ((rd_T55 l0 x10_1).f5.f1.f0), .int .i64 ((rd_T55 l0 x10_1).f5.f1.f1), .int .i64 ((rd_T55 l0 x10_1).f5.f1.f2), .slice A126_11 ((rd_T55 l0 x10_1).f6).length c126_11, .int .i64 0]) ?_ 12 _ rfl; (with_reducible repeat (first | refine blk_drewN ?_ _ | refine blk_drew ?_ | refine blk_alloc ?_ _)); refine blk_put (cs := #[.int .i64 ((rd_T55 l0 x10_1).f0), .int .i64 ((rd_T55 l0 x10_1).f1), .string ((rd_T55 l0 x10_1).f2), .string ((rd_T55 l0 x10_1).f3), .int .i64 ((rd_T55 l0 x10_1).f4), .int .i64 ((rd_T55 l0 x10_1).f5.f0.f0), .int .i64 ((rd_T55 l0 x10_1).f5.f0.f1), .int .i64 ((rd_T55 l0 x10_1).f5.f0.f2), .int .i64 ((rd_T55 l0 x10_1).f5.f1.f0), .int .i64 ((rd_T55 l0 x10_1).f5.f1.f1), .int .i64 ((rd_T55 l0 x10_1).f5.f1.f2), .slice none 0 0, .int .i64 0]) ?_ 11 _ rfl; (with_reducible repeat (first | refine blk_drewN ?_ _ | refine blk_drew ?_ | refine blk_alloc ?_ _)); refine blk_put (cs := #[.int .i64 ((rd_T55 l0 x10_1).f0), .int .i64 ((rd_T55 l0 x10_1).f1), .string ((rd_T55 l0 x10_1).f2), .string ((rd_T55 l0 x10_1).f3), .int .i64 ((rd_T55 l0 x10_1).f4), .int .i64 ((rd_T55 l0 x10_1).f5.f0.f0), .int .i64 ((rd_T55 l0 x10_1).f5.f0.f1), .int .i64 ((rd_T55 l0 x10_1).f5.f0.f2), .int .i64 ((rd_T55 l0 x10_1).f5.f1.f0), .int .i64 ((rd_T55 l0 x10_1).f5.f1.f1), .int .i64 0, .slice none 0 0, .int .i64 0]) ?_ 10 _ rfl; (with_reducible repeat (first | refine blk_drewN ?_ _ | refine blk_drew ?_ | refine blk_alloc ?_ _)); refine blk_put (cs := #[.int .i64 ((rd_T55 l0 x10_1).f0), .int .i64 ((rd_T55 l0 x10_1).f1), .string ((rd_T55 l0 x10_1).f2), .string ((rd_T55 l0 x10_1).f3), .int .i64 ((rd_T55 l0 x10_1).f4), .int .i64 ((rd_T55 l0 x10_1).f5.f0.f0), .int .i64 ((rd_T55 l0 x10_1).f5.f0.f1), .int .i64 ((rd_T55 l0 x10_1).f5.f0.f2), .int .i64 ((rd_T55 l0 x10_1).f5.f1.f0), .int .i64 0, .int .i64 0, .slice none 0 0, .int .i64 0]) ?_ 9 _ rfl; (with_reducible repeat (first | refine blk_drewN ?_ _ | refine blk_drew ?_ | refine blk_alloc ?_ _)); refine blk_put (cs := #[.int .i64 ((rd_T55 l0 x10_1).f0), .int .i64 ((rd_T55 l0 x10_1).f1), .string ((rd_T55 l0 x10_1).f2), .string ((rd_T55 l0 x10_1).f3), .int .i64 ((rd_T55 l0 x10_1).f4), .int .i64 ((rd_T55 l0 x10_1).f5.f0.f0), .int .i64 ((rd_T55 l0 x10_1).f5.f0.f1), .int .i64 ((rd_T55 l0 x10_1).f5.f0.f2), .int .i64 0, .int .i64 0, .int .i64 0, .slice none 0 0, .int .i64 0]) ?_ 8 _ rfl; (with_reducible repeat (first | refine blk_drewN ?_ _ | refine blk_drew ?_ | refine blk_alloc ?_ _)); refine blk_put (cs := #[.int .i64 ((rd_T55 l0 x10_1).f0), .int .i64 ((rd_T55 l0 x10_1).f1), .string ((rd_T55 l0 x10_1).f2), .string ((rd_T55 l0 x10_1).f3), .int .i64 ((rd_T55 l0 x10_1).f4), .int .i64 ((rd_T55 l0 x10_1).f5.f0.f0), .int .i64 ((rd_T55 l0 x10_1).f5.f0.f1), .int .i64 0, .int .i64 0, .int .i64 0, .int .i64 0, .slice none 0 0, .int .i64 0]) ?_ 7 _ rfl; (with_reducible repeat (first | refine blk_drewN ?_ _ | refine blk_drew ?_ | refine blk_alloc ?_ _)); refine blk_put (cs := #[.int .i64 ((rd_T55 l0 x10_1).f0), .int .i64 ((rd_T55 l0 x10_1).f1), .string ((rd_T55 l0 x10_1).f2), .string ((rd_T55 l0 x10_1).f3), .int .i64 ((rd_T55 l0 x10_1).f4), .int .i64 ((rd_T55 l0 x10_1).f5.f0.f0), .int .i64 0, .int .i64 0, .int .i64 0, .int .i64 0, .int .i64 0, .slice none 0 0, .int .i64 0]) ?_ 6 _ rfl; (with_reducible repeat (first | refine blk_drewN ?_ _ | refine blk_drew ?_ | refine blk_alloc ?_ _)); refine blk_put (cs := #[.int .i64 ((rd_T55 l0 x10_1).f0), .int .i64 ((rd_T55 l0 x10_1).f1), .string ((rd_T55 l0 x10_1).f2), .string ((rd_T55 l0 x10_1).f3), .int .i64 ((rd_T55 l0 x10_1).f4), .int .i64 0, .int .i64 0, .int .i64 0, .int .i64 0, .int .i64 0, .int .i64 0, .slice none 0 0, .int .i64 0]) ?_ 5 _ rfl; (with_reducible repeat (first | refine blk_drewN ?_ _ | refine blk_drew ?_ | refine blk_alloc ?_ _)); refine blk_put (cs := #[.int .i64 ((rd_T55 l0 x10_1).f0), .int .i64 ((rd_T55 l0 x10_1).f1), .string ((rd_T55 l0 x10_1).f2), .string ((rd_T55 l0 x10_1).f3), .int .i64 0, .int .i64 0, .int .i64 0, .int .i64 0, .int .i64 0, .int .i64 0, .int .i64 0, .slice none 0 0, .int .i64 0]) ?_ 4 _ rfl; (with_reducible repeat (first | refine blk_drewN ?_ _ | refine blk_drew ?_ | refine blk_alloc ?_ _)); refine blk_put (cs := #[.int .i64 ((rd_T55 l0 x10_1).f0), .int .i64 ((rd_T55 l0 x10_1).f1), .string ((rd_T55 l0 x10_1).f2), .string (⟨#[]⟩ : ByteArray), .int .i64 0, .int .i64 0, .int .i64 0, .int .i64 0, .int .i64 0, .int .i64 0, .int .i64 0, .slice none 0 0, .int .i64 0]) ?_ 3 _ rfl; (with_reducible repeat (first | refine blk_drewN ?_ _ | refine blk_drew ?_ | refine blk_alloc ?_ _)); refine blk_put (cs := #[.int .i64 ((rd_T55 l0 x10_1).f0), .int .i64 ((rd_T55 l0 x10_1).f1), .string (⟨#[]⟩ : ByteArray), .string (⟨#[]⟩ : ByteArray), .int .i64 0, .int .i64 0, .int .i64 0, .int .i64 0, .int .i64 0, .int .i64 0, .int .i64 0, .slice none 0 0, .int .i64 0]) ?_ 2 _ rfl; (with_reducible repeat (first | refine blk_drewN ?_ _ | refine blk_drew ?_ | refine blk_alloc ?_ _)); refine blk_put (cs := #[.int .i64 ((rd_T55 l0 x10_1).f0), .int .i64 0, .string (⟨#[]⟩ : ByteArray), .string (⟨#[]⟩ : ByteArray), .int .i64 0, .int .i64 0, .int .i64 0, .int .i64 0, .int .i64 0, .int .i64 0, .int .i64 0, .slice none 0 0, .int .i64 0]) ?_ 1 _ rfl; (with_reducible repeat (first | refine blk_drewN ?_ _ | refine blk_drew ?_ | refine blk_alloc ?_ _)); refine blk_put (cs := #[.int .i64 0, .int .i64 0, .string (⟨#[]⟩ : ByteArray), .string (⟨#[]⟩ : ByteArray), .int .i64 0, .int .i64 0, .int .i64 0, .int .i64 0, .int .i64 0, .int .i64 0, .int .i64 0, .slice none 0 0, .int .i64 0]) ?_ 0 _ rfl; (with_reducible repeat (first | refine blk_drewN ?_ _ | refine blk_drew ?_ | refine blk_alloc ?_ _)); exact BK127.out⟩, ⟨by repeat (first | (with_reducible first | exact HB.out | apply below_alloc | apply pw_below_drewN | apply below_drew1 | refine below_set ?_ GE127.out) | exact HB.out)⟩⟩
              · rw [if_neg c9] at H
                have c9b0 : decide (64 < (wrap64 (x5_1 + 1))) = false := decide_eq_false c9
                clear c9
                (first | rw [c9b0] | (simp only [i64_w, i32_w]; rw [c9b0]) | skip)
                by_cases c10 : ((rd_T55 l0 x10_1).f0) = 7
                · rw [if_pos c10] at H
                  have c10b0 : (((rd_T55 l0 x10_1).f0) == 7) = true := beq_iff_eq.mpr c10
                  have c10b1 : (((rd_T55 l0 x10_1).f0) != 7) = false := bne_eq_false_iff_eq.mpr c10
                  clear c10
                  by_cases c11 : a1 = 4
                  · rw [if_pos c11] at H
                    have c11b0 : (a1 == 4) = true := beq_iff_eq.mpr c11
                    have c11b1 : (a1 != 4) = false := bne_eq_false_iff_eq.mpr c11
                    clear c11
                    have H' := Aside0.mk H
                    clear H
                    have hcz12_0 : w7.cell? ⟨gb127, 0, none⟩ = some (.int .i64 0) := (blk_cell BK127.out 0).trans rfl
                    have hcz12_1 : w7.cell? ⟨gb127, 1, none⟩ = some (.int .i64 0) := (blk_cell BK127.out 1).trans rfl
                    have hcz12_2 : w7.cell? ⟨gb127, 2, none⟩ = some (.string (⟨#[]⟩ : ByteArray)) := (blk_cell BK127.out 2).trans rfl
                    have hcz12_3 : w7.cell? ⟨gb127, 3, none⟩ = some (.string (⟨#[]⟩ : ByteArray)) := (blk_cell BK127.out 3).trans rfl
                    have hcz12_4 : w7.cell? ⟨gb127, 4, none⟩ = some (.int .i64 0) := (blk_cell BK127.out 4).trans rfl
                    have hcz12_5 : w7.cell? ⟨gb127, 5, none⟩ = some (.int .i64 0) := (blk_cell BK127.out 5).trans rfl
                    have hcz12_6 : w7.cell? ⟨gb127, 6, none⟩ = some (.int .i64 0) := (blk_cell BK127.out 6).trans rfl
                    have hcz12_7 : w7.cell? ⟨gb127, 7, none⟩ = some (.int .i64 0) := (blk_cell BK127.out 7).trans rfl
                    have hcz12_8 : w7.cell? ⟨gb127, 8, none⟩ = some (.int .i64 0) := (blk_cell BK127.out 8).trans rfl
                    have hcz12_9 : w7.cell? ⟨gb127, 9, none⟩ = some (.int .i64 0) := (blk_cell BK127.out 9).trans rfl
                    have hcz12_10 : w7.cell? ⟨gb127, 10, none⟩ = some (.int .i64 0) := (blk_cell BK127.out 10).trans rfl
                    have hcz12_11 : w7.cell? ⟨gb127, 11, none⟩ = some (.slice none 0 0) := (blk_cell BK127.out 11).trans rfl
                    have hcz12_12 : w7.cell? ⟨gb127, 12, none⟩ = some (.int .i64 0) := (blk_cell BK127.out 12).trans rfl
                    have hfz12_0 := blk_frozen BK127.out 0
                    have hfz12_1 := blk_frozen BK127.out 1
                    have hfz12_2 := blk_frozen BK127.out 2
                    have hfz12_3 := blk_frozen BK127.out 3
                    have hfz12_4 := blk_frozen BK127.out 4
                    have hfz12_5 := blk_frozen BK127.out 5
                    have hfz12_6 := blk_frozen BK127.out 6
                    have hfz12_7 := blk_frozen BK127.out 7
                    have hfz12_8 := blk_frozen BK127.out 8
                    have hfz12_9 := blk_frozen BK127.out 9
                    have hfz12_10 := blk_frozen BK127.out 10
                    have hfz12_11 := blk_frozen BK127.out 11
                    have hfz12_12 := blk_frozen BK127.out 12
                    go_wp2
                    go_meet
                    case rel => exact ⟨_, (true), (by first | rfl | (simp; done) | (simp [*]; done)), H', ⟨by have := HK1.out; first | omega | exact Nat.le_refl _⟩, ⟨by (with_reducible repeat (first | refine blk_drewN ?_ _ | refine blk_drew ?_ | refine blk_alloc ?_ _)); refine blk_put (cs := #[.int .i64 ((rd_T55 l0 x10_1).f0), .int .i64 ((rd_T55 l0 x10_1).f1), .string ((rd_T55 l0 x10_1).f2), .string ((rd_T55 l0 x10_1).f3), .int .i64 ((rd_T55 l0 x10_1).f4), .int .i64 ((rd_T55 l0 x10_1).f5.f0.f0), .int .i64 ((rd_T55 l0 x10_1).f5.f0.f1), .int .i64 ((rd_T55 l0 x10_1).f5.f0.f2), .int .i64 ((rd_T55 l0 x10_1).f5.f1.f0), .int .i64 ((rd_T55 l0 x10_1).f5.f1.f1), .int .i64 ((rd_T55 l0 x10_1).f5.f1.f2), .slice A126_11 ((rd_T55 l0 x10_1).f6).length c126_11, .int .i64 0]) ?_ 12 _ rfl; (with_reducible repeat (first | refine blk_drewN ?_ _ | refine blk_drew ?_ | refine blk_alloc ?_ _)); refine blk_put (cs := #[.int .i64 ((rd_T55 l0 x10_1).f0), .int .i64 ((rd_T55 l0 x10_1).f1), .string ((rd_T55 l0 x10_1).f2), .string ((rd_T55 l0 x10_1).f3), .int .i64 ((rd_T55 l0 x10_1).f4), .int .i64 ((rd_T55 l0 x10_1).f5.f0.f0), .int .i64 ((rd_T55 l0 x10_1).f5.f0.f1), .int .i64 ((rd_T55 l0 x10_1).f5.f0.f2), .int .i64 ((rd_T55 l0 x10_1).f5.f1.f0), .int .i64 ((rd_T55 l0 x10_1).f5.f1.f1), .int .i64 ((rd_T55 l0 x10_1).f5.f1.f2), .slice none 0 0, .int .i64 0]) ?_ 11 _ rfl; (with_reducible repeat (first | refine blk_drewN ?_ _ | refine blk_drew ?_ | refine blk_alloc ?_ _)); refine blk_put (cs := #[.int .i64 ((rd_T55 l0 x10_1).f0), .int .i64 ((rd_T55 l0 x10_1).f1), .string ((rd_T55 l0 x10_1).f2), .string ((rd_T55 l0 x10_1).f3), .int .i64 ((rd_T55 l0 x10_1).f4), .int .i64 ((rd_T55 l0 x10_1).f5.f0.f0), .int .i64 ((rd_T55 l0 x10_1).f5.f0.f1), .int .i64 ((rd_T55 l0 x10_1).f5.f0.f2), .int .i64 ((rd_T55 l0 x10_1).f5.f1.f0), .int .i64 ((rd_T55 l0 x10_1).f5.f1.f1), .int .i64 0, .slice none 0 0, .int .i64 0]) ?_ 10 _ rfl; (with_reducible repeat (first | refine blk_drewN ?_ _ | refine blk_drew ?_ | refine blk_alloc ?_ _)); refine blk_put (cs := #[.int .i64 ((rd_T55 l0 x10_1).f0), .int .i64 ((rd_T55 l0 x10_1).f1), .string ((rd_T55 l0 x10_1).f2), .string ((rd_T55 l0 x10_1).f3), .int .i64 ((rd_T55 l0 x10_1).f4), .int .i64 ((rd_T55 l0 x10_1).f5.f0.f0), .int .i64 ((rd_T55 l0 x10_1).f5.f0.f1), .int .i64 ((rd_T55 l0 x10_1).f5.f0.f2), .int .i64 ((rd_T55 l0 x10_1).f5.f1.f0), .int .i64 0, .int .i64 0, .slice none 0 0, .int .i64 0]) ?_ 9 _ rfl; (with_reducible repeat (first | refine blk_drewN ?_ _ | refine blk_drew ?_ | refine blk_alloc ?_ _)); refine blk_put (cs := #[.int .i64 ((rd_T55 l0 x10_1).f0), .int .i64 ((rd_T55 l0 x10_1).f1), .string ((rd_T55 l0 x10_1).f2), .string ((rd_T55 l0 x10_1).f3), .int .i64 ((rd_T55 l0 x10_1).f4), .int .i64 ((rd_T55 l0 x10_1).f5.f0.f0), .int .i64 ((rd_T55 l0 x10_1).f5.f0.f1), .int .i64 ((rd_T55 l0 x10_1).f5.f0.f2), .int .i64 0, .int .i64 0, .int .i64 0, .slice none 0 0, .int .i64 0]) ?_ 8 _ rfl; (with_reducible repeat (first | refine blk_drewN ?_ _ | refine blk_drew ?_ | refine blk_alloc ?_ _)); refine blk_put (cs := #[.int .i64 ((rd_T55 l0 x10_1).f0), .int .i64 ((rd_T55 l0 x10_1).f1), .string ((rd_T55 l0 x10_1).f2), .string ((rd_T55 l0 x10_1).f3), .int .i64 ((rd_T55 l0 x10_1).f4), .int .i64 ((rd_T55 l0 x10_1).f5.f0.f0), .int .i64 ((rd_T55 l0 x10_1).f5.f0.f1), .int .i64 0, .int .i64 0, .int .i64 0, .int .i64 0, .slice none 0 0, .int .i64 0]) ?_ 7 _ rfl; (with_reducible repeat (first | refine blk_drewN ?_ _ | refine blk_drew ?_ | refine blk_alloc ?_ _)); refine blk_put (cs := #[.int .i64 ((rd_T55 l0 x10_1).f0), .int .i64 ((rd_T55 l0 x10_1).f1), .string ((rd_T55 l0 x10_1).f2), .string ((rd_T55 l0 x10_1).f3), .int .i64 ((rd_T55 l0 x10_1).f4), .int .i64 ((rd_T55 l0 x10_1).f5.f0.f0), .int .i64 0, .int .i64 0, .int .i64 0, .int .i64 0, .int .i64 0, .slice none 0 0, .int .i64 0]) ?_ 6 _ rfl; (with_reducible repeat (first | refine blk_drewN ?_ _ | refine blk_drew ?_ | refine blk_alloc ?_ _)); refine blk_put (cs := #[.int .i64 ((rd_T55 l0 x10_1).f0), .int .i64 ((rd_T55 l0 x10_1).f1), .string ((rd_T55 l0 x10_1).f2), .string ((rd_T55 l0 x10_1).f3), .int .i64 ((rd_T55 l0 x10_1).f4), .int .i64 0, .int .i64 0, .int .i64 0, .int .i64 0, .int .i64 0, .int .i64 0, .slice none 0 0, .int .i64 0]) ?_ 5 _ rfl; (with_reducible repeat (first | refine blk_drewN ?_ _ | refine blk_drew ?_ | refine blk_alloc ?_ _)); refine blk_put (cs := #[.int .i64 ((rd_T55 l0 x10_1).f0), .int .i64 ((rd_T55 l0 x10_1).f1), .string ((rd_T55 l0 x10_1).f2), .string ((rd_T55 l0 x10_1).f3), .int .i64 0, .int .i64 0, .int .i64 0, .int .i64 0, .int .i64 0, .int .i64 0, .int .i64 0, .slice none 0 0, .int .i64 0]) ?_ 4 _ rfl; (with_reducible repeat (first | refine blk_drewN ?_ _ | refine blk_drew ?_ | refine blk_alloc ?_ _)); refine blk_put (cs := #[.int .i64 ((rd_T55 l0 x10_1).f0), .int .i64 ((rd_T55 l0 x10_1).f1), .string ((rd_T55 l0 x10_1).f2), .string (⟨#[]⟩ : ByteArray), .int .i64 0, .int .i64 0, .int .i64 0, .int .i64 0, .int .i64 0, .int .i64 0, .int .i64 0, .slice none 0 0, .int .i64 0]) ?_ 3 _ rfl; (with_reducible repeat (first | refine blk_drewN ?_ _ | refine blk_drew ?_ | refine blk_alloc ?_ _)); refine blk_put (cs := #[.int .i64 ((rd_T55 l0 x10_1).f0), .int .i64 ((rd_T55 l0 x10_1).f1), .string (⟨#[]⟩ : ByteArray), .string (⟨#[]⟩ : ByteArray), .int .i64 0, .int .i64 0, .int .i64 0, .int .i64 0, .int .i64 0, .int .i64 0, .int .i64 0, .slice none 0 0, .int .i64 0]) ?_ 2 _ rfl; (with_reducible repeat (first | refine blk_drewN ?_ _ | refine blk_drew ?_ | refine blk_alloc ?_ _)); refine blk_put (cs := #[.int .i64 ((rd_T55 l0 x10_1).f0), .int .i64 0, .string (⟨#[]⟩ : ByteArray), .string (⟨#[]⟩ : ByteArray), .int .i64 0, .int .i64 0, .int .i64 0, .int .i64 0, .int .i64 0, .int .i64 0, .int .i64 0, .slice none 0 0, .int .i64 0]) ?_ 1 _ rfl; (with_reducible repeat (first | refine blk_drewN ?_ _ | refine blk_drew ?_ | refine blk_alloc ?_ _)); refine blk_put (cs := #[.int .i64 0, .int .i64 0, .string (⟨#[]⟩ : ByteArray), .string (⟨#[]⟩ : ByteArray), .int .i64 0, .int .i64 0, .int .i64 0, .int .i64 0, .int .i64 0, .int .i64 0, .int .i64 0, .slice none 0 0, .int .i64 0]) ?_ 0 _ rfl; (with_reducible repeat (first | refine blk_drewN ?_ _ | refine blk_drew ?_ | refine blk_alloc ?_ _)); exact BK127.out⟩, ⟨by repeat (first | (with_reducible first | exact HB.out | apply below_alloc | apply pw_below_drewN | apply below_drew1 | refine below_set ?_ GE127.out) | exact HB.out)⟩⟩
                  · rw [if_neg c11] at H
                    have c11b0 : (a1 == 4) = false := beq_eq_false_iff_ne.mpr c11
                    have c11b1 : (a1 != 4) = true := bne_iff_ne.mpr c11
                    replace H := Option.bind_eq_some_iff.mp H
                    obtain ⟨t128, A130, H⟩ := H
                    replace H : (parser_count.j1 k1 a1 (wrap64 (x5_1 + 1)) l0 (l0.length : Int) x10_1 (!t128) ((rd_T55 l0 x10_1).f0) ((rd_T55 l0 x10_1).f1) ((rd_T55 l0 x10_1).f2) ((rd_T55 l0 x10_1).f3) ((rd_T55 l0 x10_1).f4) ((rd_T55 l0 x10_1).f5.f0.f0) ((rd_T55 l0 x10_1).f5.f0.f1) ((rd_T55 l0 x10_1).f5.f0.f2) ((rd_T55 l0 x10_1).f5.f1.f0) ((rd_T55 l0 x10_1).f5.f1.f1) ((rd_T55 l0 x10_1).f5.f1.f2) ((rd_T55 l0 x10_1).f6) ((rd_T55 l0 x10_1).f7)) = some r := H
                    have A13 := Aside0.mk A130
                    clear A130
                    have H' := Aside0.mk H
                    clear H
                    have hcz14_0 : w7.cell? ⟨gb127, 0, none⟩ = some (.int .i64 0) := (blk_cell BK127.out 0).trans rfl
                    have hcz14_1 : w7.cell? ⟨gb127, 1, none⟩ = some (.int .i64 0) := (blk_cell BK127.out 1).trans rfl
                    have hcz14_2 : w7.cell? ⟨gb127, 2, none⟩ = some (.string (⟨#[]⟩ : ByteArray)) := (blk_cell BK127.out 2).trans rfl
                    have hcz14_3 : w7.cell? ⟨gb127, 3, none⟩ = some (.string (⟨#[]⟩ : ByteArray)) := (blk_cell BK127.out 3).trans rfl
                    have hcz14_4 : w7.cell? ⟨gb127, 4, none⟩ = some (.int .i64 0) := (blk_cell BK127.out 4).trans rfl
                    have hcz14_5 : w7.cell? ⟨gb127, 5, none⟩ = some (.int .i64 0) := (blk_cell BK127.out 5).trans rfl
                    have hcz14_6 : w7.cell? ⟨gb127, 6, none⟩ = some (.int .i64 0) := (blk_cell BK127.out 6).trans rfl
                    have hcz14_7 : w7.cell? ⟨gb127, 7, none⟩ = some (.int .i64 0) := (blk_cell BK127.out 7).trans rfl
                    have hcz14_8 : w7.cell? ⟨gb127, 8, none⟩ = some (.int .i64 0) := (blk_cell BK127.out 8).trans rfl
                    have hcz14_9 : w7.cell? ⟨gb127, 9, none⟩ = some (.int .i64 0) := (blk_cell BK127.out 9).trans rfl
                    have hcz14_10 : w7.cell? ⟨gb127, 10, none⟩ = some (.int .i64 0) := (blk_cell BK127.out 10).trans rfl
                    have hcz14_11 : w7.cell? ⟨gb127, 11, none⟩ = some (.slice none 0 0) := (blk_cell BK127.out 11).trans rfl
                    have hcz14_12 : w7.cell? ⟨gb127, 12, none⟩ = some (.int .i64 0) := (blk_cell BK127.out 12).trans rfl
                    have hfz14_0 := blk_frozen BK127.out 0
                    have hfz14_1 := blk_frozen BK127.out 1
                    have hfz14_2 := blk_frozen BK127.out 2
                    have hfz14_3 := blk_frozen BK127.out 3
                    have hfz14_4 := blk_frozen BK127.out 4
                    have hfz14_5 := blk_frozen BK127.out 5
                    have hfz14_6 := blk_frozen BK127.out 6
                    have hfz14_7 := blk_frozen BK127.out 7
                    have hfz14_8 := blk_frozen BK127.out 8
                    have hfz14_9 := blk_frozen BK127.out 9
                    have hfz14_10 := blk_frozen BK127.out 10
                    have hfz14_11 := blk_frozen BK127.out 11
                    have hfz14_12 := blk_frozen BK127.out 12
                    go_wp2_with (first | (go_at_call 30; (with_reducible refine (parser_plain.calls k1 ((rd_T55 l0 x10_1).f0) ((rd_T55 l0 x10_1).f1) ((rd_T55 l0 x10_1).f2) ((rd_T55 l0 x10_1).f3) ((rd_T55 l0 x10_1).f4) ((rd_T55 l0 x10_1).f5.f0.f0) ((rd_T55 l0 x10_1).f5.f0.f1) ((rd_T55 l0 x10_1).f5.f0.f2) ((rd_T55 l0 x10_1).f5.f1.f0) ((rd_T55 l0 x10_1).f5.f1.f1) ((rd_T55 l0 x10_1).f5.f1.f2) _ _ ((rd_T55 l0 x10_1).f6) ((rd_T55 l0 x10_1).f7) t128 _ ?side1 ?side2 A13.out (HGL.out.below (by repeat (first | (with_reducible first | exact HB.out | apply below_alloc | apply pw_below_drewN | apply below_drew1 | refine below_set ?_ GE127.out) | exact HB.out)))).mono ?_); (case side1 => exact Kd.C_below HR126_11.out (by repeat (first | (with_reducible first | exact HB.out | apply below_alloc | apply pw_below_drewN | apply below_drew1 | refine below_set ?_ GE127.out) | exact HB.out))); (case side2 => exact HC126_11.out); rintro e w15 ⟨rfl, hb⟩; have n0_ := Aside0.mk (blk_below (g := gb127) (o := .cells #[.int .i64 ((rd_T55 l0 x10_1).f0), .int .i64 ((rd_T55 l0 x10_1).f1), .string ((rd_T55 l0 x10_1).f2), .string ((rd_T55 l0 x10_1).f3), .int .i64 ((rd_T55 l0 x10_1).f4), .int .i64 ((rd_T55 l0 x10_1).f5.f0.f0), .int .i64 ((rd_T55 l0 x10_1).f5.f0.f1), .int .i64 ((rd_T55 l0 x10_1).f5.f0.f2), .int .i64 ((rd_T55 l0 x10_1).f5.f1.f0), .int .i64 ((rd_T55 l0 x10_1).f5.f1.f1), .int .i64 ((rd_T55 l0 x10_1).f5.f1.f2), .slice A126_11 ((rd_T55 l0 x10_1).f6).length c126_11, .int .i64 ((rd_T55 l0 x10_1).f7)] 55 (0, 0)) (by (with_reducible repeat (first | refine blk_drewN ?_ _ | refine blk_drew ?_ | refine blk_alloc ?_ _)); refine blk_put (cs := #[.int .i64 ((rd_T55 l0 x10_1).f0), .int .i64 ((rd_T55 l0 x10_1).f1), .string ((rd_T55 l0 x10_1).f2), .string ((rd_T55 l0 x10_1).f3), .int .i64 ((rd_T55 l0 x10_1).f4), .int .i64 ((rd_T55 l0 x10_1).f5.f0.f0), .int .i64 ((rd_T55 l0 x10_1).f5.f0.f1), .int .i64 ((rd_T55 l0 x10_1).f5.f0.f2), .int .i64 ((rd_T55 l0 x10_1).f5.f1.f0), .int .i64 ((rd_T55 l0 x10_1).f5.f1.f1), .int .i64 ((rd_T55 l0 x10_1).f5.f1.f2), .slice A126_11 ((rd_T55 l0 x10_1).f6).length c126_11, .int .i64 0]) ?_ 12 _ rfl; (with_reducible repeat (first | refine blk_drewN ?_ _ | refine blk_drew ?_ | refine blk_alloc ?_ _)); refine blk_put (cs := #[.int .i64 ((rd_T55 l0 x10_1).f0), .int .i64 ((rd_T55 l0 x10_1).f1), .string ((rd_T55 l0 x10_1).f2), .string ((rd_T55 l0 x10_1).f3), .int .i64 ((rd_T55 l0 x10_1).f4), .int .i64 ((rd_T55 l0 x10_1).f5.f0.f0), .int .i64 ((rd_T55 l0 x10_1).f5.f0.f1), .int .i64 ((rd_T55 l0 x10_1).f5.f0.f2), .int .i64 ((rd_T55 l0 x10_1).f5.f1.f0), .int .i64 ((rd_T55 l0 x10_1).f5.f1.f1), .int .i64 ((rd_T55 l0 x10_1).f5.f1.f2), .slice none 0 0, .int .i64 0]) ?_ 11 _ rfl; (with_reducible repeat (first | refine blk_drewN ?_ _ | refine blk_drew ?_ | refine blk_alloc ?_ _)); refine blk_put (cs := #[.int .i64 ((rd_T55 l0 x10_1).f0), .int .i64 ((rd_T55 l0 x10_1).f1), .string ((rd_T55 l0 x10_1).f2), .string ((rd_T55 l0 x10_1).f3), .int .i64 ((rd_T55 l0 x10_1).f4), .int .i64 ((rd_T55 l0 x10_1).f5.f0.f0), .int .i64 ((rd_T55 l0 x10_1).f5.f0.f1), .int .i64 ((rd_T55 l0 x10_1).f5.f0.f2), .int .i64 ((rd_T55 l0 x10_1).f5.f1.f0), .int .i64 ((rd_T55 l0 x10_1).f5.f1.f1), .int .i64 0, .slice none 0 0, .int .i64 0]) ?_ 10 _ rfl; (with_reducible repeat (first | refine blk_drewN ?_ _ | refine blk_drew ?_ | refine blk_alloc ?_ _)); refine blk_put (cs := #[.int .i64 ((rd_T55 l0 x10_1).f0), .int .i64 ((rd_T55 l0 x10_1).f1), .string ((rd_T55 l0 x10_1).f2), .string ((rd_T55 l0 x10_1).f3), .int .i64 ((rd_T55 l0 x10_1).f4), .int .i64 ((rd_T55 l0 x10_1).f5.f0.f0), .int .i64 ((rd_T55 l0 x10_1).f5.f0.f1), .int .i64 ((rd_T55 l0 x10_1).f5.f0.f2), .int .i64 ((rd_T55 l0 x10_1).f5.f1.f0), .int .i64 0, .int .i64 0, .slice none 0 0, .int .i64 0]) ?_ 9 _ rfl; (with_reducible repeat (first | refine blk_drewN ?_ _ | refine blk_drew ?_ | refine blk_alloc ?_ _)); refine blk_put (cs := #[.int .i64 ((rd_T55 l0 x10_1).f0), .int .i64 ((rd_T55 l0 x10_1).f1), .string ((rd_T55 l0 x10_1).f2), .string ((rd_T55 l0 x10_1).f3), .int .i64 ((rd_T55 l0 x10_1).f4), .int .i64 ((rd_T55 l0 x10_1).f5.f0.f0), .int .i64 ((rd_T55 l0 x10_1).f5.f0.f1), .int .i64 ((rd_T55 l0 x10_1).f5.f0.f2), .int .i64 0, .int .i64 0, .int .i64 0, .slice none 0 0, .int .i64 0]) ?_ 8 _ rfl; (with_reducible repeat (first | refine blk_drewN ?_ _ | refine blk_drew ?_ | refine blk_alloc ?_ _)); refine blk_put (cs := #[.int .i64 ((rd_T55 l0 x10_1).f0), .int .i64 ((rd_T55 l0 x10_1).f1), .string ((rd_T55 l0 x10_1).f2), .string ((rd_T55 l0 x10_1).f3), .int .i64 ((rd_T55 l0 x10_1).f4), .int .i64 ((rd_T55 l0 x10_1).f5.f0.f0), .int .i64 ((rd_T55 l0 x10_1).f5.f0.f1), .int .i64 0, .int .i64 0, .int .i64 0, .int .i64 0, .slice none 0 0, .int .i64 0]) ?_ 7 _ rfl; (with_reducible repeat (first | refine blk_drewN ?_ _ | refine blk_drew ?_ | refine blk_alloc ?_ _)); refine blk_put (cs := #[.int .i64 ((rd_T55 l0 x10_1).f0), .int .i64 ((rd_T55 l0 x10_1).f1), .string ((rd_T55 l0 x10_1).f2), .string ((rd_T55 l0 x10_1).f3), .int .i64 ((rd_T55 l0 x10_1).f4), .int .i64 ((rd_T55 l0 x10_1).f5.f0.f0), .int .i64 0, .int .i64 0, .int .i64 0, .int .i64 0, .int .i64 0, .slice none 0 0, .int .i64 0]) ?_ 6 _ rfl; (with_reducible repeat (first | refine blk_drewN ?_ _ | refine blk_drew ?_ | refine blk_alloc ?_ _)); refine blk_put (cs := #[.int .i64 ((rd_T55 l0 x10_1).f0), .int .i64 ((rd_T55 l0 x10_1).f1), .string ((rd_T55 l0 x10_1).f2), .string ((rd_T55 l0 x10_1).f3), .int .i64 ((rd_T55 l0 x10_1).f4), .int .i64 0, .int .i64 0, .int .i64 0, .int .i64 0, .int .i64 0, .int .i64 0, .slice none 0 0, .int .i64 0]) ?_ 5 _ rfl; (with_reducible repeat (first | refine blk_drewN ?_ _ | refine blk_drew ?_ | refine blk_alloc ?_ _)); refine blk_put (cs := #[.int .i64 ((rd_T55 l0 x10_1).f0), .int .i64 ((rd_T55 l0 x10_1).f1), .string ((rd_T55 l0 x10_1).f2), .string ((rd_T55 l0 x10_1).f3), .int .i64 0, .int .i64 0, .int .i64 0, .int .i64 0, .int .i64 0, .int .i64 0, .int .i64 0, .slice none 0 0, .int .i64 0]) ?_ 4 _ rfl; (with_reducible repeat (first | refine blk_drewN ?_ _ | refine blk_drew ?_ | refine blk_alloc ?_ _)); refine blk_put (cs := #[.int .i64 ((rd_T55 l0 x10_1).f0), .int .i64 ((rd_T55 l0 x10_1).f1), .string ((rd_T55 l0 x10_1).f2), .string (⟨#[]⟩ : ByteArray), .int .i64 0, .int .i64 0, .int .i64 0, .int .i64 0, .int .i64 0, .int .i64 0, .int .i64 0, .slice none 0 0, .int .i64 0]) ?_ 3 _ rfl; (with_reducible repeat (first | refine blk_drewN ?_ _ | refine blk_drew ?_ | refine blk_alloc ?_ _)); refine blk_put (cs := #[.int .i64 ((rd_T55 l0 x10_1).f0), .int .i64 ((rd_T55 l0 x10_1).f1), .string (⟨#[]⟩ : ByteArray), .string (⟨#[]⟩ : ByteArray), .int .i64 0, .int .i64 0, .int .i64 0, .int .i64 0, .int .i64 0, .int .i64 0, .int .i64 0, .slice none 0 0, .int .i64 0]) ?_ 2 _ rfl; (with_reducible repeat (first | refine blk_drewN ?_ _ | refine blk_drew ?_ | refine blk_alloc ?_ _)); refine blk_put (cs := #[.int .i64 ((rd_T55 l0 x10_1).f0), .int .i64 0, .string (⟨#[]⟩ : ByteArray), .string (⟨#[]⟩ : ByteArray), .int .i64 0, .int .i64 0, .int .i64 0, .int .i64 0, .int .i64 0, .int .i64 0, .int .i64 0, .slice none 0 0, .int .i64 0]) ?_ 1 _ rfl; (with_reducible repeat (first | refine blk_drewN ?_ _ | refine blk_drew ?_ | refine blk_alloc ?_ _)); refine blk_put (cs := #[.int .i64 0, .int .i64 0, .string (⟨#[]⟩ : ByteArray), .string (⟨#[]⟩ : ByteArray), .int .i64 0, .int .i64 0, .int .i64 0, .int .i64 0, .int .i64 0, .int .i64 0, .int .i64 0, .slice none 0 0, .int .i64 0]) ?_ 0 _ rfl; (with_reducible repeat (first | refine blk_drewN ?_ _ | refine blk_drew ?_ | refine blk_alloc ?_ _)); exact BK127.out) hb); have n1_ := Aside0.mk (below_step (by repeat (first | (with_reducible first | exact HB.out | apply below_alloc | apply pw_below_drewN | apply below_drew1 | refine below_set ?_ GE127.out) | exact HB.out)) hb); clear BK127; clear HB; have BK127 := n0_; have HB := n1_; clear n0_ n1_; (try clear hb); (try clear hb2); (try clear hk); (try clear hi)))
                    go_meet
                    case rel => exact ⟨_, (!t128), (by first | rfl | (simp; done) | (simp [*]; done)), H', ⟨by have := HK1.out; first | omega | exact Nat.le_refl _⟩, ⟨by (with_reducible repeat (first | refine blk_drewN ?_ _ | refine blk_drew ?_ | refine blk_alloc ?_ _)); exact BK127.out⟩, ⟨by repeat (first | (with_reducible first | exact HB.out | apply below_alloc | apply pw_below_drewN | apply below_drew1 | refine below_set ?_ GE127.out) | exact HB.out)⟩⟩
                · rw [if_neg c10] at H
                  have c10b0 : (((rd_T55 l0 x10_1).f0) == 7) = false := beq_eq_false_iff_ne.mpr c10
                  have c10b1 : (((rd_T55 l0 x10_1).f0) != 7) = true := bne_iff_ne.mpr c10
                  replace H := Option.bind_eq_some_iff.mp H
                  obtain ⟨t129, A160, H⟩ := H
                  replace H : (parser_count.j1 k1 a1 (wrap64 (x5_1 + 1)) l0 (l0.length : Int) x10_1 (!t129) ((rd_T55 l0 x10_1).f0) ((rd_T55 l0 x10_1).f1) ((rd_T55 l0 x10_1).f2) ((rd_T55 l0 x10_1).f3) ((rd_T55 l0 x10_1).f4) ((rd_T55 l0 x10_1).f5.f0.f0) ((rd_T55 l0 x10_1).f5.f0.f1) ((rd_T55 l0 x10_1).f5.f0.f2) ((rd_T55 l0 x10_1).f5.f1.f0) ((rd_T55 l0 x10_1).f5.f1.f1) ((rd_T55 l0 x10_1).f5.f1.f2) ((rd_T55 l0 x10_1).f6) ((rd_T55 l0 x10_1).f7)) = some r := H
                  have A16 := Aside0.mk A160
                  clear A160
                  have H' := Aside0.mk H
                  clear H
                  have hcz17_0 : w7.cell? ⟨gb127, 0, none⟩ = some (.int .i64 0) := (blk_cell BK127.out 0).trans rfl
                  have hcz17_1 : w7.cell? ⟨gb127, 1, none⟩ = some (.int .i64 0) := (blk_cell BK127.out 1).trans rfl
                  have hcz17_2 : w7.cell? ⟨gb127, 2, none⟩ = some (.string (⟨#[]⟩ : ByteArray)) := (blk_cell BK127.out 2).trans rfl
                  have hcz17_3 : w7.cell? ⟨gb127, 3, none⟩ = some (.string (⟨#[]⟩ : ByteArray)) := (blk_cell BK127.out 3).trans rfl
                  have hcz17_4 : w7.cell? ⟨gb127, 4, none⟩ = some (.int .i64 0) := (blk_cell BK127.out 4).trans rfl
                  have hcz17_5 : w7.cell? ⟨gb127, 5, none⟩ = some (.int .i64 0) := (blk_cell BK127.out 5).trans rfl
                  have hcz17_6 : w7.cell? ⟨gb127, 6, none⟩ = some (.int .i64 0) := (blk_cell BK127.out 6).trans rfl
                  have hcz17_7 : w7.cell? ⟨gb127, 7, none⟩ = some (.int .i64 0) := (blk_cell BK127.out 7).trans rfl
                  have hcz17_8 : w7.cell? ⟨gb127, 8, none⟩ = some (.int .i64 0) := (blk_cell BK127.out 8).trans rfl
                  have hcz17_9 : w7.cell? ⟨gb127, 9, none⟩ = some (.int .i64 0) := (blk_cell BK127.out 9).trans rfl
                  have hcz17_10 : w7.cell? ⟨gb127, 10, none⟩ = some (.int .i64 0) := (blk_cell BK127.out 10).trans rfl
                  have hcz17_11 : w7.cell? ⟨gb127, 11, none⟩ = some (.slice none 0 0) := (blk_cell BK127.out 11).trans rfl
                  have hcz17_12 : w7.cell? ⟨gb127, 12, none⟩ = some (.int .i64 0) := (blk_cell BK127.out 12).trans rfl
                  have hfz17_0 := blk_frozen BK127.out 0
                  have hfz17_1 := blk_frozen BK127.out 1
                  have hfz17_2 := blk_frozen BK127.out 2
                  have hfz17_3 := blk_frozen BK127.out 3
                  have hfz17_4 := blk_frozen BK127.out 4
                  have hfz17_5 := blk_frozen BK127.out 5
                  have hfz17_6 := blk_frozen BK127.out 6
                  have hfz17_7 := blk_frozen BK127.out 7
                  have hfz17_8 := blk_frozen BK127.out 8
                  have hfz17_9 := blk_frozen BK127.out 9
                  have hfz17_10 := blk_frozen BK127.out 10
                  have hfz17_11 := blk_frozen BK127.out 11
                  have hfz17_12 := blk_frozen BK127.out 12
                  go_wp2_with (first | (go_at_call 30; (with_reducible refine (parser_plain.calls k1 ((rd_T55 l0 x10_1).f0) ((rd_T55 l0 x10_1).f1) ((rd_T55 l0 x10_1).f2) ((rd_T55 l0 x10_1).f3) ((rd_T55 l0 x10_1).f4) ((rd_T55 l0 x10_1).f5.f0.f0) ((rd_T55 l0 x10_1).f5.f0.f1) ((rd_T55 l0 x10_1).f5.f0.f2) ((rd_T55 l0 x10_1).f5.f1.f0) ((rd_T55 l0 x10_1).f5.f1.f1) ((rd_T55 l0 x10_1).f5.f1.f2) _ _ ((rd_T55 l0 x10_1).f6) ((rd_T55 l0 x10_1).f7) t129 _ ?side1 ?side2 A16.out (HGL.out.below (by repeat (first | (with_reducible first | exact HB.out | apply below_alloc | apply pw_below_drewN | apply below_drew1 | refine below_set ?_ GE127.out) | exact HB.out)))).mono ?_); (case side1 => exact Kd.C_below HR126_11.out (by repeat (first | (with_reducible first | exact HB.out | apply below_alloc | apply pw_below_drewN | apply below_drew1 | refine below_set ?_ GE127.out) | exact HB.out))); (case side2 => exact HC126_11.out); rintro e w18 ⟨rfl, hb⟩; have n0_ := Aside0.mk (blk_below (g := gb127) (o := .cells #[.int .i64 ((rd_T55 l0 x10_1).f0), .int .i64 ((rd_T55 l0 x10_1).f1), .string ((rd_T55 l0 x10_1).f2), .string ((rd_T55 l0 x10_1).f3), .int .i64 ((rd_T55 l0 x10_1).f4), .int .i64 ((rd_T55 l0 x10_1).f5.f0.f0), .int .i64 ((rd_T55 l0 x10_1).f5.f0.f1), .int .i64 ((rd_T55 l0 x10_1).f5.f0.f2), .int .i64 ((rd_T55 l0 x10_1).f5.f1.f0), .int .i64 ((rd_T55 l0 x10_1).f5.f1.f1), .int .i64 ((rd_T55 l0 x10_1).f5.f1.f2), .slice A126_11 ((rd_T55 l0 x10_1).f6).length c126_11, .int .i64 ((rd_T55 l0 x10_1).f7)] 55 (0, 0)) (by (with_reducible repeat (first | refine blk_drewN ?_ _ | refine blk_drew ?_ | refine blk_alloc ?_ _)); refine blk_put (cs := #[.int .i64 ((rd_T55 l0 x10_1).f0), .int .i64 ((rd_T55 l0 x10_1).f1), .string ((rd_T55 l0 x10_1).f2), .string ((rd_T55 l0 x10_1).f3), .int .i64 ((rd_T55 l0 x10_1).f4), .int .i64 ((rd_T55 l0 x10_1).f5.f0.f0), .int .i64 ((rd_T55 l0 x10_1).f5.f0.f1), .int .i64 ((rd_T55 l0 x10_1).f5.f0.f2), .int .i64 ((rd_T55 l0 x10_1).f5.f1.f0), .int .i64 ((rd_T55 l0 x10_1).f5.f1.f1), .int .i64 ((rd_T55 l0 x10_1).f5.f1.f2), .slice A126_11 ((rd_T55 l0 x10_1).f6).length c126_11, .int .i64 0]) ?_ 12 _ rfl; (with_reducible repeat (first | refine blk_drewN ?_ _ | refine blk_drew ?_ | refine blk_alloc ?_ _)); refine blk_put (cs := #[.int .i64 ((rd_T55 l0 x10_1).f0), .int .i64 ((rd_T55 l0 x10_1).f1), .string ((rd_T55 l0 x10_1).f2), .string ((rd_T55 l0 x10_1).f3), .int .i64 ((rd_T55 l0 x10_1).f4), .int .i64 ((rd_T55 l0 x10_1).f5.f0.f0), .int .i64 ((rd_T55 l0 x10_1).f5.f0.f1), .int .i64 ((rd_T55 l0 x10_1).f5.f0.f2), .int .i64 ((rd_T55 l0 x10_1).f5.f1.f0), .int .i64 ((rd_T55 l0 x10_1).f5.f1.f1), .int .i64 ((rd_T55 l0 x10_1).f5.f1.f2), .slice none 0 0, .int .i64 0]) ?_ 11 _ rfl; (with_reducible repeat (first | refine blk_drewN ?_ _ | refine blk_drew ?_ | refine blk_alloc ?_ _)); refine blk_put (cs := #[.int .i64 ((rd_T55 l0 x10_1).f0), .int .i64 ((rd_T55 l0 x10_1).f1), .string ((rd_T55 l0 x10_1).f2), .string ((rd_T55 l0 x10_1).f3), .int .i64 ((rd_T55 l0 x10_1).f4), .int .i64 ((rd_T55 l0 x10_1).f5.f0.f0), .int .i64 ((rd_T55 l0 x10_1).f5.f0.f1), .int .i64 ((rd_T55 l0 x10_1).f5.f0.f2), .int .i64 ((rd_T55 l0 x10_1).f5.f1.f0), .int .i64 ((rd_T55 l0 x10_1).f5.f1.f1), .int .i64 0, .slice none 0 0, .int .i64 0]) ?_ 10 _ rfl; (with_reducible repeat (first | refine blk_drewN ?_ _ | refine blk_drew ?_ | refine blk_alloc ?_ _)); refine blk_put (cs := #[.int .i64 ((rd_T55 l0 x10_1).f0), .int .i64 ((rd_T55 l0 x10_1).f1), .string ((rd_T55 l0 x10_1).f2), .string ((rd_T55 l0 x10_1).f3), .int .i64 ((rd_T55 l0 x10_1).f4), .int .i64 ((rd_T55 l0 x10_1).f5.f0.f0), .int .i64 ((rd_T55 l0 x10_1).f5.f0.f1), .int .i64 ((rd_T55 l0 x10_1).f5.f0.f2), .int .i64 ((rd_T55 l0 x10_1).f5.f1.f0), .int .i64 0, .int .i64 0, .slice none 0 0, .int .i64 0]) ?_ 9 _ rfl; (with_reducible repeat (first | refine blk_drewN ?_ _ | refine blk_drew ?_ | refine blk_alloc ?_ _)); refine blk_put (cs := #[.int .i64 ((rd_T55 l0 x10_1).f0), .int .i64 ((rd_T55 l0 x10_1).f1), .string ((rd_T55 l0 x10_1).f2), .string ((rd_T55 l0 x10_1).f3), .int .i64 ((rd_T55 l0 x10_1).f4), .int .i64 ((rd_T55 l0 x10_1).f5.f0.f0), .int .i64 ((rd_T55 l0 x10_1).f5.f0.f1), .int .i64 ((rd_T55 l0 x10_1).f5.f0.f2), .int .i64 0, .int .i64 0, .int .i64 0, .slice none 0 0, .int .i64 0]) ?_ 8 _ rfl; (with_reducible repeat (first | refine blk_drewN ?_ _ | refine blk_drew ?_ | refine blk_alloc ?_ _)); refine blk_put (cs := #[.int .i64 ((rd_T55 l0 x10_1).f0), .int .i64 ((rd_T55 l0 x10_1).f1), .string ((rd_T55 l0 x10_1).f2), .string ((rd_T55 l0 x10_1).f3), .int .i64 ((rd_T55 l0 x10_1).f4), .int .i64 ((rd_T55 l0 x10_1).f5.f0.f0), .int .i64 ((rd_T55 l0 x10_1).f5.f0.f1), .int .i64 0, .int .i64 0, .int .i64 0, .int .i64 0, .slice none 0 0, .int .i64 0]) ?_ 7 _ rfl; (with_reducible repeat (first | refine blk_drewN ?_ _ | refine blk_drew ?_ | refine blk_alloc ?_ _)); refine blk_put (cs := #[.int .i64 ((rd_T55 l0 x10_1).f0), .int .i64 ((rd_T55 l0 x10_1).f1), .string ((rd_T55 l0 x10_1).f2), .string ((rd_T55 l0 x10_1).f3), .int .i64 ((rd_T55 l0 x10_1).f4), .int .i64 ((rd_T55 l0 x10_1).f5.f0.f0), .int .i64 0, .int .i64 0, .int .i64 0, .int .i64 0, .int .i64 0, .slice none 0 0, .int .i64 0]) ?_ 6 _ rfl; (with_reducible repeat (first | refine blk_drewN ?_ _ | refine blk_drew ?_ | refine blk_alloc ?_ _)); refine blk_put (cs := #[.int .i64 ((rd_T55 l0 x10_1).f0), .int .i64 ((rd_T55 l0 x10_1).f1), .string ((rd_T55 l0 x10_1).f2), .string ((rd_T55 l0 x10_1).f3), .int .i64 ((rd_T55 l0 x10_1).f4), .int .i64 0, .int .i64 0, .int .i64 0, .int .i64 0, .int .i64 0, .int .i64 0, .slice none 0 0, .int .i64 0]) ?_ 5 _ rfl; (with_reducible repeat (first | refine blk_drewN ?_ _ | refine blk_drew ?_ | refine blk_alloc ?_ _)); refine blk_put (cs := #[.int .i64 ((rd_T55 l0 x10_1).f0), .int .i64 ((rd_T55 l0 x10_1).f1), .string ((rd_T55 l0 x10_1).f2), .string ((rd_T55 l0 x10_1).f3), .int .i64 0, .int .i64 0, .int .i64 0, .int .i64 0, .int .i64 0, .int .i64 0, .int .i64 0, .slice none 0 0, .int .i64 0]) ?_ 4 _ rfl; (with_reducible repeat (first | refine blk_drewN ?_ _ | refine blk_drew ?_ | refine blk_alloc ?_ _)); refine blk_put (cs := #[.int .i64 ((rd_T55 l0 x10_1).f0), .int .i64 ((rd_T55 l0 x10_1).f1), .string ((rd_T55 l0 x10_1).f2), .string (⟨#[]⟩ : ByteArray), .int .i64 0, .int .i64 0, .int .i64 0, .int .i64 0, .int .i64 0, .int .i64 0, .int .i64 0, .slice none 0 0, .int .i64 0]) ?_ 3 _ rfl; (with_reducible repeat (first | refine blk_drewN ?_ _ | refine blk_drew ?_ | refine blk_alloc ?_ _)); refine blk_put (cs := #[.int .i64 ((rd_T55 l0 x10_1).f0), .int .i64 ((rd_T55 l0 x10_1).f1), .string (⟨#[]⟩ : ByteArray), .string (⟨#[]⟩ : ByteArray), .int .i64 0, .int .i64 0, .int .i64 0, .int .i64 0, .int .i64 0, .int .i64 0, .int .i64 0, .slice none 0 0, .int .i64 0]) ?_ 2 _ rfl; (with_reducible repeat (first | refine blk_drewN ?_ _ | refine blk_drew ?_ | refine blk_alloc ?_ _)); refine blk_put (cs := #[.int .i64 ((rd_T55 l0 x10_1).f0), .int .i64 0, .string (⟨#[]⟩ : ByteArray), .string (⟨#[]⟩ : ByteArray), .int .i64 0, .int .i64 0, .int .i64 0, .int .i64 0, .int .i64 0, .int .i64 0, .int .i64 0, .slice none 0 0, .int .i64 0]) ?_ 1 _ rfl; (with_reducible repeat (first | refine blk_drewN ?_ _ | refine blk_drew ?_ | refine blk_alloc ?_ _)); refine blk_put (cs := #[.int .i64 0, .int .i64 0, .string (⟨#[]⟩ : ByteArray), .string (⟨#[]⟩ : ByteArray), .int .i64 0, .int .i64 0, .int .i64 0, .int .i64 0, .int .i64 0, .int .i64 0, .int .i64 0, .slice none 0 0, .int .i64 0]) ?_ 0 _ rfl; (with_reducible repeat (first | refine blk_drewN ?_ _ | refine blk_drew ?_ | refine blk_alloc ?_ _)); exact BK127.out) hb); have n1_ := Aside0.mk (below_step (by repeat (first | (with_reducible first | exact HB.out | apply below_alloc | apply pw_below_drewN | apply below_drew1 | refine below_set ?_ GE127.out) | exact HB.out)) hb); clear BK127; clear HB; have BK127 := n0_; have HB := n1_; clear n0_ n1_; (try clear hb); (try clear hb2); (try clear hk); (try clear hi)))
                  go_meet
                  case rel => exact ⟨_, (!t129), (by first | rfl | (simp; done) | (simp [*]; done)), H', ⟨by have := HK1.out; first | omega | exact Nat.le_refl _⟩, ⟨by (with_reducible repeat (first | refine blk_drewN ?_ _ | refine blk_drew ?_ | refine blk_alloc ?_ _)); exact BK127.out⟩, ⟨by repeat (first | (with_reducible first | exact HB.out | apply below_alloc | apply pw_below_drewN | apply below_drew1 | refine below_set ?_ GE127.out) | exact HB.out)⟩⟩
            case rest =>
              clear HC6
              try clear c1
              try clear p1
              try clear q1
              try clear hx1
              try clear c2
              try clear p2
              try clear c3
              try clear c3b0
              try clear c4
              try clear c4b0
              try clear c5
              try clear c5b0
              try clear p6
              try clear c9
              try clear c9b0
              try clear c10
              try clear c10b0
              try clear c10b1
              try clear c11
              try clear c11b0
              try clear c11b1
              try clear c12
              try clear p12
              try clear q12
              try clear hx12
              try clear hcz12_0
              try clear hcz12_1
              try clear hcz12_10
              try clear hcz12_11
              try clear hcz12_12
              try clear hcz12_2
              try clear hcz12_3
              try clear hcz12_4
              try clear hcz12_5
              try clear hcz12_6
              try clear hcz12_7
              try clear hcz12_8
              try clear hcz12_9
              try clear hcz14_0
              try clear hcz14_1
              try clear hcz14_10
              try clear hcz14_11
              try clear hcz14_12
              try clear hcz14_2
              try clear hcz14_3
              try clear hcz14_4
              try clear hcz14_5
              try clear hcz14_6
              try clear hcz14_7
              try clear hcz14_8
              try clear hcz14_9
              try clear hcz17_0
              try clear hcz17_1
              try clear hcz17_10
              try clear hcz17_11
              try clear hcz17_12
              try clear hcz17_2
              try clear hcz17_3
              try clear hcz17_4
              try clear hcz17_5
              try clear hcz17_6
              try clear hcz17_7
              try clear hcz17_8
              try clear hcz17_9
              try clear hcz8_0
              try clear hcz8_1
              try clear hcz8_10
              try clear hcz8_11
              try clear hcz8_12
              try clear hcz8_2
              try clear hcz8_3
              try clear hcz8_4
              try clear hcz8_5
              try clear hcz8_6
              try clear hcz8_7
              try clear hcz8_8
              try clear hcz8_9
              try clear hfz12_0
              try clear hfz12_1
              try clear hfz12_10
              try clear hfz12_11
              try clear hfz12_12
              try clear hfz12_2
              try clear hfz12_3
              try clear hfz12_4
              try clear hfz12_5
              try clear hfz12_6
              try clear hfz12_7
              try clear hfz12_8
              try clear hfz12_9
              try clear hfz14_0
              try clear hfz14_1
              try clear hfz14_10
              try clear hfz14_11
              try clear hfz14_12
              try clear hfz14_2
              try clear hfz14_3
              try clear hfz14_4
              try clear hfz14_5
              try clear hfz14_6
              try clear hfz14_7
              try clear hfz14_8
              try clear hfz14_9
              try clear hfz17_0
              try clear hfz17_1
              try clear hfz17_10
              try clear hfz17_11
              try clear hfz17_12
              try clear hfz17_2
              try clear hfz17_3
              try clear hfz17_4
              try clear hfz17_5
              try clear hfz17_6
              try clear hfz17_7
              try clear hfz17_8
              try clear hfz17_9
              try clear hfz8_0
              try clear hfz8_1
              try clear hfz8_10
              try clear hfz8_11
              try clear hfz8_12
              try clear hfz8_2
              try clear hfz8_3
              try clear hfz8_4
              try clear hfz8_5
              try clear hfz8_6
              try clear hfz8_7
              try clear hfz8_8
              try clear hfz8_9
              try clear hx126_0
              try clear hx126_1
              try clear hx126_10
              try clear hx126_11
              try clear hx126_12
              try clear hx126_2
              try clear hx126_3
              try clear hx126_4
              try clear hx126_5
              try clear hx126_6
              try clear hx126_7
              try clear hx126_8
              try clear hx126_9
              try clear p126
              try clear p2
              try clear q126
              obtain ⟨kq, x31_5, rfl, HA, HJ5, BK127, HB⟩ := hcut
              cases kq with
              | zero => exact absurd HA.out (by simp [parser_count.j1])
              | succ kj5 =>
                have H := HA.out
                clear HA
                simp only [parser_count.j1] at H
                by_cases c19 : x31_5 = true
                · subst c19
                  have H1 : (some 65) = some r := by rw [if_pos rfl] at H; exact H
                  clear H
                  have H := H1
                  clear H1
                  obtain rfl := Option.some.inj H
                  go_wp2
                  go_ret
                  exact ⟨by first | rfl | (simp [errW_none, errW_some] <;> rfl) | (simp [*, errW_none, errW_some] <;> rfl), by repeat (first | (with_reducible first | exact HB.out | apply below_alloc | apply pw_below_drewN | apply below_drew1 | refine below_set ?_ GE127.out) | exact HB.out)⟩
                · replace c19 := Bool.eq_false_iff.mpr c19
                  subst c19
                  have H1 : (if ((rd_T55 l0 x10_1).f0) = 7 then ((parser_count.f kj5 ((rd_T55 l0 x10_1).f6) (wrap64 (a1 + 1))).bind fun t130 => (parser_count.l0 kj5 a1 (wrap64 ((wrap64 (x5_1 + 1)) + t130)) l0 (l0.length : Int) (wrap64 (x10_1 + 1)))) else (parser_count.l0 kj5 a1 (wrap64 (x5_1 + 1)) l0 (l0.length : Int) (wrap64 (x10_1 + 1)))) = some r := by rw [if_neg (show ¬ (false = true) by decide)] at H; exact H
                  clear H
                  have H := H1
                  clear H1
                  by_cases c20 : ((rd_T55 l0 x10_1).f0) = 7
                  · rw [if_pos c20] at H
                    have c20b0 : (((rd_T55 l0 x10_1).f0) == 7) = true := beq_iff_eq.mpr c20
                    have c20b1 : (((rd_T55 l0 x10_1).f0) != 7) = false := bne_eq_false_iff_eq.mpr c20
                    clear c20
                    replace H := Option.bind_eq_some_iff.mp H
                    obtain ⟨t130, A210, H⟩ := H
                    replace H : (parser_count.l0 kj5 a1 (wrap64 ((wrap64 (x5_1 + 1)) + t130)) l0 (l0.length : Int) (wrap64 (x10_1 + 1))) = some r := H
                    have A21 := Aside0.mk A210
                    clear A210
                    have H' := Aside0.mk H
                    clear H
                    have hcz22_0 : wc.cell? ⟨gb127, 0, none⟩ = some (.int .i64 ((rd_T55 l0 x10_1).f0)) := (blk_cell BK127.out 0).trans rfl
                    have hcz22_1 : wc.cell? ⟨gb127, 1, none⟩ = some (.int .i64 ((rd_T55 l0 x10_1).f1)) := (blk_cell BK127.out 1).trans rfl
                    have hcz22_2 : wc.cell? ⟨gb127, 2, none⟩ = some (.string ((rd_T55 l0 x10_1).f2)) := (blk_cell BK127.out 2).trans rfl
                    have hcz22_3 : wc.cell? ⟨gb127, 3, none⟩ = some (.string ((rd_T55 l0 x10_1).f3)) := (blk_cell BK127.out 3).trans rfl
                    have hcz22_4 : wc.cell? ⟨gb127, 4, none⟩ = some (.int .i64 ((rd_T55 l0 x10_1).f4)) := (blk_cell BK127.out 4).trans rfl
                    have hcz22_5 : wc.cell? ⟨gb127, 5, none⟩ = some (.int .i64 ((rd_T55 l0 x10_1).f5.f0.f0)) := (blk_cell BK127.out 5).trans rfl
                    have hcz22_6 : wc.cell? ⟨gb127, 6, none⟩ = some (.int .i64 ((rd_T55 l0 x10_1).f5.f0.f1)) := (blk_cell BK127.out 6).trans rfl
                    have hcz22_7 : wc.cell? ⟨gb127, 7, none⟩ = some (.int .i64 ((rd_T55 l0 x10_1).f5.f0.f2)) := (blk_cell BK127.out 7).trans rfl
                    have hcz22_8 : wc.cell? ⟨gb127, 8, none⟩ = some (.int .i64 ((rd_T55 l0 x10_1).f5.f1.f0)) := (blk_cell BK127.out 8).trans rfl
                    have hcz22_9 : wc.cell? ⟨gb127, 9, none⟩ = some (.int .i64 ((rd_T55 l0 x10_1).f5.f1.f1)) := (blk_cell BK127.out 9).trans rfl
                    have hcz22_10 : wc.cell? ⟨gb127, 10, none⟩ = some (.int .i64 ((rd_T55 l0 x10_1).f5.f1.f2)) := (blk_cell BK127.out 10).trans rfl
                    have hcz22_11 : wc.cell? ⟨gb127, 11, none⟩ = some (.slice A126_11 ((rd_T55 l0 x10_1).f6).length c126_11) := (blk_cell BK127.out 11).trans rfl
                    have hcz22_12 : wc.cell? ⟨gb127, 12, none⟩ = some (.int .i64 ((rd_T55 l0 x10_1).f7)) := (blk_cell BK127.out 12).trans rfl
                    have hfz22_0 := blk_frozen BK127.out 0
                    have hfz22_1 := blk_frozen BK127.out 1
                    have hfz22_2 := blk_frozen BK127.out 2
                    have hfz22_3 := blk_frozen BK127.out 3
                    have hfz22_4 := blk_frozen BK127.out 4
                    have hfz22_5 := blk_frozen BK127.out 5
                    have hfz22_6 := blk_frozen BK127.out 6
                    have hfz22_7 := blk_frozen BK127.out 7
                    have hfz22_8 := blk_frozen BK127.out 8
                    have hfz22_9 := blk_frozen BK127.out 9
                    have hfz22_10 := blk_frozen BK127.out 10
                    have hfz22_11 := blk_frozen BK127.out 11
                    have hfz22_12 := blk_frozen BK127.out 12
                    go_wp2_with (first | ((with_reducible refine gate_callee (f := 21) rfl ?_); refine goesL_ (some 40) rfl rfl Tryd.func21 (by kernel_rfl) rfl #[.slice A126_11 ((rd_T55 l0 x10_1).f6).length c126_11, .int .i64 (wrap64 (a1 + 1))] rfl (by (try simp only [List.map_toArray, List.map_cons, List.map_nil]); first | done | rfl | (simp only [List.length_drop, List.length_take]; rfl)) ?_; (with_reducible refine (ih kj5 (by have := HK1.out; have := HJ5.out; omega) _ _ ((rd_T55 l0 x10_1).f6) (wrap64 (a1 + 1)) t130 _ ?side1 ?side2 A21.out (HGL.out.below (by repeat (first | (with_reducible first | exact HB.out | apply below_alloc | apply pw_below_drewN | apply below_drew1 | refine below_set ?_ GE127.out) | exact HB.out)))).mono ?_); (case side1 => repeat (first | exact (Kd.C_below HR126_11.out HB.out) | (with_reducible refine Kd.C_alloc ?_ _) | (with_reducible refine Kd.C_drewN ?_ _) | (with_reducible refine Kd.C_drew ?_))); (case side2 => exact HC126_11.out); rintro e w23 ⟨rfl, hb⟩; refine ⟨_, rfl, ?_⟩; have n0_ := Aside0.mk (blk_below (g := gb127) (o := .cells #[.int .i64 ((rd_T55 l0 x10_1).f0), .int .i64 ((rd_T55 l0 x10_1).f1), .string ((rd_T55 l0 x10_1).f2), .string ((rd_T55 l0 x10_1).f3), .int .i64 ((rd_T55 l0 x10_1).f4), .int .i64 ((rd_T55 l0 x10_1).f5.f0.f0), .int .i64 ((rd_T55 l0 x10_1).f5.f0.f1), .int .i64 ((rd_T55 l0 x10_1).f5.f0.f2), .int .i64 ((rd_T55 l0 x10_1).f5.f1.f0), .int .i64 ((rd_T55 l0 x10_1).f5.f1.f1), .int .i64 ((rd_T55 l0 x10_1).f5.f1.f2), .slice A126_11 ((rd_T55 l0 x10_1).f6).length c126_11, .int .i64 ((rd_T55 l0 x10_1).f7)] 55 (0, 0)) (by (with_reducible repeat (first | refine blk_drewN ?_ _ | refine blk_drew ?_ | refine blk_alloc ?_ _)); exact BK127.out) hb); have n1_ := Aside0.mk (below_step (by repeat (first | (with_reducible first | exact HB.out | apply below_alloc | apply pw_below_drewN | apply below_drew1 | refine below_set ?_ GE127.out) | exact HB.out)) hb); clear BK127; clear HB; have BK127 := n0_; have HB := n1_; clear n0_ n1_; (try clear hb); (try clear hb2); (try clear hk); (try clear hi)))
                    go_roundg kj5
                    case measure => have := HK1.out; have := HJ5.out; omega
                    case rel => exact ⟨(wrap64 ((wrap64 (x5_1 + 1)) + t130)), (wrap64 (x10_1 + 1)), (by first | rfl | (simp; done) | (simp [*]; done)), (by first | rfl | (simp; done) | (simp [*]; done)), H', ⟨by have := HK1.out; have := HJ5.out; omega⟩, ⟨by repeat (first | (with_reducible first | exact HB.out | apply below_alloc | apply pw_below_drewN | apply below_drew1 | refine below_set ?_ GE127.out) | exact HB.out)⟩⟩
                  · rw [if_neg c20] at H
                    have c20b0 : (((rd_T55 l0 x10_1).f0) == 7) = false := beq_eq_false_iff_ne.mpr c20
                    have c20b1 : (((rd_T55 l0 x10_1).f0) != 7) = true := bne_iff_ne.mpr c20
                    have H' := Aside0.mk H
                    clear H
                    have hcz24_0 : wc.cell? ⟨gb127, 0, none⟩ = some (.int .i64 ((rd_T55 l0 x10_1).f0)) := (blk_cell BK127.out 0).trans rfl
                    have hcz24_1 : wc.cell? ⟨gb127, 1, none⟩ = some (.int .i64 ((rd_T55 l0 x10_1).f1)) := (blk_cell BK127.out 1).trans rfl
                    have hcz24_2 : wc.cell? ⟨gb127, 2, none⟩ = some (.string ((rd_T55 l0 x10_1).f2)) := (blk_cell BK127.out 2).trans rfl
                    have hcz24_3 : wc.cell? ⟨gb127, 3, none⟩ = some (.string ((rd_T55 l0 x10_1).f3)) := (blk_cell BK127.out 3).trans rfl
                    have hcz24_4 : wc.cell? ⟨gb127, 4, none⟩ = some (.int .i64 ((rd_T55 l0 x10_1).f4)) := (blk_cell BK127.out 4).trans rfl
                    have hcz24_5 : wc.cell? ⟨gb127, 5, none⟩ = some (.int .i64 ((rd_T55 l0 x10_1).f5.f0.f0)) := (blk_cell BK127.out 5).trans rfl
                    have hcz24_6 : wc.cell? ⟨gb127, 6, none⟩ = some (.int .i64 ((rd_T55 l0 x10_1).f5.f0.f1)) := (blk_cell BK127.out 6).trans rfl
                    have hcz24_7 : wc.cell? ⟨gb127, 7, none⟩ = some (.int .i64 ((rd_T55 l0 x10_1).f5.f0.f2)) := (blk_cell BK127.out 7).trans rfl
                    have hcz24_8 : wc.cell? ⟨gb127, 8, none⟩ = some (.int .i64 ((rd_T55 l0 x10_1).f5.f1.f0)) := (blk_cell BK127.out 8).trans rfl
                    have hcz24_9 : wc.cell? ⟨gb127, 9, none⟩ = some (.int .i64 ((rd_T55 l0 x10_1).f5.f1.f1)) := (blk_cell BK127.out 9).trans rfl
                    have hcz24_10 : wc.cell? ⟨gb127, 10, none⟩ = some (.int .i64 ((rd_T55 l0 x10_1).f5.f1.f2)) := (blk_cell BK127.out 10).trans rfl
                    have hcz24_11 : wc.cell? ⟨gb127, 11, none⟩ = some (.slice A126_11 ((rd_T55 l0 x10_1).f6).length c126_11) := (blk_cell BK127.out 11).trans rfl
                    have hcz24_12 : wc.cell? ⟨gb127, 12, none⟩ = some (.int .i64 ((rd_T55 l0 x10_1).f7)) := (blk_cell BK127.out 12).trans rfl
                    have hfz24_0 := blk_frozen BK127.out 0
                    have hfz24_1 := blk_frozen BK127.out 1
                    have hfz24_2 := blk_frozen BK127.out 2
                    have hfz24_3 := blk_frozen BK127.out 3
                    have hfz24_4 := blk_frozen BK127.out 4
                    have hfz24_5 := blk_frozen BK127.out 5
                    have hfz24_6 := blk_frozen BK127.out 6
                    have hfz24_7 := blk_frozen BK127.out 7
                    have hfz24_8 := blk_frozen BK127.out 8
                    have hfz24_9 := blk_frozen BK127.out 9
                    have hfz24_10 := blk_frozen BK127.out 10
                    have hfz24_11 := blk_frozen BK127.out 11
                    have hfz24_12 := blk_frozen BK127.out 12
                    go_wp2
                    go_roundg kj5
                    case measure => have := HK1.out; have := HJ5.out; omega
                    case rel => exact ⟨((wrap64 (x5_1 + 1))), (wrap64 (x10_1 + 1)), (by first | rfl | (simp; done) | (simp [*]; done)), (by first | rfl | (simp; done) | (simp [*]; done)), H', ⟨by have := HK1.out; have := HJ5.out; omega⟩, ⟨by repeat (first | (with_reducible first | exact HB.out | apply below_alloc | apply pw_below_drewN | apply below_drew1 | refine below_set ?_ GE127.out) | exact HB.out)⟩⟩
          · rw [if_neg c5] at H
            exact absurd H (by simp)
        · rw [if_neg c4] at H
          exact absurd H (by simp)
      · rw [if_neg c3] at H
        have c3b0 : decide (x10_1 < (l0.length : Int)) = false := decide_eq_false c3
        clear c3
        obtain rfl := Option.some.inj H
        go_wp2
        go_ret
        exact ⟨by first | rfl | (simp [errW_none, errW_some] <;> rfl) | (simp [*, errW_none, errW_some] <;> rfl), by repeat (first | (with_reducible first | exact HB.out | apply below_alloc | apply pw_below_drewN | apply below_drew1) | exact HB.out)⟩
def parser_Valid.f (k : Nat) (l0 : List (S55)) : Option (Bool) := (parser_count.f k l0 0).bind fun t131 => (some (decide (t131 ≤ 64)))
theorem parser_Valid.mono : ∀ a0 k, LeO (parser_Valid.f k a0) (parser_Valid.f (k + 1) a0) := by
  intro a0 k
  unfold parser_Valid.f
  repeat' first
      | (with_reducible exact parser_count.mono _ _ _)
      | (with_reducible exact LeO.refl _)
      | (with_reducible exact LeO.none _)
      | (with_reducible refine LeO.ite ?_ ?_)
      | (with_reducible refine LeO.bind ?_ (fun _ => ?_))
      | exact parser_count.mono _ _ _
      | exact LeO.none _
      | refine LeO.ite ?_ ?_
      | refine LeO.bind ?_ (fun _ => ?_)
set_option maxHeartbeats 8000000 in
set_option maxRecDepth 100000 in
theorem parser_Valid.calls (k : Nat) (A0 : Option Addr) (c0 : Nat) (l0 : List (S55)) (r : Bool) (w : World) (hr0 : Kd.C k55 w A0 l0.length l0) (hc0 : l0.length ≤ c0) (h : parser_Valid.f k l0 = some r) (hG : Glob w) :
    Calls Tryd.prog 11 #[.slice A0 l0.length c0] w fun e w' => e = .returned (.bool r) ∧ Below w.heap.size w w' := by
  have HGL := Aside0.mk hG
  clear hG
  have HR0 := Aside0.mk hr0
  have HC0 := Aside0.mk hc0
  clear hr0 hc0
  have HB := Aside0.mk (Below.refl w.heap.size w)
  have H : ((parser_count.f k l0 0).bind fun t131 => (some (decide (t131 ≤ 64)))) = some r := h
  clear h
  replace H := Option.bind_eq_some_iff.mp H
  obtain ⟨t131, A20, H⟩ := H
  replace H : (some (decide (t131 ≤ 64))) = some r := H
  have A2 := Aside0.mk A20
  clear A20
  obtain rfl := Option.some.inj H
  go_enter Tryd.func11, Tryd.ntmps11
  go_wp2_with (first | ((with_reducible refine gate_callee (f := 21) rfl ?_); refine goesL_ (some 4) rfl rfl Tryd.func21 (by kernel_rfl) rfl #[.slice A0 l0.length c0, .int .i64 0] rfl (by (try simp only [List.map_toArray, List.map_cons, List.map_nil]); first | done | rfl | (simp only [List.length_drop, List.length_take]; rfl)) ?_; (with_reducible refine (parser_count.calls k _ _ l0 0 t131 _ ?side1 ?side2 A2.out (HGL.out.below (by repeat (first | (with_reducible first | exact HB.out | apply below_alloc | apply pw_below_drewN | apply below_drew1) | exact HB.out)))).mono ?_); (case side1 => repeat (first | exact HR0.out | (with_reducible refine Kd.C_alloc ?_ _) | (with_reducible refine Kd.C_drewN ?_ _) | (with_reducible refine Kd.C_drew ?_))); (case side2 => exact HC0.out); rintro e w3 ⟨rfl, hb⟩; refine ⟨_, rfl, ?_⟩; have n0_ := Aside0.mk (below_step (by repeat (first | (with_reducible first | exact HB.out | apply below_alloc | apply pw_below_drewN | apply below_drew1) | exact HB.out)) hb); clear HB; have HB := n0_; clear n0_; (try clear hb); (try clear hb2); (try clear hk); (try clear hi)))
  go_ret
  exact ⟨by first | rfl | (simp [errW_none, errW_some] <;> rfl) | (simp [*, errW_none, errW_some] <;> rfl), by repeat (first | (with_reducible first | exact HB.out | apply below_alloc | apply pw_below_drewN | apply below_drew1) | exact HB.out)⟩
end Go.Proofs.YtonhcfecfifghaaDoor.PPx
namespace Go.Proofs.YtonhcfecfifghaaDoor.PPx
open Go.RowKit Go.Proofs.YtonhcfecfifghaaDoorW.PrintWords Go.Proofs.YtonhcfecfifghaaDoorW.PrintLast Go.Proofs.YtonhcfecfifghaaDoorW.PrintMore
set_option linter.unusedVariables false
/-- a name -/
def NameOK (s : ByteArray) : Prop := TokText 1 s ∧ s.size ≤ 12 ∧ isWord s = false
def none0 : ByteArray := ⟨#[]⟩
/-- a statement that is valid, its kids apart -/
inductive PlainOK : S55 → Prop where
  | go0 {q : S52} {a : Int} (h : SmallQ q) : PlainOK ⟨1, 0, none0, none0, 0, ⟨q, zJ⟩, [], a⟩
  | go1 {q : S52} {a : Int} (h : SmallQ q) : PlainOK ⟨1, 1, none0, none0, 0, ⟨zJ, q⟩, [], a⟩
  | home {m a : Int} (h : m = 0 ∨ m = 1) : PlainOK ⟨2, m, none0, none0, 0, ⟨zJ, zJ⟩, [], a⟩
  | pick {m a : Int} {s : ByteArray} (h : m = 0 ∨ m = 1) (hs : NameOK s) : PlainOK ⟨3, m, s, none0, 0, ⟨zJ, zJ⟩, [], a⟩
  | put {m a : Int} {s : ByteArray} (h : m = 0 ∨ m = 1) (hs : NameOK s) : PlainOK ⟨4, m, none0, s, 0, ⟨zJ, zJ⟩, [], a⟩
  | hand {m a : Int} {s : ByteArray} (h : m = 0 ∨ m = 1) (hs : NameOK s) : PlainOK ⟨5, m, none0, s, 0, ⟨zJ, zJ⟩, [], a⟩
  | wait {n a : Int} (h : Small n) : PlainOK ⟨6, 0, none0, none0, n, ⟨zJ, zJ⟩, [], a⟩
  | when_ {s t : ByteArray} {l : List S55} {a : Int} (hs : NameOK s) (ht : NameOK t) : PlainOK ⟨7, 0, s, t, 0, ⟨zJ, zJ⟩, l, a⟩
  | both {q p : S52} {a : Int} (h : SmallQ q) (g : SmallQ p) : PlainOK ⟨8, 0, none0, none0, 0, ⟨q, p⟩, [], a⟩
/-- the tokens of a statement's line -/
def lineK (x : S55) : List (Int × ByteArray) :=
  if x.f0 = 1 then [(1, wGo), (2, numB x.f1)] ++ triK (if x.f1 = 0 then x.f5.f0 else x.f5.f1) ++ [(3, semi)]
  else if x.f0 = 2 then [(1, wHome), (2, numB x.f1), (3, semi)]
  else if x.f0 = 3 then [(1, wPick), (2, numB x.f1), (1, x.f2), (3, semi)]
  else if x.f0 = 4 then [(1, wPut), (2, numB x.f1), (1, x.f3), (3, semi)]
  else if x.f0 = 5 then [(1, wHand), (2, numB x.f1), (1, x.f3), (3, semi)]
  else if x.f0 = 6 then [(1, wWait), (2, numB x.f4), (3, semi)]
  else if x.f0 = 7 then [(1, wWhen), (1, x.f3), (1, x.f2), (3, obr)]
  else [(1, wBoth)] ++ triK x.f5.f0 ++ triK x.f5.f1 ++ [(3, semi)]
theorem small_arm {m : Int} (h : m = 0 ∨ m = 1) : Small m := by rcases h with rfl | rfl <;> exact ⟨by decide, by decide⟩
theorem l_name {s : ByteArray} (h : NameOK s) : LexK s true [(1, s)] := .tok h.1
theorem l_gosp : LexK ⟨#[103, 111, 32]⟩ false [(1, wGo)] := k_go.hard l_sp s_sp
theorem l_homesp : LexK ⟨#[104, 111, 109, 101, 32]⟩ false [(1, wHome)] := k_home.hard l_sp s_sp
theorem l_waitsp : LexK ⟨#[119, 97, 105, 116, 32]⟩ false [(1, wWait)] := k_wait.hard l_sp s_sp
theorem l_whensp : LexK ⟨#[119, 104, 101, 110, 32]⟩ false [(1, wWhen)] := k_when.hard l_sp s_sp
theorem l_bothsp : LexK ⟨#[98, 111, 116, 104, 32]⟩ false [(1, wBoth)] := k_both.hard l_sp s_sp
theorem l_spobr : LexK ⟨#[32, 123]⟩ false [(3, obr)] := l_sp.soft l_obr
theorem s_spobr : SoftHd ⟨#[32, 123]⟩ := ⟨by decide, by constructor <;> decide +kernel⟩
theorem fit_small {s : ByteArray} (h : s.size ≤ 1000000) : fitS s = some s := by unfold fitS; rw [if_pos (by omega)]
theorem app_none (x : ByteArray) : x ++ none0 = x := by apply ByteArray.ext; simp [ByteArray.data_append, none0]
/-- the line of a valid statement, its tokens, its size -/
theorem line_ok {x : S55} (h : PlainOK x) : ∃ s, lineF x = some s ∧ LexK s false (lineK x) ∧ s.size ≤ 100 := by
  cases h with
  | @go0 q a h =>
    have e0 : (⟨#[103, 111, 32]⟩ : ByteArray).size = 3 := rfl
    have e1 : (⟨#[32]⟩ : ByteArray).size = 1 := rfl
    have e2 : (⟨#[59]⟩ : ByteArray).size = 1 := rfl
    have h1 := num_size (n := 0) (small_arm (.inl rfl))
    have h2 := tri_size h
    have hsz : (lineGo (numB 0) (triB q)).size ≤ 100 := by
      simp only [lineGo, app_size, e0, e1, e2]
      omega
    refine ⟨lineGo (numB 0) (triB q), ?_, ?_, hsz⟩
    · show ((itoaS 0).bind fun a => (tripleF q).bind fun t => fitS (lineGo a t)) = _
      rw [itoaS_small (small_arm (.inl rfl)), tripleF_small h]
      exact fit_small (by omega)
    · exact ((((l_gosp.soft (l_num (small_arm (.inl rfl)))).hard l_sp s_sp).soft (l_tri h)).soft l_semi)
  | @go1 q a h =>
    have e0 : (⟨#[103, 111, 32]⟩ : ByteArray).size = 3 := rfl
    have e1 : (⟨#[32]⟩ : ByteArray).size = 1 := rfl
    have e2 : (⟨#[59]⟩ : ByteArray).size = 1 := rfl
    have h1 := num_size (n := 1) (small_arm (.inr rfl))
    have h2 := tri_size h
    have hsz : (lineGo (numB 1) (triB q)).size ≤ 100 := by
      simp only [lineGo, app_size, e0, e1, e2]
      omega
    refine ⟨lineGo (numB 1) (triB q), ?_, ?_, hsz⟩
    · show ((itoaS 1).bind fun a => (tripleF q).bind fun t => fitS (lineGo a t)) = _
      rw [itoaS_small (small_arm (.inr rfl)), tripleF_small h]
      exact fit_small (by omega)
    · exact ((((l_gosp.soft (l_num (small_arm (.inr rfl)))).hard l_sp s_sp).soft (l_tri h)).soft l_semi)
  | @home m a h =>
    have e0 : (⟨#[104, 111, 109, 101, 32]⟩ : ByteArray).size = 5 := rfl
    have e1 : (⟨#[59]⟩ : ByteArray).size = 1 := rfl
    have h1 := num_size (small_arm h)
    have hsz : (lineOne ⟨#[104, 111, 109, 101, 32]⟩ (numB m)).size ≤ 100 := by
      simp only [lineOne, app_size, e0, e1]
      omega
    refine ⟨lineOne ⟨#[104, 111, 109, 101, 32]⟩ (numB m), ?_, ?_, hsz⟩
    · show ((itoaS m).bind fun a => fitS (lineOne ⟨#[104, 111, 109, 101, 32]⟩ a)) = _
      rw [itoaS_small (small_arm h)]
      exact fit_small (by omega)
    · exact ((l_homesp.soft (l_num (small_arm h))).hard l_semi s_semi)
  | @pick m a s h hs =>
    have e0 : (⟨#[112, 105, 99, 107]⟩ : ByteArray).size = 4 := rfl
    have e1 : (⟨#[32]⟩ : ByteArray).size = 1 := rfl
    have e2 : (⟨#[59]⟩ : ByteArray).size = 1 := rfl
    have e3 : none0.size = 0 := rfl
    have h1 := num_size (small_arm h)
    have h2 := hs.2.1
    have hsz : (lineName ⟨#[112, 105, 99, 107]⟩ (numB m) s none0).size ≤ 100 := by
      simp only [lineName, app_size, e0, e1, e2, e3]
      omega
    refine ⟨lineName ⟨#[112, 105, 99, 107]⟩ (numB m) s none0, ?_, ?_, hsz⟩
    · show ((itoaS m).bind fun a => fitS (lineName ⟨#[112, 105, 99, 107]⟩ a s none0)) = _
      rw [itoaS_small (small_arm h)]
      exact fit_small (by omega)
    · have e : lineName ⟨#[112, 105, 99, 107]⟩ (numB m) s none0 = (((((⟨#[112, 105, 99, 107]⟩ ++ ⟨#[32]⟩) ++ numB m) ++ ⟨#[32]⟩) ++ s) ++ ⟨#[59]⟩ : ByteArray) := by
        simp only [lineName]
        rw [app_none]
      rw [e]
      exact (((((k_pick.hard l_sp s_sp).soft (l_num (small_arm h))).hard l_sp s_sp).soft (l_name hs)).hard l_semi s_semi)
  | @put m a s h hs =>
    have e0 : (⟨#[112, 117, 116]⟩ : ByteArray).size = 3 := rfl
    have e1 : (⟨#[32]⟩ : ByteArray).size = 1 := rfl
    have e2 : (⟨#[59]⟩ : ByteArray).size = 1 := rfl
    have e3 : none0.size = 0 := rfl
    have h1 := num_size (small_arm h)
    have h2 := hs.2.1
    have hsz : (lineName ⟨#[112, 117, 116]⟩ (numB m) none0 s).size ≤ 100 := by
      simp only [lineName, app_size, e0, e1, e2, e3]
      omega
    refine ⟨lineName ⟨#[112, 117, 116]⟩ (numB m) none0 s, ?_, ?_, hsz⟩
    · show ((itoaS m).bind fun a => fitS (lineName ⟨#[112, 117, 116]⟩ a none0 s)) = _
      rw [itoaS_small (small_arm h)]
      exact fit_small (by omega)
    · have e : lineName ⟨#[112, 117, 116]⟩ (numB m) none0 s = (((((⟨#[112, 117, 116]⟩ ++ ⟨#[32]⟩) ++ numB m) ++ ⟨#[32]⟩) ++ s) ++ ⟨#[59]⟩ : ByteArray) := by
        simp only [lineName]
        rw [app_none]
      rw [e]
      exact (((((k_put.hard l_sp s_sp).soft (l_num (small_arm h))).hard l_sp s_sp).soft (l_name hs)).hard l_semi s_semi)
  | @hand m a s h hs =>
    have e0 : (⟨#[104, 97, 110, 100]⟩ : ByteArray).size = 4 := rfl
    have e1 : (⟨#[32]⟩ : ByteArray).size = 1 := rfl
    have e2 : (⟨#[59]⟩ : ByteArray).size = 1 := rfl
    have e3 : none0.size = 0 := rfl
    have h1 := num_size (small_arm h)
    have h2 := hs.2.1
    have hsz : (lineName ⟨#[104, 97, 110, 100]⟩ (numB m) none0 s).size ≤ 100 := by
      simp only [lineName, app_size, e0, e1, e2, e3]
      omega
    refine ⟨lineName ⟨#[104, 97, 110, 100]⟩ (numB m) none0 s, ?_, ?_, hsz⟩
    · show ((itoaS m).bind fun a => fitS (lineName ⟨#[104, 97, 110, 100]⟩ a none0 s)) = _
      rw [itoaS_small (small_arm h)]
      exact fit_small (by omega)
    · have e : lineName ⟨#[104, 97, 110, 100]⟩ (numB m) none0 s = (((((⟨#[104, 97, 110, 100]⟩ ++ ⟨#[32]⟩) ++ numB m) ++ ⟨#[32]⟩) ++ s) ++ ⟨#[59]⟩ : ByteArray) := by
        simp only [lineName]
        rw [app_none]
      rw [e]
      exact (((((k_hand.hard l_sp s_sp).soft (l_num (small_arm h))).hard l_sp s_sp).soft (l_name hs)).hard l_semi s_semi)
  | @wait n a h =>
    have e0 : (⟨#[119, 97, 105, 116, 32]⟩ : ByteArray).size = 5 := rfl
    have e1 : (⟨#[59]⟩ : ByteArray).size = 1 := rfl
    have h1 := num_size h
    have hsz : (lineOne ⟨#[119, 97, 105, 116, 32]⟩ (numB n)).size ≤ 100 := by
      simp only [lineOne, app_size, e0, e1]
      omega
    refine ⟨lineOne ⟨#[119, 97, 105, 116, 32]⟩ (numB n), ?_, ?_, hsz⟩
    · show ((itoaS n).bind fun a => fitS (lineOne ⟨#[119, 97, 105, 116, 32]⟩ a)) = _
      rw [itoaS_small h]
      exact fit_small (by omega)
    · exact ((l_waitsp.soft (l_num h)).hard l_semi s_semi)
  | @when_ s t l a hs ht =>
    have e0 : (⟨#[119, 104, 101, 110, 32]⟩ : ByteArray).size = 5 := rfl
    have e1 : (⟨#[32]⟩ : ByteArray).size = 1 := rfl
    have e2 : (⟨#[32, 123]⟩ : ByteArray).size = 2 := rfl
    have h1 := hs.2.1
    have h2 := ht.2.1
    have hsz : (lineWhen t s).size ≤ 100 := by
      simp only [lineWhen, app_size, e0, e1, e2]
      omega
    refine ⟨lineWhen t s, ?_, ?_, hsz⟩
    · show fitS (lineWhen t s) = _
      exact fit_small (by omega)
    · exact ((((l_whensp.soft (l_name ht)).hard l_sp s_sp).soft (l_name hs)).hard l_spobr s_spobr)
  | @both q p a h g =>
    have e0 : (⟨#[98, 111, 116, 104, 32]⟩ : ByteArray).size = 5 := rfl
    have e1 : (⟨#[32]⟩ : ByteArray).size = 1 := rfl
    have e2 : (⟨#[59]⟩ : ByteArray).size = 1 := rfl
    have h1 := tri_size h
    have h2 := tri_size g
    have hsz : (lineBoth (triB q) (triB p)).size ≤ 100 := by
      simp only [lineBoth, app_size, e0, e1, e2]
      omega
    refine ⟨lineBoth (triB q) (triB p), ?_, ?_, hsz⟩
    · show ((tripleF q).bind fun t => (tripleF p).bind fun u => fitS (lineBoth t u)) = _
      rw [tripleF_small h, tripleF_small g]
      exact fit_small (by omega)
    · exact ((((l_bothsp.soft (l_tri h)).soft l_sp).soft (l_tri g)).soft l_semi)
end Go.Proofs.YtonhcfecfifghaaDoor.PPx
namespace Go.Proofs.YtonhcfecfifghaaDoor.PPx
open Go.RowKit Go.Proofs.YtonhcfecfifghaaDoorW.PrintWords Go.Proofs.YtonhcfecfifghaaDoorW.PrintLast Go.Proofs.YtonhcfecfifghaaDoorW.PrintMore
set_option linter.unusedVariables false
/-- valid statements: how deep they may still nest, how many they are, their tokens -/
inductive VLs : Nat → List S55 → Nat → List (Int × ByteArray) → Prop where
  | nil (d : Nat) : VLs d [] 0 []
  | plain {d n : Nat} {x : S55} {l : List S55} {ks : List (Int × ByteArray)} : PlainOK x → x.f0 ≠ 7 → VLs d l n ks → VLs d (x :: l) (n + 1) (lineK x ++ ks)
  | when_ {d n m : Nat} {x : S55} {l : List S55} {ks ls : List (Int × ByteArray)} : PlainOK x → x.f0 = 7 → VLs d x.f6 m ls → VLs (d + 1) l n ks → VLs (d + 1) (x :: l) (n + m + 1) (lineK x ++ (ls ++ ((3, cbr) :: ks)))
theorem l_cbrnl : LexK ⟨#[125, 10]⟩ false [(3, cbr)] := l_cbr.soft l_nl
theorem l_none : LexK ⟨#[]⟩ false [] := .blank (fun x h0 h1 => by exact absurd h1 (by show ¬ x < 0; omega))
theorem blank_sp2 : Blank ⟨#[32, 32]⟩ := blank_append (a := ⟨#[32]⟩) (b := ⟨#[32]⟩) (blank_one (by decide +kernel)) (blank_one (by decide +kernel))
theorem written_ok {d n : Nat} {l : List S55} {ks : List (Int × ByteArray)} (h : VLs d l n ks) : ∀ (k : Nat) (ins : ByteArray), d < k → Blank ins → ins.size + 2 * d ≤ 20 → ∃ out, writtenF k ins l = some out ∧ LexK out false ks ∧ out.size ≤ n * 200 := by
  induction h with
  | nil d =>
    intro k ins hk hb hi
    obtain ⟨k, rfl⟩ : ∃ k', k = k' + 1 := ⟨k - 1, by omega⟩
    exact ⟨⟨#[]⟩, rfl, l_none, Nat.zero_le _⟩
  | @plain d n x l ks hx h7 hl ih =>
    intro k ins hk hb hi
    obtain ⟨k, rfl⟩ : ∃ k', k = k' + 1 := ⟨k - 1, by omega⟩
    obtain ⟨u, hu, hlu, hsu⟩ := ih (k + 1) ins hk hb hi
    obtain ⟨s, hs, hls, hss⟩ := line_ok hx
    have hkid : kidsW (writtenF k) ins x = some ⟨#[]⟩ := by unfold kidsW; rw [if_neg h7]
    refine ⟨(((ins ++ s) ++ ⟨#[10]⟩) ++ ⟨#[]⟩) ++ u, ?_, ?_, ?_⟩
    · show ((lineF x).bind fun s => (kidsW (writtenF k) ins x).bind fun t => (writtenL (writtenF k) ins l).bind fun u => some ((((ins ++ s) ++ ⟨#[10]⟩) ++ t) ++ u)) = _
      rw [hs, hkid, show writtenL (writtenF k) ins l = some u from hu]
      rfl
    · have := ((((LexK.blank hb).soft hls).soft l_nl).soft l_none).soft hlu
      simpa using this
    · have e1 : (⟨#[10]⟩ : ByteArray).size = 1 := rfl
      have e2 : (⟨#[]⟩ : ByteArray).size = 0 := rfl
      simp only [app_size, e1, e2]
      omega
  | @when_ d n m x l ks ls hx h7 hk hl ihk ihl =>
    intro k ins hk hb hi
    obtain ⟨k, rfl⟩ : ∃ k', k = k' + 1 := ⟨k - 1, by omega⟩
    obtain ⟨u, hu, hlu, hsu⟩ := ihl (k + 1) ins hk hb hi
    obtain ⟨t, ht, hlt, hst⟩ := ihk k (ins ++ ⟨#[32, 32]⟩) (by omega) (blank_append hb blank_sp2) (by
      have e1 : (⟨#[32, 32]⟩ : ByteArray).size = 2 := rfl
      rw [app_size, e1]; omega)
    obtain ⟨s, hs, hls, hss⟩ := line_ok hx
    have hkid : kidsW (writtenF k) ins x = some (t ++ (ins ++ ⟨#[125, 10]⟩)) := by unfold kidsW; rw [if_pos h7, ht]; rfl
    refine ⟨(((ins ++ s) ++ ⟨#[10]⟩) ++ (t ++ (ins ++ ⟨#[125, 10]⟩))) ++ u, ?_, ?_, ?_⟩
    · show ((lineF x).bind fun s => (kidsW (writtenF k) ins x).bind fun t => (writtenL (writtenF k) ins l).bind fun u => some ((((ins ++ s) ++ ⟨#[10]⟩) ++ t) ++ u)) = _
      rw [hs, hkid, show writtenL (writtenF k) ins l = some u from hu]
      rfl
    · have := (((((LexK.blank hb).soft hls).soft l_nl).soft (hlt.soft ((LexK.blank hb).soft l_cbrnl))).soft hlu)
      simpa using this
    · have e1 : (⟨#[10]⟩ : ByteArray).size = 1 := rfl
      have e2 : (⟨#[125, 10]⟩ : ByteArray).size = 2 := rfl
      simp only [app_size, e1, e2]
      omega
/-- Format of valid statements -/
theorem format_ok {d n : Nat} {l : List S55} {ks : List (Int × ByteArray)} (h : VLs d l n ks) (hd : d ≤ 10) (hn : n ≤ 100) : ∃ out ts, (∀ k, d < k → parser_Format.f k l = some out) ∧ lexB out = (ts, 0, 0) ∧ kt ts = ks ∧ out.size ≤ 20000 := by
  obtain ⟨out, ho, ⟨ts, hts, hkt⟩, hsz⟩ := written_ok h (d + 1) ⟨#[]⟩ (by omega) (fun x h0 h1 => by exact absurd h1 (by show ¬ x < 0; omega)) (by show 0 + 2 * d ≤ 20; omega)
  refine ⟨out, ts, fun k hk => ?_, hts.lex (by omega), hkt, by omega⟩
  have hm : ∀ j, writtenF (d + 1 + j) ⟨#[]⟩ l = some out := by
    intro j
    induction j with
    | zero => exact ho
    | succ j ih => exact written_le _ _ _ _ ih
  have := hm (k - (d + 1))
  rw [show d + 1 + (k - (d + 1)) = k by omega] at this
  unfold parser_Format.f
  rw [this]
  show (if out.size ≤ 140737488355328 then some out else none) = _
  rw [if_pos (by omega)]
end Go.Proofs.YtonhcfecfifghaaDoor.PPx
namespace Go.Proofs.YtonhcfecfifghaaDoor.PPx
open Go.RowKit Go.Proofs.YtonhcfecfifghaaDoorW.PrintWords Go.Proofs.YtonhcfecfifghaaDoorW.PrintLast Go.Proofs.YtonhcfecfifghaaDoorW.PrintMore
set_option linter.unusedVariables false
theorem decFrom_app : ∀ (l m : List UInt8) (acc : Nat), Lib.decFrom acc (l ++ m) = (Lib.decFrom acc l).bind fun a => Lib.decFrom a m
  | [], m, acc => rfl
  | b :: l, m, acc => by
    simp only [List.cons_append, Lib.decFrom]
    cases Lib.digitVal b with
    | none => rfl
    | some d => exact decFrom_app l m _
theorem digit_val {d : Nat} (h : d < 10) : Lib.digitVal (UInt8.ofNat (48 + d)) = some d := by
  have : ∀ x : Fin 10, Lib.digitVal (UInt8.ofNat (48 + x.val)) = some x.val := by decide
  exact this ⟨d, h⟩
theorem decFrom_dec : ∀ (u acc : Nat), Lib.decFrom acc (Lib.decDigits u) = some (acc * 10 ^ Lib.nDigits u + u) := by
  intro u
  induction u using Nat.strongRecOn with
  | _ u ih =>
    intro acc
    by_cases h : u < 10
    · rw [Lib.decDigits, dif_pos h, Lib.nDigits_small h]
      simp only [Lib.decFrom, digit_val h, Nat.pow_one]
    · rw [Lib.decDigits, dif_neg h, decFrom_app, ih (u / 10) (by omega), Lib.nDigits_big h]
      simp only [Option.bind_some, Lib.decFrom, digit_val (Nat.mod_lt u (show 0 < 10 by decide))]
      congr 1
      rw [Nat.pow_succ, Nat.add_mul]
      have : acc * 10 ^ Lib.nDigits (u / 10) * 10 = acc * (10 ^ Lib.nDigits (u / 10) * 10) := Nat.mul_assoc _ _ _
      omega
theorem dec_ne (u : Nat) : Lib.decDigits u ≠ [] := fun h => by
  have := Lib.decDigits_length u
  have h2 := Lib.nDigits_pos u
  rw [h] at this; simp at this; omega
theorem decNat_dec (u : Nat) : Lib.decNat (Lib.decDigits u) = some u := by
  unfold Lib.decNat
  have : (Lib.decDigits u).isEmpty = false := by
    cases h : Lib.decDigits u with
    | nil => exact absurd h (dec_ne u)
    | cons => rfl
  rw [this]
  simp only [Bool.false_eq_true, if_false]
  rw [decFrom_dec]; simp
theorem dec_head (u : Nat) : ∃ b r, Lib.decDigits u = b :: r ∧ 48 ≤ b.toNat ∧ b.toNat ≤ 57 := by
  cases h : Lib.decDigits u with
  | nil => exact absurd h (dec_ne u)
  | cons b r =>
    refine ⟨b, r, rfl, ?_⟩
    have hl : 0 < (Lib.decDigits u).length := by rw [h]; simp
    have := dec_at u 0 hl
    simp only [h, List.getElem_cons_zero] at this
    have h2 := Nat.mod_lt (u / 10 ^ (Lib.nDigits u - 1 - 0)) (show 0 < 10 by decide)
    omega
theorem atoi_itoa (n : Int) : Lib.atoi (Lib.itoa n) = some n := by
  rcases Int.lt_or_le n 0 with hn | hn
  · obtain ⟨u, rfl⟩ : ∃ u : Nat, n = -(u : Int) := ⟨n.natAbs, by omega⟩
    rw [Lib.itoa_neg u (by omega)]
    show (if ((45 : UInt8) == 45) = true then (Lib.decNat (Lib.decDigits u)).map fun (m : Nat) => -(m : Int) else if ((45 : UInt8) == 43) = true then (Lib.decNat (Lib.decDigits u)).map fun (m : Nat) => (m : Int) else (Lib.decNat (45 :: Lib.decDigits u)).map fun (m : Nat) => (m : Int)) = _
    rw [if_pos (by decide), decNat_dec]
    rfl
  · obtain ⟨u, rfl⟩ := Int.eq_ofNat_of_zero_le hn
    rw [Lib.itoa_nonneg u]
    obtain ⟨b, r, e, h1, h2⟩ := dec_head u
    rw [e]
    show (if (b == 45) = true then (Lib.decNat r).map fun (m : Nat) => -(m : Int) else if (b == 43) = true then (Lib.decNat r).map fun (m : Nat) => (m : Int) else (Lib.decNat (b :: r)).map fun (m : Nat) => (m : Int)) = _
    have n1 : ¬ (b == 45) = true := by intro h; have := eq_of_beq h; subst this; revert h1; decide
    have n2 : ¬ (b == 43) = true := by intro h; have := eq_of_beq h; subst this; revert h1; decide
    rw [if_neg n1, if_neg n2, ← e, decNat_dec]
    rfl
theorem numOf_numB (n a : Int) : numOf ⟨2, numB n, a⟩ = n := by
  unfold numOf numB
  rw [show ((⟨2, ⟨(Lib.itoa n).toArray⟩, a⟩ : S44).f1.data.toList) = Lib.itoa n from rfl, atoi_itoa]
  rfl
theorem kt_cons {ts : List S44} {k : Int} {w : ByteArray} {ks : List (Int × ByteArray)} (h : kt ts = (k, w) :: ks) : ∃ a ts', ts = ⟨k, w, a⟩ :: ts' ∧ kt ts' = ks := by
  cases ts with
  | nil => simp [kt] at h
  | cons t ts =>
    simp only [kt, List.map_cons, List.cons.injEq, Prod.mk.injEq] at h
    obtain ⟨⟨h1, h2⟩, h3⟩ := h
    obtain ⟨t0, t1, t2⟩ := t
    simp only at h1 h2
    subst h1 h2
    exact ⟨t2, ts, rfl, h3⟩
theorem take_ok {p : S44 → Bool} {fin : Int} {t : S44} {ts : List S44} {n : Int} {fl : List S35} {o : Bool} (h0 : t.f0 ≠ 0) (hp : p t = true) : takeS p fin ⟨t :: ts, n, fl, o⟩ = (.ok t, ⟨ts, n, fl, o⟩) := by
  have : ¬ (t.f0 == 0 || !p t) = true := by simp [h0, hp]
  simp only [takeS, if_neg this]
theorem sign_ok {c : ByteArray} {fin a : Int} {ts : List S44} {n : Int} {fl : List S35} {o : Bool} : signS c fin ⟨⟨3, c, a⟩ :: ts, n, fl, o⟩ = (.ok ⟨3, c, a⟩, ⟨ts, n, fl, o⟩) := take_ok (by simp) (by simp [isSign])
theorem sign_opar {fin a : Int} {ts : List S44} {n : Int} {fl : List S35} {o : Bool} : signS ⟨#[40]⟩ fin ⟨⟨3, opar, a⟩ :: ts, n, fl, o⟩ = (.ok ⟨3, opar, a⟩, ⟨ts, n, fl, o⟩) := sign_ok
theorem sign_cpar {fin a : Int} {ts : List S44} {n : Int} {fl : List S35} {o : Bool} : signS ⟨#[41]⟩ fin ⟨⟨3, cpar, a⟩ :: ts, n, fl, o⟩ = (.ok ⟨3, cpar, a⟩, ⟨ts, n, fl, o⟩) := sign_ok
theorem sign_comma {fin a : Int} {ts : List S44} {n : Int} {fl : List S35} {o : Bool} : signS ⟨#[44]⟩ fin ⟨⟨3, comma, a⟩ :: ts, n, fl, o⟩ = (.ok ⟨3, comma, a⟩, ⟨ts, n, fl, o⟩) := sign_ok
theorem sign_semi {fin a : Int} {ts : List S44} {n : Int} {fl : List S35} {o : Bool} : signS ⟨#[59]⟩ fin ⟨⟨3, semi, a⟩ :: ts, n, fl, o⟩ = (.ok ⟨3, semi, a⟩, ⟨ts, n, fl, o⟩) := sign_ok
theorem sign_obr {fin a : Int} {ts : List S44} {n : Int} {fl : List S35} {o : Bool} : signS ⟨#[123]⟩ fin ⟨⟨3, obr, a⟩ :: ts, n, fl, o⟩ = (.ok ⟨3, obr, a⟩, ⟨ts, n, fl, o⟩) := sign_ok
theorem sign_cbr {fin a : Int} {ts : List S44} {n : Int} {fl : List S35} {o : Bool} : signS ⟨#[125]⟩ fin ⟨⟨3, cbr, a⟩ :: ts, n, fl, o⟩ = (.ok ⟨3, cbr, a⟩, ⟨ts, n, fl, o⟩) := sign_ok
theorem number_ok {m fin a : Int} {ts : List S44} {n : Int} {fl : List S35} {o : Bool} : numberS fin ⟨⟨2, numB m, a⟩ :: ts, n, fl, o⟩ = (.ok m, ⟨ts, n, fl, o⟩) := by
  unfold numberS
  rw [take_ok (by simp) (by simp [isNumber])]
  simp only [Step.map, numOf_numB]
theorem numB0 : numB 0 = ⟨#[48]⟩ := by unfold numB; rw [show (0 : Int) = ((0 : Nat) : Int) from rfl, Lib.itoa_nonneg, Lib.decDigits_one (by decide)]; rfl
theorem numB1 : numB 1 = ⟨#[49]⟩ := by unfold numB; rw [show (1 : Int) = ((1 : Nat) : Int) from rfl, Lib.itoa_nonneg, Lib.decDigits_one (by decide)]; rfl
theorem arm_ok {m fin a : Int} {ts : List S44} {n : Int} {fl : List S35} {o : Bool} (h : m = 0 ∨ m = 1) : armS fin ⟨⟨2, numB m, a⟩ :: ts, n, fl, o⟩ = (.ok m, ⟨ts, n, fl, o⟩) := by
  unfold armS
  rcases h with rfl | rfl
  · have e : (⟨#[48]⟩ : ByteArray).toList = [48] := by decide +kernel
    rw [numB0, take_ok (by simp) (by simp only [isArm, e]; rfl)]
    simp only [Step.map, armOf, e]
    rfl
  · have e : (⟨#[49]⟩ : ByteArray).toList = [49] := by decide +kernel
    rw [numB1, take_ok (by simp) (by simp only [isArm, e]; rfl)]
    simp only [Step.map, armOf, e]
    rfl
theorem name_ok {w : ByteArray} {fin a : Int} {ts : List S44} {n : Int} {fl : List S35} {o : Bool} (h : NameOK w) : nameS fin ⟨⟨1, w, a⟩ :: ts, n, fl, o⟩ = (.ok w, ⟨ts, n, fl, o⟩) := by
  unfold nameS
  rw [take_ok (by simp) (by have := h.2.1; have := h.2.2; simp [isNamed]; exact ⟨by omega, by assumption⟩)]
  rfl
theorem triple_ok {q : S52} {ts : List S44} {ks : List (Int × ByteArray)} (h : kt ts = triK q ++ ks) : ∃ us, kt us = ks ∧ ∀ (fin n : Int) (fl : List S35) (o : Bool), tripleS fin ⟨ts, n, fl, o⟩ = (.ok q, ⟨us, n, fl, o⟩) := by
  obtain ⟨a0, ts, rfl, g0⟩ := kt_cons h
  obtain ⟨a1, ts, rfl, g1⟩ := kt_cons g0
  obtain ⟨a2, ts, rfl, g2⟩ := kt_cons g1
  obtain ⟨a3, ts, rfl, g3⟩ := kt_cons g2
  obtain ⟨a4, ts, rfl, g4⟩ := kt_cons g3
  obtain ⟨a5, ts, rfl, g5⟩ := kt_cons g4
  obtain ⟨a6, ts, rfl, g6⟩ := kt_cons g5
  refine ⟨ts, g6, fun fin n fl o => ?_⟩
  unfold tripleS
  rw [sign_opar]
  simp only [Step.bind, number_ok]
  unfold tri1
  rw [sign_comma]
  simp only [Step.bind, number_ok]
  unfold tri2
  rw [sign_comma]
  simp only [Step.bind, number_ok]
  unfold tri3
  rw [sign_cpar]
  rfl
/-- a statement with another place -/
def atA (x : S55) (a : Int) : S55 := ⟨x.f0, x.f1, x.f2, x.f3, x.f4, x.f5, x.f6, a⟩
theorem key_ok {w : ByteArray} {fin a : Int} {ts : List S44} {n : Int} {fl : List S35} {o : Bool} (h : isWord w = true) : takeS isKey fin ⟨⟨1, w, a⟩ :: ts, n, fl, o⟩ = (.ok ⟨1, w, a⟩, ⟨ts, n, fl, o⟩) := take_ok (by simp) (by simp [isKey, h])
theorem ix_go : isWord wGo = true ∧ wordIx wGo = 1 := by decide +kernel
theorem ix_home : isWord wHome = true ∧ wordIx wHome = 2 := by decide +kernel
theorem ix_pick : isWord wPick = true ∧ wordIx wPick = 3 := by decide +kernel
theorem ix_put : isWord wPut = true ∧ wordIx wPut = 4 := by decide +kernel
theorem ix_hand : isWord wHand = true ∧ wordIx wHand = 5 := by decide +kernel
theorem ix_wait : isWord wWait = true ∧ wordIx wWait = 6 := by decide +kernel
theorem ix_when : isWord wWhen = true ∧ wordIx wWhen = 7 := by decide +kernel
theorem ix_both : isWord wBoth = true ∧ wordIx wBoth = 8 := by decide +kernel
theorem semiS_ok {x : S55} {fin a : Int} {ts : List S44} {n : Int} {fl : List S35} {o : Bool} : semiS fin x ⟨⟨3, semi, a⟩ :: ts, n, fl, o⟩ = some (.ok x, ⟨ts, n, fl, o⟩) := by
  unfold semiS
  rw [sign_semi]
  rfl
/-- a plain statement's tokens give the statement -/
theorem stmt_plain {x : S55} (hx : PlainOK x) (h7 : x.f0 ≠ 7) {ts : List S44} {ks : List (Int × ByteArray)} (h : kt ts = lineK x ++ ks) :
    ∃ a us, kt us = ks ∧ ∀ (rec : Int → Rs → Option (List S55 × Rs)) (fin deep n : Int) (fl : List S35) (o : Bool), stmtS rec fin deep ⟨ts, n, fl, o⟩ = some (.ok (atA x a), ⟨us, n, fl, o⟩) := by
  cases hx with
  | @go0 q a0 hq =>
    obtain ⟨a, ts, rfl, g0⟩ := kt_cons (show kt ts = (1, wGo) :: ((2, numB 0) :: (triK q ++ ((3, semi) :: ks))) by rw [h]; simp [lineK])
    obtain ⟨b, ts, rfl, g1⟩ := kt_cons g0
    obtain ⟨us, g2, g3⟩ := triple_ok (q := q) g1
    obtain ⟨c, us, rfl, g4⟩ := kt_cons g2
    refine ⟨a, us, g4, fun rec fin deep n fl o => ?_⟩
    unfold stmtS
    rw [key_ok ix_go.1, obind_ok rfl]
    simp only [ix_go.2]
    unfold restS
    rw [if_pos rfl, arm_ok (.inl rfl), obind_ok rfl]
    simp only
    rw [g3, obind_ok rfl]
    simp only
    rw [semiS_ok]
    rfl
  | @go1 q a0 hq =>
    obtain ⟨a, ts, rfl, g0⟩ := kt_cons (show kt ts = (1, wGo) :: ((2, numB 1) :: (triK q ++ ((3, semi) :: ks))) by rw [h]; simp [lineK])
    obtain ⟨b, ts, rfl, g1⟩ := kt_cons g0
    obtain ⟨us, g2, g3⟩ := triple_ok (q := q) g1
    obtain ⟨c, us, rfl, g4⟩ := kt_cons g2
    refine ⟨a, us, g4, fun rec fin deep n fl o => ?_⟩
    unfold stmtS
    rw [key_ok ix_go.1, obind_ok rfl]
    simp only [ix_go.2]
    unfold restS
    rw [if_pos rfl, arm_ok (.inr rfl), obind_ok rfl]
    simp only
    rw [g3, obind_ok rfl]
    simp only
    rw [semiS_ok]
    rfl
  | @home m a0 hm =>
    obtain ⟨a, ts, rfl, g0⟩ := kt_cons (show kt ts = (1, wHome) :: ((2, numB m) :: ((3, semi) :: ks)) by rw [h]; simp [lineK])
    obtain ⟨b, ts, rfl, g1⟩ := kt_cons g0
    obtain ⟨c, us, rfl, g4⟩ := kt_cons g1
    refine ⟨a, us, g4, fun rec fin deep n fl o => ?_⟩
    unfold stmtS
    rw [key_ok ix_home.1, obind_ok rfl]
    simp only [ix_home.2]
    unfold restS
    rw [if_neg (by decide), if_pos rfl, arm_ok hm, obind_ok rfl]
    simp only
    rw [semiS_ok]
    rfl
  | @pick m a0 s hm hs =>
    obtain ⟨a, ts, rfl, g0⟩ := kt_cons (show kt ts = (1, wPick) :: ((2, numB m) :: ((1, s) :: ((3, semi) :: ks))) by rw [h]; simp [lineK])
    obtain ⟨b, ts, rfl, g1⟩ := kt_cons g0
    obtain ⟨b2, ts, rfl, g2⟩ := kt_cons g1
    obtain ⟨c, us, rfl, g4⟩ := kt_cons g2
    refine ⟨a, us, g4, fun rec fin deep n fl o => ?_⟩
    unfold stmtS
    rw [key_ok ix_pick.1, obind_ok rfl]
    simp only [ix_pick.2]
    unfold restS
    rw [if_neg (by decide), if_neg (by decide), if_pos rfl, arm_ok hm, obind_ok rfl]
    simp only
    rw [name_ok hs, obind_ok rfl]
    simp only
    rw [semiS_ok]
    rfl
  | @put m a0 s hm hs =>
    obtain ⟨a, ts, rfl, g0⟩ := kt_cons (show kt ts = (1, wPut) :: ((2, numB m) :: ((1, s) :: ((3, semi) :: ks))) by rw [h]; simp [lineK])
    obtain ⟨b, ts, rfl, g1⟩ := kt_cons g0
    obtain ⟨b2, ts, rfl, g2⟩ := kt_cons g1
    obtain ⟨c, us, rfl, g4⟩ := kt_cons g2
    refine ⟨a, us, g4, fun rec fin deep n fl o => ?_⟩
    unfold stmtS
    rw [key_ok ix_put.1, obind_ok rfl]
    simp only [ix_put.2]
    unfold restS
    rw [if_neg (by decide), if_neg (by decide), if_neg (by decide), if_pos rfl, arm_ok hm, obind_ok rfl]
    simp only
    rw [name_ok hs, obind_ok rfl]
    simp only
    rw [semiS_ok]
    rfl
  | @hand m a0 s hm hs =>
    obtain ⟨a, ts, rfl, g0⟩ := kt_cons (show kt ts = (1, wHand) :: ((2, numB m) :: ((1, s) :: ((3, semi) :: ks))) by rw [h]; simp [lineK])
    obtain ⟨b, ts, rfl, g1⟩ := kt_cons g0
    obtain ⟨b2, ts, rfl, g2⟩ := kt_cons g1
    obtain ⟨c, us, rfl, g4⟩ := kt_cons g2
    refine ⟨a, us, g4, fun rec fin deep n fl o => ?_⟩
    unfold stmtS
    rw [key_ok ix_hand.1, obind_ok rfl]
    simp only [ix_hand.2]
    unfold restS
    rw [if_neg (by decide), if_neg (by decide), if_neg (by decide), if_neg (by decide), if_pos rfl, arm_ok hm, obind_ok rfl]
    simp only
    rw [name_ok hs, obind_ok rfl]
    simp only
    rw [semiS_ok]
    rfl
  | @wait m a0 hm =>
    obtain ⟨a, ts, rfl, g0⟩ := kt_cons (show kt ts = (1, wWait) :: ((2, numB m) :: ((3, semi) :: ks)) by rw [h]; simp [lineK])
    obtain ⟨b, ts, rfl, g1⟩ := kt_cons g0
    obtain ⟨c, us, rfl, g4⟩ := kt_cons g1
    refine ⟨a, us, g4, fun rec fin deep n fl o => ?_⟩
    unfold stmtS
    rw [key_ok ix_wait.1, obind_ok rfl]
    simp only [ix_wait.2]
    unfold restS
    rw [if_neg (by decide), if_neg (by decide), if_neg (by decide), if_neg (by decide), if_neg (by decide), if_pos rfl, number_ok, obind_ok rfl]
    simp only
    rw [semiS_ok]
    rfl
  | @when_ s t l a0 hs ht => exact absurd rfl h7
  | @both q p a0 hq hp =>
    obtain ⟨a, ts, rfl, g0⟩ := kt_cons (show kt ts = (1, wBoth) :: (triK q ++ (triK p ++ ((3, semi) :: ks))) by rw [h]; simp [lineK])
    obtain ⟨us, g2, g3⟩ := triple_ok (q := q) g0
    obtain ⟨vs, g5, g6⟩ := triple_ok (q := p) g2
    obtain ⟨c, us, rfl, g4⟩ := kt_cons g5
    refine ⟨a, us, g4, fun rec fin deep n fl o => ?_⟩
    unfold stmtS
    rw [key_ok ix_both.1, obind_ok rfl]
    simp only [ix_both.2]
    unfold restS
    rw [if_neg (by decide), if_neg (by decide), if_neg (by decide), if_neg (by decide), if_neg (by decide), if_neg (by decide), if_pos rfl, g3, obind_ok rfl]
    simp only
    rw [g6, obind_ok rfl]
    simp only
    rw [semiS_ok]
    rfl
end Go.Proofs.YtonhcfecfifghaaDoor.PPx
namespace Go.Proofs.YtonhcfecfifghaaDoor.PPx
open Go.RowKit Go.Proofs.YtonhcfecfifghaaDoorW.PrintWords Go.Proofs.YtonhcfecfifghaaDoorW.PrintLast Go.Proofs.YtonhcfecfifghaaDoorW.PrintMore
set_option linter.unusedVariables false
/-- the same statements, their places apart -/
inductive SimL : List S55 → List S55 → Prop where
  | nil : SimL [] []
  | cons {x y : S55} {l m : List S55} : x.f0 = y.f0 → x.f1 = y.f1 → x.f2 = y.f2 → x.f3 = y.f3 → x.f4 = y.f4 → x.f5 = y.f5 → SimL x.f6 y.f6 → SimL l m → SimL (x :: l) (y :: m)
theorem SimL.len {l m : List S55} (h : SimL l m) : l.length = m.length := by
  induction h with
  | nil => rfl
  | cons _ _ _ _ _ _ _ _ _ ih => simp [ih]
theorem VLs.sim {d n : Nat} {l : List S55} {ks : List (Int × ByteArray)} (h : VLs d l n ks) : SimL l l := by
  induction h with
  | nil => exact .nil
  | @plain d n x l ks hx h7 _ ih =>
    refine .cons rfl rfl rfl rfl rfl rfl ?_ ih
    cases hx <;> first | exact .nil | exact absurd rfl h7
  | when_ _ _ _ _ ihk ihl => exact .cons rfl rfl rfl rfl rfl rfl ihk ihl
theorem stmts_lift {fin : Int} {deep : Int} {s : Rs} {out : List S55} {r : List S55 × Rs} {k k' : Nat} (hk : k ≤ k') (h : stmtsS fin k deep s out = some r) : stmtsS fin k' deep s out = some r := by
  obtain ⟨j, rfl⟩ := Nat.exists_eq_add_of_le hk
  induction j with
  | zero => exact h
  | succ j ih => exact stmtsS_le _ _ _ _ _ _ (ih (by omega))
theorem lineK_head {x : S55} (h : PlainOK x) : ∃ w ks, lineK x = (1, w) :: ks := by
  cases h <;> exact ⟨_, _, rfl⟩
/-- a round of stmts at a keyword -/
theorem round_ok {fin deep m : Int} {w : ByteArray} {a : Int} {ts : List S44} {fl : List S35} {out : List S55} {k : Nat} (h0 : 0 ≤ m) (h1 : m + 1 ≤ 64) (ho : out.length ≤ 1000) :
    stmtsS fin (k + 1) deep ⟨⟨1, w, a⟩ :: ts, m, fl, false⟩ out = (oneS (fun d s => stmtsS fin k d s []) fin deep ⟨⟨1, w, a⟩ :: ts, m + 1, fl, false⟩).bind fun r => stmtsS fin k deep r.2 (match r.1 with | some x => out ++ [x] | none => out) := by
  have hw : wrap64 (m + 1) = m + 1 := by unfold wrap64; omega
  rw [stmtsS]
  rw [if_neg (by simp), if_neg (by simp [lookS, isSign]), hw, if_neg (by omega), if_neg (by omega)]
  rfl
theorem one_ok {rec : Int → Rs → Option (List S55 × Rs)} {fin deep : Int} {s : Rs} {x : S55} {ts : List S44} {n : Int} {fl : List S35} (h : stmtS rec fin deep s = some (.ok x, ⟨ts, n, fl, false⟩)) : oneS rec fin deep s = some (some x, ⟨ts, n, fl, false⟩) := by
  unfold oneS; rw [h]; rfl
theorem plain_at {x : S55} (h : PlainOK x) (a : Int) : PlainOK (atA x a) := by
  cases h with
  | go0 h => exact .go0 h
  | go1 h => exact .go1 h
  | home h => exact .home h
  | pick h g => exact .pick h g
  | put h g => exact .put h g
  | hand h g => exact .hand h g
  | wait h => exact .wait h
  | when_ h g => exact .when_ h g
  | both h g => exact .both h g
theorem lineK_at (x : S55) (a : Int) : lineK (atA x a) = lineK x := rfl
theorem stmt_when {rec : Int → Rs → Option (List S55 × Rs)} {fin deep a b1 b2 b3 c n n' : Int} {s t : ByteArray} {fl : List S35} {ts4 ts5 : List S44} {kids : List S55} (hs : NameOK s) (ht : NameOK t) (hd : deep ≠ 4) (hd0 : 0 ≤ deep) (hd1 : deep ≤ 4)
    (hr : rec (deep + 1) ⟨ts4, n, fl, false⟩ = some (kids, ⟨⟨3, cbr, c⟩ :: ts5, n', fl, false⟩)) :
    stmtS rec fin deep ⟨⟨1, wWhen, a⟩ :: ⟨1, t, b1⟩ :: ⟨1, s, b2⟩ :: ⟨3, obr, b3⟩ :: ts4, n, fl, false⟩ = some (.ok ⟨7, 0, s, t, 0, ⟨zJ, zJ⟩, kids, a⟩, ⟨ts5, n', fl, false⟩) := by
  have hw : wrap64 (deep + 1) = deep + 1 := by unfold wrap64; omega
  unfold stmtS
  rw [key_ok ix_when.1, obind_ok rfl]
  simp only [ix_when.2]
  unfold restS
  rw [if_neg (by decide), if_neg (by decide), if_neg (by decide), if_neg (by decide), if_neg (by decide), if_neg (by decide), if_neg (by decide), if_pos rfl, if_neg hd, name_ok ht, obind_ok rfl]
  simp only
  rw [name_ok hs, obind_ok rfl]
  simp only
  rw [sign_obr, obind_ok rfl]
  simp only
  rw [hw, hr]
  simp only [Option.bind_some]
  rw [sign_cbr]
  rfl
theorem close_ok {fin deep c n : Int} {ts : List S44} {fl : List S35} {out : List S55} (hd : 0 < deep) : stmtsS fin 1 deep ⟨⟨3, cbr, c⟩ :: ts, n, fl, false⟩ out = some (out, ⟨⟨3, cbr, c⟩ :: ts, n, fl, false⟩) := by
  have : isSign ⟨#[125]⟩ (lookS fin (⟨3, cbr, c⟩ :: ts)) = true := by simp [lookS, isSign, cbr]
  rw [stmtsS]
  rw [if_neg (by simp), if_pos this, if_pos hd]
theorem parse_list {d n : Nat} {l : List S55} {ks : List (Int × ByteArray)} (h : VLs d l n ks) : ∀ (fin deep : Int) (ts : List S44) (ks' : List (Int × ByteArray)), 0 ≤ deep → deep + d ≤ 4 → kt ts = ks ++ ks' →
    ∃ us l', kt us = ks' ∧ SimL l l' ∧ VLs d l' n ks ∧ ∀ (m : Int) (fl : List S35) (out : List S55) (R : List S55 × Rs) (k : Nat), 0 ≤ m → m + n ≤ 64 → out.length + n ≤ 1000 → stmtsS fin k deep ⟨us, m + n, fl, false⟩ (out ++ l') = some R → ∃ k', stmtsS fin k' deep ⟨ts, m, fl, false⟩ out = some R := by
  induction h with
  | nil d =>
    intro fin deep ts ks' h0 hd hk
    refine ⟨ts, [], hk, .nil, .nil d, fun m fl out R k hm hn ho hr => ⟨k, ?_⟩⟩
    simpa using hr
  | @plain d n x l ks hx h7 hl ih =>
    intro fin deep ts ks' h0 hd hk
    obtain ⟨w, k0, hw⟩ := lineK_head hx
    have hk2 : kt ts = lineK x ++ (ks ++ ks') := by rw [hk, List.append_assoc]
    obtain ⟨a0, ts0, rfl, g0⟩ := kt_cons (show kt ts = (1, w) :: (k0 ++ (ks ++ ks')) by rw [hk2, hw]; rfl)
    obtain ⟨a, vs, hv, hst⟩ := stmt_plain hx h7 hk2
    obtain ⟨us, l', hus, hsim, hvl, hrun⟩ := ih fin deep vs ks' h0 hd hv
    refine ⟨us, atA x a :: l', hus, ?_, ?_, ?_⟩
    · refine .cons rfl rfl rfl rfl rfl rfl ?_ hsim
      cases hx <;> first | exact .nil | exact absurd rfl h7
    · have := VLs.plain (plain_at hx a) (show (atA x a).f0 ≠ 7 from h7) hvl
      rw [lineK_at] at this
      exact this
    · intro m fl out R k hm hn ho hr
      have hr' := hrun (m + 1) fl (out ++ [atA x a]) R k (by omega) (by omega) (by rw [List.length_append]; simp; omega) (by
        rw [show m + 1 + (n : Int) = m + ((n + 1 : Nat) : Int) by omega]
        simpa using hr)
      obtain ⟨k', hk'⟩ := hr'
      refine ⟨k' + 1, ?_⟩
      rw [round_ok hm (by omega) (by omega), one_ok (hst _ fin deep (m + 1) fl false)]
      exact hk'
  | @when_ d n m x l ks ls hx h7 hkd hl ihk ihl =>
    intro fin deep ts ks' h0 hd hk
    cases hx with
    | @when_ s t kids a0 hs ht =>
      have hk2 : kt ts = (1, wWhen) :: ((1, t) :: ((1, s) :: ((3, obr) :: (ls ++ ((3, cbr) :: (ks ++ ks')))))) := by rw [hk]; simp [lineK]
      obtain ⟨a, ts1, rfl, g0⟩ := kt_cons hk2
      obtain ⟨b1, ts2, rfl, g1⟩ := kt_cons g0
      obtain ⟨b2, ts3, rfl, g2⟩ := kt_cons g1
      obtain ⟨b3, ts4, rfl, g3⟩ := kt_cons g2
      obtain ⟨us1, kids', hu1, hsim1, hv1, hrun1⟩ := ihk fin (deep + 1) ts4 _ (by omega) (by omega) g3
      obtain ⟨c, ts5, rfl, g5⟩ := kt_cons hu1
      obtain ⟨us, l', hus, hsim, hvl, hrun⟩ := ihl fin deep ts5 ks' h0 hd g5
      refine ⟨us, ⟨7, 0, s, t, 0, ⟨zJ, zJ⟩, kids', a⟩ :: l', hus, .cons rfl rfl rfl rfl rfl rfl hsim1 hsim, ?_, ?_⟩
      · exact VLs.when_ (x := ⟨7, 0, s, t, 0, ⟨zJ, zJ⟩, kids', a⟩) (.when_ hs ht) rfl hv1 hvl
      · intro m0 fl out R k hm hn ho hr
        obtain ⟨k2, hk2'⟩ := hrun (m0 + 1 + m) fl (out ++ [⟨7, 0, s, t, 0, ⟨zJ, zJ⟩, kids', a⟩]) R k (by omega) (by omega) (by rw [List.length_append]; simp; omega) (by
          rw [show m0 + 1 + (m : Int) + n = m0 + ((n + m + 1 : Nat) : Int) by omega]
          simpa using hr)
        obtain ⟨k1, hk1⟩ := hrun1 (m0 + 1) fl [] (kids', ⟨⟨3, cbr, c⟩ :: ts5, m0 + 1 + m, fl, false⟩) 1 (by omega) (by omega) (by simp; omega) (by
          rw [List.nil_append]; exact close_ok (by omega))
        refine ⟨max k1 k2 + 1, ?_⟩
        rw [round_ok hm (by omega) (by omega), one_ok (stmt_when (n' := m0 + 1 + m) (kids := kids') hs ht (by omega) h0 (by omega) (stmts_lift (Nat.le_max_left k1 k2) hk1))]
        exact stmts_lift (Nat.le_max_right k1 k2) hk2'
    | _ => exact absurd h7 (by simp)
/-- Parse of a text whose tokens are those of valid statements -/
theorem parse_text {n : Nat} {l : List S55} {ks : List (Int × ByteArray)} (h : VLs 4 l n ks) (hn : n ≤ 64) {s : ByteArray} {ts : List S44} (hs : lexB s = (ts, 0, 0)) (hk : kt ts = ks) : ∃ l', SimL l l' ∧ VLs 4 l' n ks ∧ ∃ K, ∀ k, K ≤ k → parser_Parse.f k s = some (l', []) := by
  obtain ⟨us, l', hu, hsim, hv, hrun⟩ := parse_list h s.size 0 ts [] (Int.le_refl _) (by omega) (by rw [hk, List.append_nil])
  have hus : us = [] := by cases us with
    | nil => rfl
    | cons => simp [kt] at hu
  subst hus
  obtain ⟨K, hK⟩ := hrun 0 [] [] (l', ⟨[], 0 + n, [], false⟩) 1 (Int.le_refl _) (by omega) (by simp; omega) (by
    rw [List.nil_append, stmtsS, if_pos (.inr rfl)])
  refine ⟨l', hsim, hv, K, fun k hk' => ?_⟩
  unfold parser_Parse.f
  rw [hs]
  simp only [if_true]
  rw [stmts_lift hk' hK]
  rfl
end Go.Proofs.YtonhcfecfifghaaDoor.PPx
namespace Go.Proofs.YtonhcfecfifghaaDoor.PPx
open Go.RowKit Go.Proofs.YtonhcfecfifghaaDoorW.PrintWords Go.Proofs.YtonhcfecfifghaaDoorW.PrintLast Go.Proofs.YtonhcfecfifghaaDoorW.PrintMore
set_option linter.unusedVariables false
theorem equal_lift {l m : List S55} {r : Bool} {k k' : Nat} (hk : k ≤ k') (h : parser_Equal.f k l m = some r) : parser_Equal.f k' l m = some r := by
  obtain ⟨j, rfl⟩ := Nat.exists_eq_add_of_le hk
  induction j with
  | zero => exact h
  | succ j ih => exact Equal_le _ _ _ _ (ih (by omega))
theorem same_true {EQ : List S55 → List S55 → Option Bool} {x y : S55} (h0 : x.f0 = y.f0) (h1 : x.f1 = y.f1) (h2 : x.f2 = y.f2) (h3 : x.f3 = y.f3) (h4 : x.f4 = y.f4) (h5 : x.f5 = y.f5) (h : EQ x.f6 y.f6 = some true) : sameS EQ x y = some true := by
  unfold sameS sameE
  rw [h0, h1, h2, h3, h4, h5, h]
  simp
theorem SimL.equal {l m : List S55} (h : SimL l m) : ∃ K, ∀ k, K ≤ k → parser_Equal.f k l m = some true := by
  have key : ∃ K, ∀ k, K ≤ k → eqLoop (parser_Equal.f k) l m = some true := by
    induction h with
    | nil => exact ⟨0, fun k _ => rfl⟩
    | @cons x y l m h0 h1 h2 h3 h4 h5 hk hl ihk ihl =>
      obtain ⟨K1, g1⟩ := ihk
      obtain ⟨K2, g2⟩ := ihl
      refine ⟨max (K1 + 1) K2, fun k hkk => ?_⟩
      have hkid : parser_Equal.f k x.f6 y.f6 = some true := by
        obtain ⟨k, rfl⟩ : ∃ j, k = j + 1 := ⟨k - 1, by omega⟩
        show (if x.f6.length = y.f6.length then eqLoop (parser_Equal.f k) x.f6 y.f6 else some false) = _
        rw [if_pos hk.len]
        exact g1 k (by omega)
      show ((sameS (parser_Equal.f k) x y).bind fun t => if t = true then eqLoop (parser_Equal.f k) l m else some false) = _
      rw [same_true h0 h1 h2 h3 h4 h5 hkid]
      exact g2 k (by omega)
  obtain ⟨K, hK⟩ := key
  refine ⟨K + 1, fun k hk => ?_⟩
  obtain ⟨k, rfl⟩ : ∃ j, k = j + 1 := ⟨k - 1, by omega⟩
  show (if l.length = m.length then eqLoop (parser_Equal.f k) l m else some false) = _
  rw [if_pos h.len]
  exact hK k (by omega)
theorem line_sim {x y : S55} (h0 : x.f0 = y.f0) (h1 : x.f1 = y.f1) (h2 : x.f2 = y.f2) (h3 : x.f3 = y.f3) (h4 : x.f4 = y.f4) (h5 : x.f5 = y.f5) : lineF x = lineF y := by
  unfold lineF
  rw [h0, h1, h2, h3, h4, h5]
theorem SimL.written {l m : List S55} (h : SimL l m) : ∀ (k : Nat) (ins : ByteArray), writtenF k ins l = writtenF k ins m := by
  induction h with
  | nil => intro k ins; rfl
  | @cons x y l m h0 h1 h2 h3 h4 h5 hk hl ihk ihl =>
    intro k ins
    cases k with
    | zero => rfl
    | succ k =>
      have e : kidsW (writtenF k) ins x = kidsW (writtenF k) ins y := by unfold kidsW; rw [h0, ihk]
      show ((lineF x).bind fun s => (kidsW (writtenF k) ins x).bind fun t => (writtenF (k + 1) ins l).bind fun u => some ((((ins ++ s) ++ ⟨#[10]⟩) ++ t) ++ u)) = ((lineF y).bind fun s => (kidsW (writtenF k) ins y).bind fun t => (writtenF (k + 1) ins m).bind fun u => some ((((ins ++ s) ++ ⟨#[10]⟩) ++ t) ++ u))
      rw [line_sim h0 h1 h2 h3 h4 h5, e, ihl]
theorem SimL.format {l m : List S55} (h : SimL l m) (k : Nat) : parser_Format.f k l = parser_Format.f k m := by
  unfold parser_Format.f
  rw [h.written]
theorem SimL.symm {l m : List S55} (h : SimL l m) : SimL m l := by
  induction h with
  | nil => exact .nil
  | cons h0 h1 h2 h3 h4 h5 _ _ ihk ihl => exact .cons h0.symm h1.symm h2.symm h3.symm h4.symm h5.symm ihk ihl
end Go.Proofs.YtonhcfecfifghaaDoor.PPx
namespace Go.Proofs.YtonhcfecfifghaaDoor.PPx
open Go.RowKit Go.Proofs.YtonhcfecfifghaaDoorW.PrintWords Go.Proofs.YtonhcfecfifghaaDoorW.PrintLast Go.Proofs.YtonhcfecfifghaaDoorW.PrintMore
set_option linter.unusedVariables false
def TokOK (ts : List S44) : Prop := ∀ t ∈ ts, (t.f0 = 1 → TokText 1 t.f1) ∧ (t.f0 = 2 → Small (numOf t))
/-- the same reader but for tokens taken -/
def Sub (s s' : Rs) : Prop := s'.toks <:+ s.toks ∧ s'.n = s.n ∧ s'.fl = s.fl ∧ s'.over = s.over
theorem Sub.refl (s : Rs) : Sub s s := ⟨List.suffix_refl _, rfl, rfl, rfl⟩
theorem Sub.trans {a b c : Rs} (h : Sub a b) (g : Sub b c) : Sub a c := ⟨g.1.trans h.1, g.2.1.trans h.2.1, g.2.2.1.trans h.2.2.1, g.2.2.2.trans h.2.2.2⟩
theorem take_sub (p : S44 → Bool) (fin : Int) (s : Rs) : Sub s (takeS p fin s).2 ∧ ∀ t, (takeS p fin s).1 = .ok t → t ∈ s.toks ∧ p t = true ∧ t.f0 ≠ 0 := by
  obtain ⟨ts, n, fl, o⟩ := s
  cases ts with
  | nil => exact ⟨Sub.refl _, fun t h => by simp [takeS] at h⟩
  | cons t ts =>
    by_cases c : (t.f0 == 0 || !p t) = true
    · have e : takeS p fin ⟨t :: ts, n, fl, o⟩ = (.error (110, t.f2), ⟨t :: ts, n, fl, o⟩) := by simp only [takeS, if_pos c]
      rw [e]
      exact ⟨Sub.refl _, fun t h => by simp at h⟩
    · have e : takeS p fin ⟨t :: ts, n, fl, o⟩ = (.ok t, ⟨ts, n, fl, o⟩) := by simp only [takeS, if_neg c]
      rw [e]
      refine ⟨⟨List.suffix_cons _ _, rfl, rfl, rfl⟩, fun t' h => ?_⟩
      obtain rfl : t = t' := by simpa using h
      simp only [Bool.or_eq_true, beq_iff_eq, Bool.not_eq_true', not_or, Bool.not_eq_false] at c
      exact ⟨List.mem_cons_self, c.2, c.1⟩
theorem obind_inv {α β : Type} {r : Step α} {f : α → Rs → Option (Step β)} {y : Step β} (h : obind r f = some y) : (∃ a, r.1 = .ok a ∧ f a r.2 = some y) ∨ (∃ e, r.1 = .error e ∧ y = (.error e, r.2)) := by
  unfold obind at h
  cases hr : r.1 with
  | ok a => rw [hr] at h; exact .inl ⟨a, rfl, h⟩
  | error e => rw [hr] at h; exact .inr ⟨e, rfl, (Option.some.inj h).symm⟩
theorem map_sub {α β : Type} {r : Step α} {f : α → β} {b : β} (h : (r.map f).1 = .ok b) : ∃ a, r.1 = .ok a ∧ b = f a := by
  unfold Step.map at h
  cases hr : r.1 with
  | ok a => rw [hr] at h; simp at h; exact ⟨a, rfl, h.symm⟩
  | error e => rw [hr] at h; simp at h
theorem bind_inv {α β : Type} {r : Step α} {f : α → Rs → Step β} : (∃ a, r.1 = .ok a ∧ r.bind f = f a r.2) ∨ (∃ e, r.1 = .error e ∧ r.bind f = (.error e, r.2)) := by
  cases hr : r.1 with
  | ok a => exact .inl ⟨a, rfl, Step.bind_ok hr⟩
  | error e => exact .inr ⟨e, rfl, Step.bind_err hr⟩
theorem number_sub (fin : Int) (s : Rs) (hs : TokOK s.toks) : Sub s (numberS fin s).2 ∧ ∀ n, (numberS fin s).1 = .ok n → Small n := by
  have h := take_sub isNumber fin s
  refine ⟨h.1, fun n hn => ?_⟩
  obtain ⟨t, ht, rfl⟩ := map_sub hn
  obtain ⟨hm, hp, _⟩ := h.2 t ht
  exact (hs t hm).2 (by simpa [isNumber] using hp)
theorem arm_sub (fin : Int) (s : Rs) : Sub s (armS fin s).2 ∧ ∀ n, (armS fin s).1 = .ok n → n = 0 ∨ n = 1 := by
  have h := take_sub isArm fin s
  refine ⟨h.1, fun n hn => ?_⟩
  obtain ⟨t, ht, rfl⟩ := map_sub hn
  unfold armOf
  split
  · exact .inr rfl
  · exact .inl rfl
theorem name_sub (fin : Int) (s : Rs) (hs : TokOK s.toks) : Sub s (nameS fin s).2 ∧ ∀ n, (nameS fin s).1 = .ok n → NameOK n := by
  have h := take_sub isNamed fin s
  refine ⟨h.1, fun n hn => ?_⟩
  obtain ⟨t, ht, rfl⟩ := map_sub hn
  obtain ⟨hm, hp, _⟩ := h.2 t ht
  simp only [isNamed, Bool.and_eq_true, beq_iff_eq, decide_eq_true_eq, Bool.not_eq_true'] at hp
  exact ⟨(hs t hm).1 hp.1, by omega, hp.2.2⟩
theorem TokOK.sub {s s' : Rs} (h : TokOK s.toks) (g : Sub s s') : TokOK s'.toks := fun t ht => h t (g.1.subset ht)
def StepOK {α : Type} (P : α → Prop) (s : Rs) (r : Step α) : Prop := Sub s r.2 ∧ ∀ a, r.1 = .ok a → P a
theorem StepOK.bind {α β : Type} {P : α → Prop} {Q : β → Prop} {s : Rs} {r : Step α} {f : α → Rs → Step β} (h : StepOK P s r) (g : ∀ a, P a → StepOK Q r.2 (f a r.2)) : StepOK Q s (r.bind f) := by
  rcases bind_inv (r := r) (f := f) with ⟨a, ha, e⟩ | ⟨e', he, e⟩
  · rw [e]
    have := g a (h.2 a ha)
    exact ⟨h.1.trans this.1, this.2⟩
  · rw [e]
    exact ⟨h.1, fun b hb => by simp at hb⟩
def OOK {β : Type} (Q : β → Prop) (s : Rs) (o : Option (Step β)) : Prop := ∀ y, o = some y → StepOK Q s y
theorem OOK.obind {α β : Type} {P : α → Prop} {Q : β → Prop} {s : Rs} {r : Step α} {f : α → Rs → Option (Step β)} (h : StepOK P s r) (g : ∀ a, P a → OOK Q r.2 (f a r.2)) : OOK Q s (PPx.obind r f) := by
  intro y hy
  rcases obind_inv hy with ⟨a, ha, e⟩ | ⟨e', he, e⟩
  · have := g a (h.2 a ha) y e
    exact ⟨h.1.trans this.1, this.2⟩
  · rw [e]
    exact ⟨h.1, fun b hb => by simp at hb⟩
theorem sign_ok' (c : ByteArray) (fin : Int) (s : Rs) : StepOK (fun _ => True) s (signS c fin s) := ⟨(take_sub _ fin s).1, fun _ _ => trivial⟩
theorem triple_sub (fin : Int) (s : Rs) (hs : TokOK s.toks) : StepOK SmallQ s (tripleS fin s) := by
  unfold tripleS
  refine StepOK.bind (sign_ok' _ fin s) fun _ _ => ?_
  have h1 := hs.sub (sign_ok' ⟨#[40]⟩ fin s).1
  refine StepOK.bind (number_sub fin _ h1) fun a ha => ?_
  have h2 := h1.sub (number_sub fin _ h1).1
  unfold tri1
  refine StepOK.bind (sign_ok' _ fin _) fun _ _ => ?_
  have h3 := h2.sub (sign_ok' ⟨#[44]⟩ fin _).1
  refine StepOK.bind (number_sub fin _ h3) fun b hb => ?_
  have h4 := h3.sub (number_sub fin _ h3).1
  unfold tri2
  refine StepOK.bind (sign_ok' _ fin _) fun _ _ => ?_
  have h5 := h4.sub (sign_ok' ⟨#[44]⟩ fin _).1
  refine StepOK.bind (number_sub fin _ h5) fun c hc => ?_
  unfold tri3
  refine StepOK.bind (sign_ok' _ fin _) fun _ _ => ?_
  exact ⟨Sub.refl _, fun q hq => by obtain rfl := Except.ok.inj hq; exact ⟨ha, hb, hc⟩⟩
theorem semi_sub {P : S55 → Prop} (fin : Int) (x : S55) (s : Rs) (hx : P x) : OOK P s (semiS fin x s) := by
  intro y hy
  obtain rfl := Option.some.inj hy
  refine StepOK.bind (sign_ok' _ fin s) fun _ _ => ?_
  exact ⟨Sub.refl _, fun q hq => by obtain rfl := Except.ok.inj hq; exact hx⟩
/-- what follows a keyword other than when -/
theorem rest_sub (rec : Int → Rs → Option (List S55 × Rs)) (fin deep k c : Int) (s : Rs) (hs : TokOK s.toks) (h7 : k ≠ 7) (hk : 1 ≤ k ∧ k ≤ 8) : OOK (fun x => PlainOK x ∧ x.f0 ≠ 7) s (restS rec fin deep k c s) := by
  unfold restS
  by_cases k1 : k = 1
  · rw [if_pos k1]
    refine OOK.obind (arm_sub fin s) fun a ha => ?_
    refine OOK.obind (triple_sub fin _ (hs.sub (arm_sub fin s).1)) fun q hq => ?_
    refine semi_sub fin _ _ ?_
    rcases ha with rfl | rfl
    · exact ⟨.go0 hq, by simp⟩
    · exact ⟨.go1 hq, by simp⟩
  rw [if_neg k1]
  by_cases k2 : k = 2
  · rw [if_pos k2]
    refine OOK.obind (arm_sub fin s) fun a ha => ?_
    exact semi_sub fin _ _ ⟨.home ha, by simp⟩
  rw [if_neg k2]
  by_cases k3 : k = 3
  · rw [if_pos k3]
    refine OOK.obind (arm_sub fin s) fun a ha => ?_
    refine OOK.obind (name_sub fin _ (hs.sub (arm_sub fin s).1)) fun q hq => ?_
    exact semi_sub fin _ _ ⟨.pick ha hq, by simp⟩
  rw [if_neg k3]
  by_cases k4 : k = 4
  · rw [if_pos k4]
    refine OOK.obind (arm_sub fin s) fun a ha => ?_
    refine OOK.obind (name_sub fin _ (hs.sub (arm_sub fin s).1)) fun q hq => ?_
    exact semi_sub fin _ _ ⟨.put ha hq, by simp⟩
  rw [if_neg k4]
  by_cases k5 : k = 5
  · rw [if_pos k5]
    refine OOK.obind (arm_sub fin s) fun a ha => ?_
    refine OOK.obind (name_sub fin _ (hs.sub (arm_sub fin s).1)) fun q hq => ?_
    exact semi_sub fin _ _ ⟨.hand ha hq, by simp⟩
  rw [if_neg k5]
  by_cases k6 : k = 6
  · rw [if_pos k6]
    refine OOK.obind (number_sub fin s hs) fun a ha => ?_
    exact semi_sub fin _ _ ⟨.wait ha, by simp⟩
  rw [if_neg k6]
  have k8 : k = 8 := by omega
  rw [if_pos k8]
  refine OOK.obind (triple_sub fin s hs) fun q hq => ?_
  refine OOK.obind (triple_sub fin _ (hs.sub (triple_sub fin s hs).1)) fun p hp => ?_
  exact semi_sub fin _ _ ⟨.both hq hp, by simp⟩
end Go.Proofs.YtonhcfecfifghaaDoor.PPx
namespace Go.Proofs.YtonhcfecfifghaaDoor.PPx
open Go.RowKit Go.Proofs.YtonhcfecfifghaaDoorW.PrintWords Go.Proofs.YtonhcfecfifghaaDoorW.PrintLast Go.Proofs.YtonhcfecfifghaaDoorW.PrintMore
set_option linter.unusedVariables false
/-- a keyword's number is 0 for the empty text alone -/
theorem index_ge (l : List ByteArray) (s : ByteArray) (hl : l.length ≤ 1000) : ∀ (k : Nat) (i r : Int), 0 ≤ i → i ≤ l.length → slices_Index_string_string.l0 k l s l.length i = some r → r = -1 ∨ i ≤ r := by
  intro k
  induction k with
  | zero => intro i r _ _ h; simp [slices_Index_string_string.l0] at h
  | succ k ih =>
    intro i r h0 h1 h
    rw [slices_Index_string_string.l0] at h
    by_cases hlt : i < (l.length : Int)
    · rw [if_pos hlt, if_pos h0, if_pos hlt, wrap_small' (by omega) (by omega)] at h
      split at h
      · have := Option.some.inj h; omega
      · have := ih (i + 1) r (by omega) (by omega) h; omega
    · rw [if_neg hlt] at h
      have := Option.some.inj h; omega
theorem word0 {s : ByteArray} (h : wordIx s = 0) : s = ⟨#[]⟩ := by
  have hf := (wordIx_f s).1
  rw [h] at hf
  have hf : slices_Index_string_string.l0 20 wordsL s (wordsL.length : Int) 0 = some 0 := hf
  rw [slices_Index_string_string.l0, if_pos (by decide), if_pos (by decide), if_pos (by decide), wrap_small' (by decide) (by decide)] at hf
  by_cases he : s.toList = (rdOf ByteArray.empty wordsL 0).toList
  · rw [ByteArray.toList_eq, ByteArray.toList_eq] at he
    apply ByteArray.ext
    exact Array.toList_inj.1 he
  · rw [if_neg he] at hf
    have := index_ge wordsL s (by decide) _ _ _ (by decide) (by decide) hf
    omega
def Inv (s : Rs) : Prop := 0 ≤ s.n ∧ s.n ≤ 65 ∧ (s.over = false → s.n ≤ 64)
def Res (deep : Int) (s : Rs) (out : List S55) (r : List S55 × Rs) : Prop := r.2.toks <:+ s.toks ∧ Inv r.2 ∧ s.n ≤ r.2.n ∧ ∃ l n ks, r.1 = out ++ l ∧ VLs (4 - deep).toNat l n ks ∧ s.n + n ≤ r.2.n ∧ (n ≠ 0 → s.n + n ≤ 64)
def RecOK (deep : Int) (rec : Int → Rs → Option (List S55 × Rs)) : Prop := ∀ s r, rec (deep + 1) s = some r → TokOK s.toks → Inv s → deep ≠ 4 → Res (deep + 1) s [] r
theorem Inv.sub {s s' : Rs} (h : Inv s) (g : Sub s s') : Inv s' := by
  obtain ⟨_, hn, _, ho⟩ := g
  unfold Inv
  rw [hn, ho]
  exact h
/-- what a statement's step gives -/
def StmOut (deep : Int) (s : Rs) (y : Step S55) : Prop := y.2.toks <:+ s.toks ∧ Inv y.2 ∧ s.n ≤ y.2.n ∧ ∀ x, y.1 = .ok x → PlainOK x ∧ ((x.f0 ≠ 7) ∨ (x.f0 = 7 ∧ deep ≠ 4 ∧ ∃ m ls, VLs (4 - (deep + 1)).toNat x.f6 m ls ∧ s.n + m ≤ y.2.n))
theorem out_of_step {deep : Int} {s s1 : Rs} {y : Step S55} (h1 : Sub s s1) (hI : Inv s) (h : StepOK (fun x => PlainOK x ∧ x.f0 ≠ 7) s1 y) : StmOut deep s y := by
  have hs := h1.trans h.1
  refine ⟨hs.1, hI.sub hs, by rw [hs.2.1]; exact Int.le_refl _, fun x hx => ⟨(h.2 x hx).1, .inl (h.2 x hx).2⟩⟩
theorem err_out {deep : Int} {s s1 : Rs} {e : Int × Int} (h1 : Sub s s1) (hI : Inv s) : StmOut deep s (.error e, s1) := ⟨h1.1, hI.sub h1, by rw [h1.2.1]; exact Int.le_refl _, fun x hx => by simp at hx⟩
theorem isWord_ix {s : ByteArray} (h : isWord s = true) : 0 ≤ wordIx s ∧ wordIx s ≤ 8 := by
  have h1 : wordIx s ≥ 0 := by simpa [isWord] using h
  have := (wordIx_f s).2.2
  omega
theorem stmt_sound {rec : Int → Rs → Option (List S55 × Rs)} {fin deep : Int} (hr : RecOK deep rec) (hd : 0 ≤ deep) (hd4 : deep ≤ 4) {s : Rs} (hs : TokOK s.toks) (hI : Inv s) {y : Step S55} (h : stmtS rec fin deep s = some y) : StmOut deep s y := by
  unfold stmtS at h
  rcases obind_inv h with ⟨t, ht, h⟩ | ⟨e, he, rfl⟩
  case inr => exact err_out (take_sub isKey fin s).1 hI
  have htk := take_sub isKey fin s
  obtain ⟨hm, hp, hn0⟩ := htk.2 t ht
  have hk : t.f0 = 1 ∧ isWord t.f1 = true := by simpa [isKey] using hp
  have hix := isWord_ix hk.2
  have hs1 := hs.sub htk.1
  have hI1 := hI.sub htk.1
  by_cases h0 : wordIx t.f1 = 0
  · -- the empty keyword is no token
    exfalso
    have hz := ((hs t hm).1 hk.1).1
    rw [word0 h0] at hz
    exact absurd hz (by decide)
  by_cases h7 : wordIx t.f1 = 7
  · rw [h7] at h
    unfold restS at h
    rw [if_neg (by decide), if_neg (by decide), if_neg (by decide), if_neg (by decide), if_neg (by decide), if_neg (by decide), if_neg (by decide), if_pos rfl] at h
    by_cases h4 : deep = 4
    · rw [if_pos h4] at h
      obtain rfl := Option.some.inj h
      exact err_out htk.1 hI
    rw [if_neg h4] at h
    have hw : wrap64 (deep + 1) = deep + 1 := by unfold wrap64; omega
    have n1 := name_sub fin (takeS isKey fin s).2 hs1
    rcases obind_inv h with ⟨p, hp1, h⟩ | ⟨e, he, rfl⟩
    case inr => exact err_out (htk.1.trans n1.1) hI
    have hs2 := hs1.sub n1.1
    have n2 := name_sub fin _ hs2
    rcases obind_inv h with ⟨q, hq1, h⟩ | ⟨e, he, rfl⟩
    case inr => exact err_out (htk.1.trans (n1.1.trans n2.1)) hI
    have hs3 := hs2.sub n2.1
    have n3 := sign_ok' ⟨#[123]⟩ fin (nameS fin (nameS fin (takeS isKey fin s).2).2).2
    rcases obind_inv h with ⟨u, hu1, h⟩ | ⟨e, he, rfl⟩
    case inr => exact err_out (htk.1.trans (n1.1.trans (n2.1.trans n3.1))) hI
    have hs4 := hs3.sub n3.1
    have hsub := htk.1.trans (n1.1.trans (n2.1.trans n3.1))
    obtain ⟨r, hr1, h⟩ := Option.bind_eq_some_iff.1 h
    rw [hw] at hr1
    obtain ⟨ha, hb, hc, l, n, ks, hl, hv, hn, hn64⟩ := hr _ _ hr1 hs4 (hI.sub hsub) h4
    obtain rfl := Option.some.inj h
    have hn1 := hsub.2.1
    rw [List.nil_append] at hl
    have n5 := sign_ok' ⟨#[125]⟩ fin r.2
    rcases bind_inv (r := signS ⟨#[125]⟩ fin r.2) (f := fun _ s => (.ok (⟨7, 0, q, p, 0, ⟨⟨0, 0, 0⟩, ⟨0, 0, 0⟩⟩, r.1, t.f2⟩ : S55), s)) with ⟨a, ha', e⟩ | ⟨e', he, e⟩
    · rw [e]
      refine ⟨n5.1.1.trans (ha.trans hsub.1), hb.sub n5.1, by have := n5.1.2.1; simp only; omega, fun x hx => ?_⟩
      obtain rfl := Except.ok.inj hx
      refine ⟨.when_ (n2.2 q hq1) (n1.2 p hp1), .inr ⟨rfl, h4, n, ks, ?_, ?_⟩⟩
      · rw [← hl] at hv; exact hv
      · have := n5.1.2.1; simp only; omega
    · rw [e]
      refine ⟨n5.1.1.trans (ha.trans hsub.1), hb.sub n5.1, by have := n5.1.2.1; simp only; omega, fun x hx => by simp at hx⟩
  · exact out_of_step htk.1 hI (rest_sub rec fin deep _ _ _ hs1 h7 (by omega) y h)
theorem skip_suf : ∀ (ts : List S44), skipS ts <:+ ts
  | [] => List.suffix_refl _
  | x :: ts => by
    unfold skipS
    split
    · exact List.suffix_cons _ _
    · split
      · exact List.suffix_refl _
      · exact (skip_suf ts).trans (List.suffix_cons _ _)
/-- what a recovered statement gives -/
theorem one_sound {rec : Int → Rs → Option (List S55 × Rs)} {fin deep : Int} (hr : RecOK deep rec) (hd : 0 ≤ deep) (hd4 : deep ≤ 4) {s : Rs} (hs : TokOK s.toks) (hI : Inv s) (ho : s.over = false) {x : Option S55} {s' : Rs} (h : oneS rec fin deep s = some (x, s')) :
    s'.toks <:+ s.toks ∧ Inv s' ∧ s.n ≤ s'.n ∧ ∀ z, x = some z → s'.over = false ∧ PlainOK z ∧ ((z.f0 ≠ 7) ∨ (z.f0 = 7 ∧ deep ≠ 4 ∧ ∃ m ls, VLs (4 - (deep + 1)).toNat z.f6 m ls ∧ s.n + m ≤ s'.n)) := by
  unfold oneS at h
  obtain ⟨⟨y, s1⟩, hy, h⟩ := Option.bind_eq_some_iff.1 h
  obtain ⟨h1, h2, h3, h4⟩ := stmt_sound hr hd hd4 hs hI hy
  simp only at h1 h2 h3 h4
  cases y with
  | ok z =>
    simp only [Option.some.injEq, Prod.mk.injEq] at h
    obtain ⟨hx, rfl⟩ := h
    refine ⟨h1, h2, h3, fun z' hz => ?_⟩
    by_cases hov : s1.over = true
    · rw [if_pos hov] at hx; rw [← hx] at hz; cases hz
    · rw [if_neg hov] at hx
      rw [← hx] at hz
      obtain rfl := Option.some.inj hz
      exact ⟨by simpa using hov, h4 z rfl⟩
  | error f =>
    simp only at h
    split at h
    · simp only [Option.some.injEq, Prod.mk.injEq] at h
      obtain ⟨rfl, rfl⟩ := h
      exact ⟨h1, h2, h3, fun z hz => by cases hz⟩
    · rename_i hov
      split at h
      · cases h
      · simp only [Option.some.injEq, Prod.mk.injEq] at h
        obtain ⟨rfl, rfl⟩ := h
        refine ⟨(skip_suf _).trans h1, ⟨h2.1, h2.2.1, fun _ => h2.2.2 (by simpa using hov)⟩, h3, fun z hz => by cases hz⟩
theorem stmts_sound (fin : Int) : ∀ (k : Nat) (deep : Int) (s : Rs) (out : List S55) (r : List S55 × Rs), stmtsS fin k deep s out = some r → TokOK s.toks → 0 ≤ deep → deep ≤ 4 → Inv s → Res deep s out r
  | 0, deep, s, out, r => fun h => by simp [stmtsS] at h
  | k + 1, deep, s, out, r => fun h hs hd hd4 hI => by
    have ih := stmts_sound fin k
    have none_ : ∀ (s' : Rs), s'.toks <:+ s.toks → Inv s' → s.n ≤ s'.n → Res deep s out (out, s') := fun s' a b c => ⟨a, b, c, [], 0, [], by simp, .nil _, by simpa using c, fun h => absurd rfl h⟩
    rw [stmtsS] at h
    by_cases c1 : s.over = true ∨ s.toks = []
    · rw [if_pos c1] at h
      obtain rfl := Option.some.inj h
      exact none_ s (List.suffix_refl _) hI (Int.le_refl _)
    rw [if_neg c1] at h
    have hov : s.over = false := by simpa using fun h' => c1 (.inl h')
    have h64 := hI.2.2 hov
    have hn0 := hI.1
    by_cases c2 : isSign ⟨#[125]⟩ (lookS fin s.toks) = true
    · rw [if_pos c2] at h
      by_cases c3 : deep > 0
      · rw [if_pos c3] at h
        obtain rfl := Option.some.inj h
        exact none_ s (List.suffix_refl _) hI (Int.le_refl _)
      rw [if_neg c3] at h
      split at h
      · cases h
      · obtain ⟨a, b, c, d⟩ := ih _ _ _ _ h (fun t ht => hs t (List.mem_of_mem_tail ht)) hd hd4 ⟨hI.1, hI.2.1, fun _ => h64⟩
        exact ⟨a.trans (List.tail_suffix _), b, c, d⟩
    rw [if_neg c2] at h
    have hw : wrap64 (s.n + 1) = s.n + 1 := by unfold wrap64; omega
    rw [hw] at h
    by_cases c4 : s.n + 1 > 64
    · rw [if_pos c4] at h
      split at h
      · cases h
      · obtain rfl := Option.some.inj h
        exact none_ _ (List.suffix_refl _) ⟨by simp only; omega, by simp only; omega, fun h => by simp at h⟩ (by simp only; omega)
    rw [if_neg c4] at h
    split at h
    · cases h
    obtain ⟨⟨x, s1⟩, hx, h⟩ := Option.bind_eq_some_iff.1 h
    have hrec : RecOK deep (fun d s => stmtsS fin k d s []) := fun s' r' h' ht hi hd' => ih _ _ _ _ h' ht (by omega) (by omega) hi
    obtain ⟨h1, h2, h3, h4⟩ := one_sound hrec hd hd4 (s := { s with n := s.n + 1 }) hs ⟨by simp only; omega, by simp only; omega, fun _ => by simp only; omega⟩ hov hx
    simp only at h1 h2 h3 h4 h
    cases x with
    | none =>
      obtain ⟨a, b, c, l, n, ks, hl, hv, hn, hn64⟩ := ih _ _ _ _ h (fun t ht => hs t (h1.subset ht)) hd hd4 h2
      exact ⟨a.trans h1, b, by omega, l, n, ks, hl, hv, by omega, fun hne => by have := hn64 hne; omega⟩
    | some z =>
      obtain ⟨hov1, hz, hz7⟩ := h4 z rfl
      have h641 := h2.2.2 hov1
      obtain ⟨a, b, c, l, n, ks, hl, hv, hn, hn64⟩ := ih _ _ _ _ h (fun t ht => hs t (h1.subset ht)) hd hd4 h2
      refine ⟨a.trans h1, b, by omega, z :: l, ?_⟩
      rcases hz7 with hz7 | ⟨hz7, hd', m, ls, hvk, hmk⟩
      · refine ⟨n + 1, lineK z ++ ks, by rw [hl]; simp, .plain hz hz7 hv, by omega, fun _ => ?_⟩
        by_cases hn' : n = 0
        · omega
        · have := hn64 hn'; omega
      · obtain ⟨d, hd2⟩ : ∃ d, (4 - deep).toNat = d + 1 := ⟨(4 - deep).toNat - 1, by omega⟩
        have hd3 : (4 - (deep + 1)).toNat = d := by omega
        rw [hd2] at hv ⊢
        rw [hd3] at hvk
        refine ⟨n + m + 1, lineK z ++ (ls ++ ((3, cbr) :: ks)), by rw [hl]; simp, .when_ hz hz7 hvk hv, by omega, fun _ => ?_⟩
        by_cases hn' : n = 0
        · omega
        · have := hn64 hn'; omega
end Go.Proofs.YtonhcfecfifghaaDoor.PPx
namespace Go.Proofs.YtonhcfecfifghaaDoor.PPx
open Go.RowKit Go.Proofs.YtonhcfecfifghaaDoorW.PrintWords Go.Proofs.YtonhcfecfifghaaDoorW.PrintLast Go.Proofs.YtonhcfecfifghaaDoorW.PrintMore
set_option linter.unusedVariables false
/-- a token's text, alone, is that token -/
theorem tok_alone {s : ByteArray} {p : Int} (h0 : 0 ≤ p) (h1 : p < (s.size : Int)) (hok : (nextAt s p).2.2.2.1 = true) (h5 : at_ s p ≠ 5) (h6 : at_ s p ≠ 6) : TokText (nextAt s p).1 (nextAt s p).2.1 := by
  obtain ⟨a1, a2, a3⟩ := nextAt_at hok
  have hn := nextAt_range s p h0 (by omega) hok
  have hsz := size_extractI (s := s) (a := p) (b := (nextAt s p).2.2.2.2) h0 (by omega) hn.2
  have M : Move s (s.extract p.toNat (nextAt s p).2.2.2.2.toNat) (-p) p (nextAt s p).2.2.2.2 := by
    refine ⟨h0, hn.2, by omega, by omega, fun x hx hx2 => ?_⟩
    rw [bt_extract h0 (by omega) (by omega) hn.2]
    congr 1; omega
  have hx := M.next (i := p) (Int.le_refl _) (by omega) (Int.le_refl _) (fun _ => soft_end (by omega)) (.inr (.inl hok))
  have hat := M.at (x := p) (Int.le_refl _) (by omega)
  rw [show p + -p = 0 by omega] at hx hat
  rw [hok, a1, ← a3] at hx
  rw [← a3] at hat hsz
  simp only [if_true] at hx
  refine ⟨by omega, by rw [hat]; exact h5, by rw [hat]; exact h6, ?_⟩
  rw [hx]
  refine Prod.ext rfl (Prod.ext rfl (Prod.ext (by simp only; omega) (Prod.ext rfl (by simp only; omega))))
/-- every token of a path begins somewhere in the text -/
theorem path_tok {s : ByteArray} {i j : Int} {ts : List S44} (h : Path s i ts j) : 0 ≤ i → i ≤ (s.size : Int) → ∀ t ∈ ts, ∃ p, i ≤ p ∧ p < (s.size : Int) ∧ at_ s p ≠ 5 ∧ at_ s p ≠ 6 ∧ (nextAt s p).2.2.2.1 = true ∧ t = tokAt s p := by
  induction h with
  | nil i => intro _ _ t ht; cases ht
  | @cons i j ts hlt hok hp ih =>
    intro h0 h1 t ht
    have hr := skipTo_range s i h0 h1
    have hn := nextAt_range s _ (by omega) hr.2 hok
    obtain ⟨_, h5, h6⟩ := skip_gap s i h0 h1
    rcases List.mem_cons.1 ht with rfl | ht
    · exact ⟨skipTo s i, hr.1, hlt, h5, h6, hok, rfl⟩
    · obtain ⟨p, hp0, hp1⟩ := ih (by omega) hn.2 t ht
      exact ⟨p, by omega, hp1⟩
theorem decNat_lt {l : List UInt8} {m : Nat} (h : Lib.decNat l = some m) (hl : l.length ≤ 9) : m < 1000000000 := by
  unfold Lib.decNat at h
  split at h
  · cases h
  · have h1 := Lib.decFrom_lt _ 0 m h
    have h2 := Nat.pow_le_pow_right (n := 10) (by decide) hl
    rw [Nat.zero_add, Nat.one_mul] at h1
    have e : 10 ^ 9 = 1000000000 := by decide
    omega
theorem atoi_small {b : UInt8} {r : List UInt8} {n : Int} (h : Lib.atoi (b :: r) = some n) (hr : r.length ≤ 8 ∨ (b = 45 ∧ r.length ≤ 9)) : Small n := by
  unfold Lib.atoi at h
  have h : (if (b == 45) = true then (Lib.decNat r).map fun (m : Nat) => -(m : Int) else if (b == 43) = true then (Lib.decNat r).map fun (m : Nat) => (m : Int) else (Lib.decNat (b :: r)).map fun (m : Nat) => (m : Int)) = some n := h
  by_cases c : (b == 45) = true
  · rw [if_pos c] at h
    obtain ⟨m, hm, rfl⟩ := Option.map_eq_some_iff.1 h
    have := decNat_lt hm (by omega)
    exact ⟨by omega, by omega⟩
  · rw [if_neg c] at h
    have hr8 : r.length ≤ 8 := by
      rcases hr with h | ⟨rfl, _⟩
      · exact h
      · exact absurd rfl c
    split at h
    · obtain ⟨m, hm, rfl⟩ := Option.map_eq_some_iff.1 h
      have := decNat_lt hm (by omega)
      exact ⟨by omega, by omega⟩
    · obtain ⟨m, hm, rfl⟩ := Option.map_eq_some_iff.1 h
      have := decNat_lt hm (by simp; omega)
      exact ⟨by omega, by omega⟩
theorem token_small {s : ByteArray} {i : Int} (h0 : 0 ≤ i) (hk : at_ s i = 7 ∨ at_ s i = 2) (hok : numOK (at_ s i == 7) (s.extract (firstAt (at_ s i == 7) i).toNat (scanTo (digitAt s) s.size (firstAt (at_ s i == 7) i)).toNat) = true) :
    ∀ n, Lib.atoi (s.extract i.toNat (scanTo (digitAt s) s.size (firstAt (at_ s i == 7) i)).toNat).data.toList = some n → Small n := by
  intro n hn
  have hlt : i < (s.size : Int) := by rcases hk with h | h <;> exact (at_some (by decide) h).1
  have hsz := numOK_size hok
  rcases hk with h | h
  · have hb : (at_ s i == 7) = true := by simp [h]
    rw [hb] at hok hsz hn
    have hf : firstAt true i = i + 1 := rfl
    rw [hf] at hok hsz hn
    have hr := scanTo_range (digitAt s) s.size (i + 1) (by omega)
    rw [ByteArray.size_extract] at hsz
    obtain ⟨hi, he⟩ := data_ext0 (s := s) (j := scanTo (digitAt s) s.size (i + 1)) h0 (by omega) hr.2
    rw [he] at hn
    have h7 : s[i.toNat] = 45 := by
      have h5 := (at_some (by decide) h).2
      have h6 := bt_at s i hi
      have h8 : (bt s i).toNat = 45 := by
        revert h5; generalize (bt s i).toNat = c
        intro h5; unfold cls at h5; repeat' split at h5
        all_goals first | omega | contradiction
      apply UInt8.toNat_inj.1
      show _ = 45
      omega
    refine atoi_small hn (.inr ⟨h7, ?_⟩)
    rw [data_size, ByteArray.size_extract]; omega
  · have hb : (at_ s i == 7) = false := by simp [h]
    rw [hb] at hok hsz hn
    have hf : firstAt false i = i := rfl
    rw [hf] at hok hsz hn
    have hr := scanTo_range (digitAt s) s.size i (by omega)
    rw [ByteArray.size_extract] at hsz
    obtain ⟨hi, he⟩ := data_ext0 (s := s) (j := scanTo (digitAt s) s.size i) h0 (by omega) hr.2
    rw [he] at hn
    refine atoi_small hn (.inl ?_)
    rw [data_size, ByteArray.size_extract]; omega
theorem next_small {s : ByteArray} {i : Int} (h0 : 0 ≤ i) (hok : (nextAt s i).2.2.2.1 = true) (h2 : (nextAt s i).1 = 2) : ∀ n, Lib.atoi (nextAt s i).2.1.data.toList = some n → Small n := by
  unfold nextAt at hok h2 ⊢
  by_cases c1 : at_ s i = 1
  · simp only [if_pos c1] at h2; omega
  · simp only [if_neg c1] at hok h2 ⊢
    by_cases c4 : at_ s i = 4
    · simp only [if_pos c4] at h2; omega
    · simp only [if_neg c4] at hok h2 ⊢
      by_cases c7 : at_ s i = 7 ∨ at_ s i = 2
      · simp only [if_pos c7] at hok h2 ⊢
        split at hok
        · rename_i hc
          rw [if_pos hc]
          simp only [Bool.and_eq_true] at hc
          exact token_small h0 c7 hc.1
        · simp at hok
      · simp only [if_neg c7] at hok
        exact absurd hok (by simp)
theorem path_ok {s : ByteArray} {j : Int} {ts : List S44} (h : Path s 0 ts j) : TokOK ts := by
  intro t ht
  obtain ⟨p, h0, h1, h5, h6, hok, rfl⟩ := path_tok h (Int.le_refl _) (by omega) t ht
  have ha := tok_alone h0 h1 hok h5 h6
  refine ⟨fun h1 => ?_, fun h2 => ?_⟩
  · have h1' : (nextAt s p).1 = 1 := h1
    rw [h1'] at ha
    exact ha
  · have h2' : (nextAt s p).1 = 2 := h2
    obtain ⟨_, n, hn⟩ := next_num h0 hok h2'
    have := next_small h0 hok h2' n hn
    show Small ((Lib.atoi (nextAt s p).2.1.data.toList).getD 0)
    rw [hn]
    exact this
theorem lex_ok (s : ByteArray) : TokOK (lexB s).1 := by
  by_cases hs : s.size ≤ 20000
  · obtain ⟨ts, j, hp, h0, h1, hc⟩ := whole s hs
    rcases hc with ⟨hl, hk⟩ | ⟨hl, _, _⟩
    · rw [hl]; exact path_ok hp
    · rw [hl]; exact fun t ht => by cases ht
  · unfold lexB
    rw [if_pos (by omega)]
    exact fun t ht => by cases ht
end Go.Proofs.YtonhcfecfifghaaDoor.PPx
namespace Go.Proofs.YtonhcfecfifghaaDoor.PPx
open Go.RowKit Go.Proofs.YtonhcfecfifghaaDoorW.PrintWords Go.Proofs.YtonhcfecfifghaaDoorW.PrintLast Go.Proofs.YtonhcfecfifghaaDoorW.PrintMore
set_option linter.unusedVariables false
/-- what holds of the reader at any time -/
def InvT (s : Rs) : Prop := 0 ≤ s.n ∧ s.n ≤ 65 ∧ s.fl.length ≤ 20 ∧ (s.over = false → s.n ≤ 64 ∧ s.fl.length < 20)
theorem InvT.sub {s s' : Rs} (h : InvT s) (g : Sub s s') : InvT s' := by
  obtain ⟨_, hn, hf, ho⟩ := g
  unfold InvT
  rw [hn, hf, ho]
  exact h
theorem suf_len {a b : List S44} (h : a <:+ b) : a.length ≤ b.length := h.length_le
def Tot {α : Type} (o : Option α) : Prop := ∃ y, o = some y
theorem Tot.obind {α β : Type} {r : Step α} {f : α → Rs → Option (Step β)} (g : ∀ a s, Tot (f a s)) : Tot (PPx.obind r f) := by
  unfold PPx.obind
  cases r.1 with
  | ok a => exact g a _
  | error e => exact ⟨_, rfl⟩
theorem semi_tot (fin : Int) (x : S55) (s : Rs) : Tot (semiS fin x s) := ⟨_, rfl⟩
theorem rest_tot (rec : Int → Rs → Option (List S55 × Rs)) (fin deep k c : Int) (s : Rs) (h7 : k ≠ 7) : Tot (restS rec fin deep k c s) := by
  unfold restS
  by_cases k1 : k = 1
  · rw [if_pos k1]; exact Tot.obind fun a s => Tot.obind fun q s => semi_tot _ _ _
  rw [if_neg k1]
  by_cases k2 : k = 2
  · rw [if_pos k2]; exact Tot.obind fun a s => semi_tot _ _ _
  rw [if_neg k2]
  by_cases k3 : k = 3
  · rw [if_pos k3]; exact Tot.obind fun a s => Tot.obind fun q s => semi_tot _ _ _
  rw [if_neg k3]
  by_cases k4 : k = 4
  · rw [if_pos k4]; exact Tot.obind fun a s => Tot.obind fun q s => semi_tot _ _ _
  rw [if_neg k4]
  by_cases k5 : k = 5
  · rw [if_pos k5]; exact Tot.obind fun a s => Tot.obind fun q s => semi_tot _ _ _
  rw [if_neg k5]
  by_cases k6 : k = 6
  · rw [if_pos k6]; exact Tot.obind fun a s => semi_tot _ _ _
  rw [if_neg k6]
  by_cases k8 : k = 8
  · rw [if_pos k8]; exact Tot.obind fun a s => Tot.obind fun q s => semi_tot _ _ _
  rw [if_neg k8, if_neg h7]
  exact semi_tot _ _ _
/-- what a reader's later state keeps -/
def Later (s s' : Rs) : Prop := s'.toks <:+ s.toks ∧ s.n ≤ s'.n ∧ InvT s'
def RecT (deep : Int) (rec : Int → Rs → Option (List S55 × Rs)) (s0 : Rs) : Prop := ∀ s, s.toks.length ≤ s0.toks.length → s.n = s0.n → InvT s → TokOK s.toks → deep ≠ 4 → ∃ l s', rec (deep + 1) s = some (l, s') ∧ Later s s'
theorem Later.of_sub {s s' : Rs} (h : Sub s s') (hI : InvT s) : Later s s' := ⟨h.1, by rw [h.2.1]; exact Int.le_refl _, hI.sub h⟩
theorem stmt_total {rec : Int → Rs → Option (List S55 × Rs)} {fin deep : Int} (hd : 0 ≤ deep) (hd4 : deep ≤ 4) {s : Rs} (hr : RecT deep rec s) (hs : TokOK s.toks) (hI : InvT s) : ∃ y s', stmtS rec fin deep s = some (y, s') ∧ Later s s' := by
  have htk := take_sub isKey fin s
  unfold stmtS
  cases ht : (takeS isKey fin s).1 with
  | error e => rw [obind_err ht]; exact ⟨_, _, rfl, Later.of_sub htk.1 hI⟩
  | ok t =>
  rw [obind_ok ht]
  obtain ⟨hm, hp, hn0⟩ := htk.2 t ht
  have hk : t.f0 = 1 ∧ isWord t.f1 = true := by simpa [isKey] using hp
  have hix := isWord_ix hk.2
  have hs1 := hs.sub htk.1
  have hI1 := hI.sub htk.1
  have h0 : wordIx t.f1 ≠ 0 := by
    intro h0
    have hz := ((hs t hm).1 hk.1).1
    rw [word0 h0] at hz
    exact absurd hz (by decide)
  by_cases h7 : wordIx t.f1 = 7
  · rw [h7]
    unfold restS
    rw [if_neg (by decide), if_neg (by decide), if_neg (by decide), if_neg (by decide), if_neg (by decide), if_neg (by decide), if_neg (by decide), if_pos rfl]
    by_cases h4 : deep = 4
    · rw [if_pos h4]; exact ⟨_, _, rfl, Later.of_sub htk.1 hI⟩
    rw [if_neg h4]
    have hw : wrap64 (deep + 1) = deep + 1 := by unfold wrap64; omega
    have n1 := name_sub fin (takeS isKey fin s).2 hs1
    cases hp1 : (nameS fin (takeS isKey fin s).2).1 with
    | error e => rw [obind_err hp1]; exact ⟨_, _, rfl, Later.of_sub (htk.1.trans n1.1) hI⟩
    | ok p =>
    rw [obind_ok hp1]
    have hs2 := hs1.sub n1.1
    have n2 := name_sub fin _ hs2
    cases hq1 : (nameS fin (nameS fin (takeS isKey fin s).2).2).1 with
    | error e => rw [obind_err hq1]; exact ⟨_, _, rfl, Later.of_sub (htk.1.trans (n1.1.trans n2.1)) hI⟩
    | ok q =>
    rw [obind_ok hq1]
    have hs3 := hs2.sub n2.1
    have n3 := sign_ok' ⟨#[123]⟩ fin (nameS fin (nameS fin (takeS isKey fin s).2).2).2
    have hsub := htk.1.trans (n1.1.trans (n2.1.trans n3.1))
    cases hu1 : (signS ⟨#[123]⟩ fin (nameS fin (nameS fin (takeS isKey fin s).2).2).2).1 with
    | error e => rw [obind_err hu1]; exact ⟨_, _, rfl, Later.of_sub hsub hI⟩
    | ok u =>
    rw [obind_ok hu1]
    have hs4 := hs3.sub n3.1
    obtain ⟨l, s', hr1, ha, hb, hc⟩ := hr _ (suf_len hsub.1) hsub.2.1 (hI.sub hsub) hs4 h4
    rw [hw, hr1]
    simp only [Option.bind_some]
    have n5 := sign_ok' ⟨#[125]⟩ fin s'
    rcases bind_inv (r := signS ⟨#[125]⟩ fin s') (f := fun _ s => (.ok (⟨7, 0, q, p, 0, ⟨⟨0, 0, 0⟩, ⟨0, 0, 0⟩⟩, l, t.f2⟩ : S55), s)) with ⟨a, ha', e⟩ | ⟨e', he, e⟩
    all_goals
      rw [e]
      refine ⟨_, _, rfl, n5.1.1.trans (ha.trans hsub.1), ?_, hc.sub n5.1⟩
      have := n5.1.2.1
      have := hsub.2.1
      omega
  · obtain ⟨⟨y, s'⟩, hy⟩ := rest_tot rec fin deep (wordIx t.f1) t.f2 (takeS isKey fin s).2 h7
    refine ⟨y, s', hy, Later.of_sub (htk.1.trans ?_) hI⟩
    exact (rest_sub rec fin deep _ _ _ hs1 h7 (by omega) (y, s') hy).1
theorem tell_inv {s : Rs} (f : S35) (hI : InvT s) (ho : s.over = false) : InvT (tellS f s) := by
  obtain ⟨h0, h1, h2, h3⟩ := hI
  have h4 := h3 ho
  refine ⟨h0, h1, ?_, fun h => ⟨h4.1, ?_⟩⟩
  · simp only [tellS, List.length_append, List.length_cons, List.length_nil]; omega
  · simp only [tellS, List.length_append, List.length_cons, List.length_nil] at h ⊢
    rw [ho] at h
    simp only [Bool.false_or, Bool.or_eq_false_iff, beq_eq_false_iff_ne, ne_eq] at h
    have := h.2
    omega
theorem one_total {rec : Int → Rs → Option (List S55 × Rs)} {fin deep : Int} (hd : 0 ≤ deep) (hd4 : deep ≤ 4) {s : Rs} (hr : RecT deep rec s) (hs : TokOK s.toks) (hI : InvT s) (hl : s.toks.length ≤ 1000000) : ∃ x s', oneS rec fin deep s = some (x, s') ∧ Later s s' := by
  obtain ⟨y, s1, hy, h1, h2, h3⟩ := stmt_total (fin := fin) hd hd4 hr hs hI
  unfold oneS
  rw [hy]
  simp only [Option.bind_some]
  cases y with
  | ok z => exact ⟨_, _, rfl, h1, h2, h3⟩
  | error f =>
    by_cases ho : s1.over = true
    · simp only [if_pos ho]
      exact ⟨_, _, rfl, h1, h2, h3⟩
    · have ho : s1.over = false := by simpa using ho
      have h20 := (h3.2.2.2 ho).2
      have hln := suf_len h1
      simp only [ho, Bool.false_eq_true, if_false]
      rw [if_neg (by omega)]
      have hx := tell_inv ⟨f.1, f.2⟩ h3 ho
      exact ⟨_, _, rfl, (skip_suf _).trans h1, h2, hx⟩
theorem stmts_total (fin : Int) : ∀ (k : Nat) (deep : Int) (s : Rs) (out : List S55), 0 ≤ deep → deep ≤ 4 → TokOK s.toks → s.toks.length ≤ 1000000 → InvT s → (out.length : Int) ≤ s.n → s.toks.length + (65 - s.n).toNat < k → ∃ l s', stmtsS fin k deep s out = some (l, s') ∧ Later s s'
  | 0, deep, s, out, _, _, _, _, _, _, hk => by omega
  | k + 1, deep, s, out, hd, hd4, hs, hl, hI, ho, hk => by
    have ih := stmts_total fin k
    rw [stmtsS]
    by_cases c1 : s.over = true ∨ s.toks = []
    · rw [if_pos c1]; exact ⟨_, _, rfl, List.suffix_refl _, Int.le_refl _, hI⟩
    rw [if_neg c1]
    have hov : s.over = false := by simpa using fun h' => c1 (.inl h')
    have hne : s.toks ≠ [] := fun h' => c1 (.inr h')
    have h64 := hI.2.2.2 hov
    have hn0 := hI.1
    by_cases c2 : isSign ⟨#[125]⟩ (lookS fin s.toks) = true
    · rw [if_pos c2]
      by_cases c3 : deep > 0
      · rw [if_pos c3]; exact ⟨_, _, rfl, List.suffix_refl _, Int.le_refl _, hI⟩
      rw [if_neg c3, if_neg (by omega)]
      have hlen : s.toks.tail.length + 1 = s.toks.length := by
        cases h : s.toks with
        | nil => exact absurd h hne
        | cons => simp
      have hsuf : s.toks.tail <:+ s.toks := List.tail_suffix _
      obtain ⟨l, s', h, ha, hb, hc⟩ := ih deep { tellS ⟨110, (lookS fin s.toks).f2⟩ s with toks := s.toks.tail } out hd hd4 (fun t ht => hs t (hsuf.subset ht)) (by simp only; omega) (tell_inv _ hI hov) ho (by simp only [tellS]; omega)
      exact ⟨l, s', h, ha.trans hsuf, hb, hc⟩
    rw [if_neg c2]
    have hw : wrap64 (s.n + 1) = s.n + 1 := by unfold wrap64; omega
    rw [hw]
    by_cases c4 : s.n + 1 > 64
    · rw [if_pos c4, if_neg (by omega)]
      refine ⟨_, _, rfl, List.suffix_refl _, by simp only; omega, by simp only; omega, by simp only; omega, ?_, fun h => by simp at h⟩
      simp only [List.length_append, List.length_cons, List.length_nil]; omega
    rw [if_neg c4, if_neg (by omega)]
    have hI' : InvT { s with n := s.n + 1 } := ⟨by simp only; omega, by simp only; omega, hI.2.2.1, fun h => ⟨by simp only; omega, h64.2⟩⟩
    have hrec : RecT deep (fun d s => stmtsS fin k d s []) { s with n := s.n + 1 } := by
      intro s2 h1 h2 h3 h4 h5
      simp only at h1 h2
      exact ih (deep + 1) s2 [] (by omega) (by omega) h4 (by omega) h3 (by simp only [List.length_nil]; have := h3.1; omega) (by omega)
    obtain ⟨x, s1, hx, h1, h2, h3⟩ := one_total (fin := fin) hd hd4 hrec hs hI' hl
    rw [hx]
    simp only [Option.bind_some]
    simp only at h1 h2
    have hln := suf_len h1
    cases x with
    | none =>
      obtain ⟨l, s', h, ha, hb, hc⟩ := ih deep s1 out hd hd4 (fun t ht => hs t (h1.subset ht)) (by omega) h3 (by omega) (by omega)
      exact ⟨l, s', h, ha.trans h1, by omega, hc⟩
    | some z =>
      obtain ⟨l, s', h, ha, hb, hc⟩ := ih deep s1 (out ++ [z]) hd hd4 (fun t ht => hs t (h1.subset ht)) (by omega) h3 (by simp only [List.length_append, List.length_cons, List.length_nil]; omega) (by omega)
      exact ⟨l, s', h, ha.trans h1, by omega, hc⟩
theorem inv0 (ts : List S44) : InvT ⟨ts, 0, [], false⟩ := ⟨by simp, by simp, by simp, fun _ => ⟨by simp, by simp⟩⟩
/-- Parse ends -/
theorem parse_total (s : ByteArray) : ∃ r, ∃ K, ∀ k, K ≤ k → parser_Parse.f k s = some r := by
  unfold parser_Parse.f
  by_cases he : (lexB s).2.1 = 0
  · have hl := lexB_len s
    obtain ⟨l, s', h, _⟩ := stmts_total s.size 30000 0 ⟨(lexB s).1, 0, [], false⟩ [] (Int.le_refl _) (by decide) (lex_ok s) (by simp only; omega) (inv0 _) (by simp) (by simp only; omega)
    refine ⟨(l, s'.fl), 30000, fun k hk => ?_⟩
    rw [if_pos he, stmts_lift hk h]
    rfl
  · exact ⟨_, 0, fun k _ => by rw [if_neg he]⟩
/-- what Parse hands back is valid -/
theorem parse_valid {s : ByteArray} {k : Nat} {l : List S55} {f : List S35} (h : parser_Parse.f k s = some (l, f)) : ∃ n ks, VLs 4 l n ks ∧ n ≤ 64 := by
  unfold parser_Parse.f at h
  by_cases he : (lexB s).2.1 = 0
  · rw [if_pos he] at h
    obtain ⟨r, hr, h2⟩ := Option.map_eq_some_iff.1 h
    obtain ⟨_, hI, _, l', n, ks, hl, hv, hn, hn64⟩ := stmts_sound _ _ _ _ _ _ hr (lex_ok s) (Int.le_refl _) (by decide) ⟨by simp, by simp, fun _ => by simp⟩
    simp only at hn hn64
    have e : l = r.1 := (congrArg Prod.fst h2).symm
    rw [hl, List.nil_append] at e
    rw [e]
    refine ⟨n, ks, hv, ?_⟩
    by_cases hz : n = 0
    · omega
    · have := hn64 hz; omega
  · rw [if_neg he] at h
    have e : l = [] := (congrArg Prod.fst (Option.some.inj h)).symm
    rw [e]
    exact ⟨0, [], .nil _, by decide⟩
end Go.Proofs.YtonhcfecfifghaaDoor.PPx
namespace Go.Proofs.YtonhcfecfifghaaDoor.PPx
open Go.RowKit Go.Proofs.YtonhcfecfifghaaDoorW.PrintWords Go.Proofs.YtonhcfecfifghaaDoorW.PrintLast Go.Proofs.YtonhcfecfifghaaDoorW.PrintMore
set_option linter.unusedVariables false
theorem smallB_of {n : Int} (h : Small n) : smallB n = true := by
  obtain ⟨h1, h2⟩ := h
  unfold smallB
  rw [decide_eq_true (show n > -1000000000 from h1), decide_eq_true h2]
  rfl
theorem smallJ_of {q : S52} (h : SmallQ q) : smallJ q = true := by
  unfold smallJ
  rw [smallB_of h.1, smallB_of h.2.1, smallB_of h.2.2]
  rfl
theorem small0 : Small 0 := ⟨by decide, by decide⟩
theorem smallZ : SmallQ zJ := ⟨small0, small0, small0⟩
theorem name_lex {s : ByteArray} (h : TokText 1 s) (hs : s.size ≤ 20000) : lexB s = ([⟨1, s, 0⟩], 0, 0) := (LexT.tok h).lex hs
theorem name_true {s : ByteArray} (h : NameOK s) : parser_name.f s = some true := by
  have hl := name_lex h.1 (by have := h.2.1; omega)
  have hn : isNamed ⟨1, s, 0⟩ = true := by
    have h1 := h.2.1
    simp only [isNamed, h.2.2, Bool.not_false, Bool.and_true, beq_self_eq_true, Bool.true_and, decide_eq_true_eq]
    omega
  unfold parser_name.f
  rw [show lexer_Lex.f s = some (lexB s) from rfl, hl]
  simp only [Option.bind_some]
  rw [if_pos trivial, if_pos (by simp), if_pos (by simp)]
  show (Option.bind (some (isNamed ⟨1, s, 0⟩)) fun t124 => if t124 = true then some (s.toList == s.toList) else some false) = _
  rw [hn]
  simp
theorem plainF_of {k : Nat} {x : S55} (h1 : 1 ≤ x.f0) (h8 : x.f0 ≤ 8) (ha : x.f1 = 0 ∨ x.f1 = 1) (hn : Small x.f4) (hs : sameS (parser_Equal.f k) x (bareS x) = some true) (hq : SmallQ x.f5.f0) (hp : SmallQ x.f5.f1) (hm : namesF x = some true) : plainF k x = some true := by
  unfold plainF
  rw [if_neg (by omega), if_neg (by omega), if_neg (by omega), if_neg (by rw [smallB_of hn]; decide), hs, Option.bind_some, if_neg (by decide), if_neg (by rw [smallJ_of hq]; decide), if_neg (by rw [smallJ_of hp]; decide)]
  exact hm
theorem arm_in {m : Int} (h : m = 0 ∨ m = 1) : m = 0 ∨ m = 1 := h
theorem plain_true {x : S55} (hx : PlainOK x) (hs : SimL x.f6 x.f6) : ∃ K, ∀ k, K ≤ k → plainF k x = some true := by
  obtain ⟨K, hK⟩ := hs.equal
  obtain ⟨K0, hK0⟩ := SimL.nil.equal
  refine ⟨max K K0, fun k hk => ?_⟩
  have hk1 := hK k (by omega)
  have hk0 := hK0 k (by omega)
  cases hx with
  | go0 h => exact plainF_of (by simp) (by simp) (.inl rfl) small0 (same_true rfl rfl rfl rfl rfl rfl hk0) h smallZ rfl
  | go1 h => exact plainF_of (by simp) (by simp) (.inr rfl) small0 (same_true rfl rfl rfl rfl rfl rfl hk0) smallZ h rfl
  | home h => exact plainF_of (by simp) (by simp) h small0 (same_true rfl rfl rfl rfl rfl rfl hk0) smallZ smallZ rfl
  | pick h hn => exact plainF_of (by simp) (by simp) h small0 (same_true rfl rfl rfl rfl rfl rfl hk0) smallZ smallZ (by simp [namesF, name_true hn])
  | put h hn => exact plainF_of (by simp) (by simp) h small0 (same_true rfl rfl rfl rfl rfl rfl hk0) smallZ smallZ (by simp [namesF, name_true hn])
  | hand h hn => exact plainF_of (by simp) (by simp) h small0 (same_true rfl rfl rfl rfl rfl rfl hk0) smallZ smallZ (by simp [namesF, name_true hn])
  | wait h => exact plainF_of (by simp) (by simp) (.inl rfl) h (same_true rfl rfl rfl rfl rfl rfl hk0) smallZ smallZ rfl
  | when_ h g => exact plainF_of (by simp) (by simp) (.inl rfl) small0 (same_true rfl rfl rfl rfl rfl rfl hk1) smallZ smallZ (by simp [namesF, name_true h, name_true g])
  | both h g => exact plainF_of (by simp) (by simp) (.inl rfl) small0 (same_true rfl rfl rfl rfl rfl rfl hk0) h g rfl
/-- a round of count -/
theorem count_step (k : Nat) (deep n : Int) (l : List S55) (i : Int) (h0 : 0 ≤ i) (h1 : i < l.length) : parser_count.l0 (k + 2) deep n l l.length i =
    if wrap64 (n + 1) > 64 then some 65 else if (rd_T55 l i).f0 = 7 ∧ deep = 4 then some 65
    else (plainF (k + 1) (rd_T55 l i)).bind fun t => if t = true then (if (rd_T55 l i).f0 = 7 then (parser_count.f k (rd_T55 l i).f6 (wrap64 (deep + 1))).bind fun m => parser_count.l0 k deep (wrap64 (wrap64 (n + 1) + m)) l l.length (wrap64 (i + 1)) else parser_count.l0 k deep (wrap64 (n + 1)) l l.length (wrap64 (i + 1))) else some 65 := by
  rw [parser_count.l0, if_pos h1, if_pos h0, if_pos h1]
  by_cases c : wrap64 (n + 1) > 64
  · rw [if_pos c, if_pos c, parser_count.j1, if_pos rfl]
  rw [if_neg c, if_neg c]
  by_cases c7 : (rd_T55 l i).f0 = 7
  · rw [if_pos c7]
    by_cases c4 : deep = 4
    · rw [if_pos c4, if_pos ⟨c7, c4⟩, parser_count.j1, if_pos rfl]
    · rw [if_neg c4, if_neg (fun h => c4 h.2)]
      simp only [parser_count.j1]
      show (plainF (k + 1) (rd_T55 l i)).bind _ = _
      congr 1
      funext t
      cases t
      · rfl
      · simp only [Bool.not_true, Bool.false_eq_true, if_false, if_true]
  · rw [if_neg c7, if_neg (fun h => c7 h.1)]
    simp only [parser_count.j1]
    show (plainF (k + 1) (rd_T55 l i)).bind _ = _
    congr 1
    funext t
    cases t
    · rfl
    · simp only [Bool.not_true, Bool.false_eq_true, if_false, if_true, if_neg c7]
theorem rd_mid (pre : List S55) (x : S55) (l : List S55) : rd_T55 (pre ++ x :: l) (pre.length : Int) = x := by simp [rd_T55]
theorem count_end (k : Nat) (deep n : Int) (l : List S55) : parser_count.l0 (k + 1) deep n l l.length l.length = some n := by
  rw [parser_count.l0, if_neg (Int.lt_irrefl _)]
theorem plain_lift {k k' : Nat} {x : S55} {r : Bool} (hk : k ≤ k') (h : plainF k x = some r) : plainF k' x = some r := by
  obtain ⟨j, rfl⟩ := Nat.exists_eq_add_of_le hk
  induction j with
  | zero => exact h
  | succ j ih => exact plain_le _ _ _ (ih (by omega))
theorem vls_len {d m : Nat} {l : List S55} {ks : List (Int × ByteArray)} (h : VLs d l m ks) : l.length ≤ m := by
  induction h with
  | nil => simp
  | plain _ _ _ ih => simp only [List.length_cons]; omega
  | when_ _ _ _ _ _ ih => simp only [List.length_cons]; omega
/-- count of valid statements -/
theorem count_ok {d m : Nat} {l : List S55} {ks : List (Int × ByteArray)} (h : VLs d l m ks) : ∀ (deep n : Int) (pre : List S55), 0 ≤ deep → deep + d ≤ 4 → 0 ≤ n → n + m ≤ 64 → (pre.length : Int) + l.length ≤ 1000000 → ∃ K, ∀ k, K ≤ k → parser_count.l0 k deep n (pre ++ l) (pre ++ l).length pre.length = some (n + m) := by
  induction h with
  | nil d =>
    intro deep n pre hd hd4 hn hm hp
    refine ⟨1, fun k hk => ?_⟩
    obtain ⟨k, rfl⟩ : ∃ j, k = j + 1 := ⟨k - 1, by omega⟩
    rw [List.append_nil, count_end]
    simp
  | @plain d m x l ks hx h7 hl ih =>
    intro deep n pre hd hd4 hn hm hp
    obtain ⟨K, hK⟩ := ih deep (n + 1) (pre ++ [x]) hd hd4 (by omega) (by omega) (by simp only [List.length_append, List.length_cons, List.length_nil] at hp ⊢; omega)
    have h6 : SimL x.f6 x.f6 := by cases hx <;> first | exact .nil | exact absurd rfl h7
    obtain ⟨K1, hK1⟩ := plain_true hx h6
    refine ⟨max K K1 + 2, fun k hk => ?_⟩
    obtain ⟨k, rfl⟩ : ∃ j, k = j + 2 := ⟨k - 2, by omega⟩
    have hn1 : wrap64 (n + 1) = n + 1 := by unfold wrap64; omega
    have hi1 : wrap64 ((pre.length : Int) + 1) = ((pre ++ [x]).length : Int) := by
      simp only [List.length_append, List.length_cons, List.length_nil] at hp ⊢
      unfold wrap64; omega
    rw [count_step k deep n (pre ++ x :: l) pre.length (by omega) (by simp only [List.length_append, List.length_cons]; omega), rd_mid, hn1, hi1, if_neg (by omega), if_neg (fun h => h7 h.1), plain_lift (Nat.le_succ k) (hK1 k (by omega)), Option.bind_some, if_pos rfl, if_neg h7]
    have := hK k (by omega)
    rw [List.append_assoc, List.singleton_append] at this
    rw [this]
    congr 1; omega
  | @when_ d m1 m2 x l ks ls hx h7 hkd hl ihk ihl =>
    intro deep n pre hd hd4 hn hm hp
    obtain ⟨K, hK⟩ := ihl deep (n + 1 + m2) (pre ++ [x]) hd hd4 (by omega) (by omega) (by simp only [List.length_append, List.length_cons, List.length_nil] at hp ⊢; omega)
    obtain ⟨K2, hK2⟩ := ihk (deep + 1) 0 [] (by omega) (by omega) (Int.le_refl _) (by omega) (by
      have := vls_len hkd
      simp only [List.length_nil]; omega)
    obtain ⟨K1, hK1⟩ := plain_true hx hkd.sim
    refine ⟨max (max K K1) (K2 + 1) + 2, fun k hk => ?_⟩
    obtain ⟨k, rfl⟩ : ∃ j, k = j + 2 := ⟨k - 2, by omega⟩
    have hn1 : wrap64 (n + 1) = n + 1 := by unfold wrap64; omega
    have hd1 : wrap64 (deep + 1) = deep + 1 := by unfold wrap64; omega
    have hi1 : wrap64 ((pre.length : Int) + 1) = ((pre ++ [x]).length : Int) := by
      simp only [List.length_append, List.length_cons, List.length_nil] at hp ⊢
      unfold wrap64; omega
    have hc : parser_count.f k x.f6 (deep + 1) = some (m2 : Int) := by
      obtain ⟨k, rfl⟩ : ∃ j, k = j + 1 := ⟨k - 1, by omega⟩
      have := hK2 k (by omega)
      rw [parser_count.f]
      simpa using this
    have hn2 : wrap64 (n + 1 + (m2 : Int)) = n + 1 + m2 := by unfold wrap64; omega
    rw [count_step k deep n (pre ++ x :: l) pre.length (by omega) (by simp only [List.length_append, List.length_cons]; omega), rd_mid, hn1, hi1, hd1, if_neg (by omega), if_neg (by omega), plain_lift (Nat.le_succ k) (hK1 k (by omega)), Option.bind_some, if_pos rfl, if_pos h7, hc, Option.bind_some, hn2]
    have := hK k (by omega)
    rw [List.append_assoc, List.singleton_append] at this
    rw [this]
    congr 1; omega
theorem valid_ok {m : Nat} {l : List S55} {ks : List (Int × ByteArray)} (h : VLs 4 l m ks) (hm : m ≤ 64) : ∃ K, ∀ k, K ≤ k → parser_Valid.f k l = some true := by
  obtain ⟨K, hK⟩ := count_ok h 0 0 [] (Int.le_refl _) (by omega) (Int.le_refl _) (by omega) (by have := vls_len h; simp only [List.length_nil]; omega)
  refine ⟨K + 1, fun k hk => ?_⟩
  obtain ⟨k, rfl⟩ : ∃ j, k = j + 1 := ⟨k - 1, by omega⟩
  have := hK k (by omega)
  unfold parser_Valid.f
  rw [parser_count.f]
  have e : parser_count.l0 k 0 0 l (l.length : Int) 0 = some (0 + (m : Int)) := by simpa using this
  rw [e, Option.bind_some, decide_eq_true (by omega)]
end Go.Proofs.YtonhcfecfifghaaDoor.PPx
