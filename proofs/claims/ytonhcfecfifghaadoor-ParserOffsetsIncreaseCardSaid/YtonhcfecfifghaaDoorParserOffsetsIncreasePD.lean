/- Part D of the proof of ParserOffsetsIncrease: the contracts of the functions that the law reaches, and what their plain functions compute. No condition. -/
import Derived.Test.YtonhcfecfifghaaDoorParserOffsetsIncreasePA
import Derived.Test.YtonhcfecfifghaaDoorParserOffsetsIncreasePB
import Derived.Test.YtonhcfecfifghaaDoorParserOffsetsIncreasePC
namespace Go.Proofs.YtonhcfecfifghaaDoor.PPx
open Go.RowKit Go.Proofs.YtonhcfecfifghaaDoorW.PrintWords Go.Proofs.YtonhcfecfifghaaDoorW.PrintLast Go.Proofs.YtonhcfecfifghaaDoorW.PrintMore
set_option linter.unusedVariables false
set_option linter.unusedSimpArgs false
def bl (n m : Nat) : Array Bool := ((List.range n).map fun i => m.testBit i).toArray
theorem up_ {w W : World} {v : Value} {a : Addr} (hB : Below w.heap.size w W) (h : w.cell? a = some v) : W.cell? a = some v := (hB.cell (World.block_lt_of_cell? w _ h)).trans h
mutual
def ambidexterlaw11_placed.l0 : Nat → ByteArray → List (S55) → Int → Int → Option (Int × Bool)
 | 0, _, _, _, _ => none
 | k + 1, x0, x1, x8, x9 => if x9 < (x1.length : Int) then ((ambidexterref11_Words.f).bind fun t168 => (if 0 ≤ x9 then (if 0 ≤ ((rd_T55 x1 x9).f0) then (if ((rd_T55 x1 x9).f0) < (t168.length : Int) then (if ((rd_T55 x1 x9).f7) < x8 then (ambidexterlaw11_placed.j1 k x0 x1 x8 x9 true) else (if (wrap64 (((rd_T55 x1 x9).f7) + ((rdOf ByteArray.empty t168 ((rd_T55 x1 x9).f0)).size : Int))) > (x0.size : Int) then (ambidexterlaw11_placed.j1 k x0 x1 x8 x9 true) else (if 0 ≤ ((rd_T55 x1 x9).f7) then (if ((rd_T55 x1 x9).f7) ≤ (wrap64 (((rd_T55 x1 x9).f7) + ((rdOf ByteArray.empty t168 ((rd_T55 x1 x9).f0)).size : Int))) then (if (wrap64 (((rd_T55 x1 x9).f7) + ((rdOf ByteArray.empty t168 ((rd_T55 x1 x9).f0)).size : Int))) ≤ (x0.size : Int) then (ambidexterlaw11_placed.j1 k x0 x1 x8 x9 ((x0.extract (((rd_T55 x1 x9).f7) : Int).toNat ((wrap64 (((rd_T55 x1 x9).f7) + ((rdOf ByteArray.empty t168 ((rd_T55 x1 x9).f0)).size : Int))) : Int).toNat).toList != (rdOf ByteArray.empty t168 ((rd_T55 x1 x9).f0)).toList)) else (none)) else (none)) else (none)))) else (none)) else (none)) else (none))) else (some (x8, true))
def ambidexterlaw11_placed.j1 : Nat → ByteArray → List (S55) → Int → Int → Bool → Option (Int × Bool)
 | 0, _, _, _, _, _ => none
 | k + 1, x0, x1, x8, x9, x66 => if x66 = true then (some (x8, false)) else (if 0 ≤ x9 then (if x9 < (x1.length : Int) then ((ambidexterlaw11_placed.f k x0 ((rd_T55 x1 x9).f6) (wrap64 (((rd_T55 x1 x9).f7) + 1))).bind fun bt179 => (if bt179.2 = true then (if (((rd_T55 x1 x9).f6).length : Int) = 0 then (ambidexterlaw11_placed.l0 k x0 x1 (wrap64 (((rd_T55 x1 x9).f7) + 1)) (wrap64 (x9 + 1))) else (ambidexterlaw11_placed.l0 k x0 x1 bt179.1 (wrap64 (x9 + 1)))) else (some (x8, false)))) else (none)) else (none))
def ambidexterlaw11_placed.f : Nat → ByteArray → List (S55) → Int → Option (Int × Bool)
 | 0, _, _, _ => none
 | k + 1, a0, l1, a2 => ambidexterlaw11_placed.l0 k a0 l1 a2 0
end
theorem ambidexterlaw11_placed.mono_l : ∀ k, (∀ y0 y1 y2, LeO (ambidexterlaw11_placed.f k y0 y1 y2) (ambidexterlaw11_placed.f (k + 1) y0 y1 y2)) ∧ (∀ y0 y1 y2 y3, LeO (ambidexterlaw11_placed.l0 k y0 y1 y2 y3) (ambidexterlaw11_placed.l0 (k + 1) y0 y1 y2 y3)) ∧ (∀ y0 y1 y2 y3 y4, LeO (ambidexterlaw11_placed.j1 k y0 y1 y2 y3 y4) (ambidexterlaw11_placed.j1 (k + 1) y0 y1 y2 y3 y4))
 | 0 => ⟨fun _ _ _ r h => by simp [ambidexterlaw11_placed.f] at h, fun _ _ _ _ r h => by simp [ambidexterlaw11_placed.l0] at h, fun _ _ _ _ _ r h => by simp [ambidexterlaw11_placed.j1] at h⟩
 | k + 1 => by
  obtain ⟨ih0, ih1, ih2⟩ := ambidexterlaw11_placed.mono_l k
  refine ⟨?_, ?_, ?_⟩
  · intro y0 y1 y2
    unfold ambidexterlaw11_placed.f
    repeat' first
    | (with_reducible exact ih0 _ _ _)
    | (with_reducible exact ih1 _ _ _ _)
    | (with_reducible exact ih2 _ _ _ _ _)
    | (with_reducible exact LeO.refl _)
    | (with_reducible exact LeO.none _)
    | (with_reducible refine LeO.ite ?_ ?_)
    | (with_reducible refine LeO.bind ?_ (fun _ => ?_))
    | exact ih0 _ _ _
    | exact ih1 _ _ _ _
    | exact ih2 _ _ _ _ _
    | exact LeO.none _
    | refine LeO.ite ?_ ?_
    | refine LeO.bind ?_ (fun _ => ?_)
  · intro y0 y1 y2 y3
    unfold ambidexterlaw11_placed.l0
    repeat' first
    | (with_reducible exact ih0 _ _ _)
    | (with_reducible exact ih1 _ _ _ _)
    | (with_reducible exact ih2 _ _ _ _ _)
    | (with_reducible exact LeO.refl _)
    | (with_reducible exact LeO.none _)
    | (with_reducible refine LeO.ite ?_ ?_)
    | (with_reducible refine LeO.bind ?_ (fun _ => ?_))
    | exact ih0 _ _ _
    | exact ih1 _ _ _ _
    | exact ih2 _ _ _ _ _
    | exact LeO.none _
    | refine LeO.ite ?_ ?_
    | refine LeO.bind ?_ (fun _ => ?_)
  · intro y0 y1 y2 y3 y4
    unfold ambidexterlaw11_placed.j1
    repeat' first
    | (with_reducible exact ih0 _ _ _)
    | (with_reducible exact ih1 _ _ _ _)
    | (with_reducible exact ih2 _ _ _ _ _)
    | (with_reducible exact LeO.refl _)
    | (with_reducible exact LeO.none _)
    | (with_reducible refine LeO.ite ?_ ?_)
    | (with_reducible refine LeO.bind ?_ (fun _ => ?_))
    | exact ih0 _ _ _
    | exact ih1 _ _ _ _
    | exact ih2 _ _ _ _ _
    | exact LeO.none _
    | refine LeO.ite ?_ ?_
    | refine LeO.bind ?_ (fun _ => ?_)
theorem ambidexterlaw11_placed.mono : ∀ a0 a1 a2 k, LeO (ambidexterlaw11_placed.f k a0 a1 a2) (ambidexterlaw11_placed.f (k + 1) a0 a1 a2) := by
 intro a0 a1 a2 k
 obtain ⟨ih0, ih1, ih2⟩ := ambidexterlaw11_placed.mono_l k
 exact ih0 a0 a1 a2
def ambidexterlaw11_placed.T5 : Bool × List (List Nat × List Nat) := (true, [([], []), ([], []), ([], []), ([1, 2], [1, 2]), ([3], [3]), ([4], [4]), ([0, 5], [0, 5]), ([6], [6]), ([7, 0, 0, 1, 2, 3, 4, 5, 6, 7], [7])])
def ambidexterlaw11_placed.B5 : List Nat := [0, 0, 0, 6, 14, 30, 63, 127, 255]
theorem ambidexterlaw11_placed.tab5 : rtab .any (opsOf Tryd.f20 5) = ambidexterlaw11_placed.T5 := by kernel_rfl
theorem ambidexterlaw11_placed.bits5 : waitsOk ambidexterlaw11_placed.T5.2 ambidexterlaw11_placed.B5 = true := by kernel_rfl
def ambidexterlaw11_placed.T6 : Bool × List (List Nat × List Nat) := (true, [([], []), ([], []), ([0, 1], [0, 1]), ([2], [2]), ([3], [3]), ([], []), ([4, 5], [4, 5]), ([6], [6]), ([7], [7]), ([7], [7]), ([8, 9, 7], [7, 8, 9]), ([10, 7], [7, 10]), ([11, 7], [7, 11]), ([7], [7]), ([13, 7], [7, 13]), ([12, 14, 7], [7, 12, 14]), ([7], [7]), ([16, 7], [7, 16]), ([15, 17, 7], [7, 15, 17]), ([7, 18], [7, 18]), ([19, 7], [19]), ([20], [20]), ([20], [20]), ([20], [20]), ([22, 23, 20], [20, 22, 23]), ([24, 20], [20, 24]), ([25, 20], [20, 25]), ([20], [20]), ([20], [20]), ([27, 28, 20], [20, 27, 28]), ([29, 20], [20, 29]), ([30, 20], [20, 30]), ([20], [20]), ([32, 20], [20, 32]), ([31, 33, 20], [20, 31, 33]), ([21, 26, 34, 20], [20, 21, 26, 34]), ([20], [20]), ([35, 36, 20], [20, 35, 36]), ([20, 37], [20, 37])])
def ambidexterlaw11_placed.B6 : List Nat := [0, 0, 3, 7, 15, 0, 63, 127, 255, 255, 1023, 2047, 4095, 255, 8447, 32767, 255, 65791, 262143, 524287, 1048575, 2097151, 2097151, 2097151, 14680063, 31457279, 65011711, 2097151, 2097151, 404750335, 941621247, 2015363071, 2097151, 4297064447, 17047748607, 34359738367, 2097151, 137438953471, 274877906943]
theorem ambidexterlaw11_placed.tab6 : rtab .any (opsOf Tryd.f20 6) = ambidexterlaw11_placed.T6 := by kernel_rfl
theorem ambidexterlaw11_placed.bits6 : waitsOk ambidexterlaw11_placed.T6.2 ambidexterlaw11_placed.B6 = true := by kernel_rfl
def ambidexterlaw11_placed.T8 : Bool × List (List Nat × List Nat) := (true, [([], []), ([], []), ([], []), ([1, 2], [1, 2]), ([3], [3]), ([4], [4]), ([], []), ([], []), ([6, 7], [6, 7]), ([8], [8]), ([9], [9]), ([10], [10]), ([0, 5, 11], [0, 5, 11]), ([12], [12]), ([13], [13]), ([13], [13]), ([14, 12, 0, 1, 2, 3, 4, 5, 6, 7, 8, 9, 10, 11, 12, 13, 14], [14]), ([15, 16, 0, 1, 2, 3, 4, 5, 6, 7, 8, 9, 10, 11, 12, 13, 14, 15, 16], [15])])
def ambidexterlaw11_placed.B8 : List Nat := [0, 0, 0, 6, 14, 30, 0, 0, 192, 448, 960, 1984, 4095, 8191, 16383, 16383, 32767, 131071]
theorem ambidexterlaw11_placed.tab8 : rtab .any (opsOf Tryd.f20 8) = ambidexterlaw11_placed.T8 := by kernel_rfl
theorem ambidexterlaw11_placed.bits8 : waitsOk ambidexterlaw11_placed.T8.2 ambidexterlaw11_placed.B8 = true := by kernel_rfl
set_option maxHeartbeats 8000000 in
set_option maxRecDepth 100000 in
theorem ambidexterlaw11_placed.calls (k : Nat) : ∀ (a0 : ByteArray) (A1 : Option Addr) (c1 : Nat) (l1 : List (S55)) (a2 : Int) (r1 : Int) (r2 : Bool) (w : World) (hr1 : Kd.C k55 w A1 l1.length l1) (hc1 : l1.length ≤ c1) (h : ambidexterlaw11_placed.f k a0 l1 a2 = some (r1, r2)),
 Calls Tryd.prog 20 #[.string a0, .slice A1 l1.length c1, .int .i64 a2] w fun e w' => e = .returned (.tuple #[.int .i64 r1, .bool r2]) ∧ Below w.heap.size w w' := by
 induction k using Nat.strongRecOn with
 | _ k ih =>
 intro a0 A1 c1 l1 a2 r1 r2 w hr1 hc1 h
 cases k with
 | zero => exact absurd h (by simp [ambidexterlaw11_placed.f])
 | succ k =>
 simp only [ambidexterlaw11_placed.f] at h
 have HR1 := Aside0.mk hr1
 have HC1 := Aside0.mk hc1
 clear hr1 hc1
 have HB := Aside0.mk (Below.refl w.heap.size w)
 have H : (ambidexterlaw11_placed.l0 k a0 l1 a2 0) = some (r1, r2) := h
 clear h
 have H' := Aside0.mk H
 clear H
 go_enter Tryd.func20, Tryd.ntmps20
 go_wp2
 go_loopg [8, 9] k (fun kq v8 v9 w' => ∃ (x8_1 : Int) (x9_1 : Int), v8 = .int .i64 x8_1 ∧ v9 = .int .i64 x9_1 ∧ Aside0 (ambidexterlaw11_placed.l0 kq a0 l1 x8_1 x9_1 = some (r1, r2)) ∧ Aside0 (kq ≤ k) ∧ Aside0 (Below w.heap.size w w'))
 case atStart => exact ⟨(a2), (0), (by first | rfl | (simp; done) | (simp [*]; done)), (by first | rfl | (simp; done) | (simp [*]; done)), H', ⟨Nat.le_refl _⟩, ⟨by repeat (first | (with_reducible first | exact HB.out | apply below_alloc | apply pw_below_drewN | apply below_drew1) | exact HB.out)⟩⟩
 case round =>
  clear H'
  try clear c1
  try clear c2
  try clear p2
  obtain ⟨x8_1, x9_1, rfl, rfl, HA, HK1, HB⟩ := hrel
  cases gk with
  | zero => exact absurd HA.out (by simp [ambidexterlaw11_placed.l0])
  | succ k1 =>
   have H := HA.out
   clear HA
   simp only [ambidexterlaw11_placed.l0] at H
   by_cases c4 : x9_1 < (l1.length : Int)
   · rw [if_pos c4] at H
     have c4b0 : decide (x9_1 < (l1.length : Int)) = true := decide_eq_true c4
     clear c4
     replace H := Option.bind_eq_some_iff.mp H
     obtain ⟨t168, A50, H⟩ := H
     replace H : (if 0 ≤ x9_1 then (if 0 ≤ ((rd_T55 l1 x9_1).f0) then (if ((rd_T55 l1 x9_1).f0) < (t168.length : Int) then (if ((rd_T55 l1 x9_1).f7) < x8_1 then (ambidexterlaw11_placed.j1 k1 a0 l1 x8_1 x9_1 true) else (if (wrap64 (((rd_T55 l1 x9_1).f7) + ((rdOf ByteArray.empty t168 ((rd_T55 l1 x9_1).f0)).size : Int))) > (a0.size : Int) then (ambidexterlaw11_placed.j1 k1 a0 l1 x8_1 x9_1 true) else (if 0 ≤ ((rd_T55 l1 x9_1).f7) then (if ((rd_T55 l1 x9_1).f7) ≤ (wrap64 (((rd_T55 l1 x9_1).f7) + ((rdOf ByteArray.empty t168 ((rd_T55 l1 x9_1).f0)).size : Int))) then (if (wrap64 (((rd_T55 l1 x9_1).f7) + ((rdOf ByteArray.empty t168 ((rd_T55 l1 x9_1).f0)).size : Int))) ≤ (a0.size : Int) then (ambidexterlaw11_placed.j1 k1 a0 l1 x8_1 x9_1 ((a0.extract (((rd_T55 l1 x9_1).f7) : Int).toNat ((wrap64 (((rd_T55 l1 x9_1).f7) + ((rdOf ByteArray.empty t168 ((rd_T55 l1 x9_1).f0)).size : Int))) : Int).toNat).toList != (rdOf ByteArray.empty t168 ((rd_T55 l1 x9_1).f0)).toList)) else (none)) else (none)) else (none)))) else (none)) else (none)) else (none)) = some (r1, r2) := H
     have A5 := Aside0.mk A50
     clear A50
     by_cases c6 : 0 ≤ x9_1
     · rw [if_pos c6] at H
       have c6b0 : decide (0 ≤ x9_1) = true := decide_eq_true c6
       clear c6
       by_cases c7 : 0 ≤ ((rd_T55 l1 x9_1).f0)
       · rw [if_pos c7] at H
         have c7b0 : decide (0 ≤ ((rd_T55 l1 x9_1).f0)) = true := decide_eq_true c7
         clear c7
         by_cases c8 : ((rd_T55 l1 x9_1).f0) < (t168.length : Int)
         · rw [if_pos c8] at H
           have c8b0 : decide (((rd_T55 l1 x9_1).f0) < (t168.length : Int)) = true := decide_eq_true c8
           clear c8
           have HC9 := Aside0.mk H
           clear H
           try go_wp2
           have n0_ := Aside0.mk (below_drew1 HB.out)
           clear HB
           have HB := n0_
           clear n0_
           have p171 : 0 ≤ (x9_1 : Int) := of_decide_eq_true (by first | (with_reducible assumption) | assumption)
           have q171 : x9_1 < (l1.length : Int) := of_decide_eq_true (by first | (with_reducible assumption) | assumption)
           obtain ⟨ad171, A171_11, c171_11, e171, hx171_0, hx171_1, hx171_2, hx171_3, hx171_4, hx171_5, hx171_6, hx171_7, hx171_8, hx171_9, hx171_10, hx171_11, hx171_12, hl171_11, hi171_11⟩ := at_T55 HR1.out x9_1 p171 q171
           have hw171_12 := hx171_12
           have hw171_11 := hx171_11
           have hw171_10 := hx171_10
           have hw171_9 := hx171_9
           have hw171_8 := hx171_8
           have hw171_7 := hx171_7
           have hw171_6 := hx171_6
           have hw171_5 := hx171_5
           have hw171_4 := hx171_4
           have hw171_3 := hx171_3
           have hw171_2 := hx171_2
           have hw171_1 := hx171_1
           have hw171_0 := hx171_0
           cases e171
           replace hx171_0 := up_ HB.out hx171_0
           replace hx171_1 := up_ HB.out hx171_1
           replace hx171_2 := up_ HB.out hx171_2
           replace hx171_3 := up_ HB.out hx171_3
           replace hx171_4 := up_ HB.out hx171_4
           replace hx171_5 := up_ HB.out hx171_5
           replace hx171_6 := up_ HB.out hx171_6
           replace hx171_7 := up_ HB.out hx171_7
           replace hx171_8 := up_ HB.out hx171_8
           replace hx171_9 := up_ HB.out hx171_9
           replace hx171_10 := up_ HB.out hx171_10
           replace hx171_11 := up_ HB.out hx171_11
           replace hx171_12 := up_ HB.out hx171_12
           have HR171_11 := Aside0.mk hi171_11
           have HC171_11 := Aside0.mk hl171_11
           clear hi171_11 hl171_11
           replace p171 := eq_true p171
           replace q171 := eq_true q171
           refine start_ (n := 9) (S := fun w' => w'.cell? (ad171.add ((x9_1).toNat * 13)) = some (.int .i64 ((rd_T55 l1 x9_1).f0)) ∧ w'.cell? ⟨(ad171.add ((x9_1).toNat * 13)).block, (ad171.add ((x9_1).toNat * 13)).off + 1, none⟩ = some (.int .i64 ((rd_T55 l1 x9_1).f1)) ∧ w'.cell? ⟨(ad171.add ((x9_1).toNat * 13)).block, (ad171.add ((x9_1).toNat * 13)).off + 2, none⟩ = some (.string ((rd_T55 l1 x9_1).f2)) ∧ w'.cell? ⟨(ad171.add ((x9_1).toNat * 13)).block, (ad171.add ((x9_1).toNat * 13)).off + 3, none⟩ = some (.string ((rd_T55 l1 x9_1).f3)) ∧ w'.cell? ⟨(ad171.add ((x9_1).toNat * 13)).block, (ad171.add ((x9_1).toNat * 13)).off + 4, none⟩ = some (.int .i64 ((rd_T55 l1 x9_1).f4)) ∧ w'.cell? ⟨(ad171.add ((x9_1).toNat * 13)).block, (ad171.add ((x9_1).toNat * 13)).off + 5, none⟩ = some (.int .i64 ((rd_T55 l1 x9_1).f5.f0.f0)) ∧ w'.cell? ⟨(ad171.add ((x9_1).toNat * 13)).block, (ad171.add ((x9_1).toNat * 13)).off + 6, none⟩ = some (.int .i64 ((rd_T55 l1 x9_1).f5.f0.f1)) ∧ w'.cell? ⟨(ad171.add ((x9_1).toNat * 13)).block, (ad171.add ((x9_1).toNat * 13)).off + 7, none⟩ = some (.int .i64 ((rd_T55 l1 x9_1).f5.f0.f2)) ∧ w'.cell? ⟨(ad171.add ((x9_1).toNat * 13)).block, (ad171.add ((x9_1).toNat * 13)).off + 8, none⟩ = some (.int .i64 ((rd_T55 l1 x9_1).f5.f1.f0)) ∧ w'.cell? ⟨(ad171.add ((x9_1).toNat * 13)).block, (ad171.add ((x9_1).toNat * 13)).off + 9, none⟩ = some (.int .i64 ((rd_T55 l1 x9_1).f5.f1.f1)) ∧ w'.cell? ⟨(ad171.add ((x9_1).toNat * 13)).block, (ad171.add ((x9_1).toNat * 13)).off + 10, none⟩ = some (.int .i64 ((rd_T55 l1 x9_1).f5.f1.f2)) ∧ w'.cell? ⟨(ad171.add ((x9_1).toNat * 13)).block, (ad171.add ((x9_1).toNat * 13)).off + 11, none⟩ = some (.slice A171_11 ((rd_T55 l1 x9_1).f6).length c171_11) ∧ w'.cell? ⟨(ad171.add ((x9_1).toNat * 13)).block, (ad171.add ((x9_1).toNat * 13)).off + 12, none⟩ = some (.int .i64 ((rd_T55 l1 x9_1).f7))) (ds := []) #[false, false, false, false, false, false, false, false, false] (by kernel_rfl) rfl rfl ⟨(up_ HB.out hw171_0), (up_ HB.out hw171_1), (up_ HB.out hw171_2), (up_ HB.out hw171_3), (up_ HB.out hw171_4), (up_ HB.out hw171_5), (up_ HB.out hw171_6), (up_ HB.out hw171_7), (up_ HB.out hw171_8), (up_ HB.out hw171_9), (up_ HB.out hw171_10), (up_ HB.out hw171_11), (up_ HB.out hw171_12)⟩ (fun hHeld => ?_); refine with_tabW ambidexterlaw11_placed.tab5 ambidexterlaw11_placed.bits5 (fun HT_ HW_ => ?_)
           generalize wr.drew = w10 at HB HR171_11 hx171_0 hx171_1 hx171_10 hx171_11 hx171_12 hx171_2 hx171_3 hx171_4 hx171_5 hx171_6 hx171_7 hx171_8 hx171_9 hHeld ⊢
           refine pure_ (i := 1) (N := some 21) (v := ?_) (a' := ?_) (bl 9 2) rfl rfl (any_of HT_.out (by kernel_rfl)) (fun _ _ _ h => h) (Or.inl ⟨by rfl, ?_⟩) ?_ ?_
           rotate_left
           · intro w'
             go_simp
             with_reducible rfl
           rotate_left
           · simp only [Act.put, List.setIfInBounds_toArray, List.set_cons_zero, List.set_cons_succ, i64_w, i32_w]
             rfl
           refine pure_ (i := 2) (N := some 22) (v := ?_) (a' := ?_) (bl 9 6) rfl rfl (any_of HT_.out (by kernel_rfl)) (fun _ _ _ h => h) (Or.inl ⟨by rfl, ?_⟩) ?_ ?_
           rotate_left
           · intro w'
             go_simp
             with_reducible rfl
           rotate_left
           · simp only [Act.put, List.setIfInBounds_toArray, List.set_cons_zero, List.set_cons_succ, i64_w, i32_w]
             rfl
           refine pure_ (i := 3) (N := some 23) (v := ?_) (a' := ?_) (bl 9 14) rfl rfl (any_of HT_.out (by kernel_rfl)) (fun _ _ _ h => h) (Or.inl ⟨by rfl, ?_⟩) ?_ ?_
           rotate_left
           · intro w'
             go_simp
             with_reducible rfl
           rotate_left
           · simp only [Act.put, List.setIfInBounds_toArray, List.set_cons_zero, List.set_cons_succ, i64_w, i32_w]
             rfl
           refine pure_ (i := 4) (N := some 24) (v := ?_) (a' := ?_) (bl 9 30) rfl rfl (any_of HT_.out (by kernel_rfl)) (fun _ _ _ h => h) (Or.inl ⟨by rfl, ?_⟩) ?_ ?_
           rotate_left
           · intro w'
             go_simp
             with_reducible rfl
           rotate_left
           · simp only [Act.put, List.setIfInBounds_toArray, List.set_cons_zero, List.set_cons_succ, i64_w, i32_w]
             rfl
           refine take_ (i := 5) (N := some 25) (v := ?_) (a' := ?_) (bl 9 62) rfl rfl (take_ofW HT_.out HW_.out (by kernel_rfl)) (fun _ _ _ h => h) (Or.inl ⟨by rfl, ?_⟩) hHeld ?_ ?_
           rotate_left
           · rintro w' ⟨s0, s1, s2, s3, s4, s5, s6, s7, s8, s9, s10, s11, s12⟩
             go_simp
             with_reducible rfl
           rotate_left
           · simp only [Act.put, List.setIfInBounds_toArray, List.set_cons_zero, List.set_cons_succ, i64_w, i32_w]
             rfl
           refine one_ (i := 0) (N := some 20) (bl 9 63) rfl rfl (one_of HT_.out (by kernel_rfl)) (by decide) (fun K hK => ?_)
           refine goes_ Tryd.func29 (by kernel_rfl) rfl #[] (by rfl) rfl rfl (by (try simp only [List.map_toArray, List.map_cons, List.map_nil]); first | done | rfl | (simp only [List.length_drop, List.length_take]; rfl)) ?_
           with_reducible refine (ambidexterref11_Words.calls  t168 _ A5.out).mono ?_
           rintro e w11 ⟨v169, rfl, ho0, hb⟩
           refine ⟨_, rfl, ?_⟩
           have n0_ := Aside0.mk (Kd.R_lower ho0 (below_size (by repeat (first | (with_reducible first | exact HB.out | apply below_alloc | apply pw_below_drewN | apply below_drew1) | exact HB.out))))
           have n1_ := Aside0.mk (below_step (by repeat (first | (with_reducible first | exact HB.out | apply below_alloc | apply pw_below_drewN | apply below_drew1) | exact HB.out)) hb)
           clear HB
           have HO170 := n0_
           have HB := n1_
           clear n0_ n1_
           (try clear hb)
           (try clear hb2)
           (try clear hk)
           (try clear hi)
           (try clear ho0)
           obtain ⟨Ao12, co12, eo12⟩ := Kd.R_slice HO170.out
           (first | subst eo12 | (injection eo12 with f1_ f2_ f3_; have f4_ := f1_.symm; have f5_ := f3_.symm; clear f1_ f2_ f3_; subst f4_; subst f5_))
           have p172 : 0 ≤ (((rd_T55 l1 x9_1).f0) : Int) := of_decide_eq_true (by first | (with_reducible assumption) | assumption)
           have q172 : ((rd_T55 l1 x9_1).f0) < (t168.length : Int) := of_decide_eq_true (by first | (with_reducible assumption) | assumption)
           obtain ⟨ad172, e172, hx172_0⟩ := Kd.at_string (Kd.R_reads' HO170.out).2.2 ((rd_T55 l1 x9_1).f0) p172 q172
           cases e172
           replace p172 := eq_true p172
           replace q172 := eq_true q172
           refine hK.out _ _ ⟨(up_ HB.out hw171_0), (up_ HB.out hw171_1), (up_ HB.out hw171_2), (up_ HB.out hw171_3), (up_ HB.out hw171_4), (up_ HB.out hw171_5), (up_ HB.out hw171_6), (up_ HB.out hw171_7), (up_ HB.out hw171_8), (up_ HB.out hw171_9), (up_ HB.out hw171_10), (up_ HB.out hw171_11), (up_ HB.out hw171_12)⟩ (fun hHeld => ?_)
           clear hK K
           refine norm_ (a' := ?_) ?_ ?_
           rotate_left
           · show Act.put _ (some 20) _ = _
             simp only [Act.put, List.setIfInBounds_toArray, List.set_cons_zero, List.set_cons_succ, i64_w, i32_w]
             rfl
           refine pure_ (i := 6) (N := some 26) (v := ?_) (a' := ?_) (bl 9 127) rfl rfl (any_of HT_.out (by kernel_rfl)) (fun _ _ _ h => h) (Or.inl ⟨by rfl, ?_⟩) ?_ ?_
           rotate_left
           · intro w'
             go_simp
             with_reducible rfl
           rotate_left
           · simp only [Act.put, List.setIfInBounds_toArray, List.set_cons_zero, List.set_cons_succ, i64_w, i32_w]
             rfl
           refine one_ (i := 7) (N := some 27) (bl 9 255) rfl rfl (one_of HT_.out (by kernel_rfl)) (by decide) (fun K hK => ?_)
           go_simp
           refine hK.out _ _ hHeld (fun hHeld => ?_)
           clear hK K
           refine norm_ (a' := ?_) ?_ ?_
           rotate_left
           · (try simp only [Act.put, List.setIfInBounds_toArray, List.set_cons_zero, List.set_cons_succ, i64_w, i32_w])
             rfl
           refine pure_ (i := 8) (N := some 10) (v := ?_) (a' := ?_) (bl 9 511) rfl rfl (any_of HT_.out (by kernel_rfl)) (fun _ _ _ h => h) (Or.inl ⟨by rfl, ?_⟩) ?_ ?_
           rotate_left
           · intro w'
             go_simp
             with_reducible rfl
           rotate_left
           · simp only [Act.put, List.setIfInBounds_toArray, List.set_cons_zero, List.set_cons_succ, i64_w, i32_w]
             rfl
           refine done_ (done_of HT_.out (by kernel_rfl)) ?_
           go_upto_region 6 with (fail)
           go_cut [66] (fun v66 wc => ∃ (kq : Nat) (x66_8 : Bool), v66 = .bool x66_8 ∧ Aside0 (ambidexterlaw11_placed.j1 kq a0 l1 x8_1 x9_1 x66_8 = some (r1, r2)) ∧ Aside0 (kq ≤ k1) ∧ Aside0 (Below w.heap.size w wc))
           case first =>
            have H := HC9.out
            clear HC9
            by_cases c13 : ((rd_T55 l1 x9_1).f7) < x8_1
            · rw [if_pos c13] at H
              have c13b0 : decide (((rd_T55 l1 x9_1).f7) < x8_1) = true := decide_eq_true c13
              clear c13
              (first | rw [c13b0] | (simp only [i64_w, i32_w]; rw [c13b0]) | skip)
              have H' := Aside0.mk H
              clear H
              try go_wp2
              have n0_ := Aside0.mk (Kd.R_drew HO170.out)
              have n1_ := Aside0.mk (below_drew1 HB.out)
              clear HO170
              clear HB
              have HO170 := n0_
              have HB := n1_
              clear n0_ n1_
              have p173 : 0 ≤ (x9_1 : Int) := of_decide_eq_true (by first | (with_reducible assumption) | assumption)
              have q173 : x9_1 < (l1.length : Int) := of_decide_eq_true (by first | (with_reducible assumption) | assumption)
              obtain ⟨ad173, A173_11, c173_11, e173, hx173_0, hx173_1, hx173_2, hx173_3, hx173_4, hx173_5, hx173_6, hx173_7, hx173_8, hx173_9, hx173_10, hx173_11, hx173_12, hl173_11, hi173_11⟩ := at_T55 HR1.out x9_1 p173 q173
              have hw173_12 := hx173_12
              have hw173_11 := hx173_11
              have hw173_10 := hx173_10
              have hw173_9 := hx173_9
              have hw173_8 := hx173_8
              have hw173_7 := hx173_7
              have hw173_6 := hx173_6
              have hw173_5 := hx173_5
              have hw173_4 := hx173_4
              have hw173_3 := hx173_3
              have hw173_2 := hx173_2
              have hw173_1 := hx173_1
              have hw173_0 := hx173_0
              obtain rfl : ad171 = ad173 := (by injection e173)
              replace hx173_0 := up_ HB.out hx173_0
              replace hx173_1 := up_ HB.out hx173_1
              replace hx173_2 := up_ HB.out hx173_2
              replace hx173_3 := up_ HB.out hx173_3
              replace hx173_4 := up_ HB.out hx173_4
              replace hx173_5 := up_ HB.out hx173_5
              replace hx173_6 := up_ HB.out hx173_6
              replace hx173_7 := up_ HB.out hx173_7
              replace hx173_8 := up_ HB.out hx173_8
              replace hx173_9 := up_ HB.out hx173_9
              replace hx173_10 := up_ HB.out hx173_10
              replace hx173_11 := up_ HB.out hx173_11
              replace hx173_12 := up_ HB.out hx173_12
              have HR173_11 := Aside0.mk hi173_11
              have HC173_11 := Aside0.mk hl173_11
              clear hi173_11 hl173_11
              replace p173 := eq_true p173
              replace q173 := eq_true q173
              refine start_ (n := 39) (S := fun w' => w'.cell? (ad171.add ((x9_1).toNat * 13)) = some (.int .i64 ((rd_T55 l1 x9_1).f0)) ∧ w'.cell? ⟨(ad171.add ((x9_1).toNat * 13)).block, (ad171.add ((x9_1).toNat * 13)).off + 1, none⟩ = some (.int .i64 ((rd_T55 l1 x9_1).f1)) ∧ w'.cell? ⟨(ad171.add ((x9_1).toNat * 13)).block, (ad171.add ((x9_1).toNat * 13)).off + 2, none⟩ = some (.string ((rd_T55 l1 x9_1).f2)) ∧ w'.cell? ⟨(ad171.add ((x9_1).toNat * 13)).block, (ad171.add ((x9_1).toNat * 13)).off + 3, none⟩ = some (.string ((rd_T55 l1 x9_1).f3)) ∧ w'.cell? ⟨(ad171.add ((x9_1).toNat * 13)).block, (ad171.add ((x9_1).toNat * 13)).off + 4, none⟩ = some (.int .i64 ((rd_T55 l1 x9_1).f4)) ∧ w'.cell? ⟨(ad171.add ((x9_1).toNat * 13)).block, (ad171.add ((x9_1).toNat * 13)).off + 5, none⟩ = some (.int .i64 ((rd_T55 l1 x9_1).f5.f0.f0)) ∧ w'.cell? ⟨(ad171.add ((x9_1).toNat * 13)).block, (ad171.add ((x9_1).toNat * 13)).off + 6, none⟩ = some (.int .i64 ((rd_T55 l1 x9_1).f5.f0.f1)) ∧ w'.cell? ⟨(ad171.add ((x9_1).toNat * 13)).block, (ad171.add ((x9_1).toNat * 13)).off + 7, none⟩ = some (.int .i64 ((rd_T55 l1 x9_1).f5.f0.f2)) ∧ w'.cell? ⟨(ad171.add ((x9_1).toNat * 13)).block, (ad171.add ((x9_1).toNat * 13)).off + 8, none⟩ = some (.int .i64 ((rd_T55 l1 x9_1).f5.f1.f0)) ∧ w'.cell? ⟨(ad171.add ((x9_1).toNat * 13)).block, (ad171.add ((x9_1).toNat * 13)).off + 9, none⟩ = some (.int .i64 ((rd_T55 l1 x9_1).f5.f1.f1)) ∧ w'.cell? ⟨(ad171.add ((x9_1).toNat * 13)).block, (ad171.add ((x9_1).toNat * 13)).off + 10, none⟩ = some (.int .i64 ((rd_T55 l1 x9_1).f5.f1.f2)) ∧ w'.cell? ⟨(ad171.add ((x9_1).toNat * 13)).block, (ad171.add ((x9_1).toNat * 13)).off + 11, none⟩ = some (.slice A173_11 ((rd_T55 l1 x9_1).f6).length c173_11) ∧ w'.cell? ⟨(ad171.add ((x9_1).toNat * 13)).block, (ad171.add ((x9_1).toNat * 13)).off + 12, none⟩ = some (.int .i64 ((rd_T55 l1 x9_1).f7))) (ds := []) #[false, false, false, false, false, false, false, false, false, false, false, false, false, false, false, false, false, false, false, false, false, false, false, false, false, false, false, false, false, false, false, false, false, false, false, false, false, false, false] (by kernel_rfl) rfl rfl ⟨(up_ HB.out hw173_0), (up_ HB.out hw173_1), (up_ HB.out hw173_2), (up_ HB.out hw173_3), (up_ HB.out hw173_4), (up_ HB.out hw173_5), (up_ HB.out hw173_6), (up_ HB.out hw173_7), (up_ HB.out hw173_8), (up_ HB.out hw173_9), (up_ HB.out hw173_10), (up_ HB.out hw173_11), (up_ HB.out hw173_12)⟩ (fun hHeld => ?_); refine with_tabW ambidexterlaw11_placed.tab6 ambidexterlaw11_placed.bits6 (fun HT_ HW_ => ?_)
              generalize w11.drew = w14 at HO170 HB HR173_11 hx173_0 hx173_1 hx173_10 hx173_11 hx173_12 hx173_2 hx173_3 hx173_4 hx173_5 hx173_6 hx173_7 hx173_8 hx173_9 hHeld ⊢
              refine pure_ (i := 0) (N := some 28) (v := ?_) (a' := ?_) (bl 39 1) rfl rfl (any_of HT_.out (by kernel_rfl)) (fun _ _ _ h => h) (Or.inl ⟨by rfl, ?_⟩) ?_ ?_
              rotate_left
              · intro w'
                go_simp
                with_reducible rfl
              rotate_left
              · simp only [Act.put, List.setIfInBounds_toArray, List.set_cons_zero, List.set_cons_succ, i64_w, i32_w]
                rfl
              refine pure_ (i := 1) (N := some 29) (v := ?_) (a' := ?_) (bl 39 3) rfl rfl (any_of HT_.out (by kernel_rfl)) (fun _ _ _ h => h) (Or.inl ⟨by rfl, ?_⟩) ?_ ?_
              rotate_left
              · intro w'
                go_simp
                with_reducible rfl
              rotate_left
              · simp only [Act.put, List.setIfInBounds_toArray, List.set_cons_zero, List.set_cons_succ, i64_w, i32_w]
                rfl
              refine pure_ (i := 2) (N := some 30) (v := ?_) (a' := ?_) (bl 39 7) rfl rfl (any_of HT_.out (by kernel_rfl)) (fun _ _ _ h => h) (Or.inl ⟨by rfl, ?_⟩) ?_ ?_
              rotate_left
              · intro w'
                go_simp
                with_reducible rfl
              rotate_left
              · simp only [Act.put, List.setIfInBounds_toArray, List.set_cons_zero, List.set_cons_succ, i64_w, i32_w]
                rfl
              refine pure_ (i := 3) (N := some 31) (v := ?_) (a' := ?_) (bl 39 15) rfl rfl (any_of HT_.out (by kernel_rfl)) (fun _ _ _ h => h) (Or.inl ⟨by rfl, ?_⟩) ?_ ?_
              rotate_left
              · intro w'
                go_simp
                with_reducible rfl
              rotate_left
              · simp only [Act.put, List.setIfInBounds_toArray, List.set_cons_zero, List.set_cons_succ, i64_w, i32_w]
                rfl
              refine pure_ (i := 5) (N := some 33) (v := ?_) (a' := ?_) (bl 39 47) rfl rfl (any_of HT_.out (by kernel_rfl)) (fun _ _ _ h => h) (Or.inl ⟨by rfl, ?_⟩) ?_ ?_
              rotate_left
              · intro w'
                go_simp
                with_reducible rfl
              rotate_left
              · simp only [Act.put, List.setIfInBounds_toArray, List.set_cons_zero, List.set_cons_succ, i64_w, i32_w]
                rfl
              refine take_ (i := 4) (N := some 32) (v := ?_) (a' := ?_) (bl 39 63) rfl rfl (take_ofW HT_.out HW_.out (by kernel_rfl)) (fun _ _ _ h => h) (Or.inl ⟨by rfl, ?_⟩) hHeld ?_ ?_
              rotate_left
              · rintro w' ⟨s0, s1, s2, s3, s4, s5, s6, s7, s8, s9, s10, s11, s12⟩
                go_simp
                with_reducible rfl
              rotate_left
              · simp only [Act.put, List.setIfInBounds_toArray, List.set_cons_zero, List.set_cons_succ, i64_w, i32_w]
                rfl
              refine pure_ (i := 6) (N := some 34) (v := ?_) (a' := ?_) (bl 39 127) rfl rfl (any_of HT_.out (by kernel_rfl)) (fun _ _ _ h => h) (Or.inl ⟨by rfl, ?_⟩) ?_ ?_
              rotate_left
              · intro w'
                go_simp
                with_reducible rfl
              rotate_left
              · simp only [Act.put, List.setIfInBounds_toArray, List.set_cons_zero, List.set_cons_succ, i64_w, i32_w]
                rfl
              refine pure_ (i := 7) (N := some 35) (v := ?_) (a' := ?_) (bl 39 255) rfl rfl (any_of HT_.out (by kernel_rfl)) (fun _ _ _ h => h) (Or.inl ⟨by rfl, ?_⟩) ?_ ?_
              rotate_left
              · intro w'
                go_simp
                with_reducible rfl
              rotate_left
              · simp only [Act.put, List.setIfInBounds_toArray, List.set_cons_zero, List.set_cons_succ, i64_w, i32_w]
                rfl
              refine pure_ (i := 8) (N := some 36) (v := undef) (a' := ?_) (bl 39 511) rfl rfl (any_of HT_.out (by kernel_rfl)) (fun _ _ _ h => h) (Or.inr ⟨by rfl, rfl⟩) ?_ ?_
              rotate_left
              · simp only [Act.put, List.setIfInBounds_toArray, List.set_cons_zero, List.set_cons_succ, i64_w, i32_w]
                rfl
              refine pure_ (i := 9) (N := some 37) (v := undef) (a' := ?_) (bl 39 1023) rfl rfl (any_of HT_.out (by kernel_rfl)) (fun _ _ _ h => h) (Or.inr ⟨by rfl, rfl⟩) ?_ ?_
              rotate_left
              · simp only [Act.put, List.setIfInBounds_toArray, List.set_cons_zero, List.set_cons_succ, i64_w, i32_w]
                rfl
              refine pure_ (i := 10) (N := some 38) (v := undef) (a' := ?_) (bl 39 2047) rfl rfl (any_of HT_.out (by kernel_rfl)) (fun _ _ _ h => h) (Or.inr ⟨by rfl, rfl⟩) ?_ ?_
              rotate_left
              · simp only [Act.put, List.setIfInBounds_toArray, List.set_cons_zero, List.set_cons_succ, i64_w, i32_w]
                rfl
              refine pure_ (i := 11) (N := some 39) (v := undef) (a' := ?_) (bl 39 4095) rfl rfl (any_of HT_.out (by kernel_rfl)) (fun _ _ _ h => h) (Or.inr ⟨by rfl, rfl⟩) ?_ ?_
              rotate_left
              · simp only [Act.put, List.setIfInBounds_toArray, List.set_cons_zero, List.set_cons_succ, i64_w, i32_w]
                rfl
              refine pure_ (i := 12) (N := some 40) (v := undef) (a' := ?_) (bl 39 8191) rfl rfl (any_of HT_.out (by kernel_rfl)) (fun _ _ _ h => h) (Or.inr ⟨by rfl, rfl⟩) ?_ ?_
              rotate_left
              · simp only [Act.put, List.setIfInBounds_toArray, List.set_cons_zero, List.set_cons_succ, i64_w, i32_w]
                rfl
              refine pure_ (i := 13) (N := some 41) (v := undef) (a' := ?_) (bl 39 16383) rfl rfl (any_of HT_.out (by kernel_rfl)) (fun _ _ _ h => h) (Or.inr ⟨by rfl, rfl⟩) ?_ ?_
              rotate_left
              · simp only [Act.put, List.setIfInBounds_toArray, List.set_cons_zero, List.set_cons_succ, i64_w, i32_w]
                rfl
              refine pure_ (i := 14) (N := some 42) (v := undef) (a' := ?_) (bl 39 32767) rfl rfl (any_of HT_.out (by kernel_rfl)) (fun _ _ _ h => h) (Or.inr ⟨by rfl, rfl⟩) ?_ ?_
              rotate_left
              · simp only [Act.put, List.setIfInBounds_toArray, List.set_cons_zero, List.set_cons_succ, i64_w, i32_w]
                rfl
              refine pure_ (i := 15) (N := some 43) (v := undef) (a' := ?_) (bl 39 65535) rfl rfl (any_of HT_.out (by kernel_rfl)) (fun _ _ _ h => h) (Or.inr ⟨by rfl, rfl⟩) ?_ ?_
              rotate_left
              · simp only [Act.put, List.setIfInBounds_toArray, List.set_cons_zero, List.set_cons_succ, i64_w, i32_w]
                rfl
              refine pure_ (i := 16) (N := some 44) (v := undef) (a' := ?_) (bl 39 131071) rfl rfl (any_of HT_.out (by kernel_rfl)) (fun _ _ _ h => h) (Or.inr ⟨by rfl, rfl⟩) ?_ ?_
              rotate_left
              · simp only [Act.put, List.setIfInBounds_toArray, List.set_cons_zero, List.set_cons_succ, i64_w, i32_w]
                rfl
              refine pure_ (i := 17) (N := some 45) (v := undef) (a' := ?_) (bl 39 262143) rfl rfl (any_of HT_.out (by kernel_rfl)) (fun _ _ _ h => h) (Or.inr ⟨by rfl, rfl⟩) ?_ ?_
              rotate_left
              · simp only [Act.put, List.setIfInBounds_toArray, List.set_cons_zero, List.set_cons_succ, i64_w, i32_w]
                rfl
              refine pure_ (i := 18) (N := some 46) (v := undef) (a' := ?_) (bl 39 524287) rfl rfl (any_of HT_.out (by kernel_rfl)) (fun _ _ _ h => h) (Or.inr ⟨by rfl, rfl⟩) ?_ ?_
              rotate_left
              · simp only [Act.put, List.setIfInBounds_toArray, List.set_cons_zero, List.set_cons_succ, i64_w, i32_w]
                rfl
              refine pure_ (i := 19) (N := some 47) (v := ?_) (a' := ?_) (bl 39 1048575) rfl rfl (any_of HT_.out (by kernel_rfl)) (fun _ _ _ h => h) (Or.inl ⟨by rfl, ?_⟩) ?_ ?_
              rotate_left
              · intro w'
                go_simp
                with_reducible rfl
              rotate_left
              · simp only [Act.put, List.setIfInBounds_toArray, List.set_cons_zero, List.set_cons_succ, i64_w, i32_w]
                rfl
              refine pure_ (i := 20) (N := some 48) (v := ?_) (a' := ?_) (bl 39 2097151) rfl rfl (any_of HT_.out (by kernel_rfl)) (fun _ _ _ h => h) (Or.inl ⟨by rfl, ?_⟩) ?_ ?_
              rotate_left
              · intro w'
                go_simp
                with_reducible rfl
              rotate_left
              · simp only [Act.put, List.setIfInBounds_toArray, List.set_cons_zero, List.set_cons_succ, i64_w, i32_w]
                rfl
              refine pure_ (i := 21) (N := some 49) (v := undef) (a' := ?_) (bl 39 4194303) rfl rfl (any_of HT_.out (by kernel_rfl)) (fun _ _ _ h => h) (Or.inr ⟨by rfl, rfl⟩) ?_ ?_
              rotate_left
              · simp only [Act.put, List.setIfInBounds_toArray, List.set_cons_zero, List.set_cons_succ, i64_w, i32_w]
                rfl
              refine pure_ (i := 22) (N := some 50) (v := undef) (a' := ?_) (bl 39 8388607) rfl rfl (any_of HT_.out (by kernel_rfl)) (fun _ _ _ h => h) (Or.inr ⟨by rfl, rfl⟩) ?_ ?_
              rotate_left
              · simp only [Act.put, List.setIfInBounds_toArray, List.set_cons_zero, List.set_cons_succ, i64_w, i32_w]
                rfl
              refine pure_ (i := 23) (N := some 51) (v := undef) (a' := ?_) (bl 39 16777215) rfl rfl (any_of HT_.out (by kernel_rfl)) (fun _ _ _ h => h) (Or.inr ⟨by rfl, rfl⟩) ?_ ?_
              rotate_left
              · simp only [Act.put, List.setIfInBounds_toArray, List.set_cons_zero, List.set_cons_succ, i64_w, i32_w]
                rfl
              refine pure_ (i := 24) (N := some 52) (v := undef) (a' := ?_) (bl 39 33554431) rfl rfl (any_of HT_.out (by kernel_rfl)) (fun _ _ _ h => h) (Or.inr ⟨by rfl, rfl⟩) ?_ ?_
              rotate_left
              · simp only [Act.put, List.setIfInBounds_toArray, List.set_cons_zero, List.set_cons_succ, i64_w, i32_w]
                rfl
              refine pure_ (i := 25) (N := some 53) (v := undef) (a' := ?_) (bl 39 67108863) rfl rfl (any_of HT_.out (by kernel_rfl)) (fun _ _ _ h => h) (Or.inr ⟨by rfl, rfl⟩) ?_ ?_
              rotate_left
              · simp only [Act.put, List.setIfInBounds_toArray, List.set_cons_zero, List.set_cons_succ, i64_w, i32_w]
                rfl
              refine pure_ (i := 26) (N := some 54) (v := undef) (a' := ?_) (bl 39 134217727) rfl rfl (any_of HT_.out (by kernel_rfl)) (fun _ _ _ h => h) (Or.inr ⟨by rfl, rfl⟩) ?_ ?_
              rotate_left
              · simp only [Act.put, List.setIfInBounds_toArray, List.set_cons_zero, List.set_cons_succ, i64_w, i32_w]
                rfl
              refine pure_ (i := 27) (N := some 55) (v := undef) (a' := ?_) (bl 39 268435455) rfl rfl (any_of HT_.out (by kernel_rfl)) (fun _ _ _ h => h) (Or.inr ⟨by rfl, rfl⟩) ?_ ?_
              rotate_left
              · simp only [Act.put, List.setIfInBounds_toArray, List.set_cons_zero, List.set_cons_succ, i64_w, i32_w]
                rfl
              refine pure_ (i := 28) (N := some 56) (v := undef) (a' := ?_) (bl 39 536870911) rfl rfl (any_of HT_.out (by kernel_rfl)) (fun _ _ _ h => h) (Or.inr ⟨by rfl, rfl⟩) ?_ ?_
              rotate_left
              · simp only [Act.put, List.setIfInBounds_toArray, List.set_cons_zero, List.set_cons_succ, i64_w, i32_w]
                rfl
              refine pure_ (i := 29) (N := some 57) (v := undef) (a' := ?_) (bl 39 1073741823) rfl rfl (any_of HT_.out (by kernel_rfl)) (fun _ _ _ h => h) (Or.inr ⟨by rfl, rfl⟩) ?_ ?_
              rotate_left
              · simp only [Act.put, List.setIfInBounds_toArray, List.set_cons_zero, List.set_cons_succ, i64_w, i32_w]
                rfl
              refine pure_ (i := 30) (N := some 58) (v := undef) (a' := ?_) (bl 39 2147483647) rfl rfl (any_of HT_.out (by kernel_rfl)) (fun _ _ _ h => h) (Or.inr ⟨by rfl, rfl⟩) ?_ ?_
              rotate_left
              · simp only [Act.put, List.setIfInBounds_toArray, List.set_cons_zero, List.set_cons_succ, i64_w, i32_w]
                rfl
              refine pure_ (i := 31) (N := some 59) (v := undef) (a' := ?_) (bl 39 4294967295) rfl rfl (any_of HT_.out (by kernel_rfl)) (fun _ _ _ h => h) (Or.inr ⟨by rfl, rfl⟩) ?_ ?_
              rotate_left
              · simp only [Act.put, List.setIfInBounds_toArray, List.set_cons_zero, List.set_cons_succ, i64_w, i32_w]
                rfl
              refine pure_ (i := 32) (N := some 60) (v := undef) (a' := ?_) (bl 39 8589934591) rfl rfl (any_of HT_.out (by kernel_rfl)) (fun _ _ _ h => h) (Or.inr ⟨by rfl, rfl⟩) ?_ ?_
              rotate_left
              · simp only [Act.put, List.setIfInBounds_toArray, List.set_cons_zero, List.set_cons_succ, i64_w, i32_w]
                rfl
              refine pure_ (i := 33) (N := some 61) (v := undef) (a' := ?_) (bl 39 17179869183) rfl rfl (any_of HT_.out (by kernel_rfl)) (fun _ _ _ h => h) (Or.inr ⟨by rfl, rfl⟩) ?_ ?_
              rotate_left
              · simp only [Act.put, List.setIfInBounds_toArray, List.set_cons_zero, List.set_cons_succ, i64_w, i32_w]
                rfl
              refine pure_ (i := 34) (N := some 62) (v := undef) (a' := ?_) (bl 39 34359738367) rfl rfl (any_of HT_.out (by kernel_rfl)) (fun _ _ _ h => h) (Or.inr ⟨by rfl, rfl⟩) ?_ ?_
              rotate_left
              · simp only [Act.put, List.setIfInBounds_toArray, List.set_cons_zero, List.set_cons_succ, i64_w, i32_w]
                rfl
              refine pure_ (i := 35) (N := some 63) (v := undef) (a' := ?_) (bl 39 68719476735) rfl rfl (any_of HT_.out (by kernel_rfl)) (fun _ _ _ h => h) (Or.inr ⟨by rfl, rfl⟩) ?_ ?_
              rotate_left
              · simp only [Act.put, List.setIfInBounds_toArray, List.set_cons_zero, List.set_cons_succ, i64_w, i32_w]
                rfl
              refine pure_ (i := 36) (N := some 64) (v := undef) (a' := ?_) (bl 39 137438953471) rfl rfl (any_of HT_.out (by kernel_rfl)) (fun _ _ _ h => h) (Or.inr ⟨by rfl, rfl⟩) ?_ ?_
              rotate_left
              · simp only [Act.put, List.setIfInBounds_toArray, List.set_cons_zero, List.set_cons_succ, i64_w, i32_w]
                rfl
              refine pure_ (i := 37) (N := some 65) (v := undef) (a' := ?_) (bl 39 274877906943) rfl rfl (any_of HT_.out (by kernel_rfl)) (fun _ _ _ h => h) (Or.inr ⟨by rfl, rfl⟩) ?_ ?_
              rotate_left
              · simp only [Act.put, List.setIfInBounds_toArray, List.set_cons_zero, List.set_cons_succ, i64_w, i32_w]
                rfl
              refine pure_ (i := 38) (N := some 66) (v := ?_) (a' := ?_) (bl 39 549755813887) rfl rfl (any_of HT_.out (by kernel_rfl)) (fun _ _ _ h => h) (Or.inl ⟨by rfl, ?_⟩) ?_ ?_
              rotate_left
              · intro w'
                go_simp
                with_reducible rfl
              rotate_left
              · simp only [Act.put, List.setIfInBounds_toArray, List.set_cons_zero, List.set_cons_succ, i64_w, i32_w]
                rfl
              refine done_ (done_of HT_.out (by kernel_rfl)) ?_
              try go_wp2
              go_meet
              case rel => exact ⟨_, (true), (by first | rfl | (simp; done) | (simp [*]; done)), H', ⟨by have := HK1.out; first | omega | exact Nat.le_refl _⟩, ⟨by repeat (first | (with_reducible first | exact HB.out | apply below_alloc | apply pw_below_drewN | apply below_drew1) | exact HB.out)⟩⟩
            · rw [if_neg c13] at H
              have c13b0 : decide (((rd_T55 l1 x9_1).f7) < x8_1) = false := decide_eq_false c13
              clear c13
              (first | rw [c13b0] | (simp only [i64_w, i32_w]; rw [c13b0]) | skip)
              by_cases c15 : (wrap64 (((rd_T55 l1 x9_1).f7) + ((rdOf ByteArray.empty t168 ((rd_T55 l1 x9_1).f0)).size : Int))) > (a0.size : Int)
              · rw [if_pos c15] at H
                have c15b0 : decide ((a0.size : Int) < (wrap64 (((rd_T55 l1 x9_1).f7) + ((rdOf ByteArray.empty t168 ((rd_T55 l1 x9_1).f0)).size : Int)))) = true := decide_eq_true c15
                clear c15
                have H' := Aside0.mk H
                clear H
                try go_wp2
                have n0_ := Aside0.mk (Kd.R_drew HO170.out)
                have n1_ := Aside0.mk (below_drew1 HB.out)
                clear HO170
                clear HB
                have HO170 := n0_
                have HB := n1_
                clear n0_ n1_
                have p173 : 0 ≤ (x9_1 : Int) := of_decide_eq_true (by first | (with_reducible assumption) | assumption)
                have q173 : x9_1 < (l1.length : Int) := of_decide_eq_true (by first | (with_reducible assumption) | assumption)
                obtain ⟨ad173, A173_11, c173_11, e173, hx173_0, hx173_1, hx173_2, hx173_3, hx173_4, hx173_5, hx173_6, hx173_7, hx173_8, hx173_9, hx173_10, hx173_11, hx173_12, hl173_11, hi173_11⟩ := at_T55 HR1.out x9_1 p173 q173
                have hw173_12 := hx173_12
                have hw173_11 := hx173_11
                have hw173_10 := hx173_10
                have hw173_9 := hx173_9
                have hw173_8 := hx173_8
                have hw173_7 := hx173_7
                have hw173_6 := hx173_6
                have hw173_5 := hx173_5
                have hw173_4 := hx173_4
                have hw173_3 := hx173_3
                have hw173_2 := hx173_2
                have hw173_1 := hx173_1
                have hw173_0 := hx173_0
                obtain rfl : ad171 = ad173 := (by injection e173)
                replace hx173_0 := up_ HB.out hx173_0
                replace hx173_1 := up_ HB.out hx173_1
                replace hx173_2 := up_ HB.out hx173_2
                replace hx173_3 := up_ HB.out hx173_3
                replace hx173_4 := up_ HB.out hx173_4
                replace hx173_5 := up_ HB.out hx173_5
                replace hx173_6 := up_ HB.out hx173_6
                replace hx173_7 := up_ HB.out hx173_7
                replace hx173_8 := up_ HB.out hx173_8
                replace hx173_9 := up_ HB.out hx173_9
                replace hx173_10 := up_ HB.out hx173_10
                replace hx173_11 := up_ HB.out hx173_11
                replace hx173_12 := up_ HB.out hx173_12
                have HR173_11 := Aside0.mk hi173_11
                have HC173_11 := Aside0.mk hl173_11
                clear hi173_11 hl173_11
                replace p173 := eq_true p173
                replace q173 := eq_true q173
                have p174 : 0 ≤ (x9_1 : Int) := of_decide_eq_true (by first | (with_reducible assumption) | assumption)
                have q174 : x9_1 < (l1.length : Int) := of_decide_eq_true (by first | (with_reducible assumption) | assumption)
                obtain ⟨ad174, A174_11, c174_11, e174, hx174_0, hx174_1, hx174_2, hx174_3, hx174_4, hx174_5, hx174_6, hx174_7, hx174_8, hx174_9, hx174_10, hx174_11, hx174_12, hl174_11, hi174_11⟩ := at_T55 HR1.out x9_1 p174 q174
                have hw174_12 := hx174_12
                have hw174_11 := hx174_11
                have hw174_10 := hx174_10
                have hw174_9 := hx174_9
                have hw174_8 := hx174_8
                have hw174_7 := hx174_7
                have hw174_6 := hx174_6
                have hw174_5 := hx174_5
                have hw174_4 := hx174_4
                have hw174_3 := hx174_3
                have hw174_2 := hx174_2
                have hw174_1 := hx174_1
                have hw174_0 := hx174_0
                obtain rfl : ad171 = ad174 := (by injection e174)
                replace hx174_0 := up_ HB.out hx174_0
                replace hx174_1 := up_ HB.out hx174_1
                replace hx174_2 := up_ HB.out hx174_2
                replace hx174_3 := up_ HB.out hx174_3
                replace hx174_4 := up_ HB.out hx174_4
                replace hx174_5 := up_ HB.out hx174_5
                replace hx174_6 := up_ HB.out hx174_6
                replace hx174_7 := up_ HB.out hx174_7
                replace hx174_8 := up_ HB.out hx174_8
                replace hx174_9 := up_ HB.out hx174_9
                replace hx174_10 := up_ HB.out hx174_10
                replace hx174_11 := up_ HB.out hx174_11
                replace hx174_12 := up_ HB.out hx174_12
                have HR174_11 := Aside0.mk hi174_11
                have HC174_11 := Aside0.mk hl174_11
                clear hi174_11 hl174_11
                replace p174 := eq_true p174
                replace q174 := eq_true q174
                have ea_ := Option.some.inj (hx173_11.symm.trans hx174_11)
                injection ea_ with ea_ en_ ec_
                subst ea_
                subst ec_
                clear en_
                refine start_ (n := 39) (S := fun w' => w'.cell? (ad171.add ((x9_1).toNat * 13)) = some (.int .i64 ((rd_T55 l1 x9_1).f0)) ∧ w'.cell? ⟨(ad171.add ((x9_1).toNat * 13)).block, (ad171.add ((x9_1).toNat * 13)).off + 1, none⟩ = some (.int .i64 ((rd_T55 l1 x9_1).f1)) ∧ w'.cell? ⟨(ad171.add ((x9_1).toNat * 13)).block, (ad171.add ((x9_1).toNat * 13)).off + 2, none⟩ = some (.string ((rd_T55 l1 x9_1).f2)) ∧ w'.cell? ⟨(ad171.add ((x9_1).toNat * 13)).block, (ad171.add ((x9_1).toNat * 13)).off + 3, none⟩ = some (.string ((rd_T55 l1 x9_1).f3)) ∧ w'.cell? ⟨(ad171.add ((x9_1).toNat * 13)).block, (ad171.add ((x9_1).toNat * 13)).off + 4, none⟩ = some (.int .i64 ((rd_T55 l1 x9_1).f4)) ∧ w'.cell? ⟨(ad171.add ((x9_1).toNat * 13)).block, (ad171.add ((x9_1).toNat * 13)).off + 5, none⟩ = some (.int .i64 ((rd_T55 l1 x9_1).f5.f0.f0)) ∧ w'.cell? ⟨(ad171.add ((x9_1).toNat * 13)).block, (ad171.add ((x9_1).toNat * 13)).off + 6, none⟩ = some (.int .i64 ((rd_T55 l1 x9_1).f5.f0.f1)) ∧ w'.cell? ⟨(ad171.add ((x9_1).toNat * 13)).block, (ad171.add ((x9_1).toNat * 13)).off + 7, none⟩ = some (.int .i64 ((rd_T55 l1 x9_1).f5.f0.f2)) ∧ w'.cell? ⟨(ad171.add ((x9_1).toNat * 13)).block, (ad171.add ((x9_1).toNat * 13)).off + 8, none⟩ = some (.int .i64 ((rd_T55 l1 x9_1).f5.f1.f0)) ∧ w'.cell? ⟨(ad171.add ((x9_1).toNat * 13)).block, (ad171.add ((x9_1).toNat * 13)).off + 9, none⟩ = some (.int .i64 ((rd_T55 l1 x9_1).f5.f1.f1)) ∧ w'.cell? ⟨(ad171.add ((x9_1).toNat * 13)).block, (ad171.add ((x9_1).toNat * 13)).off + 10, none⟩ = some (.int .i64 ((rd_T55 l1 x9_1).f5.f1.f2)) ∧ w'.cell? ⟨(ad171.add ((x9_1).toNat * 13)).block, (ad171.add ((x9_1).toNat * 13)).off + 11, none⟩ = some (.slice A173_11 ((rd_T55 l1 x9_1).f6).length c173_11) ∧ w'.cell? ⟨(ad171.add ((x9_1).toNat * 13)).block, (ad171.add ((x9_1).toNat * 13)).off + 12, none⟩ = some (.int .i64 ((rd_T55 l1 x9_1).f7)) ∧ w'.cell? (ad171.add ((x9_1).toNat * 13)) = some (.int .i64 ((rd_T55 l1 x9_1).f0)) ∧ w'.cell? ⟨(ad171.add ((x9_1).toNat * 13)).block, (ad171.add ((x9_1).toNat * 13)).off + 1, none⟩ = some (.int .i64 ((rd_T55 l1 x9_1).f1)) ∧ w'.cell? ⟨(ad171.add ((x9_1).toNat * 13)).block, (ad171.add ((x9_1).toNat * 13)).off + 2, none⟩ = some (.string ((rd_T55 l1 x9_1).f2)) ∧ w'.cell? ⟨(ad171.add ((x9_1).toNat * 13)).block, (ad171.add ((x9_1).toNat * 13)).off + 3, none⟩ = some (.string ((rd_T55 l1 x9_1).f3)) ∧ w'.cell? ⟨(ad171.add ((x9_1).toNat * 13)).block, (ad171.add ((x9_1).toNat * 13)).off + 4, none⟩ = some (.int .i64 ((rd_T55 l1 x9_1).f4)) ∧ w'.cell? ⟨(ad171.add ((x9_1).toNat * 13)).block, (ad171.add ((x9_1).toNat * 13)).off + 5, none⟩ = some (.int .i64 ((rd_T55 l1 x9_1).f5.f0.f0)) ∧ w'.cell? ⟨(ad171.add ((x9_1).toNat * 13)).block, (ad171.add ((x9_1).toNat * 13)).off + 6, none⟩ = some (.int .i64 ((rd_T55 l1 x9_1).f5.f0.f1)) ∧ w'.cell? ⟨(ad171.add ((x9_1).toNat * 13)).block, (ad171.add ((x9_1).toNat * 13)).off + 7, none⟩ = some (.int .i64 ((rd_T55 l1 x9_1).f5.f0.f2)) ∧ w'.cell? ⟨(ad171.add ((x9_1).toNat * 13)).block, (ad171.add ((x9_1).toNat * 13)).off + 8, none⟩ = some (.int .i64 ((rd_T55 l1 x9_1).f5.f1.f0)) ∧ w'.cell? ⟨(ad171.add ((x9_1).toNat * 13)).block, (ad171.add ((x9_1).toNat * 13)).off + 9, none⟩ = some (.int .i64 ((rd_T55 l1 x9_1).f5.f1.f1)) ∧ w'.cell? ⟨(ad171.add ((x9_1).toNat * 13)).block, (ad171.add ((x9_1).toNat * 13)).off + 10, none⟩ = some (.int .i64 ((rd_T55 l1 x9_1).f5.f1.f2)) ∧ w'.cell? ⟨(ad171.add ((x9_1).toNat * 13)).block, (ad171.add ((x9_1).toNat * 13)).off + 11, none⟩ = some (.slice A173_11 ((rd_T55 l1 x9_1).f6).length c173_11) ∧ w'.cell? ⟨(ad171.add ((x9_1).toNat * 13)).block, (ad171.add ((x9_1).toNat * 13)).off + 12, none⟩ = some (.int .i64 ((rd_T55 l1 x9_1).f7))) (ds := []) #[false, false, false, false, false, false, false, false, false, false, false, false, false, false, false, false, false, false, false, false, false, false, false, false, false, false, false, false, false, false, false, false, false, false, false, false, false, false, false] (by kernel_rfl) rfl rfl ⟨(up_ HB.out hw173_0), (up_ HB.out hw173_1), (up_ HB.out hw173_2), (up_ HB.out hw173_3), (up_ HB.out hw173_4), (up_ HB.out hw173_5), (up_ HB.out hw173_6), (up_ HB.out hw173_7), (up_ HB.out hw173_8), (up_ HB.out hw173_9), (up_ HB.out hw173_10), (up_ HB.out hw173_11), (up_ HB.out hw173_12), (up_ HB.out hw174_0), (up_ HB.out hw174_1), (up_ HB.out hw174_2), (up_ HB.out hw174_3), (up_ HB.out hw174_4), (up_ HB.out hw174_5), (up_ HB.out hw174_6), (up_ HB.out hw174_7), (up_ HB.out hw174_8), (up_ HB.out hw174_9), (up_ HB.out hw174_10), (up_ HB.out hw174_11), (up_ HB.out hw174_12)⟩ (fun hHeld => ?_); refine with_tabW ambidexterlaw11_placed.tab6 ambidexterlaw11_placed.bits6 (fun HT_ HW_ => ?_)
                generalize w11.drew = w16 at HO170 HB HR173_11 HR174_11 hx173_0 hx173_1 hx173_10 hx173_11 hx173_12 hx173_2 hx173_3 hx173_4 hx173_5 hx173_6 hx173_7 hx173_8 hx173_9 hx174_0 hx174_1 hx174_10 hx174_11 hx174_12 hx174_2 hx174_3 hx174_4 hx174_5 hx174_6 hx174_7 hx174_8 hx174_9 hHeld ⊢
                refine pure_ (i := 0) (N := some 28) (v := ?_) (a' := ?_) (bl 39 1) rfl rfl (any_of HT_.out (by kernel_rfl)) (fun _ _ _ h => h) (Or.inl ⟨by rfl, ?_⟩) ?_ ?_
                rotate_left
                · intro w'
                  go_simp
                  with_reducible rfl
                rotate_left
                · simp only [Act.put, List.setIfInBounds_toArray, List.set_cons_zero, List.set_cons_succ, i64_w, i32_w]
                  rfl
                refine pure_ (i := 1) (N := some 29) (v := ?_) (a' := ?_) (bl 39 3) rfl rfl (any_of HT_.out (by kernel_rfl)) (fun _ _ _ h => h) (Or.inl ⟨by rfl, ?_⟩) ?_ ?_
                rotate_left
                · intro w'
                  go_simp
                  with_reducible rfl
                rotate_left
                · simp only [Act.put, List.setIfInBounds_toArray, List.set_cons_zero, List.set_cons_succ, i64_w, i32_w]
                  rfl
                refine pure_ (i := 2) (N := some 30) (v := ?_) (a' := ?_) (bl 39 7) rfl rfl (any_of HT_.out (by kernel_rfl)) (fun _ _ _ h => h) (Or.inl ⟨by rfl, ?_⟩) ?_ ?_
                rotate_left
                · intro w'
                  go_simp
                  with_reducible rfl
                rotate_left
                · simp only [Act.put, List.setIfInBounds_toArray, List.set_cons_zero, List.set_cons_succ, i64_w, i32_w]
                  rfl
                refine pure_ (i := 3) (N := some 31) (v := ?_) (a' := ?_) (bl 39 15) rfl rfl (any_of HT_.out (by kernel_rfl)) (fun _ _ _ h => h) (Or.inl ⟨by rfl, ?_⟩) ?_ ?_
                rotate_left
                · intro w'
                  go_simp
                  with_reducible rfl
                rotate_left
                · simp only [Act.put, List.setIfInBounds_toArray, List.set_cons_zero, List.set_cons_succ, i64_w, i32_w]
                  rfl
                refine pure_ (i := 5) (N := some 33) (v := ?_) (a' := ?_) (bl 39 47) rfl rfl (any_of HT_.out (by kernel_rfl)) (fun _ _ _ h => h) (Or.inl ⟨by rfl, ?_⟩) ?_ ?_
                rotate_left
                · intro w'
                  go_simp
                  with_reducible rfl
                rotate_left
                · simp only [Act.put, List.setIfInBounds_toArray, List.set_cons_zero, List.set_cons_succ, i64_w, i32_w]
                  rfl
                refine take_ (i := 4) (N := some 32) (v := ?_) (a' := ?_) (bl 39 63) rfl rfl (take_ofW HT_.out HW_.out (by kernel_rfl)) (fun _ _ _ h => h) (Or.inl ⟨by rfl, ?_⟩) hHeld ?_ ?_
                rotate_left
                · rintro w' ⟨s0, s1, s2, s3, s4, s5, s6, s7, s8, s9, s10, s11, s12, s13, s14, s15, s16, s17, s18, s19, s20, s21, s22, s23, s24, s25⟩
                  go_simp
                  with_reducible rfl
                rotate_left
                · simp only [Act.put, List.setIfInBounds_toArray, List.set_cons_zero, List.set_cons_succ, i64_w, i32_w]
                  rfl
                refine pure_ (i := 6) (N := some 34) (v := ?_) (a' := ?_) (bl 39 127) rfl rfl (any_of HT_.out (by kernel_rfl)) (fun _ _ _ h => h) (Or.inl ⟨by rfl, ?_⟩) ?_ ?_
                rotate_left
                · intro w'
                  go_simp
                  with_reducible rfl
                rotate_left
                · simp only [Act.put, List.setIfInBounds_toArray, List.set_cons_zero, List.set_cons_succ, i64_w, i32_w]
                  rfl
                refine pure_ (i := 7) (N := some 35) (v := ?_) (a' := ?_) (bl 39 255) rfl rfl (any_of HT_.out (by kernel_rfl)) (fun _ _ _ h => h) (Or.inl ⟨by rfl, ?_⟩) ?_ ?_
                rotate_left
                · intro w'
                  go_simp
                  with_reducible rfl
                rotate_left
                · simp only [Act.put, List.setIfInBounds_toArray, List.set_cons_zero, List.set_cons_succ, i64_w, i32_w]
                  rfl
                refine pure_ (i := 8) (N := some 36) (v := ?_) (a' := ?_) (bl 39 511) rfl rfl (any_of HT_.out (by kernel_rfl)) (fun _ _ _ h => h) (Or.inl ⟨by rfl, ?_⟩) ?_ ?_
                rotate_left
                · intro w'
                  go_simp
                  with_reducible rfl
                rotate_left
                · simp only [Act.put, List.setIfInBounds_toArray, List.set_cons_zero, List.set_cons_succ, i64_w, i32_w]
                  rfl
                refine pure_ (i := 9) (N := some 37) (v := ?_) (a' := ?_) (bl 39 1023) rfl rfl (any_of HT_.out (by kernel_rfl)) (fun _ _ _ h => h) (Or.inl ⟨by rfl, ?_⟩) ?_ ?_
                rotate_left
                · intro w'
                  go_simp
                  with_reducible rfl
                rotate_left
                · simp only [Act.put, List.setIfInBounds_toArray, List.set_cons_zero, List.set_cons_succ, i64_w, i32_w]
                  rfl
                refine pure_ (i := 10) (N := some 38) (v := ?_) (a' := ?_) (bl 39 2047) rfl rfl (any_of HT_.out (by kernel_rfl)) (fun _ _ _ h => h) (Or.inl ⟨by rfl, ?_⟩) ?_ ?_
                rotate_left
                · intro w'
                  go_simp
                  with_reducible rfl
                rotate_left
                · simp only [Act.put, List.setIfInBounds_toArray, List.set_cons_zero, List.set_cons_succ, i64_w, i32_w]
                  rfl
                refine pure_ (i := 11) (N := some 39) (v := ?_) (a' := ?_) (bl 39 4095) rfl rfl (any_of HT_.out (by kernel_rfl)) (fun _ _ _ h => h) (Or.inl ⟨by rfl, ?_⟩) ?_ ?_
                rotate_left
                · intro w'
                  go_simp
                  with_reducible rfl
                rotate_left
                · simp only [Act.put, List.setIfInBounds_toArray, List.set_cons_zero, List.set_cons_succ, i64_w, i32_w]
                  rfl
                refine pure_ (i := 13) (N := some 41) (v := ?_) (a' := ?_) (bl 39 12287) rfl rfl (any_of HT_.out (by kernel_rfl)) (fun _ _ _ h => h) (Or.inl ⟨by rfl, ?_⟩) ?_ ?_
                rotate_left
                · intro w'
                  go_simp
                  with_reducible rfl
                rotate_left
                · simp only [Act.put, List.setIfInBounds_toArray, List.set_cons_zero, List.set_cons_succ, i64_w, i32_w]
                  rfl
                refine pure_ (i := 14) (N := some 42) (v := ?_) (a' := ?_) (bl 39 28671) rfl rfl (any_of HT_.out (by kernel_rfl)) (fun _ _ _ h => h) (Or.inl ⟨by rfl, ?_⟩) ?_ ?_
                rotate_left
                · intro w'
                  go_simp
                  with_reducible rfl
                rotate_left
                · simp only [Act.put, List.setIfInBounds_toArray, List.set_cons_zero, List.set_cons_succ, i64_w, i32_w]
                  rfl
                refine pure_ (i := 16) (N := some 44) (v := ?_) (a' := ?_) (bl 39 94207) rfl rfl (any_of HT_.out (by kernel_rfl)) (fun _ _ _ h => h) (Or.inl ⟨by rfl, ?_⟩) ?_ ?_
                rotate_left
                · intro w'
                  go_simp
                  with_reducible rfl
                rotate_left
                · simp only [Act.put, List.setIfInBounds_toArray, List.set_cons_zero, List.set_cons_succ, i64_w, i32_w]
                  rfl
                refine pure_ (i := 17) (N := some 45) (v := ?_) (a' := ?_) (bl 39 225279) rfl rfl (any_of HT_.out (by kernel_rfl)) (fun _ _ _ h => h) (Or.inl ⟨by rfl, ?_⟩) ?_ ?_
                rotate_left
                · intro w'
                  go_simp
                  with_reducible rfl
                rotate_left
                · simp only [Act.put, List.setIfInBounds_toArray, List.set_cons_zero, List.set_cons_succ, i64_w, i32_w]
                  rfl
                refine take_ (i := 12) (N := some 40) (v := ?_) (a' := ?_) (bl 39 229375) rfl rfl (take_ofW HT_.out HW_.out (by kernel_rfl)) (fun _ _ _ h => h) (Or.inl ⟨by rfl, ?_⟩) hHeld ?_ ?_
                rotate_left
                · rintro w' ⟨s0, s1, s2, s3, s4, s5, s6, s7, s8, s9, s10, s11, s12, s13, s14, s15, s16, s17, s18, s19, s20, s21, s22, s23, s24, s25⟩
                  go_simp
                  with_reducible rfl
                rotate_left
                · simp only [Act.put, List.setIfInBounds_toArray, List.set_cons_zero, List.set_cons_succ, i64_w, i32_w]
                  rfl
                refine pure_ (i := 15) (N := some 43) (v := ?_) (a' := ?_) (bl 39 262143) rfl rfl (any_of HT_.out (by kernel_rfl)) (fun _ _ _ h => h) (Or.inl ⟨by rfl, ?_⟩) ?_ ?_
                rotate_left
                · intro w'
                  go_simp
                  with_reducible rfl
                rotate_left
                · simp only [Act.put, List.setIfInBounds_toArray, List.set_cons_zero, List.set_cons_succ, i64_w, i32_w]
                  rfl
                refine pure_ (i := 18) (N := some 46) (v := ?_) (a' := ?_) (bl 39 524287) rfl rfl (any_of HT_.out (by kernel_rfl)) (fun _ _ _ h => h) (Or.inl ⟨by rfl, ?_⟩) ?_ ?_
                rotate_left
                · intro w'
                  go_simp
                  with_reducible rfl
                rotate_left
                · simp only [Act.put, List.setIfInBounds_toArray, List.set_cons_zero, List.set_cons_succ, i64_w, i32_w]
                  rfl
                refine pure_ (i := 19) (N := some 47) (v := ?_) (a' := ?_) (bl 39 1048575) rfl rfl (any_of HT_.out (by kernel_rfl)) (fun _ _ _ h => h) (Or.inl ⟨by rfl, ?_⟩) ?_ ?_
                rotate_left
                · intro w'
                  go_simp
                  with_reducible rfl
                rotate_left
                · simp only [Act.put, List.setIfInBounds_toArray, List.set_cons_zero, List.set_cons_succ, i64_w, i32_w]
                  rfl
                refine pure_ (i := 20) (N := some 48) (v := ?_) (a' := ?_) (bl 39 2097151) rfl rfl (any_of HT_.out (by kernel_rfl)) (fun _ _ _ h => h) (Or.inl ⟨by rfl, ?_⟩) ?_ ?_
                rotate_left
                · intro w'
                  go_simp
                  with_reducible rfl
                rotate_left
                · simp only [Act.put, List.setIfInBounds_toArray, List.set_cons_zero, List.set_cons_succ, i64_w, i32_w]
                  rfl
                refine pure_ (i := 21) (N := some 49) (v := undef) (a' := ?_) (bl 39 4194303) rfl rfl (any_of HT_.out (by kernel_rfl)) (fun _ _ _ h => h) (Or.inr ⟨by rfl, rfl⟩) ?_ ?_
                rotate_left
                · simp only [Act.put, List.setIfInBounds_toArray, List.set_cons_zero, List.set_cons_succ, i64_w, i32_w]
                  rfl
                refine pure_ (i := 22) (N := some 50) (v := undef) (a' := ?_) (bl 39 8388607) rfl rfl (any_of HT_.out (by kernel_rfl)) (fun _ _ _ h => h) (Or.inr ⟨by rfl, rfl⟩) ?_ ?_
                rotate_left
                · simp only [Act.put, List.setIfInBounds_toArray, List.set_cons_zero, List.set_cons_succ, i64_w, i32_w]
                  rfl
                refine pure_ (i := 23) (N := some 51) (v := undef) (a' := ?_) (bl 39 16777215) rfl rfl (any_of HT_.out (by kernel_rfl)) (fun _ _ _ h => h) (Or.inr ⟨by rfl, rfl⟩) ?_ ?_
                rotate_left
                · simp only [Act.put, List.setIfInBounds_toArray, List.set_cons_zero, List.set_cons_succ, i64_w, i32_w]
                  rfl
                refine pure_ (i := 24) (N := some 52) (v := undef) (a' := ?_) (bl 39 33554431) rfl rfl (any_of HT_.out (by kernel_rfl)) (fun _ _ _ h => h) (Or.inr ⟨by rfl, rfl⟩) ?_ ?_
                rotate_left
                · simp only [Act.put, List.setIfInBounds_toArray, List.set_cons_zero, List.set_cons_succ, i64_w, i32_w]
                  rfl
                refine pure_ (i := 25) (N := some 53) (v := undef) (a' := ?_) (bl 39 67108863) rfl rfl (any_of HT_.out (by kernel_rfl)) (fun _ _ _ h => h) (Or.inr ⟨by rfl, rfl⟩) ?_ ?_
                rotate_left
                · simp only [Act.put, List.setIfInBounds_toArray, List.set_cons_zero, List.set_cons_succ, i64_w, i32_w]
                  rfl
                refine pure_ (i := 26) (N := some 54) (v := undef) (a' := ?_) (bl 39 134217727) rfl rfl (any_of HT_.out (by kernel_rfl)) (fun _ _ _ h => h) (Or.inr ⟨by rfl, rfl⟩) ?_ ?_
                rotate_left
                · simp only [Act.put, List.setIfInBounds_toArray, List.set_cons_zero, List.set_cons_succ, i64_w, i32_w]
                  rfl
                refine pure_ (i := 27) (N := some 55) (v := undef) (a' := ?_) (bl 39 268435455) rfl rfl (any_of HT_.out (by kernel_rfl)) (fun _ _ _ h => h) (Or.inr ⟨by rfl, rfl⟩) ?_ ?_
                rotate_left
                · simp only [Act.put, List.setIfInBounds_toArray, List.set_cons_zero, List.set_cons_succ, i64_w, i32_w]
                  rfl
                refine pure_ (i := 28) (N := some 56) (v := undef) (a' := ?_) (bl 39 536870911) rfl rfl (any_of HT_.out (by kernel_rfl)) (fun _ _ _ h => h) (Or.inr ⟨by rfl, rfl⟩) ?_ ?_
                rotate_left
                · simp only [Act.put, List.setIfInBounds_toArray, List.set_cons_zero, List.set_cons_succ, i64_w, i32_w]
                  rfl
                refine pure_ (i := 29) (N := some 57) (v := undef) (a' := ?_) (bl 39 1073741823) rfl rfl (any_of HT_.out (by kernel_rfl)) (fun _ _ _ h => h) (Or.inr ⟨by rfl, rfl⟩) ?_ ?_
                rotate_left
                · simp only [Act.put, List.setIfInBounds_toArray, List.set_cons_zero, List.set_cons_succ, i64_w, i32_w]
                  rfl
                refine pure_ (i := 30) (N := some 58) (v := undef) (a' := ?_) (bl 39 2147483647) rfl rfl (any_of HT_.out (by kernel_rfl)) (fun _ _ _ h => h) (Or.inr ⟨by rfl, rfl⟩) ?_ ?_
                rotate_left
                · simp only [Act.put, List.setIfInBounds_toArray, List.set_cons_zero, List.set_cons_succ, i64_w, i32_w]
                  rfl
                refine pure_ (i := 31) (N := some 59) (v := undef) (a' := ?_) (bl 39 4294967295) rfl rfl (any_of HT_.out (by kernel_rfl)) (fun _ _ _ h => h) (Or.inr ⟨by rfl, rfl⟩) ?_ ?_
                rotate_left
                · simp only [Act.put, List.setIfInBounds_toArray, List.set_cons_zero, List.set_cons_succ, i64_w, i32_w]
                  rfl
                refine pure_ (i := 32) (N := some 60) (v := undef) (a' := ?_) (bl 39 8589934591) rfl rfl (any_of HT_.out (by kernel_rfl)) (fun _ _ _ h => h) (Or.inr ⟨by rfl, rfl⟩) ?_ ?_
                rotate_left
                · simp only [Act.put, List.setIfInBounds_toArray, List.set_cons_zero, List.set_cons_succ, i64_w, i32_w]
                  rfl
                refine pure_ (i := 33) (N := some 61) (v := undef) (a' := ?_) (bl 39 17179869183) rfl rfl (any_of HT_.out (by kernel_rfl)) (fun _ _ _ h => h) (Or.inr ⟨by rfl, rfl⟩) ?_ ?_
                rotate_left
                · simp only [Act.put, List.setIfInBounds_toArray, List.set_cons_zero, List.set_cons_succ, i64_w, i32_w]
                  rfl
                refine pure_ (i := 34) (N := some 62) (v := undef) (a' := ?_) (bl 39 34359738367) rfl rfl (any_of HT_.out (by kernel_rfl)) (fun _ _ _ h => h) (Or.inr ⟨by rfl, rfl⟩) ?_ ?_
                rotate_left
                · simp only [Act.put, List.setIfInBounds_toArray, List.set_cons_zero, List.set_cons_succ, i64_w, i32_w]
                  rfl
                refine pure_ (i := 35) (N := some 63) (v := undef) (a' := ?_) (bl 39 68719476735) rfl rfl (any_of HT_.out (by kernel_rfl)) (fun _ _ _ h => h) (Or.inr ⟨by rfl, rfl⟩) ?_ ?_
                rotate_left
                · simp only [Act.put, List.setIfInBounds_toArray, List.set_cons_zero, List.set_cons_succ, i64_w, i32_w]
                  rfl
                refine pure_ (i := 36) (N := some 64) (v := undef) (a' := ?_) (bl 39 137438953471) rfl rfl (any_of HT_.out (by kernel_rfl)) (fun _ _ _ h => h) (Or.inr ⟨by rfl, rfl⟩) ?_ ?_
                rotate_left
                · simp only [Act.put, List.setIfInBounds_toArray, List.set_cons_zero, List.set_cons_succ, i64_w, i32_w]
                  rfl
                refine pure_ (i := 37) (N := some 65) (v := undef) (a' := ?_) (bl 39 274877906943) rfl rfl (any_of HT_.out (by kernel_rfl)) (fun _ _ _ h => h) (Or.inr ⟨by rfl, rfl⟩) ?_ ?_
                rotate_left
                · simp only [Act.put, List.setIfInBounds_toArray, List.set_cons_zero, List.set_cons_succ, i64_w, i32_w]
                  rfl
                refine pure_ (i := 38) (N := some 66) (v := ?_) (a' := ?_) (bl 39 549755813887) rfl rfl (any_of HT_.out (by kernel_rfl)) (fun _ _ _ h => h) (Or.inl ⟨by rfl, ?_⟩) ?_ ?_
                rotate_left
                · intro w'
                  go_simp
                  with_reducible rfl
                rotate_left
                · simp only [Act.put, List.setIfInBounds_toArray, List.set_cons_zero, List.set_cons_succ, i64_w, i32_w]
                  rfl
                refine done_ (done_of HT_.out (by kernel_rfl)) ?_
                try go_wp2
                go_meet
                case rel => exact ⟨_, (true), (by first | rfl | (simp; done) | (simp [*]; done)), H', ⟨by have := HK1.out; first | omega | exact Nat.le_refl _⟩, ⟨by repeat (first | (with_reducible first | exact HB.out | apply below_alloc | apply pw_below_drewN | apply below_drew1) | exact HB.out)⟩⟩
              · rw [if_neg c15] at H
                have c15b0 : decide ((a0.size : Int) < (wrap64 (((rd_T55 l1 x9_1).f7) + ((rdOf ByteArray.empty t168 ((rd_T55 l1 x9_1).f0)).size : Int)))) = false := decide_eq_false c15
                clear c15
                by_cases c17 : 0 ≤ ((rd_T55 l1 x9_1).f7)
                · rw [if_pos c17] at H
                  have c17b0 := eq_true c17
                  have c17b1 : decide (0 ≤ ((rd_T55 l1 x9_1).f7)) = true := decide_eq_true c17
                  clear c17
                  by_cases c18 : ((rd_T55 l1 x9_1).f7) ≤ (wrap64 (((rd_T55 l1 x9_1).f7) + ((rdOf ByteArray.empty t168 ((rd_T55 l1 x9_1).f0)).size : Int)))
                  · rw [if_pos c18] at H
                    have c18b0 := eq_true c18
                    have c18b1 : decide (((rd_T55 l1 x9_1).f7) ≤ (wrap64 (((rd_T55 l1 x9_1).f7) + ((rdOf ByteArray.empty t168 ((rd_T55 l1 x9_1).f0)).size : Int)))) = true := decide_eq_true c18
                    by_cases c19 : (wrap64 (((rd_T55 l1 x9_1).f7) + ((rdOf ByteArray.empty t168 ((rd_T55 l1 x9_1).f0)).size : Int))) ≤ (a0.size : Int)
                    · rw [if_pos c19] at H
                      have c19b0 := eq_true c19
                      have c19b1 : decide ((wrap64 (((rd_T55 l1 x9_1).f7) + ((rdOf ByteArray.empty t168 ((rd_T55 l1 x9_1).f0)).size : Int))) ≤ (a0.size : Int)) = true := decide_eq_true c19
                      have H' := Aside0.mk H
                      clear H
                      try go_wp2
                      have n0_ := Aside0.mk (Kd.R_drew HO170.out)
                      have n1_ := Aside0.mk (below_drew1 HB.out)
                      clear HO170
                      clear HB
                      have HO170 := n0_
                      have HB := n1_
                      clear n0_ n1_
                      have p173 : 0 ≤ (x9_1 : Int) := of_decide_eq_true (by first | (with_reducible assumption) | assumption)
                      have q173 : x9_1 < (l1.length : Int) := of_decide_eq_true (by first | (with_reducible assumption) | assumption)
                      obtain ⟨ad173, A173_11, c173_11, e173, hx173_0, hx173_1, hx173_2, hx173_3, hx173_4, hx173_5, hx173_6, hx173_7, hx173_8, hx173_9, hx173_10, hx173_11, hx173_12, hl173_11, hi173_11⟩ := at_T55 HR1.out x9_1 p173 q173
                      have hw173_12 := hx173_12
                      have hw173_11 := hx173_11
                      have hw173_10 := hx173_10
                      have hw173_9 := hx173_9
                      have hw173_8 := hx173_8
                      have hw173_7 := hx173_7
                      have hw173_6 := hx173_6
                      have hw173_5 := hx173_5
                      have hw173_4 := hx173_4
                      have hw173_3 := hx173_3
                      have hw173_2 := hx173_2
                      have hw173_1 := hx173_1
                      have hw173_0 := hx173_0
                      obtain rfl : ad171 = ad173 := (by injection e173)
                      replace hx173_0 := up_ HB.out hx173_0
                      replace hx173_1 := up_ HB.out hx173_1
                      replace hx173_2 := up_ HB.out hx173_2
                      replace hx173_3 := up_ HB.out hx173_3
                      replace hx173_4 := up_ HB.out hx173_4
                      replace hx173_5 := up_ HB.out hx173_5
                      replace hx173_6 := up_ HB.out hx173_6
                      replace hx173_7 := up_ HB.out hx173_7
                      replace hx173_8 := up_ HB.out hx173_8
                      replace hx173_9 := up_ HB.out hx173_9
                      replace hx173_10 := up_ HB.out hx173_10
                      replace hx173_11 := up_ HB.out hx173_11
                      replace hx173_12 := up_ HB.out hx173_12
                      have HR173_11 := Aside0.mk hi173_11
                      have HC173_11 := Aside0.mk hl173_11
                      clear hi173_11 hl173_11
                      replace p173 := eq_true p173
                      replace q173 := eq_true q173
                      have p174 : 0 ≤ (x9_1 : Int) := of_decide_eq_true (by first | (with_reducible assumption) | assumption)
                      have q174 : x9_1 < (l1.length : Int) := of_decide_eq_true (by first | (with_reducible assumption) | assumption)
                      obtain ⟨ad174, A174_11, c174_11, e174, hx174_0, hx174_1, hx174_2, hx174_3, hx174_4, hx174_5, hx174_6, hx174_7, hx174_8, hx174_9, hx174_10, hx174_11, hx174_12, hl174_11, hi174_11⟩ := at_T55 HR1.out x9_1 p174 q174
                      have hw174_12 := hx174_12
                      have hw174_11 := hx174_11
                      have hw174_10 := hx174_10
                      have hw174_9 := hx174_9
                      have hw174_8 := hx174_8
                      have hw174_7 := hx174_7
                      have hw174_6 := hx174_6
                      have hw174_5 := hx174_5
                      have hw174_4 := hx174_4
                      have hw174_3 := hx174_3
                      have hw174_2 := hx174_2
                      have hw174_1 := hx174_1
                      have hw174_0 := hx174_0
                      obtain rfl : ad171 = ad174 := (by injection e174)
                      replace hx174_0 := up_ HB.out hx174_0
                      replace hx174_1 := up_ HB.out hx174_1
                      replace hx174_2 := up_ HB.out hx174_2
                      replace hx174_3 := up_ HB.out hx174_3
                      replace hx174_4 := up_ HB.out hx174_4
                      replace hx174_5 := up_ HB.out hx174_5
                      replace hx174_6 := up_ HB.out hx174_6
                      replace hx174_7 := up_ HB.out hx174_7
                      replace hx174_8 := up_ HB.out hx174_8
                      replace hx174_9 := up_ HB.out hx174_9
                      replace hx174_10 := up_ HB.out hx174_10
                      replace hx174_11 := up_ HB.out hx174_11
                      replace hx174_12 := up_ HB.out hx174_12
                      have HR174_11 := Aside0.mk hi174_11
                      have HC174_11 := Aside0.mk hl174_11
                      clear hi174_11 hl174_11
                      replace p174 := eq_true p174
                      replace q174 := eq_true q174
                      have ea_ := Option.some.inj (hx173_11.symm.trans hx174_11)
                      injection ea_ with ea_ en_ ec_
                      subst ea_
                      subst ec_
                      clear en_
                      have p175 : 0 ≤ (x9_1 : Int) := of_decide_eq_true (by first | (with_reducible assumption) | assumption)
                      have q175 : x9_1 < (l1.length : Int) := of_decide_eq_true (by first | (with_reducible assumption) | assumption)
                      obtain ⟨ad175, A175_11, c175_11, e175, hx175_0, hx175_1, hx175_2, hx175_3, hx175_4, hx175_5, hx175_6, hx175_7, hx175_8, hx175_9, hx175_10, hx175_11, hx175_12, hl175_11, hi175_11⟩ := at_T55 HR1.out x9_1 p175 q175
                      have hw175_12 := hx175_12
                      have hw175_11 := hx175_11
                      have hw175_10 := hx175_10
                      have hw175_9 := hx175_9
                      have hw175_8 := hx175_8
                      have hw175_7 := hx175_7
                      have hw175_6 := hx175_6
                      have hw175_5 := hx175_5
                      have hw175_4 := hx175_4
                      have hw175_3 := hx175_3
                      have hw175_2 := hx175_2
                      have hw175_1 := hx175_1
                      have hw175_0 := hx175_0
                      obtain rfl : ad171 = ad175 := (by injection e175)
                      replace hx175_0 := up_ HB.out hx175_0
                      replace hx175_1 := up_ HB.out hx175_1
                      replace hx175_2 := up_ HB.out hx175_2
                      replace hx175_3 := up_ HB.out hx175_3
                      replace hx175_4 := up_ HB.out hx175_4
                      replace hx175_5 := up_ HB.out hx175_5
                      replace hx175_6 := up_ HB.out hx175_6
                      replace hx175_7 := up_ HB.out hx175_7
                      replace hx175_8 := up_ HB.out hx175_8
                      replace hx175_9 := up_ HB.out hx175_9
                      replace hx175_10 := up_ HB.out hx175_10
                      replace hx175_11 := up_ HB.out hx175_11
                      replace hx175_12 := up_ HB.out hx175_12
                      have HR175_11 := Aside0.mk hi175_11
                      have HC175_11 := Aside0.mk hl175_11
                      clear hi175_11 hl175_11
                      replace p175 := eq_true p175
                      replace q175 := eq_true q175
                      have ea_ := Option.some.inj (hx173_11.symm.trans hx175_11)
                      injection ea_ with ea_ en_ ec_
                      subst ea_
                      subst ec_
                      clear en_
                      have p176 : 0 ≤ (x9_1 : Int) := of_decide_eq_true (by first | (with_reducible assumption) | assumption)
                      have q176 : x9_1 < (l1.length : Int) := of_decide_eq_true (by first | (with_reducible assumption) | assumption)
                      obtain ⟨ad176, A176_11, c176_11, e176, hx176_0, hx176_1, hx176_2, hx176_3, hx176_4, hx176_5, hx176_6, hx176_7, hx176_8, hx176_9, hx176_10, hx176_11, hx176_12, hl176_11, hi176_11⟩ := at_T55 HR1.out x9_1 p176 q176
                      have hw176_12 := hx176_12
                      have hw176_11 := hx176_11
                      have hw176_10 := hx176_10
                      have hw176_9 := hx176_9
                      have hw176_8 := hx176_8
                      have hw176_7 := hx176_7
                      have hw176_6 := hx176_6
                      have hw176_5 := hx176_5
                      have hw176_4 := hx176_4
                      have hw176_3 := hx176_3
                      have hw176_2 := hx176_2
                      have hw176_1 := hx176_1
                      have hw176_0 := hx176_0
                      obtain rfl : ad171 = ad176 := (by injection e176)
                      replace hx176_0 := up_ HB.out hx176_0
                      replace hx176_1 := up_ HB.out hx176_1
                      replace hx176_2 := up_ HB.out hx176_2
                      replace hx176_3 := up_ HB.out hx176_3
                      replace hx176_4 := up_ HB.out hx176_4
                      replace hx176_5 := up_ HB.out hx176_5
                      replace hx176_6 := up_ HB.out hx176_6
                      replace hx176_7 := up_ HB.out hx176_7
                      replace hx176_8 := up_ HB.out hx176_8
                      replace hx176_9 := up_ HB.out hx176_9
                      replace hx176_10 := up_ HB.out hx176_10
                      replace hx176_11 := up_ HB.out hx176_11
                      replace hx176_12 := up_ HB.out hx176_12
                      have HR176_11 := Aside0.mk hi176_11
                      have HC176_11 := Aside0.mk hl176_11
                      clear hi176_11 hl176_11
                      replace p176 := eq_true p176
                      replace q176 := eq_true q176
                      have ea_ := Option.some.inj (hx173_11.symm.trans hx176_11)
                      injection ea_ with ea_ en_ ec_
                      subst ea_
                      subst ec_
                      clear en_
                      refine start_ (n := 39) (S := fun w' => w'.cell? (ad171.add ((x9_1).toNat * 13)) = some (.int .i64 ((rd_T55 l1 x9_1).f0)) ∧ w'.cell? ⟨(ad171.add ((x9_1).toNat * 13)).block, (ad171.add ((x9_1).toNat * 13)).off + 1, none⟩ = some (.int .i64 ((rd_T55 l1 x9_1).f1)) ∧ w'.cell? ⟨(ad171.add ((x9_1).toNat * 13)).block, (ad171.add ((x9_1).toNat * 13)).off + 2, none⟩ = some (.string ((rd_T55 l1 x9_1).f2)) ∧ w'.cell? ⟨(ad171.add ((x9_1).toNat * 13)).block, (ad171.add ((x9_1).toNat * 13)).off + 3, none⟩ = some (.string ((rd_T55 l1 x9_1).f3)) ∧ w'.cell? ⟨(ad171.add ((x9_1).toNat * 13)).block, (ad171.add ((x9_1).toNat * 13)).off + 4, none⟩ = some (.int .i64 ((rd_T55 l1 x9_1).f4)) ∧ w'.cell? ⟨(ad171.add ((x9_1).toNat * 13)).block, (ad171.add ((x9_1).toNat * 13)).off + 5, none⟩ = some (.int .i64 ((rd_T55 l1 x9_1).f5.f0.f0)) ∧ w'.cell? ⟨(ad171.add ((x9_1).toNat * 13)).block, (ad171.add ((x9_1).toNat * 13)).off + 6, none⟩ = some (.int .i64 ((rd_T55 l1 x9_1).f5.f0.f1)) ∧ w'.cell? ⟨(ad171.add ((x9_1).toNat * 13)).block, (ad171.add ((x9_1).toNat * 13)).off + 7, none⟩ = some (.int .i64 ((rd_T55 l1 x9_1).f5.f0.f2)) ∧ w'.cell? ⟨(ad171.add ((x9_1).toNat * 13)).block, (ad171.add ((x9_1).toNat * 13)).off + 8, none⟩ = some (.int .i64 ((rd_T55 l1 x9_1).f5.f1.f0)) ∧ w'.cell? ⟨(ad171.add ((x9_1).toNat * 13)).block, (ad171.add ((x9_1).toNat * 13)).off + 9, none⟩ = some (.int .i64 ((rd_T55 l1 x9_1).f5.f1.f1)) ∧ w'.cell? ⟨(ad171.add ((x9_1).toNat * 13)).block, (ad171.add ((x9_1).toNat * 13)).off + 10, none⟩ = some (.int .i64 ((rd_T55 l1 x9_1).f5.f1.f2)) ∧ w'.cell? ⟨(ad171.add ((x9_1).toNat * 13)).block, (ad171.add ((x9_1).toNat * 13)).off + 11, none⟩ = some (.slice A173_11 ((rd_T55 l1 x9_1).f6).length c173_11) ∧ w'.cell? ⟨(ad171.add ((x9_1).toNat * 13)).block, (ad171.add ((x9_1).toNat * 13)).off + 12, none⟩ = some (.int .i64 ((rd_T55 l1 x9_1).f7)) ∧ w'.cell? (ad171.add ((x9_1).toNat * 13)) = some (.int .i64 ((rd_T55 l1 x9_1).f0)) ∧ w'.cell? ⟨(ad171.add ((x9_1).toNat * 13)).block, (ad171.add ((x9_1).toNat * 13)).off + 1, none⟩ = some (.int .i64 ((rd_T55 l1 x9_1).f1)) ∧ w'.cell? ⟨(ad171.add ((x9_1).toNat * 13)).block, (ad171.add ((x9_1).toNat * 13)).off + 2, none⟩ = some (.string ((rd_T55 l1 x9_1).f2)) ∧ w'.cell? ⟨(ad171.add ((x9_1).toNat * 13)).block, (ad171.add ((x9_1).toNat * 13)).off + 3, none⟩ = some (.string ((rd_T55 l1 x9_1).f3)) ∧ w'.cell? ⟨(ad171.add ((x9_1).toNat * 13)).block, (ad171.add ((x9_1).toNat * 13)).off + 4, none⟩ = some (.int .i64 ((rd_T55 l1 x9_1).f4)) ∧ w'.cell? ⟨(ad171.add ((x9_1).toNat * 13)).block, (ad171.add ((x9_1).toNat * 13)).off + 5, none⟩ = some (.int .i64 ((rd_T55 l1 x9_1).f5.f0.f0)) ∧ w'.cell? ⟨(ad171.add ((x9_1).toNat * 13)).block, (ad171.add ((x9_1).toNat * 13)).off + 6, none⟩ = some (.int .i64 ((rd_T55 l1 x9_1).f5.f0.f1)) ∧ w'.cell? ⟨(ad171.add ((x9_1).toNat * 13)).block, (ad171.add ((x9_1).toNat * 13)).off + 7, none⟩ = some (.int .i64 ((rd_T55 l1 x9_1).f5.f0.f2)) ∧ w'.cell? ⟨(ad171.add ((x9_1).toNat * 13)).block, (ad171.add ((x9_1).toNat * 13)).off + 8, none⟩ = some (.int .i64 ((rd_T55 l1 x9_1).f5.f1.f0)) ∧ w'.cell? ⟨(ad171.add ((x9_1).toNat * 13)).block, (ad171.add ((x9_1).toNat * 13)).off + 9, none⟩ = some (.int .i64 ((rd_T55 l1 x9_1).f5.f1.f1)) ∧ w'.cell? ⟨(ad171.add ((x9_1).toNat * 13)).block, (ad171.add ((x9_1).toNat * 13)).off + 10, none⟩ = some (.int .i64 ((rd_T55 l1 x9_1).f5.f1.f2)) ∧ w'.cell? ⟨(ad171.add ((x9_1).toNat * 13)).block, (ad171.add ((x9_1).toNat * 13)).off + 11, none⟩ = some (.slice A173_11 ((rd_T55 l1 x9_1).f6).length c173_11) ∧ w'.cell? ⟨(ad171.add ((x9_1).toNat * 13)).block, (ad171.add ((x9_1).toNat * 13)).off + 12, none⟩ = some (.int .i64 ((rd_T55 l1 x9_1).f7)) ∧ w'.cell? (ad171.add ((x9_1).toNat * 13)) = some (.int .i64 ((rd_T55 l1 x9_1).f0)) ∧ w'.cell? ⟨(ad171.add ((x9_1).toNat * 13)).block, (ad171.add ((x9_1).toNat * 13)).off + 1, none⟩ = some (.int .i64 ((rd_T55 l1 x9_1).f1)) ∧ w'.cell? ⟨(ad171.add ((x9_1).toNat * 13)).block, (ad171.add ((x9_1).toNat * 13)).off + 2, none⟩ = some (.string ((rd_T55 l1 x9_1).f2)) ∧ w'.cell? ⟨(ad171.add ((x9_1).toNat * 13)).block, (ad171.add ((x9_1).toNat * 13)).off + 3, none⟩ = some (.string ((rd_T55 l1 x9_1).f3)) ∧ w'.cell? ⟨(ad171.add ((x9_1).toNat * 13)).block, (ad171.add ((x9_1).toNat * 13)).off + 4, none⟩ = some (.int .i64 ((rd_T55 l1 x9_1).f4)) ∧ w'.cell? ⟨(ad171.add ((x9_1).toNat * 13)).block, (ad171.add ((x9_1).toNat * 13)).off + 5, none⟩ = some (.int .i64 ((rd_T55 l1 x9_1).f5.f0.f0)) ∧ w'.cell? ⟨(ad171.add ((x9_1).toNat * 13)).block, (ad171.add ((x9_1).toNat * 13)).off + 6, none⟩ = some (.int .i64 ((rd_T55 l1 x9_1).f5.f0.f1)) ∧ w'.cell? ⟨(ad171.add ((x9_1).toNat * 13)).block, (ad171.add ((x9_1).toNat * 13)).off + 7, none⟩ = some (.int .i64 ((rd_T55 l1 x9_1).f5.f0.f2)) ∧ w'.cell? ⟨(ad171.add ((x9_1).toNat * 13)).block, (ad171.add ((x9_1).toNat * 13)).off + 8, none⟩ = some (.int .i64 ((rd_T55 l1 x9_1).f5.f1.f0)) ∧ w'.cell? ⟨(ad171.add ((x9_1).toNat * 13)).block, (ad171.add ((x9_1).toNat * 13)).off + 9, none⟩ = some (.int .i64 ((rd_T55 l1 x9_1).f5.f1.f1)) ∧ w'.cell? ⟨(ad171.add ((x9_1).toNat * 13)).block, (ad171.add ((x9_1).toNat * 13)).off + 10, none⟩ = some (.int .i64 ((rd_T55 l1 x9_1).f5.f1.f2)) ∧ w'.cell? ⟨(ad171.add ((x9_1).toNat * 13)).block, (ad171.add ((x9_1).toNat * 13)).off + 11, none⟩ = some (.slice A173_11 ((rd_T55 l1 x9_1).f6).length c173_11) ∧ w'.cell? ⟨(ad171.add ((x9_1).toNat * 13)).block, (ad171.add ((x9_1).toNat * 13)).off + 12, none⟩ = some (.int .i64 ((rd_T55 l1 x9_1).f7)) ∧ w'.cell? (ad171.add ((x9_1).toNat * 13)) = some (.int .i64 ((rd_T55 l1 x9_1).f0)) ∧ w'.cell? ⟨(ad171.add ((x9_1).toNat * 13)).block, (ad171.add ((x9_1).toNat * 13)).off + 1, none⟩ = some (.int .i64 ((rd_T55 l1 x9_1).f1)) ∧ w'.cell? ⟨(ad171.add ((x9_1).toNat * 13)).block, (ad171.add ((x9_1).toNat * 13)).off + 2, none⟩ = some (.string ((rd_T55 l1 x9_1).f2)) ∧ w'.cell? ⟨(ad171.add ((x9_1).toNat * 13)).block, (ad171.add ((x9_1).toNat * 13)).off + 3, none⟩ = some (.string ((rd_T55 l1 x9_1).f3)) ∧ w'.cell? ⟨(ad171.add ((x9_1).toNat * 13)).block, (ad171.add ((x9_1).toNat * 13)).off + 4, none⟩ = some (.int .i64 ((rd_T55 l1 x9_1).f4)) ∧ w'.cell? ⟨(ad171.add ((x9_1).toNat * 13)).block, (ad171.add ((x9_1).toNat * 13)).off + 5, none⟩ = some (.int .i64 ((rd_T55 l1 x9_1).f5.f0.f0)) ∧ w'.cell? ⟨(ad171.add ((x9_1).toNat * 13)).block, (ad171.add ((x9_1).toNat * 13)).off + 6, none⟩ = some (.int .i64 ((rd_T55 l1 x9_1).f5.f0.f1)) ∧ w'.cell? ⟨(ad171.add ((x9_1).toNat * 13)).block, (ad171.add ((x9_1).toNat * 13)).off + 7, none⟩ = some (.int .i64 ((rd_T55 l1 x9_1).f5.f0.f2)) ∧ w'.cell? ⟨(ad171.add ((x9_1).toNat * 13)).block, (ad171.add ((x9_1).toNat * 13)).off + 8, none⟩ = some (.int .i64 ((rd_T55 l1 x9_1).f5.f1.f0)) ∧ w'.cell? ⟨(ad171.add ((x9_1).toNat * 13)).block, (ad171.add ((x9_1).toNat * 13)).off + 9, none⟩ = some (.int .i64 ((rd_T55 l1 x9_1).f5.f1.f1)) ∧ w'.cell? ⟨(ad171.add ((x9_1).toNat * 13)).block, (ad171.add ((x9_1).toNat * 13)).off + 10, none⟩ = some (.int .i64 ((rd_T55 l1 x9_1).f5.f1.f2)) ∧ w'.cell? ⟨(ad171.add ((x9_1).toNat * 13)).block, (ad171.add ((x9_1).toNat * 13)).off + 11, none⟩ = some (.slice A173_11 ((rd_T55 l1 x9_1).f6).length c173_11) ∧ w'.cell? ⟨(ad171.add ((x9_1).toNat * 13)).block, (ad171.add ((x9_1).toNat * 13)).off + 12, none⟩ = some (.int .i64 ((rd_T55 l1 x9_1).f7))) (ds := []) #[false, false, false, false, false, false, false, false, false, false, false, false, false, false, false, false, false, false, false, false, false, false, false, false, false, false, false, false, false, false, false, false, false, false, false, false, false, false, false] (by kernel_rfl) rfl rfl ⟨(up_ HB.out hw173_0), (up_ HB.out hw173_1), (up_ HB.out hw173_2), (up_ HB.out hw173_3), (up_ HB.out hw173_4), (up_ HB.out hw173_5), (up_ HB.out hw173_6), (up_ HB.out hw173_7), (up_ HB.out hw173_8), (up_ HB.out hw173_9), (up_ HB.out hw173_10), (up_ HB.out hw173_11), (up_ HB.out hw173_12), (up_ HB.out hw174_0), (up_ HB.out hw174_1), (up_ HB.out hw174_2), (up_ HB.out hw174_3), (up_ HB.out hw174_4), (up_ HB.out hw174_5), (up_ HB.out hw174_6), (up_ HB.out hw174_7), (up_ HB.out hw174_8), (up_ HB.out hw174_9), (up_ HB.out hw174_10), (up_ HB.out hw174_11), (up_ HB.out hw174_12), (up_ HB.out hw175_0), (up_ HB.out hw175_1), (up_ HB.out hw175_2), (up_ HB.out hw175_3), (up_ HB.out hw175_4), (up_ HB.out hw175_5), (up_ HB.out hw175_6), (up_ HB.out hw175_7), (up_ HB.out hw175_8), (up_ HB.out hw175_9), (up_ HB.out hw175_10), (up_ HB.out hw175_11), (up_ HB.out hw175_12), (up_ HB.out hw176_0), (up_ HB.out hw176_1), (up_ HB.out hw176_2), (up_ HB.out hw176_3), (up_ HB.out hw176_4), (up_ HB.out hw176_5), (up_ HB.out hw176_6), (up_ HB.out hw176_7), (up_ HB.out hw176_8), (up_ HB.out hw176_9), (up_ HB.out hw176_10), (up_ HB.out hw176_11), (up_ HB.out hw176_12)⟩ (fun hHeld => ?_); refine with_tabW ambidexterlaw11_placed.tab6 ambidexterlaw11_placed.bits6 (fun HT_ HW_ => ?_)
                      generalize w11.drew = w20 at HO170 HB HR173_11 HR174_11 HR175_11 HR176_11 hx173_0 hx173_1 hx173_10 hx173_11 hx173_12 hx173_2 hx173_3 hx173_4 hx173_5 hx173_6 hx173_7 hx173_8 hx173_9 hx174_0 hx174_1 hx174_10 hx174_11 hx174_12 hx174_2 hx174_3 hx174_4 hx174_5 hx174_6 hx174_7 hx174_8 hx174_9 hx175_0 hx175_1 hx175_10 hx175_11 hx175_12 hx175_2 hx175_3 hx175_4 hx175_5 hx175_6 hx175_7 hx175_8 hx175_9 hx176_0 hx176_1 hx176_10 hx176_11 hx176_12 hx176_2 hx176_3 hx176_4 hx176_5 hx176_6 hx176_7 hx176_8 hx176_9 hHeld ⊢
                      refine pure_ (i := 0) (N := some 28) (v := ?_) (a' := ?_) (bl 39 1) rfl rfl (any_of HT_.out (by kernel_rfl)) (fun _ _ _ h => h) (Or.inl ⟨by rfl, ?_⟩) ?_ ?_
                      rotate_left
                      · intro w'
                        go_simp
                        with_reducible rfl
                      rotate_left
                      · simp only [Act.put, List.setIfInBounds_toArray, List.set_cons_zero, List.set_cons_succ, i64_w, i32_w]
                        rfl
                      refine pure_ (i := 1) (N := some 29) (v := ?_) (a' := ?_) (bl 39 3) rfl rfl (any_of HT_.out (by kernel_rfl)) (fun _ _ _ h => h) (Or.inl ⟨by rfl, ?_⟩) ?_ ?_
                      rotate_left
                      · intro w'
                        go_simp
                        with_reducible rfl
                      rotate_left
                      · simp only [Act.put, List.setIfInBounds_toArray, List.set_cons_zero, List.set_cons_succ, i64_w, i32_w]
                        rfl
                      refine pure_ (i := 2) (N := some 30) (v := ?_) (a' := ?_) (bl 39 7) rfl rfl (any_of HT_.out (by kernel_rfl)) (fun _ _ _ h => h) (Or.inl ⟨by rfl, ?_⟩) ?_ ?_
                      rotate_left
                      · intro w'
                        go_simp
                        with_reducible rfl
                      rotate_left
                      · simp only [Act.put, List.setIfInBounds_toArray, List.set_cons_zero, List.set_cons_succ, i64_w, i32_w]
                        rfl
                      refine pure_ (i := 3) (N := some 31) (v := ?_) (a' := ?_) (bl 39 15) rfl rfl (any_of HT_.out (by kernel_rfl)) (fun _ _ _ h => h) (Or.inl ⟨by rfl, ?_⟩) ?_ ?_
                      rotate_left
                      · intro w'
                        go_simp
                        with_reducible rfl
                      rotate_left
                      · simp only [Act.put, List.setIfInBounds_toArray, List.set_cons_zero, List.set_cons_succ, i64_w, i32_w]
                        rfl
                      refine pure_ (i := 5) (N := some 33) (v := ?_) (a' := ?_) (bl 39 47) rfl rfl (any_of HT_.out (by kernel_rfl)) (fun _ _ _ h => h) (Or.inl ⟨by rfl, ?_⟩) ?_ ?_
                      rotate_left
                      · intro w'
                        go_simp
                        with_reducible rfl
                      rotate_left
                      · simp only [Act.put, List.setIfInBounds_toArray, List.set_cons_zero, List.set_cons_succ, i64_w, i32_w]
                        rfl
                      refine take_ (i := 4) (N := some 32) (v := ?_) (a' := ?_) (bl 39 63) rfl rfl (take_ofW HT_.out HW_.out (by kernel_rfl)) (fun _ _ _ h => h) (Or.inl ⟨by rfl, ?_⟩) hHeld ?_ ?_
                      rotate_left
                      · rintro w' ⟨s0, s1, s2, s3, s4, s5, s6, s7, s8, s9, s10, s11, s12, s13, s14, s15, s16, s17, s18, s19, s20, s21, s22, s23, s24, s25, s26, s27, s28, s29, s30, s31, s32, s33, s34, s35, s36, s37, s38, s39, s40, s41, s42, s43, s44, s45, s46, s47, s48, s49, s50, s51⟩
                        go_simp
                        with_reducible rfl
                      rotate_left
                      · simp only [Act.put, List.setIfInBounds_toArray, List.set_cons_zero, List.set_cons_succ, i64_w, i32_w]
                        rfl
                      refine pure_ (i := 6) (N := some 34) (v := ?_) (a' := ?_) (bl 39 127) rfl rfl (any_of HT_.out (by kernel_rfl)) (fun _ _ _ h => h) (Or.inl ⟨by rfl, ?_⟩) ?_ ?_
                      rotate_left
                      · intro w'
                        go_simp
                        with_reducible rfl
                      rotate_left
                      · simp only [Act.put, List.setIfInBounds_toArray, List.set_cons_zero, List.set_cons_succ, i64_w, i32_w]
                        rfl
                      refine pure_ (i := 7) (N := some 35) (v := ?_) (a' := ?_) (bl 39 255) rfl rfl (any_of HT_.out (by kernel_rfl)) (fun _ _ _ h => h) (Or.inl ⟨by rfl, ?_⟩) ?_ ?_
                      rotate_left
                      · intro w'
                        go_simp
                        with_reducible rfl
                      rotate_left
                      · simp only [Act.put, List.setIfInBounds_toArray, List.set_cons_zero, List.set_cons_succ, i64_w, i32_w]
                        rfl
                      refine pure_ (i := 8) (N := some 36) (v := ?_) (a' := ?_) (bl 39 511) rfl rfl (any_of HT_.out (by kernel_rfl)) (fun _ _ _ h => h) (Or.inl ⟨by rfl, ?_⟩) ?_ ?_
                      rotate_left
                      · intro w'
                        go_simp
                        with_reducible rfl
                      rotate_left
                      · simp only [Act.put, List.setIfInBounds_toArray, List.set_cons_zero, List.set_cons_succ, i64_w, i32_w]
                        rfl
                      refine pure_ (i := 9) (N := some 37) (v := ?_) (a' := ?_) (bl 39 1023) rfl rfl (any_of HT_.out (by kernel_rfl)) (fun _ _ _ h => h) (Or.inl ⟨by rfl, ?_⟩) ?_ ?_
                      rotate_left
                      · intro w'
                        go_simp
                        with_reducible rfl
                      rotate_left
                      · simp only [Act.put, List.setIfInBounds_toArray, List.set_cons_zero, List.set_cons_succ, i64_w, i32_w]
                        rfl
                      refine pure_ (i := 10) (N := some 38) (v := ?_) (a' := ?_) (bl 39 2047) rfl rfl (any_of HT_.out (by kernel_rfl)) (fun _ _ _ h => h) (Or.inl ⟨by rfl, ?_⟩) ?_ ?_
                      rotate_left
                      · intro w'
                        go_simp
                        with_reducible rfl
                      rotate_left
                      · simp only [Act.put, List.setIfInBounds_toArray, List.set_cons_zero, List.set_cons_succ, i64_w, i32_w]
                        rfl
                      refine pure_ (i := 11) (N := some 39) (v := ?_) (a' := ?_) (bl 39 4095) rfl rfl (any_of HT_.out (by kernel_rfl)) (fun _ _ _ h => h) (Or.inl ⟨by rfl, ?_⟩) ?_ ?_
                      rotate_left
                      · intro w'
                        go_simp
                        with_reducible rfl
                      rotate_left
                      · simp only [Act.put, List.setIfInBounds_toArray, List.set_cons_zero, List.set_cons_succ, i64_w, i32_w]
                        rfl
                      refine pure_ (i := 13) (N := some 41) (v := ?_) (a' := ?_) (bl 39 12287) rfl rfl (any_of HT_.out (by kernel_rfl)) (fun _ _ _ h => h) (Or.inl ⟨by rfl, ?_⟩) ?_ ?_
                      rotate_left
                      · intro w'
                        go_simp
                        with_reducible rfl
                      rotate_left
                      · simp only [Act.put, List.setIfInBounds_toArray, List.set_cons_zero, List.set_cons_succ, i64_w, i32_w]
                        rfl
                      refine pure_ (i := 14) (N := some 42) (v := ?_) (a' := ?_) (bl 39 28671) rfl rfl (any_of HT_.out (by kernel_rfl)) (fun _ _ _ h => h) (Or.inl ⟨by rfl, ?_⟩) ?_ ?_
                      rotate_left
                      · intro w'
                        go_simp
                        with_reducible rfl
                      rotate_left
                      · simp only [Act.put, List.setIfInBounds_toArray, List.set_cons_zero, List.set_cons_succ, i64_w, i32_w]
                        rfl
                      refine pure_ (i := 16) (N := some 44) (v := ?_) (a' := ?_) (bl 39 94207) rfl rfl (any_of HT_.out (by kernel_rfl)) (fun _ _ _ h => h) (Or.inl ⟨by rfl, ?_⟩) ?_ ?_
                      rotate_left
                      · intro w'
                        go_simp
                        with_reducible rfl
                      rotate_left
                      · simp only [Act.put, List.setIfInBounds_toArray, List.set_cons_zero, List.set_cons_succ, i64_w, i32_w]
                        rfl
                      refine pure_ (i := 17) (N := some 45) (v := ?_) (a' := ?_) (bl 39 225279) rfl rfl (any_of HT_.out (by kernel_rfl)) (fun _ _ _ h => h) (Or.inl ⟨by rfl, ?_⟩) ?_ ?_
                      rotate_left
                      · intro w'
                        go_simp
                        with_reducible rfl
                      rotate_left
                      · simp only [Act.put, List.setIfInBounds_toArray, List.set_cons_zero, List.set_cons_succ, i64_w, i32_w]
                        rfl
                      refine take_ (i := 12) (N := some 40) (v := ?_) (a' := ?_) (bl 39 229375) rfl rfl (take_ofW HT_.out HW_.out (by kernel_rfl)) (fun _ _ _ h => h) (Or.inl ⟨by rfl, ?_⟩) hHeld ?_ ?_
                      rotate_left
                      · rintro w' ⟨s0, s1, s2, s3, s4, s5, s6, s7, s8, s9, s10, s11, s12, s13, s14, s15, s16, s17, s18, s19, s20, s21, s22, s23, s24, s25, s26, s27, s28, s29, s30, s31, s32, s33, s34, s35, s36, s37, s38, s39, s40, s41, s42, s43, s44, s45, s46, s47, s48, s49, s50, s51⟩
                        go_simp
                        with_reducible rfl
                      rotate_left
                      · simp only [Act.put, List.setIfInBounds_toArray, List.set_cons_zero, List.set_cons_succ, i64_w, i32_w]
                        rfl
                      refine pure_ (i := 15) (N := some 43) (v := ?_) (a' := ?_) (bl 39 262143) rfl rfl (any_of HT_.out (by kernel_rfl)) (fun _ _ _ h => h) (Or.inl ⟨by rfl, ?_⟩) ?_ ?_
                      rotate_left
                      · intro w'
                        go_simp
                        with_reducible rfl
                      rotate_left
                      · simp only [Act.put, List.setIfInBounds_toArray, List.set_cons_zero, List.set_cons_succ, i64_w, i32_w]
                        rfl
                      refine pure_ (i := 18) (N := some 46) (v := ?_) (a' := ?_) (bl 39 524287) rfl rfl (any_of HT_.out (by kernel_rfl)) (fun _ _ _ h => h) (Or.inl ⟨by rfl, ?_⟩) ?_ ?_
                      rotate_left
                      · intro w'
                        go_simp
                        with_reducible rfl
                      rotate_left
                      · simp only [Act.put, List.setIfInBounds_toArray, List.set_cons_zero, List.set_cons_succ, i64_w, i32_w]
                        rfl
                      refine pure_ (i := 19) (N := some 47) (v := ?_) (a' := ?_) (bl 39 1048575) rfl rfl (any_of HT_.out (by kernel_rfl)) (fun _ _ _ h => h) (Or.inl ⟨by rfl, ?_⟩) ?_ ?_
                      rotate_left
                      · intro w'
                        go_simp
                        with_reducible rfl
                      rotate_left
                      · simp only [Act.put, List.setIfInBounds_toArray, List.set_cons_zero, List.set_cons_succ, i64_w, i32_w]
                        rfl
                      refine pure_ (i := 20) (N := some 48) (v := ?_) (a' := ?_) (bl 39 2097151) rfl rfl (any_of HT_.out (by kernel_rfl)) (fun _ _ _ h => h) (Or.inl ⟨by rfl, ?_⟩) ?_ ?_
                      rotate_left
                      · intro w'
                        go_simp
                        with_reducible rfl
                      rotate_left
                      · simp only [Act.put, List.setIfInBounds_toArray, List.set_cons_zero, List.set_cons_succ, i64_w, i32_w]
                        rfl
                      refine pure_ (i := 21) (N := some 49) (v := ?_) (a' := ?_) (bl 39 4194303) rfl rfl (any_of HT_.out (by kernel_rfl)) (fun _ _ _ h => h) (Or.inl ⟨by rfl, ?_⟩) ?_ ?_
                      rotate_left
                      · intro w'
                        go_simp
                        with_reducible rfl
                      rotate_left
                      · simp only [Act.put, List.setIfInBounds_toArray, List.set_cons_zero, List.set_cons_succ, i64_w, i32_w]
                        rfl
                      refine pure_ (i := 22) (N := some 50) (v := ?_) (a' := ?_) (bl 39 8388607) rfl rfl (any_of HT_.out (by kernel_rfl)) (fun _ _ _ h => h) (Or.inl ⟨by rfl, ?_⟩) ?_ ?_
                      rotate_left
                      · intro w'
                        go_simp
                        with_reducible rfl
                      rotate_left
                      · simp only [Act.put, List.setIfInBounds_toArray, List.set_cons_zero, List.set_cons_succ, i64_w, i32_w]
                        rfl
                      refine pure_ (i := 23) (N := some 51) (v := ?_) (a' := ?_) (bl 39 16777215) rfl rfl (any_of HT_.out (by kernel_rfl)) (fun _ _ _ h => h) (Or.inl ⟨by rfl, ?_⟩) ?_ ?_
                      rotate_left
                      · intro w'
                        go_simp
                        with_reducible rfl
                      rotate_left
                      · simp only [Act.put, List.setIfInBounds_toArray, List.set_cons_zero, List.set_cons_succ, i64_w, i32_w]
                        rfl
                      refine pure_ (i := 24) (N := some 52) (v := ?_) (a' := ?_) (bl 39 33554431) rfl rfl (any_of HT_.out (by kernel_rfl)) (fun _ _ _ h => h) (Or.inl ⟨by rfl, ?_⟩) ?_ ?_
                      rotate_left
                      · intro w'
                        go_simp
                        with_reducible rfl
                      rotate_left
                      · simp only [Act.put, List.setIfInBounds_toArray, List.set_cons_zero, List.set_cons_succ, i64_w, i32_w]
                        rfl
                      refine pure_ (i := 25) (N := some 53) (v := ?_) (a' := ?_) (bl 39 67108863) rfl rfl (any_of HT_.out (by kernel_rfl)) (fun _ _ _ h => h) (Or.inl ⟨by rfl, ?_⟩) ?_ ?_
                      rotate_left
                      · intro w'
                        go_simp
                        with_reducible rfl
                      rotate_left
                      · simp only [Act.put, List.setIfInBounds_toArray, List.set_cons_zero, List.set_cons_succ, i64_w, i32_w]
                        rfl
                      refine pure_ (i := 27) (N := some 55) (v := ?_) (a' := ?_) (bl 39 201326591) rfl rfl (any_of HT_.out (by kernel_rfl)) (fun _ _ _ h => h) (Or.inl ⟨by rfl, ?_⟩) ?_ ?_
                      rotate_left
                      · intro w'
                        go_simp
                        with_reducible rfl
                      rotate_left
                      · simp only [Act.put, List.setIfInBounds_toArray, List.set_cons_zero, List.set_cons_succ, i64_w, i32_w]
                        rfl
                      refine pure_ (i := 28) (N := some 56) (v := ?_) (a' := ?_) (bl 39 469762047) rfl rfl (any_of HT_.out (by kernel_rfl)) (fun _ _ _ h => h) (Or.inl ⟨by rfl, ?_⟩) ?_ ?_
                      rotate_left
                      · intro w'
                        go_simp
                        with_reducible rfl
                      rotate_left
                      · simp only [Act.put, List.setIfInBounds_toArray, List.set_cons_zero, List.set_cons_succ, i64_w, i32_w]
                        rfl
                      refine pure_ (i := 29) (N := some 57) (v := ?_) (a' := ?_) (bl 39 1006632959) rfl rfl (any_of HT_.out (by kernel_rfl)) (fun _ _ _ h => h) (Or.inl ⟨by rfl, ?_⟩) ?_ ?_
                      rotate_left
                      · intro w'
                        go_simp
                        with_reducible rfl
                      rotate_left
                      · simp only [Act.put, List.setIfInBounds_toArray, List.set_cons_zero, List.set_cons_succ, i64_w, i32_w]
                        rfl
                      refine pure_ (i := 30) (N := some 58) (v := ?_) (a' := ?_) (bl 39 2080374783) rfl rfl (any_of HT_.out (by kernel_rfl)) (fun _ _ _ h => h) (Or.inl ⟨by rfl, ?_⟩) ?_ ?_
                      rotate_left
                      · intro w'
                        go_simp
                        with_reducible rfl
                      rotate_left
                      · simp only [Act.put, List.setIfInBounds_toArray, List.set_cons_zero, List.set_cons_succ, i64_w, i32_w]
                        rfl
                      refine pure_ (i := 32) (N := some 60) (v := ?_) (a' := ?_) (bl 39 6375342079) rfl rfl (any_of HT_.out (by kernel_rfl)) (fun _ _ _ h => h) (Or.inl ⟨by rfl, ?_⟩) ?_ ?_
                      rotate_left
                      · intro w'
                        go_simp
                        with_reducible rfl
                      rotate_left
                      · simp only [Act.put, List.setIfInBounds_toArray, List.set_cons_zero, List.set_cons_succ, i64_w, i32_w]
                        rfl
                      refine pure_ (i := 33) (N := some 61) (v := ?_) (a' := ?_) (bl 39 14965276671) rfl rfl (any_of HT_.out (by kernel_rfl)) (fun _ _ _ h => h) (Or.inl ⟨by rfl, ?_⟩) ?_ ?_
                      rotate_left
                      · intro w'
                        go_simp
                        with_reducible rfl
                      rotate_left
                      · simp only [Act.put, List.setIfInBounds_toArray, List.set_cons_zero, List.set_cons_succ, i64_w, i32_w]
                        rfl
                      refine pure_ (i := 36) (N := some 64) (v := ?_) (a' := ?_) (bl 39 83684753407) rfl rfl (any_of HT_.out (by kernel_rfl)) (fun _ _ _ h => h) (Or.inl ⟨by rfl, ?_⟩) ?_ ?_
                      rotate_left
                      · intro w'
                        go_simp
                        with_reducible rfl
                      rotate_left
                      · simp only [Act.put, List.setIfInBounds_toArray, List.set_cons_zero, List.set_cons_succ, i64_w, i32_w]
                        rfl
                      refine take_ (i := 26) (N := some 54) (v := ?_) (a' := ?_) (bl 39 83751862271) rfl rfl (take_ofW HT_.out HW_.out (by kernel_rfl)) (fun _ _ _ h => h) (Or.inl ⟨by rfl, ?_⟩) hHeld ?_ ?_
                      rotate_left
                      · rintro w' ⟨s0, s1, s2, s3, s4, s5, s6, s7, s8, s9, s10, s11, s12, s13, s14, s15, s16, s17, s18, s19, s20, s21, s22, s23, s24, s25, s26, s27, s28, s29, s30, s31, s32, s33, s34, s35, s36, s37, s38, s39, s40, s41, s42, s43, s44, s45, s46, s47, s48, s49, s50, s51⟩
                        go_simp
                        with_reducible rfl
                      rotate_left
                      · simp only [Act.put, List.setIfInBounds_toArray, List.set_cons_zero, List.set_cons_succ, i64_w, i32_w]
                        rfl
                      refine take_ (i := 31) (N := some 59) (v := ?_) (a' := ?_) (bl 39 85899345919) rfl rfl (take_ofW HT_.out HW_.out (by kernel_rfl)) (fun _ _ _ h => h) (Or.inl ⟨by rfl, ?_⟩) hHeld ?_ ?_
                      rotate_left
                      · rintro w' ⟨s0, s1, s2, s3, s4, s5, s6, s7, s8, s9, s10, s11, s12, s13, s14, s15, s16, s17, s18, s19, s20, s21, s22, s23, s24, s25, s26, s27, s28, s29, s30, s31, s32, s33, s34, s35, s36, s37, s38, s39, s40, s41, s42, s43, s44, s45, s46, s47, s48, s49, s50, s51⟩
                        go_simp
                        with_reducible rfl
                      rotate_left
                      · simp only [Act.put, List.setIfInBounds_toArray, List.set_cons_zero, List.set_cons_succ, i64_w, i32_w]
                        rfl
                      refine pure_ (i := 34) (N := some 62) (v := ?_) (a' := ?_) (bl 39 103079215103) rfl rfl (any_of HT_.out (by kernel_rfl)) (fun _ _ _ h => h) (Or.inl ⟨by rfl, ?_⟩) ?_ ?_
                      rotate_left
                      · intro w'
                        go_simp
                        with_reducible rfl
                      rotate_left
                      · simp only [Act.put, List.setIfInBounds_toArray, List.set_cons_zero, List.set_cons_succ, i64_w, i32_w]
                        rfl
                      refine pure_ (i := 35) (N := some 63) (v := ?_) (a' := ?_) (bl 39 137438953471) rfl rfl (any_of HT_.out (by kernel_rfl)) (fun _ _ _ h => h) (Or.inl ⟨by rfl, ?_⟩) ?_ ?_
                      rotate_left
                      · intro w'
                        go_simp
                        with_reducible rfl
                      rotate_left
                      · simp only [Act.put, List.setIfInBounds_toArray, List.set_cons_zero, List.set_cons_succ, i64_w, i32_w]
                        rfl
                      refine pure_ (i := 37) (N := some 65) (v := ?_) (a' := ?_) (bl 39 274877906943) rfl rfl (any_of HT_.out (by kernel_rfl)) (fun _ _ _ h => h) (Or.inl ⟨by rfl, ?_⟩) ?_ ?_
                      rotate_left
                      · intro w'
                        go_simp
                        with_reducible rfl
                      rotate_left
                      · simp only [Act.put, List.setIfInBounds_toArray, List.set_cons_zero, List.set_cons_succ, i64_w, i32_w]
                        rfl
                      refine pure_ (i := 38) (N := some 66) (v := ?_) (a' := ?_) (bl 39 549755813887) rfl rfl (any_of HT_.out (by kernel_rfl)) (fun _ _ _ h => h) (Or.inl ⟨by rfl, ?_⟩) ?_ ?_
                      rotate_left
                      · intro w'
                        go_simp
                        with_reducible rfl
                      rotate_left
                      · simp only [Act.put, List.setIfInBounds_toArray, List.set_cons_zero, List.set_cons_succ, i64_w, i32_w]
                        rfl
                      refine done_ (done_of HT_.out (by kernel_rfl)) ?_
                      try go_wp2
                      go_meet
                      case rel => exact ⟨_, (((a0.extract (((rd_T55 l1 x9_1).f7) : Int).toNat ((wrap64 (((rd_T55 l1 x9_1).f7) + ((rdOf ByteArray.empty t168 ((rd_T55 l1 x9_1).f0)).size : Int))) : Int).toNat).toList != (rdOf ByteArray.empty t168 ((rd_T55 l1 x9_1).f0)).toList)), (by first | rfl | (simp; done) | (simp [*]; done)), H', ⟨by have := HK1.out; first | omega | exact Nat.le_refl _⟩, ⟨by repeat (first | (with_reducible first | exact HB.out | apply below_alloc | apply pw_below_drewN | apply below_drew1) | exact HB.out)⟩⟩
                    · rw [if_neg c19] at H
                      exact absurd H (by simp)
                  · rw [if_neg c18] at H
                    exact absurd H (by simp)
                · rw [if_neg c17] at H
                  exact absurd H (by simp)
           case rest =>
            clear HC9
            try clear c1
            try clear p1
            try clear q1
            try clear hx1
            try clear p2
            try clear p6
            try clear c15
            try clear c15b0
            try clear c17
            try clear c17b0
            try clear c17b1
            try clear p17
            try clear q17
            try clear hx17
            try clear c18
            try clear c18b0
            try clear c18b1
            try clear c19
            try clear c19b0
            try clear c19b1
            try clear hx173_0
            try clear hx173_1
            try clear hx173_10
            try clear hx173_11
            try clear hx173_12
            try clear hx173_2
            try clear hx173_3
            try clear hx173_4
            try clear hx173_5
            try clear hx173_6
            try clear hx173_7
            try clear hx173_8
            try clear hx173_9
            try clear hx174_0
            try clear hx174_1
            try clear hx174_10
            try clear hx174_11
            try clear hx174_12
            try clear hx174_2
            try clear hx174_3
            try clear hx174_4
            try clear hx174_5
            try clear hx174_6
            try clear hx174_7
            try clear hx174_8
            try clear hx174_9
            try clear hx175_0
            try clear hx175_1
            try clear hx175_10
            try clear hx175_11
            try clear hx175_12
            try clear hx175_2
            try clear hx175_3
            try clear hx175_4
            try clear hx175_5
            try clear hx175_6
            try clear hx175_7
            try clear hx175_8
            try clear hx175_9
            try clear hx176_0
            try clear hx176_1
            try clear hx176_10
            try clear hx176_11
            try clear hx176_12
            try clear hx176_2
            try clear hx176_3
            try clear hx176_4
            try clear hx176_5
            try clear hx176_6
            try clear hx176_7
            try clear hx176_8
            try clear hx176_9
            try clear p173
            try clear p174
            try clear p175
            try clear p176
            try clear q173
            try clear q174
            try clear q175
            try clear q176
            obtain ⟨kq, x66_8, rfl, HA, HJ8, HB⟩ := hcut
            cases kq with
            | zero => exact absurd HA.out (by simp [ambidexterlaw11_placed.j1])
            | succ kj8 =>
             have H := HA.out
             clear HA
             simp only [ambidexterlaw11_placed.j1] at H
             by_cases c21 : x66_8 = true
             · subst c21
               have H1 : (some (x8_1, false)) = some (r1, r2) := by rw [if_pos rfl] at H; exact H
               clear H
               have H := H1
               clear H1
               simp only [Option.some.injEq, Prod.mk.injEq] at H
               obtain ⟨rfl, rfl⟩ := H
               go_wp2
               go_ret2
               exact ⟨by first | rfl | (simp [errW_none, errW_some] <;> rfl) | (simp [*, errW_none, errW_some] <;> rfl), by repeat (first | (with_reducible first | exact HB.out | apply below_alloc | apply pw_below_drewN | apply below_drew1) | exact HB.out)⟩
             · replace c21 := Bool.eq_false_iff.mpr c21
               subst c21
               have H1 : (if 0 ≤ x9_1 then (if x9_1 < (l1.length : Int) then ((ambidexterlaw11_placed.f kj8 a0 ((rd_T55 l1 x9_1).f6) (wrap64 (((rd_T55 l1 x9_1).f7) + 1))).bind fun bt179 => (if bt179.2 = true then (if (((rd_T55 l1 x9_1).f6).length : Int) = 0 then (ambidexterlaw11_placed.l0 kj8 a0 l1 (wrap64 (((rd_T55 l1 x9_1).f7) + 1)) (wrap64 (x9_1 + 1))) else (ambidexterlaw11_placed.l0 kj8 a0 l1 bt179.1 (wrap64 (x9_1 + 1)))) else (some (x8_1, false)))) else (none)) else (none)) = some (r1, r2) := by rw [if_neg (show ¬ (false = true) by decide)] at H; exact H
               clear H
               have H := H1
               clear H1
               by_cases c22 : 0 ≤ x9_1
               · rw [if_pos c22] at H
                 have c22b0 : decide (0 ≤ x9_1) = true := decide_eq_true c22
                 clear c22
                 by_cases c23 : x9_1 < (l1.length : Int)
                 · rw [if_pos c23] at H
                   have c23b0 : decide (x9_1 < (l1.length : Int)) = true := decide_eq_true c23
                   clear c23
                   replace H := Option.bind_eq_some_iff.mp H
                   obtain ⟨⟨t179, t180⟩, A240, H⟩ := H
                   replace H : (if t180 = true then (if (((rd_T55 l1 x9_1).f6).length : Int) = 0 then (ambidexterlaw11_placed.l0 kj8 a0 l1 (wrap64 (((rd_T55 l1 x9_1).f7) + 1)) (wrap64 (x9_1 + 1))) else (ambidexterlaw11_placed.l0 kj8 a0 l1 t179 (wrap64 (x9_1 + 1)))) else (some (x8_1, false))) = some (r1, r2) := H
                   have A24 := Aside0.mk A240
                   clear A240
                   by_cases c25 : t180 = true
                   · subst c25
                     have H1 : (if (((rd_T55 l1 x9_1).f6).length : Int) = 0 then (ambidexterlaw11_placed.l0 kj8 a0 l1 (wrap64 (((rd_T55 l1 x9_1).f7) + 1)) (wrap64 (x9_1 + 1))) else (ambidexterlaw11_placed.l0 kj8 a0 l1 t179 (wrap64 (x9_1 + 1)))) = some (r1, r2) := by rw [if_pos rfl] at H; exact H
                     clear H
                     have H := H1
                     clear H1
                     by_cases c26 : (((rd_T55 l1 x9_1).f6).length : Int) = 0
                     · rw [if_pos c26] at H
                       have c26b0 : ((((rd_T55 l1 x9_1).f6).length : Int) == 0) = true := beq_iff_eq.mpr c26
                       have c26b1 : ((((rd_T55 l1 x9_1).f6).length : Int) != 0) = false := bne_eq_false_iff_eq.mpr c26
                       clear c26
                       have H' := Aside0.mk H
                       clear H
                       try go_wp2
                       have n0_ := Aside0.mk (below_drew1 HB.out)
                       clear HB
                       have HB := n0_
                       clear n0_
                       have p177 : 0 ≤ (x9_1 : Int) := of_decide_eq_true (by first | (with_reducible assumption) | assumption)
                       have q177 : x9_1 < (l1.length : Int) := of_decide_eq_true (by first | (with_reducible assumption) | assumption)
                       obtain ⟨ad177, A177_11, c177_11, e177, hx177_0, hx177_1, hx177_2, hx177_3, hx177_4, hx177_5, hx177_6, hx177_7, hx177_8, hx177_9, hx177_10, hx177_11, hx177_12, hl177_11, hi177_11⟩ := at_T55 HR1.out x9_1 p177 q177
                       have hw177_12 := hx177_12
                       have hw177_11 := hx177_11
                       have hw177_10 := hx177_10
                       have hw177_9 := hx177_9
                       have hw177_8 := hx177_8
                       have hw177_7 := hx177_7
                       have hw177_6 := hx177_6
                       have hw177_5 := hx177_5
                       have hw177_4 := hx177_4
                       have hw177_3 := hx177_3
                       have hw177_2 := hx177_2
                       have hw177_1 := hx177_1
                       have hw177_0 := hx177_0
                       obtain rfl : ad171 = ad177 := (by injection e177)
                       replace hx177_0 := up_ HB.out hx177_0
                       replace hx177_1 := up_ HB.out hx177_1
                       replace hx177_2 := up_ HB.out hx177_2
                       replace hx177_3 := up_ HB.out hx177_3
                       replace hx177_4 := up_ HB.out hx177_4
                       replace hx177_5 := up_ HB.out hx177_5
                       replace hx177_6 := up_ HB.out hx177_6
                       replace hx177_7 := up_ HB.out hx177_7
                       replace hx177_8 := up_ HB.out hx177_8
                       replace hx177_9 := up_ HB.out hx177_9
                       replace hx177_10 := up_ HB.out hx177_10
                       replace hx177_11 := up_ HB.out hx177_11
                       replace hx177_12 := up_ HB.out hx177_12
                       have HR177_11 := Aside0.mk hi177_11
                       have HC177_11 := Aside0.mk hl177_11
                       clear hi177_11 hl177_11
                       replace p177 := eq_true p177
                       replace q177 := eq_true q177
                       have p178 : 0 ≤ (x9_1 : Int) := of_decide_eq_true (by first | (with_reducible assumption) | assumption)
                       have q178 : x9_1 < (l1.length : Int) := of_decide_eq_true (by first | (with_reducible assumption) | assumption)
                       obtain ⟨ad178, A178_11, c178_11, e178, hx178_0, hx178_1, hx178_2, hx178_3, hx178_4, hx178_5, hx178_6, hx178_7, hx178_8, hx178_9, hx178_10, hx178_11, hx178_12, hl178_11, hi178_11⟩ := at_T55 HR1.out x9_1 p178 q178
                       have hw178_12 := hx178_12
                       have hw178_11 := hx178_11
                       have hw178_10 := hx178_10
                       have hw178_9 := hx178_9
                       have hw178_8 := hx178_8
                       have hw178_7 := hx178_7
                       have hw178_6 := hx178_6
                       have hw178_5 := hx178_5
                       have hw178_4 := hx178_4
                       have hw178_3 := hx178_3
                       have hw178_2 := hx178_2
                       have hw178_1 := hx178_1
                       have hw178_0 := hx178_0
                       obtain rfl : ad171 = ad178 := (by injection e178)
                       replace hx178_0 := up_ HB.out hx178_0
                       replace hx178_1 := up_ HB.out hx178_1
                       replace hx178_2 := up_ HB.out hx178_2
                       replace hx178_3 := up_ HB.out hx178_3
                       replace hx178_4 := up_ HB.out hx178_4
                       replace hx178_5 := up_ HB.out hx178_5
                       replace hx178_6 := up_ HB.out hx178_6
                       replace hx178_7 := up_ HB.out hx178_7
                       replace hx178_8 := up_ HB.out hx178_8
                       replace hx178_9 := up_ HB.out hx178_9
                       replace hx178_10 := up_ HB.out hx178_10
                       replace hx178_11 := up_ HB.out hx178_11
                       replace hx178_12 := up_ HB.out hx178_12
                       have HR178_11 := Aside0.mk hi178_11
                       have HC178_11 := Aside0.mk hl178_11
                       clear hi178_11 hl178_11
                       replace p178 := eq_true p178
                       replace q178 := eq_true q178
                       have ea_ := Option.some.inj (hx177_11.symm.trans hx178_11)
                       injection ea_ with ea_ en_ ec_
                       subst ea_
                       subst ec_
                       clear en_
                       refine start_ (n := 18) (S := fun w' => w'.cell? (ad171.add ((x9_1).toNat * 13)) = some (.int .i64 ((rd_T55 l1 x9_1).f0)) ∧ w'.cell? ⟨(ad171.add ((x9_1).toNat * 13)).block, (ad171.add ((x9_1).toNat * 13)).off + 1, none⟩ = some (.int .i64 ((rd_T55 l1 x9_1).f1)) ∧ w'.cell? ⟨(ad171.add ((x9_1).toNat * 13)).block, (ad171.add ((x9_1).toNat * 13)).off + 2, none⟩ = some (.string ((rd_T55 l1 x9_1).f2)) ∧ w'.cell? ⟨(ad171.add ((x9_1).toNat * 13)).block, (ad171.add ((x9_1).toNat * 13)).off + 3, none⟩ = some (.string ((rd_T55 l1 x9_1).f3)) ∧ w'.cell? ⟨(ad171.add ((x9_1).toNat * 13)).block, (ad171.add ((x9_1).toNat * 13)).off + 4, none⟩ = some (.int .i64 ((rd_T55 l1 x9_1).f4)) ∧ w'.cell? ⟨(ad171.add ((x9_1).toNat * 13)).block, (ad171.add ((x9_1).toNat * 13)).off + 5, none⟩ = some (.int .i64 ((rd_T55 l1 x9_1).f5.f0.f0)) ∧ w'.cell? ⟨(ad171.add ((x9_1).toNat * 13)).block, (ad171.add ((x9_1).toNat * 13)).off + 6, none⟩ = some (.int .i64 ((rd_T55 l1 x9_1).f5.f0.f1)) ∧ w'.cell? ⟨(ad171.add ((x9_1).toNat * 13)).block, (ad171.add ((x9_1).toNat * 13)).off + 7, none⟩ = some (.int .i64 ((rd_T55 l1 x9_1).f5.f0.f2)) ∧ w'.cell? ⟨(ad171.add ((x9_1).toNat * 13)).block, (ad171.add ((x9_1).toNat * 13)).off + 8, none⟩ = some (.int .i64 ((rd_T55 l1 x9_1).f5.f1.f0)) ∧ w'.cell? ⟨(ad171.add ((x9_1).toNat * 13)).block, (ad171.add ((x9_1).toNat * 13)).off + 9, none⟩ = some (.int .i64 ((rd_T55 l1 x9_1).f5.f1.f1)) ∧ w'.cell? ⟨(ad171.add ((x9_1).toNat * 13)).block, (ad171.add ((x9_1).toNat * 13)).off + 10, none⟩ = some (.int .i64 ((rd_T55 l1 x9_1).f5.f1.f2)) ∧ w'.cell? ⟨(ad171.add ((x9_1).toNat * 13)).block, (ad171.add ((x9_1).toNat * 13)).off + 11, none⟩ = some (.slice A177_11 ((rd_T55 l1 x9_1).f6).length c177_11) ∧ w'.cell? ⟨(ad171.add ((x9_1).toNat * 13)).block, (ad171.add ((x9_1).toNat * 13)).off + 12, none⟩ = some (.int .i64 ((rd_T55 l1 x9_1).f7)) ∧ w'.cell? (ad171.add ((x9_1).toNat * 13)) = some (.int .i64 ((rd_T55 l1 x9_1).f0)) ∧ w'.cell? ⟨(ad171.add ((x9_1).toNat * 13)).block, (ad171.add ((x9_1).toNat * 13)).off + 1, none⟩ = some (.int .i64 ((rd_T55 l1 x9_1).f1)) ∧ w'.cell? ⟨(ad171.add ((x9_1).toNat * 13)).block, (ad171.add ((x9_1).toNat * 13)).off + 2, none⟩ = some (.string ((rd_T55 l1 x9_1).f2)) ∧ w'.cell? ⟨(ad171.add ((x9_1).toNat * 13)).block, (ad171.add ((x9_1).toNat * 13)).off + 3, none⟩ = some (.string ((rd_T55 l1 x9_1).f3)) ∧ w'.cell? ⟨(ad171.add ((x9_1).toNat * 13)).block, (ad171.add ((x9_1).toNat * 13)).off + 4, none⟩ = some (.int .i64 ((rd_T55 l1 x9_1).f4)) ∧ w'.cell? ⟨(ad171.add ((x9_1).toNat * 13)).block, (ad171.add ((x9_1).toNat * 13)).off + 5, none⟩ = some (.int .i64 ((rd_T55 l1 x9_1).f5.f0.f0)) ∧ w'.cell? ⟨(ad171.add ((x9_1).toNat * 13)).block, (ad171.add ((x9_1).toNat * 13)).off + 6, none⟩ = some (.int .i64 ((rd_T55 l1 x9_1).f5.f0.f1)) ∧ w'.cell? ⟨(ad171.add ((x9_1).toNat * 13)).block, (ad171.add ((x9_1).toNat * 13)).off + 7, none⟩ = some (.int .i64 ((rd_T55 l1 x9_1).f5.f0.f2)) ∧ w'.cell? ⟨(ad171.add ((x9_1).toNat * 13)).block, (ad171.add ((x9_1).toNat * 13)).off + 8, none⟩ = some (.int .i64 ((rd_T55 l1 x9_1).f5.f1.f0)) ∧ w'.cell? ⟨(ad171.add ((x9_1).toNat * 13)).block, (ad171.add ((x9_1).toNat * 13)).off + 9, none⟩ = some (.int .i64 ((rd_T55 l1 x9_1).f5.f1.f1)) ∧ w'.cell? ⟨(ad171.add ((x9_1).toNat * 13)).block, (ad171.add ((x9_1).toNat * 13)).off + 10, none⟩ = some (.int .i64 ((rd_T55 l1 x9_1).f5.f1.f2)) ∧ w'.cell? ⟨(ad171.add ((x9_1).toNat * 13)).block, (ad171.add ((x9_1).toNat * 13)).off + 11, none⟩ = some (.slice A177_11 ((rd_T55 l1 x9_1).f6).length c177_11) ∧ w'.cell? ⟨(ad171.add ((x9_1).toNat * 13)).block, (ad171.add ((x9_1).toNat * 13)).off + 12, none⟩ = some (.int .i64 ((rd_T55 l1 x9_1).f7))) (ds := []) #[false, false, false, false, false, false, false, false, false, false, false, false, false, false, false, false, false, false] (by kernel_rfl) rfl rfl ⟨(up_ HB.out hw177_0), (up_ HB.out hw177_1), (up_ HB.out hw177_2), (up_ HB.out hw177_3), (up_ HB.out hw177_4), (up_ HB.out hw177_5), (up_ HB.out hw177_6), (up_ HB.out hw177_7), (up_ HB.out hw177_8), (up_ HB.out hw177_9), (up_ HB.out hw177_10), (up_ HB.out hw177_11), (up_ HB.out hw177_12), (up_ HB.out hw178_0), (up_ HB.out hw178_1), (up_ HB.out hw178_2), (up_ HB.out hw178_3), (up_ HB.out hw178_4), (up_ HB.out hw178_5), (up_ HB.out hw178_6), (up_ HB.out hw178_7), (up_ HB.out hw178_8), (up_ HB.out hw178_9), (up_ HB.out hw178_10), (up_ HB.out hw178_11), (up_ HB.out hw178_12)⟩ (fun hHeld => ?_); refine with_tabW ambidexterlaw11_placed.tab8 ambidexterlaw11_placed.bits8 (fun HT_ HW_ => ?_)
                       generalize wc.drew = w27 at HB HR177_11 HR178_11 hx177_0 hx177_1 hx177_10 hx177_11 hx177_12 hx177_2 hx177_3 hx177_4 hx177_5 hx177_6 hx177_7 hx177_8 hx177_9 hx178_0 hx178_1 hx178_10 hx178_11 hx178_12 hx178_2 hx178_3 hx178_4 hx178_5 hx178_6 hx178_7 hx178_8 hx178_9 hHeld ⊢
                       refine pure_ (i := 0) (N := some 69) (v := ?_) (a' := ?_) (bl 18 1) rfl rfl (any_of HT_.out (by kernel_rfl)) (fun _ _ _ h => h) (Or.inl ⟨by rfl, ?_⟩) ?_ ?_
                       rotate_left
                       · intro w'
                         go_simp
                         with_reducible rfl
                       rotate_left
                       · simp only [Act.put, List.setIfInBounds_toArray, List.set_cons_zero, List.set_cons_succ, i64_w, i32_w]
                         rfl
                       refine pure_ (i := 1) (N := some 70) (v := ?_) (a' := ?_) (bl 18 3) rfl rfl (any_of HT_.out (by kernel_rfl)) (fun _ _ _ h => h) (Or.inl ⟨by rfl, ?_⟩) ?_ ?_
                       rotate_left
                       · intro w'
                         go_simp
                         with_reducible rfl
                       rotate_left
                       · simp only [Act.put, List.setIfInBounds_toArray, List.set_cons_zero, List.set_cons_succ, i64_w, i32_w]
                         rfl
                       refine pure_ (i := 2) (N := some 71) (v := ?_) (a' := ?_) (bl 18 7) rfl rfl (any_of HT_.out (by kernel_rfl)) (fun _ _ _ h => h) (Or.inl ⟨by rfl, ?_⟩) ?_ ?_
                       rotate_left
                       · intro w'
                         go_simp
                         with_reducible rfl
                       rotate_left
                       · simp only [Act.put, List.setIfInBounds_toArray, List.set_cons_zero, List.set_cons_succ, i64_w, i32_w]
                         rfl
                       refine pure_ (i := 3) (N := some 72) (v := ?_) (a' := ?_) (bl 18 15) rfl rfl (any_of HT_.out (by kernel_rfl)) (fun _ _ _ h => h) (Or.inl ⟨by rfl, ?_⟩) ?_ ?_
                       rotate_left
                       · intro w'
                         go_simp
                         with_reducible rfl
                       rotate_left
                       · simp only [Act.put, List.setIfInBounds_toArray, List.set_cons_zero, List.set_cons_succ, i64_w, i32_w]
                         rfl
                       refine pure_ (i := 4) (N := some 73) (v := ?_) (a' := ?_) (bl 18 31) rfl rfl (any_of HT_.out (by kernel_rfl)) (fun _ _ _ h => h) (Or.inl ⟨by rfl, ?_⟩) ?_ ?_
                       rotate_left
                       · intro w'
                         go_simp
                         with_reducible rfl
                       rotate_left
                       · simp only [Act.put, List.setIfInBounds_toArray, List.set_cons_zero, List.set_cons_succ, i64_w, i32_w]
                         rfl
                       refine pure_ (i := 6) (N := some 75) (v := ?_) (a' := ?_) (bl 18 95) rfl rfl (any_of HT_.out (by kernel_rfl)) (fun _ _ _ h => h) (Or.inl ⟨by rfl, ?_⟩) ?_ ?_
                       rotate_left
                       · intro w'
                         go_simp
                         with_reducible rfl
                       rotate_left
                       · simp only [Act.put, List.setIfInBounds_toArray, List.set_cons_zero, List.set_cons_succ, i64_w, i32_w]
                         rfl
                       refine pure_ (i := 7) (N := some 76) (v := ?_) (a' := ?_) (bl 18 223) rfl rfl (any_of HT_.out (by kernel_rfl)) (fun _ _ _ h => h) (Or.inl ⟨by rfl, ?_⟩) ?_ ?_
                       rotate_left
                       · intro w'
                         go_simp
                         with_reducible rfl
                       rotate_left
                       · simp only [Act.put, List.setIfInBounds_toArray, List.set_cons_zero, List.set_cons_succ, i64_w, i32_w]
                         rfl
                       refine pure_ (i := 8) (N := some 77) (v := ?_) (a' := ?_) (bl 18 479) rfl rfl (any_of HT_.out (by kernel_rfl)) (fun _ _ _ h => h) (Or.inl ⟨by rfl, ?_⟩) ?_ ?_
                       rotate_left
                       · intro w'
                         go_simp
                         with_reducible rfl
                       rotate_left
                       · simp only [Act.put, List.setIfInBounds_toArray, List.set_cons_zero, List.set_cons_succ, i64_w, i32_w]
                         rfl
                       refine pure_ (i := 9) (N := some 78) (v := ?_) (a' := ?_) (bl 18 991) rfl rfl (any_of HT_.out (by kernel_rfl)) (fun _ _ _ h => h) (Or.inl ⟨by rfl, ?_⟩) ?_ ?_
                       rotate_left
                       · intro w'
                         go_simp
                         with_reducible rfl
                       rotate_left
                       · simp only [Act.put, List.setIfInBounds_toArray, List.set_cons_zero, List.set_cons_succ, i64_w, i32_w]
                         rfl
                       refine take_ (i := 5) (N := some 74) (v := ?_) (a' := ?_) (bl 18 1023) rfl rfl (take_ofW HT_.out HW_.out (by kernel_rfl)) (fun _ _ _ h => h) (Or.inl ⟨by rfl, ?_⟩) hHeld ?_ ?_
                       rotate_left
                       · rintro w' ⟨s0, s1, s2, s3, s4, s5, s6, s7, s8, s9, s10, s11, s12, s13, s14, s15, s16, s17, s18, s19, s20, s21, s22, s23, s24, s25⟩
                         go_simp
                         with_reducible rfl
                       rotate_left
                       · simp only [Act.put, List.setIfInBounds_toArray, List.set_cons_zero, List.set_cons_succ, i64_w, i32_w]
                         rfl
                       refine take_ (i := 10) (N := some 79) (v := ?_) (a' := ?_) (bl 18 2047) rfl rfl (take_ofW HT_.out HW_.out (by kernel_rfl)) (fun _ _ _ h => h) (Or.inl ⟨by rfl, ?_⟩) hHeld ?_ ?_
                       rotate_left
                       · rintro w' ⟨s0, s1, s2, s3, s4, s5, s6, s7, s8, s9, s10, s11, s12, s13, s14, s15, s16, s17, s18, s19, s20, s21, s22, s23, s24, s25⟩
                         go_simp
                         with_reducible rfl
                       rotate_left
                       · simp only [Act.put, List.setIfInBounds_toArray, List.set_cons_zero, List.set_cons_succ, i64_w, i32_w]
                         rfl
                       refine pure_ (i := 11) (N := some 80) (v := ?_) (a' := ?_) (bl 18 4095) rfl rfl (any_of HT_.out (by kernel_rfl)) (fun _ _ _ h => h) (Or.inl ⟨by rfl, ?_⟩) ?_ ?_
                       rotate_left
                       · intro w'
                         go_simp
                         with_reducible rfl
                       rotate_left
                       · simp only [Act.put, List.setIfInBounds_toArray, List.set_cons_zero, List.set_cons_succ, i64_w, i32_w]
                         rfl
                       refine one_ (i := 12) (N := some 81) (bl 18 8191) rfl rfl (one_of HT_.out (by kernel_rfl)) (by decide) (fun K hK => ?_)
                       refine goes_ Tryd.func20 (by kernel_rfl) rfl #[.string a0, .slice A177_11 ((rd_T55 l1 x9_1).f6).length c177_11, .int .i64 (wrap64 (((rd_T55 l1 x9_1).f7) + 1))] (by rfl) rfl rfl (by (try simp only [List.map_toArray, List.map_cons, List.map_nil]); first | done | rfl | (simp only [List.length_drop, List.length_take]; rfl)) ?_
                       with_reducible refine (ih kj8 (by have := HK1.out; have := HJ8.out; omega) a0 _ _ ((rd_T55 l1 x9_1).f6) (wrap64 (((rd_T55 l1 x9_1).f7) + 1)) t179 true _ ?side1 ?side2 A24.out).mono ?_
                       (case side1 => repeat (first | exact (Kd.C_below HR177_11.out HB.out) | (with_reducible refine Kd.C_alloc ?_ _) | (with_reducible refine Kd.C_drewN ?_ _) | (with_reducible refine Kd.C_drew ?_)))
                       (case side2 => exact HC177_11.out)
                       rintro e w28 ⟨rfl, hb⟩
                       refine ⟨_, rfl, ?_⟩
                       have n0_ := Aside0.mk (below_step (by repeat (first | (with_reducible first | exact HB.out | apply below_alloc | apply pw_below_drewN | apply below_drew1) | exact HB.out)) hb)
                       clear HB
                       have HB := n0_
                       clear n0_
                       (try clear hb)
                       (try clear hb2)
                       (try clear hk)
                       (try clear hi)
                       refine hK.out _ _ ⟨(up_ HB.out hw177_0), (up_ HB.out hw177_1), (up_ HB.out hw177_2), (up_ HB.out hw177_3), (up_ HB.out hw177_4), (up_ HB.out hw177_5), (up_ HB.out hw177_6), (up_ HB.out hw177_7), (up_ HB.out hw177_8), (up_ HB.out hw177_9), (up_ HB.out hw177_10), (up_ HB.out hw177_11), (up_ HB.out hw177_12), (up_ HB.out hw178_0), (up_ HB.out hw178_1), (up_ HB.out hw178_2), (up_ HB.out hw178_3), (up_ HB.out hw178_4), (up_ HB.out hw178_5), (up_ HB.out hw178_6), (up_ HB.out hw178_7), (up_ HB.out hw178_8), (up_ HB.out hw178_9), (up_ HB.out hw178_10), (up_ HB.out hw178_11), (up_ HB.out hw178_12)⟩ (fun hHeld => ?_)
                       clear hK K
                       refine norm_ (a' := ?_) ?_ ?_
                       rotate_left
                       · show Act.put _ (some 81) _ = _
                         simp only [Act.put, List.setIfInBounds_toArray, List.set_cons_zero, List.set_cons_succ, i64_w, i32_w]
                         rfl
                       refine pure_ (i := 13) (N := some 68) (v := ?_) (a' := ?_) (bl 18 16383) rfl rfl (any_of HT_.out (by kernel_rfl)) (fun _ _ _ h => h) (Or.inl ⟨by rfl, ?_⟩) ?_ ?_
                       rotate_left
                       · intro w'
                         go_simp
                         with_reducible rfl
                       rotate_left
                       · simp only [Act.put, List.setIfInBounds_toArray, List.set_cons_zero, List.set_cons_succ, i64_w, i32_w]
                         rfl
                       refine pure_ (i := 14) (N := some 82) (v := ?_) (a' := ?_) (bl 18 32767) rfl rfl (any_of HT_.out (by kernel_rfl)) (fun _ _ _ h => h) (Or.inl ⟨by rfl, ?_⟩) ?_ ?_
                       rotate_left
                       · intro w'
                         go_simp
                         with_reducible rfl
                       rotate_left
                       · simp only [Act.put, List.setIfInBounds_toArray, List.set_cons_zero, List.set_cons_succ, i64_w, i32_w]
                         rfl
                       refine pure_ (i := 15) (N := some 83) (v := ?_) (a' := ?_) (bl 18 65535) rfl rfl (any_of HT_.out (by kernel_rfl)) (fun _ _ _ h => h) (Or.inl ⟨by rfl, ?_⟩) ?_ ?_
                       rotate_left
                       · intro w'
                         go_simp
                         with_reducible rfl
                       rotate_left
                       · simp only [Act.put, List.setIfInBounds_toArray, List.set_cons_zero, List.set_cons_succ, i64_w, i32_w]
                         rfl
                       refine pure_ (i := 16) (N := some 11) (v := ?_) (a' := ?_) (bl 18 131071) rfl rfl (any_of HT_.out (by kernel_rfl)) (fun _ _ _ h => h) (Or.inl ⟨by rfl, ?_⟩) ?_ ?_
                       rotate_left
                       · intro w'
                         go_simp
                         with_reducible rfl
                       rotate_left
                       · simp only [Act.put, List.setIfInBounds_toArray, List.set_cons_zero, List.set_cons_succ, i64_w, i32_w]
                         rfl
                       refine pure_ (i := 17) (N := some 12) (v := ?_) (a' := ?_) (bl 18 262143) rfl rfl (any_of HT_.out (by kernel_rfl)) (fun _ _ _ h => h) (Or.inl ⟨by rfl, ?_⟩) ?_ ?_
                       rotate_left
                       · intro w'
                         go_simp
                         with_reducible rfl
                       rotate_left
                       · simp only [Act.put, List.setIfInBounds_toArray, List.set_cons_zero, List.set_cons_succ, i64_w, i32_w]
                         rfl
                       refine done_ (done_of HT_.out (by kernel_rfl)) ?_
                       have p181 : 0 ≤ (x9_1 : Int) := of_decide_eq_true (by first | (with_reducible assumption) | assumption)
                       have q181 : x9_1 < (l1.length : Int) := of_decide_eq_true (by first | (with_reducible assumption) | assumption)
                       obtain ⟨ad181, A181_11, c181_11, e181, hx181_0, hx181_1, hx181_2, hx181_3, hx181_4, hx181_5, hx181_6, hx181_7, hx181_8, hx181_9, hx181_10, hx181_11, hx181_12, hl181_11, hi181_11⟩ := at_T55 HR1.out x9_1 p181 q181
                       obtain rfl : ad171 = ad181 := (by injection e181)
                       replace hx181_0 := up_ HB.out hx181_0
                       replace hx181_1 := up_ HB.out hx181_1
                       replace hx181_2 := up_ HB.out hx181_2
                       replace hx181_3 := up_ HB.out hx181_3
                       replace hx181_4 := up_ HB.out hx181_4
                       replace hx181_5 := up_ HB.out hx181_5
                       replace hx181_6 := up_ HB.out hx181_6
                       replace hx181_7 := up_ HB.out hx181_7
                       replace hx181_8 := up_ HB.out hx181_8
                       replace hx181_9 := up_ HB.out hx181_9
                       replace hx181_10 := up_ HB.out hx181_10
                       replace hx181_11 := up_ HB.out hx181_11
                       replace hx181_12 := up_ HB.out hx181_12
                       have HR181_11 := Aside0.mk hi181_11
                       have HC181_11 := Aside0.mk hl181_11
                       clear hi181_11 hl181_11
                       replace p181 := eq_true p181
                       replace q181 := eq_true q181
                       have p182 : 0 ≤ (x9_1 : Int) := of_decide_eq_true (by first | (with_reducible assumption) | assumption)
                       have q182 : x9_1 < (l1.length : Int) := of_decide_eq_true (by first | (with_reducible assumption) | assumption)
                       obtain ⟨ad182, A182_11, c182_11, e182, hx182_0, hx182_1, hx182_2, hx182_3, hx182_4, hx182_5, hx182_6, hx182_7, hx182_8, hx182_9, hx182_10, hx182_11, hx182_12, hl182_11, hi182_11⟩ := at_T55 HR1.out x9_1 p182 q182
                       obtain rfl : ad171 = ad182 := (by injection e182)
                       replace hx182_0 := up_ HB.out hx182_0
                       replace hx182_1 := up_ HB.out hx182_1
                       replace hx182_2 := up_ HB.out hx182_2
                       replace hx182_3 := up_ HB.out hx182_3
                       replace hx182_4 := up_ HB.out hx182_4
                       replace hx182_5 := up_ HB.out hx182_5
                       replace hx182_6 := up_ HB.out hx182_6
                       replace hx182_7 := up_ HB.out hx182_7
                       replace hx182_8 := up_ HB.out hx182_8
                       replace hx182_9 := up_ HB.out hx182_9
                       replace hx182_10 := up_ HB.out hx182_10
                       replace hx182_11 := up_ HB.out hx182_11
                       replace hx182_12 := up_ HB.out hx182_12
                       have HR182_11 := Aside0.mk hi182_11
                       have HC182_11 := Aside0.mk hl182_11
                       clear hi182_11 hl182_11
                       replace p182 := eq_true p182
                       replace q182 := eq_true q182
                       have ea_ := Option.some.inj (hx181_11.symm.trans hx182_11)
                       injection ea_ with ea_ en_ ec_
                       subst ea_
                       subst ec_
                       clear en_
                       try go_wp2
                       go_roundg kj8
                       case measure => have := HK1.out; have := HJ8.out; omega
                       case rel => exact ⟨(wrap64 (((rd_T55 l1 x9_1).f7) + 1)), (wrap64 (x9_1 + 1)), (by first | rfl | (simp; done) | (simp [*]; done)), (by first | rfl | (simp; done) | (simp [*]; done)), H', ⟨by have := HK1.out; have := HJ8.out; omega⟩, ⟨by repeat (first | (with_reducible first | exact HB.out | apply below_alloc | apply pw_below_drewN | apply below_drew1) | exact HB.out)⟩⟩
                     · rw [if_neg c26] at H
                       have c26b0 : ((((rd_T55 l1 x9_1).f6).length : Int) == 0) = false := beq_eq_false_iff_ne.mpr c26
                       have c26b1 : ((((rd_T55 l1 x9_1).f6).length : Int) != 0) = true := bne_iff_ne.mpr c26
                       have c26b2 : ¬ (((rd_T55 l1 x9_1).f6) = []) := fun h_ => c26 (by rw [h_]; rfl)
                       have H' := Aside0.mk H
                       clear H
                       try go_wp2
                       have n0_ := Aside0.mk (below_drew1 HB.out)
                       clear HB
                       have HB := n0_
                       clear n0_
                       have p177 : 0 ≤ (x9_1 : Int) := of_decide_eq_true (by first | (with_reducible assumption) | assumption)
                       have q177 : x9_1 < (l1.length : Int) := of_decide_eq_true (by first | (with_reducible assumption) | assumption)
                       obtain ⟨ad177, A177_11, c177_11, e177, hx177_0, hx177_1, hx177_2, hx177_3, hx177_4, hx177_5, hx177_6, hx177_7, hx177_8, hx177_9, hx177_10, hx177_11, hx177_12, hl177_11, hi177_11⟩ := at_T55 HR1.out x9_1 p177 q177
                       have hw177_12 := hx177_12
                       have hw177_11 := hx177_11
                       have hw177_10 := hx177_10
                       have hw177_9 := hx177_9
                       have hw177_8 := hx177_8
                       have hw177_7 := hx177_7
                       have hw177_6 := hx177_6
                       have hw177_5 := hx177_5
                       have hw177_4 := hx177_4
                       have hw177_3 := hx177_3
                       have hw177_2 := hx177_2
                       have hw177_1 := hx177_1
                       have hw177_0 := hx177_0
                       obtain rfl : ad171 = ad177 := (by injection e177)
                       replace hx177_0 := up_ HB.out hx177_0
                       replace hx177_1 := up_ HB.out hx177_1
                       replace hx177_2 := up_ HB.out hx177_2
                       replace hx177_3 := up_ HB.out hx177_3
                       replace hx177_4 := up_ HB.out hx177_4
                       replace hx177_5 := up_ HB.out hx177_5
                       replace hx177_6 := up_ HB.out hx177_6
                       replace hx177_7 := up_ HB.out hx177_7
                       replace hx177_8 := up_ HB.out hx177_8
                       replace hx177_9 := up_ HB.out hx177_9
                       replace hx177_10 := up_ HB.out hx177_10
                       replace hx177_11 := up_ HB.out hx177_11
                       replace hx177_12 := up_ HB.out hx177_12
                       have HR177_11 := Aside0.mk hi177_11
                       have HC177_11 := Aside0.mk hl177_11
                       clear hi177_11 hl177_11
                       replace p177 := eq_true p177
                       replace q177 := eq_true q177
                       have p178 : 0 ≤ (x9_1 : Int) := of_decide_eq_true (by first | (with_reducible assumption) | assumption)
                       have q178 : x9_1 < (l1.length : Int) := of_decide_eq_true (by first | (with_reducible assumption) | assumption)
                       obtain ⟨ad178, A178_11, c178_11, e178, hx178_0, hx178_1, hx178_2, hx178_3, hx178_4, hx178_5, hx178_6, hx178_7, hx178_8, hx178_9, hx178_10, hx178_11, hx178_12, hl178_11, hi178_11⟩ := at_T55 HR1.out x9_1 p178 q178
                       have hw178_12 := hx178_12
                       have hw178_11 := hx178_11
                       have hw178_10 := hx178_10
                       have hw178_9 := hx178_9
                       have hw178_8 := hx178_8
                       have hw178_7 := hx178_7
                       have hw178_6 := hx178_6
                       have hw178_5 := hx178_5
                       have hw178_4 := hx178_4
                       have hw178_3 := hx178_3
                       have hw178_2 := hx178_2
                       have hw178_1 := hx178_1
                       have hw178_0 := hx178_0
                       obtain rfl : ad171 = ad178 := (by injection e178)
                       replace hx178_0 := up_ HB.out hx178_0
                       replace hx178_1 := up_ HB.out hx178_1
                       replace hx178_2 := up_ HB.out hx178_2
                       replace hx178_3 := up_ HB.out hx178_3
                       replace hx178_4 := up_ HB.out hx178_4
                       replace hx178_5 := up_ HB.out hx178_5
                       replace hx178_6 := up_ HB.out hx178_6
                       replace hx178_7 := up_ HB.out hx178_7
                       replace hx178_8 := up_ HB.out hx178_8
                       replace hx178_9 := up_ HB.out hx178_9
                       replace hx178_10 := up_ HB.out hx178_10
                       replace hx178_11 := up_ HB.out hx178_11
                       replace hx178_12 := up_ HB.out hx178_12
                       have HR178_11 := Aside0.mk hi178_11
                       have HC178_11 := Aside0.mk hl178_11
                       clear hi178_11 hl178_11
                       replace p178 := eq_true p178
                       replace q178 := eq_true q178
                       have ea_ := Option.some.inj (hx177_11.symm.trans hx178_11)
                       injection ea_ with ea_ en_ ec_
                       subst ea_
                       subst ec_
                       clear en_
                       refine start_ (n := 18) (S := fun w' => w'.cell? (ad171.add ((x9_1).toNat * 13)) = some (.int .i64 ((rd_T55 l1 x9_1).f0)) ∧ w'.cell? ⟨(ad171.add ((x9_1).toNat * 13)).block, (ad171.add ((x9_1).toNat * 13)).off + 1, none⟩ = some (.int .i64 ((rd_T55 l1 x9_1).f1)) ∧ w'.cell? ⟨(ad171.add ((x9_1).toNat * 13)).block, (ad171.add ((x9_1).toNat * 13)).off + 2, none⟩ = some (.string ((rd_T55 l1 x9_1).f2)) ∧ w'.cell? ⟨(ad171.add ((x9_1).toNat * 13)).block, (ad171.add ((x9_1).toNat * 13)).off + 3, none⟩ = some (.string ((rd_T55 l1 x9_1).f3)) ∧ w'.cell? ⟨(ad171.add ((x9_1).toNat * 13)).block, (ad171.add ((x9_1).toNat * 13)).off + 4, none⟩ = some (.int .i64 ((rd_T55 l1 x9_1).f4)) ∧ w'.cell? ⟨(ad171.add ((x9_1).toNat * 13)).block, (ad171.add ((x9_1).toNat * 13)).off + 5, none⟩ = some (.int .i64 ((rd_T55 l1 x9_1).f5.f0.f0)) ∧ w'.cell? ⟨(ad171.add ((x9_1).toNat * 13)).block, (ad171.add ((x9_1).toNat * 13)).off + 6, none⟩ = some (.int .i64 ((rd_T55 l1 x9_1).f5.f0.f1)) ∧ w'.cell? ⟨(ad171.add ((x9_1).toNat * 13)).block, (ad171.add ((x9_1).toNat * 13)).off + 7, none⟩ = some (.int .i64 ((rd_T55 l1 x9_1).f5.f0.f2)) ∧ w'.cell? ⟨(ad171.add ((x9_1).toNat * 13)).block, (ad171.add ((x9_1).toNat * 13)).off + 8, none⟩ = some (.int .i64 ((rd_T55 l1 x9_1).f5.f1.f0)) ∧ w'.cell? ⟨(ad171.add ((x9_1).toNat * 13)).block, (ad171.add ((x9_1).toNat * 13)).off + 9, none⟩ = some (.int .i64 ((rd_T55 l1 x9_1).f5.f1.f1)) ∧ w'.cell? ⟨(ad171.add ((x9_1).toNat * 13)).block, (ad171.add ((x9_1).toNat * 13)).off + 10, none⟩ = some (.int .i64 ((rd_T55 l1 x9_1).f5.f1.f2)) ∧ w'.cell? ⟨(ad171.add ((x9_1).toNat * 13)).block, (ad171.add ((x9_1).toNat * 13)).off + 11, none⟩ = some (.slice A177_11 ((rd_T55 l1 x9_1).f6).length c177_11) ∧ w'.cell? ⟨(ad171.add ((x9_1).toNat * 13)).block, (ad171.add ((x9_1).toNat * 13)).off + 12, none⟩ = some (.int .i64 ((rd_T55 l1 x9_1).f7)) ∧ w'.cell? (ad171.add ((x9_1).toNat * 13)) = some (.int .i64 ((rd_T55 l1 x9_1).f0)) ∧ w'.cell? ⟨(ad171.add ((x9_1).toNat * 13)).block, (ad171.add ((x9_1).toNat * 13)).off + 1, none⟩ = some (.int .i64 ((rd_T55 l1 x9_1).f1)) ∧ w'.cell? ⟨(ad171.add ((x9_1).toNat * 13)).block, (ad171.add ((x9_1).toNat * 13)).off + 2, none⟩ = some (.string ((rd_T55 l1 x9_1).f2)) ∧ w'.cell? ⟨(ad171.add ((x9_1).toNat * 13)).block, (ad171.add ((x9_1).toNat * 13)).off + 3, none⟩ = some (.string ((rd_T55 l1 x9_1).f3)) ∧ w'.cell? ⟨(ad171.add ((x9_1).toNat * 13)).block, (ad171.add ((x9_1).toNat * 13)).off + 4, none⟩ = some (.int .i64 ((rd_T55 l1 x9_1).f4)) ∧ w'.cell? ⟨(ad171.add ((x9_1).toNat * 13)).block, (ad171.add ((x9_1).toNat * 13)).off + 5, none⟩ = some (.int .i64 ((rd_T55 l1 x9_1).f5.f0.f0)) ∧ w'.cell? ⟨(ad171.add ((x9_1).toNat * 13)).block, (ad171.add ((x9_1).toNat * 13)).off + 6, none⟩ = some (.int .i64 ((rd_T55 l1 x9_1).f5.f0.f1)) ∧ w'.cell? ⟨(ad171.add ((x9_1).toNat * 13)).block, (ad171.add ((x9_1).toNat * 13)).off + 7, none⟩ = some (.int .i64 ((rd_T55 l1 x9_1).f5.f0.f2)) ∧ w'.cell? ⟨(ad171.add ((x9_1).toNat * 13)).block, (ad171.add ((x9_1).toNat * 13)).off + 8, none⟩ = some (.int .i64 ((rd_T55 l1 x9_1).f5.f1.f0)) ∧ w'.cell? ⟨(ad171.add ((x9_1).toNat * 13)).block, (ad171.add ((x9_1).toNat * 13)).off + 9, none⟩ = some (.int .i64 ((rd_T55 l1 x9_1).f5.f1.f1)) ∧ w'.cell? ⟨(ad171.add ((x9_1).toNat * 13)).block, (ad171.add ((x9_1).toNat * 13)).off + 10, none⟩ = some (.int .i64 ((rd_T55 l1 x9_1).f5.f1.f2)) ∧ w'.cell? ⟨(ad171.add ((x9_1).toNat * 13)).block, (ad171.add ((x9_1).toNat * 13)).off + 11, none⟩ = some (.slice A177_11 ((rd_T55 l1 x9_1).f6).length c177_11) ∧ w'.cell? ⟨(ad171.add ((x9_1).toNat * 13)).block, (ad171.add ((x9_1).toNat * 13)).off + 12, none⟩ = some (.int .i64 ((rd_T55 l1 x9_1).f7))) (ds := []) #[false, false, false, false, false, false, false, false, false, false, false, false, false, false, false, false, false, false] (by kernel_rfl) rfl rfl ⟨(up_ HB.out hw177_0), (up_ HB.out hw177_1), (up_ HB.out hw177_2), (up_ HB.out hw177_3), (up_ HB.out hw177_4), (up_ HB.out hw177_5), (up_ HB.out hw177_6), (up_ HB.out hw177_7), (up_ HB.out hw177_8), (up_ HB.out hw177_9), (up_ HB.out hw177_10), (up_ HB.out hw177_11), (up_ HB.out hw177_12), (up_ HB.out hw178_0), (up_ HB.out hw178_1), (up_ HB.out hw178_2), (up_ HB.out hw178_3), (up_ HB.out hw178_4), (up_ HB.out hw178_5), (up_ HB.out hw178_6), (up_ HB.out hw178_7), (up_ HB.out hw178_8), (up_ HB.out hw178_9), (up_ HB.out hw178_10), (up_ HB.out hw178_11), (up_ HB.out hw178_12)⟩ (fun hHeld => ?_); refine with_tabW ambidexterlaw11_placed.tab8 ambidexterlaw11_placed.bits8 (fun HT_ HW_ => ?_)
                       generalize wc.drew = w29 at HB HR177_11 HR178_11 hx177_0 hx177_1 hx177_10 hx177_11 hx177_12 hx177_2 hx177_3 hx177_4 hx177_5 hx177_6 hx177_7 hx177_8 hx177_9 hx178_0 hx178_1 hx178_10 hx178_11 hx178_12 hx178_2 hx178_3 hx178_4 hx178_5 hx178_6 hx178_7 hx178_8 hx178_9 hHeld ⊢
                       refine pure_ (i := 0) (N := some 69) (v := ?_) (a' := ?_) (bl 18 1) rfl rfl (any_of HT_.out (by kernel_rfl)) (fun _ _ _ h => h) (Or.inl ⟨by rfl, ?_⟩) ?_ ?_
                       rotate_left
                       · intro w'
                         go_simp
                         with_reducible rfl
                       rotate_left
                       · simp only [Act.put, List.setIfInBounds_toArray, List.set_cons_zero, List.set_cons_succ, i64_w, i32_w]
                         rfl
                       refine pure_ (i := 1) (N := some 70) (v := ?_) (a' := ?_) (bl 18 3) rfl rfl (any_of HT_.out (by kernel_rfl)) (fun _ _ _ h => h) (Or.inl ⟨by rfl, ?_⟩) ?_ ?_
                       rotate_left
                       · intro w'
                         go_simp
                         with_reducible rfl
                       rotate_left
                       · simp only [Act.put, List.setIfInBounds_toArray, List.set_cons_zero, List.set_cons_succ, i64_w, i32_w]
                         rfl
                       refine pure_ (i := 2) (N := some 71) (v := ?_) (a' := ?_) (bl 18 7) rfl rfl (any_of HT_.out (by kernel_rfl)) (fun _ _ _ h => h) (Or.inl ⟨by rfl, ?_⟩) ?_ ?_
                       rotate_left
                       · intro w'
                         go_simp
                         with_reducible rfl
                       rotate_left
                       · simp only [Act.put, List.setIfInBounds_toArray, List.set_cons_zero, List.set_cons_succ, i64_w, i32_w]
                         rfl
                       refine pure_ (i := 3) (N := some 72) (v := ?_) (a' := ?_) (bl 18 15) rfl rfl (any_of HT_.out (by kernel_rfl)) (fun _ _ _ h => h) (Or.inl ⟨by rfl, ?_⟩) ?_ ?_
                       rotate_left
                       · intro w'
                         go_simp
                         with_reducible rfl
                       rotate_left
                       · simp only [Act.put, List.setIfInBounds_toArray, List.set_cons_zero, List.set_cons_succ, i64_w, i32_w]
                         rfl
                       refine pure_ (i := 4) (N := some 73) (v := ?_) (a' := ?_) (bl 18 31) rfl rfl (any_of HT_.out (by kernel_rfl)) (fun _ _ _ h => h) (Or.inl ⟨by rfl, ?_⟩) ?_ ?_
                       rotate_left
                       · intro w'
                         go_simp
                         with_reducible rfl
                       rotate_left
                       · simp only [Act.put, List.setIfInBounds_toArray, List.set_cons_zero, List.set_cons_succ, i64_w, i32_w]
                         rfl
                       refine pure_ (i := 6) (N := some 75) (v := ?_) (a' := ?_) (bl 18 95) rfl rfl (any_of HT_.out (by kernel_rfl)) (fun _ _ _ h => h) (Or.inl ⟨by rfl, ?_⟩) ?_ ?_
                       rotate_left
                       · intro w'
                         go_simp
                         with_reducible rfl
                       rotate_left
                       · simp only [Act.put, List.setIfInBounds_toArray, List.set_cons_zero, List.set_cons_succ, i64_w, i32_w]
                         rfl
                       refine pure_ (i := 7) (N := some 76) (v := ?_) (a' := ?_) (bl 18 223) rfl rfl (any_of HT_.out (by kernel_rfl)) (fun _ _ _ h => h) (Or.inl ⟨by rfl, ?_⟩) ?_ ?_
                       rotate_left
                       · intro w'
                         go_simp
                         with_reducible rfl
                       rotate_left
                       · simp only [Act.put, List.setIfInBounds_toArray, List.set_cons_zero, List.set_cons_succ, i64_w, i32_w]
                         rfl
                       refine pure_ (i := 8) (N := some 77) (v := ?_) (a' := ?_) (bl 18 479) rfl rfl (any_of HT_.out (by kernel_rfl)) (fun _ _ _ h => h) (Or.inl ⟨by rfl, ?_⟩) ?_ ?_
                       rotate_left
                       · intro w'
                         go_simp
                         with_reducible rfl
                       rotate_left
                       · simp only [Act.put, List.setIfInBounds_toArray, List.set_cons_zero, List.set_cons_succ, i64_w, i32_w]
                         rfl
                       refine pure_ (i := 9) (N := some 78) (v := ?_) (a' := ?_) (bl 18 991) rfl rfl (any_of HT_.out (by kernel_rfl)) (fun _ _ _ h => h) (Or.inl ⟨by rfl, ?_⟩) ?_ ?_
                       rotate_left
                       · intro w'
                         go_simp
                         with_reducible rfl
                       rotate_left
                       · simp only [Act.put, List.setIfInBounds_toArray, List.set_cons_zero, List.set_cons_succ, i64_w, i32_w]
                         rfl
                       refine take_ (i := 5) (N := some 74) (v := ?_) (a' := ?_) (bl 18 1023) rfl rfl (take_ofW HT_.out HW_.out (by kernel_rfl)) (fun _ _ _ h => h) (Or.inl ⟨by rfl, ?_⟩) hHeld ?_ ?_
                       rotate_left
                       · rintro w' ⟨s0, s1, s2, s3, s4, s5, s6, s7, s8, s9, s10, s11, s12, s13, s14, s15, s16, s17, s18, s19, s20, s21, s22, s23, s24, s25⟩
                         go_simp
                         with_reducible rfl
                       rotate_left
                       · simp only [Act.put, List.setIfInBounds_toArray, List.set_cons_zero, List.set_cons_succ, i64_w, i32_w]
                         rfl
                       refine take_ (i := 10) (N := some 79) (v := ?_) (a' := ?_) (bl 18 2047) rfl rfl (take_ofW HT_.out HW_.out (by kernel_rfl)) (fun _ _ _ h => h) (Or.inl ⟨by rfl, ?_⟩) hHeld ?_ ?_
                       rotate_left
                       · rintro w' ⟨s0, s1, s2, s3, s4, s5, s6, s7, s8, s9, s10, s11, s12, s13, s14, s15, s16, s17, s18, s19, s20, s21, s22, s23, s24, s25⟩
                         go_simp
                         with_reducible rfl
                       rotate_left
                       · simp only [Act.put, List.setIfInBounds_toArray, List.set_cons_zero, List.set_cons_succ, i64_w, i32_w]
                         rfl
                       refine pure_ (i := 11) (N := some 80) (v := ?_) (a' := ?_) (bl 18 4095) rfl rfl (any_of HT_.out (by kernel_rfl)) (fun _ _ _ h => h) (Or.inl ⟨by rfl, ?_⟩) ?_ ?_
                       rotate_left
                       · intro w'
                         go_simp
                         with_reducible rfl
                       rotate_left
                       · simp only [Act.put, List.setIfInBounds_toArray, List.set_cons_zero, List.set_cons_succ, i64_w, i32_w]
                         rfl
                       refine one_ (i := 12) (N := some 81) (bl 18 8191) rfl rfl (one_of HT_.out (by kernel_rfl)) (by decide) (fun K hK => ?_)
                       refine goes_ Tryd.func20 (by kernel_rfl) rfl #[.string a0, .slice A177_11 ((rd_T55 l1 x9_1).f6).length c177_11, .int .i64 (wrap64 (((rd_T55 l1 x9_1).f7) + 1))] (by rfl) rfl rfl (by (try simp only [List.map_toArray, List.map_cons, List.map_nil]); first | done | rfl | (simp only [List.length_drop, List.length_take]; rfl)) ?_
                       with_reducible refine (ih kj8 (by have := HK1.out; have := HJ8.out; omega) a0 _ _ ((rd_T55 l1 x9_1).f6) (wrap64 (((rd_T55 l1 x9_1).f7) + 1)) t179 true _ ?side1 ?side2 A24.out).mono ?_
                       (case side1 => repeat (first | exact (Kd.C_below HR177_11.out HB.out) | (with_reducible refine Kd.C_alloc ?_ _) | (with_reducible refine Kd.C_drewN ?_ _) | (with_reducible refine Kd.C_drew ?_)))
                       (case side2 => exact HC177_11.out)
                       rintro e w30 ⟨rfl, hb⟩
                       refine ⟨_, rfl, ?_⟩
                       have n0_ := Aside0.mk (below_step (by repeat (first | (with_reducible first | exact HB.out | apply below_alloc | apply pw_below_drewN | apply below_drew1) | exact HB.out)) hb)
                       clear HB
                       have HB := n0_
                       clear n0_
                       (try clear hb)
                       (try clear hb2)
                       (try clear hk)
                       (try clear hi)
                       refine hK.out _ _ ⟨(up_ HB.out hw177_0), (up_ HB.out hw177_1), (up_ HB.out hw177_2), (up_ HB.out hw177_3), (up_ HB.out hw177_4), (up_ HB.out hw177_5), (up_ HB.out hw177_6), (up_ HB.out hw177_7), (up_ HB.out hw177_8), (up_ HB.out hw177_9), (up_ HB.out hw177_10), (up_ HB.out hw177_11), (up_ HB.out hw177_12), (up_ HB.out hw178_0), (up_ HB.out hw178_1), (up_ HB.out hw178_2), (up_ HB.out hw178_3), (up_ HB.out hw178_4), (up_ HB.out hw178_5), (up_ HB.out hw178_6), (up_ HB.out hw178_7), (up_ HB.out hw178_8), (up_ HB.out hw178_9), (up_ HB.out hw178_10), (up_ HB.out hw178_11), (up_ HB.out hw178_12)⟩ (fun hHeld => ?_)
                       clear hK K
                       refine norm_ (a' := ?_) ?_ ?_
                       rotate_left
                       · show Act.put _ (some 81) _ = _
                         simp only [Act.put, List.setIfInBounds_toArray, List.set_cons_zero, List.set_cons_succ, i64_w, i32_w]
                         rfl
                       refine pure_ (i := 13) (N := some 68) (v := ?_) (a' := ?_) (bl 18 16383) rfl rfl (any_of HT_.out (by kernel_rfl)) (fun _ _ _ h => h) (Or.inl ⟨by rfl, ?_⟩) ?_ ?_
                       rotate_left
                       · intro w'
                         go_simp
                         with_reducible rfl
                       rotate_left
                       · simp only [Act.put, List.setIfInBounds_toArray, List.set_cons_zero, List.set_cons_succ, i64_w, i32_w]
                         rfl
                       refine pure_ (i := 14) (N := some 82) (v := ?_) (a' := ?_) (bl 18 32767) rfl rfl (any_of HT_.out (by kernel_rfl)) (fun _ _ _ h => h) (Or.inl ⟨by rfl, ?_⟩) ?_ ?_
                       rotate_left
                       · intro w'
                         go_simp
                         with_reducible rfl
                       rotate_left
                       · simp only [Act.put, List.setIfInBounds_toArray, List.set_cons_zero, List.set_cons_succ, i64_w, i32_w]
                         rfl
                       refine pure_ (i := 15) (N := some 83) (v := ?_) (a' := ?_) (bl 18 65535) rfl rfl (any_of HT_.out (by kernel_rfl)) (fun _ _ _ h => h) (Or.inl ⟨by rfl, ?_⟩) ?_ ?_
                       rotate_left
                       · intro w'
                         go_simp
                         with_reducible rfl
                       rotate_left
                       · simp only [Act.put, List.setIfInBounds_toArray, List.set_cons_zero, List.set_cons_succ, i64_w, i32_w]
                         rfl
                       refine pure_ (i := 16) (N := some 11) (v := ?_) (a' := ?_) (bl 18 131071) rfl rfl (any_of HT_.out (by kernel_rfl)) (fun _ _ _ h => h) (Or.inl ⟨by rfl, ?_⟩) ?_ ?_
                       rotate_left
                       · intro w'
                         go_simp
                         with_reducible rfl
                       rotate_left
                       · simp only [Act.put, List.setIfInBounds_toArray, List.set_cons_zero, List.set_cons_succ, i64_w, i32_w]
                         rfl
                       refine pure_ (i := 17) (N := some 12) (v := ?_) (a' := ?_) (bl 18 262143) rfl rfl (any_of HT_.out (by kernel_rfl)) (fun _ _ _ h => h) (Or.inl ⟨by rfl, ?_⟩) ?_ ?_
                       rotate_left
                       · intro w'
                         go_simp
                         with_reducible rfl
                       rotate_left
                       · simp only [Act.put, List.setIfInBounds_toArray, List.set_cons_zero, List.set_cons_succ, i64_w, i32_w]
                         rfl
                       refine done_ (done_of HT_.out (by kernel_rfl)) ?_
                       have p181 : 0 ≤ (x9_1 : Int) := of_decide_eq_true (by first | (with_reducible assumption) | assumption)
                       have q181 : x9_1 < (l1.length : Int) := of_decide_eq_true (by first | (with_reducible assumption) | assumption)
                       obtain ⟨ad181, A181_11, c181_11, e181, hx181_0, hx181_1, hx181_2, hx181_3, hx181_4, hx181_5, hx181_6, hx181_7, hx181_8, hx181_9, hx181_10, hx181_11, hx181_12, hl181_11, hi181_11⟩ := at_T55 HR1.out x9_1 p181 q181
                       obtain rfl : ad171 = ad181 := (by injection e181)
                       replace hx181_0 := up_ HB.out hx181_0
                       replace hx181_1 := up_ HB.out hx181_1
                       replace hx181_2 := up_ HB.out hx181_2
                       replace hx181_3 := up_ HB.out hx181_3
                       replace hx181_4 := up_ HB.out hx181_4
                       replace hx181_5 := up_ HB.out hx181_5
                       replace hx181_6 := up_ HB.out hx181_6
                       replace hx181_7 := up_ HB.out hx181_7
                       replace hx181_8 := up_ HB.out hx181_8
                       replace hx181_9 := up_ HB.out hx181_9
                       replace hx181_10 := up_ HB.out hx181_10
                       replace hx181_11 := up_ HB.out hx181_11
                       replace hx181_12 := up_ HB.out hx181_12
                       have HR181_11 := Aside0.mk hi181_11
                       have HC181_11 := Aside0.mk hl181_11
                       clear hi181_11 hl181_11
                       replace p181 := eq_true p181
                       replace q181 := eq_true q181
                       try go_wp2
                       go_roundg kj8
                       case measure => have := HK1.out; have := HJ8.out; omega
                       case rel => exact ⟨(t179), (wrap64 (x9_1 + 1)), (by first | rfl | (simp; done) | (simp [*]; done)), (by first | rfl | (simp; done) | (simp [*]; done)), H', ⟨by have := HK1.out; have := HJ8.out; omega⟩, ⟨by repeat (first | (with_reducible first | exact HB.out | apply below_alloc | apply pw_below_drewN | apply below_drew1) | exact HB.out)⟩⟩
                   · replace c25 := Bool.eq_false_iff.mpr c25
                     subst c25
                     have H1 : (some (x8_1, false)) = some (r1, r2) := by rw [if_neg (show ¬ (false = true) by decide)] at H; exact H
                     clear H
                     have H := H1
                     clear H1
                     simp only [Option.some.injEq, Prod.mk.injEq] at H
                     obtain ⟨rfl, rfl⟩ := H
                     try go_wp2
                     have n0_ := Aside0.mk (below_drew1 HB.out)
                     clear HB
                     have HB := n0_
                     clear n0_
                     have p177 : 0 ≤ (x9_1 : Int) := of_decide_eq_true (by first | (with_reducible assumption) | assumption)
                     have q177 : x9_1 < (l1.length : Int) := of_decide_eq_true (by first | (with_reducible assumption) | assumption)
                     obtain ⟨ad177, A177_11, c177_11, e177, hx177_0, hx177_1, hx177_2, hx177_3, hx177_4, hx177_5, hx177_6, hx177_7, hx177_8, hx177_9, hx177_10, hx177_11, hx177_12, hl177_11, hi177_11⟩ := at_T55 HR1.out x9_1 p177 q177
                     have hw177_12 := hx177_12
                     have hw177_11 := hx177_11
                     have hw177_10 := hx177_10
                     have hw177_9 := hx177_9
                     have hw177_8 := hx177_8
                     have hw177_7 := hx177_7
                     have hw177_6 := hx177_6
                     have hw177_5 := hx177_5
                     have hw177_4 := hx177_4
                     have hw177_3 := hx177_3
                     have hw177_2 := hx177_2
                     have hw177_1 := hx177_1
                     have hw177_0 := hx177_0
                     obtain rfl : ad171 = ad177 := (by injection e177)
                     replace hx177_0 := up_ HB.out hx177_0
                     replace hx177_1 := up_ HB.out hx177_1
                     replace hx177_2 := up_ HB.out hx177_2
                     replace hx177_3 := up_ HB.out hx177_3
                     replace hx177_4 := up_ HB.out hx177_4
                     replace hx177_5 := up_ HB.out hx177_5
                     replace hx177_6 := up_ HB.out hx177_6
                     replace hx177_7 := up_ HB.out hx177_7
                     replace hx177_8 := up_ HB.out hx177_8
                     replace hx177_9 := up_ HB.out hx177_9
                     replace hx177_10 := up_ HB.out hx177_10
                     replace hx177_11 := up_ HB.out hx177_11
                     replace hx177_12 := up_ HB.out hx177_12
                     have HR177_11 := Aside0.mk hi177_11
                     have HC177_11 := Aside0.mk hl177_11
                     clear hi177_11 hl177_11
                     replace p177 := eq_true p177
                     replace q177 := eq_true q177
                     have p178 : 0 ≤ (x9_1 : Int) := of_decide_eq_true (by first | (with_reducible assumption) | assumption)
                     have q178 : x9_1 < (l1.length : Int) := of_decide_eq_true (by first | (with_reducible assumption) | assumption)
                     obtain ⟨ad178, A178_11, c178_11, e178, hx178_0, hx178_1, hx178_2, hx178_3, hx178_4, hx178_5, hx178_6, hx178_7, hx178_8, hx178_9, hx178_10, hx178_11, hx178_12, hl178_11, hi178_11⟩ := at_T55 HR1.out x9_1 p178 q178
                     have hw178_12 := hx178_12
                     have hw178_11 := hx178_11
                     have hw178_10 := hx178_10
                     have hw178_9 := hx178_9
                     have hw178_8 := hx178_8
                     have hw178_7 := hx178_7
                     have hw178_6 := hx178_6
                     have hw178_5 := hx178_5
                     have hw178_4 := hx178_4
                     have hw178_3 := hx178_3
                     have hw178_2 := hx178_2
                     have hw178_1 := hx178_1
                     have hw178_0 := hx178_0
                     obtain rfl : ad171 = ad178 := (by injection e178)
                     replace hx178_0 := up_ HB.out hx178_0
                     replace hx178_1 := up_ HB.out hx178_1
                     replace hx178_2 := up_ HB.out hx178_2
                     replace hx178_3 := up_ HB.out hx178_3
                     replace hx178_4 := up_ HB.out hx178_4
                     replace hx178_5 := up_ HB.out hx178_5
                     replace hx178_6 := up_ HB.out hx178_6
                     replace hx178_7 := up_ HB.out hx178_7
                     replace hx178_8 := up_ HB.out hx178_8
                     replace hx178_9 := up_ HB.out hx178_9
                     replace hx178_10 := up_ HB.out hx178_10
                     replace hx178_11 := up_ HB.out hx178_11
                     replace hx178_12 := up_ HB.out hx178_12
                     have HR178_11 := Aside0.mk hi178_11
                     have HC178_11 := Aside0.mk hl178_11
                     clear hi178_11 hl178_11
                     replace p178 := eq_true p178
                     replace q178 := eq_true q178
                     have ea_ := Option.some.inj (hx177_11.symm.trans hx178_11)
                     injection ea_ with ea_ en_ ec_
                     subst ea_
                     subst ec_
                     clear en_
                     refine start_ (n := 18) (S := fun w' => w'.cell? (ad171.add ((x9_1).toNat * 13)) = some (.int .i64 ((rd_T55 l1 x9_1).f0)) ∧ w'.cell? ⟨(ad171.add ((x9_1).toNat * 13)).block, (ad171.add ((x9_1).toNat * 13)).off + 1, none⟩ = some (.int .i64 ((rd_T55 l1 x9_1).f1)) ∧ w'.cell? ⟨(ad171.add ((x9_1).toNat * 13)).block, (ad171.add ((x9_1).toNat * 13)).off + 2, none⟩ = some (.string ((rd_T55 l1 x9_1).f2)) ∧ w'.cell? ⟨(ad171.add ((x9_1).toNat * 13)).block, (ad171.add ((x9_1).toNat * 13)).off + 3, none⟩ = some (.string ((rd_T55 l1 x9_1).f3)) ∧ w'.cell? ⟨(ad171.add ((x9_1).toNat * 13)).block, (ad171.add ((x9_1).toNat * 13)).off + 4, none⟩ = some (.int .i64 ((rd_T55 l1 x9_1).f4)) ∧ w'.cell? ⟨(ad171.add ((x9_1).toNat * 13)).block, (ad171.add ((x9_1).toNat * 13)).off + 5, none⟩ = some (.int .i64 ((rd_T55 l1 x9_1).f5.f0.f0)) ∧ w'.cell? ⟨(ad171.add ((x9_1).toNat * 13)).block, (ad171.add ((x9_1).toNat * 13)).off + 6, none⟩ = some (.int .i64 ((rd_T55 l1 x9_1).f5.f0.f1)) ∧ w'.cell? ⟨(ad171.add ((x9_1).toNat * 13)).block, (ad171.add ((x9_1).toNat * 13)).off + 7, none⟩ = some (.int .i64 ((rd_T55 l1 x9_1).f5.f0.f2)) ∧ w'.cell? ⟨(ad171.add ((x9_1).toNat * 13)).block, (ad171.add ((x9_1).toNat * 13)).off + 8, none⟩ = some (.int .i64 ((rd_T55 l1 x9_1).f5.f1.f0)) ∧ w'.cell? ⟨(ad171.add ((x9_1).toNat * 13)).block, (ad171.add ((x9_1).toNat * 13)).off + 9, none⟩ = some (.int .i64 ((rd_T55 l1 x9_1).f5.f1.f1)) ∧ w'.cell? ⟨(ad171.add ((x9_1).toNat * 13)).block, (ad171.add ((x9_1).toNat * 13)).off + 10, none⟩ = some (.int .i64 ((rd_T55 l1 x9_1).f5.f1.f2)) ∧ w'.cell? ⟨(ad171.add ((x9_1).toNat * 13)).block, (ad171.add ((x9_1).toNat * 13)).off + 11, none⟩ = some (.slice A177_11 ((rd_T55 l1 x9_1).f6).length c177_11) ∧ w'.cell? ⟨(ad171.add ((x9_1).toNat * 13)).block, (ad171.add ((x9_1).toNat * 13)).off + 12, none⟩ = some (.int .i64 ((rd_T55 l1 x9_1).f7)) ∧ w'.cell? (ad171.add ((x9_1).toNat * 13)) = some (.int .i64 ((rd_T55 l1 x9_1).f0)) ∧ w'.cell? ⟨(ad171.add ((x9_1).toNat * 13)).block, (ad171.add ((x9_1).toNat * 13)).off + 1, none⟩ = some (.int .i64 ((rd_T55 l1 x9_1).f1)) ∧ w'.cell? ⟨(ad171.add ((x9_1).toNat * 13)).block, (ad171.add ((x9_1).toNat * 13)).off + 2, none⟩ = some (.string ((rd_T55 l1 x9_1).f2)) ∧ w'.cell? ⟨(ad171.add ((x9_1).toNat * 13)).block, (ad171.add ((x9_1).toNat * 13)).off + 3, none⟩ = some (.string ((rd_T55 l1 x9_1).f3)) ∧ w'.cell? ⟨(ad171.add ((x9_1).toNat * 13)).block, (ad171.add ((x9_1).toNat * 13)).off + 4, none⟩ = some (.int .i64 ((rd_T55 l1 x9_1).f4)) ∧ w'.cell? ⟨(ad171.add ((x9_1).toNat * 13)).block, (ad171.add ((x9_1).toNat * 13)).off + 5, none⟩ = some (.int .i64 ((rd_T55 l1 x9_1).f5.f0.f0)) ∧ w'.cell? ⟨(ad171.add ((x9_1).toNat * 13)).block, (ad171.add ((x9_1).toNat * 13)).off + 6, none⟩ = some (.int .i64 ((rd_T55 l1 x9_1).f5.f0.f1)) ∧ w'.cell? ⟨(ad171.add ((x9_1).toNat * 13)).block, (ad171.add ((x9_1).toNat * 13)).off + 7, none⟩ = some (.int .i64 ((rd_T55 l1 x9_1).f5.f0.f2)) ∧ w'.cell? ⟨(ad171.add ((x9_1).toNat * 13)).block, (ad171.add ((x9_1).toNat * 13)).off + 8, none⟩ = some (.int .i64 ((rd_T55 l1 x9_1).f5.f1.f0)) ∧ w'.cell? ⟨(ad171.add ((x9_1).toNat * 13)).block, (ad171.add ((x9_1).toNat * 13)).off + 9, none⟩ = some (.int .i64 ((rd_T55 l1 x9_1).f5.f1.f1)) ∧ w'.cell? ⟨(ad171.add ((x9_1).toNat * 13)).block, (ad171.add ((x9_1).toNat * 13)).off + 10, none⟩ = some (.int .i64 ((rd_T55 l1 x9_1).f5.f1.f2)) ∧ w'.cell? ⟨(ad171.add ((x9_1).toNat * 13)).block, (ad171.add ((x9_1).toNat * 13)).off + 11, none⟩ = some (.slice A177_11 ((rd_T55 l1 x9_1).f6).length c177_11) ∧ w'.cell? ⟨(ad171.add ((x9_1).toNat * 13)).block, (ad171.add ((x9_1).toNat * 13)).off + 12, none⟩ = some (.int .i64 ((rd_T55 l1 x9_1).f7))) (ds := []) #[false, false, false, false, false, false, false, false, false, false, false, false, false, false, false, false, false, false] (by kernel_rfl) rfl rfl ⟨(up_ HB.out hw177_0), (up_ HB.out hw177_1), (up_ HB.out hw177_2), (up_ HB.out hw177_3), (up_ HB.out hw177_4), (up_ HB.out hw177_5), (up_ HB.out hw177_6), (up_ HB.out hw177_7), (up_ HB.out hw177_8), (up_ HB.out hw177_9), (up_ HB.out hw177_10), (up_ HB.out hw177_11), (up_ HB.out hw177_12), (up_ HB.out hw178_0), (up_ HB.out hw178_1), (up_ HB.out hw178_2), (up_ HB.out hw178_3), (up_ HB.out hw178_4), (up_ HB.out hw178_5), (up_ HB.out hw178_6), (up_ HB.out hw178_7), (up_ HB.out hw178_8), (up_ HB.out hw178_9), (up_ HB.out hw178_10), (up_ HB.out hw178_11), (up_ HB.out hw178_12)⟩ (fun hHeld => ?_); refine with_tabW ambidexterlaw11_placed.tab8 ambidexterlaw11_placed.bits8 (fun HT_ HW_ => ?_)
                     generalize wc.drew = w31 at HB HR177_11 HR178_11 hx177_0 hx177_1 hx177_10 hx177_11 hx177_12 hx177_2 hx177_3 hx177_4 hx177_5 hx177_6 hx177_7 hx177_8 hx177_9 hx178_0 hx178_1 hx178_10 hx178_11 hx178_12 hx178_2 hx178_3 hx178_4 hx178_5 hx178_6 hx178_7 hx178_8 hx178_9 hHeld ⊢
                     refine pure_ (i := 0) (N := some 69) (v := ?_) (a' := ?_) (bl 18 1) rfl rfl (any_of HT_.out (by kernel_rfl)) (fun _ _ _ h => h) (Or.inl ⟨by rfl, ?_⟩) ?_ ?_
                     rotate_left
                     · intro w'
                       go_simp
                       with_reducible rfl
                     rotate_left
                     · simp only [Act.put, List.setIfInBounds_toArray, List.set_cons_zero, List.set_cons_succ, i64_w, i32_w]
                       rfl
                     refine pure_ (i := 1) (N := some 70) (v := ?_) (a' := ?_) (bl 18 3) rfl rfl (any_of HT_.out (by kernel_rfl)) (fun _ _ _ h => h) (Or.inl ⟨by rfl, ?_⟩) ?_ ?_
                     rotate_left
                     · intro w'
                       go_simp
                       with_reducible rfl
                     rotate_left
                     · simp only [Act.put, List.setIfInBounds_toArray, List.set_cons_zero, List.set_cons_succ, i64_w, i32_w]
                       rfl
                     refine pure_ (i := 2) (N := some 71) (v := ?_) (a' := ?_) (bl 18 7) rfl rfl (any_of HT_.out (by kernel_rfl)) (fun _ _ _ h => h) (Or.inl ⟨by rfl, ?_⟩) ?_ ?_
                     rotate_left
                     · intro w'
                       go_simp
                       with_reducible rfl
                     rotate_left
                     · simp only [Act.put, List.setIfInBounds_toArray, List.set_cons_zero, List.set_cons_succ, i64_w, i32_w]
                       rfl
                     refine pure_ (i := 3) (N := some 72) (v := ?_) (a' := ?_) (bl 18 15) rfl rfl (any_of HT_.out (by kernel_rfl)) (fun _ _ _ h => h) (Or.inl ⟨by rfl, ?_⟩) ?_ ?_
                     rotate_left
                     · intro w'
                       go_simp
                       with_reducible rfl
                     rotate_left
                     · simp only [Act.put, List.setIfInBounds_toArray, List.set_cons_zero, List.set_cons_succ, i64_w, i32_w]
                       rfl
                     refine pure_ (i := 4) (N := some 73) (v := ?_) (a' := ?_) (bl 18 31) rfl rfl (any_of HT_.out (by kernel_rfl)) (fun _ _ _ h => h) (Or.inl ⟨by rfl, ?_⟩) ?_ ?_
                     rotate_left
                     · intro w'
                       go_simp
                       with_reducible rfl
                     rotate_left
                     · simp only [Act.put, List.setIfInBounds_toArray, List.set_cons_zero, List.set_cons_succ, i64_w, i32_w]
                       rfl
                     refine pure_ (i := 6) (N := some 75) (v := ?_) (a' := ?_) (bl 18 95) rfl rfl (any_of HT_.out (by kernel_rfl)) (fun _ _ _ h => h) (Or.inl ⟨by rfl, ?_⟩) ?_ ?_
                     rotate_left
                     · intro w'
                       go_simp
                       with_reducible rfl
                     rotate_left
                     · simp only [Act.put, List.setIfInBounds_toArray, List.set_cons_zero, List.set_cons_succ, i64_w, i32_w]
                       rfl
                     refine pure_ (i := 7) (N := some 76) (v := ?_) (a' := ?_) (bl 18 223) rfl rfl (any_of HT_.out (by kernel_rfl)) (fun _ _ _ h => h) (Or.inl ⟨by rfl, ?_⟩) ?_ ?_
                     rotate_left
                     · intro w'
                       go_simp
                       with_reducible rfl
                     rotate_left
                     · simp only [Act.put, List.setIfInBounds_toArray, List.set_cons_zero, List.set_cons_succ, i64_w, i32_w]
                       rfl
                     refine pure_ (i := 8) (N := some 77) (v := ?_) (a' := ?_) (bl 18 479) rfl rfl (any_of HT_.out (by kernel_rfl)) (fun _ _ _ h => h) (Or.inl ⟨by rfl, ?_⟩) ?_ ?_
                     rotate_left
                     · intro w'
                       go_simp
                       with_reducible rfl
                     rotate_left
                     · simp only [Act.put, List.setIfInBounds_toArray, List.set_cons_zero, List.set_cons_succ, i64_w, i32_w]
                       rfl
                     refine pure_ (i := 9) (N := some 78) (v := ?_) (a' := ?_) (bl 18 991) rfl rfl (any_of HT_.out (by kernel_rfl)) (fun _ _ _ h => h) (Or.inl ⟨by rfl, ?_⟩) ?_ ?_
                     rotate_left
                     · intro w'
                       go_simp
                       with_reducible rfl
                     rotate_left
                     · simp only [Act.put, List.setIfInBounds_toArray, List.set_cons_zero, List.set_cons_succ, i64_w, i32_w]
                       rfl
                     refine take_ (i := 5) (N := some 74) (v := ?_) (a' := ?_) (bl 18 1023) rfl rfl (take_ofW HT_.out HW_.out (by kernel_rfl)) (fun _ _ _ h => h) (Or.inl ⟨by rfl, ?_⟩) hHeld ?_ ?_
                     rotate_left
                     · rintro w' ⟨s0, s1, s2, s3, s4, s5, s6, s7, s8, s9, s10, s11, s12, s13, s14, s15, s16, s17, s18, s19, s20, s21, s22, s23, s24, s25⟩
                       go_simp
                       with_reducible rfl
                     rotate_left
                     · simp only [Act.put, List.setIfInBounds_toArray, List.set_cons_zero, List.set_cons_succ, i64_w, i32_w]
                       rfl
                     refine take_ (i := 10) (N := some 79) (v := ?_) (a' := ?_) (bl 18 2047) rfl rfl (take_ofW HT_.out HW_.out (by kernel_rfl)) (fun _ _ _ h => h) (Or.inl ⟨by rfl, ?_⟩) hHeld ?_ ?_
                     rotate_left
                     · rintro w' ⟨s0, s1, s2, s3, s4, s5, s6, s7, s8, s9, s10, s11, s12, s13, s14, s15, s16, s17, s18, s19, s20, s21, s22, s23, s24, s25⟩
                       go_simp
                       with_reducible rfl
                     rotate_left
                     · simp only [Act.put, List.setIfInBounds_toArray, List.set_cons_zero, List.set_cons_succ, i64_w, i32_w]
                       rfl
                     refine pure_ (i := 11) (N := some 80) (v := ?_) (a' := ?_) (bl 18 4095) rfl rfl (any_of HT_.out (by kernel_rfl)) (fun _ _ _ h => h) (Or.inl ⟨by rfl, ?_⟩) ?_ ?_
                     rotate_left
                     · intro w'
                       go_simp
                       with_reducible rfl
                     rotate_left
                     · simp only [Act.put, List.setIfInBounds_toArray, List.set_cons_zero, List.set_cons_succ, i64_w, i32_w]
                       rfl
                     refine one_ (i := 12) (N := some 81) (bl 18 8191) rfl rfl (one_of HT_.out (by kernel_rfl)) (by decide) (fun K hK => ?_)
                     refine goes_ Tryd.func20 (by kernel_rfl) rfl #[.string a0, .slice A177_11 ((rd_T55 l1 x9_1).f6).length c177_11, .int .i64 (wrap64 (((rd_T55 l1 x9_1).f7) + 1))] (by rfl) rfl rfl (by (try simp only [List.map_toArray, List.map_cons, List.map_nil]); first | done | rfl | (simp only [List.length_drop, List.length_take]; rfl)) ?_
                     with_reducible refine (ih kj8 (by have := HK1.out; have := HJ8.out; omega) a0 _ _ ((rd_T55 l1 x9_1).f6) (wrap64 (((rd_T55 l1 x9_1).f7) + 1)) t179 false _ ?side1 ?side2 A24.out).mono ?_
                     (case side1 => repeat (first | exact (Kd.C_below HR177_11.out HB.out) | (with_reducible refine Kd.C_alloc ?_ _) | (with_reducible refine Kd.C_drewN ?_ _) | (with_reducible refine Kd.C_drew ?_)))
                     (case side2 => exact HC177_11.out)
                     rintro e w32 ⟨rfl, hb⟩
                     refine ⟨_, rfl, ?_⟩
                     have n0_ := Aside0.mk (below_step (by repeat (first | (with_reducible first | exact HB.out | apply below_alloc | apply pw_below_drewN | apply below_drew1) | exact HB.out)) hb)
                     clear HB
                     have HB := n0_
                     clear n0_
                     (try clear hb)
                     (try clear hb2)
                     (try clear hk)
                     (try clear hi)
                     refine hK.out _ _ ⟨(up_ HB.out hw177_0), (up_ HB.out hw177_1), (up_ HB.out hw177_2), (up_ HB.out hw177_3), (up_ HB.out hw177_4), (up_ HB.out hw177_5), (up_ HB.out hw177_6), (up_ HB.out hw177_7), (up_ HB.out hw177_8), (up_ HB.out hw177_9), (up_ HB.out hw177_10), (up_ HB.out hw177_11), (up_ HB.out hw177_12), (up_ HB.out hw178_0), (up_ HB.out hw178_1), (up_ HB.out hw178_2), (up_ HB.out hw178_3), (up_ HB.out hw178_4), (up_ HB.out hw178_5), (up_ HB.out hw178_6), (up_ HB.out hw178_7), (up_ HB.out hw178_8), (up_ HB.out hw178_9), (up_ HB.out hw178_10), (up_ HB.out hw178_11), (up_ HB.out hw178_12)⟩ (fun hHeld => ?_)
                     clear hK K
                     refine norm_ (a' := ?_) ?_ ?_
                     rotate_left
                     · show Act.put _ (some 81) _ = _
                       simp only [Act.put, List.setIfInBounds_toArray, List.set_cons_zero, List.set_cons_succ, i64_w, i32_w]
                       rfl
                     refine pure_ (i := 13) (N := some 68) (v := ?_) (a' := ?_) (bl 18 16383) rfl rfl (any_of HT_.out (by kernel_rfl)) (fun _ _ _ h => h) (Or.inl ⟨by rfl, ?_⟩) ?_ ?_
                     rotate_left
                     · intro w'
                       go_simp
                       with_reducible rfl
                     rotate_left
                     · simp only [Act.put, List.setIfInBounds_toArray, List.set_cons_zero, List.set_cons_succ, i64_w, i32_w]
                       rfl
                     refine pure_ (i := 14) (N := some 82) (v := ?_) (a' := ?_) (bl 18 32767) rfl rfl (any_of HT_.out (by kernel_rfl)) (fun _ _ _ h => h) (Or.inl ⟨by rfl, ?_⟩) ?_ ?_
                     rotate_left
                     · intro w'
                       go_simp
                       with_reducible rfl
                     rotate_left
                     · simp only [Act.put, List.setIfInBounds_toArray, List.set_cons_zero, List.set_cons_succ, i64_w, i32_w]
                       rfl
                     refine pure_ (i := 15) (N := some 83) (v := ?_) (a' := ?_) (bl 18 65535) rfl rfl (any_of HT_.out (by kernel_rfl)) (fun _ _ _ h => h) (Or.inl ⟨by rfl, ?_⟩) ?_ ?_
                     rotate_left
                     · intro w'
                       go_simp
                       with_reducible rfl
                     rotate_left
                     · simp only [Act.put, List.setIfInBounds_toArray, List.set_cons_zero, List.set_cons_succ, i64_w, i32_w]
                       rfl
                     refine pure_ (i := 16) (N := some 11) (v := ?_) (a' := ?_) (bl 18 131071) rfl rfl (any_of HT_.out (by kernel_rfl)) (fun _ _ _ h => h) (Or.inl ⟨by rfl, ?_⟩) ?_ ?_
                     rotate_left
                     · intro w'
                       go_simp
                       with_reducible rfl
                     rotate_left
                     · simp only [Act.put, List.setIfInBounds_toArray, List.set_cons_zero, List.set_cons_succ, i64_w, i32_w]
                       rfl
                     refine pure_ (i := 17) (N := some 12) (v := ?_) (a' := ?_) (bl 18 262143) rfl rfl (any_of HT_.out (by kernel_rfl)) (fun _ _ _ h => h) (Or.inl ⟨by rfl, ?_⟩) ?_ ?_
                     rotate_left
                     · intro w'
                       go_simp
                       with_reducible rfl
                     rotate_left
                     · simp only [Act.put, List.setIfInBounds_toArray, List.set_cons_zero, List.set_cons_succ, i64_w, i32_w]
                       rfl
                     refine done_ (done_of HT_.out (by kernel_rfl)) ?_
                     try go_wp2
                     go_ret2
                     exact ⟨by first | rfl | (simp [errW_none, errW_some] <;> rfl) | (simp [*, errW_none, errW_some] <;> rfl), by repeat (first | (with_reducible first | exact HB.out | apply below_alloc | apply pw_below_drewN | apply below_drew1) | exact HB.out)⟩
                 · rw [if_neg c23] at H
                   exact absurd H (by simp)
               · rw [if_neg c22] at H
                 exact absurd H (by simp)
         · rw [if_neg c8] at H
           exact absurd H (by simp)
       · rw [if_neg c7] at H
         exact absurd H (by simp)
     · rw [if_neg c6] at H
       exact absurd H (by simp)
   · rw [if_neg c4] at H
     have c4b0 : decide (x9_1 < (l1.length : Int)) = false := decide_eq_false c4
     clear c4
     simp only [Option.some.injEq, Prod.mk.injEq] at H
     obtain ⟨rfl, rfl⟩ := H
     go_wp2
     go_ret2
     exact ⟨by first | rfl | (simp [errW_none, errW_some] <;> rfl) | (simp [*, errW_none, errW_some] <;> rfl), by repeat (first | (with_reducible first | exact HB.out | apply below_alloc | apply pw_below_drewN | apply below_drew1) | exact HB.out)⟩
end Go.Proofs.YtonhcfecfifghaaDoor.PPx
