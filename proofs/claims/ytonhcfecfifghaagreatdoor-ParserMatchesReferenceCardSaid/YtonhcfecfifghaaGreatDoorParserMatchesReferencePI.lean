/- Part I of the proof of ParserMatchesReference: the contracts of the functions that the law reaches, and what their plain functions compute. No condition. -/
import Derived.Test.YtonhcfecfifghaaGreatDoorParserMatchesReferencePA
import Derived.Test.YtonhcfecfifghaaGreatDoorParserMatchesReferencePH
import Derived.Deep.DeepCutAuto
set_option maxHeartbeats 40000000
set_option maxRecDepth 100000
namespace Go.Proofs.YtonhcfecfifghaaGreatDoor.PPx
open Go.RowKit Go.Proofs.YtonhcfecfifghaaGreatDoorW.PrintWords Go.Proofs.YtonhcfecfifghaaGreatDoorW.PrintLast Go.Proofs.YtonhcfecfifghaaGreatDoorW.PrintMore
set_option linter.unusedVariables false
set_option linter.unusedSimpArgs false
theorem rstmt_flat (rec : Int → Rs → Option (List S37 × Rs)) (A : Option Addr) (c : Nat) (ts : List S67) (S : Nat → Prop) (w : World) (i : Nat) (fin n deep : Int) (B : Option Addr) (fc : Nat) (fl : List S40) (o : Bool) (r : Option S37 × Rs) (hI : Inp A c ts S w i B fc fl) (hlt : i < ts.length) (hr : rstmtK rec fin deep (keyS (rd_T67 ts (i : Int))) (rd_T67 ts (i : Int)).f2 ⟨ts.drop i, n, fl, o⟩ ⟨ts.drop (i + 1), n, fl, o⟩ = some r) (h1 : (rd_T67 ts (i : Int)).f0 = 1) (hk : kindS (rd_T67 ts (i : Int)).f1 ≠ 0) (hk7 : kindS (rd_T67 ts (i : Int)).f1 ≠ 7) :
 Calls Tryz.prog 35 #[.agg (stV A ts.length c i fin n B fl.length fc o), .int .i64 deep] w (RStmO A c ts fin S w r) := by
 have hu := Tryz.underlying50
 have hux := Tryz.underlying37
 have hn6 := hI.n
 have HI := Aside0.mk hI
 obtain ⟨ad, rfl, x0, x1, x2⟩ := at_T67 hI.C (i : Int) (by omega) (by omega)
 simp only [Int.toNat_natCast] at x0 x1 x2
 have hal := cell_lt x0
 have hi0 : ((0 : Int) ≤ (i : Int)) = True := eq_true (by omega)
 have hi1 : ((i : Int) < (ts.length : Int)) = True := eq_true (by omega)
 generalize rd_T67 ts (i : Int) = t at *
 have HR2 := Aside0.mk hr
 clear hr hI
 have HB3 := below_alloc (below_alloc (below_alloc (Below.refl w.heap.size w) (.cells (stV (some ad) ts.length c i fin n B fl.length fc o) 50)) (.cells zSt 50)) (.cells zStm 37)
 have y0 := (HB3.cell hal).trans x0
 have y1 := (HB3.cell (p := ⟨(ad.add (i * 3)).block, (ad.add (i * 3)).off + 1, none⟩) hal).trans x1
 have y2 := (HB3.cell (p := ⟨(ad.add (i * 3)).block, (ad.add (i * 3)).off + 2, none⟩) hal).trans x2
 have HB5 := Aside0.mk (below_alloc (below_alloc HB3 (.cells #[.int .i64 t.f0, .string t.f1, .int .i64 t.f2] 67)) (.cells (stmC (xOf 0 t.f2) (.slice none 0 0)) 37))
 have b1 : (t.f0 == 1) = true := beq_iff_eq.2 h1
 go_enter Tryz.func35, Tryz.ntmps35
 go_wp2_with fail
 refine (ambidexterref11_kind.calls 12 t.f1 (kindS t.f1) _ (kindR_f _ _ (by decide))).mono ?_
 rintro e w1 ⟨rfl, hb⟩
 have F1 : Fm w w1 (stV (some ad) ts.length c i fin n B fl.length fc o) t (xOf 0 t.f2) (.slice none 0 0) := Fm.below ⟨blk_alloc (blk_alloc (blk_alloc (blk_alloc (alloc_at rfl) _) _) _) _, blk_alloc (blk_alloc (blk_alloc (alloc_at (by simp)) _) _) _, blk_alloc (blk_alloc (alloc_at (by simp)) _) _, by rw [h1]; exact blk_alloc (alloc_at (by simp)) _, alloc_at (by simp), by have := HB5.out; rw [h1] at this; exact this⟩ hb
 have hk1 : keyS t = kindS t.f1 := by unfold keyS; rw [if_pos h1]
 have HR2 := Aside0.mk (show rstmtK rec fin deep (kindS t.f1) t.f2 ⟨ts.drop i, n, fl, o⟩ ⟨ts.drop (i + 1), n, fl, o⟩ = some r from hk1 ▸ HR2.out)
 clear hb HB5 HB3 y0 y1 y2 x0 x1 x2 hk1
 have hk9 := (kind_range t.f1).2
 have hk0 := (kind_range t.f1).1
 generalize kindS t.f1 = k at *
 have bk0 : (k == 0) = false := beq_eq_false_iff_ne.2 hk
 have bk7 : (k == 7) = false := beq_eq_false_iff_ne.2 hk7
 have F2 := Aside0.mk (F1.kind (k' := k)).next
 have hz := row13 F1.b4
 have hz0 := row6 F1.b0
 have hs0 := F1.sz
 clear F1
 go_split_ands
 go_upto_region 10 with fail
 generalize (w1.setCell ⟨w.heap.size + 1 + 1 + 1 + 1, 0, none⟩ (.int .i64 k)).setCell ⟨w.heap.size, 1, none⟩ (.int .i64 ((i : Int) + 1)) = W at *
 have hjl : i + 1 ≤ ts.length := hlt
 generalize hj : i + 1 = j at *
 clear hj
 obtain ⟨⟨s1, l, okb⟩, hH⟩ : ∃ h, headS fin (formS k) (formS k).size 0 ⟨ts.drop j, n, fl, o⟩ [] = h := ⟨_, rfl⟩
 have HR3 := Aside0.mk (show rstmtH rec fin deep k t.f2 (s1, l, okb) = some r from by have := HR2.out; rw [rstmtK, if_neg hk, if_neg (fun h => hk7 h.1), hH] at this; exact this)
 have HH := Aside0.mk hH
 obtain ⟨fb, hfb, hfs⟩ := form_f (k := k) (by omega) hk9
 have HFb := Aside0.mk hfb
 have HFs := Aside0.mk hfs
 clear HR2 hH hfb hfs
 go_upto_region 10 with fail
 go_cut [9, 10, 11] (fun s9 s10 s11 wx => ∃ (b5 i1 : Nat) (B1 : Option Addr) (fc1 N : Nat) (A1 : Option Addr) (c1 : Nat), s9 = .pointer (some ⟨b5, 0, none⟩) ∧ s10 = .slice A1 l.length c1 ∧ s11 = .bool okb ∧ Aside0 (CutP (some ad) c ts fin S w wx (stV (some ad) ts.length c j fin n B fl.length fc o) t (xOf k t.f2) (.slice none 0 0) s1 l b5 i1 B1 fc1 N A1 c1))
 case first =>
  have hz := row13 F2.out.b4
  simp only [xOf] at hz
  have hz3 := tok3 F2.out.b3
  have hz0 := row6 F2.out.b0
  have hs0 := F2.out.sz
  have hl0 := blk_lt F2.out.b0
  have hl4 := blk_lt F2.out.b4
  go_split_ands
  go_region_held3 (fun W' => W'.cell? ⟨w.heap.size, 0, none⟩ = some (.slice (some ad) ts.length c) ∧ W'.cell? ⟨w.heap.size, 1, none⟩ = some (.int .i64 (j : Int)) ∧ W'.cell? ⟨w.heap.size, 2, none⟩ = some (.int .i64 fin) ∧ W'.cell? ⟨w.heap.size, 3, none⟩ = some (.int .i64 n) ∧ W'.cell? ⟨w.heap.size, 4, none⟩ = some (.slice B fl.length fc) ∧ W'.cell? ⟨w.heap.size, 5, none⟩ = some (.bool o) ∧ W'.cell? ⟨w.heap.size + 1 + 1 + 1 + 1, 0, none⟩ = some (.int .i64 k)) (first | (with_reducible first | exact Fm.s7 F5.out | exact Fm.s7 F4.out | exact Fm.s7 F3.out | exact Fm.s7 F2.out | exact Fm.s7 (Fm.ext F2.out _) | exact Fm.s7 (Fm.ext F3.out _) | exact Fm.s7 (Fm.ext F4.out _) | exact Fm.s7 (Fm.ext F5.out _) | exact Fm.s7 (Fm.drew F2.out) | exact Fm.s7 (Fm.drewN F2.out _) | exact Fm.s7 (Fm.drew F3.out) | exact Fm.s7 (Fm.drew F4.out) | exact Fm.s7 (Fm.drew F5.out)) | (with_reducible refine Fm.s7 (Fm.six F5.out ?_); first | (have := F2.out.sz; omega) | (have := F3.out.sz; omega) | (have := F4.out.sz; omega)) | (go_keep)) (first | (go_at_call 59; (with_reducible refine (ambidexterref11_Form.calls k fb _ HFb.out).mono ?_); rintro e w2 ⟨rfl, hb⟩; have F3 := Aside0.mk (Fm.below (by first | exact F2.out | exact F2.out.drew | exact (F2.out.drewN _) | exact (F2.out.ext _) | exact (F2.out.ext _).drew | exact ((F2.out.ext _).drewN _) | exact (F2.out.drew.ext _) | exact ((F2.out.drewN _).ext _)) hb); have hz13 := row6 F3.out.b0; have hz14 := row13 F3.out.b4; simp only [xOf] at hz14; have hl10 := blk_lt F3.out.b0; have hl14 := blk_lt F3.out.b4; (first | (have HX := Aside0.mk (blk_below (by first | exact HX.out | exact blk_drew HX.out | exact blk_drewN HX.out _) hb); have hzx := row6 HX.out; have hxl := blk_lt HX.out) | (have HX := Aside0.mk (blk_below (heap_alloc_new _ (.cells zSt 50)) hb); have hzx := row6 HX.out; have hxl := blk_lt HX.out) | (have HX := Aside0.mk (blk_below (blk_drew (heap_alloc_new _ (.cells zSt 50))) hb); have hzx := row6 HX.out; have hxl := blk_lt HX.out) | (have HX := Aside0.mk (blk_below (blk_drewN (heap_alloc_new _ (.cells zSt 50)) _) hb); have hzx := row6 HX.out; have hxl := blk_lt HX.out) | skip); clear hb; go_split_ands) | (go_at_call 58; (with_reducible refine (ambidexterref11_spelled.calls 20 fb (formS k) _ HFs.out).mono ?_); rintro e w3 ⟨rfl, hd⟩; have hb := of_drawn hd; have F4 := Aside0.mk (Fm.below (by first | exact F3.out | exact F3.out.drew | exact (F3.out.drewN _) | exact (F3.out.ext _) | exact (F3.out.ext _).drew | exact ((F3.out.ext _).drewN _) | exact (F3.out.drew.ext _) | exact ((F3.out.drewN _).ext _)) hb); have hz23 := row6 F4.out.b0; have hz24 := row13 F4.out.b4; simp only [xOf] at hz24; have hl20 := blk_lt F4.out.b0; have hl24 := blk_lt F4.out.b4; (first | (have HX := Aside0.mk (blk_below (by first | exact HX.out | exact blk_drew HX.out | exact blk_drewN HX.out _) hb); have hzx := row6 HX.out; have hxl := blk_lt HX.out) | (have HX := Aside0.mk (blk_below (heap_alloc_new _ (.cells zSt 50)) hb); have hzx := row6 HX.out; have hxl := blk_lt HX.out) | (have HX := Aside0.mk (blk_below (blk_drew (heap_alloc_new _ (.cells zSt 50))) hb); have hzx := row6 HX.out; have hxl := blk_lt HX.out) | (have HX := Aside0.mk (blk_below (blk_drewN (heap_alloc_new _ (.cells zSt 50)) _) hb); have hzx := row6 HX.out; have hxl := blk_lt HX.out) | skip); clear hb hd; go_split_ands) | (go_at_call 57; (with_reducible refine (head_calls (some ad) c ts j fin n B fc fl o (formS k) _ (Kd.C_below HI.out.C (by first | exact F4.out.B | exact F4.out.drew.B | exact (F4.out.drewN _).B | exact (F4.out.ext _).B | exact (F4.out.ext _).drew.B | exact ((F4.out.ext _).drewN _).B | exact (F4.out.drew.ext _).B | exact ((F4.out.drewN _).ext _).B)) HI.out.c hjl _ (HI.out.F.frame (by first | exact F4.out.B | exact F4.out.drew.B | exact (F4.out.drewN _).B | exact (F4.out.ext _).B | exact (F4.out.ext _).drew.B | exact ((F4.out.ext _).drewN _).B | exact (F4.out.drew.ext _).B | exact ((F4.out.drewN _).ext _).B)) (fun k hk => hk.elim (fun e => Nat.lt_of_lt_of_le (HI.out.S k e) (by first | exact F4.out.B.size | exact F4.out.drew.B.size | exact (F4.out.drewN _).B.size | exact (F4.out.ext _).B.size | exact (F4.out.ext _).drew.B.size | exact ((F4.out.ext _).drewN _).B.size | exact (F4.out.drew.ext _).B.size | exact ((F4.out.drewN _).ext _).B.size)) (fun e => e.2)) HI.out.f HI.out.l HI.out.n (form_size k) HI.out.t).mono ?_); rintro e w4 ho; rw [HH.out] at ho; obtain ⟨v, A1, c1, rfl, ⟨i1, B1, fc1, rfl, hi1, hs1, hf1, hF1⟩, hL, hb⟩ := ho; have F5 := Aside0.mk (Fm.below (by first | exact F4.out | exact F4.out.drew | exact (F4.out.drewN _) | exact (F4.out.ext _) | exact (F4.out.ext _).drew | exact ((F4.out.ext _).drewN _) | exact (F4.out.drew.ext _) | exact ((F4.out.drewN _).ext _)) hb); have HF1 := Aside0.mk hF1; have HS1 := Aside0.mk hs1; have HL := Aside0.mk hL; have HBW := Aside0.mk hb.size; have HWC := Aside0.mk (by first | exact F4.out.sz | exact F4.out.drew.sz | exact (F4.out.drewN _).sz | exact (F4.out.ext _).sz | exact (F4.out.ext _).drew.sz | exact ((F4.out.ext _).drewN _).sz | exact (F4.out.drew.ext _).sz | exact ((F4.out.drewN _).ext _).sz); have hz33 := row6 F5.out.b0; have hz34 := row13 F5.out.b4; simp only [xOf] at hz34; have hsz5 := F5.out.sz; (first | (have HX := Aside0.mk (blk_below (by first | exact HX.out | exact blk_drew HX.out | exact blk_drewN HX.out _) hb); have hzx := row6 HX.out; have hxl := blk_lt HX.out) | (have HX := Aside0.mk (blk_below (heap_alloc_new _ (.cells zSt 50)) hb); have hzx := row6 HX.out; have hxl := blk_lt HX.out) | (have HX := Aside0.mk (blk_below (blk_drew (heap_alloc_new _ (.cells zSt 50))) hb); have hzx := row6 HX.out; have hxl := blk_lt HX.out) | (have HX := Aside0.mk (blk_below (blk_drewN (heap_alloc_new _ (.cells zSt 50)) _) hb); have hzx := row6 HX.out; have hxl := blk_lt HX.out) | skip); clear hb hF1 hs1 hL; go_split_ands))
  all_goals (go_wp2_with fail; go_meet)
  · exact ⟨_, i1, B1, fc1, _, A1, c1, rfl, rfl, rfl, ⟨CutP.after F5.out (by have := HWC.out; omega) HBW.out hi1 HS1.out hf1 HF1.out HL.out⟩⟩
  · exact ⟨_, i1, B1, fc1, _, A1, c1, rfl, rfl, rfl, ⟨CutP.before F5.out (by first | (have := F4.out.sz; omega) | (have := F3.out.sz; omega) | (have := F2.out.sz; omega)) (by first | omega | simp) HX.out hi1 HS1.out hf1 HF1.out HL.out rfl⟩⟩
  · exact ⟨_, i1, B1, fc1, _, A1, c1, rfl, rfl, rfl, ⟨CutP.before F5.out (by first | (have := F4.out.sz; omega) | (have := F3.out.sz; omega) | (have := F2.out.sz; omega)) (by first | omega | simp) HX.out hi1 HS1.out hf1 HF1.out HL.out rfl⟩⟩
  · exact ⟨_, i1, B1, fc1, _, A1, c1, rfl, rfl, rfl, ⟨CutP.before F5.out (by first | (have := F4.out.sz; omega) | (have := F3.out.sz; omega) | (have := F2.out.sz; omega)) (by first | omega | simp) HX.out hi1 HS1.out hf1 HF1.out HL.out rfl⟩⟩
 case rest =>
  obtain ⟨b5, i1, B1, fc1, N, A1, c1, rfl, rfl, rfl, HP⟩ := hcut
  clear F2 HH HFb HFs
  have hn5 := HP.out.h5
  have hN5 := HP.out.hn
  obtain ⟨S2, hS2⟩ : ∃ S2 : Nat → Prop, S2 = fun k => SF S w k ∨ k = b5 := ⟨_, rfl⟩
  have hk0' : KeepC S2 wc B1 s1.fl := by subst hS2; exact HP.out.hk.less (fun k hk => hk.elim (fun e => .inl (e.elim .inl (fun e => .inr ⟨e.1, by omega⟩))) .inr)
  have HK := Aside0.mk hk0'
  have HSS := Aside0.mk (show ∀ k, S k → S2 k from by subst hS2; exact fun k hk => .inl (.inl hk))
  have HSA := Aside0.mk (show S2 (w.heap.size + 1) from by subst hS2; exact .inl (.inr ⟨by omega, by omega⟩))
  have HSB := Aside0.mk (show S2 (w.heap.size + 1 + 1) from by subst hS2; exact .inl (.inr ⟨by omega, by omega⟩))
  have HSC := Aside0.mk (show S2 (w.heap.size + 1 + 1 + 1 + 1) from by subst hS2; exact .inl (.inr ⟨by omega, by omega⟩))
  have HSD := Aside0.mk (show S2 b5 from by subst hS2; exact .inr rfl)
  have HSL := Aside0.mk (show ∀ k, S2 k → k < wc.heap.size from by subst hS2; exact fun k hk => hk.elim (HP.out.hf.lt HI.out.S k) (fun e => by have := blk_lt HP.out.hrow; omega))
  clear hk0' hS2
  have hz4 := row13 HP.out.hf.b4
  simp only [xOf] at hz4
  have hz5 := row6 HP.out.hrow
  have hz1 := row6 HP.out.hf.b1
  have hz2 := row13 HP.out.hf.b2
  have hl4 := blk_lt HP.out.hf.b4
  have hl5 := blk_lt HP.out.hrow
  go_split_ands
  cases okb with
  | false =>
   have HR4 : r = (none, s1) := by have := HR3.out; rw [rstmtH, if_pos rfl] at this; exact (Option.some.inj this).symm
   subst HR4
   clear HR3
   go_upto_region 12 with fail
   go_region
   all_goals
    go_wp2_with fail
    refine bodyPost_ret (results_cct rfl _ _ (w.heap.size + 1) (w.heap.size + 1 + 1) 50 37 (stV (some ad) ts.length c i1 fin s1.n B1 s1.fl.length fc1 s1.over) (stmC (xOf k t.f2) (.slice none 0 0)) (0, 0) (0, 0) _ _ rfl (blk_drew (end_rows HP.out.hf.b1 HP.out.hf.b2).1) hu rfl sizeSt rfl (blk_drew (end_rows HP.out.hf.b1 HP.out.hf.b2).2) hux rfl sizeStm) rfl ?_
    refine RStmO.drew ?_
    exact stm_end (S2 := S2) (ok := fun _ => False) (base := w.heap.size) HP.out.hf.B HP.out.hi HP.out.ht HP.out.hcc HK.out HSS.out HSA.out HSB.out (fun y hy => by cases hy) (fun _ h => h.elim) (fun _ h => h.elim) (Nat.le_refl _) rfl _ _ _ _ _ _ _ _ _ _ _ _ _ _ _ _ _ _ _ rfl
  | true =>
   have hFO : FillOK k l := by
    have := HR3.out
    rw [rstmtH, if_neg (by simp)] at this
    by_cases hf : FillOK k l
    · exact hf
    · rw [if_pos hf] at this; cases this
   obtain ⟨x, hx⟩ : ∃ x, x = filledS k t.f2 l := ⟨_, rfl⟩
   obtain ⟨hx0, hx6⟩ := filled_f0 (k := k) (by omega) hk9 t.f2 l
   rw [← hx] at hx0 hx6
   have hLs := Kd.R_reads' HP.out.hs
   have HCs := Aside0.mk hLs.2.2
   have hls := hLs.2.1
   clear hLs
   have HFO := Aside0.mk hFO
   have HX0 := Aside0.mk hx0
   have HX6 := Aside0.mk hx6
   have HXE := Aside0.mk hx
   have HR4 : r = (some x, s1) := by
    have := HR3.out
    rw [rstmtH, if_neg (by simp), if_neg (fun h => h hFO), if_pos hk7, ← hx] at this
    exact (Option.some.inj this).symm
   subst HR4
   have bx7 : (x.f0 != 7) = true := by rw [hx0]; simp [hk7]
   clear HR3
   clear hFO hx0 hx6 hx
   go_wp2_with fail
   refine (filled_calls k t.f2 A1 c1 l _ (by omega) hk9 HCs.out hls HFO.out).mono ?_
   rintro e w2 ⟨rfl, hb⟩
   rw [← HXE.out]
   have F6 := Aside0.mk (Fm.below HP.out.hf hb)
   have R6 := Aside0.mk (blk_below HP.out.hrow hb)
   have K6 := Aside0.mk (HK.out.below hb)
   have HSZ0 := Aside0.mk (show wc.heap.size ≤ w2.heap.size from hb.size)
   have hz64 := row13 F6.out.b4
   clear hb
   go_split_ands
   have F7 := Aside0.mk (Fm.put (y := x) (kw := .slice none 0 0) (z0 := .int .i64 x.f0) (z1 := .int .i64 x.f1) (z2 := .string x.f2) (z3 := .string x.f3) (z4 := .int .i64 x.f4) (z5 := .int .i64 x.f5.f0.f0) (z6 := .int .i64 x.f5.f0.f1) (z7 := .int .i64 x.f5.f0.f2) (z8 := .int .i64 x.f5.f1.f0) (z9 := .int .i64 x.f5.f1.f1) (z10 := .int .i64 x.f5.f1.f2) (z11 := .slice none 0 0) (z12 := .int .i64 x.f7) F6.out rfl)
   have R7 := Aside0.mk ((blk_far (blk_far (blk_far (blk_far (blk_far (blk_far (blk_far (blk_far (blk_far (blk_far (blk_far (blk_far (blk_far R6.out (p := ⟨w.heap.size + 1 + 1 + 1 + 1, 0, none⟩) (by simp <;> omega) (.int .i64 x.f0)) (p := ⟨w.heap.size + 1 + 1 + 1 + 1, 1, none⟩) (by simp <;> omega) (.int .i64 x.f1)) (p := ⟨w.heap.size + 1 + 1 + 1 + 1, 2, none⟩) (by simp <;> omega) (.string x.f2)) (p := ⟨w.heap.size + 1 + 1 + 1 + 1, 3, none⟩) (by simp <;> omega) (.string x.f3)) (p := ⟨w.heap.size + 1 + 1 + 1 + 1, 4, none⟩) (by simp <;> omega) (.int .i64 x.f4)) (p := ⟨w.heap.size + 1 + 1 + 1 + 1, 5, none⟩) (by simp <;> omega) (.int .i64 x.f5.f0.f0)) (p := ⟨w.heap.size + 1 + 1 + 1 + 1, 6, none⟩) (by simp <;> omega) (.int .i64 x.f5.f0.f1)) (p := ⟨w.heap.size + 1 + 1 + 1 + 1, 7, none⟩) (by simp <;> omega) (.int .i64 x.f5.f0.f2)) (p := ⟨w.heap.size + 1 + 1 + 1 + 1, 8, none⟩) (by simp <;> omega) (.int .i64 x.f5.f1.f0)) (p := ⟨w.heap.size + 1 + 1 + 1 + 1, 9, none⟩) (by simp <;> omega) (.int .i64 x.f5.f1.f1)) (p := ⟨w.heap.size + 1 + 1 + 1 + 1, 10, none⟩) (by simp <;> omega) (.int .i64 x.f5.f1.f2)) (p := ⟨w.heap.size + 1 + 1 + 1 + 1, 11, none⟩) (by simp <;> omega) (.slice none 0 0)) (p := ⟨w.heap.size + 1 + 1 + 1 + 1, 12, none⟩) (by simp <;> omega) (.int .i64 x.f7)))
   have K7 := Aside0.mk (keep13 (z0 := .int .i64 x.f0) (z1 := .int .i64 x.f1) (z2 := .string x.f2) (z3 := .string x.f3) (z4 := .int .i64 x.f4) (z5 := .int .i64 x.f5.f0.f0) (z6 := .int .i64 x.f5.f0.f1) (z7 := .int .i64 x.f5.f0.f2) (z8 := .int .i64 x.f5.f1.f0) (z9 := .int .i64 x.f5.f1.f1) (z10 := .int .i64 x.f5.f1.f2) (z11 := .slice none 0 0) (z12 := .int .i64 x.f7) K6.out HSC.out)
   have HSZ := Aside0.mk (show wc.heap.size ≤ (((((((((((((w2.setCell ⟨w.heap.size + 1 + 1 + 1 + 1, 0, none⟩ (.int .i64 x.f0)).setCell ⟨w.heap.size + 1 + 1 + 1 + 1, 1, none⟩ (.int .i64 x.f1)).setCell ⟨w.heap.size + 1 + 1 + 1 + 1, 2, none⟩ (.string x.f2)).setCell ⟨w.heap.size + 1 + 1 + 1 + 1, 3, none⟩ (.string x.f3)).setCell ⟨w.heap.size + 1 + 1 + 1 + 1, 4, none⟩ (.int .i64 x.f4)).setCell ⟨w.heap.size + 1 + 1 + 1 + 1, 5, none⟩ (.int .i64 x.f5.f0.f0)).setCell ⟨w.heap.size + 1 + 1 + 1 + 1, 6, none⟩ (.int .i64 x.f5.f0.f1)).setCell ⟨w.heap.size + 1 + 1 + 1 + 1, 7, none⟩ (.int .i64 x.f5.f0.f2)).setCell ⟨w.heap.size + 1 + 1 + 1 + 1, 8, none⟩ (.int .i64 x.f5.f1.f0)).setCell ⟨w.heap.size + 1 + 1 + 1 + 1, 9, none⟩ (.int .i64 x.f5.f1.f1)).setCell ⟨w.heap.size + 1 + 1 + 1 + 1, 10, none⟩ (.int .i64 x.f5.f1.f2)).setCell ⟨w.heap.size + 1 + 1 + 1 + 1, 11, none⟩ (.slice none 0 0)).setCell ⟨w.heap.size + 1 + 1 + 1 + 1, 12, none⟩ (.int .i64 x.f7)).heap.size from by simpa using HSZ0.out)
   go_upto_region 14 with fail
   generalize ((((((((((((w2.setCell ⟨w.heap.size + 1 + 1 + 1 + 1, 0, none⟩ (.int .i64 x.f0)).setCell ⟨w.heap.size + 1 + 1 + 1 + 1, 1, none⟩ (.int .i64 x.f1)).setCell ⟨w.heap.size + 1 + 1 + 1 + 1, 2, none⟩ (.string x.f2)).setCell ⟨w.heap.size + 1 + 1 + 1 + 1, 3, none⟩ (.string x.f3)).setCell ⟨w.heap.size + 1 + 1 + 1 + 1, 4, none⟩ (.int .i64 x.f4)).setCell ⟨w.heap.size + 1 + 1 + 1 + 1, 5, none⟩ (.int .i64 x.f5.f0.f0)).setCell ⟨w.heap.size + 1 + 1 + 1 + 1, 6, none⟩ (.int .i64 x.f5.f0.f1)).setCell ⟨w.heap.size + 1 + 1 + 1 + 1, 7, none⟩ (.int .i64 x.f5.f0.f2)).setCell ⟨w.heap.size + 1 + 1 + 1 + 1, 8, none⟩ (.int .i64 x.f5.f1.f0)).setCell ⟨w.heap.size + 1 + 1 + 1 + 1, 9, none⟩ (.int .i64 x.f5.f1.f1)).setCell ⟨w.heap.size + 1 + 1 + 1 + 1, 10, none⟩ (.int .i64 x.f5.f1.f2)).setCell ⟨w.heap.size + 1 + 1 + 1 + 1, 11, none⟩ (.slice none 0 0)).setCell ⟨w.heap.size + 1 + 1 + 1 + 1, 12, none⟩ (.int .i64 x.f7) = W3 at *
   clear F6 R6 K6
   have hz74 := row13 F7.out.b4
   have hz75 := row6 R7.out
   have hz71 := row6 F7.out.b1
   have hz72 := row13 F7.out.b2
   have hl74 := blk_lt F7.out.b4
   have hl75 := blk_lt R7.out
   go_split_ands
   go_upto_region 15 with fail
   go_region
   all_goals
    go_wp2_with fail
    refine bodyPost_ret (results_cct rfl _ _ (w.heap.size + 1) (w.heap.size + 1 + 1) 50 37 (stV (some ad) ts.length c i1 fin s1.n B1 s1.fl.length fc1 s1.over) (stmC x (.slice none 0 0)) (0, 0) (0, 0) _ _ rfl (blk_drew (end_rows F7.out.b1 F7.out.b2).1) hu rfl sizeSt rfl (blk_drew (end_rows F7.out.b1 F7.out.b2).2) hux rfl sizeStm) rfl ?_
    refine RStmO.drew ?_
    exact stm_end (S2 := S2) (ok := fun _ => False) (base := w.heap.size) F7.out.B HP.out.hi HP.out.ht HP.out.hcc K7.out HSS.out HSA.out HSB.out (fun y hy => ⟨(Option.some.inj hy).symm, by rw [HX6.out]; exact Kd.R_nil _ _ _ _ _⟩) (fun _ h => h.elim) (fun _ h => h.elim) (Nat.le_refl _) rfl _ _ _ _ _ _ _ _ _ _ _ _ _ _ _ _ _ _ _ rfl
end Go.Proofs.YtonhcfecfifghaaGreatDoor.PPx
namespace Go.Proofs.YtonhcfecfifghaaGreatDoor.PPx
open Go.RowKit Go.Proofs.YtonhcfecfifghaaGreatDoorW.PrintWords Go.Proofs.YtonhcfecfifghaaGreatDoorW.PrintLast Go.Proofs.YtonhcfecfifghaaGreatDoorW.PrintMore
set_option linter.unusedVariables false
set_option linter.unusedSimpArgs false
theorem rstmt_when (rec : Int → Rs → Option (List S37 × Rs)) (A : Option Addr) (c : Nat) (ts : List S67) (S : Nat → Prop) (w : World) (i : Nat) (fin n deep : Int) (B : Option Addr) (fc : Nat) (fl : List S40) (o : Bool) (r : Option S37 × Rs) (hI : Inp A c ts S w i B fc fl) (hlt : i < ts.length) (hr : rstmtK rec fin deep (keyS (rd_T67 ts (i : Int))) (rd_T67 ts (i : Int)).f2 ⟨ts.drop i, n, fl, o⟩ ⟨ts.drop (i + 1), n, fl, o⟩ = some r) (h1 : (rd_T67 ts (i : Int)).f0 = 1) (hk7 : kindS (rd_T67 ts (i : Int)).f1 = 7) (hdp : deep ≠ 4) (hrec : RecC rec fin) :
 Calls Tryz.prog 35 #[.agg (stV A ts.length c i fin n B fl.length fc o), .int .i64 deep] w (RStmO A c ts fin S w r) := by
 have HRec := Aside0.mk hrec
 clear hrec
 have hu := Tryz.underlying50
 have hux := Tryz.underlying37
 have hn6 := hI.n
 have HI := Aside0.mk hI
 obtain ⟨ad, rfl, x0, x1, x2⟩ := at_T67 hI.C (i : Int) (by omega) (by omega)
 simp only [Int.toNat_natCast] at x0 x1 x2
 have hal := cell_lt x0
 have hi0 : ((0 : Int) ≤ (i : Int)) = True := eq_true (by omega)
 have hi1 : ((i : Int) < (ts.length : Int)) = True := eq_true (by omega)
 generalize rd_T67 ts (i : Int) = t at *
 have HR2 := Aside0.mk hr
 clear hr hI
 have HB3 := below_alloc (below_alloc (below_alloc (Below.refl w.heap.size w) (.cells (stV (some ad) ts.length c i fin n B fl.length fc o) 50)) (.cells zSt 50)) (.cells zStm 37)
 have y0 := (HB3.cell hal).trans x0
 have y1 := (HB3.cell (p := ⟨(ad.add (i * 3)).block, (ad.add (i * 3)).off + 1, none⟩) hal).trans x1
 have y2 := (HB3.cell (p := ⟨(ad.add (i * 3)).block, (ad.add (i * 3)).off + 2, none⟩) hal).trans x2
 have HB5 := Aside0.mk (below_alloc (below_alloc HB3 (.cells #[.int .i64 t.f0, .string t.f1, .int .i64 t.f2] 67)) (.cells (stmC (xOf 0 t.f2) (.slice none 0 0)) 37))
 have b1 : (t.f0 == 1) = true := beq_iff_eq.2 h1
 go_enter Tryz.func35, Tryz.ntmps35
 go_wp2_with fail
 refine (ambidexterref11_kind.calls 12 t.f1 (kindS t.f1) _ (kindR_f _ _ (by decide))).mono ?_
 rintro e w1 ⟨rfl, hb⟩
 have F1 : Fm w w1 (stV (some ad) ts.length c i fin n B fl.length fc o) t (xOf 0 t.f2) (.slice none 0 0) := Fm.below ⟨blk_alloc (blk_alloc (blk_alloc (blk_alloc (alloc_at rfl) _) _) _) _, blk_alloc (blk_alloc (blk_alloc (alloc_at (by simp)) _) _) _, blk_alloc (blk_alloc (alloc_at (by simp)) _) _, by rw [h1]; exact blk_alloc (alloc_at (by simp)) _, alloc_at (by simp), by have := HB5.out; rw [h1] at this; exact this⟩ hb
 have hk1 : keyS t = kindS t.f1 := by unfold keyS; rw [if_pos h1]
 have HR2 := Aside0.mk (show rstmtK rec fin deep (kindS t.f1) t.f2 ⟨ts.drop i, n, fl, o⟩ ⟨ts.drop (i + 1), n, fl, o⟩ = some r from hk1 ▸ HR2.out)
 clear hb HB5 HB3 y0 y1 y2 x0 x1 x2 hk1
 have hk9 := (kind_range t.f1).2
 have hk0 := (kind_range t.f1).1
 generalize kindS t.f1 = k at *
 subst hk7
 have hk : (7 : Int) ≠ 0 := by decide
 have bdp : (deep == 4) = false := beq_eq_false_iff_ne.2 hdp
 have F2 := Aside0.mk (F1.kind (k' := 7)).next
 have hz := row13 F1.b4
 have hz0 := row6 F1.b0
 have hs0 := F1.sz
 clear F1
 go_split_ands
 go_upto_region 10 with fail
 generalize (w1.setCell ⟨w.heap.size + 1 + 1 + 1 + 1, 0, none⟩ (.int .i64 7)).setCell ⟨w.heap.size, 1, none⟩ (.int .i64 ((i : Int) + 1)) = W at *
 have hjl : i + 1 ≤ ts.length := hlt
 generalize hj : i + 1 = j at *
 clear hj
 obtain ⟨⟨s1, l, okb⟩, hH⟩ : ∃ h, headS fin (formS 7) (formS 7).size 0 ⟨ts.drop j, n, fl, o⟩ [] = h := ⟨_, rfl⟩
 have HR3 := Aside0.mk (show rstmtH rec fin deep 7 t.f2 (s1, l, okb) = some r from by have := HR2.out; rw [rstmtK, if_neg hk, if_neg (fun h => hdp h.2), hH] at this; exact this)
 have HH := Aside0.mk hH
 obtain ⟨fb, hfb, hfs⟩ := form_f (k := 7) (by decide) (by decide)
 have HFb := Aside0.mk hfb
 have HFs := Aside0.mk hfs
 clear HR2 hH hfb hfs
 go_upto_region 10 with fail
 go_cut [9, 10, 11] (fun s9 s10 s11 wx => ∃ (b5 i1 : Nat) (B1 : Option Addr) (fc1 N : Nat) (A1 : Option Addr) (c1 : Nat), s9 = .pointer (some ⟨b5, 0, none⟩) ∧ s10 = .slice A1 l.length c1 ∧ s11 = .bool okb ∧ Aside0 (CutP (some ad) c ts fin S w wx (stV (some ad) ts.length c j fin n B fl.length fc o) t (xOf 7 t.f2) (.slice none 0 0) s1 l b5 i1 B1 fc1 N A1 c1))
 case first =>
  have hz := row13 F2.out.b4
  simp only [xOf] at hz
  have hz3 := tok3 F2.out.b3
  have hz0 := row6 F2.out.b0
  have hs0 := F2.out.sz
  have hl0 := blk_lt F2.out.b0
  have hl4 := blk_lt F2.out.b4
  go_split_ands
  go_region_held3 (fun W' => W'.cell? ⟨w.heap.size, 0, none⟩ = some (.slice (some ad) ts.length c) ∧ W'.cell? ⟨w.heap.size, 1, none⟩ = some (.int .i64 (j : Int)) ∧ W'.cell? ⟨w.heap.size, 2, none⟩ = some (.int .i64 fin) ∧ W'.cell? ⟨w.heap.size, 3, none⟩ = some (.int .i64 n) ∧ W'.cell? ⟨w.heap.size, 4, none⟩ = some (.slice B fl.length fc) ∧ W'.cell? ⟨w.heap.size, 5, none⟩ = some (.bool o) ∧ W'.cell? ⟨w.heap.size + 1 + 1 + 1 + 1, 0, none⟩ = some (.int .i64 7)) (first | (with_reducible first | exact Fm.s7 F5.out | exact Fm.s7 F4.out | exact Fm.s7 F3.out | exact Fm.s7 F2.out | exact Fm.s7 (Fm.ext F2.out _) | exact Fm.s7 (Fm.ext F3.out _) | exact Fm.s7 (Fm.ext F4.out _) | exact Fm.s7 (Fm.ext F5.out _) | exact Fm.s7 (Fm.drew F2.out) | exact Fm.s7 (Fm.drewN F2.out _) | exact Fm.s7 (Fm.drew F3.out) | exact Fm.s7 (Fm.drew F4.out) | exact Fm.s7 (Fm.drew F5.out)) | (with_reducible refine Fm.s7 (Fm.six F5.out ?_); first | (have := F2.out.sz; omega) | (have := F3.out.sz; omega) | (have := F4.out.sz; omega)) | (go_keep)) (first | (go_at_call 59; (with_reducible refine (ambidexterref11_Form.calls 7 fb _ HFb.out).mono ?_); rintro e w2 ⟨rfl, hb⟩; have F3 := Aside0.mk (Fm.below (by first | exact F2.out | exact F2.out.drew | exact (F2.out.drewN _) | exact (F2.out.ext _) | exact (F2.out.ext _).drew | exact ((F2.out.ext _).drewN _) | exact (F2.out.drew.ext _) | exact ((F2.out.drewN _).ext _)) hb); have hz13 := row6 F3.out.b0; have hz14 := row13 F3.out.b4; simp only [xOf] at hz14; have hl10 := blk_lt F3.out.b0; have hl14 := blk_lt F3.out.b4; (first | (have HX := Aside0.mk (blk_below (by first | exact HX.out | exact blk_drew HX.out | exact blk_drewN HX.out _) hb); have hzx := row6 HX.out; have hxl := blk_lt HX.out) | (have HX := Aside0.mk (blk_below (heap_alloc_new _ (.cells zSt 50)) hb); have hzx := row6 HX.out; have hxl := blk_lt HX.out) | (have HX := Aside0.mk (blk_below (blk_drew (heap_alloc_new _ (.cells zSt 50))) hb); have hzx := row6 HX.out; have hxl := blk_lt HX.out) | (have HX := Aside0.mk (blk_below (blk_drewN (heap_alloc_new _ (.cells zSt 50)) _) hb); have hzx := row6 HX.out; have hxl := blk_lt HX.out) | skip); clear hb; go_split_ands) | (go_at_call 58; (with_reducible refine (ambidexterref11_spelled.calls 20 fb (formS 7) _ HFs.out).mono ?_); rintro e w3 ⟨rfl, hd⟩; have hb := of_drawn hd; have F4 := Aside0.mk (Fm.below (by first | exact F3.out | exact F3.out.drew | exact (F3.out.drewN _) | exact (F3.out.ext _) | exact (F3.out.ext _).drew | exact ((F3.out.ext _).drewN _) | exact (F3.out.drew.ext _) | exact ((F3.out.drewN _).ext _)) hb); have hz23 := row6 F4.out.b0; have hz24 := row13 F4.out.b4; simp only [xOf] at hz24; have hl20 := blk_lt F4.out.b0; have hl24 := blk_lt F4.out.b4; (first | (have HX := Aside0.mk (blk_below (by first | exact HX.out | exact blk_drew HX.out | exact blk_drewN HX.out _) hb); have hzx := row6 HX.out; have hxl := blk_lt HX.out) | (have HX := Aside0.mk (blk_below (heap_alloc_new _ (.cells zSt 50)) hb); have hzx := row6 HX.out; have hxl := blk_lt HX.out) | (have HX := Aside0.mk (blk_below (blk_drew (heap_alloc_new _ (.cells zSt 50))) hb); have hzx := row6 HX.out; have hxl := blk_lt HX.out) | (have HX := Aside0.mk (blk_below (blk_drewN (heap_alloc_new _ (.cells zSt 50)) _) hb); have hzx := row6 HX.out; have hxl := blk_lt HX.out) | skip); clear hb hd; go_split_ands) | (go_at_call 57; (with_reducible refine (head_calls (some ad) c ts j fin n B fc fl o (formS 7) _ (Kd.C_below HI.out.C (by first | exact F4.out.B | exact F4.out.drew.B | exact (F4.out.drewN _).B | exact (F4.out.ext _).B | exact (F4.out.ext _).drew.B | exact ((F4.out.ext _).drewN _).B | exact (F4.out.drew.ext _).B | exact ((F4.out.drewN _).ext _).B)) HI.out.c hjl _ (HI.out.F.frame (by first | exact F4.out.B | exact F4.out.drew.B | exact (F4.out.drewN _).B | exact (F4.out.ext _).B | exact (F4.out.ext _).drew.B | exact ((F4.out.ext _).drewN _).B | exact (F4.out.drew.ext _).B | exact ((F4.out.drewN _).ext _).B)) (fun k hk => hk.elim (fun e => Nat.lt_of_lt_of_le (HI.out.S k e) (by first | exact F4.out.B.size | exact F4.out.drew.B.size | exact (F4.out.drewN _).B.size | exact (F4.out.ext _).B.size | exact (F4.out.ext _).drew.B.size | exact ((F4.out.ext _).drewN _).B.size | exact (F4.out.drew.ext _).B.size | exact ((F4.out.drewN _).ext _).B.size)) (fun e => e.2)) HI.out.f HI.out.l HI.out.n (form_size 7) HI.out.t).mono ?_); rintro e w4 ho; rw [HH.out] at ho; obtain ⟨v, A1, c1, rfl, ⟨i1, B1, fc1, rfl, hi1, hs1, hf1, hF1⟩, hL, hb⟩ := ho; have F5 := Aside0.mk (Fm.below (by first | exact F4.out | exact F4.out.drew | exact (F4.out.drewN _) | exact (F4.out.ext _) | exact (F4.out.ext _).drew | exact ((F4.out.ext _).drewN _) | exact (F4.out.drew.ext _) | exact ((F4.out.drewN _).ext _)) hb); have HF1 := Aside0.mk hF1; have HS1 := Aside0.mk hs1; have HL := Aside0.mk hL; have HBW := Aside0.mk hb.size; have HWC := Aside0.mk (by first | exact F4.out.sz | exact F4.out.drew.sz | exact (F4.out.drewN _).sz | exact (F4.out.ext _).sz | exact (F4.out.ext _).drew.sz | exact ((F4.out.ext _).drewN _).sz | exact (F4.out.drew.ext _).sz | exact ((F4.out.drewN _).ext _).sz); have hz33 := row6 F5.out.b0; have hz34 := row13 F5.out.b4; simp only [xOf] at hz34; have hsz5 := F5.out.sz; (first | (have HX := Aside0.mk (blk_below (by first | exact HX.out | exact blk_drew HX.out | exact blk_drewN HX.out _) hb); have hzx := row6 HX.out; have hxl := blk_lt HX.out) | (have HX := Aside0.mk (blk_below (heap_alloc_new _ (.cells zSt 50)) hb); have hzx := row6 HX.out; have hxl := blk_lt HX.out) | (have HX := Aside0.mk (blk_below (blk_drew (heap_alloc_new _ (.cells zSt 50))) hb); have hzx := row6 HX.out; have hxl := blk_lt HX.out) | (have HX := Aside0.mk (blk_below (blk_drewN (heap_alloc_new _ (.cells zSt 50)) _) hb); have hzx := row6 HX.out; have hxl := blk_lt HX.out) | skip); clear hb hF1 hs1 hL; go_split_ands))
  all_goals (go_wp2_with fail; go_meet)
  · exact ⟨_, i1, B1, fc1, _, A1, c1, rfl, rfl, rfl, ⟨CutP.after F5.out (by have := HWC.out; omega) HBW.out hi1 HS1.out hf1 HF1.out HL.out⟩⟩
  · exact ⟨_, i1, B1, fc1, _, A1, c1, rfl, rfl, rfl, ⟨CutP.before F5.out (by first | (have := F4.out.sz; omega) | (have := F3.out.sz; omega) | (have := F2.out.sz; omega)) (by first | omega | simp) HX.out hi1 HS1.out hf1 HF1.out HL.out rfl⟩⟩
  · exact ⟨_, i1, B1, fc1, _, A1, c1, rfl, rfl, rfl, ⟨CutP.before F5.out (by first | (have := F4.out.sz; omega) | (have := F3.out.sz; omega) | (have := F2.out.sz; omega)) (by first | omega | simp) HX.out hi1 HS1.out hf1 HF1.out HL.out rfl⟩⟩
  · exact ⟨_, i1, B1, fc1, _, A1, c1, rfl, rfl, rfl, ⟨CutP.before F5.out (by first | (have := F4.out.sz; omega) | (have := F3.out.sz; omega) | (have := F2.out.sz; omega)) (by first | omega | simp) HX.out hi1 HS1.out hf1 HF1.out HL.out rfl⟩⟩
 case rest =>
  obtain ⟨b5, i1, B1, fc1, N, A1, c1, rfl, rfl, rfl, HP⟩ := hcut
  clear F2 HFb HFs
  have hn5 := HP.out.h5
  have hN5 := HP.out.hn
  obtain ⟨S2, hS2⟩ : ∃ S2 : Nat → Prop, S2 = fun k => SF S w k ∨ k = b5 := ⟨_, rfl⟩
  have hk0' : KeepC S2 wc B1 s1.fl := by subst hS2; exact HP.out.hk.less (fun k hk => hk.elim (fun e => .inl (e.elim .inl (fun e => .inr ⟨e.1, by omega⟩))) .inr)
  have HK := Aside0.mk hk0'
  have HSS := Aside0.mk (show ∀ k, S k → S2 k from by subst hS2; exact fun k hk => .inl (.inl hk))
  have HSA := Aside0.mk (show S2 (w.heap.size + 1) from by subst hS2; exact .inl (.inr ⟨by omega, by omega⟩))
  have HSB := Aside0.mk (show S2 (w.heap.size + 1 + 1) from by subst hS2; exact .inl (.inr ⟨by omega, by omega⟩))
  have HSC := Aside0.mk (show S2 (w.heap.size + 1 + 1 + 1 + 1) from by subst hS2; exact .inl (.inr ⟨by omega, by omega⟩))
  have HSD := Aside0.mk (show S2 b5 from by subst hS2; exact .inr rfl)
  have HSL := Aside0.mk (show ∀ k, S2 k → k < wc.heap.size from by subst hS2; exact fun k hk => hk.elim (HP.out.hf.lt HI.out.S k) (fun e => by have := blk_lt HP.out.hrow; omega))
  clear hk0' hS2
  have hz4 := row13 HP.out.hf.b4
  simp only [xOf] at hz4
  have hz5 := row6 HP.out.hrow
  have hz1 := row6 HP.out.hf.b1
  have hz2 := row13 HP.out.hf.b2
  have hl4 := blk_lt HP.out.hf.b4
  have hl5 := blk_lt HP.out.hrow
  go_split_ands
  cases okb with
  | false =>
   have HR4 : r = (none, s1) := by have := HR3.out; rw [rstmtH, if_pos rfl] at this; exact (Option.some.inj this).symm
   subst HR4
   clear HR3 HH
   go_upto_region 12 with fail
   go_region
   all_goals
    go_wp2_with fail
    refine bodyPost_ret (results_cct rfl _ _ (w.heap.size + 1) (w.heap.size + 1 + 1) 50 37 (stV (some ad) ts.length c i1 fin s1.n B1 s1.fl.length fc1 s1.over) (stmC (xOf 7 t.f2) (.slice none 0 0)) (0, 0) (0, 0) _ _ rfl (blk_drew (end_rows HP.out.hf.b1 HP.out.hf.b2).1) hu rfl sizeSt rfl (blk_drew (end_rows HP.out.hf.b1 HP.out.hf.b2).2) hux rfl sizeStm) rfl ?_
    refine RStmO.drew ?_
    exact stm_end (S2 := S2) (ok := fun _ => False) (base := w.heap.size) HP.out.hf.B HP.out.hi HP.out.ht HP.out.hcc HK.out HSS.out HSA.out HSB.out (fun y hy => by cases hy) (fun _ h => h.elim) (fun _ h => h.elim) (Nat.le_refl _) rfl _ _ _ _ _ _ _ _ _ _ _ _ _ _ _ _ _ _ _ rfl
  | true =>
   have hFO : FillOK 7 l := by
    have := HR3.out
    rw [rstmtH, if_neg (by simp)] at this
    by_cases hf : FillOK 7 l
    · exact hf
    · rw [if_pos hf] at this; cases this
   obtain ⟨x, hx⟩ : ∃ x, x = filledS 7 t.f2 l := ⟨_, rfl⟩
   obtain ⟨hx0, hx6⟩ := filled_f0 (k := 7) (by decide) (by decide) t.f2 l
   rw [← hx] at hx0 hx6
   have hLs := Kd.R_reads' HP.out.hs
   have HCs := Aside0.mk hLs.2.2
   have hls := hLs.2.1
   clear hLs
   have HFO := Aside0.mk hFO
   have HX0 := Aside0.mk hx0
   have HX6 := Aside0.mk hx6
   have HXE := Aside0.mk hx
   have HR4 := Aside0.mk (show (rec (wrap64 (deep + 1)) s1).bind (fun r => rstmtE fin t.f2 l r) = some r from by
    have := HR3.out
    rw [rstmtH, if_neg (by simp), if_neg (fun h => h hFO), if_neg (fun h => h rfl)] at this
    exact this)
   have bx7 : (x.f0 != 7) = false := by rw [hx0]; rfl
   have HFL := Aside0.mk (head_fl _ HH.out).1
   clear HR3 HH
   clear hFO hx0 hx6 hx
   go_wp2_with fail
   refine (filled_calls 7 t.f2 A1 c1 l _ (by decide) (by decide) HCs.out hls HFO.out).mono ?_
   rintro e w2 ⟨rfl, hb⟩
   rw [← HXE.out]
   have F6 := Aside0.mk (Fm.below HP.out.hf hb)
   have R6 := Aside0.mk (blk_below HP.out.hrow hb)
   have K6 := Aside0.mk (HK.out.below hb)
   have HSZ0 := Aside0.mk (show wc.heap.size ≤ w2.heap.size from hb.size)
   have hz64 := row13 F6.out.b4
   clear hb
   go_split_ands
   have F7 := Aside0.mk (Fm.put (y := x) (kw := .slice none 0 0) (z0 := .int .i64 x.f0) (z1 := .int .i64 x.f1) (z2 := .string x.f2) (z3 := .string x.f3) (z4 := .int .i64 x.f4) (z5 := .int .i64 x.f5.f0.f0) (z6 := .int .i64 x.f5.f0.f1) (z7 := .int .i64 x.f5.f0.f2) (z8 := .int .i64 x.f5.f1.f0) (z9 := .int .i64 x.f5.f1.f1) (z10 := .int .i64 x.f5.f1.f2) (z11 := .slice none 0 0) (z12 := .int .i64 x.f7) F6.out rfl)
   have R7 := Aside0.mk ((blk_far (blk_far (blk_far (blk_far (blk_far (blk_far (blk_far (blk_far (blk_far (blk_far (blk_far (blk_far (blk_far R6.out (p := ⟨w.heap.size + 1 + 1 + 1 + 1, 0, none⟩) (by simp <;> omega) (.int .i64 x.f0)) (p := ⟨w.heap.size + 1 + 1 + 1 + 1, 1, none⟩) (by simp <;> omega) (.int .i64 x.f1)) (p := ⟨w.heap.size + 1 + 1 + 1 + 1, 2, none⟩) (by simp <;> omega) (.string x.f2)) (p := ⟨w.heap.size + 1 + 1 + 1 + 1, 3, none⟩) (by simp <;> omega) (.string x.f3)) (p := ⟨w.heap.size + 1 + 1 + 1 + 1, 4, none⟩) (by simp <;> omega) (.int .i64 x.f4)) (p := ⟨w.heap.size + 1 + 1 + 1 + 1, 5, none⟩) (by simp <;> omega) (.int .i64 x.f5.f0.f0)) (p := ⟨w.heap.size + 1 + 1 + 1 + 1, 6, none⟩) (by simp <;> omega) (.int .i64 x.f5.f0.f1)) (p := ⟨w.heap.size + 1 + 1 + 1 + 1, 7, none⟩) (by simp <;> omega) (.int .i64 x.f5.f0.f2)) (p := ⟨w.heap.size + 1 + 1 + 1 + 1, 8, none⟩) (by simp <;> omega) (.int .i64 x.f5.f1.f0)) (p := ⟨w.heap.size + 1 + 1 + 1 + 1, 9, none⟩) (by simp <;> omega) (.int .i64 x.f5.f1.f1)) (p := ⟨w.heap.size + 1 + 1 + 1 + 1, 10, none⟩) (by simp <;> omega) (.int .i64 x.f5.f1.f2)) (p := ⟨w.heap.size + 1 + 1 + 1 + 1, 11, none⟩) (by simp <;> omega) (.slice none 0 0)) (p := ⟨w.heap.size + 1 + 1 + 1 + 1, 12, none⟩) (by simp <;> omega) (.int .i64 x.f7)))
   have K7 := Aside0.mk (keep13 (z0 := .int .i64 x.f0) (z1 := .int .i64 x.f1) (z2 := .string x.f2) (z3 := .string x.f3) (z4 := .int .i64 x.f4) (z5 := .int .i64 x.f5.f0.f0) (z6 := .int .i64 x.f5.f0.f1) (z7 := .int .i64 x.f5.f0.f2) (z8 := .int .i64 x.f5.f1.f0) (z9 := .int .i64 x.f5.f1.f1) (z10 := .int .i64 x.f5.f1.f2) (z11 := .slice none 0 0) (z12 := .int .i64 x.f7) K6.out HSC.out)
   have HSZ := Aside0.mk (show wc.heap.size ≤ (((((((((((((w2.setCell ⟨w.heap.size + 1 + 1 + 1 + 1, 0, none⟩ (.int .i64 x.f0)).setCell ⟨w.heap.size + 1 + 1 + 1 + 1, 1, none⟩ (.int .i64 x.f1)).setCell ⟨w.heap.size + 1 + 1 + 1 + 1, 2, none⟩ (.string x.f2)).setCell ⟨w.heap.size + 1 + 1 + 1 + 1, 3, none⟩ (.string x.f3)).setCell ⟨w.heap.size + 1 + 1 + 1 + 1, 4, none⟩ (.int .i64 x.f4)).setCell ⟨w.heap.size + 1 + 1 + 1 + 1, 5, none⟩ (.int .i64 x.f5.f0.f0)).setCell ⟨w.heap.size + 1 + 1 + 1 + 1, 6, none⟩ (.int .i64 x.f5.f0.f1)).setCell ⟨w.heap.size + 1 + 1 + 1 + 1, 7, none⟩ (.int .i64 x.f5.f0.f2)).setCell ⟨w.heap.size + 1 + 1 + 1 + 1, 8, none⟩ (.int .i64 x.f5.f1.f0)).setCell ⟨w.heap.size + 1 + 1 + 1 + 1, 9, none⟩ (.int .i64 x.f5.f1.f1)).setCell ⟨w.heap.size + 1 + 1 + 1 + 1, 10, none⟩ (.int .i64 x.f5.f1.f2)).setCell ⟨w.heap.size + 1 + 1 + 1 + 1, 11, none⟩ (.slice none 0 0)).setCell ⟨w.heap.size + 1 + 1 + 1 + 1, 12, none⟩ (.int .i64 x.f7)).heap.size from by simpa using HSZ0.out)
   go_upto_region 14 with fail
   generalize ((((((((((((w2.setCell ⟨w.heap.size + 1 + 1 + 1 + 1, 0, none⟩ (.int .i64 x.f0)).setCell ⟨w.heap.size + 1 + 1 + 1 + 1, 1, none⟩ (.int .i64 x.f1)).setCell ⟨w.heap.size + 1 + 1 + 1 + 1, 2, none⟩ (.string x.f2)).setCell ⟨w.heap.size + 1 + 1 + 1 + 1, 3, none⟩ (.string x.f3)).setCell ⟨w.heap.size + 1 + 1 + 1 + 1, 4, none⟩ (.int .i64 x.f4)).setCell ⟨w.heap.size + 1 + 1 + 1 + 1, 5, none⟩ (.int .i64 x.f5.f0.f0)).setCell ⟨w.heap.size + 1 + 1 + 1 + 1, 6, none⟩ (.int .i64 x.f5.f0.f1)).setCell ⟨w.heap.size + 1 + 1 + 1 + 1, 7, none⟩ (.int .i64 x.f5.f0.f2)).setCell ⟨w.heap.size + 1 + 1 + 1 + 1, 8, none⟩ (.int .i64 x.f5.f1.f0)).setCell ⟨w.heap.size + 1 + 1 + 1 + 1, 9, none⟩ (.int .i64 x.f5.f1.f1)).setCell ⟨w.heap.size + 1 + 1 + 1 + 1, 10, none⟩ (.int .i64 x.f5.f1.f2)).setCell ⟨w.heap.size + 1 + 1 + 1 + 1, 11, none⟩ (.slice none 0 0)).setCell ⟨w.heap.size + 1 + 1 + 1 + 1, 12, none⟩ (.int .i64 x.f7) = W3 at *
   clear F6 R6 K6
   have hz74 := row13 F7.out.b4
   have hz75 := row6 R7.out
   have hz71 := row6 F7.out.b1
   have hz72 := row13 F7.out.b2
   have hl74 := blk_lt F7.out.b4
   have hl75 := blk_lt R7.out
   go_split_ands
   obtain ⟨toks1, n1, fl1, o1⟩ := s1
   have hto1 := HP.out.ht
   simp only at hto1
   obtain ⟨⟨ks, s2⟩, hrec, hE⟩ := Option.bind_eq_some_iff.1 HR4.out
   rw [hto1] at hrec
   have HE := Aside0.mk hE
   have HRC := Aside0.mk hrec
   have HIN := Aside0.mk (show Inp (some ad) c ts S2 W3 i1 B1 fc1 fl1 from ⟨Kd.C_below HI.out.C F7.out.B, HI.out.c, HP.out.hi, K7.out, fun k hk => Nat.lt_of_lt_of_le (HSL.out k hk) HSZ.out, HP.out.hcc, by have e := HFL.out; simp only at e; rw [e]; exact HI.out.l, HI.out.n, HI.out.t⟩)
   clear hrec hE HR4
   go_wp2_with fail
   refine (HRec.out (some ad) c ts S2 W3 i1 n1 (wrap64 (deep + 1)) B1 fc1 fl1 o1 (ks, s2) HIN.out HRC.out).mono ?_
   rintro e w5 ⟨v, kv, rfl, hKR, ⟨i2, B2, fc2, rfl, hi2, ht2, hf2, hF2⟩, hb⟩
   obtain ⟨Ak, ck, rfl⟩ := Kd.R_slice hKR
   obtain ⟨toks2, n2, fl2, o2⟩ := s2
   simp only at ht2 hf2 hF2
   subst ht2
   have F8 := Aside0.mk (Fm.below F7.out hb)
   have R8 := Aside0.mk (blk_below R7.out hb)
   have K8 := Aside0.mk hF2
   have KR8 := Aside0.mk (Kd.R_mono (Kd.R_bound hKR) (ok' := fun k => W3.heap.size ≤ k) (fun k h => h.2.1))
   have HSL2 := Aside0.mk (show ∀ k, S2 k → k < w5.heap.size from fun k hk => Nat.lt_of_lt_of_le (HSL.out k hk) (Nat.le_trans HSZ.out hb.size))
   have hl35 := blk_lt R7.out
   have hl34 := blk_lt F7.out.b4
   have hz84 := row13 F8.out.b4
   have hz85 := row6 R8.out
   clear hKR hF2 hb HIN HRC F7 R7 K7 HK
   go_split_ands
   have F9 := Aside0.mk (Fm.kid (Fm.six (b5 := b5) (y0 := (.slice (some ad) ts.length c)) (y1 := (.int .i64 (i2 : Int))) (y2 := (.int .i64 fin)) (y3 := (.int .i64 n2)) (y4 := (.slice B2 fl2.length fc2)) (y5 := (.bool o2)) F8.out hn5) (.slice Ak ks.length ck))
   have R9 := Aside0.mk (blk_far (set6 (y0 := (.slice (some ad) ts.length c)) (y1 := (.int .i64 (i2 : Int))) (y2 := (.int .i64 fin)) (y3 := (.int .i64 n2)) (y4 := (.slice B2 fl2.length fc2)) (y5 := (.bool o2)) R8.out) (p := ⟨w.heap.size + 1 + 1 + 1 + 1, 11, none⟩) (by simp <;> omega) (.slice Ak ks.length ck))
   have K9 := Aside0.mk (KeepC.set (keep6 (y0 := (.slice (some ad) ts.length c)) (y1 := (.int .i64 (i2 : Int))) (y2 := (.int .i64 fin)) (y3 := (.int .i64 n2)) (y4 := (.slice B2 fl2.length fc2)) (y5 := (.bool o2)) K8.out HSD.out) (p := ⟨w.heap.size + 1 + 1 + 1 + 1, 11, none⟩) HSC.out (.slice Ak ks.length ck))
   have KR9 := Aside0.mk (Kd.R_far (far6 (b5 := b5) (y0 := (.slice (some ad) ts.length c)) (y1 := (.int .i64 (i2 : Int))) (y2 := (.int .i64 fin)) (y3 := (.int .i64 n2)) (y4 := (.slice B2 fl2.length fc2)) (y5 := (.bool o2)) KR8.out (fun k h => by omega)) (p := ⟨w.heap.size + 1 + 1 + 1 + 1, 11, none⟩) (fun k h => by simp only; omega) (.slice Ak ks.length ck))
   have HSL3 := Aside0.mk (show ∀ k, S2 k → k < (((((((w5.setCell ⟨b5, 0, none⟩ (.slice (some ad) ts.length c)).setCell ⟨b5, 1, none⟩ (.int .i64 (i2 : Int))).setCell ⟨b5, 2, none⟩ (.int .i64 fin)).setCell ⟨b5, 3, none⟩ (.int .i64 n2)).setCell ⟨b5, 4, none⟩ (.slice B2 fl2.length fc2)).setCell ⟨b5, 5, none⟩ (.bool o2)).setCell ⟨w.heap.size + 1 + 1 + 1 + 1, 11, none⟩ (.slice Ak ks.length ck)).heap.size from fun k hk => by have := HSL2.out k hk; simpa using this)
   have hx9 : W3.heap.size ≤ W3.heap.size := Nat.le_refl _
   go_upto_region 17 with fail
   generalize ((((((w5.setCell ⟨b5, 0, none⟩ (.slice (some ad) ts.length c)).setCell ⟨b5, 1, none⟩ (.int .i64 (i2 : Int))).setCell ⟨b5, 2, none⟩ (.int .i64 fin)).setCell ⟨b5, 3, none⟩ (.int .i64 n2)).setCell ⟨b5, 4, none⟩ (.slice B2 fl2.length fc2)).setCell ⟨b5, 5, none⟩ (.bool o2)).setCell ⟨w.heap.size + 1 + 1 + 1 + 1, 11, none⟩ (.slice Ak ks.length ck) = W6 at *
   clear F8 R8 K8 KR8 HSL2
   have hz94 := row13 F9.out.b4
   have hz95 := row6 R9.out
   have hz91 := row6 F9.out.b1
   have hz92 := row13 F9.out.b2
   have hl94 := blk_lt F9.out.b4
   have hl95 := blk_lt R9.out
   go_split_ands
   cases o2 with
   | true =>
    have hr : r = (none, ⟨ts.drop i2, n2, fl2, true⟩) := by have := HE.out; rw [rstmtE, if_pos rfl] at this; exact (Option.some.inj this).symm
    subst hr
    clear HE
    go_upto_region 18 with fail
    go_region
    all_goals
     go_wp2_with fail
     refine bodyPost_ret (results_cct rfl _ _ (w.heap.size + 1) (w.heap.size + 1 + 1) 50 37 (stV (some ad) ts.length c i2 fin n2 B2 fl2.length fc2 true) (stmC x (.slice Ak ks.length ck)) (0, 0) (0, 0) _ _ rfl (blk_drew (end_rows F9.out.b1 F9.out.b2).1) hu rfl sizeSt rfl (blk_drew (end_rows F9.out.b1 F9.out.b2).2) hux rfl sizeStm) rfl ?_
     refine RStmO.drew ?_
     exact stm_end (s1 := ⟨ts.drop i2, n2, fl2, true⟩) (S2 := S2) (ok := fun _ => False) (base := w.heap.size) F9.out.B hi2 rfl hf2 K9.out HSS.out HSA.out HSB.out (fun y hy => by cases hy) (fun _ h => h.elim) (fun _ h => h.elim) (Nat.le_refl _) rfl _ _ _ _ _ _ _ _ _ _ _ _ _ _ _ _ _ _ _ rfl
   | false =>
    obtain ⟨⟨s3, l3, ok3⟩, hH3⟩ : ∃ h, headS fin ⟨#[125]⟩ (⟨#[125]⟩ : ByteArray).size 0 ⟨ts.drop i2, n2, fl2, false⟩ [] = h := ⟨_, rfl⟩
    have hfl2 : fl2.length ≤ 100 := by
     have := HE.out
     rw [rstmtE, if_neg (by simp)] at this
     by_cases hc : 100 < fl2.length
     · rw [if_pos hc] at this; cases this
     · omega
    have hr : r = (if ok3 = true then some { x with f6 := ks } else none, s3) := by
     have := HE.out
     have hH4 : headS fin ⟨#[125]⟩ 1 0 ⟨ts.drop i2, n2, fl2, false⟩ [] = (s3, l3, ok3) := hH3
     rw [rstmtE, if_neg (by simp), if_neg (by simp only; omega), hH4, ← HXE.out] at this
     exact (Option.some.inj this).symm
    obtain ⟨ox, hox⟩ : ∃ ox : Option S37, ox = if ok3 = true then some { x with f6 := ks } else none := ⟨_, rfl⟩
    rw [← hox] at hr
    subst hr
    have HOX := Aside0.mk hox
    have HIS := Aside0.mk (show ok3 = ox.isSome from by rw [hox]; cases ok3 <;> rfl)
    have HH3 := Aside0.mk hH3
    clear HE hH3 hox
    go_wp2_with fail
    refine (head_calls (some ad) c ts i2 fin n2 B2 fc2 fl2 false ⟨#[125]⟩ W6 (Kd.C_below HI.out.C F9.out.B) HI.out.c hi2 S2 K9.out HSL3.out hf2 hfl2 HI.out.n (by decide) HI.out.t).mono ?_
    rintro e w7 ho
    rw [HH3.out] at ho
    obtain ⟨v, A3, c3, rfl, ⟨i3, B3, fc3, rfl, hi3, ht3, hf3, hF3⟩, hL3, hb⟩ := ho
    have F10 := Aside0.mk (Fm.below F9.out hb)
    have R10 := Aside0.mk (blk_below R9.out hb)
    have K10 := Aside0.mk hF3
    have KR10 := Aside0.mk (Kd.R_below KR9.out hb)
    have hza4 := row13 F10.out.b4
    have hza5 := row6 R10.out
    clear hF3 hL3 hb F9 R9 K9 KR9
    go_split_ands
    have F11 := Aside0.mk (Fm.six (b5 := b5) (y0 := (.slice (some ad) ts.length c)) (y1 := (.int .i64 (i3 : Int))) (y2 := (.int .i64 fin)) (y3 := (.int .i64 s3.n)) (y4 := (.slice B3 s3.fl.length fc3)) (y5 := (.bool s3.over)) F10.out hn5)
    have R11 := Aside0.mk (set6 (y0 := (.slice (some ad) ts.length c)) (y1 := (.int .i64 (i3 : Int))) (y2 := (.int .i64 fin)) (y3 := (.int .i64 s3.n)) (y4 := (.slice B3 s3.fl.length fc3)) (y5 := (.bool s3.over)) R10.out)
    have K11 := Aside0.mk (keep6 (y0 := (.slice (some ad) ts.length c)) (y1 := (.int .i64 (i3 : Int))) (y2 := (.int .i64 fin)) (y3 := (.int .i64 s3.n)) (y4 := (.slice B3 s3.fl.length fc3)) (y5 := (.bool s3.over)) K10.out HSD.out)
    have KR11 := Aside0.mk (far6 (b5 := b5) (y0 := (.slice (some ad) ts.length c)) (y1 := (.int .i64 (i3 : Int))) (y2 := (.int .i64 fin)) (y3 := (.int .i64 s3.n)) (y4 := (.slice B3 s3.fl.length fc3)) (y5 := (.bool s3.over)) KR10.out (fun k h => by omega))
    go_upto_region 20 with fail
    have HKY0 := KR11.out
    generalize (((((w7.setCell ⟨b5, 0, none⟩ (.slice (some ad) ts.length c)).setCell ⟨b5, 1, none⟩ (.int .i64 (i3 : Int))).setCell ⟨b5, 2, none⟩ (.int .i64 fin)).setCell ⟨b5, 3, none⟩ (.int .i64 s3.n)).setCell ⟨b5, 4, none⟩ (.slice B3 s3.fl.length fc3)).setCell ⟨b5, 5, none⟩ (.bool s3.over) = W8 at *
    clear F10 R10 K10 KR10
    have HKY := Aside0.mk (kids_of (ks := ks) (x := x) ok3 HKY0)
    rw [← HOX.out] at HKY
    clear HKY0
    have hzb4 := row13 F11.out.b4
    have hzb5 := row6 R11.out
    have hzb1 := row6 F11.out.b1
    have hzb2 := row13 F11.out.b2
    go_split_ands
    go_region
    all_goals
     go_wp2_with fail
     refine bodyPost_ret (results_cct rfl _ _ (w.heap.size + 1) (w.heap.size + 1 + 1) 50 37 (stV (some ad) ts.length c i3 fin s3.n B3 s3.fl.length fc3 s3.over) (stmC x (.slice Ak ks.length ck)) (0, 0) (0, 0) _ _ rfl (blk_drew (end_rows F11.out.b1 F11.out.b2).1) hu rfl sizeSt rfl (blk_drew (end_rows F11.out.b1 F11.out.b2).2) hux rfl sizeStm) rfl ?_
     refine RStmO.drew ?_
     exact stm_end (x := { x with f6 := ks }) (S2 := S2) (ok := fun k => W3.heap.size ≤ k) (base := W3.heap.size) F11.out.B hi3 ht3 hf3 K11.out HSS.out HSA.out HSB.out HKY.out (fun k h => by omega) (fun k h => by omega) (by omega) HIS.out _ _ _ _ _ _ _ _ _ _ _ _ _ _ _ _ _ _ _ rfl
