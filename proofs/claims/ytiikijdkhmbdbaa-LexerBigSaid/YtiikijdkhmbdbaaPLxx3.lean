-- written by a program of this seat (wip/tools/printx.py) with the kit's print and the texts given beside it
import Derived.Test.YtiikijdkhmbdbaaPLxx0
import Derived.Test.YtiikijdkhmbdbaaPLxx1
import Derived.Test.YtiikijdkhmbdbaaPLxx2
namespace Go.Proofs.Ytiikijdkhmbdbaa.PLx
open Go.RowKit Go.Proofs.YtiikijdkhmbdbaaW.PrintWords Go.Proofs.YtiikijdkhmbdbaaW.PrintLast Go.Proofs.YtiikijdkhmbdbaaW.PrintMore
attribute [local go_sem] max2_int min2_int max_two min_two max_three min_three max_four min_four   -- for this text's walks alone
set_option linter.unusedVariables false
set_option linter.unusedSimpArgs false

attribute [local go_sem high] eqA31
/-! ### lexer_text_next: function 18 -/
theorem named_at (g : Nat) (s : ByteArray) (w0 w : World) (i : Int) (h : 0 ≤ i) (hI : IsS40 w0 w g s i) (hB : Below w0.heap.size w0 w) :
    Calls Try.prog 26 #[.pointer (some ⟨g, 0, none⟩)] w fun e w' => e = .returned (.bool (wordAt s i)) ∧ St w0 w w' g s i :=
  (lexer_text_named.calls g s i (wordAt s i) s i w0 w hI hB (by
    rw [lexer_text_named.f, now_f s i h]
    simp only [Option.bind_some, wordAt]
    by_cases h1 : at_ s i = 1
    · simp [h1]
    · by_cases h2 : at_ s i = 2
      · simp [h2]
      · simp [h1, h2])).mono fun e w' ⟨he, h1, h2, h3⟩ => ⟨he, h1, h2, h3⟩
theorem counted_at (g : Nat) (s : ByteArray) (w0 w : World) (i : Int) (h : 0 ≤ i) (_ : i < (s.size : Int)) (hI : IsS40 w0 w g s i) (hB : Below w0.heap.size w0 w) :
    Calls Try.prog 27 #[.pointer (some ⟨g, 0, none⟩)] w fun e w' => e = .returned (.bool (digitAt s i)) ∧ St w0 w w' g s i :=
  (lexer_text_counted.calls g s i (digitAt s i) s i w0 w hI hB (by rw [lexer_text_counted.f, now_f s i h]; rfl)).mono fun e w' ⟨he, h1, h2, h3⟩ => ⟨he, h1, h2, h3⟩
theorem while_word (g : Nat) (s : ByteArray) (hs : s.size ≤ 140737488351232) (i0 : Int) (h0 : 0 ≤ i0) (h1 : i0 ≤ (s.size : Int)) (w0 w : World) (hI : IsS40 w0 w g s i0) (hB : Below w0.heap.size w0 w) :
    Calls Try.prog 22 #[.pointer (some ⟨g, 0, none⟩), .func (.func 26) #[.pointer (some ⟨g, 0, none⟩)] #[]] w fun e w' => e = .returned (.tuple #[]) ∧ St w0 w w' g s (scanTo (wordAt s) s.size i0) :=
  while_scan 26 (fun _ _ => by rfl) (wordAt s) g s hs (fun w0 W i h _ => named_at g s w0 W i h) i0 h0 h1 w0 w hI hB
theorem while_digit (g : Nat) (s : ByteArray) (hs : s.size ≤ 140737488351232) (i0 : Int) (h0 : 0 ≤ i0) (h1 : i0 ≤ (s.size : Int)) (w0 w : World) (hI : IsS40 w0 w g s i0) (hB : Below w0.heap.size w0 w) :
    Calls Try.prog 22 #[.pointer (some ⟨g, 0, none⟩), .func (.func 27) #[.pointer (some ⟨g, 0, none⟩)] #[]] w fun e w' => e = .returned (.tuple #[]) ∧ St w0 w w' g s (scanTo (digitAt s) s.size i0) :=
  while_scan 27 (fun _ _ => by rfl) (digitAt s) g s hs (fun w0 W i => counted_at g s w0 W i) i0 h0 h1 w0 w hI hB
/-- the scanner, and beside it the result's own variable at block b, still zero -/
structure Nx (w0 w W : World) (g b : Nat) (s : ByteArray) (i : Int) : Prop where
  st : St w0 w W g s i
  res : W.heap[b]? = some (.cells #[.int .i64 0, .string ⟨#[]⟩, .int .i64 0] 31 (0, 0))
  ne : b ≠ g
  ge : w.heap.size ≤ b
  ge0 : w0.heap.size ≤ b
theorem Nx.trans {w0 w W W1 : World} {g b : Nat} {s s1 : ByteArray} {i i1 : Int} (h : Nx w0 w W g b s i) (k : St w0 W W1 g s1 i1) : Nx w0 w W1 g b s1 i1 :=
  ⟨h.st.trans k, k.kept.blk h.res h.ne (by simp), h.ne, h.ge, h.ge0⟩
theorem Nx.new {w0 w : World} {g : Nat} {s : ByteArray} {i : Int} (hI : IsS40 w0 w g s i) (hB : Below w0.heap.size w0 w) : Nx w0 w (w.alloc (.cells #[.int .i64 0, .string ⟨#[]⟩, .int .i64 0] 31)) g w.heap.size s i :=
  ⟨(St.start hI hB).below (below_alloc (Below.refl _ _) _), heap_alloc_new _ _, fun h => Nat.lt_irrefl _ (h ▸ hI.lt), Nat.le_refl _, hB.size⟩

/-- the result is stored: what is handed back -/
theorem Nx.stored0 {w0 w W : World} {g b : Nat} {s : ByteArray} {i : Int} (h : Nx w0 w W g b s i) (x y z : Value) :
    St w0 w (((W.setCell ⟨b, 0, none⟩ x).setCell ⟨b, 1, none⟩ y).setCell ⟨b, 2, none⟩ z) g s i ∧ (((W.setCell ⟨b, 0, none⟩ x).setCell ⟨b, 1, none⟩ y).setCell ⟨b, 2, none⟩ z).heap[b]? = some (.cells #[x, y, z] 31 (0, 0)) := by
  have hgb := Ne.symm h.ne
  refine ⟨⟨(((h.st.is.far hgb x).far hgb y).far hgb z), below_set (below_set (below_set h.st.bel h.ge0) h.ge0) h.ge0, keep_far (keep_far (keep_far h.st.kept h.ge _) h.ge _) h.ge _⟩, ?_⟩
  have h1 := blk_set h.res 0 x
  have h2 := blk_set h1 1 y
  have h3 := blk_set h2 2 z
  simpa using h3
theorem Nx.stored {w0 w W : World} {g b : Nat} {s : ByteArray} {i : Int} (h : Nx w0 w W g b s i) (x y z : Value) :
    St w0 w ((((W.setCell ⟨b, 0, none⟩ x).setCell ⟨b, 1, none⟩ y).setCell ⟨b, 2, none⟩ z).drew) g s i ∧ ((((W.setCell ⟨b, 0, none⟩ x).setCell ⟨b, 1, none⟩ y).setCell ⟨b, 2, none⟩ z).drew).heap[b]? = some (.cells #[x, y, z] 31 (0, 0)) :=
  ⟨(h.stored0 x y z).1.drew, blk_drew (h.stored0 x y z).2⟩
theorem res18 {W : World} {b : Nat} {x y z v : Value} (h : W.heap[b]? = some (.cells #[x, y, z] 31 (0, 0))) (tmps : Array Value) (h2 : tmps.getD 2 undef = .pointer (some ⟨b, 0, none⟩)) (h3 : tmps.getD 3 undef = v) :
    (results Try.f18 tmps).run Try.prog W = .ok (.tuple #[.agg #[x, y, z], v]) W := by
  rw [results_cell_tmp (p := 2) (u := 3) (ty := 31) Try.results18, h2, h3]
  simp only [asAddr, Sem.run_pure, Result.andThen_ok]
  rw [run_loadVar_row W b 31 31 #[x, y, z] (0, 0) _ h Try.underlying31 rfl (by kernel_rfl)]
  rfl

theorem next_word (g : Nat) (s : ByteArray) (hs : s.size ≤ 140737488351232) (i : Int) (h0 : 0 ≤ i) (hc : at_ s i = 1) (w0 w : World) (hI : IsS40 w0 w g s i) (hB : Below w0.heap.size w0 w) :
    Calls Try.prog 18 #[.pointer (some ⟨g, 0, none⟩)] w fun e w' => e = .returned (.tuple #[.agg #[.int .i64 1, .string (s.extract i.toNat (scanTo (wordAt s) s.size i).toNat), .int .i64 i], .bool true]) ∧ St w0 w w' g s (scanTo (wordAt s) s.size i) := by
  have hmf : ∀ (fn : Fn) (first cap : Array Value) (w : World), (Instr.makeFunc fn first cap).run Try.prog w = .ok (.func fn first cap) w := fun _ _ _ _ => rfl
  have hlt := (at_some (by decide) hc).1
  have HN := Aside0.mk (Nx.new hI hB)
  have hcb : (at_ s i == 1) = true := beq_iff_eq.2 hc
  have c1 := cellS40_1 hI.1
  have hgl := hI.lt
  clear hI hB
  have Hc := Aside0.mk hc
  clear hc
  go_enter Try.func18, Try.ntmps18
  go_wp2_with fail
  refine (now_at g s i h0 w0 _ HN.out.st.is HN.out.st.bel).mono ?_
  rintro e w2 ⟨rfl, hS2⟩
  have HN2 := Aside0.mk (HN.out.trans hS2)
  clear hS2 HN
  go_wp2_with fail
  refine (while_word g s hs i h0 (by omega) w0 _ HN2.out.st.is HN2.out.st.bel).mono ?_
  rintro e w3 ⟨rfl, hS3⟩
  have hr3 := scanTo_range (wordAt s) s.size i (by omega)
  generalize hi3 : scanTo (wordAt s) s.size i = i3 at *
  have HN3 := Aside0.mk (HN2.out.trans hS3)
  have Hi3 := Aside0.mk hi3
  clear hS3 hi3 HN2
  go_wp2_with fail
  have c0 := HN3.out.st.cell0
  have c1 := HN3.out.st.cell1
  have d0 := blk_cell HN3.out.res 0
  have d1 := blk_cell HN3.out.res 1
  have d2 := blk_cell HN3.out.res 2
  have e0 := blk_frozen HN3.out.res 0
  have e1 := blk_frozen HN3.out.res 1
  have e2 := blk_frozen HN3.out.res 2
  go_still_tail 13, (by kernel_rfl)
  go_wp2_with fail
  have hst := HN3.out.stored (.int .i64 1) (.string (s.extract i.toNat i3.toNat)) (.int .i64 i)
  refine bodyPost_ret (res18 (v := .bool true) hst.2 _ rfl rfl) rfl ⟨?_, ?_⟩
  · rw [Hi3.out]
  · rw [Hi3.out]; exact hst.1

theorem next_sign (g : Nat) (s : ByteArray) (hs : s.size ≤ 140737488351232) (i : Int) (h0 : 0 ≤ i) (hc : at_ s i = 4) (w0 w : World) (hI : IsS40 w0 w g s i) (hB : Below w0.heap.size w0 w) :
    Calls Try.prog 18 #[.pointer (some ⟨g, 0, none⟩)] w fun e w' => e = .returned (.tuple #[.agg #[.int .i64 3, .string (s.extract i.toNat (i + 1).toNat), .int .i64 i], .bool true]) ∧ St w0 w w' g s (i + 1) := by
  have hlt := (at_some (by decide) hc).1
  have HN := Aside0.mk (Nx.new hI hB)
  have hcb : (at_ s i == 4) = true := beq_iff_eq.2 hc
  have hcb1 : (at_ s i == 1) = false := beq_eq_false_iff_ne.2 (by omega)
  have c1 := cellS40_1 hI.1
  have hgl := hI.lt
  clear hI hB
  have Hc := Aside0.mk hc
  clear hc
  go_enter Try.func18, Try.ntmps18
  go_wp2_with fail
  refine (now_at g s i h0 w0 _ HN.out.st.is HN.out.st.bel).mono ?_
  rintro e w2 ⟨rfl, hS2⟩
  have HN2 := Aside0.mk (HN.out.trans hS2)
  clear hS2 HN
  have c1 := HN2.out.st.cell1
  have f1 := blk_frozen HN2.out.st.is.1 1
  go_wp2_with fail
  have HN3 := Aside0.mk (HN2.out.trans ((St.start HN2.out.st.is HN2.out.st.bel).set (i + 1)))
  clear HN2 c1 f1
  generalize w2.setCell _ _ = w3 at *
  have hr3 : i ≤ i + 1 ∧ i + 1 ≤ (s.size : Int) := ⟨by omega, by omega⟩
  generalize hi3 : i + 1 = i3 at *
  have Hi3 := Aside0.mk hi3
  clear hi3
  have c0 := HN3.out.st.cell0
  have c1 := HN3.out.st.cell1
  have d0 := blk_cell HN3.out.res 0
  have d1 := blk_cell HN3.out.res 1
  have d2 := blk_cell HN3.out.res 2
  have e0 := blk_frozen HN3.out.res 0
  have e1 := blk_frozen HN3.out.res 1
  have e2 := blk_frozen HN3.out.res 2
  go_still_tail 13, (by kernel_rfl)
  go_wp2_with fail
  have hst := HN3.out.stored (.int .i64 3) (.string (s.extract i.toNat i3.toNat)) (.int .i64 i)
  exact bodyPost_ret (res18 (v := .bool true) hst.2 _ rfl rfl) rfl ⟨by rw [Hi3.out], by rw [Hi3.out]; exact hst.1⟩

theorem next_none (g : Nat) (s : ByteArray) (hs : s.size ≤ 140737488351232) (i : Int) (h0 : 0 ≤ i) (h1 : at_ s i ≠ 1) (h4 : at_ s i ≠ 4) (h7 : at_ s i ≠ 7) (h2 : at_ s i ≠ 2) (w0 w : World) (hI : IsS40 w0 w g s i) (hB : Below w0.heap.size w0 w) :
    Calls Try.prog 18 #[.pointer (some ⟨g, 0, none⟩)] w fun e w' => e = .returned (.tuple #[.agg #[.int .i64 0, .string ⟨#[]⟩, .int .i64 0], .bool false]) ∧ St w0 w w' g s i := by
  have HN := Aside0.mk (Nx.new hI hB)
  have hcb1 : (at_ s i == 1) = false := beq_eq_false_iff_ne.2 h1
  have hcb4 : (at_ s i == 4) = false := beq_eq_false_iff_ne.2 h4
  have hcb7 : (at_ s i == 7) = false := beq_eq_false_iff_ne.2 h7
  have hcb2 : (at_ s i == 2) = false := beq_eq_false_iff_ne.2 h2
  have c1 := cellS40_1 hI.1
  have hgl := hI.lt
  clear hI hB h1 h4 h7 h2
  go_enter Try.func18, Try.ntmps18
  go_wp2_with fail
  refine (now_at g s i h0 w0 _ HN.out.st.is HN.out.st.bel).mono ?_
  rintro e w2 ⟨rfl, hS2⟩
  have HN3 := Aside0.mk (HN.out.trans hS2)
  clear hS2 HN
  have c0 := HN3.out.st.cell0
  have c1 := HN3.out.st.cell1
  have d0 := blk_cell HN3.out.res 0
  have d1 := blk_cell HN3.out.res 1
  have d2 := blk_cell HN3.out.res 2
  have e0 := blk_frozen HN3.out.res 0
  have e1 := blk_frozen HN3.out.res 1
  have e2 := blk_frozen HN3.out.res 2
  go_wp2_with fail
  have hst := HN3.out.stored0 (.int .i64 0) (.string ⟨#[]⟩) (.int .i64 0)
  exact bodyPost_ret (res18 (v := .bool false) hst.2 _ rfl rfl) rfl ⟨rfl, hst.1⟩
def numOK (sg : Bool) (d : ByteArray) : Bool := (lexer_number.f sg d).getD false
theorem number_f (sg : Bool) (d : ByteArray) : lexer_number.f sg d = some (numOK sg d) := by
  unfold numOK lexer_number.f
  by_cases h : d.toList = []
  · rw [if_pos h]; rfl
  · rw [if_neg h]
    have hp : 0 < (d.size : Int) := by
      rcases Nat.eq_zero_or_pos d.size with h0 | h0
      · exact absurd (by rw [ByteArray.toList_eq, Array.eq_empty_of_size_eq_zero (show d.data.size = 0 from h0)]) h
      · omega
    rw [if_pos hp]
    split
    · rfl
    · split
      · split <;> rfl
      · rfl
theorem Nx.drew {w0 w W : World} {g b : Nat} {s : ByteArray} {i : Int} (h : Nx w0 w W g b s i) : Nx w0 w W.drew g b s i := ⟨h.st.drew, h.res, h.ne, h.ge, h.ge0⟩
theorem Nx.drewN {w0 w W : World} {g b : Nat} {s : ByteArray} {i : Int} (h : Nx w0 w W g b s i) (n : Nat) : Nx w0 w (W.drewN n) g b s i := ⟨h.st.drewN n, h.res, h.ne, h.ge, h.ge0⟩
theorem Nx.held {w0 w W : World} {g b : Nat} {s : ByteArray} {i : Int} (h : Nx w0 w W g b s i) :
    W.cell? ⟨g, 0, none⟩ = some (.string s) ∧ W.cell? ⟨g, 1, none⟩ = some (.int .i64 i) ∧ Aside0 (Nx w0 w W g b s i) := ⟨h.st.cell0, h.st.cell1, ⟨h⟩⟩

/-- where the digits begin -/
def firstAt (sg : Bool) (i : Int) : Int := if sg = true then i + 1 else i

set_option maxHeartbeats 4000000 in
theorem next_number (sg v wd : Bool) (g : Nat) (s : ByteArray) (hs : s.size ≤ 140737488351232) (i j : Int) (h0 : 0 ≤ i) (hc : at_ s i = if sg = true then 7 else 2)
    (hj : scanTo (digitAt s) s.size (firstAt sg i) = j) (hv : numOK sg (s.extract (firstAt sg i).toNat j.toNat) = v) (hw : wordAt s j = wd) (w0 w : World) (hI : IsS40 w0 w g s i) (hB : Below w0.heap.size w0 w) :
    Calls Try.prog 18 #[.pointer (some ⟨g, 0, none⟩)] w fun e w' => e = .returned (if (v && !wd) = true then .tuple #[.agg #[.int .i64 2, .string (s.extract i.toNat j.toNat), .int .i64 i], .bool true] else .tuple #[.agg #[.int .i64 0, .string ⟨#[]⟩, .int .i64 0], .bool false]) ∧ St w0 w w' g s j := by
  have hmf : ∀ (fn : Fn) (first cap : Array Value) (w : World), (Instr.makeFunc fn first cap).run Try.prog w = .ok (.func fn first cap) w := fun _ _ _ _ => rfl
  have hlt := (at_some (by cases sg <;> simp) hc).1
  have HN := Aside0.mk (Nx.new hI hB)
  have c1 := cellS40_1 hI.1
  have hgl := hI.lt
  clear hI hB
  have Hj := Aside0.mk hj
  have Hv := Aside0.mk (hv ▸ number_f sg (s.extract (firstAt sg i).toNat j.toNat))
  have Hw := Aside0.mk hw
  clear hj hv hw
  cases sg with
  | true =>
    simp only [if_true, firstAt] at *
    have hcb : (at_ s i == 7) = true := beq_iff_eq.2 hc
    have hcb1 : (at_ s i == 1) = false := beq_eq_false_iff_ne.2 (by omega)
    have hcb4 : (at_ s i == 4) = false := beq_eq_false_iff_ne.2 (by omega)
    have Hc := Aside0.mk hc
    clear hc
    go_enter Try.func18, Try.ntmps18
    go_wp2_with fail
    refine (now_at g s i h0 w0 _ HN.out.st.is HN.out.st.bel).mono ?_
    rintro e w2 ⟨rfl, hS2⟩
    have HN2 := Aside0.mk (HN.out.trans hS2)
    clear hS2 HN
    go_wp2_with fail
    refine (now_at g s i h0 w0 _ HN2.out.st.is HN2.out.st.bel).mono ?_
    rintro e w3 ⟨rfl, hS3⟩
    have HN3 := Aside0.mk (HN2.out.trans hS3)
    clear hS3 HN2
    have c1 := HN3.out.st.cell1
    have f1 := blk_frozen HN3.out.st.is.1 1
    go_wp2_with fail
    refine (while_digit g s hs (i + 1) (by omega) (by omega) w0 _ (HN3.out.st.set (i + 1)).is (HN3.out.st.set (i + 1)).bel).mono ?_
    rintro e w4 ⟨rfl, hS4⟩
    have HN4 := Aside0.mk ((HN3.out.trans ((St.start HN3.out.st.is HN3.out.st.bel).set (i + 1))).trans hS4)
    have hr4 := scanTo_range (digitAt s) s.size (i + 1) (by omega)
    rw [Hj.out] at HN4 hr4
    clear hS4 HN3 c1 f1
    have hij : i ≤ j := by omega
    have hp1 : 0 ≤ i + 1 := by omega
    have Hv' : Aside0 (lexer_number.f true (s.extract (i + 1).toNat j.toNat) = some v) := Hv
    generalize hi1 : i + 1 = i1 at *
    have Hi1 := Aside0.mk hi1
    clear hi1
    go_wp2_with fail
    have HN5 := HN4
    clear HN4
    cases v with
    | false =>
      have c0 := HN5.out.st.cell0
      have c1 := HN5.out.st.cell1
      have HQ : ∀ n, Calls Try.prog 28 #[.bool true, .string (s.extract i1.toNat j.toNat)] (w4.drewN n) fun e w' => e = .returned (.bool false) ∧ ∃ m, w' = (w4.drewN n).drewN m := fun n => (lexer_number.calls true _ _ _ Hv'.out).mono fun e w' ⟨he, hd⟩ => ⟨he, hd.out⟩
      have HQ' := Aside0.mk HQ
      clear HQ
      go_quiet ((go_at_call 28; exact Calls.quiet_of (HQ'.out _)))
      have HN6 := Aside0.mk (HN5.out.drewN nq)
      clear HN5 c0 c1
      have d0 := blk_cell HN6.out.res 0
      have d1 := blk_cell HN6.out.res 1
      have d2 := blk_cell HN6.out.res 2
      have e0 := blk_frozen HN6.out.res 0
      have e1 := blk_frozen HN6.out.res 1
      have e2 := blk_frozen HN6.out.res 2
      go_wp2_with fail
      have hst := HN6.out.stored0 (.int .i64 0) (.string ⟨#[]⟩) (.int .i64 0)
      exact bodyPost_ret (res18 (v := .bool false) hst.2 _ rfl rfl) rfl ⟨rfl, hst.1⟩
    | true =>
      cases wd with
      | true =>
        have HS := HN5
        go_region_held3 (fun W' => W'.cell? ⟨g, 0, none⟩ = some (.string s) ∧ W'.cell? ⟨g, 1, none⟩ = some (.int .i64 j) ∧ Aside0 (Nx w0 w W' g w.heap.size s j)) (first | exact HS.out.drew.held | exact (HS.out.drewN _).held | exact ((HS.out.drewN _).trans hst).held) (first | (go_at_call 28; refine (lexer_number.calls true _ _ _ Hv'.out).mono ?_; rintro e w' ⟨rfl, ⟨nd, rfl⟩⟩) | (go_at_call 26; refine (named_at g s w0 _ j (by omega) (HS.out.drewN _).st.is (HS.out.drewN _).st.bel).mono ?_; rw [Hw.out]; rintro e w' ⟨rfl, hst⟩))
        all_goals
        have HN6 := Aside0.mk ((HS.out.drewN _).trans hst)
        clear HS HN5
        have d0 := blk_cell HN6.out.res 0
        have d1 := blk_cell HN6.out.res 1
        have d2 := blk_cell HN6.out.res 2
        have e0 := blk_frozen HN6.out.res 0
        have e1 := blk_frozen HN6.out.res 1
        have e2 := blk_frozen HN6.out.res 2
        go_wp2_with fail
        have hst := HN6.out.stored0 (.int .i64 0) (.string ⟨#[]⟩) (.int .i64 0)
        exact bodyPost_ret (res18 (v := .bool false) hst.2 _ rfl rfl) rfl ⟨rfl, hst.1⟩
      | false =>
        have HS := HN5
        go_region_held3 (fun W' => W'.cell? ⟨g, 0, none⟩ = some (.string s) ∧ W'.cell? ⟨g, 1, none⟩ = some (.int .i64 j) ∧ Aside0 (Nx w0 w W' g w.heap.size s j)) (first | exact HS.out.drew.held | exact (HS.out.drewN _).held | exact ((HS.out.drewN _).trans hst).held) (first | (go_at_call 28; refine (lexer_number.calls true _ _ _ Hv'.out).mono ?_; rintro e w' ⟨rfl, ⟨nd, rfl⟩⟩) | (go_at_call 26; refine (named_at g s w0 _ j (by omega) (HS.out.drewN _).st.is (HS.out.drewN _).st.bel).mono ?_; rw [Hw.out]; rintro e w' ⟨rfl, hst⟩))
        all_goals
        have HN6 := Aside0.mk ((HS.out.drewN _).trans hst)
        clear HS HN5 hst
        have c0 := HN6.out.st.cell0
        have c1 := HN6.out.st.cell1
        have d0 := blk_cell HN6.out.res 0
        have d1 := blk_cell HN6.out.res 1
        have d2 := blk_cell HN6.out.res 2
        have e0 := blk_frozen HN6.out.res 0
        have e1 := blk_frozen HN6.out.res 1
        have e2 := blk_frozen HN6.out.res 2
        go_wp2_with fail
        go_still_tail 13, (by kernel_rfl)
        go_wp2_with fail
        have hst := HN6.out.stored (.int .i64 2) (.string (s.extract i.toNat j.toNat)) (.int .i64 i)
        exact bodyPost_ret (res18 (v := .bool true) hst.2 _ rfl rfl) rfl ⟨rfl, hst.1⟩
  | false =>
    simp only [Bool.false_eq_true, if_false, firstAt] at *
    have hcb7 : (at_ s i == 7) = false := beq_eq_false_iff_ne.2 (by omega)
    have hcb : (at_ s i == 2) = true := beq_iff_eq.2 hc
    have hcb1 : (at_ s i == 1) = false := beq_eq_false_iff_ne.2 (by omega)
    have hcb4 : (at_ s i == 4) = false := beq_eq_false_iff_ne.2 (by omega)
    have Hc := Aside0.mk hc
    clear hc
    go_enter Try.func18, Try.ntmps18
    go_wp2_with fail
    refine (now_at g s i h0 w0 _ HN.out.st.is HN.out.st.bel).mono ?_
    rintro e w2 ⟨rfl, hS2⟩
    have HN2 := Aside0.mk (HN.out.trans hS2)
    clear hS2 HN
    go_wp2_with fail
    refine (now_at g s i h0 w0 _ HN2.out.st.is HN2.out.st.bel).mono ?_
    rintro e w3 ⟨rfl, hS3⟩
    have HN3 := Aside0.mk (HN2.out.trans hS3)
    clear hS3 HN2
    have c1 := HN3.out.st.cell1
    have f1 := blk_frozen HN3.out.st.is.1 1
    go_wp2_with fail
    refine (while_digit g s hs i (by omega) (by omega) w0 _ HN3.out.st.is HN3.out.st.bel).mono ?_
    rintro e w4 ⟨rfl, hS4⟩
    have HN4 := Aside0.mk (HN3.out.trans hS4)
    have hr4 := scanTo_range (digitAt s) s.size i (by omega)
    rw [Hj.out] at HN4 hr4
    clear hS4 HN3 c1 f1
    have Hv' : Aside0 (lexer_number.f false (s.extract i.toNat j.toNat) = some v) := Hv
    go_wp2_with fail
    have HN5 := HN4
    clear HN4
    cases v with
    | false =>
      have c0 := HN5.out.st.cell0
      have c1 := HN5.out.st.cell1
      have HQ : ∀ n, Calls Try.prog 28 #[.bool false, .string (s.extract i.toNat j.toNat)] (w4.drewN n) fun e w' => e = .returned (.bool false) ∧ ∃ m, w' = (w4.drewN n).drewN m := fun n => (lexer_number.calls false _ _ _ Hv'.out).mono fun e w' ⟨he, hd⟩ => ⟨he, hd.out⟩
      have HQ' := Aside0.mk HQ
      clear HQ
      go_quiet ((go_at_call 28; exact Calls.quiet_of (HQ'.out _)))
      have HN6 := Aside0.mk (HN5.out.drewN nq)
      clear HN5 c0 c1
      have d0 := blk_cell HN6.out.res 0
      have d1 := blk_cell HN6.out.res 1
      have d2 := blk_cell HN6.out.res 2
      have e0 := blk_frozen HN6.out.res 0
      have e1 := blk_frozen HN6.out.res 1
      have e2 := blk_frozen HN6.out.res 2
      go_wp2_with fail
      have hst := HN6.out.stored0 (.int .i64 0) (.string ⟨#[]⟩) (.int .i64 0)
      exact bodyPost_ret (res18 (v := .bool false) hst.2 _ rfl rfl) rfl ⟨rfl, hst.1⟩
    | true =>
      cases wd with
      | true =>
        have HS := HN5
        go_region_held3 (fun W' => W'.cell? ⟨g, 0, none⟩ = some (.string s) ∧ W'.cell? ⟨g, 1, none⟩ = some (.int .i64 j) ∧ Aside0 (Nx w0 w W' g w.heap.size s j)) (first | exact HS.out.drew.held | exact (HS.out.drewN _).held | exact ((HS.out.drewN _).trans hst).held) (first | (go_at_call 28; refine (lexer_number.calls false _ _ _ Hv'.out).mono ?_; rintro e w' ⟨rfl, ⟨nd, rfl⟩⟩) | (go_at_call 26; refine (named_at g s w0 _ j (by omega) (HS.out.drewN _).st.is (HS.out.drewN _).st.bel).mono ?_; rw [Hw.out]; rintro e w' ⟨rfl, hst⟩))
        all_goals
        have HN6 := Aside0.mk ((HS.out.drewN _).trans hst)
        clear HS HN5
        have d0 := blk_cell HN6.out.res 0
        have d1 := blk_cell HN6.out.res 1
        have d2 := blk_cell HN6.out.res 2
        have e0 := blk_frozen HN6.out.res 0
        have e1 := blk_frozen HN6.out.res 1
        have e2 := blk_frozen HN6.out.res 2
        go_wp2_with fail
        have hst := HN6.out.stored0 (.int .i64 0) (.string ⟨#[]⟩) (.int .i64 0)
        exact bodyPost_ret (res18 (v := .bool false) hst.2 _ rfl rfl) rfl ⟨rfl, hst.1⟩
      | false =>
        have HS := HN5
        go_region_held3 (fun W' => W'.cell? ⟨g, 0, none⟩ = some (.string s) ∧ W'.cell? ⟨g, 1, none⟩ = some (.int .i64 j) ∧ Aside0 (Nx w0 w W' g w.heap.size s j)) (first | exact HS.out.drew.held | exact (HS.out.drewN _).held | exact ((HS.out.drewN _).trans hst).held) (first | (go_at_call 28; refine (lexer_number.calls false _ _ _ Hv'.out).mono ?_; rintro e w' ⟨rfl, ⟨nd, rfl⟩⟩) | (go_at_call 26; refine (named_at g s w0 _ j (by omega) (HS.out.drewN _).st.is (HS.out.drewN _).st.bel).mono ?_; rw [Hw.out]; rintro e w' ⟨rfl, hst⟩))
        all_goals
        have HN6 := Aside0.mk ((HS.out.drewN _).trans hst)
        clear HS HN5 hst
        have c0 := HN6.out.st.cell0
        have c1 := HN6.out.st.cell1
        have d0 := blk_cell HN6.out.res 0
        have d1 := blk_cell HN6.out.res 1
        have d2 := blk_cell HN6.out.res 2
        have e0 := blk_frozen HN6.out.res 0
        have e1 := blk_frozen HN6.out.res 1
        have e2 := blk_frozen HN6.out.res 2
        go_wp2_with fail
        go_still_tail 13, (by kernel_rfl)
        go_wp2_with fail
        have hst := HN6.out.stored (.int .i64 2) (.string (s.extract i.toNat j.toNat)) (.int .i64 i)
        exact bodyPost_ret (res18 (v := .bool true) hst.2 _ rfl rfl) rfl ⟨rfl, hst.1⟩

/-- the next token at i: its kind, its text, its place, whether there is one, and where the scanner stands behind it -/
def nextAt (s : ByteArray) (i : Int) : Int × ByteArray × Int × Bool × Int :=
  if at_ s i = 1 then (1, s.extract i.toNat (scanTo (wordAt s) s.size i).toNat, i, true, scanTo (wordAt s) s.size i)
  else if at_ s i = 4 then (3, s.extract i.toNat (i + 1).toNat, i, true, i + 1)
  else if at_ s i = 7 ∨ at_ s i = 2 then
    let sg : Bool := at_ s i == 7
    let j := scanTo (digitAt s) s.size (firstAt sg i)
    if (numOK sg (s.extract (firstAt sg i).toNat j.toNat) && !wordAt s j) = true then (2, s.extract i.toNat j.toNat, i, true, j) else (0, ⟨#[]⟩, 0, false, j)
  else (0, ⟨#[]⟩, 0, false, i)
def lexer_text_next.f (s : ByteArray) (i : Int) : Option (Int × ByteArray × Int × Bool × ByteArray × Int) :=
  if 0 ≤ i ∧ s.size ≤ 140737488351232 then some ((nextAt s i).1, (nextAt s i).2.1, (nextAt s i).2.2.1, (nextAt s i).2.2.2.1, s, (nextAt s i).2.2.2.2) else none
theorem lexer_text_next.calls (g : Nat) (s0_0 : ByteArray) (s0_1 : Int) (r1 : Int) (r2 : ByteArray) (r3 : Int) (r4 : Bool) (r5 : ByteArray) (r6 : Int) (w0 w : World) (hI : IsS40 w0 w g s0_0 s0_1) (hB : Below w0.heap.size w0 w) (h : lexer_text_next.f s0_0 s0_1 = some (r1, r2, r3, r4, r5, r6)) :
    Calls Try.prog 18 #[.pointer (some ⟨g, 0, none⟩)] w fun e w' => e = .returned (.tuple #[.agg #[.int .i64 r1, .string r2, .int .i64 r3], .bool r4]) ∧ IsS40 w0 w' g r5 r6 ∧ Below w0.heap.size w0 w' ∧ KeepBut w w' g none := by
  unfold lexer_text_next.f at h
  split at h
  · rename_i hc
    simp only [Option.some.injEq, Prod.mk.injEq] at h
    obtain ⟨rfl, rfl, rfl, rfl, rfl, rfl⟩ := h
    unfold nextAt
    by_cases h1 : at_ s0_0 s0_1 = 1
    · simp only [if_pos h1]
      exact (next_word g s0_0 hc.2 s0_1 hc.1 h1 w0 w hI hB).mono fun e w' ⟨he, hS⟩ => ⟨he, hS.is, hS.bel, hS.kept⟩
    · simp only [if_neg h1]
      by_cases h4 : at_ s0_0 s0_1 = 4
      · simp only [if_pos h4]
        exact (next_sign g s0_0 hc.2 s0_1 hc.1 h4 w0 w hI hB).mono fun e w' ⟨he, hS⟩ => ⟨he, hS.is, hS.bel, hS.kept⟩
      · simp only [if_neg h4]
        by_cases h7 : at_ s0_0 s0_1 = 7 ∨ at_ s0_0 s0_1 = 2
        · simp only [if_pos h7]
          have hcc : at_ s0_0 s0_1 = if (at_ s0_0 s0_1 == 7) = true then 7 else 2 := by
            rcases h7 with h7 | h7 <;> simp [h7]
          refine (next_number _ _ _ g s0_0 hc.2 s0_1 _ hc.1 hcc rfl rfl rfl w0 w hI hB).mono fun e w' ⟨he, hS⟩ => ?_
          split
          · rename_i hv
            rw [if_pos hv] at he
            exact ⟨he, hS.is, hS.bel, hS.kept⟩
          · rename_i hv
            rw [if_neg hv] at he
            exact ⟨he, hS.is, hS.bel, hS.kept⟩
        · simp only [if_neg h7]
          exact (next_none g s0_0 hc.2 s0_1 hc.1 h1 h4 (fun h => h7 (.inl h)) (fun h => h7 (.inr h)) w0 w hI hB).mono fun e w' ⟨he, hS⟩ => ⟨he, hS.is, hS.bel, hS.kept⟩
  · exact absurd h (by simp)

/-! ### lexer_Lex: function 12 -/
theorem skipR_range (s : ByteArray) : ∀ (k : Nat) (i : Int), 0 ≤ i → i ≤ (s.size : Int) → i ≤ skipR s k i ∧ skipR s k i ≤ (s.size : Int) := by
  intro k
  induction k with
  | zero => intro i h0 h1; simp only [skipR]; omega
  | succ k ih =>
    intro i h0 h1
    simp only [skipR]
    split
    · have h2 := scanTo_range (lineAt s) s.size i h1
      have h3 := scanTo_range (blankAt s) s.size (scanTo (lineAt s) s.size i) h2.2
      have := ih _ (by omega) h3.2
      omega
    · omega
theorem skipTo_range (s : ByteArray) (i : Int) (h0 : 0 ≤ i) (h1 : i ≤ (s.size : Int)) : i ≤ skipTo s i ∧ skipTo s i ≤ (s.size : Int) := by
  have h2 := scanTo_range (blankAt s) s.size i h1
  have := skipR_range s s.size (scanTo (blankAt s) s.size i) (by omega) h2.2
  unfold skipTo
  omega
theorem word_of_one {s : ByteArray} {i : Int} (h : at_ s i = 1) : wordAt s i = true := by simp [wordAt, h]
theorem numOK_pos {sg : Bool} {d : ByteArray} (h : numOK sg d = true) : 0 < d.size := by
  rcases Nat.eq_zero_or_pos d.size with h0 | h0
  · exfalso
    have hd : d.toList = [] := by rw [ByteArray.toList_eq, Array.eq_empty_of_size_eq_zero (show d.data.size = 0 from h0)]
    have := number_f sg d
    rw [h, lexer_number.f, if_pos hd] at this
    simp at this
  · exact h0
theorem nextAt_range (s : ByteArray) (i : Int) (h0 : 0 ≤ i) (h1 : i ≤ (s.size : Int)) (hok : (nextAt s i).2.2.2.1 = true) : i + 1 ≤ (nextAt s i).2.2.2.2 ∧ (nextAt s i).2.2.2.2 ≤ (s.size : Int) := by
  unfold nextAt at hok ⊢
  by_cases c1 : at_ s i = 1
  · simp only [if_pos c1] at hok ⊢
    have hlt := (at_some (by decide) c1).1
    exact ⟨scanTo_step hlt (word_of_one c1), (scanTo_range _ _ _ h1).2⟩
  · simp only [if_neg c1] at hok ⊢
    by_cases c4 : at_ s i = 4
    · simp only [if_pos c4] at hok ⊢
      have hlt := (at_some (by decide) c4).1
      omega
    · simp only [if_neg c4] at hok ⊢
      by_cases c7 : at_ s i = 7 ∨ at_ s i = 2
      · simp only [if_pos c7] at hok ⊢
        have hlt : i < (s.size : Int) := by rcases c7 with c | c <;> exact (at_some (by decide) c).1
        have hf : i ≤ firstAt (at_ s i == 7) i ∧ firstAt (at_ s i == 7) i ≤ (s.size : Int) := by unfold firstAt; split <;> omega
        generalize firstAt (at_ s i == 7) i = f at *
        have hr := scanTo_range (digitAt s) s.size f hf.2
        generalize scanTo (digitAt s) s.size f = j at *
        split at hok
        · rename_i hc
          rw [if_pos hc]
          simp only [Bool.and_eq_true] at hc
          have hp := numOK_pos hc.1
          rw [ByteArray.size_extract] at hp
          simp only
          omega
        · simp at hok
      · simp only [if_neg c7] at hok
        exact absurd hok (by simp)

/-- the tokens from i on, behind those that were read; at most k of them -/
def lexGo (s : ByteArray) : Nat → Int → List S31 → List S31 × Int × Int
  | 0, _, acc => (acc, 0, 0)
  | k + 1, i, acc =>
    if i < (s.size : Int) then
      if (nextAt s i).2.2.2.1 = true then lexGo s k (skipTo s (nextAt s i).2.2.2.2) (acc ++ [⟨(nextAt s i).1, (nextAt s i).2.1, (nextAt s i).2.2.1⟩])
      else ([], 100, i)
    else (acc, 0, 0)
def lexB (s : ByteArray) : List S31 × Int × Int := if s.size > 20000 then ([], 2, 0) else lexGo s (s.size + 1) (skipTo s 0) []

def lexer_Lex.f (a0 : ByteArray) : Option (List S31 × Int × Int) := some (lexB a0)

theorem lexer_Lex.calls (a0 : ByteArray) (r1 : List (S31)) (r2 : Int) (r3 : Int) (w : World) (h : lexer_Lex.f a0 = some (r1, r2, r3)) :
    Calls Try.prog 12 #[.string a0] w fun e w' => ∃ v0_ : Value, e = .returned (.tuple #[v0_, .int .i64 r2, .int .i64 r3]) ∧ Kd.R k31 31 w' w.heap.size (fun _ => True) v0_ r1 ∧ Below w.heap.size w w' := by
  unfold lexer_Lex.f lexB at h
  have huT := Try.underlying31
  by_cases c2 : a0.size > 20000
  · rw [if_pos c2] at h
    simp only [Option.some.injEq, Prod.mk.injEq] at h
    obtain ⟨rfl, rfl, rfl⟩ := h
    have c2b0 : decide (20000 < (a0.size : Int)) = true := decide_eq_true (by omega)
    have c2b1 : decide (20000 < a0.size) = true := decide_eq_true c2
    clear c2
    go_enter Try.func12, Try.ntmps12
    go_wp2
    go_ret3
    exact ⟨_, rfl, Kd.R_nil _ _ _ _ _, Below.refl _ _⟩
  · rw [if_neg c2] at h
    have c2b0 : decide (20000 < (a0.size : Int)) = false := decide_eq_false (by omega)
    have c2b1 : decide (20000 < a0.size) = false := decide_eq_false c2
    have H := Aside0.mk (Option.some.inj h)
    clear h
    have hsz : a0.size ≤ 20000 := by omega
    clear c2
    go_enter Try.func12, Try.ntmps12
    go_wp2_with fail
    have hs2 : a0.size ≤ 140737488351232 := by omega
    have HI := Aside0.mk (IsS40.new w w a0 0 (Below.refl _ _))
    have HB := Aside0.mk (below_alloc (Below.refl w.heap.size w) (.cells #[.string a0, .int .i64 0] 40))
    refine (skip_any w.heap.size a0 hs2 0 (by omega) (by omega) w _ HI.out HB.out).mono ?_
    rintro e w1 ⟨rfl, hS1⟩
    have hr := skipTo_range a0 0 (by omega) (by omega)
    have HS1 := Aside0.mk hS1
    clear hS1
    clear HI HB
    have Hg : Aside0 (∃ g : Nat, g = w.heap.size) := ⟨⟨_, rfl⟩⟩
    go_wp2_with fail
    go_loopg [6] (a0.size + 1) (fun kq v wr => ∃ (i : Int) (acc : List S31), Aside0 (0 < kq ∧ ((a0.size : Int) - i).toNat < kq ∧ acc.length + kq ≤ a0.size + 1 ∧ 0 ≤ i ∧ i ≤ (a0.size : Int) ∧ lexGo a0 kq i acc = (r1, r2, r3) ∧ Kd.R k31 31 wr w.heap.size (fun k => k ≠ w.heap.size) v acc ∧ IsS40 w wr w.heap.size a0 i ∧ Below w.heap.size w wr))
    case atStart => exact ⟨skipTo a0 0, [], ⟨by omega, by omega, by simp, by omega, by omega, H.out, Kd.R_nil _ _ _ _ _, HS1.out.is, HS1.out.bel⟩⟩
    case round =>
      clear H HS1
      obtain ⟨i, acc, ⟨hk0, hk, hlen, hi0, hi1, hgo, hR, hI, hB⟩⟩ := hrel
      cases gk with
      | zero => exact absurd hk0 (by omega)
      | succ k =>
        simp only [lexGo] at hgo
        have HR := Aside0.mk hR
        have HI := Aside0.mk hI
        have HB := Aside0.mk hB
        have c0 := cellS40_0 hI.1
        have c1 := cellS40_1 hI.1
        have hgl := hI.lt
        clear hR hI hB
        by_cases c6 : i < (a0.size : Int)
        · rw [if_pos c6] at hgo
          have c6b0 : decide (i < (a0.size : Int)) = true := decide_eq_true c6
          have hnr := nextAt_range a0 i hi0 hi1
          have HN := lexer_text_next.calls w.heap.size a0 i (nextAt a0 i).1 (nextAt a0 i).2.1 (nextAt a0 i).2.2.1 (nextAt a0 i).2.2.2.1 a0 (nextAt a0 i).2.2.2.2 w wr HI.out HB.out (by rw [lexer_text_next.f, if_pos ⟨hi0, hs2⟩])
          generalize nextAt a0 i = x at *
          obtain ⟨x1, x2, x3, x4, x5⟩ := x
          simp only at hgo hnr HN
          have HN' := Aside0.mk HN
          clear HN
          cases x4 with
          | false =>
            rw [if_neg (by simp)] at hgo
            simp only [Prod.mk.injEq] at hgo
            obtain ⟨rfl, rfl, rfl⟩ := hgo
            go_wp2_with fail
            refine HN'.out.mono ?_
            rintro e w2 ⟨rfl, hI2, hB2, hK2⟩
            have HB2 := Aside0.mk hB2
            have hlt2 := hI2.lt
            clear hI2 hB2 hK2
            go_wp2_with fail
            go_ret3
            exact ⟨_, rfl, Kd.R_nil _ _ _ _ _, by repeat (first | exact HB2.out | apply below_alloc)⟩
          | true =>
            rw [if_pos rfl] at hgo
            go_wp2_with fail
            refine HN'.out.mono ?_
            rintro e w2 ⟨rfl, hI2, hB2, hK2⟩
            have HR2 := Aside0.mk (Kd.R_keep HR.out hK2 (fun _ h => h))
            have HI2 := Aside0.mk hI2
            have HB2 := Aside0.mk hB2
            have HW2 := Aside0.mk hI2.lt
            have Hgo := Aside0.mk hgo
            have hn1 : x5 ≤ (a0.size : Int) ∧ i + 1 ≤ x5 := by have := hnr; simp only [forall_const] at this; omega
            have Hlen := Aside0.mk hlen
            clear hI2 hB2 hK2 HR HI HB HN' hgo hnr hlen c0 c1
            go_wp2_with (at_builtin; refine Kd.R_append k31 (w0 := w) w.heap.size rfl (.tmp 39) (.tmp 41) 24 31 (.agg #[(.int .i64 0), (.string ⟨#[]⟩), (.int .i64 0)]) 32 rfl Try.underlying24 info31 rfl (by decide) (by omega) u6 acc (⟨x1, x2, x3⟩ : S31) [.int .i64 x1, .string x2, .int .i64 x3] (fun k_ => k_ ≠ w.heap.size) (fun _ => False) rfl (by first | (go_simp; done) | (go_simp; rfl)) ?aP (fun _ hk => hk.elim) ?aF ?aO ?aB ?aS ?aL ?_)
            case aP => exact k31_mkM _ _ _ (⟨x1, x2, x3⟩ : S31)
            case aF => intro k hk; have := HW2.out; simp at hk; omega
            case aO => exact Kd.R_alloc HR2.out _
            case aB => exact below_alloc HB2.out _
            case aS => have := HW2.out; simp; omega
            case aL => have := Hlen.out; omega
            intro v1 w3 hR3 hB3 hg3 hat3
            have hI3 := (HI2.out.alloc (.cells #[.int .i64 x1, .string x2, .int .i64 x3] 31)).grown hg3 (Kd.R_away HR2.out (fun _ h => h))
            have HR3 := Aside0.mk hR3
            have HB3 := Aside0.mk hB3
            have HI3 := Aside0.mk hI3
            clear hI3 hR3 hB3 hg3 hat3 HR2 HI2 HB2 HW2
            go_wp2_with fail
            refine (skip_any w.heap.size a0 hs2 x5 (by omega) (by omega) w _ HI3.out HB3.out).mono ?_
            rintro e w4 ⟨rfl, hS4⟩
            have hr4 := skipTo_range a0 x5 (by omega) (by omega)
            have HS4 := Aside0.mk hS4
            have HR4 := Aside0.mk (Kd.R_keep HR3.out hS4.kept (fun _ h => h))
            clear hS4 HR3 HB3 HI3
            go_wp2_with fail
            go_roundg k
            case measure => omega
            case rel =>
              have := Hlen.out
              exact ⟨skipTo a0 x5, acc ++ [⟨x1, x2, x3⟩], ⟨by omega, by omega, by simp; omega, by omega, by omega, Hgo.out, HR4.out, HS4.out.is, HS4.out.bel⟩⟩
        · rw [if_neg c6] at hgo
          have c6b0 : decide (i < (a0.size : Int)) = false := decide_eq_false c6
          simp only [Prod.mk.injEq] at hgo
          obtain ⟨rfl, rfl, rfl⟩ := hgo
          go_wp2_with fail
          go_ret3
          exact ⟨_, rfl, Kd.R_mono HR.out (fun _ _ => trivial), HB.out⟩

/-! ### ambidexterlaw10_head: function 10 -/
attribute [local go_sem high] eqA31
theorem ambidexterlaw_lex (a0 : ByteArray) (r1 : List S31) (r2 r3 : Int) (h : lexB a0 = (r1, r2, r3)) (w : World) :
    Calls Try.prog 12 #[.string a0] w fun e w' => ∃ v0_ : Value, e = .returned (.tuple #[v0_, .int .i64 r2, .int .i64 r3]) ∧ Kd.R k31 31 w' w.heap.size (fun _ => True) v0_ r1 ∧ Below w.heap.size w w' :=
  lexer_Lex.calls a0 r1 r2 r3 w (by rw [lexer_Lex.f, h])
theorem lex_h1 : lexB ⟨#[103, 111, 32, 49, 40, 45, 51, 41, 59]⟩ = ([⟨1, ⟨#[103, 111]⟩, 0⟩, ⟨2, ⟨#[49]⟩, 3⟩, ⟨3, ⟨#[40]⟩, 4⟩, ⟨2, ⟨#[45, 51]⟩, 5⟩, ⟨3, ⟨#[41]⟩, 7⟩, ⟨3, ⟨#[59]⟩, 8⟩], 0, 0) := by kernel_rfl
theorem lex_h2 : lexB ⟨#[97, 32, 35, 32, 98]⟩ = ([⟨1, ⟨#[97]⟩, 0⟩], 0, 0) := by kernel_rfl
theorem lex_h3 : lexB ⟨#[55, 120]⟩ = ([], 100, 0) := by kernel_rfl
theorem lex_h4 : lexB ⟨#[119, 97, 105, 116, 32, 48, 48, 55, 59]⟩ = ([], 100, 5) := by kernel_rfl

set_option maxHeartbeats 2000000 in
set_option maxRecDepth 100000 in
theorem head_any (w : World) : Calls Try.prog 10 #[] w fun e w' => e = .returned (.bool true) ∧ Below w.heap.size w w' := by
  have huT := Try.underlying31
  have L1 := Aside0.mk (fun w => ambidexterlaw_lex _ _ _ _ lex_h1 w)
  have L2 := Aside0.mk (fun w => ambidexterlaw_lex _ _ _ _ lex_h2 w)
  have L3 := Aside0.mk (fun w => ambidexterlaw_lex _ _ _ _ lex_h3 w)
  have L4 := Aside0.mk (fun w => ambidexterlaw_lex _ _ _ _ lex_h4 w)
  go_enter Try.func10, Try.ntmps10
  go_wp2_with fail
  refine (L1.out _).mono ?_
  rintro e w1 ⟨v1, rfl, hR1, hB1⟩
  have HR1 := Aside0.mk hR1
  have HB1 := Aside0.mk hB1
  clear hR1 hB1
  go_wp2_with fail
  refine (L2.out _).mono ?_
  rintro e w2 ⟨v2, rfl, hR2, hB2⟩
  have HR1 := Aside0.mk (Kd.R_below HR1.out hB2)
  have HB1 := Aside0.mk (below_step HB1.out hB2)
  have HR2 := Aside0.mk hR2
  clear hR2 hB2
  go_wp2_with fail
  refine (L3.out _).mono ?_
  rintro e w3 ⟨v3, rfl, hR3, hB3⟩
  have HR1 := Aside0.mk (Kd.R_below HR1.out hB3)
  have HR2 := Aside0.mk (Kd.R_below HR2.out hB3)
  have HB1 := Aside0.mk (below_step HB1.out hB3)
  clear hR3 hB3
  go_wp2_with fail
  refine (L4.out _).mono ?_
  rintro e w4 ⟨v4, rfl, hR4, hB4⟩
  have HR1 := Aside0.mk (Kd.R_below HR1.out hB4)
  have HR2 := Aside0.mk (Kd.R_below HR2.out hB4)
  have HB1 := Aside0.mk (below_step HB1.out hB4)
  clear hR4 hB4 L1 L2 L3 L4
  obtain ⟨g1, k1, rfl, -, -, -⟩ := Kd.R_form HR1.out (by decide)
  obtain ⟨g2, k2, rfl, -, -, -⟩ := Kd.R_form HR2.out (by decide)
  obtain ⟨-, -, hC1⟩ := Kd.R_reads' HR1.out
  obtain ⟨-, -, hC2⟩ := Kd.R_reads' HR2.out
  obtain ⟨z, ez, p0, p1, p2⟩ := at_T31 hC1 0 (by omega) (by simp)
  obtain rfl := Option.some.inj ez
  clear ez
  obtain ⟨z, ez, q0, q1, q2⟩ := at_T31 hC1 1 (by omega) (by simp)
  obtain rfl := Option.some.inj ez
  clear ez
  obtain ⟨z, ez, r0, r1, r2⟩ := at_T31 hC1 2 (by omega) (by simp)
  obtain rfl := Option.some.inj ez
  clear ez
  obtain ⟨z, ez, t0, t1, t2⟩ := at_T31 hC1 3 (by omega) (by simp)
  obtain rfl := Option.some.inj ez
  clear ez
  obtain ⟨z, ez, u0, u1, u2⟩ := at_T31 hC1 5 (by omega) (by simp)
  obtain rfl := Option.some.inj ez
  clear ez
  obtain ⟨z, ez, s0, s1, s2⟩ := at_T31 hC2 0 (by omega) (by simp)
  obtain rfl := Option.some.inj ez
  clear ez
  clear hC1 hC2 HR1 HR2
  simp only [rd_T31, List.getD_cons_zero, List.getD_cons_succ, Int.toNat_zero, Int.reduceToNat, Nat.zero_mul, Nat.one_mul, Nat.reduceMul, Addr.add_lit, Nat.zero_add, Nat.reduceAdd] at p0 p1 p2 q0 q1 q2 r0 r1 r2 s0 s1 s2 t0 t1 t2 u0 u1 u2
  simp only [List.length_cons, List.length_nil, Nat.zero_add, Nat.reduceAdd]
  go_wp2_with fail
  go_ret
  exact ⟨rfl, HB1.out⟩

def ambidexterlaw10_head.f : Option Bool := some true
theorem ambidexterlaw10_head.calls (r : Bool) (w : World) (h : ambidexterlaw10_head.f = some r) :
    Calls Try.prog 10 #[] w fun e w' => e = .returned (.bool r) ∧ Below w.heap.size w w' := by
  obtain rfl := Option.some.inj h
  exact head_any w

/-! ### ambidexterlaw10_few: function 11 -/
def ambidexterlaw10_few.f (a0 : ByteArray) : Option (ByteArray) := if 0 ≤ (mn (a0.size : Int) 2000) then (if (mn (a0.size : Int) 2000) ≤ (a0.size : Int) then (some (a0.extract 0 ((mn (a0.size : Int) 2000) : Int).toNat)) else (none)) else (none)
set_option maxHeartbeats 8000000 in
set_option maxRecDepth 100000 in
theorem ambidexterlaw10_few.calls (a0 : ByteArray) (r : ByteArray) (w : World) (h : ambidexterlaw10_few.f a0 = some r) :
    Calls Try.prog 11 #[.string a0] w fun e w' => e = .returned (.string r) ∧ Below w.heap.size w w' := by
  have HB := Aside0.mk (Below.refl w.heap.size w)
  have H : (if 0 ≤ (mn (a0.size : Int) 2000) then (if (mn (a0.size : Int) 2000) ≤ (a0.size : Int) then (some (a0.extract 0 ((mn (a0.size : Int) 2000) : Int).toNat)) else (none)) else (none)) = some r := h
  clear h
  obtain ⟨ji2, hji2⟩ : ∃ j_ : Int, (mn (a0.size : Int) 2000) = j_ := ⟨_, rfl⟩
  replace H : (if 0 ≤ (ji2) then (if (ji2) ≤ (a0.size : Int) then (some (a0.extract 0 ((ji2) : Int).toNat)) else (none)) else (none)) = some r := by first | (rw [hji2] at H; exact H) | (simp only [hji2] at H ⊢; exact H)
  (try (have hji2h : ji2 ≤ 2000 := by (rw [← hji2]; unfold mn; (repeat' split) <;> omega)))
  (try (have hji2g : ji2 ≤ 64 := by omega))
  (try (have hji2l : 0 ≤ ji2 := by (rw [← hji2]; unfold mn; (repeat' split) <;> omega)))
  (try (have hji2m : 0 ≤ ji2 := by omega))
  have hji2_ : (if 2000 < (a0.size : Int) then 2000 else (a0.size : Int)) = ji2 := hji2
  by_cases c3 : 0 ≤ (ji2)
  · rw [if_pos c3] at H
    have c3b0 := eq_true c3
    have c3b1 : decide (0 ≤ (ji2)) = true := decide_eq_true c3
    clear c3
    by_cases c4 : (ji2) ≤ (a0.size : Int)
    · rw [if_pos c4] at H
      have c4b0 := eq_true c4
      have c4b1 : decide ((ji2) ≤ (a0.size : Int)) = true := decide_eq_true c4
      clear c4
      obtain rfl := Option.some.inj H
      go_enter Try.func11, Try.ntmps11
      go_wp2
      go_ret
      exact ⟨by first | rfl | (simp [errW_none, errW_some] <;> rfl) | (simp only [← hji2]; first | rfl | (simp [errW_none, errW_some] <;> rfl)) | (simp [*, errW_none, errW_some] <;> rfl), by repeat (first | (with_reducible first | exact HB.out | apply below_alloc | apply pw_below_drewN | apply below_drew1) | exact HB.out)⟩
    · rw [if_neg c4] at H
      exact absurd H (by simp)
  · rw [if_neg c3] at H
    exact absurd H (by simp)

end Go.Proofs.Ytiikijdkhmbdbaa.PLx
