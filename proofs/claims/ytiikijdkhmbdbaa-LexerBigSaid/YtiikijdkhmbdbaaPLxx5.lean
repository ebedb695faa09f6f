-- written by a program of this seat (wip/tools/printx.py) with the kit's print and the texts given beside it
import Derived.Test.YtiikijdkhmbdbaaPLxx0
import Derived.Test.YtiikijdkhmbdbaaPLxx1
import Derived.Test.YtiikijdkhmbdbaaPLxx2
import Derived.Test.YtiikijdkhmbdbaaPLxx3
import Derived.Test.YtiikijdkhmbdbaaPLxx4
namespace Go.Proofs.Ytiikijdkhmbdbaa.PLx
open Go.RowKit Go.Proofs.YtiikijdkhmbdbaaW.PrintWords Go.Proofs.YtiikijdkhmbdbaaW.PrintLast Go.Proofs.YtiikijdkhmbdbaaW.PrintMore
attribute [local go_sem] max2_int min2_int max_two min_two max_three min_three max_four min_four   -- for this text's walks alone
set_option linter.unusedVariables false
set_option linter.unusedSimpArgs false

attribute [local go_sem high] eqA31
/-! ### ambidexterref10_Lex: function 13 -/
/-- the reference's run: words -/
theorem run_word (s : ByteArray) (hs : s.size ≤ 140737488351232) (i0 : Int) (h0 : 0 ≤ i0) (h1 : i0 ≤ (s.size : Int)) (w : World) :
    Calls Try.prog 29 #[.string s, .int .i64 i0, .int .i64 3] w fun e w' => e = .returned (.int .i64 (scanTo (wordAt s) s.size i0)) ∧ Drawn0 w w' := by
  go_enter Try.func29, Try.ntmps29
  go_wp2_with fail
  go_loopg [1] ((s.size : Int) - i0).toNat (fun kq v wr => ∃ i : Int, v = .int .i64 i ∧ 0 ≤ i ∧ i ≤ (s.size : Int) ∧ Aside0 (((s.size : Int) - i).toNat = kq ∧ scanTo (wordAt s) s.size i = scanTo (wordAt s) s.size i0 ∧ Drawn0 w wr))
  case atStart => exact ⟨i0, rfl, by omega, by omega, ⟨rfl, rfl, Drawn0.refl _⟩⟩
  case round =>
    obtain ⟨i, rfl, hi0, hi1, ⟨hk, hr, hd⟩⟩ := hrel
    have HD := Aside0.mk hd
    have HR := Aside0.mk hr
    have HK := Aside0.mk hk
    clear hd hr hk
    have hx := bt_at s i
    have hb := bt_range s i
    by_cases hlt : i < (s.size : Int)
    · have hd : decide (i < (s.size : Int)) = true := decide_eq_true hlt
      generalize hc : cls (bt s i).toNat = c at *
      have K' := Aside0.mk (fun w => kind_any (bt s i) c hb.1 hb.2 hc w)
      cases hw : wordAt s i with
      | true =>
        have hc3 : c = 1 ∨ c = 2 ∨ c = 3 := by
          have := hw
          simp only [wordAt, at_in hlt, hc, Bool.or_eq_true, beq_iff_eq] at this
          omega
        have HN := Aside0.mk (scanTo_next hlt hw)
        clear hw
        rcases hc3 with rfl | rfl | rfl
        all_goals
          clear hc
          go_wp2_with ((go_at_call 21; (with_reducible refine (K'.out _).mono ?_); rintro e w' ⟨rfl, ⟨nd, rfl⟩⟩))
          go_roundg ((s.size : Int) - (i + 1)).toNat
          case measure => have := HK.out; omega
          case rel => exact ⟨i + 1, rfl, by omega, by omega, ⟨rfl, by rw [← HN.out]; exact HR.out, by repeat (first | exact HD.out | apply Drawn0.step)⟩⟩
      | false =>
        have hh : c ≠ 1 ∧ c ≠ 2 ∧ c ≠ 3 := by
          have := hw
          simp only [wordAt, at_in hlt, hc, Bool.or_eq_false_iff, beq_eq_false_iff_ne] at this
          omega
        have hc1 : (c != 1) = true := bne_iff_ne.2 hh.1
        have hc2 : (c != 2) = true := bne_iff_ne.2 hh.2.1
        have hc3 : (c != 3) = true := bne_iff_ne.2 hh.2.2
        have HN := Aside0.mk (scanTo_stop (n := (s.size : Int)) (.inr hw))
        clear hw hc hh
        go_wp2_with ((go_at_call 21; (with_reducible refine (K'.out _).mono ?_); rintro e w' ⟨rfl, ⟨nd, rfl⟩⟩))
        go_ret
        exact ⟨by rw [← HR.out, HN.out]; rfl, by repeat (first | exact HD.out | apply Drawn0.step)⟩
    · have hd : decide (i < (s.size : Int)) = false := decide_eq_false hlt
      have HN := Aside0.mk (scanTo_stop (p := wordAt s) (.inl (by omega)))
      go_wp2_with fail
      go_ret
      exact ⟨by rw [← HR.out, HN.out]; rfl, HD.out⟩
/-- the reference's run: digits -/
theorem run_digit (s : ByteArray) (hs : s.size ≤ 140737488351232) (i0 : Int) (h0 : 0 ≤ i0) (h1 : i0 ≤ (s.size : Int)) (w : World) :
    Calls Try.prog 29 #[.string s, .int .i64 i0, .int .i64 2] w fun e w' => e = .returned (.int .i64 (scanTo (digitAt s) s.size i0)) ∧ Drawn0 w w' := by
  go_enter Try.func29, Try.ntmps29
  go_wp2_with fail
  go_loopg [1] ((s.size : Int) - i0).toNat (fun kq v wr => ∃ i : Int, v = .int .i64 i ∧ 0 ≤ i ∧ i ≤ (s.size : Int) ∧ Aside0 (((s.size : Int) - i).toNat = kq ∧ scanTo (digitAt s) s.size i = scanTo (digitAt s) s.size i0 ∧ Drawn0 w wr))
  case atStart => exact ⟨i0, rfl, by omega, by omega, ⟨rfl, rfl, Drawn0.refl _⟩⟩
  case round =>
    obtain ⟨i, rfl, hi0, hi1, ⟨hk, hr, hd⟩⟩ := hrel
    have HD := Aside0.mk hd
    have HR := Aside0.mk hr
    have HK := Aside0.mk hk
    clear hd hr hk
    have hx := bt_at s i
    have hb := bt_range s i
    by_cases hlt : i < (s.size : Int)
    · have hd : decide (i < (s.size : Int)) = true := decide_eq_true hlt
      generalize hc : cls (bt s i).toNat = c at *
      have K' := Aside0.mk (fun w => kind_any (bt s i) c hb.1 hb.2 hc w)
      by_cases h2 : c = 2
      · have HN := Aside0.mk (scanTo_next hlt (show digitAt s i = true by simp [digitAt, at_in hlt, hc, h2]))
        subst h2
        clear hc
        go_wp2_with ((go_at_call 21; (with_reducible refine (K'.out _).mono ?_); rintro e w' ⟨rfl, ⟨nd, rfl⟩⟩))
        go_roundg ((s.size : Int) - (i + 1)).toNat
        case measure => have := HK.out; omega
        case rel => exact ⟨i + 1, rfl, by omega, by omega, ⟨rfl, by rw [← HN.out]; exact HR.out, by repeat (first | exact HD.out | apply Drawn0.step)⟩⟩
      · have hc2 : (c != 2) = true := bne_iff_ne.2 h2
        have HN := Aside0.mk (scanTo_stop (n := (s.size : Int)) (.inr (show digitAt s i = false by simpa [digitAt, at_in hlt, hc] using h2)))
        clear hc h2
        go_wp2_with ((go_at_call 21; (with_reducible refine (K'.out _).mono ?_); rintro e w' ⟨rfl, ⟨nd, rfl⟩⟩))
        go_ret
        exact ⟨by rw [← HR.out, HN.out]; rfl, by repeat (first | exact HD.out | apply Drawn0.step)⟩
    · have hd : decide (i < (s.size : Int)) = false := decide_eq_false hlt
      have HN := Aside0.mk (scanTo_stop (p := digitAt s) (.inl (by omega)))
      go_wp2_with fail
      go_ret
      exact ⟨by rw [← HR.out, HN.out]; rfl, HD.out⟩
theorem toList_nil_iff (d : ByteArray) : d.toList = [] ↔ d.size = 0 := by
  rw [ByteArray.toList_eq]
  constructor
  · intro h; have := congrArg List.length h; simpa using this
  · intro h; rw [Array.eq_empty_of_size_eq_zero (show d.data.size = 0 from h)]
theorem toList_one_size {d : ByteArray} (h : d.toList = [48]) : d.size = 1 := by
  rw [ByteArray.toList_eq] at h
  have := congrArg List.length h
  simpa using this
theorem numOK_eq (sg : Bool) (d : ByteArray) : numOK sg d = (decide (1 ≤ d.size) && (decide (d.size ≤ 9) && (bt d 0 != 48 || (d.toList == [48] && !sg)))) := by
  have h := number_f sg d
  unfold lexer_number.f at h
  by_cases h0 : d.size = 0
  · rw [if_pos ((toList_nil_iff d).2 h0)] at h
    have := Option.some.inj h
    simp [← this, h0]
  · rw [if_neg (fun e => h0 ((toList_nil_iff d).1 e))] at h
    by_cases h9 : (d.size : Int) > 9
    · rw [if_pos h9] at h
      have := Option.some.inj h
      have h9' : ¬ d.size ≤ 9 := by omega
      simp [← this, h9']
    · rw [if_neg h9, if_pos (by omega)] at h
      have h9' : d.size ≤ 9 := by omega
      have h1' : 1 ≤ d.size := by omega
      by_cases h48 : bt d 0 = 48
      · rw [if_pos h48] at h
        by_cases hl : d.toList = [48]
        · rw [if_pos hl] at h
          have := Option.some.inj h
          simp [← this, h9', h1', h48, hl]
        · rw [if_neg hl] at h
          have := Option.some.inj h
          simp [← this, h48, hl]
      · rw [if_neg h48] at h
        have := Option.some.inj h
        simp [← this, h9', h1', h48]

/-- behind the sign, if there is one -/
def unsigned (s : ByteArray) : ByteArray := if bt s 0 = 45 then s.extract 1 s.size else s
set_option maxHeartbeats 2000000 in
theorem number_ref (s : ByteArray) (hs0 : 0 < s.size) (hs : s.size ≤ 140737488351232) (r : Bool) (hr : numOK (bt s 0 == 45) (unsigned s) = r) (w : World) :
    Calls Try.prog 30 #[.string s] w fun e w' => e = .returned (.bool r) ∧ Drawn0 w w' := by
  have hx : ∀ h : 0 < s.size, ((s[0]'h).toNat : Int) = bt s 0 := bt_at s 0
  have q : (0 < (s.size : Int)) = True := eq_true (by omega)
  have q' : (0 < s.size) = True := eq_true hs0
  rw [numOK_eq] at hr
  unfold unsigned at hr
  by_cases h45 : bt s 0 = 45
  · have hb : (bt s 0 == 45) = true := beq_iff_eq.2 h45
    have hne : (s.toList == [48]) = false := beq_eq_false_iff_ne.2 (fun e => by
      have h1 := toList_one_size e
      rw [ByteArray.toList_eq] at e
      have : bt s 0 = 48 := by
        rw [← hx hs0]
        have : s.data.toList[0]? = some 48 := by rw [e]; rfl
        have h2 : s.data[0]? = some 48 := by simpa using this
        have h3 : s.data[0]'(by simpa using hs0) = 48 := by
          rw [Array.getElem?_eq_getElem (by simpa using hs0)] at h2; exact Option.some.inj h2
        show ((s.data[0]'_).toNat : Int) = 48
        rw [h3]; rfl
      omega)
    rw [if_pos h45, hb] at hr
    have H45 := Aside0.mk h45
    have Hr := Aside0.mk hr
    clear h45 hr
    go_enter Try.func30, Try.ntmps30
    go_upto_region 4 with (fail)
    have hd : (s.extract 1 s.size).size = s.size - 1 := by simp
    have hx2 : ∀ h : 0 < (s.extract 1 s.size).size, (((s.extract 1 s.size)[0]'h).toNat : Int) = bt (s.extract 1 s.size) 0 := bt_at (s.extract 1 s.size) 0
    generalize s.extract 1 s.size = d at *
    have Hd := Aside0.mk hd
    clear hd
    by_cases h1 : 1 ≤ d.size
    · have h1b : decide (1 ≤ d.size) = true := decide_eq_true h1
      have h1i : decide (1 ≤ (d.size : Int)) = true := decide_eq_true (by omega)
      have hq : (0 < (d.size : Int)) = True := eq_true (by omega)
      have hq' : (0 < d.size) = True := eq_true (by omega)
      by_cases h9 : d.size ≤ 9
      · have h9b : decide (d.size ≤ 9) = true := decide_eq_true h9
        have h9i : decide ((d.size : Int) ≤ 9) = true := decide_eq_true (by omega)
        cases h48 : bt d 0 != 48 with
        | true =>
          have h48b : (bt d 0 == 48) = false := beq_eq_false_iff_ne.2 (bne_iff_ne.1 h48)
          go_wp2_with fail
          go_ret
          exact ⟨by rw [← Hr.out, h48, h1b, h9b]; rfl, Drawn0.refl _⟩
        | false =>
          have h48b : (bt d 0 == 48) = true := by simpa using h48
          go_wp2_with fail
          go_ret
          exact ⟨by rw [← Hr.out, h48, h1b, h9b, Bool.not_true, Bool.and_false]; rfl, Drawn0.refl _⟩
      · have h9b : decide (d.size ≤ 9) = false := decide_eq_false h9
        have h9i : decide ((d.size : Int) ≤ 9) = false := decide_eq_false (by omega)
        go_wp2_with fail
        go_ret
        exact ⟨by rw [← Hr.out, h1b, h9b]; rfl, Drawn0.refl _⟩
    · have h1b : decide (1 ≤ d.size) = false := decide_eq_false h1
      have h1i : decide (1 ≤ (d.size : Int)) = false := decide_eq_false (by omega)
      go_wp2_with fail
      go_ret
      exact ⟨by rw [← Hr.out, h1b]; rfl, Drawn0.refl _⟩
  · have hb : (bt s 0 == 45) = false := beq_eq_false_iff_ne.2 h45
    rw [if_neg h45, hb] at hr
    have H45 := Aside0.mk h45
    have Hr := Aside0.mk hr
    clear h45 hr
    go_enter Try.func30, Try.ntmps30
    by_cases h1 : 1 ≤ s.size
    · have h1b : decide (1 ≤ s.size) = true := decide_eq_true h1
      have h1i : decide (1 ≤ (s.size : Int)) = true := decide_eq_true (by omega)
      have hq : (0 < (s.size : Int)) = True := eq_true (by omega)
      have hq' : (0 < s.size) = True := eq_true (by omega)
      by_cases h9 : s.size ≤ 9
      · have h9b : decide (s.size ≤ 9) = true := decide_eq_true h9
        have h9i : decide ((s.size : Int) ≤ 9) = true := decide_eq_true (by omega)
        cases h48 : bt s 0 != 48 with
        | true =>
          have h48b : (bt s 0 == 48) = false := beq_eq_false_iff_ne.2 (bne_iff_ne.1 h48)
          go_wp2_with fail
          go_ret
          exact ⟨by rw [← Hr.out, h48, h1b, h9b]; rfl, Drawn0.refl _⟩
        | false =>
          have h48b : (bt s 0 == 48) = true := by simpa using h48
          cases hl : s.toList == [48]
          · rw [hl] at Hr
            go_wp2_with fail
            go_ret
            exact ⟨by rw [← Hr.out, h48, h1b, h9b]; rfl, Drawn0.refl _⟩
          · rw [hl] at Hr
            go_wp2_with fail
            go_ret
            exact ⟨by rw [← Hr.out, h48, h1b, h9b]; rfl, Drawn0.refl _⟩
      · have h9b : decide (s.size ≤ 9) = false := decide_eq_false h9
        have h9i : decide ((s.size : Int) ≤ 9) = false := decide_eq_false (by omega)
        go_wp2_with fail
        go_ret
        exact ⟨by rw [← Hr.out, h1b, h9b]; rfl, Drawn0.refl _⟩
    · have h1b : decide (1 ≤ s.size) = false := decide_eq_false h1
      have h1i : decide (1 ≤ (s.size : Int)) = false := decide_eq_false (by omega)
      go_wp2_with fail
      go_ret
      exact ⟨by rw [← Hr.out, h1b]; rfl, Drawn0.refl _⟩
theorem bt_extract0 {s : ByteArray} {a b : Int} (h0 : 0 ≤ a) (h1 : a < b) (h2 : b ≤ (s.size : Int)) : bt (s.extract a.toNat b.toNat) 0 = bt s a := by
  have hl : 0 < (s.extract a.toNat b.toNat).size := by rw [ByteArray.size_extract]; omega
  have e1 : bt (s.extract a.toNat b.toNat) 0 = (((s.extract a.toNat b.toNat)[0]'hl).toNat : Int) := (bt_at _ 0 hl).symm
  have h3 : a.toNat < s.size := by omega
  rw [e1, ← bt_at s a h3, ByteArray.getElem_extract]
  simp
theorem extract_extract1 {s : ByteArray} {a b : Int} (h0 : 0 ≤ a) (h1 : a < b) (h2 : b ≤ (s.size : Int)) : (s.extract a.toNat b.toNat).extract 1 (s.extract a.toNat b.toNat).size = s.extract (a + 1).toNat b.toNat := by
  rw [ByteArray.extract_extract, ByteArray.size_extract]
  congr 1 <;> omega

theorem scan_idem (p : Int → Bool) (n : Int) : ∀ (k : Nat) (i : Int), (n - i).toNat ≤ k → scanTo p n (scan p n k i) = scan p n k i := by
  intro k
  induction k with
  | zero => intro i hk; simp only [scan]; exact scanTo_stop (.inl (by omega))
  | succ k ih =>
    intro i hk
    simp only [scan]
    by_cases h : i < n
    · rw [if_pos h]
      by_cases hp : p i = true
      · rw [if_pos hp]; exact ih (i + 1) (by omega)
      · rw [if_neg hp]; exact scanTo_stop (.inr (by simpa using hp))
    · rw [if_neg h]; exact scanTo_stop (.inl h)
theorem scanTo_idem (p : Int → Bool) (n i : Int) : scanTo p n (scanTo p n i) = scanTo p n i := scan_idem p n _ i (Nat.le_refl _)
/-- what the reference's one hands back -/
def oneAt (s : ByteArray) (i : Int) : S31 × Int × Bool := if (nextAt s i).2.2.2.1 = true then (⟨(nextAt s i).1, (nextAt s i).2.1, (nextAt s i).2.2.1⟩, (nextAt s i).2.2.2.2, true) else (⟨0, ⟨#[]⟩, 0⟩, 0, false)

set_option maxHeartbeats 1000000 in
theorem one_word (s : ByteArray) (hs : s.size ≤ 140737488351232) (i : Int) (h0 : 0 ≤ i) (h1 : i < (s.size : Int)) (hc : at_ s i = 1) (w : World) :
    Calls Try.prog 20 #[.string s, .int .i64 i] w fun e w' => e = .returned (.tuple #[.agg #[.int .i64 1, .string (s.extract i.toNat (scanTo (wordAt s) s.size i).toNat), .int .i64 i], .int .i64 (scanTo (wordAt s) s.size i), .bool true]) ∧ Below w.heap.size w w' := by
  have hx := bt_at s i
  have hb := bt_range s i
  have K := Aside0.mk (fun w => kind_any (bt s i) 1 hb.1 hb.2 (by rw [← at_in h1, hc]) w)
  have R := Aside0.mk (fun w => run_word s hs i h0 (by omega) w)
  have hr := scanTo_range (wordAt s) s.size i (by omega)
  generalize scanTo (wordAt s) s.size i = j at *
  clear hc
  go_enter Try.func20, Try.ntmps20
  go_wp2_with (first | (go_at_call 21; (with_reducible refine (K.out _).mono ?_); rintro e w' ⟨rfl, ⟨nd, rfl⟩⟩) | (go_at_call 29; (with_reducible refine (R.out _).mono ?_); rintro e w' ⟨rfl, ⟨nd2, rfl⟩⟩))
  refine bodyPost_ret (v := .tuple #[.agg #[.int .i64 1, .string (s.extract i.toNat j.toNat), .int .i64 i], .int .i64 j, .bool true]) (by simp [results, Try.results20, go_sem]) rfl ⟨rfl, ?_⟩
  repeat (first | exact Below.refl _ _ | refine below_set ?_ (Nat.le_refl _) | apply below_alloc | apply pw_below_drewN | apply below_drew1)

set_option maxHeartbeats 1000000 in
theorem one_sign (s : ByteArray) (hs : s.size ≤ 140737488351232) (i : Int) (h0 : 0 ≤ i) (h1 : i < (s.size : Int)) (hc : at_ s i = 4) (w : World) :
    Calls Try.prog 20 #[.string s, .int .i64 i] w fun e w' => e = .returned (.tuple #[.agg #[.int .i64 3, .string (s.extract i.toNat (i + 1).toNat), .int .i64 i], .int .i64 (i + 1), .bool true]) ∧ Below w.heap.size w w' := by
  have hx := bt_at s i
  have hb := bt_range s i
  have K := Aside0.mk (fun w => kind_any (bt s i) 4 hb.1 hb.2 (by rw [← at_in h1, hc]) w)
  have hr : i ≤ i + 1 ∧ i + 1 ≤ (s.size : Int) := by omega
  clear hc
  go_enter Try.func20, Try.ntmps20
  go_wp2_with (first | (go_at_call 21; (with_reducible refine (K.out _).mono ?_); rintro e w' ⟨rfl, ⟨nd, rfl⟩⟩))
  refine bodyPost_ret (v := .tuple #[.agg #[.int .i64 3, .string (s.extract i.toNat (i + 1).toNat), .int .i64 i], .int .i64 (i + 1), .bool true]) (by simp [results, Try.results20, go_sem]) rfl ⟨rfl, ?_⟩
  repeat (first | exact Below.refl _ _ | refine below_set ?_ (Nat.le_refl _) | apply below_alloc | apply pw_below_drewN | apply below_drew1)

set_option maxHeartbeats 1000000 in
theorem one_none (s : ByteArray) (hs : s.size ≤ 140737488351232) (i : Int) (h0 : 0 ≤ i) (h1 : i < (s.size : Int)) (c : Int) (hc : at_ s i = c) (n1 : c ≠ 1) (n4 : c ≠ 4) (n2 : c ≠ 2) (n7 : c ≠ 7) (w : World) :
    Calls Try.prog 20 #[.string s, .int .i64 i] w fun e w' => e = .returned (.tuple #[.agg #[.int .i64 0, .string ⟨#[]⟩, .int .i64 0], .int .i64 0, .bool false]) ∧ Below w.heap.size w w' := by
  have hx := bt_at s i
  have hb := bt_range s i
  have K := Aside0.mk (fun w => kind_any (bt s i) c hb.1 hb.2 (by rw [← at_in h1, hc]) w)
  have b1 : (c == 1) = false := beq_eq_false_iff_ne.2 n1
  have b4 : (c == 4) = false := beq_eq_false_iff_ne.2 n4
  have b2 : (c == 2) = false := beq_eq_false_iff_ne.2 n2
  have b7 : (c == 7) = false := beq_eq_false_iff_ne.2 n7
  clear hc n1 n4 n2 n7
  go_enter Try.func20, Try.ntmps20
  go_wp2_with (first | (go_at_call 21; (with_reducible refine (K.out _).mono ?_); rintro e w' ⟨rfl, ⟨nd, rfl⟩⟩))
  refine bodyPost_ret (v := .tuple #[.agg #[.int .i64 0, .string ⟨#[]⟩, .int .i64 0], .int .i64 0, .bool false]) (by simp [results, Try.results20, go_sem]) rfl ⟨rfl, ?_⟩
  repeat (first | exact Below.refl _ _ | refine below_set ?_ (Nat.le_refl _) | apply below_alloc | apply pw_below_drewN | apply below_drew1)

set_option maxHeartbeats 4000000 in
theorem one_number (sg : Bool) (s : ByteArray) (hs : s.size ≤ 140737488351232) (i j : Int) (h0 : 0 ≤ i) (h1 : i < (s.size : Int)) (hc : at_ s i = if sg = true then 7 else 2)
    (hj : scanTo (digitAt s) s.size (firstAt sg i) = j) (v wd : Bool) (hv : numOK sg (s.extract (firstAt sg i).toNat j.toNat) = v) (hw : wordAt s j = wd) (w : World) :
    Calls Try.prog 20 #[.string s, .int .i64 i] w fun e w' => e = .returned (if (v && !wd) = true then .tuple #[.agg #[.int .i64 2, .string (s.extract i.toNat j.toNat), .int .i64 i], .int .i64 j, .bool true] else .tuple #[.agg #[.int .i64 0, .string ⟨#[]⟩, .int .i64 0], .int .i64 0, .bool false]) ∧ Below w.heap.size w w' := by
  have hx := bt_at s i
  have hb := bt_range s i
  have hf : i ≤ firstAt sg i ∧ firstAt sg i ≤ (s.size : Int) ∧ 0 ≤ firstAt sg i := by unfold firstAt; split <;> omega
  have hr := scanTo_range (digitAt s) s.size (firstAt sg i) hf.2.1
  rw [hj] at hr
  have hij : i < j := by
    cases sg with
    | true => simp only [firstAt, if_true] at hr; omega
    | false =>
      have hd : digitAt s i = true := by simp only [Bool.false_eq_true, if_false] at hc; simp [digitAt, hc]
      have := scanTo_step (n := (s.size : Int)) h1 hd
      simp only [firstAt, Bool.false_eq_true, if_false] at hj
      omega
  have hb45 : (bt s i == 45) = sg := by
    have h2 : cls (bt s i).toNat = if sg = true then 7 else 2 := by rw [← at_in h1, hc]
    have h3 : ∀ c : Fin 256, cls c.val = 7 → c.val = 45 := by decide +kernel
    have h4 : ∀ c : Fin 256, cls c.val = 2 → c.val ≠ 45 := by decide +kernel
    cases sg with
    | true =>
      have := h3 ⟨(bt s i).toNat, by omega⟩ (by simpa using h2)
      simp only at this
      rw [beq_iff_eq]; omega
    | false =>
      have := h4 ⟨(bt s i).toNat, by omega⟩ (by simpa using h2)
      simp only at this
      rw [beq_eq_false_iff_ne]; omega
  have hnum : ∀ w, Calls Try.prog 30 #[.string (s.extract i.toNat j.toNat)] w fun e w' => e = .returned (.bool v) ∧ Drawn0 w w' := by
    intro w
    refine number_ref _ (by rw [ByteArray.size_extract]; omega) (by rw [ByteArray.size_extract]; omega) v ?_ w
    rw [bt_extract0 h0 hij hr.2, hb45]
    unfold unsigned
    rw [bt_extract0 h0 hij hr.2]
    rw [← hv]
    cases sg with
    | true => rw [if_pos (by simpa using hb45), extract_extract1 h0 hij hr.2]; rfl
    | false => rw [if_neg (by simpa using hb45)]; rfl
  have hrun : ∀ w, Calls Try.prog 29 #[.string s, .int .i64 (firstAt sg i), .int .i64 2] w fun e w' => e = .returned (.int .i64 j) ∧ Drawn0 w w' := by
    intro w; have := run_digit s hs (firstAt sg i) hf.2.2 hf.2.1 w; rwa [hj] at this
  have hx2 := bt_at s j
  have hb2 := bt_range s j
  have K := Aside0.mk (fun w => kind_any (bt s i) (if sg = true then 7 else 2) hb.1 hb.2 (by rw [← at_in h1, hc]) w)
  have N := Aside0.mk hnum
  have Hw := Aside0.mk hw
  have Hj := Aside0.mk hj
  have hw2 : at_ s j ≠ 2 := by
    intro h2
    have hjl := (at_some (by decide) h2).1
    have := scanTo_step (p := digitAt s) (n := (s.size : Int)) hjl (by simp [digitAt, h2])
    have h5 := scanTo_range (digitAt s) s.size (firstAt sg i) hf.2.1
    have h6 : scanTo (digitAt s) s.size j = j := by rw [← hj]; exact scanTo_idem _ _ _
    omega
  have hij2 : i ≤ j ∧ j ≤ (s.size : Int) := ⟨by omega, hr.2⟩
  clear hnum hc hv hw hj hb45
  cases sg with
  | true =>
    simp only [if_true, firstAt] at *
    have R := Aside0.mk hrun
    clear hrun
    go_enter Try.func20, Try.ntmps20
    cases v with
    | false =>
      go_wp2_with (first | (go_at_call 21; (with_reducible refine (K.out _).mono ?_); rintro e w' ⟨rfl, ⟨nd, rfl⟩⟩) | (go_at_call 29; (with_reducible refine (R.out _).mono ?_); rintro e w' ⟨rfl, ⟨nd2, rfl⟩⟩) | (go_at_call 30; (with_reducible refine (N.out _).mono ?_); rintro e w' ⟨rfl, ⟨nd3, rfl⟩⟩))
      refine bodyPost_ret (v := .tuple #[.agg #[.int .i64 0, .string ⟨#[]⟩, .int .i64 0], .int .i64 0, .bool false]) (by simp [results, Try.results20, go_sem]) rfl ⟨rfl, ?_⟩
      repeat (first | exact Below.refl _ _ | refine below_set ?_ (Nat.le_refl _) | apply below_alloc | apply pw_below_drewN | apply below_drew1)
    | true =>
      by_cases hjn : j < (s.size : Int)
      · have hjb : decide (j < (s.size : Int)) = true := decide_eq_true hjn
        rw [at_in hjn] at hw2
        generalize hcj : cls (bt s j).toNat = c at *
        have K2 := Aside0.mk (fun w => kind_any (bt s j) c hb2.1 hb2.2 hcj w)
        by_cases c1 : c = 1
        · have : wd = true := by rw [← Hw.out]; simp [wordAt, at_in hjn, hcj, c1]
          subst this
          subst c1
          clear hcj
          go_wp2_with (first | (go_at_call 21; (with_reducible refine (K.out _).mono ?_); rintro e w' ⟨rfl, ⟨nd, rfl⟩⟩) | (go_at_call 29; (with_reducible refine (R.out _).mono ?_); rintro e w' ⟨rfl, ⟨nd2, rfl⟩⟩) | (go_at_call 30; (with_reducible refine (N.out _).mono ?_); rintro e w' ⟨rfl, ⟨nd3, rfl⟩⟩) | (go_at_call 21; (with_reducible refine (K2.out _).mono ?_); rintro e w' ⟨rfl, ⟨nd4, rfl⟩⟩))
          refine bodyPost_ret (v := .tuple #[.agg #[.int .i64 0, .string ⟨#[]⟩, .int .i64 0], .int .i64 0, .bool false]) (by simp [results, Try.results20, go_sem]) rfl ⟨rfl, ?_⟩
          repeat (first | exact Below.refl _ _ | refine below_set ?_ (Nat.le_refl _) | apply below_alloc | apply pw_below_drewN | apply below_drew1)
        · by_cases c3 : c = 3
          · have : wd = true := by rw [← Hw.out]; simp [wordAt, at_in hjn, hcj, c3]
            subst this
            subst c3
            clear hcj
            go_wp2_with (first | (go_at_call 21; (with_reducible refine (K.out _).mono ?_); rintro e w' ⟨rfl, ⟨nd, rfl⟩⟩) | (go_at_call 29; (with_reducible refine (R.out _).mono ?_); rintro e w' ⟨rfl, ⟨nd2, rfl⟩⟩) | (go_at_call 30; (with_reducible refine (N.out _).mono ?_); rintro e w' ⟨rfl, ⟨nd3, rfl⟩⟩) | (go_at_call 21; (with_reducible refine (K2.out _).mono ?_); rintro e w' ⟨rfl, ⟨nd4, rfl⟩⟩))
            refine bodyPost_ret (v := .tuple #[.agg #[.int .i64 0, .string ⟨#[]⟩, .int .i64 0], .int .i64 0, .bool false]) (by simp [results, Try.results20, go_sem]) rfl ⟨rfl, ?_⟩
            repeat (first | exact Below.refl _ _ | refine below_set ?_ (Nat.le_refl _) | apply below_alloc | apply pw_below_drewN | apply below_drew1)
          · have : wd = false := by rw [← Hw.out]; simp [wordAt, at_in hjn, hcj, c1, c3, hw2]
            subst this
            have b1 : (c == 1) = false := beq_eq_false_iff_ne.2 c1
            have b3 : (c == 3) = false := beq_eq_false_iff_ne.2 c3
            clear hcj c1 c3 hw2
            go_wp2_with (first | (go_at_call 21; (with_reducible refine (K.out _).mono ?_); rintro e w' ⟨rfl, ⟨nd, rfl⟩⟩) | (go_at_call 29; (with_reducible refine (R.out _).mono ?_); rintro e w' ⟨rfl, ⟨nd2, rfl⟩⟩) | (go_at_call 30; (with_reducible refine (N.out _).mono ?_); rintro e w' ⟨rfl, ⟨nd3, rfl⟩⟩) | (go_at_call 21; (with_reducible refine (K2.out _).mono ?_); rintro e w' ⟨rfl, ⟨nd4, rfl⟩⟩))
            refine bodyPost_ret (v := .tuple #[.agg #[.int .i64 2, .string (s.extract i.toNat j.toNat), .int .i64 i], .int .i64 j, .bool true]) (by simp [results, Try.results20, go_sem]) rfl ⟨rfl, ?_⟩
            repeat (first | exact Below.refl _ _ | refine below_set ?_ (Nat.le_refl _) | apply below_alloc | apply pw_below_drewN | apply below_drew1)
      · have hjb : decide (j < (s.size : Int)) = false := decide_eq_false hjn
        have : wd = false := by rw [← Hw.out]; simp [wordAt, at_, show (s.size : Int) ≤ j from by omega]
        subst this
        go_wp2_with (first | (go_at_call 21; (with_reducible refine (K.out _).mono ?_); rintro e w' ⟨rfl, ⟨nd, rfl⟩⟩) | (go_at_call 29; (with_reducible refine (R.out _).mono ?_); rintro e w' ⟨rfl, ⟨nd2, rfl⟩⟩) | (go_at_call 30; (with_reducible refine (N.out _).mono ?_); rintro e w' ⟨rfl, ⟨nd3, rfl⟩⟩))
        refine bodyPost_ret (v := .tuple #[.agg #[.int .i64 2, .string (s.extract i.toNat j.toNat), .int .i64 i], .int .i64 j, .bool true]) (by simp [results, Try.results20, go_sem]) rfl ⟨rfl, ?_⟩
        repeat (first | exact Below.refl _ _ | refine below_set ?_ (Nat.le_refl _) | apply below_alloc | apply pw_below_drewN | apply below_drew1)
  | false =>
    simp only [Bool.false_eq_true, if_false, firstAt] at *
    have R := Aside0.mk hrun
    clear hrun
    go_enter Try.func20, Try.ntmps20
    cases v with
    | false =>
      go_wp2_with (first | (go_at_call 21; (with_reducible refine (K.out _).mono ?_); rintro e w' ⟨rfl, ⟨nd, rfl⟩⟩) | (go_at_call 29; (with_reducible refine (R.out _).mono ?_); rintro e w' ⟨rfl, ⟨nd2, rfl⟩⟩) | (go_at_call 30; (with_reducible refine (N.out _).mono ?_); rintro e w' ⟨rfl, ⟨nd3, rfl⟩⟩))
      refine bodyPost_ret (v := .tuple #[.agg #[.int .i64 0, .string ⟨#[]⟩, .int .i64 0], .int .i64 0, .bool false]) (by simp [results, Try.results20, go_sem]) rfl ⟨rfl, ?_⟩
      repeat (first | exact Below.refl _ _ | refine below_set ?_ (Nat.le_refl _) | apply below_alloc | apply pw_below_drewN | apply below_drew1)
    | true =>
      by_cases hjn : j < (s.size : Int)
      · have hjb : decide (j < (s.size : Int)) = true := decide_eq_true hjn
        rw [at_in hjn] at hw2
        generalize hcj : cls (bt s j).toNat = c at *
        have K2 := Aside0.mk (fun w => kind_any (bt s j) c hb2.1 hb2.2 hcj w)
        by_cases c1 : c = 1
        · have : wd = true := by rw [← Hw.out]; simp [wordAt, at_in hjn, hcj, c1]
          subst this
          subst c1
          clear hcj
          go_wp2_with (first | (go_at_call 21; (with_reducible refine (K.out _).mono ?_); rintro e w' ⟨rfl, ⟨nd, rfl⟩⟩) | (go_at_call 29; (with_reducible refine (R.out _).mono ?_); rintro e w' ⟨rfl, ⟨nd2, rfl⟩⟩) | (go_at_call 30; (with_reducible refine (N.out _).mono ?_); rintro e w' ⟨rfl, ⟨nd3, rfl⟩⟩) | (go_at_call 21; (with_reducible refine (K2.out _).mono ?_); rintro e w' ⟨rfl, ⟨nd4, rfl⟩⟩))
          refine bodyPost_ret (v := .tuple #[.agg #[.int .i64 0, .string ⟨#[]⟩, .int .i64 0], .int .i64 0, .bool false]) (by simp [results, Try.results20, go_sem]) rfl ⟨rfl, ?_⟩
          repeat (first | exact Below.refl _ _ | refine below_set ?_ (Nat.le_refl _) | apply below_alloc | apply pw_below_drewN | apply below_drew1)
        · by_cases c3 : c = 3
          · have : wd = true := by rw [← Hw.out]; simp [wordAt, at_in hjn, hcj, c3]
            subst this
            subst c3
            clear hcj
            go_wp2_with (first | (go_at_call 21; (with_reducible refine (K.out _).mono ?_); rintro e w' ⟨rfl, ⟨nd, rfl⟩⟩) | (go_at_call 29; (with_reducible refine (R.out _).mono ?_); rintro e w' ⟨rfl, ⟨nd2, rfl⟩⟩) | (go_at_call 30; (with_reducible refine (N.out _).mono ?_); rintro e w' ⟨rfl, ⟨nd3, rfl⟩⟩) | (go_at_call 21; (with_reducible refine (K2.out _).mono ?_); rintro e w' ⟨rfl, ⟨nd4, rfl⟩⟩))
            refine bodyPost_ret (v := .tuple #[.agg #[.int .i64 0, .string ⟨#[]⟩, .int .i64 0], .int .i64 0, .bool false]) (by simp [results, Try.results20, go_sem]) rfl ⟨rfl, ?_⟩
            repeat (first | exact Below.refl _ _ | refine below_set ?_ (Nat.le_refl _) | apply below_alloc | apply pw_below_drewN | apply below_drew1)
          · have : wd = false := by rw [← Hw.out]; simp [wordAt, at_in hjn, hcj, c1, c3, hw2]
            subst this
            have b1 : (c == 1) = false := beq_eq_false_iff_ne.2 c1
            have b3 : (c == 3) = false := beq_eq_false_iff_ne.2 c3
            clear hcj c1 c3 hw2
            go_wp2_with (first | (go_at_call 21; (with_reducible refine (K.out _).mono ?_); rintro e w' ⟨rfl, ⟨nd, rfl⟩⟩) | (go_at_call 29; (with_reducible refine (R.out _).mono ?_); rintro e w' ⟨rfl, ⟨nd2, rfl⟩⟩) | (go_at_call 30; (with_reducible refine (N.out _).mono ?_); rintro e w' ⟨rfl, ⟨nd3, rfl⟩⟩) | (go_at_call 21; (with_reducible refine (K2.out _).mono ?_); rintro e w' ⟨rfl, ⟨nd4, rfl⟩⟩))
            refine bodyPost_ret (v := .tuple #[.agg #[.int .i64 2, .string (s.extract i.toNat j.toNat), .int .i64 i], .int .i64 j, .bool true]) (by simp [results, Try.results20, go_sem]) rfl ⟨rfl, ?_⟩
            repeat (first | exact Below.refl _ _ | refine below_set ?_ (Nat.le_refl _) | apply below_alloc | apply pw_below_drewN | apply below_drew1)
      · have hjb : decide (j < (s.size : Int)) = false := decide_eq_false hjn
        have : wd = false := by rw [← Hw.out]; simp [wordAt, at_, show (s.size : Int) ≤ j from by omega]
        subst this
        go_wp2_with (first | (go_at_call 21; (with_reducible refine (K.out _).mono ?_); rintro e w' ⟨rfl, ⟨nd, rfl⟩⟩) | (go_at_call 29; (with_reducible refine (R.out _).mono ?_); rintro e w' ⟨rfl, ⟨nd2, rfl⟩⟩) | (go_at_call 30; (with_reducible refine (N.out _).mono ?_); rintro e w' ⟨rfl, ⟨nd3, rfl⟩⟩))
        refine bodyPost_ret (v := .tuple #[.agg #[.int .i64 2, .string (s.extract i.toNat j.toNat), .int .i64 i], .int .i64 j, .bool true]) (by simp [results, Try.results20, go_sem]) rfl ⟨rfl, ?_⟩
        repeat (first | exact Below.refl _ _ | refine below_set ?_ (Nat.le_refl _) | apply below_alloc | apply pw_below_drewN | apply below_drew1)
theorem one_any (s : ByteArray) (hs : s.size ≤ 140737488351232) (i : Int) (h0 : 0 ≤ i) (h1 : i < (s.size : Int)) (w : World) :
    Calls Try.prog 20 #[.string s, .int .i64 i] w fun e w' => e = .returned (.tuple #[.agg #[.int .i64 (oneAt s i).1.f0, .string (oneAt s i).1.f1, .int .i64 (oneAt s i).1.f2], .int .i64 (oneAt s i).2.1, .bool (oneAt s i).2.2]) ∧ Below w.heap.size w w' := by
  unfold oneAt nextAt
  by_cases c1 : at_ s i = 1
  · simp only [if_pos c1, if_true]
    exact one_word s hs i h0 h1 c1 w
  · simp only [if_neg c1]
    by_cases c4 : at_ s i = 4
    · simp only [if_pos c4, if_true]
      exact one_sign s hs i h0 h1 c4 w
    · simp only [if_neg c4]
      by_cases c7 : at_ s i = 7 ∨ at_ s i = 2
      · simp only [if_pos c7]
        have hcc : at_ s i = if (at_ s i == 7) = true then 7 else 2 := by
          rcases c7 with h7 | h7 <;> simp [h7]
        refine (one_number _ s hs i _ h0 h1 hcc rfl _ _ rfl rfl w).mono fun e w' ⟨he, hB⟩ => ⟨?_, hB⟩
        rw [he]
        generalize (at_ s i == 7) = sg
        generalize scanTo (digitAt s) s.size (firstAt sg i) = j
        generalize numOK sg (s.extract (firstAt sg i).toNat j.toNat) = v
        generalize wordAt s j = wd
        cases v <;> cases wd <;> rfl
      · simp only [if_neg c7, Bool.false_eq_true, if_false]
        exact one_none s hs i h0 h1 _ rfl c1 c4 (fun h => c7 (.inr h)) (fun h => c7 (.inl h)) w

def ambidexterref10_Lex.f (a0 : ByteArray) : Option (List S31 × Int × Int) := some (lexB a0)
set_option maxHeartbeats 1000000 in
theorem ambidexterref10_Lex.calls (a0 : ByteArray) (r1 : List (S31)) (r2 : Int) (r3 : Int) (w : World) (h : ambidexterref10_Lex.f a0 = some (r1, r2, r3)) :
    Calls Try.prog 13 #[.string a0] w fun e w' => ∃ v0_ : Value, e = .returned (.tuple #[v0_, .int .i64 r2, .int .i64 r3]) ∧ Kd.R k31 31 w' w.heap.size (fun _ => True) v0_ r1 ∧ Below w.heap.size w w' := by
  unfold ambidexterref10_Lex.f lexB at h
  have huT := Try.underlying31
  by_cases c2 : a0.size > 20000
  · rw [if_pos c2] at h
    simp only [Option.some.injEq, Prod.mk.injEq] at h
    obtain ⟨rfl, rfl, rfl⟩ := h
    have c2b0 : decide (20000 < (a0.size : Int)) = true := decide_eq_true (by omega)
    have c2b1 : decide (20000 < a0.size) = true := decide_eq_true c2
    clear c2
    go_enter Try.func13, Try.ntmps13
    go_wp2
    go_ret3
    exact ⟨_, rfl, Kd.R_nil _ _ _ _ _, Below.refl _ _⟩
  · rw [if_neg c2] at h
    have c2b0 : decide (20000 < (a0.size : Int)) = false := decide_eq_false (by omega)
    have c2b1 : decide (20000 < a0.size) = false := decide_eq_false (by omega)
    have H := Aside0.mk (Option.some.inj h)
    clear h
    have hsz : a0.size ≤ 20000 := by omega
    clear c2
    have hs2 : a0.size ≤ 140737488351232 := by omega
    have hr := skipTo_range a0 0 (by omega) (by omega)
    go_enter Try.func13, Try.ntmps13
    have G0 := Aside0.mk (fun w => gap_any a0 hs2 0 (by omega) (by omega) w)
    go_wp2_with (first | ((with_reducible refine gate_dst (N := 13) rfl ?_); refine Kd.R_lit k31 w.heap.size 31 ?hg (N := 13) ?hd (xs := ([] : List (S31))) (inner := []) (ok := fun _ => True) (okp := fun _ => True) ?hr ?hp (fun _ hk => hk) trivial (Below.refl _ _) (Nat.le_refl _) (by simp) ?_; (case hd => rfl); (case hg => rfl); (case hr => first | (go_simp; done) | (go_simp; rfl)); (case hp => exact (Reps.none _ _)); intro v13 w4 ho5 hb hg_ hnew_; clear hg_ hnew_; have HO := Aside0.mk ho5; have HB := Aside0.mk hb; clear ho5 hb) | (go_at_call 19; (with_reducible refine (G0.out _).mono ?_); rintro e w' ⟨rfl, ⟨nd, rfl⟩⟩))
    go_loopg [5, 6] (a0.size + 1) (fun kq v v6 wr => ∃ (i : Int) (acc : List S31), v6 = .int .i64 i ∧ Aside0 (0 < kq ∧ ((a0.size : Int) - i).toNat < kq ∧ acc.length + kq ≤ a0.size + 1 ∧ 0 ≤ i ∧ i ≤ (a0.size : Int) ∧ lexGo a0 kq i acc = (r1, r2, r3) ∧ Kd.R k31 31 wr w.heap.size (fun _ => True) v acc ∧ Below w.heap.size w wr))
    case atStart => exact ⟨skipTo a0 0, [], rfl, ⟨by omega, by omega, by simp, by omega, by omega, H.out, Kd.R_drewN HO.out _, pw_below_drewN HB.out _⟩⟩
    case round =>
      clear H HO HB G0
      obtain ⟨i, acc, rfl, ⟨hk0, hk, hlen, hi0, hi1, hgo, hR, hB⟩⟩ := hrel
      cases gk with
      | zero => exact absurd hk0 (by omega)
      | succ k =>
        simp only [lexGo] at hgo
        have HR := Aside0.mk hR
        have HB := Aside0.mk hB
        clear hR hB
        by_cases c6 : i < (a0.size : Int)
        · rw [if_pos c6] at hgo
          have c6b0 : decide (i < (a0.size : Int)) = true := decide_eq_true c6
          have hnr := nextAt_range a0 i hi0 hi1
          have HN := one_any a0 hs2 i hi0 c6
          unfold oneAt at HN
          generalize nextAt a0 i = x at *
          obtain ⟨x1, x2, x3, x4, x5⟩ := x
          simp only at hgo hnr HN
          cases x4 with
          | false =>
            rw [if_neg (by simp)] at hgo
            simp only [Prod.mk.injEq] at hgo
            obtain ⟨rfl, rfl, rfl⟩ := hgo
            have HN' : Aside0 (∀ w, Calls Try.prog 20 #[.string a0, .int .i64 i] w fun e w' => e = .returned (.tuple #[.agg #[.int .i64 0, .string ⟨#[]⟩, .int .i64 0], .int .i64 0, .bool false]) ∧ Below w.heap.size w w') := ⟨HN⟩
            clear HN
            go_wp2_with (go_at_call 20; (with_reducible refine (HN'.out _).mono ?_); rintro e w2 ⟨rfl, hB2⟩; have HB2 := Aside0.mk (below_step HB.out hB2); clear hB2)
            go_ret3
            exact ⟨_, rfl, Kd.R_nil _ _ _ _ _, by repeat (first | exact HB2.out | apply below_alloc)⟩
          | true =>
            rw [if_pos rfl] at hgo
            have HN' : Aside0 (∀ w, Calls Try.prog 20 #[.string a0, .int .i64 i] w fun e w' => e = .returned (.tuple #[.agg #[.int .i64 x1, .string x2, .int .i64 x3], .int .i64 x5, .bool true]) ∧ Below w.heap.size w w') := ⟨HN⟩
            have hn1 : x5 ≤ (a0.size : Int) ∧ i + 1 ≤ x5 := by have := hnr; simp only [forall_const] at this; omega
            have G := Aside0.mk (fun w => gap_any a0 hs2 x5 (by omega) (by omega) w)
            have Hgo := Aside0.mk hgo
            have Hlen := Aside0.mk hlen
            clear HN hgo hnr hlen
            have hr4 := skipTo_range a0 x5 (by omega) (by omega)
            go_wp2_with fail
            refine (HN'.out _).mono ?_
            rintro e w2 ⟨rfl, hB2⟩
            have HR2 := Aside0.mk (Kd.R_below HR.out hB2)
            have HB2 := Aside0.mk (below_step HB.out hB2)
            clear hB2 HR HB HN'
            go_wp2_with (at_builtin; refine Kd.R_append k31 (w0 := w) w.heap.size rfl (.tmp 30) (.tmp 32) 24 31 (.agg #[(.int .i64 0), (.string ⟨#[]⟩), (.int .i64 0)]) 32 rfl Try.underlying24 info31 rfl (by decide) (by omega) u5 acc (⟨x1, x2, x3⟩ : S31) [.int .i64 x1, .string x2, .int .i64 x3] (fun _ => True) (fun _ => False) rfl (by first | (go_simp; done) | (go_simp; rfl)) ?aP (fun _ hk => hk.elim) ?aF ?aO ?aB ?aS ?aL ?_)
            case aP => exact k31_mkM _ _ _ (⟨x1, x2, x3⟩ : S31)
            case aF => intro k hk; trivial
            case aO => exact Kd.R_alloc HR2.out _
            case aB => exact below_alloc HB2.out _
            case aS => have := HB2.out.size; simp; omega
            case aL => have := Hlen.out; omega
            intro v1 w3 hR3 hB3 hg3 hat3
            have HR3 := Aside0.mk hR3
            have HB3 := Aside0.mk hB3
            clear hR3 hB3 hg3 hat3 HR2 HB2
            go_wp2_with (go_at_call 19; (with_reducible refine (G.out _).mono ?_); rintro e w' ⟨rfl, ⟨nd, rfl⟩⟩)
            go_roundg k
            case measure => omega
            case rel =>
              have := Hlen.out
              exact ⟨skipTo a0 x5, acc ++ [⟨x1, x2, x3⟩], rfl, ⟨by omega, by omega, by simp; omega, by omega, by omega, Hgo.out, Kd.R_drewN HR3.out _, pw_below_drewN HB3.out _⟩⟩
        · rw [if_neg c6] at hgo
          have c6b0 : decide (i < (a0.size : Int)) = false := decide_eq_false c6
          simp only [Prod.mk.injEq] at hgo
          obtain ⟨rfl, rfl, rfl⟩ := hgo
          go_wp2_with fail
          go_ret3
          exact ⟨_, rfl, HR.out, HB.out⟩

/-! ### ambidexterref10_Same: function 14 -/
def ambidexterref10_Same.l0 : Nat → List (S31) → List (S31) → Int → Option (Bool)
  | 0, _, _, _ => none
  | k + 1, x0, x1, x5 => if x5 < (x0.length : Int) then (if 0 ≤ x5 then (if x5 < (x1.length : Int) then (if (!(((rd_T31 x0 x5).f0) == ((rd_T31 x1 x5).f0)) || (!((((rd_T31 x0 x5).f1).toList) == (((rd_T31 x1 x5).f1).toList)) || (!(((rd_T31 x0 x5).f2) == ((rd_T31 x1 x5).f2))))) = true then (some false) else (ambidexterref10_Same.l0 k x0 x1 (wrap64 (x5 + 1)))) else (none)) else (none)) else (some true)
def ambidexterref10_Same.f (k : Nat) (l0 : List (S31)) (l1 : List (S31)) : Option (Bool) := if (l0.length : Int) = (l1.length : Int) then (ambidexterref10_Same.l0 k l0 l1 0) else (some false)
theorem ambidexterref10_Same.mono_l : ∀ k, (∀ y0 y1 y2, LeO (ambidexterref10_Same.l0 k y0 y1 y2) (ambidexterref10_Same.l0 (k + 1) y0 y1 y2))
  | 0 => fun _ _ _ r h => by simp [ambidexterref10_Same.l0] at h
  | k + 1 => by
    have ih0 := ambidexterref10_Same.mono_l k
    · intro y0 y1 y2
      unfold ambidexterref10_Same.l0
      repeat' first
      | (with_reducible exact ih0 _ _ _)
      | (with_reducible exact LeO.refl _)
      | (with_reducible exact LeO.none _)
      | (with_reducible refine LeO.ite ?_ ?_)
      | (with_reducible refine LeO.bind ?_ (fun _ => ?_))
      | exact ih0 _ _ _
      | exact LeO.none _
      | refine LeO.ite ?_ ?_
      | refine LeO.bind ?_ (fun _ => ?_)
theorem ambidexterref10_Same.mono : ∀ a0 a1 k, LeO (ambidexterref10_Same.f k a0 a1) (ambidexterref10_Same.f (k + 1) a0 a1) := by
  intro a0 a1 k
  have ih0 := ambidexterref10_Same.mono_l k
  unfold ambidexterref10_Same.f
  repeat' first
      | (with_reducible exact ih0 _ _ _)
      | (with_reducible exact LeO.refl _)
      | (with_reducible exact LeO.none _)
      | (with_reducible refine LeO.ite ?_ ?_)
      | (with_reducible refine LeO.bind ?_ (fun _ => ?_))
      | exact ih0 _ _ _
      | exact LeO.none _
      | refine LeO.ite ?_ ?_
      | refine LeO.bind ?_ (fun _ => ?_)
set_option maxHeartbeats 8000000 in
set_option maxRecDepth 100000 in
theorem ambidexterref10_Same.calls (k : Nat) (A0 : Option Addr) (c0 : Nat) (l0 : List (S31)) (A1 : Option Addr) (c1 : Nat) (l1 : List (S31)) (r : Bool) (w : World) (hr0 : Kd.C k31 w A0 l0.length l0) (hc0 : l0.length ≤ c0) (hr1 : Kd.C k31 w A1 l1.length l1) (hc1 : l1.length ≤ c1) (h : ambidexterref10_Same.f k l0 l1 = some r) :
    Calls Try.prog 14 #[.slice A0 l0.length c0, .slice A1 l1.length c1] w fun e w' => e = .returned (.bool r) ∧ Drawn0 w w' := by
  have hu31 := Try.underlying31
  have HR0 := Aside0.mk hr0
  have HC0 := Aside0.mk hc0
  clear hr0 hc0
  have HR1 := Aside0.mk hr1
  have HC1 := Aside0.mk hc1
  clear hr1 hc1
  have H : (if (l0.length : Int) = (l1.length : Int) then (ambidexterref10_Same.l0 k l0 l1 0) else (some false)) = some r := h
  clear h
  by_cases c3 : (l0.length : Int) = (l1.length : Int)
  · rw [if_pos c3] at H
    have c3b0 : ((l0.length : Int) == (l1.length : Int)) = true := beq_iff_eq.mpr c3
    have c3b1 : ((l0.length : Int) != (l1.length : Int)) = false := bne_eq_false_iff_eq.mpr c3
    have c3b2 : (l0.length == l1.length) = true := by first | simpa using c3 | (simp at c3 ⊢; omega)
    clear c3
    have H' := Aside0.mk H
    clear H
    go_enter Try.func14, Try.ntmps14
    go_wp2
    repeat (go_quiet (fail); try go_wp2)
    go_loopg [5] k (fun kq v5 w' => ∃ (x5_1 : Int), v5 = .int .i64 x5_1 ∧ Aside0 (ambidexterref10_Same.l0 kq l0 l1 x5_1 = some r) ∧ Aside0 (kq ≤ k) ∧ Drawn0 w w')
    case atStart => exact ⟨(0), (by first | rfl | (simp; done) | (simp [*]; done)), H', ⟨Nat.le_refl _⟩, by repeat (first | exact Drawn0.refl _ | apply Drawn0.step)⟩
    case round =>
      clear H'
      try clear c1
      try clear p2
      try clear c3
      try clear c3b0
      try clear c3b1
      try clear c3b2
      obtain ⟨x5_1, rfl, HA, HK1, ⟨m1, rfl⟩⟩ := hrel
      cases gk with
      | zero => exact absurd HA.out (by simp [ambidexterref10_Same.l0])
      | succ k1 =>
        have H := HA.out
        clear HA
        simp only [ambidexterref10_Same.l0] at H
        by_cases c4 : x5_1 < (l0.length : Int)
        · rw [if_pos c4] at H
          have c4b0 : decide (x5_1 < (l0.length : Int)) = true := decide_eq_true c4
          clear c4
          by_cases c5 : 0 ≤ x5_1
          · rw [if_pos c5] at H
            have c5b0 : decide (0 ≤ x5_1) = true := decide_eq_true c5
            clear c5
            by_cases c6 : x5_1 < (l1.length : Int)
            · rw [if_pos c6] at H
              have c6b0 : decide (x5_1 < (l1.length : Int)) = true := decide_eq_true c6
              clear c6
              by_cases c7 : (!(((rd_T31 l0 x5_1).f0) == ((rd_T31 l1 x5_1).f0)) || (!((((rd_T31 l0 x5_1).f1).toList) == (((rd_T31 l1 x5_1).f1).toList)) || (!(((rd_T31 l0 x5_1).f2) == ((rd_T31 l1 x5_1).f2))))) = true
              · rw [if_pos c7] at H
                have c7b0 : (!(((rd_T31 l0 x5_1).f0) == ((rd_T31 l1 x5_1).f0)) || (!((((rd_T31 l0 x5_1).f1).toList) == (((rd_T31 l1 x5_1).f1).toList)) || (!(((rd_T31 l0 x5_1).f2) == ((rd_T31 l1 x5_1).f2))))) = true := c7
                clear c7
                obtain rfl := Option.some.inj H
                have p110 : 0 ≤ (x5_1 : Int) := of_decide_eq_true (by first | (with_reducible assumption) | assumption)
                have q110 : x5_1 < (l0.length : Int) := of_decide_eq_true (by first | (with_reducible assumption) | assumption)
                obtain ⟨ad110, e110, hx110_0, hx110_1, hx110_2⟩ := at_T31 HR0.out x5_1 p110 q110
                cases e110
                replace p110 := eq_true p110
                replace q110 := eq_true q110
                have p111 : 0 ≤ (x5_1 : Int) := of_decide_eq_true (by first | (with_reducible assumption) | assumption)
                have q111 : x5_1 < (l1.length : Int) := of_decide_eq_true (by first | (with_reducible assumption) | assumption)
                obtain ⟨ad111, e111, hx111_0, hx111_1, hx111_2⟩ := at_T31 HR1.out x5_1 p111 q111
                cases e111
                replace p111 := eq_true p111
                replace q111 := eq_true q111
                go_wp2
                repeat (go_quiet (fail); try go_wp2)
                go_ret
                exact ⟨by first | rfl | (simp; done) | (simp [*]; done), by repeat (first | exact Drawn0.refl _ | apply Drawn0.step)⟩
              · rw [if_neg c7] at H
                have c7b0 : (!(((rd_T31 l0 x5_1).f0) == ((rd_T31 l1 x5_1).f0)) || (!((((rd_T31 l0 x5_1).f1).toList) == (((rd_T31 l1 x5_1).f1).toList)) || (!(((rd_T31 l0 x5_1).f2) == ((rd_T31 l1 x5_1).f2))))) = false := by simpa using c7
                clear c7
                have H' := Aside0.mk H
                clear H
                have p110 : 0 ≤ (x5_1 : Int) := of_decide_eq_true (by first | (with_reducible assumption) | assumption)
                have q110 : x5_1 < (l0.length : Int) := of_decide_eq_true (by first | (with_reducible assumption) | assumption)
                obtain ⟨ad110, e110, hx110_0, hx110_1, hx110_2⟩ := at_T31 HR0.out x5_1 p110 q110
                cases e110
                replace p110 := eq_true p110
                replace q110 := eq_true q110
                have p111 : 0 ≤ (x5_1 : Int) := of_decide_eq_true (by first | (with_reducible assumption) | assumption)
                have q111 : x5_1 < (l1.length : Int) := of_decide_eq_true (by first | (with_reducible assumption) | assumption)
                obtain ⟨ad111, e111, hx111_0, hx111_1, hx111_2⟩ := at_T31 HR1.out x5_1 p111 q111
                cases e111
                replace p111 := eq_true p111
                replace q111 := eq_true q111
                go_wp2
                repeat (go_quiet (fail); try go_wp2)
                go_roundg k1
                case measure => have := HK1.out; omega
                case rel => exact ⟨(wrap64 (x5_1 + 1)), (by first | rfl | (simp; done) | (simp [*]; done)), H', ⟨by have := HK1.out; omega⟩, by repeat (first | exact Drawn0.refl _ | apply Drawn0.step)⟩
            · rw [if_neg c6] at H
              exact absurd H (by simp)
          · rw [if_neg c5] at H
            exact absurd H (by simp)
        · rw [if_neg c4] at H
          have c4b0 : decide (x5_1 < (l0.length : Int)) = false := decide_eq_false c4
          clear c4
          obtain rfl := Option.some.inj H
          go_wp2
          repeat (go_quiet (fail); try go_wp2)
          go_ret
          exact ⟨by first | rfl | (simp; done) | (simp [*]; done), by repeat (first | exact Drawn0.refl _ | apply Drawn0.step)⟩
  · rw [if_neg c3] at H
    have c3b0 : ((l0.length : Int) == (l1.length : Int)) = false := beq_eq_false_iff_ne.mpr c3
    have c3b1 : ((l0.length : Int) != (l1.length : Int)) = true := bne_iff_ne.mpr c3
    have c3b2 : (l0.length == l1.length) = false := by first | simpa using c3 | (simp at c3 ⊢; omega)
    obtain rfl := Option.some.inj H
    go_enter Try.func14, Try.ntmps14
    go_wp2
    repeat (go_quiet (fail); try go_wp2)
    go_ret
    exact ⟨by first | rfl | (simp; done) | (simp [*]; done), by repeat (first | exact Drawn0.refl _ | apply Drawn0.step)⟩

/-! ### ambidexterlaw10_LexerMatchesReference: function 3 -/
def ambidexterlaw10_LexerMatchesReference.f (k : Nat) (a0 : ByteArray) : Option (Bool) := (ambidexterlaw10_head.f).bind fun t112 => ((ambidexterlaw10_few.f a0).bind fun t113 => ((lexer_Lex.f t113).bind fun bt114 => ((ambidexterref10_Lex.f t113).bind fun bt119 => (if t112 = true then ((ambidexterref10_Same.f k bt114.1 bt119.1).bind fun t124 => (if t124 = true then (if bt114.2.1 = bt119.2.1 then (some (bt114.2.2 == bt119.2.2)) else (some false)) else (some false))) else (some false)))))
theorem ambidexterlaw10_LexerMatchesReference.mono : ∀ a0 k, LeO (ambidexterlaw10_LexerMatchesReference.f k a0) (ambidexterlaw10_LexerMatchesReference.f (k + 1) a0) := by
  intro a0 k
  unfold ambidexterlaw10_LexerMatchesReference.f
  repeat' first
      | (with_reducible exact ambidexterref10_Same.mono _ _ _)
      | (with_reducible exact LeO.refl _)
      | (with_reducible exact LeO.none _)
      | (with_reducible refine LeO.ite ?_ ?_)
      | (with_reducible refine LeO.bind ?_ (fun _ => ?_))
      | exact ambidexterref10_Same.mono _ _ _
      | exact LeO.none _
      | refine LeO.ite ?_ ?_
      | refine LeO.bind ?_ (fun _ => ?_)
set_option maxHeartbeats 8000000 in
set_option maxRecDepth 100000 in
theorem ambidexterlaw10_LexerMatchesReference.calls (k : Nat) (a0 : ByteArray) (r : Bool) (w : World) (h : ambidexterlaw10_LexerMatchesReference.f k a0 = some r) :
    Calls Try.prog 3 #[.string a0] w fun e w' => e = .returned (.bool r) ∧ Below w.heap.size w w' := by
  have HB := Aside0.mk (Below.refl w.heap.size w)
  have H : ((ambidexterlaw10_head.f).bind fun t112 => ((ambidexterlaw10_few.f a0).bind fun t113 => ((lexer_Lex.f t113).bind fun bt114 => ((ambidexterref10_Lex.f t113).bind fun bt119 => (if t112 = true then ((ambidexterref10_Same.f k bt114.1 bt119.1).bind fun t124 => (if t124 = true then (if bt114.2.1 = bt119.2.1 then (some (bt114.2.2 == bt119.2.2)) else (some false)) else (some false))) else (some false)))))) = some r := h
  clear h
  replace H := Option.bind_eq_some_iff.mp H
  obtain ⟨t112, A20, H⟩ := H
  replace H : ((ambidexterlaw10_few.f a0).bind fun t113 => ((lexer_Lex.f t113).bind fun bt114 => ((ambidexterref10_Lex.f t113).bind fun bt119 => (if t112 = true then ((ambidexterref10_Same.f k bt114.1 bt119.1).bind fun t124 => (if t124 = true then (if bt114.2.1 = bt119.2.1 then (some (bt114.2.2 == bt119.2.2)) else (some false)) else (some false))) else (some false))))) = some r := H
  have A2 := Aside0.mk A20
  clear A20
  replace H := Option.bind_eq_some_iff.mp H
  obtain ⟨t113, A30, H⟩ := H
  replace H : ((lexer_Lex.f t113).bind fun bt114 => ((ambidexterref10_Lex.f t113).bind fun bt119 => (if t112 = true then ((ambidexterref10_Same.f k bt114.1 bt119.1).bind fun t124 => (if t124 = true then (if bt114.2.1 = bt119.2.1 then (some (bt114.2.2 == bt119.2.2)) else (some false)) else (some false))) else (some false)))) = some r := H
  have A3 := Aside0.mk A30
  clear A30
  replace H := Option.bind_eq_some_iff.mp H
  obtain ⟨⟨t114, t115, t116⟩, A40, H⟩ := H
  replace H : ((ambidexterref10_Lex.f t113).bind fun bt119 => (if t112 = true then ((ambidexterref10_Same.f k t114 bt119.1).bind fun t124 => (if t124 = true then (if t115 = bt119.2.1 then (some (t116 == bt119.2.2)) else (some false)) else (some false))) else (some false))) = some r := H
  have A4 := Aside0.mk A40
  clear A40
  replace H := Option.bind_eq_some_iff.mp H
  obtain ⟨⟨t119, t120, t121⟩, A50, H⟩ := H
  replace H : (if t112 = true then ((ambidexterref10_Same.f k t114 t119).bind fun t124 => (if t124 = true then (if t115 = t120 then (some (t116 == t121)) else (some false)) else (some false))) else (some false)) = some r := H
  have A5 := Aside0.mk A50
  clear A50
  by_cases c6 : t112 = true
  · subst c6
    have H1 : ((ambidexterref10_Same.f k t114 t119).bind fun t124 => (if t124 = true then (if t115 = t120 then (some (t116 == t121)) else (some false)) else (some false))) = some r := by rw [if_pos rfl] at H; exact H
    clear H
    have H := H1
    clear H1
    replace H := Option.bind_eq_some_iff.mp H
    obtain ⟨t124, A70, H⟩ := H
    replace H : (if t124 = true then (if t115 = t120 then (some (t116 == t121)) else (some false)) else (some false)) = some r := H
    have A7 := Aside0.mk A70
    clear A70
    by_cases c8 : t124 = true
    · subst c8
      have H1 : (if t115 = t120 then (some (t116 == t121)) else (some false)) = some r := by rw [if_pos rfl] at H; exact H
      clear H
      have H := H1
      clear H1
      by_cases c9 : t115 = t120
      · rw [if_pos c9] at H
        have c9b0 : (t115 == t120) = true := beq_iff_eq.mpr c9
        have c9b1 : (t115 != t120) = false := bne_eq_false_iff_eq.mpr c9
        clear c9
        obtain rfl := Option.some.inj H
        go_enter Try.func3, Try.ntmps3
        go_wp2_with (first | ((with_reducible refine gate_callee (f := 10) rfl ?_); refine goesL_ (some 11) rfl rfl Try.func10 (by kernel_rfl) rfl #[] rfl (by (try simp only [List.map_toArray, List.map_cons, List.map_nil]); first | done | rfl | (simp only [List.length_drop, List.length_take]; rfl)) ?_; (with_reducible refine (ambidexterlaw10_head.calls  true _ A2.out).mono ?_); rintro e w10 ⟨rfl, hb⟩; refine ⟨_, rfl, ?_⟩; have n0_ := Aside0.mk (below_step (by repeat (first | (with_reducible first | exact HB.out | apply below_alloc | apply pw_below_drewN | apply below_drew1) | exact HB.out)) hb); clear HB; have HB := n0_; clear n0_; (try clear hb); (try clear hb2); (try clear hk); (try clear hi)) | ((with_reducible refine gate_callee (f := 11) rfl ?_); refine goesL_ (some 13) rfl rfl Try.func11 (by kernel_rfl) rfl #[.string a0] rfl (by (try simp only [List.map_toArray, List.map_cons, List.map_nil]); first | done | rfl | (simp only [List.length_drop, List.length_take]; rfl)) ?_; (with_reducible refine (ambidexterlaw10_few.calls a0 t113 _ A3.out).mono ?_); rintro e w11 ⟨rfl, hb⟩; refine ⟨_, rfl, ?_⟩; have n0_ := Aside0.mk (below_step (by repeat (first | (with_reducible first | exact HB.out | apply below_alloc | apply pw_below_drewN | apply below_drew1) | exact HB.out)) hb); clear HB; have HB := n0_; clear n0_; (try clear hb); (try clear hb2); (try clear hk); (try clear hi)) | ((with_reducible refine gate_callee (f := 12) rfl ?_); refine goesL_ (some 16) rfl rfl Try.func12 (by kernel_rfl) rfl #[.string t113] rfl (by (try simp only [List.map_toArray, List.map_cons, List.map_nil]); first | done | rfl | (simp only [List.length_drop, List.length_take]; rfl)) ?_; (with_reducible refine (lexer_Lex.calls t113 t114 t115 t116 _ A4.out).mono ?_); rintro e w12 ⟨v117, rfl, ho0, hb⟩; refine ⟨_, rfl, ?_⟩; have n0_ := Aside0.mk (Kd.R_lower ho0 (below_size (by repeat (first | (with_reducible first | exact HB.out | apply below_alloc | apply pw_below_drewN | apply below_drew1) | exact HB.out)))); have n1_ := Aside0.mk (below_step (by repeat (first | (with_reducible first | exact HB.out | apply below_alloc | apply pw_below_drewN | apply below_drew1) | exact HB.out)) hb); clear HB; have HO118 := n0_; have HB := n1_; clear n0_ n1_; (try clear hb); (try clear hb2); (try clear hk); (try clear hi); (try clear ho0)) | ((with_reducible refine gate_callee (f := 13) rfl ?_); refine goesL_ (some 22) rfl rfl Try.func13 (by kernel_rfl) rfl #[.string t113] rfl (by (try simp only [List.map_toArray, List.map_cons, List.map_nil]); first | done | rfl | (simp only [List.length_drop, List.length_take]; rfl)) ?_; (with_reducible refine (ambidexterref10_Lex.calls t113 t119 t120 t121 _ A5.out).mono ?_); rintro e w13 ⟨v122, rfl, ho0, hb⟩; refine ⟨_, rfl, ?_⟩; have n0_ := Aside0.mk (Kd.R_elder' (by (with_reducible repeat (first | apply Kd.R_alloc | apply Kd.R_drewN | apply Kd.R_drew)); exact HO118.out) (Kd.R_base ho0) hb); have n1_ := Aside0.mk (Kd.R_lower (Kd.R_new' ho0 (Kd.R_lt (by (with_reducible repeat (first | apply Kd.R_alloc | apply Kd.R_drewN | apply Kd.R_drew)); exact HO118.out))) (below_size (by repeat (first | (with_reducible first | exact HB.out | apply below_alloc | apply pw_below_drewN | apply below_drew1) | exact HB.out)))); have n2_ := Aside0.mk (below_step (by repeat (first | (with_reducible first | exact HB.out | apply below_alloc | apply pw_below_drewN | apply below_drew1) | exact HB.out)) hb); clear HO118; clear HB; have HO118 := n0_; have HO123 := n1_; have HB := n2_; clear n0_ n1_ n2_; (try clear hb); (try clear hb2); (try clear hk); (try clear hi); (try clear ho0); obtain ⟨Ao14, co14, eo14⟩ := Kd.R_slice HO118.out; subst eo14; obtain ⟨Ao15, co15, eo15⟩ := Kd.R_slice HO123.out; subst eo15) | (go_at_call 14; (with_reducible refine (ambidexterref10_Same.calls k _ _ t114 _ _ t119 true _ ?side1 ?side2 ?side3 ?side4 A7.out).mono ?_); (case side1 => repeat (first | exact (Kd.R_reads' HO118.out).2.2 | (with_reducible refine Kd.C_alloc ?_ _) | (with_reducible refine Kd.C_drewN ?_ _) | (with_reducible refine Kd.C_drew ?_))); (case side2 => exact (Kd.R_reads' HO118.out).2.1); (case side3 => repeat (first | exact (Kd.R_reads' HO123.out).2.2 | (with_reducible refine Kd.C_alloc ?_ _) | (with_reducible refine Kd.C_drewN ?_ _) | (with_reducible refine Kd.C_drew ?_))); (case side4 => exact (Kd.R_reads' HO123.out).2.1); rintro e w' ⟨rfl, ⟨nd, rfl⟩⟩))
        go_ret
        exact ⟨by first | rfl | (simp [errW_none, errW_some] <;> rfl) | (simp [*, errW_none, errW_some] <;> rfl), by repeat (first | (with_reducible first | exact HB.out | apply below_alloc | apply pw_below_drewN | apply below_drew1) | exact HB.out)⟩
      · rw [if_neg c9] at H
        have c9b0 : (t115 == t120) = false := beq_eq_false_iff_ne.mpr c9
        have c9b1 : (t115 != t120) = true := bne_iff_ne.mpr c9
        obtain rfl := Option.some.inj H
        go_enter Try.func3, Try.ntmps3
        go_wp2_with (first | ((with_reducible refine gate_callee (f := 10) rfl ?_); refine goesL_ (some 11) rfl rfl Try.func10 (by kernel_rfl) rfl #[] rfl (by (try simp only [List.map_toArray, List.map_cons, List.map_nil]); first | done | rfl | (simp only [List.length_drop, List.length_take]; rfl)) ?_; (with_reducible refine (ambidexterlaw10_head.calls  true _ A2.out).mono ?_); rintro e w16 ⟨rfl, hb⟩; refine ⟨_, rfl, ?_⟩; have n0_ := Aside0.mk (below_step (by repeat (first | (with_reducible first | exact HB.out | apply below_alloc | apply pw_below_drewN | apply below_drew1) | exact HB.out)) hb); clear HB; have HB := n0_; clear n0_; (try clear hb); (try clear hb2); (try clear hk); (try clear hi)) | ((with_reducible refine gate_callee (f := 11) rfl ?_); refine goesL_ (some 13) rfl rfl Try.func11 (by kernel_rfl) rfl #[.string a0] rfl (by (try simp only [List.map_toArray, List.map_cons, List.map_nil]); first | done | rfl | (simp only [List.length_drop, List.length_take]; rfl)) ?_; (with_reducible refine (ambidexterlaw10_few.calls a0 t113 _ A3.out).mono ?_); rintro e w17 ⟨rfl, hb⟩; refine ⟨_, rfl, ?_⟩; have n0_ := Aside0.mk (below_step (by repeat (first | (with_reducible first | exact HB.out | apply below_alloc | apply pw_below_drewN | apply below_drew1) | exact HB.out)) hb); clear HB; have HB := n0_; clear n0_; (try clear hb); (try clear hb2); (try clear hk); (try clear hi)) | ((with_reducible refine gate_callee (f := 12) rfl ?_); refine goesL_ (some 16) rfl rfl Try.func12 (by kernel_rfl) rfl #[.string t113] rfl (by (try simp only [List.map_toArray, List.map_cons, List.map_nil]); first | done | rfl | (simp only [List.length_drop, List.length_take]; rfl)) ?_; (with_reducible refine (lexer_Lex.calls t113 t114 t115 t116 _ A4.out).mono ?_); rintro e w18 ⟨v117, rfl, ho0, hb⟩; refine ⟨_, rfl, ?_⟩; have n0_ := Aside0.mk (Kd.R_lower ho0 (below_size (by repeat (first | (with_reducible first | exact HB.out | apply below_alloc | apply pw_below_drewN | apply below_drew1) | exact HB.out)))); have n1_ := Aside0.mk (below_step (by repeat (first | (with_reducible first | exact HB.out | apply below_alloc | apply pw_below_drewN | apply below_drew1) | exact HB.out)) hb); clear HB; have HO118 := n0_; have HB := n1_; clear n0_ n1_; (try clear hb); (try clear hb2); (try clear hk); (try clear hi); (try clear ho0)) | ((with_reducible refine gate_callee (f := 13) rfl ?_); refine goesL_ (some 22) rfl rfl Try.func13 (by kernel_rfl) rfl #[.string t113] rfl (by (try simp only [List.map_toArray, List.map_cons, List.map_nil]); first | done | rfl | (simp only [List.length_drop, List.length_take]; rfl)) ?_; (with_reducible refine (ambidexterref10_Lex.calls t113 t119 t120 t121 _ A5.out).mono ?_); rintro e w19 ⟨v122, rfl, ho0, hb⟩; refine ⟨_, rfl, ?_⟩; have n0_ := Aside0.mk (Kd.R_elder' (by (with_reducible repeat (first | apply Kd.R_alloc | apply Kd.R_drewN | apply Kd.R_drew)); exact HO118.out) (Kd.R_base ho0) hb); have n1_ := Aside0.mk (Kd.R_lower (Kd.R_new' ho0 (Kd.R_lt (by (with_reducible repeat (first | apply Kd.R_alloc | apply Kd.R_drewN | apply Kd.R_drew)); exact HO118.out))) (below_size (by repeat (first | (with_reducible first | exact HB.out | apply below_alloc | apply pw_below_drewN | apply below_drew1) | exact HB.out)))); have n2_ := Aside0.mk (below_step (by repeat (first | (with_reducible first | exact HB.out | apply below_alloc | apply pw_below_drewN | apply below_drew1) | exact HB.out)) hb); clear HO118; clear HB; have HO118 := n0_; have HO123 := n1_; have HB := n2_; clear n0_ n1_ n2_; (try clear hb); (try clear hb2); (try clear hk); (try clear hi); (try clear ho0); obtain ⟨Ao20, co20, eo20⟩ := Kd.R_slice HO118.out; subst eo20; obtain ⟨Ao21, co21, eo21⟩ := Kd.R_slice HO123.out; subst eo21) | (go_at_call 14; (with_reducible refine (ambidexterref10_Same.calls k _ _ t114 _ _ t119 true _ ?side1 ?side2 ?side3 ?side4 A7.out).mono ?_); (case side1 => repeat (first | exact (Kd.R_reads' HO118.out).2.2 | (with_reducible refine Kd.C_alloc ?_ _) | (with_reducible refine Kd.C_drewN ?_ _) | (with_reducible refine Kd.C_drew ?_))); (case side2 => exact (Kd.R_reads' HO118.out).2.1); (case side3 => repeat (first | exact (Kd.R_reads' HO123.out).2.2 | (with_reducible refine Kd.C_alloc ?_ _) | (with_reducible refine Kd.C_drewN ?_ _) | (with_reducible refine Kd.C_drew ?_))); (case side4 => exact (Kd.R_reads' HO123.out).2.1); rintro e w' ⟨rfl, ⟨nd, rfl⟩⟩))
        go_ret
        exact ⟨by first | rfl | (simp [errW_none, errW_some] <;> rfl) | (simp [*, errW_none, errW_some] <;> rfl), by repeat (first | (with_reducible first | exact HB.out | apply below_alloc | apply pw_below_drewN | apply below_drew1) | exact HB.out)⟩
    · replace c8 := Bool.eq_false_iff.mpr c8
      subst c8
      have H1 : (some false) = some r := by rw [if_neg (show ¬ (false = true) by decide)] at H; exact H
      clear H
      have H := H1
      clear H1
      obtain rfl := Option.some.inj H
      go_enter Try.func3, Try.ntmps3
      go_wp2_with (first | ((with_reducible refine gate_callee (f := 10) rfl ?_); refine goesL_ (some 11) rfl rfl Try.func10 (by kernel_rfl) rfl #[] rfl (by (try simp only [List.map_toArray, List.map_cons, List.map_nil]); first | done | rfl | (simp only [List.length_drop, List.length_take]; rfl)) ?_; (with_reducible refine (ambidexterlaw10_head.calls  true _ A2.out).mono ?_); rintro e w22 ⟨rfl, hb⟩; refine ⟨_, rfl, ?_⟩; have n0_ := Aside0.mk (below_step (by repeat (first | (with_reducible first | exact HB.out | apply below_alloc | apply pw_below_drewN | apply below_drew1) | exact HB.out)) hb); clear HB; have HB := n0_; clear n0_; (try clear hb); (try clear hb2); (try clear hk); (try clear hi)) | ((with_reducible refine gate_callee (f := 11) rfl ?_); refine goesL_ (some 13) rfl rfl Try.func11 (by kernel_rfl) rfl #[.string a0] rfl (by (try simp only [List.map_toArray, List.map_cons, List.map_nil]); first | done | rfl | (simp only [List.length_drop, List.length_take]; rfl)) ?_; (with_reducible refine (ambidexterlaw10_few.calls a0 t113 _ A3.out).mono ?_); rintro e w23 ⟨rfl, hb⟩; refine ⟨_, rfl, ?_⟩; have n0_ := Aside0.mk (below_step (by repeat (first | (with_reducible first | exact HB.out | apply below_alloc | apply pw_below_drewN | apply below_drew1) | exact HB.out)) hb); clear HB; have HB := n0_; clear n0_; (try clear hb); (try clear hb2); (try clear hk); (try clear hi)) | ((with_reducible refine gate_callee (f := 12) rfl ?_); refine goesL_ (some 16) rfl rfl Try.func12 (by kernel_rfl) rfl #[.string t113] rfl (by (try simp only [List.map_toArray, List.map_cons, List.map_nil]); first | done | rfl | (simp only [List.length_drop, List.length_take]; rfl)) ?_; (with_reducible refine (lexer_Lex.calls t113 t114 t115 t116 _ A4.out).mono ?_); rintro e w24 ⟨v117, rfl, ho0, hb⟩; refine ⟨_, rfl, ?_⟩; have n0_ := Aside0.mk (Kd.R_lower ho0 (below_size (by repeat (first | (with_reducible first | exact HB.out | apply below_alloc | apply pw_below_drewN | apply below_drew1) | exact HB.out)))); have n1_ := Aside0.mk (below_step (by repeat (first | (with_reducible first | exact HB.out | apply below_alloc | apply pw_below_drewN | apply below_drew1) | exact HB.out)) hb); clear HB; have HO118 := n0_; have HB := n1_; clear n0_ n1_; (try clear hb); (try clear hb2); (try clear hk); (try clear hi); (try clear ho0)) | ((with_reducible refine gate_callee (f := 13) rfl ?_); refine goesL_ (some 22) rfl rfl Try.func13 (by kernel_rfl) rfl #[.string t113] rfl (by (try simp only [List.map_toArray, List.map_cons, List.map_nil]); first | done | rfl | (simp only [List.length_drop, List.length_take]; rfl)) ?_; (with_reducible refine (ambidexterref10_Lex.calls t113 t119 t120 t121 _ A5.out).mono ?_); rintro e w25 ⟨v122, rfl, ho0, hb⟩; refine ⟨_, rfl, ?_⟩; have n0_ := Aside0.mk (Kd.R_elder' (by (with_reducible repeat (first | apply Kd.R_alloc | apply Kd.R_drewN | apply Kd.R_drew)); exact HO118.out) (Kd.R_base ho0) hb); have n1_ := Aside0.mk (Kd.R_lower (Kd.R_new' ho0 (Kd.R_lt (by (with_reducible repeat (first | apply Kd.R_alloc | apply Kd.R_drewN | apply Kd.R_drew)); exact HO118.out))) (below_size (by repeat (first | (with_reducible first | exact HB.out | apply below_alloc | apply pw_below_drewN | apply below_drew1) | exact HB.out)))); have n2_ := Aside0.mk (below_step (by repeat (first | (with_reducible first | exact HB.out | apply below_alloc | apply pw_below_drewN | apply below_drew1) | exact HB.out)) hb); clear HO118; clear HB; have HO118 := n0_; have HO123 := n1_; have HB := n2_; clear n0_ n1_ n2_; (try clear hb); (try clear hb2); (try clear hk); (try clear hi); (try clear ho0); obtain ⟨Ao26, co26, eo26⟩ := Kd.R_slice HO118.out; subst eo26; obtain ⟨Ao27, co27, eo27⟩ := Kd.R_slice HO123.out; subst eo27) | (go_at_call 14; (with_reducible refine (ambidexterref10_Same.calls k _ _ t114 _ _ t119 false _ ?side1 ?side2 ?side3 ?side4 A7.out).mono ?_); (case side1 => repeat (first | exact (Kd.R_reads' HO118.out).2.2 | (with_reducible refine Kd.C_alloc ?_ _) | (with_reducible refine Kd.C_drewN ?_ _) | (with_reducible refine Kd.C_drew ?_))); (case side2 => exact (Kd.R_reads' HO118.out).2.1); (case side3 => repeat (first | exact (Kd.R_reads' HO123.out).2.2 | (with_reducible refine Kd.C_alloc ?_ _) | (with_reducible refine Kd.C_drewN ?_ _) | (with_reducible refine Kd.C_drew ?_))); (case side4 => exact (Kd.R_reads' HO123.out).2.1); rintro e w' ⟨rfl, ⟨nd, rfl⟩⟩))
      go_ret
      exact ⟨by first | rfl | (simp [errW_none, errW_some] <;> rfl) | (simp [*, errW_none, errW_some] <;> rfl), by repeat (first | (with_reducible first | exact HB.out | apply below_alloc | apply pw_below_drewN | apply below_drew1) | exact HB.out)⟩
  · replace c6 := Bool.eq_false_iff.mpr c6
    subst c6
    have H1 : (some false) = some r := by rw [if_neg (show ¬ (false = true) by decide)] at H; exact H
    clear H
    have H := H1
    clear H1
    obtain rfl := Option.some.inj H
    go_enter Try.func3, Try.ntmps3
    go_wp2_with (first | ((with_reducible refine gate_callee (f := 10) rfl ?_); refine goesL_ (some 11) rfl rfl Try.func10 (by kernel_rfl) rfl #[] rfl (by (try simp only [List.map_toArray, List.map_cons, List.map_nil]); first | done | rfl | (simp only [List.length_drop, List.length_take]; rfl)) ?_; (with_reducible refine (ambidexterlaw10_head.calls  false _ A2.out).mono ?_); rintro e w28 ⟨rfl, hb⟩; refine ⟨_, rfl, ?_⟩; have n0_ := Aside0.mk (below_step (by repeat (first | (with_reducible first | exact HB.out | apply below_alloc | apply pw_below_drewN | apply below_drew1) | exact HB.out)) hb); clear HB; have HB := n0_; clear n0_; (try clear hb); (try clear hb2); (try clear hk); (try clear hi)) | ((with_reducible refine gate_callee (f := 11) rfl ?_); refine goesL_ (some 13) rfl rfl Try.func11 (by kernel_rfl) rfl #[.string a0] rfl (by (try simp only [List.map_toArray, List.map_cons, List.map_nil]); first | done | rfl | (simp only [List.length_drop, List.length_take]; rfl)) ?_; (with_reducible refine (ambidexterlaw10_few.calls a0 t113 _ A3.out).mono ?_); rintro e w29 ⟨rfl, hb⟩; refine ⟨_, rfl, ?_⟩; have n0_ := Aside0.mk (below_step (by repeat (first | (with_reducible first | exact HB.out | apply below_alloc | apply pw_below_drewN | apply below_drew1) | exact HB.out)) hb); clear HB; have HB := n0_; clear n0_; (try clear hb); (try clear hb2); (try clear hk); (try clear hi)) | ((with_reducible refine gate_callee (f := 12) rfl ?_); refine goesL_ (some 16) rfl rfl Try.func12 (by kernel_rfl) rfl #[.string t113] rfl (by (try simp only [List.map_toArray, List.map_cons, List.map_nil]); first | done | rfl | (simp only [List.length_drop, List.length_take]; rfl)) ?_; (with_reducible refine (lexer_Lex.calls t113 t114 t115 t116 _ A4.out).mono ?_); rintro e w30 ⟨v117, rfl, ho0, hb⟩; refine ⟨_, rfl, ?_⟩; have n0_ := Aside0.mk (Kd.R_lower ho0 (below_size (by repeat (first | (with_reducible first | exact HB.out | apply below_alloc | apply pw_below_drewN | apply below_drew1) | exact HB.out)))); have n1_ := Aside0.mk (below_step (by repeat (first | (with_reducible first | exact HB.out | apply below_alloc | apply pw_below_drewN | apply below_drew1) | exact HB.out)) hb); clear HB; have HO118 := n0_; have HB := n1_; clear n0_ n1_; (try clear hb); (try clear hb2); (try clear hk); (try clear hi); (try clear ho0)) | ((with_reducible refine gate_callee (f := 13) rfl ?_); refine goesL_ (some 22) rfl rfl Try.func13 (by kernel_rfl) rfl #[.string t113] rfl (by (try simp only [List.map_toArray, List.map_cons, List.map_nil]); first | done | rfl | (simp only [List.length_drop, List.length_take]; rfl)) ?_; (with_reducible refine (ambidexterref10_Lex.calls t113 t119 t120 t121 _ A5.out).mono ?_); rintro e w31 ⟨v122, rfl, ho0, hb⟩; refine ⟨_, rfl, ?_⟩; have n0_ := Aside0.mk (Kd.R_elder' (by (with_reducible repeat (first | apply Kd.R_alloc | apply Kd.R_drewN | apply Kd.R_drew)); exact HO118.out) (Kd.R_base ho0) hb); have n1_ := Aside0.mk (Kd.R_lower (Kd.R_new' ho0 (Kd.R_lt (by (with_reducible repeat (first | apply Kd.R_alloc | apply Kd.R_drewN | apply Kd.R_drew)); exact HO118.out))) (below_size (by repeat (first | (with_reducible first | exact HB.out | apply below_alloc | apply pw_below_drewN | apply below_drew1) | exact HB.out)))); have n2_ := Aside0.mk (below_step (by repeat (first | (with_reducible first | exact HB.out | apply below_alloc | apply pw_below_drewN | apply below_drew1) | exact HB.out)) hb); clear HO118; clear HB; have HO118 := n0_; have HO123 := n1_; have HB := n2_; clear n0_ n1_ n2_; (try clear hb); (try clear hb2); (try clear hk); (try clear hi); (try clear ho0)))
    go_ret
    exact ⟨by first | rfl | (simp [errW_none, errW_some] <;> rfl) | (simp [*, errW_none, errW_some] <;> rfl), by repeat (first | (with_reducible first | exact HB.out | apply below_alloc | apply pw_below_drewN | apply below_drew1) | exact HB.out)⟩

/-- THE ONE PURE STATEMENT of ambidexterlaw10_LexerMatchesReference: yours. -/
def ambidexterlaw10_LexerMatchesReference.Pure : Prop := ∀ (a0 : ByteArray), a0.size ≤ 140737488351232 → ∃ k, ambidexterlaw10_LexerMatchesReference.f k a0 = some true
theorem ambidexterlaw10_LexerMatchesReference.walk (P : ambidexterlaw10_LexerMatchesReference.Pure) (a0 : ByteArray) (w : World) (w0 : a0.size ≤ 140737488351232) :
    Calls Try.prog 3 #[.string a0] w fun e w' => e = .returned (.bool true) ∧ Below w.heap.size w w' := by
  obtain ⟨k, h⟩ := P a0 w0
  refine (ambidexterlaw10_LexerMatchesReference.calls k a0 true w h).mono ?_
  rintro e w' ⟨rfl, hd⟩
  exact ⟨rfl, hd⟩

/-! ### ambidexterref10_Void: function 15 -/
def ambidexterref10_Void.f (a0 : ByteArray) : Option (Bool) := (ambidexterref10_gap.f a0 0).bind fun t125 => (some (t125 == (a0.size : Int)))
set_option maxHeartbeats 8000000 in
set_option maxRecDepth 100000 in
theorem ambidexterref10_Void.calls (a0 : ByteArray) (r : Bool) (w : World) (h : ambidexterref10_Void.f a0 = some r) :
    Calls Try.prog 15 #[.string a0] w fun e w' => e = .returned (.bool r) ∧ Drawn0 w w' := by
  have H : ((ambidexterref10_gap.f a0 0).bind fun t125 => (some (t125 == (a0.size : Int)))) = some r := h
  clear h
  replace H := Option.bind_eq_some_iff.mp H
  obtain ⟨t125, A20, H⟩ := H
  replace H : (some (t125 == (a0.size : Int))) = some r := H
  have A2 := Aside0.mk A20
  clear A20
  obtain rfl := Option.some.inj H
  go_enter Try.func15, Try.ntmps15
  go_wp2_with (first | ((with_reducible refine gate_callee (f := 19) rfl ?_); refine goesL_ (some 4) rfl rfl Try.func19 (by kernel_rfl) rfl #[.string a0, .int .i64 0] rfl (by (try simp only [List.map_toArray, List.map_cons, List.map_nil]); first | done | rfl | (simp only [List.length_drop, List.length_take]; rfl)) ?_; (with_reducible refine (ambidexterref10_gap.calls a0 0 t125 _ A2.out).mono ?_); rintro e w' ⟨rfl, ⟨nd, rfl⟩⟩; refine ⟨_, rfl, ?_⟩))
  go_ret
  exact ⟨by first | rfl | (simp; done) | (simp [*]; done), by repeat (first | exact Drawn0.refl _ | apply Drawn0.step)⟩

end Go.Proofs.Ytiikijdkhmbdbaa.PLx
