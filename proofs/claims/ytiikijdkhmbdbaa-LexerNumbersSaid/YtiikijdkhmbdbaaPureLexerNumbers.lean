/- For every integer and every letter: the decimal notation of the integer's last nine digits (with its sign) lexes to one number; with a 0 ahead of the digits, or a letter behind them, it is an error; and where the integer is negative, the digits and the whole notation behind them are two tokens. No condition. -/
import Derived.Test.YtiikijdkhmbdbaaTheory2
import Derived.Test.YtiikijdkhmbdbaaPLxx10
namespace Go.Proofs.Ytiikijdkhmbdbaa.Pure
open Go.RowKit Go.Proofs.Ytiikijdkhmbdbaa.PLx Go.Proofs.YtiikijdkhmbdbaaW.PrintWords Go.Proofs.YtiikijdkhmbdbaaW.PrintLast

theorem one_size (c : Int) : (strOfNums [c]).size = 1 := rfl
theorem one_bt (c : Int) (h0 : 0 ≤ c) (h1 : c ≤ 255) : bt (strOfNums [c]) 0 = c := by
  rw [← bt_at (strOfNums [c]) 0 (by rw [one_size]; decide)]
  show ((UInt8.ofNat c.toNat).toNat : Int) = c
  rw [UInt8.toNat_ofNat_of_lt' (by show c.toNat < 256; omega)]
  omega
theorem cls_digit (c : Nat) (h0 : 48 ≤ c) (h1 : c ≤ 57) : cls c = 2 := by
  unfold cls; rw [if_neg (by omega), if_pos (by omega)]
theorem cls_letter (c : Nat) (h0 : 97 ≤ c) (h1 : c ≤ 122) : cls c = 1 := by
  unfold cls; rw [if_pos (by omega)]
/-- all digits -/
def Digs (d : ByteArray) : Prop := ∀ x : Int, 0 ≤ x → x < (d.size : Int) → 48 ≤ bt d x ∧ bt d x ≤ 57
theorem toList_48 {d : ByteArray} (h1 : d.size = 1) (h : bt d 0 = 48) : d.toList = [48] := by
  have e : d = ⟨#[48]⟩ := by
    refine ext_bt (by rw [h1]; rfl) (fun x h0 hx => ?_)
    have : x = 0 := by omega
    subst this
    rw [h]; rfl
  rw [e, ByteArray.toList_eq]
/-- a number at i, its digits from f to j -/
theorem number_next {u : ByteArray} {sg : Bool} {i f j : Int} (_ : 0 ≤ i) (hf : firstAt sg i = f) (hc : at_ u i = if sg = true then 7 else 2) (hd : ∀ x, f ≤ x → x < j → at_ u x = 2) (hfj : f ≤ j) (hj : j ≤ (u.size : Int)) (he : at_ u j ≠ 2) :
    nextAt u i = if (numOK sg (u.extract f.toNat j.toNat) && !wordAt u j) = true then (2, u.extract i.toNat j.toNat, i, true, j) else (0, ⟨#[]⟩, 0, false, j) := by
  have hs : scanTo (digitAt u) u.size f = j := scanTo_eq hfj hj (fun x a b => by simp [digitAt, hd x a b]) (fun _ => by simpa [digitAt] using he)
  have h1 : at_ u i ≠ 1 := by rw [hc]; split <;> decide
  have h4 : at_ u i ≠ 4 := by rw [hc]; split <;> decide
  have h7 : at_ u i = 7 ∨ at_ u i = 2 := by rw [hc]; cases sg <;> simp
  have hb : (at_ u i == 7) = sg := by rw [hc]; cases sg <;> rfl
  unfold nextAt
  rw [if_neg h1, if_neg h4, if_pos h7]
  simp only [hb, hf, hs]
theorem numOK_of {sg : Bool} {d : ByteArray} (h1 : 1 ≤ d.size) (h9 : d.size ≤ 9) (hl : bt d 0 ≠ 48 ∨ (d.size = 1 ∧ sg = false)) : numOK sg d = true := by
  rw [numOK_eq, decide_eq_true h1, decide_eq_true h9]
  rcases hl with h | ⟨ha, hb⟩
  · have e : (bt d 0 != 48) = true := bne_iff_ne.2 h
    rw [e]; rfl
  · by_cases h : bt d 0 = 48
    · have e : (bt d 0 != 48) = false := by simp [h]
      rw [e, toList_48 ha h, hb]; rfl
    · have e : (bt d 0 != 48) = true := bne_iff_ne.2 h
      rw [e]; rfl
theorem numOK_zero {sg : Bool} {d : ByteArray} (h1 : 2 ≤ d.size) (hl : bt d 0 = 48) : numOK sg d = false := by
  rw [numOK_eq]
  have e : (bt d 0 != 48) = false := by simp [hl]
  have e2 : (d.toList == [48]) = false := beq_eq_false_iff_ne.2 (fun h => by have := toList_one_size h; omega)
  rw [e, e2]
  simp
theorem bt_ext0 {s : ByteArray} {a b : Int} (h0 : 0 ≤ a) (h1 : a < b) (h2 : b ≤ (s.size : Int)) : bt (s.extract a.toNat b.toNat) 0 = bt s a := by
  have := bt_extract (s := s) (a := a) (b := b) (x := 0) h0 (by omega) (by omega) h2
  rwa [Int.add_zero] at this
theorem extract_whole (u : ByteArray) : u.extract (0 : Int).toNat ((u.size : Nat) : Int).toNat = u := by
  have e := size_extractI (s := u) (a := 0) (b := u.size) (by omega) (by omega) (by omega)
  refine ext_bt (by omega) (fun x h0 h1 => ?_)
  rw [bt_extract (by omega) h0 (by omega) (by omega), Int.zero_add]
def sgn (sg : Bool) : ByteArray := if sg = true then ⟨#[45]⟩ else ⟨#[]⟩
theorem sgn_size (sg : Bool) : ((sgn sg).size : Int) = if sg = true then 1 else 0 := by cases sg <;> rfl
theorem sgn_first (sg : Bool) : firstAt sg 0 = ((sgn sg).size : Int) := by cases sg <;> rfl

/-- the notation of a number alone -/
theorem lex_number {sg : Bool} {D : ByteArray} (hD : Digs D) (h1 : 1 ≤ D.size) (h9 : D.size ≤ 9) (hl : bt D 0 ≠ 48 ∨ (D.size = 1 ∧ sg = false)) : lexB (sgn sg ++ D) = ([⟨2, sgn sg ++ D, 0⟩], 0, 0) := by
  have hs := sgn_size sg
  have hf := sgn_first sg
  have hn : (sgn sg).size ≤ 1 := by cases sg <;> decide
  have hsz : (sgn sg ++ D).size = (sgn sg).size + D.size := ByteArray.size_append
  have hdig : ∀ x, ((sgn sg).size : Int) ≤ x → x < ((sgn sg ++ D).size : Int) → at_ (sgn sg ++ D) x = 2 := by
    intro x a b
    rw [at_in b, bt_right a (by omega)]
    have := hD (x - (sgn sg).size) (by omega) (by omega)
    exact cls_digit _ (by omega) (by omega)
  have hc : at_ (sgn sg ++ D) 0 = if sg = true then 7 else 2 := by
    cases sg with
    | true => rw [at_in (by omega), bt_left (by omega) (by decide)]; rfl
    | false => exact hdig 0 (by decide) (by omega)
  have hx := number_next (u := sgn sg ++ D) (i := 0) (f := (sgn sg).size) (j := ((sgn sg ++ D).size : Nat)) (by omega) hf hc hdig (by omega) (by omega) (by rw [at_end (Int.le_refl _)]; decide)
  have hok : numOK sg ((sgn sg ++ D).extract (((sgn sg).size : Nat) : Int).toNat (((sgn sg ++ D).size : Nat) : Int).toNat) = true := by
    have e1 := size_extractI (s := sgn sg ++ D) (a := ((sgn sg).size : Nat)) (b := ((sgn sg ++ D).size : Nat)) (by omega) (by omega) (by omega)
    refine numOK_of (by omega) (by omega) ?_
    rw [bt_ext0 (by omega) (by omega) (by omega), bt_right (Int.le_refl _) (by omega), Int.sub_self]
    rcases hl with h | ⟨h, g⟩
    · exact .inl h
    · exact .inr ⟨by omega, g⟩
  rw [hok, (soft_end (u := sgn sg ++ D) (Int.le_refl _)).1] at hx
  simp only [Bool.not_false, Bool.and_self, if_true, extract_whole] at hx
  have hsk : skipTo (sgn sg ++ D) 0 = 0 := skipTo_other (by rw [hc]; split <;> decide) (by rw [hc]; split <;> decide)
  have hp : Path (sgn sg ++ D) 0 [tokAt (sgn sg ++ D) (skipTo (sgn sg ++ D) 0)] (nextAt (sgn sg ++ D) (skipTo (sgn sg ++ D) 0)).2.2.2.2 := .cons (by rw [hsk]; omega) (by rw [hsk, hx]) (.nil _)
  have ht : tokAt (sgn sg ++ D) (skipTo (sgn sg ++ D) 0) = ⟨2, sgn sg ++ D, 0⟩ := by unfold tokAt; rw [hsk, hx]
  rw [ht, hsk, hx] at hp
  simp only at hp
  refine lexB_ok (by omega) hp ?_
  rw [skipTo_other (by rw [at_end (Int.le_refl _)]; decide) (by rw [at_end (Int.le_refl _)]; decide)]
  omega
/-- what fails at its first byte -/
theorem lex_fails {u : ByteArray} (hs : u.size ≤ 20000) (h : 0 < u.size) (h5 : at_ u 0 ≠ 5) (h6 : at_ u 0 ≠ 6) (hno : (nextAt u 0).2.2.2.1 = false) : (lexB u).2.1 = 100 := by
  have hsk : skipTo u 0 = 0 := skipTo_other h5 h6
  rw [lexB_bad hs (.nil 0) (by rw [hsk]; omega) (by rw [hsk]; exact hno)]
/-- a 0 ahead of the digits -/
theorem lex_zero {sg : Bool} {D : ByteArray} (hD : Digs D) (h1 : 1 ≤ D.size) (h9 : D.size ≤ 9) : (lexB ((sgn sg ++ (⟨#[48]⟩ : ByteArray)) ++ D)).2.1 = 100 := by
  have hs := sgn_size sg
  have hf := sgn_first sg
  have hn : (sgn sg).size ≤ 1 := by cases sg <;> decide
  have hz : (⟨#[48]⟩ : ByteArray).size = 1 := rfl
  have hsz0 : (sgn sg ++ (⟨#[48]⟩ : ByteArray)).size = (sgn sg).size + 1 := by rw [ByteArray.size_append, hz]
  have hsz : ((sgn sg ++ (⟨#[48]⟩ : ByteArray)) ++ D).size = (sgn sg).size + 1 + D.size := by rw [ByteArray.size_append, hsz0]
  have hb0 : bt ((sgn sg ++ (⟨#[48]⟩ : ByteArray)) ++ D) (sgn sg).size = 48 := by
    rw [bt_left (by omega) (by omega), bt_right (Int.le_refl _) (by omega), Int.sub_self]; rfl
  have hdig : ∀ x, ((sgn sg).size : Int) ≤ x → x < (((sgn sg ++ (⟨#[48]⟩ : ByteArray)) ++ D).size : Int) → at_ ((sgn sg ++ (⟨#[48]⟩ : ByteArray)) ++ D) x = 2 := by
    intro x a b
    rw [at_in b]
    by_cases e : x = (sgn sg).size
    · rw [e, hb0]; rfl
    · rw [bt_right (by omega) (by omega)]
      have := hD (x - (sgn sg ++ (⟨#[48]⟩ : ByteArray)).size) (by omega) (by omega)
      exact cls_digit _ (by omega) (by omega)
  have hc : at_ ((sgn sg ++ (⟨#[48]⟩ : ByteArray)) ++ D) 0 = if sg = true then 7 else 2 := by
    cases sg with
    | true => rw [at_in (by omega), bt_left (by omega) (by omega), bt_left (by omega) (by decide)]; rfl
    | false => exact hdig 0 (by decide) (by omega)
  have hx := number_next (u := (sgn sg ++ (⟨#[48]⟩ : ByteArray)) ++ D) (i := 0) (f := (sgn sg).size) (j := (((sgn sg ++ (⟨#[48]⟩ : ByteArray)) ++ D).size : Nat)) (by omega) hf hc hdig (by omega) (by omega) (by rw [at_end (Int.le_refl _)]; decide)
  have hno : numOK sg (((sgn sg ++ (⟨#[48]⟩ : ByteArray)) ++ D).extract (((sgn sg).size : Nat) : Int).toNat ((((sgn sg ++ (⟨#[48]⟩ : ByteArray)) ++ D).size : Nat) : Int).toNat) = false := by
    have e1 := size_extractI (s := (sgn sg ++ (⟨#[48]⟩ : ByteArray)) ++ D) (a := ((sgn sg).size : Nat)) (b := (((sgn sg ++ (⟨#[48]⟩ : ByteArray)) ++ D).size : Nat)) (by omega) (by omega) (by omega)
    exact numOK_zero (by omega) (by rw [bt_ext0 (by omega) (by omega) (by omega)]; exact hb0)
  rw [hno] at hx
  simp only [Bool.false_and, Bool.false_eq_true, if_false] at hx
  exact lex_fails (by omega) (by omega) (by rw [hc]; split <;> decide) (by rw [hc]; split <;> decide) (by rw [hx])
/-- a letter behind the digits -/
theorem lex_letter {sg : Bool} {D L : ByteArray} (hD : Digs D) (h1 : 1 ≤ D.size) (h9 : D.size ≤ 9) (hL : L.size = 1) (hl0 : 97 ≤ bt L 0) (hl1 : bt L 0 ≤ 122) : (lexB ((sgn sg ++ D) ++ L)).2.1 = 100 := by
  have hs := sgn_size sg
  have hf := sgn_first sg
  have hn : (sgn sg).size ≤ 1 := by cases sg <;> decide
  have hsz0 : (sgn sg ++ D).size = (sgn sg).size + D.size := ByteArray.size_append
  have hsz : ((sgn sg ++ D) ++ L).size = (sgn sg).size + D.size + 1 := by rw [ByteArray.size_append, hsz0, hL]
  have hdig : ∀ x, ((sgn sg).size : Int) ≤ x → x < ((sgn sg ++ D).size : Int) → at_ ((sgn sg ++ D) ++ L) x = 2 := by
    intro x a b
    rw [at_in (by omega), bt_left (by omega) b, bt_right a (by omega)]
    have := hD (x - (sgn sg).size) (by omega) (by omega)
    exact cls_digit _ (by omega) (by omega)
  have hlet : at_ ((sgn sg ++ D) ++ L) ((sgn sg ++ D).size : Int) = 1 := by
    rw [at_in (by omega), bt_right (Int.le_refl _) (by omega), Int.sub_self]
    exact cls_letter _ (by omega) (by omega)
  have hc : at_ ((sgn sg ++ D) ++ L) 0 = if sg = true then 7 else 2 := by
    cases sg with
    | true => rw [at_in (by omega), bt_left (by omega) (by omega), bt_left (by omega) (by decide)]; rfl
    | false => exact hdig 0 (by decide) (by omega)
  have hx := number_next (u := (sgn sg ++ D) ++ L) (i := 0) (f := (sgn sg).size) (j := ((sgn sg ++ D).size : Nat)) (by omega) hf hc hdig (by omega) (by omega) (by rw [hlet]; decide)
  have hw : wordAt ((sgn sg ++ D) ++ L) ((sgn sg ++ D).size : Int) = true := by unfold wordAt; rw [hlet]; rfl
  rw [hw] at hx
  simp only [Bool.not_true, Bool.and_false, Bool.false_eq_true, if_false] at hx
  exact lex_fails (by omega) (by omega) (by rw [hc]; split <;> decide) (by rw [hc]; split <;> decide) (by rw [hx])
/-- the digits, and the negative number behind them -/
theorem lex_two {D : ByteArray} (hD : Digs D) (h1 : 1 ≤ D.size) (h9 : D.size ≤ 9) (hl : bt D 0 ≠ 48) : ∃ l, lexB ((D ++ (⟨#[45]⟩ : ByteArray)) ++ D) = (l, 0, 0) ∧ l.length = 2 := by
  have hz : (⟨#[45]⟩ : ByteArray).size = 1 := rfl
  have hsz0 : (D ++ (⟨#[45]⟩ : ByteArray)).size = D.size + 1 := by rw [ByteArray.size_append, hz]
  have hsz : ((D ++ (⟨#[45]⟩ : ByteArray)) ++ D).size = D.size + 1 + D.size := by rw [ByteArray.size_append, hsz0]
  have hdig0 : ∀ x, (0 : Int) ≤ x → x < (D.size : Int) → at_ ((D ++ (⟨#[45]⟩ : ByteArray)) ++ D) x = 2 := by
    intro x a b
    rw [at_in (by omega), bt_left (by omega) (by omega), bt_left a b]
    have := hD x a b
    exact cls_digit _ (by omega) (by omega)
  have hmin : at_ ((D ++ (⟨#[45]⟩ : ByteArray)) ++ D) (D.size : Int) = 7 := by
    rw [at_in (by omega), bt_left (by omega) (by omega), bt_right (Int.le_refl _) (by omega), Int.sub_self]; rfl
  have hdig1 : ∀ x, (D.size : Int) + 1 ≤ x → x < (((D ++ (⟨#[45]⟩ : ByteArray)) ++ D).size : Int) → at_ ((D ++ (⟨#[45]⟩ : ByteArray)) ++ D) x = 2 := by
    intro x a b
    rw [at_in b, bt_right (by omega) (by omega)]
    have := hD (x - (D ++ (⟨#[45]⟩ : ByteArray)).size) (by omega) (by omega)
    exact cls_digit _ (by omega) (by omega)
  generalize hu : (D ++ (⟨#[45]⟩ : ByteArray)) ++ D = u at *
  have hb0 : bt u 0 = bt D 0 := by rw [← hu, bt_left (by omega) (by omega), bt_left (by omega) (by omega)]
  have hb1 : bt u ((D.size : Int) + 1) = bt D 0 := by rw [← hu, bt_right (by omega) (by omega)]; congr 1; omega
  have hx := number_next (u := u) (sg := false) (i := 0) (f := 0) (j := (D.size : Nat)) (by omega) rfl (hdig0 0 (by omega) (by omega)) hdig0 (by omega) (by omega) (by rw [hmin]; decide)
  have hok : numOK false (u.extract (0 : Int).toNat ((D.size : Nat) : Int).toNat) = true := by
    have e1 := size_extractI (s := u) (a := 0) (b := (D.size : Nat)) (by omega) (by omega) (by omega)
    exact numOK_of (by omega) (by omega) (.inl (by rw [bt_ext0 (by omega) (by omega) (by omega), hb0]; exact hl))
  have hw : wordAt u (D.size : Int) = false := by simp [wordAt, hmin]
  rw [hok, hw] at hx
  simp only [Bool.not_false, Bool.and_self, if_true] at hx
  have hy := number_next (u := u) (sg := true) (i := (D.size : Nat)) (f := (D.size : Int) + 1) (j := (u.size : Nat)) (by omega) rfl (by rw [hmin]; rfl) hdig1 (by omega) (by omega) (by rw [at_end (Int.le_refl _)]; decide)
  have hok2 : numOK true (u.extract ((D.size : Int) + 1).toNat ((u.size : Nat) : Int).toNat) = true := by
    have e1 := size_extractI (s := u) (a := (D.size : Int) + 1) (b := (u.size : Nat)) (by omega) (by omega) (by omega)
    exact numOK_of (by omega) (by omega) (.inl (by rw [bt_ext0 (by omega) (by omega) (by omega), hb1]; exact hl))
  rw [hok2, (soft_end (u := u) (Int.le_refl _)).1] at hy
  simp only [Bool.not_false, Bool.and_self, if_true] at hy
  have hsk0 : skipTo u 0 = 0 := skipTo_other (by rw [hdig0 0 (by omega) (by omega)]; decide) (by rw [hdig0 0 (by omega) (by omega)]; decide)
  have hsk1 : skipTo u (D.size : Int) = (D.size : Int) := skipTo_other (by rw [hmin]; decide) (by rw [hmin]; decide)
  have hend : ¬ skipTo u (u.size : Int) < (u.size : Int) := by
    rw [skipTo_other (by rw [at_end (Int.le_refl _)]; decide) (by rw [at_end (Int.le_refl _)]; decide)]; omega
  have p2 : Path u (D.size : Int) [tokAt u (skipTo u (D.size : Int))] (u.size : Int) := by
    refine .cons (by rw [hsk1]; omega) (by rw [hsk1, hy]) ?_
    rw [hsk1, hy]; exact .nil _
  have p1 : Path u 0 (tokAt u (skipTo u 0) :: [tokAt u (skipTo u (D.size : Int))]) (u.size : Int) := by
    refine .cons (by rw [hsk0]; omega) (by rw [hsk0, hx]) ?_
    rw [hsk0, hx]; exact p2
  exact ⟨_, lexB_ok (by omega) p1 hend, rfl⟩

/-- the law's last step, once the digits are there -/
theorem numbers_end (letter x : Int) (hl0 : 0 ≤ letter) (_ : letter ≤ 255) {D : ByteArray} (hD : Digs D) (h1 : 1 ≤ D.size) (h9 : D.size ≤ 9) (sg : Bool) (hx : x < 0 ↔ sg = true) (hl : bt D 0 ≠ 48 ∨ (D.size = 1 ∧ sg = false)) (k : Nat) :
    ambidexterlaw10_LexerNumbers.j1 (k + 1) letter true x D (sgn sg) = some true := by
  have hn : (sgn sg).size ≤ 1 := by cases sg <;> decide
  have hm : Int.tmod letter 26 = letter % 26 := Int.tmod_eq_emod_of_nonneg hl0
  have hm0 : 0 ≤ letter % 26 := Int.emod_nonneg _ (by decide)
  have hm1 : letter % 26 < 26 := Int.emod_lt_of_pos _ (by decide)
  have hc : (97 + letter % 26) % 256 = 97 + letter % 26 := Int.emod_eq_of_lt (by omega) (by omega)
  have s1 : (sgn sg).size + D.size ≤ 9223372036854775807 := by omega
  have s2 : (sgn sg).size + 1 ≤ 9223372036854775807 := by omega
  have s3 : (sgn sg ++ (⟨#[48]⟩ : ByteArray)).size + D.size ≤ 9223372036854775807 := by
    rw [ByteArray.size_append, show (⟨#[48]⟩ : ByteArray).size = 1 from rfl]; omega
  have s4 : (sgn sg ++ D).size + (strOfNums [97 + letter % 26]).size ≤ 9223372036854775807 := by
    rw [ByteArray.size_append, one_size]; omega
  have s5 : D.size + (sgn sg).size ≤ 9223372036854775807 := by omega
  have s6 : (D ++ sgn sg).size + D.size ≤ 9223372036854775807 := by rw [ByteArray.size_append]; omega
  have hb := one_bt (97 + letter % 26) (by omega) (by omega)
  simp only [ambidexterlaw10_LexerNumbers.j1, lexer_Lex.f, Option.bind_some]
  rw [hm, hc, if_pos s1, if_pos s2, if_pos s3, if_pos s4, if_pos s5, if_pos s6, lex_number hD h1 h9 hl, lex_zero hD h1 h9, lex_letter hD h1 h9 (one_size _) (by rw [hb]; omega) (by rw [hb]; omega)]
  simp only [List.length_cons, List.length_nil]
  rw [if_pos (by rfl)]
  simp only [if_true]
  rw [if_pos (by decide)]
  have e0 : rd_T31 [(⟨2, sgn sg ++ D, 0⟩ : S31)] 0 = ⟨2, sgn sg ++ D, 0⟩ := rfl
  rw [e0]
  simp only [if_true]
  cases sg with
  | false =>
    have : ¬ x < 0 := by rw [hx]; decide
    rw [if_pos (by omega)]
  | true =>
    have : x < 0 := hx.2 rfl
    rw [if_neg (by omega)]
    rcases hl with h | ⟨_, h⟩
    · obtain ⟨l, hl2, hlen⟩ := lex_two hD h1 h9 h
      have e : sgn true = ⟨#[45]⟩ := rfl
      rw [e, hl2]
      simp [hlen]
    · exact absurd h (by decide)
/-- the loop over the digits -/
theorem numbers_loop (letter x : Int) (hl0 : 0 ≤ letter) (hl1 : letter ≤ 255) (sg : Bool) (hx : x < 0 ↔ sg = true) (hxz : sg = true → x ≠ 0) : ∀ (d : Nat) (D : ByteArray) (m : Int) (k : Nat), D.size + d = 9 → Digs D → 0 ≤ m → m < 10 ^ d → (D.size = 0 → m = 0 → sg = false) → (m = 0 → 0 < D.size → bt D 0 ≠ 48 ∨ (D.size = 1 ∧ sg = false)) → d + 3 ≤ k →
    ambidexterlaw10_LexerNumbers.l0 k letter true x D m = some true := by
  intro d
  induction d with
  | zero =>
    intro D m k hsz hD hm0 hm1 hz hl hk
    obtain ⟨k, rfl⟩ : ∃ q, k = q + 1 + 1 := ⟨k - 2, by omega⟩
    have hmz : m = 0 := by simp at hm1; omega
    simp only [ambidexterlaw10_LexerNumbers.l0]
    rw [if_neg (by omega), if_neg (fun h => by rw [toList_nil_iff] at h; omega)]
    have := numbers_end letter x hl0 hl1 hD (by omega) (by omega) sg hx (hl hmz (by omega)) k
    split
    · rename_i hneg
      have e : sg = true := hx.1 hneg
      rw [e] at this; exact this
    · rename_i hneg
      have e : sg = false := by cases sg with | false => rfl | true => exact absurd (hx.2 rfl) hneg
      rw [e] at this; exact this
  | succ d ih =>
    intro D m k hsz hD hm0 hm1 hz hl hk
    obtain ⟨k, rfl⟩ : ∃ q, k = q + 1 + 1 := ⟨k - 2, by omega⟩
    have step : ∀ h : (m > 0 ∨ D.size = 0), ambidexterlaw10_LexerNumbers.l0 (k + 1) letter true x (strOfNums [(wrap64 (48 + Int.tmod m 10)) % 256] ++ D) (wrap64 (Int.tdiv m 10)) = some true := by
      intro h
      have p10 : (10 : Int) ^ (d + 1) = 10 ^ d * 10 := by rw [Int.pow_succ]
      have hb : m < 10000000000 := by
        rcases (show d = 0 ∨ d = 1 ∨ d = 2 ∨ d = 3 ∨ d = 4 ∨ d = 5 ∨ d = 6 ∨ d = 7 ∨ d = 8 from by omega) with rfl | rfl | rfl | rfl | rfl | rfl | rfl | rfl | rfl
        all_goals (simp at hm1; omega)
      have e1 : Int.tmod m 10 = m % 10 := Int.tmod_eq_emod_of_nonneg hm0
      have e2 : Int.tdiv m 10 = m / 10 := Int.tdiv_eq_ediv_of_nonneg hm0
      rw [e1, e2, wrap_small (by omega) (by omega), wrap_small (by omega) (by omega)]
      have e3 : (48 + m % 10) % 256 = 48 + m % 10 := by omega
      rw [e3]
      have hc := one_bt (48 + m % 10) (by omega) (by omega)
      have hs1 := one_size (48 + m % 10)
      generalize strOfNums [48 + m % 10] = C at *
      have hsC : (C ++ D).size = D.size + 1 := by rw [ByteArray.size_append, hs1]; omega
      have hb0 : bt (C ++ D) 0 = 48 + m % 10 := by rw [bt_left (by omega) (by omega), hc]
      have hlt : m / 10 < 10 ^ d := by rw [p10] at hm1; omega
      refine ih (C ++ D) (m / 10) (k + 1) (by omega) ?_ (by omega) hlt (fun h0 => by omega) (fun hz2 _ => ?_) (by omega)
      · intro y hy0 hy1
        by_cases e : y = 0
        · rw [e, hb0]; omega
        · rw [bt_right (by omega) (by omega)]
          exact hD _ (by omega) (by omega)
      · rw [hb0]
        by_cases hmz : m = 0
        · have hD0 : D.size = 0 := by rcases h with h | h <;> omega
          exact .inr ⟨by omega, hz hD0 hmz⟩
        · exact .inl (by omega)
    simp only [ambidexterlaw10_LexerNumbers.l0, Option.bind_some]
    have sC : (strOfNums [(wrap64 (48 + Int.tmod m 10)) % 256]).size + D.size ≤ 9223372036854775807 := by rw [one_size]; omega
    by_cases hm : m > 0
    · rw [if_pos hm, if_pos sC]
      exact step (.inl hm)
    · rw [if_neg hm]
      by_cases hn : D.toList = []
      · rw [if_pos hn, if_pos sC]
        exact step (.inr ((toList_nil_iff D).1 hn))
      · rw [if_neg hn]
        have hp : 0 < D.size := by rcases Nat.eq_zero_or_pos D.size with h | h; exact absurd ((toList_nil_iff D).2 h) hn; exact h
        have := numbers_end letter x hl0 hl1 hD (by omega) (by omega) sg hx (hl (by omega) hp) k
        split
        · rename_i hneg
          have e : sg = true := hx.1 hneg
          rw [e] at this; exact this
        · rename_i hneg
          have e : sg = false := by cases sg with | false => rfl | true => exact absurd (hx.2 rfl) hneg
          rw [e] at this; exact this
theorem tmod_range (a : Int) : -1000000000 < Int.tmod a 1000000000 ∧ Int.tmod a 1000000000 < 1000000000 := by
  constructor
  · have := Int.lt_tmod_of_pos a (show (0 : Int) < 1000000000 by decide); omega
  · exact Int.tmod_lt_of_pos a (by decide)
theorem LexerNumbers : ambidexterlaw10_LexerNumbers.Pure := by
  intro a0 a1 h0 h1
  obtain ⟨l0, l1⟩ := u8_bounds h1
  have hx0 : -1000000000 < Int.tmod a0 1000000000 ∧ Int.tmod a0 1000000000 < 1000000000 := tmod_range a0
  refine ⟨12, ?_⟩
  unfold ambidexterlaw10_LexerNumbers.f
  simp only [ambidexterlaw10_head.f, Option.bind_some]
  generalize Int.tmod a0 1000000000 = x at *
  have hw : wrap64 (-x) = -x := wrap_small (by omega) (by omega)
  rw [hw]
  have hm0 : 0 ≤ mx x (-x) := by unfold mx; omega
  have hm1 : mx x (-x) < 1000000000 := by unfold mx; omega
  have hmz : mx x (-x) = 0 → x = 0 := by unfold mx; omega
  generalize mx x (-x) = m at *
  refine numbers_loop a1 x l0 l1 (decide (x < 0)) (by simp) (by simp; omega) 9 ⟨#[]⟩ m 12 rfl (fun y a b => by have : y < 0 := b; omega) hm0 (by simpa using hm1) (fun _ hz => by have := hmz hz; simp; omega) (fun _ h => absurd h (by decide)) (by omega)
end Go.Proofs.Ytiikijdkhmbdbaa.Pure
