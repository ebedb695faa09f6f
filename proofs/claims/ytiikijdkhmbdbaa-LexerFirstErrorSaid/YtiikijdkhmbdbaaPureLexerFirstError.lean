/- For every string and every number: where the first 2000 bytes have an error, the text ahead of it lexes without one and the text from it on fails at once; where they have none, the text up to the end of any of the tokens lexes to the tokens up to that one (and a text without tokens is void). No condition but the form's own bound on a string's size. -/
import Derived.Test.YtiikijdkhmbdbaaTheory2
import Derived.Test.YtiikijdkhmbdbaaPLxx9
namespace Go.Proofs.Ytiikijdkhmbdbaa.Pure
open Go.RowKit Go.Proofs.Ytiikijdkhmbdbaa.PLx Go.Proofs.YtiikijdkhmbdbaaW.PrintWords Go.Proofs.YtiikijdkhmbdbaaW.PrintLast

theorem fe_path_len {s : ByteArray} {i j : Int} {ts : List S31} (h : Path s i ts j) : 0 ≤ i → i ≤ (s.size : Int) → (ts.length : Int) ≤ j - i := by
  induction h with
  | nil i => intro _ _; simp
  | cons hlt hok hp ih =>
    intro h0 h1
    have hr := skipTo_range s _ h0 h1
    have hn := nextAt_range s _ (by omega) hr.2 hok
    have := ih (by omega) hn.2
    simp only [List.length_cons]
    omega
/-- the beginning of a text -/
theorem move_head (t : ByteArray) {m : Int} (h0 : 0 ≤ m) (h1 : m ≤ (t.size : Int)) : Move t (t.extract 0 m.toNat) 0 0 m := by
  have hsz := size_extractI (s := t) (a := 0) (b := m) (by omega) h0 h1
  simp only [Int.toNat_zero] at hsz
  refine ⟨by omega, h1, by omega, by omega, fun x hx hx2 => ?_⟩
  have := bt_extract (s := t) (a := 0) (b := m) (x := x) (by omega) hx (by omega) h1
  simp only [Int.toNat_zero, Int.zero_add] at this
  rw [Int.add_zero, this]
/-- the tokens up to a place where the lexer stands lex alone -/
theorem head_lex {t : ByteArray} (ht : t.size ≤ 2000) {ts : List S31} {j m : Int} (hp : Path t 0 ts j) (hj : j ≤ m) (hm : m ≤ (t.size : Int)) (hg : Gap t j m) : lexB (t.extract 0 m.toNat) = (ts, 0, 0) := by
  have hle := hp.le (by omega) (by omega)
  have M := move_head t (m := m) (by omega) hm
  have hsz := size_extractI (s := t) (a := 0) (b := m) (by omega) (by omega) hm
  simp only [Int.toNat_zero] at hsz
  have p := M.path hp (by omega) (by omega) (by omega) hj (fun _ => soft_end (by omega))
  rw [moved_zero] at p
  simp only [Int.add_zero] at p
  have g := M.gap hg (by omega) (Int.le_refl _) (.inr (.inl (by omega)))
  simp only [Int.add_zero] at g
  have he : skipTo (t.extract 0 m.toNat) j = ((t.extract 0 m.toNat).size : Int) := skip_end (by omega) (by
    have e : ((t.extract 0 m.toNat).size : Int) = m := by omega
    rw [e]; exact g)
  exact lexB_ok (by omega) p (by omega)
/-- from an error on the text fails at once -/
theorem tail_lex {t : ByteArray} (ht : t.size ≤ 2000) {m : Int} (h0 : 0 ≤ m) (hm : m < (t.size : Int)) (h5 : at_ t m ≠ 5) (h6 : at_ t m ≠ 6) (hno : (nextAt t m).2.2.2.1 = false) : lexB (t.extract m.toNat t.size) = ([], 100, 0) := by
  have hsz := size_extractI (s := t) (a := m) (b := t.size) h0 (by omega) (Int.le_refl _)
  simp only [Int.toNat_natCast] at hsz
  have M : Move t (t.extract m.toNat t.size) (-m) m t.size := by
    refine ⟨h0, Int.le_refl _, by omega, by omega, fun x hx hx2 => ?_⟩
    have := bt_extract (s := t) (a := m) (b := t.size) (x := x - m) h0 (by omega) (by omega) (Int.le_refl _)
    simp only [Int.toNat_natCast] at this
    rw [show x + -m = x - m from by omega, this]; congr 1; omega
  have hE : (nextAt t m).2.2.2.2 ≤ (t.size : Int) := nextAt_end t m h0 (by omega)
  have hx := M.next (i := m) (Int.le_refl _) hm hE (fun _ => soft_end (by omega)) (.inl (soft_end (Int.le_refl _)).1)
  have e0 : m + -m = 0 := by omega
  rw [e0] at hx
  have ha := M.at (x := m) (Int.le_refl _) hm
  rw [e0] at ha
  have hs0 : skipTo (t.extract m.toNat t.size) 0 = 0 := skipTo_other (by rw [ha]; exact h5) (by rw [ha]; exact h6)
  have := lexB_bad (s := t.extract m.toNat t.size) (by omega) (.nil 0) (by rw [hs0]; omega) (by rw [hs0, hx]; exact hno)
  rw [hs0] at this
  exact this
theorem rd_get (ts : List S31) (i : Int) (h0 : 0 ≤ i) (h1 : i < ts.length) : ∃ us vs, ts = us ++ rd_T31 ts i :: vs ∧ (us.length : Int) = i ∧ ts.take (i + 1).toNat = us ++ [rd_T31 ts i] := by
  have hi : i.toNat < ts.length := by omega
  have e : rd_T31 ts i = ts[i.toNat] := by simp [rd_T31, hi]
  refine ⟨ts.take i.toNat, ts.drop (i.toNat + 1), ?_, by rw [List.length_take]; omega, ?_⟩
  · rw [e, List.getElem_cons_drop, List.take_append_drop]
  · rw [e, show (i + 1).toNat = i.toNat + 1 from by omega, List.take_succ_eq_append_getElem hi]
/-- where a token ends the lexer stands -/
theorem path_mid {s : ByteArray} {i j : Int} {us vs : List S31} {x : S31} (h : Path s i (us ++ x :: vs) j) (h0 : 0 ≤ i) (h1 : i ≤ (s.size : Int)) : Path s i (us ++ [x]) (x.f2 + x.f1.size) ∧ x.f2 + x.f1.size ≤ (s.size : Int) ∧ 0 ≤ x.f2 := by
  obtain ⟨m, hp1, hp2⟩ := h.cut us.length (by simp)
  simp only [List.take_left, List.drop_left] at hp1 hp2
  have hle := hp1.le h0 h1
  cases hp2 with
  | cons hlt hok hp =>
    have hr := skipTo_range s m (by omega) hle.2
    have hn := nextAt_range s _ (by omega) hr.2 hok
    obtain ⟨ha, -, htx⟩ := nextAt_at hok
    have hsz := size_extractI (s := s) (a := skipTo s m) (b := (nextAt s (skipTo s m)).2.2.2.2) (by omega) (by omega) hn.2
    have e : (tokAt s (skipTo s m)).f2 + (tokAt s (skipTo s m)).f1.size = (nextAt s (skipTo s m)).2.2.2.2 := by
      show (nextAt s (skipTo s m)).2.2.1 + ((nextAt s (skipTo s m)).2.1.size : Int) = _
      rw [ha, htx, hsz]; omega
    rw [e]
    refine ⟨hp1.append (.cons hlt hok (.nil _)), hn.2, ?_⟩
    show 0 ≤ (nextAt s (skipTo s m)).2.2.1
    rw [ha]; omega
theorem LexerFirstError : ambidexterlaw10_LexerFirstError.Pure := by
  intro a0 a1 h0 ha1
  obtain ⟨t, ht, hs, _⟩ := few_f a0
  obtain ⟨ts, j, hp, hj0, hj1, hcase⟩ := whole t (by omega)
  have hl := fe_path_len hp (by omega) (by omega)
  have hr := skipTo_range t j hj0 hj1
  refine ⟨9999 + 1, ?_⟩
  unfold ambidexterlaw10_LexerFirstError.f
  rw [ht]
  simp only [ambidexterlaw10_head.f, lexer_Lex.f, Option.bind_some]
  rcases hcase with ⟨he, hend⟩ | ⟨he, hlt, hno⟩
  · rw [he]
    simp only [if_true]
    by_cases hn : (ts.length : Int) = 0
    · rw [if_pos hn]
      have hts : ts = [] := List.eq_nil_of_length_eq_zero (by omega)
      subst hts
      cases hp
      unfold ambidexterref10_Void.f ambidexterref10_gap.f
      rw [if_pos ⟨by omega, by omega, by omega⟩]
      simp [hend]
    · rw [if_neg hn]
      obtain ⟨hw, hw2⟩ := u8_bounds ha1
      rw [wrap_small (by omega) (by omega)]
      have hm : Int.tmod a1 (ts.length : Int) = a1 % (ts.length : Int) := Int.tmod_eq_emod_of_nonneg hw
      have hk0 : 0 ≤ a1 % (ts.length : Int) := Int.emod_nonneg _ hn
      have hk1 : a1 % (ts.length : Int) < ts.length := Int.emod_lt_of_pos _ (by omega)
      rw [hm]
      generalize a1 % (ts.length : Int) = k at *
      rw [if_pos hk0, if_pos hk1]
      obtain ⟨us, vs, hts, hul, htk⟩ := rd_get ts k hk0 hk1
      have hp2 : Path t 0 (us ++ rd_T31 ts k :: vs) j := by rw [← hts]; exact hp
      obtain ⟨pm, hm2, hf0⟩ := path_mid hp2 (by omega) (by omega)
      have hpl := pm.le (by omega) (by omega)
      rw [wrap_small (by omega) (by omega)]
      rw [if_neg (by omega)]
      simp only [ambidexterlaw10_LexerFirstError.j1]
      rw [if_neg (by simp; omega), if_pos (by omega), if_pos hm2]
      simp only [lexer_Lex.f, Option.bind_some]
      rw [head_lex hs pm (Int.le_refl _) hm2 (.here _), wrap_small (by omega) (by omega)]
      simp only [if_true]
      rw [if_pos (by omega), if_pos (by omega), ← htk, same_f _ (by rw [List.length_take]; omega) 9999 (by rw [List.length_take]; omega)]
      rfl
  · rw [he]
    simp only
    rw [if_neg (by decide), if_neg (by omega)]
    simp only [ambidexterlaw10_LexerFirstError.j0]
    rw [if_neg (by simp; omega), if_pos (by omega), if_pos (by omega)]
    obtain ⟨hg, h5, h6⟩ := skip_gap t j hj0 hj1
    simp only [lexer_Lex.f, Option.bind_some]
    rw [head_lex hs hp hr.1 hr.2 hg, tail_lex hs (by omega) hlt h5 h6 hno]
    simp
end Go.Proofs.Ytiikijdkhmbdbaa.Pure
