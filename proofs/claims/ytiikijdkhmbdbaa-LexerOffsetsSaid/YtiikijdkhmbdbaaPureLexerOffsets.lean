/- For every string: each token that Lex hands back for its first 2000 bytes occurs at its offset, is not empty and of one of the three kinds, the offsets increase, and only white space and comments stand between the tokens and behind the last; an error lies inside the text. No condition but the form's own bound on a string's size. -/
import Derived.Test.YtiikijdkhmbdbaaTheory2
import Derived.Test.YtiikijdkhmbdbaaPLxx6
namespace Go.Proofs.Ytiikijdkhmbdbaa.Pure
open Go.RowKit Go.Proofs.Ytiikijdkhmbdbaa.PLx Go.Proofs.YtiikijdkhmbdbaaW.PrintWords Go.Proofs.YtiikijdkhmbdbaaW.PrintLast

/-- a gap, cut out, is void -/
theorem void_cut {t : ByteArray} (ht : t.size ≤ 2000) {i j : Int} (h0 : 0 ≤ i) (h1 : j ≤ (t.size : Int)) (hij : i ≤ j) (hg : Gap t i j) : ambidexterref10_Void.f (t.extract i.toNat j.toNat) = some true := by
  have hsz := size_extractI h0 hij h1
  have M : Move t (t.extract i.toNat j.toNat) (-i) i j := ⟨h0, h1, by omega, by omega, fun x hx hx2 => by
    rw [bt_extract h0 (by omega) (by omega) h1]; congr 1; omega⟩
  have g := M.gap hg (by omega) (by omega) (.inr (.inl (by omega)))
  have g' : Gap (t.extract i.toNat j.toNat) 0 ((t.extract i.toNat j.toNat).size : Int) := by
    rw [hsz]; have e : i + -i = 0 := by omega
    rw [e] at g; exact g
  unfold ambidexterref10_Void.f ambidexterref10_gap.f
  rw [if_pos ⟨by omega, by omega, by omega⟩]
  simp only [Option.bind_some]
  rw [skip_end (by omega) g']
  simp
theorem rd_mid (ts : List S31) (x : S31) (us : List S31) (i : Int) (h : i = ts.length) : rd_T31 (ts ++ x :: us) i = x := by
  subst h
  simp [rd_T31]
theorem toks_loop (t : ByteArray) (ht : t.size ≤ 2000) {i j : Int} {us : List S31} (h : Path t i us j) : ∀ (ts : List S31) (k : Nat), 0 ≤ i → i ≤ (t.size : Int) → skipTo t j = t.size → ts.length + us.length ≤ 100000 → us.length ≤ 100000 → us.length + us.length + 2 ≤ k →
    ambidexterlaw10_LexerOffsets.l0 k true t (ts ++ us) 0 i (ts.length : Int) = some true := by
  induction h with
  | nil i =>
    intro ts k h0 h1 hj hl hl2 hk
    obtain ⟨k, rfl⟩ : ∃ m, k = m + 1 := ⟨k - 1, by omega⟩
    have hv := void_cut ht h0 (Int.le_refl _) h1 (by have := (skip_gap t i h0 h1).1; rwa [hj] at this)
    simp only [ambidexterlaw10_LexerOffsets.l0]
    rw [if_neg (by simp)]
    simp only [if_true]
    rw [if_pos h0, if_pos h1]
    simp only [Int.toNat_natCast] at hv
    rw [hv]
    rfl
  | @cons i j us hlt hok hp ih =>
    intro ts k h0 h1 hj hl hl2 hk
    obtain ⟨k, rfl⟩ : ∃ m, k = m + 1 + 1 := ⟨k - 2, by simp only [List.length_cons] at hk; omega⟩
    simp only [List.length_cons] at hl hl2 hk
    have hr := skipTo_range t i h0 h1
    have hn := nextAt_range t _ (by omega) hr.2 hok
    obtain ⟨ha, ⟨hk1, hk3⟩, htx⟩ := nextAt_at hok
    have hsz := size_extractI (s := t) (a := skipTo t i) (b := (nextAt t (skipTo t i)).2.2.2.2) (by omega) (by omega) hn.2
    have hv := void_cut ht h0 hr.2 hr.1 (skip_gap t i h0 h1).1
    have hih := ih (ts ++ [tokAt t (skipTo t i)]) k (by omega) hn.2 hj (by rw [List.length_append]; simp only [List.length_cons, List.length_nil]; omega) (by omega) (by omega)
    simp only [ambidexterlaw10_LexerOffsets.l0]
    rw [rd_mid ts (tokAt t (skipTo t i)) us _ rfl]
    have e0 : (tokAt t (skipTo t i)).f0 = (nextAt t (skipTo t i)).1 := rfl
    have e1 : (tokAt t (skipTo t i)).f1 = (nextAt t (skipTo t i)).2.1 := rfl
    have e2 : (tokAt t (skipTo t i)).f2 = (nextAt t (skipTo t i)).2.2.1 := rfl
    rw [e0, e1, e2, ha, htx, hsz]
    have ew : wrap64 (skipTo t i + ((nextAt t (skipTo t i)).2.2.2.2 - skipTo t i)) = (nextAt t (skipTo t i)).2.2.2.2 := by rw [wrap_small (by omega) (by omega)]; omega
    rw [ew]
    have hne : ¬ ((t.extract (skipTo t i).toNat (nextAt t (skipTo t i)).2.2.2.2.toNat).toList = []) := by rw [toList_nil_iff]; omega
    rw [if_pos (by simp; omega), if_pos (by omega), if_neg (by omega), if_neg hne, if_neg (by omega), if_neg (by omega)]
    simp only [ambidexterlaw10_LexerOffsets.j1]
    rw [if_neg (by simp; omega), if_pos (by omega), if_pos (by omega), if_pos hn.2]
    simp only [if_true]
    rw [if_pos h0, if_pos hr.1, if_pos hr.2, hv]
    simp only [Option.bind_some, if_true]
    rw [wrap_small (by omega) (by omega)]
    simp only [List.length_append, List.length_cons, List.length_nil, List.append_assoc, List.cons_append, List.nil_append] at hih
    exact hih
theorem path_len {s : ByteArray} {i j : Int} {ts : List S31} (h : Path s i ts j) : 0 ≤ i → i ≤ (s.size : Int) → (ts.length : Int) ≤ j - i := by
  induction h with
  | nil i => intro _ _; simp
  | cons hlt hok hp ih =>
    intro h0 h1
    have hr := skipTo_range s _ h0 h1
    have hn := nextAt_range s _ (by omega) hr.2 hok
    have := ih (by omega) hn.2
    simp only [List.length_cons]
    omega
theorem LexerOffsets : ambidexterlaw10_LexerOffsets.Pure := by
  intro a0 h0
  obtain ⟨t, ht, hs, _⟩ := few_f a0
  obtain ⟨ts, j, hp, hj0, hj1, hcase⟩ := whole t (by omega)
  have hl := path_len hp (by omega) (by omega)
  have hr := skipTo_range t j hj0 hj1
  refine ⟨10000, ?_⟩
  unfold ambidexterlaw10_LexerOffsets.f
  rw [ht]
  simp only [ambidexterlaw10_head.f, lexer_Lex.f, Option.bind_some]
  rcases hcase with ⟨he, hend⟩ | ⟨he, hlt, hno⟩
  · rw [he]
    simp only [if_true]
    have := toks_loop t hs hp [] 10000 (by omega) (by omega) hend (by simp only [List.length_nil]; omega) (by omega) (by omega)
    simpa using this
  · rw [he]
    simp only
    rw [if_neg (by decide)]
    simp only [if_true, List.length_nil]
    rw [if_pos (by rfl), if_pos (by omega)]
    simp [hlt]
end Go.Proofs.Ytiikijdkhmbdbaa.Pure
