/- For every string and every number: line feeds behind the first 2000 bytes of it, up to 20000 in all, do not change what is lexed; with one more the input is too big. No condition but the form's own bound on a string's size. -/
import Derived.Test.YtiikijdkhmbdbaaBig
namespace Go.Proofs.Ytiikijdkhmbdbaa.Pure
open Go.RowKit Go.Proofs.Ytiikijdkhmbdbaa.PLx Go.Proofs.YtiikijdkhmbdbaaW.PrintWords Go.Proofs.YtiikijdkhmbdbaaW.PrintLast

theorem bt_push (s : ByteArray) (c : UInt8) (x : Int) (h0 : 0 ≤ x) (h1 : x ≤ (s.size : Int)) : bt (s.push c) x = if x = (s.size : Int) then (c.toNat : Int) else bt s x := by
  have hsz := size_push' s c
  have hl : x.toNat < (s.push c).size := by omega
  rw [← bt_at (s.push c) x hl]
  have e : (s.push c)[x.toNat]'hl = if h2 : x.toNat < s.data.size then s.data[x.toNat]'h2 else c := push_get s c x.toNat hl
  rw [e]
  have e0 : s.data.size = s.size := rfl
  by_cases h : x = (s.size : Int)
  · rw [if_pos h, dif_neg (by omega)]
  · rw [if_neg h, dif_pos (by omega), ← bt_at s x (by omega)]
    rfl
theorem padn_bt (t : ByteArray) : ∀ (k : Nat) (x : Int), 0 ≤ x → x < (t.size : Int) + k → bt (padn t k) x = if x < (t.size : Int) then bt t x else 10
  | 0, x, h0, h1 => by rw [padn, if_pos (by omega)]
  | k + 1, x, h0, h1 => by
    have hs := padn_size t k
    rw [padn, bt_push _ _ _ h0 (by omega)]
    by_cases h : x = ((padn t k).size : Int)
    · rw [if_pos h, if_neg (by omega)]; rfl
    · rw [if_neg h, padn_bt t k x h0 (by omega)]
/-- a gap inside the piece, where a line feed stands behind it -/
theorem Move.gapLF {s u : ByteArray} {d lo hi : Int} (M : Move s u d lo hi) (hl : lineAt u (hi + d) = false) {i j : Int} (h : Gap s i j) : lo ≤ i → j ≤ hi → Gap u (i + d) (j + d) := by
  induction h with
  | here i => intro _ _; exact .here _
  | @blank i j h5 hg ih =>
    intro h1 h2
    have hlt := (at_some (by decide) h5).1
    have hle := hg.le (by omega)
    have hx : at_ u (i + d) = 5 := by rw [M.at h1 (by omega), h5]
    have hi1 := ih (by omega) h2
    rw [show i + 1 + d = i + d + 1 from by omega] at hi1
    exact .blank hx hi1
  | @note i m j h6 hm hg ih =>
    intro h1 h2
    have hlt := (at_some (by decide) h6).1
    have hst := scanTo_step hlt (line_of_six h6)
    have hr := scanTo_range (lineAt s) s.size i (by omega)
    have hle := hg.le (by omega)
    have hx : at_ u (i + d) = 6 := by rw [M.at h1 (by omega), h6]
    have hsc : scanTo (lineAt u) u.size (i + d) = scanTo (lineAt s) s.size i + d :=
      M.scan (fun x a b => M.line a b) h1 (by omega) (by omega) (fun _ _ => hl)
    exact .note hx (by rw [hsc, hm]) (ih (by omega) h2)
theorem gap_blanks {u : ByteArray} : ∀ (n : Nat) (i : Int), i + n = (u.size : Int) → (∀ x, i ≤ x → x < (u.size : Int) → at_ u x = 5) → Gap u i u.size
  | 0, i, h, _ => by rw [show i = (u.size : Int) from by omega]; exact .here _
  | n + 1, i, h, hb => .blank (hb i (by omega) (by omega)) (gap_blanks n (i + 1) (by omega) (fun x a b => hb x (by omega) b))
/-- line feeds behind a text change nothing -/
theorem lex_pad (t : ByteArray) (k : Nat) (hs : (padn t k).size ≤ 20000) : lexB (padn t k) = lexB t := by
  have hsz := padn_size t k
  rcases Nat.eq_zero_or_pos k with rfl | hk
  · rfl
  have hbt := padn_bt t k
  generalize padn t k = u at *
  have M : Move t u 0 0 t.size := ⟨by omega, by omega, by omega, by omega, fun x h0 h1 => by rw [Int.add_zero, hbt x h0 (by omega), if_pos h1]⟩
  have h10 : ∀ x, (t.size : Int) ≤ x → x < (u.size : Int) → bt u x = 10 := fun x a b => by rw [hbt x (by omega) (by omega), if_neg (by omega)]
  have h5 : ∀ x, (t.size : Int) ≤ x → x < (u.size : Int) → at_ u x = 5 := fun x a b => by rw [at_in b, h10 x a b]; rfl
  have hsoft : Soft u (t.size + 0) := by rw [Int.add_zero]; exact soft_of (.inl (h5 _ (by omega) (by omega)))
  obtain ⟨ts, j, hp, hj0, hj1, hA⟩ := whole t (by omega)
  have pA := M.path hp (by omega) (by omega) (by omega) hj1 (fun _ => hsoft)
  rw [moved_zero] at pA
  simp only [Int.add_zero] at pA
  rcases hA with ⟨hA, hAe⟩ | ⟨hA, hlt, hno⟩
  · obtain ⟨hg, -, -⟩ := skip_gap t j hj0 hj1
    rw [hAe] at hg
    have g1 := M.gapLF (by rw [Int.add_zero, lineAt, h10 _ (by omega) (by omega)]; rfl) hg (by omega) (Int.le_refl _)
    simp only [Int.add_zero] at g1
    have g2 := g1.trans (gap_blanks k t.size (by omega) h5)
    rw [hA, lexB_ok hs pA (by rw [skip_end hj0 g2]; omega)]
  · have hsk := M.skip (i := j) (by omega) hlt
    have hr := skipTo_range t j hj0 hj1
    have hx := M.next (i := skipTo t j) (by omega) hlt (nextAt_end t _ (by omega) (by omega)) (fun _ => hsoft) (.inl (soft_end (Int.le_refl _)).1)
    simp only [Int.add_zero] at hsk hx
    have hU := lexB_bad hs pA (by rw [hsk]; omega) (by rw [hsk, hx]; exact hno)
    rw [hU, hA, hsk]
theorem LexerBig (a0 : ByteArray) (a1 : Int) (w : World) (_ : a0.size ≤ 140737488351232) (w1 : (Lit.int .u8 a1).wf = true) :
    Calls Try.prog 9 #[.string a0, .int .u8 a1] w fun e w' => e = .returned (.bool true) ∧ Below w.heap.size w w' := by
  obtain ⟨t, ht, hs, _⟩ := few_f a0
  obtain ⟨h0, h1⟩ := u8_bounds w1
  have hl := lexB_len t
  exact big_calls a0 a1 h0 h1 t ht hs (lexB t).1 (lexB t).2.1 (lexB t).2.2 (by omega) (fun k hk => lex_pad t k hk) w
end Go.Proofs.Ytiikijdkhmbdbaa.Pure
