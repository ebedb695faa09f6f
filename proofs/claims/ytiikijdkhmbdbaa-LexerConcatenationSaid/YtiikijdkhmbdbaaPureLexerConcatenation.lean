/- For any two strings: the first 2000 bytes of each with a blank between them lex to the tokens of the first and then the moved tokens of the second, unless the first ends in a comment; an error of the first stays. No condition but the form's own bounds on the sizes of what comes in. -/
import Derived.Test.YtiikijdkhmbdbaaTheory2
import Derived.Test.YtiikijdkhmbdbaaPLxx8
namespace Go.Proofs.Ytiikijdkhmbdbaa.Pure
open Go.RowKit Go.Proofs.Ytiikijdkhmbdbaa.PLx Go.Proofs.YtiikijdkhmbdbaaW.PrintWords Go.Proofs.YtiikijdkhmbdbaaW.PrintLast

theorem cc_path_len {s : ByteArray} {i j : Int} {ts : List S31} (h : Path s i ts j) : 0 ≤ i → i ≤ (s.size : Int) → (ts.length : Int) ≤ j - i := by
  induction h with
  | nil i => intro _ _; simp
  | cons hlt hok hp ih =>
    intro h0 h1
    have hr := skipTo_range s _ h0 h1
    have hn := nextAt_range s _ (by omega) hr.2 hok
    have := ih (by omega) hn.2
    simp only [List.length_cons]
    omega
/-- where the tokens begin -/
theorem cc_places {s : ByteArray} {i j : Int} {ts : List S31} (h : Path s i ts j) : 0 ≤ i → i ≤ (s.size : Int) → ∀ x ∈ ts, 0 ≤ x.f2 ∧ x.f2 ≤ (s.size : Int) := by
  induction h with
  | nil i => intro _ _ x hx; simp at hx
  | @cons i j ts hlt hok hp ih =>
    intro h0 h1 x hx
    have hr := skipTo_range s i h0 h1
    have hn := nextAt_range s _ (by omega) hr.2 hok
    rcases List.mem_cons.1 hx with rfl | hx
    · show 0 ≤ (nextAt s (skipTo s i)).2.2.1 ∧ (nextAt s (skipTo s i)).2.2.1 ≤ _
      rw [(nextAt_at hok).1]; omega
    · exact ih (by omega) hn.2 x hx
theorem kind_more (c : Int) (h0 : 0 ≤ c) (h1 : c ≤ 255) : ∀ d : Nat, ambidexterref10_Kind.f (9 + d) c = some (cls c.toNat) := by
  intro d
  induction d with
  | zero => exact kind_f c h0 h1
  | succ d ih => exact ambidexterref10_Kind.mono c (9 + d) _ ih
/-- what Noted tells: where it says no, every comment ends in the text -/
theorem noted_loop (s : ByteArray) (hs : s.size ≤ 100000) : ∀ (d : Nat) (k : Nat) (i : Int) (f : Bool), 0 ≤ i → ((s.size : Int) - i).toNat = d → d + 10 ≤ k →
    ∃ r, ambidexterref10_Noted.l0 k s f i = some r ∧ (r = false → (f = true → ∃ y, i ≤ y ∧ y < (s.size : Int) ∧ bt s y = 10) ∧ ∀ x, i ≤ x → x < (s.size : Int) → at_ s x = 6 → ∃ y, x ≤ y ∧ y < (s.size : Int) ∧ bt s y = 10) := by
  intro d
  induction d with
  | zero =>
    intro k i f h0 hd hk
    obtain ⟨k, rfl⟩ : ∃ m, k = m + 1 := ⟨k - 1, by omega⟩
    refine ⟨f, ?_, fun hf => ⟨fun h => (by rw [hf] at h; cases h), fun x a b => by omega⟩⟩
    simp only [ambidexterref10_Noted.l0]; rw [if_neg (by omega)]
  | succ d ih =>
    intro k i f h0 hd hk
    obtain ⟨k, rfl⟩ : ∃ m, k = m + 1 := ⟨k - 1, by omega⟩
    have hb := bt_range s i
    have hK := kind_more (bt s i) hb.1 hb.2 (k - 9)
    rw [show 9 + (k - 9) = k from by omega] at hK
    have hat := at_in (s := s) (i := i) (by omega)
    simp only [ambidexterref10_Noted.l0]
    rw [if_pos (by omega), if_pos h0, hK, ← hat]
    simp only [Option.bind_some]
    rw [wrap_small (by omega) (by omega)]
    by_cases c10 : bt s i = 10
    · obtain ⟨r, hr, hq⟩ := ih k (i + 1) false (by omega) (by omega) (by omega)
      refine ⟨r, ?_, fun hf => ⟨fun _ => ⟨i, by omega, by omega, c10⟩, fun x a b c => ?_⟩⟩
      · simp only [if_pos c10, ite_self]; exact hr
      · by_cases e : x = i
        · exact ⟨i, by omega, by omega, c10⟩
        · exact (hq hf).2 x (by omega) b c
    · by_cases c6 : at_ s i = 6
      · obtain ⟨r, hr, hq⟩ := ih k (i + 1) true (by omega) (by omega) (by omega)
        refine ⟨r, ?_, fun hf => ⟨fun _ => ?_, fun x a b c => ?_⟩⟩
        · rw [if_pos c6, if_neg c10]; exact hr
        · obtain ⟨y, h1, h2, h3⟩ := (hq hf).1 rfl
          exact ⟨y, by omega, h2, h3⟩
        · by_cases e : x = i
          · obtain ⟨y, h1, h2, h3⟩ := (hq hf).1 rfl
            exact ⟨y, by omega, h2, h3⟩
          · exact (hq hf).2 x (by omega) b c
      · obtain ⟨r, hr, hq⟩ := ih k (i + 1) f (by omega) (by omega) (by omega)
        refine ⟨r, ?_, fun hf => ⟨fun h => ?_, fun x a b c => ?_⟩⟩
        · rw [if_neg c6, if_neg c10]; exact hr
        · obtain ⟨y, h1, h2, h3⟩ := (hq hf).1 h
          exact ⟨y, by omega, h2, h3⟩
        · by_cases e : x = i
          · rw [e] at c; exact absurd c c6
          · exact (hq hf).2 x (by omega) b c
theorem noted_f (s : ByteArray) (hs : s.size ≤ 100000) (k : Nat) (hk : s.size + 10 ≤ k) : ∃ r, ambidexterref10_Noted.f k s = some r ∧ (r = false → ∀ x, 0 ≤ x → x < (s.size : Int) → at_ s x = 6 → scanTo (lineAt s) s.size x < (s.size : Int)) := by
  obtain ⟨r, hr, hq⟩ := noted_loop s hs s.size k 0 false (by omega) (by omega) hk
  refine ⟨r, hr, fun hf x h0 h1 h6 => ?_⟩
  obtain ⟨y, a, b, c⟩ := (hq hf).2 x h0 h1 h6
  obtain ⟨p, -⟩ := scanTo_spec (lineAt s) s.size x
  rcases Int.lt_or_le (scanTo (lineAt s) s.size x) (s.size : Int) with h | h
  · exact h
  · exfalso
    have := p y a (by omega)
    simp [lineAt, c] at this
/-- a gap ahead of the tokens -/
theorem Path.ahead {s : ByteArray} {i i' j : Int} {ts : List S31} (h : Path s i' ts j) (g : Gap s i i') (h0 : 0 ≤ i) : ∃ j', Path s i ts j' ∧ skipTo s j' = skipTo s j := by
  have hs := g.skip h0
  cases h with
  | nil => exact ⟨i, .nil i, hs.symm⟩
  | cons hlt hok hp =>
    rw [hs] at hlt hok hp ⊢
    exact ⟨j, .cons hlt hok hp, rfl⟩
theorem cc_rd (us vs : List S31) (i : Int) (h0 : 0 ≤ i) : rd_T31 (us ++ vs) (us.length + i) = rd_T31 vs i := by
  have e : ((us.length : Int) + i).toNat = us.length + i.toNat := by omega
  simp [rd_T31, e, List.getElem?_append_right]
theorem cc_rd_moved (d : Int) (vs : List S31) (i : Int) (h0 : 0 ≤ i) (h1 : i < vs.length) : rd_T31 (moved d vs) i = ⟨(rd_T31 vs i).f0, (rd_T31 vs i).f1, (rd_T31 vs i).f2 + d⟩ := by
  have hi : i.toNat < vs.length := by omega
  simp [rd_T31, moved, hi]
theorem cc_rd_mem (vs : List S31) (i : Int) (h0 : 0 ≤ i) (h1 : i < vs.length) : rd_T31 vs i ∈ vs := by
  have hi : i.toNat < vs.length := by omega
  have e : rd_T31 vs i = vs[i.toNat] := by simp [rd_T31, hi]
  rw [e]; exact List.getElem_mem hi
/-- the law's loop -/
theorem cc_loop (a : ByteArray) (ha : a.size ≤ 2000) (l m : List S31) (hl : l.length ≤ 2000) (hm : m.length ≤ 2000) (hp : ∀ x ∈ m, 0 ≤ x.f2 ∧ x.f2 ≤ 2000) : ∀ (d k : Nat) (i : Int), 0 ≤ i → i ≤ m.length → (m.length : Int) - i = d → d + 3000 ≤ k → ambidexterlaw10_LexerConcatenation.l0 k true a l m (l ++ moved (a.size + 1) m) i = some true := by
  intro d
  induction d with
  | zero =>
    intro k i h0 h1 hd hk
    obtain ⟨k, rfl⟩ : ∃ m, k = m + 1 := ⟨k - 1, by omega⟩
    simp only [ambidexterlaw10_LexerConcatenation.l0]
    rw [if_neg (by omega), if_pos trivial, if_pos (by omega), if_pos (by rw [List.length_append]; omega)]
    rw [Int.toNat_natCast, List.take_left, same_f l (by omega) k (by omega)]
    rfl
  | succ d ih =>
    intro k i h0 h1 hd hk
    obtain ⟨k, rfl⟩ : ∃ m, k = m + 1 := ⟨k - 1, by omega⟩
    have hml : (moved ((a.size : Int) + 1) m).length = m.length := by simp [moved]
    have hb := hp _ (cc_rd_mem m i h0 (by omega))
    simp only [ambidexterlaw10_LexerConcatenation.l0]
    rw [if_pos (by omega), if_pos h0, wrap_small (x := (l.length : Int) + i) (by omega) (by omega), if_pos (by omega), if_pos (by rw [List.length_append, hml]; omega)]
    rw [cc_rd _ _ i h0, cc_rd_moved _ _ i h0 (by omega), wrap_small (x := (rd_T31 m i).f2 + (a.size : Int)) (by omega) (by omega), wrap_small (x := (rd_T31 m i).f2 + (a.size : Int) + 1) (by omega) (by omega)]
    rw [if_neg (by simp; omega), wrap_small (by omega) (by omega)]
    exact ih k (i + 1) (by omega) (by omega) (by omega) (by omega)
theorem LexerConcatenation : ambidexterlaw10_LexerConcatenation.Pure := by
  intro a0 a1 _ _
  obtain ⟨a, ea, ha, _⟩ := few_f a0
  obtain ⟨b, eb, hb, _⟩ := few_f a1
  obtain ⟨ts, j, hp, hj0, hj1, hA⟩ := whole a (by omega)
  obtain ⟨us, q, hq, hq0, hq1, hB⟩ := whole b (by omega)
  have hl := cc_path_len hp (by omega) (by omega)
  have hm := cc_path_len hq (by omega) (by omega)
  have hpl := cc_places hq (by omega) (by omega)
  obtain ⟨nt, hn, hnt⟩ := noted_f a (by omega) 9000 (by omega)
  have hsz1 : (a ++ (⟨#[32]⟩ : ByteArray)).size = a.size + 1 := by rw [ByteArray.size_append]; rfl
  have hsz : ((a ++ (⟨#[32]⟩ : ByteArray)) ++ b).size = a.size + 1 + b.size := by rw [ByteArray.size_append, hsz1]
  -- the three pieces
  obtain ⟨u, hu⟩ : ∃ u, u = (a ++ (⟨#[32]⟩ : ByteArray)) ++ b := ⟨_, rfl⟩
  have hus : u.size = a.size + 1 + b.size := by rw [hu, hsz]
  have MA : Move a u 0 0 a.size := by
    refine ⟨by omega, by omega, by omega, by omega, fun x h0 h1 => ?_⟩
    rw [Int.add_zero, hu, bt_left h0 (by omega), bt_left h0 h1]
  have MB : Move b u (a.size + 1) 0 b.size := by
    refine ⟨by omega, by omega, by omega, by omega, fun x h0 h1 => ?_⟩
    rw [hu, bt_right (by omega) (by omega)]
    congr 1; omega
  have hblank : at_ u a.size = 5 := by
    rw [at_in (by omega), hu, bt_left (by omega) (by omega), bt_right (by omega) (by rw [show ((⟨#[32]⟩ : ByteArray).size : Int) = 1 from rfl]; omega)]
    rw [show (a.size : Int) - a.size = 0 from by omega]
    rfl
  have hsoft : Soft u (a.size + 0) := by rw [Int.add_zero]; exact soft_of (.inl hblank)
  refine ⟨9000, ?_⟩
  unfold ambidexterlaw10_LexerConcatenation.f
  rw [ea, eb]
  simp only [ambidexterlaw10_head.f, lexer_Lex.f, Option.bind_some]
  rw [if_pos (by omega), if_pos (by omega), ← hu, hn]
  simp only [Option.bind_some]
  have pA := MA.path hp (by omega) (by omega) (by omega) hj1 (fun _ => hsoft)
  rw [moved_zero] at pA
  simp only [Int.add_zero] at pA
  rcases hA with ⟨hA, hAe⟩ | ⟨hA, hlt, hno⟩
  · rw [hA]
    simp only [if_true]
    cases nt with
    | true => rfl
    | false =>
      rw [if_neg (by decide)]
      obtain ⟨hg, -, -⟩ := skip_gap a j hj0 hj1
      rw [hAe] at hg
      have g1 := MA.gap hg (by omega) (Int.le_refl _) (.inr (.inr (hnt rfl)))
      simp only [Int.add_zero] at g1
      have g2 : Gap u j (a.size + 1) := g1.trans (.blank hblank (.here _))
      have pB := MB.path hq (by omega) (by omega) (by omega) hq1 (fun _ => soft_end (by omega))
      rw [Int.zero_add] at pB
      obtain ⟨j', pC, hj'⟩ := pB.ahead g2 hj0
      have pD := pA.append pC
      rcases hB with ⟨hB, hBe⟩ | ⟨hB, hlt, hno⟩
      · obtain ⟨hgb, -, -⟩ := skip_gap b q hq0 hq1
        rw [hBe] at hgb
        have g3 := MB.gap hgb (by omega) (Int.le_refl _) (.inr (.inl (by omega)))
        rw [show (b.size : Int) + (a.size + 1) = u.size from by omega] at g3
        have hend := skip_end (by omega) g3
        have hU := lexB_ok (by omega) pD (by rw [hj', hend]; omega)
        rw [hU, hB]
        simp only [if_true]
        have hml : (moved ((a.size : Int) + 1) us).length = us.length := by simp [moved]
        rw [show ((((ts ++ moved ((a.size : Int) + 1) us).length : Int)) != wrap64 ((ts.length : Int) + (us.length : Int))) = false from by
          rw [wrap_small (by omega) (by omega), List.length_append, hml]; simp]
        show ambidexterlaw10_LexerConcatenation.j0 (8999 + 1) _ _ _ _ _ _ = _
        simp only [ambidexterlaw10_LexerConcatenation.j0, Bool.false_eq_true, if_false]
        exact cc_loop a ha ts us (by omega) (by omega) (fun x hx => by have := hpl x hx; omega) us.length 8999 0 (by omega) (by omega) (by omega) (by omega)
      · have hs := MB.skip (i := q) (by omega) hlt
        have hr := skipTo_range b q hq0 hq1
        have hx := MB.next (i := skipTo b q) (by omega) hlt (nextAt_end b _ (by omega) (by omega)) (fun _ => soft_end (by omega)) (.inl (soft_end (Int.le_refl _)).1)
        have hU := lexB_bad (by omega) pD (by rw [hj', hs]; omega) (by rw [hj', hs, hx]; exact hno)
        rw [hj', hs] at hU
        rw [hU, hB]
        simp only
        rw [if_neg (by decide), if_pos trivial, wrap_small (x := (a.size : Int) + 1) (by omega) (by omega), wrap_small (x := (a.size : Int) + 1 + skipTo b q) (by omega) (by omega), if_pos (by omega)]
        rfl
  · have hs := MA.skip (i := j) (by omega) hlt
    have hr := skipTo_range a j hj0 hj1
    have hx := MA.next (i := skipTo a j) (by omega) hlt (nextAt_end a _ (by omega) (by omega)) (fun _ => hsoft) (.inl (soft_end (Int.le_refl _)).1)
    simp only [Int.add_zero] at hs hx
    have hU := lexB_bad (by omega) pA (by rw [hs]; omega) (by rw [hs, hx]; exact hno)
    rw [hs] at hU
    rw [hU, hA]
    simp
end Go.Proofs.Ytiikijdkhmbdbaa.Pure
