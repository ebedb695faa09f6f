import Derived.Test.YtiikijdkhmbdbaaPLxx5
namespace Go.Proofs.Ytiikijdkhmbdbaa.Pure
open Go.RowKit Go.Proofs.Ytiikijdkhmbdbaa.PLx Go.Proofs.YtiikijdkhmbdbaaW.PrintWords Go.Proofs.YtiikijdkhmbdbaaW.PrintLast

/-! ### scans -/
theorem scan_spec (p : Int → Bool) (n : Int) : ∀ (k : Nat) (i : Int), (n - i).toNat ≤ k → (∀ x, i ≤ x → x < scan p n k i → p x = true) ∧ (scan p n k i < n → p (scan p n k i) = false) := by
  intro k
  induction k with
  | zero => intro i hk; simp only [scan]; exact ⟨fun x _ _ => by omega, fun _ => by omega⟩
  | succ k ih =>
    intro i hk
    simp only [scan]
    by_cases h : i < n
    · rw [if_pos h]
      by_cases hp : p i = true
      · rw [if_pos hp]
        obtain ⟨h1, h2⟩ := ih (i + 1) (by omega)
        refine ⟨fun x hx hx2 => ?_, h2⟩
        by_cases e : x = i
        · rw [e]; exact hp
        · exact h1 x (by omega) hx2
      · rw [if_neg hp]
        exact ⟨fun x _ _ => by omega, fun _ => by simpa using hp⟩
    · rw [if_neg h]
      exact ⟨fun x _ _ => by omega, fun _ => by omega⟩
theorem scanTo_spec (p : Int → Bool) (n i : Int) : (∀ x, i ≤ x → x < scanTo p n i → p x = true) ∧ (scanTo p n i < n → p (scanTo p n i) = false) := scan_spec p n _ i (Nat.le_refl _)
theorem scanTo_eq {p : Int → Bool} {n i j : Int} (h1 : i ≤ j) (h2 : j ≤ n) (hp : ∀ x, i ≤ x → x < j → p x = true) (he : j < n → p j = false) : scanTo p n i = j := scan_eq p n _ i j (Nat.le_refl _) h1 h2 hp he

/-! ### gaps -/
/-- from i to j there is white space and comments alone -/
inductive Gap (s : ByteArray) : Int → Int → Prop where
  | here (i : Int) : Gap s i i
  | blank {i j : Int} : at_ s i = 5 → Gap s (i + 1) j → Gap s i j
  | note {i m j : Int} : at_ s i = 6 → m = scanTo (lineAt s) s.size i → Gap s m j → Gap s i j
theorem Gap.skip {s : ByteArray} {i j : Int} (h : Gap s i j) (h0 : 0 ≤ i) : skipTo s j = skipTo s i := by
  induction h with
  | here i => rfl
  | blank h5 _ ih => rw [ih (by omega), skipTo_blank h5]
  | @note i m j h6 hm _ ih =>
    have hlt := (at_some (by decide) h6).1
    have := scanTo_range (lineAt s) s.size i (by omega)
    rw [ih (by omega), hm, skipTo_note h0 h6]
theorem Gap.le {s : ByteArray} {i j : Int} (h : Gap s i j) (h1 : i ≤ (s.size : Int)) : i ≤ j ∧ j ≤ (s.size : Int) := by
  induction h with
  | here i => omega
  | blank h5 _ ih =>
    have := (at_some (by decide) h5).1
    have := ih (by omega)
    omega
  | @note i m j h6 hm _ ih =>
    have := scanTo_range (lineAt s) s.size i h1
    have := ih (by omega)
    omega
theorem Gap.trans {s : ByteArray} {i j k : Int} (h : Gap s i j) (g : Gap s j k) : Gap s i k := by
  induction h with
  | here i => exact g
  | blank h5 _ ih => exact .blank h5 (ih g)
  | note h6 hm _ ih => exact .note h6 hm (ih g)
theorem gap_ex (s : ByteArray) : ∀ (d : Nat) (i : Int), 0 ≤ i → i ≤ (s.size : Int) → ((s.size : Int) - i).toNat ≤ d → ∃ j, Gap s i j ∧ at_ s j ≠ 5 ∧ at_ s j ≠ 6 := by
  intro d
  induction d with
  | zero =>
    intro i h0 h1 hd
    have hz : at_ s i = 0 := by unfold at_; rw [if_pos (by omega)]
    exact ⟨i, .here i, by omega, by omega⟩
  | succ d ih =>
    intro i h0 h1 hd
    by_cases h5 : at_ s i = 5
    · have hlt := (at_some (by decide) h5).1
      obtain ⟨j, hg, hj⟩ := ih (i + 1) (by omega) (by omega) (by omega)
      exact ⟨j, .blank h5 hg, hj⟩
    · by_cases h6 : at_ s i = 6
      · have hlt := (at_some (by decide) h6).1
        have hst := scanTo_step hlt (line_of_six h6)
        have hr := scanTo_range (lineAt s) s.size i h1
        obtain ⟨j, hg, hj⟩ := ih (scanTo (lineAt s) s.size i) (by omega) (by omega) (by omega)
        exact ⟨j, .note h6 rfl hg, hj⟩
      · exact ⟨i, .here i, h5, h6⟩
theorem skip_of_gap {s : ByteArray} {i j : Int} (h0 : 0 ≤ i) (h : Gap s i j) (h5 : at_ s j ≠ 5) (h6 : at_ s j ≠ 6) : skipTo s i = j := by
  rw [← h.skip h0, skipTo_other h5 h6]
theorem skip_gap (s : ByteArray) (i : Int) (h0 : 0 ≤ i) (h1 : i ≤ (s.size : Int)) : Gap s i (skipTo s i) ∧ at_ s (skipTo s i) ≠ 5 ∧ at_ s (skipTo s i) ≠ 6 := by
  obtain ⟨j, hg, h5, h6⟩ := gap_ex s _ i h0 h1 (Nat.le_refl _)
  rw [skip_of_gap h0 hg h5 h6]
  exact ⟨hg, h5, h6⟩
theorem at_end {s : ByteArray} {i : Int} (h : (s.size : Int) ≤ i) : at_ s i = 0 := by unfold at_; rw [if_pos h]
/-- a gap that ends at the end of the text -/
theorem skip_end {s : ByteArray} {i : Int} (h0 : 0 ≤ i) (h : Gap s i s.size) : skipTo s i = s.size := skip_of_gap h0 h (by rw [at_end (Int.le_refl _)]; decide) (by rw [at_end (Int.le_refl _)]; decide)

/-! ### the tokens -/
/-- the tokens from i on, and where the first error is, if there is one -/
inductive Lx (s : ByteArray) : Int → List S31 → Option Int → Prop where
  | done {i : Int} : ¬ i < (s.size : Int) → Lx s i [] none
  | err {i : Int} : i < (s.size : Int) → (nextAt s i).2.2.2.1 = false → Lx s i [] (some i)
  | tok {i : Int} {ts : List S31} {e : Option Int} : i < (s.size : Int) → (nextAt s i).2.2.2.1 = true → Lx s (skipTo s (nextAt s i).2.2.2.2) ts e → Lx s i (⟨(nextAt s i).1, (nextAt s i).2.1, (nextAt s i).2.2.1⟩ :: ts) e
theorem lx_ex (s : ByteArray) : ∀ (d : Nat) (i : Int), 0 ≤ i → i ≤ (s.size : Int) → ((s.size : Int) - i).toNat ≤ d → ∃ ts e, Lx s i ts e := by
  intro d
  induction d with
  | zero => intro i h0 h1 hd; exact ⟨[], none, .done (by omega)⟩
  | succ d ih =>
    intro i h0 h1 hd
    by_cases hlt : i < (s.size : Int)
    · cases hok : (nextAt s i).2.2.2.1 with
      | false => exact ⟨[], some i, .err hlt hok⟩
      | true =>
        have hr := nextAt_range s i h0 h1 hok
        have hr2 := skipTo_range s (nextAt s i).2.2.2.2 (by omega) hr.2
        obtain ⟨ts, e, h⟩ := ih (skipTo s (nextAt s i).2.2.2.2) (by omega) (by omega) (by omega)
        exact ⟨_, e, .tok hlt hok h⟩
    · exact ⟨[], none, .done hlt⟩
/-- what Lex hands back of that -/
def outOf (acc : List S31) : Option Int → List S31 × Int × Int
  | none => (acc, 0, 0)
  | some i => ([], 100, i)
theorem lexGo_of {s : ByteArray} {i : Int} {ts : List S31} {e : Option Int} (h : Lx s i ts e) : ∀ (k : Nat) (acc : List S31), 0 ≤ i → i ≤ (s.size : Int) → ((s.size : Int) - i).toNat < k → lexGo s k i acc = outOf (acc ++ ts) e := by
  induction h with
  | done hge =>
    intro k acc h0 h1 hk
    obtain ⟨k, rfl⟩ : ∃ m, k = m + 1 := ⟨k - 1, by omega⟩
    simp only [lexGo]; rw [if_neg hge]; simp [outOf]
  | err hlt hno =>
    intro k acc h0 h1 hk
    obtain ⟨k, rfl⟩ : ∃ m, k = m + 1 := ⟨k - 1, by omega⟩
    simp only [lexGo]; rw [if_pos hlt, hno]; simp [outOf]
  | @tok i ts e hlt hok hl ih =>
    intro k acc h0 h1 hk
    obtain ⟨k, rfl⟩ : ∃ m, k = m + 1 := ⟨k - 1, by omega⟩
    have hr := nextAt_range s i h0 h1 hok
    have hr2 := skipTo_range s (nextAt s i).2.2.2.2 (by omega) hr.2
    simp only [lexGo]; rw [if_pos hlt, if_pos hok, ih k _ (by omega) (by omega) (by omega)]
    simp
theorem lexB_of {s : ByteArray} (hs : s.size ≤ 20000) {ts : List S31} {e : Option Int} (h : Lx s (skipTo s 0) ts e) : lexB s = outOf ts e := by
  have hr := skipTo_range s 0 (by omega) (by omega)
  unfold lexB
  rw [if_neg (by omega), lexGo_of h (s.size + 1) [] (by omega) hr.2 (by omega)]
  rfl
theorem lx_whole (s : ByteArray) : ∃ ts e, Lx s (skipTo s 0) ts e := by
  have hr := skipTo_range s 0 (by omega) (by omega)
  exact lx_ex s _ _ (by omega) hr.2 (Nat.le_refl _)

/-! ### small things about the printed functions -/
theorem few_f (a : ByteArray) : ∃ t, ambidexterlaw10_few.f a = some t ∧ t.size ≤ 2000 ∧ t.size ≤ a.size := by
  have h1 : 0 ≤ mn (a.size : Int) 2000 := by unfold mn; omega
  have h2 : mn (a.size : Int) 2000 ≤ (a.size : Int) := by unfold mn; omega
  have h3 : mn (a.size : Int) 2000 ≤ 2000 := by unfold mn; omega
  refine ⟨_, by rw [ambidexterlaw10_few.f, if_pos h1, if_pos h2], ?_, ?_⟩ <;> (rw [ByteArray.size_extract]; omega)
theorem wrap_small {x : Int} (h0 : -1000000000000 ≤ x) (h1 : x ≤ 1000000000000) : wrap64 x = x := by
  unfold wrap64; omega
theorem same_refl (l : List S31) (hl : l.length ≤ 1000000000) : ∀ (d k : Nat) (i : Int), 0 ≤ i → i ≤ l.length → (l.length : Int) - i = d → d < k → ambidexterref10_Same.l0 k l l i = some true := by
  intro d
  induction d with
  | zero =>
    intro k i h0 h1 hd hk
    obtain ⟨k, rfl⟩ : ∃ m, k = m + 1 := ⟨k - 1, by omega⟩
    simp only [ambidexterref10_Same.l0]; rw [if_neg (by omega)]
  | succ d ih =>
    intro k i h0 h1 hd hk
    obtain ⟨k, rfl⟩ : ∃ m, k = m + 1 := ⟨k - 1, by omega⟩
    simp only [ambidexterref10_Same.l0]
    rw [if_pos (by omega), if_pos h0, if_pos (by omega), if_neg (by simp), wrap_small (by omega) (by omega)]
    exact ih k (i + 1) (by omega) (by omega) (by omega) (by omega)
theorem same_f (l : List S31) (hl : l.length ≤ 1000000000) (k : Nat) (hk : l.length < k) : ambidexterref10_Same.f k l l = some true := by
  unfold ambidexterref10_Same.f
  rw [if_pos rfl]
  exact same_refl l hl l.length k 0 (by omega) (by omega) (by omega) hk

theorem lexGo_len (s : ByteArray) : ∀ (k : Nat) (i : Int) (acc : List S31), (lexGo s k i acc).1.length ≤ acc.length + k := by
  intro k
  induction k with
  | zero => intro i acc; simp [lexGo]
  | succ k ih =>
    intro i acc
    simp only [lexGo]
    split
    · split
      · have := ih (skipTo s (nextAt s i).2.2.2.2) (acc ++ [⟨(nextAt s i).1, (nextAt s i).2.1, (nextAt s i).2.2.1⟩])
        simp only [List.length_append, List.length_cons, List.length_nil] at this
        omega
      · simp
    · simp
theorem lexB_len (s : ByteArray) : (lexB s).1.length ≤ 20001 := by
  unfold lexB
  split
  · simp
  · have := lexGo_len s (s.size + 1) (skipTo s 0) []
    simp only [List.length_nil] at this
    omega
end Go.Proofs.Ytiikijdkhmbdbaa.Pure
