import Derived.Test.YtiikijdkhmbdbaaTheory
namespace Go.Proofs.Ytiikijdkhmbdbaa.Pure
open Go.RowKit Go.Proofs.Ytiikijdkhmbdbaa.PLx Go.Proofs.YtiikijdkhmbdbaaW.PrintWords Go.Proofs.YtiikijdkhmbdbaaW.PrintLast

/-! ### bytes -/
theorem u8_bounds {n : Int} (h : (Lit.int .u8 n).wf = true) : 0 ≤ n ∧ n ≤ 255 := by
  simp only [Lit.wf, Bool.and_eq_true, decide_eq_true_eq] at h
  exact ⟨h.1, h.2⟩
theorem i64_bounds {n : Int} (h : (Lit.int .i64 n).wf = true) : -9223372036854775808 ≤ n ∧ n ≤ 9223372036854775807 := by
  simp only [Lit.wf, Bool.and_eq_true, decide_eq_true_eq] at h
  exact ⟨h.1, h.2⟩
theorem ext_bt {s u : ByteArray} (hs : s.size = u.size) (h : ∀ x : Int, 0 ≤ x → x < (s.size : Int) → bt s x = bt u x) : s = u := by
  apply ByteArray.ext_getElem hs
  intro i hi hi2
  have := h i (by omega) (by omega)
  rw [← bt_at s i (by omega), ← bt_at u i (by omega)] at this
  have h2 : (s[i]'hi).toNat = (u[i]'hi2).toNat := by
    have e : ((i : Nat) : Int).toNat = i := rfl
    simp only [Int.toNat_natCast] at this
    exact_mod_cast this
  exact UInt8.toNat_inj.1 h2
theorem bt_extract {s : ByteArray} {a b x : Int} (h0 : 0 ≤ a) (hx : 0 ≤ x) (h1 : a + x < b) (h2 : b ≤ (s.size : Int)) : bt (s.extract a.toNat b.toNat) x = bt s (a + x) := by
  have hl : x.toNat < (s.extract a.toNat b.toNat).size := by rw [ByteArray.size_extract]; omega
  rw [← bt_at _ x hl, ← bt_at s (a + x) (by omega), ByteArray.getElem_extract]
  have e : a.toNat + x.toNat = (a + x).toNat := by omega
  simp only [e]
theorem size_extractI {s : ByteArray} {a b : Int} (h0 : 0 ≤ a) (h1 : a ≤ b) (h2 : b ≤ (s.size : Int)) : ((s.extract a.toNat b.toNat).size : Int) = b - a := by
  rw [ByteArray.size_extract]; omega
theorem bt_left {s u : ByteArray} {x : Int} (h0 : 0 ≤ x) (h : x < (s.size : Int)) : bt (s ++ u) x = bt s x := by
  have hl : x.toNat < (s ++ u).size := by rw [ByteArray.size_append]; omega
  rw [← bt_at _ x hl, ← bt_at s x (by omega), ByteArray.getElem_append_left (by omega)]
theorem bt_right {s u : ByteArray} {x : Int} (h0 : (s.size : Int) ≤ x) (h : x < (s.size : Int) + u.size) : bt (s ++ u) x = bt u (x - s.size) := by
  have hl : x.toNat < (s ++ u).size := by rw [ByteArray.size_append]; omega
  rw [← bt_at _ x hl, ← bt_at u (x - s.size) (by omega), ByteArray.getElem_append_right (by omega)]
  have e : x.toNat - s.size = (x - s.size).toNat := by omega
  simp only [e]

/-! ### a text inside another -/
/-- s from lo to hi lies in u, d places on -/
structure Move (s u : ByteArray) (d lo hi : Int) : Prop where
  h0 : 0 ≤ lo
  hs : hi ≤ (s.size : Int)
  d0 : 0 ≤ lo + d
  hu : hi + d ≤ (u.size : Int)
  eq : ∀ x, lo ≤ x → x < hi → bt u (x + d) = bt s x
section
variable {s u : ByteArray} {d lo hi : Int}
theorem Move.at (M : Move s u d lo hi) {x : Int} (h1 : lo ≤ x) (h2 : x < hi) : at_ u (x + d) = at_ s x := by
  have := M.hs; have := M.hu
  rw [at_in (by omega), at_in (by omega), M.eq x h1 h2]
theorem Move.line (M : Move s u d lo hi) {x : Int} (h1 : lo ≤ x) (h2 : x < hi) : lineAt u (x + d) = lineAt s x := by
  unfold lineAt; rw [M.eq x h1 h2]
theorem Move.word (M : Move s u d lo hi) {x : Int} (h1 : lo ≤ x) (h2 : x < hi) : wordAt u (x + d) = wordAt s x := by
  unfold wordAt; rw [M.at h1 h2]
theorem Move.digit (M : Move s u d lo hi) {x : Int} (h1 : lo ≤ x) (h2 : x < hi) : digitAt u (x + d) = digitAt s x := by
  unfold digitAt; rw [M.at h1 h2]
/-- a scan that ends at or before hi -/
theorem Move.scan (M : Move s u d lo hi) {p q : Int → Bool} (hpq : ∀ x, lo ≤ x → x < hi → q (x + d) = p x) {i : Int} (h1 : lo ≤ i) (h2 : i ≤ hi) (hj : scanTo p s.size i ≤ hi)
    (hq : scanTo p s.size i = hi → hi + d < (u.size : Int) → q (hi + d) = false) : scanTo q u.size (i + d) = scanTo p s.size i + d := by
  have hr := scanTo_range p s.size i (by have := M.hs; omega)
  obtain ⟨a, b⟩ := scanTo_spec p s.size i
  generalize scanTo p s.size i = j at *
  have := M.hs; have := M.hu
  refine scanTo_eq (by omega) (by omega) (fun x hx hx2 => ?_) (fun hlt => ?_)
  · have := hpq (x - d) (by omega) (by omega)
    rw [show x - d + d = x from by omega] at this
    rw [this]; exact a _ (by omega) (by omega)
  · by_cases e : j = hi
    · subst e; exact hq rfl hlt
    · rw [hpq j (by omega) (by omega)]; exact b (by omega)
theorem Move.text (M : Move s u d lo hi) {i j : Int} (h1 : lo ≤ i) (h2 : i ≤ j) (h3 : j ≤ hi) : u.extract (i + d).toNat (j + d).toNat = s.extract i.toNat j.toNat := by
  have := M.hs; have := M.hu; have := M.h0; have := M.d0
  have e1 := size_extractI (s := u) (a := i + d) (b := j + d) (by omega) (by omega) (by omega)
  have e2 := size_extractI (s := s) (a := i) (b := j) (by omega) (by omega) (by omega)
  refine ext_bt (by omega) (fun x hx hx2 => ?_)
  rw [bt_extract (by omega) hx (by omega) (by omega), bt_extract (by omega) hx (by omega) (by omega), show i + d + x = (i + x) + d from by omega]
  exact M.eq _ (by omega) (by omega)
/-- what stands in u behind the piece cuts words and numbers off -/
def Soft (u : ByteArray) (p : Int) : Prop := wordAt u p = false ∧ digitAt u p = false
theorem soft_end {u : ByteArray} {p : Int} (h : (u.size : Int) ≤ p) : Soft u p := by simp [Soft, wordAt, digitAt, at_end h]
theorem soft_of {u : ByteArray} {p : Int} (h : at_ u p = 5 ∨ at_ u p = 6) : Soft u p := by
  rcases h with h | h <;> simp [Soft, wordAt, digitAt, h]
/-- a gap inside the piece -/
theorem Move.gap (M : Move s u d lo hi) {i j : Int} (h : Gap s i j) : lo ≤ i → j ≤ hi → (j < hi ∨ hi + d = (u.size : Int) ∨ (∀ x, lo ≤ x → x < hi → at_ s x = 6 → scanTo (lineAt s) s.size x < hi)) → Gap u (i + d) (j + d) := by
  induction h with
  | here i => intro _ _ _; exact .here _
  | @blank i j h5 hg ih =>
    intro h1 h2 hb
    have hlt := (at_some (by decide) h5).1
    have hle := hg.le (by omega)
    have hx : at_ u (i + d) = 5 := by rw [M.at h1 (by omega), h5]
    have hi1 := ih (by omega) h2 hb
    rw [show i + 1 + d = i + d + 1 from by omega] at hi1
    exact .blank hx hi1
  | @note i m j h6 hm hg ih =>
    intro h1 h2 hb
    have hlt := (at_some (by decide) h6).1
    have hst := scanTo_step hlt (line_of_six h6)
    have hr := scanTo_range (lineAt s) s.size i (by omega)
    have hle := hg.le (by omega)
    have hx : at_ u (i + d) = 6 := by rw [M.at h1 (by omega), h6]
    have hsc : scanTo (lineAt u) u.size (i + d) = scanTo (lineAt s) s.size i + d := by
      refine M.scan (fun x a b => M.line a b) h1 (by omega) (by omega) (fun he hlt2 => ?_)
      rcases hb with hb | hb | hb
      · omega
      · omega
      · have := hb i h1 (by omega) h6; omega
    exact .note hx (by rw [hsc, hm]) (ih (by omega) h2 hb)
/-- what is skipped, where it ends inside the piece -/
theorem Move.skip (M : Move s u d lo hi) {i : Int} (h1 : lo ≤ i) (h2 : skipTo s i < hi) : skipTo u (i + d) = skipTo s i + d := by
  have hs := M.hs
  have h0 := M.h0
  have hi1 : i ≤ (s.size : Int) := by
    rcases Int.lt_or_le (s.size : Int) i with h | h
    · rw [skipTo_other (by rw [at_end (by omega)]; decide) (by rw [at_end (by omega)]; decide)] at h2; omega
    · exact h
  obtain ⟨hg, h5, h6⟩ := skip_gap s i (by omega) hi1
  have hle := hg.le hi1
  refine skip_of_gap (by have := M.d0; omega) (M.gap hg h1 (by omega) (.inl h2)) ?_ ?_
  · rw [M.at (by omega) h2]; exact h5
  · rw [M.at (by omega) h2]; exact h6
theorem firstAt_move (sg : Bool) (i d : Int) : firstAt sg (i + d) = firstAt sg i + d := by unfold firstAt; split <;> omega
/-- the token at i -/
theorem Move.next (M : Move s u d lo hi) {i : Int} (h1 : lo ≤ i) (h2 : i < hi) (hE : (nextAt s i).2.2.2.2 ≤ hi) (hsoft : (nextAt s i).2.2.2.2 = hi → Soft u (hi + d)) (hw : wordAt s hi = false ∨ (nextAt s i).2.2.2.1 = true ∨ (nextAt s i).2.2.2.2 < hi) :
    nextAt u (i + d) = ((nextAt s i).1, (nextAt s i).2.1, (if (nextAt s i).2.2.2.1 = true then (nextAt s i).2.2.1 + d else 0), (nextAt s i).2.2.2.1, (nextAt s i).2.2.2.2 + d) := by
  have hs := M.hs
  have h0 := M.h0
  unfold nextAt at hE hsoft hw ⊢
  rw [M.at h1 h2]
  by_cases c1 : at_ s i = 1
  · simp only [if_pos c1, if_true] at hE hsoft hw ⊢
    have hr := scanTo_range (wordAt s) s.size i (by omega)
    have hsc := M.scan (p := wordAt s) (q := wordAt u) (fun x a b => M.word a b) h1 (by omega) hE (fun e _ => (hsoft e).1)
    rw [hsc, M.text h1 hr.1 hE]
  · simp only [if_neg c1] at hE hsoft hw ⊢
    by_cases c4 : at_ s i = 4
    · simp only [if_pos c4, if_true] at hE hsoft hw ⊢
      rw [show i + d + 1 = i + 1 + d from by omega, M.text h1 (by omega) (by omega)]
    · simp only [if_neg c4] at hE hsoft hw ⊢
      by_cases c7 : at_ s i = 7 ∨ at_ s i = 2
      · simp only [if_pos c7] at hE hsoft hw ⊢
        generalize (at_ s i == 7) = sg at *
        rw [firstAt_move]
        have hf : i ≤ firstAt sg i ∧ firstAt sg i ≤ i + 1 := by unfold firstAt; split <;> omega
        generalize firstAt sg i = f at *
        have hr := scanTo_range (digitAt s) s.size f (by omega)
        have hj : scanTo (digitAt s) s.size f ≤ hi := by
          revert hE; split <;> (intro hE; exact hE)
        have hso : scanTo (digitAt s) s.size f = hi → Soft u (hi + d) := by
          revert hsoft; split <;> (intro hsoft; exact hsoft)
        have hsc := M.scan (p := digitAt s) (q := digitAt u) (fun x a b => M.digit a b) (by omega) (by omega) hj (fun e _ => (hso e).2)
        rw [hsc, M.text (by omega) hr.1 hj, M.text h1 (by omega) hj]
        have hww : wordAt u (scanTo (digitAt s) s.size f + d) = wordAt s (scanTo (digitAt s) s.size f) := by
          by_cases e : scanTo (digitAt s) s.size f = hi
          · rw [e, (hso e).1]
            rcases hw with hw | hw | hw
            · exact hw.symm
            · revert hw
              split
              · rename_i hc
                intro _
                simp only [Bool.and_eq_true, Bool.not_eq_true'] at hc
                rw [← e]; exact hc.2.symm
              · intro hw; exact absurd hw (by simp)
            · exfalso
              revert hw; split <;> (intro hw; simp only at hw; omega)
          · exact M.word (by omega) (by omega)
        rw [hww]
        split <;> simp
      · simp only [if_neg c7, Bool.false_eq_true, if_false] at hE hsoft hw ⊢
end

/-! ### the way through the tokens -/
def tokAt (s : ByteArray) (i : Int) : S31 := ⟨(nextAt s i).1, (nextAt s i).2.1, (nextAt s i).2.2.1⟩
/-- from i on (ahead of the gap) the tokens ts are read; then the lexer stands at j, right behind the last -/
inductive Path (s : ByteArray) : Int → List S31 → Int → Prop where
  | nil (i : Int) : Path s i [] i
  | cons {i j : Int} {ts : List S31} : skipTo s i < (s.size : Int) → (nextAt s (skipTo s i)).2.2.2.1 = true → Path s (nextAt s (skipTo s i)).2.2.2.2 ts j → Path s i (tokAt s (skipTo s i) :: ts) j
theorem Path.le {s : ByteArray} {i j : Int} {ts : List S31} (h : Path s i ts j) : 0 ≤ i → i ≤ (s.size : Int) → i ≤ j ∧ j ≤ (s.size : Int) := by
  induction h with
  | nil i => intro _ h1; omega
  | cons hlt hok hp ih =>
    intro h0 h1
    have hr := skipTo_range s _ h0 h1
    have hn := nextAt_range s _ (by omega) hr.2 hok
    have := ih (by omega) hn.2
    omega
theorem Path.append {s : ByteArray} {i j k : Int} {ts us : List S31} (h : Path s i ts j) (g : Path s j us k) : Path s i (ts ++ us) k := by
  induction h with
  | nil i => exact g
  | cons hlt hok hp ih => exact .cons hlt hok (ih g)
theorem Path.cut {s : ByteArray} {i j : Int} {ts : List S31} (h : Path s i ts j) : ∀ n, n ≤ ts.length → ∃ m, Path s i (ts.take n) m ∧ Path s m (ts.drop n) j := by
  induction h with
  | nil i => intro n hn; exact ⟨i, by simpa using .nil i, by simpa using .nil i⟩
  | @cons i j ts hlt hok hp ih =>
    intro n hn
    cases n with
    | zero => exact ⟨i, .nil i, by simpa using .cons hlt hok hp⟩
    | succ n =>
      obtain ⟨m, h1, h2⟩ := ih n (by simpa using hn)
      exact ⟨m, .cons hlt hok h1, h2⟩
theorem path_of_lx {s : ByteArray} {p : Int} {ts : List S31} {e : Option Int} (h : Lx s p ts e) : ∀ i, p = skipTo s i → ∃ j, Path s i ts j ∧ (e = none → ¬ skipTo s j < (s.size : Int)) ∧ (∀ x, e = some x → x = skipTo s j ∧ x < (s.size : Int) ∧ (nextAt s x).2.2.2.1 = false) := by
  induction h with
  | done hge => intro i hi; subst hi; exact ⟨i, .nil i, fun _ => hge, fun x hx => by cases hx⟩
  | err hlt hno => intro i hi; subst hi; exact ⟨i, .nil i, (fun h => by cases h), (fun x hx => by obtain rfl := Option.some.inj hx; exact ⟨rfl, hlt, hno⟩)⟩
  | tok hlt hok hl ih =>
    intro i hi
    subst hi
    obtain ⟨j, hp, a, b⟩ := ih _ rfl
    exact ⟨j, .cons hlt hok hp, a, b⟩
theorem lx_of_path {s : ByteArray} {i j : Int} {ts : List S31} (h : Path s i ts j) : ∀ {us : List S31} {e : Option Int}, Lx s (skipTo s j) us e → Lx s (skipTo s i) (ts ++ us) e := by
  induction h with
  | nil i => intro us e h; exact h
  | cons hlt hok hp ih => intro us e h; exact .tok hlt hok (ih h)
/-- every text: its tokens, and how they end -/
theorem whole (s : ByteArray) (hs : s.size ≤ 20000) : ∃ ts j, Path s 0 ts j ∧ 0 ≤ j ∧ j ≤ (s.size : Int) ∧ ((lexB s = (ts, 0, 0) ∧ skipTo s j = s.size) ∨ (lexB s = ([], 100, skipTo s j) ∧ skipTo s j < (s.size : Int) ∧ (nextAt s (skipTo s j)).2.2.2.1 = false)) := by
  obtain ⟨ts, e, h⟩ := lx_whole s
  obtain ⟨j, hp, hn, he⟩ := path_of_lx h 0 rfl
  have hle := hp.le (by omega) (by omega)
  have hr := skipTo_range s j (by omega) hle.2
  refine ⟨ts, j, hp, by omega, hle.2, ?_⟩
  cases e with
  | none => exact .inl ⟨lexB_of hs h, by have := hn rfl; omega⟩
  | some x =>
    obtain ⟨hx, hlt, hno⟩ := he x rfl
    subst hx
    exact .inr ⟨lexB_of hs h, hlt, hno⟩
theorem lexB_ok {s : ByteArray} (hs : s.size ≤ 20000) {ts : List S31} {j : Int} (h : Path s 0 ts j) (he : ¬ skipTo s j < (s.size : Int)) : lexB s = (ts, 0, 0) := by
  have := lexB_of hs (lx_of_path h (.done he))
  simpa [outOf] using this
theorem lexB_bad {s : ByteArray} (hs : s.size ≤ 20000) {ts : List S31} {j : Int} (h : Path s 0 ts j) (he : skipTo s j < (s.size : Int)) (hno : (nextAt s (skipTo s j)).2.2.2.1 = false) : lexB s = ([], 100, skipTo s j) := by
  have := lexB_of hs (lx_of_path h (.err he hno))
  simpa [outOf] using this
/-- the place of a token is where it begins -/
theorem nextAt_at {s : ByteArray} {i : Int} (hok : (nextAt s i).2.2.2.1 = true) : (nextAt s i).2.2.1 = i ∧ (1 ≤ (nextAt s i).1 ∧ (nextAt s i).1 ≤ 3) ∧ (nextAt s i).2.1 = s.extract i.toNat (nextAt s i).2.2.2.2.toNat := by
  revert hok
  unfold nextAt
  by_cases c1 : at_ s i = 1
  · simp only [if_pos c1]; simp
  · simp only [if_neg c1]
    by_cases c4 : at_ s i = 4
    · simp only [if_pos c4]; simp
    · simp only [if_neg c4]
      by_cases c7 : at_ s i = 7 ∨ at_ s i = 2
      · simp only [if_pos c7]
        split
        · simp
        · intro h; exact absurd h (by simp)
      · simp only [if_neg c7]; intro h; exact absurd h (by simp)
/-- whatever is read ends in the text -/
theorem nextAt_end (s : ByteArray) (i : Int) (_ : 0 ≤ i) (h1 : i ≤ (s.size : Int)) : (nextAt s i).2.2.2.2 ≤ (s.size : Int) := by
  unfold nextAt
  by_cases c1 : at_ s i = 1
  · simp only [if_pos c1]; exact (scanTo_range _ _ _ h1).2
  · simp only [if_neg c1]
    by_cases c4 : at_ s i = 4
    · simp only [if_pos c4]; have := (at_some (by decide) c4).1; omega
    · simp only [if_neg c4]
      by_cases c7 : at_ s i = 7 ∨ at_ s i = 2
      · simp only [if_pos c7]
        have hlt : i < (s.size : Int) := by rcases c7 with c | c <;> exact (at_some (by decide) c).1
        have hf : firstAt (at_ s i == 7) i ≤ (s.size : Int) := by unfold firstAt; split <;> omega
        have := (scanTo_range (digitAt s) s.size _ hf).2
        split <;> exact this
      · simp only [if_neg c7]; exact h1
/-- tokens d places on -/
def moved (d : Int) (ts : List S31) : List S31 := ts.map fun t => ⟨t.f0, t.f1, t.f2 + d⟩
theorem Move.path {s u : ByteArray} {d lo hi : Int} (M : Move s u d lo hi) {i j : Int} {ts : List S31} (h : Path s i ts j) : lo ≤ i → 0 ≤ i → i ≤ (s.size : Int) → j ≤ hi → (j = hi → Soft u (hi + d)) → Path u (i + d) (moved d ts) (j + d) := by
  induction h with
  | nil i => intro _ _ _ _ _; exact .nil _
  | @cons i j ts hlt hok hp ih =>
    intro h1 h0 hi1 hj hso
    have hr := skipTo_range s i h0 hi1
    have hn := nextAt_range s _ (by omega) hr.2 hok
    have hle := hp.le (by omega) hn.2
    have hs := M.skip h1 (by omega)
    have hx := M.next (i := skipTo s i) (by omega) (by omega) (by omega) (fun e => hso (by omega)) (.inr (.inl hok))
    rw [if_pos hok] at hx
    have h3 := ih (by omega) (by omega) hn.2 hj hso
    have hu := M.hu; have hss := M.hs
    have e1 : tokAt u (skipTo u (i + d)) = ⟨(tokAt s (skipTo s i)).f0, (tokAt s (skipTo s i)).f1, (tokAt s (skipTo s i)).f2 + d⟩ := by
      unfold tokAt; rw [hs, hx]
    show Path u (i + d) (⟨(tokAt s (skipTo s i)).f0, (tokAt s (skipTo s i)).f1, (tokAt s (skipTo s i)).f2 + d⟩ :: moved d ts) (j + d)
    rw [← e1]
    refine .cons (by rw [hs]; omega) (by rw [hs, hx]; exact hok) ?_
    rw [hs, hx]
    exact h3
theorem moved_zero (ts : List S31) : moved 0 ts = ts := by
  unfold moved
  induction ts with
  | nil => rfl
  | cons t ts ih => rw [List.map_cons, ih]; simp
end Go.Proofs.Ytiikijdkhmbdbaa.Pure
