/- For every string and every choice of gaps: the texts of the tokens of its first 2000 bytes, each with one of five gaps of white space and comments behind it, lex to the same kinds and texts. No condition but the form's own bounds on the sizes of what comes in. -/
import Derived.Test.YtiikijdkhmbdbaaTheory2
import Derived.Test.YtiikijdkhmbdbaaPLxx7
namespace Go.Proofs.Ytiikijdkhmbdbaa.Pure
open Go.RowKit Go.Proofs.Ytiikijdkhmbdbaa.PLx Go.Proofs.YtiikijdkhmbdbaaW.PrintWords Go.Proofs.YtiikijdkhmbdbaaW.PrintLast

/-- u begins with t -/
def Ext (t u : ByteArray) : Prop := t.size ≤ u.size ∧ ∀ x : Int, 0 ≤ x → x < (t.size : Int) → bt u x = bt t x
theorem Ext.refl (t : ByteArray) : Ext t t := ⟨Nat.le_refl _, fun _ _ _ => rfl⟩
theorem Ext.trans {a b c : ByteArray} (h : Ext a b) (g : Ext b c) : Ext a c := ⟨Nat.le_trans h.1 g.1, fun x h0 h1 => (g.2 x h0 (by have := h.1; omega)).trans (h.2 x h0 h1)⟩
theorem ext_append (a b : ByteArray) : Ext a (a ++ b) := ⟨by rw [ByteArray.size_append]; omega, fun _ h0 h1 => bt_left h0 h1⟩

/-! ### the five gaps -/
def gapsL : List ByteArray := [(⟨#[32]⟩ : ByteArray), (⟨#[10]⟩ : ByteArray), (⟨#[32, 9, 13, 10]⟩ : ByteArray), (⟨#[35, 120, 10]⟩ : ByteArray), (⟨#[32, 35, 32, 97, 32, 35, 32, 10, 10]⟩ : ByteArray)]
theorem at_val {u : ByteArray} {p c : Int} (h : p < (u.size : Int)) (hb : bt u p = c) : at_ u p = cls c.toNat := by rw [at_in h, hb]
/-- whatever text holds one of the gaps from p on: a gap -/
theorem gap_lit {g : ByteArray} (hg : g ∈ gapsL) {u : ByteArray} {p : Int} (h0 : 0 ≤ p) (hsz : p + g.size ≤ (u.size : Int)) (hb : ∀ x : Int, 0 ≤ x → x < (g.size : Int) → bt u (p + x) = bt g x) : Gap u p (p + g.size) ∧ (at_ u p = 5 ∨ at_ u p = 6) := by
  have hrd : ∀ (k : Int) (c : Int), 0 ≤ k → k < (g.size : Int) → bt g k = c → bt u (p + k) = c := fun k c a b e => (hb k a b).trans e
  have hat : ∀ (k : Int) (c : Int), 0 ≤ k → k < (g.size : Int) → bt g k = c → at_ u (p + k) = cls c.toNat := fun k c a b e => at_val (by omega) (hrd k c a b e)
  simp only [gapsL, List.mem_cons, List.not_mem_nil, or_false] at hg
  rcases hg with rfl | rfl | rfl | rfl | rfl
  · have a0 := hat 0 32 (by decide) (by decide) rfl
    rw [Int.add_zero] at a0
    exact ⟨.blank a0 (.here _), .inl a0⟩
  · have a0 := hat 0 10 (by decide) (by decide) rfl
    rw [Int.add_zero] at a0
    exact ⟨.blank a0 (.here _), .inl a0⟩
  · have a0 := hat 0 32 (by decide) (by decide) rfl
    have a1 := hat 1 9 (by decide) (by decide) rfl
    have a2 := hat 2 13 (by decide) (by decide) rfl
    have a3 := hat 3 10 (by decide) (by decide) rfl
    rw [Int.add_zero] at a0
    refine ⟨.blank a0 (.blank a1 (.blank ?_ (.blank ?_ ?_))), .inl a0⟩
    · rw [show p + 1 + 1 = p + 2 from by omega]; exact a2
    · rw [show p + 1 + 1 + 1 = p + 3 from by omega]; exact a3
    · have e : p + 1 + 1 + 1 + 1 = p + ((⟨#[32, 9, 13, 10]⟩ : ByteArray).size : Nat) := by show _ = p + 4; omega
      rw [e]; exact .here _
  · have a0 := hat 0 35 (by decide) (by decide) rfl
    have a2 := hat 2 10 (by decide) (by decide) rfl
    have b0 := hrd 0 35 (by decide) (by decide) rfl
    have b1 := hrd 1 120 (by decide) (by decide) rfl
    have b2 := hrd 2 10 (by decide) (by decide) rfl
    rw [Int.add_zero] at a0 b0
    have h3 : p + 3 ≤ (u.size : Int) := hsz
    have hsc : scanTo (lineAt u) u.size p = p + 2 := by
      refine scanTo_eq (by omega) (by omega) (fun x hx hx2 => ?_) (fun _ => by simp [lineAt, b2])
      rcases (show x = p ∨ x = p + 1 from by omega) with rfl | rfl
      · simp [lineAt, b0]
      · simp [lineAt, b1]
    refine ⟨.note a0 hsc.symm (.blank a2 ?_), .inr a0⟩
    have e : p + 2 + 1 = p + ((⟨#[35, 120, 10]⟩ : ByteArray).size : Nat) := by show _ = p + 3; omega
    rw [e]; exact .here _
  · have a0 := hat 0 32 (by decide) (by decide) rfl
    have a1 := hat 1 35 (by decide) (by decide) rfl
    have a7 := hat 7 10 (by decide) (by decide) rfl
    have a8 := hat 8 10 (by decide) (by decide) rfl
    have b1 := hrd 1 35 (by decide) (by decide) rfl
    have b2 := hrd 2 32 (by decide) (by decide) rfl
    have b3 := hrd 3 97 (by decide) (by decide) rfl
    have b4 := hrd 4 32 (by decide) (by decide) rfl
    have b5 := hrd 5 35 (by decide) (by decide) rfl
    have b6 := hrd 6 32 (by decide) (by decide) rfl
    have b7 := hrd 7 10 (by decide) (by decide) rfl
    rw [Int.add_zero] at a0
    have h3 : p + 9 ≤ (u.size : Int) := hsz
    have hsc : scanTo (lineAt u) u.size (p + 1) = p + 7 := by
      refine scanTo_eq (by omega) (by omega) (fun x hx hx2 => ?_) (fun _ => by simp [lineAt, b7])
      rcases (show x = p + 1 ∨ x = p + 2 ∨ x = p + 3 ∨ x = p + 4 ∨ x = p + 5 ∨ x = p + 6 from by omega) with rfl | rfl | rfl | rfl | rfl | rfl
      · simp [lineAt, b1]
      · simp [lineAt, b2]
      · simp [lineAt, b3]
      · simp [lineAt, b4]
      · simp [lineAt, b5]
      · simp [lineAt, b6]
    refine ⟨.blank a0 (.note a1 hsc.symm (.blank a7 (.blank ?_ ?_))), .inl a0⟩
    · rw [show p + 7 + 1 = p + 8 from by omega]; exact a8
    · have e : p + 7 + 1 + 1 = p + ((⟨#[32, 35, 32, 97, 32, 35, 32, 10, 10]⟩ : ByteArray).size : Nat) := by show _ = p + 9; omega
      rw [e]; exact .here _

/-! ### a text put together of tokens and gaps -/
/-- whatever begins with T: the tokens us stand in T, and behind them T is a gap -/
def Good (T : ByteArray) (us : List S31) : Prop := ∃ j, 0 ≤ j ∧ ∀ u, Ext T u → Path u 0 us j ∧ Gap u j T.size
theorem good_nil : Good ⟨#[]⟩ [] := ⟨0, by omega, fun _ _ => ⟨.nil 0, .here 0⟩⟩
theorem good_step {T : ByteArray} {us : List S31} (h : Good T us) {t : ByteArray} {a : Int} (h0 : 0 ≤ a) (hlt : a < (t.size : Int)) (h5 : at_ t a ≠ 5) (h6 : at_ t a ≠ 6) (hok : (nextAt t a).2.2.2.1 = true) {g : ByteArray} (hg : g ∈ gapsL) (hg0 : 0 < g.size) :
    Good (T ++ (nextAt t a).2.1 ++ g) (us ++ [⟨(nextAt t a).1, (nextAt t a).2.1, T.size⟩]) := by
  obtain ⟨j, hj0, hj⟩ := h
  have hn := nextAt_range t a h0 (by omega) hok
  obtain ⟨ha, -, htx⟩ := nextAt_at hok
  have hsz := size_extractI (s := t) (a := a) (b := (nextAt t a).2.2.2.2) h0 (by omega) hn.2
  rw [← htx] at hsz
  refine ⟨T.size + (nextAt t a).2.1.size, by omega, fun u hu => ?_⟩
  have hu1 : Ext (T ++ (nextAt t a).2.1) u := (ext_append _ _).trans hu
  have hu0 : Ext T u := (ext_append _ _).trans hu1
  have hus := hu.1
  rw [ByteArray.size_append, ByteArray.size_append] at hus
  obtain ⟨hp, hgap⟩ := hj u hu0
  -- the token
  have M : Move t u (T.size - a) a (nextAt t a).2.2.2.2 := by
    refine ⟨h0, hn.2, by omega, by omega, fun x hx hx2 => ?_⟩
    rw [hu1.2 (x + (T.size - a)) (by omega) (by rw [ByteArray.size_append]; omega), bt_right (by omega) (by omega), htx, bt_extract h0 (by omega) (by omega) hn.2]
    congr 1; omega
  -- the gap behind it
  have hgb : ∀ x : Int, 0 ≤ x → x < (g.size : Int) → bt u ((T.size + (nextAt t a).2.1.size : Int) + x) = bt g x := by
    intro x hx hx2
    rw [hu.2 _ (by omega) (by rw [ByteArray.size_append, ByteArray.size_append]; omega), bt_right (by rw [ByteArray.size_append]; omega) (by rw [ByteArray.size_append]; omega), ByteArray.size_append]
    congr 1; omega
  obtain ⟨hgl, hat⟩ := gap_lit hg (u := u) (p := T.size + (nextAt t a).2.1.size) (by omega) (by omega) hgb
  have hend : (nextAt t a).2.2.2.2 + (T.size - a) = T.size + (nextAt t a).2.1.size := by omega
  have hx := M.next (i := a) (Int.le_refl _) (by omega) (Int.le_refl _) (fun _ => by rw [hend]; exact soft_of hat) (.inr (.inl hok))
  rw [if_pos hok, ha, hend, show a + (T.size - a) = (T.size : Int) from by omega] at hx
  have hma := M.at (x := a) (Int.le_refl _) (by omega)
  rw [show a + (T.size - a) = (T.size : Int) from by omega] at hma
  have hsk : skipTo u j = T.size := by
    rw [← hgap.skip hj0]; exact skipTo_other (by rw [hma]; exact h5) (by rw [hma]; exact h6)
  refine ⟨hp.append ?_, ?_⟩
  · have e : tokAt u (skipTo u j) = ⟨(nextAt t a).1, (nextAt t a).2.1, T.size⟩ := by unfold tokAt; rw [hsk, hx]
    rw [← e]
    refine .cons (by rw [hsk]; omega) (by rw [hsk, hx]; exact hok) ?_
    rw [hsk, hx]
    exact .nil _
  · have e : ((T ++ (nextAt t a).2.1 ++ g).size : Int) = T.size + (nextAt t a).2.1.size + g.size := by rw [ByteArray.size_append, ByteArray.size_append]; omega
    rw [e]
    exact hgl
theorem good_lex {T : ByteArray} {us : List S31} (h : Good T us) (hs : T.size ≤ 20000) : lexB T = (us, 0, 0) := by
  obtain ⟨j, hj0, hj⟩ := h
  obtain ⟨hp, hg⟩ := hj T (Ext.refl T)
  refine lexB_ok hs hp ?_
  rw [skip_end hj0 hg]; omega

theorem rd_left (us vs : List S31) (i : Int) (h : i.toNat < us.length) : rd_T31 (us ++ vs) i = rd_T31 us i := by
  simp [rd_T31, List.getElem?_append_left h]
/-- the same kinds and texts, one by one -/
def SameKT (us ms : List S31) : Prop := us.length = ms.length ∧ ∀ (i : Int), 0 ≤ i → i < us.length → (rd_T31 ms i).f0 = (rd_T31 us i).f0 ∧ (rd_T31 ms i).f1 = (rd_T31 us i).f1
theorem sameKT_snoc {us ms : List S31} (h : SameKT us ms) (x y : S31) (h0 : y.f0 = x.f0) (h1 : y.f1 = x.f1) : SameKT (us ++ [x]) (ms ++ [y]) := by
  obtain ⟨hl, h⟩ := h
  refine ⟨by simp [hl], fun i hi hi2 => ?_⟩
  simp only [List.length_append, List.length_cons, List.length_nil] at hi2
  by_cases e : i = us.length
  · have e1 : rd_T31 (us ++ [x]) i = x := by subst e; simp [rd_T31]
    have e2 : rd_T31 (ms ++ [y]) i = y := by subst e; rw [hl]; simp [rd_T31]
    rw [e1, e2]; exact ⟨h0, h1⟩
  · have e1 : rd_T31 (us ++ [x]) i = rd_T31 us i := by exact rd_left _ _ _ (by omega)
    have e2 : rd_T31 (ms ++ [y]) i = rd_T31 ms i := by exact rd_left _ _ _ (by omega)
    rw [e1, e2]; exact h i hi (by omega)
/-- the law's last loop -/
theorem cmp_loop (ts ms us vs : List S31) (hts : ts = us ++ vs) (h : SameKT us ms) (hl : ms.length ≤ 100000) : ∀ (d k : Nat) (i : Int), 0 ≤ i → i ≤ ms.length → (ms.length : Int) - i = d → d + d + 4 ≤ k → ambidexterlaw10_LexerStable.l1 k true ts ms i = some true := by
  intro d
  induction d with
  | zero =>
    intro k i h0 h1 hd hk
    obtain ⟨k, rfl⟩ : ∃ m, k = m + 1 + 1 := ⟨k - 2, by omega⟩
    simp only [ambidexterlaw10_LexerStable.l1]
    rw [if_neg (by omega)]
    simp only [ambidexterlaw10_LexerStable.j4, Bool.false_eq_true, if_false]
  | succ d ih =>
    intro k i h0 h1 hd hk
    obtain ⟨k, rfl⟩ : ∃ m, k = m + 1 + 1 := ⟨k - 2, by omega⟩
    have hlt : i < (us.length : Int) := by rw [h.1]; omega
    have hts2 : i < (ts.length : Int) := by rw [hts, List.length_append]; omega
    have e1 : rd_T31 ts i = rd_T31 us i := by rw [hts]; exact rd_left _ _ _ (by omega)
    obtain ⟨k0, k1⟩ := h.2 i h0 hlt
    simp only [ambidexterlaw10_LexerStable.l1]
    rw [if_pos (by omega)]
    simp only [ambidexterlaw10_LexerStable.j4]
    rw [if_pos (by simpa using hts2), if_pos h0, if_pos (by omega), if_pos hts2, e1, if_pos k0, if_pos (by rw [k1]), wrap_small (by omega) (by omega)]
    exact ih k (i + 1) (by omega) (by omega) (by omega) (by omega)

/-- where the text is whole: it is lexed, and the tokens are held against those of the input -/
theorem stable_end (how : List Int) (ts us ms vs : List S31) (T : ByteArray) (hts : ts = us ++ vs) (hG : Good T ms) (hKT : SameKT us ms) (hT : T.size ≤ 20000) (hl : us.length ≤ 5000) (hend : vs = [] ∨ ¬ (T.size : Int) < 6000) (k : Nat) (hk : 30000 ≤ k) :
    ambidexterlaw10_LexerStable.j1 k how true ts gapsL T us.length false = some true := by
  obtain ⟨k, rfl⟩ : ∃ m, k = m + 1 + 1 := ⟨k - 2, by omega⟩
  simp only [ambidexterlaw10_LexerStable.j1, Bool.false_eq_true, if_false, lexer_Lex.f, Option.bind_some]
  rw [good_lex hG hT]
  simp only [if_true]
  have hml : ms.length ≤ 100000 := by rw [← hKT.1]; omega
  have hc := cmp_loop ts ms us vs hts hKT hml ms.length k 0 (by omega) (by omega) (by omega) (by rw [← hKT.1]; omega)
  by_cases e : (ms.length : Int) = ts.length
  · rw [if_pos e]
    simp only [ambidexterlaw10_LexerStable.j2, Bool.false_eq_true, if_false]
    exact hc
  · rw [if_neg e]
    have hn : ¬ (T.size : Int) < 6000 := by
      rcases hend with h | h
      · subst h; exfalso; apply e; rw [hts, List.append_nil, hKT.1]
      · exact h
    simp only [ambidexterlaw10_LexerStable.j2]
    rw [if_neg (by simpa using hn)]
    exact hc
theorem rd_u8 {l : List Int} (h : ∀ x ∈ l, (Lit.int .u8 x).wf = true) (i : Int) : 0 ≤ rd l i ∧ rd l i ≤ 255 := by
  unfold rd
  by_cases hi : i.toNat < l.length
  · have e : l.getD i.toNat 0 = l[i.toNat] := by simp [hi]
    rw [e]; exact u8_bounds (h _ (List.getElem_mem hi))
  · have e : l.getD i.toNat 0 = 0 := by simp [hi]
    rw [e]; omega
theorem gap_mem (k : Int) (h0 : 0 ≤ k) (h1 : k < 5) : rdOf ByteArray.empty gapsL k ∈ gapsL ∧ 0 < (rdOf ByteArray.empty gapsL k).size ∧ (rdOf ByteArray.empty gapsL k).size ≤ 9 := by
  rcases (show k = 0 ∨ k = 1 ∨ k = 2 ∨ k = 3 ∨ k = 4 from by omega) with rfl | rfl | rfl | rfl | rfl
  all_goals exact ⟨by simp [rdOf, gapsL], by decide, by decide⟩
theorem stable_loop (how : List Int) (hhow : ∀ x ∈ how, (Lit.int .u8 x).wf = true) {t : ByteArray} (ht : t.size ≤ 2000) (ts : List S31) {i j : Int} {vs : List S31} (h : Path t i vs j) : ∀ (us ms : List S31) (T : ByteArray) (k : Nat), 0 ≤ i → i ≤ (t.size : Int) → ts = us ++ vs → Good T ms → SameKT us ms → T.size ≤ 9000 → us.length + vs.length ≤ 5000 → 30000 + vs.length + vs.length + 2 ≤ k →
    ambidexterlaw10_LexerStable.l0 k how true ts gapsL T us.length = some true := by
  induction h with
  | nil i =>
    intro us ms T k h0 h1 hts hG hKT hT hl hk
    obtain ⟨k, rfl⟩ : ∃ m, k = m + 1 := ⟨k - 1, by omega⟩
    simp only [ambidexterlaw10_LexerStable.l0]
    rw [if_neg (by rw [hts]; simp)]
    exact stable_end how ts us ms [] T hts hG hKT (by omega) (by omega) (.inl rfl) k (by omega)
  | @cons i j vs hlt hok hp ih =>
    intro us ms T k h0 h1 hts hG hKT hT hl hk
    simp only [List.length_cons] at hl hk
    obtain ⟨k, rfl⟩ : ∃ m, k = m + 1 + 1 := ⟨k - 2, by omega⟩
    have hr := skipTo_range t i h0 h1
    obtain ⟨-, h5, h6⟩ := skip_gap t i h0 h1
    have hn := nextAt_range t _ (by omega) hr.2 hok
    obtain ⟨ha, -, htx⟩ := nextAt_at hok
    have hsz := size_extractI (s := t) (a := skipTo t i) (b := (nextAt t (skipTo t i)).2.2.2.2) (by omega) (by omega) hn.2
    rw [← htx] at hsz
    have hil : (us.length : Int) < ts.length := by rw [hts, List.length_append, List.length_cons]; omega
    have hrd : rd_T31 ts (us.length : Int) = tokAt t (skipTo t i) := by rw [hts]; simp [rd_T31]
    have hf1 : (tokAt t (skipTo t i)).f1 = (nextAt t (skipTo t i)).2.1 := rfl
    simp only [ambidexterlaw10_LexerStable.l0]
    rw [if_pos hil]
    by_cases hT6 : (T.size : Int) < 6000
    · -- one more token, and its gap
      have step : ∀ q : Int, 0 ≤ q → q < 5 → ambidexterlaw10_LexerStable.l0 k how true ts gapsL ((T ++ (nextAt t (skipTo t i)).2.1) ++ rdOf ByteArray.empty gapsL q) (wrap64 ((us.length : Int) + 1)) = some true := by
        intro q hq0 hq1
        obtain ⟨hgm, hg0, hg9⟩ := gap_mem q hq0 hq1
        have hG2 := good_step hG (by omega) hlt h5 h6 hok hgm hg0
        have hKT2 := sameKT_snoc hKT (tokAt t (skipTo t i)) ⟨(nextAt t (skipTo t i)).1, (nextAt t (skipTo t i)).2.1, T.size⟩ rfl rfl
        have hih := ih (us ++ [tokAt t (skipTo t i)]) _ _ k (by omega) hn.2 (by rw [hts]; simp) hG2 hKT2 (by rw [ByteArray.size_append, ByteArray.size_append]; omega) (by rw [List.length_append]; simp only [List.length_cons, List.length_nil]; omega) (by omega)
        rw [wrap_small (by omega) (by omega)]
        simpa using hih
      have hu := rd_u8 hhow us.length
      have hb1 : T.size + (nextAt t (skipTo t i)).2.1.size ≤ 9223372036854775807 := by omega
      have hb2 : ∀ q : Int, 0 ≤ q → q < 5 → (T ++ (nextAt t (skipTo t i)).2.1).size + (rdOf ByteArray.empty gapsL q).size ≤ 9223372036854775807 := by
        intro q hq0 hq1
        have := (gap_mem q hq0 hq1).2.2
        rw [ByteArray.size_append]; omega
      have hlen5 : (gapsL.length : Int) = 5 := rfl
      rw [show decide ((T.size : Int) < 6000) = true from decide_eq_true hT6]
      simp only [ambidexterlaw10_LexerStable.j1, if_true]
      rw [hrd, hf1]
      split
      · have hw : wrap64 (rd how (us.length : Int)) = rd how us.length := wrap_small (by omega) (by omega)
        have hm : Int.tmod (rd how (us.length : Int)) 5 = rd how us.length % 5 := Int.tmod_eq_emod_of_nonneg hu.1
        rw [hw, hm]
        have hq0 : 0 ≤ rd how (us.length : Int) % 5 := Int.emod_nonneg _ (by decide)
        have hq1 : rd how (us.length : Int) % 5 < 5 := Int.emod_lt_of_pos _ (by decide)
        rw [if_pos hq0, hlen5, if_pos hq1, if_pos (hb2 _ hq0 hq1)]
        exact step _ hq0 hq1
      · rw [if_pos (by omega), hlen5, if_pos (by decide), if_pos (hb2 0 (by decide) (by decide))]
        exact step 0 (by decide) (by decide)
    · rw [show decide ((T.size : Int) < 6000) = false from decide_eq_false hT6]
      exact stable_end how ts us ms _ T hts hG hKT (by omega) (by omega) (.inr hT6) (k + 1) (by omega)
theorem st_path_len {s : ByteArray} {i j : Int} {ts : List S31} (h : Path s i ts j) : 0 ≤ i → i ≤ (s.size : Int) → (ts.length : Int) ≤ j - i := by
  induction h with
  | nil i => intro _ _; simp
  | cons hlt hok hp ih =>
    intro h0 h1
    have hr := skipTo_range s _ h0 h1
    have hn := nextAt_range s _ (by omega) hr.2 hok
    have := ih (by omega) hn.2
    simp only [List.length_cons]
    omega
theorem LexerStable : ambidexterlaw10_LexerStable.Pure := by
  intro a0 how h0 _ _ hhow
  obtain ⟨t, ht, hs, _⟩ := few_f a0
  obtain ⟨ts, j, hp, hj0, hj1, hcase⟩ := whole t (by omega)
  have hl := st_path_len hp (by omega) (by omega)
  refine ⟨40000, ?_⟩
  unfold ambidexterlaw10_LexerStable.f
  rw [ht]
  simp only [ambidexterlaw10_head.f, lexer_Lex.f, Option.bind_some]
  rcases hcase with ⟨he, hend⟩ | ⟨he, hlt, hno⟩
  · rw [he]
    simp only [if_true]
    exact stable_loop how hhow hs ts hp [] [] ⟨#[]⟩ 40000 (by omega) (by omega) rfl good_nil ⟨rfl, fun i a b => by simp at b; omega⟩ (by decide) (by simp only [List.length_nil]; omega) (by omega)
  · rw [he]
    simp
end Go.Proofs.Ytiikijdkhmbdbaa.Pure
