/- Part G of the proof of ParserMatchesReference: the contracts of the functions that the law reaches, and what their plain functions compute. No condition. -/
import Derived.Test.YtonhcfecfifghaaGreatDoorParserMatchesReferencePA
import Derived.Test.YtonhcfecfifghaaGreatDoorParserMatchesReferencePB
import Derived.Test.YtonhcfecfifghaaGreatDoorParserMatchesReferencePC
import Derived.Test.YtonhcfecfifghaaGreatDoorParserMatchesReferencePD
import Derived.Test.YtonhcfecfifghaaGreatDoorParserMatchesReferencePE
import Derived.Test.YtonhcfecfifghaaGreatDoorParserMatchesReferencePF
import Derived.Deep.RegionHeld3
set_option maxHeartbeats 40000000
set_option maxRecDepth 100000
namespace Go.Proofs.YtonhcfecfifghaaGreatDoor.PPx
open Go.RowKit Go.Proofs.YtonhcfecfifghaaGreatDoorW.PrintWords Go.Proofs.YtonhcfecfifghaaGreatDoorW.PrintLast Go.Proofs.YtonhcfecfifghaaGreatDoorW.PrintMore
set_option linter.unusedVariables false
set_option linter.unusedSimpArgs false
theorem scan_spec (p : Int → Bool) (n : Int) : ∀ (k : Nat) (i : Int), (n - i).toNat ≤ k → (∀ x, i ≤ x → x < scan p n k i → p x = true) ∧ (scan p n k i < n → p (scan p n k i) = false) := by
 intro k
 induction k with
 | zero => intro i hk; simp only [scan]; exact ⟨fun x _ _ => by omega, fun _ => by omega⟩
 | succ k ih =>
  intro i hk
  simp only [scan]
  by_cases h : i < n
  · rw [if_pos h]
    by_cases hp : p i = true
    · rw [if_pos hp]
      obtain ⟨h1, h2⟩ := ih (i + 1) (by omega)
      refine ⟨fun x hx hx2 => ?_, h2⟩
      by_cases e : x = i
      · rw [e]; exact hp
      · exact h1 x (by omega) hx2
    · rw [if_neg hp]
      exact ⟨fun x _ _ => by omega, fun _ => by simpa using hp⟩
  · rw [if_neg h]
    exact ⟨fun x _ _ => by omega, fun _ => by omega⟩
theorem scanTo_spec (p : Int → Bool) (n i : Int) : (∀ x, i ≤ x → x < scanTo p n i → p x = true) ∧ (scanTo p n i < n → p (scanTo p n i) = false) := scan_spec p n _ i (Nat.le_refl _)
theorem scanTo_eq {p : Int → Bool} {n i j : Int} (h1 : i ≤ j) (h2 : j ≤ n) (hp : ∀ x, i ≤ x → x < j → p x = true) (he : j < n → p j = false) : scanTo p n i = j := scan_eq p n _ i j (Nat.le_refl _) h1 h2 hp he
inductive Gap (s : ByteArray) : Int → Int → Prop where
 | here (i : Int) : Gap s i i
 | blank {i j : Int} : at_ s i = 5 → Gap s (i + 1) j → Gap s i j
 | note {i m j : Int} : at_ s i = 6 → m = scanTo (lineAt s) s.size i → Gap s m j → Gap s i j
theorem Gap.skip {s : ByteArray} {i j : Int} (h : Gap s i j) (h0 : 0 ≤ i) : skipTo s j = skipTo s i := by
 induction h with
 | here i => rfl
 | blank h5 _ ih => rw [ih (by omega), skipTo_blank h5]
 | @note i m j h6 hm _ ih =>
  have hlt := (at_some (by decide) h6).1
  have := scanTo_range (lineAt s) s.size i (by omega)
  rw [ih (by omega), hm, skipTo_note h0 h6]
theorem Gap.trans {s : ByteArray} {i j k : Int} (h : Gap s i j) (g : Gap s j k) : Gap s i k := by
 induction h with
 | here i => exact g
 | blank h5 _ ih => exact .blank h5 (ih g)
 | note h6 hm _ ih => exact .note h6 hm (ih g)
theorem gap_ex (s : ByteArray) : ∀ (d : Nat) (i : Int), 0 ≤ i → i ≤ (s.size : Int) → ((s.size : Int) - i).toNat ≤ d → ∃ j, Gap s i j ∧ at_ s j ≠ 5 ∧ at_ s j ≠ 6 := by
 intro d
 induction d with
 | zero =>
  intro i h0 h1 hd
  have hz : at_ s i = 0 := by unfold at_; rw [if_pos (by omega)]
  exact ⟨i, .here i, by omega, by omega⟩
 | succ d ih =>
  intro i h0 h1 hd
  by_cases h5 : at_ s i = 5
  · have hlt := (at_some (by decide) h5).1
    obtain ⟨j, hg, hj⟩ := ih (i + 1) (by omega) (by omega) (by omega)
    exact ⟨j, .blank h5 hg, hj⟩
  · by_cases h6 : at_ s i = 6
    · have hlt := (at_some (by decide) h6).1
      have hst := scanTo_step hlt (line_of_six h6)
      have hr := scanTo_range (lineAt s) s.size i h1
      obtain ⟨j, hg, hj⟩ := ih (scanTo (lineAt s) s.size i) (by omega) (by omega) (by omega)
      exact ⟨j, .note h6 rfl hg, hj⟩
    · exact ⟨i, .here i, h5, h6⟩
theorem skip_of_gap {s : ByteArray} {i j : Int} (h0 : 0 ≤ i) (h : Gap s i j) (h5 : at_ s j ≠ 5) (h6 : at_ s j ≠ 6) : skipTo s i = j := by
 rw [← h.skip h0, skipTo_other h5 h6]
theorem skip_gap (s : ByteArray) (i : Int) (h0 : 0 ≤ i) (h1 : i ≤ (s.size : Int)) : Gap s i (skipTo s i) ∧ at_ s (skipTo s i) ≠ 5 ∧ at_ s (skipTo s i) ≠ 6 := by
 obtain ⟨j, hg, h5, h6⟩ := gap_ex s _ i h0 h1 (Nat.le_refl _)
 rw [skip_of_gap h0 hg h5 h6]
 exact ⟨hg, h5, h6⟩
theorem at_end {s : ByteArray} {i : Int} (h : (s.size : Int) ≤ i) : at_ s i = 0 := by unfold at_; rw [if_pos h]
theorem skip_end {s : ByteArray} {i : Int} (h0 : 0 ≤ i) (h : Gap s i s.size) : skipTo s i = s.size := skip_of_gap h0 h (by rw [at_end (Int.le_refl _)]; decide) (by rw [at_end (Int.le_refl _)]; decide)
inductive Lx (s : ByteArray) : Int → List S67 → Option Int → Prop where
 | done {i : Int} : ¬ i < (s.size : Int) → Lx s i [] none
 | err {i : Int} : i < (s.size : Int) → (nextAt s i).2.2.2.1 = false → Lx s i [] (some i)
 | tok {i : Int} {ts : List S67} {e : Option Int} : i < (s.size : Int) → (nextAt s i).2.2.2.1 = true → Lx s (skipTo s (nextAt s i).2.2.2.2) ts e → Lx s i (⟨(nextAt s i).1, (nextAt s i).2.1, (nextAt s i).2.2.1⟩ :: ts) e
theorem lx_ex (s : ByteArray) : ∀ (d : Nat) (i : Int), 0 ≤ i → i ≤ (s.size : Int) → ((s.size : Int) - i).toNat ≤ d → ∃ ts e, Lx s i ts e := by
 intro d
 induction d with
 | zero => intro i h0 h1 hd; exact ⟨[], none, .done (by omega)⟩
 | succ d ih =>
  intro i h0 h1 hd
  by_cases hlt : i < (s.size : Int)
  · cases hok : (nextAt s i).2.2.2.1 with
    | false => exact ⟨[], some i, .err hlt hok⟩
    | true =>
     have hr := nextAt_range s i h0 h1 hok
     have hr2 := skipTo_range s (nextAt s i).2.2.2.2 (by omega) hr.2
     obtain ⟨ts, e, h⟩ := ih (skipTo s (nextAt s i).2.2.2.2) (by omega) (by omega) (by omega)
     exact ⟨_, e, .tok hlt hok h⟩
  · exact ⟨[], none, .done hlt⟩
def outOf (acc : List S67) : Option Int → List S67 × Int × Int
 | none => (acc, 0, 0)
 | some i => ([], 100, i)
theorem lexGo_of {s : ByteArray} {i : Int} {ts : List S67} {e : Option Int} (h : Lx s i ts e) : ∀ (k : Nat) (acc : List S67), 0 ≤ i → i ≤ (s.size : Int) → ((s.size : Int) - i).toNat < k → lexGo s k i acc = outOf (acc ++ ts) e := by
 induction h with
 | done hge =>
  intro k acc h0 h1 hk
  obtain ⟨k, rfl⟩ : ∃ m, k = m + 1 := ⟨k - 1, by omega⟩
  simp only [lexGo]; rw [if_neg hge]; simp [outOf]
 | err hlt hno =>
  intro k acc h0 h1 hk
  obtain ⟨k, rfl⟩ : ∃ m, k = m + 1 := ⟨k - 1, by omega⟩
  simp only [lexGo]; rw [if_pos hlt, hno]; simp [outOf]
 | @tok i ts e hlt hok hl ih =>
  intro k acc h0 h1 hk
  obtain ⟨k, rfl⟩ : ∃ m, k = m + 1 := ⟨k - 1, by omega⟩
  have hr := nextAt_range s i h0 h1 hok
  have hr2 := skipTo_range s (nextAt s i).2.2.2.2 (by omega) hr.2
  simp only [lexGo]; rw [if_pos hlt, if_pos hok, ih k _ (by omega) (by omega) (by omega)]
  simp
theorem lexB_of {s : ByteArray} (hs : s.size ≤ 20000) {ts : List S67} {e : Option Int} (h : Lx s (skipTo s 0) ts e) : lexB s = outOf ts e := by
 have hr := skipTo_range s 0 (by omega) (by omega)
 unfold lexB
 rw [if_neg (by omega), lexGo_of h (s.size + 1) [] (by omega) hr.2 (by omega)]
 rfl
theorem lx_whole (s : ByteArray) : ∃ ts e, Lx s (skipTo s 0) ts e := by
 have hr := skipTo_range s 0 (by omega) (by omega)
 exact lx_ex s _ _ (by omega) hr.2 (Nat.le_refl _)
theorem lexGo_len (s : ByteArray) : ∀ (k : Nat) (i : Int) (acc : List S67), (lexGo s k i acc).1.length ≤ acc.length + k := by
 intro k
 induction k with
 | zero => intro i acc; simp [lexGo]
 | succ k ih =>
  intro i acc
  simp only [lexGo]
  split
  · split
    · have := ih (skipTo s (nextAt s i).2.2.2.2) (acc ++ [⟨(nextAt s i).1, (nextAt s i).2.1, (nextAt s i).2.2.1⟩])
      simp only [List.length_append, List.length_cons, List.length_nil] at this
      omega
    · simp
  · simp
theorem lexB_len (s : ByteArray) : (lexB s).1.length ≤ 20001 := by
 unfold lexB
 split
 · simp
 · have := lexGo_len s (s.size + 1) (skipTo s 0) []
   simp only [List.length_nil] at this
   omega
section
theorem ext_bt {s u : ByteArray} (hs : s.size = u.size) (h : ∀ x : Int, 0 ≤ x → x < (s.size : Int) → bt s x = bt u x) : s = u := by
 apply ByteArray.ext_getElem hs
 intro i hi hi2
 have := h i (by omega) (by omega)
 rw [← bt_at s i (by omega), ← bt_at u i (by omega)] at this
 have h2 : (s[i]'hi).toNat = (u[i]'hi2).toNat := by
  have e : ((i : Nat) : Int).toNat = i := rfl
  simp only [Int.toNat_natCast] at this
  exact_mod_cast this
 exact UInt8.toNat_inj.1 h2
theorem bt_extract {s : ByteArray} {a b x : Int} (h0 : 0 ≤ a) (hx : 0 ≤ x) (h1 : a + x < b) (h2 : b ≤ (s.size : Int)) : bt (s.extract a.toNat b.toNat) x = bt s (a + x) := by
 have hl : x.toNat < (s.extract a.toNat b.toNat).size := by rw [ByteArray.size_extract]; omega
 rw [← bt_at _ x hl, ← bt_at s (a + x) (by omega), ByteArray.getElem_extract]
 have e : a.toNat + x.toNat = (a + x).toNat := by omega
 simp only [e]
theorem size_extractI {s : ByteArray} {a b : Int} (h0 : 0 ≤ a) (h1 : a ≤ b) (h2 : b ≤ (s.size : Int)) : ((s.extract a.toNat b.toNat).size : Int) = b - a := by
 rw [ByteArray.size_extract]; omega
theorem bt_left {s u : ByteArray} {x : Int} (h0 : 0 ≤ x) (h : x < (s.size : Int)) : bt (s ++ u) x = bt s x := by
 have hl : x.toNat < (s ++ u).size := by rw [ByteArray.size_append]; omega
 rw [← bt_at _ x hl, ← bt_at s x (by omega), ByteArray.getElem_append_left (by omega)]
theorem bt_right {s u : ByteArray} {x : Int} (h0 : (s.size : Int) ≤ x) (h : x < (s.size : Int) + u.size) : bt (s ++ u) x = bt u (x - s.size) := by
 have hl : x.toNat < (s ++ u).size := by rw [ByteArray.size_append]; omega
 rw [← bt_at _ x hl, ← bt_at u (x - s.size) (by omega), ByteArray.getElem_append_right (by omega)]
 have e : x.toNat - s.size = (x - s.size).toNat := by omega
 simp only [e]
structure Move (s u : ByteArray) (d lo hi : Int) : Prop where
 h0 : 0 ≤ lo
 hs : hi ≤ (s.size : Int)
 d0 : 0 ≤ lo + d
 hu : hi + d ≤ (u.size : Int)
 eq : ∀ x, lo ≤ x → x < hi → bt u (x + d) = bt s x
section
variable {s u : ByteArray} {d lo hi : Int}
theorem Move.at (M : Move s u d lo hi) {x : Int} (h1 : lo ≤ x) (h2 : x < hi) : at_ u (x + d) = at_ s x := by
 have := M.hs; have := M.hu
 rw [at_in (by omega), at_in (by omega), M.eq x h1 h2]
theorem Move.word (M : Move s u d lo hi) {x : Int} (h1 : lo ≤ x) (h2 : x < hi) : wordAt u (x + d) = wordAt s x := by
 unfold wordAt; rw [M.at h1 h2]
theorem Move.digit (M : Move s u d lo hi) {x : Int} (h1 : lo ≤ x) (h2 : x < hi) : digitAt u (x + d) = digitAt s x := by
 unfold digitAt; rw [M.at h1 h2]
theorem Move.scan (M : Move s u d lo hi) {p q : Int → Bool} (hpq : ∀ x, lo ≤ x → x < hi → q (x + d) = p x) {i : Int} (h1 : lo ≤ i) (h2 : i ≤ hi) (hj : scanTo p s.size i ≤ hi)
 (hq : scanTo p s.size i = hi → hi + d < (u.size : Int) → q (hi + d) = false) : scanTo q u.size (i + d) = scanTo p s.size i + d := by
 have hr := scanTo_range p s.size i (by have := M.hs; omega)
 obtain ⟨a, b⟩ := scanTo_spec p s.size i
 generalize scanTo p s.size i = j at *
 have := M.hs; have := M.hu
 refine scanTo_eq (by omega) (by omega) (fun x hx hx2 => ?_) (fun hlt => ?_)
 · have := hpq (x - d) (by omega) (by omega)
   rw [show x - d + d = x from by omega] at this
   rw [this]; exact a _ (by omega) (by omega)
 · by_cases e : j = hi
   · subst e; exact hq rfl hlt
   · rw [hpq j (by omega) (by omega)]; exact b (by omega)
theorem Move.text (M : Move s u d lo hi) {i j : Int} (h1 : lo ≤ i) (h2 : i ≤ j) (h3 : j ≤ hi) : u.extract (i + d).toNat (j + d).toNat = s.extract i.toNat j.toNat := by
 have := M.hs; have := M.hu; have := M.h0; have := M.d0
 have e1 := size_extractI (s := u) (a := i + d) (b := j + d) (by omega) (by omega) (by omega)
 have e2 := size_extractI (s := s) (a := i) (b := j) (by omega) (by omega) (by omega)
 refine ext_bt (by omega) (fun x hx hx2 => ?_)
 rw [bt_extract (by omega) hx (by omega) (by omega), bt_extract (by omega) hx (by omega) (by omega), show i + d + x = (i + x) + d from by omega]
 exact M.eq _ (by omega) (by omega)
def Soft (u : ByteArray) (p : Int) : Prop := wordAt u p = false ∧ digitAt u p = false
theorem soft_end {u : ByteArray} {p : Int} (h : (u.size : Int) ≤ p) : Soft u p := by simp [Soft, wordAt, digitAt, at_end h]
theorem firstAt_move (sg : Bool) (i d : Int) : firstAt sg (i + d) = firstAt sg i + d := by unfold firstAt; split <;> omega
theorem Move.next (M : Move s u d lo hi) {i : Int} (h1 : lo ≤ i) (h2 : i < hi) (hE : (nextAt s i).2.2.2.2 ≤ hi) (hsoft : (nextAt s i).2.2.2.2 = hi → Soft u (hi + d)) (hw : wordAt s hi = false ∨ (nextAt s i).2.2.2.1 = true ∨ (nextAt s i).2.2.2.2 < hi) :
 nextAt u (i + d) = ((nextAt s i).1, (nextAt s i).2.1, (if (nextAt s i).2.2.2.1 = true then (nextAt s i).2.2.1 + d else 0), (nextAt s i).2.2.2.1, (nextAt s i).2.2.2.2 + d) := by
 have hs := M.hs
 have h0 := M.h0
 unfold nextAt at hE hsoft hw ⊢
 rw [M.at h1 h2]
 by_cases c1 : at_ s i = 1
 · simp only [if_pos c1, if_true] at hE hsoft hw ⊢
   have hr := scanTo_range (wordAt s) s.size i (by omega)
   have hsc := M.scan (p := wordAt s) (q := wordAt u) (fun x a b => M.word a b) h1 (by omega) hE (fun e _ => (hsoft e).1)
   rw [hsc, M.text h1 hr.1 hE]
 · simp only [if_neg c1] at hE hsoft hw ⊢
   by_cases c4 : at_ s i = 4
   · simp only [if_pos c4, if_true] at hE hsoft hw ⊢
     rw [show i + d + 1 = i + 1 + d from by omega, M.text h1 (by omega) (by omega)]
   · simp only [if_neg c4] at hE hsoft hw ⊢
     by_cases c7 : at_ s i = 7 ∨ at_ s i = 2
     · simp only [if_pos c7] at hE hsoft hw ⊢
       generalize (at_ s i == 7) = sg at *
       rw [firstAt_move]
       have hf : i ≤ firstAt sg i ∧ firstAt sg i ≤ i + 1 := by unfold firstAt; split <;> omega
       generalize firstAt sg i = f at *
       have hr := scanTo_range (digitAt s) s.size f (by omega)
       have hj : scanTo (digitAt s) s.size f ≤ hi := by
        revert hE; split <;> (intro hE; exact hE)
       have hso : scanTo (digitAt s) s.size f = hi → Soft u (hi + d) := by
        revert hsoft; split <;> (intro hsoft; exact hsoft)
       have hsc := M.scan (p := digitAt s) (q := digitAt u) (fun x a b => M.digit a b) (by omega) (by omega) hj (fun e _ => (hso e).2)
       rw [hsc, M.text (by omega) hr.1 hj, M.text h1 (by omega) hj]
       have hww : wordAt u (scanTo (digitAt s) s.size f + d) = wordAt s (scanTo (digitAt s) s.size f) := by
        by_cases e : scanTo (digitAt s) s.size f = hi
        · rw [e, (hso e).1]
          rcases hw with hw | hw | hw
          · exact hw.symm
          · revert hw
            split
            · rename_i hc
              intro _
              simp only [Bool.and_eq_true, Bool.not_eq_true'] at hc
              rw [← e]; exact hc.2.symm
            · intro hw; exact absurd hw (by simp)
          · exfalso
            revert hw; split <;> (intro hw; simp only at hw; omega)
        · exact M.word (by omega) (by omega)
       rw [hww]
       split <;> simp
     · simp only [if_neg c7, Bool.false_eq_true, if_false] at hE hsoft hw ⊢
end
def tokAt (s : ByteArray) (i : Int) : S67 := ⟨(nextAt s i).1, (nextAt s i).2.1, (nextAt s i).2.2.1⟩
inductive Path (s : ByteArray) : Int → List S67 → Int → Prop where
 | nil (i : Int) : Path s i [] i
 | cons {i j : Int} {ts : List S67} : skipTo s i < (s.size : Int) → (nextAt s (skipTo s i)).2.2.2.1 = true → Path s (nextAt s (skipTo s i)).2.2.2.2 ts j → Path s i (tokAt s (skipTo s i) :: ts) j
theorem Path.le {s : ByteArray} {i j : Int} {ts : List S67} (h : Path s i ts j) : 0 ≤ i → i ≤ (s.size : Int) → i ≤ j ∧ j ≤ (s.size : Int) := by
 induction h with
 | nil i => intro _ h1; omega
 | cons hlt hok hp ih =>
  intro h0 h1
  have hr := skipTo_range s _ h0 h1
  have hn := nextAt_range s _ (by omega) hr.2 hok
  have := ih (by omega) hn.2
  omega
theorem Path.append {s : ByteArray} {i j k : Int} {ts us : List S67} (h : Path s i ts j) (g : Path s j us k) : Path s i (ts ++ us) k := by
 induction h with
 | nil i => exact g
 | cons hlt hok hp ih => exact .cons hlt hok (ih g)
theorem path_of_lx {s : ByteArray} {p : Int} {ts : List S67} {e : Option Int} (h : Lx s p ts e) : ∀ i, p = skipTo s i → ∃ j, Path s i ts j ∧ (e = none → ¬ skipTo s j < (s.size : Int)) ∧ (∀ x, e = some x → x = skipTo s j ∧ x < (s.size : Int) ∧ (nextAt s x).2.2.2.1 = false) := by
 induction h with
 | done hge => intro i hi; subst hi; exact ⟨i, .nil i, fun _ => hge, fun x hx => by cases hx⟩
 | err hlt hno => intro i hi; subst hi; exact ⟨i, .nil i, (fun h => by cases h), (fun x hx => by obtain rfl := Option.some.inj hx; exact ⟨rfl, hlt, hno⟩)⟩
 | tok hlt hok hl ih =>
  intro i hi
  subst hi
  obtain ⟨j, hp, a, b⟩ := ih _ rfl
  exact ⟨j, .cons hlt hok hp, a, b⟩
theorem lx_of_path {s : ByteArray} {i j : Int} {ts : List S67} (h : Path s i ts j) : ∀ {us : List S67} {e : Option Int}, Lx s (skipTo s j) us e → Lx s (skipTo s i) (ts ++ us) e := by
 induction h with
 | nil i => intro us e h; exact h
 | cons hlt hok hp ih => intro us e h; exact .tok hlt hok (ih h)
theorem whole (s : ByteArray) (hs : s.size ≤ 20000) : ∃ ts j, Path s 0 ts j ∧ 0 ≤ j ∧ j ≤ (s.size : Int) ∧ ((lexB s = (ts, 0, 0) ∧ skipTo s j = s.size) ∨ (lexB s = ([], 100, skipTo s j) ∧ skipTo s j < (s.size : Int) ∧ (nextAt s (skipTo s j)).2.2.2.1 = false)) := by
 obtain ⟨ts, e, h⟩ := lx_whole s
 obtain ⟨j, hp, hn, he⟩ := path_of_lx h 0 rfl
 have hle := hp.le (by omega) (by omega)
 have hr := skipTo_range s j (by omega) hle.2
 refine ⟨ts, j, hp, by omega, hle.2, ?_⟩
 cases e with
 | none => exact .inl ⟨lexB_of hs h, by have := hn rfl; omega⟩
 | some x =>
  obtain ⟨hx, hlt, hno⟩ := he x rfl
  subst hx
  exact .inr ⟨lexB_of hs h, hlt, hno⟩
theorem lexB_ok {s : ByteArray} (hs : s.size ≤ 20000) {ts : List S67} {j : Int} (h : Path s 0 ts j) (he : ¬ skipTo s j < (s.size : Int)) : lexB s = (ts, 0, 0) := by
 have := lexB_of hs (lx_of_path h (.done he))
 simpa [outOf] using this
theorem nextAt_at {s : ByteArray} {i : Int} (hok : (nextAt s i).2.2.2.1 = true) : (nextAt s i).2.2.1 = i ∧ (1 ≤ (nextAt s i).1 ∧ (nextAt s i).1 ≤ 3) ∧ (nextAt s i).2.1 = s.extract i.toNat (nextAt s i).2.2.2.2.toNat := by
 revert hok
 unfold nextAt
 by_cases c1 : at_ s i = 1
 · simp only [if_pos c1]; simp
 · simp only [if_neg c1]
   by_cases c4 : at_ s i = 4
   · simp only [if_pos c4]; simp
   · simp only [if_neg c4]
     by_cases c7 : at_ s i = 7 ∨ at_ s i = 2
     · simp only [if_pos c7]
       split
       · simp
       · intro h; exact absurd h (by simp)
     · simp only [if_neg c7]; intro h; exact absurd h (by simp)
def moved (d : Int) (ts : List S67) : List S67 := ts.map fun t => ⟨t.f0, t.f1, t.f2 + d⟩
theorem moved_zero (ts : List S67) : moved 0 ts = ts := by
 unfold moved
 induction ts with
 | nil => rfl
 | cons t ts ih => rw [List.map_cons, ih]; simp
end
def Holds (s : ByteArray) (i : Int) (u : ByteArray) : Prop := 0 ≤ i ∧ i + u.size ≤ (s.size : Int) ∧ ∀ x : Int, 0 ≤ x → x < (u.size : Int) → bt s (i + x) = bt u x
theorem Holds.move {s u : ByteArray} {i : Int} (h : Holds s i u) : Move u s i 0 u.size := ⟨Int.le_refl _, Int.le_refl _, by have := h.1; omega, by have := h.2.1; omega, fun x h0 h1 => by rw [Int.add_comm]; exact h.2.2 x h0 h1⟩
theorem Holds.left {s u v : ByteArray} {i : Int} (h : Holds s i (u ++ v)) : Holds s i u := by
 obtain ⟨h0, h1, h2⟩ := h
 rw [ByteArray.size_append] at h1 h2
 refine ⟨h0, by omega, fun x hx hy => ?_⟩
 rw [h2 x hx (by omega), bt_left hx hy]
theorem Holds.right {s u v : ByteArray} {i : Int} (h : Holds s i (u ++ v)) : Holds s (i + u.size) v := by
 obtain ⟨h0, h1, h2⟩ := h
 rw [ByteArray.size_append] at h1 h2
 refine ⟨by omega, by omega, fun x hx hy => ?_⟩
 have := h2 (u.size + x) (by omega) (by omega)
 rw [show i + (u.size : Int) + x = i + (u.size + x) by omega, this, bt_right (by omega) (by omega)]
 congr 1; omega
theorem Holds.self (u : ByteArray) : Holds u 0 u := ⟨Int.le_refl _, by omega, fun x _ _ => by rw [Int.zero_add]⟩
theorem Holds.at {s u : ByteArray} {i x : Int} (h : Holds s i u) (h0 : 0 ≤ x) (h1 : x < (u.size : Int)) : at_ s (i + x) = at_ u x := by rw [Int.add_comm]; exact h.move.at h0 h1
def Runs (s : ByteArray) (i : Int) (ts : List S67) (j : Int) : Prop := ∃ j', Path s i ts j' ∧ Gap s j' j
theorem path_of_gap {s : ByteArray} {i' i j : Int} {ts : List S67} (hg : Gap s i' i) (h0 : 0 ≤ i') (h : Path s i ts j) (hne : ts ≠ []) : Path s i' ts j := by
 cases h with
 | nil => exact absurd rfl hne
 | cons hlt hok hp =>
  have e := hg.skip h0
  rw [e] at hlt hok hp ⊢
  exact .cons hlt hok hp
theorem Runs.append {s : ByteArray} {i j k : Int} {ts us : List S67} (h0 : 0 ≤ i) (h1 : i ≤ (s.size : Int)) (h : Runs s i ts j) (g : Runs s j us k) : Runs s i (ts ++ us) k := by
 obtain ⟨j', hp, hg⟩ := h
 obtain ⟨k', gp, gg⟩ := g
 have hj := hp.le h0 h1
 cases us with
 | nil =>
  rw [List.append_nil]
  cases gp
  exact ⟨j', hp, hg.trans gg⟩
 | cons u us => exact ⟨k', hp.append (path_of_gap hg (by omega) gp (by simp)), gg⟩
theorem moved_append (d : Int) (a b : List S67) : moved d (a ++ b) = moved d a ++ moved d b := by simp [moved]
theorem moved_moved (d e : Int) (a : List S67) : moved d (moved e a) = moved (e + d) a := by simp [moved, Int.add_assoc]
def LexT (u : ByteArray) (hard : Bool) (ts : List S67) : Prop := ∀ (s : ByteArray) (i : Int), Holds s i u → (hard = true → Soft s (i + u.size)) → Runs s i (moved i ts) (i + u.size)
def SoftHd (v : ByteArray) : Prop := 0 < v.size ∧ Soft v 0
theorem soft_at {s u : ByteArray} {p q : Int} (h : at_ s p = at_ u q) (g : Soft u q) : Soft s p := by
 unfold Soft wordAt digitAt at *
 rw [h]; exact g
theorem LexT.append {u v : ByteArray} {a b : Bool} {ts us : List S67} (h : LexT u a ts) (g : LexT v b us) (hs : a = true → SoftHd v) : LexT (u ++ v) b (ts ++ moved u.size us) := by
 intro s i hh hb
 have hl := hh.left
 have hr := hh.right
 have h1 := h s i hl (fun e => by
  obtain ⟨hp, hsf⟩ := hs e
  refine soft_at ?_ hsf
  have := hr.at (x := 0) (Int.le_refl _) (by omega)
  rw [Int.add_zero] at this
  exact this)
 have h2 := g s (i + u.size) hr (fun e => by
  have := hb e
  rw [ByteArray.size_append] at this
  rw [show i + (u.size : Int) + v.size = i + ((u.size + v.size : Nat) : Int) by omega]
  exact this)
 rw [moved_append, moved_moved, ByteArray.size_append]
 have hz := hl.2.1
 have := Runs.append hl.1 (by omega) h1 h2
 rw [show i + ((u.size + v.size : Nat) : Int) = i + (u.size : Int) + v.size by omega, show (u.size : Int) + i = i + u.size by omega]
 exact this
def Blank (g : ByteArray) : Prop := ∀ x : Int, 0 ≤ x → x < (g.size : Int) → at_ g x = 5
theorem gap_blanks {s : ByteArray} : ∀ (n : Nat) (i : Int), (∀ x : Int, 0 ≤ x → x < (n : Int) → at_ s (i + x) = 5) → Gap s i (i + n)
 | 0, i, _ => by simpa using Gap.here i
 | n + 1, i, h => by
  have h5 : at_ s i = 5 := by have := h 0 (Int.le_refl _) (by omega); rwa [Int.add_zero] at this
  have := gap_blanks n (i + 1) (fun x h0 h1 => by
   have := h (x + 1) (by omega) (by omega)
   rwa [show i + (x + 1) = i + 1 + x by omega] at this)
  rw [show i + ((n + 1 : Nat) : Int) = i + 1 + n by omega]
  exact .blank h5 this
theorem LexT.blank {g : ByteArray} (h : Blank g) : LexT g false [] := by
 intro s i hh _
 refine ⟨i, .nil i, gap_blanks _ _ (fun x h0 h1 => ?_)⟩
 rw [hh.at h0 h1]
 exact h x h0 h1
def TokText (k : Int) (w : ByteArray) : Prop := 0 < w.size ∧ at_ w 0 ≠ 5 ∧ at_ w 0 ≠ 6 ∧ nextAt w 0 = (k, w, 0, true, (w.size : Int))
theorem LexT.tok {k : Int} {w : ByteArray} (h : TokText k w) : LexT w true [⟨k, w, 0⟩] := by
 obtain ⟨h0, h5, h6, hn⟩ := h
 intro s i hh hs
 have hat : at_ s i = at_ w 0 := by have := hh.at (x := 0) (Int.le_refl _) (by omega); rwa [Int.add_zero] at this
 have hsk : skipTo s i = i := skipTo_other (by rw [hat]; exact h5) (by rw [hat]; exact h6)
 have hnx := hh.move.next (i := 0) (Int.le_refl _) (by omega) (by rw [hn]; exact Int.le_refl _) (fun _ => by rw [Int.add_comm]; exact hs rfl) (.inr (.inl (by rw [hn])))
 rw [hn, Int.zero_add] at hnx
 simp only [if_true] at hnx
 have hlt := hh.2.1
 have hp : Path s i [tokAt s (skipTo s i)] (nextAt s (skipTo s i)).2.2.2.2 := .cons (by rw [hsk]; omega) (by rw [hsk, hnx]) (.nil _)
 rw [hsk] at hp
 have e : tokAt s i = ⟨k, w, i⟩ := by unfold tokAt; rw [hnx]
 rw [e, hnx] at hp
 refine ⟨(w.size : Int) + i, by simpa [moved] using hp, ?_⟩
 rw [Int.add_comm]
 exact .here _
theorem LexT.sign {w : ByteArray} (h1 : w.size = 1) (h4 : at_ w 0 = 4) : LexT w false [⟨3, w, 0⟩] := by
 intro s i hh _
 have hat : at_ s i = 4 := by have := hh.at (x := 0) (Int.le_refl _) (by omega); rw [Int.add_zero] at this; rw [this, h4]
 have hsk : skipTo s i = i := skipTo_other (by rw [hat]; decide) (by rw [hat]; decide)
 have hnx : nextAt s i = (3, s.extract i.toNat (i + 1).toNat, i, true, i + 1) := by
  unfold nextAt
  rw [if_neg (by rw [hat]; decide), if_pos hat]
 have hlt := hh.2.1
 have hz := hh.1
 have hp : Path s i [tokAt s (skipTo s i)] (nextAt s (skipTo s i)).2.2.2.2 := .cons (by rw [hsk]; omega) (by rw [hsk, hnx]) (.nil _)
 rw [hsk] at hp
 have hx : s.extract i.toNat (i + 1).toNat = w := by
  refine ext_bt ?_ (fun x h0 h1' => ?_)
  · have := size_extractI (s := s) (a := i) (b := i + 1) hz (by omega) (by omega); omega
  · have hsz := size_extractI (s := s) (a := i) (b := i + 1) hz (by omega) (by omega)
    rw [bt_extract hz h0 (by omega) (by omega)]
    exact hh.2.2 x h0 (by omega)
 have e : tokAt s i = ⟨3, w, i⟩ := by unfold tokAt; rw [hnx, hx]
 rw [e, hnx] at hp
 refine ⟨_, by simpa [moved] using hp, ?_⟩
 simp only [h1]
 exact .here _
theorem LexT.lex {u : ByteArray} {hard : Bool} {ts : List S67} (h : LexT u hard ts) (hs : u.size ≤ 20000) : lexB u = (ts, 0, 0) := by
 obtain ⟨j, hp, hg⟩ := h u 0 (Holds.self u) (fun _ => soft_end (by omega))
 rw [moved_zero] at hp
 have hj := hp.le (Int.le_refl _) (by omega)
 rw [Int.zero_add] at hg
 refine lexB_ok hs hp ?_
 rw [skip_end hj.1 hg]
 omega
theorem tok_of_lex {w : ByteArray} {t : S67} (h : lexB w = ([t], 0, 0)) (he : t.f1 = w) (hs : w.size ≤ 20000) : TokText t.f0 w := by
 obtain ⟨ts, j, hp, h0, h1, hc⟩ := whole w hs
 have hts : ts = [t] ∧ skipTo w j = w.size := by
  rcases hc with ⟨hl, hk⟩ | ⟨hl, _, _⟩
  · rw [h] at hl; exact ⟨(congrArg Prod.fst hl).symm, hk⟩
  · rw [h] at hl; exact absurd (congrArg Prod.fst hl) (by simp)
 obtain ⟨rfl, hk⟩ := hts
 obtain ⟨_, g5, g6⟩ := skip_gap w 0 (Int.le_refl _) (by omega)
 have hr := skipTo_range w 0 (Int.le_refl _) (by omega)
 cases hp with
 | cons hlt hok hp2 =>
  obtain ⟨a1, a2, a3⟩ := nextAt_at hok
  have hn := nextAt_range w _ (by omega) hr.2 hok
  simp only [tokAt] at he ⊢
  have hsz := size_extractI (s := w) (a := skipTo w 0) (b := (nextAt w (skipTo w 0)).2.2.2.2) (by omega) (by omega) hn.2
  have he' := congrArg ByteArray.size he
  rw [a3] at he'
  have hp0 : skipTo w 0 = 0 := by omega
  have hend : (nextAt w (skipTo w 0)).2.2.2.2 = (w.size : Int) := by omega
  have hsz0 : 0 < w.size := by omega
  rw [hp0] at g5 g6 hok a1 a2 a3 hend he ⊢
  refine ⟨hsz0, g5, g6, ?_⟩
  refine Prod.ext rfl (Prod.ext he (Prod.ext a1 (Prod.ext hok hend)))
theorem cls_digit (c : Nat) (h0 : 48 ≤ c) (h1 : c ≤ 57) : cls c = 2 := by
 unfold cls; rw [if_neg (by omega), if_pos (by omega)]
def Digs (d : ByteArray) : Prop := ∀ x : Int, 0 ≤ x → x < (d.size : Int) → 48 ≤ bt d x ∧ bt d x ≤ 57
theorem toList_48 {d : ByteArray} (h1 : d.size = 1) (h : bt d 0 = 48) : d.toList = [48] := by
 have e : d = ⟨#[48]⟩ := by
  refine ext_bt (by rw [h1]; rfl) (fun x h0 hx => ?_)
  have : x = 0 := by omega
  subst this
  rw [h]; rfl
 rw [e, ByteArray.toList_eq]
theorem number_next {u : ByteArray} {sg : Bool} {i f j : Int} (_ : 0 ≤ i) (hf : firstAt sg i = f) (hc : at_ u i = if sg = true then 7 else 2) (hd : ∀ x, f ≤ x → x < j → at_ u x = 2) (hfj : f ≤ j) (hj : j ≤ (u.size : Int)) (he : at_ u j ≠ 2) :
 nextAt u i = if (numOK sg (u.extract f.toNat j.toNat) && !wordAt u j) = true then (2, u.extract i.toNat j.toNat, i, true, j) else (0, ⟨#[]⟩, 0, false, j) := by
 have hs : scanTo (digitAt u) u.size f = j := scanTo_eq hfj hj (fun x a b => by simp [digitAt, hd x a b]) (fun _ => by simpa [digitAt] using he)
 have h1 : at_ u i ≠ 1 := by rw [hc]; split <;> decide
 have h4 : at_ u i ≠ 4 := by rw [hc]; split <;> decide
 have h7 : at_ u i = 7 ∨ at_ u i = 2 := by rw [hc]; cases sg <;> simp
 have hb : (at_ u i == 7) = sg := by rw [hc]; cases sg <;> rfl
 unfold nextAt
 rw [if_neg h1, if_neg h4, if_pos h7]
 simp only [hb, hf, hs]
theorem numOK_of {sg : Bool} {d : ByteArray} (h1 : 1 ≤ d.size) (h9 : d.size ≤ 9) (hl : bt d 0 ≠ 48 ∨ (d.size = 1 ∧ sg = false)) : numOK sg d = true := by
 rw [numOK_eq, decide_eq_true h1, decide_eq_true h9]
 rcases hl with h | ⟨ha, hb⟩
 · have e : (bt d 0 != 48) = true := bne_iff_ne.2 h
   rw [e]; rfl
 · by_cases h : bt d 0 = 48
   · have e : (bt d 0 != 48) = false := by simp [h]
     rw [e, toList_48 ha h, hb]; rfl
   · have e : (bt d 0 != 48) = true := bne_iff_ne.2 h
     rw [e]; rfl
theorem bt_ext0 {s : ByteArray} {a b : Int} (h0 : 0 ≤ a) (h1 : a < b) (h2 : b ≤ (s.size : Int)) : bt (s.extract a.toNat b.toNat) 0 = bt s a := by
 have := bt_extract (s := s) (a := a) (b := b) (x := 0) h0 (by omega) (by omega) h2
 rwa [Int.add_zero] at this
theorem extract_whole (u : ByteArray) : u.extract (0 : Int).toNat ((u.size : Nat) : Int).toNat = u := by
 have e := size_extractI (s := u) (a := 0) (b := u.size) (by omega) (by omega) (by omega)
 refine ext_bt (by omega) (fun x h0 h1 => ?_)
 rw [bt_extract (by omega) h0 (by omega) (by omega), Int.zero_add]
def sgn (sg : Bool) : ByteArray := if sg = true then ⟨#[45]⟩ else ⟨#[]⟩
theorem sgn_size (sg : Bool) : ((sgn sg).size : Int) = if sg = true then 1 else 0 := by cases sg <;> rfl
theorem sgn_first (sg : Bool) : firstAt sg 0 = ((sgn sg).size : Int) := by cases sg <;> rfl
theorem lex_number {sg : Bool} {D : ByteArray} (hD : Digs D) (h1 : 1 ≤ D.size) (h9 : D.size ≤ 9) (hl : bt D 0 ≠ 48 ∨ (D.size = 1 ∧ sg = false)) : lexB (sgn sg ++ D) = ([⟨2, sgn sg ++ D, 0⟩], 0, 0) := by
 have hs := sgn_size sg
 have hf := sgn_first sg
 have hn : (sgn sg).size ≤ 1 := by cases sg <;> decide
 have hsz : (sgn sg ++ D).size = (sgn sg).size + D.size := ByteArray.size_append
 have hdig : ∀ x, ((sgn sg).size : Int) ≤ x → x < ((sgn sg ++ D).size : Int) → at_ (sgn sg ++ D) x = 2 := by
  intro x a b
  rw [at_in b, bt_right a (by omega)]
  have := hD (x - (sgn sg).size) (by omega) (by omega)
  exact cls_digit _ (by omega) (by omega)
 have hc : at_ (sgn sg ++ D) 0 = if sg = true then 7 else 2 := by
  cases sg with
  | true => rw [at_in (by omega), bt_left (by omega) (by decide)]; rfl
  | false => exact hdig 0 (by decide) (by omega)
 have hx := number_next (u := sgn sg ++ D) (i := 0) (f := (sgn sg).size) (j := ((sgn sg ++ D).size : Nat)) (by omega) hf hc hdig (by omega) (by omega) (by rw [at_end (Int.le_refl _)]; decide)
 have hok : numOK sg ((sgn sg ++ D).extract (((sgn sg).size : Nat) : Int).toNat (((sgn sg ++ D).size : Nat) : Int).toNat) = true := by
  have e1 := size_extractI (s := sgn sg ++ D) (a := ((sgn sg).size : Nat)) (b := ((sgn sg ++ D).size : Nat)) (by omega) (by omega) (by omega)
  refine numOK_of (by omega) (by omega) ?_
  rw [bt_ext0 (by omega) (by omega) (by omega), bt_right (Int.le_refl _) (by omega), Int.sub_self]
  rcases hl with h | ⟨h, g⟩
  · exact .inl h
  · exact .inr ⟨by omega, g⟩
 rw [hok, (soft_end (u := sgn sg ++ D) (Int.le_refl _)).1] at hx
 simp only [Bool.not_false, Bool.and_self, if_true, extract_whole] at hx
 have hsk : skipTo (sgn sg ++ D) 0 = 0 := skipTo_other (by rw [hc]; split <;> decide) (by rw [hc]; split <;> decide)
 have hp : Path (sgn sg ++ D) 0 [tokAt (sgn sg ++ D) (skipTo (sgn sg ++ D) 0)] (nextAt (sgn sg ++ D) (skipTo (sgn sg ++ D) 0)).2.2.2.2 := .cons (by rw [hsk]; omega) (by rw [hsk, hx]) (.nil _)
 have ht : tokAt (sgn sg ++ D) (skipTo (sgn sg ++ D) 0) = ⟨2, sgn sg ++ D, 0⟩ := by unfold tokAt; rw [hsk, hx]
 rw [ht, hsk, hx] at hp
 simp only at hp
 refine lexB_ok (by omega) hp ?_
 rw [skipTo_other (by rw [at_end (Int.le_refl _)]; decide) (by rw [at_end (Int.le_refl _)]; decide)]
 omega
theorem size_list (l : List UInt8) : (⟨l.toArray⟩ : ByteArray).size = l.length := by simp [ByteArray.size]
theorem bt_list (l : List UInt8) (x : Nat) (h : x < l.length) : bt (⟨l.toArray⟩ : ByteArray) (x : Int) = ((l[x]'h).toNat : Int) := by
 have hs : (x : Int).toNat < (⟨l.toArray⟩ : ByteArray).size := by rw [size_list]; simpa using h
 unfold bt
 rw [dif_pos hs]
 rfl
theorem dec_at (u t : Nat) (h : t < (Lib.decDigits u).length) : ((Lib.decDigits u)[t]'h).toNat = 48 + u / 10 ^ (Lib.nDigits u - 1 - t) % 10 := by
 have h2 : t < Lib.nDigits u := by rw [← Lib.decDigits_length]; exact h
 have e := Lib.decDigits_eq u
 have : (Lib.decDigits u)[t]'h = Lib.dg u (Lib.nDigits u - 1 - t) := by
  simp only [e, List.getElem_map, List.getElem_range]
 rw [this]
 unfold Lib.dg
 have hm := Nat.mod_lt (u / 10 ^ (Lib.nDigits u - 1 - t)) (show 0 < 10 by decide)
 rw [UInt8.toNat_ofNat']
 omega
theorem dec_digs (u : Nat) : Digs ⟨(Lib.decDigits u).toArray⟩ := by
 intro x h0 h1
 rw [size_list] at h1
 obtain ⟨n, rfl⟩ := Int.eq_ofNat_of_zero_le h0
 have hn : n < (Lib.decDigits u).length := by omega
 rw [bt_list _ n hn, dec_at u n hn]
 have := Nat.mod_lt (u / 10 ^ (Lib.nDigits u - 1 - n)) (show 0 < 10 by decide)
 omega
theorem nDigits_le {u d : Nat} (h : u < 10 ^ d) (hd : 1 ≤ d) : Lib.nDigits u ≤ d := by
 induction d generalizing u with
 | zero => omega
 | succ d ih =>
  by_cases hs : u < 10
  · rw [Lib.nDigits_small hs]; omega
  · rw [Lib.nDigits_big hs]
    by_cases h0 : d = 0
    · subst h0; simp at h; omega
    · rw [Nat.pow_succ] at h
      have := ih (u := u / 10) (by omega) (by omega)
      omega
theorem nDigits_ge : ∀ u : Nat, u ≠ 0 → 10 ^ (Lib.nDigits u - 1) ≤ u := by
 intro u
 induction u using Nat.strongRecOn with
 | _ u ih =>
  intro hu
  by_cases hs : u < 10
  · rw [Lib.nDigits_small hs]; simp; omega
  · rw [Lib.nDigits_big hs]
    have h1 := ih (u / 10) (by omega) (by omega)
    have h2 := Lib.nDigits_pos (u / 10)
    have e : Lib.nDigits (u / 10) + 1 - 1 = (Lib.nDigits (u / 10) - 1) + 1 := by omega
    rw [e, Nat.pow_succ]
    omega
theorem dec_lead {u : Nat} (h : u ≠ 0) : bt ⟨(Lib.decDigits u).toArray⟩ 0 ≠ 48 := by
 have hl : 0 < (Lib.decDigits u).length := by rw [Lib.decDigits_length]; exact Lib.nDigits_pos u
 have := bt_list (Lib.decDigits u) 0 hl
 rw [Int.ofNat_zero] at this
 rw [this, dec_at u 0 hl]
 have hge := nDigits_ge u h
 have hlt := Lib.lt_pow_nDigits u
 have hp := Lib.nDigits_pos u
 have e : Lib.nDigits u = (Lib.nDigits u - 1) + 1 := by omega
 rw [e, Nat.pow_succ] at hlt
 have hpos : 0 < 10 ^ (Lib.nDigits u - 1) := Nat.pow_pos (by decide)
 have hq1 : 1 ≤ u / 10 ^ (Lib.nDigits u - 1) := (Nat.le_div_iff_mul_le hpos).2 (by omega)
 have hq2 : u / 10 ^ (Lib.nDigits u - 1) < 10 := (Nat.div_lt_iff_lt_mul hpos).2 (by rw [Nat.mul_comm]; exact hlt)
 rw [Nat.sub_zero]
 omega
theorem itoa_tok {n : Int} (h0 : -1000000000 < n) (h1 : n < 1000000000) : TokText 2 ⟨(Lib.itoa n).toArray⟩ ∧ (Lib.itoa n).length ≤ 10 := by
 have key : ∀ (u : Nat) (sg : Bool), u < 1000000000 → (sg = true → u ≠ 0) → TokText 2 (sgn sg ++ ⟨(Lib.decDigits u).toArray⟩) ∧ (Lib.decDigits u).length ≤ 9 := by
  intro u sg hu hsg
  have hl : (Lib.decDigits u).length ≤ 9 := by rw [Lib.decDigits_length]; exact nDigits_le (by simpa using hu) (by decide)
  have hl1 : 1 ≤ (Lib.decDigits u).length := by rw [Lib.decDigits_length]; exact Lib.nDigits_pos u
  refine ⟨?_, hl⟩
  have := lex_number (sg := sg) (dec_digs u) (by rw [size_list]; omega) (by rw [size_list]; omega) (by
   by_cases hz : u = 0
   · refine .inr ⟨?_, ?_⟩
     · rw [size_list, hz, Lib.decDigits_one (by decide)]; rfl
     · cases sg with
       | false => rfl
       | true => exact absurd hz (hsg rfl)
   · exact .inl (dec_lead hz))
  have hz := tok_of_lex this rfl (by
   rw [ByteArray.size_append, size_list (Lib.decDigits u)]
   have h2 : (sgn sg).size ≤ 1 := by cases sg <;> decide
   omega)
  exact hz
 rcases Int.lt_or_le n 0 with hn | hn
 · obtain ⟨u, rfl⟩ : ∃ u : Nat, n = -(u : Int) := ⟨n.natAbs, by omega⟩
   have := key u true (by omega) (fun _ => by omega)
   rw [Lib.itoa_neg u (by omega)]
   refine ⟨?_, by simp; omega⟩
   have e : (⟨(45 :: Lib.decDigits u).toArray⟩ : ByteArray) = sgn true ++ ⟨(Lib.decDigits u).toArray⟩ := by
    apply ByteArray.ext
    simp [sgn, ByteArray.data_append]
   rw [e]
   exact this.1
 · obtain ⟨u, rfl⟩ := Int.eq_ofNat_of_zero_le hn
   have := key u false (by omega) (fun h => by cases h)
   rw [Lib.itoa_nonneg u]
   refine ⟨?_, by omega⟩
   have e : (⟨(Lib.decDigits u).toArray⟩ : ByteArray) = sgn false ++ ⟨(Lib.decDigits u).toArray⟩ := by
    apply ByteArray.ext
    simp [sgn, ByteArray.data_append]
   rw [e]
   exact this.1
def kt (ts : List S67) : List (Int × ByteArray) := ts.map fun t => (t.f0, t.f1)
theorem kt_append (a b : List S67) : kt (a ++ b) = kt a ++ kt b := by simp [kt]
theorem kt_moved (d : Int) (a : List S67) : kt (moved d a) = kt a := by simp [kt, moved]
def LexK (u : ByteArray) (hard : Bool) (ks : List (Int × ByteArray)) : Prop := ∃ ts, LexT u hard ts ∧ kt ts = ks
theorem LexK.append {u v : ByteArray} {a b : Bool} {ks ls : List (Int × ByteArray)} (h : LexK u a ks) (g : LexK v b ls) (hs : a = true → SoftHd v) : LexK (u ++ v) b (ks ++ ls) := by
 obtain ⟨ts, h1, h2⟩ := h
 obtain ⟨us, g1, g2⟩ := g
 exact ⟨_, h1.append g1 hs, by rw [kt_append, kt_moved, h2, g2]⟩
theorem LexK.soft {u v : ByteArray} {b : Bool} {ks ls : List (Int × ByteArray)} (h : LexK u false ks) (g : LexK v b ls) : LexK (u ++ v) b (ks ++ ls) := h.append g (fun e => by cases e)
theorem LexK.hard {u v : ByteArray} {b : Bool} {ks ls : List (Int × ByteArray)} (h : LexK u true ks) (g : LexK v b ls) (hs : SoftHd v) : LexK (u ++ v) b (ks ++ ls) := h.append g (fun _ => hs)
theorem LexK.tok {k : Int} {w : ByteArray} (h : TokText k w) : LexK w true [(k, w)] := ⟨_, LexT.tok h, rfl⟩
theorem LexK.blank {g : ByteArray} (h : Blank g) : LexK g false [] := ⟨_, LexT.blank h, rfl⟩
theorem LexK.sign {w : ByteArray} (h1 : w.size = 1) (h4 : at_ w 0 = 4) : LexK w false [(3, w)] := ⟨_, LexT.sign h1 h4, rfl⟩
theorem blank_one {c : UInt8} (h : cls c.toNat = 5) : Blank ⟨#[c]⟩ := by
 intro x h0 h1
 have h1' : x < 1 := h1
 obtain rfl : x = 0 := by omega
 exact h
theorem blank_append {a b : ByteArray} (ha : Blank a) (hb : Blank b) : Blank (a ++ b) := by
 intro x h0 h1
 rw [ByteArray.size_append] at h1
 by_cases hx : x < (a.size : Int)
 · have := ha x h0 hx
   rw [at_in (by omega)] at this
   rw [at_in (by rw [ByteArray.size_append]; omega), bt_left h0 hx]
   exact this
 · have := hb (x - a.size) (by omega) (by omega)
   rw [at_in (by omega)] at this
   rw [at_in (by rw [ByteArray.size_append]; omega), bt_right (by omega) (by omega)]
   exact this
def semi : ByteArray := ⟨#[59]⟩
def obr : ByteArray := ⟨#[123]⟩
def cbr : ByteArray := ⟨#[125]⟩
def opar : ByteArray := ⟨#[40]⟩
def cpar : ByteArray := ⟨#[41]⟩
def comma : ByteArray := ⟨#[44]⟩
theorem l_sp : LexK ⟨#[32]⟩ false [] := .blank (blank_one (by decide +kernel))
theorem l_nl : LexK ⟨#[10]⟩ false [] := .blank (blank_one (by decide +kernel))
theorem l_semi : LexK ⟨#[59]⟩ false [(3, semi)] := .sign rfl (by decide +kernel)
theorem l_opar : LexK ⟨#[40]⟩ false [(3, opar)] := .sign rfl (by decide +kernel)
theorem l_cpar : LexK ⟨#[41]⟩ false [(3, cpar)] := .sign rfl (by decide +kernel)
theorem l_comma : LexK ⟨#[44]⟩ false [(3, comma)] := .sign rfl (by decide +kernel)
theorem l_obr : LexK ⟨#[123]⟩ false [(3, obr)] := .sign rfl (by decide +kernel)
theorem l_cbr : LexK ⟨#[125]⟩ false [(3, cbr)] := .sign rfl (by decide +kernel)
theorem s_sp : SoftHd ⟨#[32]⟩ := ⟨by decide, by constructor <;> decide +kernel⟩
theorem s_semi : SoftHd ⟨#[59]⟩ := ⟨by decide, by constructor <;> decide +kernel⟩
theorem s_cpar : SoftHd ⟨#[41]⟩ := ⟨by decide, by constructor <;> decide +kernel⟩
theorem kw_tok {w : ByteArray} (h : lexB w = ([⟨1, w, 0⟩], 0, 0)) (hs : w.size ≤ 20000) : LexK w true [(1, w)] := .tok (tok_of_lex h rfl hs)
def wGo : ByteArray := ⟨#[103, 111]⟩
def wHome : ByteArray := ⟨#[104, 111, 109, 101]⟩
def wPick : ByteArray := ⟨#[112, 105, 99, 107]⟩
def wPut : ByteArray := ⟨#[112, 117, 116]⟩
def wHand : ByteArray := ⟨#[104, 97, 110, 100]⟩
def wWait : ByteArray := ⟨#[119, 97, 105, 116]⟩
def wWhen : ByteArray := ⟨#[119, 104, 101, 110]⟩
def wBoth : ByteArray := ⟨#[98, 111, 116, 104]⟩
theorem k_go : LexK wGo true [(1, wGo)] := kw_tok (by kernel_rfl) (by decide)
theorem k_home : LexK wHome true [(1, wHome)] := kw_tok (by kernel_rfl) (by decide)
theorem k_pick : LexK wPick true [(1, wPick)] := kw_tok (by kernel_rfl) (by decide)
theorem k_put : LexK wPut true [(1, wPut)] := kw_tok (by kernel_rfl) (by decide)
theorem k_hand : LexK wHand true [(1, wHand)] := kw_tok (by kernel_rfl) (by decide)
theorem k_wait : LexK wWait true [(1, wWait)] := kw_tok (by kernel_rfl) (by decide)
theorem k_when : LexK wWhen true [(1, wWhen)] := kw_tok (by kernel_rfl) (by decide)
theorem k_both : LexK wBoth true [(1, wBoth)] := kw_tok (by kernel_rfl) (by decide)
def numB (n : Int) : ByteArray := ⟨(Lib.itoa n).toArray⟩
def Small (n : Int) : Prop := -1000000000 < n ∧ n < 1000000000
theorem l_num {n : Int} (h : Small n) : LexK (numB n) true [(2, numB n)] := .tok (itoa_tok h.1 h.2).1
theorem num_size {n : Int} (h : Small n) : (numB n).size ≤ 10 := by have := (itoa_tok h.1 h.2).2; unfold numB; rw [size_list]; exact this
theorem itoaS_small {n : Int} (h : Small n) : itoaS n = some (numB n) := by unfold itoaS; rw [if_pos ⟨by have := h.1; omega, by have := h.2; omega⟩]; rfl
def triK (q : S34) : List (Int × ByteArray) := [(3, opar), (2, numB q.f0), (3, comma), (2, numB q.f1), (3, comma), (2, numB q.f2), (3, cpar)]
def SmallQ (q : S34) : Prop := Small q.f0 ∧ Small q.f1 ∧ Small q.f2
def triB (q : S34) : ByteArray := tripleB (numB q.f0) (numB q.f1) (numB q.f2)
theorem l_commasp : LexK ⟨#[44, 32]⟩ false [(3, comma)] := by
 have := l_comma.soft l_sp
 exact this
theorem s_commasp : SoftHd ⟨#[44, 32]⟩ := ⟨by decide, by constructor <;> decide +kernel⟩
theorem l_tri {q : S34} (h : SmallQ q) : LexK (triB q) false (triK q) := by
 obtain ⟨h0, h1, h2⟩ := h
 exact ((((((l_opar.soft (l_num h0)).hard l_commasp s_commasp).soft (l_num h1)).hard l_commasp s_commasp).soft (l_num h2)).hard l_cpar s_cpar)
theorem tri_size {q : S34} (h : SmallQ q) : (triB q).size ≤ 36 := by
 have := num_size h.1; have := num_size h.2.1; have := num_size h.2.2
 have e1 : (⟨#[40]⟩ : ByteArray).size = 1 := rfl
 have e2 : (⟨#[44, 32]⟩ : ByteArray).size = 2 := rfl
 have e3 : (⟨#[41]⟩ : ByteArray).size = 1 := rfl
 simp only [triB, tripleB, app_size, e1, e2, e3]
 omega
theorem tripleF_small {q : S34} (h : SmallQ q) : tripleF q = some (triB q) := by
 unfold tripleF
 rw [itoaS_small h.1, itoaS_small h.2.1, itoaS_small h.2.2]
 simp only [Option.bind_some]
 unfold fitS
 rw [if_pos]
 · rfl
 · have := tri_size h; unfold triB at this; omega
def NameOK (s : ByteArray) : Prop := TokText 1 s ∧ s.size ≤ 12 ∧ isWord s = false
def none0 : ByteArray := ⟨#[]⟩
inductive PlainOK : S37 → Prop where
 | go0 {q : S34} {a : Int} (h : SmallQ q) : PlainOK ⟨1, 0, none0, none0, 0, ⟨q, zJ⟩, [], a⟩
 | go1 {q : S34} {a : Int} (h : SmallQ q) : PlainOK ⟨1, 1, none0, none0, 0, ⟨zJ, q⟩, [], a⟩
 | home {m a : Int} (h : m = 0 ∨ m = 1) : PlainOK ⟨2, m, none0, none0, 0, ⟨zJ, zJ⟩, [], a⟩
 | pick {m a : Int} {s : ByteArray} (h : m = 0 ∨ m = 1) (hs : NameOK s) : PlainOK ⟨3, m, s, none0, 0, ⟨zJ, zJ⟩, [], a⟩
 | put {m a : Int} {s : ByteArray} (h : m = 0 ∨ m = 1) (hs : NameOK s) : PlainOK ⟨4, m, none0, s, 0, ⟨zJ, zJ⟩, [], a⟩
 | hand {m a : Int} {s : ByteArray} (h : m = 0 ∨ m = 1) (hs : NameOK s) : PlainOK ⟨5, m, none0, s, 0, ⟨zJ, zJ⟩, [], a⟩
 | wait {n a : Int} (h : Small n) : PlainOK ⟨6, 0, none0, none0, n, ⟨zJ, zJ⟩, [], a⟩
 | when_ {s t : ByteArray} {l : List S37} {a : Int} (hs : NameOK s) (ht : NameOK t) : PlainOK ⟨7, 0, s, t, 0, ⟨zJ, zJ⟩, l, a⟩
 | both {q p : S34} {a : Int} (h : SmallQ q) (g : SmallQ p) : PlainOK ⟨8, 0, none0, none0, 0, ⟨q, p⟩, [], a⟩
def lineK (x : S37) : List (Int × ByteArray) :=
 if x.f0 = 1 then [(1, wGo), (2, numB x.f1)] ++ triK (if x.f1 = 0 then x.f5.f0 else x.f5.f1) ++ [(3, semi)]
 else if x.f0 = 2 then [(1, wHome), (2, numB x.f1), (3, semi)]
 else if x.f0 = 3 then [(1, wPick), (2, numB x.f1), (1, x.f2), (3, semi)]
 else if x.f0 = 4 then [(1, wPut), (2, numB x.f1), (1, x.f3), (3, semi)]
 else if x.f0 = 5 then [(1, wHand), (2, numB x.f1), (1, x.f3), (3, semi)]
 else if x.f0 = 6 then [(1, wWait), (2, numB x.f4), (3, semi)]
 else if x.f0 = 7 then [(1, wWhen), (1, x.f3), (1, x.f2), (3, obr)]
 else [(1, wBoth)] ++ triK x.f5.f0 ++ triK x.f5.f1 ++ [(3, semi)]
theorem small_arm {m : Int} (h : m = 0 ∨ m = 1) : Small m := by rcases h with rfl | rfl <;> exact ⟨by decide, by decide⟩
theorem l_name {s : ByteArray} (h : NameOK s) : LexK s true [(1, s)] := .tok h.1
theorem l_gosp : LexK ⟨#[103, 111, 32]⟩ false [(1, wGo)] := k_go.hard l_sp s_sp
theorem l_homesp : LexK ⟨#[104, 111, 109, 101, 32]⟩ false [(1, wHome)] := k_home.hard l_sp s_sp
theorem l_waitsp : LexK ⟨#[119, 97, 105, 116, 32]⟩ false [(1, wWait)] := k_wait.hard l_sp s_sp
theorem l_whensp : LexK ⟨#[119, 104, 101, 110, 32]⟩ false [(1, wWhen)] := k_when.hard l_sp s_sp
theorem l_bothsp : LexK ⟨#[98, 111, 116, 104, 32]⟩ false [(1, wBoth)] := k_both.hard l_sp s_sp
theorem l_spobr : LexK ⟨#[32, 123]⟩ false [(3, obr)] := l_sp.soft l_obr
theorem s_spobr : SoftHd ⟨#[32, 123]⟩ := ⟨by decide, by constructor <;> decide +kernel⟩
theorem fit_small {s : ByteArray} (h : s.size ≤ 1000000) : fitS s = some s := by unfold fitS; rw [if_pos (by omega)]
theorem app_none (x : ByteArray) : x ++ none0 = x := by apply ByteArray.ext; simp [ByteArray.data_append, none0]
theorem line_ok {x : S37} (h : PlainOK x) : ∃ s, lineF x = some s ∧ LexK s false (lineK x) ∧ s.size ≤ 100 := by
 cases h with
 | @go0 q a h =>
  have e0 : (⟨#[103, 111, 32]⟩ : ByteArray).size = 3 := rfl
  have e1 : (⟨#[32]⟩ : ByteArray).size = 1 := rfl
  have e2 : (⟨#[59]⟩ : ByteArray).size = 1 := rfl
  have h1 := num_size (n := 0) (small_arm (.inl rfl))
  have h2 := tri_size h
  have hsz : (lineGo (numB 0) (triB q)).size ≤ 100 := by
   simp only [lineGo, app_size, e0, e1, e2]
   omega
  refine ⟨lineGo (numB 0) (triB q), ?_, ?_, hsz⟩
  · show ((itoaS 0).bind fun a => (tripleF q).bind fun t => fitS (lineGo a t)) = _
    rw [itoaS_small (small_arm (.inl rfl)), tripleF_small h]
    exact fit_small (by omega)
  · exact ((((l_gosp.soft (l_num (small_arm (.inl rfl)))).hard l_sp s_sp).soft (l_tri h)).soft l_semi)
 | @go1 q a h =>
  have e0 : (⟨#[103, 111, 32]⟩ : ByteArray).size = 3 := rfl
  have e1 : (⟨#[32]⟩ : ByteArray).size = 1 := rfl
  have e2 : (⟨#[59]⟩ : ByteArray).size = 1 := rfl
  have h1 := num_size (n := 1) (small_arm (.inr rfl))
  have h2 := tri_size h
  have hsz : (lineGo (numB 1) (triB q)).size ≤ 100 := by
   simp only [lineGo, app_size, e0, e1, e2]
   omega
  refine ⟨lineGo (numB 1) (triB q), ?_, ?_, hsz⟩
  · show ((itoaS 1).bind fun a => (tripleF q).bind fun t => fitS (lineGo a t)) = _
    rw [itoaS_small (small_arm (.inr rfl)), tripleF_small h]
    exact fit_small (by omega)
  · exact ((((l_gosp.soft (l_num (small_arm (.inr rfl)))).hard l_sp s_sp).soft (l_tri h)).soft l_semi)
 | @home m a h =>
  have e0 : (⟨#[104, 111, 109, 101, 32]⟩ : ByteArray).size = 5 := rfl
  have e1 : (⟨#[59]⟩ : ByteArray).size = 1 := rfl
  have h1 := num_size (small_arm h)
  have hsz : (lineOne ⟨#[104, 111, 109, 101, 32]⟩ (numB m)).size ≤ 100 := by
   simp only [lineOne, app_size, e0, e1]
   omega
  refine ⟨lineOne ⟨#[104, 111, 109, 101, 32]⟩ (numB m), ?_, ?_, hsz⟩
  · show ((itoaS m).bind fun a => fitS (lineOne ⟨#[104, 111, 109, 101, 32]⟩ a)) = _
    rw [itoaS_small (small_arm h)]
    exact fit_small (by omega)
  · exact ((l_homesp.soft (l_num (small_arm h))).hard l_semi s_semi)
 | @pick m a s h hs =>
  have e0 : (⟨#[112, 105, 99, 107]⟩ : ByteArray).size = 4 := rfl
  have e1 : (⟨#[32]⟩ : ByteArray).size = 1 := rfl
  have e2 : (⟨#[59]⟩ : ByteArray).size = 1 := rfl
  have e3 : none0.size = 0 := rfl
  have h1 := num_size (small_arm h)
  have h2 := hs.2.1
  have hsz : (lineName ⟨#[112, 105, 99, 107]⟩ (numB m) s none0).size ≤ 100 := by
   simp only [lineName, app_size, e0, e1, e2, e3]
   omega
  refine ⟨lineName ⟨#[112, 105, 99, 107]⟩ (numB m) s none0, ?_, ?_, hsz⟩
  · show ((itoaS m).bind fun a => fitS (lineName ⟨#[112, 105, 99, 107]⟩ a s none0)) = _
    rw [itoaS_small (small_arm h)]
    exact fit_small (by omega)
  · have e : lineName ⟨#[112, 105, 99, 107]⟩ (numB m) s none0 = (((((⟨#[112, 105, 99, 107]⟩ ++ ⟨#[32]⟩) ++ numB m) ++ ⟨#[32]⟩) ++ s) ++ ⟨#[59]⟩ : ByteArray) := by
     simp only [lineName]
     rw [app_none]
    rw [e]
    exact (((((k_pick.hard l_sp s_sp).soft (l_num (small_arm h))).hard l_sp s_sp).soft (l_name hs)).hard l_semi s_semi)
 | @put m a s h hs =>
  have e0 : (⟨#[112, 117, 116]⟩ : ByteArray).size = 3 := rfl
  have e1 : (⟨#[32]⟩ : ByteArray).size = 1 := rfl
  have e2 : (⟨#[59]⟩ : ByteArray).size = 1 := rfl
  have e3 : none0.size = 0 := rfl
  have h1 := num_size (small_arm h)
  have h2 := hs.2.1
  have hsz : (lineName ⟨#[112, 117, 116]⟩ (numB m) none0 s).size ≤ 100 := by
   simp only [lineName, app_size, e0, e1, e2, e3]
   omega
  refine ⟨lineName ⟨#[112, 117, 116]⟩ (numB m) none0 s, ?_, ?_, hsz⟩
  · show ((itoaS m).bind fun a => fitS (lineName ⟨#[112, 117, 116]⟩ a none0 s)) = _
    rw [itoaS_small (small_arm h)]
    exact fit_small (by omega)
  · have e : lineName ⟨#[112, 117, 116]⟩ (numB m) none0 s = (((((⟨#[112, 117, 116]⟩ ++ ⟨#[32]⟩) ++ numB m) ++ ⟨#[32]⟩) ++ s) ++ ⟨#[59]⟩ : ByteArray) := by
     simp only [lineName]
     rw [app_none]
    rw [e]
    exact (((((k_put.hard l_sp s_sp).soft (l_num (small_arm h))).hard l_sp s_sp).soft (l_name hs)).hard l_semi s_semi)
 | @hand m a s h hs =>
  have e0 : (⟨#[104, 97, 110, 100]⟩ : ByteArray).size = 4 := rfl
  have e1 : (⟨#[32]⟩ : ByteArray).size = 1 := rfl
  have e2 : (⟨#[59]⟩ : ByteArray).size = 1 := rfl
  have e3 : none0.size = 0 := rfl
  have h1 := num_size (small_arm h)
  have h2 := hs.2.1
  have hsz : (lineName ⟨#[104, 97, 110, 100]⟩ (numB m) none0 s).size ≤ 100 := by
   simp only [lineName, app_size, e0, e1, e2, e3]
   omega
  refine ⟨lineName ⟨#[104, 97, 110, 100]⟩ (numB m) none0 s, ?_, ?_, hsz⟩
  · show ((itoaS m).bind fun a => fitS (lineName ⟨#[104, 97, 110, 100]⟩ a none0 s)) = _
    rw [itoaS_small (small_arm h)]
    exact fit_small (by omega)
  · have e : lineName ⟨#[104, 97, 110, 100]⟩ (numB m) none0 s = (((((⟨#[104, 97, 110, 100]⟩ ++ ⟨#[32]⟩) ++ numB m) ++ ⟨#[32]⟩) ++ s) ++ ⟨#[59]⟩ : ByteArray) := by
     simp only [lineName]
     rw [app_none]
    rw [e]
    exact (((((k_hand.hard l_sp s_sp).soft (l_num (small_arm h))).hard l_sp s_sp).soft (l_name hs)).hard l_semi s_semi)
 | @wait n a h =>
  have e0 : (⟨#[119, 97, 105, 116, 32]⟩ : ByteArray).size = 5 := rfl
  have e1 : (⟨#[59]⟩ : ByteArray).size = 1 := rfl
  have h1 := num_size h
  have hsz : (lineOne ⟨#[119, 97, 105, 116, 32]⟩ (numB n)).size ≤ 100 := by
   simp only [lineOne, app_size, e0, e1]
   omega
  refine ⟨lineOne ⟨#[119, 97, 105, 116, 32]⟩ (numB n), ?_, ?_, hsz⟩
  · show ((itoaS n).bind fun a => fitS (lineOne ⟨#[119, 97, 105, 116, 32]⟩ a)) = _
    rw [itoaS_small h]
    exact fit_small (by omega)
  · exact ((l_waitsp.soft (l_num h)).hard l_semi s_semi)
 | @when_ s t l a hs ht =>
  have e0 : (⟨#[119, 104, 101, 110, 32]⟩ : ByteArray).size = 5 := rfl
  have e1 : (⟨#[32]⟩ : ByteArray).size = 1 := rfl
  have e2 : (⟨#[32, 123]⟩ : ByteArray).size = 2 := rfl
  have h1 := hs.2.1
  have h2 := ht.2.1
  have hsz : (lineWhen t s).size ≤ 100 := by
   simp only [lineWhen, app_size, e0, e1, e2]
   omega
  refine ⟨lineWhen t s, ?_, ?_, hsz⟩
  · show fitS (lineWhen t s) = _
    exact fit_small (by omega)
  · exact ((((l_whensp.soft (l_name ht)).hard l_sp s_sp).soft (l_name hs)).hard l_spobr s_spobr)
 | @both q p a h g =>
  have e0 : (⟨#[98, 111, 116, 104, 32]⟩ : ByteArray).size = 5 := rfl
  have e1 : (⟨#[32]⟩ : ByteArray).size = 1 := rfl
  have e2 : (⟨#[59]⟩ : ByteArray).size = 1 := rfl
  have h1 := tri_size h
  have h2 := tri_size g
  have hsz : (lineBoth (triB q) (triB p)).size ≤ 100 := by
   simp only [lineBoth, app_size, e0, e1, e2]
   omega
  refine ⟨lineBoth (triB q) (triB p), ?_, ?_, hsz⟩
  · show ((tripleF q).bind fun t => (tripleF p).bind fun u => fitS (lineBoth t u)) = _
    rw [tripleF_small h, tripleF_small g]
    exact fit_small (by omega)
  · exact ((((l_bothsp.soft (l_tri h)).soft l_sp).soft (l_tri g)).soft l_semi)
inductive VLs : Nat → List S37 → Nat → List (Int × ByteArray) → Prop where
 | nil (d : Nat) : VLs d [] 0 []
 | plain {d n : Nat} {x : S37} {l : List S37} {ks : List (Int × ByteArray)} : PlainOK x → x.f0 ≠ 7 → VLs d l n ks → VLs d (x :: l) (n + 1) (lineK x ++ ks)
 | when_ {d n m : Nat} {x : S37} {l : List S37} {ks ls : List (Int × ByteArray)} : PlainOK x → x.f0 = 7 → VLs d x.f6 m ls → VLs (d + 1) l n ks → VLs (d + 1) (x :: l) (n + m + 1) (lineK x ++ (ls ++ ((3, cbr) :: ks)))
theorem l_cbrnl : LexK ⟨#[125, 10]⟩ false [(3, cbr)] := l_cbr.soft l_nl
theorem l_none : LexK ⟨#[]⟩ false [] := .blank (fun x h0 h1 => by exact absurd h1 (by show ¬ x < 0; omega))
theorem blank_sp2 : Blank ⟨#[32, 32]⟩ := blank_append (a := ⟨#[32]⟩) (b := ⟨#[32]⟩) (blank_one (by decide +kernel)) (blank_one (by decide +kernel))
theorem written_ok {d n : Nat} {l : List S37} {ks : List (Int × ByteArray)} (h : VLs d l n ks) : ∀ (k : Nat) (ins : ByteArray), d < k → Blank ins → ins.size + 2 * d ≤ 20 → ∃ out, writtenF k ins l = some out ∧ LexK out false ks ∧ out.size ≤ n * 200 := by
 induction h with
 | nil d =>
  intro k ins hk hb hi
  obtain ⟨k, rfl⟩ : ∃ k', k = k' + 1 := ⟨k - 1, by omega⟩
  exact ⟨⟨#[]⟩, rfl, l_none, Nat.zero_le _⟩
 | @plain d n x l ks hx h7 hl ih =>
  intro k ins hk hb hi
  obtain ⟨k, rfl⟩ : ∃ k', k = k' + 1 := ⟨k - 1, by omega⟩
  obtain ⟨u, hu, hlu, hsu⟩ := ih (k + 1) ins hk hb hi
  obtain ⟨s, hs, hls, hss⟩ := line_ok hx
  have hkid : kidsW (writtenF k) ins x = some ⟨#[]⟩ := by unfold kidsW; rw [if_neg h7]
  refine ⟨(((ins ++ s) ++ ⟨#[10]⟩) ++ ⟨#[]⟩) ++ u, ?_, ?_, ?_⟩
  · show ((lineF x).bind fun s => (kidsW (writtenF k) ins x).bind fun t => (writtenL (writtenF k) ins l).bind fun u => some ((((ins ++ s) ++ ⟨#[10]⟩) ++ t) ++ u)) = _
    rw [hs, hkid, show writtenL (writtenF k) ins l = some u from hu]
    rfl
  · have := ((((LexK.blank hb).soft hls).soft l_nl).soft l_none).soft hlu
    simpa using this
  · have e1 : (⟨#[10]⟩ : ByteArray).size = 1 := rfl
    have e2 : (⟨#[]⟩ : ByteArray).size = 0 := rfl
    simp only [app_size, e1, e2]
    omega
 | @when_ d n m x l ks ls hx h7 hk hl ihk ihl =>
  intro k ins hk hb hi
  obtain ⟨k, rfl⟩ : ∃ k', k = k' + 1 := ⟨k - 1, by omega⟩
  obtain ⟨u, hu, hlu, hsu⟩ := ihl (k + 1) ins hk hb hi
  obtain ⟨t, ht, hlt, hst⟩ := ihk k (ins ++ ⟨#[32, 32]⟩) (by omega) (blank_append hb blank_sp2) (by
   have e1 : (⟨#[32, 32]⟩ : ByteArray).size = 2 := rfl
   rw [app_size, e1]; omega)
  obtain ⟨s, hs, hls, hss⟩ := line_ok hx
  have hkid : kidsW (writtenF k) ins x = some (t ++ (ins ++ ⟨#[125, 10]⟩)) := by unfold kidsW; rw [if_pos h7, ht]; rfl
  refine ⟨(((ins ++ s) ++ ⟨#[10]⟩) ++ (t ++ (ins ++ ⟨#[125, 10]⟩))) ++ u, ?_, ?_, ?_⟩
  · show ((lineF x).bind fun s => (kidsW (writtenF k) ins x).bind fun t => (writtenL (writtenF k) ins l).bind fun u => some ((((ins ++ s) ++ ⟨#[10]⟩) ++ t) ++ u)) = _
    rw [hs, hkid, show writtenL (writtenF k) ins l = some u from hu]
    rfl
  · have := (((((LexK.blank hb).soft hls).soft l_nl).soft (hlt.soft ((LexK.blank hb).soft l_cbrnl))).soft hlu)
    simpa using this
  · have e1 : (⟨#[10]⟩ : ByteArray).size = 1 := rfl
    have e2 : (⟨#[125, 10]⟩ : ByteArray).size = 2 := rfl
    simp only [app_size, e1, e2]
    omega
theorem format_ok {d n : Nat} {l : List S37} {ks : List (Int × ByteArray)} (h : VLs d l n ks) (hd : d ≤ 10) (hn : n ≤ 100) : ∃ out ts, (∀ k, d < k → parser_Format.f k l = some out) ∧ lexB out = (ts, 0, 0) ∧ kt ts = ks ∧ out.size ≤ 20000 := by
 obtain ⟨out, ho, ⟨ts, hts, hkt⟩, hsz⟩ := written_ok h (d + 1) ⟨#[]⟩ (by omega) (fun x h0 h1 => by exact absurd h1 (by show ¬ x < 0; omega)) (by show 0 + 2 * d ≤ 20; omega)
 refine ⟨out, ts, fun k hk => ?_, hts.lex (by omega), hkt, by omega⟩
 have hm : ∀ j, writtenF (d + 1 + j) ⟨#[]⟩ l = some out := by
  intro j
  induction j with
  | zero => exact ho
  | succ j ih => exact written_le _ _ _ _ ih
 have := hm (k - (d + 1))
 rw [show d + 1 + (k - (d + 1)) = k by omega] at this
 unfold parser_Format.f
 rw [this]
 show (if out.size ≤ 140737488355328 then some out else none) = _
 rw [if_pos (by omega)]
def rnumF (n : Int) : Option ByteArray := ambidexterref11_Num.f 25 n
def rtriB (a b c : ByteArray) : ByteArray := (((((⟨#[32, 40]⟩ ++ a) ++ ⟨#[44, 32]⟩) ++ b) ++ ⟨#[44, 32]⟩) ++ c) ++ ⟨#[41]⟩
def rtriF (q : S34) : Option ByteArray := (rnumF q.f0).bind fun a => (rnumF q.f1).bind fun b => (rnumF q.f2).bind fun c => fitS (rtriB a b c)
def rbodyF (x : S37) : Option ByteArray :=
 if x.f0 = 1 then (if x.f1 = 0 then (rnumF 0).bind fun a => (rtriF x.f5.f0).bind fun t => fitS (((⟨#[32]⟩ ++ a) ++ t) ++ ⟨#[59]⟩) else if x.f1 = 1 then (rnumF 1).bind fun a => (rtriF x.f5.f1).bind fun t => fitS (((⟨#[32]⟩ ++ a) ++ t) ++ ⟨#[59]⟩) else none)
 else if x.f0 = 2 then (rnumF x.f1).bind fun a => fitS ((⟨#[32]⟩ ++ a) ++ ⟨#[59]⟩)
 else if x.f0 = 3 then (rnumF x.f1).bind fun a => fitS ((((⟨#[32]⟩ ++ a) ++ ⟨#[32]⟩) ++ x.f2) ++ ⟨#[59]⟩)
 else if x.f0 = 6 then (rnumF x.f4).bind fun a => fitS ((⟨#[32]⟩ ++ a) ++ ⟨#[59]⟩)
 else if x.f0 = 7 then fitS ((((⟨#[32]⟩ ++ x.f3) ++ ⟨#[32]⟩) ++ x.f2) ++ ⟨#[32, 123]⟩)
 else if x.f0 = 8 then (rtriF x.f5.f0).bind fun t => (rtriF x.f5.f1).bind fun u => fitS ((t ++ u) ++ ⟨#[59]⟩)
 else if x.f0 = 4 ∨ x.f0 = 5 then (rnumF x.f1).bind fun a => fitS ((((⟨#[32]⟩ ++ a) ++ ⟨#[32]⟩) ++ x.f3) ++ ⟨#[59]⟩)
 else none
def wordR (k : Int) : ByteArray := rdOf ByteArray.empty wordsL k
def rtextL (rec : ByteArray → List S37 → Option ByteArray) (ins : ByteArray) (out : ByteArray) : List S37 → Option ByteArray
 | [] => some out
 | x :: l => (rbodyF x).bind fun b => (fitS ((((out ++ ins) ++ wordR x.f0) ++ b) ++ ⟨#[10]⟩)).bind fun o =>
  if x.f0 = 7 then (fitS (ins ++ ⟨#[32, 32]⟩)).bind fun i2 => (rec i2 x.f6).bind fun t => (fitS (((o ++ t) ++ ins) ++ ⟨#[125, 10]⟩)).bind fun o2 => rtextL rec ins o2 l else rtextL rec ins o l
def rtextF : Nat → ByteArray → List S37 → Option ByteArray
 | 0 => fun _ _ => none
 | k + 1 => fun ins l => rtextL (rtextF k) ins ⟨#[]⟩ l
theorem ba_ext {x y : ByteArray} (h : x.data.toList = y.data.toList) : x = y := ByteArray.ext (Array.toList_inj.1 h)
theorem one_byte (d : Nat) (h : d < 10) : strOfNums [(wrap64 (48 + (d : Int))) % 256] = ⟨#[UInt8.ofNat (48 + d)]⟩ := by
 have hd : d = 0 ∨ d = 1 ∨ d = 2 ∨ d = 3 ∨ d = 4 ∨ d = 5 ∨ d = 6 ∨ d = 7 ∨ d = 8 ∨ d = 9 := by omega
 rcases hd with rfl | rfl | rfl | rfl | rfl | rfl | rfl | rfl | rfl | rfl <;> decide +kernel
theorem rnum_dec : ∀ (k u : Nat), u < 10 ^ k → u < 1000000000000000000 → ambidexterref11_Num.f (k + 1) (u : Int) = some ⟨(Lib.decDigits u).toArray⟩ := by
 intro k
 induction k with
 | zero =>
  intro u hu _
  have : u = 0 := by simpa using hu
  subst this
  rw [ambidexterref11_Num.f, if_neg (by omega), if_pos (by omega), one_byte 0 (by omega), Lib.decDigits_one (by omega)]
 | succ k ih =>
  intro u hu hm
  rw [ambidexterref11_Num.f, if_neg (by omega)]
  by_cases h10 : u < 10
  · rw [if_pos (by omega), one_byte u h10, Lib.decDigits_one h10]
  · rw [if_neg (by omega)]
    have e1 : wrap64 (Int.tdiv (u : Int) 10) = ((u / 10 : Nat) : Int) := by
     rw [show Int.tdiv (u : Int) 10 = ((u / 10 : Nat) : Int) from rfl]
     unfold wrap64; omega
    have e2 : Int.tmod (u : Int) 10 = ((u % 10 : Nat) : Int) := rfl
    have hpow : u / 10 < 10 ^ k := by
     rw [Nat.pow_succ] at hu
     omega
    have h1k : 1 ≤ 10 ^ k := Nat.one_le_pow _ _ (by decide)
    have hdig : u % 10 < 10 ^ k ∨ k = 0 := by
     rcases Nat.eq_zero_or_pos k with h | h
     · exact .inr h
     · left
       have : 10 ^ 1 ≤ 10 ^ k := Nat.pow_le_pow_right (by decide) h
       omega
    have hk0 : k ≠ 0 := by
     rintro rfl
     simp at hu
     omega
    have hdig := hdig.resolve_right hk0
    rw [e1, e2, ih _ hpow (by omega), Option.bind_some, ih _ hdig (by omega), Option.bind_some]
    have hl1 : (Lib.decDigits (u / 10)).length ≤ 18 := by rw [Lib.decDigits_length]; exact nDigits_le (show u / 10 < 10 ^ 18 from by rw [show (10 : Nat) ^ 18 = 1000000000000000000 from by decide]; omega) (by decide)
    have hl2 : (Lib.decDigits (u % 10)).length ≤ 18 := by rw [Lib.decDigits_length]; exact nDigits_le (show u % 10 < 10 ^ 18 from by rw [show (10 : Nat) ^ 18 = 1000000000000000000 from by decide]; omega) (by decide)
    rw [if_pos (by rw [size_list, size_list]; omega)]
    congr 1
    apply ba_ext
    rw [ByteArray.data_append, Lib.decDigits_one (show u % 10 < 10 from Nat.mod_lt _ (by decide)), Lib.decDigits.eq_1 u, dif_neg h10]
    simp
theorem rnum_lift {n : Int} {r : ByteArray} {k k' : Nat} (hk : k ≤ k') (h : ambidexterref11_Num.f k n = some r) : ambidexterref11_Num.f k' n = some r := by
 induction hk with
 | refl => exact h
 | step _ ih => exact ambidexterref11_Num.mono _ _ _ ih
theorem rnum_small {n : Int} (h : Small n) : rnumF n = some (numB n) := by
 obtain ⟨h1, h2⟩ := h
 unfold rnumF
 by_cases hn : n < 0
 · obtain ⟨u, rfl⟩ : ∃ u : Nat, n = -(u : Int) := ⟨n.natAbs, by omega⟩
   have e : wrap64 (-(-(u : Int))) = (u : Int) := by unfold wrap64; omega
   have hu := rnum_dec 10 u (by rw [show (10 : Nat) ^ 10 = 10000000000 from by decide]; omega) (by omega)
   rw [ambidexterref11_Num.f, if_pos hn, e, rnum_lift (by decide : 11 ≤ 24) hu, Option.bind_some]
   have hl : (Lib.decDigits u).length ≤ 10 := by rw [Lib.decDigits_length]; exact nDigits_le (show u < 10 ^ 10 from by rw [show (10 : Nat) ^ 10 = 10000000000 from by decide]; omega) (by decide)
   rw [if_pos (by rw [size_list]; omega)]
   unfold numB
   rw [Lib.itoa_neg u (by omega)]
   exact congrArg some (ba_ext (by rw [ByteArray.data_append]; simp))
 · obtain ⟨u, rfl⟩ : ∃ u : Nat, n = (u : Int) := ⟨n.toNat, by omega⟩
   have hu := rnum_dec 10 u (by rw [show (10 : Nat) ^ 10 = 10000000000 from by decide]; omega) (by omega)
   rw [rnum_lift (by decide : 11 ≤ 25) hu]
   unfold numB
   rw [Lib.itoa_nonneg]
theorem rtri_small {q : S34} (h : SmallQ q) : rtriF q = some (rtriB (numB q.f0) (numB q.f1) (numB q.f2)) ∧ rtriB (numB q.f0) (numB q.f1) (numB q.f2) = ⟨#[32]⟩ ++ triB q ∧ (⟨#[32]⟩ ++ triB q : ByteArray).size ≤ 40 := by
 have h0 := tri_size h
 have e : rtriB (numB q.f0) (numB q.f1) (numB q.f2) = ⟨#[32]⟩ ++ triB q := by
  apply ba_ext
  simp [rtriB, triB, tripleB, ByteArray.data_append]
 have e1 : (⟨#[32]⟩ : ByteArray).size = 1 := rfl
 have hs : (⟨#[32]⟩ ++ triB q : ByteArray).size ≤ 40 := by rw [app_size, e1]; omega
 refine ⟨?_, e, hs⟩
 unfold rtriF
 rw [rnum_small h.1, Option.bind_some, rnum_small h.2.1, Option.bind_some, rnum_small h.2.2, Option.bind_some, e]
 exact fit_small (by omega)
theorem fit_of {s t : ByteArray} (e : s = t) (h : t.size ≤ 1000) : fitS s = some t := by rw [e]; exact fit_small (by omega)
theorem body_ok {x : S37} (h : PlainOK x) {s : ByteArray} (hs : lineF x = some s) : ∃ b, rbodyF x = some b ∧ s = wordR x.f0 ++ b := by
 obtain ⟨s', hs', _, hsz⟩ := line_ok h
 rw [hs] at hs'
 obtain rfl := Option.some.inj hs'
 have key : ∀ w b : ByteArray, s = w ++ b → b.size ≤ 1000 := fun w b e => by
  have := congrArg ByteArray.size e
  rw [app_size] at this
  omega
 cases h with
 | @go0 q a h =>
  obtain ⟨t1, t2, t3⟩ := rtri_small h
  have hs : ((itoaS 0).bind fun a => (tripleF q).bind fun t => fitS (lineGo a t)) = some s := hs
  rw [itoaS_small (small_arm (.inl rfl)), Option.bind_some, tripleF_small h, Option.bind_some] at hs
  have hs := (fitS_eq hs).1
  have e : s = wordR 1 ++ (((⟨#[32]⟩ ++ numB 0) ++ (⟨#[32]⟩ ++ triB q)) ++ ⟨#[59]⟩) := by
   rw [← hs]; apply ba_ext; simp [lineGo, wordR, wordsL, rdOf, ByteArray.data_append]
  refine ⟨_, ?_, e⟩
  show ((rnumF 0).bind fun a => (rtriF q).bind fun t => fitS (((⟨#[32]⟩ ++ a) ++ t) ++ ⟨#[59]⟩)) = _
  rw [rnum_small (small_arm (.inl rfl)), Option.bind_some, t1, Option.bind_some, t2]
  exact fit_of rfl (key _ _ e)
 | @go1 q a h =>
  obtain ⟨t1, t2, t3⟩ := rtri_small h
  have hs : ((itoaS 1).bind fun a => (tripleF q).bind fun t => fitS (lineGo a t)) = some s := hs
  rw [itoaS_small (small_arm (.inr rfl)), Option.bind_some, tripleF_small h, Option.bind_some] at hs
  have hs := (fitS_eq hs).1
  have e : s = wordR 1 ++ (((⟨#[32]⟩ ++ numB 1) ++ (⟨#[32]⟩ ++ triB q)) ++ ⟨#[59]⟩) := by
   rw [← hs]; apply ba_ext; simp [lineGo, wordR, wordsL, rdOf, ByteArray.data_append]
  refine ⟨_, ?_, e⟩
  show ((rnumF 1).bind fun a => (rtriF q).bind fun t => fitS (((⟨#[32]⟩ ++ a) ++ t) ++ ⟨#[59]⟩)) = _
  rw [rnum_small (small_arm (.inr rfl)), Option.bind_some, t1, Option.bind_some, t2]
  exact fit_of rfl (key _ _ e)
 | @home m a h =>
  have hs : ((itoaS m).bind fun a => fitS (lineOne ⟨#[104, 111, 109, 101, 32]⟩ a)) = some s := hs
  rw [itoaS_small (small_arm h), Option.bind_some] at hs
  have hs := (fitS_eq hs).1
  have e : s = wordR 2 ++ ((⟨#[32]⟩ ++ numB m) ++ ⟨#[59]⟩) := by
   rw [← hs]; apply ba_ext; simp [lineOne, wordR, wordsL, rdOf, ByteArray.data_append]
  refine ⟨_, ?_, e⟩
  show ((rnumF m).bind fun a => fitS ((⟨#[32]⟩ ++ a) ++ ⟨#[59]⟩)) = _
  rw [rnum_small (small_arm h), Option.bind_some]
  exact fit_of rfl (key _ _ e)
 | @pick m a p h hp =>
  have hs : ((itoaS m).bind fun a => fitS (lineName (wordB 3) a p none0)) = some s := hs
  rw [itoaS_small (small_arm h), Option.bind_some] at hs
  have hs := (fitS_eq hs).1
  have e : s = wordR 3 ++ ((((⟨#[32]⟩ ++ numB m) ++ ⟨#[32]⟩) ++ p) ++ ⟨#[59]⟩) := by
   rw [← hs]; apply ba_ext; simp [lineName, wordB, none0, wordR, wordsL, rdOf, ByteArray.data_append]
  refine ⟨_, ?_, e⟩
  show ((rnumF m).bind fun a => fitS ((((⟨#[32]⟩ ++ a) ++ ⟨#[32]⟩) ++ p) ++ ⟨#[59]⟩)) = _
  rw [rnum_small (small_arm h), Option.bind_some]
  exact fit_of rfl (key _ _ e)
 | @put m a p h hp =>
  have hs : ((itoaS m).bind fun a => fitS (lineName (wordB 4) a none0 p)) = some s := hs
  rw [itoaS_small (small_arm h), Option.bind_some] at hs
  have hs := (fitS_eq hs).1
  have e : s = wordR 4 ++ ((((⟨#[32]⟩ ++ numB m) ++ ⟨#[32]⟩) ++ p) ++ ⟨#[59]⟩) := by
   rw [← hs]; apply ba_ext; simp [lineName, wordB, none0, wordR, wordsL, rdOf, ByteArray.data_append]
  refine ⟨_, ?_, e⟩
  show ((rnumF m).bind fun a => fitS ((((⟨#[32]⟩ ++ a) ++ ⟨#[32]⟩) ++ p) ++ ⟨#[59]⟩)) = _
  rw [rnum_small (small_arm h), Option.bind_some]
  exact fit_of rfl (key _ _ e)
 | @hand m a p h hp =>
  have hs : ((itoaS m).bind fun a => fitS (lineName (wordB 5) a none0 p)) = some s := hs
  rw [itoaS_small (small_arm h), Option.bind_some] at hs
  have hs := (fitS_eq hs).1
  have e : s = wordR 5 ++ ((((⟨#[32]⟩ ++ numB m) ++ ⟨#[32]⟩) ++ p) ++ ⟨#[59]⟩) := by
   rw [← hs]; apply ba_ext; simp [lineName, wordB, none0, wordR, wordsL, rdOf, ByteArray.data_append]
  refine ⟨_, ?_, e⟩
  show ((rnumF m).bind fun a => fitS ((((⟨#[32]⟩ ++ a) ++ ⟨#[32]⟩) ++ p) ++ ⟨#[59]⟩)) = _
  rw [rnum_small (small_arm h), Option.bind_some]
  exact fit_of rfl (key _ _ e)
 | @wait n a h =>
  have hs : ((itoaS n).bind fun a => fitS (lineOne ⟨#[119, 97, 105, 116, 32]⟩ a)) = some s := hs
  rw [itoaS_small h, Option.bind_some] at hs
  have hs := (fitS_eq hs).1
  have e : s = wordR 6 ++ ((⟨#[32]⟩ ++ numB n) ++ ⟨#[59]⟩) := by
   rw [← hs]; apply ba_ext; simp [lineOne, wordR, wordsL, rdOf, ByteArray.data_append]
  refine ⟨_, ?_, e⟩
  show ((rnumF n).bind fun a => fitS ((⟨#[32]⟩ ++ a) ++ ⟨#[59]⟩)) = _
  rw [rnum_small h, Option.bind_some]
  exact fit_of rfl (key _ _ e)
 | @when_ p q l a hp hq =>
  have hs : fitS (lineWhen q p) = some s := hs
  have hs := (fitS_eq hs).1
  have e : s = wordR 7 ++ ((((⟨#[32]⟩ ++ q) ++ ⟨#[32]⟩) ++ p) ++ ⟨#[32, 123]⟩) := by
   rw [← hs]; apply ba_ext; simp [lineWhen, wordR, wordsL, rdOf, ByteArray.data_append]
  refine ⟨_, ?_, e⟩
  show fitS ((((⟨#[32]⟩ ++ q) ++ ⟨#[32]⟩) ++ p) ++ ⟨#[32, 123]⟩) = _
  exact fit_of rfl (key _ _ e)
 | @both q p a h g =>
  obtain ⟨t1, t2, t3⟩ := rtri_small h
  obtain ⟨u1, u2, u3⟩ := rtri_small g
  have hs : ((tripleF q).bind fun t => (tripleF p).bind fun u => fitS (lineBoth t u)) = some s := hs
  rw [tripleF_small h, Option.bind_some, tripleF_small g, Option.bind_some] at hs
  have hs := (fitS_eq hs).1
  have e : s = wordR 8 ++ (((⟨#[32]⟩ ++ triB q) ++ (⟨#[32]⟩ ++ triB p)) ++ ⟨#[59]⟩) := by
   rw [← hs]; apply ba_ext; simp [lineBoth, wordR, wordsL, rdOf, ByteArray.data_append]
  refine ⟨_, ?_, e⟩
  show ((rtriF q).bind fun t => (rtriF p).bind fun u => fitS ((t ++ u) ++ ⟨#[59]⟩)) = _
  rw [t1, Option.bind_some, u1, Option.bind_some, t2, u2]
  exact fit_of rfl (key _ _ e)
theorem fit_big {s t : ByteArray} (e : s = t) (h : t.size ≤ 1000000) : fitS s = some t := by rw [e]; exact fit_small h
theorem text_ok {d n : Nat} {l : List S37} {ks : List (Int × ByteArray)} (h : VLs d l n ks) : ∀ (k : Nat) (ins pre : ByteArray), d < k → ins.size + 2 * d ≤ 20 → pre.size + n * 200 ≤ 100000 → ∃ out, writtenF k ins l = some out ∧ out.size ≤ n * 200 ∧ ∀ j, k ≤ j → rtextL (rtextF (j - 1)) ins pre l = some (pre ++ out) := by
 induction h with
 | nil d =>
  intro k ins pre hk hi hp
  obtain ⟨k, rfl⟩ : ∃ k', k = k' + 1 := ⟨k - 1, by omega⟩
  refine ⟨⟨#[]⟩, rfl, Nat.zero_le _, fun j hj => ?_⟩
  rw [rtextL]
  exact congrArg some (ba_ext (by simp [ByteArray.data_append]))
 | @plain d n x l ks hx h7 hl ih =>
  intro k ins pre hk hi hp
  obtain ⟨k, rfl⟩ : ∃ k', k = k' + 1 := ⟨k - 1, by omega⟩
  obtain ⟨s, hs, hls, hss⟩ := line_ok hx
  obtain ⟨b, hb, hsb⟩ := body_ok hx hs
  have e1 : (⟨#[10]⟩ : ByteArray).size = 1 := rfl
  have e2 : (⟨#[]⟩ : ByteArray).size = 0 := rfl
  have hsz : (((pre ++ ins) ++ s) ++ ⟨#[10]⟩ : ByteArray).size ≤ pre.size + 121 := by simp only [app_size, e1]; omega
  obtain ⟨u, hu, hsu, htu⟩ := ih (k + 1) ins (((pre ++ ins) ++ s) ++ ⟨#[10]⟩) hk hi (by omega)
  have hkid : kidsW (writtenF k) ins x = some ⟨#[]⟩ := by unfold kidsW; rw [if_neg h7]
  refine ⟨(((ins ++ s) ++ ⟨#[10]⟩) ++ ⟨#[]⟩) ++ u, ?_, ?_, fun j hj => ?_⟩
  · show ((lineF x).bind fun s => (kidsW (writtenF k) ins x).bind fun t => (writtenL (writtenF k) ins l).bind fun u => some ((((ins ++ s) ++ ⟨#[10]⟩) ++ t) ++ u)) = _
    rw [hs, hkid, show writtenL (writtenF k) ins l = some u from hu]
    rfl
  · simp only [app_size, e1, e2]
    omega
  · have ef : fitS ((((pre ++ ins) ++ wordR x.f0) ++ b) ++ ⟨#[10]⟩) = some (((pre ++ ins) ++ s) ++ ⟨#[10]⟩) := fit_big (by rw [hsb]; apply ba_ext; simp [ByteArray.data_append]) (by omega)
    rw [rtextL, hb, Option.bind_some, ef, Option.bind_some, if_neg h7, htu j hj]
    exact congrArg some (ba_ext (by simp [ByteArray.data_append]))
 | @when_ d n m x l ks ls hx h7 hk7 hl ihk ihl =>
  intro k ins pre hk hi hp
  obtain ⟨k, rfl⟩ : ∃ k', k = k' + 1 := ⟨k - 1, by omega⟩
  obtain ⟨s, hs, hls, hss⟩ := line_ok hx
  obtain ⟨b, hb, hsb⟩ := body_ok hx hs
  have e1 : (⟨#[10]⟩ : ByteArray).size = 1 := rfl
  have e2 : (⟨#[125, 10]⟩ : ByteArray).size = 2 := rfl
  have e3 : (⟨#[32, 32]⟩ : ByteArray).size = 2 := rfl
  have e0 : (⟨#[]⟩ : ByteArray).size = 0 := rfl
  have hi2 : (ins ++ ⟨#[32, 32]⟩ : ByteArray).size + 2 * d ≤ 20 := by rw [app_size, e3]; omega
  obtain ⟨t, ht, hst, htt⟩ := ihk k (ins ++ ⟨#[32, 32]⟩) ⟨#[]⟩ (by omega) hi2 (by rw [e0]; omega)
  have hsz : (((pre ++ ins) ++ s) ++ ⟨#[10]⟩ : ByteArray).size ≤ pre.size + 121 := by simp only [app_size, e1]; omega
  have hsz2 : (((((pre ++ ins) ++ s) ++ ⟨#[10]⟩) ++ t) ++ ins ++ ⟨#[125, 10]⟩ : ByteArray).size ≤ pre.size + 143 + m * 200 := by
   simp only [app_size, e1, e2]; omega
  obtain ⟨u, hu, hsu, htu⟩ := ihl (k + 1) ins (((((pre ++ ins) ++ s) ++ ⟨#[10]⟩) ++ t) ++ ins ++ ⟨#[125, 10]⟩) hk hi (by omega)
  have hkid : kidsW (writtenF k) ins x = some (t ++ (ins ++ ⟨#[125, 10]⟩)) := by unfold kidsW; rw [if_pos h7, ht]; rfl
  refine ⟨(((ins ++ s) ++ ⟨#[10]⟩) ++ (t ++ (ins ++ ⟨#[125, 10]⟩))) ++ u, ?_, ?_, fun j hj => ?_⟩
  · show ((lineF x).bind fun s => (kidsW (writtenF k) ins x).bind fun t => (writtenL (writtenF k) ins l).bind fun u => some ((((ins ++ s) ++ ⟨#[10]⟩) ++ t) ++ u)) = _
    rw [hs, hkid, show writtenL (writtenF k) ins l = some u from hu]
    rfl
  · simp only [app_size, e1, e2]
    omega
  · have ef : fitS ((((pre ++ ins) ++ wordR x.f0) ++ b) ++ ⟨#[10]⟩) = some (((pre ++ ins) ++ s) ++ ⟨#[10]⟩) := fit_big (by rw [hsb]; apply ba_ext; simp [ByteArray.data_append]) (by omega)
    have ei : fitS (ins ++ ⟨#[32, 32]⟩) = some (ins ++ ⟨#[32, 32]⟩) := fit_big rfl (by omega)
    have et : rtextF (j - 1) (ins ++ ⟨#[32, 32]⟩) x.f6 = some t := by
     obtain ⟨j', rfl⟩ : ∃ j', j = j' + 2 := ⟨j - 2, by omega⟩
     have := htt (j' + 1) (by omega)
     show rtextL (rtextF j') (ins ++ ⟨#[32, 32]⟩) ⟨#[]⟩ x.f6 = some t
     rw [show j' + 1 - 1 = j' from rfl] at this
     rw [this]
     exact congrArg some (ba_ext (by simp [ByteArray.data_append]))
    have e2f : fitS ((((((pre ++ ins) ++ s) ++ ⟨#[10]⟩) ++ t) ++ ins) ++ ⟨#[125, 10]⟩) = some (((((pre ++ ins) ++ s) ++ ⟨#[10]⟩) ++ t) ++ ins ++ ⟨#[125, 10]⟩) := fit_big rfl (by omega)
    rw [rtextL, hb, Option.bind_some, ef, Option.bind_some, if_pos h7, ei, Option.bind_some, et, Option.bind_some, e2f, Option.bind_some, htu j hj]
    exact congrArg some (ba_ext (by simp [ByteArray.data_append]))
theorem format_text {n : Nat} {l : List S37} {ks : List (Int × ByteArray)} (h : VLs 4 l n ks) (hn : n ≤ 64) : ∃ out, (∀ k, 4 < k → parser_Format.f k l = some out) ∧ ∀ k, 4 < k → rtextF k ⟨#[]⟩ l = some out := by
 have e0 : (⟨#[]⟩ : ByteArray).size = 0 := rfl
 obtain ⟨o1, ts, h1, _⟩ := format_ok h (by decide) (by omega)
 obtain ⟨out, ho, hs, ht⟩ := text_ok h 5 ⟨#[]⟩ ⟨#[]⟩ (by decide) (by rw [e0]; omega) (by rw [e0]; omega)
 refine ⟨o1, h1, fun k hk => ?_⟩
 obtain ⟨k, rfl⟩ : ∃ k', k = k' + 1 := ⟨k - 1, by omega⟩
 have hk2 := ht (k + 1) (by omega)
 show rtextL (rtextF k) ⟨#[]⟩ ⟨#[]⟩ l = some o1
 rw [show k + 1 - 1 = k from rfl] at hk2
 rw [hk2]
 have h5 := h1 5 (by decide)
 unfold parser_Format.f at h5
 rw [ho, Option.bind_some] at h5
 split at h5
 · rw [← Option.some.inj h5]
   exact congrArg some (ba_ext (by simp [ByteArray.data_append]))
 · cases h5
inductive SimL : List S37 → List S37 → Prop where
 | nil : SimL [] []
 | cons {x y : S37} {l m : List S37} : x.f0 = y.f0 → x.f1 = y.f1 → x.f2 = y.f2 → x.f3 = y.f3 → x.f4 = y.f4 → x.f5 = y.f5 → SimL x.f6 y.f6 → SimL l m → SimL (x :: l) (y :: m)
theorem SimL.len {l m : List S37} (h : SimL l m) : l.length = m.length := by
 induction h with
 | nil => rfl
 | cons _ _ _ _ _ _ _ _ _ ih => simp [ih]
theorem VLs.sim {d n : Nat} {l : List S37} {ks : List (Int × ByteArray)} (h : VLs d l n ks) : SimL l l := by
 induction h with
 | nil => exact .nil
 | @plain d n x l ks hx h7 _ ih =>
  refine .cons rfl rfl rfl rfl rfl rfl ?_ ih
  cases hx <;> first | exact .nil | exact absurd rfl h7
 | when_ _ _ _ _ ihk ihl => exact .cons rfl rfl rfl rfl rfl rfl ihk ihl
theorem same_true {EQ : List S37 → List S37 → Option Bool} {x y : S37} (h0 : x.f0 = y.f0) (h1 : x.f1 = y.f1) (h2 : x.f2 = y.f2) (h3 : x.f3 = y.f3) (h4 : x.f4 = y.f4) (h5 : x.f5 = y.f5) (h : EQ x.f6 y.f6 = some true) : sameS EQ x y = some true := by
 unfold sameS sameE
 rw [h0, h1, h2, h3, h4, h5, h]
 simp
theorem SimL.equal {l m : List S37} (h : SimL l m) : ∃ K, ∀ k, K ≤ k → parser_Equal.f k l m = some true := by
 have key : ∃ K, ∀ k, K ≤ k → eqLoop (parser_Equal.f k) l m = some true := by
  induction h with
  | nil => exact ⟨0, fun k _ => rfl⟩
  | @cons x y l m h0 h1 h2 h3 h4 h5 hk hl ihk ihl =>
   obtain ⟨K1, g1⟩ := ihk
   obtain ⟨K2, g2⟩ := ihl
   refine ⟨max (K1 + 1) K2, fun k hkk => ?_⟩
   have hkid : parser_Equal.f k x.f6 y.f6 = some true := by
    obtain ⟨k, rfl⟩ : ∃ j, k = j + 1 := ⟨k - 1, by omega⟩
    show (if x.f6.length = y.f6.length then eqLoop (parser_Equal.f k) x.f6 y.f6 else some false) = _
    rw [if_pos hk.len]
    exact g1 k (by omega)
   show ((sameS (parser_Equal.f k) x y).bind fun t => if t = true then eqLoop (parser_Equal.f k) l m else some false) = _
   rw [same_true h0 h1 h2 h3 h4 h5 hkid]
   exact g2 k (by omega)
 obtain ⟨K, hK⟩ := key
 refine ⟨K + 1, fun k hk => ?_⟩
 obtain ⟨k, rfl⟩ : ∃ j, k = j + 1 := ⟨k - 1, by omega⟩
 show (if l.length = m.length then eqLoop (parser_Equal.f k) l m else some false) = _
 rw [if_pos h.len]
 exact hK k (by omega)
def TokOK (ts : List S67) : Prop := ∀ t ∈ ts, (t.f0 = 1 → TokText 1 t.f1) ∧ (t.f0 = 2 → Small (numOf t))
def Sub (s s' : Rs) : Prop := s'.toks <:+ s.toks ∧ s'.n = s.n ∧ s'.fl = s.fl ∧ s'.over = s.over
theorem Sub.refl (s : Rs) : Sub s s := ⟨List.suffix_refl _, rfl, rfl, rfl⟩
theorem Sub.trans {a b c : Rs} (h : Sub a b) (g : Sub b c) : Sub a c := ⟨g.1.trans h.1, g.2.1.trans h.2.1, g.2.2.1.trans h.2.2.1, g.2.2.2.trans h.2.2.2⟩
theorem take_sub (p : S67 → Bool) (fin : Int) (s : Rs) : Sub s (takeS p fin s).2 ∧ ∀ t, (takeS p fin s).1 = .ok t → t ∈ s.toks ∧ p t = true ∧ t.f0 ≠ 0 := by
 obtain ⟨ts, n, fl, o⟩ := s
 cases ts with
 | nil => exact ⟨Sub.refl _, fun t h => by simp [takeS] at h⟩
 | cons t ts =>
  by_cases c : (t.f0 == 0 || !p t) = true
  · have e : takeS p fin ⟨t :: ts, n, fl, o⟩ = (.error (110, t.f2), ⟨t :: ts, n, fl, o⟩) := by simp only [takeS, if_pos c]
    rw [e]
    exact ⟨Sub.refl _, fun t h => by simp at h⟩
  · have e : takeS p fin ⟨t :: ts, n, fl, o⟩ = (.ok t, ⟨ts, n, fl, o⟩) := by simp only [takeS, if_neg c]
    rw [e]
    refine ⟨⟨List.suffix_cons _ _, rfl, rfl, rfl⟩, fun t' h => ?_⟩
    obtain rfl : t = t' := by simpa using h
    simp only [Bool.or_eq_true, beq_iff_eq, Bool.not_eq_true', not_or, Bool.not_eq_false] at c
    exact ⟨List.mem_cons_self, c.2, c.1⟩
theorem obind_inv {α β : Type} {r : Step α} {f : α → Rs → Option (Step β)} {y : Step β} (h : obind r f = some y) : (∃ a, r.1 = .ok a ∧ f a r.2 = some y) ∨ (∃ e, r.1 = .error e ∧ y = (.error e, r.2)) := by
 unfold obind at h
 cases hr : r.1 with
 | ok a => rw [hr] at h; exact .inl ⟨a, rfl, h⟩
 | error e => rw [hr] at h; exact .inr ⟨e, rfl, (Option.some.inj h).symm⟩
theorem map_sub {α β : Type} {r : Step α} {f : α → β} {b : β} (h : (r.map f).1 = .ok b) : ∃ a, r.1 = .ok a ∧ b = f a := by
 unfold Step.map at h
 cases hr : r.1 with
 | ok a => rw [hr] at h; simp at h; exact ⟨a, rfl, h.symm⟩
 | error e => rw [hr] at h; simp at h
theorem bind_inv {α β : Type} {r : Step α} {f : α → Rs → Step β} : (∃ a, r.1 = .ok a ∧ r.bind f = f a r.2) ∨ (∃ e, r.1 = .error e ∧ r.bind f = (.error e, r.2)) := by
 cases hr : r.1 with
 | ok a => exact .inl ⟨a, rfl, Step.bind_ok hr⟩
 | error e => exact .inr ⟨e, rfl, Step.bind_err hr⟩
theorem number_sub (fin : Int) (s : Rs) (hs : TokOK s.toks) : Sub s (numberS fin s).2 ∧ ∀ n, (numberS fin s).1 = .ok n → Small n := by
 have h := take_sub isNumber fin s
 refine ⟨h.1, fun n hn => ?_⟩
 obtain ⟨t, ht, rfl⟩ := map_sub hn
 obtain ⟨hm, hp, _⟩ := h.2 t ht
 exact (hs t hm).2 (by simpa [isNumber] using hp)
theorem arm_sub (fin : Int) (s : Rs) : Sub s (armS fin s).2 ∧ ∀ n, (armS fin s).1 = .ok n → n = 0 ∨ n = 1 := by
 have h := take_sub isArm fin s
 refine ⟨h.1, fun n hn => ?_⟩
 obtain ⟨t, ht, rfl⟩ := map_sub hn
 unfold armOf
 split
 · exact .inr rfl
 · exact .inl rfl
theorem name_sub (fin : Int) (s : Rs) (hs : TokOK s.toks) : Sub s (nameS fin s).2 ∧ ∀ n, (nameS fin s).1 = .ok n → NameOK n := by
 have h := take_sub isNamed fin s
 refine ⟨h.1, fun n hn => ?_⟩
 obtain ⟨t, ht, rfl⟩ := map_sub hn
 obtain ⟨hm, hp, _⟩ := h.2 t ht
 simp only [isNamed, Bool.and_eq_true, beq_iff_eq, decide_eq_true_eq, Bool.not_eq_true'] at hp
 exact ⟨(hs t hm).1 hp.1, by omega, hp.2.2⟩
theorem TokOK.sub {s s' : Rs} (h : TokOK s.toks) (g : Sub s s') : TokOK s'.toks := fun t ht => h t (g.1.subset ht)
def StepOK {α : Type} (P : α → Prop) (s : Rs) (r : Step α) : Prop := Sub s r.2 ∧ ∀ a, r.1 = .ok a → P a
theorem StepOK.bind {α β : Type} {P : α → Prop} {Q : β → Prop} {s : Rs} {r : Step α} {f : α → Rs → Step β} (h : StepOK P s r) (g : ∀ a, P a → StepOK Q r.2 (f a r.2)) : StepOK Q s (r.bind f) := by
 rcases bind_inv (r := r) (f := f) with ⟨a, ha, e⟩ | ⟨e', he, e⟩
 · rw [e]
   have := g a (h.2 a ha)
   exact ⟨h.1.trans this.1, this.2⟩
 · rw [e]
   exact ⟨h.1, fun b hb => by simp at hb⟩
def OOK {β : Type} (Q : β → Prop) (s : Rs) (o : Option (Step β)) : Prop := ∀ y, o = some y → StepOK Q s y
theorem OOK.obind {α β : Type} {P : α → Prop} {Q : β → Prop} {s : Rs} {r : Step α} {f : α → Rs → Option (Step β)} (h : StepOK P s r) (g : ∀ a, P a → OOK Q r.2 (f a r.2)) : OOK Q s (PPx.obind r f) := by
 intro y hy
 rcases obind_inv hy with ⟨a, ha, e⟩ | ⟨e', he, e⟩
 · have := g a (h.2 a ha) y e
   exact ⟨h.1.trans this.1, this.2⟩
 · rw [e]
   exact ⟨h.1, fun b hb => by simp at hb⟩
theorem sign_ok' (c : ByteArray) (fin : Int) (s : Rs) : StepOK (fun _ => True) s (signS c fin s) := ⟨(take_sub _ fin s).1, fun _ _ => trivial⟩
theorem triple_sub (fin : Int) (s : Rs) (hs : TokOK s.toks) : StepOK SmallQ s (tripleS fin s) := by
 unfold tripleS
 refine StepOK.bind (sign_ok' _ fin s) fun _ _ => ?_
 have h1 := hs.sub (sign_ok' ⟨#[40]⟩ fin s).1
 refine StepOK.bind (number_sub fin _ h1) fun a ha => ?_
 have h2 := h1.sub (number_sub fin _ h1).1
 unfold tri1
 refine StepOK.bind (sign_ok' _ fin _) fun _ _ => ?_
 have h3 := h2.sub (sign_ok' ⟨#[44]⟩ fin _).1
 refine StepOK.bind (number_sub fin _ h3) fun b hb => ?_
 have h4 := h3.sub (number_sub fin _ h3).1
 unfold tri2
 refine StepOK.bind (sign_ok' _ fin _) fun _ _ => ?_
 have h5 := h4.sub (sign_ok' ⟨#[44]⟩ fin _).1
 refine StepOK.bind (number_sub fin _ h5) fun c hc => ?_
 unfold tri3
 refine StepOK.bind (sign_ok' _ fin _) fun _ _ => ?_
 exact ⟨Sub.refl _, fun q hq => by obtain rfl := Except.ok.inj hq; exact ⟨ha, hb, hc⟩⟩
theorem semi_sub {P : S37 → Prop} (fin : Int) (x : S37) (s : Rs) (hx : P x) : OOK P s (semiS fin x s) := by
 intro y hy
 obtain rfl := Option.some.inj hy
 refine StepOK.bind (sign_ok' _ fin s) fun _ _ => ?_
 exact ⟨Sub.refl _, fun q hq => by obtain rfl := Except.ok.inj hq; exact hx⟩
theorem rest_sub (rec : Int → Rs → Option (List S37 × Rs)) (fin deep k c : Int) (s : Rs) (hs : TokOK s.toks) (h7 : k ≠ 7) (hk : 1 ≤ k ∧ k ≤ 8) : OOK (fun x => PlainOK x ∧ x.f0 ≠ 7) s (restS rec fin deep k c s) := by
 unfold restS
 by_cases k1 : k = 1
 · rw [if_pos k1]
   refine OOK.obind (arm_sub fin s) fun a ha => ?_
   refine OOK.obind (triple_sub fin _ (hs.sub (arm_sub fin s).1)) fun q hq => ?_
   refine semi_sub fin _ _ ?_
   rcases ha with rfl | rfl
   · exact ⟨.go0 hq, by simp⟩
   · exact ⟨.go1 hq, by simp⟩
 rw [if_neg k1]
 by_cases k2 : k = 2
 · rw [if_pos k2]
   refine OOK.obind (arm_sub fin s) fun a ha => ?_
   exact semi_sub fin _ _ ⟨.home ha, by simp⟩
 rw [if_neg k2]
 by_cases k3 : k = 3
 · rw [if_pos k3]
   refine OOK.obind (arm_sub fin s) fun a ha => ?_
   refine OOK.obind (name_sub fin _ (hs.sub (arm_sub fin s).1)) fun q hq => ?_
   exact semi_sub fin _ _ ⟨.pick ha hq, by simp⟩
 rw [if_neg k3]
 by_cases k4 : k = 4
 · rw [if_pos k4]
   refine OOK.obind (arm_sub fin s) fun a ha => ?_
   refine OOK.obind (name_sub fin _ (hs.sub (arm_sub fin s).1)) fun q hq => ?_
   exact semi_sub fin _ _ ⟨.put ha hq, by simp⟩
 rw [if_neg k4]
 by_cases k5 : k = 5
 · rw [if_pos k5]
   refine OOK.obind (arm_sub fin s) fun a ha => ?_
   refine OOK.obind (name_sub fin _ (hs.sub (arm_sub fin s).1)) fun q hq => ?_
   exact semi_sub fin _ _ ⟨.hand ha hq, by simp⟩
 rw [if_neg k5]
 by_cases k6 : k = 6
 · rw [if_pos k6]
   refine OOK.obind (number_sub fin s hs) fun a ha => ?_
   exact semi_sub fin _ _ ⟨.wait ha, by simp⟩
 rw [if_neg k6]
 have k8 : k = 8 := by omega
 rw [if_pos k8]
 refine OOK.obind (triple_sub fin s hs) fun q hq => ?_
 refine OOK.obind (triple_sub fin _ (hs.sub (triple_sub fin s hs).1)) fun p hp => ?_
 exact semi_sub fin _ _ ⟨.both hq hp, by simp⟩
theorem index_ge (l : List ByteArray) (s : ByteArray) (hl : l.length ≤ 1000) : ∀ (k : Nat) (i r : Int), 0 ≤ i → i ≤ l.length → slices_Index_string_string.l0 k l s l.length i = some r → r = -1 ∨ i ≤ r := by
 intro k
 induction k with
 | zero => intro i r _ _ h; simp [slices_Index_string_string.l0] at h
 | succ k ih =>
  intro i r h0 h1 h
  rw [slices_Index_string_string.l0] at h
  by_cases hlt : i < (l.length : Int)
  · rw [if_pos hlt, if_pos h0, if_pos hlt, wrap_small' (by omega) (by omega)] at h
    split at h
    · have := Option.some.inj h; omega
    · have := ih (i + 1) r (by omega) (by omega) h; omega
  · rw [if_neg hlt] at h
    have := Option.some.inj h; omega
theorem word0 {s : ByteArray} (h : wordIx s = 0) : s = ⟨#[]⟩ := by
 have hf := (wordIx_f s).1
 rw [h] at hf
 have hf : slices_Index_string_string.l0 20 wordsL s (wordsL.length : Int) 0 = some 0 := hf
 rw [slices_Index_string_string.l0, if_pos (by decide), if_pos (by decide), if_pos (by decide), wrap_small' (by decide) (by decide)] at hf
 by_cases he : s.toList = (rdOf ByteArray.empty wordsL 0).toList
 · rw [ByteArray.toList_eq, ByteArray.toList_eq] at he
   apply ByteArray.ext
   exact Array.toList_inj.1 he
 · rw [if_neg he] at hf
   have := index_ge wordsL s (by decide) _ _ _ (by decide) (by decide) hf
   omega
def Inv (s : Rs) : Prop := 0 ≤ s.n ∧ s.n ≤ 65 ∧ (s.over = false → s.n ≤ 64)
def Res (deep : Int) (s : Rs) (out : List S37) (r : List S37 × Rs) : Prop := r.2.toks <:+ s.toks ∧ Inv r.2 ∧ s.n ≤ r.2.n ∧ ∃ l n ks, r.1 = out ++ l ∧ VLs (4 - deep).toNat l n ks ∧ s.n + n ≤ r.2.n ∧ (n ≠ 0 → s.n + n ≤ 64)
def RecOK (deep : Int) (rec : Int → Rs → Option (List S37 × Rs)) : Prop := ∀ s r, rec (deep + 1) s = some r → TokOK s.toks → Inv s → deep ≠ 4 → Res (deep + 1) s [] r
theorem Inv.sub {s s' : Rs} (h : Inv s) (g : Sub s s') : Inv s' := by
 obtain ⟨_, hn, _, ho⟩ := g
 unfold Inv
 rw [hn, ho]
 exact h
def StmOut (deep : Int) (s : Rs) (y : Step S37) : Prop := y.2.toks <:+ s.toks ∧ Inv y.2 ∧ s.n ≤ y.2.n ∧ ∀ x, y.1 = .ok x → PlainOK x ∧ ((x.f0 ≠ 7) ∨ (x.f0 = 7 ∧ deep ≠ 4 ∧ ∃ m ls, VLs (4 - (deep + 1)).toNat x.f6 m ls ∧ s.n + m ≤ y.2.n))
theorem out_of_step {deep : Int} {s s1 : Rs} {y : Step S37} (h1 : Sub s s1) (hI : Inv s) (h : StepOK (fun x => PlainOK x ∧ x.f0 ≠ 7) s1 y) : StmOut deep s y := by
 have hs := h1.trans h.1
 refine ⟨hs.1, hI.sub hs, by rw [hs.2.1]; exact Int.le_refl _, fun x hx => ⟨(h.2 x hx).1, .inl (h.2 x hx).2⟩⟩
theorem err_out {deep : Int} {s s1 : Rs} {e : Int × Int} (h1 : Sub s s1) (hI : Inv s) : StmOut deep s (.error e, s1) := ⟨h1.1, hI.sub h1, by rw [h1.2.1]; exact Int.le_refl _, fun x hx => by simp at hx⟩
theorem isWord_ix {s : ByteArray} (h : isWord s = true) : 0 ≤ wordIx s ∧ wordIx s ≤ 8 := by
 have h1 : wordIx s ≥ 0 := by simpa [isWord] using h
 have := (wordIx_f s).2.2
 omega
theorem stmt_sound {rec : Int → Rs → Option (List S37 × Rs)} {fin deep : Int} (hr : RecOK deep rec) (hd : 0 ≤ deep) (hd4 : deep ≤ 4) {s : Rs} (hs : TokOK s.toks) (hI : Inv s) {y : Step S37} (h : stmtS rec fin deep s = some y) : StmOut deep s y := by
 unfold stmtS at h
 rcases obind_inv h with ⟨t, ht, h⟩ | ⟨e, he, rfl⟩
 case inr => exact err_out (take_sub isKey fin s).1 hI
 have htk := take_sub isKey fin s
 obtain ⟨hm, hp, hn0⟩ := htk.2 t ht
 have hk : t.f0 = 1 ∧ isWord t.f1 = true := by simpa [isKey] using hp
 have hix := isWord_ix hk.2
 have hs1 := hs.sub htk.1
 have hI1 := hI.sub htk.1
 by_cases h0 : wordIx t.f1 = 0
 · -- the empty keyword is no token
   exfalso
   have hz := ((hs t hm).1 hk.1).1
   rw [word0 h0] at hz
   exact absurd hz (by decide)
 by_cases h7 : wordIx t.f1 = 7
 · rw [h7] at h
   unfold restS at h
   rw [if_neg (by decide), if_neg (by decide), if_neg (by decide), if_neg (by decide), if_neg (by decide), if_neg (by decide), if_neg (by decide), if_pos rfl] at h
   by_cases h4 : deep = 4
   · rw [if_pos h4] at h
     obtain rfl := Option.some.inj h
     exact err_out htk.1 hI
   rw [if_neg h4] at h
   have hw : wrap64 (deep + 1) = deep + 1 := by unfold wrap64; omega
   have n1 := name_sub fin (takeS isKey fin s).2 hs1
   rcases obind_inv h with ⟨p, hp1, h⟩ | ⟨e, he, rfl⟩
   case inr => exact err_out (htk.1.trans n1.1) hI
   have hs2 := hs1.sub n1.1
   have n2 := name_sub fin _ hs2
   rcases obind_inv h with ⟨q, hq1, h⟩ | ⟨e, he, rfl⟩
   case inr => exact err_out (htk.1.trans (n1.1.trans n2.1)) hI
   have hs3 := hs2.sub n2.1
   have n3 := sign_ok' ⟨#[123]⟩ fin (nameS fin (nameS fin (takeS isKey fin s).2).2).2
   rcases obind_inv h with ⟨u, hu1, h⟩ | ⟨e, he, rfl⟩
   case inr => exact err_out (htk.1.trans (n1.1.trans (n2.1.trans n3.1))) hI
   have hs4 := hs3.sub n3.1
   have hsub := htk.1.trans (n1.1.trans (n2.1.trans n3.1))
   obtain ⟨r, hr1, h⟩ := Option.bind_eq_some_iff.1 h
   rw [hw] at hr1
   obtain ⟨ha, hb, hc, l, n, ks, hl, hv, hn, hn64⟩ := hr _ _ hr1 hs4 (hI.sub hsub) h4
   obtain rfl := Option.some.inj h
   have hn1 := hsub.2.1
   rw [List.nil_append] at hl
   have n5 := sign_ok' ⟨#[125]⟩ fin r.2
   rcases bind_inv (r := signS ⟨#[125]⟩ fin r.2) (f := fun _ s => (.ok (⟨7, 0, q, p, 0, ⟨⟨0, 0, 0⟩, ⟨0, 0, 0⟩⟩, r.1, t.f2⟩ : S37), s)) with ⟨a, ha', e⟩ | ⟨e', he, e⟩
   · rw [e]
     refine ⟨n5.1.1.trans (ha.trans hsub.1), hb.sub n5.1, by have := n5.1.2.1; simp only; omega, fun x hx => ?_⟩
     obtain rfl := Except.ok.inj hx
     refine ⟨.when_ (n2.2 q hq1) (n1.2 p hp1), .inr ⟨rfl, h4, n, ks, ?_, ?_⟩⟩
     · rw [← hl] at hv; exact hv
     · have := n5.1.2.1; simp only; omega
   · rw [e]
     refine ⟨n5.1.1.trans (ha.trans hsub.1), hb.sub n5.1, by have := n5.1.2.1; simp only; omega, fun x hx => by simp at hx⟩
 · exact out_of_step htk.1 hI (rest_sub rec fin deep _ _ _ hs1 h7 (by omega) y h)
theorem skip_suf : ∀ (ts : List S67), skipS ts <:+ ts
 | [] => List.suffix_refl _
 | x :: ts => by
  unfold skipS
  split
  · exact List.suffix_cons _ _
  · split
    · exact List.suffix_refl _
    · exact (skip_suf ts).trans (List.suffix_cons _ _)
theorem one_sound {rec : Int → Rs → Option (List S37 × Rs)} {fin deep : Int} (hr : RecOK deep rec) (hd : 0 ≤ deep) (hd4 : deep ≤ 4) {s : Rs} (hs : TokOK s.toks) (hI : Inv s) (ho : s.over = false) {x : Option S37} {s' : Rs} (h : oneS rec fin deep s = some (x, s')) :
 s'.toks <:+ s.toks ∧ Inv s' ∧ s.n ≤ s'.n ∧ ∀ z, x = some z → s'.over = false ∧ PlainOK z ∧ ((z.f0 ≠ 7) ∨ (z.f0 = 7 ∧ deep ≠ 4 ∧ ∃ m ls, VLs (4 - (deep + 1)).toNat z.f6 m ls ∧ s.n + m ≤ s'.n)) := by
 unfold oneS at h
 obtain ⟨⟨y, s1⟩, hy, h⟩ := Option.bind_eq_some_iff.1 h
 obtain ⟨h1, h2, h3, h4⟩ := stmt_sound hr hd hd4 hs hI hy
 simp only at h1 h2 h3 h4
 cases y with
 | ok z =>
  simp only [Option.some.injEq, Prod.mk.injEq] at h
  obtain ⟨hx, rfl⟩ := h
  refine ⟨h1, h2, h3, fun z' hz => ?_⟩
  by_cases hov : s1.over = true
  · rw [if_pos hov] at hx; rw [← hx] at hz; cases hz
  · rw [if_neg hov] at hx
    rw [← hx] at hz
    obtain rfl := Option.some.inj hz
    exact ⟨by simpa using hov, h4 z rfl⟩
 | error f =>
  simp only at h
  split at h
  · simp only [Option.some.injEq, Prod.mk.injEq] at h
    obtain ⟨rfl, rfl⟩ := h
    exact ⟨h1, h2, h3, fun z hz => by cases hz⟩
  · rename_i hov
    split at h
    · cases h
    · simp only [Option.some.injEq, Prod.mk.injEq] at h
      obtain ⟨rfl, rfl⟩ := h
      refine ⟨(skip_suf _).trans h1, ⟨h2.1, h2.2.1, fun _ => h2.2.2 (by simpa using hov)⟩, h3, fun z hz => by cases hz⟩
theorem stmts_sound (fin : Int) : ∀ (k : Nat) (deep : Int) (s : Rs) (out : List S37) (r : List S37 × Rs), stmtsS fin k deep s out = some r → TokOK s.toks → 0 ≤ deep → deep ≤ 4 → Inv s → Res deep s out r
 | 0, deep, s, out, r => fun h => by simp [stmtsS] at h
 | k + 1, deep, s, out, r => fun h hs hd hd4 hI => by
  have ih := stmts_sound fin k
  have none_ : ∀ (s' : Rs), s'.toks <:+ s.toks → Inv s' → s.n ≤ s'.n → Res deep s out (out, s') := fun s' a b c => ⟨a, b, c, [], 0, [], by simp, .nil _, by simpa using c, fun h => absurd rfl h⟩
  rw [stmtsS] at h
  by_cases c1 : s.over = true ∨ s.toks = []
  · rw [if_pos c1] at h
    obtain rfl := Option.some.inj h
    exact none_ s (List.suffix_refl _) hI (Int.le_refl _)
  rw [if_neg c1] at h
  have hov : s.over = false := by simpa using fun h' => c1 (.inl h')
  have h64 := hI.2.2 hov
  have hn0 := hI.1
  by_cases c2 : isSign ⟨#[125]⟩ (lookS fin s.toks) = true
  · rw [if_pos c2] at h
    by_cases c3 : deep > 0
    · rw [if_pos c3] at h
      obtain rfl := Option.some.inj h
      exact none_ s (List.suffix_refl _) hI (Int.le_refl _)
    rw [if_neg c3] at h
    split at h
    · cases h
    · obtain ⟨a, b, c, d⟩ := ih _ _ _ _ h (fun t ht => hs t (List.mem_of_mem_tail ht)) hd hd4 ⟨hI.1, hI.2.1, fun _ => h64⟩
      exact ⟨a.trans (List.tail_suffix _), b, c, d⟩
  rw [if_neg c2] at h
  have hw : wrap64 (s.n + 1) = s.n + 1 := by unfold wrap64; omega
  rw [hw] at h
  by_cases c4 : s.n + 1 > 64
  · rw [if_pos c4] at h
    split at h
    · cases h
    · obtain rfl := Option.some.inj h
      exact none_ _ (List.suffix_refl _) ⟨by simp only; omega, by simp only; omega, fun h => by simp at h⟩ (by simp only; omega)
  rw [if_neg c4] at h
  split at h
  · cases h
  obtain ⟨⟨x, s1⟩, hx, h⟩ := Option.bind_eq_some_iff.1 h
  have hrec : RecOK deep (fun d s => stmtsS fin k d s []) := fun s' r' h' ht hi hd' => ih _ _ _ _ h' ht (by omega) (by omega) hi
  obtain ⟨h1, h2, h3, h4⟩ := one_sound hrec hd hd4 (s := { s with n := s.n + 1 }) hs ⟨by simp only; omega, by simp only; omega, fun _ => by simp only; omega⟩ hov hx
  simp only at h1 h2 h3 h4 h
  cases x with
  | none =>
   obtain ⟨a, b, c, l, n, ks, hl, hv, hn, hn64⟩ := ih _ _ _ _ h (fun t ht => hs t (h1.subset ht)) hd hd4 h2
   exact ⟨a.trans h1, b, by omega, l, n, ks, hl, hv, by omega, fun hne => by have := hn64 hne; omega⟩
  | some z =>
   obtain ⟨hov1, hz, hz7⟩ := h4 z rfl
   have h641 := h2.2.2 hov1
   obtain ⟨a, b, c, l, n, ks, hl, hv, hn, hn64⟩ := ih _ _ _ _ h (fun t ht => hs t (h1.subset ht)) hd hd4 h2
   refine ⟨a.trans h1, b, by omega, z :: l, ?_⟩
   rcases hz7 with hz7 | ⟨hz7, hd', m, ls, hvk, hmk⟩
   · refine ⟨n + 1, lineK z ++ ks, by rw [hl]; simp, .plain hz hz7 hv, by omega, fun _ => ?_⟩
     by_cases hn' : n = 0
     · omega
     · have := hn64 hn'; omega
   · obtain ⟨d, hd2⟩ : ∃ d, (4 - deep).toNat = d + 1 := ⟨(4 - deep).toNat - 1, by omega⟩
     have hd3 : (4 - (deep + 1)).toNat = d := by omega
     rw [hd2] at hv ⊢
     rw [hd3] at hvk
     refine ⟨n + m + 1, lineK z ++ (ls ++ ((3, cbr) :: ks)), by rw [hl]; simp, .when_ hz hz7 hvk hv, by omega, fun _ => ?_⟩
     by_cases hn' : n = 0
     · omega
     · have := hn64 hn'; omega
theorem tok_alone {s : ByteArray} {p : Int} (h0 : 0 ≤ p) (h1 : p < (s.size : Int)) (hok : (nextAt s p).2.2.2.1 = true) (h5 : at_ s p ≠ 5) (h6 : at_ s p ≠ 6) : TokText (nextAt s p).1 (nextAt s p).2.1 := by
 obtain ⟨a1, a2, a3⟩ := nextAt_at hok
 have hn := nextAt_range s p h0 (by omega) hok
 have hsz := size_extractI (s := s) (a := p) (b := (nextAt s p).2.2.2.2) h0 (by omega) hn.2
 have M : Move s (s.extract p.toNat (nextAt s p).2.2.2.2.toNat) (-p) p (nextAt s p).2.2.2.2 := by
  refine ⟨h0, hn.2, by omega, by omega, fun x hx hx2 => ?_⟩
  rw [bt_extract h0 (by omega) (by omega) hn.2]
  congr 1; omega
 have hx := M.next (i := p) (Int.le_refl _) (by omega) (Int.le_refl _) (fun _ => soft_end (by omega)) (.inr (.inl hok))
 have hat := M.at (x := p) (Int.le_refl _) (by omega)
 rw [show p + -p = 0 by omega] at hx hat
 rw [hok, a1, ← a3] at hx
 rw [← a3] at hat hsz
 simp only [if_true] at hx
 refine ⟨by omega, by rw [hat]; exact h5, by rw [hat]; exact h6, ?_⟩
 rw [hx]
 refine Prod.ext rfl (Prod.ext rfl (Prod.ext (by simp only; omega) (Prod.ext rfl (by simp only; omega))))
theorem path_tok {s : ByteArray} {i j : Int} {ts : List S67} (h : Path s i ts j) : 0 ≤ i → i ≤ (s.size : Int) → ∀ t ∈ ts, ∃ p, i ≤ p ∧ p < (s.size : Int) ∧ at_ s p ≠ 5 ∧ at_ s p ≠ 6 ∧ (nextAt s p).2.2.2.1 = true ∧ t = tokAt s p := by
 induction h with
 | nil i => intro _ _ t ht; cases ht
 | @cons i j ts hlt hok hp ih =>
  intro h0 h1 t ht
  have hr := skipTo_range s i h0 h1
  have hn := nextAt_range s _ (by omega) hr.2 hok
  obtain ⟨_, h5, h6⟩ := skip_gap s i h0 h1
  rcases List.mem_cons.1 ht with rfl | ht
  · exact ⟨skipTo s i, hr.1, hlt, h5, h6, hok, rfl⟩
  · obtain ⟨p, hp0, hp1⟩ := ih (by omega) hn.2 t ht
    exact ⟨p, by omega, hp1⟩
theorem decNat_lt {l : List UInt8} {m : Nat} (h : Lib.decNat l = some m) (hl : l.length ≤ 9) : m < 1000000000 := by
 unfold Lib.decNat at h
 split at h
 · cases h
 · have h1 := Lib.decFrom_lt _ 0 m h
   have h2 := Nat.pow_le_pow_right (n := 10) (by decide) hl
   rw [Nat.zero_add, Nat.one_mul] at h1
   have e : 10 ^ 9 = 1000000000 := by decide
   omega
theorem atoi_small {b : UInt8} {r : List UInt8} {n : Int} (h : Lib.atoi (b :: r) = some n) (hr : r.length ≤ 8 ∨ (b = 45 ∧ r.length ≤ 9)) : Small n := by
 unfold Lib.atoi at h
 have h : (if (b == 45) = true then (Lib.decNat r).map fun (m : Nat) => -(m : Int) else if (b == 43) = true then (Lib.decNat r).map fun (m : Nat) => (m : Int) else (Lib.decNat (b :: r)).map fun (m : Nat) => (m : Int)) = some n := h
 by_cases c : (b == 45) = true
 · rw [if_pos c] at h
   obtain ⟨m, hm, rfl⟩ := Option.map_eq_some_iff.1 h
   have := decNat_lt hm (by omega)
   exact ⟨by omega, by omega⟩
 · rw [if_neg c] at h
   have hr8 : r.length ≤ 8 := by
    rcases hr with h | ⟨rfl, _⟩
    · exact h
    · exact absurd rfl c
   split at h
   · obtain ⟨m, hm, rfl⟩ := Option.map_eq_some_iff.1 h
     have := decNat_lt hm (by omega)
     exact ⟨by omega, by omega⟩
   · obtain ⟨m, hm, rfl⟩ := Option.map_eq_some_iff.1 h
     have := decNat_lt hm (by simp; omega)
     exact ⟨by omega, by omega⟩
theorem token_small {s : ByteArray} {i : Int} (h0 : 0 ≤ i) (hk : at_ s i = 7 ∨ at_ s i = 2) (hok : numOK (at_ s i == 7) (s.extract (firstAt (at_ s i == 7) i).toNat (scanTo (digitAt s) s.size (firstAt (at_ s i == 7) i)).toNat) = true) :
 ∀ n, Lib.atoi (s.extract i.toNat (scanTo (digitAt s) s.size (firstAt (at_ s i == 7) i)).toNat).data.toList = some n → Small n := by
 intro n hn
 have hlt : i < (s.size : Int) := by rcases hk with h | h <;> exact (at_some (by decide) h).1
 have hsz := numOK_size hok
 rcases hk with h | h
 · have hb : (at_ s i == 7) = true := by simp [h]
   rw [hb] at hok hsz hn
   have hf : firstAt true i = i + 1 := rfl
   rw [hf] at hok hsz hn
   have hr := scanTo_range (digitAt s) s.size (i + 1) (by omega)
   rw [ByteArray.size_extract] at hsz
   obtain ⟨hi, he⟩ := data_ext0 (s := s) (j := scanTo (digitAt s) s.size (i + 1)) h0 (by omega) hr.2
   rw [he] at hn
   have h7 : s[i.toNat] = 45 := by
    have h5 := (at_some (by decide) h).2
    have h6 := bt_at s i hi
    have h8 : (bt s i).toNat = 45 := by
     revert h5; generalize (bt s i).toNat = c
     intro h5; unfold cls at h5; repeat' split at h5
     all_goals first | omega | contradiction
    apply UInt8.toNat_inj.1
    show _ = 45
    omega
   refine atoi_small hn (.inr ⟨h7, ?_⟩)
   rw [data_size, ByteArray.size_extract]; omega
 · have hb : (at_ s i == 7) = false := by simp [h]
   rw [hb] at hok hsz hn
   have hf : firstAt false i = i := rfl
   rw [hf] at hok hsz hn
   have hr := scanTo_range (digitAt s) s.size i (by omega)
   rw [ByteArray.size_extract] at hsz
   obtain ⟨hi, he⟩ := data_ext0 (s := s) (j := scanTo (digitAt s) s.size i) h0 (by omega) hr.2
   rw [he] at hn
   refine atoi_small hn (.inl ?_)
   rw [data_size, ByteArray.size_extract]; omega
theorem next_small {s : ByteArray} {i : Int} (h0 : 0 ≤ i) (hok : (nextAt s i).2.2.2.1 = true) (h2 : (nextAt s i).1 = 2) : ∀ n, Lib.atoi (nextAt s i).2.1.data.toList = some n → Small n := by
 unfold nextAt at hok h2 ⊢
 by_cases c1 : at_ s i = 1
 · simp only [if_pos c1] at h2; omega
 · simp only [if_neg c1] at hok h2 ⊢
   by_cases c4 : at_ s i = 4
   · simp only [if_pos c4] at h2; omega
   · simp only [if_neg c4] at hok h2 ⊢
     by_cases c7 : at_ s i = 7 ∨ at_ s i = 2
     · simp only [if_pos c7] at hok h2 ⊢
       split at hok
       · rename_i hc
         rw [if_pos hc]
         simp only [Bool.and_eq_true] at hc
         exact token_small h0 c7 hc.1
       · simp at hok
     · simp only [if_neg c7] at hok
       exact absurd hok (by simp)
theorem path_ok {s : ByteArray} {j : Int} {ts : List S67} (h : Path s 0 ts j) : TokOK ts := by
 intro t ht
 obtain ⟨p, h0, h1, h5, h6, hok, rfl⟩ := path_tok h (Int.le_refl _) (by omega) t ht
 have ha := tok_alone h0 h1 hok h5 h6
 refine ⟨fun h1 => ?_, fun h2 => ?_⟩
 · have h1' : (nextAt s p).1 = 1 := h1
   rw [h1'] at ha
   exact ha
 · have h2' : (nextAt s p).1 = 2 := h2
   obtain ⟨_, n, hn⟩ := next_num h0 hok h2'
   have := next_small h0 hok h2' n hn
   show Small ((Lib.atoi (nextAt s p).2.1.data.toList).getD 0)
   rw [hn]
   exact this
theorem lex_ok (s : ByteArray) : TokOK (lexB s).1 := by
 by_cases hs : s.size ≤ 20000
 · obtain ⟨ts, j, hp, h0, h1, hc⟩ := whole s hs
   rcases hc with ⟨hl, hk⟩ | ⟨hl, _, _⟩
   · rw [hl]; exact path_ok hp
   · rw [hl]; exact fun t ht => by cases ht
 · unfold lexB
   rw [if_pos (by omega)]
   exact fun t ht => by cases ht
def InvT (s : Rs) : Prop := 0 ≤ s.n ∧ s.n ≤ 65 ∧ s.fl.length ≤ 20 ∧ (s.over = false → s.n ≤ 64 ∧ s.fl.length < 20)
theorem InvT.sub {s s' : Rs} (h : InvT s) (g : Sub s s') : InvT s' := by
 obtain ⟨_, hn, hf, ho⟩ := g
 unfold InvT
 rw [hn, hf, ho]
 exact h
theorem suf_len {a b : List S67} (h : a <:+ b) : a.length ≤ b.length := h.length_le
def Tot {α : Type} (o : Option α) : Prop := ∃ y, o = some y
theorem Tot.obind {α β : Type} {r : Step α} {f : α → Rs → Option (Step β)} (g : ∀ a s, Tot (f a s)) : Tot (PPx.obind r f) := by
 unfold PPx.obind
 cases r.1 with
 | ok a => exact g a _
 | error e => exact ⟨_, rfl⟩
theorem semi_tot (fin : Int) (x : S37) (s : Rs) : Tot (semiS fin x s) := ⟨_, rfl⟩
theorem rest_tot (rec : Int → Rs → Option (List S37 × Rs)) (fin deep k c : Int) (s : Rs) (h7 : k ≠ 7) : Tot (restS rec fin deep k c s) := by
 unfold restS
 by_cases k1 : k = 1
 · rw [if_pos k1]; exact Tot.obind fun a s => Tot.obind fun q s => semi_tot _ _ _
 rw [if_neg k1]
 by_cases k2 : k = 2
 · rw [if_pos k2]; exact Tot.obind fun a s => semi_tot _ _ _
 rw [if_neg k2]
 by_cases k3 : k = 3
 · rw [if_pos k3]; exact Tot.obind fun a s => Tot.obind fun q s => semi_tot _ _ _
 rw [if_neg k3]
 by_cases k4 : k = 4
 · rw [if_pos k4]; exact Tot.obind fun a s => Tot.obind fun q s => semi_tot _ _ _
 rw [if_neg k4]
 by_cases k5 : k = 5
 · rw [if_pos k5]; exact Tot.obind fun a s => Tot.obind fun q s => semi_tot _ _ _
 rw [if_neg k5]
 by_cases k6 : k = 6
 · rw [if_pos k6]; exact Tot.obind fun a s => semi_tot _ _ _
 rw [if_neg k6]
 by_cases k8 : k = 8
 · rw [if_pos k8]; exact Tot.obind fun a s => Tot.obind fun q s => semi_tot _ _ _
 rw [if_neg k8, if_neg h7]
 exact semi_tot _ _ _
def Later (s s' : Rs) : Prop := s'.toks <:+ s.toks ∧ s.n ≤ s'.n ∧ InvT s'
def RecT (deep : Int) (rec : Int → Rs → Option (List S37 × Rs)) (s0 : Rs) : Prop := ∀ s, s.toks.length ≤ s0.toks.length → s.n = s0.n → InvT s → TokOK s.toks → deep ≠ 4 → ∃ l s', rec (deep + 1) s = some (l, s') ∧ Later s s'
theorem Later.of_sub {s s' : Rs} (h : Sub s s') (hI : InvT s) : Later s s' := ⟨h.1, by rw [h.2.1]; exact Int.le_refl _, hI.sub h⟩
theorem stmt_total {rec : Int → Rs → Option (List S37 × Rs)} {fin deep : Int} (hd : 0 ≤ deep) (hd4 : deep ≤ 4) {s : Rs} (hr : RecT deep rec s) (hs : TokOK s.toks) (hI : InvT s) : ∃ y s', stmtS rec fin deep s = some (y, s') ∧ Later s s' := by
 have htk := take_sub isKey fin s
 unfold stmtS
 cases ht : (takeS isKey fin s).1 with
 | error e => rw [obind_err ht]; exact ⟨_, _, rfl, Later.of_sub htk.1 hI⟩
 | ok t =>
 rw [obind_ok ht]
 obtain ⟨hm, hp, hn0⟩ := htk.2 t ht
 have hk : t.f0 = 1 ∧ isWord t.f1 = true := by simpa [isKey] using hp
 have hix := isWord_ix hk.2
 have hs1 := hs.sub htk.1
 have hI1 := hI.sub htk.1
 have h0 : wordIx t.f1 ≠ 0 := by
  intro h0
  have hz := ((hs t hm).1 hk.1).1
  rw [word0 h0] at hz
  exact absurd hz (by decide)
 by_cases h7 : wordIx t.f1 = 7
 · rw [h7]
   unfold restS
   rw [if_neg (by decide), if_neg (by decide), if_neg (by decide), if_neg (by decide), if_neg (by decide), if_neg (by decide), if_neg (by decide), if_pos rfl]
   by_cases h4 : deep = 4
   · rw [if_pos h4]; exact ⟨_, _, rfl, Later.of_sub htk.1 hI⟩
   rw [if_neg h4]
   have hw : wrap64 (deep + 1) = deep + 1 := by unfold wrap64; omega
   have n1 := name_sub fin (takeS isKey fin s).2 hs1
   cases hp1 : (nameS fin (takeS isKey fin s).2).1 with
   | error e => rw [obind_err hp1]; exact ⟨_, _, rfl, Later.of_sub (htk.1.trans n1.1) hI⟩
   | ok p =>
   rw [obind_ok hp1]
   have hs2 := hs1.sub n1.1
   have n2 := name_sub fin _ hs2
   cases hq1 : (nameS fin (nameS fin (takeS isKey fin s).2).2).1 with
   | error e => rw [obind_err hq1]; exact ⟨_, _, rfl, Later.of_sub (htk.1.trans (n1.1.trans n2.1)) hI⟩
   | ok q =>
   rw [obind_ok hq1]
   have hs3 := hs2.sub n2.1
   have n3 := sign_ok' ⟨#[123]⟩ fin (nameS fin (nameS fin (takeS isKey fin s).2).2).2
   have hsub := htk.1.trans (n1.1.trans (n2.1.trans n3.1))
   cases hu1 : (signS ⟨#[123]⟩ fin (nameS fin (nameS fin (takeS isKey fin s).2).2).2).1 with
   | error e => rw [obind_err hu1]; exact ⟨_, _, rfl, Later.of_sub hsub hI⟩
   | ok u =>
   rw [obind_ok hu1]
   have hs4 := hs3.sub n3.1
   obtain ⟨l, s', hr1, ha, hb, hc⟩ := hr _ (suf_len hsub.1) hsub.2.1 (hI.sub hsub) hs4 h4
   rw [hw, hr1]
   simp only [Option.bind_some]
   have n5 := sign_ok' ⟨#[125]⟩ fin s'
   rcases bind_inv (r := signS ⟨#[125]⟩ fin s') (f := fun _ s => (.ok (⟨7, 0, q, p, 0, ⟨⟨0, 0, 0⟩, ⟨0, 0, 0⟩⟩, l, t.f2⟩ : S37), s)) with ⟨a, ha', e⟩ | ⟨e', he, e⟩
   all_goals
    rw [e]
    refine ⟨_, _, rfl, n5.1.1.trans (ha.trans hsub.1), ?_, hc.sub n5.1⟩
    have := n5.1.2.1
    have := hsub.2.1
    omega
 · obtain ⟨⟨y, s'⟩, hy⟩ := rest_tot rec fin deep (wordIx t.f1) t.f2 (takeS isKey fin s).2 h7
   refine ⟨y, s', hy, Later.of_sub (htk.1.trans ?_) hI⟩
   exact (rest_sub rec fin deep _ _ _ hs1 h7 (by omega) (y, s') hy).1
theorem tell_inv {s : Rs} (f : S40) (hI : InvT s) (ho : s.over = false) : InvT (tellS f s) := by
 obtain ⟨h0, h1, h2, h3⟩ := hI
 have h4 := h3 ho
 refine ⟨h0, h1, ?_, fun h => ⟨h4.1, ?_⟩⟩
 · simp only [tellS, List.length_append, List.length_cons, List.length_nil]; omega
 · simp only [tellS, List.length_append, List.length_cons, List.length_nil] at h ⊢
   rw [ho] at h
   simp only [Bool.false_or, Bool.or_eq_false_iff, beq_eq_false_iff_ne, ne_eq] at h
   have := h.2
   omega
theorem one_total {rec : Int → Rs → Option (List S37 × Rs)} {fin deep : Int} (hd : 0 ≤ deep) (hd4 : deep ≤ 4) {s : Rs} (hr : RecT deep rec s) (hs : TokOK s.toks) (hI : InvT s) (hl : s.toks.length ≤ 1000000) : ∃ x s', oneS rec fin deep s = some (x, s') ∧ Later s s' := by
 obtain ⟨y, s1, hy, h1, h2, h3⟩ := stmt_total (fin := fin) hd hd4 hr hs hI
 unfold oneS
 rw [hy]
 simp only [Option.bind_some]
 cases y with
 | ok z => exact ⟨_, _, rfl, h1, h2, h3⟩
 | error f =>
  by_cases ho : s1.over = true
  · simp only [if_pos ho]
    exact ⟨_, _, rfl, h1, h2, h3⟩
  · have ho : s1.over = false := by simpa using ho
    have h20 := (h3.2.2.2 ho).2
    have hln := suf_len h1
    simp only [ho, Bool.false_eq_true, if_false]
    rw [if_neg (by omega)]
    have hx := tell_inv ⟨f.1, f.2⟩ h3 ho
    exact ⟨_, _, rfl, (skip_suf _).trans h1, h2, hx⟩
theorem stmts_total (fin : Int) : ∀ (k : Nat) (deep : Int) (s : Rs) (out : List S37), 0 ≤ deep → deep ≤ 4 → TokOK s.toks → s.toks.length ≤ 1000000 → InvT s → (out.length : Int) ≤ s.n → s.toks.length + (65 - s.n).toNat < k → ∃ l s', stmtsS fin k deep s out = some (l, s') ∧ Later s s'
 | 0, deep, s, out, _, _, _, _, _, _, hk => by omega
 | k + 1, deep, s, out, hd, hd4, hs, hl, hI, ho, hk => by
  have ih := stmts_total fin k
  rw [stmtsS]
  by_cases c1 : s.over = true ∨ s.toks = []
  · rw [if_pos c1]; exact ⟨_, _, rfl, List.suffix_refl _, Int.le_refl _, hI⟩
  rw [if_neg c1]
  have hov : s.over = false := by simpa using fun h' => c1 (.inl h')
  have hne : s.toks ≠ [] := fun h' => c1 (.inr h')
  have h64 := hI.2.2.2 hov
  have hn0 := hI.1
  by_cases c2 : isSign ⟨#[125]⟩ (lookS fin s.toks) = true
  · rw [if_pos c2]
    by_cases c3 : deep > 0
    · rw [if_pos c3]; exact ⟨_, _, rfl, List.suffix_refl _, Int.le_refl _, hI⟩
    rw [if_neg c3, if_neg (by omega)]
    have hlen : s.toks.tail.length + 1 = s.toks.length := by
     cases h : s.toks with
     | nil => exact absurd h hne
     | cons => simp
    have hsuf : s.toks.tail <:+ s.toks := List.tail_suffix _
    obtain ⟨l, s', h, ha, hb, hc⟩ := ih deep { tellS ⟨110, (lookS fin s.toks).f2⟩ s with toks := s.toks.tail } out hd hd4 (fun t ht => hs t (hsuf.subset ht)) (by simp only; omega) (tell_inv _ hI hov) ho (by simp only [tellS]; omega)
    exact ⟨l, s', h, ha.trans hsuf, hb, hc⟩
  rw [if_neg c2]
  have hw : wrap64 (s.n + 1) = s.n + 1 := by unfold wrap64; omega
  rw [hw]
  by_cases c4 : s.n + 1 > 64
  · rw [if_pos c4, if_neg (by omega)]
    refine ⟨_, _, rfl, List.suffix_refl _, by simp only; omega, by simp only; omega, by simp only; omega, ?_, fun h => by simp at h⟩
    simp only [List.length_append, List.length_cons, List.length_nil]; omega
  rw [if_neg c4, if_neg (by omega)]
  have hI' : InvT { s with n := s.n + 1 } := ⟨by simp only; omega, by simp only; omega, hI.2.2.1, fun h => ⟨by simp only; omega, h64.2⟩⟩
  have hrec : RecT deep (fun d s => stmtsS fin k d s []) { s with n := s.n + 1 } := by
   intro s2 h1 h2 h3 h4 h5
   simp only at h1 h2
   exact ih (deep + 1) s2 [] (by omega) (by omega) h4 (by omega) h3 (by simp only [List.length_nil]; have := h3.1; omega) (by omega)
  obtain ⟨x, s1, hx, h1, h2, h3⟩ := one_total (fin := fin) hd hd4 hrec hs hI' hl
  rw [hx]
  simp only [Option.bind_some]
  simp only at h1 h2
  have hln := suf_len h1
  cases x with
  | none =>
   obtain ⟨l, s', h, ha, hb, hc⟩ := ih deep s1 out hd hd4 (fun t ht => hs t (h1.subset ht)) (by omega) h3 (by omega) (by omega)
   exact ⟨l, s', h, ha.trans h1, by omega, hc⟩
  | some z =>
   obtain ⟨l, s', h, ha, hb, hc⟩ := ih deep s1 (out ++ [z]) hd hd4 (fun t ht => hs t (h1.subset ht)) (by omega) h3 (by simp only [List.length_append, List.length_cons, List.length_nil]; omega) (by omega)
   exact ⟨l, s', h, ha.trans h1, by omega, hc⟩
theorem inv0 (ts : List S67) : InvT ⟨ts, 0, [], false⟩ := ⟨by simp, by simp, by simp, fun _ => ⟨by simp, by simp⟩⟩
theorem parse_valid {s : ByteArray} {k : Nat} {l : List S37} {f : List S40} (h : parser_Parse.f k s = some (l, f)) : ∃ n ks, VLs 4 l n ks ∧ n ≤ 64 := by
 unfold parser_Parse.f at h
 by_cases he : (lexB s).2.1 = 0
 · rw [if_pos he] at h
   obtain ⟨r, hr, h2⟩ := Option.map_eq_some_iff.1 h
   obtain ⟨_, hI, _, l', n, ks, hl, hv, hn, hn64⟩ := stmts_sound _ _ _ _ _ _ hr (lex_ok s) (Int.le_refl _) (by decide) ⟨by simp, by simp, fun _ => by simp⟩
   simp only at hn hn64
   have e : l = r.1 := (congrArg Prod.fst h2).symm
   rw [hl, List.nil_append] at e
   rw [e]
   refine ⟨n, ks, hv, ?_⟩
   by_cases hz : n = 0
   · omega
   · have := hn64 hz; omega
 · rw [if_neg he] at h
   have e : l = [] := (congrArg Prod.fst (Option.some.inj h)).symm
   rw [e]
   exact ⟨0, [], .nil _, by decide⟩
section
def Good (t : S67) : Prop := (t.f0 = 1 ∨ t.f0 = 2 ∨ t.f0 = 3) ∧ 0 < t.f1.size ∧ (t.f0 = 3 → t.f1.size = 1) ∧ (t.f0 = 2 → t.f1.size ≤ 18 ∧ intS t.f1 = numOf t)
def Goods (ts : List S67) : Prop := ∀ t ∈ ts, Good t
def Sim (s0 : Rs) (y : Option (Step S37)) (h : Rs × List ByteArray × Bool) (G : List ByteArray → Rs → Option (Step S37) → Prop) : Prop :=
 (∃ l r, h = (r, l, true) ∧ Sub s0 r ∧ G l r y) ∨ (∃ (e : Int × Int) (s1 : Rs) (l : List ByteArray), h = (rtoldS e.1 e.2 s1, l, false) ∧ Sub s0 s1 ∧ y = some (.error e, s1))
def GS (s0 s : Rs) : Prop := Goods s0.toks ∧ Sub s0 s
theorem obind_map {α β γ : Type} (r : Step α) (f : α → β) (F : β → Rs → Option (Step γ)) : obind (r.map f) F = obind r fun a s => F (f a) s := by
 obtain ⟨r, s⟩ := r
 cases r <;> rfl
theorem obind_bind {α β γ : Type} (r : Step α) (f : α → Rs → Step β) (F : β → Rs → Option (Step γ)) : obind (r.bind f) F = obind r fun a s => obind (f a s) F := by
 obtain ⟨r, s⟩ := r
 cases r <;> rfl
theorem obind_pure {α β : Type} (a : α) (s : Rs) (F : α → Rs → Option (Step β)) : obind (.ok a, s) F = F a s := rfl
theorem semi_obind (fin : Int) (x : S37) (s : Rs) : semiS fin x s = obind (signS ⟨#[59]⟩ fin s) fun _ s => some (.ok x, s) := by
 unfold semiS obind Step.bind
 rcases (signS ⟨#[59]⟩ fin s).1 <;> rfl
section
variable {s0 : Rs} {fin : Int} {f : ByteArray} {m q : Nat} {s : Rs} {out : List ByteArray} {G : List ByteArray → Rs → Option (Step S37) → Prop}
theorem Sim.take {p : S67 → Bool} {F : S67 → Rs → Option (Step S37)} (hg : GS s0 s) (hp : ∀ t, Good t → fitsB t (bt f q) = p t)
 (g : ∀ t s', Good t → p t = true → GS s0 s' → Sim s0 (F t s') (headS fin f m (q + 1) s' (if t.f0 = 3 then out else out ++ [t.f1])) G) : Sim s0 (obind (takeS p fin s) F) (headS fin f (m + 1) q s out) G := by
 obtain ⟨ts, n, fl, o⟩ := s
 cases ts with
 | nil => exact .inr ⟨(3, fin), ⟨[], n, fl, o⟩, out, rfl, hg.2, rfl⟩
 | cons t ts =>
  have ht := hg.1 t (hg.2.1.subset (List.mem_cons_self ..))
  have h0 : t.f0 ≠ 0 := by rcases ht.1 with h | h | h <;> omega
  have he := hp t ht
  cases hpt : p t with
  | true =>
   have e1 : takeS p fin ⟨t :: ts, n, fl, o⟩ = (.ok t, ⟨ts, n, fl, o⟩) := by simp [takeS, h0, hpt]
   have e2 : headS fin f (m + 1) q ⟨t :: ts, n, fl, o⟩ out = headS fin f m (q + 1) ⟨ts, n, fl, o⟩ (if t.f0 = 3 then out else out ++ [t.f1]) := by
    rw [headS]; simp only; rw [if_pos (he.trans hpt)]
   rw [e1, e2]
   exact g t ⟨ts, n, fl, o⟩ ht hpt ⟨hg.1, hg.2.trans ⟨List.suffix_cons _ _, rfl, rfl, rfl⟩⟩
  | false =>
   have e1 : takeS p fin ⟨t :: ts, n, fl, o⟩ = (.error (110, t.f2), ⟨t :: ts, n, fl, o⟩) := by simp [takeS, h0, hpt]
   have e2 : headS fin f (m + 1) q ⟨t :: ts, n, fl, o⟩ out = (rtoldS 110 t.f2 ⟨t :: ts, n, fl, o⟩, out, false) := by
    rw [headS]; simp only; rw [if_neg (by rw [he, hpt]; decide)]
   rw [e1, e2]
   exact .inr ⟨(110, t.f2), _, out, rfl, hg.2, rfl⟩
theorem arm_int {t : S67} (h : isArm t = true) : t.f0 = 2 ∧ intS t.f1 = armOf t ∧ (intS t.f1 = 0 ∨ intS t.f1 = 1) ∧ t.f1.size = 1 := by
 unfold isArm at h
 simp only [Bool.and_eq_true, Bool.or_eq_true, beq_iff_eq] at h
 obtain ⟨h0, h1 | h1⟩ := h
 · have e := ofList1 h1
   unfold armOf
   rw [h1, e]
   exact ⟨h0, by decide +kernel, .inl (by decide +kernel), rfl⟩
 · have e := ofList1 h1
   unfold armOf
   rw [h1, e]
   exact ⟨h0, by decide +kernel, .inr (by decide +kernel), rfl⟩
theorem Sim.arm {F : Int → Rs → Option (Step S37)} (hg : GS s0 s) (hb : bt f q = 97)
 (g : ∀ w s', w.size ≤ 18 → (intS w = 0 ∨ intS w = 1) → GS s0 s' → Sim s0 (F (intS w) s') (headS fin f m (q + 1) s' (out ++ [w])) G) : Sim s0 (obind (armS fin s) F) (headS fin f (m + 1) q s out) G := by
 unfold armS
 rw [obind_map]
 refine Sim.take hg (fun t ht => by rw [hb]; rfl) fun t s' ht hp hg' => ?_
 obtain ⟨a, b, c, d⟩ := arm_int hp
 rw [if_neg (by omega), ← b]
 exact g t.f1 s' (by omega) c hg'
theorem Sim.num {F : Int → Rs → Option (Step S37)} (hg : GS s0 s) (hb : bt f q = 105)
 (g : ∀ w s', w.size ≤ 18 → GS s0 s' → Sim s0 (F (intS w) s') (headS fin f m (q + 1) s' (out ++ [w])) G) : Sim s0 (obind (numberS fin s) F) (headS fin f (m + 1) q s out) G := by
 unfold numberS
 rw [obind_map]
 refine Sim.take hg (fun t ht => by rw [hb]; rfl) fun t s' ht hp hg' => ?_
 have h2 : t.f0 = 2 := by simpa [isNumber] using hp
 rw [if_neg (by omega), ← (ht.2.2.2 h2).2]
 exact g t.f1 s' (ht.2.2.2 h2).1 hg'
theorem kind_word {w : ByteArray} (h : 0 < w.size) : (kindS w == 0) = !isWord w := by
 unfold kindS isWord
 by_cases h1 : 1 ≤ wordIx w
 · rw [if_pos h1]
   rw [show decide (wordIx w ≥ 0) = true from decide_eq_true (by omega)]
   simp; omega
 · rw [if_neg h1]
   have h0 : wordIx w ≠ 0 := fun e => by rw [word0 e] at h; exact absurd h (by decide)
   rw [show decide (wordIx w ≥ 0) = false from decide_eq_false (by omega)]
   rfl
theorem Sim.name {F : ByteArray → Rs → Option (Step S37)} (hg : GS s0 s) (hb : bt f q = 110)
 (g : ∀ w s', w.size ≤ 18 → GS s0 s' → Sim s0 (F w s') (headS fin f m (q + 1) s' (out ++ [w])) G) : Sim s0 (obind (nameS fin s) F) (headS fin f (m + 1) q s out) G := by
 unfold nameS
 rw [obind_map]
 refine Sim.take hg (fun t ht => ?_) fun t s' ht hp hg' => ?_
 · rw [hb, isNamed, ← kind_word ht.2.1]; rfl
 · unfold isNamed at hp
   simp only [Bool.and_eq_true, beq_iff_eq, decide_eq_true_eq] at hp
   rw [if_neg (by omega)]
   exact g t.f1 s' (by omega) hg'
theorem bt_one {w : ByteArray} (h : w.size = 1) (c : UInt8) : (bt w 0 == (c.toNat : Int)) = (w.toList == (⟨#[c]⟩ : ByteArray).toList) := by
 obtain ⟨b, hb⟩ : ∃ b, w.toList = [b] := by
  have : w.toList.length = 1 := by rw [ByteArray.toList_eq, Array.length_toList]; exact h
  exact List.length_eq_one_iff.1 this
 have e := ofList1 hb
 rw [hb, e, show (⟨#[c]⟩ : ByteArray).toList = [c] from by simp [ByteArray.toList_eq], show bt (⟨#[b]⟩ : ByteArray) 0 = (b.toNat : Int) from rfl]
 rw [Bool.eq_iff_iff]
 simp only [beq_iff_eq, List.cons.injEq, and_true]
 constructor
 · intro h; exact UInt8.toNat_inj.1 (by omega)
 · intro h; rw [h]
theorem Sim.sign {F : S67 → Rs → Option (Step S37)} (c : UInt8) (hc : (c.toNat : Int) ≠ 97 ∧ (c.toNat : Int) ≠ 110 ∧ (c.toNat : Int) ≠ 105) (hg : GS s0 s) (hb : bt f q = c.toNat)
 (g : ∀ t s', GS s0 s' → Sim s0 (F t s') (headS fin f m (q + 1) s' out) G) : Sim s0 (obind (signS ⟨#[c]⟩ fin s) F) (headS fin f (m + 1) q s out) G := by
 unfold signS
 refine Sim.take hg (fun t ht => ?_) fun t s' ht hp hg' => ?_
 · rw [hb, fitsB, if_neg hc.1, if_neg hc.2.1, if_neg hc.2.2, isSign]
   by_cases h3 : t.f0 = 3
   · rw [bt_one (ht.2.2.1 h3)]
   · rw [show (t.f0 == 3) = false from beq_eq_false_iff_ne.2 h3]; rfl
 · unfold isSign at hp
   simp only [Bool.and_eq_true, beq_iff_eq] at hp
   rw [if_pos hp.1]
   exact g t s' hg'
theorem Sim.triple {F : S34 → Rs → Option (Step S37)} (hg : GS s0 s) (h0 : bt f q = 40) (h1 : bt f ((q + 1 : Nat) : Int) = 105) (h2 : bt f ((q + 1 + 1 : Nat) : Int) = 44) (h3 : bt f ((q + 1 + 1 + 1 : Nat) : Int) = 105) (h4 : bt f ((q + 1 + 1 + 1 + 1 : Nat) : Int) = 44) (h5 : bt f ((q + 1 + 1 + 1 + 1 + 1 : Nat) : Int) = 105) (h6 : bt f ((q + 1 + 1 + 1 + 1 + 1 + 1 : Nat) : Int) = 41)
 (g : ∀ a b c s', a.size ≤ 18 → b.size ≤ 18 → c.size ≤ 18 → GS s0 s' → Sim s0 (F ⟨intS a, intS b, intS c⟩ s') (headS fin f m (q + 1 + 1 + 1 + 1 + 1 + 1 + 1) s' (out ++ [a] ++ [b] ++ [c])) G) : Sim s0 (obind (tripleS fin s) F) (headS fin f (m + 1 + 1 + 1 + 1 + 1 + 1 + 1) q s out) G := by
 unfold tripleS tri1 tri2 tri3
 simp only [obind_bind, obind_pure]
 exact Sim.sign 40 (by decide) hg h0 fun _ _ hg => Sim.num hg h1 fun a _ ha hg => Sim.sign 44 (by decide) hg h2 fun _ _ hg => Sim.num hg h3 fun b _ hb hg => Sim.sign 44 (by decide) hg h4 fun _ _ hg => Sim.num hg h5 fun c _ hc hg => Sim.sign 41 (by decide) hg h6 fun _ _ hg => g a b c _ ha hb hc hg
end
def G1 (k c : Int) (l : List ByteArray) (r : Rs) (y : Option (Step S37)) : Prop := FillOK k l ∧ y = some (.ok (filledS k c l), r)
theorem szs {l : List ByteArray} (h : ∀ s ∈ l, s.size ≤ 18) : ∀ s ∈ l, s.size ≤ 100000 := fun s hs => Nat.le_trans (h s hs) (by decide)
theorem rest_sim (rec : Int → Rs → Option (List S37 × Rs)) (fin deep k c : Int) (s : Rs) (hg : Goods s.toks) (h1 : 1 ≤ k) (h8 : k ≤ 8) (h7 : k ≠ 7) : Sim s (restS rec fin deep k c s) (headS fin (formS k) (formS k).size 0 s []) (G1 k c) := by
 replace hg : GS s s := ⟨hg, Sub.refl s⟩
 obtain rfl | rfl | rfl | rfl | rfl | rfl | rfl : k = 1 ∨ k = 2 ∨ k = 3 ∨ k = 4 ∨ k = 5 ∨ k = 6 ∨ k = 8 := by omega
 · show Sim s _ (headS fin (formS 1) 9 0 s []) (G1 1 c)
   rw [show restS rec fin deep 1 c s = obind (armS fin s) fun a s => obind (tripleS fin s) fun q s => semiS fin ⟨1, a, ⟨#[]⟩, ⟨#[]⟩, 0, toOf a q, [], c⟩ s from rfl]
   refine Sim.arm hg rfl fun w s1 hw hi hg => Sim.triple hg rfl rfl rfl rfl rfl rfl rfl fun x y z s2 hx hy hz hg => ?_
   rw [semi_obind]
   refine Sim.sign 59 (by decide) hg rfl fun _ s3 hg => .inl ⟨_, _, rfl, hg.2, ⟨by simp, szs (by simp [hw, hx, hy, hz]), ?_⟩, rfl⟩
   exact ⟨by simp, fun _ => ⟨by simp, hi⟩, fun h => by omega⟩
 · show Sim s _ (headS fin (formS 2) 2 0 s []) (G1 2 c)
   rw [show restS rec fin deep 2 c s = obind (armS fin s) fun a s => semiS fin ⟨2, a, ⟨#[]⟩, ⟨#[]⟩, 0, ⟨⟨0, 0, 0⟩, ⟨0, 0, 0⟩⟩, [], c⟩ s from rfl]
   refine Sim.arm hg rfl fun w s1 hw hi hg => ?_
   rw [semi_obind]
   refine Sim.sign 59 (by decide) hg rfl fun _ s3 hg => .inl ⟨_, _, rfl, hg.2, ⟨by simp, szs (by simp [hw]), ?_⟩, rfl⟩
   exact ⟨by simp, fun h => by omega, fun h => by omega⟩
 · show Sim s _ (headS fin (formS 3) 3 0 s []) (G1 3 c)
   rw [show restS rec fin deep 3 c s = obind (armS fin s) fun a s => obind (nameS fin s) fun p s => semiS fin ⟨3, a, p, ⟨#[]⟩, 0, ⟨⟨0, 0, 0⟩, ⟨0, 0, 0⟩⟩, [], c⟩ s from rfl]
   refine Sim.arm hg rfl fun w s1 hw hi hg => Sim.name hg rfl fun p s2 hp hg => ?_
   rw [semi_obind]
   refine Sim.sign 59 (by decide) hg rfl fun _ s3 hg => .inl ⟨_, _, rfl, hg.2, ⟨by simp, szs (by simp [hw, hp]), ?_⟩, rfl⟩
   exact ⟨by simp, fun h => by omega, fun h => by simp⟩
 · show Sim s _ (headS fin (formS 4) 3 0 s []) (G1 4 c)
   rw [show restS rec fin deep 4 c s = obind (armS fin s) fun a s => obind (nameS fin s) fun p s => semiS fin ⟨4, a, ⟨#[]⟩, p, 0, ⟨⟨0, 0, 0⟩, ⟨0, 0, 0⟩⟩, [], c⟩ s from rfl]
   refine Sim.arm hg rfl fun w s1 hw hi hg => Sim.name hg rfl fun p s2 hp hg => ?_
   rw [semi_obind]
   refine Sim.sign 59 (by decide) hg rfl fun _ s3 hg => .inl ⟨_, _, rfl, hg.2, ⟨by simp, szs (by simp [hw, hp]), ?_⟩, rfl⟩
   exact ⟨by simp, fun h => by omega, fun h => by simp⟩
 · show Sim s _ (headS fin (formS 5) 3 0 s []) (G1 5 c)
   rw [show restS rec fin deep 5 c s = obind (armS fin s) fun a s => obind (nameS fin s) fun p s => semiS fin ⟨5, a, ⟨#[]⟩, p, 0, ⟨⟨0, 0, 0⟩, ⟨0, 0, 0⟩⟩, [], c⟩ s from rfl]
   refine Sim.arm hg rfl fun w s1 hw hi hg => Sim.name hg rfl fun p s2 hp hg => ?_
   rw [semi_obind]
   refine Sim.sign 59 (by decide) hg rfl fun _ s3 hg => .inl ⟨_, _, rfl, hg.2, ⟨by simp, szs (by simp [hw, hp]), ?_⟩, rfl⟩
   exact ⟨by simp, fun h => by omega, fun h => by simp⟩
 · show Sim s _ (headS fin (formS 6) 2 0 s []) (G1 6 c)
   rw [show restS rec fin deep 6 c s = obind (numberS fin s) fun n s => semiS fin ⟨6, 0, ⟨#[]⟩, ⟨#[]⟩, n, ⟨⟨0, 0, 0⟩, ⟨0, 0, 0⟩⟩, [], c⟩ s from rfl]
   refine Sim.num hg rfl fun w s1 hw hg => ?_
   rw [semi_obind]
   refine Sim.sign 59 (by decide) hg rfl fun _ s3 hg => .inl ⟨_, _, rfl, hg.2, ⟨by simp, szs (by simp [hw]), ?_⟩, rfl⟩
   exact Nat.le_refl 1
 · show Sim s _ (headS fin (formS 8) 15 0 s []) (G1 8 c)
   rw [show restS rec fin deep 8 c s = obind (tripleS fin s) fun q s => obind (tripleS fin s) fun p s => semiS fin ⟨8, 0, ⟨#[]⟩, ⟨#[]⟩, 0, ⟨q, p⟩, [], c⟩ s from rfl]
   refine Sim.triple hg rfl rfl rfl rfl rfl rfl rfl fun x y z s2 hx hy hz hg => Sim.triple hg rfl rfl rfl rfl rfl rfl rfl fun x' y' z' s2 hx' hy' hz' hg => ?_
   rw [semi_obind]
   refine Sim.sign 59 (by decide) hg rfl fun _ s3 hg => .inl ⟨_, _, rfl, hg.2, ⟨by simp, szs (by simp [hx, hy, hz, hx', hy', hz']), ?_⟩, rfl⟩
   exact Nat.le_refl 6
def G7 (rec : Int → Rs → Option (List S37 × Rs)) (fin deep c : Int) (l : List ByteArray) (r : Rs) (y : Option (Step S37)) : Prop :=
 FillOK 7 l ∧ y = (rec (wrap64 (deep + 1)) r).bind fun z => some ((signS ⟨#[125]⟩ fin z.2).bind fun _ s => (.ok { filledS 7 c l with f6 := z.1 }, s))
theorem when_sim (rec : Int → Rs → Option (List S37 × Rs)) (fin deep c : Int) (s : Rs) (hg : Goods s.toks) (hd : deep ≠ 4) : Sim s (restS rec fin deep 7 c s) (headS fin (formS 7) (formS 7).size 0 s []) (G7 rec fin deep c) := by
 replace hg : GS s s := ⟨hg, Sub.refl s⟩
 show Sim s _ (headS fin (formS 7) 3 0 s []) _
 have e : restS rec fin deep 7 c s = obind (nameS fin s) fun p s => obind (nameS fin s) fun q s => obind (signS ⟨#[123]⟩ fin s) fun _ s =>
  (rec (wrap64 (deep + 1)) s).bind fun r => some ((signS ⟨#[125]⟩ fin r.2).bind fun _ s => (.ok ⟨7, 0, q, p, 0, ⟨⟨0, 0, 0⟩, ⟨0, 0, 0⟩⟩, r.1, c⟩, s)) := by
  unfold restS
  rw [if_neg (by decide), if_neg (by decide), if_neg (by decide), if_neg (by decide), if_neg (by decide), if_neg (by decide), if_neg (by decide), if_pos rfl, if_neg hd]
 rw [e]
 refine Sim.name hg rfl fun p s1 hp hg => Sim.name hg rfl fun q s2 hq hg => Sim.sign 123 (by decide) hg rfl fun _ s3 hg => .inl ⟨_, _, rfl, hg.2, ⟨by simp, szs (by simp [hp, hq]), ?_⟩, rfl⟩
 exact Nat.le_refl 2
end
def Eqv (a b : Rs) : Prop := a.n = b.n ∧ a.fl = b.fl ∧ a.over = b.over ∧ (a.over = false → a = b)
theorem Eqv.refl (a : Rs) : Eqv a a := ⟨rfl, rfl, rfl, fun _ => rfl⟩
theorem Eqv.of_over {a b : Rs} (h1 : a.n = b.n) (h2 : a.fl = b.fl) (h3 : a.over = true) (h4 : b.over = true) : Eqv a b := ⟨h1, h2, h3.trans h4.symm, fun h => by rw [h3] at h; cases h⟩
theorem rec_eqv (e : Int × Int) {s : Rs} (ho : s.over = false) : Eqv (recS e s) (rtoldS e.1 e.2 s) := by
 obtain ⟨ts, n, fl, o⟩ := s
 simp only at ho
 subst ho
 have hb : (false || (e.1 == 3 || ((fl ++ [(⟨e.1, e.2⟩ : S40)]).length : Int) == 20)) = tellB fl e.1 := by
  simp [tellB]
 unfold recS rtoldS tellS
 simp only [hb]
 cases h : tellB fl e.1 with
 | true => rw [if_pos rfl]; exact Eqv.of_over rfl rfl rfl rfl
 | false => rw [if_neg (by decide)]; exact Eqv.refl _
def RecB (deep : Int) (rec rrec : Int → Rs → Option (List S37 × Rs)) (s0 : Rs) : Prop := ∀ s, s.toks.length ≤ s0.toks.length → s.n = s0.n → InvT s → TokOK s.toks → Goods s.toks → deep ≠ 4 → ∃ l s' s'', rec (deep + 1) s = some (l, s') ∧ rrec (deep + 1) s = some (l, s'') ∧ Eqv s' s''
theorem key_kind {t : S67} (ht : Good t) (h : isKey t = true) : keyS t = wordIx t.f1 ∧ 1 ≤ wordIx t.f1 ∧ wordIx t.f1 ≤ 8 := by
 unfold isKey at h
 simp only [Bool.and_eq_true, beq_iff_eq] at h
 have hi := isWord_ix h.2
 have h0 : wordIx t.f1 ≠ 0 := fun e => by have := ht.2.1; rw [word0 e] at this; exact absurd this (by decide)
 unfold keyS kindS
 rw [if_pos h.1, if_pos (by omega)]
 exact ⟨rfl, by omega, hi.2⟩
theorem key_none {t : S67} (ht : Good t) (h : isKey t = false) : keyS t = 0 := by
 unfold isKey at h
 unfold keyS
 by_cases h1 : t.f0 = 1
 · rw [if_pos h1]
   rw [show (t.f0 == 1) = true from beq_iff_eq.2 h1, Bool.true_and] at h
   have := kind_word ht.2.1
   rw [h] at this
   simpa using this
 · rw [if_neg h1]
theorem one_err {rec : Int → Rs → Option (List S37 × Rs)} {fin deep : Int} {s s1 s2 : Rs} {e : Int × Int} {x : Option S37} (h : oneS rec fin deep s = some (x, s1)) (hy : stmtS rec fin deep s = some (.error e, s2)) (ho : s2.over = false) : x = none ∧ s1 = recS e s2 := by
 unfold oneS at h
 rw [hy] at h
 simp only [Option.bind_some, ho, Bool.false_eq_true, if_false] at h
 split at h
 · cases h
 · simp only [Option.some.injEq, Prod.mk.injEq] at h
   exact ⟨h.1.symm, h.2.symm⟩
theorem one_err_over {rec : Int → Rs → Option (List S37 × Rs)} {fin deep : Int} {s s1 s2 : Rs} {e : Int × Int} {x : Option S37} (h : oneS rec fin deep s = some (x, s1)) (hy : stmtS rec fin deep s = some (.error e, s2)) (ho : s2.over = true) : x = none ∧ s1 = s2 := by
 unfold oneS at h
 rw [hy] at h
 simp only [Option.bind_some, ho, if_true, Option.some.injEq, Prod.mk.injEq] at h
 exact ⟨h.1.symm, h.2.symm⟩
theorem one_fine {rec : Int → Rs → Option (List S37 × Rs)} {fin deep : Int} {s s1 s2 : Rs} {y : S37} {x : Option S37} (h : oneS rec fin deep s = some (x, s1)) (hy : stmtS rec fin deep s = some (.ok y, s2)) : x = (if s2.over = true then none else some y) ∧ s1 = s2 := by
 unfold oneS at h
 rw [hy] at h
 simp only [Option.bind_some, Option.some.injEq, Prod.mk.injEq] at h
 exact ⟨h.1.symm, h.2.symm⟩
theorem sub_of_suf {t : S67} {ts : List S67} {n : Int} {fl : List S40} {o : Bool} : Sub ⟨t :: ts, n, fl, o⟩ ⟨ts, n, fl, o⟩ := ⟨List.suffix_cons _ _, rfl, rfl, rfl⟩
theorem Goods.sub {s s' : Rs} (h : Goods s.toks) (g : s'.toks <:+ s.toks) : Goods s'.toks := fun t ht => h t (g.subset ht)
theorem obind_end {α β : Type} (r : Step α) (x : β) : obind r (fun _ s => some (.ok x, s)) = some (r.bind fun _ s => (.ok x, s)) := by
 obtain ⟨r, s⟩ := r
 cases r <;> rfl
theorem one_both {rec rrec : Int → Rs → Option (List S37 × Rs)} {fin deep : Int} (hd : 0 ≤ deep) (hd4 : deep ≤ 4) {s : Rs} (hrt : RecT deep rec s) (hr : RecB deep rec rrec s) (hs : TokOK s.toks) (hg : Goods s.toks) (hI : InvT s) (hov : s.over = false) (hne : s.toks ≠ []) (hl : s.toks.length ≤ 1000000) :
 ∃ x s1 s2, oneS rec fin deep s = some (x, s1) ∧ rstmtS rrec fin deep s = some (x, s2) ∧ Eqv s1 s2 ∧ Later s s1 := by
 obtain ⟨x, s1, hx, hL⟩ := one_total (fin := fin) hd hd4 hrt hs hI hl
 suffices h : ∃ s2, rstmtS rrec fin deep s = some (x, s2) ∧ Eqv s1 s2 from by
  obtain ⟨s2, a, b⟩ := h
  exact ⟨x, s1, s2, hx, a, b, hL⟩
 clear hL
 obtain ⟨ts0, n, fl, o⟩ := s
 simp only at hov hs hg hl
 subst hov
 cases ts0 with
 | nil => exact absurd rfl hne
 | cons t ts =>
 have ht := hg t (List.mem_cons_self ..)
 have h0 : t.f0 ≠ 0 := by rcases ht.1 with h | h | h <;> omega
 cases hk : isKey t with
 | false =>
  have hst : stmtS rec fin deep ⟨t :: ts, n, fl, false⟩ = some (.error (110, t.f2), ⟨t :: ts, n, fl, false⟩) := by
   simp [stmtS, obind, takeS, h0, hk]
  obtain ⟨rfl, rfl⟩ := one_err hx hst rfl
  refine ⟨_, ?_, rec_eqv (110, t.f2) rfl⟩
  unfold rstmtS rstmtK
  simp only
  rw [if_pos (key_none ht hk)]
 | true =>
  obtain ⟨k1, k2, k3⟩ := key_kind ht hk
  have hsub0 : Sub ⟨t :: ts, n, fl, false⟩ ⟨ts, n, fl, false⟩ := sub_of_suf
  have hgs : Goods ts := fun u hu => hg u (List.mem_cons_of_mem _ hu)
  have htk : TokOK ts := fun u hu => hs u (List.mem_cons_of_mem _ hu)
  have hst : stmtS rec fin deep ⟨t :: ts, n, fl, false⟩ = restS rec fin deep (wordIx t.f1) t.f2 ⟨ts, n, fl, false⟩ := by
   unfold stmtS
   rw [show takeS isKey fin ⟨t :: ts, n, fl, false⟩ = (.ok t, ⟨ts, n, fl, false⟩) from by simp [takeS, h0, hk]]
   rfl
  unfold rstmtS rstmtK rstmtH rstmtE
  simp only
  rw [k1]
  clear k1
  generalize wordIx t.f1 = k at *
  rw [if_neg (by omega)]
  by_cases h7 : k = 7
  · subst h7
    by_cases h4 : deep = 4
    · have hst2 : stmtS rec fin deep ⟨t :: ts, n, fl, false⟩ = some (.error (2, t.f2), ⟨ts, n, fl, false⟩) := by
       rw [hst]
       unfold restS
       rw [if_neg (by decide), if_neg (by decide), if_neg (by decide), if_neg (by decide), if_neg (by decide), if_neg (by decide), if_neg (by decide), if_pos rfl, if_pos h4]
      obtain ⟨rfl, rfl⟩ := one_err hx hst2 rfl
      exact ⟨_, by rw [if_pos ⟨rfl, h4⟩], rec_eqv (2, t.f2) rfl⟩
    · rw [if_neg (fun h => h4 h.2)]
      rcases when_sim rec fin deep t.f2 ⟨ts, n, fl, false⟩ hgs h4 with ⟨l, r, hh, hsub, hf, hy⟩ | ⟨e, s2, l, hh, hsub, hy⟩
      · rw [hh]
        simp only
        rw [if_neg (by decide), if_neg (fun h => h hf), if_neg (fun h => h rfl)]
        have hIr := (hI.sub hsub0).sub hsub
        have hlr : r.toks.length ≤ (t :: ts).length := suf_len (hsub0.trans hsub).1
        have htr : TokOK r.toks := TokOK.sub (s := ⟨ts, n, fl, false⟩) htk hsub
        have hgr : Goods r.toks := Goods.sub (s := ⟨ts, n, fl, false⟩) hgs hsub.1
        obtain ⟨l', z, z', ha, hb, hc⟩ := hr r hlr hsub.2.1 hIr htr hgr h4
        obtain ⟨l2, z2, ha2, hL2⟩ := hrt r hlr hsub.2.1 hIr htr h4
        rw [ha] at ha2
        simp only [Option.some.injEq, Prod.mk.injEq] at ha2
        obtain ⟨rfl, rfl⟩ := ha2
        have hw : wrap64 (deep + 1) = deep + 1 := by unfold wrap64; omega
        rw [hw] at hy ⊢
        rw [ha] at hy
        rw [hb]
        simp only [Option.bind_some] at hy ⊢
        have hst' := hst.trans hy
        generalize ({ filledS 7 t.f2 l with f6 := l' } : S37) = X at *
        have hsg := sign_ok' ⟨#[125]⟩ fin z
        cases hzo : z.over with
        | true =>
         have hzo' : z'.over = true := hc.2.2.1.symm.trans hzo
         rw [if_pos hzo']
         have hov2 : (signS ⟨#[125]⟩ fin z).2.over = true := hsg.1.2.2.2.trans hzo
         have hq : Eqv (signS ⟨#[125]⟩ fin z).2 z' := Eqv.of_over (hsg.1.2.1.trans hc.1) (hsg.1.2.2.1.trans hc.2.1) hov2 hzo'
         rcases bind_inv (r := signS ⟨#[125]⟩ fin z) (f := fun _ s => ((.ok X, s) : Step S37)) with ⟨a, ha', e⟩ | ⟨e', he, e⟩
         · rw [e] at hst'
           obtain ⟨h1, rfl⟩ := one_fine hx hst'
           rw [if_pos hov2] at h1
           subst h1
           exact ⟨_, rfl, hq⟩
         · rw [e] at hst'
           obtain ⟨rfl, rfl⟩ := one_err_over hx hst' hov2
           exact ⟨_, rfl, hq⟩
        | false =>
         obtain rfl := hc.2.2.2 hzo
         rw [if_neg (by rw [hzo]; decide), if_neg (by have := hL2.2.2.2.2.1; omega)]
         have hgz : Goods z.toks := Goods.sub hgr hL2.1
         have hS := Sim.sign (s0 := z) (F := fun _ s => some ((.ok X, s) : Step S37)) (fin := fin) (f := ⟨#[125]⟩) (m := 0) (q := 0) (s := z) (out := []) (G := fun l r y => y = some (.ok X, r)) 125 (by decide) ⟨hgz, Sub.refl z⟩ rfl (fun t s' hg => .inl ⟨_, _, rfl, hg.2, rfl⟩)
         rw [obind_end] at hS
         rcases hS with ⟨l3, r3, h3, hs3, hy3⟩ | ⟨e, s3, l3, h3, hs3, hy3⟩
         · rw [hy3] at hst'
           obtain ⟨h1, rfl⟩ := one_fine hx hst'
           rw [if_neg (by rw [hs3.2.2.2, hzo]; decide)] at h1
           subst h1
           rw [h3]
           exact ⟨_, rfl, Eqv.refl _⟩
         · rw [hy3] at hst'
           have ho3 : s3.over = false := hs3.2.2.2.trans hzo
           obtain ⟨rfl, rfl⟩ := one_err hx hst' ho3
           rw [h3]
           exact ⟨_, rfl, rec_eqv e ho3⟩
      · have ho2 : s2.over = false := hsub.2.2.2
        obtain ⟨rfl, rfl⟩ := one_err hx (hst.trans hy) ho2
        rw [hh]
        exact ⟨_, by rw [if_pos rfl], rec_eqv e ho2⟩
  · rw [if_neg (fun h => h7 h.1)]
    rcases rest_sim rec fin deep k t.f2 ⟨ts, n, fl, false⟩ hgs k2 k3 h7 with ⟨l, r, hh, hsub, hf, hy⟩ | ⟨e, s2, l, hh, hsub, hy⟩
    · rw [hh]
      simp only
      rw [if_neg (by decide), if_neg (fun h => h hf), if_pos h7]
      obtain ⟨h1, rfl⟩ := one_fine hx (hst.trans hy)
      rw [if_neg (by rw [hsub.2.2.2]; simp)] at h1
      subst h1
      exact ⟨_, rfl, Eqv.refl _⟩
    · have ho2 : s2.over = false := hsub.2.2.2
      obtain ⟨rfl, rfl⟩ := one_err hx (hst.trans hy) ho2
      rw [hh]
      exact ⟨_, by rw [if_pos rfl], rec_eqv e ho2⟩
theorem over_end {fin deep : Int} {k : Nat} {s : Rs} {out l : List S37} {s' : Rs} (ho : s.over = true) (h : stmtsS fin k deep s out = some (l, s')) {r : Rs} (hr : r.over = true) : l = out ∧ s' = s ∧ rstmtsS fin k deep r out = some (out, r) := by
 cases k with
 | zero => cases h
 | succ k =>
  rw [stmtsS, if_pos (.inl ho)] at h
  simp only [Option.some.injEq, Prod.mk.injEq] at h
  exact ⟨h.1.symm, h.2.symm, by rw [rstmtsS, if_pos (.inl hr)]⟩
theorem stmts_both (fin : Int) : ∀ (k : Nat) (deep : Int) (s : Rs) (out : List S37), 0 ≤ deep → deep ≤ 4 → TokOK s.toks → Goods s.toks → s.toks.length ≤ 1000000 → InvT s → (out.length : Int) ≤ s.n → s.toks.length + (65 - s.n).toNat < k → ∃ l s' s'', stmtsS fin k deep s out = some (l, s') ∧ rstmtsS fin k deep s out = some (l, s'') ∧ Eqv s' s''
 | 0, deep, s, out, _, _, _, _, _, _, _, hk => by omega
 | k + 1, deep, s, out, hd, hd4, hs, hg, hl, hI, ho, hk => by
  have ih := stmts_both fin k
  rw [stmtsS, rstmtsS]
  by_cases c1 : s.over = true ∨ s.toks = []
  · rw [if_pos c1, if_pos c1]; exact ⟨_, _, _, rfl, rfl, Eqv.refl _⟩
  rw [if_neg c1, if_neg c1]
  have hov : s.over = false := by simpa using fun h' => c1 (.inl h')
  have hne : s.toks ≠ [] := fun h' => c1 (.inr h')
  have h64 := hI.2.2.2 hov
  have hn0 := hI.1
  by_cases c2 : isSign ⟨#[125]⟩ (lookS fin s.toks) = true
  · rw [if_pos c2, if_pos c2]
    by_cases c3 : deep > 0
    · rw [if_pos c3, if_pos c3]; exact ⟨_, _, _, rfl, rfl, Eqv.refl _⟩
    rw [if_neg c3, if_neg (by omega), if_neg c3, if_neg (by omega)]
    have hlen : s.toks.tail.length + 1 = s.toks.length := by
     cases h : s.toks with
     | nil => exact absurd h hne
     | cons => simp
    have hsuf : s.toks.tail <:+ s.toks := List.tail_suffix _
    have e : ({ s with fl := s.fl ++ [⟨110, (lookS fin s.toks).f2⟩], over := (((s.fl.length + 1 : Nat) : Int) == 20), toks := s.toks.tail } : Rs) = { tellS ⟨110, (lookS fin s.toks).f2⟩ s with toks := s.toks.tail } := by
     unfold tellS
     rw [hov]
     simp
    rw [e]
    exact ih deep { tellS ⟨110, (lookS fin s.toks).f2⟩ s with toks := s.toks.tail } out hd hd4 (fun t ht => hs t (hsuf.subset ht)) (fun t ht => hg t (hsuf.subset ht)) (by simp only; omega) (tell_inv _ hI hov) ho (by simp only [tellS]; omega)
  rw [if_neg c2, if_neg c2]
  have hw : wrap64 (s.n + 1) = s.n + 1 := by unfold wrap64; omega
  rw [hw, if_neg (show ¬ (100 < s.fl.length ∨ 1000 < out.length) from by omega)]
  by_cases c4 : s.n + 1 > 64
  · rw [if_pos c4, if_neg (by omega), if_pos c4]
    exact ⟨_, _, _, rfl, rfl, Eqv.refl _⟩
  rw [if_neg c4, if_neg (by omega), if_neg c4]
  have hI' : InvT { s with n := s.n + 1 } := ⟨by simp only; omega, by simp only; omega, hI.2.2.1, fun h => ⟨by simp only; omega, h64.2⟩⟩
  have hrt : RecT deep (fun d s => stmtsS fin k d s []) { s with n := s.n + 1 } := by
   intro s2 h1 h2 h3 h4 h5
   simp only at h1 h2
   exact stmts_total fin k (deep + 1) s2 [] (by omega) (by omega) h4 (by omega) h3 (by simp only [List.length_nil]; have := h3.1; omega) (by omega)
  have hrb : RecB deep (fun d s => stmtsS fin k d s []) (fun d s => rstmtsS fin k d s []) { s with n := s.n + 1 } := by
   intro s2 h1 h2 h3 h4 h6 h5
   simp only at h1 h2
   exact ih (deep + 1) s2 [] (by omega) (by omega) h4 h6 (by omega) h3 (by simp only [List.length_nil]; have := h3.1; omega) (by omega)
  obtain ⟨x, s1, s2, hx, hy, hq, h1, h2, h3⟩ := one_both (fin := fin) hd hd4 hrt hrb hs hg hI' hov hne hl
  rw [hx, hy]
  simp only [Option.bind_some]
  simp only at h1 h2
  have hln := suf_len h1
  have key : ∀ out1 : List S37, (out1.length : Int) ≤ s1.n → ∃ l s' s'', stmtsS fin k deep s1 out1 = some (l, s') ∧ rstmtsS fin k deep s2 out1 = some (l, s'') ∧ Eqv s' s'' := by
   intro out1 hout
   cases ho1 : s1.over with
   | true =>
    obtain ⟨l, s', h, _⟩ := stmts_total fin k deep s1 out1 hd hd4 (fun t ht => hs t (h1.subset ht)) (by omega) h3 hout (by omega)
    have ho2 : s2.over = true := hq.2.2.1.symm.trans ho1
    obtain ⟨rfl, rfl, hr⟩ := over_end ho1 h ho2
    exact ⟨_, _, _, h, hr, hq⟩
   | false =>
    obtain rfl := hq.2.2.2 ho1
    exact ih deep s1 out1 hd hd4 (fun t ht => hs t (h1.subset ht)) (fun t ht => hg t (h1.subset ht)) (by omega) h3 hout (by omega)
  cases x with
  | none => exact key out (by omega)
  | some x => exact key (out ++ [x]) (by simp only [List.length_append, List.length_cons, List.length_nil]; omega)
theorem bt_get (s : ByteArray) (i : Nat) (h : i < s.data.toList.length) : bt s (i : Int) = ((s.data.toList[i]'h).toNat : Int) := by
 have e : s = ⟨s.data.toList.toArray⟩ := by cases s; simp
 have h2 := bt_list s.data.toList i h
 rw [← e] at h2
 exact h2
theorem pow_step {acc i : Nat} (h : acc < 10 ^ i) {d : Nat} (hd : d ≤ 9) : acc * 10 + d < 10 ^ (i + 1) := by
 rw [Nat.pow_succ]; omega
theorem wrap_big {x : Int} (h0 : -9000000000000000000 ≤ x) (h1 : x ≤ 9000000000000000000) : wrap64 x = x := by
 unfold wrap64; omega
theorem int_step {acc b : Nat} (h : acc * 10 + (b - 48) < 1000000000000000000) (h1 : 48 ≤ b) (h2 : b ≤ 57) : wrap64 (wrap64 (wrap64 (10 * (acc : Int)) + wrap64 (b : Int)) - 48) = ((acc * 10 + (b - 48) : Nat) : Int) := by
 have e1 : wrap64 (10 * (acc : Int)) = 10 * (acc : Int) := wrap_big (by omega) (by omega)
 have e2 : wrap64 (b : Int) = (b : Int) := wrap_big (by omega) (by omega)
 have e3 : wrap64 (10 * (acc : Int) + (b : Int)) = 10 * (acc : Int) + (b : Int) := wrap_big (by omega) (by omega)
 rw [e1, e2, e3, wrap_big (by omega) (by omega)]
 omega
theorem int_dec (s : ByteArray) (hl : s.data.toList.length ≤ 18) : ∀ (r : List UInt8) (i acc m k : Nat) (sg : Int), s.data.toList.drop i = r → i + r.length = s.data.toList.length → acc < 10 ^ i → Lib.decFrom acc r = some m → r.length < k → m < 10 ^ 18 ∧ ambidexterref11_Int.l0 k s acc sg i = some (wrap64 (sg * m)) := by
 have hsz : s.size = s.data.toList.length := by rw [Array.length_toList]; rfl
 intro r
 induction r with
 | nil =>
  intro i acc m k sg hr hi ha hm hk
  obtain ⟨k, rfl⟩ : ∃ m, k = m + 1 := ⟨k - 1, by omega⟩
  simp only [Lib.decFrom, Option.some.injEq] at hm
  subst hm
  simp only [List.length_nil, Nat.add_zero] at hi
  refine ⟨Nat.lt_of_lt_of_le ha (Nat.pow_le_pow_right (by decide) (by omega)), ?_⟩
  rw [ambidexterref11_Int.l0, if_neg (by omega)]
 | cons b r ih =>
  intro i acc m k sg hr hi ha hm hk
  obtain ⟨k, rfl⟩ : ∃ m, k = m + 1 := ⟨k - 1, by omega⟩
  simp only [List.length_cons] at hi hk
  have hlt : i < s.data.toList.length := by clear ha hm; omega
  have hi0 : (0 : Int) ≤ (i : Int) := Int.natCast_nonneg i
  have hi1 : (i : Int) < (s.size : Int) := Int.ofNat_lt.2 (by rw [hsz]; exact hlt)
  have hir : i + 1 + r.length = s.data.toList.length := by clear ha hm; omega
  have hi17 : i + 1 ≤ 18 := by clear ha hm; omega
  have hk' : r.length < k := by clear ha hm; omega
  have w1 : wrap64 ((i : Int) + 1) = ((i + 1 : Nat) : Int) := by clear ha hm; unfold wrap64; omega
  have hb := bt_get s i hlt
  have hd := List.drop_eq_getElem_cons hlt
  rw [hr] at hd
  simp only [List.cons.injEq] at hd
  rw [← hd.1] at hb
  rw [Lib.decFrom] at hm
  unfold Lib.digitVal at hm
  by_cases hc : 48 ≤ b.toNat ∧ b.toNat ≤ 57
  · simp only [if_pos hc] at hm
    have hd9 : b.toNat - 48 ≤ 9 := by clear ha hm; omega
    have h45 : ¬ ((b.toNat : Int) = 45) := by clear ha hm; omega
    have ha2 := pow_step ha hd9
    have h18 : (10 : Nat) ^ (i + 1) ≤ 10 ^ 18 := Nat.pow_le_pow_right (by decide) hi17
    have ha3 : acc * 10 + (b.toNat - 48) < 1000000000000000000 := Nat.lt_of_lt_of_le ha2 h18
    obtain ⟨h1, h2⟩ := ih (i + 1) (acc * 10 + (b.toNat - 48)) m k sg hd.2.symm hir ha2 hm hk'
    refine ⟨h1, ?_⟩
    rw [ambidexterref11_Int.l0, if_pos hi1, if_pos hi0, hb, if_neg h45, w1, int_step ha3 hc.1 hc.2]
    exact h2
  · simp only [if_neg hc] at hm
    cases hm
theorem int_atoi {s : ByteArray} {n : Int} (hl : s.size ≤ 18) (h : Lib.atoi s.data.toList = some n) (h43 : bt s 0 ≠ 43) : intS s = n := by
 have hsz : s.size = s.data.toList.length := by rw [Array.length_toList]; rfl
 obtain ⟨b, r, e, hc⟩ := Lib.atoi_cases h
 have hlen : s.data.toList.length = r.length + 1 := by rw [e]; simp
 have hb : bt s 0 = (b.toNat : Int) := by
  have := bt_get s 0 (by omega)
  simp only [e, List.getElem_cons_zero] at this
  exact this
 have hf := int_f s (by omega) (k := s.size + 1) (Nat.le_refl _)
 unfold ambidexterref11_Int.f at hf
 rcases hc with ⟨rfl, m, hne, hm, rfl⟩ | ⟨rfl, _⟩ | ⟨h45, _, m, hm, rfl⟩
 · have w1 : wrap64 ((0 : Int) + 1) = ((1 : Nat) : Int) := by unfold wrap64; omega
   rw [ambidexterref11_Int.l0, if_pos (by omega), if_pos (by omega), if_pos (by rw [hb]; rfl), w1] at hf
   obtain ⟨h1, h2⟩ := int_dec s (by omega) r 1 0 m s.size (-1) (by rw [e]; rfl) (by omega) (by decide) hm (by omega)
   have h2' : ambidexterref11_Int.l0 s.size s 0 (-1) ((1 : Nat) : Int) = _ := h2
   rw [h2'] at hf
   rw [← Option.some.inj hf]
   unfold wrap64; omega
 · rw [hb] at h43; exact absurd rfl h43
 · obtain ⟨h1, h2⟩ := int_dec s (by omega) (b :: r) 0 0 m (s.size + 1) 1 (by rw [e]; rfl) (by rw [List.length_cons]; omega) (by decide) hm (by rw [List.length_cons]; omega)
   have h2' : ambidexterref11_Int.l0 (s.size + 1) s 0 1 0 = _ := h2
   rw [h2'] at hf
   rw [← Option.some.inj hf]
   unfold wrap64; omega
theorem text_good {k : Int} {w : ByteArray} (h : TokText k w) : (k = 1 ∨ k = 2 ∨ k = 3) ∧ 0 < w.size ∧ (k = 3 → w.size = 1) ∧ (k = 2 → bt w 0 ≠ 43) := by
 obtain ⟨h0, h5, h6, h⟩ := h
 have hat : at_ w 0 = cls (bt w 0).toNat := at_in (by omega)
 unfold nextAt at h
 by_cases c1 : at_ w 0 = 1
 · rw [if_pos c1] at h
   have hk := congrArg (fun x => x.1) h
   simp only at hk
   exact ⟨.inl hk.symm, h0, fun e => by omega, fun e => by omega⟩
 rw [if_neg c1] at h
 by_cases c4 : at_ w 0 = 4
 · rw [if_pos c4] at h
   have hk := congrArg (fun x => x.1) h
   have hj := congrArg (fun x => x.2.2.2.2) h
   simp only at hk hj
   exact ⟨.inr (.inr hk.symm), h0, fun e => by omega, fun e => by omega⟩
 rw [if_neg c4] at h
 by_cases c7 : at_ w 0 = 7 ∨ at_ w 0 = 2
 · rw [if_pos c7] at h
   simp only at h
   split at h
   · have hk := congrArg (fun x => x.1) h
     simp only at hk
     refine ⟨.inr (.inl hk.symm), h0, fun e => by omega, fun _ e => ?_⟩
     rw [hat, e] at c7
     exact absurd c7 (by decide)
   · have hk := congrArg (fun x => x.2.2.2.1) h
     cases hk
 · rw [if_neg c7] at h
   have hk := congrArg (fun x => x.2.2.2.1) h
   cases hk
theorem path_goods {s : ByteArray} {j : Int} {ts : List S67} (h : Path s 0 ts j) : Goods ts := by
 intro t ht
 obtain ⟨p, h0, h1, h5, h6, hok, rfl⟩ := path_tok h (Int.le_refl _) (by omega) t ht
 obtain ⟨a, b, c, d⟩ := text_good (tok_alone h0 h1 hok h5 h6)
 refine ⟨a, b, c, fun h2 => ?_⟩
 have h2' : (nextAt s p).1 = 2 := h2
 obtain ⟨h18, n, hn⟩ := next_num h0 hok h2'
 refine ⟨h18, ?_⟩
 have hi := int_atoi h18 hn (d h2')
 show intS (nextAt s p).2.1 = (Lib.atoi (nextAt s p).2.1.data.toList).getD 0
 rw [hi, hn]; rfl
theorem lex_goods (s : ByteArray) : Goods (lexB s).1 := by
 by_cases hs : s.size ≤ 20000
 · obtain ⟨ts, j, hp, h0, h1, hc⟩ := whole s hs
   rcases hc with ⟨hl, hk⟩ | ⟨hl, _, _⟩
   · rw [hl]; exact path_goods hp
   · rw [hl]; exact fun t ht => by cases ht
 · unfold lexB
   rw [if_pos (by omega)]
   exact fun t ht => by cases ht
def ambidexterref11_Parse.f (k : Nat) (a0 : ByteArray) : Option (List S37 × List S40) :=
 if (lexB a0).2.1 = 0 then (rstmtsS a0.size k 0 ⟨(lexB a0).1, 0, [], false⟩ []).map fun r => (r.1, r.2.fl) else some ([], [⟨(lexB a0).2.1, (lexB a0).2.2⟩])
theorem parse_both (s : ByteArray) : ∃ l f, parser_Parse.f 30000 s = some (l, f) ∧ ambidexterref11_Parse.f 30000 s = some (l, f) := by
 unfold parser_Parse.f ambidexterref11_Parse.f
 by_cases he : (lexB s).2.1 = 0
 · have hl := lexB_len s
   obtain ⟨l, s', s'', h1, h2, h3⟩ := stmts_both s.size 30000 0 ⟨(lexB s).1, 0, [], false⟩ [] (Int.le_refl _) (by decide) (lex_ok s) (lex_goods s) (by simp only; omega) (inv0 _) (by simp) (by simp only; omega)
   rw [if_pos he, if_pos he, h1, h2]
   exact ⟨l, s'.fl, rfl, by rw [h3.2.1]; rfl⟩
 · rw [if_neg he, if_neg he]
   exact ⟨_, _, rfl, rfl⟩
theorem smallB_of {n : Int} (h : Small n) : smallB n = true := by
 obtain ⟨h1, h2⟩ := h
 unfold smallB
 rw [decide_eq_true (show n > -1000000000 from h1), decide_eq_true h2]
 rfl
theorem smallJ_of {q : S34} (h : SmallQ q) : smallJ q = true := by
 unfold smallJ
 rw [smallB_of h.1, smallB_of h.2.1, smallB_of h.2.2]
 rfl
theorem small0 : Small 0 := ⟨by decide, by decide⟩
theorem smallZ : SmallQ zJ := ⟨small0, small0, small0⟩
theorem name_lex {s : ByteArray} (h : TokText 1 s) (hs : s.size ≤ 20000) : lexB s = ([⟨1, s, 0⟩], 0, 0) := (LexT.tok h).lex hs
theorem name_true {s : ByteArray} (h : NameOK s) : parser_name.f s = some true := by
 have hl := name_lex h.1 (by have := h.2.1; omega)
 have hn : isNamed ⟨1, s, 0⟩ = true := by
  have h1 := h.2.1
  simp only [isNamed, h.2.2, Bool.not_false, Bool.and_true, beq_self_eq_true, Bool.true_and, decide_eq_true_eq]
  omega
 unfold parser_name.f
 rw [show lexer_Lex.f s = some (lexB s) from rfl, hl]
 simp only [Option.bind_some]
 rw [if_pos trivial, if_pos (by simp), if_pos (by simp)]
 show (Option.bind (some (isNamed ⟨1, s, 0⟩)) fun t124 => if t124 = true then some (s.toList == s.toList) else some false) = _
 rw [hn]
 simp
theorem plainF_of {k : Nat} {x : S37} (h1 : 1 ≤ x.f0) (h8 : x.f0 ≤ 8) (ha : x.f1 = 0 ∨ x.f1 = 1) (hn : Small x.f4) (hs : sameS (parser_Equal.f k) x (bareS x) = some true) (hq : SmallQ x.f5.f0) (hp : SmallQ x.f5.f1) (hm : namesF x = some true) : plainF k x = some true := by
 unfold plainF
 rw [if_neg (by omega), if_neg (by omega), if_neg (by omega), if_neg (by rw [smallB_of hn]; decide), hs, Option.bind_some, if_neg (by decide), if_neg (by rw [smallJ_of hq]; decide), if_neg (by rw [smallJ_of hp]; decide)]
 exact hm
theorem plain_true {x : S37} (hx : PlainOK x) (hs : SimL x.f6 x.f6) : ∃ K, ∀ k, K ≤ k → plainF k x = some true := by
 obtain ⟨K, hK⟩ := hs.equal
 obtain ⟨K0, hK0⟩ := SimL.nil.equal
 refine ⟨max K K0, fun k hk => ?_⟩
 have hk1 := hK k (by omega)
 have hk0 := hK0 k (by omega)
 cases hx with
 | go0 h => exact plainF_of (by simp) (by simp) (.inl rfl) small0 (same_true rfl rfl rfl rfl rfl rfl hk0) h smallZ rfl
 | go1 h => exact plainF_of (by simp) (by simp) (.inr rfl) small0 (same_true rfl rfl rfl rfl rfl rfl hk0) smallZ h rfl
 | home h => exact plainF_of (by simp) (by simp) h small0 (same_true rfl rfl rfl rfl rfl rfl hk0) smallZ smallZ rfl
 | pick h hn => exact plainF_of (by simp) (by simp) h small0 (same_true rfl rfl rfl rfl rfl rfl hk0) smallZ smallZ (by simp [namesF, name_true hn])
 | put h hn => exact plainF_of (by simp) (by simp) h small0 (same_true rfl rfl rfl rfl rfl rfl hk0) smallZ smallZ (by simp [namesF, name_true hn])
 | hand h hn => exact plainF_of (by simp) (by simp) h small0 (same_true rfl rfl rfl rfl rfl rfl hk0) smallZ smallZ (by simp [namesF, name_true hn])
 | wait h => exact plainF_of (by simp) (by simp) (.inl rfl) h (same_true rfl rfl rfl rfl rfl rfl hk0) smallZ smallZ rfl
 | when_ h g => exact plainF_of (by simp) (by simp) (.inl rfl) small0 (same_true rfl rfl rfl rfl rfl rfl hk1) smallZ smallZ (by simp [namesF, name_true h, name_true g])
 | both h g => exact plainF_of (by simp) (by simp) (.inl rfl) small0 (same_true rfl rfl rfl rfl rfl rfl hk0) h g rfl
theorem count_step (k : Nat) (deep n : Int) (l : List S37) (i : Int) (h0 : 0 ≤ i) (h1 : i < l.length) : parser_count.l0 (k + 2) deep n l l.length i =
 if wrap64 (n + 1) > 64 then some 65 else if (rd_T37 l i).f0 = 7 ∧ deep = 4 then some 65
 else (plainF (k + 1) (rd_T37 l i)).bind fun t => if t = true then (if (rd_T37 l i).f0 = 7 then (parser_count.f k (rd_T37 l i).f6 (wrap64 (deep + 1))).bind fun m => parser_count.l0 k deep (wrap64 (wrap64 (n + 1) + m)) l l.length (wrap64 (i + 1)) else parser_count.l0 k deep (wrap64 (n + 1)) l l.length (wrap64 (i + 1))) else some 65 := by
 rw [parser_count.l0, if_pos h1, if_pos h0, if_pos h1]
 by_cases c : wrap64 (n + 1) > 64
 · rw [if_pos c, if_pos c, parser_count.j1, if_pos rfl]
 rw [if_neg c, if_neg c]
 by_cases c7 : (rd_T37 l i).f0 = 7
 · rw [if_pos c7]
   by_cases c4 : deep = 4
   · rw [if_pos c4, if_pos ⟨c7, c4⟩, parser_count.j1, if_pos rfl]
   · rw [if_neg c4, if_neg (fun h => c4 h.2)]
     simp only [parser_count.j1]
     show (plainF (k + 1) (rd_T37 l i)).bind _ = _
     congr 1
     funext t
     cases t
     · rfl
     · simp only [Bool.not_true, Bool.false_eq_true, if_false, if_true]
 · rw [if_neg c7, if_neg (fun h => c7 h.1)]
   simp only [parser_count.j1]
   show (plainF (k + 1) (rd_T37 l i)).bind _ = _
   congr 1
   funext t
   cases t
   · rfl
   · simp only [Bool.not_true, Bool.false_eq_true, if_false, if_true, if_neg c7]
theorem rd_mid (pre : List S37) (x : S37) (l : List S37) : rd_T37 (pre ++ x :: l) (pre.length : Int) = x := by simp [rd_T37]
theorem count_end (k : Nat) (deep n : Int) (l : List S37) : parser_count.l0 (k + 1) deep n l l.length l.length = some n := by
 rw [parser_count.l0, if_neg (Int.lt_irrefl _)]
theorem plain_lift {k k' : Nat} {x : S37} {r : Bool} (hk : k ≤ k') (h : plainF k x = some r) : plainF k' x = some r := by
 obtain ⟨j, rfl⟩ := Nat.exists_eq_add_of_le hk
 induction j with
 | zero => exact h
 | succ j ih => exact plain_le _ _ _ (ih (by omega))
theorem vls_len {d m : Nat} {l : List S37} {ks : List (Int × ByteArray)} (h : VLs d l m ks) : l.length ≤ m := by
 induction h with
 | nil => simp
 | plain _ _ _ ih => simp only [List.length_cons]; omega
 | when_ _ _ _ _ _ ih => simp only [List.length_cons]; omega
theorem count_ok {d m : Nat} {l : List S37} {ks : List (Int × ByteArray)} (h : VLs d l m ks) : ∀ (deep n : Int) (pre : List S37), 0 ≤ deep → deep + d ≤ 4 → 0 ≤ n → n + m ≤ 64 → (pre.length : Int) + l.length ≤ 1000000 → ∃ K, ∀ k, K ≤ k → parser_count.l0 k deep n (pre ++ l) (pre ++ l).length pre.length = some (n + m) := by
 induction h with
 | nil d =>
  intro deep n pre hd hd4 hn hm hp
  refine ⟨1, fun k hk => ?_⟩
  obtain ⟨k, rfl⟩ : ∃ j, k = j + 1 := ⟨k - 1, by omega⟩
  rw [List.append_nil, count_end]
  simp
 | @plain d m x l ks hx h7 hl ih =>
  intro deep n pre hd hd4 hn hm hp
  obtain ⟨K, hK⟩ := ih deep (n + 1) (pre ++ [x]) hd hd4 (by omega) (by omega) (by simp only [List.length_append, List.length_cons, List.length_nil] at hp ⊢; omega)
  have h6 : SimL x.f6 x.f6 := by cases hx <;> first | exact .nil | exact absurd rfl h7
  obtain ⟨K1, hK1⟩ := plain_true hx h6
  refine ⟨max K K1 + 2, fun k hk => ?_⟩
  obtain ⟨k, rfl⟩ : ∃ j, k = j + 2 := ⟨k - 2, by omega⟩
  have hn1 : wrap64 (n + 1) = n + 1 := by unfold wrap64; omega
  have hi1 : wrap64 ((pre.length : Int) + 1) = ((pre ++ [x]).length : Int) := by
   simp only [List.length_append, List.length_cons, List.length_nil] at hp ⊢
   unfold wrap64; omega
  rw [count_step k deep n (pre ++ x :: l) pre.length (by omega) (by simp only [List.length_append, List.length_cons]; omega), rd_mid, hn1, hi1, if_neg (by omega), if_neg (fun h => h7 h.1), plain_lift (Nat.le_succ k) (hK1 k (by omega)), Option.bind_some, if_pos rfl, if_neg h7]
  have := hK k (by omega)
  rw [List.append_assoc, List.singleton_append] at this
  rw [this]
  congr 1; omega
 | @when_ d m1 m2 x l ks ls hx h7 hkd hl ihk ihl =>
  intro deep n pre hd hd4 hn hm hp
  obtain ⟨K, hK⟩ := ihl deep (n + 1 + m2) (pre ++ [x]) hd hd4 (by omega) (by omega) (by simp only [List.length_append, List.length_cons, List.length_nil] at hp ⊢; omega)
  obtain ⟨K2, hK2⟩ := ihk (deep + 1) 0 [] (by omega) (by omega) (Int.le_refl _) (by omega) (by
   have := vls_len hkd
   simp only [List.length_nil]; omega)
  obtain ⟨K1, hK1⟩ := plain_true hx hkd.sim
  refine ⟨max (max K K1) (K2 + 1) + 2, fun k hk => ?_⟩
  obtain ⟨k, rfl⟩ : ∃ j, k = j + 2 := ⟨k - 2, by omega⟩
  have hn1 : wrap64 (n + 1) = n + 1 := by unfold wrap64; omega
  have hd1 : wrap64 (deep + 1) = deep + 1 := by unfold wrap64; omega
  have hi1 : wrap64 ((pre.length : Int) + 1) = ((pre ++ [x]).length : Int) := by
   simp only [List.length_append, List.length_cons, List.length_nil] at hp ⊢
   unfold wrap64; omega
  have hc : parser_count.f k x.f6 (deep + 1) = some (m2 : Int) := by
   obtain ⟨k, rfl⟩ : ∃ j, k = j + 1 := ⟨k - 1, by omega⟩
   have := hK2 k (by omega)
   rw [parser_count.f]
   simpa using this
  have hn2 : wrap64 (n + 1 + (m2 : Int)) = n + 1 + m2 := by unfold wrap64; omega
  rw [count_step k deep n (pre ++ x :: l) pre.length (by omega) (by simp only [List.length_append, List.length_cons]; omega), rd_mid, hn1, hi1, hd1, if_neg (by omega), if_neg (by omega), plain_lift (Nat.le_succ k) (hK1 k (by omega)), Option.bind_some, if_pos rfl, if_pos h7, hc, Option.bind_some, hn2]
  have := hK k (by omega)
  rw [List.append_assoc, List.singleton_append] at this
  rw [this]
  congr 1; omega
theorem valid_ok {m : Nat} {l : List S37} {ks : List (Int × ByteArray)} (h : VLs 4 l m ks) (hm : m ≤ 64) : ∃ K, ∀ k, K ≤ k → parser_Valid.f k l = some true := by
 obtain ⟨K, hK⟩ := count_ok h 0 0 [] (Int.le_refl _) (by omega) (Int.le_refl _) (by omega) (by have := vls_len h; simp only [List.length_nil]; omega)
 refine ⟨K + 1, fun k hk => ?_⟩
 obtain ⟨k, rfl⟩ : ∃ j, k = j + 1 := ⟨k - 1, by omega⟩
 have := hK k (by omega)
 unfold parser_Valid.f
 rw [parser_count.f]
 have e : parser_count.l0 k 0 0 l (l.length : Int) 0 = some (0 + (m : Int)) := by simpa using this
 rw [e, Option.bind_some, decide_eq_true (by omega)]
theorem kids_lt {l : List S37} {x : S37} (h : x ∈ l) : SizeOf.sizeOf x.f6 < SizeOf.sizeOf l := by
 have h1 := List.sizeOf_lt_of_mem h
 have h2 : SizeOf.sizeOf x.f6 < SizeOf.sizeOf x := by
  cases x
  simp only [S37.mk.sizeOf_spec]
  omega
 omega
theorem list_ind {P : List S37 → Prop} (h : ∀ l, (∀ x ∈ l, P x.f6) → P l) : ∀ l, P l := by
 have key : ∀ (n : Nat) (l : List S37), SizeOf.sizeOf l < n → P l := by
  intro n
  induction n with
  | zero => intro l hl; omega
  | succ n ih => intro l hl; exact h l (fun x hx => ih _ (by have := kids_lt hx; omega))
 exact fun l => key _ l (Nat.lt_succ_self _)
def EvalsTo {α : Type} (f : Nat → Option α) (b : α) : Prop := ∃ K, ∀ k, K ≤ k → f k = some b
theorem EvalsTo.const {α : Type} (b : α) : EvalsTo (fun _ => some b) b := ⟨0, fun _ _ => rfl⟩
theorem EvalsTo.bind {α β : Type} {f : Nat → Option α} {a : α} {g : Nat → α → Option β} {b : β} (h : EvalsTo f a) (hg : EvalsTo (fun k => g k a) b) : EvalsTo (fun k => (f k).bind (g k)) b := by
 obtain ⟨K, hK⟩ := h
 obtain ⟨K2, hK2⟩ := hg
 exact ⟨max K K2, fun k hk => by simp only; rw [hK k (by omega), Option.bind_some]; exact hK2 k (by omega)⟩
theorem EvalsTo.congr {α : Type} {f g : Nat → Option α} {b : α} (h : EvalsTo f b) (e : ∀ k, g k = f k) : EvalsTo g b := by
 obtain ⟨K, hK⟩ := h
 exact ⟨K, fun k hk => by rw [e k]; exact hK k hk⟩
theorem EvalsTo.shift {α : Type} {f g : Nat → Option α} {b : α} {j : Nat} (h : EvalsTo f b) (e : ∀ k, g (k + j) = f k) : EvalsTo g b := by
 obtain ⟨K, hK⟩ := h
 refine ⟨K + j, fun k hk => ?_⟩
 have := e (k - j)
 rw [show k - j + j = k by omega] at this
 rw [this]
 exact hK _ (by omega)
theorem same_total {EQ : Nat → List S37 → List S37 → Option Bool} {x y : S37} {b : Bool} (h : EvalsTo (fun k => EQ k x.f6 y.f6) b) : ∃ b', EvalsTo (fun k => sameS (EQ k) x y) b' := by
 obtain ⟨K, hK⟩ := h
 have : ∀ k, K ≤ k → sameS (EQ k) x y = sameS (fun _ _ => some b) x y := by
  intro k hk
  unfold sameS sameE
  rw [show EQ k x.f6 y.f6 = some b from hK k hk]
 have ht : ∃ b', sameS (fun _ _ => some b) x y = some b' := by
  unfold sameS sameE
  repeat' (first | exact ⟨_, rfl⟩ | split)
 obtain ⟨b', hb⟩ := ht
 exact ⟨b', K, fun k hk => (this k hk).trans hb⟩
theorem equal_total : ∀ (l m : List S37), ∃ b, EvalsTo (fun k => parser_Equal.f k l m) b := by
 refine list_ind fun l ih m => ?_
 have key : ∀ (l : List S37), (∀ x ∈ l, ∀ m, ∃ b, EvalsTo (fun k => parser_Equal.f k x.f6 m) b) → ∀ m, ∃ b, EvalsTo (fun k => eqLoop (parser_Equal.f k) l m) b := by
  intro l
  induction l with
  | nil => intro _ m; exact ⟨true, .const _⟩
  | cons x l il =>
   intro H m
   cases m with
   | nil => exact ⟨false, .const _⟩
   | cons y m =>
    obtain ⟨b, hb⟩ := H x List.mem_cons_self y.f6
    obtain ⟨b1, h1⟩ := same_total hb
    obtain ⟨b2, h2⟩ := il (fun z hz => H z (List.mem_cons_of_mem _ hz)) m
    refine ⟨if b1 = true then b2 else false, ?_⟩
    refine EvalsTo.bind (g := fun k t => if t = true then eqLoop (parser_Equal.f k) l m else some false) h1 ?_
    cases b1
    · exact .const _
    · exact h2
 obtain ⟨b, hb⟩ := key l ih m
 by_cases hl : l.length = m.length
 · refine ⟨b, EvalsTo.shift (j := 1) hb fun k => ?_⟩
   show (if l.length = m.length then eqLoop (parser_Equal.f k) l m else some false) = _
   rw [if_pos hl]
 · refine ⟨false, EvalsTo.shift (j := 1) (EvalsTo.const false) fun k => ?_⟩
   show (if l.length = m.length then eqLoop (parser_Equal.f k) l m else some false) = _
   rw [if_neg hl]
theorem name_total (s : ByteArray) : ∃ b, parser_name.f s = some b := by
 unfold parser_name.f
 rw [show lexer_Lex.f s = some (lexB s) from rfl, Option.bind_some]
 by_cases h0 : (lexB s).2.1 = 0
 · rw [if_pos h0]
   by_cases h1 : ((lexB s).1.length : Int) = 1
   · rw [if_pos h1, if_pos (by omega)]
     unfold parser_named.f
     rw [Option.bind_some]
     split <;> exact ⟨_, rfl⟩
   · rw [if_neg h1]; exact ⟨_, rfl⟩
 · rw [if_neg h0]; exact ⟨_, rfl⟩
theorem names_total (x : S37) : ∃ b, namesF x = some b := by
 obtain ⟨b, hb⟩ := name_total x.f2
 obtain ⟨c, hc⟩ := name_total x.f3
 unfold namesF
 rw [hb, hc]
 repeat' (first | exact ⟨_, rfl⟩ | split | simp only [Option.bind_some])
theorem plain_total (x : S37) : ∃ b, EvalsTo (fun k => plainF k x) b := by
 obtain ⟨b, hb⟩ := equal_total x.f6 (bareS x).f6
 obtain ⟨b1, K, h1⟩ := same_total hb
 simp only at h1
 obtain ⟨c, hc⟩ := names_total x
 have : ∀ k, K ≤ k → plainF k x = plainF K x := by
  intro k hk
  unfold plainF
  rw [h1 k hk, h1 K (Nat.le_refl _)]
 have ht : ∃ b', plainF K x = some b' := by
  unfold plainF
  rw [h1 K (Nat.le_refl _), hc, Option.bind_some]
  repeat' (first | exact ⟨_, rfl⟩ | split)
 obtain ⟨b', hb'⟩ := ht
 exact ⟨b', K, fun k hk => (this k hk).trans hb'⟩
theorem count_total : ∀ (l : List S37) (deep : Int), 0 ≤ deep → deep ≤ 4 → ∃ r, EvalsTo (fun k => parser_count.f k l deep) r ∧ 0 ≤ r ∧ r ≤ 100 * (5 - deep) := by
 refine list_ind fun l ih deep hd hd4 => ?_
 have key : ∀ (l : List S37), (∀ x ∈ l, ∀ deep : Int, 0 ≤ deep → deep ≤ 4 → ∃ r, EvalsTo (fun k => parser_count.f k x.f6 deep) r ∧ 0 ≤ r ∧ r ≤ 100 * (5 - deep)) →
  ∀ (n : Int) (pre : List S37), 0 ≤ n → (pre.length : Int) ≤ n → n ≤ 65 + 100 * (4 - deep) → ∃ r, EvalsTo (fun k => parser_count.l0 k deep n (pre ++ l) (pre ++ l).length pre.length) r ∧ 0 ≤ r ∧ r ≤ 100 * (5 - deep) := by
  intro l
  induction l with
  | nil =>
   intro _ n pre h0 hp hn
   refine ⟨n, EvalsTo.shift (j := 1) (EvalsTo.const n) (fun k => ?_), h0, by omega⟩
   rw [List.append_nil, count_end]
  | cons x l il =>
   intro H n pre h0 hp hn
   have hn1 : wrap64 (n + 1) = n + 1 := by unfold wrap64; omega
   have hd1 : wrap64 (deep + 1) = deep + 1 := by unfold wrap64; omega
   have hst := fun k => count_step k deep n (pre ++ x :: l) pre.length (by omega) (by simp only [List.length_append, List.length_cons]; omega)
   simp only [rd_mid, hn1, hd1] at hst
   by_cases c : n + 1 > 64
   · refine ⟨65, EvalsTo.shift (j := 2) (EvalsTo.const 65) (fun k => ?_), by omega, by omega⟩
     rw [hst, if_pos c]
   by_cases c7 : x.f0 = 7 ∧ deep = 4
   · refine ⟨65, EvalsTo.shift (j := 2) (EvalsTo.const 65) (fun k => ?_), by omega, by omega⟩
     rw [hst, if_neg c, if_pos c7]
   obtain ⟨b, K, hK⟩ := plain_total x
   have hi1 : wrap64 ((pre.length : Int) + 1) = ((pre ++ [x]).length : Int) := by
    simp only [List.length_append, List.length_cons, List.length_nil]
    unfold wrap64; omega
   simp only [hi1, if_neg c, if_neg c7] at hst
   have hp2 : EvalsTo (fun k => plainF (k + 1) x) b := ⟨K, fun k hk => hK _ (by omega)⟩
   cases b with
   | false =>
    refine ⟨65, EvalsTo.shift (j := 2) ?_ hst, by omega, by omega⟩
    refine EvalsTo.bind hp2 ?_
    simp only [Bool.false_eq_true, if_false]
    exact EvalsTo.const 65
   | true =>
    by_cases h7 : x.f0 = 7
    · obtain ⟨t, ht, ht0, ht1⟩ := H x List.mem_cons_self (deep + 1) (by omega) (by omega)
      obtain ⟨r, hr, hr0, hr1⟩ := il (fun z hz => H z (List.mem_cons_of_mem _ hz)) (n + 1 + t) (pre ++ [x]) (by omega) (by simp only [List.length_append, List.length_cons, List.length_nil]; omega) (by omega)
      have hw : wrap64 (n + 1 + t) = n + 1 + t := by unfold wrap64; omega
      rw [List.append_assoc, List.singleton_append] at hr
      refine ⟨r, EvalsTo.shift (j := 2) ?_ hst, hr0, hr1⟩
      refine EvalsTo.bind hp2 ?_
      simp only [if_true, if_pos h7]
      refine EvalsTo.bind ht ?_
      simp only [hw]
      exact hr
    · obtain ⟨r, hr, hr0, hr1⟩ := il (fun z hz => H z (List.mem_cons_of_mem _ hz)) (n + 1) (pre ++ [x]) (by omega) (by simp only [List.length_append, List.length_cons, List.length_nil]; omega) (by omega)
      rw [List.append_assoc, List.singleton_append] at hr
      refine ⟨r, EvalsTo.shift (j := 2) ?_ hst, hr0, hr1⟩
      refine EvalsTo.bind hp2 ?_
      simp only [if_true, if_neg h7]
      exact hr
 obtain ⟨r, hr, h0, h1⟩ := key l ih 0 [] (Int.le_refl _) (by simp) (by omega)
 refine ⟨r, EvalsTo.shift (j := 1) hr (fun k => ?_), h0, h1⟩
 rw [parser_count.f]
 rfl
theorem valid_total (l : List S37) : ∃ b, EvalsTo (fun k => parser_Valid.f k l) b := by
 obtain ⟨r, hr, _⟩ := count_total l 0 (Int.le_refl _) (by decide)
 refine ⟨decide (r ≤ 64), ?_⟩
 unfold parser_Valid.f
 exact EvalsTo.bind hr (EvalsTo.const _)
theorem name_inv {s : ByteArray} (h : parser_name.f s = some true) : NameOK s := by
 unfold parser_name.f at h
 rw [show lexer_Lex.f s = some (lexB s) from rfl, Option.bind_some] at h
 by_cases h0 : (lexB s).2.1 = 0
 · rw [if_pos h0] at h
   by_cases h1 : ((lexB s).1.length : Int) = 1
   · rw [if_pos h1, if_pos (by omega)] at h
     obtain ⟨t, ht⟩ : ∃ t, (lexB s).1 = [t] := List.length_eq_one_iff.1 (by omega)
     have hrd : rd_T67 (lexB s).1 0 = t := by rw [ht]; rfl
     rw [hrd] at h
     unfold parser_named.f at h
     rw [Option.bind_some] at h
     by_cases hn : isNamed t = true
     · have hn' : isNamed ⟨t.f0, t.f1, t.f2⟩ = true := hn
       rw [if_pos hn'] at h
       have he : t.f1.toList = s.toList := by simpa using h
       have he : t.f1 = s := by
        rw [ByteArray.toList_eq, ByteArray.toList_eq] at he
        apply ByteArray.ext
        exact Array.toList_inj.1 he
       simp only [isNamed, Bool.and_eq_true, beq_iff_eq, decide_eq_true_eq, Bool.not_eq_true'] at hn
       obtain ⟨n0, n1, n2⟩ := hn
       rw [he] at n1 n2
       have hl : lexB s = ([t], 0, 0) := by
        have hsz : s.size ≤ 20000 := by omega
        obtain ⟨ts, j, hp, _, _, hc⟩ := whole s hsz
        rcases hc with ⟨hl, _⟩ | ⟨hl, _, _⟩
        · rw [hl] at ht
          rw [hl]
          simp only at ht
          rw [ht]
        · rw [hl] at h0
          exact absurd h0 (by simp)
       have := tok_of_lex hl he (by omega)
       rw [n0] at this
       exact ⟨this, by omega, n2⟩
     · have hn' : ¬ isNamed ⟨t.f0, t.f1, t.f2⟩ = true := hn
       rw [if_neg hn'] at h
       exact absurd h (by simp)
   · rw [if_neg h1] at h; exact absurd h (by simp)
 · rw [if_neg h0] at h; exact absurd h (by simp)
theorem small_inv {n : Int} (h : smallB n = true) : Small n := by
 unfold smallB at h
 simp only [Bool.and_eq_true, decide_eq_true_eq] at h
 exact h
theorem smallJ_inv {q : S34} (h : smallJ q = true) : SmallQ q := by
 unfold smallJ at h
 simp only [Bool.and_eq_true] at h
 exact ⟨small_inv h.1, small_inv h.2.1, small_inv h.2.2⟩
theorem same_inv {EQ : List S37 → List S37 → Option Bool} {x y : S37} (h : sameS EQ x y = some true) : x.f0 = y.f0 ∧ x.f1 = y.f1 ∧ x.f2 = y.f2 ∧ x.f3 = y.f3 ∧ x.f4 = y.f4 ∧ x.f5 = y.f5 ∧ EQ x.f6 y.f6 = some true := by
 have hb : ∀ {a b : ByteArray}, a.toList = b.toList → a = b := by
  intro a b he
  rw [ByteArray.toList_eq, ByteArray.toList_eq] at he
  apply ByteArray.ext
  exact Array.toList_inj.1 he
 unfold sameS sameE at h
 split at h
 case isFalse => exact absurd h (by simp)
 rename_i h0
 split at h
 case isFalse => exact absurd h (by simp)
 rename_i h1
 split at h
 case isFalse => exact absurd h (by simp)
 rename_i h2
 split at h
 case isFalse => exact absurd h (by simp)
 rename_i h3
 split at h
 case isFalse => exact absurd h (by simp)
 rename_i h4
 split at h
 case isFalse => exact absurd h (by simp)
 rename_i h5
 simp only [Bool.and_eq_true, beq_iff_eq] at h5
 obtain ⟨⟨a, b, c⟩, d, e, f⟩ := h5
 obtain ⟨t, ht, h⟩ := Option.bind_eq_some_iff.1 h
 obtain rfl := Option.some.inj h
 refine ⟨h0, h1, hb h2, hb h3, h4, ?_, ht⟩
 obtain ⟨x0, x1, x2, x3, x4, ⟨⟨q0, q1, q2⟩, ⟨p0, p1, p2⟩⟩, x6, x7⟩ := x
 obtain ⟨y0, y1, y2, y3, y4, ⟨⟨r0, r1, r2⟩, ⟨s0, s1, s2⟩⟩, y6, y7⟩ := y
 simp only at a b c d e f ⊢
 subst a b c d e f
 rfl
theorem equal_len {k : Nat} {l m : List S37} (h : parser_Equal.f k l m = some true) : l.length = m.length := by
 cases k with
 | zero => exact absurd h (by simp [parser_Equal.f])
 | succ k =>
  have h : (if l.length = m.length then eqLoop (parser_Equal.f k) l m else some false) = some true := h
  by_cases e : l.length = m.length
  · exact e
  · rw [if_neg e] at h; exact absurd h (by simp)
theorem bind_true {o : Option Bool} (h : (o.bind fun a => if a = true then some true else some false) = some true) : o = some true := by
 obtain ⟨b, hb, h⟩ := Option.bind_eq_some_iff.1 h
 cases b with
 | true => exact hb
 | false => exact absurd h (by simp)
theorem plain_inv {k : Nat} {x : S37} (h : plainF k x = some true) : PlainOK x := by
 unfold plainF at h
 by_cases h1 : x.f0 < 1
 · rw [if_pos h1] at h; exact absurd h (by simp)
 rw [if_neg h1] at h
 by_cases h8 : x.f0 > 8
 · rw [if_pos h8] at h; exact absurd h (by simp)
 rw [if_neg h8] at h
 by_cases ha : x.f1 ≠ 0 ∧ x.f1 ≠ 1
 · rw [if_pos ha] at h; exact absurd h (by simp)
 rw [if_neg ha] at h
 by_cases hn : smallB x.f4 = false
 · rw [if_pos hn] at h; exact absurd h (by simp)
 rw [if_neg hn] at h
 replace hn := small_inv (by simpa using hn)
 obtain ⟨t, ht, h⟩ := Option.bind_eq_some_iff.1 h
 cases t with
 | false => exact absurd h (by simp)
 | true =>
 rw [if_neg (by decide)] at h
 by_cases hq : smallJ x.f5.f0 = false
 · rw [if_pos hq] at h; exact absurd h (by simp)
 rw [if_neg hq] at h
 replace hq := smallJ_inv (by simpa using hq)
 by_cases hp : smallJ x.f5.f1 = false
 · rw [if_pos hp] at h; exact absurd h (by simp)
 rw [if_neg hp] at h
 replace hp := smallJ_inv (by simpa using hp)
 obtain ⟨s0, s1, s2, s3, s4, s5, s6⟩ := same_inv ht
 have hlen := equal_len s6
 replace ha : x.f1 = 0 ∨ x.f1 = 1 := by omega
 obtain ⟨x0, x1, x2, x3, x4, ⟨q, p⟩, x6, x7⟩ := x
 simp only at h1 h8 ha hn hq hp
 have hk : x0 = 1 ∨ x0 = 2 ∨ x0 = 3 ∨ x0 = 4 ∨ x0 = 5 ∨ x0 = 6 ∨ x0 = 7 ∨ x0 = 8 := by omega
 clear s0 s6 ht
 rcases hk with rfl | rfl | rfl | rfl | rfl | rfl | rfl | rfl
 · rcases ha with rfl | rfl
   · simp [bareS] at s2 s3 s4 s5 hlen
     subst s2 s3 s4 s5
     obtain rfl := List.eq_nil_of_length_eq_zero (by simpa using hlen)
     exact .go0 hq
   · simp [bareS] at s2 s3 s4 s5 hlen
     subst s2 s3 s4 s5
     obtain rfl := List.eq_nil_of_length_eq_zero (by simpa using hlen)
     exact .go1 hp
 · simp [bareS] at s2 s3 s4 s5 hlen
   obtain ⟨rfl, rfl⟩ := s5
   subst s2 s3 s4
   obtain rfl := List.eq_nil_of_length_eq_zero (by simpa using hlen)
   exact .home ha
 · simp [bareS] at s3 s4 s5 hlen
   obtain ⟨rfl, rfl⟩ := s5
   subst s3 s4
   obtain rfl := List.eq_nil_of_length_eq_zero (by simpa using hlen)
   have hnm : parser_name.f x2 = some true := bind_true (by simpa [namesF] using h)
   exact .pick ha (name_inv hnm)
 · simp [bareS] at s2 s4 s5 hlen
   obtain ⟨rfl, rfl⟩ := s5
   subst s2 s4
   obtain rfl := List.eq_nil_of_length_eq_zero (by simpa using hlen)
   have hnm : parser_name.f x3 = some true := by simpa [namesF] using h
   exact .put ha (name_inv hnm)
 · simp [bareS] at s2 s4 s5 hlen
   obtain ⟨rfl, rfl⟩ := s5
   subst s2 s4
   obtain rfl := List.eq_nil_of_length_eq_zero (by simpa using hlen)
   have hnm : parser_name.f x3 = some true := by simpa [namesF] using h
   exact .hand ha (name_inv hnm)
 · simp [bareS] at s1 s2 s3 s5 hlen
   obtain ⟨rfl, rfl⟩ := s5
   subst s1 s2 s3
   obtain rfl := List.eq_nil_of_length_eq_zero (by simpa using hlen)
   exact .wait hn
 · simp [bareS] at s1 s4 s5
   obtain ⟨rfl, rfl⟩ := s5
   subst s1 s4
   obtain ⟨b, hb, h⟩ := Option.bind_eq_some_iff.1 (show (parser_name.f x2).bind (fun a => if a = true then parser_name.f x3 else some false) = some true by simpa [namesF] using h)
   cases b with
   | false => exact absurd h (by simp)
   | true => exact .when_ (name_inv hb) (name_inv (by simpa using h))
 · simp [bareS] at s1 s2 s3 s4 hlen
   subst s1 s2 s3 s4
   obtain rfl := List.eq_nil_of_length_eq_zero (by simpa using hlen)
   exact .both hq hp
theorem count_lift2 {k : Nat} {deep n m i r : Int} {l : List S37} (h : parser_count.l0 k deep n l m i = some r) : parser_count.l0 (k + 2) deep n l m i = some r := (parser_count.mono_l (k + 1)).2.1 _ _ _ _ _ _ ((parser_count.mono_l k).2.1 _ _ _ _ _ _ h)
theorem count_inv : ∀ (l : List S37) (k : Nat) (deep r : Int), 0 ≤ deep → deep ≤ 4 → parser_count.f k l deep = some r → 0 ≤ r ∧ r ≤ 100 * (5 - deep) ∧ (r ≤ 64 → ∃ m ks, VLs (4 - deep).toNat l m ks ∧ (m : Int) = r) := by
 refine list_ind fun l ih k deep r hd hd4 h => ?_
 have key : ∀ (l : List S37), (∀ x ∈ l, ∀ (k : Nat) (deep r : Int), 0 ≤ deep → deep ≤ 4 → parser_count.f k x.f6 deep = some r → 0 ≤ r ∧ r ≤ 100 * (5 - deep) ∧ (r ≤ 64 → ∃ m ks, VLs (4 - deep).toNat x.f6 m ks ∧ (m : Int) = r)) →
  ∀ (k : Nat) (n r : Int) (pre : List S37), 0 ≤ n → (pre.length : Int) ≤ n → n ≤ 65 + 100 * (4 - deep) → parser_count.l0 k deep n (pre ++ l) (pre ++ l).length pre.length = some r → 0 ≤ r ∧ r ≤ 100 * (5 - deep) ∧ (r ≤ 64 → ∃ m ks, VLs (4 - deep).toNat l m ks ∧ n + (m : Int) = r) := by
  intro l
  induction l with
  | nil =>
   intro _ k n r pre h0 hp hn h
   rw [List.append_nil] at h
   have h2 := count_lift2 h
   rw [count_end] at h2
   obtain rfl := Option.some.inj h2
   exact ⟨h0, by omega, fun _ => ⟨0, [], .nil _, by simp⟩⟩
  | cons x l il =>
   intro H k n r pre h0 hp hn h
   have hn1 : wrap64 (n + 1) = n + 1 := by unfold wrap64; omega
   have hd1 : wrap64 (deep + 1) = deep + 1 := by unfold wrap64; omega
   have hst := count_step k deep n (pre ++ x :: l) pre.length (by omega) (by simp only [List.length_append, List.length_cons]; omega)
   rw [count_lift2 h] at hst
   simp only [rd_mid, hn1, hd1] at hst
   by_cases c : n + 1 > 64
   · rw [if_pos c] at hst
     have := Option.some.inj hst
     exact ⟨by omega, by omega, fun hr => by omega⟩
   rw [if_neg c] at hst
   by_cases c7 : x.f0 = 7 ∧ deep = 4
   · rw [if_pos c7] at hst
     have := Option.some.inj hst
     exact ⟨by omega, by omega, fun hr => by omega⟩
   rw [if_neg c7] at hst
   obtain ⟨t, ht, hst⟩ := Option.bind_eq_some_iff.1 hst.symm
   cases t with
   | false =>
    have := Option.some.inj hst
    exact ⟨by omega, by omega, fun hr => by omega⟩
   | true =>
   have hx := plain_inv ht
   have hi1 : wrap64 ((pre.length : Int) + 1) = ((pre ++ [x]).length : Int) := by
    simp only [List.length_append, List.length_cons, List.length_nil]
    unfold wrap64; omega
   have hpl : ((pre ++ [x]).length : Int) = pre.length + 1 := by simp
   have hap : pre ++ x :: l = (pre ++ [x]) ++ l := by simp
   rw [if_pos rfl, hi1, hap] at hst
   by_cases h7 : x.f0 = 7
   · rw [if_pos h7] at hst
     obtain ⟨t, ht2, hst⟩ := Option.bind_eq_some_iff.1 hst
     obtain ⟨t0, t1, t2⟩ := H x List.mem_cons_self k (deep + 1) t (by omega) (by omega) ht2
     have hw : wrap64 (n + 1 + t) = n + 1 + t := by unfold wrap64; omega
     rw [hw] at hst
     obtain ⟨r0, r1, r2⟩ := il (fun z hz => H z (List.mem_cons_of_mem _ hz)) k (n + 1 + t) r (pre ++ [x]) (by omega) (by omega) (by omega) hst
     refine ⟨r0, r1, fun hr => ?_⟩
     obtain ⟨m, ks, hv, hm⟩ := r2 hr
     obtain ⟨m2, ls, hv2, hm2⟩ := t2 (by omega)
     obtain ⟨d, hd2⟩ : ∃ d, (4 - deep).toNat = d + 1 := ⟨(4 - deep).toNat - 1, by omega⟩
     have hd3 : (4 - (deep + 1)).toNat = d := by omega
     rw [hd2] at hv ⊢
     rw [hd3] at hv2
     exact ⟨m + m2 + 1, _, .when_ hx h7 hv2 hv, by omega⟩
   · rw [if_neg h7] at hst
     obtain ⟨r0, r1, r2⟩ := il (fun z hz => H z (List.mem_cons_of_mem _ hz)) k (n + 1) r (pre ++ [x]) (by omega) (by omega) (by omega) hst
     refine ⟨r0, r1, fun hr => ?_⟩
     obtain ⟨m, ks, hv, hm⟩ := r2 hr
     exact ⟨m + 1, _, .plain hx h7 hv, by omega⟩
 cases k with
 | zero => exact absurd h (by simp [parser_count.f])
 | succ k =>
  rw [parser_count.f] at h
  obtain ⟨r0, r1, r2⟩ := key l ih k 0 r [] (Int.le_refl _) (by simp) (by omega) h
  refine ⟨r0, r1, fun hr => ?_⟩
  obtain ⟨m, ks, hv, hm⟩ := r2 hr
  exact ⟨m, ks, hv, by omega⟩
theorem valid_inv {l : List S37} {k : Nat} (h : parser_Valid.f k l = some true) : ∃ n ks, VLs 4 l n ks ∧ n ≤ 64 := by
 unfold parser_Valid.f at h
 obtain ⟨r, hr, h⟩ := Option.bind_eq_some_iff.1 h
 have hle : r ≤ 64 := by simpa using h
 obtain ⟨_, _, h2⟩ := count_inv l k 0 r (Int.le_refl _) (by decide) hr
 obtain ⟨m, ks, hv, hm⟩ := h2 hle
 exact ⟨m, ks, hv, by omega⟩
def Lens : Nat → List S37 → Prop
 | 0, l => l = []
 | d + 1, l => l.length ≤ 100 ∧ ∀ x ∈ l, Lens d x.f6
theorem rcount_step (k : Nat) (n : Int) (pre l : List S37) (x : S37) (hp : (pre.length : Int) ≤ 1000000000000) : ambidexterref11_Count.l0 (k + 1) (pre ++ x :: l) n pre.length = (ambidexterref11_Count.f k x.f6).bind fun t => ambidexterref11_Count.l0 k ((pre ++ [x]) ++ l) (wrap64 (n + t)) ((pre ++ [x]).length : Int) := by
 rw [ambidexterref11_Count.l0, if_pos (by simp only [List.length_append, List.length_cons]; omega), if_pos (by omega), rd_mid]
 have hi : wrap64 ((pre.length : Int) + 1) = ((pre ++ [x]).length : Int) := by
  simp only [List.length_append, List.length_cons, List.length_nil]
  unfold wrap64; omega
 rw [hi, List.append_assoc, List.singleton_append]
theorem rcount_end (k : Nat) (n : Int) (l : List S37) : ambidexterref11_Count.l0 (k + 1) l n l.length = some n := by
 rw [ambidexterref11_Count.l0, if_neg (Int.lt_irrefl _)]
theorem rcount_total : ∀ (d : Nat) (l : List S37), Lens d l → ∃ r, EvalsTo (fun k => ambidexterref11_Count.f k l) r
 | 0, l, h => by
  have h : l = [] := h
  subst h
  refine ⟨0, EvalsTo.shift (j := 2) (EvalsTo.const 0) fun k => ?_⟩
  rw [ambidexterref11_Count.f]
  exact rcount_end k 0 []
 | d + 1, l, h => by
  have ih := rcount_total d
  have key : ∀ (l pre : List S37) (n : Int), pre.length + l.length ≤ 100 → (∀ x ∈ l, Lens d x.f6) → ∃ r, EvalsTo (fun k => ambidexterref11_Count.l0 k (pre ++ l) n pre.length) r := by
   intro l
   induction l with
   | nil =>
    intro pre n hp _
    refine ⟨n, EvalsTo.shift (j := 1) (EvalsTo.const n) fun k => ?_⟩
    rw [List.append_nil]
    exact rcount_end k n pre
   | cons x l il =>
    intro pre n hp hx
    obtain ⟨t, ht⟩ := ih x.f6 (hx x List.mem_cons_self)
    obtain ⟨r, hr⟩ := il (pre ++ [x]) (wrap64 (n + t)) (by simp only [List.length_append, List.length_cons, List.length_nil] at hp ⊢; omega) (fun z hz => hx z (List.mem_cons_of_mem _ hz))
    simp only [List.length_cons] at hp
    exact ⟨r, EvalsTo.shift (j := 1) (EvalsTo.bind (g := fun k t => ambidexterref11_Count.l0 k ((pre ++ [x]) ++ l) (wrap64 (n + t)) ((pre ++ [x]).length : Int)) ht hr) fun k => rcount_step k n pre l x (by omega)⟩
  obtain ⟨r, hr⟩ := key l [] l.length (by simpa using h.1) h.2
  refine ⟨r, EvalsTo.shift (j := 1) hr fun k => ?_⟩
  rw [ambidexterref11_Count.f]
  rfl
theorem rcount_ok {d m : Nat} {l : List S37} {ks : List (Int × ByteArray)} (h : VLs d l m ks) : m ≤ 1000000000000 → EvalsTo (fun k => ambidexterref11_Count.f k l) (m : Int) := by
 have key : ∀ {d m : Nat} {l : List S37} {ks : List (Int × ByteArray)}, VLs d l m ks → ∀ (pre : List S37) (n : Int), 0 ≤ n → n + m ≤ 20000000000000 → m ≤ 1000000000000 → pre.length + m ≤ 1000000000000 → EvalsTo (fun k => ambidexterref11_Count.l0 k (pre ++ l) n pre.length) (n + m - l.length) := by
  intro d m l ks h
  induction h with
  | nil d =>
   intro pre n h0 h1 hm hp
   refine EvalsTo.shift (j := 1) (EvalsTo.const _) fun k => ?_
   rw [List.append_nil]
   have := rcount_end k n pre
   rw [this]; simp
  | @plain d m x l ks hx h7 hl il =>
   intro pre n h0 h1 hm hp
   have h6 : x.f6 = [] := by cases hx <;> first | rfl | exact absurd rfl h7
   have hr := il (pre ++ [x]) n h0 (by omega) (by omega) (by simp only [List.length_append, List.length_cons, List.length_nil]; omega)
   have ht : EvalsTo (fun k => ambidexterref11_Count.f k x.f6) 0 := by
    rw [h6]
    refine EvalsTo.shift (j := 2) (EvalsTo.const 0) fun k => ?_
    rw [ambidexterref11_Count.f]
    exact rcount_end k 0 []
   have hw : wrap64 (n + 0) = n := by unfold wrap64; omega
   have := EvalsTo.shift (g := fun k => ambidexterref11_Count.l0 k (pre ++ x :: l) n pre.length) (j := 1) (EvalsTo.bind (g := fun k t => ambidexterref11_Count.l0 k ((pre ++ [x]) ++ l) (wrap64 (n + t)) ((pre ++ [x]).length : Int)) ht (by simp only [hw]; exact hr)) fun k => rcount_step k n pre l x (by omega)
   have e : n + ((m + 1 : Nat) : Int) - ((x :: l).length : Int) = n + (m : Int) - l.length := by simp only [List.length_cons]; omega
   rw [e]
   exact this
  | @when_ d m1 m2 x l ks ls hx h7 hkd hl ihk ihl =>
   intro pre n h0 h1 hm hp
   have hkl := vls_len hkd
   have hll := vls_len hl
   have hk := ihk [] x.f6.length (by omega) (by omega) (by omega) (by simp only [List.length_nil]; omega)
   have ht : EvalsTo (fun k => ambidexterref11_Count.f k x.f6) (m2 : Int) := by
    have h2 : EvalsTo (fun k => ambidexterref11_Count.f k x.f6) ((x.f6.length : Int) + m2 - x.f6.length) := EvalsTo.shift (j := 1) hk fun k => by rw [ambidexterref11_Count.f]; rfl
    rw [show (x.f6.length : Int) + m2 - x.f6.length = (m2 : Int) by omega] at h2
    exact h2
   have hr := ihl (pre ++ [x]) (n + m2) (by omega) (by omega) (by omega) (by simp only [List.length_append, List.length_cons, List.length_nil]; omega)
   have hw : wrap64 (n + (m2 : Int)) = n + m2 := by unfold wrap64; omega
   have := EvalsTo.shift (g := fun k => ambidexterref11_Count.l0 k (pre ++ x :: l) n pre.length) (j := 1) (EvalsTo.bind (g := fun k t => ambidexterref11_Count.l0 k ((pre ++ [x]) ++ l) (wrap64 (n + t)) ((pre ++ [x]).length : Int)) ht (by simp only [hw]; exact hr)) fun k => rcount_step k n pre l x (by omega)
   have e : n + ((m1 + m2 + 1 : Nat) : Int) - ((x :: l).length : Int) = n + m2 + (m1 : Int) - l.length := by simp only [List.length_cons]; omega
   rw [e]
   exact this
 intro hm
 have hl := vls_len h
 have h2 : EvalsTo (fun k => ambidexterref11_Count.f k l) ((l.length : Int) + m - l.length) := EvalsTo.shift (j := 1) (key h [] l.length (by omega) (by omega) hm (by simp only [List.length_nil]; omega)) fun k => by rw [ambidexterref11_Count.f]; rfl
 rw [show (l.length : Int) + m - l.length = (m : Int) by omega] at h2
 exact h2
def charB (s : ByteArray) (i : Int) : Bool := at_ s i == 1 || (decide (i ≠ 0) && (at_ s i == 2 || at_ s i == 3))
theorem bt_nonneg (s : ByteArray) (i : Int) : 0 ≤ bt s i := by
 unfold bt
 split <;> omega
theorem char_eq (s : ByteArray) (i : Int) (h : i < (s.size : Int)) : charB s i = decide ((65 ≤ bt s i ∧ bt s i ≤ 90) ∨ (97 ≤ bt s i ∧ bt s i ≤ 122) ∨ (i ≠ 0 ∧ ((48 ≤ bt s i ∧ bt s i ≤ 57) ∨ bt s i = 95))) := by
 unfold charB
 rw [at_in h]
 have hb := bt_nonneg s i
 generalize bt s i = b at *
 obtain ⟨n, rfl⟩ := Int.eq_ofNat_of_zero_le hb
 rw [Bool.eq_iff_iff]
 simp only [Int.toNat_natCast, Bool.or_eq_true, beq_iff_eq, Bool.and_eq_true, decide_eq_true_eq]
 unfold cls
 repeat' split
 all_goals omega
theorem name_round (s : ByteArray) (i : Int) (k : Nat) (h0 : 0 ≤ i) (h1 : i < (s.size : Int)) : ambidexterref11_Name.l0 (k + 1) s i = if charB s i = true then ambidexterref11_Name.l0 k s (wrap64 (i + 1)) else some false := by
 rw [char_eq s i h1, ambidexterref11_Name.l0, if_pos h1, if_pos h0]
 simp only [decide_eq_true_eq]
 repeat' split
 all_goals first
  | rfl
  | (exfalso; omega)
theorem name_loop (s : ByteArray) (hs : s.size ≤ 1000) : ∀ (d k : Nat) (i : Int), 0 ≤ i → i ≤ (s.size : Int) → (s.size : Int) - i = d → d < k → ∃ b, ambidexterref11_Name.l0 k s i = some b ∧ (b = true ↔ ∀ j : Int, i ≤ j → j < (s.size : Int) → charB s j = true) := by
 intro d
 induction d with
 | zero =>
  intro k i h0 h1 hd hk
  obtain ⟨k, rfl⟩ : ∃ m, k = m + 1 := ⟨k - 1, by omega⟩
  exact ⟨true, by rw [ambidexterref11_Name.l0, if_neg (by omega)], ⟨fun _ j ha hb => by omega, fun _ => rfl⟩⟩
 | succ d ih =>
  intro k i h0 h1 hd hk
  obtain ⟨k, rfl⟩ : ∃ m, k = m + 1 := ⟨k - 1, by omega⟩
  have hw : wrap64 (i + 1) = i + 1 := by unfold wrap64; omega
  rw [name_round s i k h0 (by omega), hw]
  by_cases hc : charB s i = true
  · rw [if_pos hc]
    obtain ⟨b, h, hb⟩ := ih k (i + 1) (by omega) (by omega) (by omega) (by omega)
    refine ⟨b, h, hb.trans ⟨fun g j ha hb => ?_, fun g j ha hb => g j (by omega) hb⟩⟩
    by_cases e : j = i
    · rw [e]; exact hc
    · exact g j (by omega) hb
  · rw [if_neg hc]
    exact ⟨false, rfl, ⟨fun h => (by cases h), fun g => absurd (g i (Int.le_refl _) (by omega)) hc⟩⟩
theorem word_iff {s : ByteArray} (h0 : 0 < s.size) : TokText 1 s ↔ ∀ j : Int, 0 ≤ j → j < (s.size : Int) → charB s j = true := by
 constructor
 · intro h j hj0 hj1
   obtain ⟨_, h5, h6, h⟩ := h
   have h1 : at_ s 0 = 1 := by
    unfold nextAt at h
    by_cases c1 : at_ s 0 = 1
    · exact c1
    rw [if_neg c1] at h
    by_cases c4 : at_ s 0 = 4
    · rw [if_pos c4] at h; exact absurd (congrArg (fun x => x.1) h) (by simp)
    rw [if_neg c4] at h
    by_cases c7 : at_ s 0 = 7 ∨ at_ s 0 = 2
    · rw [if_pos c7] at h
      simp only at h
      split at h <;> exact absurd (congrArg (fun x => x.1) h) (by simp)
    · rw [if_neg c7] at h
      exact absurd (congrArg (fun x => x.1) h) (by simp)
   unfold nextAt at h
   rw [if_pos h1] at h
   have he := congrArg (fun x => x.2.2.2.2) h
   simp only at he
   have hsp := (scanTo_spec (wordAt s) s.size 0).1 j hj0 (by omega)
   unfold charB
   by_cases e : j = 0
   · rw [e, h1]; rfl
   · unfold wordAt at hsp
     rw [decide_eq_true e, Bool.true_and, ← Bool.or_assoc]
     exact hsp
 · intro h
   have hz := h 0 (Int.le_refl _) (by omega)
   have h1 : at_ s 0 = 1 := by simpa [charB] using hz
   have hw : ∀ x : Int, 0 ≤ x → x < (s.size : Int) → wordAt s x = true := by
    intro x hx0 hx1
    have := h x hx0 hx1
    unfold charB at this
    unfold wordAt
    simp only [Bool.or_eq_true, beq_iff_eq, Bool.and_eq_true, decide_eq_true_eq] at this ⊢
    omega
   have he : scanTo (wordAt s) s.size 0 = s.size := scanTo_eq (by omega) (Int.le_refl _) hw (fun h => absurd h (Int.lt_irrefl _))
   refine ⟨h0, by omega, by omega, ?_⟩
   unfold nextAt
   rw [if_pos h1, he, extract_whole]
def rnameB (s : ByteArray) : Bool := (ambidexterref11_Name.f 40 s).getD false
theorem kind_cases (s : ByteArray) : 0 ≤ kindS s := by unfold kindS; split <;> omega
theorem rname_both (s : ByteArray) : ambidexterref11_Name.f 40 s = some (rnameB s) ∧ (rnameB s = true ↔ NameOK s) := by
 suffices h : ∃ b, ambidexterref11_Name.f 40 s = some b ∧ (b = true ↔ NameOK s) by
  obtain ⟨b, hb, hi⟩ := h
  have e : rnameB s = b := by unfold rnameB; rw [hb]; rfl
  rw [e]
  exact ⟨hb, hi⟩
 unfold ambidexterref11_Name.f
 by_cases he : s.toList = ([] : List UInt8)
 · rw [if_pos he]
   refine ⟨false, rfl, ⟨fun h => (by cases h), fun h => ?_⟩⟩
   have := h.1.1
   rw [ByteArray.toList_eq] at he
   have hz : s.data.toList.length = 0 := by rw [he]; rfl
   rw [Array.length_toList] at hz
   have hz : s.size = 0 := hz
   omega
 rw [if_neg he]
 have hpos : 0 < s.size := by
  rcases Nat.eq_zero_or_pos s.size with h | h
  · exact absurd ((toList_nil_iff s).2 h) he
  · exact h
 by_cases h12 : (s.size : Int) > 12
 · rw [if_pos h12]
   exact ⟨false, rfl, ⟨fun h => (by cases h), fun h => (by have := h.2.1; omega)⟩⟩
 rw [if_neg h12, kindR_f s 40 (by decide), Option.bind_some]
 have hk := kind_word hpos
 have hk0 := kind_cases s
 by_cases hz : kindS s > 0
 · rw [decide_eq_true hz]
   refine ⟨false, rfl, ⟨fun h => (by cases h), fun h => ?_⟩⟩
   rw [h.2.2] at hk
   simp at hk
   omega
 · have hz0 : kindS s = 0 := by omega
   rw [decide_eq_false hz]
   obtain ⟨b, hb, hi⟩ := name_loop s (by omega) s.size 39 0 (Int.le_refl _) (by omega) (by omega) (by omega)
   refine ⟨b, ?_, hi.trans ?_⟩
   · show ambidexterref11_Name.j0 40 s false = some b
     rw [ambidexterref11_Name.j0, if_neg (by decide)]; exact hb
   · rw [← word_iff hpos]
     rw [hz0] at hk
     exact ⟨fun h => ⟨h, by omega, by simpa using hk⟩, fun h => h.1⟩
def pl1 (x : S37) : Bool := decide (x.f0 < 1) || (decide (x.f0 > 8) || ((x.f1 != 0 && x.f1 != 1) || (!smallB x.f4 || (!smallJ x.f5.f0 || !smallJ x.f5.f1))))
def armK (k : Int) : Bool := k != 6 && (k != 7 && k != 8)
def partK (k : Int) : Bool := k == 3 || k == 7
def placeK (k : Int) : Bool := k == 4 || (k == 5 || k == 7)
def pl2 (x : S37) : Bool := (!armK x.f0 && x.f1 != 0) || ((!partK x.f0 && x.f2.toList != []) || ((!placeK x.f0 && x.f3.toList != []) || ((x.f0 != 6 && x.f4 != 0) || (x.f0 != 7 && decide ((x.f6.length : Int) > 0)))))
def pl3 (x : S37) : Bool := (partK x.f0 && !rnameB x.f2) || (placeK x.f0 && !rnameB x.f3)
def zeroJ (q : S34) : Bool := q.f0 == 0 && (q.f1 == 0 && q.f2 == 0)
def pl4 (x : S37) (i : Int) : Bool := (x.f0 != 8 && (x.f0 != 1 || i != x.f1)) && !zeroJ (if i = 0 then x.f5.f0 else x.f5.f1)
def rplainS (x : S37) : Bool := !pl1 x && (!pl2 x && (!pl3 x && (!pl4 x 0 && !pl4 x 1)))
theorem zeroJ_eq {q : S34} : zeroJ q = true ↔ q = zJ := by
 obtain ⟨a, b, c⟩ := q
 unfold zeroJ zJ
 simp
theorem toList_nil {s : ByteArray} : s.toList = [] ↔ s = none0 := by
 constructor
 · intro h
   rw [ByteArray.toList_eq] at h
   exact ByteArray.ext (Array.toList_inj.1 h)
 · rintro rfl
   simp [none0, ByteArray.toList_eq]
theorem rplain_inv {x : S37} (h : rplainS x = true) : PlainOK x := by
 unfold rplainS at h
 simp only [Bool.and_eq_true, Bool.not_eq_true'] at h
 obtain ⟨h1, h2, h3, h4, h5⟩ := h
 obtain ⟨x0, x1, x2, x3, x4, ⟨q, p⟩, x6, x7⟩ := x
 simp only [pl1, Bool.or_eq_false_iff, decide_eq_false_iff_not, Bool.and_eq_false_iff, Bool.not_eq_false', bne_eq_false_iff_eq] at h1
 obtain ⟨a1, a2, a3, a4, a5, a6⟩ := h1
 have hn := small_inv a4
 have hq := smallJ_inv a5
 have hp := smallJ_inv a6
 have hk : x0 = 1 ∨ x0 = 2 ∨ x0 = 3 ∨ x0 = 4 ∨ x0 = 5 ∨ x0 = 6 ∨ x0 = 7 ∨ x0 = 8 := by omega
 clear a1 a2 a4 a5 a6
 simp only [pl2, pl3, pl4] at h2 h3 h4 h5
 rcases hk with rfl | rfl | rfl | rfl | rfl | rfl | rfl | rfl
 all_goals simp [armK, partK, placeK, toList_nil, zeroJ_eq, (rname_both _).2] at h2 h3 h4 h5
 · obtain ⟨rfl, rfl, rfl, rfl⟩ := h2
   rcases a3 with rfl | rfl
   · obtain rfl : p = zJ := by simpa using h5
     exact .go0 hq
   · obtain rfl : q = zJ := by simpa using h4
     exact .go1 hp
 · obtain ⟨rfl, rfl, rfl, rfl⟩ := h2
   subst h4 h5
   exact .home a3
 · obtain ⟨rfl, rfl, rfl⟩ := h2
   subst h4 h5
   exact .pick a3 h3
 · obtain ⟨rfl, rfl, rfl⟩ := h2
   subst h4 h5
   exact .put a3 h3
 · obtain ⟨rfl, rfl, rfl⟩ := h2
   subst h4 h5
   exact .hand a3 h3
 · obtain ⟨rfl, rfl, rfl, rfl⟩ := h2
   subst h4 h5
   exact .wait hn
 · obtain ⟨rfl, rfl⟩ := h2
   subst h4 h5
   exact .when_ h3.1 h3.2
 · obtain ⟨rfl, rfl, rfl, rfl, rfl⟩ := h2
   exact .both hq hp
theorem zZ : zeroJ zJ = true := rfl
theorem rplain_ok {x : S37} (h : PlainOK x) : rplainS x = true := by
 have hz := smallJ_of smallZ
 have h0 := smallB_of small0
 cases h with
 | go0 h => simp [rplainS, pl1, pl2, pl3, pl4, armK, partK, placeK, smallJ_of h, hz, h0, zZ, toList_nil]
 | go1 h => simp [rplainS, pl1, pl2, pl3, pl4, armK, partK, placeK, smallJ_of h, hz, h0, zZ, toList_nil]
 | home h => rcases h with rfl | rfl <;> simp [rplainS, pl1, pl2, pl3, pl4, armK, partK, placeK, hz, h0, zZ, toList_nil]
 | pick h hn => rcases h with rfl | rfl <;> simp [rplainS, pl1, pl2, pl3, pl4, armK, partK, placeK, hz, h0, zZ, toList_nil, (rname_both _).2.2 hn]
 | put h hn => rcases h with rfl | rfl <;> simp [rplainS, pl1, pl2, pl3, pl4, armK, partK, placeK, hz, h0, zZ, toList_nil, (rname_both _).2.2 hn]
 | hand h hn => rcases h with rfl | rfl <;> simp [rplainS, pl1, pl2, pl3, pl4, armK, partK, placeK, hz, h0, zZ, toList_nil, (rname_both _).2.2 hn]
 | wait h => simp [rplainS, pl1, pl2, pl3, pl4, armK, partK, placeK, smallB_of h, hz, h0, zZ, toList_nil]
 | when_ h g => simp [rplainS, pl1, pl2, pl3, pl4, armK, partK, placeK, hz, h0, zZ, toList_nil, (rname_both _).2.2 h, (rname_both _).2.2 g]
 | both h g => simp [rplainS, pl1, pl2, pl3, pl4, armK, partK, placeK, smallJ_of h, smallJ_of g, h0, zZ, toList_nil]
def rallL (rec : Int → List S37 → Option Bool) (deep : Int) : List S37 → Option Bool
 | [] => some true
 | x :: l => if rplainS x = false then some false else if x.f0 = 7 ∧ deep = 4 then some false else (rec (wrap64 (deep + 1)) x.f6).bind fun t => if t = false then some false else rallL rec deep l
def rallF : Nat → Int → List S37 → Option Bool
 | 0 => fun _ _ => none
 | k + 1 => rallL (rallF k)
theorem rall_ok {d n : Nat} {l : List S37} {ks : List (Int × ByteArray)} (h : VLs d l n ks) : ∀ (deep : Int) (k : Nat), 0 ≤ deep → deep + d ≤ 4 → d + 2 ≤ k → rallF k deep l = some true := by
 induction h with
 | nil d =>
  intro deep k h0 h1 hk
  obtain ⟨k, rfl⟩ : ∃ m, k = m + 1 := ⟨k - 1, by omega⟩
  rfl
 | @plain d n x l ks hx h7 hl ih =>
  intro deep k h0 h1 hk
  have hi := ih deep k h0 h1 hk
  obtain ⟨k, rfl⟩ : ∃ m, k = m + 2 := ⟨k - 2, by omega⟩
  have h6 : x.f6 = [] := by cases hx <;> first | rfl | exact absurd rfl h7
  show rallL (rallF (k + 1)) deep (x :: l) = some true
  rw [rallL, rplain_ok hx, if_neg (by decide), if_neg (fun h => h7 h.1), h6]
  exact hi
 | @when_ d n m x l ks ls hx h7 hkd hl ihk ihl =>
  intro deep k h0 h1 hk
  have hi := ihl deep k h0 h1 hk
  obtain ⟨k, rfl⟩ : ∃ m, k = m + 1 := ⟨k - 1, by omega⟩
  have hw : wrap64 (deep + 1) = deep + 1 := by unfold wrap64; omega
  show rallL (rallF k) deep (x :: l) = some true
  rw [rallL, rplain_ok hx, if_neg (by decide), if_neg (fun h => by omega), hw, ihk (deep + 1) k (by omega) (by omega) (by omega)]
  exact hi
theorem rall_both : ∀ (k : Nat) (deep : Int) (l : List S37), 0 ≤ deep → deep ≤ 4 → (6 - deep : Int) ≤ k → ∃ b, rallF k deep l = some b ∧ (b = true → ∃ n ks, VLs (4 - deep).toNat l n ks)
 | 0, deep, l, h0, h4, hk => by omega
 | k + 1, deep, l, h0, h4, hk => by
  have ih := rall_both k
  show ∃ b, rallL (rallF k) deep l = some b ∧ _
  have hw : wrap64 (deep + 1) = deep + 1 := by unfold wrap64; omega
  induction l with
  | nil => exact ⟨true, rfl, fun _ => ⟨_, _, .nil _⟩⟩
  | cons x l il =>
   rw [rallL]
   cases hp : rplainS x with
   | false => exact ⟨false, by rw [if_pos rfl], fun h => by cases h⟩
   | true =>
    rw [if_neg (by decide)]
    have hx := rplain_inv hp
    by_cases h7 : x.f0 = 7 ∧ deep = 4
    · rw [if_pos h7]; exact ⟨false, rfl, fun h => by cases h⟩
    rw [if_neg h7, hw]
    obtain ⟨b, hb, hi⟩ := il
    by_cases hk7 : x.f0 = 7
    · obtain ⟨t, ht, hti⟩ := ih (deep + 1) x.f6 (by omega) (by omega) (by omega)
      rw [ht, Option.bind_some]
      cases t with
      | false => exact ⟨false, by rw [if_pos rfl], fun h => by cases h⟩
      | true =>
       rw [if_neg (by decide)]
       refine ⟨b, hb, fun h => ?_⟩
       obtain ⟨n, ks, hv⟩ := hi h
       obtain ⟨m, ls, hu⟩ := hti rfl
       have e : (4 - deep).toNat = (4 - (deep + 1)).toNat + 1 := by omega
       rw [e] at hv ⊢
       exact ⟨_, _, .when_ hx hk7 hu hv⟩
    · have h6 : x.f6 = [] := by cases hx <;> first | rfl | exact absurd rfl hk7
      rw [h6]
      obtain ⟨k, rfl⟩ : ∃ m, k = m + 1 := ⟨k - 1, by omega⟩
      rw [show rallF (k + 1) (deep + 1) [] = some true from rfl, Option.bind_some, if_neg (by decide)]
      refine ⟨b, hb, fun h => ?_⟩
      obtain ⟨n, ks, hv⟩ := hi h
      exact ⟨_, _, .plain hx hk7 hv⟩
def rightF (k : Nat) (l : List S37) : Option Bool := (rallF 7 0 l).bind fun t => if t = false then some false else (ambidexterref11_Count.f k l).bind fun c => some (decide (c ≤ 64))
def capM : Nat → Nat
 | 0 => 1
 | d + 1 => 1 + 100 * capM d
theorem Lens.len {e : Nat} {l : List S37} (h : Lens e l) : l.length ≤ 100 := by
 cases e with
 | zero => rw [show l = [] from h]; simp
 | succ e => exact h.1
theorem Lens.mem {e : Nat} {l : List S37} {x : S37} (h : Lens e l) (hx : x ∈ l) : ∃ e', Lens e' x.f6 := by
 cases e with
 | zero => rw [show l = [] from h] at hx; cases hx
 | succ e => exact ⟨e, h.2 x hx⟩
theorem cap_pos (d : Nat) : 1 ≤ capM d := by cases d <;> simp [capM]
theorem vls_cap {d n : Nat} {l : List S37} {ks : List (Int × ByteArray)} (h : VLs d l n ks) : (∀ x ∈ l, ∃ e, Lens e x.f6) → n ≤ l.length * capM d := by
 induction h with
 | nil d => intro _; simp
 | @plain d n x l ks hx h7 hl ih =>
  intro hm
  have h1 := ih (fun y hy => hm y (List.mem_cons_of_mem _ hy))
  have h2 := cap_pos d
  rw [List.length_cons, Nat.succ_mul]
  omega
 | @when_ d n m x l ks ls hx h7 hkd hl ihk ihl =>
  intro hm
  have h1 := ihl (fun y hy => hm y (List.mem_cons_of_mem _ hy))
  obtain ⟨e, he⟩ := hm x List.mem_cons_self
  have h2 := ihk (fun y hy => he.mem hy)
  have h3 : x.f6.length * capM d ≤ 100 * capM d := Nat.mul_le_mul_right _ he.len
  rw [List.length_cons, Nat.succ_mul]
  have h4 : capM (d + 1) = 1 + 100 * capM d := rfl
  omega
theorem right_valid {e : Nat} {l : List S37} (h : Lens e l) : ∃ b, EvalsTo (fun k => parser_Valid.f k l) b ∧ EvalsTo (fun k => rightF k l) b ∧ (b = true → ∃ n ks, VLs 4 l n ks ∧ n ≤ 64) := by
 obtain ⟨b, hb⟩ := valid_total l
 have key : b = true → ∃ n ks, VLs 4 l n ks ∧ n ≤ 64 := by
  rintro rfl
  obtain ⟨K, hK⟩ := hb
  exact valid_inv (hK K (Nat.le_refl _))
 refine ⟨b, hb, ?_, key⟩
 obtain ⟨t, ht, hti⟩ := rall_both 7 0 l (Int.le_refl _) (by decide) (by decide)
 unfold rightF
 rw [ht]
 simp only [Option.bind_some]
 cases t with
 | false =>
  have hbf : b = false := by
   cases b with
   | false => rfl
   | true =>
    obtain ⟨n, ks, hv, _⟩ := key rfl
    rw [rall_ok hv 0 7 (Int.le_refl _) (by decide) (by decide)] at ht
    cases ht
  rw [hbf]
  simp only [if_true]
  exact EvalsTo.const false
 | true =>
  simp only [Bool.true_eq_false, if_false]
  obtain ⟨n, ks, hv⟩ := hti rfl
  have hcap := vls_cap hv (fun x hx => h.mem hx)
  have h100 := h.len
  have hM : capM (4 - (0 : Int)).toNat = 101010101 := by decide
  rw [hM] at hcap
  have hn : n ≤ 10101010100 := by omega
  have hc := rcount_ok hv (by omega)
  have hbn : b = decide ((n : Int) ≤ 64) := by
   cases b with
   | true =>
    obtain ⟨n', ks', hv', hn'⟩ := key rfl
    obtain ⟨K1, h1⟩ := rcount_ok hv' (by omega)
    obtain ⟨K2, h2⟩ := hc
    have e1 := h1 (K1 + K2) (by omega)
    have e2 := h2 (K1 + K2) (by omega)
    have := Option.some.inj (e1.symm.trans e2)
    exact (decide_eq_true (by omega)).symm
   | false =>
    refine (decide_eq_false fun h64 => ?_).symm
    obtain ⟨K1, h1⟩ := valid_ok hv (by omega)
    obtain ⟨K2, h2⟩ := hb
    have e1 := h1 (K1 + K2) (by omega)
    have e2 := h2 (K1 + K2) (by omega)
    exact absurd (e1.symm.trans e2) (by simp)
  rw [hbn]
  exact EvalsTo.bind (g := fun _ c => some (decide (c ≤ 64))) hc (EvalsTo.const _)
def fewL (rec : List S37 → Option Bool) : List S37 → Option Bool
 | [] => some true
 | x :: l => if wrap64 ((x.f2.size : Int) + (x.f3.size : Int)) > 200 then some false else (rec x.f6).bind fun t => if t = false then some false else fewL rec l
def fewF : Nat → Int → List S37 → Option Bool
 | 0 => fun _ _ => none
 | k + 1 => fun deep l => if deep > 8 then some false else if (l.length : Int) > 100 then some false else (fewL (fewF k (wrap64 (deep + 1))) l).bind fun t => if t = false then some false else if deep > 0 then some true else (ambidexterref11_Count.f k l).bind fun c => some (decide (c ≤ 100))
theorem fewF_succ (k : Nat) (deep : Int) (l : List S37) : fewF (k + 1) deep l = if deep > 8 then some false else if (l.length : Int) > 100 then some false else (fewL (fewF k (wrap64 (deep + 1))) l).bind fun t => if t = false then some false else if deep > 0 then some true else (ambidexterref11_Count.f k l).bind fun c => some (decide (c ≤ 100)) := rfl
theorem few_both : ∀ (e : Nat) (deep : Int), 0 < deep → deep + e = 9 → ∀ l : List S37, ∃ b, EvalsTo (fun k => fewF k deep l) b ∧ (b = true → Lens e l)
 | 0, deep, h0, h9, l => ⟨false, EvalsTo.shift (j := 1) (EvalsTo.const false) fun k => by show (if deep > 8 then _ else _) = _; rw [if_pos (by omega)], fun h => by cases h⟩
 | e + 1, deep, h0, h9, l => by
  have ih := few_both e (deep + 1) (by omega) (by omega)
  have hw : wrap64 (deep + 1) = deep + 1 := by unfold wrap64; omega
  have key : ∀ l : List S37, ∃ b, EvalsTo (fun k => fewL (fewF k (deep + 1)) l) b ∧ (b = true → ∀ x ∈ l, Lens e x.f6) := by
   intro l
   induction l with
   | nil => exact ⟨true, EvalsTo.const true, fun _ x hx => by cases hx⟩
   | cons x l il =>
    by_cases hs : wrap64 ((x.f2.size : Int) + (x.f3.size : Int)) > 200
    · exact ⟨false, (EvalsTo.const false).congr fun k => by rw [fewL, if_pos hs], fun h => by cases h⟩
    · obtain ⟨t, ht, htl⟩ := ih x.f6
      obtain ⟨b, hb, hbl⟩ := il
      cases t with
      | false => exact ⟨false, (EvalsTo.bind (g := fun k t => if t = false then some false else fewL (fewF k (deep + 1)) l) ht (by simp only [if_true]; exact EvalsTo.const false)).congr fun k => by rw [fewL, if_neg hs], fun h => by cases h⟩
      | true =>
       refine ⟨b, (EvalsTo.bind (g := fun k t => if t = false then some false else fewL (fewF k (deep + 1)) l) ht (by simp only [Bool.true_eq_false, if_false]; exact hb)).congr fun k => by rw [fewL, if_neg hs], fun h y hy => ?_⟩
       rcases List.mem_cons.1 hy with rfl | hy
       · exact htl rfl
       · exact hbl h y hy
  by_cases hl : (l.length : Int) > 100
  · exact ⟨false, EvalsTo.shift (j := 1) (EvalsTo.const false) fun k => by show (if deep > 8 then _ else if _ then _ else _) = _; rw [if_neg (by omega), if_pos hl], fun h => by cases h⟩
  · obtain ⟨b, hb, hbl⟩ := key l
    refine ⟨b, EvalsTo.shift (j := 1) (f := fun k => (fewL (fewF k (deep + 1)) l).bind fun t => if t = false then some false else some true) ?_ fun k => ?_, fun h => ⟨by omega, hbl h⟩⟩
    · refine EvalsTo.bind (g := fun _ t => if t = false then some false else some true) hb ?_
      cases b
      · exact EvalsTo.const false
      · exact EvalsTo.const true
    · show (if deep > 8 then _ else if _ then _ else _) = _
      rw [if_neg (by omega), if_neg hl, hw]
      congr 1
      funext t
      rw [if_pos h0]
theorem few_main (l : List S37) : ∃ b, EvalsTo (fun k => fewF k 0 l) b ∧ (b = true → Lens 9 l) := by
 have ih := few_both 8 1 (by decide) (by decide)
 have hw : wrap64 (0 + 1) = 1 := by unfold wrap64; omega
 have key : ∀ l : List S37, ∃ b, EvalsTo (fun k => fewL (fewF k 1) l) b ∧ (b = true → ∀ x ∈ l, Lens 8 x.f6) := by
  intro l
  induction l with
  | nil => exact ⟨true, EvalsTo.const true, fun _ x hx => by cases hx⟩
  | cons x l il =>
   by_cases hs : wrap64 ((x.f2.size : Int) + (x.f3.size : Int)) > 200
   · exact ⟨false, (EvalsTo.const false).congr fun k => by rw [fewL, if_pos hs], fun h => by cases h⟩
   · obtain ⟨t, ht, htl⟩ := ih x.f6
     obtain ⟨b, hb, hbl⟩ := il
     cases t with
     | false => exact ⟨false, (EvalsTo.bind (g := fun k t => if t = false then some false else fewL (fewF k 1) l) ht (by simp only [if_true]; exact EvalsTo.const false)).congr fun k => by rw [fewL, if_neg hs], fun h => by cases h⟩
     | true =>
      refine ⟨b, (EvalsTo.bind (g := fun k t => if t = false then some false else fewL (fewF k 1) l) ht (by simp only [Bool.true_eq_false, if_false]; exact hb)).congr fun k => by rw [fewL, if_neg hs], fun h y hy => ?_⟩
      rcases List.mem_cons.1 hy with rfl | hy
      · exact htl rfl
      · exact hbl h y hy
 by_cases hl : (l.length : Int) > 100
 · exact ⟨false, EvalsTo.shift (j := 1) (EvalsTo.const false) fun k => by rw [fewF_succ, if_neg (by decide), if_pos hl], fun h => by cases h⟩
 · obtain ⟨b, hb, hbl⟩ := key l
   have hsh : ∀ k, fewF (k + 1) 0 l = (fewL (fewF k 1) l).bind fun t => if t = false then some false else (ambidexterref11_Count.f k l).bind fun c => some (decide (c ≤ 100)) := fun k => by
    rw [fewF_succ, if_neg (by decide), if_neg hl, hw]
    congr 1
   cases b with
   | false => exact ⟨false, EvalsTo.shift (j := 1) (EvalsTo.bind (g := fun k t => if t = false then some false else (ambidexterref11_Count.f k l).bind fun c => some (decide (c ≤ 100))) hb (by simp only [if_true]; exact EvalsTo.const false)) hsh, fun h => by cases h⟩
   | true =>
    have hL : Lens 9 l := ⟨by omega, hbl rfl⟩
    obtain ⟨c, hc⟩ := rcount_total 9 l hL
    exact ⟨decide (c ≤ 100), EvalsTo.shift (j := 1) (EvalsTo.bind (g := fun k t => if t = false then some false else (ambidexterref11_Count.f k l).bind fun c => some (decide (c ≤ 100))) hb (by simp only [Bool.true_eq_false, if_false]; exact EvalsTo.bind (g := fun _ c => some (decide (c ≤ 100))) hc (EvalsTo.const _))) hsh, fun _ => hL⟩
def RallC (rec : Int → List S37 → Option Bool) : Prop := ∀ (A : Option Addr) (c : Nat) (l : List S37) (deep : Int) (b : Bool) (w : World), Kd.C k37 w A l.length l → l.length ≤ c → rec deep l = some b →
 Calls Tryz.prog 22 #[.slice A l.length c, .int .i64 deep] w fun e w' => e = .returned (.bool b) ∧ Below w.heap.size w w'
def RplainC : Prop := ∀ (x : S37) (Ak : Option Addr) (ck : Nat) (w : World), x.f6.length ≤ ck → Calls Tryz.prog 37 #[.agg (stmC x (.slice Ak x.f6.length ck))] w fun e w' => e = .returned (.bool (rplainS x)) ∧ Below w.heap.size w w'
theorem rall_step (HP0 : RplainC) (rec : Int → List S37 → Option Bool) (HE0 : RallC rec) : RallC (rallL rec) := by
 intro A c l deep b w hC hc hrun
 have hu := Tryz.underlying37
 have HP := Aside0.mk HP0
 have HE := Aside0.mk HE0
 have HC := Aside0.mk hC
 have HR := Aside0.mk hrun
 have hm := Kd.C_max hC
 clear hC hrun HP0 HE0
 go_enter Tryz.func22, Tryz.ntmps22
 go_wp2_with fail
 go_loopg [5] l.length (fun kq v5 wr => ∃ i : Nat, v5 = .int .i64 i ∧ Aside0 (i + kq = l.length ∧ rallL rec deep (l.drop i) = some b ∧ Below w.heap.size w wr))
 case atStart => exact ⟨0, rfl, ⟨by omega, HR.out, Below.refl _ _⟩⟩
 case round =>
  clear HR
  obtain ⟨i, rfl, ⟨hk, hs, hb⟩⟩ := hrel
  have HS := Aside0.mk hs
  have HB := Aside0.mk hb
  clear hs hb
  rcases gk with _ | k1
  · have hi : i = l.length := by omega
    have hlt : decide ((i : Int) < (l.length : Int)) = false := by simp [hi]
    have hbt : b = true := by have := HS.out; rw [hi, List.drop_length, rallL] at this; exact (Option.some.inj this).symm
    subst hbt
    have hl2 : (i < l.length) = False := eq_false (by omega)
    clear HS hk hi
    go_wp2_with fail
    go_ret
    exact ⟨rfl, HB.out⟩
  · have hi : i < l.length := by omega
    have hlt : decide ((i : Int) < (l.length : Int)) = true := by simp [hi]
    have hp : (0 ≤ (i : Int)) := by omega
    have hq0 : (i : Int) < (l.length : Int) := by omega
    obtain ⟨ad, Ax, cx, ex, x0, x1, x2, x3, x4, x5, x6, x7, x8, x9, x10, x11, x12, hlx, hCx⟩ := at_T37 HC.out i hp hq0
    cases ex
    have HS1 := HS.out
    rw [drop_rd l i hi, rallL] at HS1
    have HS1 := Aside0.mk HS1
    have HCX := Aside0.mk hCx
    generalize rd_T37 l (i : Int) = X at *
    clear HS hCx
    have HK := Aside0.mk hk
    clear hk
    simp only [Int.toNat_natCast] at x0 x1 x2 x3 x4 x5 x6 x7 x8 x9 x10 x11 x12
    have hal := cell_lt x0
    have y0 := (HB.out.cell hal).trans x0
    have y1 := (World.cell?_of_block (HB.out.block _ (cell_lt x1))).trans x1
    have y2 := (World.cell?_of_block (HB.out.block _ (cell_lt x2))).trans x2
    have y3 := (World.cell?_of_block (HB.out.block _ (cell_lt x3))).trans x3
    have y4 := (World.cell?_of_block (HB.out.block _ (cell_lt x4))).trans x4
    have y5 := (World.cell?_of_block (HB.out.block _ (cell_lt x5))).trans x5
    have y6 := (World.cell?_of_block (HB.out.block _ (cell_lt x6))).trans x6
    have y7 := (World.cell?_of_block (HB.out.block _ (cell_lt x7))).trans x7
    have y8 := (World.cell?_of_block (HB.out.block _ (cell_lt x8))).trans x8
    have y9 := (World.cell?_of_block (HB.out.block _ (cell_lt x9))).trans x9
    have y10 := (World.cell?_of_block (HB.out.block _ (cell_lt x10))).trans x10
    have y11 := (World.cell?_of_block (HB.out.block _ (cell_lt x11))).trans x11
    have y12 := (World.cell?_of_block (HB.out.block _ (cell_lt x12))).trans x12
    replace hp := eq_true hp
    replace hq0 := eq_true hq0
    go_wp2_with fail
    refine (HP.out X Ax cx wr hlx).mono ?_
    rintro e w1 ⟨rfl, hb⟩
    have HB1 := Aside0.mk (below_step HB.out hb)
    clear hb
    have z0 := (HB1.out.cell hal).trans x0
    have z11 := (World.cell?_of_block (HB1.out.block _ (cell_lt x11))).trans x11
    clear x0 x1 x2 x3 x4 x5 x6 x7 x8 x9 x10 x11 x12 y0 y1 y2 y3 y4 y5 y6 y7 y8 y9 y10 y11 y12 HB
    cases hpl : rplainS X with
    | false =>
     have hbf : b = false := by have := HS1.out; rw [hpl, if_pos rfl] at this; exact (Option.some.inj this).symm
     subst hbf
     clear HS1
     go_wp2_with fail
     go_ret
     exact ⟨rfl, HB1.out⟩
    | true =>
     have HS2 := Aside0.mk (show _ from by have h := HS1.out; rw [hpl, if_neg (by decide)] at h; exact h)
     clear HS1 hpl
     by_cases h7 : X.f0 = 7 ∧ deep = 4
     · have hbf : b = false := by have := HS2.out; rw [if_pos h7] at this; exact (Option.some.inj this).symm
       subst hbf
       obtain ⟨h70, rfl⟩ := h7
       have b7 : (X.f0 == 7) = true := beq_iff_eq.2 h70
       clear HS2 h70
       go_wp2_with fail
       go_ret
       exact ⟨rfl, HB1.out⟩
     · have HS3 := Aside0.mk (show _ from by have h := HS2.out; rw [if_neg h7] at h; exact h)
       clear HS2
       obtain ⟨tb, htb, hnx⟩ := Option.bind_eq_some_iff.1 HS3.out
       have HTB := Aside0.mk htb
       have HNX := Aside0.mk hnx
       have HCX1 := Aside0.mk (Kd.C_below HCX.out HB1.out)
       clear HS3 htb hnx HCX
       by_cases h70 : X.f0 = 7
       · have b7 : (X.f0 == 7) = true := beq_iff_eq.2 h70
         have b4 : (deep == 4) = false := beq_eq_false_iff_ne.2 (fun e => h7 ⟨h70, e⟩)
         clear h7 h70
         go_wp2_with fail
         refine (HE.out Ax cx X.f6 (wrap64 (deep + 1)) tb w1 HCX1.out hlx HTB.out).mono ?_
         rintro e w2 ⟨rfl, hb⟩
         have HB2 := Aside0.mk (below_step HB1.out hb)
         clear hb
         cases tb with
         | false =>
          have hbf : b = false := by have := HNX.out; rw [if_pos rfl] at this; exact (Option.some.inj this).symm
          subst hbf
          go_wp2_with fail
          go_ret
          exact ⟨rfl, HB2.out⟩
         | true =>
          have HN2 := Aside0.mk (show _ from by have h := HNX.out; rw [if_neg (by decide)] at h; exact h)
          go_wp2_with fail
          go_roundg k1
          case measure => exact Nat.lt_succ_self _
          case rel => exact ⟨i + 1, rfl, ⟨(Nat.succ_add_eq_add_succ i k1).trans HK.out, HN2.out, HB2.out⟩⟩
       · have b7 : (X.f0 == 7) = false := beq_eq_false_iff_ne.2 h70
         clear h7 h70
         go_wp2_with fail
         refine (HE.out Ax cx X.f6 (wrap64 (deep + 1)) tb w1 HCX1.out hlx HTB.out).mono ?_
         rintro e w2 ⟨rfl, hb⟩
         have HB2 := Aside0.mk (below_step HB1.out hb)
         clear hb
         cases tb with
         | false =>
          have hbf : b = false := by have := HNX.out; rw [if_pos rfl] at this; exact (Option.some.inj this).symm
          subst hbf
          go_wp2_with fail
          go_ret
          exact ⟨rfl, HB2.out⟩
         | true =>
          have HN2 := Aside0.mk (show _ from by have h := HNX.out; rw [if_neg (by decide)] at h; exact h)
          go_wp2_with fail
          go_roundg k1
          case measure => exact Nat.lt_succ_self _
          case rel => exact ⟨i + 1, rfl, ⟨(Nat.succ_add_eq_add_succ i k1).trans HK.out, HN2.out, HB2.out⟩⟩
theorem rall_calls (HP : RplainC) : ∀ K, RallC (rallF K)
 | 0 => fun _ _ _ _ _ _ _ _ h => by cases h
 | K + 1 => rall_step HP (rallF K) (rall_calls HP K)
theorem rright_calls (HP : RplainC) (k : Nat) (A : Option Addr) (c : Nat) (l : List S37) (b : Bool) (w : World) (hC : Kd.C k37 w A l.length l) (hc : l.length ≤ c) (h : rightF k l = some b) : Calls Tryz.prog 11 #[.slice A l.length c] w fun e w' => e = .returned (.bool b) ∧ Below w.heap.size w w' := by
 have HC := Aside0.mk hC
 obtain ⟨t, ht, h⟩ := Option.bind_eq_some_iff.1 h
 have HT := Aside0.mk ht
 have HA := Aside0.mk (rall_calls HP 7)
 clear hC ht HP
 cases t with
 | false =>
  have hb : b = false := by rw [if_pos rfl] at h; exact (Option.some.inj h).symm
  subst hb
  clear h
  go_enter Tryz.func11, Tryz.ntmps11
  go_wp2_with fail
  refine (HA.out A c l 0 false w HC.out hc HT.out).mono ?_
  rintro e w1 ⟨rfl, hb⟩
  have HB := Aside0.mk hb
  clear hb
  go_wp2_with fail
  go_ret
  exact ⟨rfl, HB.out⟩
 | true =>
  rw [if_neg (by decide)] at h
  obtain ⟨n, hn, h⟩ := Option.bind_eq_some_iff.1 h
  have hb := Option.some.inj h
  have HN := Aside0.mk hn
  clear h hn
  subst hb
  go_enter Tryz.func11, Tryz.ntmps11
  go_wp2_with fail
  refine (HA.out A c l 0 true w HC.out hc HT.out).mono ?_
  rintro e w1 ⟨rfl, hb⟩
  have HB := Aside0.mk hb
  clear hb
  go_wp2_with fail
  refine (ambidexterref11_Count.calls k A c l n w1 (Kd.C_below HC.out HB.out) hc HN.out).mono ?_
  rintro e w2 ⟨rfl, hd⟩
  have HB2 := Aside0.mk (below_step HB.out (of_drawn hd))
  clear hd
  go_wp2_with fail
  go_ret
  exact ⟨rfl, HB2.out⟩
abbrev FewC (rec : Int → List S37 → Option Bool) : Prop := ∀ (A : Option Addr) (c : Nat) (l : List S37) (deep : Int) (b : Bool) (w : World), Kd.C k37 w A l.length l → l.length ≤ c → rec deep l = some b →
 Calls Tryz.prog 5 #[.slice A l.length c, .int .i64 deep] w fun e w' => e = .returned (.bool b) ∧ Below w.heap.size w w'
theorem few_step (k : Nat) (HE0 : FewC (fewF k)) : FewC (fewF (k + 1)) := by
 intro A c l deep b w hC hc hrun
 have hu := Tryz.underlying37
 rw [fewF_succ] at hrun
 have HE := Aside0.mk HE0
 have HC := Aside0.mk hC
 have hm := Kd.C_max hC
 clear hC HE0
 by_cases h8 : deep > 8
 · have hb : b = false := by rw [if_pos h8] at hrun; exact (Option.some.inj hrun).symm
   subst hb
   have cd : decide (deep > 8) = true := decide_eq_true h8
   clear hrun h8
   go_enter Tryz.func5, Tryz.ntmps5
   go_wp2_with fail
   go_ret
   exact ⟨rfl, Below.refl _ _⟩
 rw [if_neg h8] at hrun
 have cd : decide (deep > 8) = false := decide_eq_false h8
 by_cases hl : (l.length : Int) > 100
 · have hb : b = false := by rw [if_pos hl] at hrun; exact (Option.some.inj hrun).symm
   subst hb
   have cl : decide ((l.length : Int) > 100) = true := decide_eq_true hl
   have cl2 : (100 < l.length) = True := eq_true (by omega)
   clear hrun h8 hl
   go_enter Tryz.func5, Tryz.ntmps5
   go_wp2_with fail
   go_ret
   exact ⟨rfl, Below.refl _ _⟩
 rw [if_neg hl] at hrun
 have cl : decide ((l.length : Int) > 100) = false := decide_eq_false hl
 have cl2 : (100 < l.length) = False := eq_false (by omega)
 obtain ⟨t0, ht0, hend⟩ := Option.bind_eq_some_iff.1 hrun
 have HT0 := Aside0.mk ht0
 have HEND := Aside0.mk hend
 clear hrun h8 hl ht0 hend
 go_enter Tryz.func5, Tryz.ntmps5
 go_wp2_with fail
 go_loopg [5] l.length (fun kq v5 wr => ∃ i : Nat, v5 = .int .i64 i ∧ Aside0 (i + kq = l.length ∧ fewL (fewF k (wrap64 (deep + 1))) (l.drop i) = some t0 ∧ Below w.heap.size w wr))
 case atStart => exact ⟨0, rfl, ⟨by omega, HT0.out, Below.refl _ _⟩⟩
 case round =>
  clear HT0
  obtain ⟨i, rfl, ⟨hk, hs, hb⟩⟩ := hrel
  have HS := Aside0.mk hs
  have HB := Aside0.mk hb
  clear hs hb
  rcases gk with _ | k1
  · have hi : i = l.length := by omega
    have hlt : decide ((i : Int) < (l.length : Int)) = false := by simp [hi]
    have hl2 : (i < l.length) = False := eq_false (by omega)
    have ht : t0 = true := by have := HS.out; rw [hi, List.drop_length, fewL] at this; exact (Option.some.inj this).symm
    subst ht
    have HN := Aside0.mk (show _ from by have h := HEND.out; rw [if_neg (by decide)] at h; exact h)
    clear HS hk hi HEND
    by_cases hd : deep > 0
    · have cd0 : decide (deep > 0) = true := decide_eq_true hd
      have hb : b = true := by have h := HN.out; rw [if_pos hd] at h; exact (Option.some.inj h).symm
      subst hb
      clear HN hd
      go_wp2_with fail
      go_ret
      exact ⟨rfl, HB.out⟩
    · have cd0 : decide (deep > 0) = false := decide_eq_false hd
      obtain ⟨n, hn, hbb⟩ := Option.bind_eq_some_iff.1 (show ((ambidexterref11_Count.f k l).bind fun c => some (decide (c ≤ 100))) = some b from by have h := HN.out; rw [if_neg hd] at h; exact h)
      have hb := Option.some.inj hbb
      subst hb
      have HNn := Aside0.mk hn
      clear HN hd hn hbb
      go_wp2_with fail
      refine (ambidexterref11_Count.calls k A c l n wr (Kd.C_below HC.out HB.out) hc HNn.out).mono ?_
      rintro e w2 ⟨rfl, hd⟩
      have HB2 := Aside0.mk (below_step HB.out (of_drawn hd))
      clear hd
      go_wp2_with fail
      go_ret
      exact ⟨rfl, HB2.out⟩
  · have hi : i < l.length := by omega
    have hlt : decide ((i : Int) < (l.length : Int)) = true := by simp [hi]
    have hp : (0 ≤ (i : Int)) := by omega
    have hq0 : (i : Int) < (l.length : Int) := by omega
    obtain ⟨ad, Ax, cx, ex, x0, x1, x2, x3, x4, x5, x6, x7, x8, x9, x10, x11, x12, hlx, hCx⟩ := at_T37 HC.out i hp hq0
    cases ex
    have HS1 := HS.out
    rw [drop_rd l i hi, fewL] at HS1
    have HCX := Aside0.mk (Kd.C_below hCx HB.out)
    generalize rd_T37 l (i : Int) = X at *
    have HS1 := Aside0.mk HS1
    have HK := Aside0.mk hk
    clear hk HS hCx
    simp only [Int.toNat_natCast] at x2 x3 x11
    have a2 := (World.cell?_of_block (HB.out.block _ (cell_lt x2))).trans x2
    have a3 := (World.cell?_of_block (HB.out.block _ (cell_lt x3))).trans x3
    have a11 := (World.cell?_of_block (HB.out.block _ (cell_lt x11))).trans x11
    have l11 := cell_lt a11
    clear x0 x1 x2 x3 x4 x5 x6 x7 x8 x9 x10 x11 x12
    replace hp := eq_true hp
    replace hq0 := eq_true hq0
    by_cases hsz : wrap64 ((X.f2.size : Int) + (X.f3.size : Int)) > 200
    · have cs : decide (wrap64 ((X.f2.size : Int) + (X.f3.size : Int)) > 200) = true := decide_eq_true hsz
      have cs2 : decide (IntKind.i64.wrap ((X.f2.size : Int) + (X.f3.size : Int)) > 200) = true := by rw [i64_w]; exact cs
      have ht : t0 = false := by have h := HS1.out; rw [if_pos hsz] at h; exact (Option.some.inj h).symm
      subst ht
      have hb : b = false := by have h := HEND.out; rw [if_pos rfl] at h; exact (Option.some.inj h).symm
      subst hb
      clear HS1 HEND hsz
      go_upto_region 6 with fail
      go_quiet (fail)
      all_goals
       go_wp2_with fail
       go_ret
       exact ⟨rfl, by repeat (first | exact HB.out | refine below_drew ?_ | refine pw_below_drewN ?_ _)⟩
    · have cs : decide (wrap64 ((X.f2.size : Int) + (X.f3.size : Int)) > 200) = false := decide_eq_false hsz
      have cs2 : decide (IntKind.i64.wrap ((X.f2.size : Int) + (X.f3.size : Int)) > 200) = false := by rw [i64_w]; exact cs
      obtain ⟨tb, htb, hnx⟩ := Option.bind_eq_some_iff.1 (show ((fewF k (wrap64 (deep + 1)) X.f6).bind fun t => if t = false then some false else fewL (fewF k (wrap64 (deep + 1))) (l.drop (i + 1))) = some t0 from by have h := HS1.out; rw [if_neg hsz] at h; exact h)
      have HTB := Aside0.mk htb
      have HNX := Aside0.mk hnx
      clear HS1 hsz htb hnx
      have HPC := Aside0.mk (fun (W : World) (hb : Below wr.heap.size wr W) => (by have h := HE.out Ax cx X.f6 (wrap64 (deep + 1)) tb W (Kd.C_below HCX.out hb) hlx HTB.out; rw [← i64_w] at h; exact h : Calls Tryz.prog 5 #[.slice Ax X.f6.length cx, .int .i64 (IntKind.i64.wrap (deep + 1))] W fun e w' => e = .returned (.bool tb) ∧ Below W.heap.size W w'))
      go_upto_region 6 with fail
      go_region_held3 (fun W' => W'.cell? ⟨(ad.add (i * 13)).block, (ad.add (i * 13)).off + 2, none⟩ = some (.string X.f2) ∧ W'.cell? ⟨(ad.add (i * 13)).block, (ad.add (i * 13)).off + 3, none⟩ = some (.string X.f3) ∧ W'.cell? ⟨(ad.add (i * 13)).block, (ad.add (i * 13)).off + 11, none⟩ = some (.slice Ax X.f6.length cx)) (go_keep) (first | (go_at_call 5; (with_reducible refine (HPC.out wr.drew (below_drew (Below.refl _ _))).mono ?_); rintro e w1 ⟨rfl, hb⟩; have HBW := Aside0.mk (below_step (w := wr) (by first | exact Below.refl _ _ | exact below_drew (Below.refl _ _) | exact pw_below_drewN (Below.refl _ _) _) hb); have c2 := (HBW.out.cell (p := ⟨(ad.add (i * 13)).block, (ad.add (i * 13)).off + 2, none⟩) l11).trans a2; have c3 := (HBW.out.cell (p := ⟨(ad.add (i * 13)).block, (ad.add (i * 13)).off + 3, none⟩) l11).trans a3; have c11 := (HBW.out.cell (p := ⟨(ad.add (i * 13)).block, (ad.add (i * 13)).off + 11, none⟩) l11).trans a11; clear hb))
      all_goals
       cases tb with
       | false =>
        have ht : t0 = false := by have h := HNX.out; rw [if_pos rfl] at h; exact (Option.some.inj h).symm
        subst ht
        have hb : b = false := by have h := HEND.out; rw [if_pos rfl] at h; exact (Option.some.inj h).symm
        subst hb
        go_wp2_with fail
        go_ret
        exact ⟨rfl, below_step HB.out HBW.out⟩
       | true =>
        have HN2 := Aside0.mk (show fewL (fewF k (wrap64 (deep + 1))) (l.drop (i + 1)) = some t0 from by have h := HNX.out; rw [if_neg (by decide)] at h; exact h)
        go_wp2_with fail
        go_roundg k1
        case measure => exact Nat.lt_succ_self _
        case rel => exact ⟨i + 1, rfl, ⟨(Nat.succ_add_eq_add_succ i k1).trans HK.out, HN2.out, below_step HB.out HBW.out⟩⟩
theorem few_calls : ∀ k, FewC (fewF k)
 | 0 => fun _ _ _ _ _ _ _ _ h => by cases h
 | k + 1 => few_step k (few_calls k)
abbrev PlC (l : List S37) : Prop := ∀ (A0 : Option Addr) (c0 : Nat) (A1 : Option Addr) (c1 : Nat) (w : World), Kd.C k37 w A0 l.length l → l.length ≤ c0 → Kd.C k37 w A1 l.length l → l.length ≤ c1 →
 Calls Tryz.prog 8 #[.slice A0 l.length c0, .slice A1 l.length c1] w fun e w' => e = .returned (.bool true) ∧ Below w.heap.size w w'
theorem placed_step (l : List S37) (k : Nat) (hE : parser_Equal.f k l l = some true) (hK0 : ∀ x ∈ l, PlC x.f6) : PlC l := by
 intro A0 c0 A1 c1 w h0 hc0 h1 hc1
 have hu := Tryz.underlying37
 have HC0 := Aside0.mk h0
 have HC1 := Aside0.mk h1
 have HE := Aside0.mk (show ambidexterref11_Same.f k l l = some true from hE)
 have HK0 := Aside0.mk hK0
 have hm := Kd.C_max h0
 clear h0 h1 hE hK0
 go_enter Tryz.func8, Tryz.ntmps8
 go_wp2_with fail
 refine (ambidexterref11_Same.calls k A0 c0 l A1 c1 l true w HC0.out hc0 HC1.out hc1 HE.out).mono ?_
 rintro e w0 ⟨rfl, hb⟩
 have HB0 := Aside0.mk hb
 clear hb
 go_wp2_with fail
 go_loopg [5] l.length (fun kq v5 wr => ∃ i : Nat, v5 = .int .i64 i ∧ Aside0 (i + kq = l.length ∧ Below w.heap.size w wr))
 case atStart => exact ⟨0, rfl, ⟨by omega, HB0.out⟩⟩
 case round =>
  clear HB0
  obtain ⟨i, rfl, ⟨hk, hb⟩⟩ := hrel
  have HB := Aside0.mk hb
  clear hb
  rcases gk with _ | k1
  · have hi : i = l.length := by omega
    have hlt : decide ((i : Int) < (l.length : Int)) = false := by simp [hi]
    have hl2 : (i < l.length) = False := eq_false (by omega)
    clear hk hi
    go_wp2_with fail
    go_ret
    exact ⟨rfl, HB.out⟩
  · have hi : i < l.length := by omega
    have hlt : decide ((i : Int) < (l.length : Int)) = true := by simp [hi]
    have hp : (0 ≤ (i : Int)) := by omega
    have hq0 : (i : Int) < (l.length : Int) := by omega
    obtain ⟨ad, Ax, cx, ex, x0, x1, x2, x3, x4, x5, x6, x7, x8, x9, x10, x11, x12, hlx, hCx⟩ := at_T37 HC0.out i hp hq0
    obtain ⟨ae, Ay, cy, ey, y0, y1, y2, y3, y4, y5, y6, y7, y8, y9, y10, y11, y12, hly, hCy⟩ := at_T37 HC1.out i hp hq0
    cases ex
    cases ey
    have hX : rd_T37 l (i : Int) ∈ l := by
     have e : rd_T37 l (i : Int) = l[i] := by simp [rd_T37, hi]
     rw [e]; exact List.getElem_mem hi
    have HPX := Aside0.mk (HK0.out _ hX)
    have HCX := Aside0.mk (Kd.C_below hCx HB.out)
    have HCY := Aside0.mk (Kd.C_below hCy HB.out)
    clear hX hCx hCy
    generalize rd_T37 l (i : Int) = X at *
    have HK := Aside0.mk hk
    clear hk
    simp only [Int.toNat_natCast] at x11 x12 y11 y12
    have a11 := (World.cell?_of_block (HB.out.block _ (cell_lt x11))).trans x11
    have a12 := (World.cell?_of_block (HB.out.block _ (cell_lt x12))).trans x12
    have b11 := (World.cell?_of_block (HB.out.block _ (cell_lt y11))).trans y11
    have b12 := (World.cell?_of_block (HB.out.block _ (cell_lt y12))).trans y12
    have l11 := cell_lt a11
    have l12 := cell_lt b11
    clear x0 x1 x2 x3 x4 x5 x6 x7 x8 x9 x10 x11 x12 y0 y1 y2 y3 y4 y5 y6 y7 y8 y9 y10 y11 y12
    replace hp := eq_true hp
    replace hq0 := eq_true hq0
    have hne : (X.f7 != X.f7) = false := by simp
    have HPC := Aside0.mk (fun (W : World) (hb : Below wr.heap.size wr W) => HPX.out Ax cx Ay cy W (Kd.C_below HCX.out hb) hlx (Kd.C_below HCY.out hb) hly)
    clear HPX HCX HCY
    go_upto_region 6 with fail
    go_region_held3 (fun W' => W'.cell? ⟨(ad.add (i * 13)).block, (ad.add (i * 13)).off + 11, none⟩ = some (.slice Ax X.f6.length cx) ∧ W'.cell? ⟨(ad.add (i * 13)).block, (ad.add (i * 13)).off + 12, none⟩ = some (.int .i64 X.f7) ∧ W'.cell? ⟨(ae.add (i * 13)).block, (ae.add (i * 13)).off + 11, none⟩ = some (.slice Ay X.f6.length cy) ∧ W'.cell? ⟨(ae.add (i * 13)).block, (ae.add (i * 13)).off + 12, none⟩ = some (.int .i64 X.f7)) (go_keep) (first | (go_at_call 8; (with_reducible refine (HPC.out _ (by first | exact Below.refl _ _ | exact below_drew (Below.refl _ _) | exact pw_below_drewN (Below.refl _ _) _)).mono ?_); rintro e w1 ⟨rfl, hb⟩; have HBW := Aside0.mk (below_step (w := wr) (by first | exact Below.refl _ _ | exact below_drew (Below.refl _ _) | exact pw_below_drewN (Below.refl _ _) _) hb); have c11 := (HBW.out.cell (p := ⟨(ad.add (i * 13)).block, (ad.add (i * 13)).off + 11, none⟩) l11).trans a11; have c12 := (HBW.out.cell (p := ⟨(ad.add (i * 13)).block, (ad.add (i * 13)).off + 12, none⟩) l11).trans a12; have d11 := (HBW.out.cell (p := ⟨(ae.add (i * 13)).block, (ae.add (i * 13)).off + 11, none⟩) l12).trans b11; have d12 := (HBW.out.cell (p := ⟨(ae.add (i * 13)).block, (ae.add (i * 13)).off + 12, none⟩) l12).trans b12; clear hb))
    all_goals
     go_wp2_with fail
     go_roundg k1
     case measure => exact Nat.lt_succ_self _
     case rel => exact ⟨i + 1, rfl, ⟨(Nat.succ_add_eq_add_succ i k1).trans HK.out, below_step HB.out HBW.out⟩⟩
theorem placed_nil : PlC [] := placed_step [] 2 (by decide +kernel) (fun x hx => by cases hx)
theorem placed_of {d n : Nat} {l : List S37} {ks : List (Int × ByteArray)} (h : VLs d l n ks) (hK : ∀ x ∈ l, PlC x.f6) : PlC l := by
 obtain ⟨K, hK2⟩ := h.sim.equal
 exact placed_step l K (hK2 K (Nat.le_refl _)) hK
theorem placed_kids {d n : Nat} {l : List S37} {ks : List (Int × ByteArray)} (h : VLs d l n ks) : ∀ x ∈ l, PlC x.f6 := by
 induction h with
 | nil d => intro x hx; cases hx
 | @plain d n x l ks hx h7 hl ih =>
  intro y hy
  rcases List.mem_cons.1 hy with rfl | hy
  · have h6 : y.f6 = [] := by cases hx <;> first | rfl | exact absurd rfl h7
    rw [h6]
    exact placed_nil
  · exact ih y hy
 | @when_ d n m x l ks ls hx h7 hk hl ihk ihl =>
  intro y hy
  rcases List.mem_cons.1 hy with rfl | hy
  · exact placed_of hk ihk
  · exact ihl y hy
theorem placed_calls {d n : Nat} {l : List S37} {ks : List (Int × ByteArray)} (h : VLs d l n ks) : PlC l := placed_of h (placed_kids h)
end Go.Proofs.YtonhcfecfifghaaGreatDoor.PPx
