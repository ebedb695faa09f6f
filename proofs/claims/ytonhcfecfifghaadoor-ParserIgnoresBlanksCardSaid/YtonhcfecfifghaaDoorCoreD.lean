/- Part D of the proofs of the parser's laws: the contracts of the functions that the law reaches, and what their plain functions compute. No condition. -/
import Derived.Test.YtonhcfecfifghaaDoorCoreA
import Derived.Test.YtonhcfecfifghaaDoorCoreB
import Derived.Test.YtonhcfecfifghaaDoorCoreC
import Derived.Test.YtonhcfecfifghaaDoorRows
import Derived.SliceStrings
import Derived.Lib.LaidTab
import Derived.Stop.LaidErr
import Derived.MakeChecks
namespace Go.Proofs.YtonhcfecfifghaaDoor.PPx
open Go.RowKit Go.Proofs.YtonhcfecfifghaaDoorW.PrintWords Go.Proofs.YtonhcfecfifghaaDoorW.PrintLast Go.Proofs.YtonhcfecfifghaaDoorW.PrintMore
set_option linter.unusedVariables false
theorem kids_lt {l : List S55} {x : S55} (h : x ∈ l) : SizeOf.sizeOf x.f6 < SizeOf.sizeOf l := by
  have h1 := List.sizeOf_lt_of_mem h
  have h2 : SizeOf.sizeOf x.f6 < SizeOf.sizeOf x := by
    cases x
    simp only [S55.mk.sizeOf_spec]
    omega
  omega
theorem list_ind {P : List S55 → Prop} (h : ∀ l, (∀ x ∈ l, P x.f6) → P l) : ∀ l, P l := by
  have key : ∀ (n : Nat) (l : List S55), SizeOf.sizeOf l < n → P l := by
    intro n
    induction n with
    | zero => intro l hl; omega
    | succ n ih => intro l hl; exact h l (fun x hx => ih _ (by have := kids_lt hx; omega))
  exact fun l => key _ l (Nat.lt_succ_self _)
def EvalsTo {α : Type} (f : Nat → Option α) (b : α) : Prop := ∃ K, ∀ k, K ≤ k → f k = some b
theorem EvalsTo.const {α : Type} (b : α) : EvalsTo (fun _ => some b) b := ⟨0, fun _ _ => rfl⟩
theorem EvalsTo.bind {α β : Type} {f : Nat → Option α} {a : α} {g : Nat → α → Option β} {b : β} (h : EvalsTo f a) (hg : EvalsTo (fun k => g k a) b) : EvalsTo (fun k => (f k).bind (g k)) b := by
  obtain ⟨K, hK⟩ := h
  obtain ⟨K2, hK2⟩ := hg
  exact ⟨max K K2, fun k hk => by simp only; rw [hK k (by omega), Option.bind_some]; exact hK2 k (by omega)⟩
theorem EvalsTo.congr {α : Type} {f g : Nat → Option α} {b : α} (h : EvalsTo f b) (e : ∀ k, g k = f k) : EvalsTo g b := by
  obtain ⟨K, hK⟩ := h
  exact ⟨K, fun k hk => by rw [e k]; exact hK k hk⟩
theorem EvalsTo.shift {α : Type} {f g : Nat → Option α} {b : α} {j : Nat} (h : EvalsTo f b) (e : ∀ k, g (k + j) = f k) : EvalsTo g b := by
  obtain ⟨K, hK⟩ := h
  refine ⟨K + j, fun k hk => ?_⟩
  have := e (k - j)
  rw [show k - j + j = k by omega] at this
  rw [this]
  exact hK _ (by omega)
theorem same_total {EQ : Nat → List S55 → List S55 → Option Bool} {x y : S55} {b : Bool} (h : EvalsTo (fun k => EQ k x.f6 y.f6) b) : ∃ b', EvalsTo (fun k => sameS (EQ k) x y) b' := by
  obtain ⟨K, hK⟩ := h
  have : ∀ k, K ≤ k → sameS (EQ k) x y = sameS (fun _ _ => some b) x y := by
    intro k hk
    unfold sameS sameE
    rw [show EQ k x.f6 y.f6 = some b from hK k hk]
  have ht : ∃ b', sameS (fun _ _ => some b) x y = some b' := by
    unfold sameS sameE
    repeat' (first | exact ⟨_, rfl⟩ | split)
  obtain ⟨b', hb⟩ := ht
  exact ⟨b', K, fun k hk => (this k hk).trans hb⟩
theorem equal_total : ∀ (l m : List S55), ∃ b, EvalsTo (fun k => parser_Equal.f k l m) b := by
  refine list_ind fun l ih m => ?_
  have key : ∀ (l : List S55), (∀ x ∈ l, ∀ m, ∃ b, EvalsTo (fun k => parser_Equal.f k x.f6 m) b) → ∀ m, ∃ b, EvalsTo (fun k => eqLoop (parser_Equal.f k) l m) b := by
    intro l
    induction l with
    | nil => intro _ m; exact ⟨true, .const _⟩
    | cons x l il =>
      intro H m
      cases m with
      | nil => exact ⟨false, .const _⟩
      | cons y m =>
        obtain ⟨b, hb⟩ := H x List.mem_cons_self y.f6
        obtain ⟨b1, h1⟩ := same_total hb
        obtain ⟨b2, h2⟩ := il (fun z hz => H z (List.mem_cons_of_mem _ hz)) m
        refine ⟨if b1 = true then b2 else false, ?_⟩
        refine EvalsTo.bind (g := fun k t => if t = true then eqLoop (parser_Equal.f k) l m else some false) h1 ?_
        cases b1
        · exact .const _
        · exact h2
  obtain ⟨b, hb⟩ := key l ih m
  by_cases hl : l.length = m.length
  · refine ⟨b, EvalsTo.shift (j := 1) hb fun k => ?_⟩
    show (if l.length = m.length then eqLoop (parser_Equal.f k) l m else some false) = _
    rw [if_pos hl]
  · refine ⟨false, EvalsTo.shift (j := 1) (EvalsTo.const false) fun k => ?_⟩
    show (if l.length = m.length then eqLoop (parser_Equal.f k) l m else some false) = _
    rw [if_neg hl]
theorem name_total (s : ByteArray) : ∃ b, parser_name.f s = some b := by
  unfold parser_name.f
  rw [show lexer_Lex.f s = some (lexB s) from rfl, Option.bind_some]
  by_cases h0 : (lexB s).2.1 = 0
  · rw [if_pos h0]
    by_cases h1 : ((lexB s).1.length : Int) = 1
    · rw [if_pos h1, if_pos (by omega)]
      unfold parser_named.f
      rw [Option.bind_some]
      split <;> exact ⟨_, rfl⟩
    · rw [if_neg h1]; exact ⟨_, rfl⟩
  · rw [if_neg h0]; exact ⟨_, rfl⟩
theorem names_total (x : S55) : ∃ b, namesF x = some b := by
  obtain ⟨b, hb⟩ := name_total x.f2
  obtain ⟨c, hc⟩ := name_total x.f3
  unfold namesF
  rw [hb, hc]
  repeat' (first | exact ⟨_, rfl⟩ | split | simp only [Option.bind_some])
theorem plain_total (x : S55) : ∃ b, EvalsTo (fun k => plainF k x) b := by
  obtain ⟨b, hb⟩ := equal_total x.f6 (bareS x).f6
  obtain ⟨b1, K, h1⟩ := same_total hb
  simp only at h1
  obtain ⟨c, hc⟩ := names_total x
  have : ∀ k, K ≤ k → plainF k x = plainF K x := by
    intro k hk
    unfold plainF
    rw [h1 k hk, h1 K (Nat.le_refl _)]
  have ht : ∃ b', plainF K x = some b' := by
    unfold plainF
    rw [h1 K (Nat.le_refl _), hc, Option.bind_some]
    repeat' (first | exact ⟨_, rfl⟩ | split)
  obtain ⟨b', hb'⟩ := ht
  exact ⟨b', K, fun k hk => (this k hk).trans hb'⟩
theorem count_total : ∀ (l : List S55) (deep : Int), 0 ≤ deep → deep ≤ 4 → ∃ r, EvalsTo (fun k => parser_count.f k l deep) r ∧ 0 ≤ r ∧ r ≤ 100 * (5 - deep) := by
  refine list_ind fun l ih deep hd hd4 => ?_
  have key : ∀ (l : List S55), (∀ x ∈ l, ∀ deep : Int, 0 ≤ deep → deep ≤ 4 → ∃ r, EvalsTo (fun k => parser_count.f k x.f6 deep) r ∧ 0 ≤ r ∧ r ≤ 100 * (5 - deep)) →
      ∀ (n : Int) (pre : List S55), 0 ≤ n → (pre.length : Int) ≤ n → n ≤ 65 + 100 * (4 - deep) → ∃ r, EvalsTo (fun k => parser_count.l0 k deep n (pre ++ l) (pre ++ l).length pre.length) r ∧ 0 ≤ r ∧ r ≤ 100 * (5 - deep) := by
    intro l
    induction l with
    | nil =>
      intro _ n pre h0 hp hn
      refine ⟨n, EvalsTo.shift (j := 1) (EvalsTo.const n) (fun k => ?_), h0, by omega⟩
      rw [List.append_nil, count_end]
    | cons x l il =>
      intro H n pre h0 hp hn
      have hn1 : wrap64 (n + 1) = n + 1 := by unfold wrap64; omega
      have hd1 : wrap64 (deep + 1) = deep + 1 := by unfold wrap64; omega
      have hst := fun k => count_step k deep n (pre ++ x :: l) pre.length (by omega) (by simp only [List.length_append, List.length_cons]; omega)
      simp only [rd_mid, hn1, hd1] at hst
      by_cases c : n + 1 > 64
      · refine ⟨65, EvalsTo.shift (j := 2) (EvalsTo.const 65) (fun k => ?_), by omega, by omega⟩
        rw [hst, if_pos c]
      by_cases c7 : x.f0 = 7 ∧ deep = 4
      · refine ⟨65, EvalsTo.shift (j := 2) (EvalsTo.const 65) (fun k => ?_), by omega, by omega⟩
        rw [hst, if_neg c, if_pos c7]
      obtain ⟨b, K, hK⟩ := plain_total x
      have hi1 : wrap64 ((pre.length : Int) + 1) = ((pre ++ [x]).length : Int) := by
        simp only [List.length_append, List.length_cons, List.length_nil]
        unfold wrap64; omega
      simp only [hi1, if_neg c, if_neg c7] at hst
      have hp2 : EvalsTo (fun k => plainF (k + 1) x) b := ⟨K, fun k hk => hK _ (by omega)⟩
      cases b with
      | false =>
        refine ⟨65, EvalsTo.shift (j := 2) ?_ hst, by omega, by omega⟩
        refine EvalsTo.bind hp2 ?_
        simp only [Bool.false_eq_true, if_false]
        exact EvalsTo.const 65
      | true =>
        by_cases h7 : x.f0 = 7
        · obtain ⟨t, ht, ht0, ht1⟩ := H x List.mem_cons_self (deep + 1) (by omega) (by omega)
          obtain ⟨r, hr, hr0, hr1⟩ := il (fun z hz => H z (List.mem_cons_of_mem _ hz)) (n + 1 + t) (pre ++ [x]) (by omega) (by simp only [List.length_append, List.length_cons, List.length_nil]; omega) (by omega)
          have hw : wrap64 (n + 1 + t) = n + 1 + t := by unfold wrap64; omega
          rw [List.append_assoc, List.singleton_append] at hr
          refine ⟨r, EvalsTo.shift (j := 2) ?_ hst, hr0, hr1⟩
          refine EvalsTo.bind hp2 ?_
          simp only [if_true, if_pos h7]
          refine EvalsTo.bind ht ?_
          simp only [hw]
          exact hr
        · obtain ⟨r, hr, hr0, hr1⟩ := il (fun z hz => H z (List.mem_cons_of_mem _ hz)) (n + 1) (pre ++ [x]) (by omega) (by simp only [List.length_append, List.length_cons, List.length_nil]; omega) (by omega)
          rw [List.append_assoc, List.singleton_append] at hr
          refine ⟨r, EvalsTo.shift (j := 2) ?_ hst, hr0, hr1⟩
          refine EvalsTo.bind hp2 ?_
          simp only [if_true, if_neg h7]
          exact hr
  obtain ⟨r, hr, h0, h1⟩ := key l ih 0 [] (Int.le_refl _) (by simp) (by omega)
  refine ⟨r, EvalsTo.shift (j := 1) hr (fun k => ?_), h0, h1⟩
  rw [parser_count.f]
  rfl
theorem valid_total (l : List S55) : ∃ b, EvalsTo (fun k => parser_Valid.f k l) b := by
  obtain ⟨r, hr, _⟩ := count_total l 0 (Int.le_refl _) (by decide)
  refine ⟨decide (r ≤ 64), ?_⟩
  unfold parser_Valid.f
  exact EvalsTo.bind hr (EvalsTo.const _)
theorem name_inv {s : ByteArray} (h : parser_name.f s = some true) : NameOK s := by
  unfold parser_name.f at h
  rw [show lexer_Lex.f s = some (lexB s) from rfl, Option.bind_some] at h
  by_cases h0 : (lexB s).2.1 = 0
  · rw [if_pos h0] at h
    by_cases h1 : ((lexB s).1.length : Int) = 1
    · rw [if_pos h1, if_pos (by omega)] at h
      obtain ⟨t, ht⟩ : ∃ t, (lexB s).1 = [t] := List.length_eq_one_iff.1 (by omega)
      have hrd : rd_T44 (lexB s).1 0 = t := by rw [ht]; rfl
      rw [hrd] at h
      unfold parser_named.f at h
      rw [Option.bind_some] at h
      by_cases hn : isNamed t = true
      · have hn' : isNamed ⟨t.f0, t.f1, t.f2⟩ = true := hn
        rw [if_pos hn'] at h
        have he : t.f1.toList = s.toList := by simpa using h
        have he : t.f1 = s := by
          rw [ByteArray.toList_eq, ByteArray.toList_eq] at he
          apply ByteArray.ext
          exact Array.toList_inj.1 he
        simp only [isNamed, Bool.and_eq_true, beq_iff_eq, decide_eq_true_eq, Bool.not_eq_true'] at hn
        obtain ⟨n0, n1, n2⟩ := hn
        rw [he] at n1 n2
        have hl : lexB s = ([t], 0, 0) := by
          have hsz : s.size ≤ 20000 := by omega
          obtain ⟨ts, j, hp, _, _, hc⟩ := whole s hsz
          rcases hc with ⟨hl, _⟩ | ⟨hl, _, _⟩
          · rw [hl] at ht
            rw [hl]
            simp only at ht
            rw [ht]
          · rw [hl] at h0
            exact absurd h0 (by simp)
        have := tok_of_lex hl he (by omega)
        rw [n0] at this
        exact ⟨this, by omega, n2⟩
      · have hn' : ¬ isNamed ⟨t.f0, t.f1, t.f2⟩ = true := hn
        rw [if_neg hn'] at h
        exact absurd h (by simp)
    · rw [if_neg h1] at h; exact absurd h (by simp)
  · rw [if_neg h0] at h; exact absurd h (by simp)
theorem small_inv {n : Int} (h : smallB n = true) : Small n := by
  unfold smallB at h
  simp only [Bool.and_eq_true, decide_eq_true_eq] at h
  exact h
theorem smallJ_inv {q : S52} (h : smallJ q = true) : SmallQ q := by
  unfold smallJ at h
  simp only [Bool.and_eq_true] at h
  exact ⟨small_inv h.1, small_inv h.2.1, small_inv h.2.2⟩
theorem same_inv {EQ : List S55 → List S55 → Option Bool} {x y : S55} (h : sameS EQ x y = some true) : x.f0 = y.f0 ∧ x.f1 = y.f1 ∧ x.f2 = y.f2 ∧ x.f3 = y.f3 ∧ x.f4 = y.f4 ∧ x.f5 = y.f5 ∧ EQ x.f6 y.f6 = some true := by
  have hb : ∀ {a b : ByteArray}, a.toList = b.toList → a = b := by
    intro a b he
    rw [ByteArray.toList_eq, ByteArray.toList_eq] at he
    apply ByteArray.ext
    exact Array.toList_inj.1 he
  unfold sameS sameE at h
  split at h
  case isFalse => exact absurd h (by simp)
  rename_i h0
  split at h
  case isFalse => exact absurd h (by simp)
  rename_i h1
  split at h
  case isFalse => exact absurd h (by simp)
  rename_i h2
  split at h
  case isFalse => exact absurd h (by simp)
  rename_i h3
  split at h
  case isFalse => exact absurd h (by simp)
  rename_i h4
  split at h
  case isFalse => exact absurd h (by simp)
  rename_i h5
  simp only [Bool.and_eq_true, beq_iff_eq] at h5
  obtain ⟨⟨a, b, c⟩, d, e, f⟩ := h5
  obtain ⟨t, ht, h⟩ := Option.bind_eq_some_iff.1 h
  obtain rfl := Option.some.inj h
  refine ⟨h0, h1, hb h2, hb h3, h4, ?_, ht⟩
  obtain ⟨x0, x1, x2, x3, x4, ⟨⟨q0, q1, q2⟩, ⟨p0, p1, p2⟩⟩, x6, x7⟩ := x
  obtain ⟨y0, y1, y2, y3, y4, ⟨⟨r0, r1, r2⟩, ⟨s0, s1, s2⟩⟩, y6, y7⟩ := y
  simp only at a b c d e f ⊢
  subst a b c d e f
  rfl
theorem equal_len {k : Nat} {l m : List S55} (h : parser_Equal.f k l m = some true) : l.length = m.length := by
  cases k with
  | zero => exact absurd h (by simp [parser_Equal.f])
  | succ k =>
    have h : (if l.length = m.length then eqLoop (parser_Equal.f k) l m else some false) = some true := h
    by_cases e : l.length = m.length
    · exact e
    · rw [if_neg e] at h; exact absurd h (by simp)
theorem bind_true {o : Option Bool} (h : (o.bind fun a => if a = true then some true else some false) = some true) : o = some true := by
  obtain ⟨b, hb, h⟩ := Option.bind_eq_some_iff.1 h
  cases b with
  | true => exact hb
  | false => exact absurd h (by simp)
theorem plain_inv {k : Nat} {x : S55} (h : plainF k x = some true) : PlainOK x := by
  unfold plainF at h
  by_cases h1 : x.f0 < 1
  · rw [if_pos h1] at h; exact absurd h (by simp)
  rw [if_neg h1] at h
  by_cases h8 : x.f0 > 8
  · rw [if_pos h8] at h; exact absurd h (by simp)
  rw [if_neg h8] at h
  by_cases ha : x.f1 ≠ 0 ∧ x.f1 ≠ 1
  · rw [if_pos ha] at h; exact absurd h (by simp)
  rw [if_neg ha] at h
  by_cases hn : smallB x.f4 = false
  · rw [if_pos hn] at h; exact absurd h (by simp)
  rw [if_neg hn] at h
  replace hn := small_inv (by simpa using hn)
  obtain ⟨t, ht, h⟩ := Option.bind_eq_some_iff.1 h
  cases t with
  | false => exact absurd h (by simp)
  | true =>
  rw [if_neg (by decide)] at h
  by_cases hq : smallJ x.f5.f0 = false
  · rw [if_pos hq] at h; exact absurd h (by simp)
  rw [if_neg hq] at h
  replace hq := smallJ_inv (by simpa using hq)
  by_cases hp : smallJ x.f5.f1 = false
  · rw [if_pos hp] at h; exact absurd h (by simp)
  rw [if_neg hp] at h
  replace hp := smallJ_inv (by simpa using hp)
  obtain ⟨s0, s1, s2, s3, s4, s5, s6⟩ := same_inv ht
  have hlen := equal_len s6
  replace ha : x.f1 = 0 ∨ x.f1 = 1 := by omega
  obtain ⟨x0, x1, x2, x3, x4, ⟨q, p⟩, x6, x7⟩ := x
  simp only at h1 h8 ha hn hq hp
  have hk : x0 = 1 ∨ x0 = 2 ∨ x0 = 3 ∨ x0 = 4 ∨ x0 = 5 ∨ x0 = 6 ∨ x0 = 7 ∨ x0 = 8 := by omega
  clear s0 s6 ht
  rcases hk with rfl | rfl | rfl | rfl | rfl | rfl | rfl | rfl
  · rcases ha with rfl | rfl
    · simp [bareS] at s2 s3 s4 s5 hlen
      subst s2 s3 s4 s5
      obtain rfl := List.eq_nil_of_length_eq_zero (by simpa using hlen)
      exact .go0 hq
    · simp [bareS] at s2 s3 s4 s5 hlen
      subst s2 s3 s4 s5
      obtain rfl := List.eq_nil_of_length_eq_zero (by simpa using hlen)
      exact .go1 hp
  · simp [bareS] at s2 s3 s4 s5 hlen
    obtain ⟨rfl, rfl⟩ := s5
    subst s2 s3 s4
    obtain rfl := List.eq_nil_of_length_eq_zero (by simpa using hlen)
    exact .home ha
  · simp [bareS] at s3 s4 s5 hlen
    obtain ⟨rfl, rfl⟩ := s5
    subst s3 s4
    obtain rfl := List.eq_nil_of_length_eq_zero (by simpa using hlen)
    have hnm : parser_name.f x2 = some true := bind_true (by simpa [namesF] using h)
    exact .pick ha (name_inv hnm)
  · simp [bareS] at s2 s4 s5 hlen
    obtain ⟨rfl, rfl⟩ := s5
    subst s2 s4
    obtain rfl := List.eq_nil_of_length_eq_zero (by simpa using hlen)
    have hnm : parser_name.f x3 = some true := by simpa [namesF] using h
    exact .put ha (name_inv hnm)
  · simp [bareS] at s2 s4 s5 hlen
    obtain ⟨rfl, rfl⟩ := s5
    subst s2 s4
    obtain rfl := List.eq_nil_of_length_eq_zero (by simpa using hlen)
    have hnm : parser_name.f x3 = some true := by simpa [namesF] using h
    exact .hand ha (name_inv hnm)
  · simp [bareS] at s1 s2 s3 s5 hlen
    obtain ⟨rfl, rfl⟩ := s5
    subst s1 s2 s3
    obtain rfl := List.eq_nil_of_length_eq_zero (by simpa using hlen)
    exact .wait hn
  · simp [bareS] at s1 s4 s5
    obtain ⟨rfl, rfl⟩ := s5
    subst s1 s4
    obtain ⟨b, hb, h⟩ := Option.bind_eq_some_iff.1 (show (parser_name.f x2).bind (fun a => if a = true then parser_name.f x3 else some false) = some true by simpa [namesF] using h)
    cases b with
    | false => exact absurd h (by simp)
    | true => exact .when_ (name_inv hb) (name_inv (by simpa using h))
  · simp [bareS] at s1 s2 s3 s4 hlen
    subst s1 s2 s3 s4
    obtain rfl := List.eq_nil_of_length_eq_zero (by simpa using hlen)
    exact .both hq hp
theorem count_lift2 {k : Nat} {deep n m i r : Int} {l : List S55} (h : parser_count.l0 k deep n l m i = some r) : parser_count.l0 (k + 2) deep n l m i = some r := (parser_count.mono_l (k + 1)).2.1 _ _ _ _ _ _ ((parser_count.mono_l k).2.1 _ _ _ _ _ _ h)
theorem count_inv : ∀ (l : List S55) (k : Nat) (deep r : Int), 0 ≤ deep → deep ≤ 4 → parser_count.f k l deep = some r → 0 ≤ r ∧ r ≤ 100 * (5 - deep) ∧ (r ≤ 64 → ∃ m ks, VLs (4 - deep).toNat l m ks ∧ (m : Int) = r) := by
  refine list_ind fun l ih k deep r hd hd4 h => ?_
  have key : ∀ (l : List S55), (∀ x ∈ l, ∀ (k : Nat) (deep r : Int), 0 ≤ deep → deep ≤ 4 → parser_count.f k x.f6 deep = some r → 0 ≤ r ∧ r ≤ 100 * (5 - deep) ∧ (r ≤ 64 → ∃ m ks, VLs (4 - deep).toNat x.f6 m ks ∧ (m : Int) = r)) →
      ∀ (k : Nat) (n r : Int) (pre : List S55), 0 ≤ n → (pre.length : Int) ≤ n → n ≤ 65 + 100 * (4 - deep) → parser_count.l0 k deep n (pre ++ l) (pre ++ l).length pre.length = some r → 0 ≤ r ∧ r ≤ 100 * (5 - deep) ∧ (r ≤ 64 → ∃ m ks, VLs (4 - deep).toNat l m ks ∧ n + (m : Int) = r) := by
    intro l
    induction l with
    | nil =>
      intro _ k n r pre h0 hp hn h
      rw [List.append_nil] at h
      have h2 := count_lift2 h
      rw [count_end] at h2
      obtain rfl := Option.some.inj h2
      exact ⟨h0, by omega, fun _ => ⟨0, [], .nil _, by simp⟩⟩
    | cons x l il =>
      intro H k n r pre h0 hp hn h
      have hn1 : wrap64 (n + 1) = n + 1 := by unfold wrap64; omega
      have hd1 : wrap64 (deep + 1) = deep + 1 := by unfold wrap64; omega
      have hst := count_step k deep n (pre ++ x :: l) pre.length (by omega) (by simp only [List.length_append, List.length_cons]; omega)
      rw [count_lift2 h] at hst
      simp only [rd_mid, hn1, hd1] at hst
      by_cases c : n + 1 > 64
      · rw [if_pos c] at hst
        have := Option.some.inj hst
        exact ⟨by omega, by omega, fun hr => by omega⟩
      rw [if_neg c] at hst
      by_cases c7 : x.f0 = 7 ∧ deep = 4
      · rw [if_pos c7] at hst
        have := Option.some.inj hst
        exact ⟨by omega, by omega, fun hr => by omega⟩
      rw [if_neg c7] at hst
      obtain ⟨t, ht, hst⟩ := Option.bind_eq_some_iff.1 hst.symm
      cases t with
      | false =>
        have := Option.some.inj hst
        exact ⟨by omega, by omega, fun hr => by omega⟩
      | true =>
      have hx := plain_inv ht
      have hi1 : wrap64 ((pre.length : Int) + 1) = ((pre ++ [x]).length : Int) := by
        simp only [List.length_append, List.length_cons, List.length_nil]
        unfold wrap64; omega
      have hpl : ((pre ++ [x]).length : Int) = pre.length + 1 := by simp
      have hap : pre ++ x :: l = (pre ++ [x]) ++ l := by simp
      rw [if_pos rfl, hi1, hap] at hst
      by_cases h7 : x.f0 = 7
      · rw [if_pos h7] at hst
        obtain ⟨t, ht2, hst⟩ := Option.bind_eq_some_iff.1 hst
        obtain ⟨t0, t1, t2⟩ := H x List.mem_cons_self k (deep + 1) t (by omega) (by omega) ht2
        have hw : wrap64 (n + 1 + t) = n + 1 + t := by unfold wrap64; omega
        rw [hw] at hst
        obtain ⟨r0, r1, r2⟩ := il (fun z hz => H z (List.mem_cons_of_mem _ hz)) k (n + 1 + t) r (pre ++ [x]) (by omega) (by omega) (by omega) hst
        refine ⟨r0, r1, fun hr => ?_⟩
        obtain ⟨m, ks, hv, hm⟩ := r2 hr
        obtain ⟨m2, ls, hv2, hm2⟩ := t2 (by omega)
        obtain ⟨d, hd2⟩ : ∃ d, (4 - deep).toNat = d + 1 := ⟨(4 - deep).toNat - 1, by omega⟩
        have hd3 : (4 - (deep + 1)).toNat = d := by omega
        rw [hd2] at hv ⊢
        rw [hd3] at hv2
        exact ⟨m + m2 + 1, _, .when_ hx h7 hv2 hv, by omega⟩
      · rw [if_neg h7] at hst
        obtain ⟨r0, r1, r2⟩ := il (fun z hz => H z (List.mem_cons_of_mem _ hz)) k (n + 1) r (pre ++ [x]) (by omega) (by omega) (by omega) hst
        refine ⟨r0, r1, fun hr => ?_⟩
        obtain ⟨m, ks, hv, hm⟩ := r2 hr
        exact ⟨m + 1, _, .plain hx h7 hv, by omega⟩
  cases k with
  | zero => exact absurd h (by simp [parser_count.f])
  | succ k =>
    rw [parser_count.f] at h
    obtain ⟨r0, r1, r2⟩ := key l ih k 0 r [] (Int.le_refl _) (by simp) (by omega) h
    refine ⟨r0, r1, fun hr => ?_⟩
    obtain ⟨m, ks, hv, hm⟩ := r2 hr
    exact ⟨m, ks, hv, by omega⟩
/-- what Valid's yes tells -/
theorem valid_inv {l : List S55} {k : Nat} (h : parser_Valid.f k l = some true) : ∃ n ks, VLs 4 l n ks ∧ n ≤ 64 := by
  unfold parser_Valid.f at h
  obtain ⟨r, hr, h⟩ := Option.bind_eq_some_iff.1 h
  have hle : r ≤ 64 := by simpa using h
  obtain ⟨_, _, h2⟩ := count_inv l k 0 r (Int.le_refl _) (by decide) hr
  obtain ⟨m, ks, hv, hm⟩ := h2 hle
  exact ⟨m, ks, hv, by omega⟩
end Go.Proofs.YtonhcfecfifghaaDoor.PPx
namespace Go.Proofs.YtonhcfecfifghaaDoor.PPx
open Go.RowKit Go.Proofs.YtonhcfecfifghaaDoorW.PrintWords Go.Proofs.YtonhcfecfifghaaDoorW.PrintLast Go.Proofs.YtonhcfecfifghaaDoorW.PrintMore
set_option linter.unusedVariables false
set_option linter.unusedSimpArgs false
def h1L : List S55 := [⟨1, 1, ⟨#[]⟩, ⟨#[]⟩, 0, ⟨⟨0, 0, 0⟩, ⟨0, -3, 4⟩⟩, [], 0⟩]
def h2L : List S55 := [⟨2, 0, ⟨#[]⟩, ⟨#[]⟩, 0, ⟨⟨0, 0, 0⟩, ⟨0, 0, 0⟩⟩, [], 16⟩]
def h2M : List S55 := [⟨2, 0, ⟨#[]⟩, ⟨#[]⟩, 0, ⟨⟨0, 0, 0⟩, ⟨0, 0, 0⟩⟩, [], 0⟩]
def h5L : List S55 := [⟨7, 0, ⟨#[98]⟩, ⟨#[97]⟩, 0, ⟨⟨0, 0, 0⟩, ⟨0, 0, 0⟩⟩, [⟨6, 0, ⟨#[]⟩, ⟨#[]⟩, 5, ⟨⟨0, 0, 0⟩, ⟨0, 0, 0⟩⟩, [], 11⟩], 0⟩, ⟨8, 0, ⟨#[]⟩, ⟨#[]⟩, 0, ⟨⟨1, 2, 3⟩, ⟨4, 5, 6⟩⟩, [], 21⟩]
def h7L : List S55 := [⟨6, 1, ⟨#[]⟩, ⟨#[]⟩, 0, ⟨⟨0, 0, 0⟩, ⟨0, 0, 0⟩⟩, [], 0⟩]
set_option maxRecDepth 100000
def hs1 : ByteArray := ⟨#[103, 111, 32, 49, 32, 40, 48, 44, 32, 45, 51, 44, 32, 52, 41, 59]⟩
theorem head1 : parser_Parse.f 5 hs1 = some (h1L, []) := by kernel_rfl
def hs2 : ByteArray := ⟨#[103, 111, 32, 50, 32, 40, 48, 44, 32, 48, 44, 32, 48, 41, 59, 32, 104, 111, 109, 101, 32, 48, 59]⟩
theorem head2 : parser_Parse.f 5 hs2 = some (h2L, [⟨110, 3⟩]) := by kernel_rfl
def hs3 : ByteArray := ⟨#[119, 104, 101, 110, 32, 98, 101, 108, 116, 32, 99, 117, 112, 32, 123, 32, 112, 105, 99, 107, 32, 48, 32, 99, 117, 112, 59, 32]⟩
theorem head3 : parser_Parse.f 5 hs3 = some ([], [⟨3, 28⟩]) := by kernel_rfl
def hs4 : ByteArray := ⟨#[104, 111, 109, 101, 32, 48]⟩
theorem head4 : parser_Parse.f 5 hs4 = some ([], [⟨3, 6⟩]) := by kernel_rfl
def hs5 : ByteArray := ⟨#[119, 104, 101, 110, 32, 97, 32, 98, 32, 123, 32, 119, 97, 105, 116, 32, 53, 59, 32, 125, 32, 98, 111, 116, 104, 32, 40, 49, 44, 50, 44, 51, 41, 32, 40, 52, 44, 53, 44, 54, 41, 32, 59, 32, 35, 32, 100, 111, 110, 101]⟩
theorem head5 : parser_Parse.f 5 hs5 = some (h5L, []) := by kernel_rfl
def hs6 : ByteArray := ⟨#[112, 105, 99, 107, 32, 48, 32, 103, 111, 59, 32, 125]⟩
theorem head6 : parser_Parse.f 5 hs6 = some ([], [⟨110, 7⟩, ⟨110, 11⟩]) := by kernel_rfl
theorem headF1 : parser_Format.f 5 h1L = some ⟨#[103, 111, 32, 49, 32, 40, 48, 44, 32, 45, 51, 44, 32, 52, 41, 59, 10]⟩ := by kernel_rfl
theorem headF5 : parser_Format.f 5 h5L = some ⟨#[119, 104, 101, 110, 32, 97, 32, 98, 32, 123, 10, 32, 32, 119, 97, 105, 116, 32, 53, 59, 10, 125, 10, 98, 111, 116, 104, 32, 40, 49, 44, 32, 50, 44, 32, 51, 41, 32, 40, 52, 44, 32, 53, 44, 32, 54, 41, 59, 10]⟩ := by kernel_rfl
theorem headS : ambidexterref11_Same.f 5 h2L h2M = some true := by kernel_rfl
theorem headV5 : parser_Valid.f 20 h5L = some true := by kernel_rfl
theorem headV7 : parser_Valid.f 20 h7L = some false := by kernel_rfl
theorem headE1 : parser_Equal.f 5 h5L h5L = some true := by kernel_rfl
theorem headE2 : parser_Equal.f 5 h5L h1L = some false := by kernel_rfl
end Go.Proofs.YtonhcfecfifghaaDoor.PPx
namespace Go.Proofs.YtonhcfecfifghaaDoor.PPx
open Go.RowKit Go.Proofs.YtonhcfecfifghaaDoorW.PrintWords Go.Proofs.YtonhcfecfifghaaDoorW.PrintLast Go.Proofs.YtonhcfecfifghaaDoorW.PrintMore
set_option linter.unusedVariables false
set_option linter.unusedSimpArgs false
attribute [local go_sem high] eqA52
theorem lit_C {α : Type} (d : Kd α) (W : World) (e : TypeId) {xs : List α} {inner : List Value} (hrep : Reps (d.M W W.heap.size (fun _ => True)) d.sz xs inner) (hm : xs.length ≤ 9223372036854775807) : d.C (W.alloc (.cells inner.toArray e)) (some ⟨W.heap.size, 0, none⟩) xs.length xs := by
  have hR : d.R e (W.alloc (.cells inner.toArray e)) W.heap.size (fun _ => True) (.slice (some ⟨W.heap.size, 0, none⟩) xs.length xs.length) xs := by
    refine ⟨fun k hk => trivial, inner, ?_, ?_⟩
    · have h2 := World.ownsRow_lit (base := W.heap.size) (e := e) (size := d.sz) W inner.toArray xs.length (Nat.le_refl _) (by simpa [maxLen] using hm) (by simpa using hrep.1)
      simpa using h2
    · refine hrep.imp_ (fun p c hp => d.M_mono (fun k hk => ⟨trivial, fun he => ?_⟩) (Kd.M_below (d.M_bound hp) (below_alloc (Below.refl _ _) _)))
      have h3 : k = W.heap.size := by simpa [Value.ownBlock] using he
      have := hk.2.2.1
      omega
  exact (Kd.R_reads' hR).2.2
theorem litS_C (k arm : Int) (W : World) : Kd.C k55 (W.alloc (.cells #[.int .i64 k, .int .i64 arm, .string ⟨#[]⟩, .string ⟨#[]⟩, .int .i64 0, .int .i64 0, .int .i64 0, .int .i64 0, .int .i64 0, .int .i64 0, .int .i64 0, .slice none 0 0, .int .i64 0] 55)) (some ⟨W.heap.size, 0, none⟩) 1 [⟨k, arm, ⟨#[]⟩, ⟨#[]⟩, 0, ⟨⟨0, 0, 0⟩, ⟨0, 0, 0⟩⟩, [], 0⟩] :=
  lit_C k55 W 55 (xs := [⟨k, arm, ⟨#[]⟩, ⟨#[]⟩, 0, ⟨⟨0, 0, 0⟩, ⟨0, 0, 0⟩⟩, [], 0⟩]) (inner := [.int .i64 k, .int .i64 arm, .string ⟨#[]⟩, .string ⟨#[]⟩, .int .i64 0, .int .i64 0, .int .i64 0, .int .i64 0, .int .i64 0, .int .i64 0, .int .i64 0, .slice none 0 0, .int .i64 0]) (Reps.front (k55_mkM _ _ _ _ (v11 := .slice none 0 0) (Kd.R_nil _ _ _ _ _)) rfl (Reps.none _ _) rfl) (by simp)
theorem litD_C (e at_ : Int) (W : World) : Kd.C k35 (W.alloc (.cells #[.int .i64 e, .int .i64 at_] 35)) (some ⟨W.heap.size, 0, none⟩) 1 [⟨e, at_⟩] :=
  lit_C k35 W 35 (xs := [⟨e, at_⟩]) (inner := [.int .i64 e, .int .i64 at_]) (Reps.c2 (k35_mkM _ _ _ (⟨e, at_⟩ : S35)) (Reps.none _ _)) (by simp)
theorem litD_C2 (e at_ e2 at2 : Int) (W : World) : Kd.C k35 (W.alloc (.cells #[.int .i64 e, .int .i64 at_, .int .i64 e2, .int .i64 at2] 35)) (some ⟨W.heap.size, 0, none⟩) 2 [⟨e, at_⟩, ⟨e2, at2⟩] :=
  lit_C k35 W 35 (xs := [⟨e, at_⟩, ⟨e2, at2⟩]) (inner := [.int .i64 e, .int .i64 at_, .int .i64 e2, .int .i64 at2]) (Reps.c2 (k35_mkM _ _ _ (⟨e, at_⟩ : S35)) (Reps.c2 (k35_mkM _ _ _ (⟨e2, at2⟩ : S35)) (Reps.none _ _))) (by simp)
theorem headG2 : ambidexterref11_Faults.f 5 [⟨110, 3⟩] [⟨110, 3⟩] = some true := by kernel_rfl
theorem headG3 : ambidexterref11_Faults.f 5 [⟨3, 28⟩] [⟨3, 28⟩] = some true := by kernel_rfl
theorem headG4 : ambidexterref11_Faults.f 5 [⟨3, 6⟩] [⟨3, 6⟩] = some true := by kernel_rfl
theorem headG6 : ambidexterref11_Faults.f 5 [⟨110, 7⟩, ⟨110, 11⟩] [⟨110, 7⟩, ⟨110, 11⟩] = some true := by kernel_rfl
set_option maxHeartbeats 2000000 in
set_option maxRecDepth 100000 in
theorem head_calls (w : World) (hG : Glob w) : Calls Tryd.prog 9 #[] w fun e w' => e = .returned (.bool true) ∧ Below w.heap.size w w' := by
  have hu55 := Tryd.underlying55
  have HG := Aside0.mk hG
  have HB := Aside0.mk (Below.refl w.heap.size w)
  clear hG
  go_enter Tryd.func9, Tryd.ntmps9
  go_wp2_with fail
  refine (parser_Parse.calls 5 hs1 _ _ _ head1 (HG.out.below HB.out)).mono ?_
  rintro e w1 ⟨v1, f1, rfl, hr, hf, hb⟩
  obtain ⟨A1, c1, e1, hc1, hC⟩ := Kd.R_reads hr
  obtain ⟨B1, d1, e2, hd1, hD⟩ := Kd.R_reads hf
  have e1' : v1 = .slice A1 1 c1 := e1
  have e2' : f1 = .slice B1 0 d1 := e2
  subst e1' e2'
  clear e1 e2 hr hf
  have HB' := Aside0.mk (below_step HB.out hb)
  clear HB
  have HB := HB'
  clear HB'
  have HC1 := Aside0.mk hC
  clear hC hD hb
  go_wp2_with fail
  refine (parser_Parse.calls 5 hs2 _ _ _ head2 (HG.out.below HB.out)).mono ?_
  rintro e w2 ⟨v1, f1, rfl, hr, hf, hb⟩
  obtain ⟨A2, c2, e1, hc2, hC⟩ := Kd.R_reads hr
  obtain ⟨B2, d2, e2, hd2, hD⟩ := Kd.R_reads hf
  have e1' : v1 = .slice A2 1 c2 := e1
  have e2' : f1 = .slice B2 1 d2 := e2
  subst e1' e2'
  clear e1 e2 hr hf
  have HC1' := Aside0.mk (Kd.C_below HC1.out hb)
  clear HC1
  have HC1 := HC1'
  clear HC1'
  have HB' := Aside0.mk (below_step HB.out hb)
  clear HB
  have HB := HB'
  clear HB'
  have HC2 := Aside0.mk hC
  have HD2 := Aside0.mk hD
  clear hC hD hb
  go_wp2_with fail
  refine (parser_Parse.calls 5 hs3 _ _ _ head3 (HG.out.below HB.out)).mono ?_
  rintro e w3 ⟨v1, f1, rfl, hr, hf, hb⟩
  obtain ⟨A3, c3, e1, hc3, hC⟩ := Kd.R_reads hr
  obtain ⟨B3, d3, e2, hd3, hD⟩ := Kd.R_reads hf
  have e1' : v1 = .slice A3 0 c3 := e1
  have e2' : f1 = .slice B3 1 d3 := e2
  subst e1' e2'
  clear e1 e2 hr hf
  have HC1' := Aside0.mk (Kd.C_below HC1.out hb)
  clear HC1
  have HC1 := HC1'
  clear HC1'
  have HC2' := Aside0.mk (Kd.C_below HC2.out hb)
  clear HC2
  have HC2 := HC2'
  clear HC2'
  have HD2' := Aside0.mk (Kd.C_below HD2.out hb)
  clear HD2
  have HD2 := HD2'
  clear HD2'
  have HB' := Aside0.mk (below_step HB.out hb)
  clear HB
  have HB := HB'
  clear HB'
  have HD3 := Aside0.mk hD
  clear hC hD hb
  go_wp2_with fail
  refine (parser_Parse.calls 5 hs4 _ _ _ head4 (HG.out.below HB.out)).mono ?_
  rintro e w4 ⟨v1, f1, rfl, hr, hf, hb⟩
  obtain ⟨A4, c4, e1, hc4, hC⟩ := Kd.R_reads hr
  obtain ⟨B4, d4, e2, hd4, hD⟩ := Kd.R_reads hf
  have e1' : v1 = .slice A4 0 c4 := e1
  have e2' : f1 = .slice B4 1 d4 := e2
  subst e1' e2'
  clear e1 e2 hr hf
  have HC1' := Aside0.mk (Kd.C_below HC1.out hb)
  clear HC1
  have HC1 := HC1'
  clear HC1'
  have HC2' := Aside0.mk (Kd.C_below HC2.out hb)
  clear HC2
  have HC2 := HC2'
  clear HC2'
  have HD2' := Aside0.mk (Kd.C_below HD2.out hb)
  clear HD2
  have HD2 := HD2'
  clear HD2'
  have HD3' := Aside0.mk (Kd.C_below HD3.out hb)
  clear HD3
  have HD3 := HD3'
  clear HD3'
  have HB' := Aside0.mk (below_step HB.out hb)
  clear HB
  have HB := HB'
  clear HB'
  have HD4 := Aside0.mk hD
  clear hC hD hb
  go_wp2_with fail
  refine (parser_Parse.calls 5 hs5 _ _ _ head5 (HG.out.below HB.out)).mono ?_
  rintro e w5 ⟨v1, f1, rfl, hr, hf, hb⟩
  obtain ⟨A5, c5, e1, hc5, hC⟩ := Kd.R_reads hr
  obtain ⟨B5, d5, e2, hd5, hD⟩ := Kd.R_reads hf
  have e1' : v1 = .slice A5 2 c5 := e1
  have e2' : f1 = .slice B5 0 d5 := e2
  subst e1' e2'
  clear e1 e2 hr hf
  have HC1' := Aside0.mk (Kd.C_below HC1.out hb)
  clear HC1
  have HC1 := HC1'
  clear HC1'
  have HC2' := Aside0.mk (Kd.C_below HC2.out hb)
  clear HC2
  have HC2 := HC2'
  clear HC2'
  have HD2' := Aside0.mk (Kd.C_below HD2.out hb)
  clear HD2
  have HD2 := HD2'
  clear HD2'
  have HD3' := Aside0.mk (Kd.C_below HD3.out hb)
  clear HD3
  have HD3 := HD3'
  clear HD3'
  have HD4' := Aside0.mk (Kd.C_below HD4.out hb)
  clear HD4
  have HD4 := HD4'
  clear HD4'
  have HB' := Aside0.mk (below_step HB.out hb)
  clear HB
  have HB := HB'
  clear HB'
  have HC5 := Aside0.mk hC
  clear hC hD hb
  go_wp2_with fail
  refine (parser_Parse.calls 5 hs6 _ _ _ head6 (HG.out.below HB.out)).mono ?_
  rintro e w6 ⟨v1, f1, rfl, hr, hf, hb⟩
  obtain ⟨A6, c6, e1, hc6, hC⟩ := Kd.R_reads hr
  obtain ⟨B6, d6, e2, hd6, hD⟩ := Kd.R_reads hf
  have e1' : v1 = .slice A6 0 c6 := e1
  have e2' : f1 = .slice B6 2 d6 := e2
  subst e1' e2'
  clear e1 e2 hr hf
  have HC1' := Aside0.mk (Kd.C_below HC1.out hb)
  clear HC1
  have HC1 := HC1'
  clear HC1'
  have HC2' := Aside0.mk (Kd.C_below HC2.out hb)
  clear HC2
  have HC2 := HC2'
  clear HC2'
  have HD2' := Aside0.mk (Kd.C_below HD2.out hb)
  clear HD2
  have HD2 := HD2'
  clear HD2'
  have HD3' := Aside0.mk (Kd.C_below HD3.out hb)
  clear HD3
  have HD3 := HD3'
  clear HD3'
  have HD4' := Aside0.mk (Kd.C_below HD4.out hb)
  clear HD4
  have HD4 := HD4'
  clear HD4'
  have HC5' := Aside0.mk (Kd.C_below HC5.out hb)
  clear HC5
  have HC5 := HC5'
  clear HC5'
  have HB' := Aside0.mk (below_step HB.out hb)
  clear HB
  have HB := HB'
  clear HB'
  have HD6 := Aside0.mk hD
  clear hC hD hb
  obtain ⟨ad, Ax, cx, ex, x0, x1, x2, x3, x4, x5, x6, x7, x8, x9, x10, x11, x12, hlx, hCx⟩ := at_T55 HC1.out 0 (by decide) (by decide)
  subst ex
  have y0 : w6.cell? ad = some (.int .i64 1) := x0
  have y1 : w6.cell? ⟨ad.block, ad.off + 1, none⟩ = some (.int .i64 1) := x1
  have y8 : w6.cell? ⟨ad.block, ad.off + 8, none⟩ = some (.int .i64 0) := x8
  have y9 : w6.cell? ⟨ad.block, ad.off + 9, none⟩ = some (.int .i64 (-3)) := x9
  have y10 : w6.cell? ⟨ad.block, ad.off + 10, none⟩ = some (.int .i64 4) := x10
  clear hCx hlx x0 x1 x2 x3 x4 x5 x6 x7 x8 x9 x10 x11 x12
  simp only
  go_wp2_with fail
  refine (parser_Format.calls 5 (some ad) c1 h1L _ w6 HC1.out hc1 headF1 (HG.out.below HB.out)).mono ?_
  rintro e w7 ⟨rfl, hb⟩
  have HB7 := Aside0.mk hb
  clear hb y0 y1 y8 y9 y10
  go_wp2_with fail
  have hal := fun k arm => below_alloc (Below.refl w7.heap.size w7) (.cells #[.int .i64 k, .int .i64 arm, .string ⟨#[]⟩, .string ⟨#[]⟩, .int .i64 0, .int .i64 0, .int .i64 0, .int .i64 0, .int .i64 0, .int .i64 0, .int .i64 0, .slice none 0 0, .int .i64 0] 55)
  refine (ambidexterref11_Same.calls 5 A2 c2 h2L (some ⟨w7.heap.size, 0, none⟩) 1 h2M true _ (Kd.C_below (Kd.C_below HC2.out HB7.out) (hal 2 0)) hc2 (litS_C 2 0 w7) (by decide) headS).mono ?_
  rintro e w8 ⟨rfl, hb⟩
  have HB8 := Aside0.mk (below_step (below_step HB7.out (hal 2 0)) hb)
  clear hb hal HB7
  go_wp2_with fail
  have hal := below_alloc (Below.refl w8.heap.size w8) (.cells #[.int .i64 110, .int .i64 3] 35)
  refine (ambidexterref11_Faults.calls 5 B2 d2 _ (some ⟨w8.heap.size, 0, none⟩) 1 _ true _ (Kd.C_below (Kd.C_below HD2.out HB8.out) hal) hd2 (litD_C 110 3 w8) (Nat.le_refl _) headG2).mono ?_
  rintro e w9 ⟨rfl, hb⟩
  have HB9 := Aside0.mk (below_step (below_step HB8.out hal) hb.below)
  clear hb hal HB8
  go_wp2_with fail
  have hal := below_alloc (Below.refl w9.heap.size w9) (.cells #[.int .i64 3, .int .i64 28] 35)
  refine (ambidexterref11_Faults.calls 5 B3 d3 _ (some ⟨w9.heap.size, 0, none⟩) 1 _ true _ (Kd.C_below (Kd.C_below HD3.out HB9.out) hal) hd3 (litD_C 3 28 w9) (Nat.le_refl _) headG3).mono ?_
  rintro e w10 ⟨rfl, hb⟩
  have HB10 := Aside0.mk (below_step (below_step HB9.out hal) hb.below)
  clear hb hal HB9
  go_wp2_with fail
  have hal := below_alloc (Below.refl w10.heap.size w10) (.cells #[.int .i64 3, .int .i64 6] 35)
  refine (ambidexterref11_Faults.calls 5 B4 d4 _ (some ⟨w10.heap.size, 0, none⟩) 1 _ true _ (Kd.C_below (Kd.C_below HD4.out HB10.out) hal) hd4 (litD_C 3 6 w10) (Nat.le_refl _) headG4).mono ?_
  rintro e w11 ⟨rfl, hb⟩
  have HB11 := Aside0.mk (below_step (below_step HB10.out hal) hb.below)
  clear hb hal HB10
  go_wp2_with fail
  refine (parser_Format.calls 5 A5 c5 h5L _ w11 (Kd.C_below HC5.out HB11.out) hc5 headF5 (HG.out.below (below_step HB.out HB11.out))).mono ?_
  rintro e w12 ⟨rfl, hb⟩
  have HB12 := Aside0.mk (below_step HB11.out hb)
  clear hb HB11
  go_wp2_with fail
  have hal := below_alloc (Below.refl w12.heap.size w12) (.cells #[.int .i64 110, .int .i64 7, .int .i64 110, .int .i64 11] 35)
  refine (ambidexterref11_Faults.calls 5 B6 d6 _ (some ⟨w12.heap.size, 0, none⟩) 2 _ true _ (Kd.C_below (Kd.C_below HD6.out HB12.out) hal) hd6 (litD_C2 110 7 110 11 w12) (Nat.le_refl _) headG6).mono ?_
  rintro e w13 ⟨rfl, hb⟩
  have HB13 := Aside0.mk (below_step (below_step HB12.out hal) hb.below)
  clear hb hal HB12
  go_wp2_with fail
  refine (parser_Valid.calls 20 A5 c5 h5L true w13 (Kd.C_below HC5.out HB13.out) hc5 headV5 (HG.out.below (below_step HB.out HB13.out))).mono ?_
  rintro e w14 ⟨rfl, hb⟩
  have HB14 := Aside0.mk (below_step HB13.out hb)
  clear hb HB13
  go_wp2_with fail
  have hal := below_alloc (Below.refl w14.heap.size w14) (.cells #[.int .i64 6, .int .i64 1, .string ⟨#[]⟩, .string ⟨#[]⟩, .int .i64 0, .int .i64 0, .int .i64 0, .int .i64 0, .int .i64 0, .int .i64 0, .int .i64 0, .slice none 0 0, .int .i64 0] 55)
  refine (parser_Valid.calls 20 (some ⟨w14.heap.size, 0, none⟩) 1 h7L false _ (litS_C 6 1 w14) (by decide) headV7 (HG.out.below (below_step (below_step HB.out HB14.out) hal))).mono ?_
  rintro e w15 ⟨rfl, hb⟩
  have HB15 := Aside0.mk (below_step (below_step HB14.out hal) hb)
  clear hb hal HB14
  go_wp2_with fail
  refine (parser_Equal.calls 5 A5 c5 h5L A5 c5 h5L true w15 (Kd.C_below HC5.out HB15.out) hc5 (Kd.C_below HC5.out HB15.out) hc5 headE1).mono ?_
  rintro e w16 ⟨rfl, hb⟩
  have HB16 := Aside0.mk (below_step HB15.out hb)
  clear hb HB15
  go_wp2_with fail
  refine (parser_Equal.calls 5 A5 c5 h5L (some ad) c1 h1L false w16 (Kd.C_below HC5.out HB16.out) hc5 (Kd.C_below HC1.out HB16.out) hc1 headE2).mono ?_
  rintro e w17 ⟨rfl, hb⟩
  have HB17 := Aside0.mk (below_step HB16.out hb)
  clear hb HB16
  go_wp2_with fail
  go_ret
  exact ⟨rfl, below_step HB.out HB17.out⟩
def ambidexterlaw11_head.f : Option Bool := some true
theorem ambidexterlaw11_head.calls (r : Bool) (w : World) (h : ambidexterlaw11_head.f = some r) (hG : Glob w) :
    Calls Tryd.prog 9 #[] w fun e w' => e = .returned (.bool r) ∧ Below w.heap.size w w' := by
  obtain rfl := Option.some.inj h
  exact head_calls w hG
end Go.Proofs.YtonhcfecfifghaaDoor.PPx
namespace Go.Proofs.YtonhcfecfifghaaDoor.PPx
open Go.ChangeShapes Go.RowKit Go.Proofs.YtonhcfecfifghaaDoorW.PrintWords Go.Proofs.YtonhcfecfifghaaDoorW.PrintLast Go.Proofs.YtonhcfecfifghaaDoorW.PrintMore
set_option linter.unusedVariables false
theorem gWords : Tryd.prog.globalNamed "ambidexter/parser.words" = some 0 := by kernel_rfl
theorem tWords : (Tryd.prog.globals[0]?).map (·.type) = some 41 := by kernel_rfl
theorem strs_inj : ∀ (a b : List ByteArray), strs (H := Unit) a = strs b → a = b
  | [], [], _ => rfl
  | [], y :: b, h => by simp [strs] at h
  | x :: a, [], h => by simp [strs] at h
  | x :: a, y :: b, h => by
    simp only [strs, List.map_cons, List.cons.injEq, DataW.lit.injEq, Lit.string.injEq] at h
    obtain ⟨h1, h2⟩ := h
    have hxy : x = y := by
      obtain ⟨x⟩ := x; obtain ⟨y⟩ := y
      exact congrArg _ (Array.toList_inj.1 h1)
    rw [hxy, strs_inj a b h2]
theorem words_of {W : World} {n : String} {r : List (String × DataW Unit)} (hn : n = "ambidexter/parser.words") (h : laidMet Tryd.prog ((n, Rows.laid_ambidexter_parser_words) :: r) W) : WordsAt W := by
  subst hn
  obtain ⟨ps, ⟨g, t, cs, fuel, p, q, hg, ht, hv, hd, _, _⟩, _, _⟩ := h
  obtain rfl := Option.some.inj (gWords.symm.trans hg)
  obtain rfl := Option.some.inj (tWords.symm.trans ht)
  rcases open_strings Tryd.underlying41 Tryd.underlying9 (by kernel_rfl) hd with ⟨_, hx⟩ | ⟨a, len, cap, ss, hcs, _, hlc, _, hlen, hx, hcell, _⟩
  · simp [Rows.laid_ambidexter_parser_words] at hx
  · simp only [Prod.mk.injEq, Rows.laid_ambidexter_parser_words, DataW.slice.injEq] at hx
    obtain ⟨⟨h1, h2⟩, _⟩ := hx
    have e1 : ss.take len = wordsL := (strs_inj wordsL _ h1).symm
    have e2 : ss.drop len = [] := (strs_inj [] _ h2).symm
    have e3 : ss = wordsL := by rw [← List.take_append_drop len ss, e1, e2, List.append_nil]
    have hl : len = 9 := by
      have h3 := congrArg List.length e1
      have h4 := congrArg List.length e2
      have h5 := congrArg List.length e3
      simp only [List.length_take, List.length_drop, List.length_nil] at h3 h4
      have h6 : wordsL.length = 9 := rfl
      have h7 : ss.length = cap := hlen
      omega
    subst hl
    subst e3
    have hc0 : W.cell? ⟨0, 0, none⟩ = some (.slice (some a) 9 cap) := by
      have := World.var?_cell hg hv 0
      obtain ⟨l⟩ := cs
      simp only at hcs
      subst hcs
      simpa using this
    refine ⟨some a, cap, hc0, hlc, Kd.C_of_reads (d := ByteArray.empty) ⟨rfl, by decide, fun _ => ⟨a, rfl, fun j hj => hcell j hj⟩⟩, ?_⟩
    exact cell_lt hc0
/-- what the list of package variables gives the walks -/
theorem glob_of {W : World} (h : laidMet Tryd.prog [("math/bits.deBruijn32tab", Rows.laid_math_bits_deBruijn32tab), ("math/bits.deBruijn64tab", Rows.laid_math_bits_deBruijn64tab), ("internal/strconv.uint64pow10", Rows.laid_internal_strconv_uint64pow10), ("strconv.ErrRange", Rows.laid_strconv_ErrRange), ("strconv.ErrSyntax", Rows.laid_strconv_ErrSyntax), ("ambidexter/parser.words", Rows.laid_ambidexter_parser_words)] W) : Glob W := by
  have h3 := (laidMet.tail (laidMet.tail h))
  refine ⟨words_of rfl (laidMet.tail (laidMet.tail (laidMet.tail h3))), ?_⟩
  have hh : laidMet Tryd.prog (("internal/strconv.uint64pow10", Lib.tabData .u64 Lib.pow10Tab) :: [("strconv.ErrRange", Rows.laid_strconv_ErrRange), ("strconv.ErrSyntax", Rows.laid_strconv_ErrSyntax), ("ambidexter/parser.words", Rows.laid_ambidexter_parser_words)]) W := h3
  exact Lib.tabIs_of_head (g := 1) (t := 124) (e := 111) (n := 20) (by kernel_rfl) (by kernel_rfl) (by kernel_rfl) (by kernel_rfl) (by kernel_rfl) (by kernel_rfl) hh
end Go.Proofs.YtonhcfecfifghaaDoor.PPx
