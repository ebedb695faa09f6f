/- Part A of the proof of ParserConcatenation: the contracts of the functions that the law reaches, and what their plain functions compute. No condition. -/
import Derived.Test.YtonhcfecfifghaaDoorCoreA
import Derived.Test.YtonhcfecfifghaaDoorCoreB
import Derived.Test.YtonhcfecfifghaaDoorCoreC
import Derived.Test.YtonhcfecfifghaaDoorCoreD
import Derived.Test.YtonhcfecfifghaaDoorRows
import Derived.Test.YtonhcfecfifghaaDoorCards
import Derived.Test.YtonhcfecfifghaaDoorTie
import Derived.WalkKit
import Derived.ProofKit
import Derived.OpenShut
import Derived.ShutString
import Derived.ChangeOld
import Derived.Below
import Derived.SizedLaws
import Derived.LaidMore
import Derived.Stop.Joined
import Derived.SevenTiedAt
namespace Go.Proofs.YtonhcfecfifghaaDoor.PPx
open Go.RowKit Go.Proofs.YtonhcfecfifghaaDoorW.PrintWords Go.Proofs.YtonhcfecfifghaaDoorW.PrintLast Go.Proofs.YtonhcfecfifghaaDoorW.PrintMore
set_option linter.unusedVariables false
theorem Parse_C (k : Nat) (s : ByteArray) (r1 : List S55) (r2 : List S35) (w : World) (h : parser_Parse.f k s = some (r1, r2)) (hG : Glob w) :
    Calls Tryd.prog 12 #[.string s] w fun e w' => ∃ A c B d, e = .returned (.tuple #[.slice A r1.length c, .slice B r2.length d]) ∧ r1.length ≤ c ∧ r2.length ≤ d ∧ Kd.C k55 w' A r1.length r1 ∧ Kd.C k35 w' B r2.length r2 ∧ Below w.heap.size w w' := by
  refine (parser_Parse.calls k s r1 r2 w h hG).mono ?_
  rintro e w1 ⟨v1, f1, rfl, hr, hf, hb⟩
  obtain ⟨A1, c1, rfl, hc1, hC⟩ := Kd.R_reads hr
  obtain ⟨B1, d1, rfl, hd1, hD⟩ := Kd.R_reads hf
  exact ⟨A1, c1, B1, d1, rfl, hc1, hd1, hC, hD, hb⟩
/-- the cells of a row's elements, as they are -/
def rawK (n : Nat) : Kd (List Value) where
  sz := n
  E := []
  K := fun _ x cs => cs = x ∧ cs.length = n ∧ ∀ u ∈ cs, u.oneCell' = true
  M := fun _ _ _ x cs => cs = x ∧ cs.length = n ∧ ∀ u ∈ cs, u.oneCell' = true
  K_len := fun h => h.2.1
  K_one := fun h => h.2.2
  K_below := fun _ h => h
  K_of_M := fun h => h
  M_mono := fun _ h => h
  M_bound := fun h => h
  M_move := fun _ h => h
  M_lower := fun _ h => h
theorem raw_of_C {α : Type} {d : Kd α} {W : World} {A : Option Addr} {n : Nat} {l : List α} (h : d.C W A n l) : ∃ xs : List (List Value), (rawK d.sz).C W A n xs ∧ xs.length = l.length ∧ ∀ (j : Nat) x p, xs[j]? = some x → l[j]? = some p → d.K W p x := by
  obtain ⟨h1, h2, h3⟩ := h
  rcases Nat.eq_zero_or_pos n with h0 | h0
  · have hl : l = [] := List.eq_nil_of_length_eq_zero (by omega)
    subst hl
    exact ⟨[], ⟨by simpa using h1, h2, fun h => by omega⟩, rfl, fun j x p hx => by simp at hx⟩
  · obtain ⟨ad, rfl, hc⟩ := h3 h0
    have hx : ∀ j, j < n → ∃ c, c.length = d.sz ∧ (∀ p, l[j]? = some p → d.K W p c) ∧ (∀ u ∈ c, u.oneCell' = true) ∧ ∀ i u, c[i]? = some u → W.cell? (ad.add (j * d.sz + i)) = some u := by
      intro j hj
      obtain ⟨c, c1, c2, c3⟩ := hc j (l[j]'(by omega)) (List.getElem?_eq_getElem (by omega))
      exact ⟨c, c1, fun p hp => by rw [List.getElem?_eq_getElem (by omega)] at hp; obtain rfl := Option.some.inj hp; exact c2, d.K_one c2, c3⟩
    let f : Nat → List Value := fun i => if h : i < n then (hx i h).choose else []
    have hf : ∀ j, j < n → (f j).length = d.sz ∧ (∀ p, l[j]? = some p → d.K W p (f j)) ∧ (∀ u ∈ f j, u.oneCell' = true) ∧ ∀ i u, (f j)[i]? = some u → W.cell? (ad.add (j * d.sz + i)) = some u := by
      intro j hj
      have e : f j = (hx j hj).choose := by simp only [f, dif_pos hj]
      rw [e]
      exact (hx j hj).choose_spec
    have hget : ∀ (j : Nat) x, ((List.range n).map f)[j]? = some x → j < n ∧ x = f j := by
      intro j x hx
      have hj : j < n := by
        have := (List.getElem?_eq_some_iff.1 hx).1
        simpa using this
      rw [List.getElem?_map, List.getElem?_range hj] at hx
      exact ⟨hj, (Option.some.inj hx).symm⟩
    refine ⟨(List.range n).map f, ⟨by simp, h2, fun _ => ⟨ad, rfl, fun j x hx => ?_⟩⟩, by simp [h1], fun j x p hx hp => ?_⟩
    · obtain ⟨hj, rfl⟩ := hget j x hx
      obtain ⟨a, b, c, e⟩ := hf j hj
      exact ⟨f j, a, ⟨rfl, a, c⟩, e⟩
    · obtain ⟨hj, rfl⟩ := hget j x hx
      exact (hf j hj).2.1 p hp
theorem C_of_raw {α : Type} {d : Kd α} {W : World} {A : Option Addr} {n : Nat} {l : List α} {xs : List (List Value)} (h : (rawK d.sz).C W A n xs) (hl : xs.length = l.length) (hK : ∀ (j : Nat) x p, xs[j]? = some x → l[j]? = some p → d.K W p x) : d.C W A n l := by
  obtain ⟨h1, h2, h3⟩ := h
  refine ⟨by omega, h2, fun h0 => ?_⟩
  obtain ⟨ad, rfl, hc⟩ := h3 h0
  refine ⟨ad, rfl, fun j p hp => ?_⟩
  have hj : j < l.length := (List.getElem?_eq_some_iff.1 hp).1
  obtain ⟨x, hx⟩ : ∃ x, xs[j]? = some x := ⟨xs[j]'(by omega), List.getElem?_eq_getElem (by omega)⟩
  obtain ⟨c, c1, ⟨rfl, c2, c3⟩, c4⟩ := hc j x hx
  exact ⟨c, c1, hK j c p hx hp, c4⟩
/-- an empty slice, newly made -/
theorem R_new0 {α : Type} (d : Kd α) (W : World) (e base : Nat) (hb : base ≤ W.heap.size) : d.R e (W.alloc (.cells #[] e)) base (fun _ => True) (.slice (some ⟨W.heap.size, 0, none⟩) 0 0) [] := by
  refine ⟨fun k hk => trivial, [], ?_, ⟨by simp, fun j p hp => by simp at hp⟩⟩
  exact World.ownsRow_lit (base := base) (e := e) (size := d.sz) W #[] 0 hb (by simp [maxLen]) (by simp)
theorem wpList_step_of {P : Program} {ops : Array Oper} {rest : List Oper} {o : Oper} {a : Act} {Q : Exit → Act → World → Prop} {W : World} (h : if Region.wanted o (yielded ops a.tmps) = true then Oper.wp P o a W (wpList P ops Q rest) Q else wpList P ops Q rest (a.put o.dst undef) W) : wpList P ops Q (o :: rest) a W := by
  unfold wpList
  split at h
  · rename_i hw; rw [if_pos hw]; exact .inl h
  · rename_i hw; rw [if_neg hw]; exact h
/-- two rows' raw cells, put together -/
theorem raw_append {α : Type} {d : Kd α} {w0 W : World} {e base : Nat} {v : Value} {xa xb : List (List Value)} {a b : List α} {ok : Nat → Prop} (h : (rawK d.sz).R e W base ok v (([] ++ xa) ++ xb)) (hla : xa.length = a.length) (hlb : xb.length = b.length)
    (ha : ∀ (j : Nat) x p, xa[j]? = some x → a[j]? = some p → d.K w0 p x) (hb : ∀ (j : Nat) x p, xb[j]? = some x → b[j]? = some p → d.K w0 p x) (hw : Below w0.heap.size w0 W) :
    ∃ A c, v = .slice A (a ++ b).length c ∧ (a ++ b).length ≤ c ∧ d.C W A (a ++ b).length (a ++ b) := by
  obtain ⟨A, c, rfl, hc, hC⟩ := Kd.R_reads h
  have hl : (([] ++ xa) ++ xb).length = (a ++ b).length := by simp [hla, hlb]
  refine ⟨A, c, by rw [hl], by rw [← hl]; exact hc, ?_⟩
  rw [hl] at hC
  refine C_of_raw hC hl fun j x p hx hp => ?_
  rw [List.nil_append] at hx
  rcases Nat.lt_or_ge j xa.length with hj | hj
  · rw [List.getElem?_append_left hj] at hx
    rw [List.getElem?_append_left (by omega)] at hp
    exact d.K_below hw (ha j x p hx hp)
  · rw [List.getElem?_append_right hj] at hx
    rw [List.getElem?_append_right (by omega), ← hla] at hp
    exact d.K_below hw (hb _ x p hx hp)
end Go.Proofs.YtonhcfecfifghaaDoor.PPx
namespace Go.Proofs.YtonhcfecfifghaaDoor.PPx
open Go.RowKit Go.Proofs.YtonhcfecfifghaaDoorW.PrintWords Go.Proofs.YtonhcfecfifghaaDoorW.PrintLast Go.Proofs.YtonhcfecfifghaaDoorW.PrintMore
set_option linter.unusedVariables false
def IsDig (l : List UInt8) : Prop := ∀ b ∈ l, 48 ≤ b.toNat ∧ b.toNat ≤ 57
theorem dig_val {b : UInt8} (h : 48 ≤ b.toNat ∧ b.toNat ≤ 57) : Lib.digitVal b = some (b.toNat - 48) := by simp [Lib.digitVal, h]
theorem decFrom_snoc (l : List UInt8) (b : UInt8) (acc : Nat) (hb : 48 ≤ b.toNat ∧ b.toNat ≤ 57) : Lib.decFrom acc (l ++ [b]) = (Lib.decFrom acc l).map fun n => n * 10 + (b.toNat - 48) := by
  rw [decFrom_app]
  cases Lib.decFrom acc l with
  | none => rfl
  | some n => simp [Lib.decFrom, dig_val hb]
theorem dec_canon : ∀ (k : Nat) (l : List UInt8), l.length = k + 1 → IsDig l → (∀ b, l.head? = some b → b.toNat ≠ 48 ∨ l.length = 1) → ∃ n, Lib.decFrom 0 l = some n ∧ Lib.decDigits n = l ∧ ((∀ b, l.head? = some b → b.toNat ≠ 48) → n ≠ 0) := by
  intro k
  induction k with
  | zero =>
    intro l hl hd hh
    match l, hl with
    | [b], _ =>
      have hb := hd b (by simp)
      refine ⟨b.toNat - 48, by simp [Lib.decFrom, dig_val hb], ?_, fun h => ?_⟩
      · rw [Lib.decDigits_one (by omega)]
        congr 1
        apply UInt8.toNat_inj.1
        rw [UInt8.toNat_ofNat']
        omega
      · have := h b rfl
        omega
  | succ k ih =>
    intro l hl hd hh
    have hne : l ≠ [] := fun h => by rw [h] at hl; simp at hl
    obtain ⟨m, b, rfl⟩ : ∃ m b, l = m ++ [b] := ⟨l.dropLast, l.getLast hne, (List.dropLast_concat_getLast hne).symm⟩
    have hb := hd b (by simp)
    have hml : m.length = k + 1 := by simpa using hl
    obtain ⟨c, r, rfl⟩ : ∃ c r, m = c :: r := by
      cases m with
      | nil => simp at hml
      | cons c r => exact ⟨c, r, rfl⟩
    have hc48 : c.toNat ≠ 48 := by
      have := hh c rfl
      simp only [List.length_append, List.length_cons, List.length_nil] at this hml
      omega
    obtain ⟨n, h1, h2, h3⟩ := ih (c :: r) hml (fun x hx => hd x (List.mem_append_left _ hx)) (fun x hx => by
      obtain rfl : c = x := by simpa using hx
      exact .inl hc48)
    have hn0 := h3 (fun x hx => by
      obtain rfl : c = x := by simpa using hx
      exact hc48)
    refine ⟨n * 10 + (b.toNat - 48), by rw [decFrom_snoc _ _ _ hb, h1]; rfl, ?_, fun _ => by omega⟩
    rw [Lib.decDigits, dif_neg (by omega)]
    have e1 : (n * 10 + (b.toNat - 48)) / 10 = n := by omega
    have e2 : (n * 10 + (b.toNat - 48)) % 10 = b.toNat - 48 := by omega
    rw [e1, e2, h2]
    congr 1
    congr 1
    apply UInt8.toNat_inj.1
    rw [UInt8.toNat_ofNat']
    omega
theorem bt_data {s : ByteArray} (h : 0 < s.size) : ∃ b r, s.data.toList = b :: r ∧ (b.toNat : Int) = bt s 0 := by
  obtain ⟨hi, he⟩ := data_ext0 (s := s) (i := 0) (j := s.size) (Int.le_refl _) (by omega) (Int.le_refl _)
  rw [extract_whole] at he
  exact ⟨_, _, he, bt_at s 0 hi⟩
/-- a numeral's text is its value's notation -/
theorem token_canon {s : ByteArray} {i : Int} (h0 : 0 ≤ i) (hk : at_ s i = 7 ∨ at_ s i = 2) (hok : numOK (at_ s i == 7) (s.extract (firstAt (at_ s i == 7) i).toNat (scanTo (digitAt s) s.size (firstAt (at_ s i == 7) i)).toNat) = true) :
    ∃ n, Lib.atoi (s.extract i.toNat (scanTo (digitAt s) s.size (firstAt (at_ s i == 7) i)).toNat).data.toList = some n ∧ Lib.itoa n = (s.extract i.toNat (scanTo (digitAt s) s.size (firstAt (at_ s i == 7) i)).toNat).data.toList := by
  have hlt : i < (s.size : Int) := by rcases hk with h | h <;> exact (at_some (by decide) h).1
  have hsz := numOK_size hok
  rw [numOK_eq] at hok
  simp only [Bool.and_eq_true, decide_eq_true_eq, Bool.or_eq_true, bne_iff_ne, beq_iff_eq, Bool.not_eq_true'] at hok
  obtain ⟨-, -, hlead⟩ := hok
  rcases hk with h | h
  · have hb : (at_ s i == 7) = true := by simp [h]
    rw [hb] at hlead hsz ⊢
    have hf : firstAt true i = i + 1 := rfl
    rw [hf] at hlead hsz ⊢
    have hr := scanTo_range (digitAt s) s.size (i + 1) (by omega)
    have hd := digits_of (s := s) (f := i + 1) (by omega) (by omega)
    have hl0 : bt (s.extract (i + 1).toNat (scanTo (digitAt s) s.size (i + 1)).toNat) 0 ≠ 48 := by
      rcases hlead with h | ⟨_, h⟩
      · exact h
      · exact absurd h (by decide)
    obtain ⟨b, r, hbr, hb0⟩ := bt_data hsz.1
    have hdl := data_size (s.extract (i + 1).toNat (scanTo (digitAt s) s.size (i + 1)).toNat)
    obtain ⟨n, h1, h2, h3⟩ := dec_canon ((s.extract (i + 1).toNat (scanTo (digitAt s) s.size (i + 1)).toNat).data.toList.length - 1) _ (by omega) hd (fun x hx => by
      rw [hbr] at hx
      obtain rfl : b = x := by simpa using hx
      exact .inl (by omega))
    have hn0 := h3 (fun x hx => by
      rw [hbr] at hx
      obtain rfl : b = x := by simpa using hx
      omega)
    rw [ByteArray.size_extract] at hsz
    obtain ⟨hi, he⟩ := data_ext0 (s := s) (j := scanTo (digitAt s) s.size (i + 1)) h0 (by omega) hr.2
    have h7 : s[i.toNat] = 45 := by
      have h5 := (at_some (by decide) h).2
      have h6 := bt_at s i hi
      have h8 : (bt s i).toNat = 45 := by
        revert h5; generalize (bt s i).toNat = c
        intro h5; unfold cls at h5; repeat' split at h5
        all_goals first | omega | contradiction
      apply UInt8.toNat_inj.1
      show _ = 45
      omega
    refine ⟨-(n : Int), ?_, ?_⟩
    · rw [he]
      unfold Lib.atoi
      rw [h7]
      simp only [beq_self_eq_true, if_true]
      unfold Lib.decNat
      rw [if_neg (by rw [hbr]; simp), h1]
      rfl
    · rw [Lib.itoa_neg n (by omega), h2, he, h7]
  · have hb : (at_ s i == 7) = false := by simp [h]
    rw [hb] at hlead hsz ⊢
    have hf : firstAt false i = i := rfl
    rw [hf] at hlead hsz ⊢
    have hr := scanTo_range (digitAt s) s.size i (by omega)
    have hd := digits_of (s := s) (f := i) (by omega) (by omega)
    obtain ⟨b, r, hbr, hb0⟩ := bt_data hsz.1
    have hdl := data_size (s.extract i.toNat (scanTo (digitAt s) s.size i).toNat)
    obtain ⟨n, h1, h2, h3⟩ := dec_canon ((s.extract i.toNat (scanTo (digitAt s) s.size i).toNat).data.toList.length - 1) _ (by omega) hd (fun x hx => by
      rw [hbr] at hx
      obtain rfl : b = x := by simpa using hx
      rcases hlead with h | ⟨h, _⟩
      · exact .inl (by omega)
      · right
        rw [← ByteArray.toList_eq, h]
        rfl)
    have hc : 48 ≤ b.toNat ∧ b.toNat ≤ 57 := hd _ (by rw [hbr]; simp)
    refine ⟨(n : Int), ?_, ?_⟩
    · rw [hbr] at h1 ⊢
      unfold Lib.atoi
      show (if (b == 45) = true then _ else if (b == 43) = true then _ else Option.map (fun (m : Nat) => (m : Int)) (Lib.decNat (b :: r))) = some (n : Int)
      rw [if_neg (by intro hE; rw [beq_iff_eq.1 hE] at hc; exact absurd hc.1 (by decide)), if_neg (by intro hE; rw [beq_iff_eq.1 hE] at hc; exact absurd hc.1 (by decide))]
      unfold Lib.decNat
      rw [if_neg (by simp), h1]
      rfl
    · rw [Lib.itoa_nonneg n, h2]
theorem next_canon {s : ByteArray} {i : Int} (h0 : 0 ≤ i) (hok : (nextAt s i).2.2.2.1 = true) (h2 : (nextAt s i).1 = 2) : ∃ n, Lib.atoi (nextAt s i).2.1.data.toList = some n ∧ Lib.itoa n = (nextAt s i).2.1.data.toList := by
  unfold nextAt at hok h2 ⊢
  by_cases c1 : at_ s i = 1
  · simp only [if_pos c1] at h2; omega
  · simp only [if_neg c1] at hok h2 ⊢
    by_cases c4 : at_ s i = 4
    · simp only [if_pos c4] at h2; omega
    · simp only [if_neg c4] at hok h2 ⊢
      by_cases c7 : at_ s i = 7 ∨ at_ s i = 2
      · simp only [if_pos c7] at hok h2 ⊢
        split at hok
        · rename_i hc
          rw [if_pos hc]
          simp only [Bool.and_eq_true] at hc
          exact token_canon h0 c7 hc.1
        · simp at hok
      · simp only [if_neg c7] at hok
        exact absurd hok (by simp)
/-- the numerals among the tokens are canonical -/
def Canon (ts : List S44) : Prop := ∀ t ∈ ts, t.f0 = 2 → t.f1 = numB (numOf t)
theorem path_canon {s : ByteArray} {j : Int} {ts : List S44} (h : Path s 0 ts j) : Canon ts := by
  intro t ht h2
  obtain ⟨p, h0, h1, h5, h6, hok, rfl⟩ := path_tok h (Int.le_refl _) (by omega) t ht
  obtain ⟨n, hn, hi⟩ := next_canon h0 hok h2
  show (nextAt s p).2.1 = numB ((Lib.atoi (nextAt s p).2.1.data.toList).getD 0)
  rw [hn]
  apply ByteArray.ext
  show _ = (Lib.itoa n).toArray
  rw [hi]
theorem lex_canon (s : ByteArray) : Canon (lexB s).1 := by
  by_cases hs : s.size ≤ 20000
  · obtain ⟨ts, j, hp, h0, h1, hc⟩ := whole s hs
    rcases hc with ⟨hl, hk⟩ | ⟨hl, _, _⟩
    · rw [hl]; exact path_canon hp
    · rw [hl]; exact fun t ht => by cases ht
  · unfold lexB
    rw [if_pos (by omega)]
    exact fun t ht => by cases ht
end Go.Proofs.YtonhcfecfifghaaDoor.PPx
namespace Go.Proofs.YtonhcfecfifghaaDoor.PPx
open Go.RowKit Go.Proofs.YtonhcfecfifghaaDoorW.PrintWords Go.Proofs.YtonhcfecfifghaaDoorW.PrintLast Go.Proofs.YtonhcfecfifghaaDoorW.PrintMore
set_option linter.unusedVariables false
theorem toList_inj' {a b : ByteArray} (h : a.toList = b.toList) : a = b := by
  rw [ByteArray.toList_eq, ByteArray.toList_eq] at h
  apply ByteArray.ext
  exact Array.toList_inj.1 h
theorem index_at (l : List ByteArray) (s : ByteArray) (hl : l.length ≤ 1000) : ∀ (k : Nat) (i r : Int), 0 ≤ i → i ≤ l.length → slices_Index_string_string.l0 k l s l.length i = some r → r ≠ -1 → s = rdOf ByteArray.empty l r := by
  intro k
  induction k with
  | zero => intro i r _ _ h; simp [slices_Index_string_string.l0] at h
  | succ k ih =>
    intro i r h0 h1 h hne
    rw [slices_Index_string_string.l0] at h
    by_cases hlt : i < (l.length : Int)
    · rw [if_pos hlt, if_pos h0, if_pos hlt, wrap_small' (by omega) (by omega)] at h
      split at h
      · rename_i he
        obtain rfl := Option.some.inj h
        exact toList_inj' he
      · exact ih (i + 1) r (by omega) (by omega) h hne
    · rw [if_neg hlt] at h
      have := Option.some.inj h; omega
theorem word_eqW {s : ByteArray} {k : Int} (h : wordIx s = k) (hk : 0 ≤ k) : s = rdOf ByteArray.empty wordsL k := by
  have hf := (wordIx_f s).1
  rw [h] at hf
  exact index_at wordsL s (by decide) _ _ _ (by decide) (by decide) hf (by omega)
end Go.Proofs.YtonhcfecfifghaaDoor.PPx
namespace Go.Proofs.YtonhcfecfifghaaDoor.PPx
open Go.RowKit Go.Proofs.YtonhcfecfifghaaDoorW.PrintWords Go.Proofs.YtonhcfecfifghaaDoorW.PrintLast Go.Proofs.YtonhcfecfifghaaDoorW.PrintMore
set_option linter.unusedVariables false
/-- the tokens that a step takes -/
def Eats {α : Type} (R : α → List (Int × ByteArray) → Prop) (s : Rs) (r : Step α) : Prop := ∀ a, r.1 = .ok a → ∃ ks, R a ks ∧ kt s.toks = ks ++ kt r.2.toks
def OEats {β : Type} (R : β → List (Int × ByteArray) → Prop) (s : Rs) (o : Option (Step β)) : Prop := ∀ y, o = some y → Eats R s y
theorem Eats.bind {α β : Type} {R : α → List (Int × ByteArray) → Prop} {R' : β → List (Int × ByteArray) → Prop} {s : Rs} {r : Step α} {f : α → Rs → Step β} (h : Eats R s r) (g : ∀ a ks, R a ks → Eats (fun b ls => R' b (ks ++ ls)) r.2 (f a r.2)) : Eats R' s (r.bind f) := by
  rcases bind_inv (r := r) (f := f) with ⟨a, ha, e⟩ | ⟨e', he, e⟩
  · rw [e]
    intro b hb
    obtain ⟨ks, h1, h2⟩ := h a ha
    obtain ⟨ls, g1, g2⟩ := g a ks h1 b hb
    exact ⟨ks ++ ls, g1, by rw [h2, g2, List.append_assoc]⟩
  · rw [e]
    intro b hb
    simp at hb
theorem OEats.obind {α β : Type} {R : α → List (Int × ByteArray) → Prop} {R' : β → List (Int × ByteArray) → Prop} {s : Rs} {r : Step α} {f : α → Rs → Option (Step β)} (h : Eats R s r) (g : ∀ a ks, R a ks → OEats (fun b ls => R' b (ks ++ ls)) r.2 (f a r.2)) : OEats R' s (PPx.obind r f) := by
  intro y hy b hb
  rcases obind_inv hy with ⟨a, ha, e⟩ | ⟨e', he, e⟩
  · obtain ⟨ks, h1, h2⟩ := h a ha
    obtain ⟨ls, g1, g2⟩ := g a ks h1 y e b hb
    exact ⟨ks ++ ls, g1, by rw [h2, g2, List.append_assoc]⟩
  · rw [e] at hb
    simp at hb
theorem take_eats (p : S44 → Bool) (fin : Int) (s : Rs) : Eats (fun t ks => ks = [(t.f0, t.f1)]) s (takeS p fin s) := by
  obtain ⟨ts, n, fl, o⟩ := s
  intro t h
  cases ts with
  | nil => simp [takeS] at h
  | cons x ts =>
    by_cases c : (x.f0 == 0 || !p x) = true
    · have e : takeS p fin ⟨x :: ts, n, fl, o⟩ = (.error (110, x.f2), ⟨x :: ts, n, fl, o⟩) := by simp only [takeS, if_pos c]
      rw [e] at h
      simp at h
    · have e : takeS p fin ⟨x :: ts, n, fl, o⟩ = (.ok x, ⟨ts, n, fl, o⟩) := by simp only [takeS, if_neg c]
      rw [e] at h ⊢
      obtain rfl : x = t := by simpa using h
      exact ⟨_, rfl, rfl⟩
theorem sign_eats (c : ByteArray) (fin : Int) (s : Rs) : Eats (fun _ ks => ks = [(3, c)]) s (signS c fin s) := by
  intro t h
  obtain ⟨ks, rfl, h2⟩ := take_eats (isSign c) fin s t h
  obtain ⟨-, hp, -⟩ := (take_sub (isSign c) fin s).2 t h
  simp only [isSign, Bool.and_eq_true, beq_iff_eq] at hp
  obtain rfl : t.f1 = c := toList_inj' hp.2
  refine ⟨_, rfl, ?_⟩
  rw [← hp.1]
  exact h2
theorem number_eats (fin : Int) (s : Rs) (hc : Canon s.toks) : Eats (fun n ks => ks = [(2, numB n)]) s (numberS fin s) := by
  intro n hn
  obtain ⟨t, ht, rfl⟩ := map_sub hn
  obtain ⟨ks, rfl, h2⟩ := take_eats isNumber fin s t ht
  obtain ⟨hm, hp, -⟩ := (take_sub isNumber fin s).2 t ht
  have h0 : t.f0 = 2 := by simpa [isNumber] using hp
  refine ⟨_, rfl, ?_⟩
  rw [← hc t hm h0, ← h0]
  exact h2
theorem arm_eats (fin : Int) (s : Rs) : Eats (fun n ks => ks = [(2, numB n)] ∧ (n = 0 ∨ n = 1)) s (armS fin s) := by
  intro n hn
  obtain ⟨t, ht, rfl⟩ := map_sub hn
  obtain ⟨ks, rfl, h2⟩ := take_eats isArm fin s t ht
  obtain ⟨hm, hp, -⟩ := (take_sub isArm fin s).2 t ht
  simp only [isArm, Bool.and_eq_true, Bool.or_eq_true, beq_iff_eq] at hp
  obtain ⟨h0, h1⟩ := hp
  have e0 : (⟨#[48]⟩ : ByteArray).toList = [48] := by decide +kernel
  have e1 : (⟨#[49]⟩ : ByteArray).toList = [49] := by decide +kernel
  refine ⟨[(2, numB (armOf t))], ⟨rfl, ?_⟩, ?_⟩
  · unfold armOf; split
    · exact .inr rfl
    · exact .inl rfl
  have h2 : kt s.toks = [(t.f0, t.f1)] ++ kt (armS fin s).2.toks := h2
  rw [h2, h0]
  rcases h1 with h1 | h1
  · have : t.f1 = ⟨#[48]⟩ := toList_inj' (by rw [h1, e0])
    have ha : armOf t = 0 := by unfold armOf; rw [h1]; rfl
    rw [ha, numB0, this]
  · have : t.f1 = ⟨#[49]⟩ := toList_inj' (by rw [h1, e1])
    have ha : armOf t = 1 := by unfold armOf; rw [h1]; rfl
    rw [ha, numB1, this]
theorem name_eats (fin : Int) (s : Rs) : Eats (fun w ks => ks = [(1, w)]) s (nameS fin s) := by
  intro n hn
  obtain ⟨t, ht, rfl⟩ := map_sub hn
  obtain ⟨ks, rfl, h2⟩ := take_eats isNamed fin s t ht
  obtain ⟨hm, hp, -⟩ := (take_sub isNamed fin s).2 t ht
  simp only [isNamed, Bool.and_eq_true, beq_iff_eq] at hp
  refine ⟨_, rfl, ?_⟩
  rw [← hp.1]
  exact h2
theorem Canon.sub {s s' : Rs} (h : Canon s.toks) (g : Sub s s') : Canon s'.toks := fun t ht => h t (g.1.subset ht)
theorem triple_eats (fin : Int) (s : Rs) (hs : TokOK s.toks) (hc : Canon s.toks) : Eats (fun q ks => ks = triK q) s (tripleS fin s) := by
  unfold tripleS
  refine Eats.bind (sign_eats _ fin s) fun _ ks hk => ?_
  subst hk
  have h1 := hs.sub (sign_ok' ⟨#[40]⟩ fin s).1
  have c1 := hc.sub (sign_ok' ⟨#[40]⟩ fin s).1
  refine Eats.bind (number_eats fin _ c1) fun a ks hk => ?_
  subst hk
  have h2 := h1.sub (number_sub fin _ h1).1
  have c2 := c1.sub (number_sub fin _ h1).1
  unfold tri1
  refine Eats.bind (sign_eats _ fin _) fun _ ks hk => ?_
  subst hk
  have h3 := h2.sub (sign_ok' ⟨#[44]⟩ fin _).1
  have c3 := c2.sub (sign_ok' ⟨#[44]⟩ fin _).1
  refine Eats.bind (number_eats fin _ c3) fun b ks hk => ?_
  subst hk
  have h4 := h3.sub (number_sub fin _ h3).1
  have c4 := c3.sub (number_sub fin _ h3).1
  unfold tri2
  refine Eats.bind (sign_eats _ fin _) fun _ ks hk => ?_
  subst hk
  have h5 := h4.sub (sign_ok' ⟨#[44]⟩ fin _).1
  have c5 := c4.sub (sign_ok' ⟨#[44]⟩ fin _).1
  refine Eats.bind (number_eats fin _ c5) fun c ks hk => ?_
  subst hk
  unfold tri3
  refine Eats.bind (sign_eats _ fin _) fun _ ks hk => ?_
  subst hk
  intro q hq
  obtain rfl := Except.ok.inj hq
  exact ⟨[], rfl, rfl⟩
theorem semi_eats (fin : Int) (x : S55) (s : Rs) : OEats (fun b ks => b = x ∧ ks = [(3, semi)]) s (semiS fin x s) := by
  intro y hy
  obtain rfl := Option.some.inj hy
  refine Eats.bind (sign_eats _ fin s) fun _ ks hk => ?_
  subst hk
  intro q hq
  obtain rfl := Except.ok.inj hq
  exact ⟨[], ⟨rfl, rfl⟩, rfl⟩
theorem OEats.imp {β : Type} {R R' : β → List (Int × ByteArray) → Prop} {s : Rs} {o : Option (Step β)} (h : OEats R s o) (g : ∀ b ks, R b ks → R' b ks) : OEats R' s o := fun y hy b hb => by
  obtain ⟨ks, h1, h2⟩ := h y hy b hb
  exact ⟨ks, g b ks h1, h2⟩
/-- what follows a keyword other than when -/
theorem rest_eats (rec : Int → Rs → Option (List S55 × Rs)) (fin deep k c : Int) (s : Rs) (hs : TokOK s.toks) (hc : Canon s.toks) (h7 : k ≠ 7) (hk : 1 ≤ k ∧ k ≤ 8) : OEats (fun x ks => lineK x = (1, rdOf ByteArray.empty wordsL k) :: ks) s (restS rec fin deep k c s) := by
  unfold restS
  by_cases k1 : k = 1
  · rw [if_pos k1]
    subst k1
    refine OEats.obind (arm_eats fin s) fun a ks ha => ?_
    obtain ⟨rfl, ha⟩ := ha
    refine OEats.obind (triple_eats fin _ (hs.sub (arm_sub fin s).1) (hc.sub (arm_sub fin s).1)) fun q ks hq => ?_
    subst hq
    refine (semi_eats fin _ _).imp fun b ks hb => ?_
    obtain ⟨rfl, rfl⟩ := hb
    rcases ha with rfl | rfl <;> rfl
  rw [if_neg k1]
  by_cases k2 : k = 2
  · rw [if_pos k2]
    subst k2
    refine OEats.obind (arm_eats fin s) fun a ks ha => ?_
    obtain ⟨rfl, ha⟩ := ha
    refine (semi_eats fin _ _).imp fun b ks hb => ?_
    obtain ⟨rfl, rfl⟩ := hb
    rfl
  rw [if_neg k2]
  by_cases k3 : k = 3
  · rw [if_pos k3]
    subst k3
    refine OEats.obind (arm_eats fin s) fun a ks ha => ?_
    obtain ⟨rfl, ha⟩ := ha
    refine OEats.obind (name_eats fin _) fun q ks hq => ?_
    subst hq
    refine (semi_eats fin _ _).imp fun b ks hb => ?_
    obtain ⟨rfl, rfl⟩ := hb
    rfl
  rw [if_neg k3]
  by_cases k4 : k = 4
  · rw [if_pos k4]
    subst k4
    refine OEats.obind (arm_eats fin s) fun a ks ha => ?_
    obtain ⟨rfl, ha⟩ := ha
    refine OEats.obind (name_eats fin _) fun q ks hq => ?_
    subst hq
    refine (semi_eats fin _ _).imp fun b ks hb => ?_
    obtain ⟨rfl, rfl⟩ := hb
    rfl
  rw [if_neg k4]
  by_cases k5 : k = 5
  · rw [if_pos k5]
    subst k5
    refine OEats.obind (arm_eats fin s) fun a ks ha => ?_
    obtain ⟨rfl, ha⟩ := ha
    refine OEats.obind (name_eats fin _) fun q ks hq => ?_
    subst hq
    refine (semi_eats fin _ _).imp fun b ks hb => ?_
    obtain ⟨rfl, rfl⟩ := hb
    rfl
  rw [if_neg k5]
  by_cases k6 : k = 6
  · rw [if_pos k6]
    subst k6
    refine OEats.obind (number_eats fin s hc) fun a ks ha => ?_
    subst ha
    refine (semi_eats fin _ _).imp fun b ks hb => ?_
    obtain ⟨rfl, rfl⟩ := hb
    rfl
  rw [if_neg k6]
  have k8 : k = 8 := by omega
  rw [if_pos k8]
  subst k8
  refine OEats.obind (triple_eats fin s hs hc) fun q ks hq => ?_
  subst hq
  refine OEats.obind (triple_eats fin _ (hs.sub (triple_sub fin s hs).1) (hc.sub (triple_sub fin s hs).1)) fun p ks hp => ?_
  subst hp
  refine (semi_eats fin _ _).imp fun b ks hb => ?_
  obtain ⟨rfl, rfl⟩ := hb
  show [(1, wBoth)] ++ triK q ++ triK p ++ [(3, semi)] = _
  simp only [List.append_assoc]
  rfl
def RecE (deep : Int) (rec : Int → Rs → Option (List S55 × Rs)) : Prop := ∀ s r, rec (deep + 1) s = some r → TokOK s.toks → Canon s.toks → Inv s → deep ≠ 4 →
  (∃ ext, r.2.fl = s.fl ++ ext) ∧ (r.2.fl = s.fl → s.over = false → r.2.over = false ∧ ∃ n ks, VLs (4 - (deep + 1)).toNat r.1 n ks ∧ kt s.toks = ks ++ kt r.2.toks ∧ r.2.n = s.n + n)
/-- what a statement's step takes, if it tells no fault -/
def StmE (deep : Int) (s : Rs) (y : Step S55) : Prop := (∃ ext, y.2.fl = s.fl ++ ext) ∧ (y.2.fl = s.fl → s.over = false → y.2.over = false ∧ ∀ x, y.1 = .ok x → PlainOK x ∧
  ((x.f0 ≠ 7 ∧ kt s.toks = lineK x ++ kt y.2.toks ∧ y.2.n = s.n) ∨ (x.f0 = 7 ∧ deep ≠ 4 ∧ ∃ (m : Nat) (ls : List (Int × ByteArray)), VLs (4 - (deep + 1)).toNat x.f6 m ls ∧ kt s.toks = lineK x ++ (ls ++ (3, cbr) :: kt y.2.toks) ∧ y.2.n = s.n + m)))
theorem err_e {deep : Int} {s s1 : Rs} {e : Int × Int} (h1 : Sub s s1) : StmE deep s (.error e, s1) := ⟨⟨[], by rw [h1.2.2.1]; simp⟩, fun _ ho => ⟨by rw [h1.2.2.2]; exact ho, fun x hx => by simp at hx⟩⟩
theorem stmt_eat {rec : Int → Rs → Option (List S55 × Rs)} {fin deep : Int} (hr : RecE deep rec) (hd : 0 ≤ deep) (hd4 : deep ≤ 4) {s : Rs} (hs : TokOK s.toks) (hc : Canon s.toks) (hI : Inv s) {y : Step S55} (h : stmtS rec fin deep s = some y) : StmE deep s y := by
  unfold stmtS at h
  rcases obind_inv h with ⟨t, ht, h⟩ | ⟨e, he, rfl⟩
  case inr => exact err_e (take_sub isKey fin s).1
  have htk := take_sub isKey fin s
  obtain ⟨hm, hp, hn0⟩ := htk.2 t ht
  obtain ⟨-, rfl, heat⟩ := take_eats isKey fin s t ht
  have hk : t.f0 = 1 ∧ isWord t.f1 = true := by simpa [isKey] using hp
  have hix := isWord_ix hk.2
  have hwd := word_eqW (s := t.f1) rfl hix.1
  have hs1 := hs.sub htk.1
  have hc1 := hc.sub htk.1
  have hI1 := hI.sub htk.1
  have h0 : wordIx t.f1 ≠ 0 := by
    intro h0
    have hz := ((hs t hm).1 hk.1).1
    rw [word0 h0] at hz
    exact absurd hz (by decide)
  rw [hk.1] at heat
  by_cases h7 : wordIx t.f1 = 7
  · rw [h7] at h hwd
    have hwd : t.f1 = wWhen := hwd
    unfold restS at h
    rw [if_neg (by decide), if_neg (by decide), if_neg (by decide), if_neg (by decide), if_neg (by decide), if_neg (by decide), if_neg (by decide), if_pos rfl] at h
    by_cases h4 : deep = 4
    · rw [if_pos h4] at h
      obtain rfl := Option.some.inj h
      exact err_e htk.1
    rw [if_neg h4] at h
    have hw : wrap64 (deep + 1) = deep + 1 := by unfold wrap64; omega
    have n1 := name_sub fin (takeS isKey fin s).2 hs1
    rcases obind_inv h with ⟨p, hp1, h⟩ | ⟨e, he, rfl⟩
    case inr => exact err_e (htk.1.trans n1.1)
    obtain ⟨-, rfl, e1⟩ := name_eats fin _ p hp1
    have hs2 := hs1.sub n1.1
    have hc2 := hc1.sub n1.1
    have n2 := name_sub fin _ hs2
    rcases obind_inv h with ⟨q, hq1, h⟩ | ⟨e, he, rfl⟩
    case inr => exact err_e (htk.1.trans (n1.1.trans n2.1))
    obtain ⟨-, rfl, e2⟩ := name_eats fin _ q hq1
    have hs3 := hs2.sub n2.1
    have hc3 := hc2.sub n2.1
    have n3 := sign_ok' ⟨#[123]⟩ fin (nameS fin (nameS fin (takeS isKey fin s).2).2).2
    rcases obind_inv h with ⟨u, hu1, h⟩ | ⟨e, he, rfl⟩
    case inr => exact err_e (htk.1.trans (n1.1.trans (n2.1.trans n3.1)))
    obtain ⟨-, rfl, e3⟩ := sign_eats _ fin _ u hu1
    have hs4 := hs3.sub n3.1
    have hc4 := hc3.sub n3.1
    have hsub := htk.1.trans (n1.1.trans (n2.1.trans n3.1))
    obtain ⟨r, hr1, h⟩ := Option.bind_eq_some_iff.1 h
    rw [hw] at hr1
    obtain ⟨⟨ext, hext⟩, hclean⟩ := hr _ _ hr1 hs4 hc4 (hI.sub hsub) h4
    obtain rfl := Option.some.inj h
    have n5 := sign_ok' ⟨#[125]⟩ fin r.2
    rcases bind_inv (r := signS ⟨#[125]⟩ fin r.2) (f := fun _ s => (.ok (⟨7, 0, q, p, 0, ⟨⟨0, 0, 0⟩, ⟨0, 0, 0⟩⟩, r.1, t.f2⟩ : S55), s)) with ⟨a, ha', e⟩ | ⟨e', he, e⟩
    · rw [e]
      obtain ⟨-, rfl, e5⟩ := sign_eats _ fin _ a ha'
      refine ⟨⟨ext, by rw [n5.1.2.2.1, hext, hsub.2.2.1]⟩, fun hfl ho => ?_⟩
      have hfl2 : r.2.fl = s.fl := by rw [← n5.1.2.2.1]; exact hfl
      obtain ⟨hov, n, ls, hv, hkt, hn⟩ := hclean (by rw [hfl2, hsub.2.2.1]) (by rw [hsub.2.2.2]; exact ho)
      refine ⟨by rw [n5.1.2.2.2]; exact hov, fun x hx => ?_⟩
      obtain rfl := Except.ok.inj hx
      refine ⟨.when_ (n2.2 q hq1) (n1.2 p hp1), .inr ⟨rfl, h4, n, ls, hv, ?_, ?_⟩⟩
      · rw [heat, e1, e2, e3, hkt, e5, hwd]
        rfl
      · rw [n5.1.2.1, hn, hsub.2.1]
    · rw [e]
      refine ⟨⟨ext, by rw [n5.1.2.2.1, hext, hsub.2.2.1]⟩, fun hfl ho => ?_⟩
      have hfl2 : r.2.fl = s.fl := by rw [← n5.1.2.2.1]; exact hfl
      obtain ⟨hov, _⟩ := hclean (by rw [hfl2, hsub.2.2.1]) (by rw [hsub.2.2.2]; exact ho)
      exact ⟨by rw [n5.1.2.2.2]; exact hov, fun x hx => by simp at hx⟩
  · have hrs := rest_sub rec fin deep _ _ _ hs1 h7 (by omega) y h
    have hre := rest_eats rec fin deep _ _ _ hs1 hc1 h7 (by omega) y h
    have hsub := htk.1.trans hrs.1
    refine ⟨⟨[], by rw [hsub.2.2.1]; simp⟩, fun _ ho => ⟨by rw [hsub.2.2.2]; exact ho, fun x hx => ?_⟩⟩
    obtain ⟨ks, hks, hkt⟩ := hre x hx
    refine ⟨(hrs.2 x hx).1, .inl ⟨(hrs.2 x hx).2, ?_, hsub.2.1⟩⟩
    rw [heat, hkt, hks, ← hwd]
    rfl
/-- what stmts takes, if it tells no fault -/
theorem stmts_eat (fin : Int) : ∀ (k : Nat) (deep : Int) (s : Rs) (out : List S55) (r : List S55 × Rs), stmtsS fin k deep s out = some r → TokOK s.toks → Canon s.toks → 0 ≤ deep → deep ≤ 4 → Inv s →
    (∃ ext, r.2.fl = s.fl ++ ext) ∧ (r.2.fl = s.fl → s.over = false → r.2.over = false ∧ ∃ l n ks, r.1 = out ++ l ∧ VLs (4 - deep).toNat l n ks ∧ kt s.toks = ks ++ kt r.2.toks ∧ r.2.n = s.n + n ∧ (deep = 0 → r.2.toks = []))
  | 0, deep, s, out, r => fun h => by simp [stmtsS] at h
  | k + 1, deep, s, out, r => fun h hs hc hd hd4 hI => by
    have ih := stmts_eat fin k
    rw [stmtsS] at h
    have grown : ∀ {a b : List S35} {d : S35}, (∃ ext, b = (a ++ [d]) ++ ext) → (∃ ext, b = a ++ ext) ∧ b ≠ a := by
      intro a b d he
      obtain ⟨ext, rfl⟩ := he
      refine ⟨⟨d :: ext, by simp⟩, fun h => ?_⟩
      have := congrArg List.length h
      simp only [List.length_append, List.length_cons] at this
      omega
    by_cases c1 : s.over = true ∨ s.toks = []
    · rw [if_pos c1] at h
      obtain rfl := Option.some.inj h
      refine ⟨⟨[], by simp⟩, fun _ ho => ⟨ho, [], 0, [], by simp, .nil _, rfl, by simp, fun _ => ?_⟩⟩
      rcases c1 with c1 | c1
      · rw [ho] at c1; cases c1
      · exact c1
    rw [if_neg c1] at h
    have hov : s.over = false := by simpa using fun h' => c1 (.inl h')
    have h64 := hI.2.2 hov
    have hn0 := hI.1
    by_cases c2 : isSign ⟨#[125]⟩ (lookS fin s.toks) = true
    · rw [if_pos c2] at h
      by_cases c3 : deep > 0
      · rw [if_pos c3] at h
        obtain rfl := Option.some.inj h
        exact ⟨⟨[], by simp⟩, fun _ ho => ⟨ho, [], 0, [], by simp, .nil _, rfl, by simp, fun h => by omega⟩⟩
      rw [if_neg c3] at h
      split at h
      · cases h
      · obtain ⟨he, _⟩ := ih _ _ _ _ h (fun t ht => hs t (List.mem_of_mem_tail ht)) (fun t ht => hc t (List.mem_of_mem_tail ht)) hd hd4 ⟨hI.1, hI.2.1, fun _ => h64⟩
        obtain ⟨a, b⟩ := grown he
        exact ⟨a, fun hfl => absurd hfl b⟩
    rw [if_neg c2] at h
    have hw : wrap64 (s.n + 1) = s.n + 1 := by unfold wrap64; omega
    rw [hw] at h
    by_cases c4 : s.n + 1 > 64
    · rw [if_pos c4] at h
      split at h
      · cases h
      · obtain rfl := Option.some.inj h
        obtain ⟨a, b⟩ := grown (a := s.fl) (b := s.fl ++ [⟨2, (lookS fin s.toks).f2⟩]) (d := ⟨2, (lookS fin s.toks).f2⟩) ⟨[], by simp⟩
        exact ⟨a, fun hfl => absurd hfl b⟩
    rw [if_neg c4] at h
    split at h
    · cases h
    obtain ⟨⟨x, s1⟩, hx, h⟩ := Option.bind_eq_some_iff.1 h
    have hI' : Inv { s with n := s.n + 1 } := ⟨by simp only; omega, by simp only; omega, fun _ => by simp only; omega⟩
    have hrec : RecOK deep (fun d s => stmtsS fin k d s []) := fun s' r' h' ht hi hd' => stmts_sound fin k _ _ _ _ h' ht (by omega) (by omega) hi
    have hrecE : RecE deep (fun d s => stmtsS fin k d s []) := by
      intro s' r' h' ht hcc hi hd'
      obtain ⟨a, b⟩ := ih _ _ _ _ h' ht hcc (by omega) (by omega) hi
      refine ⟨a, fun hfl ho => ?_⟩
      obtain ⟨b0, l, n, ks, b1, b2, b3, b4, _⟩ := b hfl ho
      rw [List.nil_append] at b1
      rw [← b1] at b2
      exact ⟨b0, n, ks, b2, b3, b4⟩
    obtain ⟨h1, h2, h3, h4⟩ := one_sound hrec hd hd4 (s := { s with n := s.n + 1 }) hs hI' hov hx
    simp only at h1 h2 h3 h4 h
    obtain ⟨⟨y, s2⟩, hy, hone⟩ := Option.bind_eq_some_iff.1 hx
    obtain ⟨⟨ext, hext⟩, hE⟩ := stmt_eat hrecE hd hd4 (s := { s with n := s.n + 1 }) hs hc hI' hy
    simp only at hext hE
    cases y with
    | error f =>
      simp only at hone
      by_cases ho2 : s2.over = true
      · rw [if_pos ho2] at hone
        simp only [Option.some.injEq, Prod.mk.injEq] at hone
        obtain ⟨rfl, rfl⟩ := hone
        simp only at h
        have ih2 := ih _ _ _ _ h (fun t ht => hs t (h1.subset ht)) (fun t ht => hc t (h1.subset ht)) hd hd4 h2
        obtain ⟨⟨ext2, he2⟩, _⟩ := ih2
        refine ⟨⟨ext ++ ext2, by rw [he2, hext, List.append_assoc]⟩, fun hfl => ?_⟩
        exfalso
        have hlen := congrArg List.length hfl
        rw [he2, hext] at hlen
        simp only [List.length_append] at hlen
        have : ext = [] := List.eq_nil_of_length_eq_zero (by omega)
        have := (hE (by rw [hext, this]; simp) hov).1
        rw [ho2] at this
        cases this
      · rw [if_neg ho2] at hone
        split at hone
        · cases hone
        · simp only [Option.some.injEq, Prod.mk.injEq] at hone
          obtain ⟨rfl, rfl⟩ := hone
          simp only at h
          have ih2 := ih _ _ _ _ h (fun t ht => hs t (h1.subset ht)) (fun t ht => hc t (h1.subset ht)) hd hd4 h2
          obtain ⟨⟨ext2, he2⟩, _⟩ := ih2
          have he3 : r.2.fl = ((s.fl ++ ext) ++ [⟨f.1, f.2⟩]) ++ ext2 := by rw [he2, ← hext]; rfl
          refine ⟨⟨ext ++ [⟨f.1, f.2⟩] ++ ext2, by rw [he3]; simp⟩, fun hfl => ?_⟩
          exfalso
          have hlen := congrArg List.length hfl
          rw [he3] at hlen
          simp only [List.length_append, List.length_cons] at hlen
          omega
    | ok z =>
      simp only [Option.some.injEq, Prod.mk.injEq] at hone
      obtain ⟨hxz, rfl⟩ := hone
      have ih2 := ih _ _ _ _ h (fun t ht => hs t (h1.subset ht)) (fun t ht => hc t (h1.subset ht)) hd hd4 h2
      obtain ⟨⟨ext2, he2⟩, hcl⟩ := ih2
      refine ⟨⟨ext ++ ext2, by rw [he2, hext, List.append_assoc]⟩, fun hfl ho => ?_⟩
      have hlen := congrArg List.length hfl
      rw [he2, hext] at hlen
      simp only [List.length_append] at hlen
      have e1 : ext = [] := List.eq_nil_of_length_eq_zero (by omega)
      have e2 : ext2 = [] := List.eq_nil_of_length_eq_zero (by omega)
      subst e1 e2
      obtain ⟨hov2, hz⟩ := hE (by rw [hext]; simp) hov
      obtain ⟨hpl, hz⟩ := hz z rfl
      rw [if_neg (by rw [hov2]; decide)] at hxz
      subst hxz
      simp only at hcl
      obtain ⟨g0, l, n, ks, g1, g2, g3, g4, g5⟩ := hcl (by rw [he2]; simp) hov2
      refine ⟨g0, z :: l, ?_⟩
      rcases hz with ⟨z7, zk, zn⟩ | ⟨z7, zd, m, ls, zv, zk, zn⟩
      · refine ⟨n + 1, lineK z ++ ks, by rw [g1]; simp, .plain hpl z7 g2, by rw [zk, g3, List.append_assoc], by omega, g5⟩
      · obtain ⟨d, hd2⟩ : ∃ d, (4 - deep).toNat = d + 1 := ⟨(4 - deep).toNat - 1, by omega⟩
        have hd3 : (4 - (deep + 1)).toNat = d := by omega
        rw [hd2] at g2 ⊢
        rw [hd3] at zv
        refine ⟨n + m + 1, lineK z ++ (ls ++ ((3, cbr) :: ks)), by rw [g1]; simp, .when_ hpl z7 zv g2, by rw [zk, g3]; simp, by omega, g5⟩
/-- a text that parses without a fault: its tokens are those of the statements -/
theorem parse_clean {s : ByteArray} {k : Nat} {l : List S55} (h : parser_Parse.f k s = some (l, [])) : ∃ n ks ts, VLs 4 l n ks ∧ n ≤ 64 ∧ lexB s = (ts, 0, 0) ∧ kt ts = ks := by
  unfold parser_Parse.f at h
  by_cases he : (lexB s).2.1 = 0
  · rw [if_pos he] at h
    obtain ⟨r, hr, h2⟩ := Option.map_eq_some_iff.1 h
    have hI : Inv ⟨(lexB s).1, 0, [], false⟩ := ⟨by simp, by simp, fun _ => by simp⟩
    obtain ⟨_, hI2, _⟩ := stmts_sound _ _ _ _ _ _ hr (lex_ok s) (Int.le_refl _) (by decide) hI
    obtain ⟨_, hcl⟩ := stmts_eat _ _ _ _ _ _ hr (lex_ok s) (lex_canon s) (Int.le_refl _) (by decide) hI
    have hfl : r.2.fl = [] := congrArg Prod.snd h2
    obtain ⟨g0, l', n, ks, g1, g2, g3, g4, g5⟩ := hcl hfl rfl
    have e : l = r.1 := (congrArg Prod.fst h2).symm
    rw [g1, List.nil_append] at e
    subst e
    rw [g5 rfl] at g3
    simp only at g4
    have h64 := hI2.2.2 g0
    refine ⟨n, ks, (lexB s).1, g2, by omega, ?_, by simpa [kt] using g3⟩
    by_cases hz : s.size ≤ 20000
    · obtain ⟨ts, j, hp, _, _, hcc⟩ := whole s hz
      rcases hcc with ⟨hl, _⟩ | ⟨hl, _, _⟩
      · rw [hl]
      · rw [hl] at he; exact absurd he (by simp)
    · exfalso
      unfold lexB at he
      rw [if_pos (by omega)] at he
      exact absurd he (by simp)
  · rw [if_neg he] at h
    exact absurd (congrArg Prod.snd (Option.some.inj h)) (by simp)
end Go.Proofs.YtonhcfecfifghaaDoor.PPx
namespace Go.Proofs.YtonhcfecfifghaaDoor.PPx
open Go.RowKit Go.Proofs.YtonhcfecfifghaaDoorW.PrintWords Go.Proofs.YtonhcfecfifghaaDoorW.PrintLast Go.Proofs.YtonhcfecfifghaaDoorW.PrintMore
set_option linter.unusedVariables false
theorem nl_bt (s : ByteArray) : bt (s ++ ⟨#[10]⟩) s.size = 10 := by
  rw [bt_right (Int.le_refl _) (by show (s.size : Int) < s.size + 1; omega), Int.sub_self]
  rfl
theorem nl_size (s : ByteArray) : (s ++ ⟨#[10]⟩ : ByteArray).size = s.size + 1 := by rw [ByteArray.size_append]; rfl
theorem nl_at (s : ByteArray) : at_ (s ++ ⟨#[10]⟩) s.size = 5 := by
  rw [at_in (by rw [nl_size]; omega), nl_bt]
  decide +kernel
theorem nl_move (s : ByteArray) : Move s (s ++ ⟨#[10]⟩) 0 0 s.size := by
  have := nl_size s
  refine ⟨by omega, by omega, by omega, by omega, fun x h0 h1 => ?_⟩
  rw [Int.add_zero, bt_left h0 h1]
/-- a line that ends at a line feed -/
theorem nl_scan {s : ByteArray} {x : Int} (h0 : 0 ≤ x) (h1 : x < (s.size : Int)) : scanTo (lineAt (s ++ ⟨#[10]⟩)) (s ++ ⟨#[10]⟩ : ByteArray).size x = scanTo (lineAt s) s.size x := by
  have hr := scanTo_range (lineAt s) s.size x (by omega)
  obtain ⟨a, b⟩ := scanTo_spec (lineAt s) s.size x
  have hsz := nl_size s
  have M := nl_move s
  generalize scanTo (lineAt s) s.size x = m at *
  refine scanTo_eq hr.1 (by omega) (fun y hy hy2 => ?_) (fun hlt => ?_)
  · have := M.line (x := y) (by omega) (by omega)
    rw [Int.add_zero] at this
    rw [this]; exact a y hy hy2
  · by_cases e : m = s.size
    · rw [e]; unfold lineAt; rw [nl_bt]; rfl
    · have := M.line (x := m) (by omega) (by omega)
      rw [Int.add_zero] at this
      rw [this]; exact b (by omega)
theorem nl_gap {s : ByteArray} {i j : Int} (h : Gap s i j) : 0 ≤ i → i ≤ (s.size : Int) → j = s.size → Gap (s ++ ⟨#[10]⟩) i ((s.size : Int) + 1) := by
  have M := nl_move s
  induction h with
  | here i =>
    intro _ _ hj
    subst hj
    exact .blank (nl_at s) (.here _)
  | @blank i j h5 hg ih =>
    intro h0 h1 hj
    have hlt := (at_some (by decide) h5).1
    have hx := M.at (x := i) (by omega) hlt
    rw [Int.add_zero] at hx
    exact .blank (by rw [hx, h5]) (ih (by omega) (by omega) hj)
  | @note i m j h6 hm hg ih =>
    intro h0 h1 hj
    have hlt := (at_some (by decide) h6).1
    have hx := M.at (x := i) (by omega) hlt
    rw [Int.add_zero] at hx
    have hr := scanTo_range (lineAt s) s.size i (by omega)
    exact .note (by rw [hx, h6]) (by rw [nl_scan h0 hlt]; exact hm) (ih (by omega) (by omega) hj)
/-- a text behind which a line feed stands: its tokens, wherever it stands -/
theorem lex_nl {s : ByteArray} {ts : List S44} (hs : s.size ≤ 20000) (h : lexB s = (ts, 0, 0)) : LexT (s ++ ⟨#[10]⟩) false ts := by
  obtain ⟨us, j, hp, h0, h1, hc⟩ := whole s hs
  have hu : us = ts ∧ skipTo s j = s.size := by
    rcases hc with ⟨hl, hk⟩ | ⟨hl, _, _⟩
    · rw [h] at hl; exact ⟨(congrArg Prod.fst hl).symm, hk⟩
    · rw [h] at hl; exact absurd (congrArg (fun p => p.2.1) hl) (by simp)
  obtain ⟨rfl, hk⟩ := hu
  have M := nl_move s
  have hsz := nl_size s
  have p1 := M.path hp (Int.le_refl _) (Int.le_refl _) (by omega) h1 (fun _ => by rw [Int.add_zero]; exact soft_of (.inl (nl_at s)))
  rw [moved_zero] at p1
  simp only [Int.add_zero] at p1
  obtain ⟨hg, -, -⟩ := skip_gap s j h0 h1
  rw [hk] at hg
  have g1 := nl_gap hg h0 h1 rfl
  intro u i hh _
  have MU := hh.move
  have p2 := MU.path p1 (Int.le_refl _) (Int.le_refl _) (by omega) (by omega) (fun e => by omega)
  have g2 := MU.gap g1 h0 (by omega) (.inr (.inr (fun x hx hx2 h6 => by
    have hxs : x < (s.size : Int) := by
      by_cases e : x = s.size
      · rw [e, nl_at] at h6; exact absurd h6 (by decide)
      · omega
    rw [nl_scan hx hxs]
    have := scanTo_range (lineAt s) s.size x (by omega)
    omega)))
  refine ⟨j + i, by simpa using p2, ?_⟩
  rw [hsz]
  have e : i + ((s.size + 1 : Nat) : Int) = (s.size : Int) + 1 + i := by omega
  rw [e]
  exact g2
/-- what stands at the end of a text -/
theorem lex_tail {u v : ByteArray} {ts us : List S44} (h : LexT u false ts) (hv : lexB v = (us, 0, 0)) (hs : (u ++ v).size ≤ 20000) : lexB (u ++ v) = (ts ++ moved u.size us, 0, 0) := by
  have hsz : (u ++ v).size = u.size + v.size := ByteArray.size_append
  obtain ⟨ws, j, hp, h0, h1, hc⟩ := whole v (by omega)
  have hu : ws = us ∧ skipTo v j = v.size := by
    rcases hc with ⟨hl, hk⟩ | ⟨hl, _, _⟩
    · rw [hv] at hl; exact ⟨(congrArg Prod.fst hl).symm, hk⟩
    · rw [hv] at hl; exact absurd (congrArg (fun p => p.2.1) hl) (by simp)
  obtain ⟨rfl, hk⟩ := hu
  have HU : Holds (u ++ v) 0 (u ++ v) := Holds.self _
  have h1' := h (u ++ v) 0 HU.left (fun e => by cases e)
  have MV := HU.right.move
  rw [Int.zero_add] at MV h1'
  rw [moved_zero] at h1'
  have p2 := MV.path hp (Int.le_refl _) (Int.le_refl _) (by omega) h1 (fun _ => soft_end (by omega))
  rw [Int.zero_add] at p2
  obtain ⟨hg, -, -⟩ := skip_gap v j h0 h1
  rw [hk] at hg
  have g2 := MV.gap hg h0 (Int.le_refl _) (.inr (.inl (by omega)))
  have r2 : Runs (u ++ v) u.size (moved u.size ws) ((v.size : Int) + u.size) := ⟨_, p2, g2⟩
  obtain ⟨q, hq, hqg⟩ := Runs.append (Int.le_refl _) (by omega) h1' r2
  have hql := hq.le (Int.le_refl _) (by omega)
  refine lexB_ok hs hq ?_
  rw [show (v.size : Int) + u.size = (u ++ v).size by omega] at hqg
  rw [skip_end hql.1 hqg]
  omega
end Go.Proofs.YtonhcfecfifghaaDoor.PPx
namespace Go.Proofs.YtonhcfecfifghaaDoor.PPx
open Go.RowKit Go.Proofs.YtonhcfecfifghaaDoorW.PrintWords Go.Proofs.YtonhcfecfifghaaDoorW.PrintLast Go.Proofs.YtonhcfecfifghaaDoorW.PrintMore
set_option linter.unusedVariables false
theorem VLs.append {d n m : Nat} {l l' : List S55} {ks ls : List (Int × ByteArray)} (h : VLs d l n ks) (g : VLs d l' m ls) : VLs d (l ++ l') (n + m) (ks ++ ls) := by
  induction h with
  | nil => simpa using g
  | @plain d n x l ks hx h7 hl ih =>
    have := VLs.plain hx h7 (ih g)
    rw [List.append_assoc, List.cons_append, show n + 1 + m = n + m + 1 by omega]
    exact this
  | @when_ d n q x l ks ks2 hx h7 hk hl ihk ihl =>
    have := VLs.when_ hx h7 hk (ihl g)
    rw [List.append_assoc, List.append_assoc, List.cons_append, List.cons_append, show n + q + 1 + m = n + m + q + 1 by omega]
    exact this
/-- the 65th statement -/
theorem round_big {fin deep : Int} {w : ByteArray} {a : Int} {ts : List S44} {fl : List S35} {out : List S55} (hf : fl.length ≤ 100) : stmtsS fin 1 deep ⟨⟨1, w, a⟩ :: ts, 64, fl, false⟩ out = some (out, ⟨⟨1, w, a⟩ :: ts, 65, fl ++ [⟨2, a⟩], true⟩) := by
  have hw : wrap64 ((64 : Int) + 1) = 65 := by unfold wrap64; omega
  rw [stmtsS]
  rw [if_neg (by simp), if_neg (by simp [lookS, isSign])]
  simp only [hw]
  rw [if_pos (by decide), if_neg (by omega)]
  rfl
theorem over_end {fin deep : Int} {s : Rs} {out : List S55} (h : s.over = true) (k : Nat) : stmtsS fin (k + 1) deep s out = some (out, s) := by
  rw [stmtsS, if_pos (.inl h)]
theorem when_over {rec : Int → Rs → Option (List S55 × Rs)} {fin deep a b1 b2 b3 n : Int} {s t : ByteArray} {fl : List S35} {ts4 : List S44} {kids : List S55} {s' : Rs} (hs : NameOK s) (ht : NameOK t) (hd : deep ≠ 4) (hd0 : 0 ≤ deep) (hd1 : deep ≤ 4)
    (hr : rec (deep + 1) ⟨ts4, n, fl, false⟩ = some (kids, s')) (ho : s'.over = true) :
    ∃ s2, oneS rec fin deep ⟨⟨1, wWhen, a⟩ :: ⟨1, t, b1⟩ :: ⟨1, s, b2⟩ :: ⟨3, obr, b3⟩ :: ts4, n, fl, false⟩ = some (none, s2) ∧ s2.over = true ∧ s2.fl = s'.fl := by
  have hw : wrap64 (deep + 1) = deep + 1 := by unfold wrap64; omega
  have hst : stmtS rec fin deep ⟨⟨1, wWhen, a⟩ :: ⟨1, t, b1⟩ :: ⟨1, s, b2⟩ :: ⟨3, obr, b3⟩ :: ts4, n, fl, false⟩ = some ((signS ⟨#[125]⟩ fin s').bind fun _ s_ => (.ok ⟨7, 0, s, t, 0, ⟨⟨0, 0, 0⟩, ⟨0, 0, 0⟩⟩, kids, a⟩, s_)) := by
    unfold stmtS
    rw [key_ok ix_when.1, obind_ok rfl]
    simp only [ix_when.2]
    unfold restS
    rw [if_neg (by decide), if_neg (by decide), if_neg (by decide), if_neg (by decide), if_neg (by decide), if_neg (by decide), if_neg (by decide), if_pos rfl, if_neg hd, name_ok ht, obind_ok rfl]
    simp only
    rw [name_ok hs, obind_ok rfl]
    simp only
    rw [sign_obr, obind_ok rfl]
    simp only
    rw [hw, hr]
    rfl
  have n5 := sign_ok' ⟨#[125]⟩ fin s'
  have ho2 : (signS ⟨#[125]⟩ fin s').2.over = true := by rw [n5.1.2.2.2]; exact ho
  unfold oneS
  rw [hst]
  simp only [Option.bind_some]
  rcases bind_inv (r := signS ⟨#[125]⟩ fin s') (f := fun _ s_ => (.ok (⟨7, 0, s, t, 0, ⟨⟨0, 0, 0⟩, ⟨0, 0, 0⟩⟩, kids, a⟩ : S55), s_)) with ⟨z, hz, e⟩ | ⟨e', he, e⟩
  · rw [e]
    simp only [if_pos ho2]
    exact ⟨_, rfl, ho2, n5.1.2.2.1⟩
  · rw [e]
    simp only [if_pos ho2]
    exact ⟨_, rfl, ho2, n5.1.2.2.1⟩
/-- a list of more statements than there may be: one fault -/
theorem over_list {d n : Nat} {l : List S55} {ks : List (Int × ByteArray)} (h : VLs d l n ks) : ∀ (fin deep : Int) (ts : List S44) (ks' : List (Int × ByteArray)), 0 ≤ deep → deep + d ≤ 4 → kt ts = ks ++ ks' →
    ∀ (m : Int) (fl : List S35) (out : List S55), 0 ≤ m → m ≤ 64 → m + n > 64 → out.length + n ≤ 1000 → fl.length ≤ 100 → ∃ k p l' s', stmtsS fin k deep ⟨ts, m, fl, false⟩ out = some (l', s') ∧ s'.over = true ∧ s'.fl = fl ++ [⟨2, p⟩] := by
  induction h with
  | nil d => intro fin deep ts ks' _ _ _ m fl out h0 h1 h2; omega
  | @plain d n x l ks hx h7 hl ih =>
    intro fin deep ts ks' h0 hd hk m fl out hm0 hm1 hm2 ho hf
    obtain ⟨w, k0, hw⟩ := lineK_head hx
    have hk2 : kt ts = lineK x ++ (ks ++ ks') := by rw [hk, List.append_assoc]
    obtain ⟨a0, ts0, rfl, g0⟩ := kt_cons (show kt ts = (1, w) :: (k0 ++ (ks ++ ks')) by rw [hk2, hw]; rfl)
    by_cases h64 : m = 64
    · subst h64
      exact ⟨1, a0, _, _, round_big hf, rfl, rfl⟩
    obtain ⟨a, vs, hv, hst⟩ := stmt_plain hx h7 hk2
    obtain ⟨k, p, l', s', hr, hov, hfl⟩ := ih fin deep vs ks' h0 hd hv (m + 1) fl (out ++ [atA x a]) (by omega) (by omega) (by omega) (by rw [List.length_append]; simp; omega) hf
    refine ⟨k + 1, p, l', s', ?_, hov, hfl⟩
    rw [round_ok hm0 (by omega) (by omega), one_ok (hst _ fin deep (m + 1) fl false)]
    exact hr
  | @when_ d n q x l ks ls hx h7 hkd hl ihk ihl =>
    intro fin deep ts ks' h0 hd hk m fl out hm0 hm1 hm2 ho hf
    cases hx with
    | @when_ s t kids a0 hs ht =>
      have hk2 : kt ts = (1, wWhen) :: ((1, t) :: ((1, s) :: ((3, obr) :: (ls ++ ((3, cbr) :: (ks ++ ks')))))) := by rw [hk]; simp [lineK]
      obtain ⟨a, ts1, rfl, g0⟩ := kt_cons hk2
      obtain ⟨b1, ts2, rfl, g1⟩ := kt_cons g0
      obtain ⟨b2, ts3, rfl, g2⟩ := kt_cons g1
      obtain ⟨b3, ts4, rfl, g3⟩ := kt_cons g2
      by_cases h64 : m = 64
      · subst h64
        exact ⟨1, a, _, _, round_big hf, rfl, rfl⟩
      by_cases hk64 : m + 1 + (q : Int) > 64
      · obtain ⟨k, p, l', s', hr, hov, hfl⟩ := ihk fin (deep + 1) ts4 _ (by omega) (by omega) g3 (m + 1) fl [] (by omega) (by omega) hk64 (by simp; omega) hf
        obtain ⟨s2, h2, h3, h4⟩ := when_over (rec := fun d s => stmtsS fin (k + 1) d s []) (fin := fin) (a := a) (b1 := b1) (b2 := b2) (b3 := b3) (n := m + 1) (fl := fl) (ts4 := ts4) (kids := l') (s' := s') hs ht (by omega) h0 (by omega) (stmts_lift (Nat.le_succ k) hr) hov
        refine ⟨k + 1 + 1, p, out, s2, ?_, h3, by rw [h4, hfl]⟩
        rw [round_ok hm0 (by omega) (by omega), h2]
        exact over_end h3 k
      · obtain ⟨us1, kids', hu1, hsim1, hv1, hrun1⟩ := parse_list hkd fin (deep + 1) ts4 _ (by omega) (by omega) g3
        obtain ⟨c, ts5, rfl, g5⟩ := kt_cons hu1
        obtain ⟨k2, p, l', s', hr, hov, hfl⟩ := ihl fin deep ts5 ks' h0 hd g5 (m + 1 + q) fl (out ++ [⟨7, 0, s, t, 0, ⟨zJ, zJ⟩, kids', a⟩]) (by omega) (by omega) (by omega) (by rw [List.length_append]; simp; omega) hf
        obtain ⟨k1, hk1⟩ := hrun1 (m + 1) fl [] (kids', ⟨⟨3, cbr, c⟩ :: ts5, m + 1 + q, fl, false⟩) 1 (by omega) (by omega) (by simp; omega) (by
          rw [List.nil_append]; exact close_ok (by omega))
        refine ⟨max k1 k2 + 1, p, l', s', ?_, hov, hfl⟩
        rw [round_ok hm0 (by omega) (by omega), one_ok (stmt_when (n' := m + 1 + q) (kids := kids') hs ht (by omega) h0 (by omega) (stmts_lift (Nat.le_max_left k1 k2) hk1))]
        exact stmts_lift (Nat.le_max_right k1 k2) hr
    | _ => exact absurd h7 (by simp)
theorem parse_big {n : Nat} {l : List S55} {ks : List (Int × ByteArray)} (h : VLs 4 l n ks) (hn : 64 < n) (hn2 : n ≤ 900) {s : ByteArray} {ts : List S44} (hs : lexB s = (ts, 0, 0)) (hk : kt ts = ks) : ∃ c p, EvalsTo (fun k => parser_Parse.f k s) (c, [⟨2, p⟩]) := by
  obtain ⟨K, p, c, s', hr, _, hfl⟩ := over_list h s.size 0 ts [] (Int.le_refl _) (by omega) (by rw [hk, List.append_nil]) 0 [] [] (Int.le_refl _) (by omega) (by omega) (by simp; omega) (by simp)
  refine ⟨c, p, K, fun k hk' => ?_⟩
  show parser_Parse.f k s = _
  unfold parser_Parse.f
  rw [hs]
  simp only [if_true]
  rw [stmts_lift hk' hr]
  simp [hfl]
/-- two texts without faults, put together -/
theorem cat_facts {s t : ByteArray} {a b : List S55} {k1 k2 : Nat} (hs : s.size ≤ 4000) (ht : t.size ≤ 4000) (h1 : parser_Parse.f k1 s = some (a, [])) (h2 : parser_Parse.f k2 t = some (b, [])) :
    ∃ (n m : Nat) (ks ls : List (Int × ByteArray)), n ≤ 64 ∧ m ≤ 64 ∧ VLs 4 a n ks ∧ VLs 4 b m ls ∧ (64 < n + m → ∃ c p, EvalsTo (fun k => parser_Parse.f k ((s ++ ⟨#[10]⟩) ++ t)) (c, [⟨2, p⟩])) ∧
      (n + m ≤ 64 → ∃ c, EvalsTo (fun k => parser_Parse.f k ((s ++ ⟨#[10]⟩) ++ t)) (c, []) ∧ SimL c (a ++ b)) := by
  obtain ⟨n, ks, ts, hv, hn, hl, hk⟩ := parse_clean h1
  obtain ⟨m, ls, us, gv, gn, gl, gk⟩ := parse_clean h2
  have hsz := nl_size s
  have hcat := lex_tail (lex_nl (by omega) hl) gl (by rw [ByteArray.size_append, hsz]; omega)
  have hkt : kt (ts ++ moved (s ++ ⟨#[10]⟩ : ByteArray).size us) = ks ++ ls := by rw [kt_append, kt_moved, hk, gk]
  refine ⟨n, m, ks, ls, hn, gn, hv, gv, fun hb => ?_, fun hb => ?_⟩
  · exact parse_big (hv.append gv) hb (by omega) hcat hkt
  · obtain ⟨c, hsim, _, hp⟩ := parse_text (hv.append gv) hb hcat hkt
    exact ⟨c, hp, hsim.symm⟩
end Go.Proofs.YtonhcfecfifghaaDoor.PPx
namespace Go.Proofs.YtonhcfecfifghaaDoor.PPx
open Go.RowKit Go.Proofs.YtonhcfecfifghaaDoorW.PrintWords Go.Proofs.YtonhcfecfifghaaDoorW.PrintLast Go.Proofs.YtonhcfecfifghaaDoorW.PrintMore
set_option linter.unusedVariables false
set_option linter.unusedSimpArgs false
mutual
def ambidexterref11_Count.l0 : Nat → List (S55) → Int → Int → Option (Int)
  | 0, _, _, _ => none
  | k + 1, x0, x3, x4 => if x4 < (x0.length : Int) then (if 0 ≤ x4 then ((ambidexterref11_Count.f k ((rd_T55 x0 x4).f6)).bind fun t184 => (ambidexterref11_Count.l0 k x0 (wrap64 (x3 + t184)) (wrap64 (x4 + 1)))) else (none)) else (some x3)
def ambidexterref11_Count.f : Nat → List (S55) → Option (Int)
  | 0, _ => none
  | k + 1, l0 => ambidexterref11_Count.l0 k l0 (l0.length : Int) 0
end
theorem ambidexterref11_Count.mono_l : ∀ k, (∀ y0, LeO (ambidexterref11_Count.f k y0) (ambidexterref11_Count.f (k + 1) y0)) ∧ (∀ y0 y1 y2, LeO (ambidexterref11_Count.l0 k y0 y1 y2) (ambidexterref11_Count.l0 (k + 1) y0 y1 y2))
  | 0 => ⟨fun _ r h => by simp [ambidexterref11_Count.f] at h, fun _ _ _ r h => by simp [ambidexterref11_Count.l0] at h⟩
  | k + 1 => by
    obtain ⟨ih0, ih1⟩ := ambidexterref11_Count.mono_l k
    refine ⟨?_, ?_⟩
    · intro y0
      unfold ambidexterref11_Count.f
      repeat' first
      | (with_reducible exact ih0 _)
      | (with_reducible exact ih1 _ _ _)
      | (with_reducible exact LeO.refl _)
      | (with_reducible exact LeO.none _)
      | (with_reducible refine LeO.ite ?_ ?_)
      | (with_reducible refine LeO.bind ?_ (fun _ => ?_))
      | exact ih0 _
      | exact ih1 _ _ _
      | exact LeO.none _
      | refine LeO.ite ?_ ?_
      | refine LeO.bind ?_ (fun _ => ?_)
    · intro y0 y1 y2
      unfold ambidexterref11_Count.l0
      repeat' first
      | (with_reducible exact ih0 _)
      | (with_reducible exact ih1 _ _ _)
      | (with_reducible exact LeO.refl _)
      | (with_reducible exact LeO.none _)
      | (with_reducible refine LeO.ite ?_ ?_)
      | (with_reducible refine LeO.bind ?_ (fun _ => ?_))
      | exact ih0 _
      | exact ih1 _ _ _
      | exact LeO.none _
      | refine LeO.ite ?_ ?_
      | refine LeO.bind ?_ (fun _ => ?_)
theorem ambidexterref11_Count.mono : ∀ a0 k, LeO (ambidexterref11_Count.f k a0) (ambidexterref11_Count.f (k + 1) a0) := by
  intro a0 k
  obtain ⟨ih0, ih1⟩ := ambidexterref11_Count.mono_l k
  exact ih0 a0
set_option maxHeartbeats 8000000 in
set_option maxRecDepth 100000 in
theorem ambidexterref11_Count.calls (k : Nat) : ∀ (A0 : Option Addr) (c0 : Nat) (l0 : List (S55)) (r : Int) (w : World) (hr0 : Kd.C k55 w A0 l0.length l0) (hc0 : l0.length ≤ c0) (h : ambidexterref11_Count.f k l0 = some r),
    Calls Tryd.prog 16 #[.slice A0 l0.length c0] w fun e w' => e = .returned (.int .i64 r) ∧ Drawn0 w w' := by
  induction k using Nat.strongRecOn with
  | _ k ih =>
  intro A0 c0 l0 r w hr0 hc0 h
  cases k with
  | zero => exact absurd h (by simp [ambidexterref11_Count.f])
  | succ k =>
  simp only [ambidexterref11_Count.f] at h
  have HR0 := Aside0.mk hr0
  have HC0 := Aside0.mk hc0
  clear hr0 hc0
  have H : (ambidexterref11_Count.l0 k l0 (l0.length : Int) 0) = some r := h
  clear h
  have H' := Aside0.mk H
  clear H
  go_enter Tryd.func16, Tryd.ntmps16
  go_wp2
  go_loopg [3, 4] k (fun kq v3 v4 w' => ∃ (x3_1 : Int) (x4_1 : Int), v3 = .int .i64 x3_1 ∧ v4 = .int .i64 x4_1 ∧ Aside0 (ambidexterref11_Count.l0 kq l0 x3_1 x4_1 = some r) ∧ Aside0 (kq ≤ k) ∧ Drawn0 w w')
  case atStart => exact ⟨((l0.length : Int)), (0), (by first | rfl | (simp; done) | (simp [*]; done)), (by first | rfl | (simp; done) | (simp [*]; done)), H', ⟨Nat.le_refl _⟩, by repeat (first | exact Drawn0.refl _ | apply Drawn0.step)⟩
  case round =>
    clear H'
    try clear c1
    obtain ⟨x3_1, x4_1, rfl, rfl, HA, HK1, ⟨m1, rfl⟩⟩ := hrel
    cases gk with
    | zero => exact absurd HA.out (by simp [ambidexterref11_Count.l0])
    | succ k1 =>
      have H := HA.out
      clear HA
      simp only [ambidexterref11_Count.l0] at H
      by_cases c2 : x4_1 < (l0.length : Int)
      · rw [if_pos c2] at H
        have c2b0 : decide (x4_1 < (l0.length : Int)) = true := decide_eq_true c2
        clear c2
        by_cases c3 : 0 ≤ x4_1
        · rw [if_pos c3] at H
          have c3b0 : decide (0 ≤ x4_1) = true := decide_eq_true c3
          clear c3
          replace H := Option.bind_eq_some_iff.mp H
          obtain ⟨t184, A40, H⟩ := H
          replace H : (ambidexterref11_Count.l0 k1 l0 (wrap64 (x3_1 + t184)) (wrap64 (x4_1 + 1))) = some r := H
          have A4 := Aside0.mk A40
          clear A40
          have H' := Aside0.mk H
          clear H
          have p183 : 0 ≤ (x4_1 : Int) := of_decide_eq_true (by first | (with_reducible assumption) | assumption)
          have q183 : x4_1 < (l0.length : Int) := of_decide_eq_true (by first | (with_reducible assumption) | assumption)
          obtain ⟨ad183, A183_11, c183_11, e183, hx183_0, hx183_1, hx183_2, hx183_3, hx183_4, hx183_5, hx183_6, hx183_7, hx183_8, hx183_9, hx183_10, hx183_11, hx183_12, hl183_11, hi183_11⟩ := at_T55 HR0.out x4_1 p183 q183
          cases e183
          have HR183_11 := Aside0.mk hi183_11
          have HC183_11 := Aside0.mk hl183_11
          clear hi183_11 hl183_11
          replace p183 := eq_true p183
          replace q183 := eq_true q183
          go_wp2_with (first | ((with_reducible refine gate_callee (f := 16) rfl ?_); refine goesL_ (some 19) rfl rfl Tryd.func16 (by kernel_rfl) rfl #[.slice A183_11 ((rd_T55 l0 x4_1).f6).length c183_11] rfl (by (try simp only [List.map_toArray, List.map_cons, List.map_nil]); first | done | rfl | (simp only [List.length_drop, List.length_take]; rfl)) ?_; (with_reducible refine (ih k1 (by have := HK1.out; omega) _ _ ((rd_T55 l0 x4_1).f6) t184 _ ?side1 ?side2 A4.out).mono ?_); (case side1 => repeat (first | exact HR183_11.out | (with_reducible refine Kd.C_alloc ?_ _) | (with_reducible refine Kd.C_drewN ?_ _) | (with_reducible refine Kd.C_drew ?_))); (case side2 => exact HC183_11.out); rintro e w' ⟨rfl, ⟨nd, rfl⟩⟩; refine ⟨_, rfl, ?_⟩))
          go_roundg k1
          case measure => have := HK1.out; omega
          case rel => exact ⟨(wrap64 (x3_1 + t184)), (wrap64 (x4_1 + 1)), (by first | rfl | (simp; done) | (simp [*]; done)), (by first | rfl | (simp; done) | (simp [*]; done)), H', ⟨by have := HK1.out; omega⟩, by repeat (first | exact Drawn0.refl _ | apply Drawn0.step)⟩
        · rw [if_neg c3] at H
          exact absurd H (by simp)
      · rw [if_neg c2] at H
        have c2b0 : decide (x4_1 < (l0.length : Int)) = false := decide_eq_false c2
        clear c2
        obtain rfl := Option.some.inj H
        go_wp2
        go_ret
        exact ⟨by first | rfl | (simp; done) | (simp [*]; done), by repeat (first | exact Drawn0.refl _ | apply Drawn0.step)⟩
end Go.Proofs.YtonhcfecfifghaaDoor.PPx
namespace Go.Proofs.YtonhcfecfifghaaDoor.PPx
open Go.RowKit Go.Proofs.YtonhcfecfifghaaDoorW.PrintWords Go.Proofs.YtonhcfecfifghaaDoorW.PrintLast Go.Proofs.YtonhcfecfifghaaDoorW.PrintMore
set_option linter.unusedVariables false
/-- lists of at most 100 statements, nested so deep -/
def Lens : Nat → List S55 → Prop
  | 0, l => l = []
  | d + 1, l => l.length ≤ 100 ∧ ∀ x ∈ l, Lens d x.f6
theorem rcount_step (k : Nat) (n : Int) (pre l : List S55) (x : S55) (hp : (pre.length : Int) ≤ 1000) : ambidexterref11_Count.l0 (k + 1) (pre ++ x :: l) n pre.length = (ambidexterref11_Count.f k x.f6).bind fun t => ambidexterref11_Count.l0 k ((pre ++ [x]) ++ l) (wrap64 (n + t)) ((pre ++ [x]).length : Int) := by
  rw [ambidexterref11_Count.l0, if_pos (by simp only [List.length_append, List.length_cons]; omega), if_pos (by omega), rd_mid]
  have hi : wrap64 ((pre.length : Int) + 1) = ((pre ++ [x]).length : Int) := by
    simp only [List.length_append, List.length_cons, List.length_nil]
    unfold wrap64; omega
  rw [hi, List.append_assoc, List.singleton_append]
theorem rcount_end (k : Nat) (n : Int) (l : List S55) : ambidexterref11_Count.l0 (k + 1) l n l.length = some n := by
  rw [ambidexterref11_Count.l0, if_neg (Int.lt_irrefl _)]
theorem rcount_total : ∀ (d : Nat) (l : List S55), Lens d l → ∃ r, EvalsTo (fun k => ambidexterref11_Count.f k l) r
  | 0, l, h => by
    have h : l = [] := h
    subst h
    refine ⟨0, EvalsTo.shift (j := 2) (EvalsTo.const 0) fun k => ?_⟩
    rw [ambidexterref11_Count.f]
    exact rcount_end k 0 []
  | d + 1, l, h => by
    have ih := rcount_total d
    have key : ∀ (l pre : List S55) (n : Int), pre.length + l.length ≤ 100 → (∀ x ∈ l, Lens d x.f6) → ∃ r, EvalsTo (fun k => ambidexterref11_Count.l0 k (pre ++ l) n pre.length) r := by
      intro l
      induction l with
      | nil =>
        intro pre n hp _
        refine ⟨n, EvalsTo.shift (j := 1) (EvalsTo.const n) fun k => ?_⟩
        rw [List.append_nil]
        exact rcount_end k n pre
      | cons x l il =>
        intro pre n hp hx
        obtain ⟨t, ht⟩ := ih x.f6 (hx x List.mem_cons_self)
        obtain ⟨r, hr⟩ := il (pre ++ [x]) (wrap64 (n + t)) (by simp only [List.length_append, List.length_cons, List.length_nil] at hp ⊢; omega) (fun z hz => hx z (List.mem_cons_of_mem _ hz))
        simp only [List.length_cons] at hp
        exact ⟨r, EvalsTo.shift (j := 1) (EvalsTo.bind (g := fun k t => ambidexterref11_Count.l0 k ((pre ++ [x]) ++ l) (wrap64 (n + t)) ((pre ++ [x]).length : Int)) ht hr) fun k => rcount_step k n pre l x (by omega)⟩
    obtain ⟨r, hr⟩ := key l [] l.length (by simpa using h.1) h.2
    refine ⟨r, EvalsTo.shift (j := 1) hr fun k => ?_⟩
    rw [ambidexterref11_Count.f]
    rfl
/-- Count of valid statements -/
theorem rcount_ok {d m : Nat} {l : List S55} {ks : List (Int × ByteArray)} (h : VLs d l m ks) : m ≤ 1000 → EvalsTo (fun k => ambidexterref11_Count.f k l) (m : Int) := by
  have key : ∀ {d m : Nat} {l : List S55} {ks : List (Int × ByteArray)}, VLs d l m ks → ∀ (pre : List S55) (n : Int), 0 ≤ n → n + m ≤ 10000 → m ≤ 1000 → pre.length + m ≤ 1000 → EvalsTo (fun k => ambidexterref11_Count.l0 k (pre ++ l) n pre.length) (n + m - l.length) := by
    intro d m l ks h
    induction h with
    | nil d =>
      intro pre n h0 h1 hm hp
      refine EvalsTo.shift (j := 1) (EvalsTo.const _) fun k => ?_
      rw [List.append_nil]
      have := rcount_end k n pre
      rw [this]; simp
    | @plain d m x l ks hx h7 hl il =>
      intro pre n h0 h1 hm hp
      have h6 : x.f6 = [] := by cases hx <;> first | rfl | exact absurd rfl h7
      have hr := il (pre ++ [x]) n h0 (by omega) (by omega) (by simp only [List.length_append, List.length_cons, List.length_nil]; omega)
      have ht : EvalsTo (fun k => ambidexterref11_Count.f k x.f6) 0 := by
        rw [h6]
        refine EvalsTo.shift (j := 2) (EvalsTo.const 0) fun k => ?_
        rw [ambidexterref11_Count.f]
        exact rcount_end k 0 []
      have hw : wrap64 (n + 0) = n := by unfold wrap64; omega
      have := EvalsTo.shift (g := fun k => ambidexterref11_Count.l0 k (pre ++ x :: l) n pre.length) (j := 1) (EvalsTo.bind (g := fun k t => ambidexterref11_Count.l0 k ((pre ++ [x]) ++ l) (wrap64 (n + t)) ((pre ++ [x]).length : Int)) ht (by simp only [hw]; exact hr)) fun k => rcount_step k n pre l x (by omega)
      have e : n + ((m + 1 : Nat) : Int) - ((x :: l).length : Int) = n + (m : Int) - l.length := by simp only [List.length_cons]; omega
      rw [e]
      exact this
    | @when_ d m1 m2 x l ks ls hx h7 hkd hl ihk ihl =>
      intro pre n h0 h1 hm hp
      have hkl := vls_len hkd
      have hll := vls_len hl
      have hk := ihk [] x.f6.length (by omega) (by omega) (by omega) (by simp only [List.length_nil]; omega)
      have ht : EvalsTo (fun k => ambidexterref11_Count.f k x.f6) (m2 : Int) := by
        have h2 : EvalsTo (fun k => ambidexterref11_Count.f k x.f6) ((x.f6.length : Int) + m2 - x.f6.length) := EvalsTo.shift (j := 1) hk fun k => by rw [ambidexterref11_Count.f]; rfl
        rw [show (x.f6.length : Int) + m2 - x.f6.length = (m2 : Int) by omega] at h2
        exact h2
      have hr := ihl (pre ++ [x]) (n + m2) (by omega) (by omega) (by omega) (by simp only [List.length_append, List.length_cons, List.length_nil]; omega)
      have hw : wrap64 (n + (m2 : Int)) = n + m2 := by unfold wrap64; omega
      have := EvalsTo.shift (g := fun k => ambidexterref11_Count.l0 k (pre ++ x :: l) n pre.length) (j := 1) (EvalsTo.bind (g := fun k t => ambidexterref11_Count.l0 k ((pre ++ [x]) ++ l) (wrap64 (n + t)) ((pre ++ [x]).length : Int)) ht (by simp only [hw]; exact hr)) fun k => rcount_step k n pre l x (by omega)
      have e : n + ((m1 + m2 + 1 : Nat) : Int) - ((x :: l).length : Int) = n + m2 + (m1 : Int) - l.length := by simp only [List.length_cons]; omega
      rw [e]
      exact this
  intro hm
  have hl := vls_len h
  have h2 : EvalsTo (fun k => ambidexterref11_Count.f k l) ((l.length : Int) + m - l.length) := EvalsTo.shift (j := 1) (key h [] l.length (by omega) (by omega) hm (by simp only [List.length_nil]; omega)) fun k => by rw [ambidexterref11_Count.f]; rfl
  rw [show (l.length : Int) + m - l.length = (m : Int) by omega] at h2
  exact h2
end Go.Proofs.YtonhcfecfifghaaDoor.PPx
namespace Go.Proofs.YtonhcfecfifghaaDoor.PPx
open Go.RowKit Go.Proofs.YtonhcfecfifghaaDoorW.PrintWords Go.Proofs.YtonhcfecfifghaaDoorW.PrintLast Go.Proofs.YtonhcfecfifghaaDoorW.PrintMore
set_option linter.unusedVariables false
set_option maxHeartbeats 1000000 in
set_option maxRecDepth 100000 in
theorem conc_long0 (a0 a1 : ByteArray) (w : World) (c1 : a0.size > 4000) (hG : Glob w) :
    Calls Tryd.prog 5 #[.string a0, .string a1] w fun e w' => e = .returned (.bool true) ∧ Below w.heap.size w w' := by
  have HG := Aside0.mk hG
  clear hG
  have b0 : decide (4000 < (a0.size : Int)) = true := decide_eq_true (by omega)
  have b1 : decide (4000 < a0.size) = true := decide_eq_true c1
  clear c1
  go_enter Tryd.func5, Tryd.ntmps5
  go_wp2_with fail
  refine (ambidexterlaw11_head.calls true w rfl HG.out).mono ?_
  rintro e w1 ⟨rfl, hb⟩
  have HB := Aside0.mk hb
  clear hb
  go_wp2_with fail
  go_ret
  exact ⟨rfl, HB.out⟩
set_option maxHeartbeats 1000000 in
set_option maxRecDepth 100000 in
theorem conc_long1 (a0 a1 : ByteArray) (w : World) (c1 : ¬ a0.size > 4000) (c2 : a1.size > 4000) (hG : Glob w) :
    Calls Tryd.prog 5 #[.string a0, .string a1] w fun e w' => e = .returned (.bool true) ∧ Below w.heap.size w w' := by
  have HG := Aside0.mk hG
  clear hG
  have b0 : decide (4000 < (a0.size : Int)) = false := decide_eq_false (by omega)
  have b1 : decide (4000 < a0.size) = false := decide_eq_false c1
  have b2 : decide (4000 < (a1.size : Int)) = true := decide_eq_true (by omega)
  have b3 : decide (4000 < a1.size) = true := decide_eq_true c2
  clear c1 c2
  go_enter Tryd.func5, Tryd.ntmps5
  go_wp2_with fail
  refine (ambidexterlaw11_head.calls true w rfl HG.out).mono ?_
  rintro e w1 ⟨rfl, hb⟩
  have HB := Aside0.mk hb
  clear hb
  go_wp2_with fail
  go_ret
  exact ⟨rfl, HB.out⟩
set_option maxHeartbeats 1000000 in
set_option maxRecDepth 100000 in
theorem conc_faults (a0 a1 : ByteArray) (w : World) (c1 : ¬ a0.size > 4000) (c2 : ¬ a1.size > 4000) {k1 k2 : Nat} {a b : List S55} {f g : List S35} (h1 : parser_Parse.f k1 a0 = some (a, f)) (h2 : parser_Parse.f k2 a1 = some (b, g)) (hfg : wrap64 ((f.length : Int) + (g.length : Int)) > 0) (hG : Glob w) :
    Calls Tryd.prog 5 #[.string a0, .string a1] w fun e w' => e = .returned (.bool true) ∧ Below w.heap.size w w' := by
  have HG := Aside0.mk hG
  have H1 := Aside0.mk h1
  have H2 := Aside0.mk h2
  clear hG h1 h2
  have b0 : decide (4000 < (a0.size : Int)) = false := decide_eq_false (by omega)
  have b1 : decide (4000 < a0.size) = false := decide_eq_false c1
  have b2 : decide (4000 < (a1.size : Int)) = false := decide_eq_false (by omega)
  have b3 : decide (4000 < a1.size) = false := decide_eq_false c2
  have b4 : decide (0 < wrap64 ((f.length : Int) + (g.length : Int))) = true := decide_eq_true hfg
  clear c1 c2 hfg
  go_enter Tryd.func5, Tryd.ntmps5
  go_wp2_with fail
  refine (ambidexterlaw11_head.calls true w rfl HG.out).mono ?_
  rintro e w1 ⟨rfl, hb⟩
  have HB := Aside0.mk hb
  clear hb
  go_wp2_with fail
  refine (Parse_C k1 a0 a f w1 H1.out (HG.out.below HB.out)).mono ?_
  rintro e w2 ⟨A, ca, B, cb, rfl, hca, hcb, hA, hB, hb⟩
  have HB2 := Aside0.mk (below_step HB.out hb)
  have HA := Aside0.mk hA
  clear hb HB hA hB
  go_wp2_with fail
  refine (Parse_C k2 a1 b g w2 H2.out (HG.out.below HB2.out)).mono ?_
  rintro e w3 ⟨A2, ca2, B2, cb2, rfl, hca2, hcb2, hA2, hB2, hb⟩
  have HB3 := Aside0.mk (below_step HB2.out hb)
  clear hb HB2 hA2 hB2
  go_wp2_with fail
  go_ret
  exact ⟨rfl, HB3.out⟩
set_option maxHeartbeats 1000000 in
set_option maxRecDepth 100000 in
theorem conc_big (a0 a1 : ByteArray) (w : World) (c1 : ¬ a0.size > 4000) (c2 : ¬ a1.size > 4000) {k1 k2 k3 k4 k5 : Nat} {a b c : List S55} {f g h : List S35} {n m p : Int} (h1 : parser_Parse.f k1 a0 = some (a, f)) (h2 : parser_Parse.f k2 a1 = some (b, g)) (hfg : ¬ wrap64 ((f.length : Int) + (g.length : Int)) > 0)
    (h3 : parser_Parse.f k3 ((a0 ++ (⟨#[10]⟩ : ByteArray)) ++ a1) = some (c, h)) (h4 : ambidexterref11_Count.f k4 a = some n) (h5 : ambidexterref11_Count.f k5 b = some m) (hnm : wrap64 (n + m) > 64) (hh : h = [⟨2, p⟩]) (hG : Glob w) :
    Calls Tryd.prog 5 #[.string a0, .string a1] w fun e w' => e = .returned (.bool true) ∧ Below w.heap.size w w' := by
  have HG := Aside0.mk hG
  have H1 := Aside0.mk h1
  have H2 := Aside0.mk h2
  have H3 := Aside0.mk h3
  have H4 := Aside0.mk h4
  have H5 := Aside0.mk h5
  have HH := Aside0.mk hh
  clear hG h1 h2 h3 h4 h5
  have b0 : decide (4000 < (a0.size : Int)) = false := decide_eq_false (by omega)
  have b1 : decide (4000 < a0.size) = false := decide_eq_false c1
  have b2 : decide (4000 < (a1.size : Int)) = false := decide_eq_false (by omega)
  have b3 : decide (4000 < a1.size) = false := decide_eq_false c2
  have b4 : decide (0 < wrap64 ((f.length : Int) + (g.length : Int))) = false := decide_eq_false hfg
  have b5 : (9223372036854775807 < a0.size + 1) = False := eq_false (by omega)
  have b6 : (9223372036854775807 < a0.size + 1 + a1.size) = False := eq_false (by omega)
  have b7 : decide (64 < wrap64 (n + m)) = true := decide_eq_true hnm
  have b8 : ((h.length : Int) == 1) = true := by rw [hh]; rfl
  clear c1 c2 hfg hnm hh
  go_enter Tryd.func5, Tryd.ntmps5
  go_wp2_with fail
  refine (ambidexterlaw11_head.calls true w rfl HG.out).mono ?_
  rintro e w1 ⟨rfl, hb⟩
  have HB := Aside0.mk hb
  clear hb
  go_wp2_with fail
  refine (Parse_C k1 a0 a f w1 H1.out (HG.out.below HB.out)).mono ?_
  rintro e w2 ⟨A, ca, B, cb, rfl, hca, hcb, hA, hB, hb⟩
  have HB2 := Aside0.mk (below_step HB.out hb)
  have HA := Aside0.mk hA
  clear hb HB hA hB
  go_wp2_with fail
  refine (Parse_C k2 a1 b g w2 H2.out (HG.out.below HB2.out)).mono ?_
  rintro e w3 ⟨A2, ca2, B2, cb2, rfl, hca2, hcb2, hA2, hB2, hb⟩
  have HB3 := Aside0.mk (below_step HB2.out hb)
  have HA' := Aside0.mk (Kd.C_below HA.out hb)
  have HA2 := Aside0.mk hA2
  clear hb HB2 hA2 hB2 HA
  go_wp2_with fail
  refine (Parse_C k3 _ c h w3 H3.out (HG.out.below HB3.out)).mono ?_
  rintro e w4 ⟨A3, ca3, B3, cb3, rfl, hca3, hcb3, hA3, hB3, hb⟩
  have HB4 := Aside0.mk (below_step HB3.out hb)
  have HA := Aside0.mk (Kd.C_below HA'.out hb)
  have HA2' := Aside0.mk (Kd.C_below HA2.out hb)
  have HD := Aside0.mk hB3
  clear hb HB3 hA3 hB3 HA' HA2
  go_wp2_with fail
  refine (ambidexterref11_Count.calls k4 A ca a n w4 HA.out hca H4.out).mono ?_
  rintro e w5 ⟨rfl, hb⟩
  have HB5 := Aside0.mk (below_step HB4.out hb.below)
  have HA2 := Aside0.mk (Kd.C_below HA2'.out hb.below)
  have HD2 := Aside0.mk (Kd.C_below HD.out hb.below)
  clear hb HB4 HA HA2' HD
  go_wp2_with fail
  refine (ambidexterref11_Count.calls k5 A2 ca2 b m w5 HA2.out hca2 H5.out).mono ?_
  rintro e w6 ⟨rfl, hb⟩
  have HB6 := Aside0.mk (below_step HB5.out hb.below)
  have HD := Aside0.mk (Kd.C_below HD2.out hb.below)
  clear hb HB5 HA2 HD2
  have hlen : (0 : Int) < (h.length : Int) := by rw [HH.out]; simp
  obtain ⟨ad, ex, x0, x1⟩ := at_T35 HD.out 0 (by decide) hlen
  subst ex
  have e0 : (rd_T35 h 0).f0 = 2 := by rw [HH.out]; rfl
  rw [e0] at x0
  have y0 : w6.cell? ad = some (.int .i64 2) := x0
  have b9 : (0 < h.length) = True := eq_true (by omega)
  have b10 : decide ((0 : Int) < (h.length : Int)) = true := decide_eq_true hlen
  clear x0 x1 hlen
  go_wp2_with fail
  go_ret
  exact ⟨rfl, HB6.out⟩
set_option maxHeartbeats 1000000 in
set_option maxRecDepth 100000 in
theorem conc_ok (a0 a1 : ByteArray) (w : World) (c1 : ¬ a0.size > 4000) (c2 : ¬ a1.size > 4000) {k1 k2 k3 k4 k5 k6 : Nat} {a b c : List S55} {f g h : List S35} {n m : Int} (h1 : parser_Parse.f k1 a0 = some (a, f)) (h2 : parser_Parse.f k2 a1 = some (b, g)) (hfg : ¬ wrap64 ((f.length : Int) + (g.length : Int)) > 0)
    (h3 : parser_Parse.f k3 ((a0 ++ (⟨#[10]⟩ : ByteArray)) ++ a1) = some (c, h)) (h4 : ambidexterref11_Count.f k4 a = some n) (h5 : ambidexterref11_Count.f k5 b = some m) (hnm : ¬ wrap64 (n + m) > 64) (hh : h = []) {l : List S55} (hl : l = a ++ b) (h6 : ambidexterref11_Same.f k6 c l = some true) (hab : a.length + b.length ≤ 1000) (hG : Glob w) :
    Calls Tryd.prog 5 #[.string a0, .string a1] w fun e w' => e = .returned (.bool true) ∧ Below w.heap.size w w' := by
  have HG := Aside0.mk hG
  have H1 := Aside0.mk h1
  have H2 := Aside0.mk h2
  have H3 := Aside0.mk h3
  have H4 := Aside0.mk h4
  have H5 := Aside0.mk h5
  clear hG h1 h2 h3 h4 h5
  have b0 : decide (4000 < (a0.size : Int)) = false := decide_eq_false (by omega)
  have b1 : decide (4000 < a0.size) = false := decide_eq_false c1
  have b2 : decide (4000 < (a1.size : Int)) = false := decide_eq_false (by omega)
  have b3 : decide (4000 < a1.size) = false := decide_eq_false c2
  have b4 : decide (0 < wrap64 ((f.length : Int) + (g.length : Int))) = false := decide_eq_false hfg
  have b5 : (9223372036854775807 < a0.size + 1) = False := eq_false (by omega)
  have b6 : (9223372036854775807 < a0.size + 1 + a1.size) = False := eq_false (by omega)
  have b7 : decide (64 < wrap64 (n + m)) = false := decide_eq_false hnm
  have b8 : ((h.length : Int) == 0) = true := by rw [hh]; rfl
  have H6 := Aside0.mk h6
  have HL := Aside0.mk hl
  have HAB := Aside0.mk hab
  clear h6 hab hl
  clear c1 c2 hfg hnm hh
  go_enter Tryd.func5, Tryd.ntmps5
  go_wp2_with fail
  refine (ambidexterlaw11_head.calls true w rfl HG.out).mono ?_
  rintro e w1 ⟨rfl, hb⟩
  have HB := Aside0.mk hb
  clear hb
  go_wp2_with fail
  refine (Parse_C k1 a0 a f w1 H1.out (HG.out.below HB.out)).mono ?_
  rintro e w2 ⟨A, ca, B, cb, rfl, hca, hcb, hA, hB, hb⟩
  have HB2 := Aside0.mk (below_step HB.out hb)
  have HA := Aside0.mk hA
  clear hb HB hA hB
  go_wp2_with fail
  refine (Parse_C k2 a1 b g w2 H2.out (HG.out.below HB2.out)).mono ?_
  rintro e w3 ⟨A2, ca2, B2, cb2, rfl, hca2, hcb2, hA2, hB2, hb⟩
  have HB3 := Aside0.mk (below_step HB2.out hb)
  have HA' := Aside0.mk (Kd.C_below HA.out hb)
  have HA2 := Aside0.mk hA2
  clear hb HB2 hA2 hB2 HA
  go_wp2_with fail
  refine (Parse_C k3 _ c h w3 H3.out (HG.out.below HB3.out)).mono ?_
  rintro e w4 ⟨A3, ca3, B3, cb3, rfl, hca3, hcb3, hA3, hB3, hb⟩
  have HB4 := Aside0.mk (below_step HB3.out hb)
  have HA := Aside0.mk (Kd.C_below HA'.out hb)
  have HA2' := Aside0.mk (Kd.C_below HA2.out hb)
  have HD := Aside0.mk hA3
  clear hb HB3 hA3 hB3 HA' HA2
  go_wp2_with fail
  refine (ambidexterref11_Count.calls k4 A ca a n w4 HA.out hca H4.out).mono ?_
  rintro e w5 ⟨rfl, hb⟩
  have HB5 := Aside0.mk (below_step HB4.out hb.below)
  have HA2 := Aside0.mk (Kd.C_below HA2'.out hb.below)
  have HA' := Aside0.mk (Kd.C_below HA.out hb.below)
  have HC := Aside0.mk (Kd.C_below HD.out hb.below)
  clear hb HB4 HA HA2' HD
  go_wp2_with fail
  refine (ambidexterref11_Count.calls k5 A2 ca2 b m w5 HA2.out hca2 H5.out).mono ?_
  rintro e w6 ⟨rfl, hb⟩
  have HB6 := Aside0.mk (below_step HB5.out hb.below)
  have HA := Aside0.mk (Kd.C_below HA'.out hb.below)
  have HA2' := Aside0.mk (Kd.C_below HA2.out hb.below)
  have HD := Aside0.mk (Kd.C_below HC.out hb.below)
  clear hb HB5 HA2 HA' HC
  obtain ⟨xa, hxa, hxal, hxaK⟩ := raw_of_C HA.out
  obtain ⟨xb, hxb, hxbl, hxbK⟩ := raw_of_C HA2'.out
  have HXA := Aside0.mk hxa
  have HXB := Aside0.mk hxb
  have HKA := Aside0.mk hxaK
  have HKB := Aside0.mk hxbK
  have HLA := Aside0.mk hxal
  have HLB := Aside0.mk hxbl
  clear hxa hxb hxaK hxbK hxal hxbl HA HA2'
  go_wp2_with ((with_reducible refine gate_builtin (b := .append) (xs := #[.tmp 74, .tmp 75]) rfl ?_); refine Aside0.out ?_)
  refine Aside0.mk ?_
  refine wpList_step_of (Kd.R_append_rows_step (rawK 13) (Rr := (rawK 13).K w6) (w0 := w6) w6.heap.size rfl (.tmp 74) (.tmp 75) 22 55 (.agg #[(.int .i64 0), (.int .i64 0), (.string ⟨#[]⟩), (.string ⟨#[]⟩), (.int .i64 0), (.int .i64 0), (.int .i64 0), (.int .i64 0), (.int .i64 0), (.int .i64 0), (.int .i64 0), (.slice none 0 0), (.int .i64 0)]) 136 rfl Tryd.underlying22 infoStm rfl (by decide) (by decide) (.slice (some ⟨w6.heap.size, 0, none⟩) 0 0) [] xa A a.length ca (fun _ => True) (fun _ => False) rfl rfl (R_new0 (rawK 13) w6 55 w6.heap.size (Nat.le_refl _)) (Kd.C_below HXA.out (below_alloc (Below.refl _ _) _)) (fun _ _ h => h) (fun _ h => h.elim) (fun _ _ => trivial) (below_alloc (Below.refl _ _) _) (below_alloc (Below.refl _ _) _).size (by have := HAB.out; simp only [List.length_nil]; omega) ?_)
  intro v1 w7 hR hb hg hat
  have HR1 := Aside0.mk hR
  have HB7 := Aside0.mk hb
  clear hR hb hg hat
  go_wp2_with ((with_reducible refine gate_builtin (b := .append) (xs := #[.tmp 76, .tmp 77]) rfl ?_); refine Aside0.out ?_)
  refine Aside0.mk ?_
  refine wpList_step_of (Kd.R_append_rows_step (rawK 13) (Rr := (rawK 13).K w7) (w0 := w6) w6.heap.size rfl (.tmp 76) (.tmp 77) 22 55 (.agg #[(.int .i64 0), (.int .i64 0), (.string ⟨#[]⟩), (.string ⟨#[]⟩), (.int .i64 0), (.int .i64 0), (.int .i64 0), (.int .i64 0), (.int .i64 0), (.int .i64 0), (.int .i64 0), (.slice none 0 0), (.int .i64 0)]) 136 rfl Tryd.underlying22 infoStm rfl (by decide) (by decide) v1 ([] ++ xa) xb A2 b.length ca2 (fun _ => True) (fun _ => False) rfl rfl HR1.out (Kd.C_below HXB.out HB7.out) (fun _ _ h => h) (fun _ h => h.elim) (fun _ _ => trivial) HB7.out HB7.out.size (by have := HAB.out; have := HLA.out; simp only [List.nil_append]; omega) ?_)
  intro v2 w8 hR hb hg hat
  obtain ⟨A4, c4, rfl, hc4, hC4⟩ := raw_append (d := k55) (w0 := w6) hR HLA.out HLB.out HKA.out HKB.out hb
  rw [← HL.out] at hc4 hC4 ⊢
  have HC4 := Aside0.mk hC4
  have HB8 := Aside0.mk hb
  clear hR hb hg hat hC4
  go_wp2_with fail
  refine (ambidexterref11_Same.calls k6 A3 ca3 c A4 c4 l true w8 (Kd.C_below HD.out HB8.out) hca3 HC4.out hc4 H6.out).mono ?_
  rintro e w9 ⟨rfl, hb⟩
  have HB9 := Aside0.mk (below_step (below_step HB6.out HB8.out) hb)
  clear hb HB8
  go_wp2_with fail
  go_ret
  exact ⟨rfl, HB9.out⟩
theorem parse_bound (s : ByteArray) : ∃ l f, EvalsTo (fun k => parser_Parse.f k s) (l, f) ∧ f.length ≤ 20 := by
  unfold parser_Parse.f
  by_cases he : (lexB s).2.1 = 0
  · have hl := lexB_len s
    obtain ⟨l, s', h, _, _, hI⟩ := stmts_total s.size 30000 0 ⟨(lexB s).1, 0, [], false⟩ [] (Int.le_refl _) (by decide) (lex_ok s) (by simp only; omega) (inv0 _) (by simp) (by simp only; omega)
    refine ⟨l, s'.fl, ⟨30000, fun k hk => ?_⟩, hI.2.2.1⟩
    simp only [if_pos he]
    rw [stmts_lift hk h]
    rfl
  · refine ⟨[], [⟨(lexB s).2.1, (lexB s).2.2⟩], ⟨0, fun k _ => ?_⟩, by simp⟩
    simp only [if_neg he]
/-- the law Concatenation: the walk, and why it says yes -/
theorem conc_walk (a0 a1 : ByteArray) (w : World) (hG : Glob w) :
    Calls Tryd.prog 5 #[.string a0, .string a1] w fun e w' => e = .returned (.bool true) ∧ Below w.heap.size w w' := by
  by_cases c1 : a0.size > 4000
  · exact conc_long0 a0 a1 w c1 hG
  by_cases c2 : a1.size > 4000
  · exact conc_long1 a0 a1 w c1 c2 hG
  obtain ⟨a, f, ⟨K1, h1⟩, hf⟩ := parse_bound a0
  obtain ⟨b, g, ⟨K2, h2⟩, hg⟩ := parse_bound a1
  have h1 := h1 K1 (Nat.le_refl _)
  have h2 := h2 K2 (Nat.le_refl _)
  by_cases hfg : wrap64 ((f.length : Int) + (g.length : Int)) > 0
  · exact conc_faults a0 a1 w c1 c2 h1 h2 hfg hG
  have hw : wrap64 ((f.length : Int) + (g.length : Int)) = (f.length : Int) + (g.length : Int) := by unfold wrap64; omega
  have hf0 : f = [] := List.eq_nil_of_length_eq_zero (by omega)
  have hg0 : g = [] := List.eq_nil_of_length_eq_zero (by omega)
  subst hf0 hg0
  obtain ⟨n, m, ks, ls, hn, hm, hv, gv, hbig, hok⟩ := cat_facts (by omega) (by omega) h1 h2
  obtain ⟨K4, h4⟩ := rcount_ok hv (by omega)
  obtain ⟨K5, h5⟩ := rcount_ok gv (by omega)
  have h4 := h4 K4 (Nat.le_refl _)
  have h5 := h5 K5 (Nat.le_refl _)
  have hwn : wrap64 ((n : Int) + (m : Int)) = (n : Int) + m := by unfold wrap64; omega
  by_cases hb : 64 < n + m
  · obtain ⟨c, p, K3, h3⟩ := hbig hb
    exact conc_big a0 a1 w c1 c2 h1 h2 hfg (h3 K3 (Nat.le_refl _)) h4 h5 (by omega) rfl hG
  · obtain ⟨c, ⟨K3, h3⟩, hsim⟩ := hok (by omega)
    obtain ⟨K6, h6⟩ := hsim.equal
    have hla := vls_len hv
    have hlb := vls_len gv
    exact conc_ok a0 a1 w c1 c2 h1 h2 hfg (h3 K3 (Nat.le_refl _)) h4 h5 (by omega) rfl rfl (h6 K6 (Nat.le_refl _)) (by omega) hG
end Go.Proofs.YtonhcfecfifghaaDoor.PPx
namespace Go.Proofs.YtonhcfecfifghaaDoor.parserConcatenation
open Go.ChangeShapes Go.WideShapes Go.ChangeAt Go.RowKit
open Go.ChangeMaps (open_string shut_string)
set_option linter.unusedVariables false
theorem own : ownKnob Tryd.prog.godebug = none := by kernel_rfl
theorem plainLaid {W : World} (h : laidMetH Tryd.prog Rows.parserConcatenationRow.laid W) : PPx.Glob W := by
  rw [MakeChecks.laidMetH_plain _ _ _ (by kernel_rfl)] at h
  exact PPx.glob_of h
theorem door_met (os : Os) (args : Array Value) : laidMetH Tryd.prog Rows.parserConcatenationRow.laid ((World.doorLaid Tryd.prog 400 os).forCall (fun _ _ => 0) ⟨#[], args, []⟩).memory :=
  laidMetH_of_parts3 (fuel := 8) (laidMet_of_run' 8 (by kernel_rfl) (by kernel_rfl)) (by kernel_rfl) (by kernel_rfl)
set_option maxRecDepth 100000 in
theorem lifted (os : Os) (started : os.Started) (H : Type) (enc : TypeId × Value → H) :
    ReturnsInHanded {} Tryd.checked os 5 .any (fun w args => (Rows.parserConcatenationSpec.pre enc Tryd.prog Tryd.f5 [] false w args ∧ laidMetH Tryd.prog Rows.parserConcatenationRow.laid w) ∧ sizedMet enc Tryd.prog Tryd.f5 (OpenSpec.ofChange Rows.parserConcatenationSpec) false w args)
      (Rows.parserConcatenationSpec.post enc Tryd.prog Tryd.f5 false true false false) := by
  refine returnsInHanded_of_change_and (C := Tryd.checked) (X := fun w _ => laidMetH Tryd.prog Rows.parserConcatenationRow.laid w) (fun _ _ _ hh h => h.of_heap hh) own started (by kernel_rfl) Tryd.func5
    (ChangeSpec.witness_shaped (enc := enc) (C := Tryd.checked) (os := os) (X := fun w _ => laidMetH Tryd.prog Rows.parserConcatenationRow.laid w) false (World.doorLaid Tryd.prog 400 os) #[.string ByteArray.empty, .string ByteArray.empty] 8 rfl (World.shaped_of_RefB (by kernel_rfl) (by kernel_rfl)) (by kernel_rfl) (by kernel_rfl) (by kernel_rfl) (door_met os _)) ?_
  intro W base args ds gs before hval0 hW hcnd hsz0 hL _
  have hsz : (DataW.weightsEach Tryd.prog (Tryd.f5.params.toList ++ Rows.parserConcatenationSpec.plain.varTypes Tryd.prog) (ds ++ gs)).all (· ≤ reachBytes) = true := hsz0
  have hval : ∀ (j : Nat) t v, Tryd.f5.params[j]? = some t → args[j]? = some v → Value.okWide Tryd.prog W .any base t v := hval0
  have hW' := hW
  obtain ⟨p, q, hA0, hV, rfl, hfz, hnd⟩ := hW
  have hA : DataW.TrodAll enc Tryd.prog W 0 (fun _ => true) true Tryd.f5.params.toList args.toList ds p := hA0
  rw [Tryd.params5] at hA hval hsz
  obtain ⟨v0, vs0, d0, ds0, p0, q0, hargs, rfl, rfl, h0, r0⟩ := trodAll_cons hA
  obtain ⟨v1, vs1, d1, ds1, p1, q1, rfl, rfl, rfl, h1, r1⟩ := trodAll_cons r0
  obtain ⟨rfl, rfl, rfl⟩ := trodAll_nil r1
  obtain rfl : args = #[v0, v1] := by cases args; simp_all
  obtain ⟨rfl, rfl⟩ := trodVars_none hV
  obtain ⟨a0, rfl, rfl, rfl, y0⟩ := open_string Tryd.underlying9 (hval 0 9 v0 rfl rfl) h0
  obtain ⟨a1, rfl, rfl, rfl, y1⟩ := open_string Tryd.underlying9 (hval 1 9 v1 rfl rfl) h1
  clear hA0 hval0 hsz0 hsz
  refine (PPx.conc_walk a0 a1 W (plainLaid hL)).mono fun e W' ⟨he, bel⟩ => ?_
  subst he
  exact ⟨_, rfl, _, _, _, [], _, [], hW', trodAll_mk1 (shut_bool Tryd.underlying4 _), (trodAll_cons_mk (shut_string Tryd.underlying9 y0) (trodAll_cons_mk (shut_string Tryd.underlying9 y1) trodAll_mk0)), rfl, bel.frame _, fun h => by cases h⟩
theorem over : Rows.ParserConcatenationSaid :=
  OpenClaim.holds_of_wide 5 Tryd.f5 rfl rfl rfl rfl rfl rfl rfl ⟨rfl, rfl, rfl, rfl, rfl⟩ rfl rfl rfl rfl rfl (by kernel_rfl) Tryd.func5 (by kernel_rfl)
    (of_decide_eq_true (by kernel_rfl)) (by unfold Func.isWrapper; first | (rw [if_pos (by decide +kernel)]; kernel_rfl) | (rw [if_neg (by decide +kernel)]; exact ⟨rfl, rfl⟩))
    (fun os started H enc _ => lifted os started H enc)
theorem card : Rows.ParserConcatenationCardSaid :=
  Claim7.holds_tied_plain_at .later [] [.data, .data, .data, .sentinel, .sentinel, .widerDeep] true (true, "6822103ed093441613754651125a536eb7c88e985074bd3ee2c69459dcd289f4") true
    over (fun _ h => by cases h) (by kernel_rfl) (fun _ h => by cases h) parserConcatenation_row_tie rfl ⟨rfl, rfl⟩ (by kernel_rfl) rfl
    (fun f fn hf hfn => by
      obtain rfl : f = 5 := Option.some.inj ((show Tryd.prog.funcNamed "ambidexter/ambidexterlaw11.ParserConcatenation" = some 5 by kernel_rfl).symm.trans hf) |>.symm
      obtain rfl : fn = Tryd.f5 := (Option.some.inj (Tryd.func5.symm.trans hfn)).symm
      exact ⟨by kernel_rfl, fun j t ht => by
        rw [Tryd.params5] at ht
        have h3 : t = 9 := by
          rcases j with _ | _ | j
          · simpa using ht.symm
          · simpa using ht.symm
          · simp at ht
        subst h3
        exact (show Tryd.prog.wantsStandIn 9 = false by kernel_rfl)⟩)
    (by kernel_rfl)
end Go.Proofs.YtonhcfecfifghaaDoor.parserConcatenation
