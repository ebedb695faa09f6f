/- Part A of the proof of ParserRecoversFromErrors: the contracts of the functions that the law reaches, and what their plain functions compute. No condition. -/
import Derived.Test.YtonhcfecfifghaaDoorCoreA
import Derived.Test.YtonhcfecfifghaaDoorCoreB
import Derived.Test.YtonhcfecfifghaaDoorCoreC
import Derived.Test.YtonhcfecfifghaaDoorCoreD
import Derived.ChangeArms
import Derived.OpenShut
import Derived.DataReads
import Derived.Test.YtonhcfecfifghaaDoorRows
import Derived.Test.YtonhcfecfifghaaDoorCards
import Derived.Test.YtonhcfecfifghaaDoorTie
import Derived.WalkKit
import Derived.ProofKit
import Derived.ShutString
import Derived.ChangeOld
import Derived.Below
import Derived.SizedLaws
import Derived.LaidMore
import Derived.Stop.Joined
import Derived.SevenTiedAt
import Derived.Test.YtonhcfecfifghaaDoorWTab
namespace Go.Proofs.YtonhcfecfifghaaDoor.PPx
open Go.RowKit Go.Proofs.YtonhcfecfifghaaDoorW.PrintWords Go.Proofs.YtonhcfecfifghaaDoorW.PrintLast Go.Proofs.YtonhcfecfifghaaDoorW.PrintMore
set_option linter.unusedVariables false
theorem Parse_C (k : Nat) (s : ByteArray) (r1 : List S55) (r2 : List S35) (w : World) (h : parser_Parse.f k s = some (r1, r2)) (hG : Glob w) :
    Calls Tryd.prog 12 #[.string s] w fun e w' => ∃ A c B d, e = .returned (.tuple #[.slice A r1.length c, .slice B r2.length d]) ∧ r1.length ≤ c ∧ r2.length ≤ d ∧ Kd.C k55 w' A r1.length r1 ∧ Kd.C k35 w' B r2.length r2 ∧ Below w.heap.size w w' := by
  refine (parser_Parse.calls k s r1 r2 w h hG).mono ?_
  rintro e w1 ⟨v1, f1, rfl, hr, hf, hb⟩
  obtain ⟨A1, c1, rfl, hc1, hC⟩ := Kd.R_reads hr
  obtain ⟨B1, d1, rfl, hd1, hD⟩ := Kd.R_reads hf
  exact ⟨A1, c1, B1, d1, rfl, hc1, hd1, hC, hD, hb⟩
/-- the cells of a row's elements, as they are -/
def rawK (n : Nat) : Kd (List Value) where
  sz := n
  E := []
  K := fun _ x cs => cs = x ∧ cs.length = n ∧ ∀ u ∈ cs, u.oneCell' = true
  M := fun _ _ _ x cs => cs = x ∧ cs.length = n ∧ ∀ u ∈ cs, u.oneCell' = true
  K_len := fun h => h.2.1
  K_one := fun h => h.2.2
  K_below := fun _ h => h
  K_of_M := fun h => h
  M_mono := fun _ h => h
  M_bound := fun h => h
  M_move := fun _ h => h
  M_lower := fun _ h => h
theorem raw_of_C {α : Type} {d : Kd α} {W : World} {A : Option Addr} {n : Nat} {l : List α} (h : d.C W A n l) : ∃ xs : List (List Value), (rawK d.sz).C W A n xs ∧ xs.length = l.length ∧ ∀ (j : Nat) x p, xs[j]? = some x → l[j]? = some p → d.K W p x := by
  obtain ⟨h1, h2, h3⟩ := h
  rcases Nat.eq_zero_or_pos n with h0 | h0
  · have hl : l = [] := List.eq_nil_of_length_eq_zero (by omega)
    subst hl
    exact ⟨[], ⟨by simpa using h1, h2, fun h => by omega⟩, rfl, fun j x p hx => by simp at hx⟩
  · obtain ⟨ad, rfl, hc⟩ := h3 h0
    have hx : ∀ j, j < n → ∃ c, c.length = d.sz ∧ (∀ p, l[j]? = some p → d.K W p c) ∧ (∀ u ∈ c, u.oneCell' = true) ∧ ∀ i u, c[i]? = some u → W.cell? (ad.add (j * d.sz + i)) = some u := by
      intro j hj
      obtain ⟨c, c1, c2, c3⟩ := hc j (l[j]'(by omega)) (List.getElem?_eq_getElem (by omega))
      exact ⟨c, c1, fun p hp => by rw [List.getElem?_eq_getElem (by omega)] at hp; obtain rfl := Option.some.inj hp; exact c2, d.K_one c2, c3⟩
    let f : Nat → List Value := fun i => if h : i < n then (hx i h).choose else []
    have hf : ∀ j, j < n → (f j).length = d.sz ∧ (∀ p, l[j]? = some p → d.K W p (f j)) ∧ (∀ u ∈ f j, u.oneCell' = true) ∧ ∀ i u, (f j)[i]? = some u → W.cell? (ad.add (j * d.sz + i)) = some u := by
      intro j hj
      have e : f j = (hx j hj).choose := by simp only [f, dif_pos hj]
      rw [e]
      exact (hx j hj).choose_spec
    have hget : ∀ (j : Nat) x, ((List.range n).map f)[j]? = some x → j < n ∧ x = f j := by
      intro j x hx
      have hj : j < n := by
        have := (List.getElem?_eq_some_iff.1 hx).1
        simpa using this
      rw [List.getElem?_map, List.getElem?_range hj] at hx
      exact ⟨hj, (Option.some.inj hx).symm⟩
    refine ⟨(List.range n).map f, ⟨by simp, h2, fun _ => ⟨ad, rfl, fun j x hx => ?_⟩⟩, by simp [h1], fun j x p hx hp => ?_⟩
    · obtain ⟨hj, rfl⟩ := hget j x hx
      obtain ⟨a, b, c, e⟩ := hf j hj
      exact ⟨f j, a, ⟨rfl, a, c⟩, e⟩
    · obtain ⟨hj, rfl⟩ := hget j x hx
      exact (hf j hj).2.1 p hp
theorem C_of_raw {α : Type} {d : Kd α} {W : World} {A : Option Addr} {n : Nat} {l : List α} {xs : List (List Value)} (h : (rawK d.sz).C W A n xs) (hl : xs.length = l.length) (hK : ∀ (j : Nat) x p, xs[j]? = some x → l[j]? = some p → d.K W p x) : d.C W A n l := by
  obtain ⟨h1, h2, h3⟩ := h
  refine ⟨by omega, h2, fun h0 => ?_⟩
  obtain ⟨ad, rfl, hc⟩ := h3 h0
  refine ⟨ad, rfl, fun j p hp => ?_⟩
  have hj : j < l.length := (List.getElem?_eq_some_iff.1 hp).1
  obtain ⟨x, hx⟩ : ∃ x, xs[j]? = some x := ⟨xs[j]'(by omega), List.getElem?_eq_getElem (by omega)⟩
  obtain ⟨c, c1, ⟨rfl, c2, c3⟩, c4⟩ := hc j x hx
  exact ⟨c, c1, hK j c p hx hp, c4⟩
/-- an empty slice, newly made -/
theorem R_new0 {α : Type} (d : Kd α) (W : World) (e base : Nat) (hb : base ≤ W.heap.size) : d.R e (W.alloc (.cells #[] e)) base (fun _ => True) (.slice (some ⟨W.heap.size, 0, none⟩) 0 0) [] := by
  refine ⟨fun k hk => trivial, [], ?_, ⟨by simp, fun j p hp => by simp at hp⟩⟩
  exact World.ownsRow_lit (base := base) (e := e) (size := d.sz) W #[] 0 hb (by simp [maxLen]) (by simp)
theorem wpList_step_of {P : Program} {ops : Array Oper} {rest : List Oper} {o : Oper} {a : Act} {Q : Exit → Act → World → Prop} {W : World} (h : if Region.wanted o (yielded ops a.tmps) = true then Oper.wp P o a W (wpList P ops Q rest) Q else wpList P ops Q rest (a.put o.dst undef) W) : wpList P ops Q (o :: rest) a W := by
  unfold wpList
  split at h
  · rename_i hw; rw [if_pos hw]; exact .inl h
  · rename_i hw; rw [if_neg hw]; exact h
/-- two rows' raw cells, put together -/
theorem raw_append {α : Type} {d : Kd α} {w0 W : World} {e base : Nat} {v : Value} {xa xb : List (List Value)} {a b : List α} {ok : Nat → Prop} (h : (rawK d.sz).R e W base ok v (([] ++ xa) ++ xb)) (hla : xa.length = a.length) (hlb : xb.length = b.length)
    (ha : ∀ (j : Nat) x p, xa[j]? = some x → a[j]? = some p → d.K w0 p x) (hb : ∀ (j : Nat) x p, xb[j]? = some x → b[j]? = some p → d.K w0 p x) (hw : Below w0.heap.size w0 W) :
    ∃ A c, v = .slice A (a ++ b).length c ∧ (a ++ b).length ≤ c ∧ d.C W A (a ++ b).length (a ++ b) := by
  obtain ⟨A, c, rfl, hc, hC⟩ := Kd.R_reads h
  have hl : (([] ++ xa) ++ xb).length = (a ++ b).length := by simp [hla, hlb]
  refine ⟨A, c, by rw [hl], by rw [← hl]; exact hc, ?_⟩
  rw [hl] at hC
  refine C_of_raw hC hl fun j x p hx hp => ?_
  rw [List.nil_append] at hx
  rcases Nat.lt_or_ge j xa.length with hj | hj
  · rw [List.getElem?_append_left hj] at hx
    rw [List.getElem?_append_left (by omega)] at hp
    exact d.K_below hw (ha j x p hx hp)
  · rw [List.getElem?_append_right hj] at hx
    rw [List.getElem?_append_right (by omega), ← hla] at hp
    exact d.K_below hw (hb _ x p hx hp)
end Go.Proofs.YtonhcfecfifghaaDoor.PPx
namespace Go.Proofs.YtonhcfecfifghaaDoor.PPx
open Go.RowKit Go.Proofs.YtonhcfecfifghaaDoorW.PrintWords Go.Proofs.YtonhcfecfifghaaDoorW.PrintLast Go.Proofs.YtonhcfecfifghaaDoorW.PrintMore
set_option linter.unusedVariables false
set_option linter.unusedSimpArgs false
def ambidexterlaw11_bad.f (a0 : Int) : Option (ByteArray) := (some (([(⟨#[103, 111, 32, 53, 59]⟩ : ByteArray), (⟨#[104, 111, 109, 101, 59]⟩ : ByteArray), (⟨#[112, 105, 99, 107, 32, 48, 32, 48, 59]⟩ : ByteArray), (⟨#[112, 117, 116, 32, 48, 32, 119, 97, 105, 116, 59]⟩ : ByteArray), (⟨#[119, 97, 105, 116, 32, 120, 59]⟩ : ByteArray), (⟨#[98, 111, 116, 104, 32, 40, 49, 44, 32, 50, 41, 32, 40, 51, 44, 32, 52, 44, 32, 53, 41, 59]⟩ : ByteArray), (⟨#[99, 117, 112, 59]⟩ : ByteArray), (⟨#[103, 111, 32, 48, 32, 40, 49, 44, 32, 50, 44, 32, 51, 59]⟩ : ByteArray), (⟨#[104, 97, 110, 100, 32, 49, 32, 109, 111, 114, 101, 116, 104, 97, 110, 116, 119, 101, 108, 118, 101, 59]⟩ : ByteArray), (⟨#[59]⟩ : ByteArray)] : List ByteArray) : List ByteArray)).bind fun y292 => (if (y292.length : Int) = 0 then (none) else (if 0 ≤ (Int.tmod (wrap64 (a0)) (y292.length : Int)) then (if (Int.tmod (wrap64 (a0)) (y292.length : Int)) < (y292.length : Int) then (some (rdOf ByteArray.empty y292 (Int.tmod (wrap64 (a0)) (y292.length : Int)))) else (none)) else (none)))
set_option maxHeartbeats 8000000 in
set_option maxRecDepth 100000 in
theorem ambidexterlaw11_bad.calls (a0 : Int) (r : ByteArray) (w : World) (h : ambidexterlaw11_bad.f a0 = some r) :
    Calls Tryd.prog 18 #[.int .u8 a0] w fun e w' => e = .returned (.string r) ∧ Below w.heap.size w w' := by
  have HB := Aside0.mk (Below.refl w.heap.size w)
  have H : ((some (([(⟨#[103, 111, 32, 53, 59]⟩ : ByteArray), (⟨#[104, 111, 109, 101, 59]⟩ : ByteArray), (⟨#[112, 105, 99, 107, 32, 48, 32, 48, 59]⟩ : ByteArray), (⟨#[112, 117, 116, 32, 48, 32, 119, 97, 105, 116, 59]⟩ : ByteArray), (⟨#[119, 97, 105, 116, 32, 120, 59]⟩ : ByteArray), (⟨#[98, 111, 116, 104, 32, 40, 49, 44, 32, 50, 41, 32, 40, 51, 44, 32, 52, 44, 32, 53, 41, 59]⟩ : ByteArray), (⟨#[99, 117, 112, 59]⟩ : ByteArray), (⟨#[103, 111, 32, 48, 32, 40, 49, 44, 32, 50, 44, 32, 51, 59]⟩ : ByteArray), (⟨#[104, 97, 110, 100, 32, 49, 32, 109, 111, 114, 101, 116, 104, 97, 110, 116, 119, 101, 108, 118, 101, 59]⟩ : ByteArray), (⟨#[59]⟩ : ByteArray)] : List ByteArray) : List ByteArray)).bind fun y292 => (if (y292.length : Int) = 0 then (none) else (if 0 ≤ (Int.tmod (wrap64 (a0)) (y292.length : Int)) then (if (Int.tmod (wrap64 (a0)) (y292.length : Int)) < (y292.length : Int) then (some (rdOf ByteArray.empty y292 (Int.tmod (wrap64 (a0)) (y292.length : Int)))) else (none)) else (none)))) = some r := h
  clear h
  obtain ⟨y292, hy292⟩ : ∃ y_ : List ByteArray, y_ = (([(⟨#[103, 111, 32, 53, 59]⟩ : ByteArray), (⟨#[104, 111, 109, 101, 59]⟩ : ByteArray), (⟨#[112, 105, 99, 107, 32, 48, 32, 48, 59]⟩ : ByteArray), (⟨#[112, 117, 116, 32, 48, 32, 119, 97, 105, 116, 59]⟩ : ByteArray), (⟨#[119, 97, 105, 116, 32, 120, 59]⟩ : ByteArray), (⟨#[98, 111, 116, 104, 32, 40, 49, 44, 32, 50, 41, 32, 40, 51, 44, 32, 52, 44, 32, 53, 41, 59]⟩ : ByteArray), (⟨#[99, 117, 112, 59]⟩ : ByteArray), (⟨#[103, 111, 32, 48, 32, 40, 49, 44, 32, 50, 44, 32, 51, 59]⟩ : ByteArray), (⟨#[104, 97, 110, 100, 32, 49, 32, 109, 111, 114, 101, 116, 104, 97, 110, 116, 119, 101, 108, 118, 101, 59]⟩ : ByteArray), (⟨#[59]⟩ : ByteArray)] : List ByteArray)) := ⟨_, rfl⟩
  replace H : (if (y292.length : Int) = 0 then (none) else (if 0 ≤ (Int.tmod (wrap64 (a0)) (y292.length : Int)) then (if (Int.tmod (wrap64 (a0)) (y292.length : Int)) < (y292.length : Int) then (some (rdOf ByteArray.empty y292 (Int.tmod (wrap64 (a0)) (y292.length : Int)))) else (none)) else (none))) = some r := by first | (rw [hy292]; with_reducible exact H) | (have H2_ := (Option.bind_some _ _).symm.trans H; rw [hy292]; with_reducible exact H2_) | (have H2_ := (Option.bind_some _ _).symm.trans H; with_reducible exact H2_) | with_reducible exact H | (rw [hy292]; exact H) | exact H
  have Ny292 := Aside0.mk hy292
  clear hy292
  by_cases c2 : (y292.length : Int) = 0
  · rw [if_pos c2] at H
    exact absurd H (by simp)
  · rw [if_neg c2] at H
    have c2b0 : ((y292.length : Int) == 0) = false := beq_eq_false_iff_ne.mpr c2
    have c2b1 : ((y292.length : Int) != 0) = true := bne_iff_ne.mpr c2
    have c2b2 : ¬ (y292 = []) := fun h_ => c2 (by rw [h_]; rfl)
    obtain ⟨ji3, hji3⟩ : ∃ j_ : Int, (Int.tmod (wrap64 (a0)) (y292.length : Int)) = j_ := ⟨_, rfl⟩
    replace H : (if 0 ≤ (ji3) then (if (ji3) < (y292.length : Int) then (some (rdOf ByteArray.empty y292 (ji3))) else (none)) else (none)) = some r := by first | (rw [hji3] at H; exact H) | (simp only [hji3] at H ⊢; exact H)
    by_cases c4 : 0 ≤ (ji3)
    · rw [if_pos c4] at H
      have c4b0 : decide (0 ≤ (ji3)) = true := decide_eq_true c4
      clear c4
      by_cases c5 : (ji3) < (y292.length : Int)
      · rw [if_pos c5] at H
        have c5b0 : decide ((ji3) < (y292.length : Int)) = true := decide_eq_true c5
        clear c5
        obtain rfl := Option.some.inj H
        go_enter Tryd.func18, Tryd.ntmps18
        go_wp2_with (first | ((with_reducible refine gate_dst (N := 4) rfl ?_); refine Kd.R_lit Kd.string _ 9 ?hg (N := 4) ?hd (xs := ([(⟨#[103, 111, 32, 53, 59]⟩ : ByteArray), (⟨#[104, 111, 109, 101, 59]⟩ : ByteArray), (⟨#[112, 105, 99, 107, 32, 48, 32, 48, 59]⟩ : ByteArray), (⟨#[112, 117, 116, 32, 48, 32, 119, 97, 105, 116, 59]⟩ : ByteArray), (⟨#[119, 97, 105, 116, 32, 120, 59]⟩ : ByteArray), (⟨#[98, 111, 116, 104, 32, 40, 49, 44, 32, 50, 41, 32, 40, 51, 44, 32, 52, 44, 32, 53, 41, 59]⟩ : ByteArray), (⟨#[99, 117, 112, 59]⟩ : ByteArray), (⟨#[103, 111, 32, 48, 32, 40, 49, 44, 32, 50, 44, 32, 51, 59]⟩ : ByteArray), (⟨#[104, 97, 110, 100, 32, 49, 32, 109, 111, 114, 101, 116, 104, 97, 110, 116, 119, 101, 108, 118, 101, 59]⟩ : ByteArray), (⟨#[59]⟩ : ByteArray)] : List ByteArray)) (inner := [.string (⟨#[103, 111, 32, 53, 59]⟩ : ByteArray), .string (⟨#[104, 111, 109, 101, 59]⟩ : ByteArray), .string (⟨#[112, 105, 99, 107, 32, 48, 32, 48, 59]⟩ : ByteArray), .string (⟨#[112, 117, 116, 32, 48, 32, 119, 97, 105, 116, 59]⟩ : ByteArray), .string (⟨#[119, 97, 105, 116, 32, 120, 59]⟩ : ByteArray), .string (⟨#[98, 111, 116, 104, 32, 40, 49, 44, 32, 50, 41, 32, 40, 51, 44, 32, 52, 44, 32, 53, 41, 59]⟩ : ByteArray), .string (⟨#[99, 117, 112, 59]⟩ : ByteArray), .string (⟨#[103, 111, 32, 48, 32, 40, 49, 44, 32, 50, 44, 32, 51, 59]⟩ : ByteArray), .string (⟨#[104, 97, 110, 100, 32, 49, 32, 109, 111, 114, 101, 116, 104, 97, 110, 116, 119, 101, 108, 118, 101, 59]⟩ : ByteArray), .string (⟨#[59]⟩ : ByteArray)]) (ok := fun _ => True) (okp := fun _ => True) ?hr ?hp (fun _ hk => hk) trivial (Below.refl _ _) (Nat.le_refl _) (by simp) ?_; (case hd => rfl); (case hg => rfl); (case hr => first | (go_simp; done) | (go_simp; rfl)); (case hp => exact (Reps.one (show Kd.M Kd.string _ _ _ (⟨#[103, 111, 32, 53, 59]⟩ : ByteArray) [.string (⟨#[103, 111, 32, 53, 59]⟩ : ByteArray)] from rfl) (Reps.one (show Kd.M Kd.string _ _ _ (⟨#[104, 111, 109, 101, 59]⟩ : ByteArray) [.string (⟨#[104, 111, 109, 101, 59]⟩ : ByteArray)] from rfl) (Reps.one (show Kd.M Kd.string _ _ _ (⟨#[112, 105, 99, 107, 32, 48, 32, 48, 59]⟩ : ByteArray) [.string (⟨#[112, 105, 99, 107, 32, 48, 32, 48, 59]⟩ : ByteArray)] from rfl) (Reps.one (show Kd.M Kd.string _ _ _ (⟨#[112, 117, 116, 32, 48, 32, 119, 97, 105, 116, 59]⟩ : ByteArray) [.string (⟨#[112, 117, 116, 32, 48, 32, 119, 97, 105, 116, 59]⟩ : ByteArray)] from rfl) (Reps.one (show Kd.M Kd.string _ _ _ (⟨#[119, 97, 105, 116, 32, 120, 59]⟩ : ByteArray) [.string (⟨#[119, 97, 105, 116, 32, 120, 59]⟩ : ByteArray)] from rfl) (Reps.one (show Kd.M Kd.string _ _ _ (⟨#[98, 111, 116, 104, 32, 40, 49, 44, 32, 50, 41, 32, 40, 51, 44, 32, 52, 44, 32, 53, 41, 59]⟩ : ByteArray) [.string (⟨#[98, 111, 116, 104, 32, 40, 49, 44, 32, 50, 41, 32, 40, 51, 44, 32, 52, 44, 32, 53, 41, 59]⟩ : ByteArray)] from rfl) (Reps.one (show Kd.M Kd.string _ _ _ (⟨#[99, 117, 112, 59]⟩ : ByteArray) [.string (⟨#[99, 117, 112, 59]⟩ : ByteArray)] from rfl) (Reps.one (show Kd.M Kd.string _ _ _ (⟨#[103, 111, 32, 48, 32, 40, 49, 44, 32, 50, 44, 32, 51, 59]⟩ : ByteArray) [.string (⟨#[103, 111, 32, 48, 32, 40, 49, 44, 32, 50, 44, 32, 51, 59]⟩ : ByteArray)] from rfl) (Reps.one (show Kd.M Kd.string _ _ _ (⟨#[104, 97, 110, 100, 32, 49, 32, 109, 111, 114, 101, 116, 104, 97, 110, 116, 119, 101, 108, 118, 101, 59]⟩ : ByteArray) [.string (⟨#[104, 97, 110, 100, 32, 49, 32, 109, 111, 114, 101, 116, 104, 97, 110, 116, 119, 101, 108, 118, 101, 59]⟩ : ByteArray)] from rfl) (Reps.one (show Kd.M Kd.string _ _ _ (⟨#[59]⟩ : ByteArray) [.string (⟨#[59]⟩ : ByteArray)] from rfl) (Reps.none _ _)))))))))))); intro v293 w6 ho7 hb hg_ hnew_; clear hg_ hnew_; (first | rw [← Ny292.out] at ho7 | (simp only [Int.reduceToNat] at ho7; rw [← Ny292.out] at ho7)); have n0_ := Aside0.mk (Kd.R_lower ho7 (below_size (by repeat (first | (with_reducible first | exact HB.out | apply below_alloc | apply pw_below_drewN | apply below_drew1) | exact HB.out)))); have n1_ := Aside0.mk (below_step (by repeat (first | (with_reducible first | exact HB.out | apply below_alloc | apply pw_below_drewN | apply below_drew1) | exact HB.out)) hb); clear HB; have HO294 := n0_; have HB := n1_; clear n0_ n1_; clear hb ho7; obtain ⟨Ao8, co8, eo8⟩ := Kd.R_slice HO294.out; subst eo8; have p295 : 0 ≤ ((ji3) : Int) := of_decide_eq_true (by first | (with_reducible assumption) | assumption); have q295 : (ji3) < (y292.length : Int) := of_decide_eq_true (by first | (with_reducible assumption) | assumption); obtain ⟨ad295, e295, hx295_0⟩ := Kd.at_string (Kd.R_reads' HO294.out).2.2 (ji3) p295 q295; cases e295; replace p295 := eq_true p295; replace q295 := eq_true q295))
        go_ret
        exact ⟨by first | rfl | (simp [errW_none, errW_some] <;> rfl) | (simp only [← hji3]; first | rfl | (simp [errW_none, errW_some] <;> rfl)) | (simp [*, errW_none, errW_some] <;> rfl), by repeat (first | (with_reducible first | exact HB.out | apply below_alloc | apply pw_below_drewN | apply below_drew1) | exact HB.out)⟩
      · rw [if_neg c5] at H
        exact absurd H (by simp)
    · rw [if_neg c4] at H
      exact absurd H (by simp)
end Go.Proofs.YtonhcfecfifghaaDoor.PPx
namespace Go.Proofs.YtonhcfecfifghaaDoor.PPx
open Go.RowKit Go.Proofs.YtonhcfecfifghaaDoorW.PrintWords Go.Proofs.YtonhcfecfifghaaDoorW.PrintLast Go.Proofs.YtonhcfecfifghaaDoorW.PrintMore
set_option linter.unusedVariables false
theorem format_okK {d n : Nat} {l : List S55} {ks : List (Int × ByteArray)} (h : VLs d l n ks) (hd : d ≤ 10) (hn : n ≤ 100) : ∃ out, EvalsTo (fun k => parser_Format.f k l) out ∧ LexK out false ks ∧ out.size ≤ n * 200 := by
  obtain ⟨out, ho, hlk, hsz⟩ := written_ok h (d + 1) ⟨#[]⟩ (by omega) (fun x h0 h1 => by exact absurd h1 (by show ¬ x < 0; omega)) (by show 0 + 2 * d ≤ 20; omega)
  refine ⟨out, ⟨d + 1, fun k hk => ?_⟩, hlk, hsz⟩
  have hm : ∀ j, writtenF (d + 1 + j) ⟨#[]⟩ l = some out := by
    intro j
    induction j with
    | zero => exact ho
    | succ j ih => exact written_le _ _ _ _ ih
  have := hm (k - (d + 1))
  rw [show d + 1 + (k - (d + 1)) = k by omega] at this
  show parser_Format.f k l = _
  unfold parser_Format.f
  rw [this]
  show (if out.size ≤ 140737488355328 then some out else none) = _
  rw [if_pos (by omega)]
theorem VLs.split {d n : Nat} {l : List S55} {ks : List (Int × ByteArray)} (h : VLs d l n ks) : ∀ (k : Nat), ∃ n1 n2 k1 k2, VLs d (l.take k) n1 k1 ∧ VLs d (l.drop k) n2 k2 ∧ n1 + n2 = n := by
  induction h with
  | nil d => intro k; exact ⟨0, 0, [], [], by simpa using VLs.nil d, by simpa using VLs.nil d, rfl⟩
  | @plain d n x l ks hx h7 hl ih =>
    intro k
    cases k with
    | zero => exact ⟨0, _, [], _, .nil d, .plain hx h7 hl, by simp⟩
    | succ k =>
      obtain ⟨n1, n2, k1, k2, a, b, c⟩ := ih k
      exact ⟨n1 + 1, n2, _, k2, .plain hx h7 a, b, by omega⟩
  | @when_ d n m x l ks ls hx h7 hk hl ihk ihl =>
    intro k
    cases k with
    | zero => exact ⟨0, _, [], _, .nil _, .when_ hx h7 hk hl, by simp⟩
    | succ k =>
      obtain ⟨n1, n2, k1, k2, a, b, c⟩ := ihl k
      exact ⟨n1 + m + 1, n2, _, k2, .when_ hx h7 hk a, b, by omega⟩
theorem kt_len (ts : List S44) : (kt ts).length = ts.length := by simp [kt]
theorem suf_eq {us vs ts : List S44} (h : us <:+ ts ++ vs) (hl : us.length = vs.length) : us = vs := by
  obtain ⟨pre, hp⟩ := h
  have : pre.length = ts.length := by
    have := congrArg List.length hp
    simp only [List.length_append] at this
    omega
  exact (List.append_inj hp this).2
/-- the front of a text: valid statements, whatever follows but a closing brace -/
theorem parse_front {d n : Nat} {l : List S55} {ks : List (Int × ByteArray)} (h : VLs d l n ks) (hn : n ≤ 64) (hd : d ≤ 4) {fin : Int} {ts vs : List S44} (hts : TokOK (ts ++ vs)) (hk : kt ts = ks) (hv : vs = [] ∨ isSign ⟨#[125]⟩ (lookS fin vs) = false) :
    ∃ l', SimL l l' ∧ ∀ (m : Int) (fl : List S35) (out : List S55) (R : List S55 × Rs) (k : Nat), 0 ≤ m → m + n ≤ 64 → out.length + n ≤ 1000 → stmtsS fin k 0 ⟨vs, m + n, fl, false⟩ (out ++ l') = some R → ∃ k', stmtsS fin k' 0 ⟨ts ++ vs, m, fl, false⟩ out = some R := by
  obtain ⟨us, l', hus, hsim, hvl, hrun⟩ := parse_list h fin 0 (ts ++ vs) (kt vs) (Int.le_refl _) (by omega) (by rw [kt_append, hk])
  have hul : us.length = vs.length := by rw [← kt_len, hus, kt_len]
  have e : us = vs := by
    rcases hv with rfl | hv
    · exact List.eq_nil_of_length_eq_zero hul
    · cases us with
      | nil => exact (List.eq_nil_of_length_eq_zero (by simpa using hul.symm)).symm
      | cons u us =>
        cases vs with
        | nil => simp at hul
        | cons v vs =>
          simp only [kt, List.map_cons, List.cons.injEq, Prod.mk.injEq] at hus
          obtain ⟨⟨e0, e1⟩, _⟩ := hus
          have hu : isSign ⟨#[125]⟩ (lookS fin (u :: us)) = false := by
            simp only [lookS, isSign, e0, e1] at hv ⊢
            exact hv
          have hw : wrap64 ((64 : Int) + 1) = 65 := by unfold wrap64; omega
          have h1 : stmtsS fin 1 0 ⟨u :: us, ((64 - n : Nat) : Int) + n, [], false⟩ ([] ++ l') = some (l', ⟨u :: us, 65, [⟨2, u.f2⟩], true⟩) := by
            rw [show (((64 - n : Nat) : Int) + n) = 64 by omega, stmtsS]
            rw [if_neg (by simp), if_neg (by simp only; rw [hu]; decide)]
            simp only [hw]
            rw [if_pos (by decide), if_neg (by simp)]
            rfl
          have hlen := vls_len hvl
          obtain ⟨k', hk'⟩ := hrun ((64 - n : Nat) : Int) [] [] _ 1 (by omega) (by omega) (by simp; omega) h1
          obtain ⟨hs, _⟩ := stmts_sound _ _ _ _ _ _ hk' hts (Int.le_refl _) (by decide) ⟨by simp only; omega, by simp only; omega, fun _ => by simp only; omega⟩
          exact suf_eq hs hul
  subst e
  exact ⟨l', hsim, fun m fl out R k a b c g => hrun m fl out R k a b c g⟩
/-- a malformed statement that ends with its semicolon -/
def BadOK (w : ByteArray) : Prop := w.size ≤ 100 ∧ ∃ (tsw : List S44) (p : Int) (j : Nat), LexT w false tsw ∧ 0 ≤ p ∧ p < (w.size : Int) ∧ tsw.length ≤ 100 ∧ (∀ (d fin : Int) (vs : List S44), isSign ⟨#[125]⟩ (lookS fin (moved d tsw ++ vs)) = false ∧ moved d tsw ++ vs ≠ []) ∧
  ∀ (rec : Int → Rs → Option (List S55 × Rs)) (fin d m : Int) (vs : List S44), stmtS rec fin 0 ⟨moved d tsw ++ vs, m, [], false⟩ = some (.error (110, p + d), ⟨moved d (tsw.drop j) ++ vs, m, [], false⟩) ∧ skipS (moved d (tsw.drop j) ++ vs) = vs
theorem lexT_semi {u : ByteArray} {ts : List S44} (h : lexB u = (ts, 0, 0)) (hs : u.size ≤ 20000) (hn : (List.range u.size).all (fun (i : Nat) => at_ u (i : Int) != 6) = true) : LexT (u ++ ⟨#[59]⟩) false (ts ++ moved u.size [⟨3, ⟨#[59]⟩, 0⟩]) := by
  have hne : ∀ x : Int, 0 ≤ x → x < (u.size : Int) → at_ u x ≠ 6 := by
    intro x h0 h1
    obtain ⟨i, rfl⟩ := Int.eq_ofNat_of_zero_le h0
    have := List.all_eq_true.1 hn i (List.mem_range.2 (by omega))
    simpa using this
  refine LexT.append (a := true) ?_ (LexT.sign rfl (by decide +kernel)) (fun _ => s_semi)
  obtain ⟨us, j, hp, h0, h1, hc⟩ := whole u hs
  have hu : us = ts ∧ skipTo u j = u.size := by
    rcases hc with ⟨hl, hk⟩ | ⟨hl, _, _⟩
    · rw [h] at hl; exact ⟨(congrArg Prod.fst hl).symm, hk⟩
    · rw [h] at hl; exact absurd (congrArg (fun p => p.2.1) hl) (by simp)
  obtain ⟨rfl, hk⟩ := hu
  obtain ⟨hg, -, -⟩ := skip_gap u j h0 h1
  rw [hk] at hg
  intro s i hh hsoft
  have M := hh.move
  have p2 := M.path hp (Int.le_refl _) (Int.le_refl _) (by omega) h1 (fun _ => by rw [Int.add_comm]; exact hsoft rfl)
  have g2 := M.gap hg h0 (Int.le_refl _) (.inr (.inr (fun x hx hx2 h6 => absurd h6 (hne x hx hx2))))
  refine ⟨j + i, by simpa using p2, ?_⟩
  rw [Int.add_comm i]
  exact g2
theorem bad_of (u w : ByteArray) (p : Int) (j : Nat) (hw : u ++ ⟨#[59]⟩ = w) (hl : (lexB u).2 = (0, 0)) (hs : u.size ≤ 50) (hn : (List.range u.size).all (fun (i : Nat) => at_ u (i : Int) != 6) = true) (hp0 : 0 ≤ p) (hp1 : p ≤ (u.size : Int)) (htl : (lexB u).1.length ≤ 50)
    (h1 : ∀ (d fin : Int) (vs : List S44), isSign ⟨#[125]⟩ (lookS fin (moved d ((lexB u).1 ++ moved u.size [⟨3, ⟨#[59]⟩, 0⟩]) ++ vs)) = false)
    (h2 : ∀ (rec : Int → Rs → Option (List S55 × Rs)) (fin d m : Int) (vs : List S44), stmtS rec fin 0 ⟨moved d ((lexB u).1 ++ moved u.size [⟨3, ⟨#[59]⟩, 0⟩]) ++ vs, m, [], false⟩ = some (.error (110, p + d), ⟨moved d (((lexB u).1 ++ moved u.size [⟨3, ⟨#[59]⟩, 0⟩]).drop j) ++ vs, m, [], false⟩))
    (h3 : ∀ (d : Int) (vs : List S44), skipS (moved d (((lexB u).1 ++ moved u.size [⟨3, ⟨#[59]⟩, 0⟩]).drop j) ++ vs) = vs) : BadOK w := by
  have hsz : w.size = u.size + 1 := by rw [← hw, ByteArray.size_append]; rfl
  have hlx : lexB u = ((lexB u).1, 0, 0) := Prod.ext rfl hl
  refine ⟨by omega, _, p, j, ?_, hp0, by omega, ?_, fun d fin vs => ⟨h1 d fin vs, ?_⟩, fun rec fin d m vs => ⟨h2 rec fin d m vs, h3 d vs⟩⟩
  · rw [← hw]; exact lexT_semi hlx (by omega) hn
  · simp only [List.length_append, moved, List.length_map, List.length_cons, List.length_nil]; omega
  · intro e
    have := congrArg List.length e
    simp [moved] at this
set_option maxRecDepth 100000 in
theorem bad0 : BadOK ⟨#[103, 111, 32, 53, 59]⟩ := bad_of ⟨#[103, 111, 32, 53]⟩ _ 3 1 rfl (by kernel_rfl) (by decide) (by kernel_rfl) (by decide) (by decide) (by decide +kernel) (by intro d fin vs; kernel_rfl) (by intro rec fin d m vs; kernel_rfl) (by intro d vs; kernel_rfl)
set_option maxRecDepth 100000 in
theorem bad1 : BadOK ⟨#[104, 111, 109, 101, 59]⟩ := bad_of ⟨#[104, 111, 109, 101]⟩ _ 4 1 rfl (by kernel_rfl) (by decide) (by kernel_rfl) (by decide) (by decide) (by decide +kernel) (by intro d fin vs; kernel_rfl) (by intro rec fin d m vs; kernel_rfl) (by intro d vs; kernel_rfl)
set_option maxRecDepth 100000 in
theorem bad2 : BadOK ⟨#[112, 105, 99, 107, 32, 48, 32, 48, 59]⟩ := bad_of ⟨#[112, 105, 99, 107, 32, 48, 32, 48]⟩ _ 7 2 rfl (by kernel_rfl) (by decide) (by kernel_rfl) (by decide) (by decide) (by decide +kernel) (by intro d fin vs; kernel_rfl) (by intro rec fin d m vs; kernel_rfl) (by intro d vs; kernel_rfl)
set_option maxRecDepth 100000 in
theorem bad3 : BadOK ⟨#[112, 117, 116, 32, 48, 32, 119, 97, 105, 116, 59]⟩ := bad_of ⟨#[112, 117, 116, 32, 48, 32, 119, 97, 105, 116]⟩ _ 6 2 rfl (by kernel_rfl) (by decide) (by kernel_rfl) (by decide) (by decide) (by decide +kernel) (by intro d fin vs; kernel_rfl) (by intro rec fin d m vs; kernel_rfl) (by intro d vs; kernel_rfl)
set_option maxRecDepth 100000 in
theorem bad4 : BadOK ⟨#[119, 97, 105, 116, 32, 120, 59]⟩ := bad_of ⟨#[119, 97, 105, 116, 32, 120]⟩ _ 5 1 rfl (by kernel_rfl) (by decide) (by kernel_rfl) (by decide) (by decide) (by decide +kernel) (by intro d fin vs; kernel_rfl) (by intro rec fin d m vs; kernel_rfl) (by intro d vs; kernel_rfl)
set_option maxRecDepth 100000 in
theorem bad5 : BadOK ⟨#[98, 111, 116, 104, 32, 40, 49, 44, 32, 50, 41, 32, 40, 51, 44, 32, 52, 44, 32, 53, 41, 59]⟩ := bad_of ⟨#[98, 111, 116, 104, 32, 40, 49, 44, 32, 50, 41, 32, 40, 51, 44, 32, 52, 44, 32, 53, 41]⟩ _ 10 5 rfl (by kernel_rfl) (by decide) (by kernel_rfl) (by decide) (by decide) (by decide +kernel) (by intro d fin vs; kernel_rfl) (by intro rec fin d m vs; kernel_rfl) (by intro d vs; kernel_rfl)
set_option maxRecDepth 100000 in
theorem bad6 : BadOK ⟨#[99, 117, 112, 59]⟩ := bad_of ⟨#[99, 117, 112]⟩ _ 0 0 rfl (by kernel_rfl) (by decide) (by kernel_rfl) (by decide) (by decide) (by decide +kernel) (by intro d fin vs; kernel_rfl) (by intro rec fin d m vs; kernel_rfl) (by intro d vs; kernel_rfl)
set_option maxRecDepth 100000 in
theorem bad7 : BadOK ⟨#[103, 111, 32, 48, 32, 40, 49, 44, 32, 50, 44, 32, 51, 59]⟩ := bad_of ⟨#[103, 111, 32, 48, 32, 40, 49, 44, 32, 50, 44, 32, 51]⟩ _ 13 8 rfl (by kernel_rfl) (by decide) (by kernel_rfl) (by decide) (by decide) (by decide +kernel) (by intro d fin vs; kernel_rfl) (by intro rec fin d m vs; kernel_rfl) (by intro d vs; kernel_rfl)
set_option maxRecDepth 100000 in
theorem bad8 : BadOK ⟨#[104, 97, 110, 100, 32, 49, 32, 109, 111, 114, 101, 116, 104, 97, 110, 116, 119, 101, 108, 118, 101, 59]⟩ := bad_of ⟨#[104, 97, 110, 100, 32, 49, 32, 109, 111, 114, 101, 116, 104, 97, 110, 116, 119, 101, 108, 118, 101]⟩ _ 7 2 rfl (by kernel_rfl) (by decide) (by kernel_rfl) (by decide) (by decide) (by decide +kernel) (by intro d fin vs; kernel_rfl) (by intro rec fin d m vs; kernel_rfl) (by intro d vs; kernel_rfl)
set_option maxRecDepth 100000 in
theorem bad9 : BadOK ⟨#[59]⟩ := bad_of ⟨#[]⟩ _ 0 0 rfl (by kernel_rfl) (by decide) (by kernel_rfl) (by decide) (by decide) (by decide +kernel) (by intro d fin vs; kernel_rfl) (by intro rec fin d m vs; kernel_rfl) (by intro d vs; kernel_rfl)
/-- a round at a malformed statement -/
theorem bad_round {w : ByteArray} {tsw : List S44} {p : Int} {j : Nat} {fin d m : Int} {vs : List S44} {out : List S55} {k : Nat} (hm0 : 0 ≤ m) (hm : m + 1 ≤ 64) (ho : out.length ≤ 1000) (hl : (moved d tsw ++ vs).length ≤ 1000000)
    (h1 : isSign ⟨#[125]⟩ (lookS fin (moved d tsw ++ vs)) = false ∧ moved d tsw ++ vs ≠ [])
    (h2 : ∀ (rec : Int → Rs → Option (List S55 × Rs)) (m : Int), stmtS rec fin 0 ⟨moved d tsw ++ vs, m, [], false⟩ = some (.error (110, p + d), ⟨moved d (tsw.drop j) ++ vs, m, [], false⟩)) (h3 : skipS (moved d (tsw.drop j) ++ vs) = vs) :
    stmtsS fin (k + 1) 0 ⟨moved d tsw ++ vs, m, [], false⟩ out = stmtsS fin k 0 ⟨vs, m + 1, [⟨110, p + d⟩], false⟩ out := by
  have hw : wrap64 (m + 1) = m + 1 := by unfold wrap64; omega
  have hlen : (moved d (tsw.drop j) ++ vs).length ≤ 1000000 := by
    simp only [moved, List.length_append, List.length_map, List.length_drop] at hl ⊢
    omega
  rw [stmtsS]
  rw [if_neg (by simp only [Bool.false_eq_true, false_or]; exact h1.2), if_neg (by simp only; rw [h1.1]; decide)]
  simp only [hw]
  rw [if_neg (by omega), if_neg (by omega)]
  unfold oneS
  rw [h2]
  simp only [Option.bind_some, Bool.false_eq_true, if_false]
  rw [if_neg (by simp only [List.length_nil]; omega)]
  simp only [Option.bind_some, recS, tellS, h3]
  rfl
theorem SimL.append {a b c d : List S55} (h : SimL a b) (g : SimL c d) : SimL (a ++ c) (b ++ d) := by
  induction h with
  | nil => exact g
  | cons h0 h1 h2 h3 h4 h5 hk _ _ ih => exact .cons h0 h1 h2 h3 h4 h5 hk ih
/-- a malformed statement between valid ones: one fault, in it; the others stay -/
theorem rec_facts {l : List S55} {n : Nat} {ks : List (Int × ByteArray)} (h : VLs 4 l n ks) (hn : n ≤ 60) (q : Nat) {w : ByteArray} (hb : BadOK w) :
    ∃ o1 o2 a p, EvalsTo (fun k => parser_Format.f k (l.take q)) o1 ∧ EvalsTo (fun k => parser_Format.f k (l.drop q)) o2 ∧ o1.size ≤ 20000 ∧ o2.size ≤ 20000 ∧ EvalsTo (fun k => parser_Parse.f k ((o1 ++ w) ++ o2)) (a, [⟨110, p⟩]) ∧ SimL a l ∧ (o1.size : Int) ≤ p ∧ p < (o1.size : Int) + w.size := by
  obtain ⟨n1, n2, k1, k2, v1, v2, hsum⟩ := h.split q
  obtain ⟨o1, f1, ⟨t1, g1, e1⟩, s1⟩ := format_okK v1 (by decide) (by omega)
  obtain ⟨o2, f2, ⟨t2, g2, e2⟩, s2⟩ := format_okK v2 (by decide) (by omega)
  obtain ⟨hsz, tsw, p, j, gw, hp0, hp1, htl, hb1, hb2⟩ := hb
  have hT : (o1 ++ w).size = o1.size + w.size := ByteArray.size_append
  have hT2 : ((o1 ++ w) ++ o2).size = o1.size + w.size + o2.size := by rw [ByteArray.size_append, hT]
  have hlex := ((g1.append gw (fun e => by cases e)).append g2 (fun e => by cases e)).lex (by omega)
  rw [List.append_assoc] at hlex
  have hok := lex_ok ((o1 ++ w) ++ o2)
  have hln := lexB_len ((o1 ++ w) ++ o2)
  rw [hlex] at hok hln
  simp only at hok hln
  have hb1' := hb1 o1.size ((o1 ++ w) ++ o2).size (moved (o1 ++ w).size t2)
  obtain ⟨l1, sim1, run1⟩ := parse_front v1 (by omega) (by decide) (fin := ((o1 ++ w) ++ o2).size) hok e1 (.inr hb1'.1)
  have hok2 : TokOK (moved (o1 ++ w).size t2) := fun t ht => hok t (List.mem_append_right _ (List.mem_append_right _ ht))
  obtain ⟨l2, sim2, run2⟩ := parse_front v2 (by omega) (by decide) (fin := ((o1 ++ w) ++ o2).size) (ts := moved (o1 ++ w).size t2) (vs := []) (by simpa using hok2) (by rw [kt_moved, e2]) (.inl rfl)
  have hl1 := vls_len v1
  have hl2 := vls_len v2
  have hll1 : l1.length = (l.take q).length := sim1.len.symm
  rw [List.append_nil] at run2
  obtain ⟨K2, r2⟩ := run2 (n1 + 1) [⟨110, p + o1.size⟩] l1 (l1 ++ l2, ⟨[], (n1 : Int) + 1 + n2, [⟨110, p + o1.size⟩], false⟩) 1 (by omega) (by omega) (by omega) (by rw [stmtsS, if_pos (.inr rfl)])
  have r1 := bad_round (w := w) (tsw := tsw) (p := p) (j := j) (fin := ((o1 ++ w) ++ o2).size) (d := o1.size) (m := n1) (vs := moved (o1 ++ w).size t2) (out := l1) (k := K2) (by omega) (by omega) (by omega) (by
    simp only [List.length_append] at hln ⊢
    omega) hb1' (fun rec m => (hb2 rec _ _ m _).1) (hb2 (fun _ _ => none) ((o1 ++ w) ++ o2).size o1.size 0 _).2
  rw [r2] at r1
  obtain ⟨K1, r0⟩ := run1 0 [] [] _ (K2 + 1) (Int.le_refl _) (by omega) (by simp only [List.length_nil]; omega) (by rw [List.nil_append, Int.zero_add]; exact r1)
  have hsim : SimL (l1 ++ l2) l := by
    have := SimL.append sim1 sim2
    rw [List.take_append_drop] at this
    exact this.symm
  refine ⟨o1, o2, l1 ++ l2, p + o1.size, f1, f2, by omega, by omega, ⟨K1, fun k hk => ?_⟩, hsim, by omega, by omega⟩
  show parser_Parse.f k _ = _
  unfold parser_Parse.f
  rw [hlex]
  simp only [if_true]
  rw [stmts_lift hk r0]
  rfl
end Go.Proofs.YtonhcfecfifghaaDoor.PPx
namespace Go.Proofs.YtonhcfecfifghaaDoor.PPx
open Go.RowKit Go.Proofs.YtonhcfecfifghaaDoorW.PrintWords Go.Proofs.YtonhcfecfifghaaDoorW.PrintLast Go.Proofs.YtonhcfecfifghaaDoorW.PrintMore
set_option linter.unusedVariables false
set_option linter.unusedSimpArgs false
mutual
def ambidexterref11_Count.l0 : Nat → List (S55) → Int → Int → Option (Int)
  | 0, _, _, _ => none
  | k + 1, x0, x3, x4 => if x4 < (x0.length : Int) then (if 0 ≤ x4 then ((ambidexterref11_Count.f k ((rd_T55 x0 x4).f6)).bind fun t184 => (ambidexterref11_Count.l0 k x0 (wrap64 (x3 + t184)) (wrap64 (x4 + 1)))) else (none)) else (some x3)
def ambidexterref11_Count.f : Nat → List (S55) → Option (Int)
  | 0, _ => none
  | k + 1, l0 => ambidexterref11_Count.l0 k l0 (l0.length : Int) 0
end
theorem ambidexterref11_Count.mono_l : ∀ k, (∀ y0, LeO (ambidexterref11_Count.f k y0) (ambidexterref11_Count.f (k + 1) y0)) ∧ (∀ y0 y1 y2, LeO (ambidexterref11_Count.l0 k y0 y1 y2) (ambidexterref11_Count.l0 (k + 1) y0 y1 y2))
  | 0 => ⟨fun _ r h => by simp [ambidexterref11_Count.f] at h, fun _ _ _ r h => by simp [ambidexterref11_Count.l0] at h⟩
  | k + 1 => by
    obtain ⟨ih0, ih1⟩ := ambidexterref11_Count.mono_l k
    refine ⟨?_, ?_⟩
    · intro y0
      unfold ambidexterref11_Count.f
      repeat' first
      | (with_reducible exact ih0 _)
      | (with_reducible exact ih1 _ _ _)
      | (with_reducible exact LeO.refl _)
      | (with_reducible exact LeO.none _)
      | (with_reducible refine LeO.ite ?_ ?_)
      | (with_reducible refine LeO.bind ?_ (fun _ => ?_))
      | exact ih0 _
      | exact ih1 _ _ _
      | exact LeO.none _
      | refine LeO.ite ?_ ?_
      | refine LeO.bind ?_ (fun _ => ?_)
    · intro y0 y1 y2
      unfold ambidexterref11_Count.l0
      repeat' first
      | (with_reducible exact ih0 _)
      | (with_reducible exact ih1 _ _ _)
      | (with_reducible exact LeO.refl _)
      | (with_reducible exact LeO.none _)
      | (with_reducible refine LeO.ite ?_ ?_)
      | (with_reducible refine LeO.bind ?_ (fun _ => ?_))
      | exact ih0 _
      | exact ih1 _ _ _
      | exact LeO.none _
      | refine LeO.ite ?_ ?_
      | refine LeO.bind ?_ (fun _ => ?_)
theorem ambidexterref11_Count.mono : ∀ a0 k, LeO (ambidexterref11_Count.f k a0) (ambidexterref11_Count.f (k + 1) a0) := by
  intro a0 k
  obtain ⟨ih0, ih1⟩ := ambidexterref11_Count.mono_l k
  exact ih0 a0
set_option maxHeartbeats 8000000 in
set_option maxRecDepth 100000 in
theorem ambidexterref11_Count.calls (k : Nat) : ∀ (A0 : Option Addr) (c0 : Nat) (l0 : List (S55)) (r : Int) (w : World) (hr0 : Kd.C k55 w A0 l0.length l0) (hc0 : l0.length ≤ c0) (h : ambidexterref11_Count.f k l0 = some r),
    Calls Tryd.prog 16 #[.slice A0 l0.length c0] w fun e w' => e = .returned (.int .i64 r) ∧ Drawn0 w w' := by
  induction k using Nat.strongRecOn with
  | _ k ih =>
  intro A0 c0 l0 r w hr0 hc0 h
  cases k with
  | zero => exact absurd h (by simp [ambidexterref11_Count.f])
  | succ k =>
  simp only [ambidexterref11_Count.f] at h
  have HR0 := Aside0.mk hr0
  have HC0 := Aside0.mk hc0
  clear hr0 hc0
  have H : (ambidexterref11_Count.l0 k l0 (l0.length : Int) 0) = some r := h
  clear h
  have H' := Aside0.mk H
  clear H
  go_enter Tryd.func16, Tryd.ntmps16
  go_wp2
  go_loopg [3, 4] k (fun kq v3 v4 w' => ∃ (x3_1 : Int) (x4_1 : Int), v3 = .int .i64 x3_1 ∧ v4 = .int .i64 x4_1 ∧ Aside0 (ambidexterref11_Count.l0 kq l0 x3_1 x4_1 = some r) ∧ Aside0 (kq ≤ k) ∧ Drawn0 w w')
  case atStart => exact ⟨((l0.length : Int)), (0), (by first | rfl | (simp; done) | (simp [*]; done)), (by first | rfl | (simp; done) | (simp [*]; done)), H', ⟨Nat.le_refl _⟩, by repeat (first | exact Drawn0.refl _ | apply Drawn0.step)⟩
  case round =>
    clear H'
    try clear c1
    obtain ⟨x3_1, x4_1, rfl, rfl, HA, HK1, ⟨m1, rfl⟩⟩ := hrel
    cases gk with
    | zero => exact absurd HA.out (by simp [ambidexterref11_Count.l0])
    | succ k1 =>
      have H := HA.out
      clear HA
      simp only [ambidexterref11_Count.l0] at H
      by_cases c2 : x4_1 < (l0.length : Int)
      · rw [if_pos c2] at H
        have c2b0 : decide (x4_1 < (l0.length : Int)) = true := decide_eq_true c2
        clear c2
        by_cases c3 : 0 ≤ x4_1
        · rw [if_pos c3] at H
          have c3b0 : decide (0 ≤ x4_1) = true := decide_eq_true c3
          clear c3
          replace H := Option.bind_eq_some_iff.mp H
          obtain ⟨t184, A40, H⟩ := H
          replace H : (ambidexterref11_Count.l0 k1 l0 (wrap64 (x3_1 + t184)) (wrap64 (x4_1 + 1))) = some r := H
          have A4 := Aside0.mk A40
          clear A40
          have H' := Aside0.mk H
          clear H
          have p183 : 0 ≤ (x4_1 : Int) := of_decide_eq_true (by first | (with_reducible assumption) | assumption)
          have q183 : x4_1 < (l0.length : Int) := of_decide_eq_true (by first | (with_reducible assumption) | assumption)
          obtain ⟨ad183, A183_11, c183_11, e183, hx183_0, hx183_1, hx183_2, hx183_3, hx183_4, hx183_5, hx183_6, hx183_7, hx183_8, hx183_9, hx183_10, hx183_11, hx183_12, hl183_11, hi183_11⟩ := at_T55 HR0.out x4_1 p183 q183
          cases e183
          have HR183_11 := Aside0.mk hi183_11
          have HC183_11 := Aside0.mk hl183_11
          clear hi183_11 hl183_11
          replace p183 := eq_true p183
          replace q183 := eq_true q183
          go_wp2_with (first | ((with_reducible refine gate_callee (f := 16) rfl ?_); refine goesL_ (some 19) rfl rfl Tryd.func16 (by kernel_rfl) rfl #[.slice A183_11 ((rd_T55 l0 x4_1).f6).length c183_11] rfl (by (try simp only [List.map_toArray, List.map_cons, List.map_nil]); first | done | rfl | (simp only [List.length_drop, List.length_take]; rfl)) ?_; (with_reducible refine (ih k1 (by have := HK1.out; omega) _ _ ((rd_T55 l0 x4_1).f6) t184 _ ?side1 ?side2 A4.out).mono ?_); (case side1 => repeat (first | exact HR183_11.out | (with_reducible refine Kd.C_alloc ?_ _) | (with_reducible refine Kd.C_drewN ?_ _) | (with_reducible refine Kd.C_drew ?_))); (case side2 => exact HC183_11.out); rintro e w' ⟨rfl, ⟨nd, rfl⟩⟩; refine ⟨_, rfl, ?_⟩))
          go_roundg k1
          case measure => have := HK1.out; omega
          case rel => exact ⟨(wrap64 (x3_1 + t184)), (wrap64 (x4_1 + 1)), (by first | rfl | (simp; done) | (simp [*]; done)), (by first | rfl | (simp; done) | (simp [*]; done)), H', ⟨by have := HK1.out; omega⟩, by repeat (first | exact Drawn0.refl _ | apply Drawn0.step)⟩
        · rw [if_neg c3] at H
          exact absurd H (by simp)
      · rw [if_neg c2] at H
        have c2b0 : decide (x4_1 < (l0.length : Int)) = false := decide_eq_false c2
        clear c2
        obtain rfl := Option.some.inj H
        go_wp2
        go_ret
        exact ⟨by first | rfl | (simp; done) | (simp [*]; done), by repeat (first | exact Drawn0.refl _ | apply Drawn0.step)⟩
end Go.Proofs.YtonhcfecfifghaaDoor.PPx
namespace Go.Proofs.YtonhcfecfifghaaDoor.PPx
open Go.RowKit Go.Proofs.YtonhcfecfifghaaDoorW.PrintWords Go.Proofs.YtonhcfecfifghaaDoorW.PrintLast Go.Proofs.YtonhcfecfifghaaDoorW.PrintMore
set_option linter.unusedVariables false
/-- lists of at most 100 statements, nested so deep -/
def Lens : Nat → List S55 → Prop
  | 0, l => l = []
  | d + 1, l => l.length ≤ 100 ∧ ∀ x ∈ l, Lens d x.f6
theorem rcount_step (k : Nat) (n : Int) (pre l : List S55) (x : S55) (hp : (pre.length : Int) ≤ 1000) : ambidexterref11_Count.l0 (k + 1) (pre ++ x :: l) n pre.length = (ambidexterref11_Count.f k x.f6).bind fun t => ambidexterref11_Count.l0 k ((pre ++ [x]) ++ l) (wrap64 (n + t)) ((pre ++ [x]).length : Int) := by
  rw [ambidexterref11_Count.l0, if_pos (by simp only [List.length_append, List.length_cons]; omega), if_pos (by omega), rd_mid]
  have hi : wrap64 ((pre.length : Int) + 1) = ((pre ++ [x]).length : Int) := by
    simp only [List.length_append, List.length_cons, List.length_nil]
    unfold wrap64; omega
  rw [hi, List.append_assoc, List.singleton_append]
theorem rcount_end (k : Nat) (n : Int) (l : List S55) : ambidexterref11_Count.l0 (k + 1) l n l.length = some n := by
  rw [ambidexterref11_Count.l0, if_neg (Int.lt_irrefl _)]
theorem rcount_total : ∀ (d : Nat) (l : List S55), Lens d l → ∃ r, EvalsTo (fun k => ambidexterref11_Count.f k l) r
  | 0, l, h => by
    have h : l = [] := h
    subst h
    refine ⟨0, EvalsTo.shift (j := 2) (EvalsTo.const 0) fun k => ?_⟩
    rw [ambidexterref11_Count.f]
    exact rcount_end k 0 []
  | d + 1, l, h => by
    have ih := rcount_total d
    have key : ∀ (l pre : List S55) (n : Int), pre.length + l.length ≤ 100 → (∀ x ∈ l, Lens d x.f6) → ∃ r, EvalsTo (fun k => ambidexterref11_Count.l0 k (pre ++ l) n pre.length) r := by
      intro l
      induction l with
      | nil =>
        intro pre n hp _
        refine ⟨n, EvalsTo.shift (j := 1) (EvalsTo.const n) fun k => ?_⟩
        rw [List.append_nil]
        exact rcount_end k n pre
      | cons x l il =>
        intro pre n hp hx
        obtain ⟨t, ht⟩ := ih x.f6 (hx x List.mem_cons_self)
        obtain ⟨r, hr⟩ := il (pre ++ [x]) (wrap64 (n + t)) (by simp only [List.length_append, List.length_cons, List.length_nil] at hp ⊢; omega) (fun z hz => hx z (List.mem_cons_of_mem _ hz))
        simp only [List.length_cons] at hp
        exact ⟨r, EvalsTo.shift (j := 1) (EvalsTo.bind (g := fun k t => ambidexterref11_Count.l0 k ((pre ++ [x]) ++ l) (wrap64 (n + t)) ((pre ++ [x]).length : Int)) ht hr) fun k => rcount_step k n pre l x (by omega)⟩
    obtain ⟨r, hr⟩ := key l [] l.length (by simpa using h.1) h.2
    refine ⟨r, EvalsTo.shift (j := 1) hr fun k => ?_⟩
    rw [ambidexterref11_Count.f]
    rfl
/-- Count of valid statements -/
theorem rcount_ok {d m : Nat} {l : List S55} {ks : List (Int × ByteArray)} (h : VLs d l m ks) : m ≤ 1000 → EvalsTo (fun k => ambidexterref11_Count.f k l) (m : Int) := by
  have key : ∀ {d m : Nat} {l : List S55} {ks : List (Int × ByteArray)}, VLs d l m ks → ∀ (pre : List S55) (n : Int), 0 ≤ n → n + m ≤ 10000 → m ≤ 1000 → pre.length + m ≤ 1000 → EvalsTo (fun k => ambidexterref11_Count.l0 k (pre ++ l) n pre.length) (n + m - l.length) := by
    intro d m l ks h
    induction h with
    | nil d =>
      intro pre n h0 h1 hm hp
      refine EvalsTo.shift (j := 1) (EvalsTo.const _) fun k => ?_
      rw [List.append_nil]
      have := rcount_end k n pre
      rw [this]; simp
    | @plain d m x l ks hx h7 hl il =>
      intro pre n h0 h1 hm hp
      have h6 : x.f6 = [] := by cases hx <;> first | rfl | exact absurd rfl h7
      have hr := il (pre ++ [x]) n h0 (by omega) (by omega) (by simp only [List.length_append, List.length_cons, List.length_nil]; omega)
      have ht : EvalsTo (fun k => ambidexterref11_Count.f k x.f6) 0 := by
        rw [h6]
        refine EvalsTo.shift (j := 2) (EvalsTo.const 0) fun k => ?_
        rw [ambidexterref11_Count.f]
        exact rcount_end k 0 []
      have hw : wrap64 (n + 0) = n := by unfold wrap64; omega
      have := EvalsTo.shift (g := fun k => ambidexterref11_Count.l0 k (pre ++ x :: l) n pre.length) (j := 1) (EvalsTo.bind (g := fun k t => ambidexterref11_Count.l0 k ((pre ++ [x]) ++ l) (wrap64 (n + t)) ((pre ++ [x]).length : Int)) ht (by simp only [hw]; exact hr)) fun k => rcount_step k n pre l x (by omega)
      have e : n + ((m + 1 : Nat) : Int) - ((x :: l).length : Int) = n + (m : Int) - l.length := by simp only [List.length_cons]; omega
      rw [e]
      exact this
    | @when_ d m1 m2 x l ks ls hx h7 hkd hl ihk ihl =>
      intro pre n h0 h1 hm hp
      have hkl := vls_len hkd
      have hll := vls_len hl
      have hk := ihk [] x.f6.length (by omega) (by omega) (by omega) (by simp only [List.length_nil]; omega)
      have ht : EvalsTo (fun k => ambidexterref11_Count.f k x.f6) (m2 : Int) := by
        have h2 : EvalsTo (fun k => ambidexterref11_Count.f k x.f6) ((x.f6.length : Int) + m2 - x.f6.length) := EvalsTo.shift (j := 1) hk fun k => by rw [ambidexterref11_Count.f]; rfl
        rw [show (x.f6.length : Int) + m2 - x.f6.length = (m2 : Int) by omega] at h2
        exact h2
      have hr := ihl (pre ++ [x]) (n + m2) (by omega) (by omega) (by omega) (by simp only [List.length_append, List.length_cons, List.length_nil]; omega)
      have hw : wrap64 (n + (m2 : Int)) = n + m2 := by unfold wrap64; omega
      have := EvalsTo.shift (g := fun k => ambidexterref11_Count.l0 k (pre ++ x :: l) n pre.length) (j := 1) (EvalsTo.bind (g := fun k t => ambidexterref11_Count.l0 k ((pre ++ [x]) ++ l) (wrap64 (n + t)) ((pre ++ [x]).length : Int)) ht (by simp only [hw]; exact hr)) fun k => rcount_step k n pre l x (by omega)
      have e : n + ((m1 + m2 + 1 : Nat) : Int) - ((x :: l).length : Int) = n + m2 + (m1 : Int) - l.length := by simp only [List.length_cons]; omega
      rw [e]
      exact this
  intro hm
  have hl := vls_len h
  have h2 : EvalsTo (fun k => ambidexterref11_Count.f k l) ((l.length : Int) + m - l.length) := EvalsTo.shift (j := 1) (key h [] l.length (by omega) (by omega) hm (by simp only [List.length_nil]; omega)) fun k => by rw [ambidexterref11_Count.f]; rfl
  rw [show (l.length : Int) + m - l.length = (m : Int) by omega] at h2
  exact h2
end Go.Proofs.YtonhcfecfifghaaDoor.PPx
namespace Go.Proofs.YtonhcfecfifghaaDoor.PPx
open Go.RowKit Go.Proofs.YtonhcfecfifghaaDoorW.PrintWords Go.Proofs.YtonhcfecfifghaaDoorW.PrintLast Go.Proofs.YtonhcfecfifghaaDoorW.PrintMore
set_option linter.unusedVariables false
set_option linter.unusedSimpArgs false
mutual
def ambidexterlaw11_Few.j0 : Nat → List (S55) → Int → Bool → Option (Bool)
  | 0, _, _, _ => none
  | k + 1, x0, x1, x12 => if x12 = true then (some false) else (ambidexterlaw11_Few.l0 k x0 x1 0)
def ambidexterlaw11_Few.l0 : Nat → List (S55) → Int → Int → Option (Bool)
  | 0, _, _, _ => none
  | k + 1, x0, x1, x5 => if x5 < (x0.length : Int) then (if 0 ≤ x5 then (if (wrap64 ((((rd_T55 x0 x5).f2).size : Int) + (((rd_T55 x0 x5).f3).size : Int))) > 200 then (some false) else ((ambidexterlaw11_Few.f k ((rd_T55 x0 x5).f6) (wrap64 (x1 + 1))).bind fun t188 => (if t188 = true then (ambidexterlaw11_Few.l0 k x0 x1 (wrap64 (x5 + 1))) else (some false)))) else (none)) else (if x1 > 0 then (some true) else ((ambidexterref11_Count.f k x0).bind fun t189 => (some (decide (t189 ≤ 100)))))
def ambidexterlaw11_Few.f : Nat → List (S55) → Int → Option (Bool)
  | 0, _, _ => none
  | k + 1, l0, a1 => if a1 > 8 then (ambidexterlaw11_Few.j0 k l0 a1 true) else (ambidexterlaw11_Few.j0 k l0 a1 (decide ((l0.length : Int) > 100)))
end
theorem ambidexterlaw11_Few.mono_l : ∀ k, (∀ y0 y1, LeO (ambidexterlaw11_Few.f k y0 y1) (ambidexterlaw11_Few.f (k + 1) y0 y1)) ∧ (∀ y0 y1 y2, LeO (ambidexterlaw11_Few.j0 k y0 y1 y2) (ambidexterlaw11_Few.j0 (k + 1) y0 y1 y2)) ∧ (∀ y0 y1 y2, LeO (ambidexterlaw11_Few.l0 k y0 y1 y2) (ambidexterlaw11_Few.l0 (k + 1) y0 y1 y2))
  | 0 => ⟨fun _ _ r h => by simp [ambidexterlaw11_Few.f] at h, fun _ _ _ r h => by simp [ambidexterlaw11_Few.j0] at h, fun _ _ _ r h => by simp [ambidexterlaw11_Few.l0] at h⟩
  | k + 1 => by
    obtain ⟨ih0, ih1, ih2⟩ := ambidexterlaw11_Few.mono_l k
    refine ⟨?_, ?_, ?_⟩
    · intro y0 y1
      unfold ambidexterlaw11_Few.f
      repeat' first
      | (with_reducible exact ih0 _ _)
      | (with_reducible exact ih1 _ _ _)
      | (with_reducible exact ih2 _ _ _)
      | (with_reducible exact ambidexterref11_Count.mono _ _)
      | (with_reducible exact LeO.refl _)
      | (with_reducible exact LeO.none _)
      | (with_reducible refine LeO.ite ?_ ?_)
      | (with_reducible refine LeO.bind ?_ (fun _ => ?_))
      | exact ih0 _ _
      | exact ih1 _ _ _
      | exact ih2 _ _ _
      | exact ambidexterref11_Count.mono _ _
      | exact LeO.none _
      | refine LeO.ite ?_ ?_
      | refine LeO.bind ?_ (fun _ => ?_)
    · intro y0 y1 y2
      unfold ambidexterlaw11_Few.j0
      repeat' first
      | (with_reducible exact ih0 _ _)
      | (with_reducible exact ih1 _ _ _)
      | (with_reducible exact ih2 _ _ _)
      | (with_reducible exact ambidexterref11_Count.mono _ _)
      | (with_reducible exact LeO.refl _)
      | (with_reducible exact LeO.none _)
      | (with_reducible refine LeO.ite ?_ ?_)
      | (with_reducible refine LeO.bind ?_ (fun _ => ?_))
      | exact ih0 _ _
      | exact ih1 _ _ _
      | exact ih2 _ _ _
      | exact ambidexterref11_Count.mono _ _
      | exact LeO.none _
      | refine LeO.ite ?_ ?_
      | refine LeO.bind ?_ (fun _ => ?_)
    · intro y0 y1 y2
      unfold ambidexterlaw11_Few.l0
      repeat' first
      | (with_reducible exact ih0 _ _)
      | (with_reducible exact ih1 _ _ _)
      | (with_reducible exact ih2 _ _ _)
      | (with_reducible exact ambidexterref11_Count.mono _ _)
      | (with_reducible exact LeO.refl _)
      | (with_reducible exact LeO.none _)
      | (with_reducible refine LeO.ite ?_ ?_)
      | (with_reducible refine LeO.bind ?_ (fun _ => ?_))
      | exact ih0 _ _
      | exact ih1 _ _ _
      | exact ih2 _ _ _
      | exact ambidexterref11_Count.mono _ _
      | exact LeO.none _
      | refine LeO.ite ?_ ?_
      | refine LeO.bind ?_ (fun _ => ?_)
theorem ambidexterlaw11_Few.mono : ∀ a0 a1 k, LeO (ambidexterlaw11_Few.f k a0 a1) (ambidexterlaw11_Few.f (k + 1) a0 a1) := by
  intro a0 a1 k
  obtain ⟨ih0, ih1, ih2⟩ := ambidexterlaw11_Few.mono_l k
  exact ih0 a0 a1
def ambidexterlaw11_Few.T6 : Bool × List (List Nat × List Nat) := (true, [([], []), ([], []), ([0, 1], [0, 1]), ([2], [2]), ([3], [3]), ([4], [4]), ([], []), ([], []), ([6, 7], [6, 7]), ([8], [8]), ([9], [9]), ([10], [10]), ([5, 11], [5, 11]), ([12], [12]), ([13], [13]), ([14], [14]), ([14], [14]), ([15, 16, 14], [14, 15, 16]), ([17, 14], [14, 17]), ([18, 14], [14, 18]), ([14], [14]), ([20, 14], [14, 20]), ([19, 21, 14, 14], [14, 19, 21]), ([22, 14], [14, 22]), ([14, 23], [14, 23])])
def ambidexterlaw11_Few.B6 : List Nat := [0, 0, 3, 7, 15, 31, 0, 0, 192, 448, 960, 1984, 4095, 8191, 16383, 32767, 32767, 131071, 262143, 524287, 32767, 1081343, 4194303, 8388607, 16777215]
theorem ambidexterlaw11_Few.tab6 : rtab .any (opsOf Tryd.f10 6) = ambidexterlaw11_Few.T6 := by kernel_rfl
theorem ambidexterlaw11_Few.bits6 : waitsOk ambidexterlaw11_Few.T6.2 ambidexterlaw11_Few.B6 = true := by kernel_rfl
set_option maxHeartbeats 8000000 in
set_option maxRecDepth 100000 in
theorem ambidexterlaw11_Few.calls (k : Nat) : ∀ (A0 : Option Addr) (c0 : Nat) (l0 : List (S55)) (a1 : Int) (r : Bool) (w : World) (hr0 : Kd.C k55 w A0 l0.length l0) (hc0 : l0.length ≤ c0) (h : ambidexterlaw11_Few.f k l0 a1 = some r),
    Calls Tryd.prog 10 #[.slice A0 l0.length c0, .int .i64 a1] w fun e w' => e = .returned (.bool r) ∧ Below w.heap.size w w' := by
  induction k using Nat.strongRecOn with
  | _ k ih =>
  intro A0 c0 l0 a1 r w hr0 hc0 h
  cases k with
  | zero => exact absurd h (by simp [ambidexterlaw11_Few.f])
  | succ k =>
  simp only [ambidexterlaw11_Few.f] at h
  have HR0 := Aside0.mk hr0
  have HC0 := Aside0.mk hc0
  clear hr0 hc0
  have HB := Aside0.mk (Below.refl w.heap.size w)
  have H : (if a1 > 8 then (ambidexterlaw11_Few.j0 k l0 a1 true) else (ambidexterlaw11_Few.j0 k l0 a1 (decide ((l0.length : Int) > 100)))) = some r := h
  clear h
  have HC3 := Aside0.mk H
  clear H
  go_enter Tryd.func10, Tryd.ntmps10
  go_upto_region 1 with (fail)
  go_cut [12] (fun v12 wc => ∃ (kq : Nat) (x12_2 : Bool), v12 = .bool x12_2 ∧ Aside0 (ambidexterlaw11_Few.j0 kq l0 a1 x12_2 = some r) ∧ Aside0 (kq ≤ k) ∧ Aside0 (Below w.heap.size w wc))
  case first =>
    have H := HC3.out
    clear HC3
    by_cases c4 : a1 > 8
    · rw [if_pos c4] at H
      have c4b0 : decide (8 < a1) = true := decide_eq_true c4
      clear c4
      (first | rw [c4b0] | (simp only [i64_w, i32_w]; rw [c4b0]) | skip)
      have H' := Aside0.mk H
      clear H
      go_wp2
      go_meet
      case rel => exact ⟨_, (true), (by first | rfl | (simp; done) | (simp [*]; done)), H', ⟨by first | omega | exact Nat.le_refl _⟩, ⟨by repeat (first | (with_reducible first | exact HB.out | apply below_alloc | apply pw_below_drewN | apply below_drew1) | exact HB.out)⟩⟩
    · rw [if_neg c4] at H
      have c4b0 : decide (8 < a1) = false := decide_eq_false c4
      clear c4
      (first | rw [c4b0] | (simp only [i64_w, i32_w]; rw [c4b0]) | skip)
      have H' := Aside0.mk H
      clear H
      go_wp2
      go_meet
      case rel => exact ⟨_, (decide ((l0.length : Int) > 100)), (by first | rfl | (simp; done) | (simp [*]; done)), H', ⟨by first | omega | exact Nat.le_refl _⟩, ⟨by repeat (first | (with_reducible first | exact HB.out | apply below_alloc | apply pw_below_drewN | apply below_drew1) | exact HB.out)⟩⟩
  case rest =>
    clear HC3
    try clear c1
    try clear p2
    try clear c4
    try clear c4b0
    obtain ⟨kq, x12_2, rfl, HA, HJ2, HB⟩ := hcut
    cases kq with
    | zero => exact absurd HA.out (by simp [ambidexterlaw11_Few.j0])
    | succ kj2 =>
      have H := HA.out
      clear HA
      simp only [ambidexterlaw11_Few.j0] at H
      by_cases c5 : x12_2 = true
      · subst c5
        have H1 : (some false) = some r := by rw [if_pos rfl] at H; exact H
        clear H
        have H := H1
        clear H1
        obtain rfl := Option.some.inj H
        go_wp2
        go_ret
        exact ⟨by first | rfl | (simp [errW_none, errW_some] <;> rfl) | (simp [*, errW_none, errW_some] <;> rfl), by repeat (first | (with_reducible first | exact HB.out | apply below_alloc | apply pw_below_drewN | apply below_drew1) | exact HB.out)⟩
      · replace c5 := Bool.eq_false_iff.mpr c5
        subst c5
        have H1 : (ambidexterlaw11_Few.l0 kj2 l0 a1 0) = some r := by rw [if_neg (show ¬ (false = true) by decide)] at H; exact H
        clear H
        have H := H1
        clear H1
        have H' := Aside0.mk H
        clear H
        go_wp2
        go_loopg [5] kj2 (fun kq v5 w' => ∃ (x5_2 : Int), v5 = .int .i64 x5_2 ∧ Aside0 (ambidexterlaw11_Few.l0 kq l0 a1 x5_2 = some r) ∧ Aside0 (kq ≤ kj2) ∧ Aside0 (Below w.heap.size w w'))
        case atStart => exact ⟨(0), (by first | rfl | (simp; done) | (simp [*]; done)), H', ⟨Nat.le_refl _⟩, ⟨by repeat (first | (with_reducible first | exact HB.out | apply below_alloc | apply pw_below_drewN | apply below_drew1) | exact HB.out)⟩⟩
        case round =>
          clear H'
          try clear c1
          try clear p2
          try clear c4
          try clear c4b0
          try clear c5
          try clear p2
          obtain ⟨x5_2, rfl, HA, HK2, HB⟩ := hrel
          cases gk with
          | zero => exact absurd HA.out (by simp [ambidexterlaw11_Few.l0])
          | succ k2 =>
            have H := HA.out
            clear HA
            simp only [ambidexterlaw11_Few.l0] at H
            by_cases c6 : x5_2 < (l0.length : Int)
            · rw [if_pos c6] at H
              have c6b0 : decide (x5_2 < (l0.length : Int)) = true := decide_eq_true c6
              clear c6
              by_cases c7 : 0 ≤ x5_2
              · rw [if_pos c7] at H
                have c7b0 : decide (0 ≤ x5_2) = true := decide_eq_true c7
                clear c7
                by_cases c8 : (wrap64 ((((rd_T55 l0 x5_2).f2).size : Int) + (((rd_T55 l0 x5_2).f3).size : Int))) > 200
                · rw [if_pos c8] at H
                  have c8b0 : decide (200 < (wrap64 ((((rd_T55 l0 x5_2).f2).size : Int) + (((rd_T55 l0 x5_2).f3).size : Int)))) = true := decide_eq_true c8
                  clear c8
                  obtain rfl := Option.some.inj H
                  try go_wp2
                  have n0_ := Aside0.mk (below_drew1 HB.out)
                  clear HB
                  have HB := n0_
                  clear n0_
                  have p185 : 0 ≤ (x5_2 : Int) := of_decide_eq_true (by first | (with_reducible assumption) | assumption)
                  have q185 : x5_2 < (l0.length : Int) := of_decide_eq_true (by first | (with_reducible assumption) | assumption)
                  obtain ⟨ad185, A185_11, c185_11, e185, hx185_0, hx185_1, hx185_2, hx185_3, hx185_4, hx185_5, hx185_6, hx185_7, hx185_8, hx185_9, hx185_10, hx185_11, hx185_12, hl185_11, hi185_11⟩ := at_T55 HR0.out x5_2 p185 q185
                  have hw185_12 := hx185_12
                  have hw185_11 := hx185_11
                  have hw185_10 := hx185_10
                  have hw185_9 := hx185_9
                  have hw185_8 := hx185_8
                  have hw185_7 := hx185_7
                  have hw185_6 := hx185_6
                  have hw185_5 := hx185_5
                  have hw185_4 := hx185_4
                  have hw185_3 := hx185_3
                  have hw185_2 := hx185_2
                  have hw185_1 := hx185_1
                  have hw185_0 := hx185_0
                  cases e185
                  replace hx185_0 := (HB.out.cell (World.block_lt_of_cell? w _ hx185_0)).trans hx185_0
                  replace hx185_1 := (HB.out.cell (World.block_lt_of_cell? w _ hx185_1)).trans hx185_1
                  replace hx185_2 := (HB.out.cell (World.block_lt_of_cell? w _ hx185_2)).trans hx185_2
                  replace hx185_3 := (HB.out.cell (World.block_lt_of_cell? w _ hx185_3)).trans hx185_3
                  replace hx185_4 := (HB.out.cell (World.block_lt_of_cell? w _ hx185_4)).trans hx185_4
                  replace hx185_5 := (HB.out.cell (World.block_lt_of_cell? w _ hx185_5)).trans hx185_5
                  replace hx185_6 := (HB.out.cell (World.block_lt_of_cell? w _ hx185_6)).trans hx185_6
                  replace hx185_7 := (HB.out.cell (World.block_lt_of_cell? w _ hx185_7)).trans hx185_7
                  replace hx185_8 := (HB.out.cell (World.block_lt_of_cell? w _ hx185_8)).trans hx185_8
                  replace hx185_9 := (HB.out.cell (World.block_lt_of_cell? w _ hx185_9)).trans hx185_9
                  replace hx185_10 := (HB.out.cell (World.block_lt_of_cell? w _ hx185_10)).trans hx185_10
                  replace hx185_11 := (HB.out.cell (World.block_lt_of_cell? w _ hx185_11)).trans hx185_11
                  replace hx185_12 := (HB.out.cell (World.block_lt_of_cell? w _ hx185_12)).trans hx185_12
                  have HR185_11 := Aside0.mk hi185_11
                  have HC185_11 := Aside0.mk hl185_11
                  clear hi185_11 hl185_11
                  replace p185 := eq_true p185
                  replace q185 := eq_true q185
                  have p186 : 0 ≤ (x5_2 : Int) := of_decide_eq_true (by first | (with_reducible assumption) | assumption)
                  have q186 : x5_2 < (l0.length : Int) := of_decide_eq_true (by first | (with_reducible assumption) | assumption)
                  obtain ⟨ad186, A186_11, c186_11, e186, hx186_0, hx186_1, hx186_2, hx186_3, hx186_4, hx186_5, hx186_6, hx186_7, hx186_8, hx186_9, hx186_10, hx186_11, hx186_12, hl186_11, hi186_11⟩ := at_T55 HR0.out x5_2 p186 q186
                  have hw186_12 := hx186_12
                  have hw186_11 := hx186_11
                  have hw186_10 := hx186_10
                  have hw186_9 := hx186_9
                  have hw186_8 := hx186_8
                  have hw186_7 := hx186_7
                  have hw186_6 := hx186_6
                  have hw186_5 := hx186_5
                  have hw186_4 := hx186_4
                  have hw186_3 := hx186_3
                  have hw186_2 := hx186_2
                  have hw186_1 := hx186_1
                  have hw186_0 := hx186_0
                  obtain rfl : ad185 = ad186 := (by injection e186)
                  replace hx186_0 := (HB.out.cell (World.block_lt_of_cell? w _ hx186_0)).trans hx186_0
                  replace hx186_1 := (HB.out.cell (World.block_lt_of_cell? w _ hx186_1)).trans hx186_1
                  replace hx186_2 := (HB.out.cell (World.block_lt_of_cell? w _ hx186_2)).trans hx186_2
                  replace hx186_3 := (HB.out.cell (World.block_lt_of_cell? w _ hx186_3)).trans hx186_3
                  replace hx186_4 := (HB.out.cell (World.block_lt_of_cell? w _ hx186_4)).trans hx186_4
                  replace hx186_5 := (HB.out.cell (World.block_lt_of_cell? w _ hx186_5)).trans hx186_5
                  replace hx186_6 := (HB.out.cell (World.block_lt_of_cell? w _ hx186_6)).trans hx186_6
                  replace hx186_7 := (HB.out.cell (World.block_lt_of_cell? w _ hx186_7)).trans hx186_7
                  replace hx186_8 := (HB.out.cell (World.block_lt_of_cell? w _ hx186_8)).trans hx186_8
                  replace hx186_9 := (HB.out.cell (World.block_lt_of_cell? w _ hx186_9)).trans hx186_9
                  replace hx186_10 := (HB.out.cell (World.block_lt_of_cell? w _ hx186_10)).trans hx186_10
                  replace hx186_11 := (HB.out.cell (World.block_lt_of_cell? w _ hx186_11)).trans hx186_11
                  replace hx186_12 := (HB.out.cell (World.block_lt_of_cell? w _ hx186_12)).trans hx186_12
                  have HR186_11 := Aside0.mk hi186_11
                  have HC186_11 := Aside0.mk hl186_11
                  clear hi186_11 hl186_11
                  replace p186 := eq_true p186
                  replace q186 := eq_true q186
                  have ea_ := Option.some.inj (hx185_11.symm.trans hx186_11)
                  injection ea_ with ea_ en_ ec_
                  subst ea_
                  subst ec_
                  clear en_
                  refine start_ (n := 25) (S := fun w' => w'.cell? (ad185.add ((x5_2).toNat * 13)) = some (.int .i64 ((rd_T55 l0 x5_2).f0)) ∧ w'.cell? ⟨(ad185.add ((x5_2).toNat * 13)).block, (ad185.add ((x5_2).toNat * 13)).off + 1, none⟩ = some (.int .i64 ((rd_T55 l0 x5_2).f1)) ∧ w'.cell? ⟨(ad185.add ((x5_2).toNat * 13)).block, (ad185.add ((x5_2).toNat * 13)).off + 2, none⟩ = some (.string ((rd_T55 l0 x5_2).f2)) ∧ w'.cell? ⟨(ad185.add ((x5_2).toNat * 13)).block, (ad185.add ((x5_2).toNat * 13)).off + 3, none⟩ = some (.string ((rd_T55 l0 x5_2).f3)) ∧ w'.cell? ⟨(ad185.add ((x5_2).toNat * 13)).block, (ad185.add ((x5_2).toNat * 13)).off + 4, none⟩ = some (.int .i64 ((rd_T55 l0 x5_2).f4)) ∧ w'.cell? ⟨(ad185.add ((x5_2).toNat * 13)).block, (ad185.add ((x5_2).toNat * 13)).off + 5, none⟩ = some (.int .i64 ((rd_T55 l0 x5_2).f5.f0.f0)) ∧ w'.cell? ⟨(ad185.add ((x5_2).toNat * 13)).block, (ad185.add ((x5_2).toNat * 13)).off + 6, none⟩ = some (.int .i64 ((rd_T55 l0 x5_2).f5.f0.f1)) ∧ w'.cell? ⟨(ad185.add ((x5_2).toNat * 13)).block, (ad185.add ((x5_2).toNat * 13)).off + 7, none⟩ = some (.int .i64 ((rd_T55 l0 x5_2).f5.f0.f2)) ∧ w'.cell? ⟨(ad185.add ((x5_2).toNat * 13)).block, (ad185.add ((x5_2).toNat * 13)).off + 8, none⟩ = some (.int .i64 ((rd_T55 l0 x5_2).f5.f1.f0)) ∧ w'.cell? ⟨(ad185.add ((x5_2).toNat * 13)).block, (ad185.add ((x5_2).toNat * 13)).off + 9, none⟩ = some (.int .i64 ((rd_T55 l0 x5_2).f5.f1.f1)) ∧ w'.cell? ⟨(ad185.add ((x5_2).toNat * 13)).block, (ad185.add ((x5_2).toNat * 13)).off + 10, none⟩ = some (.int .i64 ((rd_T55 l0 x5_2).f5.f1.f2)) ∧ w'.cell? ⟨(ad185.add ((x5_2).toNat * 13)).block, (ad185.add ((x5_2).toNat * 13)).off + 11, none⟩ = some (.slice A185_11 ((rd_T55 l0 x5_2).f6).length c185_11) ∧ w'.cell? ⟨(ad185.add ((x5_2).toNat * 13)).block, (ad185.add ((x5_2).toNat * 13)).off + 12, none⟩ = some (.int .i64 ((rd_T55 l0 x5_2).f7)) ∧ w'.cell? (ad185.add ((x5_2).toNat * 13)) = some (.int .i64 ((rd_T55 l0 x5_2).f0)) ∧ w'.cell? ⟨(ad185.add ((x5_2).toNat * 13)).block, (ad185.add ((x5_2).toNat * 13)).off + 1, none⟩ = some (.int .i64 ((rd_T55 l0 x5_2).f1)) ∧ w'.cell? ⟨(ad185.add ((x5_2).toNat * 13)).block, (ad185.add ((x5_2).toNat * 13)).off + 2, none⟩ = some (.string ((rd_T55 l0 x5_2).f2)) ∧ w'.cell? ⟨(ad185.add ((x5_2).toNat * 13)).block, (ad185.add ((x5_2).toNat * 13)).off + 3, none⟩ = some (.string ((rd_T55 l0 x5_2).f3)) ∧ w'.cell? ⟨(ad185.add ((x5_2).toNat * 13)).block, (ad185.add ((x5_2).toNat * 13)).off + 4, none⟩ = some (.int .i64 ((rd_T55 l0 x5_2).f4)) ∧ w'.cell? ⟨(ad185.add ((x5_2).toNat * 13)).block, (ad185.add ((x5_2).toNat * 13)).off + 5, none⟩ = some (.int .i64 ((rd_T55 l0 x5_2).f5.f0.f0)) ∧ w'.cell? ⟨(ad185.add ((x5_2).toNat * 13)).block, (ad185.add ((x5_2).toNat * 13)).off + 6, none⟩ = some (.int .i64 ((rd_T55 l0 x5_2).f5.f0.f1)) ∧ w'.cell? ⟨(ad185.add ((x5_2).toNat * 13)).block, (ad185.add ((x5_2).toNat * 13)).off + 7, none⟩ = some (.int .i64 ((rd_T55 l0 x5_2).f5.f0.f2)) ∧ w'.cell? ⟨(ad185.add ((x5_2).toNat * 13)).block, (ad185.add ((x5_2).toNat * 13)).off + 8, none⟩ = some (.int .i64 ((rd_T55 l0 x5_2).f5.f1.f0)) ∧ w'.cell? ⟨(ad185.add ((x5_2).toNat * 13)).block, (ad185.add ((x5_2).toNat * 13)).off + 9, none⟩ = some (.int .i64 ((rd_T55 l0 x5_2).f5.f1.f1)) ∧ w'.cell? ⟨(ad185.add ((x5_2).toNat * 13)).block, (ad185.add ((x5_2).toNat * 13)).off + 10, none⟩ = some (.int .i64 ((rd_T55 l0 x5_2).f5.f1.f2)) ∧ w'.cell? ⟨(ad185.add ((x5_2).toNat * 13)).block, (ad185.add ((x5_2).toNat * 13)).off + 11, none⟩ = some (.slice A185_11 ((rd_T55 l0 x5_2).f6).length c185_11) ∧ w'.cell? ⟨(ad185.add ((x5_2).toNat * 13)).block, (ad185.add ((x5_2).toNat * 13)).off + 12, none⟩ = some (.int .i64 ((rd_T55 l0 x5_2).f7))) (ds := []) #[false, false, false, false, false, false, false, false, false, false, false, false, false, false, false, false, false, false, false, false, false, false, false, false, false] (by kernel_rfl) rfl rfl ⟨((HB.out.cell (World.block_lt_of_cell? w _ hw185_0)).trans hw185_0), ((HB.out.cell (World.block_lt_of_cell? w _ hw185_1)).trans hw185_1), ((HB.out.cell (World.block_lt_of_cell? w _ hw185_2)).trans hw185_2), ((HB.out.cell (World.block_lt_of_cell? w _ hw185_3)).trans hw185_3), ((HB.out.cell (World.block_lt_of_cell? w _ hw185_4)).trans hw185_4), ((HB.out.cell (World.block_lt_of_cell? w _ hw185_5)).trans hw185_5), ((HB.out.cell (World.block_lt_of_cell? w _ hw185_6)).trans hw185_6), ((HB.out.cell (World.block_lt_of_cell? w _ hw185_7)).trans hw185_7), ((HB.out.cell (World.block_lt_of_cell? w _ hw185_8)).trans hw185_8), ((HB.out.cell (World.block_lt_of_cell? w _ hw185_9)).trans hw185_9), ((HB.out.cell (World.block_lt_of_cell? w _ hw185_10)).trans hw185_10), ((HB.out.cell (World.block_lt_of_cell? w _ hw185_11)).trans hw185_11), ((HB.out.cell (World.block_lt_of_cell? w _ hw185_12)).trans hw185_12), ((HB.out.cell (World.block_lt_of_cell? w _ hw186_0)).trans hw186_0), ((HB.out.cell (World.block_lt_of_cell? w _ hw186_1)).trans hw186_1), ((HB.out.cell (World.block_lt_of_cell? w _ hw186_2)).trans hw186_2), ((HB.out.cell (World.block_lt_of_cell? w _ hw186_3)).trans hw186_3), ((HB.out.cell (World.block_lt_of_cell? w _ hw186_4)).trans hw186_4), ((HB.out.cell (World.block_lt_of_cell? w _ hw186_5)).trans hw186_5), ((HB.out.cell (World.block_lt_of_cell? w _ hw186_6)).trans hw186_6), ((HB.out.cell (World.block_lt_of_cell? w _ hw186_7)).trans hw186_7), ((HB.out.cell (World.block_lt_of_cell? w _ hw186_8)).trans hw186_8), ((HB.out.cell (World.block_lt_of_cell? w _ hw186_9)).trans hw186_9), ((HB.out.cell (World.block_lt_of_cell? w _ hw186_10)).trans hw186_10), ((HB.out.cell (World.block_lt_of_cell? w _ hw186_11)).trans hw186_11), ((HB.out.cell (World.block_lt_of_cell? w _ hw186_12)).trans hw186_12)⟩ (fun hHeld => ?_); refine with_tabW ambidexterlaw11_Few.tab6 ambidexterlaw11_Few.bits6 (fun HT_ HW_ => ?_)
                  generalize wr.drew = w9 at HB HR185_11 HR186_11 hx185_0 hx185_1 hx185_10 hx185_11 hx185_12 hx185_2 hx185_3 hx185_4 hx185_5 hx185_6 hx185_7 hx185_8 hx185_9 hx186_0 hx186_1 hx186_10 hx186_11 hx186_12 hx186_2 hx186_3 hx186_4 hx186_5 hx186_6 hx186_7 hx186_8 hx186_9 hHeld ⊢
                  refine pure_ (i := 0) (N := some 19) (v := ?_) (a' := ?_) #[true, false, false, false, false, false, false, false, false, false, false, false, false, false, false, false, false, false, false, false, false, false, false, false, false] rfl rfl (any_of HT_.out (by kernel_rfl)) (fun _ _ _ h => h) (Or.inl ⟨by rfl, ?_⟩) ?_ ?_
                  rotate_left
                  · intro w'
                    go_simp
                    with_reducible rfl
                  rotate_left
                  · simp only [Act.put, List.setIfInBounds_toArray, List.set_cons_zero, List.set_cons_succ, i64_w, i32_w]
                    rfl
                  refine pure_ (i := 1) (N := some 20) (v := ?_) (a' := ?_) #[true, true, false, false, false, false, false, false, false, false, false, false, false, false, false, false, false, false, false, false, false, false, false, false, false] rfl rfl (any_of HT_.out (by kernel_rfl)) (fun _ _ _ h => h) (Or.inl ⟨by rfl, ?_⟩) ?_ ?_
                  rotate_left
                  · intro w'
                    go_simp
                    with_reducible rfl
                  rotate_left
                  · simp only [Act.put, List.setIfInBounds_toArray, List.set_cons_zero, List.set_cons_succ, i64_w, i32_w]
                    rfl
                  refine pure_ (i := 2) (N := some 21) (v := ?_) (a' := ?_) #[true, true, true, false, false, false, false, false, false, false, false, false, false, false, false, false, false, false, false, false, false, false, false, false, false] rfl rfl (any_of HT_.out (by kernel_rfl)) (fun _ _ _ h => h) (Or.inl ⟨by rfl, ?_⟩) ?_ ?_
                  rotate_left
                  · intro w'
                    go_simp
                    with_reducible rfl
                  rotate_left
                  · simp only [Act.put, List.setIfInBounds_toArray, List.set_cons_zero, List.set_cons_succ, i64_w, i32_w]
                    rfl
                  refine pure_ (i := 3) (N := some 22) (v := ?_) (a' := ?_) #[true, true, true, true, false, false, false, false, false, false, false, false, false, false, false, false, false, false, false, false, false, false, false, false, false] rfl rfl (any_of HT_.out (by kernel_rfl)) (fun _ _ _ h => h) (Or.inl ⟨by rfl, ?_⟩) ?_ ?_
                  rotate_left
                  · intro w'
                    go_simp
                    with_reducible rfl
                  rotate_left
                  · simp only [Act.put, List.setIfInBounds_toArray, List.set_cons_zero, List.set_cons_succ, i64_w, i32_w]
                    rfl
                  refine pure_ (i := 6) (N := some 25) (v := ?_) (a' := ?_) #[true, true, true, true, false, false, true, false, false, false, false, false, false, false, false, false, false, false, false, false, false, false, false, false, false] rfl rfl (any_of HT_.out (by kernel_rfl)) (fun _ _ _ h => h) (Or.inl ⟨by rfl, ?_⟩) ?_ ?_
                  rotate_left
                  · intro w'
                    go_simp
                    with_reducible rfl
                  rotate_left
                  · simp only [Act.put, List.setIfInBounds_toArray, List.set_cons_zero, List.set_cons_succ, i64_w, i32_w]
                    rfl
                  refine pure_ (i := 7) (N := some 26) (v := ?_) (a' := ?_) #[true, true, true, true, false, false, true, true, false, false, false, false, false, false, false, false, false, false, false, false, false, false, false, false, false] rfl rfl (any_of HT_.out (by kernel_rfl)) (fun _ _ _ h => h) (Or.inl ⟨by rfl, ?_⟩) ?_ ?_
                  rotate_left
                  · intro w'
                    go_simp
                    with_reducible rfl
                  rotate_left
                  · simp only [Act.put, List.setIfInBounds_toArray, List.set_cons_zero, List.set_cons_succ, i64_w, i32_w]
                    rfl
                  refine pure_ (i := 8) (N := some 27) (v := ?_) (a' := ?_) #[true, true, true, true, false, false, true, true, true, false, false, false, false, false, false, false, false, false, false, false, false, false, false, false, false] rfl rfl (any_of HT_.out (by kernel_rfl)) (fun _ _ _ h => h) (Or.inl ⟨by rfl, ?_⟩) ?_ ?_
                  rotate_left
                  · intro w'
                    go_simp
                    with_reducible rfl
                  rotate_left
                  · simp only [Act.put, List.setIfInBounds_toArray, List.set_cons_zero, List.set_cons_succ, i64_w, i32_w]
                    rfl
                  refine pure_ (i := 9) (N := some 28) (v := ?_) (a' := ?_) #[true, true, true, true, false, false, true, true, true, true, false, false, false, false, false, false, false, false, false, false, false, false, false, false, false] rfl rfl (any_of HT_.out (by kernel_rfl)) (fun _ _ _ h => h) (Or.inl ⟨by rfl, ?_⟩) ?_ ?_
                  rotate_left
                  · intro w'
                    go_simp
                    with_reducible rfl
                  rotate_left
                  · simp only [Act.put, List.setIfInBounds_toArray, List.set_cons_zero, List.set_cons_succ, i64_w, i32_w]
                    rfl
                  refine take_ (i := 4) (N := some 23) (v := ?_) (a' := ?_) #[true, true, true, true, true, false, true, true, true, true, false, false, false, false, false, false, false, false, false, false, false, false, false, false, false] rfl rfl (take_ofW HT_.out HW_.out (by kernel_rfl)) (fun _ _ _ h => h) (Or.inl ⟨by rfl, ?_⟩) hHeld ?_ ?_
                  rotate_left
                  · rintro w' ⟨s0, s1, s2, s3, s4, s5, s6, s7, s8, s9, s10, s11, s12, s13, s14, s15, s16, s17, s18, s19, s20, s21, s22, s23, s24, s25⟩
                    go_simp
                    with_reducible rfl
                  rotate_left
                  · simp only [Act.put, List.setIfInBounds_toArray, List.set_cons_zero, List.set_cons_succ, i64_w, i32_w]
                    rfl
                  refine pure_ (i := 5) (N := some 24) (v := ?_) (a' := ?_) #[true, true, true, true, true, true, true, true, true, true, false, false, false, false, false, false, false, false, false, false, false, false, false, false, false] rfl rfl (any_of HT_.out (by kernel_rfl)) (fun _ _ _ h => h) (Or.inl ⟨by rfl, ?_⟩) ?_ ?_
                  rotate_left
                  · intro w'
                    go_simp
                    with_reducible rfl
                  rotate_left
                  · simp only [Act.put, List.setIfInBounds_toArray, List.set_cons_zero, List.set_cons_succ, i64_w, i32_w]
                    rfl
                  refine take_ (i := 10) (N := some 29) (v := ?_) (a' := ?_) #[true, true, true, true, true, true, true, true, true, true, true, false, false, false, false, false, false, false, false, false, false, false, false, false, false] rfl rfl (take_ofW HT_.out HW_.out (by kernel_rfl)) (fun _ _ _ h => h) (Or.inl ⟨by rfl, ?_⟩) hHeld ?_ ?_
                  rotate_left
                  · rintro w' ⟨s0, s1, s2, s3, s4, s5, s6, s7, s8, s9, s10, s11, s12, s13, s14, s15, s16, s17, s18, s19, s20, s21, s22, s23, s24, s25⟩
                    go_simp
                    with_reducible rfl
                  rotate_left
                  · simp only [Act.put, List.setIfInBounds_toArray, List.set_cons_zero, List.set_cons_succ, i64_w, i32_w]
                    rfl
                  refine pure_ (i := 11) (N := some 30) (v := ?_) (a' := ?_) #[true, true, true, true, true, true, true, true, true, true, true, true, false, false, false, false, false, false, false, false, false, false, false, false, false] rfl rfl (any_of HT_.out (by kernel_rfl)) (fun _ _ _ h => h) (Or.inl ⟨by rfl, ?_⟩) ?_ ?_
                  rotate_left
                  · intro w'
                    go_simp
                    with_reducible rfl
                  rotate_left
                  · simp only [Act.put, List.setIfInBounds_toArray, List.set_cons_zero, List.set_cons_succ, i64_w, i32_w]
                    rfl
                  refine pure_ (i := 12) (N := some 31) (v := ?_) (a' := ?_) #[true, true, true, true, true, true, true, true, true, true, true, true, true, false, false, false, false, false, false, false, false, false, false, false, false] rfl rfl (any_of HT_.out (by kernel_rfl)) (fun _ _ _ h => h) (Or.inl ⟨by rfl, ?_⟩) ?_ ?_
                  rotate_left
                  · intro w'
                    go_simp
                    with_reducible rfl
                  rotate_left
                  · simp only [Act.put, List.setIfInBounds_toArray, List.set_cons_zero, List.set_cons_succ, i64_w, i32_w]
                    rfl
                  refine pure_ (i := 13) (N := some 32) (v := ?_) (a' := ?_) #[true, true, true, true, true, true, true, true, true, true, true, true, true, true, false, false, false, false, false, false, false, false, false, false, false] rfl rfl (any_of HT_.out (by kernel_rfl)) (fun _ _ _ h => h) (Or.inl ⟨by rfl, ?_⟩) ?_ ?_
                  rotate_left
                  · intro w'
                    go_simp
                    with_reducible rfl
                  rotate_left
                  · simp only [Act.put, List.setIfInBounds_toArray, List.set_cons_zero, List.set_cons_succ, i64_w, i32_w]
                    rfl
                  refine pure_ (i := 14) (N := some 33) (v := ?_) (a' := ?_) #[true, true, true, true, true, true, true, true, true, true, true, true, true, true, true, false, false, false, false, false, false, false, false, false, false] rfl rfl (any_of HT_.out (by kernel_rfl)) (fun _ _ _ h => h) (Or.inl ⟨by rfl, ?_⟩) ?_ ?_
                  rotate_left
                  · intro w'
                    go_simp
                    with_reducible rfl
                  rotate_left
                  · simp only [Act.put, List.setIfInBounds_toArray, List.set_cons_zero, List.set_cons_succ, i64_w, i32_w]
                    rfl
                  refine pure_ (i := 15) (N := some 34) (v := undef) (a' := ?_) #[true, true, true, true, true, true, true, true, true, true, true, true, true, true, true, true, false, false, false, false, false, false, false, false, false] rfl rfl (any_of HT_.out (by kernel_rfl)) (fun _ _ _ h => h) (Or.inr ⟨by rfl, rfl⟩) ?_ ?_
                  rotate_left
                  · simp only [Act.put, List.setIfInBounds_toArray, List.set_cons_zero, List.set_cons_succ, i64_w, i32_w]
                    rfl
                  refine pure_ (i := 16) (N := some 35) (v := undef) (a' := ?_) #[true, true, true, true, true, true, true, true, true, true, true, true, true, true, true, true, true, false, false, false, false, false, false, false, false] rfl rfl (any_of HT_.out (by kernel_rfl)) (fun _ _ _ h => h) (Or.inr ⟨by rfl, rfl⟩) ?_ ?_
                  rotate_left
                  · simp only [Act.put, List.setIfInBounds_toArray, List.set_cons_zero, List.set_cons_succ, i64_w, i32_w]
                    rfl
                  refine pure_ (i := 17) (N := some 36) (v := undef) (a' := ?_) #[true, true, true, true, true, true, true, true, true, true, true, true, true, true, true, true, true, true, false, false, false, false, false, false, false] rfl rfl (any_of HT_.out (by kernel_rfl)) (fun _ _ _ h => h) (Or.inr ⟨by rfl, rfl⟩) ?_ ?_
                  rotate_left
                  · simp only [Act.put, List.setIfInBounds_toArray, List.set_cons_zero, List.set_cons_succ, i64_w, i32_w]
                    rfl
                  refine pure_ (i := 18) (N := some 37) (v := undef) (a' := ?_) #[true, true, true, true, true, true, true, true, true, true, true, true, true, true, true, true, true, true, true, false, false, false, false, false, false] rfl rfl (any_of HT_.out (by kernel_rfl)) (fun _ _ _ h => h) (Or.inr ⟨by rfl, rfl⟩) ?_ ?_
                  rotate_left
                  · simp only [Act.put, List.setIfInBounds_toArray, List.set_cons_zero, List.set_cons_succ, i64_w, i32_w]
                    rfl
                  refine pure_ (i := 19) (N := some 38) (v := undef) (a' := ?_) #[true, true, true, true, true, true, true, true, true, true, true, true, true, true, true, true, true, true, true, true, false, false, false, false, false] rfl rfl (any_of HT_.out (by kernel_rfl)) (fun _ _ _ h => h) (Or.inr ⟨by rfl, rfl⟩) ?_ ?_
                  rotate_left
                  · simp only [Act.put, List.setIfInBounds_toArray, List.set_cons_zero, List.set_cons_succ, i64_w, i32_w]
                    rfl
                  refine pure_ (i := 20) (N := some 39) (v := undef) (a' := ?_) #[true, true, true, true, true, true, true, true, true, true, true, true, true, true, true, true, true, true, true, true, true, false, false, false, false] rfl rfl (any_of HT_.out (by kernel_rfl)) (fun _ _ _ h => h) (Or.inr ⟨by rfl, rfl⟩) ?_ ?_
                  rotate_left
                  · simp only [Act.put, List.setIfInBounds_toArray, List.set_cons_zero, List.set_cons_succ, i64_w, i32_w]
                    rfl
                  refine pure_ (i := 21) (N := some 40) (v := undef) (a' := ?_) #[true, true, true, true, true, true, true, true, true, true, true, true, true, true, true, true, true, true, true, true, true, true, false, false, false] rfl rfl (any_of HT_.out (by kernel_rfl)) (fun _ _ _ h => h) (Or.inr ⟨by rfl, rfl⟩) ?_ ?_
                  rotate_left
                  · simp only [Act.put, List.setIfInBounds_toArray, List.set_cons_zero, List.set_cons_succ, i64_w, i32_w]
                    rfl
                  refine pure_ (i := 22) (N := some 41) (v := undef) (a' := ?_) #[true, true, true, true, true, true, true, true, true, true, true, true, true, true, true, true, true, true, true, true, true, true, true, false, false] rfl rfl (any_of HT_.out (by kernel_rfl)) (fun _ _ _ h => h) (Or.inr ⟨by rfl, rfl⟩) ?_ ?_
                  rotate_left
                  · simp only [Act.put, List.setIfInBounds_toArray, List.set_cons_zero, List.set_cons_succ, i64_w, i32_w]
                    rfl
                  refine pure_ (i := 23) (N := some 42) (v := undef) (a' := ?_) #[true, true, true, true, true, true, true, true, true, true, true, true, true, true, true, true, true, true, true, true, true, true, true, true, false] rfl rfl (any_of HT_.out (by kernel_rfl)) (fun _ _ _ h => h) (Or.inr ⟨by rfl, rfl⟩) ?_ ?_
                  rotate_left
                  · simp only [Act.put, List.setIfInBounds_toArray, List.set_cons_zero, List.set_cons_succ, i64_w, i32_w]
                    rfl
                  refine pure_ (i := 24) (N := some 43) (v := ?_) (a' := ?_) #[true, true, true, true, true, true, true, true, true, true, true, true, true, true, true, true, true, true, true, true, true, true, true, true, true] rfl rfl (any_of HT_.out (by kernel_rfl)) (fun _ _ _ h => h) (Or.inl ⟨by rfl, ?_⟩) ?_ ?_
                  rotate_left
                  · intro w'
                    go_simp
                    with_reducible rfl
                  rotate_left
                  · simp only [Act.put, List.setIfInBounds_toArray, List.set_cons_zero, List.set_cons_succ, i64_w, i32_w]
                    rfl
                  refine done_ (done_of HT_.out (by kernel_rfl)) ?_
                  try go_wp2
                  go_ret
                  exact ⟨by first | rfl | (simp [errW_none, errW_some] <;> rfl) | (simp [*, errW_none, errW_some] <;> rfl), by repeat (first | (with_reducible first | exact HB.out | apply below_alloc | apply pw_below_drewN | apply below_drew1) | exact HB.out)⟩
                · rw [if_neg c8] at H
                  have c8b0 : decide (200 < (wrap64 ((((rd_T55 l0 x5_2).f2).size : Int) + (((rd_T55 l0 x5_2).f3).size : Int)))) = false := decide_eq_false c8
                  clear c8
                  replace H := Option.bind_eq_some_iff.mp H
                  obtain ⟨t188, A100, H⟩ := H
                  replace H : (if t188 = true then (ambidexterlaw11_Few.l0 k2 l0 a1 (wrap64 (x5_2 + 1))) else (some false)) = some r := H
                  have A10 := Aside0.mk A100
                  clear A100
                  by_cases c11 : t188 = true
                  · subst c11
                    have H1 : (ambidexterlaw11_Few.l0 k2 l0 a1 (wrap64 (x5_2 + 1))) = some r := by rw [if_pos rfl] at H; exact H
                    clear H
                    have H := H1
                    clear H1
                    have H' := Aside0.mk H
                    clear H
                    try go_wp2
                    have n0_ := Aside0.mk (below_drew1 HB.out)
                    clear HB
                    have HB := n0_
                    clear n0_
                    have p185 : 0 ≤ (x5_2 : Int) := of_decide_eq_true (by first | (with_reducible assumption) | assumption)
                    have q185 : x5_2 < (l0.length : Int) := of_decide_eq_true (by first | (with_reducible assumption) | assumption)
                    obtain ⟨ad185, A185_11, c185_11, e185, hx185_0, hx185_1, hx185_2, hx185_3, hx185_4, hx185_5, hx185_6, hx185_7, hx185_8, hx185_9, hx185_10, hx185_11, hx185_12, hl185_11, hi185_11⟩ := at_T55 HR0.out x5_2 p185 q185
                    have hw185_12 := hx185_12
                    have hw185_11 := hx185_11
                    have hw185_10 := hx185_10
                    have hw185_9 := hx185_9
                    have hw185_8 := hx185_8
                    have hw185_7 := hx185_7
                    have hw185_6 := hx185_6
                    have hw185_5 := hx185_5
                    have hw185_4 := hx185_4
                    have hw185_3 := hx185_3
                    have hw185_2 := hx185_2
                    have hw185_1 := hx185_1
                    have hw185_0 := hx185_0
                    cases e185
                    replace hx185_0 := (HB.out.cell (World.block_lt_of_cell? w _ hx185_0)).trans hx185_0
                    replace hx185_1 := (HB.out.cell (World.block_lt_of_cell? w _ hx185_1)).trans hx185_1
                    replace hx185_2 := (HB.out.cell (World.block_lt_of_cell? w _ hx185_2)).trans hx185_2
                    replace hx185_3 := (HB.out.cell (World.block_lt_of_cell? w _ hx185_3)).trans hx185_3
                    replace hx185_4 := (HB.out.cell (World.block_lt_of_cell? w _ hx185_4)).trans hx185_4
                    replace hx185_5 := (HB.out.cell (World.block_lt_of_cell? w _ hx185_5)).trans hx185_5
                    replace hx185_6 := (HB.out.cell (World.block_lt_of_cell? w _ hx185_6)).trans hx185_6
                    replace hx185_7 := (HB.out.cell (World.block_lt_of_cell? w _ hx185_7)).trans hx185_7
                    replace hx185_8 := (HB.out.cell (World.block_lt_of_cell? w _ hx185_8)).trans hx185_8
                    replace hx185_9 := (HB.out.cell (World.block_lt_of_cell? w _ hx185_9)).trans hx185_9
                    replace hx185_10 := (HB.out.cell (World.block_lt_of_cell? w _ hx185_10)).trans hx185_10
                    replace hx185_11 := (HB.out.cell (World.block_lt_of_cell? w _ hx185_11)).trans hx185_11
                    replace hx185_12 := (HB.out.cell (World.block_lt_of_cell? w _ hx185_12)).trans hx185_12
                    have HR185_11 := Aside0.mk hi185_11
                    have HC185_11 := Aside0.mk hl185_11
                    clear hi185_11 hl185_11
                    replace p185 := eq_true p185
                    replace q185 := eq_true q185
                    have p186 : 0 ≤ (x5_2 : Int) := of_decide_eq_true (by first | (with_reducible assumption) | assumption)
                    have q186 : x5_2 < (l0.length : Int) := of_decide_eq_true (by first | (with_reducible assumption) | assumption)
                    obtain ⟨ad186, A186_11, c186_11, e186, hx186_0, hx186_1, hx186_2, hx186_3, hx186_4, hx186_5, hx186_6, hx186_7, hx186_8, hx186_9, hx186_10, hx186_11, hx186_12, hl186_11, hi186_11⟩ := at_T55 HR0.out x5_2 p186 q186
                    have hw186_12 := hx186_12
                    have hw186_11 := hx186_11
                    have hw186_10 := hx186_10
                    have hw186_9 := hx186_9
                    have hw186_8 := hx186_8
                    have hw186_7 := hx186_7
                    have hw186_6 := hx186_6
                    have hw186_5 := hx186_5
                    have hw186_4 := hx186_4
                    have hw186_3 := hx186_3
                    have hw186_2 := hx186_2
                    have hw186_1 := hx186_1
                    have hw186_0 := hx186_0
                    obtain rfl : ad185 = ad186 := (by injection e186)
                    replace hx186_0 := (HB.out.cell (World.block_lt_of_cell? w _ hx186_0)).trans hx186_0
                    replace hx186_1 := (HB.out.cell (World.block_lt_of_cell? w _ hx186_1)).trans hx186_1
                    replace hx186_2 := (HB.out.cell (World.block_lt_of_cell? w _ hx186_2)).trans hx186_2
                    replace hx186_3 := (HB.out.cell (World.block_lt_of_cell? w _ hx186_3)).trans hx186_3
                    replace hx186_4 := (HB.out.cell (World.block_lt_of_cell? w _ hx186_4)).trans hx186_4
                    replace hx186_5 := (HB.out.cell (World.block_lt_of_cell? w _ hx186_5)).trans hx186_5
                    replace hx186_6 := (HB.out.cell (World.block_lt_of_cell? w _ hx186_6)).trans hx186_6
                    replace hx186_7 := (HB.out.cell (World.block_lt_of_cell? w _ hx186_7)).trans hx186_7
                    replace hx186_8 := (HB.out.cell (World.block_lt_of_cell? w _ hx186_8)).trans hx186_8
                    replace hx186_9 := (HB.out.cell (World.block_lt_of_cell? w _ hx186_9)).trans hx186_9
                    replace hx186_10 := (HB.out.cell (World.block_lt_of_cell? w _ hx186_10)).trans hx186_10
                    replace hx186_11 := (HB.out.cell (World.block_lt_of_cell? w _ hx186_11)).trans hx186_11
                    replace hx186_12 := (HB.out.cell (World.block_lt_of_cell? w _ hx186_12)).trans hx186_12
                    have HR186_11 := Aside0.mk hi186_11
                    have HC186_11 := Aside0.mk hl186_11
                    clear hi186_11 hl186_11
                    replace p186 := eq_true p186
                    replace q186 := eq_true q186
                    have ea_ := Option.some.inj (hx185_11.symm.trans hx186_11)
                    injection ea_ with ea_ en_ ec_
                    subst ea_
                    subst ec_
                    clear en_
                    have p187 : 0 ≤ (x5_2 : Int) := of_decide_eq_true (by first | (with_reducible assumption) | assumption)
                    have q187 : x5_2 < (l0.length : Int) := of_decide_eq_true (by first | (with_reducible assumption) | assumption)
                    obtain ⟨ad187, A187_11, c187_11, e187, hx187_0, hx187_1, hx187_2, hx187_3, hx187_4, hx187_5, hx187_6, hx187_7, hx187_8, hx187_9, hx187_10, hx187_11, hx187_12, hl187_11, hi187_11⟩ := at_T55 HR0.out x5_2 p187 q187
                    have hw187_12 := hx187_12
                    have hw187_11 := hx187_11
                    have hw187_10 := hx187_10
                    have hw187_9 := hx187_9
                    have hw187_8 := hx187_8
                    have hw187_7 := hx187_7
                    have hw187_6 := hx187_6
                    have hw187_5 := hx187_5
                    have hw187_4 := hx187_4
                    have hw187_3 := hx187_3
                    have hw187_2 := hx187_2
                    have hw187_1 := hx187_1
                    have hw187_0 := hx187_0
                    obtain rfl : ad185 = ad187 := (by injection e187)
                    replace hx187_0 := (HB.out.cell (World.block_lt_of_cell? w _ hx187_0)).trans hx187_0
                    replace hx187_1 := (HB.out.cell (World.block_lt_of_cell? w _ hx187_1)).trans hx187_1
                    replace hx187_2 := (HB.out.cell (World.block_lt_of_cell? w _ hx187_2)).trans hx187_2
                    replace hx187_3 := (HB.out.cell (World.block_lt_of_cell? w _ hx187_3)).trans hx187_3
                    replace hx187_4 := (HB.out.cell (World.block_lt_of_cell? w _ hx187_4)).trans hx187_4
                    replace hx187_5 := (HB.out.cell (World.block_lt_of_cell? w _ hx187_5)).trans hx187_5
                    replace hx187_6 := (HB.out.cell (World.block_lt_of_cell? w _ hx187_6)).trans hx187_6
                    replace hx187_7 := (HB.out.cell (World.block_lt_of_cell? w _ hx187_7)).trans hx187_7
                    replace hx187_8 := (HB.out.cell (World.block_lt_of_cell? w _ hx187_8)).trans hx187_8
                    replace hx187_9 := (HB.out.cell (World.block_lt_of_cell? w _ hx187_9)).trans hx187_9
                    replace hx187_10 := (HB.out.cell (World.block_lt_of_cell? w _ hx187_10)).trans hx187_10
                    replace hx187_11 := (HB.out.cell (World.block_lt_of_cell? w _ hx187_11)).trans hx187_11
                    replace hx187_12 := (HB.out.cell (World.block_lt_of_cell? w _ hx187_12)).trans hx187_12
                    have HR187_11 := Aside0.mk hi187_11
                    have HC187_11 := Aside0.mk hl187_11
                    clear hi187_11 hl187_11
                    replace p187 := eq_true p187
                    replace q187 := eq_true q187
                    have ea_ := Option.some.inj (hx185_11.symm.trans hx187_11)
                    injection ea_ with ea_ en_ ec_
                    subst ea_
                    subst ec_
                    clear en_
                    refine start_ (n := 25) (S := fun w' => w'.cell? (ad185.add ((x5_2).toNat * 13)) = some (.int .i64 ((rd_T55 l0 x5_2).f0)) ∧ w'.cell? ⟨(ad185.add ((x5_2).toNat * 13)).block, (ad185.add ((x5_2).toNat * 13)).off + 1, none⟩ = some (.int .i64 ((rd_T55 l0 x5_2).f1)) ∧ w'.cell? ⟨(ad185.add ((x5_2).toNat * 13)).block, (ad185.add ((x5_2).toNat * 13)).off + 2, none⟩ = some (.string ((rd_T55 l0 x5_2).f2)) ∧ w'.cell? ⟨(ad185.add ((x5_2).toNat * 13)).block, (ad185.add ((x5_2).toNat * 13)).off + 3, none⟩ = some (.string ((rd_T55 l0 x5_2).f3)) ∧ w'.cell? ⟨(ad185.add ((x5_2).toNat * 13)).block, (ad185.add ((x5_2).toNat * 13)).off + 4, none⟩ = some (.int .i64 ((rd_T55 l0 x5_2).f4)) ∧ w'.cell? ⟨(ad185.add ((x5_2).toNat * 13)).block, (ad185.add ((x5_2).toNat * 13)).off + 5, none⟩ = some (.int .i64 ((rd_T55 l0 x5_2).f5.f0.f0)) ∧ w'.cell? ⟨(ad185.add ((x5_2).toNat * 13)).block, (ad185.add ((x5_2).toNat * 13)).off + 6, none⟩ = some (.int .i64 ((rd_T55 l0 x5_2).f5.f0.f1)) ∧ w'.cell? ⟨(ad185.add ((x5_2).toNat * 13)).block, (ad185.add ((x5_2).toNat * 13)).off + 7, none⟩ = some (.int .i64 ((rd_T55 l0 x5_2).f5.f0.f2)) ∧ w'.cell? ⟨(ad185.add ((x5_2).toNat * 13)).block, (ad185.add ((x5_2).toNat * 13)).off + 8, none⟩ = some (.int .i64 ((rd_T55 l0 x5_2).f5.f1.f0)) ∧ w'.cell? ⟨(ad185.add ((x5_2).toNat * 13)).block, (ad185.add ((x5_2).toNat * 13)).off + 9, none⟩ = some (.int .i64 ((rd_T55 l0 x5_2).f5.f1.f1)) ∧ w'.cell? ⟨(ad185.add ((x5_2).toNat * 13)).block, (ad185.add ((x5_2).toNat * 13)).off + 10, none⟩ = some (.int .i64 ((rd_T55 l0 x5_2).f5.f1.f2)) ∧ w'.cell? ⟨(ad185.add ((x5_2).toNat * 13)).block, (ad185.add ((x5_2).toNat * 13)).off + 11, none⟩ = some (.slice A185_11 ((rd_T55 l0 x5_2).f6).length c185_11) ∧ w'.cell? ⟨(ad185.add ((x5_2).toNat * 13)).block, (ad185.add ((x5_2).toNat * 13)).off + 12, none⟩ = some (.int .i64 ((rd_T55 l0 x5_2).f7)) ∧ w'.cell? (ad185.add ((x5_2).toNat * 13)) = some (.int .i64 ((rd_T55 l0 x5_2).f0)) ∧ w'.cell? ⟨(ad185.add ((x5_2).toNat * 13)).block, (ad185.add ((x5_2).toNat * 13)).off + 1, none⟩ = some (.int .i64 ((rd_T55 l0 x5_2).f1)) ∧ w'.cell? ⟨(ad185.add ((x5_2).toNat * 13)).block, (ad185.add ((x5_2).toNat * 13)).off + 2, none⟩ = some (.string ((rd_T55 l0 x5_2).f2)) ∧ w'.cell? ⟨(ad185.add ((x5_2).toNat * 13)).block, (ad185.add ((x5_2).toNat * 13)).off + 3, none⟩ = some (.string ((rd_T55 l0 x5_2).f3)) ∧ w'.cell? ⟨(ad185.add ((x5_2).toNat * 13)).block, (ad185.add ((x5_2).toNat * 13)).off + 4, none⟩ = some (.int .i64 ((rd_T55 l0 x5_2).f4)) ∧ w'.cell? ⟨(ad185.add ((x5_2).toNat * 13)).block, (ad185.add ((x5_2).toNat * 13)).off + 5, none⟩ = some (.int .i64 ((rd_T55 l0 x5_2).f5.f0.f0)) ∧ w'.cell? ⟨(ad185.add ((x5_2).toNat * 13)).block, (ad185.add ((x5_2).toNat * 13)).off + 6, none⟩ = some (.int .i64 ((rd_T55 l0 x5_2).f5.f0.f1)) ∧ w'.cell? ⟨(ad185.add ((x5_2).toNat * 13)).block, (ad185.add ((x5_2).toNat * 13)).off + 7, none⟩ = some (.int .i64 ((rd_T55 l0 x5_2).f5.f0.f2)) ∧ w'.cell? ⟨(ad185.add ((x5_2).toNat * 13)).block, (ad185.add ((x5_2).toNat * 13)).off + 8, none⟩ = some (.int .i64 ((rd_T55 l0 x5_2).f5.f1.f0)) ∧ w'.cell? ⟨(ad185.add ((x5_2).toNat * 13)).block, (ad185.add ((x5_2).toNat * 13)).off + 9, none⟩ = some (.int .i64 ((rd_T55 l0 x5_2).f5.f1.f1)) ∧ w'.cell? ⟨(ad185.add ((x5_2).toNat * 13)).block, (ad185.add ((x5_2).toNat * 13)).off + 10, none⟩ = some (.int .i64 ((rd_T55 l0 x5_2).f5.f1.f2)) ∧ w'.cell? ⟨(ad185.add ((x5_2).toNat * 13)).block, (ad185.add ((x5_2).toNat * 13)).off + 11, none⟩ = some (.slice A185_11 ((rd_T55 l0 x5_2).f6).length c185_11) ∧ w'.cell? ⟨(ad185.add ((x5_2).toNat * 13)).block, (ad185.add ((x5_2).toNat * 13)).off + 12, none⟩ = some (.int .i64 ((rd_T55 l0 x5_2).f7)) ∧ w'.cell? (ad185.add ((x5_2).toNat * 13)) = some (.int .i64 ((rd_T55 l0 x5_2).f0)) ∧ w'.cell? ⟨(ad185.add ((x5_2).toNat * 13)).block, (ad185.add ((x5_2).toNat * 13)).off + 1, none⟩ = some (.int .i64 ((rd_T55 l0 x5_2).f1)) ∧ w'.cell? ⟨(ad185.add ((x5_2).toNat * 13)).block, (ad185.add ((x5_2).toNat * 13)).off + 2, none⟩ = some (.string ((rd_T55 l0 x5_2).f2)) ∧ w'.cell? ⟨(ad185.add ((x5_2).toNat * 13)).block, (ad185.add ((x5_2).toNat * 13)).off + 3, none⟩ = some (.string ((rd_T55 l0 x5_2).f3)) ∧ w'.cell? ⟨(ad185.add ((x5_2).toNat * 13)).block, (ad185.add ((x5_2).toNat * 13)).off + 4, none⟩ = some (.int .i64 ((rd_T55 l0 x5_2).f4)) ∧ w'.cell? ⟨(ad185.add ((x5_2).toNat * 13)).block, (ad185.add ((x5_2).toNat * 13)).off + 5, none⟩ = some (.int .i64 ((rd_T55 l0 x5_2).f5.f0.f0)) ∧ w'.cell? ⟨(ad185.add ((x5_2).toNat * 13)).block, (ad185.add ((x5_2).toNat * 13)).off + 6, none⟩ = some (.int .i64 ((rd_T55 l0 x5_2).f5.f0.f1)) ∧ w'.cell? ⟨(ad185.add ((x5_2).toNat * 13)).block, (ad185.add ((x5_2).toNat * 13)).off + 7, none⟩ = some (.int .i64 ((rd_T55 l0 x5_2).f5.f0.f2)) ∧ w'.cell? ⟨(ad185.add ((x5_2).toNat * 13)).block, (ad185.add ((x5_2).toNat * 13)).off + 8, none⟩ = some (.int .i64 ((rd_T55 l0 x5_2).f5.f1.f0)) ∧ w'.cell? ⟨(ad185.add ((x5_2).toNat * 13)).block, (ad185.add ((x5_2).toNat * 13)).off + 9, none⟩ = some (.int .i64 ((rd_T55 l0 x5_2).f5.f1.f1)) ∧ w'.cell? ⟨(ad185.add ((x5_2).toNat * 13)).block, (ad185.add ((x5_2).toNat * 13)).off + 10, none⟩ = some (.int .i64 ((rd_T55 l0 x5_2).f5.f1.f2)) ∧ w'.cell? ⟨(ad185.add ((x5_2).toNat * 13)).block, (ad185.add ((x5_2).toNat * 13)).off + 11, none⟩ = some (.slice A185_11 ((rd_T55 l0 x5_2).f6).length c185_11) ∧ w'.cell? ⟨(ad185.add ((x5_2).toNat * 13)).block, (ad185.add ((x5_2).toNat * 13)).off + 12, none⟩ = some (.int .i64 ((rd_T55 l0 x5_2).f7))) (ds := []) #[false, false, false, false, false, false, false, false, false, false, false, false, false, false, false, false, false, false, false, false, false, false, false, false, false] (by kernel_rfl) rfl rfl ⟨((HB.out.cell (World.block_lt_of_cell? w _ hw185_0)).trans hw185_0), ((HB.out.cell (World.block_lt_of_cell? w _ hw185_1)).trans hw185_1), ((HB.out.cell (World.block_lt_of_cell? w _ hw185_2)).trans hw185_2), ((HB.out.cell (World.block_lt_of_cell? w _ hw185_3)).trans hw185_3), ((HB.out.cell (World.block_lt_of_cell? w _ hw185_4)).trans hw185_4), ((HB.out.cell (World.block_lt_of_cell? w _ hw185_5)).trans hw185_5), ((HB.out.cell (World.block_lt_of_cell? w _ hw185_6)).trans hw185_6), ((HB.out.cell (World.block_lt_of_cell? w _ hw185_7)).trans hw185_7), ((HB.out.cell (World.block_lt_of_cell? w _ hw185_8)).trans hw185_8), ((HB.out.cell (World.block_lt_of_cell? w _ hw185_9)).trans hw185_9), ((HB.out.cell (World.block_lt_of_cell? w _ hw185_10)).trans hw185_10), ((HB.out.cell (World.block_lt_of_cell? w _ hw185_11)).trans hw185_11), ((HB.out.cell (World.block_lt_of_cell? w _ hw185_12)).trans hw185_12), ((HB.out.cell (World.block_lt_of_cell? w _ hw186_0)).trans hw186_0), ((HB.out.cell (World.block_lt_of_cell? w _ hw186_1)).trans hw186_1), ((HB.out.cell (World.block_lt_of_cell? w _ hw186_2)).trans hw186_2), ((HB.out.cell (World.block_lt_of_cell? w _ hw186_3)).trans hw186_3), ((HB.out.cell (World.block_lt_of_cell? w _ hw186_4)).trans hw186_4), ((HB.out.cell (World.block_lt_of_cell? w _ hw186_5)).trans hw186_5), ((HB.out.cell (World.block_lt_of_cell? w _ hw186_6)).trans hw186_6), ((HB.out.cell (World.block_lt_of_cell? w _ hw186_7)).trans hw186_7), ((HB.out.cell (World.block_lt_of_cell? w _ hw186_8)).trans hw186_8), ((HB.out.cell (World.block_lt_of_cell? w _ hw186_9)).trans hw186_9), ((HB.out.cell (World.block_lt_of_cell? w _ hw186_10)).trans hw186_10), ((HB.out.cell (World.block_lt_of_cell? w _ hw186_11)).trans hw186_11), ((HB.out.cell (World.block_lt_of_cell? w _ hw186_12)).trans hw186_12), ((HB.out.cell (World.block_lt_of_cell? w _ hw187_0)).trans hw187_0), ((HB.out.cell (World.block_lt_of_cell? w _ hw187_1)).trans hw187_1), ((HB.out.cell (World.block_lt_of_cell? w _ hw187_2)).trans hw187_2), ((HB.out.cell (World.block_lt_of_cell? w _ hw187_3)).trans hw187_3), ((HB.out.cell (World.block_lt_of_cell? w _ hw187_4)).trans hw187_4), ((HB.out.cell (World.block_lt_of_cell? w _ hw187_5)).trans hw187_5), ((HB.out.cell (World.block_lt_of_cell? w _ hw187_6)).trans hw187_6), ((HB.out.cell (World.block_lt_of_cell? w _ hw187_7)).trans hw187_7), ((HB.out.cell (World.block_lt_of_cell? w _ hw187_8)).trans hw187_8), ((HB.out.cell (World.block_lt_of_cell? w _ hw187_9)).trans hw187_9), ((HB.out.cell (World.block_lt_of_cell? w _ hw187_10)).trans hw187_10), ((HB.out.cell (World.block_lt_of_cell? w _ hw187_11)).trans hw187_11), ((HB.out.cell (World.block_lt_of_cell? w _ hw187_12)).trans hw187_12)⟩ (fun hHeld => ?_); refine with_tabW ambidexterlaw11_Few.tab6 ambidexterlaw11_Few.bits6 (fun HT_ HW_ => ?_)
                    generalize wr.drew = w12 at HB HR185_11 HR186_11 HR187_11 hx185_0 hx185_1 hx185_10 hx185_11 hx185_12 hx185_2 hx185_3 hx185_4 hx185_5 hx185_6 hx185_7 hx185_8 hx185_9 hx186_0 hx186_1 hx186_10 hx186_11 hx186_12 hx186_2 hx186_3 hx186_4 hx186_5 hx186_6 hx186_7 hx186_8 hx186_9 hx187_0 hx187_1 hx187_10 hx187_11 hx187_12 hx187_2 hx187_3 hx187_4 hx187_5 hx187_6 hx187_7 hx187_8 hx187_9 hHeld ⊢
                    refine pure_ (i := 0) (N := some 19) (v := ?_) (a' := ?_) #[true, false, false, false, false, false, false, false, false, false, false, false, false, false, false, false, false, false, false, false, false, false, false, false, false] rfl rfl (any_of HT_.out (by kernel_rfl)) (fun _ _ _ h => h) (Or.inl ⟨by rfl, ?_⟩) ?_ ?_
                    rotate_left
                    · intro w'
                      go_simp
                      with_reducible rfl
                    rotate_left
                    · simp only [Act.put, List.setIfInBounds_toArray, List.set_cons_zero, List.set_cons_succ, i64_w, i32_w]
                      rfl
                    refine pure_ (i := 1) (N := some 20) (v := ?_) (a' := ?_) #[true, true, false, false, false, false, false, false, false, false, false, false, false, false, false, false, false, false, false, false, false, false, false, false, false] rfl rfl (any_of HT_.out (by kernel_rfl)) (fun _ _ _ h => h) (Or.inl ⟨by rfl, ?_⟩) ?_ ?_
                    rotate_left
                    · intro w'
                      go_simp
                      with_reducible rfl
                    rotate_left
                    · simp only [Act.put, List.setIfInBounds_toArray, List.set_cons_zero, List.set_cons_succ, i64_w, i32_w]
                      rfl
                    refine pure_ (i := 2) (N := some 21) (v := ?_) (a' := ?_) #[true, true, true, false, false, false, false, false, false, false, false, false, false, false, false, false, false, false, false, false, false, false, false, false, false] rfl rfl (any_of HT_.out (by kernel_rfl)) (fun _ _ _ h => h) (Or.inl ⟨by rfl, ?_⟩) ?_ ?_
                    rotate_left
                    · intro w'
                      go_simp
                      with_reducible rfl
                    rotate_left
                    · simp only [Act.put, List.setIfInBounds_toArray, List.set_cons_zero, List.set_cons_succ, i64_w, i32_w]
                      rfl
                    refine pure_ (i := 3) (N := some 22) (v := ?_) (a' := ?_) #[true, true, true, true, false, false, false, false, false, false, false, false, false, false, false, false, false, false, false, false, false, false, false, false, false] rfl rfl (any_of HT_.out (by kernel_rfl)) (fun _ _ _ h => h) (Or.inl ⟨by rfl, ?_⟩) ?_ ?_
                    rotate_left
                    · intro w'
                      go_simp
                      with_reducible rfl
                    rotate_left
                    · simp only [Act.put, List.setIfInBounds_toArray, List.set_cons_zero, List.set_cons_succ, i64_w, i32_w]
                      rfl
                    refine pure_ (i := 6) (N := some 25) (v := ?_) (a' := ?_) #[true, true, true, true, false, false, true, false, false, false, false, false, false, false, false, false, false, false, false, false, false, false, false, false, false] rfl rfl (any_of HT_.out (by kernel_rfl)) (fun _ _ _ h => h) (Or.inl ⟨by rfl, ?_⟩) ?_ ?_
                    rotate_left
                    · intro w'
                      go_simp
                      with_reducible rfl
                    rotate_left
                    · simp only [Act.put, List.setIfInBounds_toArray, List.set_cons_zero, List.set_cons_succ, i64_w, i32_w]
                      rfl
                    refine pure_ (i := 7) (N := some 26) (v := ?_) (a' := ?_) #[true, true, true, true, false, false, true, true, false, false, false, false, false, false, false, false, false, false, false, false, false, false, false, false, false] rfl rfl (any_of HT_.out (by kernel_rfl)) (fun _ _ _ h => h) (Or.inl ⟨by rfl, ?_⟩) ?_ ?_
                    rotate_left
                    · intro w'
                      go_simp
                      with_reducible rfl
                    rotate_left
                    · simp only [Act.put, List.setIfInBounds_toArray, List.set_cons_zero, List.set_cons_succ, i64_w, i32_w]
                      rfl
                    refine pure_ (i := 8) (N := some 27) (v := ?_) (a' := ?_) #[true, true, true, true, false, false, true, true, true, false, false, false, false, false, false, false, false, false, false, false, false, false, false, false, false] rfl rfl (any_of HT_.out (by kernel_rfl)) (fun _ _ _ h => h) (Or.inl ⟨by rfl, ?_⟩) ?_ ?_
                    rotate_left
                    · intro w'
                      go_simp
                      with_reducible rfl
                    rotate_left
                    · simp only [Act.put, List.setIfInBounds_toArray, List.set_cons_zero, List.set_cons_succ, i64_w, i32_w]
                      rfl
                    refine pure_ (i := 9) (N := some 28) (v := ?_) (a' := ?_) #[true, true, true, true, false, false, true, true, true, true, false, false, false, false, false, false, false, false, false, false, false, false, false, false, false] rfl rfl (any_of HT_.out (by kernel_rfl)) (fun _ _ _ h => h) (Or.inl ⟨by rfl, ?_⟩) ?_ ?_
                    rotate_left
                    · intro w'
                      go_simp
                      with_reducible rfl
                    rotate_left
                    · simp only [Act.put, List.setIfInBounds_toArray, List.set_cons_zero, List.set_cons_succ, i64_w, i32_w]
                      rfl
                    refine take_ (i := 4) (N := some 23) (v := ?_) (a' := ?_) #[true, true, true, true, true, false, true, true, true, true, false, false, false, false, false, false, false, false, false, false, false, false, false, false, false] rfl rfl (take_ofW HT_.out HW_.out (by kernel_rfl)) (fun _ _ _ h => h) (Or.inl ⟨by rfl, ?_⟩) hHeld ?_ ?_
                    rotate_left
                    · rintro w' ⟨s0, s1, s2, s3, s4, s5, s6, s7, s8, s9, s10, s11, s12, s13, s14, s15, s16, s17, s18, s19, s20, s21, s22, s23, s24, s25, s26, s27, s28, s29, s30, s31, s32, s33, s34, s35, s36, s37, s38⟩
                      go_simp
                      with_reducible rfl
                    rotate_left
                    · simp only [Act.put, List.setIfInBounds_toArray, List.set_cons_zero, List.set_cons_succ, i64_w, i32_w]
                      rfl
                    refine pure_ (i := 5) (N := some 24) (v := ?_) (a' := ?_) #[true, true, true, true, true, true, true, true, true, true, false, false, false, false, false, false, false, false, false, false, false, false, false, false, false] rfl rfl (any_of HT_.out (by kernel_rfl)) (fun _ _ _ h => h) (Or.inl ⟨by rfl, ?_⟩) ?_ ?_
                    rotate_left
                    · intro w'
                      go_simp
                      with_reducible rfl
                    rotate_left
                    · simp only [Act.put, List.setIfInBounds_toArray, List.set_cons_zero, List.set_cons_succ, i64_w, i32_w]
                      rfl
                    refine take_ (i := 10) (N := some 29) (v := ?_) (a' := ?_) #[true, true, true, true, true, true, true, true, true, true, true, false, false, false, false, false, false, false, false, false, false, false, false, false, false] rfl rfl (take_ofW HT_.out HW_.out (by kernel_rfl)) (fun _ _ _ h => h) (Or.inl ⟨by rfl, ?_⟩) hHeld ?_ ?_
                    rotate_left
                    · rintro w' ⟨s0, s1, s2, s3, s4, s5, s6, s7, s8, s9, s10, s11, s12, s13, s14, s15, s16, s17, s18, s19, s20, s21, s22, s23, s24, s25, s26, s27, s28, s29, s30, s31, s32, s33, s34, s35, s36, s37, s38⟩
                      go_simp
                      with_reducible rfl
                    rotate_left
                    · simp only [Act.put, List.setIfInBounds_toArray, List.set_cons_zero, List.set_cons_succ, i64_w, i32_w]
                      rfl
                    refine pure_ (i := 11) (N := some 30) (v := ?_) (a' := ?_) #[true, true, true, true, true, true, true, true, true, true, true, true, false, false, false, false, false, false, false, false, false, false, false, false, false] rfl rfl (any_of HT_.out (by kernel_rfl)) (fun _ _ _ h => h) (Or.inl ⟨by rfl, ?_⟩) ?_ ?_
                    rotate_left
                    · intro w'
                      go_simp
                      with_reducible rfl
                    rotate_left
                    · simp only [Act.put, List.setIfInBounds_toArray, List.set_cons_zero, List.set_cons_succ, i64_w, i32_w]
                      rfl
                    refine pure_ (i := 12) (N := some 31) (v := ?_) (a' := ?_) #[true, true, true, true, true, true, true, true, true, true, true, true, true, false, false, false, false, false, false, false, false, false, false, false, false] rfl rfl (any_of HT_.out (by kernel_rfl)) (fun _ _ _ h => h) (Or.inl ⟨by rfl, ?_⟩) ?_ ?_
                    rotate_left
                    · intro w'
                      go_simp
                      with_reducible rfl
                    rotate_left
                    · simp only [Act.put, List.setIfInBounds_toArray, List.set_cons_zero, List.set_cons_succ, i64_w, i32_w]
                      rfl
                    refine pure_ (i := 13) (N := some 32) (v := ?_) (a' := ?_) #[true, true, true, true, true, true, true, true, true, true, true, true, true, true, false, false, false, false, false, false, false, false, false, false, false] rfl rfl (any_of HT_.out (by kernel_rfl)) (fun _ _ _ h => h) (Or.inl ⟨by rfl, ?_⟩) ?_ ?_
                    rotate_left
                    · intro w'
                      go_simp
                      with_reducible rfl
                    rotate_left
                    · simp only [Act.put, List.setIfInBounds_toArray, List.set_cons_zero, List.set_cons_succ, i64_w, i32_w]
                      rfl
                    refine pure_ (i := 14) (N := some 33) (v := ?_) (a' := ?_) #[true, true, true, true, true, true, true, true, true, true, true, true, true, true, true, false, false, false, false, false, false, false, false, false, false] rfl rfl (any_of HT_.out (by kernel_rfl)) (fun _ _ _ h => h) (Or.inl ⟨by rfl, ?_⟩) ?_ ?_
                    rotate_left
                    · intro w'
                      go_simp
                      with_reducible rfl
                    rotate_left
                    · simp only [Act.put, List.setIfInBounds_toArray, List.set_cons_zero, List.set_cons_succ, i64_w, i32_w]
                      rfl
                    refine pure_ (i := 15) (N := some 34) (v := ?_) (a' := ?_) #[true, true, true, true, true, true, true, true, true, true, true, true, true, true, true, true, false, false, false, false, false, false, false, false, false] rfl rfl (any_of HT_.out (by kernel_rfl)) (fun _ _ _ h => h) (Or.inl ⟨by rfl, ?_⟩) ?_ ?_
                    rotate_left
                    · intro w'
                      go_simp
                      with_reducible rfl
                    rotate_left
                    · simp only [Act.put, List.setIfInBounds_toArray, List.set_cons_zero, List.set_cons_succ, i64_w, i32_w]
                      rfl
                    refine pure_ (i := 16) (N := some 35) (v := ?_) (a' := ?_) #[true, true, true, true, true, true, true, true, true, true, true, true, true, true, true, true, true, false, false, false, false, false, false, false, false] rfl rfl (any_of HT_.out (by kernel_rfl)) (fun _ _ _ h => h) (Or.inl ⟨by rfl, ?_⟩) ?_ ?_
                    rotate_left
                    · intro w'
                      go_simp
                      with_reducible rfl
                    rotate_left
                    · simp only [Act.put, List.setIfInBounds_toArray, List.set_cons_zero, List.set_cons_succ, i64_w, i32_w]
                      rfl
                    refine pure_ (i := 17) (N := some 36) (v := ?_) (a' := ?_) #[true, true, true, true, true, true, true, true, true, true, true, true, true, true, true, true, true, true, false, false, false, false, false, false, false] rfl rfl (any_of HT_.out (by kernel_rfl)) (fun _ _ _ h => h) (Or.inl ⟨by rfl, ?_⟩) ?_ ?_
                    rotate_left
                    · intro w'
                      go_simp
                      with_reducible rfl
                    rotate_left
                    · simp only [Act.put, List.setIfInBounds_toArray, List.set_cons_zero, List.set_cons_succ, i64_w, i32_w]
                      rfl
                    refine pure_ (i := 18) (N := some 37) (v := ?_) (a' := ?_) #[true, true, true, true, true, true, true, true, true, true, true, true, true, true, true, true, true, true, true, false, false, false, false, false, false] rfl rfl (any_of HT_.out (by kernel_rfl)) (fun _ _ _ h => h) (Or.inl ⟨by rfl, ?_⟩) ?_ ?_
                    rotate_left
                    · intro w'
                      go_simp
                      with_reducible rfl
                    rotate_left
                    · simp only [Act.put, List.setIfInBounds_toArray, List.set_cons_zero, List.set_cons_succ, i64_w, i32_w]
                      rfl
                    refine pure_ (i := 20) (N := some 39) (v := ?_) (a' := ?_) #[true, true, true, true, true, true, true, true, true, true, true, true, true, true, true, true, true, true, true, false, true, false, false, false, false] rfl rfl (any_of HT_.out (by kernel_rfl)) (fun _ _ _ h => h) (Or.inl ⟨by rfl, ?_⟩) ?_ ?_
                    rotate_left
                    · intro w'
                      go_simp
                      with_reducible rfl
                    rotate_left
                    · simp only [Act.put, List.setIfInBounds_toArray, List.set_cons_zero, List.set_cons_succ, i64_w, i32_w]
                      rfl
                    refine pure_ (i := 21) (N := some 40) (v := ?_) (a' := ?_) #[true, true, true, true, true, true, true, true, true, true, true, true, true, true, true, true, true, true, true, false, true, true, false, false, false] rfl rfl (any_of HT_.out (by kernel_rfl)) (fun _ _ _ h => h) (Or.inl ⟨by rfl, ?_⟩) ?_ ?_
                    rotate_left
                    · intro w'
                      go_simp
                      with_reducible rfl
                    rotate_left
                    · simp only [Act.put, List.setIfInBounds_toArray, List.set_cons_zero, List.set_cons_succ, i64_w, i32_w]
                      rfl
                    refine take_ (i := 19) (N := some 38) (v := ?_) (a' := ?_) #[true, true, true, true, true, true, true, true, true, true, true, true, true, true, true, true, true, true, true, true, true, true, false, false, false] rfl rfl (take_ofW HT_.out HW_.out (by kernel_rfl)) (fun _ _ _ h => h) (Or.inl ⟨by rfl, ?_⟩) hHeld ?_ ?_
                    rotate_left
                    · rintro w' ⟨s0, s1, s2, s3, s4, s5, s6, s7, s8, s9, s10, s11, s12, s13, s14, s15, s16, s17, s18, s19, s20, s21, s22, s23, s24, s25, s26, s27, s28, s29, s30, s31, s32, s33, s34, s35, s36, s37, s38⟩
                      go_simp
                      with_reducible rfl
                    rotate_left
                    · simp only [Act.put, List.setIfInBounds_toArray, List.set_cons_zero, List.set_cons_succ, i64_w, i32_w]
                      rfl
                    refine one_ (i := 22) (N := some 41) #[true, true, true, true, true, true, true, true, true, true, true, true, true, true, true, true, true, true, true, true, true, true, true, false, false] rfl rfl (one_of HT_.out (by kernel_rfl)) (by decide) (fun K hK => ?_)
                    refine goes_ Tryd.func10 (by kernel_rfl) rfl #[.slice A185_11 ((rd_T55 l0 x5_2).f6).length c185_11, .int .i64 (wrap64 (a1 + 1))] (by rfl) rfl rfl (by (try simp only [List.map_toArray, List.map_cons, List.map_nil]); first | done | rfl | (simp only [List.length_drop, List.length_take]; rfl)) ?_
                    with_reducible refine (ih k2 (by have := HJ2.out; have := HK2.out; omega) _ _ ((rd_T55 l0 x5_2).f6) (wrap64 (a1 + 1)) true _ ?side1 ?side2 A10.out).mono ?_
                    (case side1 => repeat (first | exact (Kd.C_below HR187_11.out HB.out) | (with_reducible refine Kd.C_alloc ?_ _) | (with_reducible refine Kd.C_drewN ?_ _) | (with_reducible refine Kd.C_drew ?_)))
                    (case side2 => exact HC187_11.out)
                    rintro e w13 ⟨rfl, hb⟩
                    refine ⟨_, rfl, ?_⟩
                    have n0_ := Aside0.mk (below_step (by repeat (first | (with_reducible first | exact HB.out | apply below_alloc | apply pw_below_drewN | apply below_drew1) | exact HB.out)) hb)
                    clear HB
                    have HB := n0_
                    clear n0_
                    (try clear hb)
                    (try clear hb2)
                    (try clear hk)
                    (try clear hi)
                    refine hK.out _ _ ⟨((HB.out.cell (World.block_lt_of_cell? w _ hw185_0)).trans hw185_0), ((HB.out.cell (World.block_lt_of_cell? w _ hw185_1)).trans hw185_1), ((HB.out.cell (World.block_lt_of_cell? w _ hw185_2)).trans hw185_2), ((HB.out.cell (World.block_lt_of_cell? w _ hw185_3)).trans hw185_3), ((HB.out.cell (World.block_lt_of_cell? w _ hw185_4)).trans hw185_4), ((HB.out.cell (World.block_lt_of_cell? w _ hw185_5)).trans hw185_5), ((HB.out.cell (World.block_lt_of_cell? w _ hw185_6)).trans hw185_6), ((HB.out.cell (World.block_lt_of_cell? w _ hw185_7)).trans hw185_7), ((HB.out.cell (World.block_lt_of_cell? w _ hw185_8)).trans hw185_8), ((HB.out.cell (World.block_lt_of_cell? w _ hw185_9)).trans hw185_9), ((HB.out.cell (World.block_lt_of_cell? w _ hw185_10)).trans hw185_10), ((HB.out.cell (World.block_lt_of_cell? w _ hw185_11)).trans hw185_11), ((HB.out.cell (World.block_lt_of_cell? w _ hw185_12)).trans hw185_12), ((HB.out.cell (World.block_lt_of_cell? w _ hw186_0)).trans hw186_0), ((HB.out.cell (World.block_lt_of_cell? w _ hw186_1)).trans hw186_1), ((HB.out.cell (World.block_lt_of_cell? w _ hw186_2)).trans hw186_2), ((HB.out.cell (World.block_lt_of_cell? w _ hw186_3)).trans hw186_3), ((HB.out.cell (World.block_lt_of_cell? w _ hw186_4)).trans hw186_4), ((HB.out.cell (World.block_lt_of_cell? w _ hw186_5)).trans hw186_5), ((HB.out.cell (World.block_lt_of_cell? w _ hw186_6)).trans hw186_6), ((HB.out.cell (World.block_lt_of_cell? w _ hw186_7)).trans hw186_7), ((HB.out.cell (World.block_lt_of_cell? w _ hw186_8)).trans hw186_8), ((HB.out.cell (World.block_lt_of_cell? w _ hw186_9)).trans hw186_9), ((HB.out.cell (World.block_lt_of_cell? w _ hw186_10)).trans hw186_10), ((HB.out.cell (World.block_lt_of_cell? w _ hw186_11)).trans hw186_11), ((HB.out.cell (World.block_lt_of_cell? w _ hw186_12)).trans hw186_12), ((HB.out.cell (World.block_lt_of_cell? w _ hw187_0)).trans hw187_0), ((HB.out.cell (World.block_lt_of_cell? w _ hw187_1)).trans hw187_1), ((HB.out.cell (World.block_lt_of_cell? w _ hw187_2)).trans hw187_2), ((HB.out.cell (World.block_lt_of_cell? w _ hw187_3)).trans hw187_3), ((HB.out.cell (World.block_lt_of_cell? w _ hw187_4)).trans hw187_4), ((HB.out.cell (World.block_lt_of_cell? w _ hw187_5)).trans hw187_5), ((HB.out.cell (World.block_lt_of_cell? w _ hw187_6)).trans hw187_6), ((HB.out.cell (World.block_lt_of_cell? w _ hw187_7)).trans hw187_7), ((HB.out.cell (World.block_lt_of_cell? w _ hw187_8)).trans hw187_8), ((HB.out.cell (World.block_lt_of_cell? w _ hw187_9)).trans hw187_9), ((HB.out.cell (World.block_lt_of_cell? w _ hw187_10)).trans hw187_10), ((HB.out.cell (World.block_lt_of_cell? w _ hw187_11)).trans hw187_11), ((HB.out.cell (World.block_lt_of_cell? w _ hw187_12)).trans hw187_12)⟩ (fun hHeld => ?_)
                    clear hK K
                    refine norm_ (a' := ?_) ?_ ?_
                    rotate_left
                    · show Act.put _ (some 41) _ = _
                      simp only [Act.put, List.setIfInBounds_toArray, List.set_cons_zero, List.set_cons_succ, i64_w, i32_w]
                      rfl
                    refine pure_ (i := 23) (N := some 42) (v := ?_) (a' := ?_) #[true, true, true, true, true, true, true, true, true, true, true, true, true, true, true, true, true, true, true, true, true, true, true, true, false] rfl rfl (any_of HT_.out (by kernel_rfl)) (fun _ _ _ h => h) (Or.inl ⟨by rfl, ?_⟩) ?_ ?_
                    rotate_left
                    · intro w'
                      go_simp
                      with_reducible rfl
                    rotate_left
                    · simp only [Act.put, List.setIfInBounds_toArray, List.set_cons_zero, List.set_cons_succ, i64_w, i32_w]
                      rfl
                    refine pure_ (i := 24) (N := some 43) (v := ?_) (a' := ?_) #[true, true, true, true, true, true, true, true, true, true, true, true, true, true, true, true, true, true, true, true, true, true, true, true, true] rfl rfl (any_of HT_.out (by kernel_rfl)) (fun _ _ _ h => h) (Or.inl ⟨by rfl, ?_⟩) ?_ ?_
                    rotate_left
                    · intro w'
                      go_simp
                      with_reducible rfl
                    rotate_left
                    · simp only [Act.put, List.setIfInBounds_toArray, List.set_cons_zero, List.set_cons_succ, i64_w, i32_w]
                      rfl
                    refine done_ (done_of HT_.out (by kernel_rfl)) ?_
                    try go_wp2
                    go_roundg k2
                    case measure => have := HJ2.out; have := HK2.out; omega
                    case rel => exact ⟨(wrap64 (x5_2 + 1)), (by first | rfl | (simp; done) | (simp [*]; done)), H', ⟨by have := HJ2.out; have := HK2.out; omega⟩, ⟨by repeat (first | (with_reducible first | exact HB.out | apply below_alloc | apply pw_below_drewN | apply below_drew1) | exact HB.out)⟩⟩
                  · replace c11 := Bool.eq_false_iff.mpr c11
                    subst c11
                    have H1 : (some false) = some r := by rw [if_neg (show ¬ (false = true) by decide)] at H; exact H
                    clear H
                    have H := H1
                    clear H1
                    obtain rfl := Option.some.inj H
                    try go_wp2
                    have n0_ := Aside0.mk (below_drew1 HB.out)
                    clear HB
                    have HB := n0_
                    clear n0_
                    have p185 : 0 ≤ (x5_2 : Int) := of_decide_eq_true (by first | (with_reducible assumption) | assumption)
                    have q185 : x5_2 < (l0.length : Int) := of_decide_eq_true (by first | (with_reducible assumption) | assumption)
                    obtain ⟨ad185, A185_11, c185_11, e185, hx185_0, hx185_1, hx185_2, hx185_3, hx185_4, hx185_5, hx185_6, hx185_7, hx185_8, hx185_9, hx185_10, hx185_11, hx185_12, hl185_11, hi185_11⟩ := at_T55 HR0.out x5_2 p185 q185
                    have hw185_12 := hx185_12
                    have hw185_11 := hx185_11
                    have hw185_10 := hx185_10
                    have hw185_9 := hx185_9
                    have hw185_8 := hx185_8
                    have hw185_7 := hx185_7
                    have hw185_6 := hx185_6
                    have hw185_5 := hx185_5
                    have hw185_4 := hx185_4
                    have hw185_3 := hx185_3
                    have hw185_2 := hx185_2
                    have hw185_1 := hx185_1
                    have hw185_0 := hx185_0
                    cases e185
                    replace hx185_0 := (HB.out.cell (World.block_lt_of_cell? w _ hx185_0)).trans hx185_0
                    replace hx185_1 := (HB.out.cell (World.block_lt_of_cell? w _ hx185_1)).trans hx185_1
                    replace hx185_2 := (HB.out.cell (World.block_lt_of_cell? w _ hx185_2)).trans hx185_2
                    replace hx185_3 := (HB.out.cell (World.block_lt_of_cell? w _ hx185_3)).trans hx185_3
                    replace hx185_4 := (HB.out.cell (World.block_lt_of_cell? w _ hx185_4)).trans hx185_4
                    replace hx185_5 := (HB.out.cell (World.block_lt_of_cell? w _ hx185_5)).trans hx185_5
                    replace hx185_6 := (HB.out.cell (World.block_lt_of_cell? w _ hx185_6)).trans hx185_6
                    replace hx185_7 := (HB.out.cell (World.block_lt_of_cell? w _ hx185_7)).trans hx185_7
                    replace hx185_8 := (HB.out.cell (World.block_lt_of_cell? w _ hx185_8)).trans hx185_8
                    replace hx185_9 := (HB.out.cell (World.block_lt_of_cell? w _ hx185_9)).trans hx185_9
                    replace hx185_10 := (HB.out.cell (World.block_lt_of_cell? w _ hx185_10)).trans hx185_10
                    replace hx185_11 := (HB.out.cell (World.block_lt_of_cell? w _ hx185_11)).trans hx185_11
                    replace hx185_12 := (HB.out.cell (World.block_lt_of_cell? w _ hx185_12)).trans hx185_12
                    have HR185_11 := Aside0.mk hi185_11
                    have HC185_11 := Aside0.mk hl185_11
                    clear hi185_11 hl185_11
                    replace p185 := eq_true p185
                    replace q185 := eq_true q185
                    have p186 : 0 ≤ (x5_2 : Int) := of_decide_eq_true (by first | (with_reducible assumption) | assumption)
                    have q186 : x5_2 < (l0.length : Int) := of_decide_eq_true (by first | (with_reducible assumption) | assumption)
                    obtain ⟨ad186, A186_11, c186_11, e186, hx186_0, hx186_1, hx186_2, hx186_3, hx186_4, hx186_5, hx186_6, hx186_7, hx186_8, hx186_9, hx186_10, hx186_11, hx186_12, hl186_11, hi186_11⟩ := at_T55 HR0.out x5_2 p186 q186
                    have hw186_12 := hx186_12
                    have hw186_11 := hx186_11
                    have hw186_10 := hx186_10
                    have hw186_9 := hx186_9
                    have hw186_8 := hx186_8
                    have hw186_7 := hx186_7
                    have hw186_6 := hx186_6
                    have hw186_5 := hx186_5
                    have hw186_4 := hx186_4
                    have hw186_3 := hx186_3
                    have hw186_2 := hx186_2
                    have hw186_1 := hx186_1
                    have hw186_0 := hx186_0
                    obtain rfl : ad185 = ad186 := (by injection e186)
                    replace hx186_0 := (HB.out.cell (World.block_lt_of_cell? w _ hx186_0)).trans hx186_0
                    replace hx186_1 := (HB.out.cell (World.block_lt_of_cell? w _ hx186_1)).trans hx186_1
                    replace hx186_2 := (HB.out.cell (World.block_lt_of_cell? w _ hx186_2)).trans hx186_2
                    replace hx186_3 := (HB.out.cell (World.block_lt_of_cell? w _ hx186_3)).trans hx186_3
                    replace hx186_4 := (HB.out.cell (World.block_lt_of_cell? w _ hx186_4)).trans hx186_4
                    replace hx186_5 := (HB.out.cell (World.block_lt_of_cell? w _ hx186_5)).trans hx186_5
                    replace hx186_6 := (HB.out.cell (World.block_lt_of_cell? w _ hx186_6)).trans hx186_6
                    replace hx186_7 := (HB.out.cell (World.block_lt_of_cell? w _ hx186_7)).trans hx186_7
                    replace hx186_8 := (HB.out.cell (World.block_lt_of_cell? w _ hx186_8)).trans hx186_8
                    replace hx186_9 := (HB.out.cell (World.block_lt_of_cell? w _ hx186_9)).trans hx186_9
                    replace hx186_10 := (HB.out.cell (World.block_lt_of_cell? w _ hx186_10)).trans hx186_10
                    replace hx186_11 := (HB.out.cell (World.block_lt_of_cell? w _ hx186_11)).trans hx186_11
                    replace hx186_12 := (HB.out.cell (World.block_lt_of_cell? w _ hx186_12)).trans hx186_12
                    have HR186_11 := Aside0.mk hi186_11
                    have HC186_11 := Aside0.mk hl186_11
                    clear hi186_11 hl186_11
                    replace p186 := eq_true p186
                    replace q186 := eq_true q186
                    have ea_ := Option.some.inj (hx185_11.symm.trans hx186_11)
                    injection ea_ with ea_ en_ ec_
                    subst ea_
                    subst ec_
                    clear en_
                    have p187 : 0 ≤ (x5_2 : Int) := of_decide_eq_true (by first | (with_reducible assumption) | assumption)
                    have q187 : x5_2 < (l0.length : Int) := of_decide_eq_true (by first | (with_reducible assumption) | assumption)
                    obtain ⟨ad187, A187_11, c187_11, e187, hx187_0, hx187_1, hx187_2, hx187_3, hx187_4, hx187_5, hx187_6, hx187_7, hx187_8, hx187_9, hx187_10, hx187_11, hx187_12, hl187_11, hi187_11⟩ := at_T55 HR0.out x5_2 p187 q187
                    have hw187_12 := hx187_12
                    have hw187_11 := hx187_11
                    have hw187_10 := hx187_10
                    have hw187_9 := hx187_9
                    have hw187_8 := hx187_8
                    have hw187_7 := hx187_7
                    have hw187_6 := hx187_6
                    have hw187_5 := hx187_5
                    have hw187_4 := hx187_4
                    have hw187_3 := hx187_3
                    have hw187_2 := hx187_2
                    have hw187_1 := hx187_1
                    have hw187_0 := hx187_0
                    obtain rfl : ad185 = ad187 := (by injection e187)
                    replace hx187_0 := (HB.out.cell (World.block_lt_of_cell? w _ hx187_0)).trans hx187_0
                    replace hx187_1 := (HB.out.cell (World.block_lt_of_cell? w _ hx187_1)).trans hx187_1
                    replace hx187_2 := (HB.out.cell (World.block_lt_of_cell? w _ hx187_2)).trans hx187_2
                    replace hx187_3 := (HB.out.cell (World.block_lt_of_cell? w _ hx187_3)).trans hx187_3
                    replace hx187_4 := (HB.out.cell (World.block_lt_of_cell? w _ hx187_4)).trans hx187_4
                    replace hx187_5 := (HB.out.cell (World.block_lt_of_cell? w _ hx187_5)).trans hx187_5
                    replace hx187_6 := (HB.out.cell (World.block_lt_of_cell? w _ hx187_6)).trans hx187_6
                    replace hx187_7 := (HB.out.cell (World.block_lt_of_cell? w _ hx187_7)).trans hx187_7
                    replace hx187_8 := (HB.out.cell (World.block_lt_of_cell? w _ hx187_8)).trans hx187_8
                    replace hx187_9 := (HB.out.cell (World.block_lt_of_cell? w _ hx187_9)).trans hx187_9
                    replace hx187_10 := (HB.out.cell (World.block_lt_of_cell? w _ hx187_10)).trans hx187_10
                    replace hx187_11 := (HB.out.cell (World.block_lt_of_cell? w _ hx187_11)).trans hx187_11
                    replace hx187_12 := (HB.out.cell (World.block_lt_of_cell? w _ hx187_12)).trans hx187_12
                    have HR187_11 := Aside0.mk hi187_11
                    have HC187_11 := Aside0.mk hl187_11
                    clear hi187_11 hl187_11
                    replace p187 := eq_true p187
                    replace q187 := eq_true q187
                    have ea_ := Option.some.inj (hx185_11.symm.trans hx187_11)
                    injection ea_ with ea_ en_ ec_
                    subst ea_
                    subst ec_
                    clear en_
                    refine start_ (n := 25) (S := fun w' => w'.cell? (ad185.add ((x5_2).toNat * 13)) = some (.int .i64 ((rd_T55 l0 x5_2).f0)) ∧ w'.cell? ⟨(ad185.add ((x5_2).toNat * 13)).block, (ad185.add ((x5_2).toNat * 13)).off + 1, none⟩ = some (.int .i64 ((rd_T55 l0 x5_2).f1)) ∧ w'.cell? ⟨(ad185.add ((x5_2).toNat * 13)).block, (ad185.add ((x5_2).toNat * 13)).off + 2, none⟩ = some (.string ((rd_T55 l0 x5_2).f2)) ∧ w'.cell? ⟨(ad185.add ((x5_2).toNat * 13)).block, (ad185.add ((x5_2).toNat * 13)).off + 3, none⟩ = some (.string ((rd_T55 l0 x5_2).f3)) ∧ w'.cell? ⟨(ad185.add ((x5_2).toNat * 13)).block, (ad185.add ((x5_2).toNat * 13)).off + 4, none⟩ = some (.int .i64 ((rd_T55 l0 x5_2).f4)) ∧ w'.cell? ⟨(ad185.add ((x5_2).toNat * 13)).block, (ad185.add ((x5_2).toNat * 13)).off + 5, none⟩ = some (.int .i64 ((rd_T55 l0 x5_2).f5.f0.f0)) ∧ w'.cell? ⟨(ad185.add ((x5_2).toNat * 13)).block, (ad185.add ((x5_2).toNat * 13)).off + 6, none⟩ = some (.int .i64 ((rd_T55 l0 x5_2).f5.f0.f1)) ∧ w'.cell? ⟨(ad185.add ((x5_2).toNat * 13)).block, (ad185.add ((x5_2).toNat * 13)).off + 7, none⟩ = some (.int .i64 ((rd_T55 l0 x5_2).f5.f0.f2)) ∧ w'.cell? ⟨(ad185.add ((x5_2).toNat * 13)).block, (ad185.add ((x5_2).toNat * 13)).off + 8, none⟩ = some (.int .i64 ((rd_T55 l0 x5_2).f5.f1.f0)) ∧ w'.cell? ⟨(ad185.add ((x5_2).toNat * 13)).block, (ad185.add ((x5_2).toNat * 13)).off + 9, none⟩ = some (.int .i64 ((rd_T55 l0 x5_2).f5.f1.f1)) ∧ w'.cell? ⟨(ad185.add ((x5_2).toNat * 13)).block, (ad185.add ((x5_2).toNat * 13)).off + 10, none⟩ = some (.int .i64 ((rd_T55 l0 x5_2).f5.f1.f2)) ∧ w'.cell? ⟨(ad185.add ((x5_2).toNat * 13)).block, (ad185.add ((x5_2).toNat * 13)).off + 11, none⟩ = some (.slice A185_11 ((rd_T55 l0 x5_2).f6).length c185_11) ∧ w'.cell? ⟨(ad185.add ((x5_2).toNat * 13)).block, (ad185.add ((x5_2).toNat * 13)).off + 12, none⟩ = some (.int .i64 ((rd_T55 l0 x5_2).f7)) ∧ w'.cell? (ad185.add ((x5_2).toNat * 13)) = some (.int .i64 ((rd_T55 l0 x5_2).f0)) ∧ w'.cell? ⟨(ad185.add ((x5_2).toNat * 13)).block, (ad185.add ((x5_2).toNat * 13)).off + 1, none⟩ = some (.int .i64 ((rd_T55 l0 x5_2).f1)) ∧ w'.cell? ⟨(ad185.add ((x5_2).toNat * 13)).block, (ad185.add ((x5_2).toNat * 13)).off + 2, none⟩ = some (.string ((rd_T55 l0 x5_2).f2)) ∧ w'.cell? ⟨(ad185.add ((x5_2).toNat * 13)).block, (ad185.add ((x5_2).toNat * 13)).off + 3, none⟩ = some (.string ((rd_T55 l0 x5_2).f3)) ∧ w'.cell? ⟨(ad185.add ((x5_2).toNat * 13)).block, (ad185.add ((x5_2).toNat * 13)).off + 4, none⟩ = some (.int .i64 ((rd_T55 l0 x5_2).f4)) ∧ w'.cell? ⟨(ad185.add ((x5_2).toNat * 13)).block, (ad185.add ((x5_2).toNat * 13)).off + 5, none⟩ = some (.int .i64 ((rd_T55 l0 x5_2).f5.f0.f0)) ∧ w'.cell? ⟨(ad185.add ((x5_2).toNat * 13)).block, (ad185.add ((x5_2).toNat * 13)).off + 6, none⟩ = some (.int .i64 ((rd_T55 l0 x5_2).f5.f0.f1)) ∧ w'.cell? ⟨(ad185.add ((x5_2).toNat * 13)).block, (ad185.add ((x5_2).toNat * 13)).off + 7, none⟩ = some (.int .i64 ((rd_T55 l0 x5_2).f5.f0.f2)) ∧ w'.cell? ⟨(ad185.add ((x5_2).toNat * 13)).block, (ad185.add ((x5_2).toNat * 13)).off + 8, none⟩ = some (.int .i64 ((rd_T55 l0 x5_2).f5.f1.f0)) ∧ w'.cell? ⟨(ad185.add ((x5_2).toNat * 13)).block, (ad185.add ((x5_2).toNat * 13)).off + 9, none⟩ = some (.int .i64 ((rd_T55 l0 x5_2).f5.f1.f1)) ∧ w'.cell? ⟨(ad185.add ((x5_2).toNat * 13)).block, (ad185.add ((x5_2).toNat * 13)).off + 10, none⟩ = some (.int .i64 ((rd_T55 l0 x5_2).f5.f1.f2)) ∧ w'.cell? ⟨(ad185.add ((x5_2).toNat * 13)).block, (ad185.add ((x5_2).toNat * 13)).off + 11, none⟩ = some (.slice A185_11 ((rd_T55 l0 x5_2).f6).length c185_11) ∧ w'.cell? ⟨(ad185.add ((x5_2).toNat * 13)).block, (ad185.add ((x5_2).toNat * 13)).off + 12, none⟩ = some (.int .i64 ((rd_T55 l0 x5_2).f7)) ∧ w'.cell? (ad185.add ((x5_2).toNat * 13)) = some (.int .i64 ((rd_T55 l0 x5_2).f0)) ∧ w'.cell? ⟨(ad185.add ((x5_2).toNat * 13)).block, (ad185.add ((x5_2).toNat * 13)).off + 1, none⟩ = some (.int .i64 ((rd_T55 l0 x5_2).f1)) ∧ w'.cell? ⟨(ad185.add ((x5_2).toNat * 13)).block, (ad185.add ((x5_2).toNat * 13)).off + 2, none⟩ = some (.string ((rd_T55 l0 x5_2).f2)) ∧ w'.cell? ⟨(ad185.add ((x5_2).toNat * 13)).block, (ad185.add ((x5_2).toNat * 13)).off + 3, none⟩ = some (.string ((rd_T55 l0 x5_2).f3)) ∧ w'.cell? ⟨(ad185.add ((x5_2).toNat * 13)).block, (ad185.add ((x5_2).toNat * 13)).off + 4, none⟩ = some (.int .i64 ((rd_T55 l0 x5_2).f4)) ∧ w'.cell? ⟨(ad185.add ((x5_2).toNat * 13)).block, (ad185.add ((x5_2).toNat * 13)).off + 5, none⟩ = some (.int .i64 ((rd_T55 l0 x5_2).f5.f0.f0)) ∧ w'.cell? ⟨(ad185.add ((x5_2).toNat * 13)).block, (ad185.add ((x5_2).toNat * 13)).off + 6, none⟩ = some (.int .i64 ((rd_T55 l0 x5_2).f5.f0.f1)) ∧ w'.cell? ⟨(ad185.add ((x5_2).toNat * 13)).block, (ad185.add ((x5_2).toNat * 13)).off + 7, none⟩ = some (.int .i64 ((rd_T55 l0 x5_2).f5.f0.f2)) ∧ w'.cell? ⟨(ad185.add ((x5_2).toNat * 13)).block, (ad185.add ((x5_2).toNat * 13)).off + 8, none⟩ = some (.int .i64 ((rd_T55 l0 x5_2).f5.f1.f0)) ∧ w'.cell? ⟨(ad185.add ((x5_2).toNat * 13)).block, (ad185.add ((x5_2).toNat * 13)).off + 9, none⟩ = some (.int .i64 ((rd_T55 l0 x5_2).f5.f1.f1)) ∧ w'.cell? ⟨(ad185.add ((x5_2).toNat * 13)).block, (ad185.add ((x5_2).toNat * 13)).off + 10, none⟩ = some (.int .i64 ((rd_T55 l0 x5_2).f5.f1.f2)) ∧ w'.cell? ⟨(ad185.add ((x5_2).toNat * 13)).block, (ad185.add ((x5_2).toNat * 13)).off + 11, none⟩ = some (.slice A185_11 ((rd_T55 l0 x5_2).f6).length c185_11) ∧ w'.cell? ⟨(ad185.add ((x5_2).toNat * 13)).block, (ad185.add ((x5_2).toNat * 13)).off + 12, none⟩ = some (.int .i64 ((rd_T55 l0 x5_2).f7))) (ds := []) #[false, false, false, false, false, false, false, false, false, false, false, false, false, false, false, false, false, false, false, false, false, false, false, false, false] (by kernel_rfl) rfl rfl ⟨((HB.out.cell (World.block_lt_of_cell? w _ hw185_0)).trans hw185_0), ((HB.out.cell (World.block_lt_of_cell? w _ hw185_1)).trans hw185_1), ((HB.out.cell (World.block_lt_of_cell? w _ hw185_2)).trans hw185_2), ((HB.out.cell (World.block_lt_of_cell? w _ hw185_3)).trans hw185_3), ((HB.out.cell (World.block_lt_of_cell? w _ hw185_4)).trans hw185_4), ((HB.out.cell (World.block_lt_of_cell? w _ hw185_5)).trans hw185_5), ((HB.out.cell (World.block_lt_of_cell? w _ hw185_6)).trans hw185_6), ((HB.out.cell (World.block_lt_of_cell? w _ hw185_7)).trans hw185_7), ((HB.out.cell (World.block_lt_of_cell? w _ hw185_8)).trans hw185_8), ((HB.out.cell (World.block_lt_of_cell? w _ hw185_9)).trans hw185_9), ((HB.out.cell (World.block_lt_of_cell? w _ hw185_10)).trans hw185_10), ((HB.out.cell (World.block_lt_of_cell? w _ hw185_11)).trans hw185_11), ((HB.out.cell (World.block_lt_of_cell? w _ hw185_12)).trans hw185_12), ((HB.out.cell (World.block_lt_of_cell? w _ hw186_0)).trans hw186_0), ((HB.out.cell (World.block_lt_of_cell? w _ hw186_1)).trans hw186_1), ((HB.out.cell (World.block_lt_of_cell? w _ hw186_2)).trans hw186_2), ((HB.out.cell (World.block_lt_of_cell? w _ hw186_3)).trans hw186_3), ((HB.out.cell (World.block_lt_of_cell? w _ hw186_4)).trans hw186_4), ((HB.out.cell (World.block_lt_of_cell? w _ hw186_5)).trans hw186_5), ((HB.out.cell (World.block_lt_of_cell? w _ hw186_6)).trans hw186_6), ((HB.out.cell (World.block_lt_of_cell? w _ hw186_7)).trans hw186_7), ((HB.out.cell (World.block_lt_of_cell? w _ hw186_8)).trans hw186_8), ((HB.out.cell (World.block_lt_of_cell? w _ hw186_9)).trans hw186_9), ((HB.out.cell (World.block_lt_of_cell? w _ hw186_10)).trans hw186_10), ((HB.out.cell (World.block_lt_of_cell? w _ hw186_11)).trans hw186_11), ((HB.out.cell (World.block_lt_of_cell? w _ hw186_12)).trans hw186_12), ((HB.out.cell (World.block_lt_of_cell? w _ hw187_0)).trans hw187_0), ((HB.out.cell (World.block_lt_of_cell? w _ hw187_1)).trans hw187_1), ((HB.out.cell (World.block_lt_of_cell? w _ hw187_2)).trans hw187_2), ((HB.out.cell (World.block_lt_of_cell? w _ hw187_3)).trans hw187_3), ((HB.out.cell (World.block_lt_of_cell? w _ hw187_4)).trans hw187_4), ((HB.out.cell (World.block_lt_of_cell? w _ hw187_5)).trans hw187_5), ((HB.out.cell (World.block_lt_of_cell? w _ hw187_6)).trans hw187_6), ((HB.out.cell (World.block_lt_of_cell? w _ hw187_7)).trans hw187_7), ((HB.out.cell (World.block_lt_of_cell? w _ hw187_8)).trans hw187_8), ((HB.out.cell (World.block_lt_of_cell? w _ hw187_9)).trans hw187_9), ((HB.out.cell (World.block_lt_of_cell? w _ hw187_10)).trans hw187_10), ((HB.out.cell (World.block_lt_of_cell? w _ hw187_11)).trans hw187_11), ((HB.out.cell (World.block_lt_of_cell? w _ hw187_12)).trans hw187_12)⟩ (fun hHeld => ?_); refine with_tabW ambidexterlaw11_Few.tab6 ambidexterlaw11_Few.bits6 (fun HT_ HW_ => ?_)
                    generalize wr.drew = w14 at HB HR185_11 HR186_11 HR187_11 hx185_0 hx185_1 hx185_10 hx185_11 hx185_12 hx185_2 hx185_3 hx185_4 hx185_5 hx185_6 hx185_7 hx185_8 hx185_9 hx186_0 hx186_1 hx186_10 hx186_11 hx186_12 hx186_2 hx186_3 hx186_4 hx186_5 hx186_6 hx186_7 hx186_8 hx186_9 hx187_0 hx187_1 hx187_10 hx187_11 hx187_12 hx187_2 hx187_3 hx187_4 hx187_5 hx187_6 hx187_7 hx187_8 hx187_9 hHeld ⊢
                    refine pure_ (i := 0) (N := some 19) (v := ?_) (a' := ?_) #[true, false, false, false, false, false, false, false, false, false, false, false, false, false, false, false, false, false, false, false, false, false, false, false, false] rfl rfl (any_of HT_.out (by kernel_rfl)) (fun _ _ _ h => h) (Or.inl ⟨by rfl, ?_⟩) ?_ ?_
                    rotate_left
                    · intro w'
                      go_simp
                      with_reducible rfl
                    rotate_left
                    · simp only [Act.put, List.setIfInBounds_toArray, List.set_cons_zero, List.set_cons_succ, i64_w, i32_w]
                      rfl
                    refine pure_ (i := 1) (N := some 20) (v := ?_) (a' := ?_) #[true, true, false, false, false, false, false, false, false, false, false, false, false, false, false, false, false, false, false, false, false, false, false, false, false] rfl rfl (any_of HT_.out (by kernel_rfl)) (fun _ _ _ h => h) (Or.inl ⟨by rfl, ?_⟩) ?_ ?_
                    rotate_left
                    · intro w'
                      go_simp
                      with_reducible rfl
                    rotate_left
                    · simp only [Act.put, List.setIfInBounds_toArray, List.set_cons_zero, List.set_cons_succ, i64_w, i32_w]
                      rfl
                    refine pure_ (i := 2) (N := some 21) (v := ?_) (a' := ?_) #[true, true, true, false, false, false, false, false, false, false, false, false, false, false, false, false, false, false, false, false, false, false, false, false, false] rfl rfl (any_of HT_.out (by kernel_rfl)) (fun _ _ _ h => h) (Or.inl ⟨by rfl, ?_⟩) ?_ ?_
                    rotate_left
                    · intro w'
                      go_simp
                      with_reducible rfl
                    rotate_left
                    · simp only [Act.put, List.setIfInBounds_toArray, List.set_cons_zero, List.set_cons_succ, i64_w, i32_w]
                      rfl
                    refine pure_ (i := 3) (N := some 22) (v := ?_) (a' := ?_) #[true, true, true, true, false, false, false, false, false, false, false, false, false, false, false, false, false, false, false, false, false, false, false, false, false] rfl rfl (any_of HT_.out (by kernel_rfl)) (fun _ _ _ h => h) (Or.inl ⟨by rfl, ?_⟩) ?_ ?_
                    rotate_left
                    · intro w'
                      go_simp
                      with_reducible rfl
                    rotate_left
                    · simp only [Act.put, List.setIfInBounds_toArray, List.set_cons_zero, List.set_cons_succ, i64_w, i32_w]
                      rfl
                    refine pure_ (i := 6) (N := some 25) (v := ?_) (a' := ?_) #[true, true, true, true, false, false, true, false, false, false, false, false, false, false, false, false, false, false, false, false, false, false, false, false, false] rfl rfl (any_of HT_.out (by kernel_rfl)) (fun _ _ _ h => h) (Or.inl ⟨by rfl, ?_⟩) ?_ ?_
                    rotate_left
                    · intro w'
                      go_simp
                      with_reducible rfl
                    rotate_left
                    · simp only [Act.put, List.setIfInBounds_toArray, List.set_cons_zero, List.set_cons_succ, i64_w, i32_w]
                      rfl
                    refine pure_ (i := 7) (N := some 26) (v := ?_) (a' := ?_) #[true, true, true, true, false, false, true, true, false, false, false, false, false, false, false, false, false, false, false, false, false, false, false, false, false] rfl rfl (any_of HT_.out (by kernel_rfl)) (fun _ _ _ h => h) (Or.inl ⟨by rfl, ?_⟩) ?_ ?_
                    rotate_left
                    · intro w'
                      go_simp
                      with_reducible rfl
                    rotate_left
                    · simp only [Act.put, List.setIfInBounds_toArray, List.set_cons_zero, List.set_cons_succ, i64_w, i32_w]
                      rfl
                    refine pure_ (i := 8) (N := some 27) (v := ?_) (a' := ?_) #[true, true, true, true, false, false, true, true, true, false, false, false, false, false, false, false, false, false, false, false, false, false, false, false, false] rfl rfl (any_of HT_.out (by kernel_rfl)) (fun _ _ _ h => h) (Or.inl ⟨by rfl, ?_⟩) ?_ ?_
                    rotate_left
                    · intro w'
                      go_simp
                      with_reducible rfl
                    rotate_left
                    · simp only [Act.put, List.setIfInBounds_toArray, List.set_cons_zero, List.set_cons_succ, i64_w, i32_w]
                      rfl
                    refine pure_ (i := 9) (N := some 28) (v := ?_) (a' := ?_) #[true, true, true, true, false, false, true, true, true, true, false, false, false, false, false, false, false, false, false, false, false, false, false, false, false] rfl rfl (any_of HT_.out (by kernel_rfl)) (fun _ _ _ h => h) (Or.inl ⟨by rfl, ?_⟩) ?_ ?_
                    rotate_left
                    · intro w'
                      go_simp
                      with_reducible rfl
                    rotate_left
                    · simp only [Act.put, List.setIfInBounds_toArray, List.set_cons_zero, List.set_cons_succ, i64_w, i32_w]
                      rfl
                    refine take_ (i := 4) (N := some 23) (v := ?_) (a' := ?_) #[true, true, true, true, true, false, true, true, true, true, false, false, false, false, false, false, false, false, false, false, false, false, false, false, false] rfl rfl (take_ofW HT_.out HW_.out (by kernel_rfl)) (fun _ _ _ h => h) (Or.inl ⟨by rfl, ?_⟩) hHeld ?_ ?_
                    rotate_left
                    · rintro w' ⟨s0, s1, s2, s3, s4, s5, s6, s7, s8, s9, s10, s11, s12, s13, s14, s15, s16, s17, s18, s19, s20, s21, s22, s23, s24, s25, s26, s27, s28, s29, s30, s31, s32, s33, s34, s35, s36, s37, s38⟩
                      go_simp
                      with_reducible rfl
                    rotate_left
                    · simp only [Act.put, List.setIfInBounds_toArray, List.set_cons_zero, List.set_cons_succ, i64_w, i32_w]
                      rfl
                    refine pure_ (i := 5) (N := some 24) (v := ?_) (a' := ?_) #[true, true, true, true, true, true, true, true, true, true, false, false, false, false, false, false, false, false, false, false, false, false, false, false, false] rfl rfl (any_of HT_.out (by kernel_rfl)) (fun _ _ _ h => h) (Or.inl ⟨by rfl, ?_⟩) ?_ ?_
                    rotate_left
                    · intro w'
                      go_simp
                      with_reducible rfl
                    rotate_left
                    · simp only [Act.put, List.setIfInBounds_toArray, List.set_cons_zero, List.set_cons_succ, i64_w, i32_w]
                      rfl
                    refine take_ (i := 10) (N := some 29) (v := ?_) (a' := ?_) #[true, true, true, true, true, true, true, true, true, true, true, false, false, false, false, false, false, false, false, false, false, false, false, false, false] rfl rfl (take_ofW HT_.out HW_.out (by kernel_rfl)) (fun _ _ _ h => h) (Or.inl ⟨by rfl, ?_⟩) hHeld ?_ ?_
                    rotate_left
                    · rintro w' ⟨s0, s1, s2, s3, s4, s5, s6, s7, s8, s9, s10, s11, s12, s13, s14, s15, s16, s17, s18, s19, s20, s21, s22, s23, s24, s25, s26, s27, s28, s29, s30, s31, s32, s33, s34, s35, s36, s37, s38⟩
                      go_simp
                      with_reducible rfl
                    rotate_left
                    · simp only [Act.put, List.setIfInBounds_toArray, List.set_cons_zero, List.set_cons_succ, i64_w, i32_w]
                      rfl
                    refine pure_ (i := 11) (N := some 30) (v := ?_) (a' := ?_) #[true, true, true, true, true, true, true, true, true, true, true, true, false, false, false, false, false, false, false, false, false, false, false, false, false] rfl rfl (any_of HT_.out (by kernel_rfl)) (fun _ _ _ h => h) (Or.inl ⟨by rfl, ?_⟩) ?_ ?_
                    rotate_left
                    · intro w'
                      go_simp
                      with_reducible rfl
                    rotate_left
                    · simp only [Act.put, List.setIfInBounds_toArray, List.set_cons_zero, List.set_cons_succ, i64_w, i32_w]
                      rfl
                    refine pure_ (i := 12) (N := some 31) (v := ?_) (a' := ?_) #[true, true, true, true, true, true, true, true, true, true, true, true, true, false, false, false, false, false, false, false, false, false, false, false, false] rfl rfl (any_of HT_.out (by kernel_rfl)) (fun _ _ _ h => h) (Or.inl ⟨by rfl, ?_⟩) ?_ ?_
                    rotate_left
                    · intro w'
                      go_simp
                      with_reducible rfl
                    rotate_left
                    · simp only [Act.put, List.setIfInBounds_toArray, List.set_cons_zero, List.set_cons_succ, i64_w, i32_w]
                      rfl
                    refine pure_ (i := 13) (N := some 32) (v := ?_) (a' := ?_) #[true, true, true, true, true, true, true, true, true, true, true, true, true, true, false, false, false, false, false, false, false, false, false, false, false] rfl rfl (any_of HT_.out (by kernel_rfl)) (fun _ _ _ h => h) (Or.inl ⟨by rfl, ?_⟩) ?_ ?_
                    rotate_left
                    · intro w'
                      go_simp
                      with_reducible rfl
                    rotate_left
                    · simp only [Act.put, List.setIfInBounds_toArray, List.set_cons_zero, List.set_cons_succ, i64_w, i32_w]
                      rfl
                    refine pure_ (i := 14) (N := some 33) (v := ?_) (a' := ?_) #[true, true, true, true, true, true, true, true, true, true, true, true, true, true, true, false, false, false, false, false, false, false, false, false, false] rfl rfl (any_of HT_.out (by kernel_rfl)) (fun _ _ _ h => h) (Or.inl ⟨by rfl, ?_⟩) ?_ ?_
                    rotate_left
                    · intro w'
                      go_simp
                      with_reducible rfl
                    rotate_left
                    · simp only [Act.put, List.setIfInBounds_toArray, List.set_cons_zero, List.set_cons_succ, i64_w, i32_w]
                      rfl
                    refine pure_ (i := 15) (N := some 34) (v := ?_) (a' := ?_) #[true, true, true, true, true, true, true, true, true, true, true, true, true, true, true, true, false, false, false, false, false, false, false, false, false] rfl rfl (any_of HT_.out (by kernel_rfl)) (fun _ _ _ h => h) (Or.inl ⟨by rfl, ?_⟩) ?_ ?_
                    rotate_left
                    · intro w'
                      go_simp
                      with_reducible rfl
                    rotate_left
                    · simp only [Act.put, List.setIfInBounds_toArray, List.set_cons_zero, List.set_cons_succ, i64_w, i32_w]
                      rfl
                    refine pure_ (i := 16) (N := some 35) (v := ?_) (a' := ?_) #[true, true, true, true, true, true, true, true, true, true, true, true, true, true, true, true, true, false, false, false, false, false, false, false, false] rfl rfl (any_of HT_.out (by kernel_rfl)) (fun _ _ _ h => h) (Or.inl ⟨by rfl, ?_⟩) ?_ ?_
                    rotate_left
                    · intro w'
                      go_simp
                      with_reducible rfl
                    rotate_left
                    · simp only [Act.put, List.setIfInBounds_toArray, List.set_cons_zero, List.set_cons_succ, i64_w, i32_w]
                      rfl
                    refine pure_ (i := 17) (N := some 36) (v := ?_) (a' := ?_) #[true, true, true, true, true, true, true, true, true, true, true, true, true, true, true, true, true, true, false, false, false, false, false, false, false] rfl rfl (any_of HT_.out (by kernel_rfl)) (fun _ _ _ h => h) (Or.inl ⟨by rfl, ?_⟩) ?_ ?_
                    rotate_left
                    · intro w'
                      go_simp
                      with_reducible rfl
                    rotate_left
                    · simp only [Act.put, List.setIfInBounds_toArray, List.set_cons_zero, List.set_cons_succ, i64_w, i32_w]
                      rfl
                    refine pure_ (i := 18) (N := some 37) (v := ?_) (a' := ?_) #[true, true, true, true, true, true, true, true, true, true, true, true, true, true, true, true, true, true, true, false, false, false, false, false, false] rfl rfl (any_of HT_.out (by kernel_rfl)) (fun _ _ _ h => h) (Or.inl ⟨by rfl, ?_⟩) ?_ ?_
                    rotate_left
                    · intro w'
                      go_simp
                      with_reducible rfl
                    rotate_left
                    · simp only [Act.put, List.setIfInBounds_toArray, List.set_cons_zero, List.set_cons_succ, i64_w, i32_w]
                      rfl
                    refine pure_ (i := 20) (N := some 39) (v := ?_) (a' := ?_) #[true, true, true, true, true, true, true, true, true, true, true, true, true, true, true, true, true, true, true, false, true, false, false, false, false] rfl rfl (any_of HT_.out (by kernel_rfl)) (fun _ _ _ h => h) (Or.inl ⟨by rfl, ?_⟩) ?_ ?_
                    rotate_left
                    · intro w'
                      go_simp
                      with_reducible rfl
                    rotate_left
                    · simp only [Act.put, List.setIfInBounds_toArray, List.set_cons_zero, List.set_cons_succ, i64_w, i32_w]
                      rfl
                    refine pure_ (i := 21) (N := some 40) (v := ?_) (a' := ?_) #[true, true, true, true, true, true, true, true, true, true, true, true, true, true, true, true, true, true, true, false, true, true, false, false, false] rfl rfl (any_of HT_.out (by kernel_rfl)) (fun _ _ _ h => h) (Or.inl ⟨by rfl, ?_⟩) ?_ ?_
                    rotate_left
                    · intro w'
                      go_simp
                      with_reducible rfl
                    rotate_left
                    · simp only [Act.put, List.setIfInBounds_toArray, List.set_cons_zero, List.set_cons_succ, i64_w, i32_w]
                      rfl
                    refine take_ (i := 19) (N := some 38) (v := ?_) (a' := ?_) #[true, true, true, true, true, true, true, true, true, true, true, true, true, true, true, true, true, true, true, true, true, true, false, false, false] rfl rfl (take_ofW HT_.out HW_.out (by kernel_rfl)) (fun _ _ _ h => h) (Or.inl ⟨by rfl, ?_⟩) hHeld ?_ ?_
                    rotate_left
                    · rintro w' ⟨s0, s1, s2, s3, s4, s5, s6, s7, s8, s9, s10, s11, s12, s13, s14, s15, s16, s17, s18, s19, s20, s21, s22, s23, s24, s25, s26, s27, s28, s29, s30, s31, s32, s33, s34, s35, s36, s37, s38⟩
                      go_simp
                      with_reducible rfl
                    rotate_left
                    · simp only [Act.put, List.setIfInBounds_toArray, List.set_cons_zero, List.set_cons_succ, i64_w, i32_w]
                      rfl
                    refine one_ (i := 22) (N := some 41) #[true, true, true, true, true, true, true, true, true, true, true, true, true, true, true, true, true, true, true, true, true, true, true, false, false] rfl rfl (one_of HT_.out (by kernel_rfl)) (by decide) (fun K hK => ?_)
                    refine goes_ Tryd.func10 (by kernel_rfl) rfl #[.slice A185_11 ((rd_T55 l0 x5_2).f6).length c185_11, .int .i64 (wrap64 (a1 + 1))] (by rfl) rfl rfl (by (try simp only [List.map_toArray, List.map_cons, List.map_nil]); first | done | rfl | (simp only [List.length_drop, List.length_take]; rfl)) ?_
                    with_reducible refine (ih k2 (by have := HJ2.out; have := HK2.out; omega) _ _ ((rd_T55 l0 x5_2).f6) (wrap64 (a1 + 1)) false _ ?side1 ?side2 A10.out).mono ?_
                    (case side1 => repeat (first | exact (Kd.C_below HR187_11.out HB.out) | (with_reducible refine Kd.C_alloc ?_ _) | (with_reducible refine Kd.C_drewN ?_ _) | (with_reducible refine Kd.C_drew ?_)))
                    (case side2 => exact HC187_11.out)
                    rintro e w15 ⟨rfl, hb⟩
                    refine ⟨_, rfl, ?_⟩
                    have n0_ := Aside0.mk (below_step (by repeat (first | (with_reducible first | exact HB.out | apply below_alloc | apply pw_below_drewN | apply below_drew1) | exact HB.out)) hb)
                    clear HB
                    have HB := n0_
                    clear n0_
                    (try clear hb)
                    (try clear hb2)
                    (try clear hk)
                    (try clear hi)
                    refine hK.out _ _ ⟨((HB.out.cell (World.block_lt_of_cell? w _ hw185_0)).trans hw185_0), ((HB.out.cell (World.block_lt_of_cell? w _ hw185_1)).trans hw185_1), ((HB.out.cell (World.block_lt_of_cell? w _ hw185_2)).trans hw185_2), ((HB.out.cell (World.block_lt_of_cell? w _ hw185_3)).trans hw185_3), ((HB.out.cell (World.block_lt_of_cell? w _ hw185_4)).trans hw185_4), ((HB.out.cell (World.block_lt_of_cell? w _ hw185_5)).trans hw185_5), ((HB.out.cell (World.block_lt_of_cell? w _ hw185_6)).trans hw185_6), ((HB.out.cell (World.block_lt_of_cell? w _ hw185_7)).trans hw185_7), ((HB.out.cell (World.block_lt_of_cell? w _ hw185_8)).trans hw185_8), ((HB.out.cell (World.block_lt_of_cell? w _ hw185_9)).trans hw185_9), ((HB.out.cell (World.block_lt_of_cell? w _ hw185_10)).trans hw185_10), ((HB.out.cell (World.block_lt_of_cell? w _ hw185_11)).trans hw185_11), ((HB.out.cell (World.block_lt_of_cell? w _ hw185_12)).trans hw185_12), ((HB.out.cell (World.block_lt_of_cell? w _ hw186_0)).trans hw186_0), ((HB.out.cell (World.block_lt_of_cell? w _ hw186_1)).trans hw186_1), ((HB.out.cell (World.block_lt_of_cell? w _ hw186_2)).trans hw186_2), ((HB.out.cell (World.block_lt_of_cell? w _ hw186_3)).trans hw186_3), ((HB.out.cell (World.block_lt_of_cell? w _ hw186_4)).trans hw186_4), ((HB.out.cell (World.block_lt_of_cell? w _ hw186_5)).trans hw186_5), ((HB.out.cell (World.block_lt_of_cell? w _ hw186_6)).trans hw186_6), ((HB.out.cell (World.block_lt_of_cell? w _ hw186_7)).trans hw186_7), ((HB.out.cell (World.block_lt_of_cell? w _ hw186_8)).trans hw186_8), ((HB.out.cell (World.block_lt_of_cell? w _ hw186_9)).trans hw186_9), ((HB.out.cell (World.block_lt_of_cell? w _ hw186_10)).trans hw186_10), ((HB.out.cell (World.block_lt_of_cell? w _ hw186_11)).trans hw186_11), ((HB.out.cell (World.block_lt_of_cell? w _ hw186_12)).trans hw186_12), ((HB.out.cell (World.block_lt_of_cell? w _ hw187_0)).trans hw187_0), ((HB.out.cell (World.block_lt_of_cell? w _ hw187_1)).trans hw187_1), ((HB.out.cell (World.block_lt_of_cell? w _ hw187_2)).trans hw187_2), ((HB.out.cell (World.block_lt_of_cell? w _ hw187_3)).trans hw187_3), ((HB.out.cell (World.block_lt_of_cell? w _ hw187_4)).trans hw187_4), ((HB.out.cell (World.block_lt_of_cell? w _ hw187_5)).trans hw187_5), ((HB.out.cell (World.block_lt_of_cell? w _ hw187_6)).trans hw187_6), ((HB.out.cell (World.block_lt_of_cell? w _ hw187_7)).trans hw187_7), ((HB.out.cell (World.block_lt_of_cell? w _ hw187_8)).trans hw187_8), ((HB.out.cell (World.block_lt_of_cell? w _ hw187_9)).trans hw187_9), ((HB.out.cell (World.block_lt_of_cell? w _ hw187_10)).trans hw187_10), ((HB.out.cell (World.block_lt_of_cell? w _ hw187_11)).trans hw187_11), ((HB.out.cell (World.block_lt_of_cell? w _ hw187_12)).trans hw187_12)⟩ (fun hHeld => ?_)
                    clear hK K
                    refine norm_ (a' := ?_) ?_ ?_
                    rotate_left
                    · show Act.put _ (some 41) _ = _
                      simp only [Act.put, List.setIfInBounds_toArray, List.set_cons_zero, List.set_cons_succ, i64_w, i32_w]
                      rfl
                    refine pure_ (i := 23) (N := some 42) (v := ?_) (a' := ?_) #[true, true, true, true, true, true, true, true, true, true, true, true, true, true, true, true, true, true, true, true, true, true, true, true, false] rfl rfl (any_of HT_.out (by kernel_rfl)) (fun _ _ _ h => h) (Or.inl ⟨by rfl, ?_⟩) ?_ ?_
                    rotate_left
                    · intro w'
                      go_simp
                      with_reducible rfl
                    rotate_left
                    · simp only [Act.put, List.setIfInBounds_toArray, List.set_cons_zero, List.set_cons_succ, i64_w, i32_w]
                      rfl
                    refine pure_ (i := 24) (N := some 43) (v := ?_) (a' := ?_) #[true, true, true, true, true, true, true, true, true, true, true, true, true, true, true, true, true, true, true, true, true, true, true, true, true] rfl rfl (any_of HT_.out (by kernel_rfl)) (fun _ _ _ h => h) (Or.inl ⟨by rfl, ?_⟩) ?_ ?_
                    rotate_left
                    · intro w'
                      go_simp
                      with_reducible rfl
                    rotate_left
                    · simp only [Act.put, List.setIfInBounds_toArray, List.set_cons_zero, List.set_cons_succ, i64_w, i32_w]
                      rfl
                    refine done_ (done_of HT_.out (by kernel_rfl)) ?_
                    try go_wp2
                    go_ret
                    exact ⟨by first | rfl | (simp [errW_none, errW_some] <;> rfl) | (simp [*, errW_none, errW_some] <;> rfl), by repeat (first | (with_reducible first | exact HB.out | apply below_alloc | apply pw_below_drewN | apply below_drew1) | exact HB.out)⟩
              · rw [if_neg c7] at H
                exact absurd H (by simp)
            · rw [if_neg c6] at H
              have c6b0 : decide (x5_2 < (l0.length : Int)) = false := decide_eq_false c6
              clear c6
              by_cases c16 : a1 > 0
              · rw [if_pos c16] at H
                have c16b0 : decide (0 < a1) = true := decide_eq_true c16
                clear c16
                obtain rfl := Option.some.inj H
                go_wp2
                go_ret
                exact ⟨by first | rfl | (simp [errW_none, errW_some] <;> rfl) | (simp [*, errW_none, errW_some] <;> rfl), by repeat (first | (with_reducible first | exact HB.out | apply below_alloc | apply pw_below_drewN | apply below_drew1) | exact HB.out)⟩
              · rw [if_neg c16] at H
                have c16b0 : decide (0 < a1) = false := decide_eq_false c16
                clear c16
                replace H := Option.bind_eq_some_iff.mp H
                obtain ⟨t189, A170, H⟩ := H
                replace H : (some (decide (t189 ≤ 100))) = some r := H
                have A17 := Aside0.mk A170
                clear A170
                obtain rfl := Option.some.inj H
                go_wp2_with (first | (go_at_call 16; (with_reducible refine (ambidexterref11_Count.calls k2 _ _ l0 t189 _ ?side1 ?side2 A17.out).mono ?_); (case side1 => repeat (first | exact (Kd.C_below HR0.out HB.out) | (with_reducible refine Kd.C_alloc ?_ _) | (with_reducible refine Kd.C_drewN ?_ _) | (with_reducible refine Kd.C_drew ?_))); (case side2 => exact HC0.out); rintro e w' ⟨rfl, ⟨nd, rfl⟩⟩))
                go_ret
                exact ⟨by first | rfl | (simp [errW_none, errW_some] <;> rfl) | (simp [*, errW_none, errW_some] <;> rfl), by repeat (first | (with_reducible first | exact HB.out | apply below_alloc | apply pw_below_drewN | apply below_drew1) | exact HB.out)⟩
end Go.Proofs.YtonhcfecfifghaaDoor.PPx
namespace Go.Proofs.YtonhcfecfifghaaDoor.PPx
open Go.RowKit Go.Proofs.YtonhcfecfifghaaDoorW.PrintWords Go.Proofs.YtonhcfecfifghaaDoorW.PrintLast Go.Proofs.YtonhcfecfifghaaDoorW.PrintMore
set_option linter.unusedVariables false
theorem few_step (k : Nat) (a : Int) (pre l : List S55) (x : S55) (hp : (pre.length : Int) ≤ 1000) : ambidexterlaw11_Few.l0 (k + 1) (pre ++ x :: l) a pre.length = if wrap64 ((x.f2.size : Int) + x.f3.size) > 200 then some false else (ambidexterlaw11_Few.f k x.f6 (wrap64 (a + 1))).bind fun t => if t = true then ambidexterlaw11_Few.l0 k ((pre ++ [x]) ++ l) a ((pre ++ [x]).length : Int) else some false := by
  rw [ambidexterlaw11_Few.l0, if_pos (by simp only [List.length_append, List.length_cons]; omega), if_pos (by omega), rd_mid]
  have hi : wrap64 ((pre.length : Int) + 1) = ((pre ++ [x]).length : Int) := by
    simp only [List.length_append, List.length_cons, List.length_nil]
    unfold wrap64; omega
  rw [hi, List.append_assoc, List.singleton_append]
/-- Few answers; and a yes bounds the lists -/
theorem few_total : ∀ (d : Nat) (a : Int) (l : List S55), 0 ≤ a → a + d = 9 → ∃ b, EvalsTo (fun k => ambidexterlaw11_Few.f k l a) b ∧ (b = true → Lens d l)
  | 0, a, l, h0, ha => by
    refine ⟨false, EvalsTo.shift (j := 2) (EvalsTo.const false) (fun k => ?_), fun h => by cases h⟩
    rw [ambidexterlaw11_Few.f, if_pos (by omega), ambidexterlaw11_Few.j0, if_pos rfl]
  | d + 1, a, l, h0, ha => by
    have ih := few_total d
    by_cases hl : (l.length : Int) > 100
    · refine ⟨false, EvalsTo.shift (j := 2) (EvalsTo.const false) (fun k => ?_), fun h => by cases h⟩
      rw [ambidexterlaw11_Few.f, if_neg (by omega), ambidexterlaw11_Few.j0, if_pos (decide_eq_true hl)]
    have hw : wrap64 (a + 1) = a + 1 := by unfold wrap64; omega
    have key : ∀ (l pre : List S55), pre.length + l.length ≤ 100 → (∀ x ∈ pre, Lens d x.f6) → ∃ b, EvalsTo (fun k => ambidexterlaw11_Few.l0 k (pre ++ l) a pre.length) b ∧ (b = true → ∀ x ∈ pre ++ l, Lens d x.f6) := by
      intro l
      induction l with
      | nil =>
        intro pre hp hx
        rw [List.append_nil]
        by_cases h : a > 0
        · refine ⟨true, EvalsTo.shift (j := 1) (EvalsTo.const true) (fun k => ?_), fun _ => hx⟩
          rw [ambidexterlaw11_Few.l0, if_neg (Int.lt_irrefl _), if_pos h]
        · obtain ⟨r, hr⟩ := rcount_total (d + 1) pre ⟨by simpa using hp, hx⟩
          refine ⟨decide (r ≤ 100), EvalsTo.shift (j := 1) (EvalsTo.bind (g := fun _ t => some (decide (t ≤ 100))) hr (EvalsTo.const _)) (fun k => ?_), fun _ => hx⟩
          rw [ambidexterlaw11_Few.l0, if_neg (Int.lt_irrefl _), if_neg h]
      | cons x l il =>
        intro pre hp hx
        simp only [List.length_cons] at hp
        have hst := fun k => few_step k a pre l x (by omega)
        by_cases hs : wrap64 ((x.f2.size : Int) + x.f3.size) > 200
        · refine ⟨false, EvalsTo.shift (j := 1) (EvalsTo.const false) (fun k => ?_), fun h => by cases h⟩
          rw [hst, if_pos hs]
        · simp only [if_neg hs, hw] at hst
          obtain ⟨b, hb, hbl⟩ := ih (a + 1) x.f6 (by omega) (by omega)
          cases b with
          | false =>
            refine ⟨false, EvalsTo.shift (j := 1) ?_ hst, fun h => by cases h⟩
            refine EvalsTo.bind hb ?_
            simp only [Bool.false_eq_true, if_false]
            exact EvalsTo.const false
          | true =>
            obtain ⟨c, hc, hcl⟩ := il (pre ++ [x]) (by simp only [List.length_append, List.length_cons, List.length_nil]; omega) (fun z hz => by
              rcases List.mem_append.1 hz with h | h
              · exact hx z h
              · rw [List.mem_singleton.1 h]; exact hbl rfl)
            refine ⟨c, EvalsTo.shift (j := 1) ?_ hst, fun h => by simpa using hcl h⟩
            refine EvalsTo.bind hb ?_
            simp only [if_true]
            exact hc
    obtain ⟨b, hb, hbl⟩ := key l [] (by simp only [List.length_nil]; omega) (fun x hx => by cases hx)
    refine ⟨b, EvalsTo.shift (j := 2) hb (fun k => ?_), fun h => ⟨by omega, by simpa using hbl h⟩⟩
    rw [ambidexterlaw11_Few.f, if_neg (by omega), ambidexterlaw11_Few.j0, if_neg (by rw [decide_eq_false hl]; decide)]
    rfl
end Go.Proofs.YtonhcfecfifghaaDoor.PPx
namespace Go.Proofs.YtonhcfecfifghaaDoor.PPx
open Go.RowKit Go.Proofs.YtonhcfecfifghaaDoorW.PrintWords Go.Proofs.YtonhcfecfifghaaDoorW.PrintLast Go.Proofs.YtonhcfecfifghaaDoorW.PrintMore
set_option linter.unusedVariables false
set_option maxHeartbeats 1000000 in
set_option maxRecDepth 100000 in
theorem rec_few (A0 : Option Addr) (c0 : Nat) (l0 : List S55) (a1 a2 : Int) (w : World) {k1 : Nat} (hr0 : Kd.C k55 w A0 l0.length l0) (hc0 : l0.length ≤ c0) (h1 : ambidexterlaw11_Few.f k1 l0 0 = some false) (hG : Glob w) :
    Calls Tryd.prog 7 #[.slice A0 l0.length c0, .int .u8 a1, .int .u8 a2] w fun e w' => e = .returned (.bool true) ∧ Below w.heap.size w w' := by
  have HG := Aside0.mk hG
  have HR := Aside0.mk hr0
  have H1 := Aside0.mk h1
  clear hG hr0 h1
  go_enter Tryd.func7, Tryd.ntmps7
  go_wp2_with fail
  refine (ambidexterlaw11_head.calls true w rfl HG.out).mono ?_
  rintro e w1 ⟨rfl, hb⟩
  have HB := Aside0.mk hb
  have HR1 := Aside0.mk (Kd.C_below HR.out hb)
  clear hb
  go_wp2_with fail
  refine (ambidexterlaw11_Few.calls k1 A0 c0 l0 0 false w1 HR1.out hc0 H1.out).mono ?_
  rintro e w2 ⟨rfl, hb⟩
  have HB2 := Aside0.mk (below_step HB.out hb)
  clear hb HB HR1
  go_wp2_with fail
  go_ret
  exact ⟨rfl, HB2.out⟩
set_option maxHeartbeats 1000000 in
set_option maxRecDepth 100000 in
theorem rec_valid (A0 : Option Addr) (c0 : Nat) (l0 : List S55) (a1 a2 : Int) (w : World) {k1 k2 : Nat} (hr0 : Kd.C k55 w A0 l0.length l0) (hc0 : l0.length ≤ c0) (h1 : ambidexterlaw11_Few.f k1 l0 0 = some true) (h2 : parser_Valid.f k2 l0 = some false) (hG : Glob w) :
    Calls Tryd.prog 7 #[.slice A0 l0.length c0, .int .u8 a1, .int .u8 a2] w fun e w' => e = .returned (.bool true) ∧ Below w.heap.size w w' := by
  have HG := Aside0.mk hG
  have HR := Aside0.mk hr0
  have H1 := Aside0.mk h1
  have H2 := Aside0.mk h2
  clear hG hr0 h1 h2
  go_enter Tryd.func7, Tryd.ntmps7
  go_wp2_with fail
  refine (ambidexterlaw11_head.calls true w rfl HG.out).mono ?_
  rintro e w1 ⟨rfl, hb⟩
  have HB := Aside0.mk hb
  have HR1 := Aside0.mk (Kd.C_below HR.out hb)
  clear hb
  go_wp2_with fail
  refine (ambidexterlaw11_Few.calls k1 A0 c0 l0 0 true w1 HR1.out hc0 H1.out).mono ?_
  rintro e w2 ⟨rfl, hb⟩
  have HB2 := Aside0.mk (below_step HB.out hb)
  have HR2 := Aside0.mk (Kd.C_below HR1.out hb)
  clear hb HB HR1
  go_wp2_with fail
  refine (parser_Valid.calls k2 A0 c0 l0 false w2 HR2.out hc0 H2.out (HG.out.below HB2.out)).mono ?_
  rintro e w3 ⟨rfl, hb⟩
  have HB3 := Aside0.mk (below_step HB2.out hb)
  clear hb HB2 HR2
  go_wp2_with fail
  go_ret
  exact ⟨rfl, HB3.out⟩
set_option maxHeartbeats 1000000 in
set_option maxRecDepth 100000 in
theorem rec_count (A0 : Option Addr) (c0 : Nat) (l0 : List S55) (a1 a2 n : Int) (w : World) {k1 k2 k3 : Nat} (hr0 : Kd.C k55 w A0 l0.length l0) (hc0 : l0.length ≤ c0) (h1 : ambidexterlaw11_Few.f k1 l0 0 = some true) (h2 : parser_Valid.f k2 l0 = some true) (h3 : ambidexterref11_Count.f k3 l0 = some n) (hn : n > 60) (hG : Glob w) :
    Calls Tryd.prog 7 #[.slice A0 l0.length c0, .int .u8 a1, .int .u8 a2] w fun e w' => e = .returned (.bool true) ∧ Below w.heap.size w w' := by
  have HG := Aside0.mk hG
  have HR := Aside0.mk hr0
  have H1 := Aside0.mk h1
  have H2 := Aside0.mk h2
  have H3 := Aside0.mk h3
  have b1 : decide (60 < n) = true := decide_eq_true hn
  clear hG hr0 h1 h2 h3 hn
  go_enter Tryd.func7, Tryd.ntmps7
  go_wp2_with fail
  refine (ambidexterlaw11_head.calls true w rfl HG.out).mono ?_
  rintro e w1 ⟨rfl, hb⟩
  have HB := Aside0.mk hb
  have HR1 := Aside0.mk (Kd.C_below HR.out hb)
  clear hb
  go_wp2_with fail
  refine (ambidexterlaw11_Few.calls k1 A0 c0 l0 0 true w1 HR1.out hc0 H1.out).mono ?_
  rintro e w2 ⟨rfl, hb⟩
  have HB2 := Aside0.mk (below_step HB.out hb)
  have HR2 := Aside0.mk (Kd.C_below HR1.out hb)
  clear hb HB HR1
  go_wp2_with fail
  refine (parser_Valid.calls k2 A0 c0 l0 true w2 HR2.out hc0 H2.out (HG.out.below HB2.out)).mono ?_
  rintro e w3 ⟨rfl, hb⟩
  have HB3 := Aside0.mk (below_step HB2.out hb)
  have HR3 := Aside0.mk (Kd.C_below HR2.out hb)
  clear hb HB2 HR2
  go_wp2_with fail
  refine (ambidexterref11_Count.calls k3 A0 c0 l0 n w3 HR3.out hc0 H3.out).mono ?_
  rintro e w4 ⟨rfl, hb⟩
  have HB4 := Aside0.mk (below_step HB3.out hb.below)
  clear hb HB3 HR3
  go_wp2_with fail
  go_ret
  exact ⟨rfl, HB4.out⟩
theorem Format_n (k : Nat) (A : Option Addr) (c n : Nat) (l : List S55) (out : ByteArray) (w : World) (hn : l.length = n) (hC : Kd.C k55 w A l.length l) (hc : n ≤ c) (h : parser_Format.f k l = some out) (hG : Glob w) :
    Calls Tryd.prog 13 #[.slice A n c] w fun e w' => e = .returned (.string out) ∧ Below w.heap.size w w' := by
  subst hn
  exact parser_Format.calls k A c l out w hC hc h hG
theorem C_zero {α : Type} {d : Kd α} (W : World) (A : Option Addr) (l : List α) (h : l = []) : d.C W A l.length l := by
  subst h
  exact ⟨rfl, by simp, fun h => absurd h (by simp)⟩
set_option maxHeartbeats 1000000 in
set_option maxRecDepth 100000 in
theorem rec_main0 (A0 : Option Addr) (c0 : Nat) (l0 : List S55) (a1 a2 n : Int) (w : World) {k1 k2 k3 : Nat} (hr0 : Kd.C k55 w A0 l0.length l0) (hc0 : l0.length ≤ c0) (h1 : ambidexterlaw11_Few.f k1 l0 0 = some true) (h2 : parser_Valid.f k2 l0 = some true) (h3 : ambidexterref11_Count.f k3 l0 = some n) (hn : ¬ n > 60) {q k4 k5 k6 k7 : Nat} {o1 o2 wb : ByteArray} {a : List S55} {f : List S35} {p : Int} (hmod : (wrap64 a1).tmod (wrap64 ((l0.length : Int) + 1)) = (q : Int)) (hq1 : q ≤ l0.length) (hcq : ¬ c0 = q) (hl : l0.length ≤ 1000) (h4 : parser_Format.f k4 (l0.take q) = some o1) (h5 : ambidexterlaw11_bad.f a2 = some wb) (h6 : parser_Format.f k5 (l0.drop q) = some o2) (h7 : parser_Parse.f k6 ((o1 ++ wb) ++ o2) = some (a, f)) (hf : f = [⟨110, p⟩]) (h8 : ambidexterref11_Same.f k7 a l0 = some true) (hs1 : o1.size ≤ 20000) (hs2 : o2.size ≤ 20000) (hs3 : wb.size ≤ 100) (hp1 : (o1.size : Int) ≤ p) (hp2 : p < (o1.size : Int) + wb.size) (hG : Glob w) :
    Calls Tryd.prog 7 #[.slice A0 l0.length c0, .int .u8 a1, .int .u8 a2] w fun e w' => e = .returned (.bool true) ∧ Below w.heap.size w w' := by
  have HG := Aside0.mk hG
  have HR := Aside0.mk hr0
  have H1 := Aside0.mk h1
  have H2 := Aside0.mk h2
  have H3 := Aside0.mk h3
  have b1 : decide (60 < n) = false := decide_eq_false hn
  have H4 := Aside0.mk h4
  have H5 := Aside0.mk h5
  have H6 := Aside0.mk h6
  have H7 := Aside0.mk h7
  have H8 := Aside0.mk h8
  have HF := Aside0.mk hf
  have HQ := Aside0.mk hq1
  have HL := Aside0.mk hl
  have b2 : (wrap64 ((l0.length : Int) + 1) = 0) = False := eq_false (by unfold wrap64; omega)
  have b3 : ((q : Int) ≤ (c0 : Int)) = True := eq_true (by omega)
  have b4 : ((q : Int) ≤ (l0.length : Int)) = True := eq_true (by omega)
  have b5 : (q ≤ c0) = True := eq_true (by omega)
  have b6 : (q ≤ l0.length) = True := eq_true hq1
  have b13 : (c0 = q) = False := eq_false hcq
  have HCQ := Aside0.mk hcq
  clear hcq
  have b7 : (9223372036854775807 < o1.size + wb.size) = False := eq_false (by omega)
  have b8 : (9223372036854775807 < o1.size + wb.size + o2.size) = False := eq_false (by omega)
  have b9 : ((f.length : Int) == 1) = true := by rw [hf]; rfl
  have b10 : (0 < f.length) = True := eq_true (by rw [hf]; simp)
  have b11 : decide ((o1.size : Int) ≤ p) = true := decide_eq_true hp1
  have b12 : decide (p < wrap64 ((o1.size : Int) + (wb.size : Int))) = true := decide_eq_true (by unfold wrap64; omega)
  clear hG hr0 h1 h2 h3 hn h4 h5 h6 h7 h8 hf hq1 hl hs1 hs2 hs3 hp1 hp2
  go_enter Tryd.func7, Tryd.ntmps7
  go_wp2_with fail
  refine (ambidexterlaw11_head.calls true w rfl HG.out).mono ?_
  rintro e w1 ⟨rfl, hb⟩
  have HB := Aside0.mk hb
  have HR1 := Aside0.mk (Kd.C_below HR.out hb)
  clear hb
  go_wp2_with fail
  refine (ambidexterlaw11_Few.calls k1 A0 c0 l0 0 true w1 HR1.out hc0 H1.out).mono ?_
  rintro e w2 ⟨rfl, hb⟩
  have HB2 := Aside0.mk (below_step HB.out hb)
  have HR2 := Aside0.mk (Kd.C_below HR1.out hb)
  clear hb HB HR1
  go_wp2_with fail
  refine (parser_Valid.calls k2 A0 c0 l0 true w2 HR2.out hc0 H2.out (HG.out.below HB2.out)).mono ?_
  rintro e w3 ⟨rfl, hb⟩
  have HB3 := Aside0.mk (below_step HB2.out hb)
  have HR3 := Aside0.mk (Kd.C_below HR2.out hb)
  clear hb HB2 HR2
  go_wp2_with fail
  refine (ambidexterref11_Count.calls k3 A0 c0 l0 n w3 HR3.out hc0 H3.out).mono ?_
  rintro e w4 ⟨rfl, hb⟩
  have HB4 := Aside0.mk (below_step HB3.out hb.below)
  have HR4 := Aside0.mk (Kd.C_below HR3.out hb.below)
  clear hb HB3 HR3
  go_wp2_with fail
  refine (Format_n k4 A0 c0 q (l0.take q) o1 w4 (by rw [List.length_take]; have := HQ.out; omega) (Kd.C_take HR4.out HQ.out) (by have := HQ.out; omega) H4.out (HG.out.below HB4.out)).mono ?_
  rintro e w5 ⟨rfl, hb⟩
  have HB5 := Aside0.mk (below_step HB4.out hb)
  have HR5 := Aside0.mk (Kd.C_below HR4.out hb)
  clear hb HB4 HR4
  go_wp2_with fail
  refine (ambidexterlaw11_bad.calls a2 wb w5 H5.out).mono ?_
  rintro e w6 ⟨rfl, hb⟩
  have HB6 := Aside0.mk (below_step HB5.out hb)
  have HR6 := Aside0.mk (Kd.C_below HR5.out hb)
  clear hb HB5 HR5
  go_wp2_with fail
  refine (Format_n k5 _ _ _ (l0.drop q) o2 w6 (by rw [List.length_drop]) (by have h := Kd.C_drop HR6.out HQ.out hc0; rw [if_neg HCQ.out] at h; exact h) (by have := hc0; omega) H6.out (HG.out.below HB6.out)).mono ?_
  rintro e w7 ⟨rfl, hb⟩
  have HB7 := Aside0.mk (below_step HB6.out hb)
  have HR7 := Aside0.mk (Kd.C_below HR6.out hb)
  clear hb HB6 HR6
  go_wp2_with fail
  refine (Parse_C k6 _ a f w7 H7.out (HG.out.below HB7.out)).mono ?_
  rintro e w8 ⟨A2, ca2, B2, cb2, rfl, hca2, hcb2, hA2, hB2, hb⟩
  have HB8 := Aside0.mk (below_step HB7.out hb)
  have HR8 := Aside0.mk (Kd.C_below HR7.out hb)
  have HA := Aside0.mk hA2
  have HD := Aside0.mk hB2
  clear hb HB7 HR7 hA2 hB2
  go_wp2_with fail
  refine (ambidexterref11_Same.calls k7 A2 ca2 a A0 c0 l0 true w8 HA.out hca2 HR8.out hc0 H8.out).mono ?_
  rintro e w9 ⟨rfl, hb⟩
  have HB9 := Aside0.mk (below_step HB8.out hb)
  have HD9 := Aside0.mk (Kd.C_below HD.out hb)
  clear hb HB8 HR8 HA HD
  have hlen : (0 : Int) < (f.length : Int) := by rw [HF.out]; simp
  obtain ⟨ad, ex, x0, x1⟩ := at_T35 HD9.out 0 (by decide) hlen
  subst ex
  have e0 : (rd_T35 f 0).f0 = 110 := by rw [HF.out]; rfl
  have e1 : (rd_T35 f 0).f1 = p := by rw [HF.out]; rfl
  rw [e0] at x0
  rw [e1] at x1
  have y0 : w9.cell? ad = some (.int .i64 110) := x0
  have y1 : w9.cell? ⟨ad.block, ad.off + 1, none⟩ = some (.int .i64 p) := x1
  clear x0 x1 hlen e0 e1
  go_wp2_with fail
  go_ret
  exact ⟨rfl, HB9.out⟩
set_option maxHeartbeats 1000000 in
set_option maxRecDepth 100000 in
theorem rec_main1 (A0 : Option Addr) (l0 : List S55) (a1 a2 n : Int) (w : World) {q k1 k2 k3 : Nat} (hr0 : Kd.C k55 w A0 l0.length l0) (hq : l0.length ≤ q) (h1 : ambidexterlaw11_Few.f k1 l0 0 = some true) (h2 : parser_Valid.f k2 l0 = some true) (h3 : ambidexterref11_Count.f k3 l0 = some n) (hn : ¬ n > 60) {k4 k5 k6 k7 : Nat} {o1 o2 wb : ByteArray} {a : List S55} {f : List S35} {p : Int} (hmod : (wrap64 a1).tmod (wrap64 ((l0.length : Int) + 1)) = (q : Int)) (hq1 : q ≤ l0.length) (hl : l0.length ≤ 1000) (h4 : parser_Format.f k4 (l0.take q) = some o1) (h5 : ambidexterlaw11_bad.f a2 = some wb) (h6 : parser_Format.f k5 (l0.drop q) = some o2) (h7 : parser_Parse.f k6 ((o1 ++ wb) ++ o2) = some (a, f)) (hf : f = [⟨110, p⟩]) (h8 : ambidexterref11_Same.f k7 a l0 = some true) (hs1 : o1.size ≤ 20000) (hs2 : o2.size ≤ 20000) (hs3 : wb.size ≤ 100) (hp1 : (o1.size : Int) ≤ p) (hp2 : p < (o1.size : Int) + wb.size) (hG : Glob w) :
    Calls Tryd.prog 7 #[.slice A0 l0.length q, .int .u8 a1, .int .u8 a2] w fun e w' => e = .returned (.bool true) ∧ Below w.heap.size w w' := by
  have HG := Aside0.mk hG
  have HR := Aside0.mk hr0
  have H1 := Aside0.mk h1
  have H2 := Aside0.mk h2
  have H3 := Aside0.mk h3
  have b1 : decide (60 < n) = false := decide_eq_false hn
  have H4 := Aside0.mk h4
  have H5 := Aside0.mk h5
  have H6 := Aside0.mk h6
  have H7 := Aside0.mk h7
  have H8 := Aside0.mk h8
  have HF := Aside0.mk hf
  have HQ := Aside0.mk hq1
  have HL := Aside0.mk hl
  have b2 : (wrap64 ((l0.length : Int) + 1) = 0) = False := eq_false (by unfold wrap64; omega)
  have b4 : ((q : Int) ≤ (l0.length : Int)) = True := eq_true (by omega)
  have b6 : (q ≤ l0.length) = True := eq_true hq1
  have b7 : (9223372036854775807 < o1.size + wb.size) = False := eq_false (by omega)
  have b8 : (9223372036854775807 < o1.size + wb.size + o2.size) = False := eq_false (by omega)
  have b9 : ((f.length : Int) == 1) = true := by rw [hf]; rfl
  have b10 : (0 < f.length) = True := eq_true (by rw [hf]; simp)
  have b11 : decide ((o1.size : Int) ≤ p) = true := decide_eq_true hp1
  have b12 : decide (p < wrap64 ((o1.size : Int) + (wb.size : Int))) = true := decide_eq_true (by unfold wrap64; omega)
  clear hG hr0 h1 h2 h3 hn h4 h5 h6 h7 h8 hf hq1 hl hs1 hs2 hs3 hp1 hp2
  go_enter Tryd.func7, Tryd.ntmps7
  go_wp2_with fail
  refine (ambidexterlaw11_head.calls true w rfl HG.out).mono ?_
  rintro e w1 ⟨rfl, hb⟩
  have HB := Aside0.mk hb
  have HR1 := Aside0.mk (Kd.C_below HR.out hb)
  clear hb
  go_wp2_with fail
  refine (ambidexterlaw11_Few.calls k1 A0 q l0 0 true w1 HR1.out hq H1.out).mono ?_
  rintro e w2 ⟨rfl, hb⟩
  have HB2 := Aside0.mk (below_step HB.out hb)
  have HR2 := Aside0.mk (Kd.C_below HR1.out hb)
  clear hb HB HR1
  go_wp2_with fail
  refine (parser_Valid.calls k2 A0 q l0 true w2 HR2.out hq H2.out (HG.out.below HB2.out)).mono ?_
  rintro e w3 ⟨rfl, hb⟩
  have HB3 := Aside0.mk (below_step HB2.out hb)
  have HR3 := Aside0.mk (Kd.C_below HR2.out hb)
  clear hb HB2 HR2
  go_wp2_with fail
  refine (ambidexterref11_Count.calls k3 A0 q l0 n w3 HR3.out hq H3.out).mono ?_
  rintro e w4 ⟨rfl, hb⟩
  have HB4 := Aside0.mk (below_step HB3.out hb.below)
  have HR4 := Aside0.mk (Kd.C_below HR3.out hb.below)
  clear hb HB3 HR3
  go_wp2_with fail
  refine (Format_n k4 A0 q q (l0.take q) o1 w4 (by rw [List.length_take]; have := HQ.out; omega) (Kd.C_take HR4.out HQ.out) (by have := HQ.out; omega) H4.out (HG.out.below HB4.out)).mono ?_
  rintro e w5 ⟨rfl, hb⟩
  have HB5 := Aside0.mk (below_step HB4.out hb)
  have HR5 := Aside0.mk (Kd.C_below HR4.out hb)
  clear hb HB4 HR4
  go_wp2_with fail
  refine (ambidexterlaw11_bad.calls a2 wb w5 H5.out).mono ?_
  rintro e w6 ⟨rfl, hb⟩
  have HB6 := Aside0.mk (below_step HB5.out hb)
  have HR6 := Aside0.mk (Kd.C_below HR5.out hb)
  clear hb HB5 HR5
  go_wp2_with fail
  refine (Format_n k5 _ _ _ (l0.drop q) o2 w6 (by rw [List.length_drop]; have := hq; omega) (C_zero _ _ _ (List.drop_eq_nil_of_le hq)) (by have := hq; omega) H6.out (HG.out.below HB6.out)).mono ?_
  rintro e w7 ⟨rfl, hb⟩
  have HB7 := Aside0.mk (below_step HB6.out hb)
  have HR7 := Aside0.mk (Kd.C_below HR6.out hb)
  clear hb HB6 HR6
  go_wp2_with fail
  refine (Parse_C k6 _ a f w7 H7.out (HG.out.below HB7.out)).mono ?_
  rintro e w8 ⟨A2, ca2, B2, cb2, rfl, hca2, hcb2, hA2, hB2, hb⟩
  have HB8 := Aside0.mk (below_step HB7.out hb)
  have HR8 := Aside0.mk (Kd.C_below HR7.out hb)
  have HA := Aside0.mk hA2
  have HD := Aside0.mk hB2
  clear hb HB7 HR7 hA2 hB2
  go_wp2_with fail
  refine (ambidexterref11_Same.calls k7 A2 ca2 a A0 q l0 true w8 HA.out hca2 HR8.out hq H8.out).mono ?_
  rintro e w9 ⟨rfl, hb⟩
  have HB9 := Aside0.mk (below_step HB8.out hb)
  have HD9 := Aside0.mk (Kd.C_below HD.out hb)
  clear hb HB8 HR8 HA HD
  have hlen : (0 : Int) < (f.length : Int) := by rw [HF.out]; simp
  obtain ⟨ad, ex, x0, x1⟩ := at_T35 HD9.out 0 (by decide) hlen
  subst ex
  have e0 : (rd_T35 f 0).f0 = 110 := by rw [HF.out]; rfl
  have e1 : (rd_T35 f 0).f1 = p := by rw [HF.out]; rfl
  rw [e0] at x0
  rw [e1] at x1
  have y0 : w9.cell? ad = some (.int .i64 110) := x0
  have y1 : w9.cell? ⟨ad.block, ad.off + 1, none⟩ = some (.int .i64 p) := x1
  clear x0 x1 hlen e0 e1
  go_wp2_with fail
  go_ret
  exact ⟨rfl, HB9.out⟩
theorem bad_f (a2 : Int) (h0 : 0 ≤ a2) (h1 : a2 ≤ 255) : ∃ wb, ambidexterlaw11_bad.f a2 = some wb ∧ BadOK wb := by
  obtain ⟨m, rfl⟩ := Int.eq_ofNat_of_zero_le h0
  have hw : wrap64 (m : Int) = m := by unfold wrap64; omega
  have hr : (m : Int).tmod 10 = ((m % 10 : Nat) : Int) := rfl
  have hlt : m % 10 < 10 := Nat.mod_lt _ (by decide)
  unfold ambidexterlaw11_bad.f
  rw [Option.bind_some, if_neg (by decide), hw]
  have e : ((([(⟨#[103, 111, 32, 53, 59]⟩ : ByteArray), (⟨#[104, 111, 109, 101, 59]⟩ : ByteArray), (⟨#[112, 105, 99, 107, 32, 48, 32, 48, 59]⟩ : ByteArray), (⟨#[112, 117, 116, 32, 48, 32, 119, 97, 105, 116, 59]⟩ : ByteArray), (⟨#[119, 97, 105, 116, 32, 120, 59]⟩ : ByteArray), (⟨#[98, 111, 116, 104, 32, 40, 49, 44, 32, 50, 41, 32, 40, 51, 44, 32, 52, 44, 32, 53, 41, 59]⟩ : ByteArray), (⟨#[99, 117, 112, 59]⟩ : ByteArray), (⟨#[103, 111, 32, 48, 32, 40, 49, 44, 32, 50, 44, 32, 51, 59]⟩ : ByteArray), (⟨#[104, 97, 110, 100, 32, 49, 32, 109, 111, 114, 101, 116, 104, 97, 110, 116, 119, 101, 108, 118, 101, 59]⟩ : ByteArray), (⟨#[59]⟩ : ByteArray)] : List ByteArray).length : Nat) : Int) = 10 := rfl
  rw [e, hr, if_pos (by omega), if_pos (by omega)]
  have hc : m % 10 = 0 ∨ m % 10 = 1 ∨ m % 10 = 2 ∨ m % 10 = 3 ∨ m % 10 = 4 ∨ m % 10 = 5 ∨ m % 10 = 6 ∨ m % 10 = 7 ∨ m % 10 = 8 ∨ m % 10 = 9 := by omega
  rcases hc with h | h | h | h | h | h | h | h | h | h <;> rw [h]
  · exact ⟨_, rfl, bad0⟩
  · exact ⟨_, rfl, bad1⟩
  · exact ⟨_, rfl, bad2⟩
  · exact ⟨_, rfl, bad3⟩
  · exact ⟨_, rfl, bad4⟩
  · exact ⟨_, rfl, bad5⟩
  · exact ⟨_, rfl, bad6⟩
  · exact ⟨_, rfl, bad7⟩
  · exact ⟨_, rfl, bad8⟩
  · exact ⟨_, rfl, bad9⟩
/-- the law RecoversFromErrors: the walk, and why it says yes -/
theorem rec_walk (A0 : Option Addr) (c0 : Nat) (l0 : List S55) (a1 a2 : Int) (w : World) (hr0 : Kd.C k55 w A0 l0.length l0) (hc0 : l0.length ≤ c0) (h10 : 0 ≤ a1) (h11 : a1 ≤ 255) (h20 : 0 ≤ a2) (h21 : a2 ≤ 255) (hG : Glob w) :
    Calls Tryd.prog 7 #[.slice A0 l0.length c0, .int .u8 a1, .int .u8 a2] w fun e w' => e = .returned (.bool true) ∧ Below w.heap.size w w' := by
  obtain ⟨b, ⟨K1, h1⟩, _⟩ := few_total 9 0 l0 (Int.le_refl _) (by decide)
  have h1 := h1 K1 (Nat.le_refl _)
  cases b with
  | false => exact rec_few A0 c0 l0 a1 a2 w hr0 hc0 h1 hG
  | true =>
  obtain ⟨v, K2, h2⟩ := valid_total l0
  have h2 := h2 K2 (Nat.le_refl _)
  cases v with
  | false => exact rec_valid A0 c0 l0 a1 a2 w hr0 hc0 h1 h2 hG
  | true =>
  obtain ⟨n, ks, hv, hn⟩ := valid_inv h2
  obtain ⟨K3, h3⟩ := rcount_ok hv (by omega)
  have h3 := h3 K3 (Nat.le_refl _)
  by_cases hb : (n : Int) > 60
  · exact rec_count A0 c0 l0 a1 a2 n w hr0 hc0 h1 h2 h3 hb hG
  obtain ⟨wb, h5, hbad⟩ := bad_f a2 h20 h21
  have hln := vls_len hv
  obtain ⟨m, rfl⟩ := Int.eq_ofNat_of_zero_le h10
  have hq : (wrap64 (m : Int)).tmod (wrap64 ((l0.length : Int) + 1)) = ((m % (l0.length + 1) : Nat) : Int) := by
    have e1 : wrap64 (m : Int) = m := by unfold wrap64; omega
    have e2 : wrap64 ((l0.length : Int) + 1) = ((l0.length + 1 : Nat) : Int) := by unfold wrap64; omega
    rw [e1, e2]
    rfl
  have hq1 : m % (l0.length + 1) ≤ l0.length := by have := Nat.mod_lt m (show 0 < l0.length + 1 by omega); omega
  obtain ⟨o1, o2, a, p, ⟨K4, h4⟩, ⟨K5, h6⟩, hs1, hs2, ⟨K6, h7⟩, hsim, hp1, hp2⟩ := rec_facts hv (by omega) (m % (l0.length + 1)) hbad
  obtain ⟨K7, h8⟩ := hsim.equal
  have hs3 := hbad.1
  by_cases hcq : c0 = m % (l0.length + 1)
  · subst hcq
    exact rec_main1 A0 l0 m a2 n w hr0 hc0 h1 h2 h3 hb hq hq1 (by omega) (h4 K4 (Nat.le_refl _)) h5 (h6 K5 (Nat.le_refl _)) (h7 K6 (Nat.le_refl _)) rfl (h8 K7 (Nat.le_refl _)) hs1 hs2 hs3 hp1 hp2 hG
  · exact rec_main0 A0 c0 l0 m a2 n w hr0 hc0 h1 h2 h3 hb hq hq1 hcq (by omega) (h4 K4 (Nat.le_refl _)) h5 (h6 K5 (Nat.le_refl _)) (h7 K6 (Nat.le_refl _)) rfl (h8 K7 (Nat.le_refl _)) hs1 hs2 hs3 hp1 hp2 hG
end Go.Proofs.YtonhcfecfifghaaDoor.PPx
namespace Go.Proofs.YtonhcfecfifghaaDoor.PPx
open Go.RowKit Go.Proofs.YtonhcfecfifghaaDoorW.PrintWords Go.Proofs.YtonhcfecfifghaaDoorW.PrintLast Go.Proofs.YtonhcfecfifghaaDoorW.PrintMore
set_option linter.unusedVariables false
/-- what the walk needs of the program's types -/
structure Ty (P : Program) : Prop where
  u3 : P.underlying 3 = some (.int .i64)
  u9 : P.underlying 9 = some .string
  uS : P.underlying 22 = some (.slice 55)
  uJ : P.underlying 52 = some (.array 3 3)
  uA : P.underlying 53 = some (.array 2 52)
  uT : P.underlying 55 = some (.struct #[{ name := "Kind", type := 3, offset := 0, embedded := false, tag := "", pkgPath := "", byteOffset := 0 }, { name := "Arm", type := 3, offset := 1, embedded := false, tag := "", pkgPath := "", byteOffset := 8 }, { name := "Part", type := 9, offset := 2, embedded := false, tag := "", pkgPath := "", byteOffset := 16 }, { name := "Place", type := 9, offset := 3, embedded := false, tag := "", pkgPath := "", byteOffset := 32 }, { name := "N", type := 3, offset := 4, embedded := false, tag := "", pkgPath := "", byteOffset := 48 }, { name := "To", type := 53, offset := 5, embedded := false, tag := "", pkgPath := "", byteOffset := 56 }, { name := "Kids", type := 22, offset := 11, embedded := false, tag := "", pkgPath := "", byteOffset := 104 }, { name := "At", type := 3, offset := 12, embedded := false, tag := "", pkgPath := "", byteOffset := 128 }])
  c3 : P.cellsOf 3 = 1
  c9 : P.cellsOf 9 = 1
  cS : P.cellsOf 22 = 1
  cJ : P.cellsOf 52 = 3
  cA : P.cellsOf 53 = 6
  cT : P.cellsOf 55 = 13
theorem ty : Ty Tryd.prog := ⟨Tryd.underlying3, Tryd.underlying9, Tryd.underlying22, Tryd.underlying52, Tryd.underlying53, Tryd.underlying55, by kernel_rfl, by kernel_rfl, by kernel_rfl, by kernel_rfl, by kernel_rfl, by kernel_rfl⟩
section
variable {H : Type} {enc : TypeId × Value → H} {P : Program} {W : World} {base : Nat} {sp : Nat → Bool} {held : Bool}
theorem add_add_ (a : Addr) (i j : Nat) : a.add (i + j) = (a.add i).add j := by
  obtain ⟨b, o, s⟩ := a
  unfold Addr.add
  by_cases hi : i = 0
  · subst hi; simp
  · by_cases hj : j = 0
    · subst hj; simp
    · simp [hi, hj, Nat.add_assoc]
theorem get_some {α : Type} {xs : List α} {n i : Nat} (h : xs.length = n) (hi : i < n) : ∃ y, xs[i]? = some y := ⟨xs[i], List.getElem?_eq_getElem (by omega)⟩
theorem len3 {cs : List Value} (h : cs.length = 3) : ∃ a b c, cs = [a, b, c] := by
  match cs, h with
  | [a, b, c], _ => exact ⟨a, b, c, rfl⟩
theorem len6 {cs : List Value} (h : cs.length = 6) : ∃ a b c d e f, cs = [a, b, c, d, e, f] := by
  match cs, h with
  | [a, b, c, d, e, f], _ => exact ⟨a, b, c, d, e, f, rfl⟩
theorem len13 {cs : List Value} (h : cs.length = 13) : ∃ a b c d e f g h i j k l m, cs = [a, b, c, d, e, f, g, h, i, j, k, l, m] := by
  match cs, h with
  | [a, b, c, d, e, f, g, h, i, j, k, l, m], _ => exact ⟨a, b, c, d, e, f, g, h, i, j, k, l, m, rfl⟩
theorem open_one (T : Ty P) {n : Nat} {u : Value} {x : DataW H × List MemPlace} (h : DataW.trod enc P W base sp held n 3 [u] = some x) : ∃ a, u = .int .i64 a := by
  obtain ⟨a, ha, _, _⟩ := DataW.trod_int T.u3 h
  exact ⟨a, by simpa using ha⟩
theorem open_str (T : Ty P) {n : Nat} {u : Value} {x : DataW H × List MemPlace} (h : DataW.trod enc P W base sp held n 9 [u] = some x) : ∃ a, u = .string a := by
  obtain ⟨a, ha, _, _⟩ := DataW.trod_string T.u9 h
  exact ⟨a, by simpa using ha⟩
theorem open_joints (T : Ty P) {n : Nat} {cs : List Value} {x : DataW H × List MemPlace} (h : DataW.trod enc P W base sp held n 52 cs = some x) : ∃ a b c, cs = [.int .i64 a, .int .i64 b, .int .i64 c] := by
  obtain ⟨xs, m, _, _, hl, hx, hi⟩ := DataW.trod_array T.uJ h
  rw [T.cJ] at hl
  obtain ⟨u, v, w, rfl⟩ := len3 hl
  obtain ⟨y0, h0⟩ := get_some (i := 0) hx (by decide)
  obtain ⟨y1, h1⟩ := get_some (i := 1) hx (by decide)
  obtain ⟨y2, h2⟩ := get_some (i := 2) hx (by decide)
  have g0 := hi 0 (by decide)
  have g1 := hi 1 (by decide)
  have g2 := hi 2 (by decide)
  rw [T.c3] at g0 g1 g2
  rw [h0] at g0
  rw [h1] at g1
  rw [h2] at g2
  obtain ⟨a, rfl⟩ := open_one T (u := u) g0
  obtain ⟨b, rfl⟩ := open_one T (u := v) g1
  obtain ⟨c, rfl⟩ := open_one T (u := w) g2
  exact ⟨a, b, c, rfl⟩
theorem open_arms (T : Ty P) {n : Nat} {cs : List Value} {x : DataW H × List MemPlace} (h : DataW.trod enc P W base sp held n 53 cs = some x) : ∃ a b c d e f, cs = [.int .i64 a, .int .i64 b, .int .i64 c, .int .i64 d, .int .i64 e, .int .i64 f] := by
  obtain ⟨xs, m, _, _, hl, hx, hi⟩ := DataW.trod_array T.uA h
  rw [T.cA] at hl
  obtain ⟨u, v, w, u', v', w', rfl⟩ := len6 hl
  obtain ⟨y0, h0⟩ := get_some (i := 0) hx (by decide)
  obtain ⟨y1, h1⟩ := get_some (i := 1) hx (by decide)
  have g0 := hi 0 (by decide)
  have g1 := hi 1 (by decide)
  rw [T.cJ] at g0 g1
  rw [h0] at g0
  rw [h1] at g1
  obtain ⟨a, b, c, e0⟩ := open_joints T (cs := [u, v, w]) g0
  obtain ⟨d, e, f, e1⟩ := open_joints T (cs := [u', v', w']) g1
  simp only [List.cons.injEq, and_true] at e0 e1
  obtain ⟨rfl, rfl, rfl⟩ := e0
  obtain ⟨rfl, rfl, rfl⟩ := e1
  exact ⟨a, b, c, d, e, f, rfl⟩
theorem open_both (T : Ty P) : ∀ (n : Nat), (∀ cs x, DataW.trod enc P W base sp held n 22 cs = some x → ∃ A c l, cs = [.slice A l.length c] ∧ l.length ≤ c ∧ Kd.C k55 W A l.length l) ∧ (∀ cs x, DataW.trod enc P W base sp held n 55 cs = some x → ∃ s, k55.K W s cs)
  | 0 => ⟨fun cs x h => by simp [DataW.trod] at h, fun cs x h => by simp [DataW.trod] at h⟩
  | n + 1 => by
    obtain ⟨ih1, ih2⟩ := open_both T n
    refine ⟨fun cs x h => ?_, fun cs x h => ?_⟩
    · rcases DataW.trod_slice T.uS h with ⟨rfl, _⟩ | ⟨a, len, cap, elems, rest, m, hm, rfl, _, _, hl, hc, hlen, hel, _⟩
      · exact ⟨none, 0, [], rfl, Nat.le_refl _, Kd.C_nil _ _⟩
      · obtain rfl : m = n := by omega
        rw [T.cT] at hel
        have hx : ∀ i, i < len → ∃ s c, c.length = 13 ∧ k55.K W s c ∧ ∀ j u, c[j]? = some u → W.cell? (a.add (i * 13 + j)) = some u := by
          intro i hi
          obtain ⟨y, hy⟩ := get_some hlen hi
          have h1 := hel i hi
          rw [hy] at h1
          obtain ⟨c, hc1, hc2⟩ := Option.bind_eq_some_iff.1 h1
          obtain ⟨s, hs⟩ := ih2 c y hc2
          obtain ⟨_, hcl, hcc⟩ := World.cells?_some hc1
          refine ⟨s, c, hcl, hs, fun j u hu => ?_⟩
          have hj : j < 13 := by
            have := (List.getElem?_eq_some_iff.1 hu).1
            omega
          have := hcc j hj
          rw [hu] at this
          rw [← this]
          congr 1
          exact add_add_ a (i * 13) j
        let f : Nat → S55 := fun i => if h : i < len then (hx i h).choose else z55
        have hf : ∀ i, i < len → ∃ c, c.length = 13 ∧ k55.K W (f i) c ∧ ∀ j u, c[j]? = some u → W.cell? (a.add (i * 13 + j)) = some u := by
          intro i hi
          have := (hx i hi).choose_spec
          have e : f i = (hx i hi).choose := by simp only [f, dif_pos hi]
          rw [e]
          exact this
        have hll : ((List.range len).map f).length = len := by simp
        have hmx : len ≤ 9223372036854775807 := Nat.le_trans hl hc
        refine ⟨some a, cap, (List.range len).map f, by rw [hll], by rw [hll]; exact hl, ?_⟩
        rw [hll]
        refine ⟨hll, hmx, fun _ => ⟨a, rfl, fun j p hp => ?_⟩⟩
        have hj : j < len := by
          have := (List.getElem?_eq_some_iff.1 hp).1
          omega
        rw [List.getElem?_map, List.getElem?_range hj] at hp
        obtain rfl := Option.some.inj hp
        exact hf j hj
    · obtain ⟨xs, m, hm, _, hl, hx, hi⟩ := DataW.trod_struct T.uT h
      obtain rfl : m = n := by omega
      rw [T.cT] at hl
      obtain ⟨u0, u1, u2, u3, u4, u5, u6, u7, u8, u9, u10, u11, u12, rfl⟩ := len13 hl
      obtain ⟨y0, h0⟩ := get_some (i := 0) hx (by decide)
      obtain ⟨y1, h1⟩ := get_some (i := 1) hx (by decide)
      obtain ⟨y2, h2⟩ := get_some (i := 2) hx (by decide)
      obtain ⟨y3, h3⟩ := get_some (i := 3) hx (by decide)
      obtain ⟨y4, h4⟩ := get_some (i := 4) hx (by decide)
      obtain ⟨y5, h5⟩ := get_some (i := 5) hx (by decide)
      obtain ⟨y6, h6⟩ := get_some (i := 6) hx (by decide)
      obtain ⟨y7, h7⟩ := get_some (i := 7) hx (by decide)
      have g0 : DataW.trod enc P W base sp held m 3 (([u0, u1, u2, u3, u4, u5, u6, u7, u8, u9, u10, u11, u12].drop 0).take (P.cellsOf 3)) = xs[0]? := hi 0 _ rfl
      have g1 : DataW.trod enc P W base sp held m 3 (([u0, u1, u2, u3, u4, u5, u6, u7, u8, u9, u10, u11, u12].drop 1).take (P.cellsOf 3)) = xs[1]? := hi 1 _ rfl
      have g2 : DataW.trod enc P W base sp held m 9 (([u0, u1, u2, u3, u4, u5, u6, u7, u8, u9, u10, u11, u12].drop 2).take (P.cellsOf 9)) = xs[2]? := hi 2 _ rfl
      have g3 : DataW.trod enc P W base sp held m 9 (([u0, u1, u2, u3, u4, u5, u6, u7, u8, u9, u10, u11, u12].drop 3).take (P.cellsOf 9)) = xs[3]? := hi 3 _ rfl
      have g4 : DataW.trod enc P W base sp held m 3 (([u0, u1, u2, u3, u4, u5, u6, u7, u8, u9, u10, u11, u12].drop 4).take (P.cellsOf 3)) = xs[4]? := hi 4 _ rfl
      have g5 : DataW.trod enc P W base sp held m 53 (([u0, u1, u2, u3, u4, u5, u6, u7, u8, u9, u10, u11, u12].drop 5).take (P.cellsOf 53)) = xs[5]? := hi 5 _ rfl
      have g6 : DataW.trod enc P W base sp held m 22 (([u0, u1, u2, u3, u4, u5, u6, u7, u8, u9, u10, u11, u12].drop 11).take (P.cellsOf 22)) = xs[6]? := hi 6 _ rfl
      have g7 : DataW.trod enc P W base sp held m 3 (([u0, u1, u2, u3, u4, u5, u6, u7, u8, u9, u10, u11, u12].drop 12).take (P.cellsOf 3)) = xs[7]? := hi 7 _ rfl
      rw [T.c3] at g0 g1 g4 g7
      rw [T.c9] at g2 g3
      rw [T.cA] at g5
      rw [T.cS] at g6
      rw [h0] at g0
      rw [h1] at g1
      rw [h2] at g2
      rw [h3] at g3
      rw [h4] at g4
      rw [h5] at g5
      rw [h6] at g6
      rw [h7] at g7
      obtain ⟨a0, rfl⟩ := open_one T (u := u0) g0
      obtain ⟨a1, rfl⟩ := open_one T (u := u1) g1
      obtain ⟨a2, rfl⟩ := open_str T (u := u2) g2
      obtain ⟨a3, rfl⟩ := open_str T (u := u3) g3
      obtain ⟨a4, rfl⟩ := open_one T (u := u4) g4
      obtain ⟨p0, p1, p2, q0, q1, q2, e5⟩ := open_arms T (cs := [u5, u6, u7, u8, u9, u10]) g5
      simp only [List.cons.injEq, and_true] at e5
      obtain ⟨rfl, rfl, rfl, rfl, rfl, rfl⟩ := e5
      obtain ⟨A, c, l, e6, hlc, hC⟩ := ih1 [u11] _ g6
      simp only [List.cons.injEq, and_true] at e6
      subst e6
      obtain ⟨a7, rfl⟩ := open_one T (u := u12) g7
      exact ⟨⟨a0, a1, a2, a3, a4, ⟨⟨p0, p1, p2⟩, ⟨q0, q1, q2⟩⟩, l, a7⟩, k55_mk W ⟨a0, a1, a2, a3, a4, ⟨⟨p0, p1, p2⟩, ⟨q0, q1, q2⟩⟩, l, a7⟩ hlc hC⟩
/-- a list of statements that came in -/
theorem open_stms (T : Ty P) {v : Value} {d : DataW H} {p : List MemPlace} (h : DataW.Trod enc P W base sp held 22 v d p) : ∃ A c l, v.cells.toList = [.slice A l.length c] ∧ l.length ≤ c ∧ Kd.C k55 W A l.length l := by
  obtain ⟨n, h⟩ := h
  exact (open_both T n).1 _ _ h
end
end Go.Proofs.YtonhcfecfifghaaDoor.PPx
namespace Go.Proofs.YtonhcfecfifghaaDoor.parserRecoversFromErrors
open Go.ChangeShapes Go.WideShapes Go.ChangeAt Go.RowKit
open Go.ChangeMaps (open_string shut_string)
set_option linter.unusedVariables false
theorem laidOut : laidOutB Tryd.prog = true := by kernel_rfl
theorem own : ownKnob Tryd.prog.godebug = none := by kernel_rfl
theorem plainLaid {W : World} (h : laidMetH Tryd.prog Rows.parserRecoversFromErrorsRow.laid W) : PPx.Glob W := by
  rw [MakeChecks.laidMetH_plain _ _ _ (by kernel_rfl)] at h
  exact PPx.glob_of h
theorem door_met (os : Os) (args : Array Value) : laidMetH Tryd.prog Rows.parserRecoversFromErrorsRow.laid ((World.doorLaid Tryd.prog 400 os).forCall (fun _ _ => 0) ⟨#[], args, []⟩).memory :=
  laidMetH_of_parts3 (fuel := 8) (laidMet_of_run' 8 (by kernel_rfl) (by kernel_rfl)) (by kernel_rfl) (by kernel_rfl)
set_option maxRecDepth 100000 in
theorem lifted (os : Os) (started : os.Started) (H : Type) (enc : TypeId × Value → H) :
    ReturnsInHanded {} Tryd.checked os 7 .any (fun w args => (Rows.parserRecoversFromErrorsSpec.pre enc Tryd.prog Tryd.f7 [] false w args ∧ laidMetH Tryd.prog Rows.parserRecoversFromErrorsRow.laid w) ∧ sizedMet enc Tryd.prog Tryd.f7 (OpenSpec.ofChange Rows.parserRecoversFromErrorsSpec) false w args)
      (Rows.parserRecoversFromErrorsSpec.post enc Tryd.prog Tryd.f7 false true false false) := by
  refine returnsInHanded_of_change_and (C := Tryd.checked) (X := fun w _ => laidMetH Tryd.prog Rows.parserRecoversFromErrorsRow.laid w) (fun _ _ _ hh h => h.of_heap hh) own started (by kernel_rfl) Tryd.func7
    (ChangeSpec.witness_shaped (enc := enc) (C := Tryd.checked) (os := os) (X := fun w _ => laidMetH Tryd.prog Rows.parserRecoversFromErrorsRow.laid w) false (World.doorLaid Tryd.prog 400 os) #[.slice none 0 0, .int .u8 0, .int .u8 0] 8 rfl (World.shaped_of_RefB (by kernel_rfl) (by kernel_rfl)) (by kernel_rfl) (by kernel_rfl) (by kernel_rfl) (door_met os _)) ?_
  intro W base args ds gs before hval0 hW hcnd hsz0 hL _
  have hsz : (DataW.weightsEach Tryd.prog (Tryd.f7.params.toList ++ Rows.parserRecoversFromErrorsSpec.plain.varTypes Tryd.prog) (ds ++ gs)).all (· ≤ reachBytes) = true := hsz0
  have hval : ∀ (j : Nat) t v, Tryd.f7.params[j]? = some t → args[j]? = some v → Value.okWide Tryd.prog W .any base t v := hval0
  have hW' := hW
  obtain ⟨p, q, hA0, hV, rfl, hfz, hnd⟩ := hW
  have hA : DataW.TrodAll enc Tryd.prog W 0 (fun _ => true) true Tryd.f7.params.toList args.toList ds p := hA0
  rw [Tryd.params7] at hA hval hsz
  obtain ⟨v0, vs0, d0, ds0, p0, q0, hargs, rfl, rfl, h0, r0⟩ := trodAll_cons hA
  obtain ⟨v1, vs1, d1, ds1, p1, q1, rfl, rfl, rfl, h1, r1⟩ := trodAll_cons r0
  obtain ⟨v2, vs2, d2, ds2, p2, q2, rfl, rfl, rfl, h2, r2⟩ := trodAll_cons r1
  obtain ⟨rfl, rfl, rfl⟩ := trodAll_nil r2
  obtain rfl : args = #[v0, v1, v2] := by cases args; simp_all
  obtain ⟨rfl, rfl⟩ := trodVars_none hV
  obtain ⟨A0, len0, c0, rfl⟩ := okWide_slice Tryd.underlying22 (hval 0 22 v0 rfl rfl)
  have k0 := h0
  have lt0 : ∀ x ∈ p0, x.block < W.heap.size := by obtain ⟨m, hm⟩ := k0; exact DataW.trod_lt m _ _ _ hm
  obtain ⟨A, c, l, hv, hc, hC⟩ := PPx.open_stms PPx.ty h0
  simp only [Value.cells, List.cons.injEq, Value.slice.injEq, and_true] at hv
  obtain ⟨rfl, rfl, rfl⟩ := hv
  obtain ⟨a1, rfl, rfl, rfl, w1⟩ := open_int Tryd.underlying5 (hval 1 5 v1 rfl rfl) h1
  obtain ⟨a2, rfl, rfl, rfl, w2⟩ := open_int Tryd.underlying5 (hval 2 5 v2 rfl rfl) h2
  have b1 := PPx.u8_bounds w1
  have b2 := PPx.u8_bounds w2
  clear hA0 hval0 hsz0 hsz
  refine (PPx.rec_walk A0 c0 l a1 a2 W hC hc b1.1 b1.2 b2.1 b2.2 (plainLaid hL)).mono fun e W' ⟨he, bel⟩ => ?_
  subst he
  exact ⟨_, rfl, _, _, _, [], _, [], hW', trodAll_mk1 (shut_bool Tryd.underlying4 _), (trodAll_cons_mk (Below.trod laidOut (by kernel_rfl) (of_decide_eq_true (by kernel_rfl)) k0 bel lt0) (trodAll_cons_mk (shut_int Tryd.underlying5 w1) (trodAll_cons_mk (shut_int Tryd.underlying5 w2) trodAll_mk0))), rfl, bel.frame _, fun h => by cases h⟩
theorem over : Rows.ParserRecoversFromErrorsSaid :=
  OpenClaim.holds_of_wide 7 Tryd.f7 rfl rfl rfl rfl rfl rfl rfl ⟨rfl, rfl, rfl, rfl, rfl⟩ rfl rfl rfl rfl rfl (by kernel_rfl) Tryd.func7 (by kernel_rfl)
    (of_decide_eq_true (by kernel_rfl)) (by unfold Func.isWrapper; first | (rw [if_pos (by decide +kernel)]; kernel_rfl) | (rw [if_neg (by decide +kernel)]; exact ⟨rfl, rfl⟩))
    (fun os started H enc _ => lifted os started H enc)
theorem card : Rows.ParserRecoversFromErrorsCardSaid :=
  Claim7.holds_tied_plain_at .later [] [.data, .data, .data, .sentinel, .sentinel, .widerDeep] true (true, "6822103ed093441613754651125a536eb7c88e985074bd3ee2c69459dcd289f4") true
    over (fun _ h => by cases h) (by kernel_rfl) (fun _ h => by cases h) parserRecoversFromErrors_row_tie rfl ⟨rfl, rfl⟩ (by kernel_rfl) rfl
    (fun f fn hf hfn => by
      obtain rfl : f = 7 := Option.some.inj ((show Tryd.prog.funcNamed "ambidexter/ambidexterlaw11.ParserRecoversFromErrors" = some 7 by kernel_rfl).symm.trans hf) |>.symm
      obtain rfl : fn = Tryd.f7 := (Option.some.inj (Tryd.func7.symm.trans hfn)).symm
      exact ⟨by kernel_rfl, fun j t ht => by
        rw [Tryd.params7] at ht
        have h3 : t = 22 ∨ t = 5 := by
          rcases j with _ | _ | _ | j
          · exact .inl (by simpa using ht.symm)
          · exact .inr (by simpa using ht.symm)
          · exact .inr (by simpa using ht.symm)
          · simp at ht
        rcases h3 with rfl | rfl
        · exact (show Tryd.prog.wantsStandIn 22 = false by kernel_rfl)
        · exact (show Tryd.prog.wantsStandIn 5 = false by kernel_rfl)⟩)
    (by kernel_rfl)
end Go.Proofs.YtonhcfecfifghaaDoor.parserRecoversFromErrors
