/- Part C of the proof of ParserMatchesReference: the contracts of the functions that the law reaches, and what their plain functions compute. No condition. -/
import Derived.Test.YtonhcfecfifghaaGreatDoorParserMatchesReferencePA
import Derived.Test.YtonhcfecfifghaaGreatDoorParserMatchesReferencePB
import Derived.Defers
import Derived.Recover
import Derived.WalkSmall
import Derived.WalkKit
import Derived.Lib.Atoi
import Derived.Shelf.Strings.Builder1
import Derived.Shelf.Strings.BuilderF
import Derived.Shelf.Strings.BuilderK
import Derived.Shelf.Strconv.Atoi
import Derived.Shelf.Strconv.Itoa0
import Derived.Shelf.Strconv.Itoa1
import Derived.Shelf.LaysM
import Derived.Shelf.Strconv.Itoa2
import Derived.Shelf.Strconv.Itoa3
import Derived.Test.YtonhcfecfifghaaGreatDoorProg
import Derived.Deep.RegionHeld3
import Derived.Deep.RegionHeldLaw
import Derived.StillTailTactics
set_option maxHeartbeats 40000000
set_option maxRecDepth 100000
namespace Go.Proofs.YtonhcfecfifghaaGreatDoor.PPx
open Go.RowKit Go.Proofs.YtonhcfecfifghaaGreatDoorW.PrintWords Go.Proofs.YtonhcfecfifghaaGreatDoorW.PrintLast Go.Proofs.YtonhcfecfifghaaGreatDoorW.PrintMore
set_option linter.unusedVariables false
set_option linter.unusedSimpArgs false
section
structure Rs where
 toks : List S67
 n : Int
 fl : List S40
 over : Bool
def NumsOK (ts : List S67) : Prop := ∀ t ∈ ts, t.f0 = 2 → t.f1.size ≤ 18 ∧ ∃ n, Lib.atoi t.f1.data.toList = some n
def IsR (w0 W : World) (g : Nat) (fin : Int) (vf : Value) (s : Rs) : Prop :=
 ∃ A c, W.heap[g]? = some (.cells #[.slice A s.toks.length c, .int .i64 fin, .int .i64 s.n, vf, .bool s.over] 47 (0, 0)) ∧ w0.heap.size ≤ g ∧ s.toks.length ≤ c ∧ Kd.C k67 w0 A s.toks.length s.toks ∧
  Kd.R k40 40 W w0.heap.size (fun k => k ≠ g) vf s.fl ∧ Below w0.heap.size w0 W ∧ NumsOK s.toks
structure Go_ (W W1 : World) (g : Nat) (vf vf1 : Value) : Prop where
 size : W.heap.size ≤ W1.heap.size
 block : ∀ k, k < W.heap.size → k ≠ g → some k ≠ vf.ownBlock → W1.heap[k]? = W.heap[k]?
 row : vf1.ownBlock = vf.ownBlock ∨ ∃ b, vf1.ownBlock = some b ∧ W.heap.size ≤ b
section
variable {w0 W W1 W2 : World} {g : Nat} {fin : Int} {vf vf1 vf2 : Value} {s : Rs}
theorem Go_.refl (W : World) (g : Nat) (vf : Value) : Go_ W W g vf vf := ⟨Nat.le_refl _, fun _ _ _ _ => rfl, .inl rfl⟩
theorem Go_.of_below (h : Below W.heap.size W W1) (g : Nat) (vf : Value) : Go_ W W1 g vf vf := ⟨h.size, fun k hk _ _ => h.block k hk, .inl rfl⟩
theorem Go_.trans (h : Go_ W W1 g vf vf1) (k : Go_ W1 W2 g vf1 vf2) (hg : g < W.heap.size) : Go_ W W2 g vf vf2 := by
 have hne : ∀ j, j < W.heap.size → some j ≠ vf.ownBlock → some j ≠ vf1.ownBlock := fun j hj hv => by
  rcases h.row with e | ⟨b, e, hb⟩
  · rw [e]; exact hv
  · rw [e]; intro he; injection he with he; omega
 refine ⟨Nat.le_trans h.size k.size, fun j hj hjg hjv => ?_, ?_⟩
 · rw [k.block j (Nat.lt_of_lt_of_le hj h.size) hjg (hne j hj hjv)]; exact h.block j hj hjg hjv
 · rcases k.row with e | ⟨b, e, hb⟩
   · rw [e]; exact h.row
   · exact .inr ⟨b, e, Nat.le_trans h.size hb⟩
theorem IsR.lt (h : IsR w0 W g fin vf s) : g < W.heap.size := by
 obtain ⟨A, c, hh, _⟩ := h
 exact (Array.getElem?_eq_some_iff.1 hh).1
theorem IsR.ge (h : IsR w0 W g fin vf s) : w0.heap.size ≤ g := by
 obtain ⟨A, c, hh, hg, _⟩ := h
 exact hg
theorem IsR.bel (h : IsR w0 W g fin vf s) : Below w0.heap.size w0 W := by
 obtain ⟨A, c, hh, hg, hl, hC, hR, hB, hN⟩ := h
 exact hB
theorem IsR.below (h : IsR w0 W g fin vf s) (hb : Below W.heap.size W W1) : IsR w0 W1 g fin vf s := by
 obtain ⟨A, c, hh, hg, hl, hC, hR, hB, hN⟩ := h
 refine ⟨A, c, (hb.block g (Array.getElem?_eq_some_iff.1 hh).1).trans hh, hg, hl, hC, Kd.R_below hR hb, hB.trans ⟨hb.os, hb.tape, hb.output, hb.size, fun k hk => hb.block k (Nat.lt_of_lt_of_le hk hB.size)⟩, hN⟩
theorem R_go {α : Type} {d : Kd α} {e base : Nat} {v : Value} {xs : List α} (h : d.R e W base (fun k => k ≠ g ∧ some k ≠ vf.ownBlock) v xs) (hg : Go_ W W1 g vf vf1) : d.R e W1 base (fun k => k ≠ g ∧ some k ≠ vf1.ownBlock) v xs := by
 have h1 : d.R e W base (fun k => (k ≠ g ∧ some k ≠ vf1.ownBlock) ∧ (k ≠ g ∧ some k ≠ vf.ownBlock)) v xs := by
  refine Kd.R_mono (Kd.R_bound h) (fun k hk => ⟨⟨hk.1.1, ?_⟩, hk.1⟩)
  rcases hg.row with e | ⟨b, e, hb⟩
  · rw [e]; exact hk.1.2
  · rw [e]; intro he; injection he with he; have := hk.2.2.1; omega
 exact Kd.R_mono (Kd.R_step h1 (fun k hk hlt => hg.block k hlt hk.2.1 hk.2.2)) (fun k hk => hk.1)
theorem blk_go {b : Nat} {o : Obj} (h : W.heap[b]? = some o) (hg : Go_ W W1 g vf vf1) (h1 : b ≠ g) (h2 : some b ≠ vf.ownBlock) : W1.heap[b]? = some o :=
 (hg.block b (Array.getElem?_eq_some_iff.1 h).1 h1 h2).trans h
end
def lookS (fin : Int) (ts : List S67) : S67 := match ts with
 | [] => ⟨0, ⟨#[]⟩, fin⟩
 | t :: _ => t
abbrev tokV (t : S67) : Value := .agg #[.int .i64 t.f0, .string t.f1, .int .i64 t.f2]
theorem cell_lt {W : World} {a : Addr} {v : Value} (h : W.cell? a = some v) : a.block < W.heap.size := by
 rcases Nat.lt_or_ge a.block W.heap.size with h1 | h1
 · exact h1
 · simp [World.cell?, Array.getElem?_eq_none h1] at h
theorem add_zero' (a : Addr) : a.add 0 = a := by unfold Addr.add; cases a; split <;> simp_all
theorem first_tok {W : World} {A : Option Addr} {t : S67} {ts : List S67} {n : Nat} (hC : Kd.C k67 W A n (t :: ts)) :
 ∃ ad, A = some ad ∧ ad.block < W.heap.size ∧ W.cell? ad = some (.int .i64 t.f0) ∧ W.cell? ⟨ad.block, ad.off + 1, none⟩ = some (.string t.f1) ∧ W.cell? ⟨ad.block, ad.off + 2, none⟩ = some (.int .i64 t.f2) := by
 have hn := Kd.C_len hC
 simp only [List.length_cons] at hn
 obtain ⟨ad, ea, hx0, hx1, hx2⟩ := at_T67 hC 0 (by omega) (by omega)
 have e : rd_T67 (t :: ts) 0 = t := rfl
 simp only [Int.toNat_zero, Nat.zero_mul, add_zero', e] at hx0 hx1 hx2
 exact ⟨ad, ea, cell_lt hx0, hx0, hx1, hx2⟩
theorem tok_f1 (w : World) (x : Int) (y : ByteArray) (z : Int) : (Instr.field 67 (.agg #[.int .i64 x, .string y, .int .i64 z]) 1).run Tryz.prog w = .ok (.string y) w := by kernel_rfl
theorem tok_f2 (w : World) (x : Int) (y : ByteArray) (z : Int) : (Instr.field 67 (.agg #[.int .i64 x, .string y, .int .i64 z]) 2).run Tryz.prog w = .ok (.int .i64 z) w := by kernel_rfl
section
variable {w0 W W1 : World} {g : Nat} {fin : Int} {vf vf1 : Value} {s : Rs}
theorem Go_.set (h : Go_ W W1 g vf vf1) {p : Addr} (hp : p.block = g ∨ W.heap.size ≤ p.block) (u : Value) : Go_ W (W1.setCell p u) g vf vf1 :=
 ⟨by simpa [World.setCell] using h.size, fun k hk hg hv => (Below.heap_setCell W1 p u k (by rcases hp with hp | hp <;> omega)).trans (h.block k hk hg hv), h.row⟩
theorem IsR.far (h : IsR w0 W g fin vf s) {b t : Nat} {cells : Array Value} (hb : W.heap[b]? = some (.cells cells t (0, 0))) (h1 : t ≠ 47) (h2 : t ≠ 40) (hge : w0.heap.size ≤ b) (j : Nat) (u : Value) : IsR w0 (W.setCell ⟨b, j, none⟩ u) g fin vf s := by
 obtain ⟨A, c, hh, hg, hl, hC, hR, hB, hN⟩ := h
 have hne : g ≠ b := fun e => by subst e; rw [hh] at hb; injection hb with hb; injection hb with _ hb; exact h1 hb.symm
 exact ⟨A, c, blk_far hh hne u, hg, hl, hC, Kd.R_set hR hb (by intro q hq; simp at hq; rcases hq with rfl | hq; exact fun e => h2 e.symm; exact absurd hq (by simp [k40, Kd.iso, Kd.pair, Kd.int, Kd.scalar])) j u, hB.setCell hge u, hN⟩
theorem IsR.set_toks (h : IsR w0 W g fin vf s) {A' : Option Addr} {c' : Nat} {ts : List S67} (hC' : Kd.C k67 w0 A' ts.length ts) (hl' : ts.length ≤ c') (hN' : NumsOK ts) : IsR w0 (W.setCell ⟨g, 0, none⟩ (.slice A' ts.length c')) g fin vf { s with toks := ts } := by
 obtain ⟨A, c, hh, hg, hl, hC, hR, hB, hN⟩ := h
 exact ⟨A', c', blk_put hh 0 _ rfl, hg, hl', hC', Kd.R_far hR (p := ⟨g, 0, none⟩) (fun k hk => hk) _, hB.setCell hg _, hN'⟩
theorem IsR.set_n (h : IsR w0 W g fin vf s) (n : Int) : IsR w0 (W.setCell ⟨g, 2, none⟩ (.int .i64 n)) g fin vf { s with n := n } := by
 obtain ⟨A, c, hh, hg, hl, hC, hR, hB, hN⟩ := h
 exact ⟨A, c, blk_put hh 2 _ rfl, hg, hl, hC, Kd.R_far hR (p := ⟨g, 2, none⟩) (fun k hk => hk) _, hB.setCell hg _, hN⟩
theorem IsR.set_over (h : IsR w0 W g fin vf s) (b : Bool) : IsR w0 (W.setCell ⟨g, 4, none⟩ (.bool b)) g fin vf { s with over := b } := by
 obtain ⟨A, c, hh, hg, hl, hC, hR, hB, hN⟩ := h
 exact ⟨A, c, blk_put hh 4 _ rfl, hg, hl, hC, Kd.R_far hR (p := ⟨g, 4, none⟩) (fun k hk => hk) _, hB.setCell hg _, hN⟩
theorem tail_C {A : Option Addr} {c : Nat} {t : S67} {ts : List S67} (hC : Kd.C k67 w0 A (t :: ts).length (t :: ts)) (hl : (t :: ts).length ≤ c) :
 (c = 1 → Kd.C k67 w0 A ts.length ts) ∧ (c ≠ 1 → Kd.C k67 w0 (A.map (fun x => { block := x.block, off := x.off + 3 })) ts.length ts) := by
 have h := Kd.C_drop (m := 1) hC (by simp) hl
 refine ⟨fun e => ?_, fun e => ?_⟩
 · rw [if_pos e] at h; exact h
 · rw [if_neg e] at h; exact h
end
section
variable {w0 W W1 : World} {g b : Nat} {fin : Int} {vf vf1 : Value} {s : Rs} {x y z x' y' z' : Value}
theorem blk3 {t : TypeId} (h : W.heap[b]? = some (.cells #[x, y, z] t (0, 0))) : (((W.setCell ⟨b, 0, none⟩ x').setCell ⟨b, 1, none⟩ y').setCell ⟨b, 2, none⟩ z').heap[b]? = some (.cells #[x', y', z'] t (0, 0)) := by
 have h1 : (W.setCell ⟨b, 0, none⟩ x').heap[b]? = some (.cells #[x', y, z] t (0, 0)) := blk_put h 0 _ rfl
 have h2 : ((W.setCell ⟨b, 0, none⟩ x').setCell ⟨b, 1, none⟩ y').heap[b]? = some (.cells #[x', y', z] t (0, 0)) := blk_put h1 1 _ rfl
 exact blk_put h2 2 _ rfl
theorem IsR.far3 (h : IsR w0 W g fin vf s) (hb : W.heap[b]? = some (.cells #[x, y, z] 67 (0, 0))) (hge : w0.heap.size ≤ b) : IsR w0 (((W.setCell ⟨b, 0, none⟩ x').setCell ⟨b, 1, none⟩ y').setCell ⟨b, 2, none⟩ z') g fin vf s := by
 have h1 : (W.setCell ⟨b, 0, none⟩ x').heap[b]? = some (.cells #[x', y, z] 67 (0, 0)) := blk_put hb 0 _ rfl
 have h2 : ((W.setCell ⟨b, 0, none⟩ x').setCell ⟨b, 1, none⟩ y').heap[b]? = some (.cells #[x', y', z] 67 (0, 0)) := blk_put h1 1 _ rfl
 exact ((h.far hb (by decide) (by decide) hge 0 x').far h1 (by decide) (by decide) hge 1 y').far h2 (by decide) (by decide) hge 2 z'
theorem Go_.set3 (h : Go_ W W1 g vf vf1) (hp : W.heap.size ≤ b) : Go_ W (((W1.setCell ⟨b, 0, none⟩ x').setCell ⟨b, 1, none⟩ y').setCell ⟨b, 2, none⟩ z') g vf vf1 :=
 ((h.set (p := ⟨b, 0, none⟩) (.inr hp) x').set (p := ⟨b, 1, none⟩) (.inr hp) y').set (p := ⟨b, 2, none⟩) (.inr hp) z'
end
end
theorem look_calls (w0 W : World) (g : Nat) (fin : Int) (vf : Value) (s : Rs) (hI : IsR w0 W g fin vf s) :
 Calls Tryz.prog 30 #[.pointer (some ⟨g, 0, none⟩)] W fun e w' => e = .returned (.agg #[.int .i64 (lookS fin s.toks).f0, .string (lookS fin s.toks).f1, .int .i64 (lookS fin s.toks).f2]) ∧ Below W.heap.size W w' := by
 have hu44 := Tryz.underlying67
 obtain ⟨A, c, hh, hg, hl, hC, hR, hB, hN⟩ := hI
 have c0 := blk_cell hh 0
 have c1 := blk_cell hh 1
 simp only [List.getElem?_toArray, List.getElem?_cons_zero, List.getElem?_cons_succ] at c0 c1
 have hgl := (Array.getElem?_eq_some_iff.1 hh).1
 have HB := Aside0.mk hB
 clear hh hB hR hN
 obtain ⟨toks, n, fl, over⟩ := s
 simp only at c0 hC hl ⊢
 cases toks with
 | nil =>
  simp only [List.length_nil] at c0
  go_enter Tryz.func30, Tryz.ntmps30
  go_wp2_with fail
  refine bodyPost_ret (results_cell_row rfl _ _ W.heap.size 67 #[.int .i64 0, .string (⟨#[]⟩ : ByteArray), .int .i64 fin] (0, 0) _ rfl (heap_alloc_new _ _) Tryz.underlying67 rfl (by kernel_rfl)) rfl ?_
  exact ⟨rfl, below_alloc (Below.refl _ _) _⟩
 | cons t ts =>
  obtain ⟨ad, ea, hal, hx0, hx1, hx2⟩ := first_tok (Kd.C_below hC HB.out)
  cases ea
  have hp : (0 < ((t :: ts).length : Int)) := by simp
  have hn : (((t :: ts).length : Int) == 0) = false := by simp; omega
  generalize (t :: ts).length = m at *
  have hp2 := eq_true hp
  clear hC
  go_enter Tryz.func30, Tryz.ntmps30
  go_wp2_with fail
  refine bodyPost_ret (results_cell_row rfl _ _ W.heap.size 67 #[.int .i64 t.f0, .string t.f1, .int .i64 t.f2] (0, 0) _ rfl (heap_alloc_new _ _) Tryz.underlying67 rfl (by kernel_rfl)) rfl ?_
  exact ⟨rfl, below_alloc (Below.refl _ _) _⟩
def faultV (e at_ : Int) : List PanicEntry := [{ v := .iface 91 (.agg #[.int .i64 e, .int .i64 at_]), recovered := false }]
def wrongE (ts : List S67) : Int := match ts with
 | [] => 3
 | _ :: _ => 110
theorem wrong_calls (w0 W : World) (g : Nat) (fin : Int) (vf : Value) (s : Rs) (hI : IsR w0 W g fin vf s) :
 Calls Tryz.prog 91 #[.pointer (some ⟨g, 0, none⟩)] W fun e w' => e = .panicked (faultV (wrongE s.toks) (lookS fin s.toks).f2) ∧ Below W.heap.size W w' := by
 have hu44 := Tryz.underlying67
 have hu91 := Tryz.underlying91
 have hf2 := tok_f2
 have HI := Aside0.mk hI
 obtain ⟨A, c, hh, hg, hl, hC, hR, hB, hN⟩ := hI
 have c0 := blk_cell hh 0
 simp only [List.getElem?_toArray, List.getElem?_cons_zero, List.getElem?_cons_succ] at c0
 have hgl := (Array.getElem?_eq_some_iff.1 hh).1
 clear hh hB hR hC hN
 obtain ⟨toks, n, fl, over⟩ := s
 simp only at c0 hl ⊢
 cases toks with
 | nil =>
  simp only [List.length_nil] at c0
  go_enter Tryz.func91, Tryz.ntmps91
  go_wp2_with (first | (go_at_call 30; refine (look_calls w0 W g fin vf _ HI.out).mono ?_; rintro e w1 ⟨rfl, hb⟩))
  exact ⟨rfl, rfl, hb⟩
 | cons t ts =>
  have hn : (((t :: ts).length : Int) == 0) = false := by simp; omega
  generalize (t :: ts).length = m at *
  go_enter Tryz.func91, Tryz.ntmps91
  go_wp2_with (first | (go_at_call 30; refine (look_calls w0 W g fin vf _ HI.out).mono ?_; rintro e w1 ⟨rfl, hb⟩))
  exact ⟨rfl, rfl, hb⟩
abbrev Step (α : Type) := Except (Int × Int) α × Rs
def takeS (p : S67 → Bool) (fin : Int) (s : Rs) : Step S67 := match s.toks with
 | [] => (.error (3, fin), s)
 | t :: ts => if (t.f0 == 0 || !p t) = true then (.error (110, t.f2), s) else (.ok t, { s with toks := ts })
def Out1 {α : Type} (w0 W : World) (g : Nat) (fin : Int) (vf : Value) (enc : α → Value) (r : Step α) (e : Ending) (w' : World) : Prop :=
 (match r.1 with
  | .ok a => e = .returned (enc a)
  | .error f => e = .panicked (faultV f.1 f.2)) ∧ IsR w0 w' g fin vf r.2 ∧ Go_ W w' g vf vf
theorem take_calls (F : FuncId) (cap : Array Value) (hcf : ∀ (args : Array Value) (w : World), Sem.run Tryz.prog (callFunc F args) w = .ok (.enter F args) w) (p : S67 → Bool) (w0 W : World) (g : Nat) (fin : Int) (vf : Value) (s : Rs) (hI : IsR w0 W g fin vf s)
 (HF : Aside0 (∀ (W1 : World) (t : S67), Below W.heap.size W W1 → Calls Tryz.prog F (#[.agg #[.int .i64 t.f0, .string t.f1, .int .i64 t.f2]] ++ cap) W1 fun e w' => e = .returned (.bool (p t)) ∧ Below W1.heap.size W1 w')) :
 Calls Tryz.prog 75 #[.pointer (some ⟨g, 0, none⟩), .func (.func F) #[] cap] W fun e w' => Out1 w0 W g fin vf tokV (takeS p fin s) e w' := by
 have hu44 := Tryz.underlying67
 have HI := Aside0.mk hI
 obtain ⟨A, c, hh, hg, hl, hC, hR, hB, hN⟩ := hI
 have c0 := blk_cell hh 0
 simp only [List.getElem?_toArray, List.getElem?_cons_zero, List.getElem?_cons_succ] at c0
 have hgl := (Array.getElem?_eq_some_iff.1 hh).1
 clear hh hB hR hC hN
 obtain ⟨toks, n, fl, over⟩ := s
 simp only at c0 hl ⊢
 cases toks with
 | nil =>
  simp only [List.length_nil] at c0
  go_enter Tryz.func75, Tryz.ntmps75
  go_wp2_with fail
  have hb0 := below_alloc (Below.refl W.heap.size W) (.cells #[.int .i64 0, .string ⟨#[]⟩, .int .i64 0] 67)
  refine (look_calls w0 _ g fin vf _ (HI.out.below hb0)).mono ?_
  rintro e w1 ⟨rfl, hb⟩
  have HI1 := Aside0.mk ((HI.out.below hb0).below hb)
  have HG1 := Aside0.mk (Go_.of_below (below_step hb0 hb) g vf)
  have hgl1 := HI1.out.lt
  simp only [lookS]
  clear HI HF hb hb0
  go_wp2_with fail
  refine (wrong_calls w0 _ g fin vf _ (HI1.out.below (below_alloc (Below.refl _ _) _))).mono ?_
  rintro e w2 ⟨rfl, hb⟩
  exact ⟨rfl, rfl, (HI1.out.below (below_alloc (Below.refl _ _) _)).below hb, HG1.out.trans (Go_.of_below (below_step (below_alloc (Below.refl _ _) _) hb) g vf) hgl⟩
 | cons t ts =>
  have hln : (t :: ts).length = ts.length + 1 := rfl
  have hp : 1 ≤ (t :: ts).length := by omega
  cases hz : (t.f0 == 0) with
  | true =>
   have ht : takeS p fin ⟨t :: ts, n, fl, over⟩ = (.error (110, t.f2), ⟨t :: ts, n, fl, over⟩) := by simp [takeS, hz]
   rw [ht]
   clear HF ht
   generalize (t :: ts).length = m at *
   go_enter Tryz.func75, Tryz.ntmps75
   go_wp2_with fail
   have hb0 := below_alloc (Below.refl W.heap.size W) (.cells #[.int .i64 0, .string ⟨#[]⟩, .int .i64 0] 67)
   refine (look_calls w0 _ g fin vf _ (HI.out.below hb0)).mono ?_
   rintro e w1 ⟨rfl, hb⟩
   have HI1 := Aside0.mk ((HI.out.below hb0).below hb)
   have HG1 := Aside0.mk (Go_.of_below (below_step hb0 hb) g vf)
   have hgl1 := HI1.out.lt
   simp only [lookS]
   clear HI hb hb0
   go_wp2_with fail
   refine (wrong_calls w0 _ g fin vf _ (HI1.out.below (below_alloc (Below.refl _ _) _))).mono ?_
   rintro e w2 ⟨rfl, hb⟩
   exact ⟨rfl, rfl, (HI1.out.below (below_alloc (Below.refl _ _) _)).below hb, HG1.out.trans (Go_.of_below (below_step (below_alloc (Below.refl _ _) _) hb) g vf) hgl⟩
  | false =>
   generalize hm : (t :: ts).length = m at *
   go_enter Tryz.func75, Tryz.ntmps75
   go_wp2_with fail
   have hb0 := below_alloc (Below.refl W.heap.size W) (.cells #[.int .i64 0, .string ⟨#[]⟩, .int .i64 0] 67)
   refine (look_calls w0 _ g fin vf _ (HI.out.below hb0)).mono ?_
   rintro e w1 ⟨rfl, hb⟩
   have HI1 := Aside0.mk ((HI.out.below hb0).below hb)
   have HB1 := Aside0.mk (below_step hb0 hb)
   have HR1 := Aside0.mk ((hb.block W.heap.size (by simp)).trans (heap_alloc_new W (.cells #[.int .i64 0, .string ⟨#[]⟩, .int .i64 0] 67)))
   have hgl1 := HI1.out.lt
   simp only [lookS]
   clear HI hb hb0
   go_wp2_with fail
   have hb1 := below_alloc (Below.refl w1.heap.size w1) (.cells #[.int .i64 t.f0, .string t.f1, .int .i64 t.f2] 67)
   refine (HF.out _ t (below_step HB1.out hb1)).mono ?_
   rintro e w2 ⟨rfl, hb2⟩
   have hsz1 := HB1.out.size
   have hlt1 : W.heap.size < w1.heap.size := (Array.getElem?_eq_some_iff.1 HR1.out).1
   have hlt2 : w1.heap.size < w2.heap.size := by have := hb2.size; simp at this; omega
   have HT2 := Aside0.mk ((hb2.block w1.heap.size (by simp)).trans (heap_alloc_new w1 (.cells #[.int .i64 t.f0, .string t.f1, .int .i64 t.f2] 67)))
   have HR2 := Aside0.mk (((below_step hb1 hb2).block W.heap.size hlt1).trans HR1.out)
   have HI2 := Aside0.mk ((HI1.out.below hb1).below hb2)
   have HB2 := Aside0.mk (below_step HB1.out (below_step hb1 hb2))
   have t0 := blk_cell HT2.out 0
   have t1 := blk_cell HT2.out 1
   have t2 := blk_cell HT2.out 2
   have r0 := blk_cell HR2.out 0
   have r1 := blk_cell HR2.out 1
   have r2 := blk_cell HR2.out 2
   have f0 := blk_frozen HR2.out 0
   have f1 := blk_frozen HR2.out 1
   have f2 := blk_frozen HR2.out 2
   simp only [List.getElem?_toArray, List.getElem?_cons_zero, List.getElem?_cons_succ] at t0 t1 t2 r0 r1 r2
   clear HI1 HR1 hb1 hb2 HF
   cases hpt : p t with
   | false =>
    go_wp2_with fail
    refine (wrong_calls w0 _ g fin vf _ HI2.out).mono ?_
    rintro e w3 ⟨rfl, hb⟩
    have ht : takeS p fin ⟨t :: ts, n, fl, over⟩ = (.error (110, t.f2), ⟨t :: ts, n, fl, over⟩) := by simp [takeS, hz, hpt]
    exact ⟨rfl, by rw [ht]; exact ⟨rfl, HI2.out.below hb, Go_.of_below (below_step HB2.out hb) g vf⟩⟩
   | true =>
    have ht : takeS p fin ⟨t :: ts, n, fl, over⟩ = (.ok t, ⟨ts, n, fl, over⟩) := by simp [takeS, hz, hpt]
    obtain ⟨A2, c2, hh2, hg2, hl2, hC2, hR2, hBx, hN2⟩ := HI2.out
    have HN := Aside0.mk (show NumsOK ts from fun x hx => hN2 x (List.mem_cons_of_mem _ hx))
    have q0 := blk_cell hh2 0
    have z0 := blk_frozen hh2 0
    simp only [List.getElem?_toArray, List.getElem?_cons_zero, List.getElem?_cons_succ, hm] at q0
    have hgl2 := (Array.getElem?_eq_some_iff.1 hh2).1
    have hT := tail_C hC2 hl2
    have hlc : ts.length ≤ c2 - 1 := by simp only [List.length_cons] at hl2; omega
    have hgw : w0.heap.size ≤ W.heap.size := by have := HB2.out.size; omega
    clear hh2 hC2 hR2 hBx hl2 hN2
    by_cases hc2 : c2 = 1
    · subst hc2
      have hts : ts = [] := List.eq_nil_of_length_eq_zero (by omega)
      subst hts
      have HT := Aside0.mk (hT.1 rfl)
      clear hT
      have hI3 : Aside0 (IsR w0 (w2.setCell ⟨g, 0, none⟩ (.slice A2 0 0)) g fin vf ⟨[], n, fl, over⟩) := ⟨IsR.set_toks (ts := []) (c' := 0) HI2.out HT.out (Nat.le_refl _) HN.out⟩
      have hr3 := Aside0.mk (blk_far HR2.out (p := ⟨g, 0, none⟩) (Ne.symm (Nat.ne_of_lt hgl)) (.slice A2 0 0))
      have hG3 := Aside0.mk ((Go_.of_below HB2.out g vf).set (p := ⟨g, 0, none⟩) (.inl rfl) (.slice A2 0 0))
      clear HI2 HR2 HB2 HT2 HT HN
      have hm1 : m = 1 := hm.symm
      clear hm hln hp hlc hl
      subst hm1
      go_wp2_with fail
      refine bodyPost_ret (results_cell_row rfl _ _ W.heap.size 67 #[.int .i64 t.f0, .string t.f1, .int .i64 t.f2] (0, 0) _ rfl (blk3 hr3.out) Tryz.underlying67 rfl (by kernel_rfl)) rfl ?_
      rw [ht]
      exact ⟨rfl, IsR.far3 hI3.out hr3.out hgw, Go_.set3 hG3.out (Nat.le_refl _)⟩
    · have HT := Aside0.mk (hT.2 hc2)
      clear hT
      have hI3 := Aside0.mk (IsR.set_toks HI2.out HT.out hlc HN.out)
      have hr3 := Aside0.mk (blk_far HR2.out (p := ⟨g, 0, none⟩) (Ne.symm (Nat.ne_of_lt hgl)) (.slice (A2.map (fun x => { block := x.block, off := x.off + 3 })) ts.length (c2 - 1)))
      have hG3 := Aside0.mk ((Go_.of_below HB2.out g vf).set (p := ⟨g, 0, none⟩) (.inl rfl) (.slice (A2.map (fun x => { block := x.block, off := x.off + 3 })) ts.length (c2 - 1)))
      clear HI2 HR2 HB2 HT2 HT HN
      go_wp2_with fail
      refine bodyPost_ret (results_cell_row rfl _ _ W.heap.size 67 #[.int .i64 t.f0, .string t.f1, .int .i64 t.f2] (0, 0) _ rfl (blk3 hr3.out) Tryz.underlying67 rfl (by kernel_rfl)) rfl ?_
      rw [ht]
      exact ⟨rfl, IsR.far3 hI3.out hr3.out hgw, Go_.set3 hG3.out (Nat.le_refl _)⟩
section
section
variable {α β : Type} {w0 W W1 w' : World} {g : Nat} {fin : Int} {vf : Value} {enc : α → Value} {r : Step α} {e : Ending}
theorem Out1.cases (h : Out1 w0 W g fin vf enc r e w') : (∃ a, r.1 = .ok a ∧ e = .returned (enc a) ∧ IsR w0 w' g fin vf r.2 ∧ Go_ W w' g vf vf) ∨ (∃ f, r.1 = .error f ∧ e = .panicked (faultV f.1 f.2) ∧ IsR w0 w' g fin vf r.2 ∧ Go_ W w' g vf vf) := by
 obtain ⟨h1, h2, h3⟩ := h
 cases hr : r.1 with
 | ok a => rw [hr] at h1; exact .inl ⟨a, rfl, h1, h2, h3⟩
 | error f => rw [hr] at h1; exact .inr ⟨f, rfl, h1, h2, h3⟩
theorem Out1.ok {a : α} (hr : r.1 = .ok a) (he : e = .returned (enc a)) (h2 : IsR w0 w' g fin vf r.2) (h3 : Go_ W w' g vf vf) : Out1 w0 W g fin vf enc r e w' := ⟨by rw [hr]; exact he, h2, h3⟩
theorem Out1.err {f : Int × Int} (hr : r.1 = .error f) (he : e = .panicked (faultV f.1 f.2)) (h2 : IsR w0 w' g fin vf r.2) (h3 : Go_ W w' g vf vf) : Out1 w0 W g fin vf enc r e w' := ⟨by rw [hr]; exact he, h2, h3⟩
end
def isSign (c : ByteArray) (t : S67) : Bool := t.f0 == 3 && t.f1.toList == c.toList
def isNumber (t : S67) : Bool := t.f0 == 2
def isArm (t : S67) : Bool := t.f0 == 2 && (t.f1.toList == [48] || t.f1.toList == [49])
theorem sign1_calls (c : ByteArray) (b : Nat) (W : World) (t : S67) (hc : W.heap[b]? = some (.cells #[.string c] 9 (0, 0))) :
 Calls Tryz.prog 95 #[.agg #[.int .i64 t.f0, .string t.f1, .int .i64 t.f2], .pointer (some ⟨b, 0, none⟩)] W fun e w' => e = .returned (.bool (isSign c t)) ∧ Below W.heap.size W w' := by
 have hu44 := Tryz.underlying67
 have c0 := blk_cell hc 0
 have hlt := (Array.getElem?_eq_some_iff.1 hc).1
 simp only [List.getElem?_toArray, List.getElem?_cons_zero, List.getElem?_cons_succ] at c0
 clear hc
 go_enter Tryz.func95, Tryz.ntmps95
 go_wp2_with fail
 all_goals (go_ret; exact ⟨by simp [isSign, *], below_alloc (Below.refl _ _) _⟩)
theorem number1_calls (W : World) (t : S67) :
 Calls Tryz.prog 94 #[.agg #[.int .i64 t.f0, .string t.f1, .int .i64 t.f2]] W fun e w' => e = .returned (.bool (isNumber t)) ∧ Below W.heap.size W w' := by
 have hu44 := Tryz.underlying67
 go_enter Tryz.func94, Tryz.ntmps94
 go_wp2_with fail
 all_goals (go_ret; exact ⟨by simp [isNumber, *], below_alloc (Below.refl _ _) _⟩)
theorem arm1_calls (W : World) (t : S67) :
 Calls Tryz.prog 92 #[.agg #[.int .i64 t.f0, .string t.f1, .int .i64 t.f2]] W fun e w' => e = .returned (.bool (isArm t)) ∧ Below W.heap.size W w' := by
 have hu44 := Tryz.underlying67
 go_enter Tryz.func92, Tryz.ntmps92
 go_wp2_with fail
 all_goals (go_ret; exact ⟨by simp [isArm, *], below_alloc (Below.refl _ _) _⟩)
def voidV (_ : S67) : Value := .tuple #[]
def signS (c : ByteArray) (fin : Int) (s : Rs) : Step S67 := takeS (isSign c) fin s
theorem sign_calls (c : ByteArray) (w0 W : World) (g : Nat) (fin : Int) (vf : Value) (s : Rs) (hI : IsR w0 W g fin vf s) :
 Calls Tryz.prog 84 #[.pointer (some ⟨g, 0, none⟩), .string c] W fun e w' => Out1 w0 W g fin vf voidV (signS c fin s) e w' := by
 have hmf : ∀ (fn : Fn) (first cap : Array Value) (w : World), (Instr.makeFunc fn first cap).run Tryz.prog w = .ok (.func fn first cap) w := fun _ _ _ _ => rfl
 have HI := Aside0.mk hI
 clear hI
 go_enter Tryz.func84, Tryz.ntmps84
 go_wp2_with fail
 have hb := below_alloc (Below.refl W.heap.size W) (.cells #[.string c] 9)
 have hn := heap_alloc_new W (.cells #[.string c] 9)
 have hlt : W.heap.size < (W.alloc (.cells #[.string c] 9)).heap.size := by simp
 refine (take_calls 95 #[.pointer (some ⟨W.heap.size, 0, none⟩)] (fun _ _ => by rfl) (isSign c) w0 _ g fin vf s (HI.out.below hb) ⟨fun W1 t hW => sign1_calls c W.heap.size W1 t ((hW.block _ hlt).trans hn)⟩).mono ?_
 intro e w1 ho
 have hgl := HI.out.lt
 rcases ho.cases with ⟨a, hr, rfl, h2, h3⟩ | ⟨f, hr, rfl, h2, h3⟩
 · have hG := Aside0.mk ((Go_.of_below hb g vf).trans h3 hgl)
   have h2' := Aside0.mk h2
   clear HI hb hn hlt ho h2 h3
   go_wp2_with fail
   go_end0
   exact Out1.ok hr rfl h2'.out hG.out
 · exact ⟨rfl, Out1.err hr rfl h2 ((Go_.of_below hb g vf).trans h3 hgl)⟩
end
theorem takeS_ok {p : S67 → Bool} {fin : Int} {s : Rs} {t : S67} (h : (takeS p fin s).1 = .ok t) : p t = true ∧ s.toks = t :: (takeS p fin s).2.toks := by
 unfold takeS at h ⊢
 cases hs : s.toks with
 | nil => rw [hs] at h; simp at h
 | cons a ts =>
  rw [hs] at h
  simp only at h ⊢
  split at h
  · simp at h
  · rename_i hc
    simp only [Except.ok.injEq] at h
    subst h
    simp only [Bool.or_eq_true, beq_iff_eq, Bool.not_eq_true', not_or, Bool.not_eq_false] at hc
    rw [if_neg (by simp [hc.1, hc.2])]
    exact ⟨hc.2, rfl⟩
def Step.map {α β : Type} (f : α → β) (r : Step α) : Step β := (match r.1 with | .ok a => .ok (f a) | .error e => .error e, r.2)
theorem Step.map_ok {α β : Type} {f : α → β} {r : Step α} {a : α} (h : r.1 = .ok a) : (r.map f).1 = .ok (f a) := by simp [Step.map, h]
theorem Step.map_err {α β : Type} {f : α → β} {r : Step α} {e : Int × Int} (h : r.1 = .error e) : (r.map f).1 = .error e := by simp [Step.map, h]
def armOf (t : S67) : Int := if t.f1.toList = [49] then 1 else 0
def armS (fin : Int) (s : Rs) : Step Int := (takeS isArm fin s).map armOf
theorem ofList1 {s : ByteArray} {c : UInt8} (h : s.toList = [c]) : s = ⟨#[c]⟩ := by
 rw [ByteArray.toList_eq] at h
 apply ByteArray.ext
 apply Array.ext'
 exact h
theorem arm_calls (w0 W : World) (g : Nat) (fin : Int) (vf : Value) (s : Rs) (hI : IsR w0 W g fin vf s) :
 Calls Tryz.prog 81 #[.pointer (some ⟨g, 0, none⟩)] W fun e w' => Out1 w0 W g fin vf (Value.int .i64) (armS fin s) e w' := by
 have hu44 := Tryz.underlying67
 have HI := Aside0.mk hI
 clear hI
 go_enter Tryz.func81, Tryz.ntmps81
 go_wp2_with fail
 refine (take_calls 92 #[] (fun _ _ => by rfl) isArm w0 W g fin vf s HI.out ⟨fun W1 t _ => arm1_calls W1 t⟩).mono ?_
 intro e w1 ho
 have hgl := HI.out.lt
 rcases ho.cases with ⟨t, hr, rfl, h2, h3⟩ | ⟨f, hr, rfl, h2, h3⟩
 · have hp := (takeS_ok hr).1
   simp only [isArm, Bool.and_eq_true, beq_iff_eq, Bool.or_eq_true] at hp
   obtain ⟨t0, t1, t2⟩ := t
   have h2' := Aside0.mk h2
   have h3' := Aside0.mk h3
   have hr' := Aside0.mk hr
   clear ho h2 h3 hr HI
   simp only at hp
   rcases hp.2 with h | h
   · obtain rfl := ofList1 h
     have ha : armOf ⟨t0, ⟨#[48]⟩, t2⟩ = 0 := by simp [armOf, ByteArray.toList_eq]
     clear hp h
     simp only [tokV]
     go_wp2_with fail
     go_ret
     exact Out1.ok (Step.map_ok hr'.out) (by rw [ha]; rfl) (h2'.out.below (below_alloc (Below.refl _ _) _)) (h3'.out.trans (Go_.of_below (below_alloc (Below.refl _ _) _) g vf) hgl)
   · obtain rfl := ofList1 h
     have ha : armOf ⟨t0, ⟨#[49]⟩, t2⟩ = 1 := by simp [armOf, ByteArray.toList_eq]
     clear hp h
     simp only [tokV]
     go_wp2_with fail
     go_ret
     exact Out1.ok (Step.map_ok hr'.out) (by rw [ha]; rfl) (h2'.out.below (below_alloc (Below.refl _ _) _)) (h3'.out.trans (Go_.of_below (below_alloc (Below.refl _ _) _) g vf) hgl)
 · exact ⟨rfl, Out1.err (Step.map_err hr) rfl h2 h3⟩
end Go.Proofs.YtonhcfecfifghaaGreatDoor.PPx
namespace Go.Proofs
open Go.Shelf
def Tryz.lays169_ren : Go.Shelf.Ren := ⟨fun | 169 => 26 | n => n, fun | 70 => 56 | 9 => 9 | 0 => 0 | 72 => 59 | 37 => 57 | 127 => 85 | 3 => 3 | 5 => 5 | n => n, fun | n => n⟩
theorem Tryz.lays169 : Go.Proofs.Lays.n169 Tryz.prog Tryz.lays169_ren := {
 mixed := by kernel_rfl
 f169 := Tryz.func26.trans (congrArg some (by kernel_rfl))
 t0 := Tryz.underlying0
 a0 := Tryz.isAgg0
 z0 := Tryz.sizeOf0
 v0 := Tryz.zeroValue0
 t3 := Tryz.underlying3
 a3 := Tryz.isAgg3
 z3 := Tryz.sizeOf3
 v3 := Tryz.zeroValue3
 t9 := Tryz.underlying9
 a9 := Tryz.isAgg9
 z9 := Tryz.sizeOf9
 v9 := Tryz.zeroValue9
 t37 := Tryz.underlying57
 a37 := Tryz.isAgg57
 z37 := Tryz.sizeOf57
 v37 := Tryz.zeroValue57
 t70 := Tryz.underlying56
 a70 := Tryz.isAgg56
 z70 := Tryz.sizeOf56
 v70 := Tryz.zeroValue56
 t72 := Tryz.underlying59
 a72 := Tryz.isAgg59
 z72 := Tryz.sizeOf59
 v72 := Tryz.zeroValue59
 t127 := Tryz.underlying85
 a127 := Tryz.isAgg85
 z127 := Tryz.sizeOf85
 v127 := Tryz.zeroValue85 }
theorem Tryz.Builder_Extra_169 : Builder.Extra Tryz.prog Tryz.lays169_ren := {
 sizeBuilder := by kernel_rfl
 liesBuilder := by kernel_rfl
 t5 := Tryz.underlying5
 a5 := Tryz.isAgg5
 z5 := Tryz.sizeOf5
 v5 := Tryz.zeroValue5
 infoByte := by kernel_rfl
 cellsByte := by kernel_rfl
 sizeByte := by kernel_rfl
 neB5 := by decide }
open Go.RowKit in
theorem Tryz.Builder_String_any_k (B b : Nat) (l : List UInt8) (w : World) (h : Lib.IsBuilderF 59 5 B b (Lib.byteCells l) w) (hBw : B ≤ w.heap.size) :
 Calls Tryz.prog 26 #[.pointer (some ⟨b, 0, none⟩)] w fun e w' => e = .returned (.string ⟨l.toArray⟩) ∧ (Lib.IsBuilderF 59 5 B b (Lib.byteCells l) w' ∧ Below B w w' ∧ Lib.OthersKept 5 (some b) w w') := Any.Builder_String_any_k Tryz.lays169 Tryz.Builder_Extra_169 B b l w h hBw
def Tryz.lays172_ren : Go.Shelf.Ren := ⟨fun | 172 => 93 | 244 => 97 | 245 => 98 | 247 => 103 | 279 => 104 | 280 => 105 | 281 => 106 | 282 => 107 | 287 => 113 | 316 => 114 | 171 => 70 | 205 => 115 | 321 => 118 | 322 => 119 | 243 => 90 | 246 => 96 | 283 => 99 | 284 => 100 | 285 => 101 | 286 => 102 | 129 => 109 | 317 => 108 | 318 => 110 | 319 => 111 | 320 => 112 | 337 => 116 | 338 => 117 | n => n, fun | 9 => 9 | 3 => 3 | 75 => 81 | 76 => 82 | 4 => 4 | 5 => 5 | 167 => 132 | 37 => 57 | 0 => 0 | 85 => 133 | 2 => 2 | 168 => 135 | 53 => 127 | 175 => 145 | 46 => 143 | 210 => 148 | 127 => 85 | 145 => 154 | 143 => 152 | 21 => 21 | 171 => 126 | 173 => 130 | 212 => 140 | 51 => 141 | 20 => 20 | 213 => 142 | 232 => 155 | 233 => 156 | 80 => 61 | n => n, fun | 15 => 2 | 16 => 3 | 17 => 1 | 18 => 4 | 19 => 5 | n => n⟩
theorem Tryz.lays172 : Go.Proofs.Lays.n172 Tryz.prog Tryz.lays172_ren := {
 mixed := by kernel_rfl
 f129 := Tryz.func109.trans (congrArg some (by kernel_rfl))
 f171 := Tryz.func70.trans (congrArg some (by kernel_rfl))
 f172 := Tryz.func93.trans (congrArg some (by kernel_rfl))
 f205 := Tryz.func115.trans (congrArg some (by kernel_rfl))
 f243 := Tryz.func90.trans (congrArg some (by kernel_rfl))
 f244 := Tryz.func97.trans (congrArg some (by kernel_rfl))
 f245 := Tryz.func98.trans (congrArg some (by kernel_rfl))
 f246 := Tryz.func96.trans (congrArg some (by kernel_rfl))
 f247 := Tryz.func103.trans (congrArg some (by kernel_rfl))
 f279 := Tryz.func104.trans (congrArg some (by kernel_rfl))
 f280 := Tryz.func105.trans (congrArg some (by kernel_rfl))
 f281 := Tryz.func106.trans (congrArg some (by kernel_rfl))
 f282 := Tryz.func107.trans (congrArg some (by kernel_rfl))
 f283 := Tryz.func99.trans (congrArg some (by kernel_rfl))
 f284 := Tryz.func100.trans (congrArg some (by kernel_rfl))
 f285 := Tryz.func101.trans (congrArg some (by kernel_rfl))
 f286 := Tryz.func102.trans (congrArg some (by kernel_rfl))
 f287 := Tryz.func113.trans (congrArg some (by kernel_rfl))
 f316 := Tryz.func114.trans (congrArg some (by kernel_rfl))
 f317 := Tryz.func108.trans (congrArg some (by kernel_rfl))
 f318 := Tryz.func110.trans (congrArg some (by kernel_rfl))
 f319 := Tryz.func111.trans (congrArg some (by kernel_rfl))
 f320 := Tryz.func112.trans (congrArg some (by kernel_rfl))
 f321 := Tryz.func118.trans (congrArg some (by kernel_rfl))
 f322 := Tryz.func119.trans (congrArg some (by kernel_rfl))
 f337 := Tryz.func116.trans (congrArg some (by kernel_rfl))
 f338 := Tryz.func117.trans (congrArg some (by kernel_rfl))
 t0 := Tryz.underlying0
 a0 := Tryz.isAgg0
 z0 := Tryz.sizeOf0
 v0 := Tryz.zeroValue0
 t2 := Tryz.underlying2
 a2 := Tryz.isAgg2
 z2 := Tryz.sizeOf2
 v2 := Tryz.zeroValue2
 t3 := Tryz.underlying3
 a3 := Tryz.isAgg3
 z3 := Tryz.sizeOf3
 v3 := Tryz.zeroValue3
 t4 := Tryz.underlying4
 a4 := Tryz.isAgg4
 z4 := Tryz.sizeOf4
 v4 := Tryz.zeroValue4
 t5 := Tryz.underlying5
 a5 := Tryz.isAgg5
 z5 := Tryz.sizeOf5
 v5 := Tryz.zeroValue5
 t9 := Tryz.underlying9
 a9 := Tryz.isAgg9
 z9 := Tryz.sizeOf9
 v9 := Tryz.zeroValue9
 t20 := Tryz.underlying20
 a20 := Tryz.isAgg20
 z20 := Tryz.sizeOf20
 v20 := Tryz.zeroValue20
 t21 := Tryz.underlying21
 a21 := Tryz.isAgg21
 z21 := Tryz.sizeOf21
 v21 := Tryz.zeroValue21
 t37 := Tryz.underlying57
 a37 := Tryz.isAgg57
 z37 := Tryz.sizeOf57
 v37 := Tryz.zeroValue57
 t46 := Tryz.underlying143
 a46 := Tryz.isAgg143
 z46 := Tryz.sizeOf143
 v46 := Tryz.zeroValue143
 t51 := Tryz.underlying141
 a51 := Tryz.isAgg141
 z51 := Tryz.sizeOf141
 v51 := Tryz.zeroValue141
 t53 := Tryz.underlying127
 a53 := Tryz.isAgg127
 z53 := Tryz.sizeOf127
 v53 := Tryz.zeroValue127
 t75 := Tryz.underlying81
 a75 := Tryz.isAgg81
 z75 := Tryz.sizeOf81
 v75 := Tryz.zeroValue81
 t76 := Tryz.underlying82
 a76 := Tryz.isAgg82
 z76 := Tryz.sizeOf82
 v76 := Tryz.zeroValue82
 t85 := Tryz.underlying133
 a85 := Tryz.isAgg133
 z85 := Tryz.sizeOf133
 v85 := Tryz.zeroValue133
 t127 := Tryz.underlying85
 a127 := Tryz.isAgg85
 z127 := Tryz.sizeOf85
 v127 := Tryz.zeroValue85
 t143 := Tryz.underlying152
 a143 := Tryz.isAgg152
 z143 := Tryz.sizeOf152
 v143 := Tryz.zeroValue152
 t145 := Tryz.underlying154
 a145 := Tryz.isAgg154
 z145 := Tryz.sizeOf154
 v145 := Tryz.zeroValue154
 t167 := Tryz.underlying132
 a167 := Tryz.isAgg132
 z167 := Tryz.sizeOf132
 v167 := Tryz.zeroValue132
 t168 := Tryz.underlying135
 a168 := Tryz.isAgg135
 z168 := Tryz.sizeOf135
 v168 := Tryz.zeroValue135
 t171 := Tryz.underlying126
 a171 := Tryz.isAgg126
 z171 := Tryz.sizeOf126
 v171 := Tryz.zeroValue126
 t173 := Tryz.underlying130
 a173 := Tryz.isAgg130
 z173 := Tryz.sizeOf130
 v173 := Tryz.zeroValue130
 t175 := Tryz.underlying145
 a175 := Tryz.isAgg145
 z175 := Tryz.sizeOf145
 v175 := Tryz.zeroValue145
 t210 := Tryz.underlying148
 a210 := Tryz.isAgg148
 z210 := Tryz.sizeOf148
 v210 := Tryz.zeroValue148
 t212 := Tryz.underlying140
 a212 := Tryz.isAgg140
 z212 := Tryz.sizeOf140
 v212 := Tryz.zeroValue140
 t213 := Tryz.underlying142
 a213 := Tryz.isAgg142
 z213 := Tryz.sizeOf142
 t232 := Tryz.underlying155
 a232 := Tryz.isAgg155
 z232 := Tryz.sizeOf155
 v232 := Tryz.zeroValue155
 t233 := Tryz.underlying156
 a233 := Tryz.isAgg156
 z233 := Tryz.sizeOf156
 v233 := Tryz.zeroValue156
 g15 := by kernel_rfl
 g16 := by kernel_rfl
 g17 := by kernel_rfl
 g18 := by kernel_rfl
 g19 := by kernel_rfl }
open Go.RowKit in
theorem Tryz.strconv_Atoi (s : ByteArray) (n : Int) (hl : s.size ≤ 18) (h : Lib.atoi s.data.toList = some n) (w : World) :
 Calls Tryz.prog 93 #[.string s] w fun e w' => e = .returned (.tuple #[.int .i64 n, .nilIface]) ∧ ∃ t, w' = Lib.bytesWorld w 5 t := Any.strconv_Atoi Tryz.lays172 s n hl h w
def Tryz.laysM246_ren : Go.Shelf.Ren := ⟨fun | 246 => 96 | 283 => 99 | 284 => 100 | 285 => 101 | 286 => 102 | 129 => 109 | 317 => 108 | 318 => 110 | 319 => 111 | 320 => 112 | 337 => 116 | 338 => 117 | n => n, fun | 2 => 2 | 3 => 3 | 9 => 9 | 4 => 4 | 171 => 126 | 0 => 0 | 53 => 127 | 37 => 57 | 5 => 5 | 173 => 130 | 212 => 140 | 51 => 141 | 20 => 20 | 213 => 142 | 46 => 143 | 232 => 155 | 233 => 156 | n => n, fun | 17 => 1 | 18 => 4 | 19 => 5 | n => n⟩
def Tryz.laysM243_ren : Go.Shelf.Ren := ⟨fun | 243 => 90 | 246 => 96 | 283 => 99 | 284 => 100 | 285 => 101 | 286 => 102 | 129 => 109 | 317 => 108 | 318 => 110 | 319 => 111 | 320 => 112 | 337 => 116 | 338 => 117 | n => n, fun | 3 => 3 | 9 => 9 | 2 => 2 | 4 => 4 | 171 => 126 | 0 => 0 | 53 => 127 | 37 => 57 | 5 => 5 | 173 => 130 | 212 => 140 | 51 => 141 | 20 => 20 | 213 => 142 | 46 => 143 | 232 => 155 | 233 => 156 | n => n, fun | 17 => 1 | 18 => 4 | 19 => 5 | n => n⟩
def Tryz.laysM171_ren : Go.Shelf.Ren := ⟨fun | 171 => 70 | 243 => 90 | 246 => 96 | 283 => 99 | 284 => 100 | 285 => 101 | 286 => 102 | 129 => 109 | 317 => 108 | 318 => 110 | 319 => 111 | 320 => 112 | 337 => 116 | 338 => 117 | n => n, fun | 3 => 3 | 9 => 9 | 2 => 2 | 4 => 4 | 171 => 126 | 0 => 0 | 53 => 127 | 37 => 57 | 5 => 5 | 173 => 130 | 212 => 140 | 51 => 141 | 20 => 20 | 213 => 142 | 46 => 143 | 232 => 155 | 233 => 156 | n => n, fun | 17 => 1 | 18 => 4 | 19 => 5 | n => n⟩
theorem Tryz.laysM171 : Go.Proofs.LaysM.n171 Tryz.prog Tryz.laysM171_ren := {
 mixed := by kernel_rfl
 f129 := Tryz.func109.trans (congrArg some (by kernel_rfl))
 f171 := Tryz.func70.trans (congrArg some (by kernel_rfl))
 f243 := Tryz.func90.trans (congrArg some (by kernel_rfl))
 f246 := Tryz.func96.trans (congrArg some (by kernel_rfl))
 f283 := Tryz.func99.trans (congrArg some (by kernel_rfl))
 f284 := Tryz.func100.trans (congrArg some (by kernel_rfl))
 f285 := Tryz.func101.trans (congrArg some (by kernel_rfl))
 f286 := Tryz.func102.trans (congrArg some (by kernel_rfl))
 f317 := Tryz.func108.trans (congrArg some (by kernel_rfl))
 f318 := Tryz.func110.trans (congrArg some (by kernel_rfl))
 f319 := Tryz.func111.trans (congrArg some (by kernel_rfl))
 f320 := Tryz.func112.trans (congrArg some (by kernel_rfl))
 f337 := Tryz.func116.trans (congrArg some (by kernel_rfl))
 f338 := Tryz.func117.trans (congrArg some (by kernel_rfl))
 t0 := Tryz.underlying0
 a0 := Tryz.isAgg0
 z0 := Tryz.sizeOf0
 v0 := Tryz.zeroValue0
 t2 := Tryz.underlying2
 a2 := Tryz.isAgg2
 z2 := Tryz.sizeOf2
 v2 := Tryz.zeroValue2
 t3 := Tryz.underlying3
 a3 := Tryz.isAgg3
 z3 := Tryz.sizeOf3
 v3 := Tryz.zeroValue3
 t4 := Tryz.underlying4
 a4 := Tryz.isAgg4
 z4 := Tryz.sizeOf4
 v4 := Tryz.zeroValue4
 t5 := Tryz.underlying5
 a5 := Tryz.isAgg5
 z5 := Tryz.sizeOf5
 v5 := Tryz.zeroValue5
 t9 := Tryz.underlying9
 a9 := Tryz.isAgg9
 z9 := Tryz.sizeOf9
 v9 := Tryz.zeroValue9
 t20 := Tryz.underlying20
 a20 := Tryz.isAgg20
 z20 := Tryz.sizeOf20
 v20 := Tryz.zeroValue20
 t37 := Tryz.underlying57
 a37 := Tryz.isAgg57
 z37 := Tryz.sizeOf57
 v37 := Tryz.zeroValue57
 t46 := Tryz.underlying143
 a46 := Tryz.isAgg143
 z46 := Tryz.sizeOf143
 v46 := Tryz.zeroValue143
 t51 := Tryz.underlying141
 a51 := Tryz.isAgg141
 z51 := Tryz.sizeOf141
 v51 := Tryz.zeroValue141
 t53 := Tryz.underlying127
 a53 := Tryz.isAgg127
 z53 := Tryz.sizeOf127
 v53 := Tryz.zeroValue127
 t171 := Tryz.underlying126
 a171 := Tryz.isAgg126
 z171 := Tryz.sizeOf126
 v171 := Tryz.zeroValue126
 t173 := Tryz.underlying130
 a173 := Tryz.isAgg130
 z173 := Tryz.sizeOf130
 v173 := Tryz.zeroValue130
 t212 := Tryz.underlying140
 a212 := Tryz.isAgg140
 z212 := Tryz.sizeOf140
 v212 := Tryz.zeroValue140
 t213 := Tryz.underlying142
 a213 := Tryz.isAgg142
 z213 := Tryz.sizeOf142
 t232 := Tryz.underlying155
 a232 := Tryz.isAgg155
 z232 := Tryz.sizeOf155
 v232 := Tryz.zeroValue155
 t233 := Tryz.underlying156
 a233 := Tryz.isAgg156
 z233 := Tryz.sizeOf156
 v233 := Tryz.zeroValue156
 g17 := by kernel_rfl
 g18 := by kernel_rfl
 g19 := by kernel_rfl
 i0 := by kernel_rfl
 i2 := by kernel_rfl
 i3 := by kernel_rfl
 i4 := by kernel_rfl
 i5 := by kernel_rfl
 i9 := by kernel_rfl
 i20 := by kernel_rfl
 i37 := by kernel_rfl
 i46 := by kernel_rfl
 i51 := by kernel_rfl
 i53 := by kernel_rfl
 i171 := by kernel_rfl
 i173 := by kernel_rfl
 i212 := by kernel_rfl
 i232 := by kernel_rfl
 i233 := by kernel_rfl
 m17 := by kernel_rfl
 m18 := by kernel_rfl
 m19 := by kernel_rfl }
open Go.RowKit Go.Sort Go.Lib in
theorem Tryz.strconv_Itoa (n : Int) (h0 : -9223372036854775808 ≤ n) (h1 : n ≤ 9223372036854775807) (w : World) (htab : Lib.TabIs Tryz.prog w "internal/strconv.uint64pow10" .u64 Lib.pow10Tab) :
 Calls Tryz.prog 70 #[.int .i64 n] w fun e w' => e = .returned (.string ⟨(Lib.itoa n).toArray⟩) ∧ ∃ k os, w' = grow (w.drewN k) os := Any.strconv_Itoa Tryz.laysM171 n h0 h1 w htab
end Go.Proofs
namespace Go.Proofs.YtonhcfecfifghaaGreatDoor.PPx
open Go.RowKit Go.Proofs.YtonhcfecfifghaaGreatDoorW.PrintWords Go.Proofs.YtonhcfecfifghaaGreatDoorW.PrintLast Go.Proofs.YtonhcfecfifghaaGreatDoorW.PrintMore
set_option linter.unusedVariables false
set_option linter.unusedSimpArgs false
theorem below_bytes (W : World) (e : TypeId) (t : ByteArray) : Below W.heap.size W (Lib.bytesWorld W e t) := by
 refine ⟨?_, ?_, ?_, ?_, fun k hk => Lib.bytesWorld_at_old W e t k hk⟩
 · unfold Lib.bytesWorld World.freeze; split <;> rfl
 · unfold Lib.bytesWorld World.freeze; split <;> rfl
 · unfold Lib.bytesWorld World.freeze; split <;> rfl
 · rw [Lib.bytesWorld_size]; omega
def numOf (t : S67) : Int := (Lib.atoi t.f1.data.toList).getD 0
def numberS (fin : Int) (s : Rs) : Step Int := (takeS isNumber fin s).map numOf
theorem IsR.nums {w0 W : World} {g : Nat} {fin : Int} {vf : Value} {s : Rs} (h : IsR w0 W g fin vf s) : NumsOK s.toks := by
 obtain ⟨A, c, hh, hg, hl, hC, hR, hB, hN⟩ := h
 exact hN
theorem number_calls (w0 W : World) (g : Nat) (fin : Int) (vf : Value) (s : Rs) (hI : IsR w0 W g fin vf s) :
 Calls Tryz.prog 83 #[.pointer (some ⟨g, 0, none⟩)] W fun e w' => Out1 w0 W g fin vf (Value.int .i64) (numberS fin s) e w' := by
 have hu44 := Tryz.underlying67
 have hf1 := tok_f1
 have HI := Aside0.mk hI
 have hgl := HI.out.lt
 clear hI
 go_enter Tryz.func83, Tryz.ntmps83
 go_wp2_with fail
 refine (take_calls 94 #[] (fun _ _ => by rfl) isNumber w0 W g fin vf s HI.out ⟨fun W1 t _ => number1_calls W1 t⟩).mono ?_
 intro e w1 ho
 rcases ho.cases with ⟨t, hr, rfl, h2, h3⟩ | ⟨f, hr, rfl, h2, h3⟩
 · obtain ⟨hp, hts⟩ := takeS_ok hr
   simp only [isNumber, beq_iff_eq] at hp
   obtain ⟨hsz, n, hn⟩ := HI.out.nums t (by rw [hts]; simp) hp
   have hnum : numOf t = n := by simp [numOf, hn]
   have h2' := Aside0.mk h2
   have h3' := Aside0.mk h3
   have hr' := Aside0.mk hr
   have Hn := Aside0.mk hn
   have Hnum := Aside0.mk hnum
   clear ho h2 h3 hr HI hn hnum hts
   simp only [tokV]
   go_wp2_with fail
   refine (Go.Proofs.Tryz.strconv_Atoi t.f1 n hsz Hn.out w1).mono ?_
   rintro e w2 ⟨rfl, tt, rfl⟩
   have hb := below_bytes w1 5 tt
   have H2 := Aside0.mk (h2'.out.below hb)
   have H3 := Aside0.mk (h3'.out.trans (Go_.of_below hb g vf) hgl)
   generalize Lib.bytesWorld w1 5 tt = w2 at *
   clear hb
   go_wp2_with fail
   go_ret
   exact Out1.ok (Step.map_ok hr'.out) (by rw [Hnum.out]; rfl) H2.out H3.out
 · exact ⟨rfl, Out1.err (Step.map_err hr) rfl h2 h3⟩
def Step.bind {α β : Type} (r : Step α) (f : α → Rs → Step β) : Step β := match r.1 with
 | .ok a => f a r.2
 | .error e => (.error e, r.2)
theorem Step.bind_ok {α β : Type} {r : Step α} {f : α → Rs → Step β} {a : α} (h : r.1 = .ok a) : r.bind f = f a r.2 := by simp [Step.bind, h]
theorem Step.bind_err {α β : Type} {r : Step α} {f : α → Rs → Step β} {e : Int × Int} (h : r.1 = .error e) : r.bind f = (.error e, r.2) := by simp [Step.bind, h]
def tri3 (fin a b c : Int) (s : Rs) : Step S34 := (signS ⟨#[41]⟩ fin s).bind fun _ s => (.ok ⟨a, b, c⟩, s)
def tri2 (fin a b : Int) (s : Rs) : Step S34 := (signS ⟨#[44]⟩ fin s).bind fun _ s => (numberS fin s).bind fun c s => tri3 fin a b c s
def tri1 (fin a : Int) (s : Rs) : Step S34 := (signS ⟨#[44]⟩ fin s).bind fun _ s => (numberS fin s).bind fun b s => tri2 fin a b s
def tripleS (fin : Int) (s : Rs) : Step S34 := (signS ⟨#[40]⟩ fin s).bind fun _ s => (numberS fin s).bind fun a s => tri1 fin a s
def triV (q : S34) : Value := .agg #[.int .i64 q.f0, .int .i64 q.f1, .int .i64 q.f2]
def TriAt (fin : Int) (s sI : Rs) : Nat → Int → Int → Int → Prop
 | 3, a, b, c => (a = 0 ∧ b = 0 ∧ c = 0) ∧ tripleS fin s = tripleS fin sI
 | 2, a, b, c => (b = 0 ∧ c = 0) ∧ tripleS fin s = tri1 fin a sI
 | 1, a, b, c => c = 0 ∧ tripleS fin s = tri2 fin a b sI
 | 0, a, b, c => tripleS fin s = tri3 fin a b c sI
 | _, _, _, _ => False
structure Tri (w0 W wr : World) (g : Nat) (fin : Int) (vf : Value) (sI : Rs) (a b c : Int) : Prop where
 r : IsR w0 wr g fin vf sI
 go : Go_ W wr g vf vf
 b2 : wr.heap[W.heap.size]? = some (.cells #[.int .i64 0, .int .i64 0, .int .i64 0] 34 (0, 0))
 b3 : wr.heap[W.heap.size + 1]? = some (.cells #[.int .i64 a, .int .i64 b, .int .i64 c] 34 (0, 0))
 b6 : wr.heap[W.heap.size + 2]? = some (.cells #[.string ⟨#[40]⟩, .string ⟨#[44]⟩, .string ⟨#[44]⟩] 9 (0, 0))
 lt : g < W.heap.size
theorem Tri.step {w0 W wr w' : World} {g : Nat} {fin : Int} {vf : Value} {sI s' : Rs} {a b c : Int} (h : Tri w0 W wr g fin vf sI a b c) (hv : vf.ownBlock = none ∨ ∃ k, vf.ownBlock = some k ∧ k < W.heap.size) (h2 : IsR w0 w' g fin vf s') (h3 : Go_ wr w' g vf vf) : Tri w0 W w' g fin vf s' a b c := by
 have hg := h.lt
 have hne : ∀ j, some (W.heap.size + j) ≠ vf.ownBlock := fun j e => by
  rcases hv with hv | ⟨k, hv, hk⟩
  · rw [hv] at e; cases e
  · rw [hv] at e; injection e with e; omega
 exact ⟨h2, h.go.trans h3 hg, blk_go h.b2 h3 (by omega) (hne 0), blk_go h.b3 h3 (by omega) (hne 1), blk_go h.b6 h3 (by omega) (hne 2), hg⟩
theorem IsR.row_lt {w0 W : World} {g : Nat} {fin : Int} {vf : Value} {s : Rs} (h : IsR w0 W g fin vf s) : vf.ownBlock = none ∨ ∃ k, vf.ownBlock = some k ∧ k < W.heap.size := by
 obtain ⟨A, c, hh, hg, hl, hC, hR, hB, hN⟩ := h
 rcases hv : vf.ownBlock with _ | k
 · exact .inl rfl
 · exact .inr ⟨k, rfl, Kd.R_lt hR k hv⟩
theorem Out1.err' {α : Type} {w0 W w' : World} {g : Nat} {fin : Int} {vf : Value} {enc : α → Value} {r : Step α} {e : Ending} {f : Int × Int} {s' : Rs} (hr : r = (.error f, s')) (he : e = .panicked (faultV f.1 f.2)) (h2 : IsR w0 w' g fin vf s') (h3 : Go_ W w' g vf vf) : Out1 w0 W g fin vf enc r e w' := by subst hr; exact ⟨he, h2, h3⟩
theorem Out1.ok' {α : Type} {w0 W w' : World} {g : Nat} {fin : Int} {vf : Value} {enc : α → Value} {r : Step α} {e : Ending} {a : α} {s' : Rs} (hr : r = (.ok a, s')) (he : e = .returned (enc a)) (h2 : IsR w0 w' g fin vf s') (h3 : Go_ W w' g vf vf) : Out1 w0 W g fin vf enc r e w' := by subst hr; exact ⟨he, h2, h3⟩
theorem Tri.set {w0 W wr : World} {g : Nat} {fin : Int} {vf : Value} {sI : Rs} {a b c a' b' c' : Int} (h : Tri w0 W wr g fin vf sI a b c) (i : Nat) (x : Value) (he : (#[Value.int .i64 a, .int .i64 b, .int .i64 c]).setIfInBounds i x = #[.int .i64 a', .int .i64 b', .int .i64 c']) : Tri w0 W (wr.setCell ⟨W.heap.size + 1, i, none⟩ x) g fin vf sI a' b' c' := by
 have hg := h.lt
 have hle : w0.heap.size ≤ W.heap.size + 1 := by have := h.r.ge; omega
 exact ⟨h.r.far h.b3 (by decide) (by decide) hle i x, h.go.set (p := ⟨W.heap.size + 1, i, none⟩) (.inr (Nat.le_succ _)) x, blk_far h.b2 (p := ⟨W.heap.size + 1, i, none⟩) (Nat.ne_of_lt (Nat.lt_succ_self _)) x, blk_put h.b3 i x he, blk_far h.b6 (p := ⟨W.heap.size + 1, i, none⟩) (Nat.ne_of_gt (Nat.lt_succ_self _)) x, hg⟩
theorem IsR.far3t {w0 W : World} {g b t : Nat} {fin : Int} {vf : Value} {s : Rs} {x y z x' y' z' : Value} (h : IsR w0 W g fin vf s) (hb : W.heap[b]? = some (.cells #[x, y, z] t (0, 0))) (n1 : t ≠ 47) (n2 : t ≠ 40) (hge : w0.heap.size ≤ b) : IsR w0 (((W.setCell ⟨b, 0, none⟩ x').setCell ⟨b, 1, none⟩ y').setCell ⟨b, 2, none⟩ z') g fin vf s := by
 have h1 : (W.setCell ⟨b, 0, none⟩ x').heap[b]? = some (.cells #[x', y, z] t (0, 0)) := blk_put hb 0 _ rfl
 have h2 : ((W.setCell ⟨b, 0, none⟩ x').setCell ⟨b, 1, none⟩ y').heap[b]? = some (.cells #[x', y', z] t (0, 0)) := blk_put h1 1 _ rfl
 exact ((h.far hb n1 n2 hge 0 x').far h1 n1 n2 hge 1 y').far h2 n1 n2 hge 2 z'
theorem triple_calls (w0 W : World) (g : Nat) (fin : Int) (vf : Value) (s : Rs) (hI : IsR w0 W g fin vf s) :
 Calls Tryz.prog 82 #[.pointer (some ⟨g, 0, none⟩)] W fun e w' => Out1 w0 W g fin vf triV (tripleS fin s) e w' := by
 have hu51 := Tryz.underlying34
 have hv := Aside0.mk hI.row_lt
 have hgl := hI.lt
 have hgw : w0.heap.size ≤ W.heap.size := hI.bel.size
 have hb1 := below_alloc (below_alloc (below_alloc (Below.refl W.heap.size W) (.cells #[.int .i64 0, .int .i64 0, .int .i64 0] 34)) (.cells #[.int .i64 0, .int .i64 0, .int .i64 0] 34)) (.cells #[.string ⟨#[40]⟩, .string ⟨#[44]⟩, .string ⟨#[44]⟩] 9)
 have HT : Aside0 (Tri w0 W (((W.alloc (.cells #[.int .i64 0, .int .i64 0, .int .i64 0] 34)).alloc (.cells #[.int .i64 0, .int .i64 0, .int .i64 0] 34)).alloc (.cells #[.string ⟨#[40]⟩, .string ⟨#[44]⟩, .string ⟨#[44]⟩] 9)) g fin vf s 0 0 0) := by
  have e1 : (W.alloc (.cells #[.int .i64 0, .int .i64 0, .int .i64 0] 34)).heap.size = W.heap.size + 1 := by simp
  have e2 : ((W.alloc (.cells #[.int .i64 0, .int .i64 0, .int .i64 0] 34)).alloc (.cells #[.int .i64 0, .int .i64 0, .int .i64 0] 34)).heap.size = W.heap.size + 2 := by simp
  have h1 := heap_alloc_new W (.cells #[.int .i64 0, .int .i64 0, .int .i64 0] 34)
  have h2 := heap_alloc_new (W.alloc (.cells #[.int .i64 0, .int .i64 0, .int .i64 0] 34)) (.cells #[.int .i64 0, .int .i64 0, .int .i64 0] 34)
  have h3 := heap_alloc_new ((W.alloc (.cells #[.int .i64 0, .int .i64 0, .int .i64 0] 34)).alloc (.cells #[.int .i64 0, .int .i64 0, .int .i64 0] 34)) (.cells #[.string ⟨#[40]⟩, .string ⟨#[44]⟩, .string ⟨#[44]⟩] 9)
  rw [e1] at h2
  rw [e2] at h3
  exact ⟨⟨hI.below hb1, Go_.of_below hb1 g vf, blk_alloc (blk_alloc h1 _) _, blk_alloc h2 _, h3, hgl⟩⟩
 clear hI hb1
 go_enter Tryz.func82, Tryz.ntmps82
 go_wp2_with fail
 go_loopg [8] 3 (fun kq v8 wr => ∃ (sI : Rs) (a b c : Int), v8 = .int .i64 (3 - kq) ∧ Aside0 (TriAt fin s sI kq a b c ∧ Tri w0 W wr g fin vf sI a b c))
 case atStart => exact ⟨s, 0, 0, 0, rfl, ⟨⟨⟨rfl, rfl, rfl⟩, rfl⟩, HT.out⟩⟩
 case round =>
  clear HT
  obtain ⟨sI, a, b, c, hv8, ⟨hA, hT⟩⟩ := hrel
  have HA := Aside0.mk hA
  have HT := Aside0.mk hT
  have hgr := hT.r.lt
  have hlt2 := (Array.getElem?_eq_some_iff.1 hT.b6).1
  clear hA hT
  rcases gk with _ | _ | _ | _ | k
  · -- behind the loop
    have hv9 : _ = Value.int .i64 3 := hv8.trans rfl
    clear hv8
    subst hv9
    go_wp2_with fail
    refine (sign_calls ⟨#[41]⟩ w0 _ g fin vf sI HT.out.r).mono ?_
    intro e w1 ho
    rcases ho.cases with ⟨t, hr, rfl, h2, h3⟩ | ⟨f, hr, rfl, h2, h3⟩
    · have HT1 := Aside0.mk (HT.out.step hv.out h2 h3)
      have HE := Aside0.mk (show tripleS fin s = (.ok ⟨a, b, c⟩, (signS ⟨#[41]⟩ fin sI).2) from by rw [HA.out, tri3, Step.bind_ok hr])
      have q0 := blk_cell HT1.out.b3 0
      have q1 := blk_cell HT1.out.b3 1
      have q2 := blk_cell HT1.out.b3 2
      have r0 := blk_cell HT1.out.b2 0
      have r1 := blk_cell HT1.out.b2 1
      have r2 := blk_cell HT1.out.b2 2
      have z0 := blk_frozen HT1.out.b2 0
      have z1 := blk_frozen HT1.out.b2 1
      have z2 := blk_frozen HT1.out.b2 2
      simp only [List.getElem?_toArray, List.getElem?_cons_zero, List.getElem?_cons_succ] at q0 q1 q2 r0 r1 r2
      clear ho h2 h3 hr HT
      simp only [voidV]
      go_wp2_with fail
      refine bodyPost_ret (results_cell_row rfl _ _ W.heap.size 34 #[.int .i64 a, .int .i64 b, .int .i64 c] (0, 0) _ rfl (blk3 HT1.out.b2) Tryz.underlying34 rfl (by kernel_rfl)) rfl ?_
      exact Out1.ok' HE.out rfl (IsR.far3t HT1.out.r HT1.out.b2 (by decide) (by decide) hgw) (Go_.set3 HT1.out.go (Nat.le_refl _))
    · exact ⟨rfl, Out1.err' (by rw [HA.out, tri3, Step.bind_err hr]) rfl h2 (HT.out.go.trans h3 hgl)⟩
  · -- 1 rounds to go
    have hv9 : _ = Value.int .i64 2 := hv8.trans rfl
    clear hv8
    subst hv9
    have q6 := blk_cell HT.out.b6 2
    simp only [List.getElem?_toArray, List.getElem?_cons_zero, List.getElem?_cons_succ] at q6
    go_wp2_with fail
    refine (sign_calls ⟨#[44]⟩ w0 _ g fin vf sI HT.out.r).mono ?_
    intro e w1 ho
    rcases ho.cases with ⟨t, hr, rfl, h2, h3⟩ | ⟨f, hr, rfl, h2, h3⟩
    · have HT1 := Aside0.mk (HT.out.step hv.out h2 h3)
      have hr' := Aside0.mk hr
      clear ho h2 h3 hr q6
      simp only [voidV]
      go_wp2_with fail
      refine (number_calls w0 _ g fin vf _ HT1.out.r).mono ?_
      intro e w2 ho
      rcases ho.cases with ⟨m, hm, rfl, h2, h3⟩ | ⟨f, hm, rfl, h2, h3⟩
      · have HT2 := Aside0.mk (HT1.out.step (by have := HT1.out.go.size; rcases hv.out with h | ⟨k, h, hk⟩; exact .inl h; exact .inr ⟨k, h, hk⟩) h2 h3)
        have hm' := Aside0.mk hm
        have q3 := blk_cell HT2.out.b3 2
        have z3 := blk_frozen HT2.out.b3 2
        simp only [List.getElem?_toArray, List.getElem?_cons_zero, List.getElem?_cons_succ] at q3
        have HE := Aside0.mk (show tripleS fin s = tri3 fin a b m _ from by rw [HA.out.2, tri2, Step.bind_ok hr'.out, Step.bind_ok hm])
        have HT3 := Aside0.mk (HT2.out.set 2 (.int .i64 m) rfl)
        clear ho h2 h3 hm HT HT1 HT2
        go_wp2_with fail
        go_roundg 0
        case measure => omega
        case rel => exact ⟨_, a, b, m, rfl, ⟨HE.out, HT3.out⟩⟩
      · exact ⟨rfl, Out1.err' (by rw [HA.out.2, tri2, Step.bind_ok hr'.out, Step.bind_err hm]) rfl h2 (HT1.out.go.trans h3 hgl)⟩
    · exact ⟨rfl, Out1.err' (by rw [HA.out.2, tri2, Step.bind_err hr]) rfl h2 (HT.out.go.trans h3 hgl)⟩
  · -- 2 rounds to go
    have hv9 : _ = Value.int .i64 1 := hv8.trans rfl
    clear hv8
    subst hv9
    have q6 := blk_cell HT.out.b6 1
    simp only [List.getElem?_toArray, List.getElem?_cons_zero, List.getElem?_cons_succ] at q6
    go_wp2_with fail
    refine (sign_calls ⟨#[44]⟩ w0 _ g fin vf sI HT.out.r).mono ?_
    intro e w1 ho
    rcases ho.cases with ⟨t, hr, rfl, h2, h3⟩ | ⟨f, hr, rfl, h2, h3⟩
    · have HT1 := Aside0.mk (HT.out.step hv.out h2 h3)
      have hr' := Aside0.mk hr
      clear ho h2 h3 hr q6
      simp only [voidV]
      go_wp2_with fail
      refine (number_calls w0 _ g fin vf _ HT1.out.r).mono ?_
      intro e w2 ho
      rcases ho.cases with ⟨m, hm, rfl, h2, h3⟩ | ⟨f, hm, rfl, h2, h3⟩
      · have HT2 := Aside0.mk (HT1.out.step (by have := HT1.out.go.size; rcases hv.out with h | ⟨k, h, hk⟩; exact .inl h; exact .inr ⟨k, h, hk⟩) h2 h3)
        have hm' := Aside0.mk hm
        have q3 := blk_cell HT2.out.b3 1
        have z3 := blk_frozen HT2.out.b3 1
        simp only [List.getElem?_toArray, List.getElem?_cons_zero, List.getElem?_cons_succ] at q3
        have HE := Aside0.mk (show tripleS fin s = tri2 fin a m _ from by rw [HA.out.2, tri1, Step.bind_ok hr'.out, Step.bind_ok hm])
        have HT3 := Aside0.mk (HT2.out.set 1 (.int .i64 m) rfl)
        clear ho h2 h3 hm HT HT1 HT2
        go_wp2_with fail
        go_roundg 1
        case measure => omega
        case rel => exact ⟨_, a, m, c, rfl, ⟨⟨HA.out.1.2, HE.out⟩, HT3.out⟩⟩
      · exact ⟨rfl, Out1.err' (by rw [HA.out.2, tri1, Step.bind_ok hr'.out, Step.bind_err hm]) rfl h2 (HT1.out.go.trans h3 hgl)⟩
    · exact ⟨rfl, Out1.err' (by rw [HA.out.2, tri1, Step.bind_err hr]) rfl h2 (HT.out.go.trans h3 hgl)⟩
  · -- 3 rounds to go
    have hv9 : _ = Value.int .i64 0 := hv8.trans rfl
    clear hv8
    subst hv9
    have q6 := blk_cell HT.out.b6 0
    simp only [List.getElem?_toArray, List.getElem?_cons_zero, List.getElem?_cons_succ] at q6
    go_wp2_with fail
    refine (sign_calls ⟨#[40]⟩ w0 _ g fin vf sI HT.out.r).mono ?_
    intro e w1 ho
    rcases ho.cases with ⟨t, hr, rfl, h2, h3⟩ | ⟨f, hr, rfl, h2, h3⟩
    · have HT1 := Aside0.mk (HT.out.step hv.out h2 h3)
      have hr' := Aside0.mk hr
      clear ho h2 h3 hr q6
      simp only [voidV]
      go_wp2_with fail
      refine (number_calls w0 _ g fin vf _ HT1.out.r).mono ?_
      intro e w2 ho
      rcases ho.cases with ⟨m, hm, rfl, h2, h3⟩ | ⟨f, hm, rfl, h2, h3⟩
      · have HT2 := Aside0.mk (HT1.out.step (by have := HT1.out.go.size; rcases hv.out with h | ⟨k, h, hk⟩; exact .inl h; exact .inr ⟨k, h, hk⟩) h2 h3)
        have hm' := Aside0.mk hm
        have q3 := blk_cell HT2.out.b3 0
        have z3 := blk_frozen HT2.out.b3 0
        simp only [List.getElem?_toArray, List.getElem?_cons_zero, List.getElem?_cons_succ] at q3
        have HE := Aside0.mk (show tripleS fin s = tri1 fin m _ from by rw [HA.out.2, tripleS, Step.bind_ok hr'.out, Step.bind_ok hm])
        have HT3 := Aside0.mk (HT2.out.set 0 (.int .i64 m) rfl)
        clear ho h2 h3 hm HT HT1 HT2
        go_wp2_with fail
        go_roundg 2
        case measure => omega
        case rel => exact ⟨_, m, b, c, rfl, ⟨⟨⟨HA.out.1.2.1, HA.out.1.2.2⟩, HE.out⟩, HT3.out⟩⟩
      · exact ⟨rfl, Out1.err' (by rw [HA.out.2, tripleS, Step.bind_ok hr'.out, Step.bind_err hm]) rfl h2 (HT1.out.go.trans h3 hgl)⟩
    · exact ⟨rfl, Out1.err' (by rw [HA.out.2, tripleS, Step.bind_err hr]) rfl h2 (HT.out.go.trans h3 hgl)⟩
  · exact absurd HA.out (by simp [TriAt])
theorem infoDia : (Tryz.prog.info? 40).map (fun i => (i.zero, i.size, i.bytes)) = some (some (.agg #[(.int .i64 0), (.int .i64 0)]), 2, 16) := by kernel_rfl
theorem drew_alloc' (x : World) (o : Obj) : (x.alloc o).drew = x.drew.alloc o := rfl
def tellS (f : S40) (s : Rs) : Rs := { s with fl := s.fl ++ [f], over := s.over || (f.f0 == 3 || ((s.fl ++ [f]).length : Int) == 20) }
theorem IsR.set_fl {w0 W w1 : World} {g : Nat} {fin : Int} {vf v1 : Value} {s : Rs} {fl1 : List S40} (h : IsR w0 W g fin vf s) (hh : w1.heap[g]? = W.heap[g]?) (hR : Kd.R k40 40 w1 w0.heap.size (fun k => k ≠ g) v1 fl1) (hB : Below w0.heap.size w0 w1) : IsR w0 (w1.setCell ⟨g, 3, none⟩ v1) g fin v1 { s with fl := fl1 } := by
 obtain ⟨A, c, h1, hg, hl, hC, _, _, hN⟩ := h
 rw [h1] at hh
 exact ⟨A, c, blk_put hh 3 _ rfl, hg, hl, hC, Kd.R_far hR (p := ⟨g, 3, none⟩) (fun k hk => hk) _, hB.setCell hg _, hN⟩
theorem tell_calls (w0 W : World) (g : Nat) (fin : Int) (vf : Value) (s : Rs) (f : S40) (hI : IsR w0 W g fin vf s) (hl : s.fl.length ≤ 100) :
 Calls Tryz.prog 31 #[.pointer (some ⟨g, 0, none⟩), .agg #[.int .i64 f.f0, .int .i64 f.f1]] W fun e w' => e = .returned (.tuple #[]) ∧ ∃ vf', IsR w0 w' g fin vf' (tellS f s) ∧ Go_ W w' g vf vf' := by
 have hu35 := Tryz.underlying40
 have HI := Aside0.mk hI
 obtain ⟨A, c, hh, hg, hln, hC, hR, hB, hN⟩ := hI
 obtain ⟨Af, cf, rfl⟩ := Kd.R_slice hR
 have c3 := blk_cell hh 3
 have z3 := blk_frozen hh 3
 simp only [List.getElem?_toArray, List.getElem?_cons_zero, List.getElem?_cons_succ] at c3
 have hgl := (Array.getElem?_eq_some_iff.1 hh).1
 have HR := Aside0.mk hR
 have G3 := Aside0.mk (show (W.alloc (.cells #[.int .i64 f.f0, .int .i64 f.f1] 40)).cell? ⟨g, 3, none⟩ = some (.slice Af s.fl.length cf) from (blk_cell (blk_alloc hh _) 3).trans rfl)
 have Hh := Aside0.mk (show (W.alloc (.cells #[.int .i64 f.f0, .int .i64 f.f1] 40)).heap[g]? = _ from blk_alloc hh _)
 have hgl3 : g < (W.alloc (.cells #[.int .i64 f.f0, .int .i64 f.f1] 40)).drew.heap.size := by have := (Array.getElem?_eq_some_iff.1 hh).1; simp; omega
 have HG3 := Aside0.mk hgl3
 clear hgl3
 have N3 := Aside0.mk (Kd.R_away hR (fun k h => h))
 have NX := Aside0.mk (Kd.R_ne_new hR 0)
 clear hh hB hR hC hN
 go_enter Tryz.func31, Tryz.ntmps31
 go_wp2_with fail
 have b0 := heap_alloc_new W (.cells #[.int .i64 f.f0, .int .i64 f.f1] 40)
 have hgx : g ≠ W.heap.size := Nat.ne_of_lt hgl
 have x0 := blk_cell b0 0
 have x1 := blk_cell b0 1
 simp only [List.getElem?_toArray, List.getElem?_cons_zero, List.getElem?_cons_succ] at x0 x1
 have HB1 := Aside0.mk (HI.out.bel.alloc (by exact HI.out.bel.size) (.cells #[.int .i64 f.f0, .int .i64 f.f1] 40))
 have HR1 := Aside0.mk (Kd.R_alloc HR.out (.cells #[.int .i64 f.f0, .int .i64 f.f1] 40))
 have X0 := Aside0.mk x0
 have X1 := Aside0.mk x1
 have HB1' := Aside0.mk HB1.out.size
 go_region_law (first | (rw [drew_alloc', drew_alloc']; refine Kd.R_append_step k40 (w0 := w0) w0.heap.size (by rfl) (.tmp 8) (.tmp 10) 25 40 (.agg #[.int .i64 0, .int .i64 0]) 16 (by rfl) Tryz.underlying25 infoDia rfl (by decide) (by omega) (.slice Af s.fl.length cf) s.fl f [.int .i64 f.f0, .int .i64 f.f1] (fun k => k ≠ g) (fun _ => False) (by first | rfl | (go_simp; done) | (go_simp; rfl)) (by first | rfl | (go_simp; done) | (go_simp; rfl)) (k40_mkM _ _ _ f) (fun _ h => h.elim) (fun k hk => by simp at hk; omega) (Kd.R_drew HR1.out) (below_drew HB1.out) HB1'.out (by omega) ?_; intro v1 w1 hR2 hB2 hg2 hat2; obtain ⟨Af1, cf1, ev1⟩ := Kd.R_slice hR2; subst ev1; have s3 := hg2.cell (a := ⟨g, 3, none⟩) G3.out N3.out; have s0 := hg2.cell (a := ⟨W.heap.size, 0, none⟩) X0.out NX.out; have s1 := hg2.cell (a := ⟨W.heap.size, 1, none⟩) X1.out NX.out; have s4 := blk_frozen ((hg2.block g HG3.out N3.out).trans Hh.out) 3; have s5 := (blk_cell ((hg2.block g HG3.out N3.out).trans Hh.out) 4).trans (show _ = some (Value.bool s.over) from rfl); have s6 := blk_frozen ((hg2.block g HG3.out N3.out).trans Hh.out) 4; have HR2 := Aside0.mk hR2; have HB2 := Aside0.mk hB2; have HG2 := Aside0.mk hg2; have HT2 := Aside0.mk hat2; have hsz2 := hg2.size; clear hR2 hB2 hg2 hat2))
 all_goals
  have hlen : (s.fl ++ [f]).length = s.fl.length + 1 := by simp
  have hxlt : W.heap.size < w1.heap.size := by simp at hsz2; omega
  have hI2 := Aside0.mk (IsR.set_fl (W := (W.alloc (.cells #[.int .i64 f.f0, .int .i64 f.f1] 40))) (HI.out.below (below_alloc (Below.refl _ _) _)) (HG2.out.block g HG3.out N3.out) HR2.out HB2.out)
  have hG2 : Aside0 (Go_ W (w1.setCell ⟨g, 3, none⟩ (.slice Af1 (s.fl ++ [f]).length cf1)) g (.slice Af s.fl.length cf) (.slice Af1 (s.fl ++ [f]).length cf1)) := by
   refine ⟨⟨by simp [World.setCell]; omega, fun k hk hkg hkv => ?_, ?_⟩⟩
   · rw [Below.heap_setCell w1 ⟨g, 3, none⟩ _ k hkg, HG2.out.block k (by simp; omega) hkv]
     exact heap_alloc_old W _ hk
   · rcases HT2.out with h | ⟨b, h, hb⟩
     · exact .inl h
     · exact .inr ⟨b, h, by simp at hb; omega⟩
  rw [hlen] at hI2 hG2
  clear HR2 HB2 HG2 HT2 HI HR G3 Hh HG3 N3 NX X0 X1 HB1 HR1 hlen
  clear b0 x0 x1 HB1' hsz2 z3 c3
  have HS1 : Aside0 (∀ b : Bool, (f.f0 == 3 || ((s.fl ++ [f]).length : Int) == 20) = b → tellS f s = { s with fl := s.fl ++ [f], over := s.over || b }) := ⟨fun b hb => by simp only [tellS, hb]⟩
  go_wp2
  all_goals
   go_end0
   first
   | exact ⟨rfl, _, by rw [HS1.out true (by have h := ‹f.f0 = 3›; simp [h])]; simpa using hI2.out.set_over true, hG2.out.set (.inl rfl) _⟩
   | exact ⟨rfl, _, by rw [HS1.out true (by have h := ‹(f.f0 == 3) = true ∨ ((s.fl.length : Int) + 1 == 20) = true›; simpa using h)]; simpa using hI2.out.set_over true, hG2.out.set (.inl rfl) _⟩
   | exact ⟨rfl, _, by rw [HS1.out false (by have h := ‹(f.f0 == 3) = false ∧ ((s.fl.length : Int) + 1 == 20) = false›; simpa using h)]; simpa using hI2.out, hG2.out⟩
def skipS : List S67 → List S67
 | [] => []
 | t :: ts => if isSign ⟨#[59]⟩ t = true then ts else if isSign ⟨#[125]⟩ t = true then t :: ts else skipS ts
theorem drop_cons (l : List S67) (i : Nat) (h : i < l.length) : l.drop i = rd_T67 l i :: l.drop (i + 1) := by
 have e : rd_T67 l (i : Int) = l[i] := by simp [rd_T67, h]
 rw [e, List.getElem_cons_drop]
theorem rskip_calls (w0 W : World) (g : Nat) (fin : Int) (vf : Value) (s : Rs) (hI : IsR w0 W g fin vf s) (hn : s.toks.length ≤ 1000000) :
 Calls Tryz.prog 50 #[.pointer (some ⟨g, 0, none⟩)] W fun e w' => e = .returned (.tuple #[]) ∧ IsR w0 w' g fin vf { s with toks := skipS s.toks } ∧ Go_ W w' g vf vf := by
 have hu44 := Tryz.underlying67
 have HI := Aside0.mk hI
 obtain ⟨A, c, hh, hg, hl, hC, hR, hB, hN⟩ := hI
 have c0 := blk_cell hh 0
 simp only [List.getElem?_toArray, List.getElem?_cons_zero, List.getElem?_cons_succ] at c0
 have hgl := (Array.getElem?_eq_some_iff.1 hh).1
 have Hh := Aside0.mk hh
 have HC := Aside0.mk hC
 have HB := Aside0.mk hB
 clear hh hB hR hC hN
 go_enter Tryz.func50, Tryz.ntmps50
 go_wp2_with fail
 go_loopg [9] s.toks.length (fun kq v9 wr => ∃ i : Nat, v9 = .int .i64 (i : Int) ∧ Aside0 (i + kq = s.toks.length ∧ Below W.heap.size W wr ∧ skipS s.toks = skipS (s.toks.drop i)))
 case atStart => exact ⟨0, rfl, ⟨by omega, Below.refl _ _, rfl⟩⟩
 case round =>
  obtain ⟨i, rfl, ⟨hk, hb, hs⟩⟩ := hrel
  have Hb := Aside0.mk hb
  have Hs := Aside0.mk hs
  have hgr : g < wr.heap.size := by have := hb.size; omega
  have q0 := blk_cell ((hb.block g hgl).trans Hh.out) 0
  have z0 := blk_frozen ((hb.block g hgl).trans Hh.out) 0
  simp only [List.getElem?_toArray, List.getElem?_cons_zero, List.getElem?_cons_succ] at q0
  have HBr := Aside0.mk (below_step HB.out hb)
  clear hb hs c0
  cases gk with
  | zero =>
   have cb : decide ((i : Int) < (s.toks.length : Int)) = false := decide_eq_false (by omega)
   have he : skipS s.toks = [] := by rw [Hs.out, List.drop_eq_nil_of_le (by omega)]; rfl
   have hI2 := Aside0.mk (IsR.set_toks (A' := none) (c' := 0) (ts := []) (HI.out.below Hb.out) (Kd.C_nil _ _) (Nat.le_refl _) (fun x hx => by simp at hx))
   go_wp2_with fail
   go_end0
   exact ⟨rfl, by rw [he]; exact hI2.out, (Go_.of_below Hb.out g vf).set (.inl rfl) _⟩
  | succ k =>
   have cb : decide ((i : Int) < (s.toks.length : Int)) = true := decide_eq_true (by omega)
   have hi0 : (0 : Int) ≤ (i : Int) := by omega
   have hi1 : (i : Int) < (s.toks.length : Int) := by omega
   obtain ⟨ad, ea, x0, x1, x2⟩ := at_T67 (Kd.C_below HC.out HBr.out) (i : Int) hi0 hi1
   subst ea
   simp only [Int.toNat_natCast] at x0 x1 x2
   have hal := cell_lt x0
   have hd := drop_cons s.toks i (by omega)
   generalize rd_T67 s.toks (i : Int) = t at *
   have HD := Aside0.mk hd
   have Hk := Aside0.mk hk
   clear hd hk
   replace hi0 := eq_true hi0
   replace hi1 := eq_true hi1
   cases h59 : isSign ⟨#[59]⟩ t with
   | true =>
    have e59 : (⟨#[59]⟩ : ByteArray).toList = [59] := by simp [ByteArray.toList_eq]
    have H59 := Aside0.mk h59
    simp only [isSign, e59, Bool.and_eq_true] at h59
    obtain ⟨h3, h59⟩ := h59
    clear e59
    have he : skipS s.toks = s.toks.drop (i + 1) := by rw [Hs.out, HD.out, skipS, if_pos H59.out]
    have hlt := Hk.out
    obtain ⟨z, hz⟩ : ∃ z : Int, (i : Int) = z := ⟨_, rfl⟩
    obtain ⟨j, hj⟩ : ∃ j : Int, wrap64 (z + 1) = j := ⟨_, rfl⟩
    have hji : j = (i : Int) + 1 := by rw [← hj, ← hz]; unfold wrap64; omega
    have hjn : j.toNat = i + 1 := by omega
    have Hjn := Aside0.mk hjn
    have He := Aside0.mk he
    have hj0 : (0 ≤ j) = True := eq_true (by omega)
    have hjl : (j ≤ (s.toks.length : Int)) = True := eq_true (by omega)
    have hjc : (j ≤ (c : Int)) = True := eq_true (by omega)
    have hnc : ((s.toks.length : Int) ≤ (c : Int)) = True := eq_true (by omega)
    have hc := Kd.C_drop (m := i + 1) HC.out (by omega) hl
    have Hc := Aside0.mk hc
    have Hlt := Aside0.mk hlt
    have hzi : i * 3 = z.toNat * 3 := by omega
    rw [hzi] at x0 x1 x2 hal
    rw [hz] at cb hi0 hi1
    clear hzi
    clear hji hjn he hlt hc
    simp only [hz]
    have hnm : NumsOK (s.toks.drop (i + 1)) := fun x hx => HI.out.nums x (List.mem_of_mem_drop hx)
    have Hnm := Aside0.mk hnm
    clear hnm
    by_cases hcj : c = j.toNat
    · subst hcj
      have hc2 := Hc.out
      rw [if_pos Hjn.out] at hc2
      have hI2 := IsR.set_toks (ts := s.toks.drop (i + 1)) (c' := 0) (HI.out.below Hb.out) hc2 (by have := Hjn.out; rw [List.length_drop]; omega) Hnm.out
      rw [List.length_drop, ← Hjn.out] at hI2
      rw [show s.toks.length - j.toNat = 0 from by omega] at hI2
      have HI2 := Aside0.mk hI2
      clear hc2 hI2
      go_wp2_with fail
      first | go_end0 | refine bodyPost_ret (results_none rfl _ _ _) rfl ?_
      exact ⟨rfl, by rw [He.out, ← Hjn.out]; exact HI2.out.below (below_alloc (Below.refl _ _) _), ((Go_.of_below Hb.out g vf).set (p := ⟨g, 0, none⟩) (.inl rfl) _).trans (Go_.of_below (below_alloc (Below.refl _ _) _) g vf) hgl⟩
    · have hc2 := Hc.out
      rw [if_neg (by have := Hjn.out; omega), show k67.sz = 3 from rfl, Option.map_some] at hc2
      have hI2 := IsR.set_toks (ts := s.toks.drop (i + 1)) (c' := c - j.toNat) (HI.out.below Hb.out) hc2 (by have := Hjn.out; rw [List.length_drop]; omega) Hnm.out
      rw [List.length_drop, ← Hjn.out] at hI2
      have HI2 := Aside0.mk hI2
      clear hc2 hI2
      go_wp2_with fail
      first | go_end0 | refine bodyPost_ret (results_none rfl _ _ _) rfl ?_
      exact ⟨rfl, by rw [He.out, ← Hjn.out]; exact HI2.out.below (below_alloc (Below.refl _ _) _), ((Go_.of_below Hb.out g vf).set (p := ⟨g, 0, none⟩) (.inl rfl) _).trans (Go_.of_below (below_alloc (Below.refl _ _) _) g vf) hgl⟩
   | false =>
    cases h125 : isSign ⟨#[125]⟩ t with
    | true =>
     have e59 : (⟨#[59]⟩ : ByteArray).toList = [59] := by simp [ByteArray.toList_eq]
     have e125 : (⟨#[125]⟩ : ByteArray).toList = [125] := by simp [ByteArray.toList_eq]
     have H59 := Aside0.mk h59
     have H125 := Aside0.mk h125
     simp only [isSign, e59, e125, Bool.and_eq_true] at h59 h125
     obtain ⟨h3, h125⟩ := h125
     rw [h3, Bool.true_and] at h59
     clear e59 e125
     have hci : (c = i) = False := eq_false (by have := Hk.out; omega)
     have hin : ((i : Int) ≤ (s.toks.length : Int)) = True := eq_true (by have := Hk.out; omega)
     have hic : ((i : Int) ≤ (c : Int)) = True := eq_true (by have := Hk.out; omega)
     have hnc : ((s.toks.length : Int) ≤ (c : Int)) = True := eq_true (by omega)
     have hc := Kd.C_drop (m := i) HC.out (by have := Hk.out; omega) hl
     rw [if_neg (by have := Hk.out; omega)] at hc
     have hI2 := IsR.set_toks (ts := s.toks.drop i) (c' := c - i) (HI.out.below Hb.out) hc (by rw [List.length_drop]; omega) (fun x hx => HI.out.nums x (List.mem_of_mem_drop hx))
     rw [List.length_drop] at hI2
     have HI2 := Aside0.mk hI2
     have he : skipS s.toks = s.toks.drop i := by rw [Hs.out, HD.out, skipS, if_neg (by rw [H59.out]; decide), if_pos H125.out]
     clear hc hI2
     go_wp2_with fail
     first | go_end0 | refine bodyPost_ret (results_none rfl _ _ _) rfl ?_
     exact ⟨rfl, by rw [he]; exact HI2.out.below (below_alloc (Below.refl _ _) _), ((Go_.of_below Hb.out g vf).set (p := ⟨g, 0, none⟩) (.inl rfl) _).trans (Go_.of_below (below_alloc (Below.refl _ _) _) g vf) hgl⟩
    | false =>
     have e59 : (⟨#[59]⟩ : ByteArray).toList = [59] := by simp [ByteArray.toList_eq]
     have e125 : (⟨#[125]⟩ : ByteArray).toList = [125] := by simp [ByteArray.toList_eq]
     have H59 := Aside0.mk h59
     have H125 := Aside0.mk h125
     simp only [isSign, e59, e125] at h59 h125
     clear e59 e125
     cases h3 : (t.f0 == 3) with
     | false =>
      go_wp2_with fail
      go_roundg k
      case measure => have := Hk.out; omega
      case rel => exact ⟨i + 1, by rw [show wrap64 ((i : Int) + 1) = ((i + 1 : Nat) : Int) from by unfold wrap64; have := Hk.out; omega], ⟨by have := Hk.out; omega, below_alloc Hb.out _, by rw [Hs.out, HD.out, skipS, if_neg (by rw [H59.out]; decide), if_neg (by rw [H125.out]; decide)]⟩⟩
     | true =>
      rw [h3, Bool.true_and] at h59 h125
      go_wp2_with fail
      go_roundg k
      case measure => have := Hk.out; omega
      case rel => exact ⟨i + 1, by rw [show wrap64 ((i : Int) + 1) = ((i + 1 : Nat) : Int) from by unfold wrap64; have := Hk.out; omega], ⟨by have := Hk.out; omega, below_alloc Hb.out _, by rw [Hs.out, HD.out, skipS, if_neg (by rw [H59.out]; decide), if_neg (by rw [H125.out]; decide)]⟩⟩
theorem eqA40 (d : Nat) (w : World) (x0 y0 : Int) (x1 y1 : Int) :
 (Op.equalIn (d + 2) 40 (.agg #[.int .i64 x0, .int .i64 x1]) (.agg #[.int .i64 y0, .int .i64 y1])).run Tryz.prog w = .ok (x0 == y0 && (x1 == y1)) w := by
 refine eqA_of Tryz.underlying40 (by kernel_rfl) ?_
 refine eqf_cons (by rfl) (by go_simp; rfl) (by go_simp; rfl) (by go_simp) ?_
 exact eqf_last (by rfl) (by go_simp; rfl) (by go_simp; rfl) (by go_simp)
section
attribute [local go_sem high] eqA40
def ambidexterref11_Faults.l0 : Nat → List (S40) → List (S40) → Int → Option (Bool)
 | 0, _, _, _ => none
 | k + 1, x0, x1, x5 => if x5 < (x0.length : Int) then (if 0 ≤ x5 then (if x5 < (x1.length : Int) then (if (!(((rd_T40 x0 x5).f0) == ((rd_T40 x1 x5).f0)) || (!(((rd_T40 x0 x5).f1) == ((rd_T40 x1 x5).f1)))) = true then (some false) else (ambidexterref11_Faults.l0 k x0 x1 (wrap64 (x5 + 1)))) else (none)) else (none)) else (some true)
def ambidexterref11_Faults.f (k : Nat) (l0 : List (S40)) (l1 : List (S40)) : Option (Bool) := if (l0.length : Int) = (l1.length : Int) then (ambidexterref11_Faults.l0 k l0 l1 0) else (some false)
theorem ambidexterref11_Faults.mono_l : ∀ k, (∀ y0 y1 y2, LeO (ambidexterref11_Faults.l0 k y0 y1 y2) (ambidexterref11_Faults.l0 (k + 1) y0 y1 y2))
 | 0 => fun _ _ _ r h => by simp [ambidexterref11_Faults.l0] at h
 | k + 1 => by
  have ih0 := ambidexterref11_Faults.mono_l k
  · intro y0 y1 y2
    unfold ambidexterref11_Faults.l0
    repeat' first
    | (with_reducible exact ih0 _ _ _)
    | (with_reducible exact LeO.refl _)
    | (with_reducible exact LeO.none _)
    | (with_reducible refine LeO.ite ?_ ?_)
    | (with_reducible refine LeO.bind ?_ (fun _ => ?_))
    | exact ih0 _ _ _
    | exact LeO.none _
    | refine LeO.ite ?_ ?_
    | refine LeO.bind ?_ (fun _ => ?_)
theorem ambidexterref11_Faults.calls (k : Nat) (A0 : Option Addr) (c0 : Nat) (l0 : List (S40)) (A1 : Option Addr) (c1 : Nat) (l1 : List (S40)) (r : Bool) (w : World) (hr0 : Kd.C k40 w A0 l0.length l0) (hc0 : l0.length ≤ c0) (hr1 : Kd.C k40 w A1 l1.length l1) (hc1 : l1.length ≤ c1) (h : ambidexterref11_Faults.f k l0 l1 = some r) :
 Calls Tryz.prog 9 #[.slice A0 l0.length c0, .slice A1 l1.length c1] w fun e w' => e = .returned (.bool r) ∧ Drawn0 w w' := by
 have hu40 := Tryz.underlying40
 have HR0 := Aside0.mk hr0
 have HC0 := Aside0.mk hc0
 clear hr0 hc0
 have HR1 := Aside0.mk hr1
 have HC1 := Aside0.mk hc1
 clear hr1 hc1
 have H : (if (l0.length : Int) = (l1.length : Int) then (ambidexterref11_Faults.l0 k l0 l1 0) else (some false)) = some r := h
 clear h
 by_cases c3 : (l0.length : Int) = (l1.length : Int)
 · rw [if_pos c3] at H
   have c3b0 : ((l0.length : Int) == (l1.length : Int)) = true := beq_iff_eq.mpr c3
   have c3b1 : ((l0.length : Int) != (l1.length : Int)) = false := bne_eq_false_iff_eq.mpr c3
   have c3b2 : (l0.length == l1.length) = true := by first | simpa using c3 | (simp at c3 ⊢; omega)
   clear c3
   have H' := Aside0.mk H
   clear H
   go_enter Tryz.func9, Tryz.ntmps9
   go_wp2
   repeat (go_quiet (fail); try go_wp2)
   go_loopg [5] k (fun kq v5 w' => ∃ (x5_1 : Int), v5 = .int .i64 x5_1 ∧ Aside0 (ambidexterref11_Faults.l0 kq l0 l1 x5_1 = some r) ∧ Aside0 (kq ≤ k) ∧ Drawn0 w w')
   case atStart => exact ⟨(0), (by first | rfl | (simp; done) | (simp [*]; done)), H', ⟨Nat.le_refl _⟩, by repeat (first | exact Drawn0.refl _ | apply Drawn0.step)⟩
   case round =>
    clear H'
    try clear c1
    try clear p2
    try clear c3
    try clear c3b0
    try clear c3b1
    try clear c3b2
    obtain ⟨x5_1, rfl, HA, HK1, ⟨m1, rfl⟩⟩ := hrel
    cases gk with
    | zero => exact absurd HA.out (by simp [ambidexterref11_Faults.l0])
    | succ k1 =>
     have H := HA.out
     clear HA
     simp only [ambidexterref11_Faults.l0] at H
     by_cases c4 : x5_1 < (l0.length : Int)
     · rw [if_pos c4] at H
       have c4b0 : decide (x5_1 < (l0.length : Int)) = true := decide_eq_true c4
       clear c4
       by_cases c5 : 0 ≤ x5_1
       · rw [if_pos c5] at H
         have c5b0 : decide (0 ≤ x5_1) = true := decide_eq_true c5
         clear c5
         by_cases c6 : x5_1 < (l1.length : Int)
         · rw [if_pos c6] at H
           have c6b0 : decide (x5_1 < (l1.length : Int)) = true := decide_eq_true c6
           clear c6
           by_cases c7 : (!(((rd_T40 l0 x5_1).f0) == ((rd_T40 l1 x5_1).f0)) || (!(((rd_T40 l0 x5_1).f1) == ((rd_T40 l1 x5_1).f1)))) = true
           · rw [if_pos c7] at H
             have c7b0 : (!(((rd_T40 l0 x5_1).f0) == ((rd_T40 l1 x5_1).f0)) || (!(((rd_T40 l0 x5_1).f1) == ((rd_T40 l1 x5_1).f1)))) = true := c7
             clear c7
             obtain rfl := Option.some.inj H
             have p139 : 0 ≤ (x5_1 : Int) := of_decide_eq_true (by first | (with_reducible assumption) | assumption)
             have q139 : x5_1 < (l0.length : Int) := of_decide_eq_true (by first | (with_reducible assumption) | assumption)
             obtain ⟨ad139, e139, hx139_0, hx139_1⟩ := at_T40 HR0.out x5_1 p139 q139
             cases e139
             replace p139 := eq_true p139
             replace q139 := eq_true q139
             have p140 : 0 ≤ (x5_1 : Int) := of_decide_eq_true (by first | (with_reducible assumption) | assumption)
             have q140 : x5_1 < (l1.length : Int) := of_decide_eq_true (by first | (with_reducible assumption) | assumption)
             obtain ⟨ad140, e140, hx140_0, hx140_1⟩ := at_T40 HR1.out x5_1 p140 q140
             cases e140
             replace p140 := eq_true p140
             replace q140 := eq_true q140
             go_wp2
             repeat (go_quiet (fail); try go_wp2)
             go_ret
             exact ⟨by first | rfl | (simp; done) | (simp [*]; done), by repeat (first | exact Drawn0.refl _ | apply Drawn0.step)⟩
           · rw [if_neg c7] at H
             have c7b0 : (!(((rd_T40 l0 x5_1).f0) == ((rd_T40 l1 x5_1).f0)) || (!(((rd_T40 l0 x5_1).f1) == ((rd_T40 l1 x5_1).f1)))) = false := by simpa using c7
             clear c7
             have H' := Aside0.mk H
             clear H
             have p139 : 0 ≤ (x5_1 : Int) := of_decide_eq_true (by first | (with_reducible assumption) | assumption)
             have q139 : x5_1 < (l0.length : Int) := of_decide_eq_true (by first | (with_reducible assumption) | assumption)
             obtain ⟨ad139, e139, hx139_0, hx139_1⟩ := at_T40 HR0.out x5_1 p139 q139
             cases e139
             replace p139 := eq_true p139
             replace q139 := eq_true q139
             have p140 : 0 ≤ (x5_1 : Int) := of_decide_eq_true (by first | (with_reducible assumption) | assumption)
             have q140 : x5_1 < (l1.length : Int) := of_decide_eq_true (by first | (with_reducible assumption) | assumption)
             obtain ⟨ad140, e140, hx140_0, hx140_1⟩ := at_T40 HR1.out x5_1 p140 q140
             cases e140
             replace p140 := eq_true p140
             replace q140 := eq_true q140
             go_wp2
             repeat (go_quiet (fail); try go_wp2)
             go_roundg k1
             case measure => have := HK1.out; omega
             case rel => exact ⟨(wrap64 (x5_1 + 1)), (by first | rfl | (simp; done) | (simp [*]; done)), H', ⟨by have := HK1.out; omega⟩, by repeat (first | exact Drawn0.refl _ | apply Drawn0.step)⟩
         · rw [if_neg c6] at H
           exact absurd H (by simp)
       · rw [if_neg c5] at H
         exact absurd H (by simp)
     · rw [if_neg c4] at H
       have c4b0 : decide (x5_1 < (l0.length : Int)) = false := decide_eq_false c4
       clear c4
       obtain rfl := Option.some.inj H
       go_wp2
       repeat (go_quiet (fail); try go_wp2)
       go_ret
       exact ⟨by first | rfl | (simp; done) | (simp [*]; done), by repeat (first | exact Drawn0.refl _ | apply Drawn0.step)⟩
 · rw [if_neg c3] at H
   have c3b0 : ((l0.length : Int) == (l1.length : Int)) = false := beq_eq_false_iff_ne.mpr c3
   have c3b1 : ((l0.length : Int) != (l1.length : Int)) = true := bne_iff_ne.mpr c3
   have c3b2 : (l0.length == l1.length) = false := by first | simpa using c3 | (simp at c3 ⊢; omega)
   obtain rfl := Option.some.inj H
   go_enter Tryz.func9, Tryz.ntmps9
   go_wp2
   repeat (go_quiet (fail); try go_wp2)
   go_ret
   exact ⟨by first | rfl | (simp; done) | (simp [*]; done), by repeat (first | exact Drawn0.refl _ | apply Drawn0.step)⟩
def parser_small.f (a0 : Int) : Option (Bool) := if a0 > (-1000000000) then (some (decide (a0 < 1000000000))) else (some false)
theorem parser_small.calls (a0 : Int) (r : Bool) (w : World) (h : parser_small.f a0 = some r) :
 Calls Tryz.prog 61 #[.int .i64 a0] w fun e w' => e = .returned (.bool r) ∧ Drawn0 w w' := by
 have H : (if a0 > (-1000000000) then (some (decide (a0 < 1000000000))) else (some false)) = some r := h
 clear h
 by_cases c2 : a0 > (-1000000000)
 · rw [if_pos c2] at H
   have c2b0 : decide ((-1000000000) < a0) = true := decide_eq_true c2
   clear c2
   obtain rfl := Option.some.inj H
   go_enter Tryz.func61, Tryz.ntmps61
   go_wp2
   go_ret
   exact ⟨by first | rfl | (simp; done) | (simp [*]; done), by repeat (first | exact Drawn0.refl _ | apply Drawn0.step)⟩
 · rw [if_neg c2] at H
   have c2b0 : decide ((-1000000000) < a0) = false := decide_eq_false c2
   clear c2
   obtain rfl := Option.some.inj H
   go_enter Tryz.func61, Tryz.ntmps61
   go_wp2
   go_ret
   exact ⟨by first | rfl | (simp; done) | (simp [*]; done), by repeat (first | exact Drawn0.refl _ | apply Drawn0.step)⟩
def slices_Contains_string_string.f (k : Nat) (l0 : List ByteArray) (a1 : ByteArray) : Option (Bool) := (slices_Index_string_string.f k l0 a1).bind fun t146 => (some (decide (t146 ≥ 0)))
theorem slices_Contains_string_string.calls (k : Nat) (A0 : Option Addr) (c0 : Nat) (l0 : List ByteArray) (a1 : ByteArray) (r : Bool) (w : World) (hr0 : Kd.C Kd.string w A0 l0.length l0) (hc0 : l0.length ≤ c0) (h : slices_Contains_string_string.f k l0 a1 = some r) :
 Calls Tryz.prog 77 #[.slice A0 l0.length c0, .string a1] w fun e w' => e = .returned (.bool r) ∧ Drawn0 w w' := by
 have HR0 := Aside0.mk hr0
 have HC0 := Aside0.mk hc0
 clear hr0 hc0
 have H : ((slices_Index_string_string.f k l0 a1).bind fun t146 => (some (decide (t146 ≥ 0)))) = some r := h
 clear h
 replace H := Option.bind_eq_some_iff.mp H
 obtain ⟨t146, A30, H⟩ := H
 replace H : (some (decide (t146 ≥ 0))) = some r := H
 have A3 := Aside0.mk A30
 clear A30
 obtain rfl := Option.some.inj H
 go_enter Tryz.func77, Tryz.ntmps77
 go_wp2_with (first | ((with_reducible refine gate_callee (f := 78) rfl ?_); refine goesL_ (some 7) rfl rfl Tryz.func78 (by kernel_rfl) rfl #[.slice A0 l0.length c0, .string a1] rfl (by (try simp only [List.map_toArray, List.map_cons, List.map_nil]); first | done | rfl | (simp only [List.length_drop, List.length_take]; rfl)) ?_; (with_reducible refine (slices_Index_string_string.calls k _ _ l0 a1 t146 _ ?side1 ?side2 A3.out).mono ?_); (case side1 => repeat (first | exact HR0.out | (with_reducible refine Kd.C_alloc ?_ _) | (with_reducible refine Kd.C_drewN ?_ _) | (with_reducible refine Kd.C_drew ?_))); (case side2 => exact HC0.out); rintro e w' ⟨rfl, ⟨nd, rfl⟩⟩; refine ⟨_, rfl, ?_⟩))
 go_ret
 exact ⟨by first | rfl | (simp; done) | (simp [*]; done), by repeat (first | exact Drawn0.refl _ | apply Drawn0.step)⟩
mutual
def ambidexterref11_Count.l0 : Nat → List (S37) → Int → Int → Option (Int)
 | 0, _, _, _ => none
 | k + 1, x0, x3, x4 => if x4 < (x0.length : Int) then (if 0 ≤ x4 then ((ambidexterref11_Count.f k ((rd_T37 x0 x4).f6)).bind fun t166 => (ambidexterref11_Count.l0 k x0 (wrap64 (x3 + t166)) (wrap64 (x4 + 1)))) else (none)) else (some x3)
def ambidexterref11_Count.f : Nat → List (S37) → Option (Int)
 | 0, _ => none
 | k + 1, l0 => ambidexterref11_Count.l0 k l0 (l0.length : Int) 0
end
theorem ambidexterref11_Count.mono_l : ∀ k, (∀ y0, LeO (ambidexterref11_Count.f k y0) (ambidexterref11_Count.f (k + 1) y0)) ∧ (∀ y0 y1 y2, LeO (ambidexterref11_Count.l0 k y0 y1 y2) (ambidexterref11_Count.l0 (k + 1) y0 y1 y2))
 | 0 => ⟨fun _ r h => by simp [ambidexterref11_Count.f] at h, fun _ _ _ r h => by simp [ambidexterref11_Count.l0] at h⟩
 | k + 1 => by
  obtain ⟨ih0, ih1⟩ := ambidexterref11_Count.mono_l k
  refine ⟨?_, ?_⟩
  · intro y0
    unfold ambidexterref11_Count.f
    repeat' first
    | (with_reducible exact ih0 _)
    | (with_reducible exact ih1 _ _ _)
    | (with_reducible exact LeO.refl _)
    | (with_reducible exact LeO.none _)
    | (with_reducible refine LeO.ite ?_ ?_)
    | (with_reducible refine LeO.bind ?_ (fun _ => ?_))
    | exact ih0 _
    | exact ih1 _ _ _
    | exact LeO.none _
    | refine LeO.ite ?_ ?_
    | refine LeO.bind ?_ (fun _ => ?_)
  · intro y0 y1 y2
    unfold ambidexterref11_Count.l0
    repeat' first
    | (with_reducible exact ih0 _)
    | (with_reducible exact ih1 _ _ _)
    | (with_reducible exact LeO.refl _)
    | (with_reducible exact LeO.none _)
    | (with_reducible refine LeO.ite ?_ ?_)
    | (with_reducible refine LeO.bind ?_ (fun _ => ?_))
    | exact ih0 _
    | exact ih1 _ _ _
    | exact LeO.none _
    | refine LeO.ite ?_ ?_
    | refine LeO.bind ?_ (fun _ => ?_)
theorem ambidexterref11_Count.calls (k : Nat) : ∀ (A0 : Option Addr) (c0 : Nat) (l0 : List (S37)) (r : Int) (w : World) (hr0 : Kd.C k37 w A0 l0.length l0) (hc0 : l0.length ≤ c0) (h : ambidexterref11_Count.f k l0 = some r),
 Calls Tryz.prog 16 #[.slice A0 l0.length c0] w fun e w' => e = .returned (.int .i64 r) ∧ Drawn0 w w' := by
 induction k using Nat.strongRecOn with
 | _ k ih =>
 intro A0 c0 l0 r w hr0 hc0 h
 cases k with
 | zero => exact absurd h (by simp [ambidexterref11_Count.f])
 | succ k =>
 simp only [ambidexterref11_Count.f] at h
 have HR0 := Aside0.mk hr0
 have HC0 := Aside0.mk hc0
 clear hr0 hc0
 have H : (ambidexterref11_Count.l0 k l0 (l0.length : Int) 0) = some r := h
 clear h
 have H' := Aside0.mk H
 clear H
 go_enter Tryz.func16, Tryz.ntmps16
 go_wp2
 go_loopg [3, 4] k (fun kq v3 v4 w' => ∃ (x3_1 : Int) (x4_1 : Int), v3 = .int .i64 x3_1 ∧ v4 = .int .i64 x4_1 ∧ Aside0 (ambidexterref11_Count.l0 kq l0 x3_1 x4_1 = some r) ∧ Aside0 (kq ≤ k) ∧ Drawn0 w w')
 case atStart => exact ⟨((l0.length : Int)), (0), (by first | rfl | (simp; done) | (simp [*]; done)), (by first | rfl | (simp; done) | (simp [*]; done)), H', ⟨Nat.le_refl _⟩, by repeat (first | exact Drawn0.refl _ | apply Drawn0.step)⟩
 case round =>
  clear H'
  try clear c1
  obtain ⟨x3_1, x4_1, rfl, rfl, HA, HK1, ⟨m1, rfl⟩⟩ := hrel
  cases gk with
  | zero => exact absurd HA.out (by simp [ambidexterref11_Count.l0])
  | succ k1 =>
   have H := HA.out
   clear HA
   simp only [ambidexterref11_Count.l0] at H
   by_cases c2 : x4_1 < (l0.length : Int)
   · rw [if_pos c2] at H
     have c2b0 : decide (x4_1 < (l0.length : Int)) = true := decide_eq_true c2
     clear c2
     by_cases c3 : 0 ≤ x4_1
     · rw [if_pos c3] at H
       have c3b0 : decide (0 ≤ x4_1) = true := decide_eq_true c3
       clear c3
       replace H := Option.bind_eq_some_iff.mp H
       obtain ⟨t166, A40, H⟩ := H
       replace H : (ambidexterref11_Count.l0 k1 l0 (wrap64 (x3_1 + t166)) (wrap64 (x4_1 + 1))) = some r := H
       have A4 := Aside0.mk A40
       clear A40
       have H' := Aside0.mk H
       clear H
       have p165 : 0 ≤ (x4_1 : Int) := of_decide_eq_true (by first | (with_reducible assumption) | assumption)
       have q165 : x4_1 < (l0.length : Int) := of_decide_eq_true (by first | (with_reducible assumption) | assumption)
       obtain ⟨ad165, A165_11, c165_11, e165, hx165_0, hx165_1, hx165_2, hx165_3, hx165_4, hx165_5, hx165_6, hx165_7, hx165_8, hx165_9, hx165_10, hx165_11, hx165_12, hl165_11, hi165_11⟩ := at_T37 HR0.out x4_1 p165 q165
       cases e165
       have HR165_11 := Aside0.mk hi165_11
       have HC165_11 := Aside0.mk hl165_11
       clear hi165_11 hl165_11
       replace p165 := eq_true p165
       replace q165 := eq_true q165
       go_wp2_with (first | ((with_reducible refine gate_callee (f := 16) rfl ?_); refine goesL_ (some 19) rfl rfl Tryz.func16 (by kernel_rfl) rfl #[.slice A165_11 ((rd_T37 l0 x4_1).f6).length c165_11] rfl (by (try simp only [List.map_toArray, List.map_cons, List.map_nil]); first | done | rfl | (simp only [List.length_drop, List.length_take]; rfl)) ?_; (with_reducible refine (ih k1 (by have := HK1.out; omega) _ _ ((rd_T37 l0 x4_1).f6) t166 _ ?side1 ?side2 A4.out).mono ?_); (case side1 => repeat (first | exact HR165_11.out | (with_reducible refine Kd.C_alloc ?_ _) | (with_reducible refine Kd.C_drewN ?_ _) | (with_reducible refine Kd.C_drew ?_))); (case side2 => exact HC165_11.out); rintro e w' ⟨rfl, ⟨nd, rfl⟩⟩; refine ⟨_, rfl, ?_⟩))
       go_roundg k1
       case measure => have := HK1.out; omega
       case rel => exact ⟨(wrap64 (x3_1 + t166)), (wrap64 (x4_1 + 1)), (by first | rfl | (simp; done) | (simp [*]; done)), (by first | rfl | (simp; done) | (simp [*]; done)), H', ⟨by have := HK1.out; omega⟩, by repeat (first | exact Drawn0.refl _ | apply Drawn0.step)⟩
     · rw [if_neg c3] at H
       exact absurd H (by simp)
   · rw [if_neg c2] at H
     have c2b0 : decide (x4_1 < (l0.length : Int)) = false := decide_eq_false c2
     clear c2
     obtain rfl := Option.some.inj H
     go_wp2
     go_ret
     exact ⟨by first | rfl | (simp; done) | (simp [*]; done), by repeat (first | exact Drawn0.refl _ | apply Drawn0.step)⟩
end
def wordsL : List ByteArray := [⟨#[]⟩, ⟨#[103, 111]⟩, ⟨#[104, 111, 109, 101]⟩, ⟨#[112, 105, 99, 107]⟩, ⟨#[112, 117, 116]⟩, ⟨#[104, 97, 110, 100]⟩, ⟨#[119, 97, 105, 116]⟩, ⟨#[119, 104, 101, 110]⟩, ⟨#[98, 111, 116, 104]⟩]
def WordsAt (W : World) : Prop := ∃ A c, W.cell? ⟨0, 0, none⟩ = some (.slice A 9 c) ∧ 9 ≤ c ∧ Kd.C Kd.string W A 9 wordsL ∧ 0 < W.heap.size
theorem WordsAt.below {W W1 : World} (h : WordsAt W) (hb : Below W.heap.size W W1) : WordsAt W1 := by
 obtain ⟨A, c, h0, hc, hC, hl⟩ := h
 exact ⟨A, c, (World.cell?_of_block (a := ⟨0, 0, none⟩) (hb.block 0 hl)).trans h0, hc, Kd.C_below hC hb, Nat.lt_of_lt_of_le hl hb.size⟩
theorem wrap_small' {x : Int} (h0 : -1000000000000 ≤ x) (h1 : x ≤ 1000000000000) : wrap64 x = x := by
 unfold wrap64; omega
theorem index_some (l : List ByteArray) (s : ByteArray) (hl : l.length ≤ 1000) : ∀ (d k : Nat) (i : Int), 0 ≤ i → i ≤ l.length → (l.length : Int) - i = d → d < k → ∃ r, slices_Index_string_string.l0 k l s l.length i = some r ∧ -1 ≤ r ∧ r < l.length := by
 intro d
 induction d with
 | zero =>
  intro k i h0 h1 hd hk
  obtain ⟨k, rfl⟩ : ∃ m, k = m + 1 := ⟨k - 1, by omega⟩
  simp only [slices_Index_string_string.l0]
  rw [if_neg (by omega)]
  exact ⟨_, rfl, by omega, by omega⟩
 | succ d ih =>
  intro k i h0 h1 hd hk
  obtain ⟨k, rfl⟩ : ∃ m, k = m + 1 := ⟨k - 1, by omega⟩
  simp only [slices_Index_string_string.l0]
  rw [if_pos (by omega), if_pos h0, if_pos (by omega), wrap_small' (by omega) (by omega)]
  split
  · exact ⟨_, rfl, by omega, by omega⟩
  · exact ih k (i + 1) (by omega) (by omega) (by omega) (by omega)
def wordIx (s : ByteArray) : Int := (slices_Index_string_string.f 20 wordsL s).getD (-1)
theorem wordIx_f (s : ByteArray) : slices_Index_string_string.f 20 wordsL s = some (wordIx s) ∧ -1 ≤ wordIx s ∧ wordIx s < 9 := by
 obtain ⟨r, h, h1, h2⟩ := index_some wordsL s (by decide) 9 20 0 (by omega) (by decide) (by decide) (by omega)
 have e : slices_Index_string_string.f 20 wordsL s = some r := h
 have e2 : wordIx s = r := by simp [wordIx, e]
 rw [e2]
 exact ⟨e, h1, h2⟩
def isWord (s : ByteArray) : Bool := decide (wordIx s ≥ 0)
theorem isWord_f (s : ByteArray) : slices_Contains_string_string.f 20 wordsL s = some (isWord s) := by
 rw [slices_Contains_string_string.f, (wordIx_f s).1]; rfl
def isNamed (t : S67) : Bool := t.f0 == 1 && (decide ((t.f1.size : Int) ≤ 12) && !isWord t.f1)
theorem named_calls (W : World) (t : S67) (hW : WordsAt W) :
 Calls Tryz.prog 80 #[.agg #[.int .i64 t.f0, .string t.f1, .int .i64 t.f2]] W fun e w' => e = .returned (.bool (isNamed t)) ∧ Below W.heap.size W w' := by
 have hu44 := Tryz.underlying67
 obtain ⟨A, c, g0, hc, hC, hlt⟩ := hW
 have HC := Aside0.mk hC
 clear hC
 have hb0 := below_alloc (Below.refl W.heap.size W) (.cells #[.int .i64 t.f0, .string t.f1, .int .i64 t.f2] 67)
 have HB0 := Aside0.mk hb0
 clear hb0
 cases h1 : (t.f0 == 1) with
 | false =>
  go_enter Tryz.func80, Tryz.ntmps80
  go_wp2_with fail
  go_ret
  exact ⟨by simp [isNamed, h1], HB0.out⟩
 | true =>
  cases h2 : decide ((t.f1.size : Int) ≤ 12) with
  | false =>
   go_enter Tryz.func80, Tryz.ntmps80
   go_wp2_with fail
   go_ret
   exact ⟨by simp only [isNamed, h1, h2]; rfl, HB0.out⟩
  | true =>
   go_enter Tryz.func80, Tryz.ntmps80
   go_wp2_with fail
   refine (slices_Contains_string_string.calls 20 A c wordsL t.f1 (isWord t.f1) _ (Kd.C_below HC.out HB0.out) hc (isWord_f t.f1)).mono ?_
   rintro e w' ⟨rfl, nd, rfl⟩
   cases h3 : isWord t.f1 with
   | true =>
    go_wp2_with fail
    go_ret
    exact ⟨by simp only [isNamed, h1, h2, h3]; rfl, pw_below_drewN HB0.out nd⟩
   | false =>
    go_wp2_with fail
    go_ret
    exact ⟨by simp only [isNamed, h1, h2, h3]; rfl, pw_below_drewN HB0.out nd⟩
def isKey (t : S67) : Bool := t.f0 == 1 && isWord t.f1
theorem stmt1_calls (W : World) (t : S67) (hW : WordsAt W) :
 Calls Tryz.prog 76 #[.agg #[.int .i64 t.f0, .string t.f1, .int .i64 t.f2]] W fun e w' => e = .returned (.bool (isKey t)) ∧ Below W.heap.size W w' := by
 have hu44 := Tryz.underlying67
 obtain ⟨A, c, g0, hc, hC, hlt⟩ := hW
 have HC := Aside0.mk hC
 clear hC
 have hb0 := below_alloc (Below.refl W.heap.size W) (.cells #[.int .i64 t.f0, .string t.f1, .int .i64 t.f2] 67)
 have HB0 := Aside0.mk hb0
 clear hb0
 cases h1 : (t.f0 == 1) with
 | false =>
  go_enter Tryz.func76, Tryz.ntmps76
  go_wp2_with fail
  go_ret
  exact ⟨by simp [isKey, h1], HB0.out⟩
 | true =>
  go_enter Tryz.func76, Tryz.ntmps76
  go_wp2_with fail
  refine (slices_Contains_string_string.calls 20 A c wordsL t.f1 (isWord t.f1) _ (Kd.C_below HC.out HB0.out) hc (isWord_f t.f1)).mono ?_
  rintro e w' ⟨rfl, nd, rfl⟩
  go_wp2_with fail
  go_ret
  exact ⟨by simp only [isKey, h1]; rfl, pw_below_drewN HB0.out nd⟩
def nameS (fin : Int) (s : Rs) : Step ByteArray := (takeS isNamed fin s).map (fun t => t.f1)
theorem stmt2_calls (b : Nat) (w0 W : World) (g : Nat) (fin : Int) (vf : Value) (s : Rs) (hI : IsR w0 W g fin vf s) (hW : WordsAt w0) (hb : W.cell? ⟨b, 0, none⟩ = some (.pointer (some ⟨g, 0, none⟩))) :
 Calls Tryz.prog 79 #[.pointer (some ⟨b, 0, none⟩)] W fun e w' => Out1 w0 W g fin vf Value.string (nameS fin s) e w' := by
 have hu44 := Tryz.underlying67
 have hf1 := tok_f1
 have HI := Aside0.mk hI
 have HW := Aside0.mk (hW.below hI.bel)
 clear hI hW
 go_enter Tryz.func79, Tryz.ntmps79
 go_wp2_with fail
 refine (take_calls 80 #[] (fun _ _ => by rfl) isNamed w0 W g fin vf s HI.out ⟨fun W1 t h => named_calls W1 t (HW.out.below h)⟩).mono ?_
 intro e w1 ho
 rcases ho.cases with ⟨t, hr, rfl, h2, h3⟩ | ⟨f, hr, rfl, h2, h3⟩
 · have h2' := Aside0.mk h2
   have h3' := Aside0.mk h3
   have hr' := Aside0.mk hr
   clear ho h2 h3 hr HI HW
   simp only [tokV]
   go_wp2_with fail
   go_ret
   exact Out1.ok (Step.map_ok hr'.out) rfl h2'.out h3'.out
 · exact ⟨rfl, Out1.err (Step.map_err hr) rfl h2 h3⟩
def obind {α β : Type} (r : Step α) (f : α → Rs → Option (Step β)) : Option (Step β) := match r.1 with
 | .ok a => f a r.2
 | .error e => some (.error e, r.2)
theorem obind_ok {α β : Type} {r : Step α} {f : α → Rs → Option (Step β)} {a : α} (h : r.1 = .ok a) : obind r f = f a r.2 := by simp [obind, h]
theorem obind_err {α β : Type} {r : Step α} {f : α → Rs → Option (Step β)} {e : Int × Int} (h : r.1 = .error e) : obind r f = some (.error e, r.2) := by simp [obind, h]
def semiS (fin : Int) (x : S37) (s : Rs) : Option (Step S37) := some ((signS ⟨#[59]⟩ fin s).bind fun _ s => (.ok x, s))
def xOf (k a : Int) : S37 := ⟨k, 0, ⟨#[]⟩, ⟨#[]⟩, 0, ⟨⟨0, 0, 0⟩, ⟨0, 0, 0⟩⟩, [], a⟩
def toOf (a : Int) (q : S34) : S35 := if a = 0 then ⟨q, ⟨0, 0, 0⟩⟩ else ⟨⟨0, 0, 0⟩, q⟩
def restS (rec : Int → Rs → Option (List S37 × Rs)) (fin deep k c : Int) (s : Rs) : Option (Step S37) :=
 if k = 1 then obind (armS fin s) fun a s => obind (tripleS fin s) fun q s => semiS fin ⟨1, a, ⟨#[]⟩, ⟨#[]⟩, 0, toOf a q, [], c⟩ s
 else if k = 2 then obind (armS fin s) fun a s => semiS fin ⟨2, a, ⟨#[]⟩, ⟨#[]⟩, 0, ⟨⟨0, 0, 0⟩, ⟨0, 0, 0⟩⟩, [], c⟩ s
 else if k = 3 then obind (armS fin s) fun a s => obind (nameS fin s) fun p s => semiS fin ⟨3, a, p, ⟨#[]⟩, 0, ⟨⟨0, 0, 0⟩, ⟨0, 0, 0⟩⟩, [], c⟩ s
 else if k = 4 then obind (armS fin s) fun a s => obind (nameS fin s) fun p s => semiS fin ⟨4, a, ⟨#[]⟩, p, 0, ⟨⟨0, 0, 0⟩, ⟨0, 0, 0⟩⟩, [], c⟩ s
 else if k = 5 then obind (armS fin s) fun a s => obind (nameS fin s) fun p s => semiS fin ⟨5, a, ⟨#[]⟩, p, 0, ⟨⟨0, 0, 0⟩, ⟨0, 0, 0⟩⟩, [], c⟩ s
 else if k = 6 then obind (numberS fin s) fun n s => semiS fin ⟨6, 0, ⟨#[]⟩, ⟨#[]⟩, n, ⟨⟨0, 0, 0⟩, ⟨0, 0, 0⟩⟩, [], c⟩ s
 else if k = 8 then obind (tripleS fin s) fun q s => obind (tripleS fin s) fun p s => semiS fin ⟨8, 0, ⟨#[]⟩, ⟨#[]⟩, 0, ⟨q, p⟩, [], c⟩ s
 else if k = 7 then
  if deep = 4 then some (.error (2, c), s)
  else obind (nameS fin s) fun p s => obind (nameS fin s) fun q s => obind (signS ⟨#[123]⟩ fin s) fun _ s =>
   (rec (wrap64 (deep + 1)) s).bind fun r => some ((signS ⟨#[125]⟩ fin r.2).bind fun _ s => (.ok ⟨7, 0, q, p, 0, ⟨⟨0, 0, 0⟩, ⟨0, 0, 0⟩⟩, r.1, c⟩, s))
 else semiS fin (xOf k c) s
def stmtS (rec : Int → Rs → Option (List S37 × Rs)) (fin deep : Int) (s : Rs) : Option (Step S37) :=
 obind (takeS isKey fin s) fun t s => restS rec fin deep (wordIx t.f1) t.f2 s
def recS (f : Int × Int) (s : Rs) : Rs := { tellS ⟨f.1, f.2⟩ s with toks := skipS s.toks }
def oneS (rec : Int → Rs → Option (List S37 × Rs)) (fin deep : Int) (s : Rs) : Option (Option S37 × Rs) :=
 (stmtS rec fin deep s).bind fun r => match r with
  | (.ok x, s) => some (if s.over = true then none else some x, s)
  | (.error f, s) => if s.over = true then some (none, s) else if 100 < s.fl.length ∨ 1000000 < s.toks.length then none else some (none, recS f s)
def stmtsS (fin : Int) : Nat → Int → Rs → List S37 → Option (List S37 × Rs)
 | 0, _, _, _ => none
 | k + 1, deep, s, out =>
  if s.over = true ∨ s.toks = [] then some (out, s)
  else if isSign ⟨#[125]⟩ (lookS fin s.toks) = true then
   if deep > 0 then some (out, s)
   else if 100 < s.fl.length then none
   else stmtsS fin k deep { tellS ⟨110, (lookS fin s.toks).f2⟩ s with toks := s.toks.tail } out
  else if wrap64 (s.n + 1) > 64 then
   if 100 < s.fl.length then none
   else some (out, { s with n := wrap64 (s.n + 1), fl := s.fl ++ [⟨2, (lookS fin s.toks).f2⟩], over := true })
  else if 1000 < out.length then none
  else (oneS (fun d s => stmtsS fin k d s []) fin deep { s with n := wrap64 (s.n + 1) }).bind fun r => stmtsS fin k deep r.2 (match r.1 with | some x => out ++ [x] | none => out)
section
abbrev stmC (x : S37) (v : Value) : Array Value := #[.int .i64 x.f0, .int .i64 x.f1, .string x.f2, .string x.f3, .int .i64 x.f4, .int .i64 x.f5.f0.f0, .int .i64 x.f5.f0.f1, .int .i64 x.f5.f0.f2, .int .i64 x.f5.f1.f0, .int .i64 x.f5.f1.f1, .int .i64 x.f5.f1.f2, v, .int .i64 x.f7]
def Kids (w' : World) (base g : Nat) (vf' v : Value) (l : List S37) : Prop := k37.R 37 w' base (fun k => k ≠ g ∧ some k ≠ vf'.ownBlock) v l
def StmtsOut (w0 W : World) (g : Nat) (fin : Int) (vf : Value) (r : List S37 × Rs) (e : Ending) (w' : World) : Prop :=
 ∃ v vf', e = .returned v ∧ Kids w' W.heap.size g vf' v r.1 ∧ IsR w0 w' g fin vf' r.2 ∧ Go_ W w' g vf vf'
def StmtOut (w0 W : World) (g : Nat) (fin : Int) (vf : Value) (r : Step S37) (e : Ending) (w' : World) : Prop :=
 ∃ vf', (match r.1 with
  | .ok x => ∃ v, e = .returned (.agg (stmC x v)) ∧ Kids w' W.heap.size g vf' v x.f6
  | .error f => e = .panicked (faultV f.1 f.2)) ∧ IsR w0 w' g fin vf' r.2 ∧ Go_ W w' g vf vf'
section
variable {w0 W W1 : World} {g b : Nat} {fin : Int} {vf vf1 v : Value} {s s1 : Rs} {t : TypeId} {cs : Array Value}
theorem IsR.ne_row (h : IsR w0 W g fin vf s) (hb : W.heap[b]? = some (.cells cs t (0, 0))) (ht : 40 ≠ t) : some b ≠ vf.ownBlock := by
 obtain ⟨A, c, hh, hg, hl, hC, hR, hB, hN⟩ := h
 exact Kd.R_ne hR hb ht
theorem IsR.ne_g (h : IsR w0 W g fin vf s) (hb : W.heap[b]? = some (.cells cs t (0, 0))) (ht : 47 ≠ t) : b ≠ g := by
 obtain ⟨A, c, hh, hg, hl, hC, hR, hB, hN⟩ := h
 rintro rfl
 rw [hh] at hb; injection hb with hb; injection hb with _ hb; exact ht hb
theorem IsR.keep (h : IsR w0 W g fin vf s) (hg : Go_ W W1 g vf vf1) (hb : W.heap[b]? = some (.cells cs t (0, 0))) (h1 : 47 ≠ t) (h2 : 40 ≠ t) : W1.heap[b]? = some (.cells cs t (0, 0)) :=
 blk_go hb hg (h.ne_g hb h1) (h.ne_row hb h2)
theorem IsR.setRow (h : IsR w0 W g fin vf s) {new : Array Value} (hb : W.heap[b]? = some (.cells cs t (0, 0))) (h1 : 47 ≠ t) (h2 : 40 ≠ t) (hge : w0.heap.size ≤ b) : IsR w0 (W.setRow b new) g fin vf s := by
 have hne := h.ne_g hb h1
 have hrow := h.ne_row hb h2
 obtain ⟨A, c, hh, hg, hl, hC, hR, hB, hN⟩ := h
 refine ⟨A, c, (setRow_other _ _ _ _ (Ne.symm hne)).trans hh, hg, hl, hC, ?_, ⟨hB.os, hB.tape, hB.output, by simpa using hB.size, fun k hk => (setRow_other _ _ _ _ (by omega)).trans (hB.block k hk)⟩, hN⟩
 exact Kd.R_mono (Kd.R_step (Kd.R_types hR hb (by intro q hq; simp at hq; rcases hq with rfl | hq; exact h2; exact absurd hq (by simp [k40, Kd.iso, Kd.pair, Kd.int, Kd.scalar]))) (fun k hk _ => setRow_other _ _ _ _ hk.2)) (fun k hk => hk.1)
theorem Go_.setRow (h : Go_ W W1 g vf vf1) (hb : W.heap.size ≤ b) (new : Array Value) : Go_ W (W1.setRow b new) g vf vf1 :=
 ⟨by simpa using h.size, fun k hk hg hv => (setRow_other _ _ _ _ (by omega)).trans (h.block k hk hg hv), h.row⟩
theorem stm_E : k37.E = [37] := rfl
theorem Kids.mono_base {base base' : Nat} {l : List S37} (h : Kids W base g vf v l) (hb : base' ≤ base) : Kids W base' g vf v l := Kd.R_lower h hb
theorem Kids.nil (W : World) (base g : Nat) (vf : Value) : Kids W base g vf (.slice none 0 0) [] := Kd.R_nil _ _ _ _ _
theorem Kids.go {base : Nat} {l : List S37} (h : Kids W base g vf v l) (hg : Go_ W W1 g vf vf1) : Kids W1 base g vf1 v l := R_go h hg
theorem Kids.setCell {base : Nat} {l : List S37} (h : Kids W base g vf v l) (hb : W.heap[b]? = some (.cells cs t (0, 0))) (ht : 37 ≠ t) (j : Nat) (u : Value) : Kids (W.setCell ⟨b, j, none⟩ u) base g vf v l :=
 Kd.R_set h hb (by intro q hq; simp [stm_E] at hq; subst hq; exact ht) j u
theorem Kids.below {base : Nat} {l : List S37} (h : Kids W base g vf v l) (hb : Below W.heap.size W W1) : Kids W1 base g vf v l := Kd.R_below h hb
theorem Kids.setRow {base : Nat} {l : List S37} (h : Kids W base g vf v l) (hb : b < base) (new : Array Value) : Kids (W.setRow b new) base g vf v l :=
 Kd.R_mono (Kd.R_step (Kd.R_bound h) (fun k hk _ => setRow_other _ _ _ _ (by have := hk.2.1; omega))) (fun k hk => hk.1)
theorem Kids.setOld {base : Nat} {l : List S37} (h : Kids W base g vf v l) (hb : b < base) (j : Nat) (u : Value) : Kids (W.setCell ⟨b, j, none⟩ u) base g vf v l :=
 Kd.R_mono (Kd.R_step (Kd.R_bound h) (fun k hk _ => Below.heap_setCell W ⟨b, j, none⟩ u k (by have := hk.2.1; show k ≠ b; omega))) (fun k hk => hk.1)
theorem Kids.slice {base : Nat} {l : List S37} (h : Kids W base g vf v l) : ∃ A c, v = .slice A l.length c := Kd.R_slice h
end
end
end Go.Proofs.YtonhcfecfifghaaGreatDoor.PPx
