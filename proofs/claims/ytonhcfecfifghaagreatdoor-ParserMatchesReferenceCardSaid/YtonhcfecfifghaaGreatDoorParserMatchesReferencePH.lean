/- Part H of the proof of ParserMatchesReference: the contracts of the functions that the law reaches, and what their plain functions compute. No condition. -/
import Derived.Test.YtonhcfecfifghaaGreatDoorParserMatchesReferencePA
import Derived.Test.YtonhcfecfifghaaGreatDoorParserMatchesReferencePC
import Derived.Test.YtonhcfecfifghaaGreatDoorParserMatchesReferencePF
set_option maxHeartbeats 40000000
set_option maxRecDepth 100000
namespace Go.Proofs.YtonhcfecfifghaaGreatDoor.PPx
open Go.RowKit Go.Proofs.YtonhcfecfifghaaGreatDoorW.PrintWords Go.Proofs.YtonhcfecfifghaaGreatDoorW.PrintLast Go.Proofs.YtonhcfecfifghaaGreatDoorW.PrintMore
set_option linter.unusedVariables false
set_option linter.unusedSimpArgs false
section
theorem results_cct {P : Program} {fn : Func} {p p' u : Tmp} {ty ty' : TypeId} (h : fn.results = #[.cell p ty, .cell p' ty', .tmp u]) (tmps : Array Value) (w : World) (g g' : Nat) (t t' : TypeId) (cs cs' : Array Value) (fr fr' : Nat × Nat) (d d' : TypeDesc)
 (hp : tmps.getD p undef = .pointer (some ⟨g, 0, none⟩)) (hg : w.heap[g]? = some (.cells cs t fr))
 (hu : P.underlying ty = some d) (hd : (match d with | .struct _ | .array _ _ => true | _ => false) = true) (hi : (P.info? ty).map (·.size) = some cs.size)
 (hp' : tmps.getD p' undef = .pointer (some ⟨g', 0, none⟩)) (hg' : w.heap[g']? = some (.cells cs' t' fr'))
 (hu' : P.underlying ty' = some d') (hd' : (match d' with | .struct _ | .array _ _ => true | _ => false) = true) (hi' : (P.info? ty').map (·.size) = some cs'.size) :
 (results fn tmps).run P w = .ok (.tuple #[.agg cs, .agg cs', tmps.getD u undef]) w := by
 have h1 : tmps[p]?.getD undef = .pointer (some ⟨g, 0, none⟩) := by simpa using hp
 have h2 : tmps[p']?.getD undef = .pointer (some ⟨g', 0, none⟩) := by simpa using hp'
 simp [results, h, h1, h2, asAddr, run_loadVar_row w g t ty cs fr d hg hu hd hi, run_loadVar_row w g' t' ty' cs' fr' d' hg' hu' hd' hi']
def RStmO (A : Option Addr) (c : Nat) (ts : List S67) (fin : Int) (S : Nat → Prop) (w : World) (r : Option S37 × Rs) (e : Ending) (w' : World) : Prop :=
 ∃ (v : Array Value) (x : S37) (Ak : Option Addr) (nk ck : Nat), e = .returned (.tuple #[.agg v, .agg (stmC x (.slice Ak nk ck)), .bool r.1.isSome]) ∧ (∀ y, r.1 = some y → y = x ∧ Kd.R k37 37 w' w.heap.size (fun _ => True) (.slice Ak nk ck) x.f6) ∧ IsSt A c ts fin S w' v r.2 ∧ Below w.heap.size w w'
def RStsO (A : Option Addr) (c : Nat) (ts : List S67) (fin : Int) (S : Nat → Prop) (w : World) (r : List S37 × Rs) (e : Ending) (w' : World) : Prop :=
 ∃ (v : Array Value) (kv : Value), e = .returned (.tuple #[.agg v, kv]) ∧ Kd.R k37 37 w' w.heap.size (fun _ => True) kv r.1 ∧ IsSt A c ts fin S w' v r.2 ∧ Below w.heap.size w w'
structure Inp (A : Option Addr) (c : Nat) (ts : List S67) (S : Nat → Prop) (w : World) (i : Nat) (B : Option Addr) (fc : Nat) (fl : List S40) : Prop where
 C : Kd.C k67 w A ts.length ts
 c : ts.length ≤ c
 i : i ≤ ts.length
 F : KeepC S w B fl
 S : ∀ k, S k → k < w.heap.size
 f : fl.length ≤ fc
 l : fl.length ≤ 100
 n : ts.length ≤ 1000000
 t : ∀ t ∈ ts, t.f0 = 3 → 0 < t.f1.size
structure Fm (w W : World) (st : Array Value) (t : S67) (x : S37) (kv : Value) : Prop where
 b0 : W.heap[w.heap.size]? = some (.cells st 50 (0, 0))
 b1 : W.heap[w.heap.size + 1]? = some (.cells zSt 50 (0, 0))
 b2 : W.heap[w.heap.size + 1 + 1]? = some (.cells zStm 37 (0, 0))
 b3 : W.heap[w.heap.size + 1 + 1 + 1]? = some (.cells #[.int .i64 t.f0, .string t.f1, .int .i64 t.f2] 67 (0, 0))
 b4 : W.heap[w.heap.size + 1 + 1 + 1 + 1]? = some (.cells (stmC x kv) 37 (0, 0))
 B : Below w.heap.size w W
theorem Fm.below {w W W1 : World} {st : Array Value} {t : S67} {x : S37} {kv : Value} (h : Fm w W st t x kv) (hb : Below W.heap.size W W1) : Fm w W1 st t x kv :=
 ⟨blk_below h.b0 hb, blk_below h.b1 hb, blk_below h.b2 hb, blk_below h.b3 hb, blk_below h.b4 hb, below_step h.B hb⟩
theorem Fm.kind {w W : World} {st : Array Value} {t : S67} {k k' c : Int} {kv : Value} (h : Fm w W st t (xOf k c) kv) : Fm w (W.setCell ⟨w.heap.size + 1 + 1 + 1 + 1, 0, none⟩ (.int .i64 k')) st t (xOf k' c) kv :=
 ⟨blk_far h.b0 (by simp <;> omega) _, blk_far h.b1 (by simp <;> omega) _, blk_far h.b2 (by simp) _, blk_far h.b3 (by simp) _, blk_put h.b4 0 (.int .i64 k') rfl, below_set h.B (by omega)⟩
theorem Fm.next {w W : World} {A B : Option Addr} {m c fm fc i : Nat} {fin n : Int} {o : Bool} {t : S67} {x : S37} {kv : Value} (h : Fm w W (stV A m c (i : Int) fin n B fm fc o) t x kv) : Fm w (W.setCell ⟨w.heap.size, 1, none⟩ (.int .i64 ((i : Int) + 1))) (stV A m c ((i + 1 : Nat) : Int) fin n B fm fc o) t x kv :=
 ⟨blk_put h.b0 1 (.int .i64 ((i : Int) + 1)) rfl, blk_far h.b1 (by simp) _, blk_far h.b2 (by simp <;> omega) _, blk_far h.b3 (by simp <;> omega) _, blk_far h.b4 (by simp <;> omega) _, below_set h.B (Nat.le_refl _)⟩
theorem Fm.sz {w W : World} {st : Array Value} {t : S67} {x : S37} {kv : Value} (h : Fm w W st t x kv) : w.heap.size + 1 + 1 + 1 + 1 < W.heap.size := blk_lt h.b4
theorem Fm.drew {w W : World} {st : Array Value} {t : S67} {x : S37} {kv : Value} (h : Fm w W st t x kv) : Fm w W.drew st t x kv := h.below (below_drew (Below.refl _ _))
theorem Fm.drewN {w W : World} {st : Array Value} {t : S67} {x : S37} {kv : Value} (h : Fm w W st t x kv) (m : Nat) : Fm w (W.drewN m) st t x kv := h.below (pw_below_drewN (Below.refl _ _) m)
def SF (S : Nat → Prop) (w : World) (k : Nat) : Prop := S k ∨ (w.heap.size ≤ k ∧ k < w.heap.size + 5)
theorem Fm.keep {S : Nat → Prop} {w W : World} {st : Array Value} {t : S67} {x : S37} {kv : Value} {B : Option Addr} {fl : List S40} (h : Fm w W st t x kv) (hF : KeepC S w B fl) : KeepC (SF S w) W B fl :=
 (hF.frame h.B).less (fun k hk => hk.elim .inl (fun e => .inr ⟨e.1, by have := h.sz; omega⟩))
theorem Fm.lt {S : Nat → Prop} {w W : World} {st : Array Value} {t : S67} {x : S37} {kv : Value} (h : Fm w W st t x kv) (hS : ∀ k, S k → k < w.heap.size) : ∀ k, SF S w k → k < W.heap.size :=
 fun k hk => hk.elim (fun e => by have := hS k e; have := h.sz; omega) (fun e => by have := h.sz; omega)
theorem Fm.ext {w W : World} {st : Array Value} {t : S67} {x : S37} {kv : Value} (h : Fm w W st t x kv) (o : Obj) : Fm w (W.alloc o) st t x kv := h.below (below_alloc (Below.refl _ _) o)
theorem filled_f0 {k : Int} (h1 : 1 ≤ k) (h8 : k ≤ 8) (c : Int) (l : List ByteArray) : (filledS k c l).f0 = k ∧ (filledS k c l).f6 = [] := by
 obtain rfl | rfl | rfl | rfl | rfl | rfl | rfl | rfl : k = 1 ∨ k = 2 ∨ k = 3 ∨ k = 4 ∨ k = 5 ∨ k = 6 ∨ k = 7 ∨ k = 8 := by omega
 all_goals exact ⟨rfl, rfl⟩
theorem form_size (k : Int) : (formS k).size ≤ 1000 := by
 unfold formS
 repeat' split
 all_goals decide
def RecC (rec : Int → Rs → Option (List S37 × Rs)) (fin : Int) : Prop := ∀ (A : Option Addr) (c : Nat) (ts : List S67) (S : Nat → Prop) (w : World) (i : Nat) (n deep : Int) (B : Option Addr) (fc : Nat) (fl : List S40) (o : Bool) (r : List S37 × Rs), Inp A c ts S w i B fc fl → rec deep ⟨ts.drop i, n, fl, o⟩ = some r →
 Calls Tryz.prog 20 #[.agg (stV A ts.length c i fin n B fl.length fc o), .int .i64 deep] w (RStsO A c ts fin S w r)
theorem head_fl : ∀ (m : Nat) {fin : Int} {f : ByteArray} {q : Nat} {s r : Rs} {out l : List ByteArray}, headS fin f m q s out = (r, l, true) → r.fl = s.fl ∧ r.n = s.n ∧ r.over = s.over
 | 0, fin, f, q, s, r, out, l, h => by
  rw [headS] at h
  simp only [Prod.mk.injEq] at h
  rw [← h.1]
  exact ⟨rfl, rfl, rfl⟩
 | m + 1, fin, f, q, s, r, out, l, h => by
  rw [headS] at h
  split at h
  · simp at h
  · split at h
    · obtain ⟨a, b, c⟩ := head_fl m h
      exact ⟨a, b, c⟩
    · simp at h
theorem Fm.kid {w W : World} {st : Array Value} {t : S67} {x : S37} {kv : Value} (h : Fm w W st t x kv) (u : Value) : Fm w (W.setCell ⟨w.heap.size + 1 + 1 + 1 + 1, 11, none⟩ u) st t x u :=
 ⟨blk_far h.b0 (by simp <;> omega) _, blk_far h.b1 (by simp <;> omega) _, blk_far h.b2 (by simp <;> omega) _, blk_far h.b3 (by simp <;> omega) _, blk_put h.b4 11 u rfl, below_set h.B (by omega)⟩
theorem kids_of {W : World} {base : Nat} {ok : Nat → Prop} {kv : Value} {x : S37} {ks : List S37} (b : Bool) (h : Kd.R k37 37 W base ok kv ks) : ∀ y, (if b = true then some { x with f6 := ks } else none) = some y → y = { x with f6 := ks } ∧ Kd.R k37 37 W base ok kv ({ x with f6 := ks } : S37).f6 := by
 intro y hy
 cases b with
 | false => simp at hy
 | true =>
  rw [if_pos rfl] at hy
  exact ⟨(Option.some.inj hy).symm, h⟩
theorem end_rows {w W : World} {y0 y1 y2 y3 y4 y5 : Value} {z0 z1 z2 z3 z4 z5 z6 z7 z8 z9 z10 z11 z12 : Value} (h1 : W.heap[w.heap.size + 1]? = some (.cells zSt 50 (0, 0))) (h2 : W.heap[w.heap.size + 1 + 1]? = some (.cells zStm 37 (0, 0))) :
 (((((((((((((((((((W.setCell ⟨w.heap.size + 1, 0, none⟩ y0).setCell ⟨w.heap.size + 1, 1, none⟩ y1).setCell ⟨w.heap.size + 1, 2, none⟩ y2).setCell ⟨w.heap.size + 1, 3, none⟩ y3).setCell ⟨w.heap.size + 1, 4, none⟩ y4).setCell ⟨w.heap.size + 1, 5, none⟩ y5).setCell ⟨w.heap.size + 1 + 1, 0, none⟩ z0).setCell ⟨w.heap.size + 1 + 1, 1, none⟩ z1).setCell ⟨w.heap.size + 1 + 1, 2, none⟩ z2).setCell ⟨w.heap.size + 1 + 1, 3, none⟩ z3).setCell ⟨w.heap.size + 1 + 1, 4, none⟩ z4).setCell ⟨w.heap.size + 1 + 1, 5, none⟩ z5).setCell ⟨w.heap.size + 1 + 1, 6, none⟩ z6).setCell ⟨w.heap.size + 1 + 1, 7, none⟩ z7).setCell ⟨w.heap.size + 1 + 1, 8, none⟩ z8).setCell ⟨w.heap.size + 1 + 1, 9, none⟩ z9).setCell ⟨w.heap.size + 1 + 1, 10, none⟩ z10).setCell ⟨w.heap.size + 1 + 1, 11, none⟩ z11).setCell ⟨w.heap.size + 1 + 1, 12, none⟩ z12).heap[w.heap.size + 1]? = some (.cells #[y0, y1, y2, y3, y4, y5] 50 (0, 0)) ∧ (((((((((((((((((((W.setCell ⟨w.heap.size + 1, 0, none⟩ y0).setCell ⟨w.heap.size + 1, 1, none⟩ y1).setCell ⟨w.heap.size + 1, 2, none⟩ y2).setCell ⟨w.heap.size + 1, 3, none⟩ y3).setCell ⟨w.heap.size + 1, 4, none⟩ y4).setCell ⟨w.heap.size + 1, 5, none⟩ y5).setCell ⟨w.heap.size + 1 + 1, 0, none⟩ z0).setCell ⟨w.heap.size + 1 + 1, 1, none⟩ z1).setCell ⟨w.heap.size + 1 + 1, 2, none⟩ z2).setCell ⟨w.heap.size + 1 + 1, 3, none⟩ z3).setCell ⟨w.heap.size + 1 + 1, 4, none⟩ z4).setCell ⟨w.heap.size + 1 + 1, 5, none⟩ z5).setCell ⟨w.heap.size + 1 + 1, 6, none⟩ z6).setCell ⟨w.heap.size + 1 + 1, 7, none⟩ z7).setCell ⟨w.heap.size + 1 + 1, 8, none⟩ z8).setCell ⟨w.heap.size + 1 + 1, 9, none⟩ z9).setCell ⟨w.heap.size + 1 + 1, 10, none⟩ z10).setCell ⟨w.heap.size + 1 + 1, 11, none⟩ z11).setCell ⟨w.heap.size + 1 + 1, 12, none⟩ z12).heap[w.heap.size + 1 + 1]? = some (.cells #[z0, z1, z2, z3, z4, z5, z6, z7, z8, z9, z10, z11, z12] 37 (0, 0)) := by
 have h2 := (blk_far (blk_far (blk_far (blk_far (blk_far (blk_far h2 (p := ⟨w.heap.size + 1, 0, none⟩) (by simp) y0) (p := ⟨w.heap.size + 1, 1, none⟩) (by simp) y1) (p := ⟨w.heap.size + 1, 2, none⟩) (by simp) y2) (p := ⟨w.heap.size + 1, 3, none⟩) (by simp) y3) (p := ⟨w.heap.size + 1, 4, none⟩) (by simp) y4) (p := ⟨w.heap.size + 1, 5, none⟩) (by simp) y5)
 have h2 := set13 (y0 := z0) (y1 := z1) (y2 := z2) (y3 := z3) (y4 := z4) (y5 := z5) (y6 := z6) (y7 := z7) (y8 := z8) (y9 := z9) (y10 := z10) (y11 := z11) (y12 := z12) h2
 have h1 := set6 (y0 := y0) (y1 := y1) (y2 := y2) (y3 := y3) (y4 := y4) (y5 := y5) h1
 exact ⟨(blk_far (blk_far (blk_far (blk_far (blk_far (blk_far (blk_far (blk_far (blk_far (blk_far (blk_far (blk_far (blk_far h1 (p := ⟨w.heap.size + 1 + 1, 0, none⟩) (by simp) z0) (p := ⟨w.heap.size + 1 + 1, 1, none⟩) (by simp) z1) (p := ⟨w.heap.size + 1 + 1, 2, none⟩) (by simp) z2) (p := ⟨w.heap.size + 1 + 1, 3, none⟩) (by simp) z3) (p := ⟨w.heap.size + 1 + 1, 4, none⟩) (by simp) z4) (p := ⟨w.heap.size + 1 + 1, 5, none⟩) (by simp) z5) (p := ⟨w.heap.size + 1 + 1, 6, none⟩) (by simp) z6) (p := ⟨w.heap.size + 1 + 1, 7, none⟩) (by simp) z7) (p := ⟨w.heap.size + 1 + 1, 8, none⟩) (by simp) z8) (p := ⟨w.heap.size + 1 + 1, 9, none⟩) (by simp) z9) (p := ⟨w.heap.size + 1 + 1, 10, none⟩) (by simp) z10) (p := ⟨w.heap.size + 1 + 1, 11, none⟩) (by simp) z11) (p := ⟨w.heap.size + 1 + 1, 12, none⟩) (by simp) z12), h2⟩
theorem keep19 {S : Nat → Prop} {w W : World} {B : Option Addr} {fl : List S40} {y0 y1 y2 y3 y4 y5 : Value} {z0 z1 z2 z3 z4 z5 z6 z7 z8 z9 z10 z11 z12 : Value} (hF : KeepC S W B fl) (hS1 : S (w.heap.size + 1)) (hS2 : S (w.heap.size + 1 + 1)) : KeepC S (((((((((((((((((((W.setCell ⟨w.heap.size + 1, 0, none⟩ y0).setCell ⟨w.heap.size + 1, 1, none⟩ y1).setCell ⟨w.heap.size + 1, 2, none⟩ y2).setCell ⟨w.heap.size + 1, 3, none⟩ y3).setCell ⟨w.heap.size + 1, 4, none⟩ y4).setCell ⟨w.heap.size + 1, 5, none⟩ y5).setCell ⟨w.heap.size + 1 + 1, 0, none⟩ z0).setCell ⟨w.heap.size + 1 + 1, 1, none⟩ z1).setCell ⟨w.heap.size + 1 + 1, 2, none⟩ z2).setCell ⟨w.heap.size + 1 + 1, 3, none⟩ z3).setCell ⟨w.heap.size + 1 + 1, 4, none⟩ z4).setCell ⟨w.heap.size + 1 + 1, 5, none⟩ z5).setCell ⟨w.heap.size + 1 + 1, 6, none⟩ z6).setCell ⟨w.heap.size + 1 + 1, 7, none⟩ z7).setCell ⟨w.heap.size + 1 + 1, 8, none⟩ z8).setCell ⟨w.heap.size + 1 + 1, 9, none⟩ z9).setCell ⟨w.heap.size + 1 + 1, 10, none⟩ z10).setCell ⟨w.heap.size + 1 + 1, 11, none⟩ z11).setCell ⟨w.heap.size + 1 + 1, 12, none⟩ z12) B fl :=
 (KeepC.set (KeepC.set (KeepC.set (KeepC.set (KeepC.set (KeepC.set (KeepC.set (KeepC.set (KeepC.set (KeepC.set (KeepC.set (KeepC.set (KeepC.set (KeepC.set (KeepC.set (KeepC.set (KeepC.set (KeepC.set (KeepC.set hF hS1 _) hS1 _) hS1 _) hS1 _) hS1 _) hS1 _) hS2 _) hS2 _) hS2 _) hS2 _) hS2 _) hS2 _) hS2 _) hS2 _) hS2 _) hS2 _) hS2 _) hS2 _) hS2 _)
theorem below19 {w W : World} {y0 y1 y2 y3 y4 y5 : Value} {z0 z1 z2 z3 z4 z5 z6 z7 z8 z9 z10 z11 z12 : Value} (hB : Below w.heap.size w W) : Below w.heap.size w (((((((((((((((((((W.setCell ⟨w.heap.size + 1, 0, none⟩ y0).setCell ⟨w.heap.size + 1, 1, none⟩ y1).setCell ⟨w.heap.size + 1, 2, none⟩ y2).setCell ⟨w.heap.size + 1, 3, none⟩ y3).setCell ⟨w.heap.size + 1, 4, none⟩ y4).setCell ⟨w.heap.size + 1, 5, none⟩ y5).setCell ⟨w.heap.size + 1 + 1, 0, none⟩ z0).setCell ⟨w.heap.size + 1 + 1, 1, none⟩ z1).setCell ⟨w.heap.size + 1 + 1, 2, none⟩ z2).setCell ⟨w.heap.size + 1 + 1, 3, none⟩ z3).setCell ⟨w.heap.size + 1 + 1, 4, none⟩ z4).setCell ⟨w.heap.size + 1 + 1, 5, none⟩ z5).setCell ⟨w.heap.size + 1 + 1, 6, none⟩ z6).setCell ⟨w.heap.size + 1 + 1, 7, none⟩ z7).setCell ⟨w.heap.size + 1 + 1, 8, none⟩ z8).setCell ⟨w.heap.size + 1 + 1, 9, none⟩ z9).setCell ⟨w.heap.size + 1 + 1, 10, none⟩ z10).setCell ⟨w.heap.size + 1 + 1, 11, none⟩ z11).setCell ⟨w.heap.size + 1 + 1, 12, none⟩ z12) := by
 have hw1 : w.heap.size ≤ w.heap.size + 1 := by omega
 have hw2 : w.heap.size ≤ w.heap.size + 1 + 1 := by omega
 exact (below_set (below_set (below_set (below_set (below_set (below_set (below_set (below_set (below_set (below_set (below_set (below_set (below_set (below_set (below_set (below_set (below_set (below_set (below_set hB hw1) hw1) hw1) hw1) hw1) hw1) hw2) hw2) hw2) hw2) hw2) hw2) hw2) hw2) hw2) hw2) hw2) hw2) hw2)
theorem far19 {α : Type} {d : Kd α} {w W : World} {e base : Nat} {ok : Nat → Prop} {v : Value} {xs : List α} {y0 y1 y2 y3 y4 y5 : Value} {z0 z1 z2 z3 z4 z5 z6 z7 z8 z9 z10 z11 z12 : Value} (hR : d.R e W base ok v xs) (hok1 : ∀ k, ok k → k ≠ w.heap.size + 1) (hok2 : ∀ k, ok k → k ≠ w.heap.size + 1 + 1) : d.R e (((((((((((((((((((W.setCell ⟨w.heap.size + 1, 0, none⟩ y0).setCell ⟨w.heap.size + 1, 1, none⟩ y1).setCell ⟨w.heap.size + 1, 2, none⟩ y2).setCell ⟨w.heap.size + 1, 3, none⟩ y3).setCell ⟨w.heap.size + 1, 4, none⟩ y4).setCell ⟨w.heap.size + 1, 5, none⟩ y5).setCell ⟨w.heap.size + 1 + 1, 0, none⟩ z0).setCell ⟨w.heap.size + 1 + 1, 1, none⟩ z1).setCell ⟨w.heap.size + 1 + 1, 2, none⟩ z2).setCell ⟨w.heap.size + 1 + 1, 3, none⟩ z3).setCell ⟨w.heap.size + 1 + 1, 4, none⟩ z4).setCell ⟨w.heap.size + 1 + 1, 5, none⟩ z5).setCell ⟨w.heap.size + 1 + 1, 6, none⟩ z6).setCell ⟨w.heap.size + 1 + 1, 7, none⟩ z7).setCell ⟨w.heap.size + 1 + 1, 8, none⟩ z8).setCell ⟨w.heap.size + 1 + 1, 9, none⟩ z9).setCell ⟨w.heap.size + 1 + 1, 10, none⟩ z10).setCell ⟨w.heap.size + 1 + 1, 11, none⟩ z11).setCell ⟨w.heap.size + 1 + 1, 12, none⟩ z12) base ok v xs :=
 (Kd.R_far (Kd.R_far (Kd.R_far (Kd.R_far (Kd.R_far (Kd.R_far (Kd.R_far (Kd.R_far (Kd.R_far (Kd.R_far (Kd.R_far (Kd.R_far (Kd.R_far (Kd.R_far (Kd.R_far (Kd.R_far (Kd.R_far (Kd.R_far (Kd.R_far hR hok1 _) hok1 _) hok1 _) hok1 _) hok1 _) hok1 _) hok2 _) hok2 _) hok2 _) hok2 _) hok2 _) hok2 _) hok2 _) hok2 _) hok2 _) hok2 _) hok2 _) hok2 _) hok2 _)
theorem stm_end {A : Option Addr} {c : Nat} {ts : List S67} {fin : Int} {S S2 : Nat → Prop} {w W W2 : World} {ox : Option S37} {s1 : Rs} {i1 fc1 base : Nat} {B1 : Option Addr} {x : S37} {Ak : Option Addr} {nk ck : Nat} {ok : Nat → Prop} {b : Bool}
 (hB : Below w.heap.size w W) (hi : i1 ≤ ts.length) (hs : s1.toks = ts.drop i1) (hf : s1.fl.length ≤ fc1) (hF : KeepC S2 W B1 s1.fl) (hSS : ∀ k, S k → S2 k) (hS1 : S2 (w.heap.size + 1)) (hS2 : S2 (w.heap.size + 1 + 1))
 (hk : ∀ y, ox = some y → y = x ∧ Kd.R k37 37 W base ok (.slice Ak nk ck) x.f6) (hok1 : ∀ k, ok k → k ≠ w.heap.size + 1) (hok2 : ∀ k, ok k → k ≠ w.heap.size + 1 + 1) (hbase : w.heap.size ≤ base) (hb : b = ox.isSome) (y0 y1 y2 y3 y4 y5 : Value) (z0 z1 z2 z3 z4 z5 z6 z7 z8 z9 z10 z11 z12 : Value)
 (hW : W2 = (((((((((((((((((((W.setCell ⟨w.heap.size + 1, 0, none⟩ y0).setCell ⟨w.heap.size + 1, 1, none⟩ y1).setCell ⟨w.heap.size + 1, 2, none⟩ y2).setCell ⟨w.heap.size + 1, 3, none⟩ y3).setCell ⟨w.heap.size + 1, 4, none⟩ y4).setCell ⟨w.heap.size + 1, 5, none⟩ y5).setCell ⟨w.heap.size + 1 + 1, 0, none⟩ z0).setCell ⟨w.heap.size + 1 + 1, 1, none⟩ z1).setCell ⟨w.heap.size + 1 + 1, 2, none⟩ z2).setCell ⟨w.heap.size + 1 + 1, 3, none⟩ z3).setCell ⟨w.heap.size + 1 + 1, 4, none⟩ z4).setCell ⟨w.heap.size + 1 + 1, 5, none⟩ z5).setCell ⟨w.heap.size + 1 + 1, 6, none⟩ z6).setCell ⟨w.heap.size + 1 + 1, 7, none⟩ z7).setCell ⟨w.heap.size + 1 + 1, 8, none⟩ z8).setCell ⟨w.heap.size + 1 + 1, 9, none⟩ z9).setCell ⟨w.heap.size + 1 + 1, 10, none⟩ z10).setCell ⟨w.heap.size + 1 + 1, 11, none⟩ z11).setCell ⟨w.heap.size + 1 + 1, 12, none⟩ z12)) :
 RStmO A c ts fin S w (ox, s1) (.returned (.tuple #[.agg (stV A ts.length c i1 fin s1.n B1 s1.fl.length fc1 s1.over), .agg (stmC x (.slice Ak nk ck)), .bool b])) W2 := by
 subst hW hb
 refine ⟨_, x, Ak, nk, ck, rfl, fun y hy => ?_, ⟨i1, B1, fc1, rfl, hi, hs, hf, KeepC.less (keep19 hF hS1 hS2) hSS⟩, below19 hB⟩
 obtain ⟨e, hR⟩ := hk y hy
 exact ⟨e, Kd.R_mono (Kd.R_lower (far19 hR hok1 hok2) hbase) (fun _ _ => trivial)⟩
theorem RStmO.drew {A : Option Addr} {c : Nat} {ts : List S67} {fin : Int} {S : Nat → Prop} {w W : World} {r : Option S37 × Rs} {e : Ending} (h : RStmO A c ts fin S w r e W) : RStmO A c ts fin S w r e W.drew := by
 obtain ⟨v, x, Ak, nk, ck, he, hk, ⟨i, B, fc, h1, h2, h3, h4, h5⟩, hB⟩ := h
 exact ⟨v, x, Ak, nk, ck, he, fun y hy => ⟨(hk y hy).1, Kd.R_drew (hk y hy).2⟩, ⟨i, B, fc, h1, h2, h3, h4, h5.below (below_drew (Below.refl _ _))⟩, below_drew hB⟩
theorem Fm.put {w W : World} {st : Array Value} {t : S67} {x y : S37} {kv kw : Value} {z0 z1 z2 z3 z4 z5 z6 z7 z8 z9 z10 z11 z12 : Value} (h : Fm w W st t x kv) (hy : #[z0, z1, z2, z3, z4, z5, z6, z7, z8, z9, z10, z11, z12] = stmC y kw) : Fm w (((((((((((((W.setCell ⟨w.heap.size + 1 + 1 + 1 + 1, 0, none⟩ z0).setCell ⟨w.heap.size + 1 + 1 + 1 + 1, 1, none⟩ z1).setCell ⟨w.heap.size + 1 + 1 + 1 + 1, 2, none⟩ z2).setCell ⟨w.heap.size + 1 + 1 + 1 + 1, 3, none⟩ z3).setCell ⟨w.heap.size + 1 + 1 + 1 + 1, 4, none⟩ z4).setCell ⟨w.heap.size + 1 + 1 + 1 + 1, 5, none⟩ z5).setCell ⟨w.heap.size + 1 + 1 + 1 + 1, 6, none⟩ z6).setCell ⟨w.heap.size + 1 + 1 + 1 + 1, 7, none⟩ z7).setCell ⟨w.heap.size + 1 + 1 + 1 + 1, 8, none⟩ z8).setCell ⟨w.heap.size + 1 + 1 + 1 + 1, 9, none⟩ z9).setCell ⟨w.heap.size + 1 + 1 + 1 + 1, 10, none⟩ z10).setCell ⟨w.heap.size + 1 + 1 + 1 + 1, 11, none⟩ z11).setCell ⟨w.heap.size + 1 + 1 + 1 + 1, 12, none⟩ z12) st t y kw := by
 have hw : w.heap.size ≤ w.heap.size + 1 + 1 + 1 + 1 := by omega
 refine ⟨(blk_far (blk_far (blk_far (blk_far (blk_far (blk_far (blk_far (blk_far (blk_far (blk_far (blk_far (blk_far (blk_far h.b0 (p := ⟨w.heap.size + 1 + 1 + 1 + 1, 0, none⟩) (by simp <;> omega) z0) (p := ⟨w.heap.size + 1 + 1 + 1 + 1, 1, none⟩) (by simp <;> omega) z1) (p := ⟨w.heap.size + 1 + 1 + 1 + 1, 2, none⟩) (by simp <;> omega) z2) (p := ⟨w.heap.size + 1 + 1 + 1 + 1, 3, none⟩) (by simp <;> omega) z3) (p := ⟨w.heap.size + 1 + 1 + 1 + 1, 4, none⟩) (by simp <;> omega) z4) (p := ⟨w.heap.size + 1 + 1 + 1 + 1, 5, none⟩) (by simp <;> omega) z5) (p := ⟨w.heap.size + 1 + 1 + 1 + 1, 6, none⟩) (by simp <;> omega) z6) (p := ⟨w.heap.size + 1 + 1 + 1 + 1, 7, none⟩) (by simp <;> omega) z7) (p := ⟨w.heap.size + 1 + 1 + 1 + 1, 8, none⟩) (by simp <;> omega) z8) (p := ⟨w.heap.size + 1 + 1 + 1 + 1, 9, none⟩) (by simp <;> omega) z9) (p := ⟨w.heap.size + 1 + 1 + 1 + 1, 10, none⟩) (by simp <;> omega) z10) (p := ⟨w.heap.size + 1 + 1 + 1 + 1, 11, none⟩) (by simp <;> omega) z11) (p := ⟨w.heap.size + 1 + 1 + 1 + 1, 12, none⟩) (by simp <;> omega) z12), (blk_far (blk_far (blk_far (blk_far (blk_far (blk_far (blk_far (blk_far (blk_far (blk_far (blk_far (blk_far (blk_far h.b1 (p := ⟨w.heap.size + 1 + 1 + 1 + 1, 0, none⟩) (by simp <;> omega) z0) (p := ⟨w.heap.size + 1 + 1 + 1 + 1, 1, none⟩) (by simp <;> omega) z1) (p := ⟨w.heap.size + 1 + 1 + 1 + 1, 2, none⟩) (by simp <;> omega) z2) (p := ⟨w.heap.size + 1 + 1 + 1 + 1, 3, none⟩) (by simp <;> omega) z3) (p := ⟨w.heap.size + 1 + 1 + 1 + 1, 4, none⟩) (by simp <;> omega) z4) (p := ⟨w.heap.size + 1 + 1 + 1 + 1, 5, none⟩) (by simp <;> omega) z5) (p := ⟨w.heap.size + 1 + 1 + 1 + 1, 6, none⟩) (by simp <;> omega) z6) (p := ⟨w.heap.size + 1 + 1 + 1 + 1, 7, none⟩) (by simp <;> omega) z7) (p := ⟨w.heap.size + 1 + 1 + 1 + 1, 8, none⟩) (by simp <;> omega) z8) (p := ⟨w.heap.size + 1 + 1 + 1 + 1, 9, none⟩) (by simp <;> omega) z9) (p := ⟨w.heap.size + 1 + 1 + 1 + 1, 10, none⟩) (by simp <;> omega) z10) (p := ⟨w.heap.size + 1 + 1 + 1 + 1, 11, none⟩) (by simp <;> omega) z11) (p := ⟨w.heap.size + 1 + 1 + 1 + 1, 12, none⟩) (by simp <;> omega) z12), (blk_far (blk_far (blk_far (blk_far (blk_far (blk_far (blk_far (blk_far (blk_far (blk_far (blk_far (blk_far (blk_far h.b2 (p := ⟨w.heap.size + 1 + 1 + 1 + 1, 0, none⟩) (by simp <;> omega) z0) (p := ⟨w.heap.size + 1 + 1 + 1 + 1, 1, none⟩) (by simp <;> omega) z1) (p := ⟨w.heap.size + 1 + 1 + 1 + 1, 2, none⟩) (by simp <;> omega) z2) (p := ⟨w.heap.size + 1 + 1 + 1 + 1, 3, none⟩) (by simp <;> omega) z3) (p := ⟨w.heap.size + 1 + 1 + 1 + 1, 4, none⟩) (by simp <;> omega) z4) (p := ⟨w.heap.size + 1 + 1 + 1 + 1, 5, none⟩) (by simp <;> omega) z5) (p := ⟨w.heap.size + 1 + 1 + 1 + 1, 6, none⟩) (by simp <;> omega) z6) (p := ⟨w.heap.size + 1 + 1 + 1 + 1, 7, none⟩) (by simp <;> omega) z7) (p := ⟨w.heap.size + 1 + 1 + 1 + 1, 8, none⟩) (by simp <;> omega) z8) (p := ⟨w.heap.size + 1 + 1 + 1 + 1, 9, none⟩) (by simp <;> omega) z9) (p := ⟨w.heap.size + 1 + 1 + 1 + 1, 10, none⟩) (by simp <;> omega) z10) (p := ⟨w.heap.size + 1 + 1 + 1 + 1, 11, none⟩) (by simp <;> omega) z11) (p := ⟨w.heap.size + 1 + 1 + 1 + 1, 12, none⟩) (by simp <;> omega) z12), (blk_far (blk_far (blk_far (blk_far (blk_far (blk_far (blk_far (blk_far (blk_far (blk_far (blk_far (blk_far (blk_far h.b3 (p := ⟨w.heap.size + 1 + 1 + 1 + 1, 0, none⟩) (by simp <;> omega) z0) (p := ⟨w.heap.size + 1 + 1 + 1 + 1, 1, none⟩) (by simp <;> omega) z1) (p := ⟨w.heap.size + 1 + 1 + 1 + 1, 2, none⟩) (by simp <;> omega) z2) (p := ⟨w.heap.size + 1 + 1 + 1 + 1, 3, none⟩) (by simp <;> omega) z3) (p := ⟨w.heap.size + 1 + 1 + 1 + 1, 4, none⟩) (by simp <;> omega) z4) (p := ⟨w.heap.size + 1 + 1 + 1 + 1, 5, none⟩) (by simp <;> omega) z5) (p := ⟨w.heap.size + 1 + 1 + 1 + 1, 6, none⟩) (by simp <;> omega) z6) (p := ⟨w.heap.size + 1 + 1 + 1 + 1, 7, none⟩) (by simp <;> omega) z7) (p := ⟨w.heap.size + 1 + 1 + 1 + 1, 8, none⟩) (by simp <;> omega) z8) (p := ⟨w.heap.size + 1 + 1 + 1 + 1, 9, none⟩) (by simp <;> omega) z9) (p := ⟨w.heap.size + 1 + 1 + 1 + 1, 10, none⟩) (by simp <;> omega) z10) (p := ⟨w.heap.size + 1 + 1 + 1 + 1, 11, none⟩) (by simp <;> omega) z11) (p := ⟨w.heap.size + 1 + 1 + 1 + 1, 12, none⟩) (by simp <;> omega) z12), ?_, (below_set (below_set (below_set (below_set (below_set (below_set (below_set (below_set (below_set (below_set (below_set (below_set (below_set h.B hw) hw) hw) hw) hw) hw) hw) hw) hw) hw) hw) hw) hw)⟩
 rw [← hy]
 exact set13 h.b4
theorem keep13 {S : Nat → Prop} {w W : World} {B : Option Addr} {fl : List S40} {z0 z1 z2 z3 z4 z5 z6 z7 z8 z9 z10 z11 z12 : Value} (hF : KeepC S W B fl) (hS : S (w.heap.size + 1 + 1 + 1 + 1)) : KeepC S (((((((((((((W.setCell ⟨w.heap.size + 1 + 1 + 1 + 1, 0, none⟩ z0).setCell ⟨w.heap.size + 1 + 1 + 1 + 1, 1, none⟩ z1).setCell ⟨w.heap.size + 1 + 1 + 1 + 1, 2, none⟩ z2).setCell ⟨w.heap.size + 1 + 1 + 1 + 1, 3, none⟩ z3).setCell ⟨w.heap.size + 1 + 1 + 1 + 1, 4, none⟩ z4).setCell ⟨w.heap.size + 1 + 1 + 1 + 1, 5, none⟩ z5).setCell ⟨w.heap.size + 1 + 1 + 1 + 1, 6, none⟩ z6).setCell ⟨w.heap.size + 1 + 1 + 1 + 1, 7, none⟩ z7).setCell ⟨w.heap.size + 1 + 1 + 1 + 1, 8, none⟩ z8).setCell ⟨w.heap.size + 1 + 1 + 1 + 1, 9, none⟩ z9).setCell ⟨w.heap.size + 1 + 1 + 1 + 1, 10, none⟩ z10).setCell ⟨w.heap.size + 1 + 1 + 1 + 1, 11, none⟩ z11).setCell ⟨w.heap.size + 1 + 1 + 1 + 1, 12, none⟩ z12) B fl :=
 (KeepC.set (KeepC.set (KeepC.set (KeepC.set (KeepC.set (KeepC.set (KeepC.set (KeepC.set (KeepC.set (KeepC.set (KeepC.set (KeepC.set (KeepC.set hF hS _) hS _) hS _) hS _) hS _) hS _) hS _) hS _) hS _) hS _) hS _) hS _) hS _)
theorem Fm.s7 {w W : World} {A B : Option Addr} {m c fm fc i : Nat} {fin n : Int} {o : Bool} {t : S67} {k cc : Int} {kv : Value} (h : Fm w W (stV A m c (i : Int) fin n B fm fc o) t (xOf k cc) kv) :
 W.cell? ⟨w.heap.size, 0, none⟩ = some (.slice A m c) ∧ W.cell? ⟨w.heap.size, 1, none⟩ = some (.int .i64 (i : Int)) ∧ W.cell? ⟨w.heap.size, 2, none⟩ = some (.int .i64 fin) ∧ W.cell? ⟨w.heap.size, 3, none⟩ = some (.int .i64 n) ∧ W.cell? ⟨w.heap.size, 4, none⟩ = some (.slice B fm fc) ∧ W.cell? ⟨w.heap.size, 5, none⟩ = some (.bool o) ∧ W.cell? ⟨w.heap.size + 1 + 1 + 1 + 1, 0, none⟩ = some (.int .i64 k) :=
 ⟨blk_cell h.b0 0, blk_cell h.b0 1, blk_cell h.b0 2, blk_cell h.b0 3, blk_cell h.b0 4, blk_cell h.b0 5, blk_cell h.b4 0⟩
theorem Fm.six {w W : World} {st : Array Value} {t : S67} {x : S37} {kv : Value} {b5 : Nat} {y0 y1 y2 y3 y4 y5 : Value} (h : Fm w W st t x kv) (hb : w.heap.size + 5 ≤ b5) : Fm w ((((((W.setCell ⟨b5, 0, none⟩ y0).setCell ⟨b5, 1, none⟩ y1).setCell ⟨b5, 2, none⟩ y2).setCell ⟨b5, 3, none⟩ y3).setCell ⟨b5, 4, none⟩ y4).setCell ⟨b5, 5, none⟩ y5) st t x kv := by
 have hw : w.heap.size ≤ b5 := by omega
 exact ⟨(blk_far (blk_far (blk_far (blk_far (blk_far (blk_far h.b0 (p := ⟨b5, 0, none⟩) (by simp <;> omega) y0) (p := ⟨b5, 1, none⟩) (by simp <;> omega) y1) (p := ⟨b5, 2, none⟩) (by simp <;> omega) y2) (p := ⟨b5, 3, none⟩) (by simp <;> omega) y3) (p := ⟨b5, 4, none⟩) (by simp <;> omega) y4) (p := ⟨b5, 5, none⟩) (by simp <;> omega) y5), (blk_far (blk_far (blk_far (blk_far (blk_far (blk_far h.b1 (p := ⟨b5, 0, none⟩) (by simp <;> omega) y0) (p := ⟨b5, 1, none⟩) (by simp <;> omega) y1) (p := ⟨b5, 2, none⟩) (by simp <;> omega) y2) (p := ⟨b5, 3, none⟩) (by simp <;> omega) y3) (p := ⟨b5, 4, none⟩) (by simp <;> omega) y4) (p := ⟨b5, 5, none⟩) (by simp <;> omega) y5), (blk_far (blk_far (blk_far (blk_far (blk_far (blk_far h.b2 (p := ⟨b5, 0, none⟩) (by simp <;> omega) y0) (p := ⟨b5, 1, none⟩) (by simp <;> omega) y1) (p := ⟨b5, 2, none⟩) (by simp <;> omega) y2) (p := ⟨b5, 3, none⟩) (by simp <;> omega) y3) (p := ⟨b5, 4, none⟩) (by simp <;> omega) y4) (p := ⟨b5, 5, none⟩) (by simp <;> omega) y5), (blk_far (blk_far (blk_far (blk_far (blk_far (blk_far h.b3 (p := ⟨b5, 0, none⟩) (by simp <;> omega) y0) (p := ⟨b5, 1, none⟩) (by simp <;> omega) y1) (p := ⟨b5, 2, none⟩) (by simp <;> omega) y2) (p := ⟨b5, 3, none⟩) (by simp <;> omega) y3) (p := ⟨b5, 4, none⟩) (by simp <;> omega) y4) (p := ⟨b5, 5, none⟩) (by simp <;> omega) y5), (blk_far (blk_far (blk_far (blk_far (blk_far (blk_far h.b4 (p := ⟨b5, 0, none⟩) (by simp <;> omega) y0) (p := ⟨b5, 1, none⟩) (by simp <;> omega) y1) (p := ⟨b5, 2, none⟩) (by simp <;> omega) y2) (p := ⟨b5, 3, none⟩) (by simp <;> omega) y3) (p := ⟨b5, 4, none⟩) (by simp <;> omega) y4) (p := ⟨b5, 5, none⟩) (by simp <;> omega) y5), (below_set (below_set (below_set (below_set (below_set (below_set h.B hw) hw) hw) hw) hw) hw)⟩
theorem keep6 {S : Nat → Prop} {W : World} {B : Option Addr} {fl : List S40} {b5 : Nat} {y0 y1 y2 y3 y4 y5 : Value} (hF : KeepC S W B fl) (hS : S b5) : KeepC S ((((((W.setCell ⟨b5, 0, none⟩ y0).setCell ⟨b5, 1, none⟩ y1).setCell ⟨b5, 2, none⟩ y2).setCell ⟨b5, 3, none⟩ y3).setCell ⟨b5, 4, none⟩ y4).setCell ⟨b5, 5, none⟩ y5) B fl :=
 (KeepC.set (KeepC.set (KeepC.set (KeepC.set (KeepC.set (KeepC.set hF hS _) hS _) hS _) hS _) hS _) hS _)
theorem far6 {α : Type} {d : Kd α} {W : World} {e base b5 : Nat} {ok : Nat → Prop} {v : Value} {xs : List α} {y0 y1 y2 y3 y4 y5 : Value} (hR : d.R e W base ok v xs) (hok : ∀ k, ok k → k ≠ b5) : d.R e ((((((W.setCell ⟨b5, 0, none⟩ y0).setCell ⟨b5, 1, none⟩ y1).setCell ⟨b5, 2, none⟩ y2).setCell ⟨b5, 3, none⟩ y3).setCell ⟨b5, 4, none⟩ y4).setCell ⟨b5, 5, none⟩ y5) base ok v xs :=
 (Kd.R_far (Kd.R_far (Kd.R_far (Kd.R_far (Kd.R_far (Kd.R_far hR hok _) hok _) hok _) hok _) hok _) hok _)
structure CutP (A : Option Addr) (c : Nat) (ts : List S67) (fin : Int) (S : Nat → Prop) (w wx : World) (st : Array Value) (t : S67) (x : S37) (kv : Value) (s1 : Rs) (l : List ByteArray) (b5 i1 : Nat) (B1 : Option Addr) (fc1 N : Nat) (A1 : Option Addr) (c1 : Nat) : Prop where
 hf : Fm w wx st t x kv
 h5 : w.heap.size + 5 ≤ b5
 hrow : wx.heap[b5]? = some (.cells (stV A ts.length c i1 fin s1.n B1 s1.fl.length fc1 s1.over) 50 (0, 0))
 hi : i1 ≤ ts.length
 ht : s1.toks = ts.drop i1
 hcc : s1.fl.length ≤ fc1
 hn : w.heap.size + 5 ≤ N
 hk : KeepC (fun k => (S k ∨ (w.heap.size ≤ k ∧ k < N)) ∨ k = b5) wx B1 s1.fl
 hs : Kd.R Kd.string 9 wx w.heap.size (fun k => w.heap.size + 5 ≤ k ∧ k ≠ b5) (.slice A1 l.length c1) l
section
variable {A : Option Addr} {c : Nat} {ts : List S67} {fin : Int} {S : Nat → Prop} {w wc w4 : World} {st : Array Value} {t : S67} {x : S37} {kv : Value} {s1 : Rs} {l : List ByteArray} {i1 : Nat} {B1 : Option Addr} {fc1 : Nat} {A1 : Option Addr} {c1 : Nat}
theorem CutP.after (hf : Fm w w4 st t x kv) (hc : w.heap.size + 5 ≤ wc.heap.size) (hb : wc.heap.size ≤ w4.heap.size) (hi : i1 ≤ ts.length) (ht : s1.toks = ts.drop i1) (hcc : s1.fl.length ≤ fc1) (hk : KeepC (fun k => S k ∨ (w.heap.size ≤ k ∧ k < wc.heap.size)) w4 B1 s1.fl) (hs : Kd.R Kd.string 9 w4 wc.heap.size (fun _ => True) (.slice A1 l.length c1) l) :
 CutP A c ts fin S w (w4.alloc (.cells (stV A ts.length c i1 fin s1.n B1 s1.fl.length fc1 s1.over) 50)) st t x kv s1 l w4.heap.size i1 B1 fc1 wc.heap.size A1 c1 := by
 refine ⟨hf.ext _, by omega, alloc_at rfl, hi, ht, hcc, hc, (hk.frame (below_alloc (Below.refl _ _) _)).less (fun k h => h.elim .inl (fun e => .inr ?_)), ?_⟩
 · subst e; simp
 · exact Kd.R_mono (Kd.R_lower (Kd.R_alloc (Kd.R_bound hs) _) (by omega)) (fun k h => ⟨by have := h.2.1; omega, by have := h.2.2.1; omega⟩)
theorem CutP.before {b5 : Nat} {y0 y1 y2 y3 y4 y5 : Value} (hf : Fm w w4 st t x kv) (hb5 : w.heap.size + 5 ≤ b5) (hbc : b5 < wc.heap.size) (hr : w4.heap[b5]? = some (.cells zSt 50 (0, 0))) (hi : i1 ≤ ts.length) (ht : s1.toks = ts.drop i1) (hcc : s1.fl.length ≤ fc1) (hk : KeepC (fun k => S k ∨ (w.heap.size ≤ k ∧ k < wc.heap.size)) w4 B1 s1.fl) (hs : Kd.R Kd.string 9 w4 wc.heap.size (fun _ => True) (.slice A1 l.length c1) l)
 (hy : #[y0, y1, y2, y3, y4, y5] = stV A ts.length c i1 fin s1.n B1 s1.fl.length fc1 s1.over) :
 CutP A c ts fin S w ((((((w4.setCell ⟨b5, 0, none⟩ y0).setCell ⟨b5, 1, none⟩ y1).setCell ⟨b5, 2, none⟩ y2).setCell ⟨b5, 3, none⟩ y3).setCell ⟨b5, 4, none⟩ y4).setCell ⟨b5, 5, none⟩ y5) st t x kv s1 l b5 i1 B1 fc1 wc.heap.size A1 c1 := by
 refine ⟨hf.six hb5, hb5, ?_, hi, ht, hcc, by omega, keep6 (hk.less (fun k h => h.elim id (fun e => .inr ⟨by omega, by omega⟩))) (.inr rfl), far6 ?_ (fun k h => h.2)⟩
 · rw [← hy]; exact set6 hr
 · exact Kd.R_mono (Kd.R_lower (Kd.R_bound hs) (by omega)) (fun k h => ⟨by have := h.2.1; omega, by have := h.2.1; omega⟩)
end
end
theorem rstmt_none1 (rec : Int → Rs → Option (List S37 × Rs)) (A : Option Addr) (c : Nat) (ts : List S67) (S : Nat → Prop) (w : World) (i : Nat) (fin n deep : Int) (B : Option Addr) (fc : Nat) (fl : List S40) (o : Bool) (r : Option S37 × Rs) (hI : Inp A c ts S w i B fc fl) (hlt : i < ts.length) (hr : rstmtK rec fin deep (keyS (rd_T67 ts (i : Int))) (rd_T67 ts (i : Int)).f2 ⟨ts.drop i, n, fl, o⟩ ⟨ts.drop (i + 1), n, fl, o⟩ = some r) (h1 : (rd_T67 ts (i : Int)).f0 = 1) (hk : kindS (rd_T67 ts (i : Int)).f1 = 0) :
 Calls Tryz.prog 35 #[.agg (stV A ts.length c i fin n B fl.length fc o), .int .i64 deep] w (RStmO A c ts fin S w r) := by
 have hu := Tryz.underlying50
 have hux := Tryz.underlying37
 have hn6 := hI.n
 have HI := Aside0.mk hI
 obtain ⟨ad, rfl, x0, x1, x2⟩ := at_T67 hI.C (i : Int) (by omega) (by omega)
 simp only [Int.toNat_natCast] at x0 x1 x2
 have hal := cell_lt x0
 have hi0 : ((0 : Int) ≤ (i : Int)) = True := eq_true (by omega)
 have hi1 : ((i : Int) < (ts.length : Int)) = True := eq_true (by omega)
 generalize rd_T67 ts (i : Int) = t at *
 have HR2 := Aside0.mk hr
 clear hr hI
 have HB3 := below_alloc (below_alloc (below_alloc (Below.refl w.heap.size w) (.cells (stV (some ad) ts.length c i fin n B fl.length fc o) 50)) (.cells zSt 50)) (.cells zStm 37)
 have y0 := (HB3.cell hal).trans x0
 have y1 := (HB3.cell (p := ⟨(ad.add (i * 3)).block, (ad.add (i * 3)).off + 1, none⟩) hal).trans x1
 have y2 := (HB3.cell (p := ⟨(ad.add (i * 3)).block, (ad.add (i * 3)).off + 2, none⟩) hal).trans x2
 have HB5 := Aside0.mk (below_alloc (below_alloc HB3 (.cells #[.int .i64 t.f0, .string t.f1, .int .i64 t.f2] 67)) (.cells (stmC (xOf 0 t.f2) (.slice none 0 0)) 37))
 have b1 : (t.f0 == 1) = true := beq_iff_eq.2 h1
 go_enter Tryz.func35, Tryz.ntmps35
 go_wp2_with fail
 refine (ambidexterref11_kind.calls 12 t.f1 (kindS t.f1) _ (kindR_f _ _ (by decide))).mono ?_
 rintro e w1 ⟨rfl, hb⟩
 have F1 : Fm w w1 (stV (some ad) ts.length c i fin n B fl.length fc o) t (xOf 0 t.f2) (.slice none 0 0) := Fm.below ⟨blk_alloc (blk_alloc (blk_alloc (blk_alloc (alloc_at rfl) _) _) _) _, blk_alloc (blk_alloc (blk_alloc (alloc_at (by simp)) _) _) _, blk_alloc (blk_alloc (alloc_at (by simp)) _) _, by rw [h1]; exact blk_alloc (alloc_at (by simp)) _, alloc_at (by simp), by have := HB5.out; rw [h1] at this; exact this⟩ hb
 have hk1 : keyS t = kindS t.f1 := by unfold keyS; rw [if_pos h1]
 have HR2 := Aside0.mk (show rstmtK rec fin deep (kindS t.f1) t.f2 ⟨ts.drop i, n, fl, o⟩ ⟨ts.drop (i + 1), n, fl, o⟩ = some r from hk1 ▸ HR2.out)
 clear hb HB5 HB3 y0 y1 y2 x0 x1 x2 hk1
 have hk9 := (kind_range t.f1).2
 have hk0 := (kind_range t.f1).1
 generalize kindS t.f1 = k at *
 subst hk
 have F2 := Aside0.mk (F1.kind (k' := 0))
 have hz := row13 F1.b4
 have hs0 := F1.sz
 clear F1
 go_split_ands
 go_wp2_with fail
 generalize w1.setCell ⟨w.heap.size + 1 + 1 + 1 + 1, 0, none⟩ (.int .i64 0) = W at *
 obtain ⟨s1, hs1⟩ : ∃ s1, rtoldS 110 t.f2 ⟨ts.drop i, n, fl, o⟩ = s1 := ⟨_, rfl⟩
 have HR3 : r = (none, s1) := by rw [← hs1]; have := HR2.out; rw [rstmtK, if_pos rfl] at this; exact (Option.some.inj this).symm
 subst HR3
 have HS1 := Aside0.mk hs1
 clear HR2 hs1
 have hz := row13 F2.out.b4
 simp only [xOf] at hz
 have hz3 := tok3 F2.out.b3
 have hz0 := row6 F2.out.b0
 have hs0 := F2.out.sz
 have hl0 := blk_lt F2.out.b0
 have hl4 := blk_lt F2.out.b4
 go_split_ands
 go_region_with (first | (go_at_call 56; (with_reducible refine (told_calls (some ad) c ts i fin n B fc fl o 110 t.f2 _ (Kd.C_below HI.out.C (by first | exact F2.out.B | exact F2.out.drew.B | exact (F2.out.drewN _).B)) HI.out.c HI.out.i (HI.out.F.below (by first | exact F2.out.B | exact F2.out.drew.B | exact (F2.out.drewN _).B)).here HI.out.f HI.out.l HI.out.n).mono ?_); rintro e w2 hto; obtain ⟨i1, B1, fc1, rfl, hi1, hs2, hf1, hF1, hb⟩ := told_is hto HS1.out; have F3 := Aside0.mk (Fm.below (by first | exact F2.out | exact F2.out.drew | exact F2.out.drewN _) hb); have hF1 := Kd.R_lower hF1 (Nat.le_of_lt (by first | exact F2.out.sz | exact F2.out.drew.sz | exact (F2.out.drewN _).sz)); have HF1 := Aside0.mk hF1; have HSd := Aside0.mk hs2; have hz4 := row13 F3.out.b4; have hz5 := row6 F3.out.b1; have hz6 := row13 F3.out.b2; have hsz := F3.out.sz; clear hto hb hF1 hs2; go_split_ands))
 all_goals
  go_wp2_with fail
  refine bodyPost_ret (results_cct rfl _ _ (w.heap.size + 1) (w.heap.size + 1 + 1) 50 37 (stV (some ad) ts.length c i1 fin s1.n B1 s1.fl.length fc1 s1.over) (stmC (xOf 0 t.f2) (.slice none 0 0)) (0, 0) (0, 0) _ _ rfl (end_rows F3.out.b1 F3.out.b2).1 hu rfl sizeSt rfl (end_rows F3.out.b1 F3.out.b2).2 hux rfl sizeStm) rfl ?_
  exact stm_end (S2 := fun k => k < w.heap.size + 1 + 1 + 1) (ok := fun _ => False) (base := w.heap.size) F3.out.B hi1 HSd.out hf1 (keep_of_R HF1.out (fun k hk => by omega)) (fun k hk => by have := HI.out.S k hk; omega) (by omega) (by omega) (fun y hy => by cases hy) (fun _ h => h.elim) (fun _ h => h.elim) (Nat.le_refl _) rfl _ _ _ _ _ _ _ _ _ _ _ _ _ _ _ _ _ _ _ rfl
theorem rstmt_none2 (rec : Int → Rs → Option (List S37 × Rs)) (A : Option Addr) (c : Nat) (ts : List S67) (S : Nat → Prop) (w : World) (i : Nat) (fin n deep : Int) (B : Option Addr) (fc : Nat) (fl : List S40) (o : Bool) (r : Option S37 × Rs) (hI : Inp A c ts S w i B fc fl) (hlt : i < ts.length) (hr : rstmtK rec fin deep (keyS (rd_T67 ts (i : Int))) (rd_T67 ts (i : Int)).f2 ⟨ts.drop i, n, fl, o⟩ ⟨ts.drop (i + 1), n, fl, o⟩ = some r) (h1 : (rd_T67 ts (i : Int)).f0 ≠ 1) :
 Calls Tryz.prog 35 #[.agg (stV A ts.length c i fin n B fl.length fc o), .int .i64 deep] w (RStmO A c ts fin S w r) := by
 have hu := Tryz.underlying50
 have hux := Tryz.underlying37
 have hn6 := hI.n
 have HI := Aside0.mk hI
 obtain ⟨ad, rfl, x0, x1, x2⟩ := at_T67 hI.C (i : Int) (by omega) (by omega)
 simp only [Int.toNat_natCast] at x0 x1 x2
 have hal := cell_lt x0
 have hi0 : ((0 : Int) ≤ (i : Int)) = True := eq_true (by omega)
 have hi1 : ((i : Int) < (ts.length : Int)) = True := eq_true (by omega)
 generalize rd_T67 ts (i : Int) = t at *
 have HR2 := Aside0.mk hr
 clear hr hI
 have HB3 := below_alloc (below_alloc (below_alloc (Below.refl w.heap.size w) (.cells (stV (some ad) ts.length c i fin n B fl.length fc o) 50)) (.cells zSt 50)) (.cells zStm 37)
 have y0 := (HB3.cell hal).trans x0
 have y1 := (HB3.cell (p := ⟨(ad.add (i * 3)).block, (ad.add (i * 3)).off + 1, none⟩) hal).trans x1
 have y2 := (HB3.cell (p := ⟨(ad.add (i * 3)).block, (ad.add (i * 3)).off + 2, none⟩) hal).trans x2
 have HB5 := Aside0.mk (below_alloc (below_alloc HB3 (.cells #[.int .i64 t.f0, .string t.f1, .int .i64 t.f2] 67)) (.cells (stmC (xOf 0 t.f2) (.slice none 0 0)) 37))
 have b1 : (t.f0 == 1) = false := beq_eq_false_iff_ne.2 h1
 have hk1 : keyS t = 0 := by unfold keyS; rw [if_neg h1]
 have HR2 := Aside0.mk (show rstmtK rec fin deep 0 t.f2 ⟨ts.drop i, n, fl, o⟩ ⟨ts.drop (i + 1), n, fl, o⟩ = some r from hk1 ▸ HR2.out)
 clear hk1
 have F2 := Aside0.mk (show Fm w (((((w.alloc (.cells (stV (some ad) ts.length c i fin n B fl.length fc o) 50)).alloc (.cells zSt 50)).alloc (.cells zStm 37)).alloc (.cells #[.int .i64 t.f0, .string t.f1, .int .i64 t.f2] 67)).alloc (.cells #[.int .i64 0, .int .i64 0, .string ⟨#[]⟩, .string ⟨#[]⟩, .int .i64 0, .int .i64 0, .int .i64 0, .int .i64 0, .int .i64 0, .int .i64 0, .int .i64 0, .slice none 0 0, .int .i64 t.f2] 37)) (stV (some ad) ts.length c i fin n B fl.length fc o) t (xOf 0 t.f2) (.slice none 0 0) from ⟨blk_alloc (blk_alloc (blk_alloc (blk_alloc (alloc_at rfl) _) _) _) _, blk_alloc (blk_alloc (blk_alloc (alloc_at (by simp)) _) _) _, blk_alloc (blk_alloc (alloc_at (by simp)) _) _, blk_alloc (alloc_at (by simp)) _, alloc_at (by simp), HB5.out⟩)
 go_enter Tryz.func35, Tryz.ntmps35
 go_wp2_with fail
 generalize ((((w.alloc (.cells (stV (some ad) ts.length c i fin n B fl.length fc o) 50)).alloc (.cells zSt 50)).alloc (.cells zStm 37)).alloc (.cells #[.int .i64 t.f0, .string t.f1, .int .i64 t.f2] 67)).alloc (.cells #[.int .i64 0, .int .i64 0, .string ⟨#[]⟩, .string ⟨#[]⟩, .int .i64 0, .int .i64 0, .int .i64 0, .int .i64 0, .int .i64 0, .int .i64 0, .int .i64 0, .slice none 0 0, .int .i64 t.f2] 37) = W at *
 clear HB5 HB3 y0 y1 y2 x0 x1 x2
 obtain ⟨s1, hs1⟩ : ∃ s1, rtoldS 110 t.f2 ⟨ts.drop i, n, fl, o⟩ = s1 := ⟨_, rfl⟩
 have HR3 : r = (none, s1) := by rw [← hs1]; have := HR2.out; rw [rstmtK, if_pos rfl] at this; exact (Option.some.inj this).symm
 subst HR3
 have HS1 := Aside0.mk hs1
 clear HR2 hs1
 have hz := row13 F2.out.b4
 simp only [xOf] at hz
 have hz3 := tok3 F2.out.b3
 have hz0 := row6 F2.out.b0
 have hs0 := F2.out.sz
 have hl0 := blk_lt F2.out.b0
 have hl4 := blk_lt F2.out.b4
 go_split_ands
 go_region_with (first | (go_at_call 56; (with_reducible refine (told_calls (some ad) c ts i fin n B fc fl o 110 t.f2 _ (Kd.C_below HI.out.C (by first | exact F2.out.B | exact F2.out.drew.B | exact (F2.out.drewN _).B)) HI.out.c HI.out.i (HI.out.F.below (by first | exact F2.out.B | exact F2.out.drew.B | exact (F2.out.drewN _).B)).here HI.out.f HI.out.l HI.out.n).mono ?_); rintro e w2 hto; obtain ⟨i1, B1, fc1, rfl, hi1, hs2, hf1, hF1, hb⟩ := told_is hto HS1.out; have F3 := Aside0.mk (Fm.below (by first | exact F2.out | exact F2.out.drew | exact F2.out.drewN _) hb); have hF1 := Kd.R_lower hF1 (Nat.le_of_lt (by first | exact F2.out.sz | exact F2.out.drew.sz | exact (F2.out.drewN _).sz)); have HF1 := Aside0.mk hF1; have HSd := Aside0.mk hs2; have hz4 := row13 F3.out.b4; have hz5 := row6 F3.out.b1; have hz6 := row13 F3.out.b2; have hsz := F3.out.sz; clear hto hb hF1 hs2; go_split_ands))
 all_goals
  go_wp2_with fail
  refine bodyPost_ret (results_cct rfl _ _ (w.heap.size + 1) (w.heap.size + 1 + 1) 50 37 (stV (some ad) ts.length c i1 fin s1.n B1 s1.fl.length fc1 s1.over) (stmC (xOf 0 t.f2) (.slice none 0 0)) (0, 0) (0, 0) _ _ rfl (end_rows F3.out.b1 F3.out.b2).1 hu rfl sizeSt rfl (end_rows F3.out.b1 F3.out.b2).2 hux rfl sizeStm) rfl ?_
  exact stm_end (S2 := fun k => k < w.heap.size + 1 + 1 + 1) (ok := fun _ => False) (base := w.heap.size) F3.out.B hi1 HSd.out hf1 (keep_of_R HF1.out (fun k hk => by omega)) (fun k hk => by have := HI.out.S k hk; omega) (by omega) (by omega) (fun y hy => by cases hy) (fun _ h => h.elim) (fun _ h => h.elim) (Nat.le_refl _) rfl _ _ _ _ _ _ _ _ _ _ _ _ _ _ _ _ _ _ _ rfl
theorem rstmt_big (rec : Int → Rs → Option (List S37 × Rs)) (A : Option Addr) (c : Nat) (ts : List S67) (S : Nat → Prop) (w : World) (i : Nat) (fin n deep : Int) (B : Option Addr) (fc : Nat) (fl : List S40) (o : Bool) (r : Option S37 × Rs) (hI : Inp A c ts S w i B fc fl) (hlt : i < ts.length) (hr : rstmtK rec fin deep (keyS (rd_T67 ts (i : Int))) (rd_T67 ts (i : Int)).f2 ⟨ts.drop i, n, fl, o⟩ ⟨ts.drop (i + 1), n, fl, o⟩ = some r) (h1 : (rd_T67 ts (i : Int)).f0 = 1) (hk : kindS (rd_T67 ts (i : Int)).f1 = 7) (hdp : deep = 4) :
 Calls Tryz.prog 35 #[.agg (stV A ts.length c i fin n B fl.length fc o), .int .i64 deep] w (RStmO A c ts fin S w r) := by
 have hu := Tryz.underlying50
 have hux := Tryz.underlying37
 have hn6 := hI.n
 have HI := Aside0.mk hI
 obtain ⟨ad, rfl, x0, x1, x2⟩ := at_T67 hI.C (i : Int) (by omega) (by omega)
 simp only [Int.toNat_natCast] at x0 x1 x2
 have hal := cell_lt x0
 have hi0 : ((0 : Int) ≤ (i : Int)) = True := eq_true (by omega)
 have hi1 : ((i : Int) < (ts.length : Int)) = True := eq_true (by omega)
 generalize rd_T67 ts (i : Int) = t at *
 have HR2 := Aside0.mk hr
 clear hr hI
 have HB3 := below_alloc (below_alloc (below_alloc (Below.refl w.heap.size w) (.cells (stV (some ad) ts.length c i fin n B fl.length fc o) 50)) (.cells zSt 50)) (.cells zStm 37)
 have y0 := (HB3.cell hal).trans x0
 have y1 := (HB3.cell (p := ⟨(ad.add (i * 3)).block, (ad.add (i * 3)).off + 1, none⟩) hal).trans x1
 have y2 := (HB3.cell (p := ⟨(ad.add (i * 3)).block, (ad.add (i * 3)).off + 2, none⟩) hal).trans x2
 have HB5 := Aside0.mk (below_alloc (below_alloc HB3 (.cells #[.int .i64 t.f0, .string t.f1, .int .i64 t.f2] 67)) (.cells (stmC (xOf 0 t.f2) (.slice none 0 0)) 37))
 have b1 : (t.f0 == 1) = true := beq_iff_eq.2 h1
 go_enter Tryz.func35, Tryz.ntmps35
 go_wp2_with fail
 refine (ambidexterref11_kind.calls 12 t.f1 (kindS t.f1) _ (kindR_f _ _ (by decide))).mono ?_
 rintro e w1 ⟨rfl, hb⟩
 have F1 : Fm w w1 (stV (some ad) ts.length c i fin n B fl.length fc o) t (xOf 0 t.f2) (.slice none 0 0) := Fm.below ⟨blk_alloc (blk_alloc (blk_alloc (blk_alloc (alloc_at rfl) _) _) _) _, blk_alloc (blk_alloc (blk_alloc (alloc_at (by simp)) _) _) _, blk_alloc (blk_alloc (alloc_at (by simp)) _) _, by rw [h1]; exact blk_alloc (alloc_at (by simp)) _, alloc_at (by simp), by have := HB5.out; rw [h1] at this; exact this⟩ hb
 have hk1 : keyS t = kindS t.f1 := by unfold keyS; rw [if_pos h1]
 have HR2 := Aside0.mk (show rstmtK rec fin deep (kindS t.f1) t.f2 ⟨ts.drop i, n, fl, o⟩ ⟨ts.drop (i + 1), n, fl, o⟩ = some r from hk1 ▸ HR2.out)
 clear hb HB5 HB3 y0 y1 y2 x0 x1 x2 hk1
 have hk9 := (kind_range t.f1).2
 have hk0 := (kind_range t.f1).1
 generalize kindS t.f1 = k at *
 subst hk hdp
 have F2 := Aside0.mk (F1.kind (k' := 7)).next
 have hz := row13 F1.b4
 have hz0 := row6 F1.b0
 have hs0 := F1.sz
 clear F1
 go_split_ands
 go_wp2_with fail
 generalize (w1.setCell ⟨w.heap.size + 1 + 1 + 1 + 1, 0, none⟩ (.int .i64 7)).setCell ⟨w.heap.size, 1, none⟩ (.int .i64 ((i : Int) + 1)) = W at *
 have hjl : i + 1 ≤ ts.length := hlt
 generalize hj : i + 1 = j at *
 clear hj
 obtain ⟨s1, hs1⟩ : ∃ s1, rtoldS 2 t.f2 ⟨ts.drop j, n, fl, o⟩ = s1 := ⟨_, rfl⟩
 have HR3 : r = (none, s1) := by rw [← hs1]; have := HR2.out; rw [rstmtK, if_neg (by decide), if_pos ⟨rfl, rfl⟩] at this; exact (Option.some.inj this).symm
 subst HR3
 have HS1 := Aside0.mk hs1
 clear HR2 hs1
 have hz := row13 F2.out.b4
 simp only [xOf] at hz
 have hz3 := tok3 F2.out.b3
 have hz0 := row6 F2.out.b0
 have hs0 := F2.out.sz
 have hl0 := blk_lt F2.out.b0
 have hl4 := blk_lt F2.out.b4
 go_split_ands
 go_region_with (first | (go_at_call 56; (with_reducible refine (told_calls (some ad) c ts j fin n B fc fl o 2 t.f2 _ (Kd.C_below HI.out.C (by first | exact F2.out.B | exact F2.out.drew.B | exact (F2.out.drewN _).B)) HI.out.c hjl (HI.out.F.below (by first | exact F2.out.B | exact F2.out.drew.B | exact (F2.out.drewN _).B)).here HI.out.f HI.out.l HI.out.n).mono ?_); rintro e w2 hto; obtain ⟨i1, B1, fc1, rfl, hi1, hs2, hf1, hF1, hb⟩ := told_is hto HS1.out; have F3 := Aside0.mk (Fm.below (by first | exact F2.out | exact F2.out.drew | exact F2.out.drewN _) hb); have hF1 := Kd.R_lower hF1 (Nat.le_of_lt (by first | exact F2.out.sz | exact F2.out.drew.sz | exact (F2.out.drewN _).sz)); have HF1 := Aside0.mk hF1; have HSd := Aside0.mk hs2; have hz4 := row13 F3.out.b4; have hz5 := row6 F3.out.b1; have hz6 := row13 F3.out.b2; have hsz := F3.out.sz; clear hto hb hF1 hs2; go_split_ands))
 all_goals
  go_wp2_with fail
  refine bodyPost_ret (results_cct rfl _ _ (w.heap.size + 1) (w.heap.size + 1 + 1) 50 37 (stV (some ad) ts.length c i1 fin s1.n B1 s1.fl.length fc1 s1.over) (stmC (xOf 7 t.f2) (.slice none 0 0)) (0, 0) (0, 0) _ _ rfl (end_rows F3.out.b1 F3.out.b2).1 hu rfl sizeSt rfl (end_rows F3.out.b1 F3.out.b2).2 hux rfl sizeStm) rfl ?_
  exact stm_end (S2 := fun k => k < w.heap.size + 1 + 1 + 1) (ok := fun _ => False) (base := w.heap.size) F3.out.B hi1 HSd.out hf1 (keep_of_R HF1.out (fun k hk => by omega)) (fun k hk => by have := HI.out.S k hk; omega) (by omega) (by omega) (fun y hy => by cases hy) (fun _ h => h.elim) (fun _ h => h.elim) (Nat.le_refl _) rfl _ _ _ _ _ _ _ _ _ _ _ _ _ _ _ _ _ _ _ rfl
end Go.Proofs.YtonhcfecfifghaaGreatDoor.PPx
