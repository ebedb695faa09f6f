-- written by a program of this seat (wip/tools/printx.py) with the kit's print and the texts given beside it
import Derived.Test.YtiikijdkhmbdbaaPLxx0
namespace Go.Proofs.Ytiikijdkhmbdbaa.PLx
open Go.RowKit Go.Proofs.YtiikijdkhmbdbaaW.PrintWords Go.Proofs.YtiikijdkhmbdbaaW.PrintLast Go.Proofs.YtiikijdkhmbdbaaW.PrintMore
attribute [local go_sem] max2_int min2_int max_two min_two max_three min_three max_four min_four   -- for this text's walks alone
set_option linter.unusedVariables false
set_option linter.unusedSimpArgs false

/-! ### lexer_text_while: function 22 -/
-- (its contract stands with skip)

/-! ### lexer_what: function 31 -/
-- (its contract stands with now)

/-- A state of type 40 at block g of W; what its slices lead to came in by w0. -/
def IsS40 (w0 W : World) (g : Nat) (f0 : ByteArray) (f1 : Int) : Prop := W.heap[g]? = some (.cells #[.string f0, .int .i64 f1] 40 (0, 0)) ∧ w0.heap.size ≤ g
theorem IsS40.grown {w0 W : World} {g : Nat} {f0 : ByteArray} {f1 : Int} {W1 : World} {row : Option Nat} (h : IsS40 w0 W g f0 f1) (hw : W.grownBy W1 row) (hne : some g ≠ row) : IsS40 w0 W1 g f0 f1 := by
  obtain ⟨hb, hg⟩ := h
  exact ⟨blk_grown hb hw hne, hg⟩
theorem IsS40.own_neN {w0 W : World} {g : Nat} {f0 : ByteArray} {f1 : Int} {α : Type} {d : Kd α} {e : Nat} {base : Nat} {ok : Nat → Prop} {v : Value} {xs : List α} (h : IsS40 w0 W g f0 f1) (ho : Kd.N d e W base ok v xs) (ht : e ≠ 40) : some g ≠ v.ownBlock := by
  obtain ⟨hb, hg⟩ := h
  exact Kd.N_ne ho hb ht
theorem IsS40.fresh {w0 W : World} {g : Nat} {f0 : ByteArray} {f1 : Int} (h : IsS40 w0 W g f0 f1) : ∀ k, W.heap.size ≤ k → k ≠ g := by
  obtain ⟨hb, hg⟩ := h
  exact Kd.freshB hb
theorem IsS40.kept {w0 W : World} {g : Nat} {f0 : ByteArray} {f1 : Int} {W1 : World} {S : Nat → Prop} (h : IsS40 w0 W g f0 f1) (hk : Kept W W1 S) (hne : ¬ S g) : IsS40 w0 W1 g f0 f1 := by
  obtain ⟨hb, hg⟩ := h
  exact ⟨blk_kept hb hk hne, hg⟩
theorem IsS40.below {w0 W : World} {g : Nat} {f0 : ByteArray} {f1 : Int} {W1 : World} (h : IsS40 w0 W g f0 f1) (hw : Below W.heap.size W W1) : IsS40 w0 W1 g f0 f1 := h.grown (grown_of_below hw none) (by simp)
theorem IsS40.alloc {w0 W : World} {g : Nat} {f0 : ByteArray} {f1 : Int} (h : IsS40 w0 W g f0 f1) (o : Obj) : IsS40 w0 (W.alloc o) g f0 f1 := h.below (below_alloc (Below.refl _ _) o)
theorem IsS40.drewN {w0 W : World} {g : Nat} {f0 : ByteArray} {f1 : Int} (h : IsS40 w0 W g f0 f1) (m : Nat) : IsS40 w0 (W.drewN m) g f0 f1 := h
theorem IsS40.drew {w0 W : World} {g : Nat} {f0 : ByteArray} {f1 : Int} (h : IsS40 w0 W g f0 f1) : IsS40 w0 W.drew g f0 f1 := h
theorem IsS40.at_ {w0 W : World} {g : Nat} {f0 : ByteArray} {f1 : Int} {w' : World} {m : Nat} (hq : W.drewN m = w') (h : IsS40 w0 W g f0 f1) : IsS40 w0 w' g f0 f1 := by subst hq; exact IsS40.drewN h m
theorem IsS40.apart {w0 W : World} {g : Nat} {f0 : ByteArray} {f1 : Int} {α : Type} {d : Kd α} {e : Nat} {base : Nat} {ok : Nat → Prop} {v : Value} {xs : List α} (h : IsS40 w0 W g f0 f1) (ho : d.R e W base ok v xs) (ht : ∀ q, q ∈ e :: d.E → q ≠ 40) : d.R e W base (fun k => ok k ∧ k ≠ g) v xs := by
  obtain ⟨hb, hg⟩ := h
  exact Kd.R_types ho hb ht
theorem IsS40.own_ne {w0 W : World} {g : Nat} {f0 : ByteArray} {f1 : Int} {α : Type} {d : Kd α} {e : Nat} {base : Nat} {ok : Nat → Prop} {v : Value} {xs : List α} (h : IsS40 w0 W g f0 f1) (ho : d.R e W base ok v xs) (ht : e ≠ 40) : some g ≠ v.ownBlock := by
  obtain ⟨hb, hg⟩ := h
  exact Kd.R_ne ho hb ht
theorem IsS40.apartQ {w0 W : World} {g : Nat} {f0 : ByteArray} {f1 : Int} {α : Type} {d : Kd α} {e : Nat} {base : Nat} {ok : Nat → Prop} {v : Value} {xs : List α} (h : IsS40 w0 W g f0 f1) (ho : d.Q e W base ok v xs) (ht : ∀ q, q ∈ e :: d.E → q ≠ 40) : d.Q e W base (fun k => ok k ∧ k ≠ g) v xs := by
  obtain ⟨hb, hg⟩ := h
  exact Kd.Q_types ho hb ht
theorem IsS40.own_neQ {w0 W : World} {g : Nat} {f0 : ByteArray} {f1 : Int} {α : Type} {d : Kd α} {e : Nat} {base : Nat} {ok : Nat → Prop} {v : Value} {xs : List α} (h : IsS40 w0 W g f0 f1) (ho : d.Q e W base ok v xs) (ht : e ≠ 40) : some g ≠ v.ownBlock := by
  obtain ⟨hb, hg⟩ := h
  exact Kd.Q_ne ho hb ht
theorem IsS40.apartS {w0 W : World} {g : Nat} {f0 : ByteArray} {f1 : Int} {α : Type} {d : Kd α} {e : Nat} {base : Nat} {ok : Nat → Prop} {v : Value} {xs : List α} (h : IsS40 w0 W g f0 f1) (ho : d.S e W base ok v xs) (ht : ∀ q, q ∈ e :: d.E → q ≠ 40) : d.S e W base (fun k => ok k ∧ k ≠ g) v xs := by
  obtain ⟨hb, hg⟩ := h
  exact Kd.S_types ho hb ht
theorem IsS40.own_neS {w0 W : World} {g : Nat} {f0 : ByteArray} {f1 : Int} {α : Type} {d : Kd α} {e : Nat} {base : Nat} {ok : Nat → Prop} {v : Value} {xs : List α} (h : IsS40 w0 W g f0 f1) (ho : d.S e W base ok v xs) (ht : e ≠ 40) : some g ≠ v.ownBlock := by
  obtain ⟨hb, hg⟩ := h
  exact Kd.S_ne ho hb ht
theorem IsS40.lt {w0 W : World} {g : Nat} {f0 : ByteArray} {f1 : Int} (h : IsS40 w0 W g f0 f1) : g < W.heap.size := by
  obtain ⟨hb, hg⟩ := h
  exact blk_lt hb
theorem IsS40.ge {w0 W : World} {g : Nat} {f0 : ByteArray} {f1 : Int} (h : IsS40 w0 W g f0 f1) : w0.heap.size ≤ g := by
  obtain ⟨hb, hg⟩ := h
  exact hg
theorem IsS40.ne_blk {w0 W : World} {g : Nat} {f0 : ByteArray} {f1 : Int} {a : Nat} {cs : Array Value} {t : TypeId} {fr : Nat × Nat} (h : IsS40 w0 W g f0 f1) (hb2 : W.heap[a]? = some (.cells cs t fr)) (ht : t ≠ 40) : g ≠ a := by
  obtain ⟨hb, hg⟩ := h
  rintro rfl
  rw [hb] at hb2
  injection hb2 with hb2
  injection hb2 with _ ht2
  exact ht ht2.symm
theorem IsS40.far {w0 W : World} {g : Nat} {f0 : ByteArray} {f1 : Int} {p : Addr} (h : IsS40 w0 W g f0 f1) (hne : g ≠ p.block) (u : Value) : IsS40 w0 (W.setCell p u) g f0 f1 := by
  obtain ⟨hb, hg⟩ := h
  exact ⟨blk_far hb hne u, hg⟩
theorem cellS40_0 {W : World} {g : Nat} {f0 : ByteArray} {f1 : Int} (h : W.heap[g]? = some (.cells #[.string f0, .int .i64 f1] 40 (0, 0))) : W.cell? ⟨g, 0, none⟩ = some (.string f0) := (blk_cell h 0).trans rfl
theorem IsS40.set_0 {w0 W : World} {g : Nat} {f0 : ByteArray} {f1 : Int} (h : IsS40 w0 W g f0 f1) (x : ByteArray) : IsS40 w0 (W.setCell ⟨g, 0, none⟩ (.string x)) g x f1 := by
  obtain ⟨hb, hg⟩ := h
  exact ⟨by simpa using blk_set hb 0 (.string x), hg⟩
theorem cellS40_1 {W : World} {g : Nat} {f0 : ByteArray} {f1 : Int} (h : W.heap[g]? = some (.cells #[.string f0, .int .i64 f1] 40 (0, 0))) : W.cell? ⟨g, 1, none⟩ = some (.int .i64 f1) := (blk_cell h 1).trans rfl
theorem IsS40.set_1 {w0 W : World} {g : Nat} {f0 : ByteArray} {f1 : Int} (h : IsS40 w0 W g f0 f1) (x : Int) : IsS40 w0 (W.setCell ⟨g, 1, none⟩ (.int .i64 x)) g f0 x := by
  obtain ⟨hb, hg⟩ := h
  exact ⟨by simpa using blk_set hb 1 (.int .i64 x), hg⟩
theorem IsS40.new (w0 W : World) (f0 : ByteArray) (f1 : Int) (hB : Below w0.heap.size w0 W) : IsS40 w0 (W.alloc (.cells #[.string f0, .int .i64 f1] 40)) W.heap.size f0 f1 := ⟨by simpa using heap_alloc_new W _, hB.size⟩

/-! ### lexer_text_now: function 24 -/
/-- the class of a byte -/
def cls (c : Nat) : Int :=
  if (65 ≤ c ∧ c ≤ 90) ∨ (97 ≤ c ∧ c ≤ 122) then 1 else if 48 ≤ c ∧ c ≤ 57 then 2 else if c = 95 then 3
  else if c = 40 ∨ c = 41 ∨ c = 123 ∨ c = 125 ∨ c = 59 ∨ c = 44 then 4
  else if c = 32 ∨ c = 9 ∨ c = 10 ∨ c = 13 then 5 else if c = 35 then 6 else if c = 45 then 7 else 0
def tbl : Array Value := ((List.range 256).map fun c => Value.int .u8 (cls c)).toArray

def zerosTbl : Array Value := Array.replicate 256 (.int .u8 0)
theorem zeroTbl (w : World) : (zeroValue 51).run Try.prog w = .ok (.agg zerosTbl) w := by kernel_rfl
theorem sizeTbl : (Try.prog.info? 51).map (·.size) = some tbl.size := by kernel_rfl
theorem wpList_build_to {P : Program} {w : World} {ops : Array Oper} {rest : List Oper} {o : Oper} {a : Act} {Q : Exit → Act → World → Prop}
    (hg : o.guard = none) (t : TypeId) (parts : Array (Nat × Operand)) (ho : o.op = .build t parts) (cells : Array Value)
    (hc : P.built t (parts.map fun (i, x) => (i, a.eval x)).toList = some cells) (h : wpList P ops Q rest (a.put o.dst (.agg cells)) w) : wpList P ops Q (o :: rest) a w :=
  wpList_plain hg fun K hK => by
    unfold Oper.wp execOp
    simp only [ho, Sem.run_bind, run_build w t _ cells hc, Result.andThen_ok]
    exact hK _ _ h

set_option maxHeartbeats 4000000 in
set_option maxRecDepth 100000 in
theorem what_any (w : World) : Calls Try.prog 31 #[] w fun e w' => e = .returned (.agg tbl) ∧ Below w.heap.size w w' := by
  have hz := zeroTbl
  go_enter Try.func31, Try.ntmps31
  go_wp2_with (first | (refine wpList_build_to rfl 51 _ rfl tbl (by kernel_rfl) ?_) | (refine wpList_store_row rfl 51 _ _ rfl w.heap.size tbl rfl (by kernel_rfl) 51 zerosTbl (heap_alloc_new w _) sizeTbl rfl (by kernel_rfl) ?_))
  refine bodyPost_ret (v := .agg tbl) (results_cell_row Try.results31 _ _ w.heap.size 51 tbl (0, 0) (.array 256 5) rfl ?_ Try.underlying51 rfl sizeTbl) rfl ⟨rfl, ?_⟩
  · exact setRow_heap _ _ _ _ _ _ (heap_alloc_new w _)
  · exact ((Below.refl _ _).alloc (Nat.le_refl _) _).trans ⟨rfl, rfl, rfl, by simp, fun k hk => setRow_other _ _ _ _ (by omega)⟩
theorem tbl_at (c : Nat) (h : c < 256) : tbl[c]? = some (.int .u8 (cls c)) := by
  simp [tbl, h]
theorem index_tbl (w : World) (c : Int) (h0 : 0 ≤ c) (h1 : c < 256) : (Instr.index 51 (.agg tbl) (.int .u8 c)).run Try.prog w = .ok (.int .u8 (cls c.toNat)) w := by
  have hc : c.toNat < 256 := by omega
  have ht := tbl_at c.toNat hc
  have hsz : (sizeOf 5).run Try.prog w = .ok 1 w := by kernel_rfl
  have hag : (isAgg 5).run Try.prog w = .ok false w := by kernel_rfl
  unfold Instr.index
  simp only [asIntOf, Sem.run_bind, Sem.run_pure, Result.andThen_ok, run_underlying Try.underlying51]
  have hlt : 0 ≤ c ∧ c < ((256 : Nat) : Int) := ⟨h0, by omega⟩
  rw [if_pos hlt]
  simp only [Sem.run_bind, hsz, Result.andThen_ok, part, hag]
  simp [ht]

/-- the scanner's block, and what else has become of the world -/
structure St (w0 w W : World) (g : Nat) (s : ByteArray) (i : Int) : Prop where
  is : IsS40 w0 W g s i
  bel : Below w0.heap.size w0 W
  kept : KeepBut w W g none
theorem St.drewN {w0 w W : World} {g : Nat} {s : ByteArray} {i : Int} (h : St w0 w W g s i) (n : Nat) : St w0 w (W.drewN n) g s i := ⟨h.is, pw_below_drewN h.bel n, keep_drewN h.kept n⟩
theorem St.drew {w0 w W : World} {g : Nat} {s : ByteArray} {i : Int} (h : St w0 w W g s i) : St w0 w W.drew g s i := ⟨h.is, below_drew1 h.bel, keep_drew h.kept⟩
theorem St.below {w0 w W W1 : World} {g : Nat} {s : ByteArray} {i : Int} (h : St w0 w W g s i) (hb : Below W.heap.size W W1) : St w0 w W1 g s i :=
  ⟨h.is.below hb, below_step h.bel hb, h.kept.trans (KeepBut.of_below hb g none) (.inl rfl)⟩
theorem St.cell0 {w0 w W : World} {g : Nat} {s : ByteArray} {i : Int} (h : St w0 w W g s i) : W.cell? ⟨g, 0, none⟩ = some (.string s) := cellS40_0 h.is.1
theorem St.cell1 {w0 w W : World} {g : Nat} {s : ByteArray} {i : Int} (h : St w0 w W g s i) : W.cell? ⟨g, 1, none⟩ = some (.int .i64 i) := cellS40_1 h.is.1
theorem St.set {w0 w W : World} {g : Nat} {s : ByteArray} {i : Int} (h : St w0 w W g s i) (j : Int) : St w0 w (W.setCell ⟨g, 1, none⟩ (.int .i64 j)) g s j :=
  ⟨h.is.set_1 j, below_set h.bel h.is.2, h.kept.set_ _ _⟩
theorem St.start {w0 w : World} {g : Nat} {s : ByteArray} {i : Int} (hI : IsS40 w0 w g s i) (hB : Below w0.heap.size w0 w) : St w0 w w g s i := ⟨hI, hB, KeepBut.refl _ _ _⟩
theorem St.trans {w0 w W W1 : World} {g : Nat} {s s1 : ByteArray} {i i1 : Int} (h : St w0 w W g s i) (k : St w0 W W1 g s1 i1) : St w0 w W1 g s1 i1 := ⟨k.is, k.bel, h.kept.trans k.kept (.inl rfl)⟩
/-- what a drawn region that only reads the scanner holds on to -/
theorem St.held {w0 w W : World} {g : Nat} {s : ByteArray} {i : Int} (h : St w0 w W g s i) :
    W.cell? ⟨g, 0, none⟩ = some (.string s) ∧ W.cell? ⟨g, 1, none⟩ = some (.int .i64 i) ∧ Aside0 (St w0 w W g s i) := ⟨h.cell0, h.cell1, ⟨h⟩⟩

def lexer_text_now.f (s : ByteArray) (i : Int) : Option (Int × ByteArray × Int) :=
  if i ≥ (s.size : Int) then some (0, s, i) else if 0 ≤ i then some (cls (bt s i).toNat, s, i) else none

set_option maxHeartbeats 8000000 in
set_option maxRecDepth 100000 in
theorem lexer_text_now.calls (g : Nat) (s0_0 : ByteArray) (s0_1 : Int) (r1 : Int) (r2 : ByteArray) (r3 : Int) (w0 w : World) (hI : IsS40 w0 w g s0_0 s0_1) (hB : Below w0.heap.size w0 w) (h : lexer_text_now.f s0_0 s0_1 = some (r1, r2, r3)) :
    Calls Try.prog 24 #[.pointer (some ⟨g, 0, none⟩)] w fun e w' => e = .returned (.int .u8 r1) ∧ IsS40 w0 w' g r2 r3 ∧ Below w0.heap.size w0 w' ∧ KeepBut w w' g none := by
  have HI0 := Aside0.mk hI
  have HK := Aside0.mk (KeepBut.refl w g none)
  have HB := Aside0.mk hB
  obtain ⟨HGz, hgz⟩ := hI
  have c0 := cellS40_0 HGz
  have c1 := cellS40_1 HGz
  have f0 := blk_frozen HGz 0
  have f1 := blk_frozen HGz 1
  clear HGz hgz hB
  by_cases hc : s0_1 ≥ (s0_0.size : Int)
  · simp only [lexer_text_now.f, if_pos hc, Option.some.injEq, Prod.mk.injEq] at h
    obtain ⟨rfl, rfl, rfl⟩ := h
    have hcb : decide ((s0_0.size : Int) ≤ s0_1) = true := decide_eq_true hc
    clear hc
    go_enter Try.func24, Try.ntmps24
    go_wp2
    repeat (go_quiet (fail); try go_wp2)
    go_ret
    exact ⟨rfl, by repeat (first | exact HI0.out | apply IsS40.drewN), by repeat (first | exact HB.out | apply pw_below_drewN), by repeat (first | exact HK.out | apply keep_drewN)⟩
  · rw [lexer_text_now.f, if_neg hc] at h
    by_cases h0 : 0 ≤ s0_1
    · rw [if_pos h0] at h
      simp only [Option.some.injEq, Prod.mk.injEq] at h
      obtain ⟨rfl, rfl, rfl⟩ := h
      have hcb : decide ((s0_0.size : Int) ≤ s0_1) = false := decide_eq_false hc
      have hlt : s0_1 < (s0_0.size : Int) := by omega
      clear hc
      go_enter Try.func24, Try.ntmps24
      go_wp2
      go_quiet (fail)
      go_wp2
      have hb := bt_range s0_0 s0_1
      have hx := bt_at s0_0 s0_1
      have hidx : ∀ w, (Instr.index 51 (.agg tbl) (.int .u8 (bt s0_0 s0_1))).run Try.prog w = .ok (.int .u8 (cls (bt s0_0 s0_1).toNat)) w := fun w => index_tbl w _ hb.1 (by omega)
      have HS := Aside0.mk ((St.start HI0.out HB.out).drewN nq)
      go_region_held3 (fun W' => W'.cell? ⟨g, 0, none⟩ = some (.string s0_0) ∧ W'.cell? ⟨g, 1, none⟩ = some (.int .i64 s0_1) ∧ Aside0 (St w0 w W' g s0_0 s0_1)) (first | exact HS.out.drew.held | exact (HS.out.drew.below hbel).held) (first | (go_at_call 31; refine (what_any _).mono ?_; rintro e w' ⟨rfl, hbel⟩))
      all_goals
        have hS := HS.out.drew.below hbel
        go_wp2
        go_ret
        exact ⟨rfl, hS.is, hS.bel, hS.kept⟩
    · rw [if_neg h0] at h
      exact absurd h (by simp)

/-! ### lexer_text_isBlank: function 23 -/
def lexer_text_isBlank.f (s0_0 : ByteArray) (s0_1 : Int) : Option (Bool × ByteArray × Int) := (lexer_text_now.f s0_0 s0_1).bind fun bt101 => (some ((bt101.1 == 5), bt101.2.1, bt101.2.2))
set_option maxHeartbeats 8000000 in
set_option maxRecDepth 100000 in
theorem lexer_text_isBlank.calls (g : Nat) (s0_0 : ByteArray) (s0_1 : Int) (r1 : Bool) (r2 : ByteArray) (r3 : Int) (w0 w : World) (hI : IsS40 w0 w g s0_0 s0_1) (hB : Below w0.heap.size w0 w) (h : lexer_text_isBlank.f s0_0 s0_1 = some (r1, r2, r3)) :
    Calls Try.prog 23 #[.pointer (some ⟨g, 0, none⟩)] w fun e w' => e = .returned (.bool r1) ∧ IsS40 w0 w' g r2 r3 ∧ Below w0.heap.size w0 w' ∧ KeepBut w w' g none := by
  have HI0 := Aside0.mk hI
  have HK := Aside0.mk (KeepBut.refl w g none)
  have HL := Aside0.mk hB.size
  clear hI
  have HW0 := Aside0.mk hB.size
  have HB := Aside0.mk hB
  clear hB
  have H : ((lexer_text_now.f s0_0 s0_1).bind fun bt101 => (some ((bt101.1 == 5), bt101.2.1, bt101.2.2))) = some (r1, r2, r3) := h
  clear h
  replace H := Option.bind_eq_some_iff.mp H
  obtain ⟨⟨t101, t102, t103⟩, A20, H⟩ := H
  replace H : (some ((t101 == 5), t102, t103)) = some (r1, r2, r3) := H
  have A2 := Aside0.mk A20
  clear A20
  simp only [Option.some.injEq, Prod.mk.injEq] at H
  obtain ⟨rfl, rfl, rfl⟩ := H
  go_enter Try.func23, Try.ntmps23
  go_wp2_with (first | ((with_reducible refine gate_callee (f := 24) rfl ?_); refine goesL_ (some 4) rfl rfl Try.func24 (by kernel_rfl) rfl #[.pointer (some ⟨g, 0, none⟩)] rfl (by (try simp only [List.map_toArray, List.map_cons, List.map_nil]); first | done | rfl | (simp only [List.length_drop, List.length_take]; rfl)) ?_; (with_reducible refine (lexer_text_now.calls g s0_0 s0_1 t101 t102 t103 w0 _ ?side1 ?side2 A2.out).mono ?_); (case side1 => repeat (first | (with_reducible first | exact HI0.out | apply IsS40.alloc | apply IsS40.drewN | apply IsS40.drew | apply IsS40.set_0 | apply IsS40.set_1) | exact HI0.out)); (case side2 => repeat (first | (with_reducible first | exact HB.out | apply below_alloc | apply pw_below_drewN | apply below_drew1 | refine below_set ?_ (IsS40.ge HI0.out)) | exact HB.out)); rintro e w3 ⟨rfl, hi, hb, hk⟩; refine ⟨_, rfl, ?_⟩; have n0_ := Aside0.mk (KeepBut.trans (by repeat (first | (with_reducible first | exact HK.out | apply KeepBut.set_ | apply keep_drewN | apply keep_drew | apply keep_alloc) | exact HK.out)) hk (.inl rfl)); have n1_ := Aside0.mk (hb); have n2_ := Aside0.mk (hi); clear HK; clear HB; clear HI0; have HK := n0_; have HB := n1_; have HI0 := n2_; clear n0_ n1_ n2_; (try clear hb); (try clear hb2); (try clear hk); (try clear hi)))
  go_ret
  exact ⟨by first | rfl | (simp [errW_none, errW_some] <;> rfl) | (simp [*, errW_none, errW_some] <;> rfl), by repeat (first | (with_reducible first | exact HI0.out | apply IsS40.alloc | apply IsS40.drewN | apply IsS40.drew | apply IsS40.set_0 | apply IsS40.set_1) | exact HI0.out), by repeat (first | (with_reducible first | exact HB.out | apply below_alloc | apply pw_below_drewN | apply below_drew1 | refine below_set ?_ (IsS40.ge HI0.out)) | exact HB.out), by repeat (first | (with_reducible first | exact HK.out | apply KeepBut.set_ | apply keep_drewN | apply keep_drew | apply keep_alloc) | exact HK.out)⟩

/-! ### lexer_text_inLine: function 25 -/
def lexer_text_inLine.f (s0_0 : ByteArray) (s0_1 : Int) : Option (Bool × ByteArray × Int) := if 0 ≤ s0_1 then (if s0_1 < (s0_0.size : Int) then (some (((bt s0_0 s0_1) != 10), s0_0, s0_1)) else (none)) else (none)
set_option maxHeartbeats 8000000 in
set_option maxRecDepth 100000 in
theorem lexer_text_inLine.calls (g : Nat) (s0_0 : ByteArray) (s0_1 : Int) (r1 : Bool) (r2 : ByteArray) (r3 : Int) (w0 w : World) (hI : IsS40 w0 w g s0_0 s0_1) (hB : Below w0.heap.size w0 w) (h : lexer_text_inLine.f s0_0 s0_1 = some (r1, r2, r3)) :
    Calls Try.prog 25 #[.pointer (some ⟨g, 0, none⟩)] w fun e w' => e = .returned (.bool r1) ∧ IsS40 w0 w' g r2 r3 ∧ Below w0.heap.size w0 w' ∧ KeepBut w w' g none := by
  have HI0 := Aside0.mk hI
  have HK := Aside0.mk (KeepBut.refl w g none)
  have HL := Aside0.mk hB.size
  clear hI
  have HW0 := Aside0.mk hB.size
  have HB := Aside0.mk hB
  clear hB
  have H : (if 0 ≤ s0_1 then (if s0_1 < (s0_0.size : Int) then (some (((bt s0_0 s0_1) != 10), s0_0, s0_1)) else (none)) else (none)) = some (r1, r2, r3) := h
  clear h
  by_cases c2 : 0 ≤ s0_1
  · rw [if_pos c2] at H
    have c2b0 : decide (0 ≤ s0_1) = true := decide_eq_true c2
    clear c2
    by_cases c3 : s0_1 < (s0_0.size : Int)
    · rw [if_pos c3] at H
      have c3b0 : decide (s0_1 < (s0_0.size : Int)) = true := decide_eq_true c3
      clear c3
      simp only [Option.some.injEq, Prod.mk.injEq] at H
      obtain ⟨rfl, rfl, rfl⟩ := H
      obtain ⟨HGz5, hgz5⟩ := HI0.out
      have hcz5_0 := cellS40_0 HGz5
      have hcz5_1 := cellS40_1 HGz5
      have hfz5_0 := blk_frozen HGz5 0
      have hfz5_1 := blk_frozen HGz5 1
      clear HGz5 hgz5
      have p4 : 0 ≤ (s0_1 : Int) := of_decide_eq_true (by first | (with_reducible assumption) | assumption)
      have q4 : s0_1 < (s0_0.size : Int) := of_decide_eq_true (by first | (with_reducible assumption) | assumption)
      have hx4 := bt_at s0_0 s0_1
      replace p4 := eq_true p4
      replace q4 := eq_true q4
      go_enter Try.func25, Try.ntmps25
      go_wp2
      repeat (go_quiet (fail); try go_wp2)
      go_ret
      exact ⟨by first | rfl | (simp [errW_none, errW_some] <;> rfl) | (simp [*, errW_none, errW_some] <;> rfl), by repeat (first | (with_reducible first | exact HI0.out | apply IsS40.alloc | apply IsS40.drewN | apply IsS40.drew | apply IsS40.set_0 | apply IsS40.set_1) | exact HI0.out), by repeat (first | (with_reducible first | exact HB.out | apply below_alloc | apply pw_below_drewN | apply below_drew1 | refine below_set ?_ (IsS40.ge HI0.out)) | exact HB.out), by repeat (first | (with_reducible first | exact HK.out | apply KeepBut.set_ | apply keep_drewN | apply keep_drew | apply keep_alloc) | exact HK.out)⟩
    · rw [if_neg c3] at H
      exact absurd H (by simp)
  · rw [if_neg c2] at H
    exact absurd H (by simp)

/-! ### lexer_text_skip: function 17 -/
set_option maxHeartbeats 8000000 in
set_option maxRecDepth 100000 in
theorem while_any (F : FuncId) (hcf : ∀ (args : Array Value) (w : World), Sem.run Try.prog (callFunc F args) w = .ok (.enter F args) w) (p : Int → Bool) (g : Nat) (s : ByteArray) (hs : s.size ≤ 140737488351232)
    (hF : Aside0 (∀ (w0 W : World) (i : Int), 0 ≤ i → i < (s.size : Int) → IsS40 w0 W g s i → Below w0.heap.size w0 W → Calls Try.prog F #[.pointer (some ⟨g, 0, none⟩)] W fun e w' => e = .returned (.bool (p i)) ∧ St w0 W w' g s i))
    (i0 : Int) (h0 : 0 ≤ i0) (h1 : i0 ≤ (s.size : Int)) (w0 w : World) (hI : IsS40 w0 w g s i0) (hB : Below w0.heap.size w0 w) :
    Calls Try.prog 22 #[.pointer (some ⟨g, 0, none⟩), .func (.func F) #[.pointer (some ⟨g, 0, none⟩)] #[]] w fun e w' => e = .returned (.tuple #[]) ∧
      ∃ j : Int, i0 ≤ j ∧ j ≤ (s.size : Int) ∧ (∀ x, i0 ≤ x → x < j → p x = true) ∧ (j < (s.size : Int) → p j = false) ∧ St w0 w w' g s j := by
  have HS := Aside0.mk (St.start hI hB)
  clear hI hB
  go_enter Try.func22, Try.ntmps22
  go_wp2
  go_loopg [] ((s.size : Int) - i0).toNat (fun kq wr => ∃ i : Int, Aside0 (((s.size : Int) - i).toNat = kq ∧ i0 ≤ i ∧ i ≤ (s.size : Int) ∧ (∀ x, i0 ≤ x → x < i → p x = true) ∧ St w0 w wr g s i))
  case atStart => exact ⟨i0, ⟨rfl, by omega, by omega, fun x _ _ => by omega, HS.out⟩⟩
  case round =>
    obtain ⟨i, ⟨hk, hi0, hi1, hp, hS⟩⟩ := hrel
    clear HS
    by_cases hlt : i < (s.size : Int)
    · have hd : decide (i < (s.size : Int)) = true := decide_eq_true hlt
      have HS := Aside0.mk hS
      have c0 := hS.cell0
      have c1 := hS.cell1
      have HP := Aside0.mk hp
      have Hk := Aside0.mk hk
      clear hp hk hS
      cases hb : p i with
      | true =>
        have HFi := Aside0.mk (fun W => hF.out w0 W i (by omega) hlt)
        rw [hb] at HFi
        have Hb := Aside0.mk hb
        clear hb
        go_wp2_with fail
        go_region_held3 (fun W' => W'.cell? ⟨g, 0, none⟩ = some (.string s) ∧ W'.cell? ⟨g, 1, none⟩ = some (.int .i64 i) ∧ Aside0 (St w0 w W' g s i)) (first | exact HS.out.drew.held | exact (HS.out.drew.trans hst).held) (first | ((with_reducible refine (HFi.out _ HS.out.drew.is HS.out.drew.bel).mono ?_); rintro e w' ⟨rfl, hst⟩))
        have hS := HS.out.drew.trans hst
        have c1 := hS.cell1
        have f1 := blk_frozen hS.is.1 1
        have HS2 := Aside0.mk hS
        clear hS hst
        go_wp2
        go_roundg ((s.size : Int) - (i + 1)).toNat
        case measure => have := Hk.out; omega
        case rel =>
          refine ⟨i + 1, ⟨rfl, by omega, by omega, fun x hx hx' => ?_, HS2.out.set _⟩⟩
          by_cases hxi : x = i
          · rw [hxi]; exact Hb.out
          · exact HP.out x hx (by omega)
      | false =>
        have HFi := Aside0.mk (fun W => hF.out w0 W i (by omega) hlt)
        rw [hb] at HFi
        have Hb := Aside0.mk hb
        clear hb
        go_wp2_with fail
        go_region_held3 (fun W' => W'.cell? ⟨g, 0, none⟩ = some (.string s) ∧ W'.cell? ⟨g, 1, none⟩ = some (.int .i64 i) ∧ Aside0 (St w0 w W' g s i)) (first | exact HS.out.drew.held | exact (HS.out.drew.trans hst).held) (first | ((with_reducible refine (HFi.out _ HS.out.drew.is HS.out.drew.bel).mono ?_); rintro e w' ⟨rfl, hst⟩))
        have hS := HS.out.drew.trans hst
        have HS2 := Aside0.mk hS
        clear hS hst
        go_wp2
        go_end0
        exact ⟨rfl, i, hi0, hi1, HP.out, fun _ => Hb.out, HS2.out⟩
    · have hd : decide (i < (s.size : Int)) = false := decide_eq_false hlt
      have HS := Aside0.mk hS
      have c0 := hS.cell0
      have c1 := hS.cell1
      have HP := Aside0.mk hp
      have hni : i = (s.size : Int) := by omega
      have Hn := Aside0.mk hni
      clear hp hk hS hni
      go_wp2_with fail
      go_quiet (fail)
      go_wp2
      go_end0
      exact ⟨rfl, i, hi0, hi1, HP.out, fun h => by omega, HS.out.drewN _⟩
/-- from i on, the first place below n where p fails (at most k steps) -/
def scan (p : Int → Bool) (n : Int) : Nat → Int → Int
  | 0, i => i
  | k + 1, i => if i < n then (if p i = true then scan p n k (i + 1) else i) else i
theorem scan_eq (p : Int → Bool) (n : Int) : ∀ (k : Nat) (i j : Int), (n - i).toNat ≤ k → i ≤ j → j ≤ n → (∀ x, i ≤ x → x < j → p x = true) → (j < n → p j = false) → scan p n k i = j := by
  intro k
  induction k with
  | zero => intro i j hk h1 h2 hp he; simp only [scan]; omega
  | succ k ih =>
    intro i j hk h1 h2 hp he
    simp only [scan]
    by_cases hlt : i < n
    · rw [if_pos hlt]
      by_cases hij : i = j
      · subst hij; rw [he hlt]; simp
      · rw [hp i (by omega) (by omega), if_pos rfl]
        exact ih (i + 1) j (by omega) (by omega) h2 (fun x hx => hp x (by omega)) he
    · rw [if_neg hlt]; omega
def scanTo (p : Int → Bool) (n i : Int) : Int := scan p n (n - i).toNat i

/-- the contract of 'while' with a scan -/
theorem while_scan (F : FuncId) (hcf : ∀ (args : Array Value) (w : World), Sem.run Try.prog (callFunc F args) w = .ok (.enter F args) w) (p : Int → Bool) (g : Nat) (s : ByteArray) (hs : s.size ≤ 140737488351232)
    (hF : ∀ (w0 W : World) (i : Int), 0 ≤ i → i < (s.size : Int) → IsS40 w0 W g s i → Below w0.heap.size w0 W → Calls Try.prog F #[.pointer (some ⟨g, 0, none⟩)] W fun e w' => e = .returned (.bool (p i)) ∧ St w0 W w' g s i)
    (i0 : Int) (h0 : 0 ≤ i0) (h1 : i0 ≤ (s.size : Int)) (w0 w : World) (hI : IsS40 w0 w g s i0) (hB : Below w0.heap.size w0 w) :
    Calls Try.prog 22 #[.pointer (some ⟨g, 0, none⟩), .func (.func F) #[.pointer (some ⟨g, 0, none⟩)] #[]] w fun e w' => e = .returned (.tuple #[]) ∧ St w0 w w' g s (scanTo p s.size i0) :=
  (while_any F hcf p g s hs ⟨hF⟩ i0 h0 h1 w0 w hI hB).mono fun e w' ⟨he, j, h1, h2, h3, h4, h5⟩ => by
    refine ⟨he, ?_⟩
    rw [scanTo, scan_eq p _ _ i0 j (Nat.le_refl _) h1 h2 h3 h4]
    exact h5
theorem scan_range (p : Int → Bool) (n : Int) : ∀ (k : Nat) (i : Int), i ≤ n → i ≤ scan p n k i ∧ scan p n k i ≤ n := by
  intro k
  induction k with
  | zero => intro i h; simp only [scan]; omega
  | succ k ih =>
    intro i h
    simp only [scan]
    split
    · split
      · have := ih (i + 1) (by omega); omega
      · omega
    · omega
theorem scanTo_range (p : Int → Bool) (n i : Int) (h : i ≤ n) : i ≤ scanTo p n i ∧ scanTo p n i ≤ n := scan_range p n _ i h

/-- the class of the byte at i, 0 behind the end -/
def at_ (s : ByteArray) (i : Int) : Int := if i ≥ (s.size : Int) then 0 else cls (bt s i).toNat
theorem now_f (s : ByteArray) (i : Int) (h : 0 ≤ i) : lexer_text_now.f s i = some (at_ s i, s, i) := by
  unfold lexer_text_now.f at_
  rw [if_pos h]
  split <;> rfl
theorem now_at (g : Nat) (s : ByteArray) (i : Int) (h : 0 ≤ i) (w0 w : World) (hI : IsS40 w0 w g s i) (hB : Below w0.heap.size w0 w) :
    Calls Try.prog 24 #[.pointer (some ⟨g, 0, none⟩)] w fun e w' => e = .returned (.int .u8 (at_ s i)) ∧ St w0 w w' g s i :=
  (lexer_text_now.calls g s i (at_ s i) s i w0 w hI hB (now_f s i h)).mono fun e w' ⟨he, h1, h2, h3⟩ => ⟨he, h1, h2, h3⟩
def blankAt (s : ByteArray) (i : Int) : Bool := at_ s i == 5
def lineAt (s : ByteArray) (i : Int) : Bool := bt s i != 10
def wordAt (s : ByteArray) (i : Int) : Bool := at_ s i == 1 || at_ s i == 2 || at_ s i == 3
def digitAt (s : ByteArray) (i : Int) : Bool := at_ s i == 2
theorem isBlank_at (g : Nat) (s : ByteArray) (w0 w : World) (i : Int) (h : 0 ≤ i) (_ : i < (s.size : Int)) (hI : IsS40 w0 w g s i) (hB : Below w0.heap.size w0 w) :
    Calls Try.prog 23 #[.pointer (some ⟨g, 0, none⟩)] w fun e w' => e = .returned (.bool (blankAt s i)) ∧ St w0 w w' g s i :=
  (lexer_text_isBlank.calls g s i (blankAt s i) s i w0 w hI hB (by rw [lexer_text_isBlank.f, now_f s i h]; rfl)).mono fun e w' ⟨he, h1, h2, h3⟩ => ⟨he, h1, h2, h3⟩
theorem inLine_at (g : Nat) (s : ByteArray) (w0 w : World) (i : Int) (h : 0 ≤ i) (hlt : i < (s.size : Int)) (hI : IsS40 w0 w g s i) (hB : Below w0.heap.size w0 w) :
    Calls Try.prog 25 #[.pointer (some ⟨g, 0, none⟩)] w fun e w' => e = .returned (.bool (lineAt s i)) ∧ St w0 w w' g s i :=
  (lexer_text_inLine.calls g s i (lineAt s i) s i w0 w hI hB (by rw [lexer_text_inLine.f, if_pos h, if_pos hlt]; rfl)).mono fun e w' ⟨he, h1, h2, h3⟩ => ⟨he, h1, h2, h3⟩
theorem while_blank (g : Nat) (s : ByteArray) (hs : s.size ≤ 140737488351232) (i0 : Int) (h0 : 0 ≤ i0) (h1 : i0 ≤ (s.size : Int)) (w0 w : World) (hI : IsS40 w0 w g s i0) (hB : Below w0.heap.size w0 w) :
    Calls Try.prog 22 #[.pointer (some ⟨g, 0, none⟩), .func (.func 23) #[.pointer (some ⟨g, 0, none⟩)] #[]] w fun e w' => e = .returned (.tuple #[]) ∧ St w0 w w' g s (scanTo (blankAt s) s.size i0) :=
  while_scan 23 (fun _ _ => by rfl) (blankAt s) g s hs (fun w0 W i => isBlank_at g s w0 W i) i0 h0 h1 w0 w hI hB
theorem while_line (g : Nat) (s : ByteArray) (hs : s.size ≤ 140737488351232) (i0 : Int) (h0 : 0 ≤ i0) (h1 : i0 ≤ (s.size : Int)) (w0 w : World) (hI : IsS40 w0 w g s i0) (hB : Below w0.heap.size w0 w) :
    Calls Try.prog 22 #[.pointer (some ⟨g, 0, none⟩), .func (.func 25) #[.pointer (some ⟨g, 0, none⟩)] #[]] w fun e w' => e = .returned (.tuple #[]) ∧ St w0 w w' g s (scanTo (lineAt s) s.size i0) :=
  while_scan 25 (fun _ _ => by rfl) (lineAt s) g s hs (fun w0 W i => inLine_at g s w0 W i) i0 h0 h1 w0 w hI hB
theorem at_some {s : ByteArray} {i c : Int} (hc : c ≠ 0) (h : at_ s i = c) : i < (s.size : Int) ∧ cls (bt s i).toNat = c := by
  unfold at_ at h
  split at h
  · exact absurd h.symm hc
  · exact ⟨by omega, h⟩
theorem scanTo_step {p : Int → Bool} {n i : Int} (h : i < n) (hp : p i = true) : i + 1 ≤ scanTo p n i := by
  unfold scanTo
  obtain ⟨k, hk⟩ : ∃ k, (n - i).toNat = k + 1 := ⟨(n - i).toNat - 1, by omega⟩
  rw [hk]
  simp only [scan]
  rw [if_pos h, if_pos hp]
  exact (scan_range p n k (i + 1) (by omega)).1
theorem cls_six {c : Nat} (h : cls c = 6) : c = 35 := by
  unfold cls at h
  repeat' split at h
  all_goals first | omega | assumption
theorem line_of_six {s : ByteArray} {i : Int} (h : at_ s i = 6) : lineAt s i = true := by
  have h6 := cls_six (at_some (by decide) h).2
  have hb := bt_range s i
  simp only [lineAt, bne_iff_ne, ne_eq]
  omega
/-- white space and comments, at most k comments -/
def skipR (s : ByteArray) : Nat → Int → Int
  | 0, i => i
  | k + 1, i => if at_ s i = 6 then skipR s k (scanTo (blankAt s) s.size (scanTo (lineAt s) s.size i)) else i
def skipTo (s : ByteArray) (i : Int) : Int := skipR s s.size (scanTo (blankAt s) s.size i)

theorem skip_any (g : Nat) (s : ByteArray) (hs : s.size ≤ 140737488351232) (i0 : Int) (h0 : 0 ≤ i0) (h1 : i0 ≤ (s.size : Int)) (w0 w : World) (hI : IsS40 w0 w g s i0) (hB : Below w0.heap.size w0 w) :
    Calls Try.prog 17 #[.pointer (some ⟨g, 0, none⟩)] w fun e w' => e = .returned (.tuple #[]) ∧ St w0 w w' g s (skipTo s i0) := by
  have hmf : ∀ (fn : Fn) (first cap : Array Value) (w : World), (Instr.makeFunc fn first cap).run Try.prog w = .ok (.func fn first cap) w := fun _ _ _ _ => rfl
  go_enter Try.func17, Try.ntmps17
  go_wp2_with fail
  refine (while_blank g s hs i0 h0 h1 w0 _ hI hB).mono ?_
  rintro e w1 ⟨rfl, hS1⟩
  have hr := scanTo_range (blankAt s) s.size i0 h1
  generalize hi1 : scanTo (blankAt s) s.size i0 = i1 at hS1 hr
  have HS1 := Aside0.mk hS1
  clear hS1
  have Hi1 := Aside0.mk hi1
  clear hi1
  go_wp2_with fail
  go_loopg [] s.size (fun kq wr => ∃ i : Int, Aside0 (((s.size : Int) - i).toNat ≤ kq ∧ 0 ≤ i ∧ i ≤ (s.size : Int) ∧ skipR s kq i = skipTo s i0 ∧ St w0 w wr g s i))
  case atStart => exact ⟨i1, ⟨by omega, by omega, by omega, by rw [skipTo, Hi1.out], HS1.out⟩⟩
  case round =>
    clear HS1
    obtain ⟨i, ⟨hk, hi0, hi2, hr2, hS⟩⟩ := hrel
    have HR := Aside0.mk hr2
    clear hr2
    by_cases h6 : at_ s i = 6
    · have hlt := (at_some (by decide) h6).1
      have hst := scanTo_step hlt (line_of_six h6)
      have hb6 : (at_ s i == 6) = true := beq_iff_eq.2 h6
      have H6 := Aside0.mk h6
      clear h6
      go_wp2_with fail
      refine (now_at g s i hi0 w0 _ hS.is hS.bel).mono ?_
      rintro e w2 ⟨rfl, hS2⟩
      have HS2 := Aside0.mk (hS.trans hS2)
      clear hS hS2
      go_wp2_with fail
      refine (while_line g s hs i hi0 hi2 w0 _ HS2.out.is HS2.out.bel).mono ?_
      rintro e w3 ⟨rfl, hS3⟩
      have hr3 := scanTo_range (lineAt s) s.size i hi2
      generalize hi3 : scanTo (lineAt s) s.size i = i3 at hS3 hr3 hst
      have HS3 := Aside0.mk (HS2.out.trans hS3)
      have Hi3 := Aside0.mk hi3
      clear hS3 hi3 HS2
      go_wp2_with fail
      refine (while_blank g s hs i3 (by omega) (by omega) w0 _ HS3.out.is HS3.out.bel).mono ?_
      rintro e w4 ⟨rfl, hS4⟩
      have hr4 := scanTo_range (blankAt s) s.size i3 (by omega)
      generalize hi4 : scanTo (blankAt s) s.size i3 = i4 at hS4 hr4
      have HS4 := Aside0.mk (HS3.out.trans hS4)
      have Hi4 := Aside0.mk hi4
      clear hS4 hi4 HS3
      go_wp2_with fail
      cases gk with
      | zero => exfalso; omega
      | succ k =>
        go_roundg k
        case measure => omega
        case rel =>
          refine ⟨i4, ⟨by omega, by omega, by omega, ?_, HS4.out⟩⟩
          have := HR.out
          rw [skipR, if_pos H6.out, Hi3.out, Hi4.out] at this
          exact this
    · have hb6 : (at_ s i == 6) = false := beq_eq_false_iff_ne.2 h6
      have H6 := Aside0.mk h6
      clear h6
      go_wp2_with fail
      refine (now_at g s i hi0 w0 _ hS.is hS.bel).mono ?_
      rintro e w2 ⟨rfl, hS2⟩
      have HS2 := Aside0.mk (hS.trans hS2)
      clear hS hS2
      go_wp2_with fail
      go_end0
      have he : i = skipTo s i0 := by
        rw [← HR.out]
        cases gk with
        | zero => rfl
        | succ k => rw [skipR, if_neg H6.out]
      exact ⟨rfl, he ▸ HS2.out⟩

def lexer_text_skip.f (s : ByteArray) (i : Int) : Option (ByteArray × Int) := if 0 ≤ i ∧ i ≤ (s.size : Int) ∧ s.size ≤ 140737488351232 then some (s, skipTo s i) else none
theorem lexer_text_skip.calls (g : Nat) (s0_0 : ByteArray) (s0_1 : Int) (r1 : ByteArray) (r2 : Int) (w0 w : World) (hI : IsS40 w0 w g s0_0 s0_1) (hB : Below w0.heap.size w0 w) (h : lexer_text_skip.f s0_0 s0_1 = some (r1, r2)) :
    Calls Try.prog 17 #[.pointer (some ⟨g, 0, none⟩)] w fun e w' => e = .returned (.tuple #[]) ∧ IsS40 w0 w' g r1 r2 ∧ Below w0.heap.size w0 w' ∧ KeepBut w w' g none := by
  unfold lexer_text_skip.f at h
  split at h
  · rename_i hc
    simp only [Option.some.injEq, Prod.mk.injEq] at h
    obtain ⟨rfl, rfl⟩ := h
    exact (skip_any g s0_0 hc.2.2 s0_1 hc.1 hc.2.1 w0 w hI hB).mono fun e w' ⟨he, hS⟩ => ⟨he, hS.is, hS.bel, hS.kept⟩
  · exact absurd h (by simp)

/-! ### lexer_text_named: function 26 -/
def lexer_text_named.f (s0_0 : ByteArray) (s0_1 : Int) : Option (Bool × ByteArray × Int) := (lexer_text_now.f s0_0 s0_1).bind fun bt104 => (if bt104.1 = 1 then (some (true, bt104.2.1, bt104.2.2)) else (if bt104.1 = 2 then (some (true, bt104.2.1, bt104.2.2)) else (some ((bt104.1 == 3), bt104.2.1, bt104.2.2))))
set_option maxHeartbeats 8000000 in
set_option maxRecDepth 100000 in
theorem lexer_text_named.calls (g : Nat) (s0_0 : ByteArray) (s0_1 : Int) (r1 : Bool) (r2 : ByteArray) (r3 : Int) (w0 w : World) (hI : IsS40 w0 w g s0_0 s0_1) (hB : Below w0.heap.size w0 w) (h : lexer_text_named.f s0_0 s0_1 = some (r1, r2, r3)) :
    Calls Try.prog 26 #[.pointer (some ⟨g, 0, none⟩)] w fun e w' => e = .returned (.bool r1) ∧ IsS40 w0 w' g r2 r3 ∧ Below w0.heap.size w0 w' ∧ KeepBut w w' g none := by
  have HI0 := Aside0.mk hI
  have HK := Aside0.mk (KeepBut.refl w g none)
  have HL := Aside0.mk hB.size
  clear hI
  have HW0 := Aside0.mk hB.size
  have HB := Aside0.mk hB
  clear hB
  have H : ((lexer_text_now.f s0_0 s0_1).bind fun bt104 => (if bt104.1 = 1 then (some (true, bt104.2.1, bt104.2.2)) else (if bt104.1 = 2 then (some (true, bt104.2.1, bt104.2.2)) else (some ((bt104.1 == 3), bt104.2.1, bt104.2.2))))) = some (r1, r2, r3) := h
  clear h
  replace H := Option.bind_eq_some_iff.mp H
  obtain ⟨⟨t104, t105, t106⟩, A20, H⟩ := H
  replace H : (if t104 = 1 then (some (true, t105, t106)) else (if t104 = 2 then (some (true, t105, t106)) else (some ((t104 == 3), t105, t106)))) = some (r1, r2, r3) := H
  have A2 := Aside0.mk A20
  clear A20
  by_cases c3 : t104 = 1
  · rw [if_pos c3] at H
    have c3b0 : (t104 == 1) = true := beq_iff_eq.mpr c3
    have c3b1 : (t104 != 1) = false := bne_eq_false_iff_eq.mpr c3
    clear c3
    simp only [Option.some.injEq, Prod.mk.injEq] at H
    obtain ⟨rfl, rfl, rfl⟩ := H
    go_enter Try.func26, Try.ntmps26
    go_wp2_with (first | ((with_reducible refine gate_callee (f := 24) rfl ?_); refine goesL_ (some 5) rfl rfl Try.func24 (by kernel_rfl) rfl #[.pointer (some ⟨g, 0, none⟩)] rfl (by (try simp only [List.map_toArray, List.map_cons, List.map_nil]); first | done | rfl | (simp only [List.length_drop, List.length_take]; rfl)) ?_; (with_reducible refine (lexer_text_now.calls g s0_0 s0_1 t104 t105 t106 w0 _ ?side1 ?side2 A2.out).mono ?_); (case side1 => repeat (first | (with_reducible first | exact HI0.out | apply IsS40.alloc | apply IsS40.drewN | apply IsS40.drew | apply IsS40.set_0 | apply IsS40.set_1) | exact HI0.out)); (case side2 => repeat (first | (with_reducible first | exact HB.out | apply below_alloc | apply pw_below_drewN | apply below_drew1 | refine below_set ?_ (IsS40.ge HI0.out)) | exact HB.out)); rintro e w4 ⟨rfl, hi, hb, hk⟩; refine ⟨_, rfl, ?_⟩; have n0_ := Aside0.mk (KeepBut.trans (by repeat (first | (with_reducible first | exact HK.out | apply KeepBut.set_ | apply keep_drewN | apply keep_drew | apply keep_alloc) | exact HK.out)) hk (.inl rfl)); have n1_ := Aside0.mk (hb); have n2_ := Aside0.mk (hi); clear HK; clear HB; clear HI0; have HK := n0_; have HB := n1_; have HI0 := n2_; clear n0_ n1_ n2_; (try clear hb); (try clear hb2); (try clear hk); (try clear hi)))
    go_ret
    exact ⟨by first | rfl | (simp [errW_none, errW_some] <;> rfl) | (simp [*, errW_none, errW_some] <;> rfl), by repeat (first | (with_reducible first | exact HI0.out | apply IsS40.alloc | apply IsS40.drewN | apply IsS40.drew | apply IsS40.set_0 | apply IsS40.set_1) | exact HI0.out), by repeat (first | (with_reducible first | exact HB.out | apply below_alloc | apply pw_below_drewN | apply below_drew1 | refine below_set ?_ (IsS40.ge HI0.out)) | exact HB.out), by repeat (first | (with_reducible first | exact HK.out | apply KeepBut.set_ | apply keep_drewN | apply keep_drew | apply keep_alloc) | exact HK.out)⟩
  · rw [if_neg c3] at H
    have c3b0 : (t104 == 1) = false := beq_eq_false_iff_ne.mpr c3
    have c3b1 : (t104 != 1) = true := bne_iff_ne.mpr c3
    by_cases c5 : t104 = 2
    · rw [if_pos c5] at H
      have c5b0 : (t104 == 2) = true := beq_iff_eq.mpr c5
      have c5b1 : (t104 != 2) = false := bne_eq_false_iff_eq.mpr c5
      clear c5
      simp only [Option.some.injEq, Prod.mk.injEq] at H
      obtain ⟨rfl, rfl, rfl⟩ := H
      go_enter Try.func26, Try.ntmps26
      go_wp2_with (first | ((with_reducible refine gate_callee (f := 24) rfl ?_); refine goesL_ (some 5) rfl rfl Try.func24 (by kernel_rfl) rfl #[.pointer (some ⟨g, 0, none⟩)] rfl (by (try simp only [List.map_toArray, List.map_cons, List.map_nil]); first | done | rfl | (simp only [List.length_drop, List.length_take]; rfl)) ?_; (with_reducible refine (lexer_text_now.calls g s0_0 s0_1 t104 t105 t106 w0 _ ?side1 ?side2 A2.out).mono ?_); (case side1 => repeat (first | (with_reducible first | exact HI0.out | apply IsS40.alloc | apply IsS40.drewN | apply IsS40.drew | apply IsS40.set_0 | apply IsS40.set_1) | exact HI0.out)); (case side2 => repeat (first | (with_reducible first | exact HB.out | apply below_alloc | apply pw_below_drewN | apply below_drew1 | refine below_set ?_ (IsS40.ge HI0.out)) | exact HB.out)); rintro e w6 ⟨rfl, hi, hb, hk⟩; refine ⟨_, rfl, ?_⟩; have n0_ := Aside0.mk (KeepBut.trans (by repeat (first | (with_reducible first | exact HK.out | apply KeepBut.set_ | apply keep_drewN | apply keep_drew | apply keep_alloc) | exact HK.out)) hk (.inl rfl)); have n1_ := Aside0.mk (hb); have n2_ := Aside0.mk (hi); clear HK; clear HB; clear HI0; have HK := n0_; have HB := n1_; have HI0 := n2_; clear n0_ n1_ n2_; (try clear hb); (try clear hb2); (try clear hk); (try clear hi)))
      go_ret
      exact ⟨by first | rfl | (simp [errW_none, errW_some] <;> rfl) | (simp [*, errW_none, errW_some] <;> rfl), by repeat (first | (with_reducible first | exact HI0.out | apply IsS40.alloc | apply IsS40.drewN | apply IsS40.drew | apply IsS40.set_0 | apply IsS40.set_1) | exact HI0.out), by repeat (first | (with_reducible first | exact HB.out | apply below_alloc | apply pw_below_drewN | apply below_drew1 | refine below_set ?_ (IsS40.ge HI0.out)) | exact HB.out), by repeat (first | (with_reducible first | exact HK.out | apply KeepBut.set_ | apply keep_drewN | apply keep_drew | apply keep_alloc) | exact HK.out)⟩
    · rw [if_neg c5] at H
      have c5b0 : (t104 == 2) = false := beq_eq_false_iff_ne.mpr c5
      have c5b1 : (t104 != 2) = true := bne_iff_ne.mpr c5
      simp only [Option.some.injEq, Prod.mk.injEq] at H
      obtain ⟨rfl, rfl, rfl⟩ := H
      go_enter Try.func26, Try.ntmps26
      go_wp2_with (first | ((with_reducible refine gate_callee (f := 24) rfl ?_); refine goesL_ (some 5) rfl rfl Try.func24 (by kernel_rfl) rfl #[.pointer (some ⟨g, 0, none⟩)] rfl (by (try simp only [List.map_toArray, List.map_cons, List.map_nil]); first | done | rfl | (simp only [List.length_drop, List.length_take]; rfl)) ?_; (with_reducible refine (lexer_text_now.calls g s0_0 s0_1 t104 t105 t106 w0 _ ?side1 ?side2 A2.out).mono ?_); (case side1 => repeat (first | (with_reducible first | exact HI0.out | apply IsS40.alloc | apply IsS40.drewN | apply IsS40.drew | apply IsS40.set_0 | apply IsS40.set_1) | exact HI0.out)); (case side2 => repeat (first | (with_reducible first | exact HB.out | apply below_alloc | apply pw_below_drewN | apply below_drew1 | refine below_set ?_ (IsS40.ge HI0.out)) | exact HB.out)); rintro e w7 ⟨rfl, hi, hb, hk⟩; refine ⟨_, rfl, ?_⟩; have n0_ := Aside0.mk (KeepBut.trans (by repeat (first | (with_reducible first | exact HK.out | apply KeepBut.set_ | apply keep_drewN | apply keep_drew | apply keep_alloc) | exact HK.out)) hk (.inl rfl)); have n1_ := Aside0.mk (hb); have n2_ := Aside0.mk (hi); clear HK; clear HB; clear HI0; have HK := n0_; have HB := n1_; have HI0 := n2_; clear n0_ n1_ n2_; (try clear hb); (try clear hb2); (try clear hk); (try clear hi)))
      go_ret
      exact ⟨by first | rfl | (simp [errW_none, errW_some] <;> rfl) | (simp [*, errW_none, errW_some] <;> rfl), by repeat (first | (with_reducible first | exact HI0.out | apply IsS40.alloc | apply IsS40.drewN | apply IsS40.drew | apply IsS40.set_0 | apply IsS40.set_1) | exact HI0.out), by repeat (first | (with_reducible first | exact HB.out | apply below_alloc | apply pw_below_drewN | apply below_drew1 | refine below_set ?_ (IsS40.ge HI0.out)) | exact HB.out), by repeat (first | (with_reducible first | exact HK.out | apply KeepBut.set_ | apply keep_drewN | apply keep_drew | apply keep_alloc) | exact HK.out)⟩

/-! ### lexer_text_counted: function 27 -/
def lexer_text_counted.f (s0_0 : ByteArray) (s0_1 : Int) : Option (Bool × ByteArray × Int) := (lexer_text_now.f s0_0 s0_1).bind fun bt107 => (some ((bt107.1 == 2), bt107.2.1, bt107.2.2))
set_option maxHeartbeats 8000000 in
set_option maxRecDepth 100000 in
theorem lexer_text_counted.calls (g : Nat) (s0_0 : ByteArray) (s0_1 : Int) (r1 : Bool) (r2 : ByteArray) (r3 : Int) (w0 w : World) (hI : IsS40 w0 w g s0_0 s0_1) (hB : Below w0.heap.size w0 w) (h : lexer_text_counted.f s0_0 s0_1 = some (r1, r2, r3)) :
    Calls Try.prog 27 #[.pointer (some ⟨g, 0, none⟩)] w fun e w' => e = .returned (.bool r1) ∧ IsS40 w0 w' g r2 r3 ∧ Below w0.heap.size w0 w' ∧ KeepBut w w' g none := by
  have HI0 := Aside0.mk hI
  have HK := Aside0.mk (KeepBut.refl w g none)
  have HL := Aside0.mk hB.size
  clear hI
  have HW0 := Aside0.mk hB.size
  have HB := Aside0.mk hB
  clear hB
  have H : ((lexer_text_now.f s0_0 s0_1).bind fun bt107 => (some ((bt107.1 == 2), bt107.2.1, bt107.2.2))) = some (r1, r2, r3) := h
  clear h
  replace H := Option.bind_eq_some_iff.mp H
  obtain ⟨⟨t107, t108, t109⟩, A20, H⟩ := H
  replace H : (some ((t107 == 2), t108, t109)) = some (r1, r2, r3) := H
  have A2 := Aside0.mk A20
  clear A20
  simp only [Option.some.injEq, Prod.mk.injEq] at H
  obtain ⟨rfl, rfl, rfl⟩ := H
  go_enter Try.func27, Try.ntmps27
  go_wp2_with (first | ((with_reducible refine gate_callee (f := 24) rfl ?_); refine goesL_ (some 4) rfl rfl Try.func24 (by kernel_rfl) rfl #[.pointer (some ⟨g, 0, none⟩)] rfl (by (try simp only [List.map_toArray, List.map_cons, List.map_nil]); first | done | rfl | (simp only [List.length_drop, List.length_take]; rfl)) ?_; (with_reducible refine (lexer_text_now.calls g s0_0 s0_1 t107 t108 t109 w0 _ ?side1 ?side2 A2.out).mono ?_); (case side1 => repeat (first | (with_reducible first | exact HI0.out | apply IsS40.alloc | apply IsS40.drewN | apply IsS40.drew | apply IsS40.set_0 | apply IsS40.set_1) | exact HI0.out)); (case side2 => repeat (first | (with_reducible first | exact HB.out | apply below_alloc | apply pw_below_drewN | apply below_drew1 | refine below_set ?_ (IsS40.ge HI0.out)) | exact HB.out)); rintro e w3 ⟨rfl, hi, hb, hk⟩; refine ⟨_, rfl, ?_⟩; have n0_ := Aside0.mk (KeepBut.trans (by repeat (first | (with_reducible first | exact HK.out | apply KeepBut.set_ | apply keep_drewN | apply keep_drew | apply keep_alloc) | exact HK.out)) hk (.inl rfl)); have n1_ := Aside0.mk (hb); have n2_ := Aside0.mk (hi); clear HK; clear HB; clear HI0; have HK := n0_; have HB := n1_; have HI0 := n2_; clear n0_ n1_ n2_; (try clear hb); (try clear hb2); (try clear hk); (try clear hi)))
  go_ret
  exact ⟨by first | rfl | (simp [errW_none, errW_some] <;> rfl) | (simp [*, errW_none, errW_some] <;> rfl), by repeat (first | (with_reducible first | exact HI0.out | apply IsS40.alloc | apply IsS40.drewN | apply IsS40.drew | apply IsS40.set_0 | apply IsS40.set_1) | exact HI0.out), by repeat (first | (with_reducible first | exact HB.out | apply below_alloc | apply pw_below_drewN | apply below_drew1 | refine below_set ?_ (IsS40.ge HI0.out)) | exact HB.out), by repeat (first | (with_reducible first | exact HK.out | apply KeepBut.set_ | apply keep_drewN | apply keep_drew | apply keep_alloc) | exact HK.out)⟩

/-! ### lexer_number: function 28 -/
def lexer_number.f (a0 : Bool) (a1 : ByteArray) : Option (Bool) := if a1.toList = ([] : List UInt8) then (some false) else (if (a1.size : Int) > 9 then (some false) else (if 0 < (a1.size : Int) then (if (bt a1 0) = 48 then (if a1.toList = ([48] : List UInt8) then (some (!a0)) else (some false)) else (some true)) else (none)))
set_option maxHeartbeats 8000000 in
set_option maxRecDepth 100000 in
theorem lexer_number.calls (a0 : Bool) (a1 : ByteArray) (r : Bool) (w : World) (h : lexer_number.f a0 a1 = some r) :
    Calls Try.prog 28 #[.bool a0, .string a1] w fun e w' => e = .returned (.bool r) ∧ Drawn0 w w' := by
  have H : (if a1.toList = ([] : List UInt8) then (some false) else (if (a1.size : Int) > 9 then (some false) else (if 0 < (a1.size : Int) then (if (bt a1 0) = 48 then (if a1.toList = ([48] : List UInt8) then (some (!a0)) else (some false)) else (some true)) else (none)))) = some r := h
  clear h
  by_cases c3 : a1.toList = ([] : List UInt8)
  · rw [if_pos c3] at H
    have c3b0 : (a1.toList == ([] : List UInt8)) = true := beq_iff_eq.mpr c3
    have c3b1 : (a1.toList != ([] : List UInt8)) = false := bne_eq_false_iff_eq.mpr c3
    clear c3
    obtain rfl := Option.some.inj H
    go_enter Try.func28, Try.ntmps28
    go_wp2
    go_ret
    exact ⟨by first | rfl | (simp; done) | (simp [*]; done), by repeat (first | exact Drawn0.refl _ | apply Drawn0.step)⟩
  · rw [if_neg c3] at H
    have c3b0 : (a1.toList == ([] : List UInt8)) = false := beq_eq_false_iff_ne.mpr c3
    have c3b1 : (a1.toList != ([] : List UInt8)) = true := bne_iff_ne.mpr c3
    by_cases c4 : (a1.size : Int) > 9
    · rw [if_pos c4] at H
      have c4b0 : decide (9 < (a1.size : Int)) = true := decide_eq_true c4
      have c4b1 : decide (9 < a1.size) = true := decide_eq_true (by omega)
      clear c4
      obtain rfl := Option.some.inj H
      go_enter Try.func28, Try.ntmps28
      go_wp2
      go_ret
      exact ⟨by first | rfl | (simp; done) | (simp [*]; done), by repeat (first | exact Drawn0.refl _ | apply Drawn0.step)⟩
    · rw [if_neg c4] at H
      have c4b0 : decide (9 < (a1.size : Int)) = false := decide_eq_false c4
      have c4b1 : decide (9 < a1.size) = false := decide_eq_false (by omega)
      clear c4
      by_cases c5 : 0 < (a1.size : Int)
      · rw [if_pos c5] at H
        have c5b0 : decide (0 < (a1.size : Int)) = true := decide_eq_true c5
        have c5b1 : decide (0 < a1.size) = true := decide_eq_true (by omega)
        clear c5
        by_cases c7 : (bt a1 0) = 48
        · rw [if_pos c7] at H
          have c7b0 : ((bt a1 0) == 48) = true := beq_iff_eq.mpr c7
          have c7b1 : ((bt a1 0) != 48) = false := bne_eq_false_iff_eq.mpr c7
          clear c7
          by_cases c8 : a1.toList = ([48] : List UInt8)
          · rw [if_pos c8] at H
            have c8b0 : (a1.toList == ([48] : List UInt8)) = true := beq_iff_eq.mpr c8
            have c8b1 : (a1.toList != ([48] : List UInt8)) = false := bne_eq_false_iff_eq.mpr c8
            clear c8
            obtain rfl := Option.some.inj H
            have p6 : 0 ≤ (0 : Int) := (by omega)
            have q6 : 0 < a1.size := (by have : (0 : Int) < (a1.size : Int) := of_decide_eq_true (by first | (with_reducible assumption) | assumption); omega)
            have hx6 : ∀ h : 0 < a1.size, ((a1[0]'h).toNat : Int) = bt a1 0 := bt_at a1 0
            clear p6
            have qi6 : (0 < (a1.size : Int)) = True := eq_true (of_decide_eq_true (by first | (with_reducible assumption) | assumption))
            replace q6 := eq_true q6
            go_enter Try.func28, Try.ntmps28
            go_wp2
            go_ret
            exact ⟨by first | rfl | (simp; done) | (simp [*]; done), by repeat (first | exact Drawn0.refl _ | apply Drawn0.step)⟩
          · rw [if_neg c8] at H
            have c8b0 : (a1.toList == ([48] : List UInt8)) = false := beq_eq_false_iff_ne.mpr c8
            have c8b1 : (a1.toList != ([48] : List UInt8)) = true := bne_iff_ne.mpr c8
            obtain rfl := Option.some.inj H
            have p6 : 0 ≤ (0 : Int) := (by omega)
            have q6 : 0 < a1.size := (by have : (0 : Int) < (a1.size : Int) := of_decide_eq_true (by first | (with_reducible assumption) | assumption); omega)
            have hx6 : ∀ h : 0 < a1.size, ((a1[0]'h).toNat : Int) = bt a1 0 := bt_at a1 0
            clear p6
            have qi6 : (0 < (a1.size : Int)) = True := eq_true (of_decide_eq_true (by first | (with_reducible assumption) | assumption))
            replace q6 := eq_true q6
            go_enter Try.func28, Try.ntmps28
            go_wp2
            go_ret
            exact ⟨by first | rfl | (simp; done) | (simp [*]; done), by repeat (first | exact Drawn0.refl _ | apply Drawn0.step)⟩
        · rw [if_neg c7] at H
          have c7b0 : ((bt a1 0) == 48) = false := beq_eq_false_iff_ne.mpr c7
          have c7b1 : ((bt a1 0) != 48) = true := bne_iff_ne.mpr c7
          obtain rfl := Option.some.inj H
          have p6 : 0 ≤ (0 : Int) := (by omega)
          have q6 : 0 < a1.size := (by have : (0 : Int) < (a1.size : Int) := of_decide_eq_true (by first | (with_reducible assumption) | assumption); omega)
          have hx6 : ∀ h : 0 < a1.size, ((a1[0]'h).toNat : Int) = bt a1 0 := bt_at a1 0
          clear p6
          have qi6 : (0 < (a1.size : Int)) = True := eq_true (of_decide_eq_true (by first | (with_reducible assumption) | assumption))
          replace q6 := eq_true q6
          go_enter Try.func28, Try.ntmps28
          go_wp2
          go_ret
          exact ⟨by first | rfl | (simp; done) | (simp [*]; done), by repeat (first | exact Drawn0.refl _ | apply Drawn0.step)⟩
      · rw [if_neg c5] at H
        exact absurd H (by simp)

end Go.Proofs.Ytiikijdkhmbdbaa.PLx
