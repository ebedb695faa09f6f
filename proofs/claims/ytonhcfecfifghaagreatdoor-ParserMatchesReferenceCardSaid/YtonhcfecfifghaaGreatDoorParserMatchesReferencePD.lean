/- Part D of the proof of ParserMatchesReference: the contracts of the functions that the law reaches, and what their plain functions compute. No condition. -/
import Derived.Test.YtonhcfecfifghaaGreatDoorParserMatchesReferencePA
import Derived.Test.YtonhcfecfifghaaGreatDoorParserMatchesReferencePC
import Derived.StillTailTactics
import Derived.Lib.LaidTab
import Derived.Shelf.Strings.BuilderK
set_option maxHeartbeats 40000000
set_option maxRecDepth 100000
namespace Go.Proofs.YtonhcfecfifghaaGreatDoor.PPx
open Go.RowKit Go.Proofs.YtonhcfecfifghaaGreatDoorW.PrintWords Go.Proofs.YtonhcfecfifghaaGreatDoorW.PrintLast Go.Proofs.YtonhcfecfifghaaGreatDoorW.PrintMore
set_option linter.unusedVariables false
set_option linter.unusedSimpArgs false
section
abbrev zStm : Array Value := #[.int .i64 0, .int .i64 0, .string ⟨#[]⟩, .string ⟨#[]⟩, .int .i64 0, .int .i64 0, .int .i64 0, .int .i64 0, .int .i64 0, .int .i64 0, .int .i64 0, .slice none 0 0, .int .i64 0]
structure StA (w0 W wr : World) (g : Nat) (fin : Int) (vf0 vf : Value) (s : Rs) (b2 b3 : Nat) (t : S67) (x : S37) (v : Value) : Prop where
 r : IsR w0 wr g fin vf s
 go : Go_ W wr g vf0 vf
 b0 : wr.heap[W.heap.size]? = some (.cells #[.pointer (some ⟨g, 0, none⟩)] 45 (0, 0))
 b1 : wr.heap[W.heap.size + 1]? = some (.cells zStm 37 (0, 0))
 ht : wr.heap[b2]? = some (.cells #[.int .i64 t.f0, .string t.f1, .int .i64 t.f2] 67 (0, 0))
 hx : wr.heap[b3]? = some (.cells (stmC x v) 37 (0, 0))
 l2 : W.heap.size + 2 ≤ b2
 l3 : b2 < b3
 gl : g < W.heap.size
 ge : w0.heap.size ≤ W.heap.size
section
variable {w0 W wr w' : World} {g : Nat} {fin : Int} {vf0 vf vf1 : Value} {s s' : Rs} {b2 b3 : Nat} {t : S67} {x y : S37} {v u : Value}
theorem StA.step (h : StA w0 W wr g fin vf0 vf s b2 b3 t x v) (h2 : IsR w0 w' g fin vf1 s') (h3 : Go_ wr w' g vf vf1) : StA w0 W w' g fin vf0 vf1 s' b2 b3 t x v :=
 ⟨h2, h.go.trans h3 h.gl, h.r.keep h3 h.b0 (by decide) (by decide), h.r.keep h3 h.b1 (by decide) (by decide), h.r.keep h3 h.ht (by decide) (by decide), h.r.keep h3 h.hx (by decide) (by decide), h.l2, h.l3, h.gl, h.ge⟩
theorem StA.set (h : StA w0 W wr g fin vf0 vf s b2 b3 t x v) (j : Nat) (z : Value) (he : (stmC x v).setIfInBounds j z = stmC y u) : StA w0 W (wr.setCell ⟨b3, j, none⟩ z) g fin vf0 vf s b2 b3 t y u := by
 have := h.l2; have := h.l3; have := h.ge
 exact ⟨h.r.far h.hx (by decide) (by decide) (by omega) j z, h.go.set (p := ⟨b3, j, none⟩) (.inr (by show W.heap.size ≤ b3; omega)) z, blk_far h.b0 (p := ⟨b3, j, none⟩) (by show W.heap.size ≠ b3; omega) z, blk_far h.b1 (p := ⟨b3, j, none⟩) (by show W.heap.size + 1 ≠ b3; omega) z, blk_far h.ht (p := ⟨b3, j, none⟩) (by show b2 ≠ b3; omega) z, blk_put h.hx j z he, h.l2, h.l3, h.gl, h.ge⟩
theorem StA.below (h : StA w0 W wr g fin vf0 vf s b2 b3 t x v) (hb : Below wr.heap.size wr w') : StA w0 W w' g fin vf0 vf s b2 b3 t x v :=
 h.step (h.r.below hb) (Go_.of_below hb g vf)
theorem StA.start {w1 w2 : World} (h : IsR w0 w1 g fin vf s) (hgo : Go_ W w1 g vf0 vf) (z0 : w1.heap[W.heap.size]? = some (.cells #[.pointer (some ⟨g, 0, none⟩)] 45 (0, 0))) (z1 : w1.heap[W.heap.size + 1]? = some (.cells zStm 37 (0, 0)))
 (sz : W.heap.size + 2 ≤ w1.heap.size) (hb : Below w1.heap.size w1 w2) (ht : w2.heap[w1.heap.size]? = some (.cells #[.int .i64 t.f0, .string t.f1, .int .i64 t.f2] 67 (0, 0))) (hx : w2.heap[w1.heap.size + 1]? = some (.cells (stmC x v) 37 (0, 0))) (gl : g < W.heap.size) (ge : w0.heap.size ≤ W.heap.size) :
 StA w0 W w2 g fin vf0 vf s w1.heap.size (w1.heap.size + 1) t x v :=
 ⟨h.below hb, hgo.trans (Go_.of_below hb g vf) gl, blk_below z0 hb, blk_below z1 hb, ht, hx, sz, Nat.lt_succ_self _, gl, ge⟩
end
structure Rg (W' : World) (A : Option Addr) (c b2 : Nat) (t : S67) : Prop where
 w : W'.cell? ⟨0, 0, none⟩ = some (.slice A 9 c)
 C : Kd.C Kd.string W' A 9 wordsL
 tk : W'.heap[b2]? = some (.cells #[.int .i64 t.f0, .string t.f1, .int .i64 t.f2] 67 (0, 0))
 lt : 0 < W'.heap.size
section
variable {W' W1 : World} {A : Option Addr} {c b2 : Nat} {t : S67}
theorem Rg.below (h : Rg W' A c b2 t) (hb : Below W'.heap.size W' W1) : Rg W1 A c b2 t :=
 ⟨(World.cell?_of_block (a := ⟨0, 0, none⟩) (hb.block 0 h.lt)).trans h.w, Kd.C_below h.C hb, blk_below h.tk hb, Nat.lt_of_lt_of_le h.lt hb.size⟩
theorem Rg.held {G : World} (h0 : Rg G A c b2 t) (hb : Below G.heap.size G W') : W'.cell? ⟨0, 0, none⟩ = some (.slice A 9 c) ∧ W'.cell? ⟨b2, 1, none⟩ = some (.string t.f1) ∧ W'.cell? ⟨b2, 2, none⟩ = some (.int .i64 t.f2) ∧ Aside0 (Below G.heap.size G W') :=
 ⟨(h0.below hb).w, blk_cell (h0.below hb).tk 1, blk_cell (h0.below hb).tk 2, ⟨hb⟩⟩
theorem alloc_at {w : World} {o : Obj} {n : Nat} (h : n = w.heap.size) : (w.alloc o).heap[n]? = some o := by subst h; exact heap_alloc_new w o
theorem at_world {F P : World → Prop} {w : World} (h : P w) (k : ∀ w2, P w2 → F w2) : F w := k w h
end
section
variable {α : Type} {w0 W w' : World} {g : Nat} {fin : Int} {vf : Value} {enc : α → Value} {r : Step α} {e : Ending}
theorem Out1.of_ok {a : α} (h : Out1 w0 W g fin vf enc r e w') (hr : r.1 = .ok a) : e = .returned (enc a) ∧ IsR w0 w' g fin vf r.2 ∧ Go_ W w' g vf vf := by
 obtain ⟨h1, h2, h3⟩ := h; rw [hr] at h1; exact ⟨h1, h2, h3⟩
theorem Out1.of_err {f : Int × Int} (h : Out1 w0 W g fin vf enc r e w') (hr : r.1 = .error f) : e = .panicked (faultV f.1 f.2) ∧ IsR w0 w' g fin vf r.2 ∧ Go_ W w' g vf vf := by
 obtain ⟨h1, h2, h3⟩ := h; rw [hr] at h1; exact ⟨h1, h2, h3⟩
end
theorem StmtOut.err {w0 W w' : World} {g : Nat} {fin : Int} {vf vf' : Value} {r : Step S37} {f : Int × Int} {s' : Rs} (h : some (Except.error f, s') = some r) (h2 : IsR w0 w' g fin vf' s') (h3 : Go_ W w' g vf vf') : StmtOut w0 W g fin vf r (.panicked (faultV f.1 f.2)) w' := by
 cases h; exact ⟨vf', rfl, h2, h3⟩
theorem StmtOut.ok {w0 W w' : World} {g : Nat} {fin : Int} {vf vf' v : Value} {r : Step S37} {x : S37} {s' : Rs} (h : some (Except.ok x, s') = some r) (h2 : IsR w0 w' g fin vf' s') (h3 : Go_ W w' g vf vf') (hk : Kids w' W.heap.size g vf' v x.f6) : StmtOut w0 W g fin vf r (.returned (.agg (stmC x v))) w' := by
 cases h; exact ⟨vf', ⟨v, rfl, hk⟩, h2, h3⟩
theorem semi_ok {fin : Int} {x : S37} {s : Rs} {r : Step S37} {t : S67} (h : semiS fin x s = some r) (hq : (signS ⟨#[59]⟩ fin s).1 = .ok t) : some (Except.ok x, (signS ⟨#[59]⟩ fin s).2) = some r := by
 rw [← h, semiS, Step.bind_ok hq]
theorem semi_err {fin : Int} {x : S37} {s : Rs} {r : Step S37} {f : Int × Int} (h : semiS fin x s = some r) (hq : (signS ⟨#[59]⟩ fin s).1 = .error f) : some (Except.error f, (signS ⟨#[59]⟩ fin s).2) = some r := by
 rw [← h, semiS, Step.bind_err hq]
theorem armS_ok {fin : Int} {s : Rs} {a : Int} (h : (armS fin s).1 = .ok a) : a = 0 ∨ a = 1 := by
 unfold armS Step.map at h
 simp only at h
 split at h
 · rename_i t ht
   injection h with h
   unfold armOf at h
   split at h
   · exact .inr h.symm
   · exact .inl h.symm
 · cases h
theorem sizeStm : (Tryz.prog.info? 37).map (·.size) = some 13 := by kernel_rfl
theorem stmt_calls (rec : Int → Rs → Option (List S37 × Rs)) (w0 W : World) (g : Nat) (fin deep : Int) (vf : Value) (s : Rs) (r : Step S37) (hI : IsR w0 W g fin vf s) (hW : WordsAt w0) (hr : stmtS rec fin deep s = some r)
 (HREC : Aside0 (∀ (d : Int) (W1 : World) (vf1 : Value) (s1 : Rs) (r1 : List S37 × Rs), IsR w0 W1 g fin vf1 s1 → rec d s1 = some r1 → Calls Tryz.prog 18 #[.pointer (some ⟨g, 0, none⟩), .int .i64 d] W1 fun e w' => StmtsOut w0 W1 g fin vf1 r1 e w')) :
 Calls Tryz.prog 51 #[.pointer (some ⟨g, 0, none⟩), .int .i64 deep] W fun e w' => StmtOut w0 W g fin vf r e w' := by
 have hu55 := Tryz.underlying37
 have hu44 := Tryz.underlying67
 have hmf : ∀ (fn : Fn) (first cap : Array Value) (w : World), (Instr.makeFunc fn first cap).run Tryz.prog w = .ok (.func fn first cap) w := fun _ _ _ _ => rfl
 have HI := Aside0.mk hI
 have HW := Aside0.mk hW
 have hgl := hI.lt
 have hge := hI.bel.size
 have hb1 := below_alloc (below_alloc (Below.refl W.heap.size W) (.cells #[.pointer (some ⟨g, 0, none⟩)] 45)) (.cells zStm 37)
 have HI1 := Aside0.mk (hI.below hb1)
 have hWW := Aside0.mk (hW.below HI1.out.bel)
 clear hI hW
 have HR := Aside0.mk hr
 clear hr
 go_enter Tryz.func51, Tryz.ntmps51
 go_wp2_with fail
 refine (take_calls 76 #[] (fun _ _ => by rfl) isKey w0 _ g fin vf s HI1.out ⟨fun W1 t h => stmt1_calls W1 t (hWW.out.below h)⟩).mono ?_
 intro e w1 ho
 rcases ho.cases with ⟨t, hr, rfl, h2, h3⟩ | ⟨f, hr, rfl, h2, h3⟩
 · have HI2 := Aside0.mk h2
   have HG2 := Aside0.mk ((Go_.of_below hb1 g vf).trans h3 hgl)
   have HR2 := Aside0.mk hr
   have hz0 : ((W.alloc (.cells #[.pointer (some ⟨g, 0, none⟩)] 45)).alloc (.cells zStm 37)).heap[W.heap.size]? = some (.cells #[.pointer (some ⟨g, 0, none⟩)] 45 (0, 0)) := blk_alloc (heap_alloc_new W _) _
   have hz1 : ((W.alloc (.cells #[.pointer (some ⟨g, 0, none⟩)] 45)).alloc (.cells zStm 37)).heap[W.heap.size + 1]? = some (.cells zStm 37 (0, 0)) := by
    have := heap_alloc_new (W.alloc (.cells #[.pointer (some ⟨g, 0, none⟩)] 45)) (.cells zStm 37)
    simpa using this
   have Z0 := Aside0.mk (HI1.out.keep h3 hz0 (by decide) (by decide))
   have Z1 := Aside0.mk (HI1.out.keep h3 hz1 (by decide) (by decide))
   have hsz : W.heap.size + 2 ≤ w1.heap.size := by have := h3.size; simpa using this
   obtain ⟨A, c, g0, hc, hC, hlt⟩ := HW.out.below HI2.out.bel
   have G1 := Aside0.mk (Rg.mk (W' := w1.alloc (.cells #[.int .i64 t.f0, .string t.f1, .int .i64 t.f2] 67)) (b2 := w1.heap.size) ((World.cell?_alloc_lt _ _ _ hlt).trans g0) (Kd.C_alloc hC _) (heap_alloc_new w1 _) (by simp))
   clear ho h2 h3 hr hz0 hz1 hC HI1 hWW hb1
   simp only [tokV]
   go_wp2_with fail
   have hszG : (w1.alloc (.cells #[.int .i64 t.f0, .string t.f1, .int .i64 t.f2] 67)).heap.size ≤ w1.heap.size + 1 := by simp
   go_region_held3 (fun W' => W'.cell? ⟨0, 0, none⟩ = some (.slice A 9 c) ∧ W'.cell? ⟨w1.heap.size, 1, none⟩ = some (.string t.f1) ∧ W'.cell? ⟨w1.heap.size, 2, none⟩ = some (.int .i64 t.f2) ∧ Aside0 (Below (w1.alloc (.cells #[.int .i64 t.f0, .string t.f1, .int .i64 t.f2] 67)).heap.size (w1.alloc (.cells #[.int .i64 t.f0, .string t.f1, .int .i64 t.f2] 67)) W')) (exact Rg.held G1.out (by repeat (with_reducible first | exact Below.refl _ _ | apply below_drew | apply pw_below_drewN | apply below_alloc | refine below_set ?_ hszG))) (first | (go_at_call 78; refine (slices_Index_string_string.calls 20 A c wordsL t.f1 (wordIx t.f1) _ (Rg.C (G1.out.below (by repeat (with_reducible first | exact Below.refl _ _ | apply below_drew | apply pw_below_drewN | apply below_alloc | refine below_set ?_ hszG)))) hc (wordIx_f t.f1).1).mono ?_; rintro e w' ⟨rfl, nd, rfl⟩))
   all_goals refine at_world (F := fun w => Exit.then _ _ Exit.normal _ w) (P := fun w2 => StA w0 W w2 g fin vf vf (takeS isKey fin s).2 w1.heap.size (w1.heap.size + 1) t (xOf (wordIx t.f1) t.f2) (.slice none 0 0)) ?_ ?_
   · exact StA.start HI2.out HG2.out Z0.out Z1.out hsz (by repeat (with_reducible first | exact Below.refl _ _ | apply below_drew | apply pw_below_drewN | apply below_alloc | refine below_set ?_ hszG)) (blk_alloc (blk_drewN (heap_alloc_new w1 _) _) _) (alloc_at (by simp)) hgl hge
   rotate_left
   · have HB0 := StA.start (fin := fin) (t := t) (x := xOf 0 0) (v := .slice none 0 0) (w2 := ((w1.alloc (.cells #[.int .i64 t.f0, .string t.f1, .int .i64 t.f2] 67)).alloc (.cells zStm 37)).drewN (1 + nd)) HI2.out HG2.out Z0.out Z1.out hsz (by repeat (with_reducible first | exact Below.refl _ _ | apply below_drew | apply pw_below_drewN | apply below_alloc)) (blk_drewN (blk_alloc (heap_alloc_new w1 _) _) _) (blk_drewN (alloc_at (by simp)) _) hgl hge
     have a0 := HB0.set (y := xOf (wordIx t.f1) 0) (u := .slice none 0 0) 0 (.int .i64 (wordIx t.f1)) rfl
     have a1 := a0.set (y := xOf (wordIx t.f1) 0) (u := .slice none 0 0) 1 (.int .i64 0) rfl
     have a2 := a1.set (y := xOf (wordIx t.f1) 0) (u := .slice none 0 0) 2 (.string ⟨#[]⟩) rfl
     have a3 := a2.set (y := xOf (wordIx t.f1) 0) (u := .slice none 0 0) 3 (.string ⟨#[]⟩) rfl
     have a4 := a3.set (y := xOf (wordIx t.f1) 0) (u := .slice none 0 0) 4 (.int .i64 0) rfl
     have a5 := a4.set (y := xOf (wordIx t.f1) 0) (u := .slice none 0 0) 5 (.int .i64 0) rfl
     have a6 := a5.set (y := xOf (wordIx t.f1) 0) (u := .slice none 0 0) 6 (.int .i64 0) rfl
     have a7 := a6.set (y := xOf (wordIx t.f1) 0) (u := .slice none 0 0) 7 (.int .i64 0) rfl
     have a8 := a7.set (y := xOf (wordIx t.f1) 0) (u := .slice none 0 0) 8 (.int .i64 0) rfl
     have a9 := a8.set (y := xOf (wordIx t.f1) 0) (u := .slice none 0 0) 9 (.int .i64 0) rfl
     have a10 := a9.set (y := xOf (wordIx t.f1) 0) (u := .slice none 0 0) 10 (.int .i64 0) rfl
     have a11 := a10.set (y := xOf (wordIx t.f1) 0) (u := .slice none 0 0) 11 (.slice none 0 0) rfl
     exact a11.set (y := xOf (wordIx t.f1) t.f2) (u := .slice none 0 0) 12 (.int .i64 t.f2) rfl
   all_goals
    intro w2 hS
    have HS := Aside0.mk hS
    have HR1 := Aside0.mk ((obind_ok HR2.out).symm.trans HR.out)
    have hk := (wordIx_f t.f1).2
    have hw := (takeS_ok HR2.out).1
    simp only [isKey, isWord, Bool.and_eq_true, decide_eq_true_eq] at hw
    have hb3 : w1.heap.size + 1 ≠ w1.heap.size := by omega
    clear hS HR HR2 HI2 HG2 Z0 Z1 G1 g0 hlt hc hszG
    have HR := HR1
    clear HR1
    generalize wordIx t.f1 = k at *
    generalize (takeS isKey fin s).2 = s2 at *
    generalize w1.heap.size = b2 at *
    generalize b2 + 1 = b3 at *
    have e0 := blk_cell HS.out.hx 0
    have c0 := blk_cell HS.out.b0 0
    simp only [List.getElem?_toArray, List.getElem?_cons_zero, List.getElem?_cons_succ] at e0 c0
    have hk9 : k = 0 ∨ k = 1 ∨ k = 2 ∨ k = 3 ∨ k = 4 ∨ k = 5 ∨ k = 6 ∨ k = 7 ∨ k = 8 := by omega
    clear hk
    have hlt3 : W.heap.size < b3 := by have := HS.out.l2; have := HS.out.l3; omega
    rcases hk9 with rfl | rfl | rfl | rfl | rfl | rfl | rfl | rfl | rfl
    · -- kind 0
      have HR0 := Aside0.mk (show semiS fin (xOf 0 t.f2) s2 = some r from HR.out)
      clear HR
      have HR := HR0
      clear HR0
      go_wp2_with fail
      (try clear c0)
      (try clear e0)
      cases hq : (signS ⟨#[59]⟩ fin s2).1 with
      | error f =>
       refine (sign_calls ⟨#[59]⟩ w0 _ g fin vf _ HS.out.r).mono ?_
       intro e w9 ho
       obtain ⟨rfl, h2, h3⟩ := ho.of_err hq
       exact ⟨rfl, StmtOut.err (semi_err HR.out hq) h2 ((HS.out.step h2 h3).go)⟩
      | ok t9 =>
       refine (sign_calls ⟨#[59]⟩ w0 _ g fin vf _ HS.out.r).mono ?_
       intro e w9 ho
       obtain ⟨rfl, h2, h3⟩ := ho.of_ok hq
       have HT := Aside0.mk (HS.out.step h2 h3)
       have HR1 := Aside0.mk (semi_ok HR.out hq)
       clear HS HR ho h2 h3 hq
       simp only [voidV]
       go_wp2_with (first | (refine wpList_load_row rfl 37 _ rfl b3 rfl 37 (stmC (xOf 0 t.f2) (.slice none 0 0)) (0, 0) _ HT.out.hx hu55 rfl sizeStm ?_) | (refine wpList_store_row rfl 37 _ _ rfl (W.heap.size + 1) (stmC (xOf 0 t.f2) (.slice none 0 0)) rfl rfl 37 zStm HT.out.b1 sizeStm rfl (by kernel_rfl) ?_))
       refine bodyPost_ret (results_cell_row rfl _ _ (W.heap.size + 1) 37 (stmC (xOf 0 t.f2) (.slice none 0 0)) (0, 0) _ rfl (setRow_heap _ _ _ _ _ _ HT.out.b1) hu55 rfl sizeStm) rfl ?_
       exact StmtOut.ok HR1.out (HT.out.r.setRow HT.out.b1 (by decide) (by decide) (by have := HT.out.ge; omega)) (HT.out.go.setRow (Nat.le_succ _) _) (Kids.nil _ _ _ _)
    · -- kind 1
      have HR0 := Aside0.mk (show obind (armS fin s2) (fun a s => obind (tripleS fin s) fun q s => semiS fin ⟨1, a, ⟨#[]⟩, ⟨#[]⟩, 0, toOf a q, [], t.f2⟩ s) = some r from HR.out)
      clear HR
      have HR := HR0
      clear HR0
      go_wp2_with fail
      (try clear c0)
      (try clear e0)
      cases hq : (armS fin s2).1 with
      | error f =>
       refine (arm_calls w0 _ g fin vf _ HS.out.r).mono ?_
       intro e w9 ho
       obtain ⟨rfl, h2, h3⟩ := ho.of_err hq
       exact ⟨rfl, StmtOut.err ((obind_err hq).symm.trans HR.out) h2 ((HS.out.step h2 h3).go)⟩
      | ok a =>
       refine (arm_calls w0 _ g fin vf _ HS.out.r).mono ?_
       intro e w3 ho
       obtain ⟨rfl, h2, h3⟩ := ho.of_ok hq
       have HS1 := Aside0.mk (HS.out.step h2 h3)
       have HR1 := Aside0.mk ((obind_ok hq).symm.trans HR.out)
       have ha := armS_ok hq
       clear HS HR ho h2 h3 hq
       have HS := HS1
       have HR := HR1
       clear HS1 HR1
       (try clear c0)
       (try clear e0)
       generalize (armS fin s2).2 = s3 at HS HR
       try simp only [voidV, triV]
       have c0 := blk_cell HS.out.b0 0
       simp only [List.getElem?_toArray, List.getElem?_cons_zero, List.getElem?_cons_succ] at c0
       have z1 := blk_frozen HS.out.hx 1
       have q1 := blk_cell HS.out.hx 1
       simp only [List.getElem?_toArray, List.getElem?_cons_zero, List.getElem?_cons_succ] at q1
       have HS1 := Aside0.mk (HS.out.set (y := ⟨1, a, ⟨#[]⟩, ⟨#[]⟩, 0, ⟨⟨0, 0, 0⟩, ⟨0, 0, 0⟩⟩, [], t.f2⟩) (u := .slice none 0 0) 1 (.int .i64 a) rfl)
       clear HS
       have HS := HS1
       clear HS1
       go_wp2_with fail
       generalize (w3.setCell ⟨b3, 1, none⟩ (.int .i64 a)) = w4 at *
       clear c0 z1 q1
       rcases ha with rfl | rfl
       · -- arm 0
         have HD := Aside0.mk (HS.out.below (below_drew (Below.refl _ _)))
         have z5 := fun (w : World) (h : w.heap[b3]? = some (.cells (stmC ⟨1, 0, ⟨#[]⟩, ⟨#[]⟩, 0, ⟨⟨0, 0, 0⟩, ⟨0, 0, 0⟩⟩, [], t.f2⟩ (.slice none 0 0)) 37 (0, 0))) => blk_frozen h 5
         have z6 := fun (w : World) (h : w.heap[b3]? = some (.cells (stmC ⟨1, 0, ⟨#[]⟩, ⟨#[]⟩, 0, ⟨⟨0, 0, 0⟩, ⟨0, 0, 0⟩⟩, [], t.f2⟩ (.slice none 0 0)) 37 (0, 0))) => blk_frozen h 6
         have z7 := fun (w : World) (h : w.heap[b3]? = some (.cells (stmC ⟨1, 0, ⟨#[]⟩, ⟨#[]⟩, 0, ⟨⟨0, 0, 0⟩, ⟨0, 0, 0⟩⟩, [], t.f2⟩ (.slice none 0 0)) 37 (0, 0))) => blk_frozen h 7
         cases hq : (tripleS fin s3).1 with
         | error f =>
          have e1 := blk_cell HD.out.hx 1
          have e2 := blk_cell HD.out.b0 0
          simp only [List.getElem?_toArray, List.getElem?_cons_zero, List.getElem?_cons_succ] at e1 e2
          go_region_with (go_at_call 82; (with_reducible refine (triple_calls w0 _ g fin vf _ HD.out.r).mono ?_); intro e w9 ho; obtain ⟨rfl, h2, h3⟩ := ho.of_err hq; refine (fun (_ : wpAny Tryz.prog .any #[] (fun _ _ _ => True) 0 #[] ⟨#[], []⟩ w9) => ⟨rfl, StmtOut.err ((obind_err hq).symm.trans HR.out) h2 ((HD.out.step h2 h3).go)⟩) ?_)
          all_goals trivial
         | ok q =>
          go_region_held3 (fun W' => W'.cell? ⟨b3, 1, none⟩ = some (.int .i64 0) ∧ W'.cell? ⟨W.heap.size, 0, none⟩ = some (.pointer (some ⟨g, 0, none⟩))) (first | exact ⟨blk_cell HD.out.hx 1, blk_cell HD.out.b0 0⟩ | exact ⟨blk_cell HE.hx 1, blk_cell HE.b0 0⟩ | exact ⟨blk_cell (((HE.set (y := ⟨1, 0, ⟨#[]⟩, ⟨#[]⟩, 0, ⟨⟨q.f0, 0, 0⟩, ⟨0, 0, 0⟩⟩, [], t.f2⟩) (u := .slice none 0 0) 5 (.int .i64 q.f0) rfl).set (y := ⟨1, 0, ⟨#[]⟩, ⟨#[]⟩, 0, ⟨⟨q.f0, q.f1, 0⟩, ⟨0, 0, 0⟩⟩, [], t.f2⟩) (u := .slice none 0 0) 6 (.int .i64 q.f1) rfl).set (y := ⟨1, 0, ⟨#[]⟩, ⟨#[]⟩, 0, ⟨⟨q.f0, q.f1, q.f2⟩, ⟨0, 0, 0⟩⟩, [], t.f2⟩) (u := .slice none 0 0) 7 (.int .i64 q.f2) rfl).hx 1, blk_cell (((HE.set (y := ⟨1, 0, ⟨#[]⟩, ⟨#[]⟩, 0, ⟨⟨q.f0, 0, 0⟩, ⟨0, 0, 0⟩⟩, [], t.f2⟩) (u := .slice none 0 0) 5 (.int .i64 q.f0) rfl).set (y := ⟨1, 0, ⟨#[]⟩, ⟨#[]⟩, 0, ⟨⟨q.f0, q.f1, 0⟩, ⟨0, 0, 0⟩⟩, [], t.f2⟩) (u := .slice none 0 0) 6 (.int .i64 q.f1) rfl).set (y := ⟨1, 0, ⟨#[]⟩, ⟨#[]⟩, 0, ⟨⟨q.f0, q.f1, q.f2⟩, ⟨0, 0, 0⟩⟩, [], t.f2⟩) (u := .slice none 0 0) 7 (.int .i64 q.f2) rfl).b0 0⟩) (first | (go_at_call 82; (with_reducible refine (triple_calls w0 _ g fin vf _ HD.out.r).mono ?_); intro e w5 ho; obtain ⟨rfl, h2, h3⟩ := ho.of_ok hq; have HE := HD.out.step h2 h3; have x5 := blk_cell HE.hx 5; have x6 := blk_cell HE.hx 6; have x7 := blk_cell HE.hx 7; have y5 := blk_frozen HE.hx 5; have y6 := blk_frozen HE.hx 6; have y7 := blk_frozen HE.hx 7; simp only [List.getElem?_toArray, List.getElem?_cons_zero, List.getElem?_cons_succ] at x5 x6 x7; simp only [triV]))
          have HS1 := Aside0.mk (((HE.set (y := ⟨1, 0, ⟨#[]⟩, ⟨#[]⟩, 0, ⟨⟨q.f0, 0, 0⟩, ⟨0, 0, 0⟩⟩, [], t.f2⟩) (u := .slice none 0 0) 5 (.int .i64 q.f0) rfl).set (y := ⟨1, 0, ⟨#[]⟩, ⟨#[]⟩, 0, ⟨⟨q.f0, q.f1, 0⟩, ⟨0, 0, 0⟩⟩, [], t.f2⟩) (u := .slice none 0 0) 6 (.int .i64 q.f1) rfl).set (y := ⟨1, 0, ⟨#[]⟩, ⟨#[]⟩, 0, ⟨⟨q.f0, q.f1, q.f2⟩, ⟨0, 0, 0⟩⟩, [], t.f2⟩) (u := .slice none 0 0) 7 (.int .i64 q.f2) rfl)
          have HR1 := Aside0.mk (show semiS fin ⟨1, 0, ⟨#[]⟩, ⟨#[]⟩, 0, ⟨⟨q.f0, q.f1, q.f2⟩, ⟨0, 0, 0⟩⟩, [], t.f2⟩ (tripleS fin s3).2 = some r from (obind_ok hq).symm.trans HR.out)
          clear HS HR HD HE h2 h3 hq ho x5 x6 x7 y5 y6 y7 z5 z6 z7
          have HS := HS1
          have HR := HR1
          clear HS1 HR1
          generalize (tripleS fin s3).2 = s4 at HS HR
          have c0 := blk_cell HS.out.b0 0
          simp only [List.getElem?_toArray, List.getElem?_cons_zero, List.getElem?_cons_succ] at c0
          generalize ((w5.setCell ⟨b3, 5, none⟩ (.int .i64 q.f0)).setCell ⟨b3, 6, none⟩ (.int .i64 q.f1)).setCell ⟨b3, 7, none⟩ (.int .i64 q.f2) = w6 at *
          go_wp2_with fail
          try clear c0
          cases hq : (signS ⟨#[59]⟩ fin s4).1 with
          | error f =>
           refine (sign_calls ⟨#[59]⟩ w0 _ g fin vf _ HS.out.r).mono ?_
           intro e w9 ho
           obtain ⟨rfl, h2, h3⟩ := ho.of_err hq
           exact ⟨rfl, StmtOut.err (semi_err HR.out hq) h2 ((HS.out.step h2 h3).go)⟩
          | ok t9 =>
           refine (sign_calls ⟨#[59]⟩ w0 _ g fin vf _ HS.out.r).mono ?_
           intro e w9 ho
           obtain ⟨rfl, h2, h3⟩ := ho.of_ok hq
           have HT := Aside0.mk (HS.out.step h2 h3)
           have HR1 := Aside0.mk (semi_ok HR.out hq)
           clear HS HR ho h2 h3 hq
           simp only [voidV]
           go_wp2_with (first | (refine wpList_load_row rfl 37 _ rfl b3 rfl 37 (stmC ⟨1, 0, ⟨#[]⟩, ⟨#[]⟩, 0, ⟨⟨q.f0, q.f1, q.f2⟩, ⟨0, 0, 0⟩⟩, [], t.f2⟩ (.slice none 0 0)) (0, 0) _ HT.out.hx hu55 rfl sizeStm ?_) | (refine wpList_store_row rfl 37 _ _ rfl (W.heap.size + 1) (stmC ⟨1, 0, ⟨#[]⟩, ⟨#[]⟩, 0, ⟨⟨q.f0, q.f1, q.f2⟩, ⟨0, 0, 0⟩⟩, [], t.f2⟩ (.slice none 0 0)) rfl rfl 37 zStm HT.out.b1 sizeStm rfl (by kernel_rfl) ?_))
           refine bodyPost_ret (results_cell_row rfl _ _ (W.heap.size + 1) 37 (stmC ⟨1, 0, ⟨#[]⟩, ⟨#[]⟩, 0, ⟨⟨q.f0, q.f1, q.f2⟩, ⟨0, 0, 0⟩⟩, [], t.f2⟩ (.slice none 0 0)) (0, 0) _ rfl (setRow_heap _ _ _ _ _ _ HT.out.b1) hu55 rfl sizeStm) rfl ?_
           exact StmtOut.ok HR1.out (HT.out.r.setRow HT.out.b1 (by decide) (by decide) (by have := HT.out.ge; omega)) (HT.out.go.setRow (Nat.le_succ _) _) (Kids.nil _ _ _ _)
       · -- arm 1
         have HD := Aside0.mk (HS.out.below (below_drew (Below.refl _ _)))
         have z8 := fun (w : World) (h : w.heap[b3]? = some (.cells (stmC ⟨1, 1, ⟨#[]⟩, ⟨#[]⟩, 0, ⟨⟨0, 0, 0⟩, ⟨0, 0, 0⟩⟩, [], t.f2⟩ (.slice none 0 0)) 37 (0, 0))) => blk_frozen h 8
         have z9 := fun (w : World) (h : w.heap[b3]? = some (.cells (stmC ⟨1, 1, ⟨#[]⟩, ⟨#[]⟩, 0, ⟨⟨0, 0, 0⟩, ⟨0, 0, 0⟩⟩, [], t.f2⟩ (.slice none 0 0)) 37 (0, 0))) => blk_frozen h 9
         have z10 := fun (w : World) (h : w.heap[b3]? = some (.cells (stmC ⟨1, 1, ⟨#[]⟩, ⟨#[]⟩, 0, ⟨⟨0, 0, 0⟩, ⟨0, 0, 0⟩⟩, [], t.f2⟩ (.slice none 0 0)) 37 (0, 0))) => blk_frozen h 10
         cases hq : (tripleS fin s3).1 with
         | error f =>
          have e1 := blk_cell HD.out.hx 1
          have e2 := blk_cell HD.out.b0 0
          simp only [List.getElem?_toArray, List.getElem?_cons_zero, List.getElem?_cons_succ] at e1 e2
          go_region_with (go_at_call 82; (with_reducible refine (triple_calls w0 _ g fin vf _ HD.out.r).mono ?_); intro e w9 ho; obtain ⟨rfl, h2, h3⟩ := ho.of_err hq; refine (fun (_ : wpAny Tryz.prog .any #[] (fun _ _ _ => True) 0 #[] ⟨#[], []⟩ w9) => ⟨rfl, StmtOut.err ((obind_err hq).symm.trans HR.out) h2 ((HD.out.step h2 h3).go)⟩) ?_)
          all_goals trivial
         | ok q =>
          go_region_held3 (fun W' => W'.cell? ⟨b3, 1, none⟩ = some (.int .i64 1) ∧ W'.cell? ⟨W.heap.size, 0, none⟩ = some (.pointer (some ⟨g, 0, none⟩))) (first | exact ⟨blk_cell HD.out.hx 1, blk_cell HD.out.b0 0⟩ | exact ⟨blk_cell HE.hx 1, blk_cell HE.b0 0⟩ | exact ⟨blk_cell (((HE.set (y := ⟨1, 1, ⟨#[]⟩, ⟨#[]⟩, 0, ⟨⟨0, 0, 0⟩, ⟨q.f0, 0, 0⟩⟩, [], t.f2⟩) (u := .slice none 0 0) 8 (.int .i64 q.f0) rfl).set (y := ⟨1, 1, ⟨#[]⟩, ⟨#[]⟩, 0, ⟨⟨0, 0, 0⟩, ⟨q.f0, q.f1, 0⟩⟩, [], t.f2⟩) (u := .slice none 0 0) 9 (.int .i64 q.f1) rfl).set (y := ⟨1, 1, ⟨#[]⟩, ⟨#[]⟩, 0, ⟨⟨0, 0, 0⟩, ⟨q.f0, q.f1, q.f2⟩⟩, [], t.f2⟩) (u := .slice none 0 0) 10 (.int .i64 q.f2) rfl).hx 1, blk_cell (((HE.set (y := ⟨1, 1, ⟨#[]⟩, ⟨#[]⟩, 0, ⟨⟨0, 0, 0⟩, ⟨q.f0, 0, 0⟩⟩, [], t.f2⟩) (u := .slice none 0 0) 8 (.int .i64 q.f0) rfl).set (y := ⟨1, 1, ⟨#[]⟩, ⟨#[]⟩, 0, ⟨⟨0, 0, 0⟩, ⟨q.f0, q.f1, 0⟩⟩, [], t.f2⟩) (u := .slice none 0 0) 9 (.int .i64 q.f1) rfl).set (y := ⟨1, 1, ⟨#[]⟩, ⟨#[]⟩, 0, ⟨⟨0, 0, 0⟩, ⟨q.f0, q.f1, q.f2⟩⟩, [], t.f2⟩) (u := .slice none 0 0) 10 (.int .i64 q.f2) rfl).b0 0⟩) (first | (go_at_call 82; (with_reducible refine (triple_calls w0 _ g fin vf _ HD.out.r).mono ?_); intro e w5 ho; obtain ⟨rfl, h2, h3⟩ := ho.of_ok hq; have HE := HD.out.step h2 h3; have x8 := blk_cell HE.hx 8; have x9 := blk_cell HE.hx 9; have x10 := blk_cell HE.hx 10; have y8 := blk_frozen HE.hx 8; have y9 := blk_frozen HE.hx 9; have y10 := blk_frozen HE.hx 10; simp only [List.getElem?_toArray, List.getElem?_cons_zero, List.getElem?_cons_succ] at x8 x9 x10; simp only [triV]))
          have HS1 := Aside0.mk (((HE.set (y := ⟨1, 1, ⟨#[]⟩, ⟨#[]⟩, 0, ⟨⟨0, 0, 0⟩, ⟨q.f0, 0, 0⟩⟩, [], t.f2⟩) (u := .slice none 0 0) 8 (.int .i64 q.f0) rfl).set (y := ⟨1, 1, ⟨#[]⟩, ⟨#[]⟩, 0, ⟨⟨0, 0, 0⟩, ⟨q.f0, q.f1, 0⟩⟩, [], t.f2⟩) (u := .slice none 0 0) 9 (.int .i64 q.f1) rfl).set (y := ⟨1, 1, ⟨#[]⟩, ⟨#[]⟩, 0, ⟨⟨0, 0, 0⟩, ⟨q.f0, q.f1, q.f2⟩⟩, [], t.f2⟩) (u := .slice none 0 0) 10 (.int .i64 q.f2) rfl)
          have HR1 := Aside0.mk (show semiS fin ⟨1, 1, ⟨#[]⟩, ⟨#[]⟩, 0, ⟨⟨0, 0, 0⟩, ⟨q.f0, q.f1, q.f2⟩⟩, [], t.f2⟩ (tripleS fin s3).2 = some r from (obind_ok hq).symm.trans HR.out)
          clear HS HR HD HE h2 h3 hq ho x8 x9 x10 y8 y9 y10 z8 z9 z10
          have HS := HS1
          have HR := HR1
          clear HS1 HR1
          generalize (tripleS fin s3).2 = s4 at HS HR
          have c0 := blk_cell HS.out.b0 0
          simp only [List.getElem?_toArray, List.getElem?_cons_zero, List.getElem?_cons_succ] at c0
          generalize ((w5.setCell ⟨b3, 8, none⟩ (.int .i64 q.f0)).setCell ⟨b3, 9, none⟩ (.int .i64 q.f1)).setCell ⟨b3, 10, none⟩ (.int .i64 q.f2) = w6 at *
          go_wp2_with fail
          try clear c0
          cases hq : (signS ⟨#[59]⟩ fin s4).1 with
          | error f =>
           refine (sign_calls ⟨#[59]⟩ w0 _ g fin vf _ HS.out.r).mono ?_
           intro e w9 ho
           obtain ⟨rfl, h2, h3⟩ := ho.of_err hq
           exact ⟨rfl, StmtOut.err (semi_err HR.out hq) h2 ((HS.out.step h2 h3).go)⟩
          | ok t9 =>
           refine (sign_calls ⟨#[59]⟩ w0 _ g fin vf _ HS.out.r).mono ?_
           intro e w9 ho
           obtain ⟨rfl, h2, h3⟩ := ho.of_ok hq
           have HT := Aside0.mk (HS.out.step h2 h3)
           have HR1 := Aside0.mk (semi_ok HR.out hq)
           clear HS HR ho h2 h3 hq
           simp only [voidV]
           go_wp2_with (first | (refine wpList_load_row rfl 37 _ rfl b3 rfl 37 (stmC ⟨1, 1, ⟨#[]⟩, ⟨#[]⟩, 0, ⟨⟨0, 0, 0⟩, ⟨q.f0, q.f1, q.f2⟩⟩, [], t.f2⟩ (.slice none 0 0)) (0, 0) _ HT.out.hx hu55 rfl sizeStm ?_) | (refine wpList_store_row rfl 37 _ _ rfl (W.heap.size + 1) (stmC ⟨1, 1, ⟨#[]⟩, ⟨#[]⟩, 0, ⟨⟨0, 0, 0⟩, ⟨q.f0, q.f1, q.f2⟩⟩, [], t.f2⟩ (.slice none 0 0)) rfl rfl 37 zStm HT.out.b1 sizeStm rfl (by kernel_rfl) ?_))
           refine bodyPost_ret (results_cell_row rfl _ _ (W.heap.size + 1) 37 (stmC ⟨1, 1, ⟨#[]⟩, ⟨#[]⟩, 0, ⟨⟨0, 0, 0⟩, ⟨q.f0, q.f1, q.f2⟩⟩, [], t.f2⟩ (.slice none 0 0)) (0, 0) _ rfl (setRow_heap _ _ _ _ _ _ HT.out.b1) hu55 rfl sizeStm) rfl ?_
           exact StmtOut.ok HR1.out (HT.out.r.setRow HT.out.b1 (by decide) (by decide) (by have := HT.out.ge; omega)) (HT.out.go.setRow (Nat.le_succ _) _) (Kids.nil _ _ _ _)
    · -- kind 2
      have HR0 := Aside0.mk (show obind (armS fin s2) (fun a s => semiS fin ⟨2, a, ⟨#[]⟩, ⟨#[]⟩, 0, ⟨⟨0, 0, 0⟩, ⟨0, 0, 0⟩⟩, [], t.f2⟩ s) = some r from HR.out)
      clear HR
      have HR := HR0
      clear HR0
      go_wp2_with fail
      (try clear c0)
      (try clear e0)
      cases hq : (armS fin s2).1 with
      | error f =>
       refine (arm_calls w0 _ g fin vf _ HS.out.r).mono ?_
       intro e w9 ho
       obtain ⟨rfl, h2, h3⟩ := ho.of_err hq
       exact ⟨rfl, StmtOut.err ((obind_err hq).symm.trans HR.out) h2 ((HS.out.step h2 h3).go)⟩
      | ok a =>
       refine (arm_calls w0 _ g fin vf _ HS.out.r).mono ?_
       intro e w3 ho
       obtain ⟨rfl, h2, h3⟩ := ho.of_ok hq
       have HS1 := Aside0.mk (HS.out.step h2 h3)
       have HR1 := Aside0.mk ((obind_ok hq).symm.trans HR.out)
       clear HS HR ho h2 h3 hq
       have HS := HS1
       have HR := HR1
       clear HS1 HR1
       (try clear c0)
       (try clear e0)
       generalize (armS fin s2).2 = s3 at HS HR
       try simp only [voidV, triV]
       have c0 := blk_cell HS.out.b0 0
       simp only [List.getElem?_toArray, List.getElem?_cons_zero, List.getElem?_cons_succ] at c0
       have z1 := blk_frozen HS.out.hx 1
       have q1 := blk_cell HS.out.hx 1
       simp only [List.getElem?_toArray, List.getElem?_cons_zero, List.getElem?_cons_succ] at q1
       have HS1 := Aside0.mk (HS.out.set (y := ⟨2, a, ⟨#[]⟩, ⟨#[]⟩, 0, ⟨⟨0, 0, 0⟩, ⟨0, 0, 0⟩⟩, [], t.f2⟩) (u := .slice none 0 0) 1 (.int .i64 a) rfl)
       clear HS
       have HS := HS1
       clear HS1
       go_wp2_with fail
       generalize (w3.setCell ⟨b3, 1, none⟩ (.int .i64 a)) = w4 at *
       clear c0 z1 q1
       cases hq : (signS ⟨#[59]⟩ fin s3).1 with
       | error f =>
        refine (sign_calls ⟨#[59]⟩ w0 _ g fin vf _ HS.out.r).mono ?_
        intro e w9 ho
        obtain ⟨rfl, h2, h3⟩ := ho.of_err hq
        exact ⟨rfl, StmtOut.err (semi_err HR.out hq) h2 ((HS.out.step h2 h3).go)⟩
       | ok t9 =>
        refine (sign_calls ⟨#[59]⟩ w0 _ g fin vf _ HS.out.r).mono ?_
        intro e w9 ho
        obtain ⟨rfl, h2, h3⟩ := ho.of_ok hq
        have HT := Aside0.mk (HS.out.step h2 h3)
        have HR1 := Aside0.mk (semi_ok HR.out hq)
        clear HS HR ho h2 h3 hq
        simp only [voidV]
        go_wp2_with (first | (refine wpList_load_row rfl 37 _ rfl b3 rfl 37 (stmC ⟨2, a, ⟨#[]⟩, ⟨#[]⟩, 0, ⟨⟨0, 0, 0⟩, ⟨0, 0, 0⟩⟩, [], t.f2⟩ (.slice none 0 0)) (0, 0) _ HT.out.hx hu55 rfl sizeStm ?_) | (refine wpList_store_row rfl 37 _ _ rfl (W.heap.size + 1) (stmC ⟨2, a, ⟨#[]⟩, ⟨#[]⟩, 0, ⟨⟨0, 0, 0⟩, ⟨0, 0, 0⟩⟩, [], t.f2⟩ (.slice none 0 0)) rfl rfl 37 zStm HT.out.b1 sizeStm rfl (by kernel_rfl) ?_))
        refine bodyPost_ret (results_cell_row rfl _ _ (W.heap.size + 1) 37 (stmC ⟨2, a, ⟨#[]⟩, ⟨#[]⟩, 0, ⟨⟨0, 0, 0⟩, ⟨0, 0, 0⟩⟩, [], t.f2⟩ (.slice none 0 0)) (0, 0) _ rfl (setRow_heap _ _ _ _ _ _ HT.out.b1) hu55 rfl sizeStm) rfl ?_
        exact StmtOut.ok HR1.out (HT.out.r.setRow HT.out.b1 (by decide) (by decide) (by have := HT.out.ge; omega)) (HT.out.go.setRow (Nat.le_succ _) _) (Kids.nil _ _ _ _)
    · -- kind 3
      have HR0 := Aside0.mk (show obind (armS fin s2) (fun a s => obind (nameS fin s) fun p s => semiS fin ⟨3, a, p, ⟨#[]⟩, 0, ⟨⟨0, 0, 0⟩, ⟨0, 0, 0⟩⟩, [], t.f2⟩ s) = some r from HR.out)
      clear HR
      have HR := HR0
      clear HR0
      go_wp2_with fail
      (try clear c0)
      (try clear e0)
      cases hq : (armS fin s2).1 with
      | error f =>
       refine (arm_calls w0 _ g fin vf _ HS.out.r).mono ?_
       intro e w9 ho
       obtain ⟨rfl, h2, h3⟩ := ho.of_err hq
       exact ⟨rfl, StmtOut.err ((obind_err hq).symm.trans HR.out) h2 ((HS.out.step h2 h3).go)⟩
      | ok a =>
       refine (arm_calls w0 _ g fin vf _ HS.out.r).mono ?_
       intro e w3 ho
       obtain ⟨rfl, h2, h3⟩ := ho.of_ok hq
       have HS1 := Aside0.mk (HS.out.step h2 h3)
       have HR1 := Aside0.mk ((obind_ok hq).symm.trans HR.out)
       clear HS HR ho h2 h3 hq
       have HS := HS1
       have HR := HR1
       clear HS1 HR1
       (try clear c0)
       (try clear e0)
       generalize (armS fin s2).2 = s3 at HS HR
       try simp only [voidV, triV]
       have c0 := blk_cell HS.out.b0 0
       simp only [List.getElem?_toArray, List.getElem?_cons_zero, List.getElem?_cons_succ] at c0
       go_wp2_with fail
       try clear c0
       have c0 := blk_cell HS.out.b0 0
       simp only [List.getElem?_toArray, List.getElem?_cons_zero, List.getElem?_cons_succ] at c0
       have HW2 := HW.out
       cases hq : (nameS fin s3).1 with
       | error f =>
        refine (stmt2_calls W.heap.size w0 _ g fin vf _ HS.out.r HW.out c0).mono ?_
        intro e w9 ho
        obtain ⟨rfl, h2, h3⟩ := ho.of_err hq
        exact ⟨rfl, StmtOut.err ((obind_err hq).symm.trans HR.out) h2 ((HS.out.step h2 h3).go)⟩
       | ok p =>
        refine (stmt2_calls W.heap.size w0 _ g fin vf _ HS.out.r HW.out c0).mono ?_
        intro e w4 ho
        obtain ⟨rfl, h2, h3⟩ := ho.of_ok hq
        have HS1 := Aside0.mk (HS.out.step h2 h3)
        have HR1 := Aside0.mk ((obind_ok hq).symm.trans HR.out)
        clear HS HR ho h2 h3 hq c0 HW2
        have HS := HS1
        have HR := HR1
        clear HS1 HR1
        generalize (nameS fin s3).2 = s4 at HS HR
        have c0 := blk_cell HS.out.b0 0
        simp only [List.getElem?_toArray, List.getElem?_cons_zero, List.getElem?_cons_succ] at c0
        have z1 := blk_frozen HS.out.hx 1
        have q1 := blk_cell HS.out.hx 1
        simp only [List.getElem?_toArray, List.getElem?_cons_zero, List.getElem?_cons_succ] at q1
        have z2 := blk_frozen HS.out.hx 2
        have q2 := blk_cell HS.out.hx 2
        simp only [List.getElem?_toArray, List.getElem?_cons_zero, List.getElem?_cons_succ] at q2
        have HS1 := Aside0.mk ((HS.out.set (y := ⟨3, a, ⟨#[]⟩, ⟨#[]⟩, 0, ⟨⟨0, 0, 0⟩, ⟨0, 0, 0⟩⟩, [], t.f2⟩) (u := .slice none 0 0) 1 (.int .i64 a) rfl).set (y := ⟨3, a, p, ⟨#[]⟩, 0, ⟨⟨0, 0, 0⟩, ⟨0, 0, 0⟩⟩, [], t.f2⟩) (u := .slice none 0 0) 2 (.string p) rfl)
        clear HS
        have HS := HS1
        clear HS1
        go_wp2_with fail
        generalize ((w4.setCell ⟨b3, 1, none⟩ (.int .i64 a)).setCell ⟨b3, 2, none⟩ (.string p)) = w5 at *
        clear c0 z1 q1 z2 q2
        cases hq : (signS ⟨#[59]⟩ fin s4).1 with
        | error f =>
         refine (sign_calls ⟨#[59]⟩ w0 _ g fin vf _ HS.out.r).mono ?_
         intro e w9 ho
         obtain ⟨rfl, h2, h3⟩ := ho.of_err hq
         exact ⟨rfl, StmtOut.err (semi_err HR.out hq) h2 ((HS.out.step h2 h3).go)⟩
        | ok t9 =>
         refine (sign_calls ⟨#[59]⟩ w0 _ g fin vf _ HS.out.r).mono ?_
         intro e w9 ho
         obtain ⟨rfl, h2, h3⟩ := ho.of_ok hq
         have HT := Aside0.mk (HS.out.step h2 h3)
         have HR1 := Aside0.mk (semi_ok HR.out hq)
         clear HS HR ho h2 h3 hq
         simp only [voidV]
         go_wp2_with (first | (refine wpList_load_row rfl 37 _ rfl b3 rfl 37 (stmC ⟨3, a, p, ⟨#[]⟩, 0, ⟨⟨0, 0, 0⟩, ⟨0, 0, 0⟩⟩, [], t.f2⟩ (.slice none 0 0)) (0, 0) _ HT.out.hx hu55 rfl sizeStm ?_) | (refine wpList_store_row rfl 37 _ _ rfl (W.heap.size + 1) (stmC ⟨3, a, p, ⟨#[]⟩, 0, ⟨⟨0, 0, 0⟩, ⟨0, 0, 0⟩⟩, [], t.f2⟩ (.slice none 0 0)) rfl rfl 37 zStm HT.out.b1 sizeStm rfl (by kernel_rfl) ?_))
         refine bodyPost_ret (results_cell_row rfl _ _ (W.heap.size + 1) 37 (stmC ⟨3, a, p, ⟨#[]⟩, 0, ⟨⟨0, 0, 0⟩, ⟨0, 0, 0⟩⟩, [], t.f2⟩ (.slice none 0 0)) (0, 0) _ rfl (setRow_heap _ _ _ _ _ _ HT.out.b1) hu55 rfl sizeStm) rfl ?_
         exact StmtOut.ok HR1.out (HT.out.r.setRow HT.out.b1 (by decide) (by decide) (by have := HT.out.ge; omega)) (HT.out.go.setRow (Nat.le_succ _) _) (Kids.nil _ _ _ _)
    · -- kind 4
      have HR0 := Aside0.mk (show obind (armS fin s2) (fun a s => obind (nameS fin s) fun p s => semiS fin ⟨4, a, ⟨#[]⟩, p, 0, ⟨⟨0, 0, 0⟩, ⟨0, 0, 0⟩⟩, [], t.f2⟩ s) = some r from HR.out)
      clear HR
      have HR := HR0
      clear HR0
      go_wp2_with fail
      (try clear c0)
      (try clear e0)
      cases hq : (armS fin s2).1 with
      | error f =>
       refine (arm_calls w0 _ g fin vf _ HS.out.r).mono ?_
       intro e w9 ho
       obtain ⟨rfl, h2, h3⟩ := ho.of_err hq
       exact ⟨rfl, StmtOut.err ((obind_err hq).symm.trans HR.out) h2 ((HS.out.step h2 h3).go)⟩
      | ok a =>
       refine (arm_calls w0 _ g fin vf _ HS.out.r).mono ?_
       intro e w3 ho
       obtain ⟨rfl, h2, h3⟩ := ho.of_ok hq
       have HS1 := Aside0.mk (HS.out.step h2 h3)
       have HR1 := Aside0.mk ((obind_ok hq).symm.trans HR.out)
       clear HS HR ho h2 h3 hq
       have HS := HS1
       have HR := HR1
       clear HS1 HR1
       (try clear c0)
       (try clear e0)
       generalize (armS fin s2).2 = s3 at HS HR
       try simp only [voidV, triV]
       have c0 := blk_cell HS.out.b0 0
       simp only [List.getElem?_toArray, List.getElem?_cons_zero, List.getElem?_cons_succ] at c0
       go_wp2_with fail
       try clear c0
       have c0 := blk_cell HS.out.b0 0
       simp only [List.getElem?_toArray, List.getElem?_cons_zero, List.getElem?_cons_succ] at c0
       have HW2 := HW.out
       cases hq : (nameS fin s3).1 with
       | error f =>
        refine (stmt2_calls W.heap.size w0 _ g fin vf _ HS.out.r HW.out c0).mono ?_
        intro e w9 ho
        obtain ⟨rfl, h2, h3⟩ := ho.of_err hq
        exact ⟨rfl, StmtOut.err ((obind_err hq).symm.trans HR.out) h2 ((HS.out.step h2 h3).go)⟩
       | ok p =>
        refine (stmt2_calls W.heap.size w0 _ g fin vf _ HS.out.r HW.out c0).mono ?_
        intro e w4 ho
        obtain ⟨rfl, h2, h3⟩ := ho.of_ok hq
        have HS1 := Aside0.mk (HS.out.step h2 h3)
        have HR1 := Aside0.mk ((obind_ok hq).symm.trans HR.out)
        clear HS HR ho h2 h3 hq c0 HW2
        have HS := HS1
        have HR := HR1
        clear HS1 HR1
        generalize (nameS fin s3).2 = s4 at HS HR
        have c0 := blk_cell HS.out.b0 0
        simp only [List.getElem?_toArray, List.getElem?_cons_zero, List.getElem?_cons_succ] at c0
        have z1 := blk_frozen HS.out.hx 1
        have q1 := blk_cell HS.out.hx 1
        simp only [List.getElem?_toArray, List.getElem?_cons_zero, List.getElem?_cons_succ] at q1
        have z3 := blk_frozen HS.out.hx 3
        have q3 := blk_cell HS.out.hx 3
        simp only [List.getElem?_toArray, List.getElem?_cons_zero, List.getElem?_cons_succ] at q3
        have HS1 := Aside0.mk ((HS.out.set (y := ⟨4, a, ⟨#[]⟩, ⟨#[]⟩, 0, ⟨⟨0, 0, 0⟩, ⟨0, 0, 0⟩⟩, [], t.f2⟩) (u := .slice none 0 0) 1 (.int .i64 a) rfl).set (y := ⟨4, a, ⟨#[]⟩, p, 0, ⟨⟨0, 0, 0⟩, ⟨0, 0, 0⟩⟩, [], t.f2⟩) (u := .slice none 0 0) 3 (.string p) rfl)
        clear HS
        have HS := HS1
        clear HS1
        go_wp2_with fail
        generalize ((w4.setCell ⟨b3, 1, none⟩ (.int .i64 a)).setCell ⟨b3, 3, none⟩ (.string p)) = w5 at *
        clear c0 z1 q1 z3 q3
        cases hq : (signS ⟨#[59]⟩ fin s4).1 with
        | error f =>
         refine (sign_calls ⟨#[59]⟩ w0 _ g fin vf _ HS.out.r).mono ?_
         intro e w9 ho
         obtain ⟨rfl, h2, h3⟩ := ho.of_err hq
         exact ⟨rfl, StmtOut.err (semi_err HR.out hq) h2 ((HS.out.step h2 h3).go)⟩
        | ok t9 =>
         refine (sign_calls ⟨#[59]⟩ w0 _ g fin vf _ HS.out.r).mono ?_
         intro e w9 ho
         obtain ⟨rfl, h2, h3⟩ := ho.of_ok hq
         have HT := Aside0.mk (HS.out.step h2 h3)
         have HR1 := Aside0.mk (semi_ok HR.out hq)
         clear HS HR ho h2 h3 hq
         simp only [voidV]
         go_wp2_with (first | (refine wpList_load_row rfl 37 _ rfl b3 rfl 37 (stmC ⟨4, a, ⟨#[]⟩, p, 0, ⟨⟨0, 0, 0⟩, ⟨0, 0, 0⟩⟩, [], t.f2⟩ (.slice none 0 0)) (0, 0) _ HT.out.hx hu55 rfl sizeStm ?_) | (refine wpList_store_row rfl 37 _ _ rfl (W.heap.size + 1) (stmC ⟨4, a, ⟨#[]⟩, p, 0, ⟨⟨0, 0, 0⟩, ⟨0, 0, 0⟩⟩, [], t.f2⟩ (.slice none 0 0)) rfl rfl 37 zStm HT.out.b1 sizeStm rfl (by kernel_rfl) ?_))
         refine bodyPost_ret (results_cell_row rfl _ _ (W.heap.size + 1) 37 (stmC ⟨4, a, ⟨#[]⟩, p, 0, ⟨⟨0, 0, 0⟩, ⟨0, 0, 0⟩⟩, [], t.f2⟩ (.slice none 0 0)) (0, 0) _ rfl (setRow_heap _ _ _ _ _ _ HT.out.b1) hu55 rfl sizeStm) rfl ?_
         exact StmtOut.ok HR1.out (HT.out.r.setRow HT.out.b1 (by decide) (by decide) (by have := HT.out.ge; omega)) (HT.out.go.setRow (Nat.le_succ _) _) (Kids.nil _ _ _ _)
    · -- kind 5
      have HR0 := Aside0.mk (show obind (armS fin s2) (fun a s => obind (nameS fin s) fun p s => semiS fin ⟨5, a, ⟨#[]⟩, p, 0, ⟨⟨0, 0, 0⟩, ⟨0, 0, 0⟩⟩, [], t.f2⟩ s) = some r from HR.out)
      clear HR
      have HR := HR0
      clear HR0
      go_wp2_with fail
      (try clear c0)
      (try clear e0)
      cases hq : (armS fin s2).1 with
      | error f =>
       refine (arm_calls w0 _ g fin vf _ HS.out.r).mono ?_
       intro e w9 ho
       obtain ⟨rfl, h2, h3⟩ := ho.of_err hq
       exact ⟨rfl, StmtOut.err ((obind_err hq).symm.trans HR.out) h2 ((HS.out.step h2 h3).go)⟩
      | ok a =>
       refine (arm_calls w0 _ g fin vf _ HS.out.r).mono ?_
       intro e w3 ho
       obtain ⟨rfl, h2, h3⟩ := ho.of_ok hq
       have HS1 := Aside0.mk (HS.out.step h2 h3)
       have HR1 := Aside0.mk ((obind_ok hq).symm.trans HR.out)
       clear HS HR ho h2 h3 hq
       have HS := HS1
       have HR := HR1
       clear HS1 HR1
       (try clear c0)
       (try clear e0)
       generalize (armS fin s2).2 = s3 at HS HR
       try simp only [voidV, triV]
       have c0 := blk_cell HS.out.b0 0
       simp only [List.getElem?_toArray, List.getElem?_cons_zero, List.getElem?_cons_succ] at c0
       go_wp2_with fail
       try clear c0
       have c0 := blk_cell HS.out.b0 0
       simp only [List.getElem?_toArray, List.getElem?_cons_zero, List.getElem?_cons_succ] at c0
       have HW2 := HW.out
       cases hq : (nameS fin s3).1 with
       | error f =>
        refine (stmt2_calls W.heap.size w0 _ g fin vf _ HS.out.r HW.out c0).mono ?_
        intro e w9 ho
        obtain ⟨rfl, h2, h3⟩ := ho.of_err hq
        exact ⟨rfl, StmtOut.err ((obind_err hq).symm.trans HR.out) h2 ((HS.out.step h2 h3).go)⟩
       | ok p =>
        refine (stmt2_calls W.heap.size w0 _ g fin vf _ HS.out.r HW.out c0).mono ?_
        intro e w4 ho
        obtain ⟨rfl, h2, h3⟩ := ho.of_ok hq
        have HS1 := Aside0.mk (HS.out.step h2 h3)
        have HR1 := Aside0.mk ((obind_ok hq).symm.trans HR.out)
        clear HS HR ho h2 h3 hq c0 HW2
        have HS := HS1
        have HR := HR1
        clear HS1 HR1
        generalize (nameS fin s3).2 = s4 at HS HR
        have c0 := blk_cell HS.out.b0 0
        simp only [List.getElem?_toArray, List.getElem?_cons_zero, List.getElem?_cons_succ] at c0
        have z1 := blk_frozen HS.out.hx 1
        have q1 := blk_cell HS.out.hx 1
        simp only [List.getElem?_toArray, List.getElem?_cons_zero, List.getElem?_cons_succ] at q1
        have z3 := blk_frozen HS.out.hx 3
        have q3 := blk_cell HS.out.hx 3
        simp only [List.getElem?_toArray, List.getElem?_cons_zero, List.getElem?_cons_succ] at q3
        have HS1 := Aside0.mk ((HS.out.set (y := ⟨5, a, ⟨#[]⟩, ⟨#[]⟩, 0, ⟨⟨0, 0, 0⟩, ⟨0, 0, 0⟩⟩, [], t.f2⟩) (u := .slice none 0 0) 1 (.int .i64 a) rfl).set (y := ⟨5, a, ⟨#[]⟩, p, 0, ⟨⟨0, 0, 0⟩, ⟨0, 0, 0⟩⟩, [], t.f2⟩) (u := .slice none 0 0) 3 (.string p) rfl)
        clear HS
        have HS := HS1
        clear HS1
        go_wp2_with fail
        generalize ((w4.setCell ⟨b3, 1, none⟩ (.int .i64 a)).setCell ⟨b3, 3, none⟩ (.string p)) = w5 at *
        clear c0 z1 q1 z3 q3
        cases hq : (signS ⟨#[59]⟩ fin s4).1 with
        | error f =>
         refine (sign_calls ⟨#[59]⟩ w0 _ g fin vf _ HS.out.r).mono ?_
         intro e w9 ho
         obtain ⟨rfl, h2, h3⟩ := ho.of_err hq
         exact ⟨rfl, StmtOut.err (semi_err HR.out hq) h2 ((HS.out.step h2 h3).go)⟩
        | ok t9 =>
         refine (sign_calls ⟨#[59]⟩ w0 _ g fin vf _ HS.out.r).mono ?_
         intro e w9 ho
         obtain ⟨rfl, h2, h3⟩ := ho.of_ok hq
         have HT := Aside0.mk (HS.out.step h2 h3)
         have HR1 := Aside0.mk (semi_ok HR.out hq)
         clear HS HR ho h2 h3 hq
         simp only [voidV]
         go_wp2_with (first | (refine wpList_load_row rfl 37 _ rfl b3 rfl 37 (stmC ⟨5, a, ⟨#[]⟩, p, 0, ⟨⟨0, 0, 0⟩, ⟨0, 0, 0⟩⟩, [], t.f2⟩ (.slice none 0 0)) (0, 0) _ HT.out.hx hu55 rfl sizeStm ?_) | (refine wpList_store_row rfl 37 _ _ rfl (W.heap.size + 1) (stmC ⟨5, a, ⟨#[]⟩, p, 0, ⟨⟨0, 0, 0⟩, ⟨0, 0, 0⟩⟩, [], t.f2⟩ (.slice none 0 0)) rfl rfl 37 zStm HT.out.b1 sizeStm rfl (by kernel_rfl) ?_))
         refine bodyPost_ret (results_cell_row rfl _ _ (W.heap.size + 1) 37 (stmC ⟨5, a, ⟨#[]⟩, p, 0, ⟨⟨0, 0, 0⟩, ⟨0, 0, 0⟩⟩, [], t.f2⟩ (.slice none 0 0)) (0, 0) _ rfl (setRow_heap _ _ _ _ _ _ HT.out.b1) hu55 rfl sizeStm) rfl ?_
         exact StmtOut.ok HR1.out (HT.out.r.setRow HT.out.b1 (by decide) (by decide) (by have := HT.out.ge; omega)) (HT.out.go.setRow (Nat.le_succ _) _) (Kids.nil _ _ _ _)
    · -- kind 6
      have HR0 := Aside0.mk (show obind (numberS fin s2) (fun n s => semiS fin ⟨6, 0, ⟨#[]⟩, ⟨#[]⟩, n, ⟨⟨0, 0, 0⟩, ⟨0, 0, 0⟩⟩, [], t.f2⟩ s) = some r from HR.out)
      clear HR
      have HR := HR0
      clear HR0
      go_wp2_with fail
      (try clear c0)
      (try clear e0)
      cases hq : (numberS fin s2).1 with
      | error f =>
       refine (number_calls w0 _ g fin vf _ HS.out.r).mono ?_
       intro e w9 ho
       obtain ⟨rfl, h2, h3⟩ := ho.of_err hq
       exact ⟨rfl, StmtOut.err ((obind_err hq).symm.trans HR.out) h2 ((HS.out.step h2 h3).go)⟩
      | ok n =>
       refine (number_calls w0 _ g fin vf _ HS.out.r).mono ?_
       intro e w3 ho
       obtain ⟨rfl, h2, h3⟩ := ho.of_ok hq
       have HS1 := Aside0.mk (HS.out.step h2 h3)
       have HR1 := Aside0.mk ((obind_ok hq).symm.trans HR.out)
       clear HS HR ho h2 h3 hq
       have HS := HS1
       have HR := HR1
       clear HS1 HR1
       (try clear c0)
       (try clear e0)
       generalize (numberS fin s2).2 = s3 at HS HR
       try simp only [voidV, triV]
       have c0 := blk_cell HS.out.b0 0
       simp only [List.getElem?_toArray, List.getElem?_cons_zero, List.getElem?_cons_succ] at c0
       have z4 := blk_frozen HS.out.hx 4
       have q4 := blk_cell HS.out.hx 4
       simp only [List.getElem?_toArray, List.getElem?_cons_zero, List.getElem?_cons_succ] at q4
       have HS1 := Aside0.mk (HS.out.set (y := ⟨6, 0, ⟨#[]⟩, ⟨#[]⟩, n, ⟨⟨0, 0, 0⟩, ⟨0, 0, 0⟩⟩, [], t.f2⟩) (u := .slice none 0 0) 4 (.int .i64 n) rfl)
       clear HS
       have HS := HS1
       clear HS1
       go_wp2_with fail
       generalize (w3.setCell ⟨b3, 4, none⟩ (.int .i64 n)) = w4 at *
       clear c0 z4 q4
       cases hq : (signS ⟨#[59]⟩ fin s3).1 with
       | error f =>
        refine (sign_calls ⟨#[59]⟩ w0 _ g fin vf _ HS.out.r).mono ?_
        intro e w9 ho
        obtain ⟨rfl, h2, h3⟩ := ho.of_err hq
        exact ⟨rfl, StmtOut.err (semi_err HR.out hq) h2 ((HS.out.step h2 h3).go)⟩
       | ok t9 =>
        refine (sign_calls ⟨#[59]⟩ w0 _ g fin vf _ HS.out.r).mono ?_
        intro e w9 ho
        obtain ⟨rfl, h2, h3⟩ := ho.of_ok hq
        have HT := Aside0.mk (HS.out.step h2 h3)
        have HR1 := Aside0.mk (semi_ok HR.out hq)
        clear HS HR ho h2 h3 hq
        simp only [voidV]
        go_wp2_with (first | (refine wpList_load_row rfl 37 _ rfl b3 rfl 37 (stmC ⟨6, 0, ⟨#[]⟩, ⟨#[]⟩, n, ⟨⟨0, 0, 0⟩, ⟨0, 0, 0⟩⟩, [], t.f2⟩ (.slice none 0 0)) (0, 0) _ HT.out.hx hu55 rfl sizeStm ?_) | (refine wpList_store_row rfl 37 _ _ rfl (W.heap.size + 1) (stmC ⟨6, 0, ⟨#[]⟩, ⟨#[]⟩, n, ⟨⟨0, 0, 0⟩, ⟨0, 0, 0⟩⟩, [], t.f2⟩ (.slice none 0 0)) rfl rfl 37 zStm HT.out.b1 sizeStm rfl (by kernel_rfl) ?_))
        refine bodyPost_ret (results_cell_row rfl _ _ (W.heap.size + 1) 37 (stmC ⟨6, 0, ⟨#[]⟩, ⟨#[]⟩, n, ⟨⟨0, 0, 0⟩, ⟨0, 0, 0⟩⟩, [], t.f2⟩ (.slice none 0 0)) (0, 0) _ rfl (setRow_heap _ _ _ _ _ _ HT.out.b1) hu55 rfl sizeStm) rfl ?_
        exact StmtOut.ok HR1.out (HT.out.r.setRow HT.out.b1 (by decide) (by decide) (by have := HT.out.ge; omega)) (HT.out.go.setRow (Nat.le_succ _) _) (Kids.nil _ _ _ _)
    · -- kind 7
      have HR0 := Aside0.mk (show (if deep = 4 then some (.error (2, t.f2), s2) else obind (nameS fin s2) fun p s => obind (nameS fin s) fun q s => obind (signS ⟨#[123]⟩ fin s) fun _ s => (rec (wrap64 (deep + 1)) s).bind fun r => some ((signS ⟨#[125]⟩ fin r.2).bind fun _ s => (.ok ⟨7, 0, q, p, 0, ⟨⟨0, 0, 0⟩, ⟨0, 0, 0⟩⟩, r.1, t.f2⟩, s))) = some r from HR.out)
      clear HR
      have HR := HR0
      clear HR0
      by_cases h4 : deep = 4
      · -- too deep
        subst h4
        have HR1 := Aside0.mk ((if_pos rfl).symm.trans HR.out)
        clear HR
        have e2 := blk_cell HS.out.ht 2
        simp only [List.getElem?_toArray, List.getElem?_cons_zero, List.getElem?_cons_succ] at e2
        go_wp2_with fail
        exact ⟨rfl, StmtOut.err HR1.out HS.out.r HS.out.go⟩
      · -- a block
        have h4b : (deep == 4) = false := by simpa using h4
        have HR1 := Aside0.mk ((if_neg h4).symm.trans HR.out)
        clear HR
        have HR := HR1
        clear HR1
        go_wp2_with fail
        (try clear c0)
        (try clear e0)
        have c0 := blk_cell HS.out.b0 0
        simp only [List.getElem?_toArray, List.getElem?_cons_zero, List.getElem?_cons_succ] at c0
        have HW2 := HW.out
        cases hq : (nameS fin s2).1 with
        | error f =>
         refine (stmt2_calls W.heap.size w0 _ g fin vf _ HS.out.r HW.out c0).mono ?_
         intro e w9 ho
         obtain ⟨rfl, h2, h3⟩ := ho.of_err hq
         exact ⟨rfl, StmtOut.err ((obind_err hq).symm.trans HR.out) h2 ((HS.out.step h2 h3).go)⟩
        | ok p =>
         refine (stmt2_calls W.heap.size w0 _ g fin vf _ HS.out.r HW.out c0).mono ?_
         intro e w3 ho
         obtain ⟨rfl, h2, h3⟩ := ho.of_ok hq
         have HS1 := Aside0.mk (HS.out.step h2 h3)
         have HR1 := Aside0.mk ((obind_ok hq).symm.trans HR.out)
         clear HS HR ho h2 h3 hq c0 HW2
         have HS := HS1
         have HR := HR1
         clear HS1 HR1
         generalize (nameS fin s2).2 = s3 at HS HR
         have c0 := blk_cell HS.out.b0 0
         simp only [List.getElem?_toArray, List.getElem?_cons_zero, List.getElem?_cons_succ] at c0
         go_wp2_with fail
         try clear c0
         have c0 := blk_cell HS.out.b0 0
         simp only [List.getElem?_toArray, List.getElem?_cons_zero, List.getElem?_cons_succ] at c0
         have HW2 := HW.out
         cases hq : (nameS fin s3).1 with
         | error f =>
          refine (stmt2_calls W.heap.size w0 _ g fin vf _ HS.out.r HW.out c0).mono ?_
          intro e w9 ho
          obtain ⟨rfl, h2, h3⟩ := ho.of_err hq
          exact ⟨rfl, StmtOut.err ((obind_err hq).symm.trans HR.out) h2 ((HS.out.step h2 h3).go)⟩
         | ok q =>
          refine (stmt2_calls W.heap.size w0 _ g fin vf _ HS.out.r HW.out c0).mono ?_
          intro e w4 ho
          obtain ⟨rfl, h2, h3⟩ := ho.of_ok hq
          have HS1 := Aside0.mk (HS.out.step h2 h3)
          have HR1 := Aside0.mk ((obind_ok hq).symm.trans HR.out)
          clear HS HR ho h2 h3 hq c0 HW2
          have HS := HS1
          have HR := HR1
          clear HS1 HR1
          generalize (nameS fin s3).2 = s4 at HS HR
          have c0 := blk_cell HS.out.b0 0
          simp only [List.getElem?_toArray, List.getElem?_cons_zero, List.getElem?_cons_succ] at c0
          have z3 := blk_frozen HS.out.hx 3
          have q3 := blk_cell HS.out.hx 3
          simp only [List.getElem?_toArray, List.getElem?_cons_zero, List.getElem?_cons_succ] at q3
          have z2 := blk_frozen HS.out.hx 2
          have q2 := blk_cell HS.out.hx 2
          simp only [List.getElem?_toArray, List.getElem?_cons_zero, List.getElem?_cons_succ] at q2
          have HS1 := Aside0.mk ((HS.out.set (y := ⟨7, 0, ⟨#[]⟩, p, 0, ⟨⟨0, 0, 0⟩, ⟨0, 0, 0⟩⟩, [], t.f2⟩) (u := .slice none 0 0) 3 (.string p) rfl).set (y := ⟨7, 0, q, p, 0, ⟨⟨0, 0, 0⟩, ⟨0, 0, 0⟩⟩, [], t.f2⟩) (u := .slice none 0 0) 2 (.string q) rfl)
          clear HS
          have HS := HS1
          clear HS1
          go_wp2_with fail
          generalize ((w4.setCell ⟨b3, 3, none⟩ (.string p)).setCell ⟨b3, 2, none⟩ (.string q)) = w5 at *
          clear c0 z3 q3 z2 q2
          cases hq : (signS ⟨#[123]⟩ fin s4).1 with
          | error f =>
           refine (sign_calls ⟨#[123]⟩ w0 _ g fin vf _ HS.out.r).mono ?_
           intro e w9 ho
           obtain ⟨rfl, h2, h3⟩ := ho.of_err hq
           exact ⟨rfl, StmtOut.err ((obind_err hq).symm.trans HR.out) h2 ((HS.out.step h2 h3).go)⟩
          | ok t7 =>
           refine (sign_calls ⟨#[123]⟩ w0 _ g fin vf _ HS.out.r).mono ?_
           intro e w6 ho
           obtain ⟨rfl, h2, h3⟩ := ho.of_ok hq
           have HS1 := Aside0.mk (HS.out.step h2 h3)
           have HR1 := Aside0.mk ((obind_ok hq).symm.trans HR.out)
           clear HS HR ho h2 h3 hq
           have HS := HS1
           have HR := HR1
           clear HS1 HR1
           (try clear c0)
           (try clear e0)
           generalize (signS ⟨#[123]⟩ fin s4).2 = s5 at HS HR
           try simp only [voidV, triV]
           have c0 := blk_cell HS.out.b0 0
           simp only [List.getElem?_toArray, List.getElem?_cons_zero, List.getElem?_cons_succ] at c0
           go_wp2_with fail
           try clear c0
           have HR0 := Aside0.mk (show (rec (wrap64 (deep + 1)) s5).bind (fun r => some ((signS ⟨#[125]⟩ fin r.2).bind fun _ s => (.ok ⟨7, 0, q, p, 0, ⟨⟨0, 0, 0⟩, ⟨0, 0, 0⟩⟩, r.1, t.f2⟩, s))) = some r from HR.out)
           clear HR
           obtain ⟨⟨l, s8⟩, hrec, hR8⟩ := Option.bind_eq_some_iff.1 HR0.out
           have HR := Aside0.mk hR8
           clear HR0 hR8
           refine (HREC.out _ w6 vf s5 (l, s8) HS.out.r hrec).mono ?_
           rintro e w20 ⟨v, vf8, rfl, hk, h2, h3⟩
           have HS1 := Aside0.mk (HS.out.step h2 h3)
           have HK := Aside0.mk hk
           have hlt8 : b3 < w6.heap.size := (Array.getElem?_eq_some_iff.1 HS.out.hx).1
           have hle8 : W.heap.size ≤ w6.heap.size := HS.out.go.size
           clear HS h2 h3 hk hrec
           obtain ⟨A8, c8, rfl⟩ := HK.out.slice
           have HS := HS1
           clear HS1
           have c0 := blk_cell HS.out.b0 0
           have z11 := blk_frozen HS.out.hx 11
           have q11 := blk_cell HS.out.hx 11
           simp only [List.getElem?_toArray, List.getElem?_cons_zero, List.getElem?_cons_succ] at c0 q11
           have HS1 := Aside0.mk (HS.out.set (y := ⟨7, 0, q, p, 0, ⟨⟨0, 0, 0⟩, ⟨0, 0, 0⟩⟩, l, t.f2⟩) (u := .slice A8 l.length c8) 11 (.slice A8 l.length c8) rfl)
           have HK1 := Aside0.mk (HK.out.setOld hlt8 11 (.slice A8 l.length c8))
           clear HS HK
           have HS := HS1
           have HK := HK1
           clear HS1 HK1
           go_wp2_with fail
           generalize w20.setCell ⟨b3, 11, none⟩ (.slice A8 l.length c8) = w21 at *
           clear c0 z11 q11
           cases hq : (signS ⟨#[125]⟩ fin s8).1 with
           | error f =>
            refine (sign_calls ⟨#[125]⟩ w0 _ g fin vf8 _ HS.out.r).mono ?_
            intro e w9 ho
            obtain ⟨rfl, h2, h3⟩ := ho.of_err hq
            exact ⟨rfl, StmtOut.err ((congrArg some (Step.bind_err hq)).symm.trans HR.out) h2 ((HS.out.step h2 h3).go)⟩
           | ok t9 =>
            refine (sign_calls ⟨#[125]⟩ w0 _ g fin vf8 _ HS.out.r).mono ?_
            intro e w9 ho
            obtain ⟨rfl, h2, h3⟩ := ho.of_ok hq
            have HT := Aside0.mk (HS.out.step h2 h3)
            have HR1 := Aside0.mk ((congrArg some (Step.bind_ok hq)).symm.trans HR.out)
            have HK1 := Aside0.mk (Kids.mono_base (Kids.setRow (b := W.heap.size + 1) (HK.out.go h3) (by have := HT.out.l2; have := HT.out.l3; omega) (stmC ⟨7, 0, q, p, 0, ⟨⟨0, 0, 0⟩, ⟨0, 0, 0⟩⟩, l, t.f2⟩ (.slice A8 l.length c8))) hle8)
            clear HS HR ho h2 h3 hq HK
            simp only [voidV]
            go_wp2_with (first | (refine wpList_load_row rfl 37 _ rfl b3 rfl 37 (stmC ⟨7, 0, q, p, 0, ⟨⟨0, 0, 0⟩, ⟨0, 0, 0⟩⟩, l, t.f2⟩ (.slice A8 l.length c8)) (0, 0) _ HT.out.hx hu55 rfl sizeStm ?_) | (refine wpList_store_row rfl 37 _ _ rfl (W.heap.size + 1) (stmC ⟨7, 0, q, p, 0, ⟨⟨0, 0, 0⟩, ⟨0, 0, 0⟩⟩, l, t.f2⟩ (.slice A8 l.length c8)) rfl rfl 37 zStm HT.out.b1 sizeStm rfl (by kernel_rfl) ?_))
            refine bodyPost_ret (results_cell_row rfl _ _ (W.heap.size + 1) 37 (stmC ⟨7, 0, q, p, 0, ⟨⟨0, 0, 0⟩, ⟨0, 0, 0⟩⟩, l, t.f2⟩ (.slice A8 l.length c8)) (0, 0) _ rfl (setRow_heap _ _ _ _ _ _ HT.out.b1) hu55 rfl sizeStm) rfl ?_
            exact StmtOut.ok HR1.out (HT.out.r.setRow HT.out.b1 (by decide) (by decide) (by have := HT.out.ge; omega)) (HT.out.go.setRow (Nat.le_succ _) _) HK1.out
    · -- kind 8
      have HR0 := Aside0.mk (show obind (tripleS fin s2) (fun q s => obind (tripleS fin s) fun p s => semiS fin ⟨8, 0, ⟨#[]⟩, ⟨#[]⟩, 0, ⟨q, p⟩, [], t.f2⟩ s) = some r from HR.out)
      clear HR
      have HR := HR0
      clear HR0
      go_wp2_with fail
      (try clear c0)
      (try clear e0)
      have HD := Aside0.mk (HS.out.below (below_drew (Below.refl _ _)))
      have e2 := blk_cell HD.out.b0 0
      simp only [List.getElem?_toArray, List.getElem?_cons_zero, List.getElem?_cons_succ] at e2
      cases hq : (tripleS fin s2).1 with
      | error f =>
       go_region_with (go_at_call 82; (with_reducible refine (triple_calls w0 _ g fin vf _ HD.out.r).mono ?_); intro e w3 ho; obtain ⟨rfl, h2, h3⟩ := ho.of_err hq; refine (fun (_ : wpAny Tryz.prog .any #[] (fun _ _ _ => True) 0 #[] ⟨#[], []⟩ w3) => ⟨rfl, StmtOut.err ((obind_err hq).symm.trans HR.out) h2 ((HD.out.step h2 h3).go)⟩) ?_)
       all_goals trivial
      | ok q =>
       have HR1 := Aside0.mk (show obind (tripleS fin (tripleS fin s2).2) (fun p s => semiS fin ⟨8, 0, ⟨#[]⟩, ⟨#[]⟩, 0, ⟨q, p⟩, [], t.f2⟩ s) = some r from (obind_ok hq).symm.trans HR.out)
       clear HR
       have HR := HR1
       clear HR1
       cases hq2 : (tripleS fin (tripleS fin s2).2).1 with
       | error f =>
        go_region_with (first | (go_at_call 82; (with_reducible refine (triple_calls w0 _ g fin vf _ HD.out.r).mono ?_); intro e w3 ho; obtain ⟨rfl, h2, h3⟩ := ho.of_ok hq; have HE := HD.out.step h2 h3; have e3 := blk_cell HE.b0 0; simp only [List.getElem?_toArray, List.getElem?_cons_zero, List.getElem?_cons_succ] at e3; simp only [triV]) | (go_at_call 82; (with_reducible refine (triple_calls w0 _ g fin vf _ HE.r).mono ?_); intro e w4 ho4; obtain ⟨rfl, h24, h34⟩ := ho4.of_err hq2; refine (fun (_ : wpAny Tryz.prog .any #[] (fun _ _ _ => True) 0 #[] ⟨#[], []⟩ w4) => ⟨rfl, StmtOut.err ((obind_err hq2).symm.trans HR.out) h24 ((HE.step h24 h34).go)⟩) ?_))
        all_goals trivial
       | ok p =>
        go_region_held3 (fun W' => W'.cell? ⟨W.heap.size, 0, none⟩ = some (.pointer (some ⟨g, 0, none⟩))) (with_reducible first | exact e2 | exact e3 | exact e4 | exact e5) (first | (go_at_call 82; (with_reducible refine (triple_calls w0 _ g fin vf _ HD.out.r).mono ?_); intro e w3 ho; obtain ⟨rfl, h2, h3⟩ := ho.of_ok hq; have HE := HD.out.step h2 h3; have e3 := blk_cell HE.b0 0; simp only [List.getElem?_toArray, List.getElem?_cons_zero, List.getElem?_cons_succ] at e3; simp only [triV]) | (go_at_call 82; (with_reducible refine (triple_calls w0 _ g fin vf _ HE.r).mono ?_); intro e w4 ho4; obtain ⟨rfl, h24, h34⟩ := ho4.of_ok hq2; have HG := HE.step h24 h34; have x5 := blk_cell HG.hx 5; have y5 := blk_frozen HG.hx 5; have x6 := blk_cell HG.hx 6; have y6 := blk_frozen HG.hx 6; have x7 := blk_cell HG.hx 7; have y7 := blk_frozen HG.hx 7; have x8 := blk_cell HG.hx 8; have y8 := blk_frozen HG.hx 8; have x9 := blk_cell HG.hx 9; have y9 := blk_frozen HG.hx 9; have x10 := blk_cell HG.hx 10; have y10 := blk_frozen HG.hx 10; simp only [List.getElem?_toArray, List.getElem?_cons_zero, List.getElem?_cons_succ] at x5 x6 x7 x8 x9 x10; have e4 := blk_cell HG.b0 0; have HZ := ((((((HG.set (y := ⟨8, 0, ⟨#[]⟩, ⟨#[]⟩, 0, ⟨⟨q.f0, 0, 0⟩, ⟨0, 0, 0⟩⟩, [], t.f2⟩) (u := .slice none 0 0) 5 (.int .i64 q.f0) rfl).set (y := ⟨8, 0, ⟨#[]⟩, ⟨#[]⟩, 0, ⟨⟨q.f0, q.f1, 0⟩, ⟨0, 0, 0⟩⟩, [], t.f2⟩) (u := .slice none 0 0) 6 (.int .i64 q.f1) rfl).set (y := ⟨8, 0, ⟨#[]⟩, ⟨#[]⟩, 0, ⟨⟨q.f0, q.f1, q.f2⟩, ⟨0, 0, 0⟩⟩, [], t.f2⟩) (u := .slice none 0 0) 7 (.int .i64 q.f2) rfl).set (y := ⟨8, 0, ⟨#[]⟩, ⟨#[]⟩, 0, ⟨⟨q.f0, q.f1, q.f2⟩, ⟨p.f0, 0, 0⟩⟩, [], t.f2⟩) (u := .slice none 0 0) 8 (.int .i64 p.f0) rfl).set (y := ⟨8, 0, ⟨#[]⟩, ⟨#[]⟩, 0, ⟨⟨q.f0, q.f1, q.f2⟩, ⟨p.f0, p.f1, 0⟩⟩, [], t.f2⟩) (u := .slice none 0 0) 9 (.int .i64 p.f1) rfl).set (y := ⟨8, 0, ⟨#[]⟩, ⟨#[]⟩, 0, ⟨⟨q.f0, q.f1, q.f2⟩, ⟨p.f0, p.f1, p.f2⟩⟩, [], t.f2⟩) (u := .slice none 0 0) 10 (.int .i64 p.f2) rfl); have e5 := blk_cell HZ.b0 0; simp only [List.getElem?_toArray, List.getElem?_cons_zero, List.getElem?_cons_succ] at e4 e5; simp only [triV]))
        have HS1 := Aside0.mk HZ
        have HR1 := Aside0.mk (show semiS fin ⟨8, 0, ⟨#[]⟩, ⟨#[]⟩, 0, ⟨⟨q.f0, q.f1, q.f2⟩, ⟨p.f0, p.f1, p.f2⟩⟩, [], t.f2⟩ (tripleS fin (tripleS fin s2).2).2 = some r from (obind_ok hq2).symm.trans HR.out)
        clear HS HR HD HE HG HZ h2 h3 h24 h34 hq hq2 ho ho4 e2 e3 e4 e5 x5 y5 x6 y6 x7 y7 x8 y8 x9 y9 x10 y10
        have HS := HS1
        have HR := HR1
        clear HS1 HR1
        generalize (tripleS fin (tripleS fin s2).2).2 = s9 at HS HR
        have c0 := blk_cell HS.out.b0 0
        simp only [List.getElem?_toArray, List.getElem?_cons_zero, List.getElem?_cons_succ] at c0
        generalize ((((((w4.setCell ⟨b3, 5, none⟩ (.int .i64 q.f0)).setCell ⟨b3, 6, none⟩ (.int .i64 q.f1)).setCell ⟨b3, 7, none⟩ (.int .i64 q.f2)).setCell ⟨b3, 8, none⟩ (.int .i64 p.f0)).setCell ⟨b3, 9, none⟩ (.int .i64 p.f1)).setCell ⟨b3, 10, none⟩ (.int .i64 p.f2)) = w10 at *
        go_wp2_with fail
        try clear c0
        cases hq : (signS ⟨#[59]⟩ fin s9).1 with
        | error f =>
         refine (sign_calls ⟨#[59]⟩ w0 _ g fin vf _ HS.out.r).mono ?_
         intro e w9 ho
         obtain ⟨rfl, h2, h3⟩ := ho.of_err hq
         exact ⟨rfl, StmtOut.err (semi_err HR.out hq) h2 ((HS.out.step h2 h3).go)⟩
        | ok t9 =>
         refine (sign_calls ⟨#[59]⟩ w0 _ g fin vf _ HS.out.r).mono ?_
         intro e w9 ho
         obtain ⟨rfl, h2, h3⟩ := ho.of_ok hq
         have HT := Aside0.mk (HS.out.step h2 h3)
         have HR1 := Aside0.mk (semi_ok HR.out hq)
         clear HS HR ho h2 h3 hq
         simp only [voidV]
         go_wp2_with (first | (refine wpList_load_row rfl 37 _ rfl b3 rfl 37 (stmC ⟨8, 0, ⟨#[]⟩, ⟨#[]⟩, 0, ⟨⟨q.f0, q.f1, q.f2⟩, ⟨p.f0, p.f1, p.f2⟩⟩, [], t.f2⟩ (.slice none 0 0)) (0, 0) _ HT.out.hx hu55 rfl sizeStm ?_) | (refine wpList_store_row rfl 37 _ _ rfl (W.heap.size + 1) (stmC ⟨8, 0, ⟨#[]⟩, ⟨#[]⟩, 0, ⟨⟨q.f0, q.f1, q.f2⟩, ⟨p.f0, p.f1, p.f2⟩⟩, [], t.f2⟩ (.slice none 0 0)) rfl rfl 37 zStm HT.out.b1 sizeStm rfl (by kernel_rfl) ?_))
         refine bodyPost_ret (results_cell_row rfl _ _ (W.heap.size + 1) 37 (stmC ⟨8, 0, ⟨#[]⟩, ⟨#[]⟩, 0, ⟨⟨q.f0, q.f1, q.f2⟩, ⟨p.f0, p.f1, p.f2⟩⟩, [], t.f2⟩ (.slice none 0 0)) (0, 0) _ rfl (setRow_heap _ _ _ _ _ _ HT.out.b1) hu55 rfl sizeStm) rfl ?_
         exact StmtOut.ok HR1.out (HT.out.r.setRow HT.out.b1 (by decide) (by decide) (by have := HT.out.ge; omega)) (HT.out.go.setRow (Nat.le_succ _) _) (Kids.nil _ _ _ _)
 · exact ⟨rfl, StmtOut.err ((obind_err hr).symm.trans HR.out) h2 ((Go_.of_below hb1 g vf).trans h3 hgl)⟩
end
end Go.Proofs.YtonhcfecfifghaaGreatDoor.PPx
namespace Go
section
variable {P : Program} {Q : Exit → Act → List Frame → World → Prop} {a : Act} {cs cs' : List Frame} {w : World} {id : Nat} {t0 t1 : TypeId} {p0 p1 : String} {d d2 : Tmp} {v : Value}
theorem wpS_rec {x0 x1} (hr : recoverD cs = some (v, cs')) (hd : d < a.tmps.size) (h : Q .normal ((a.put (some d) v).put (some d2) v) cs' w) :
 (Code.region id #[{ dst := some d, op := .call { callee := .builtin .recover, args := #[], argTypes := #[] }, type := t0, pos := p0, after := x0, guard := none }, { dst := some d2, op := .assign (.tmp d), type := t1, pos := p1, after := x1, guard := none }] false).wpS P Q a cs w := by
 refine wpS_region ?_
 simp [wpOpsS, go_sem, hr, hd]
 simpa [Act.put, hd] using h
theorem wpS_rec_none {x0 x1} (hr : recoverD cs = none) (hd : d < a.tmps.size) (h : Q .normal ((a.put (some d) .nilIface).put (some d2) .nilIface) cs w) :
 (Code.region id #[{ dst := some d, op := .call { callee := .builtin .recover, args := #[], argTypes := #[] }, type := t0, pos := p0, after := x0, guard := none }, { dst := some d2, op := .assign (.tmp d), type := t1, pos := p1, after := x1, guard := none }] false).wpS P Q a cs w := by
 refine wpS_region ?_
 simp [wpOpsS, go_sem, hr, hd]
 simpa [Act.put, hd] using h
theorem wpS_seq_rec {R : Exit → Act → List Frame → World → Prop} {x y : Code} (h : ∀ R', (∀ a' cs' w', y.wpS P R a' cs' w' → R' .normal a' cs' w') → x.wpS P R' a cs w) : (Code.seq x y).wpS P R a cs w :=
 wpS_seq (h _ (fun _ _ _ h => h))
end
end Go
namespace Go.Proofs.YtonhcfecfifghaaGreatDoor.PPx
open Go.RowKit Go.Proofs.YtonhcfecfifghaaGreatDoorW.PrintWords Go.Proofs.YtonhcfecfifghaaGreatDoorW.PrintLast Go.Proofs.YtonhcfecfifghaaGreatDoorW.PrintMore
set_option linter.unusedVariables false
set_option linter.unusedSimpArgs false
theorem one1_idle (W : World) (bk bb : Nat) : CallsD Tryz.prog 49 #[.pointer (some ⟨bk, 0, none⟩), .pointer (some ⟨bb, 0, none⟩)] .returning W fun e u' w' => e = .returned (.tuple #[]) ∧ u' = .returning ∧ w' = W := by
 refine callsD_of_wpS Tryz.func49 rfl fun c₀ cs hu => ?_
 refine wpS_seq_rec (fun R' hR' => ?_)
 refine wpS_rec_none (by simp [recoverD, hu]) (by simp [Tryz.ntmps49]) (hR' _ _ _ ?_)
 clear hR'
 refine wpS_of_wp ?_
 simp only [Tryz.ntmps49, Act.put, List.size_toArray, List.length_cons, List.length_nil, Nat.reduceAdd, Nat.reduceSub, Array.replicate_succ,
  Array.replicate_zero, List.push_toArray, List.append_toArray, List.nil_append, List.cons_append, List.setIfInBounds_toArray, List.set_cons_zero, List.set_cons_succ]
 go_wp2_with fail
 exact ⟨rfl, .returning, by cases c₀; simp_all, _, results_none rfl _ _ _, rfl, rfl, rfl⟩
theorem assert_fail (w : World) (x y : Int) : (Instr.typeAssert (.iface 91 (.agg #[.int .i64 x, .int .i64 y])) 20 91 true).run Tryz.prog w = .ok (.tuple #[.agg #[.int .i64 x, .int .i64 y], .bool true]) w := by kernel_rfl
theorem one1_panics (w0 W : World) (g : Nat) (fin : Int) (vf : Value) (s : Rs) (f : Int × Int) (b : Bool) (bk bb : Nat) (hI : IsR w0 W g fin vf s) (hk : W.heap[bk]? = some (.cells #[.bool b] 4 (0, 0))) (hb : W.heap[bb]? = some (.cells #[.pointer (some ⟨g, 0, none⟩)] 45 (0, 0))) (hge : w0.heap.size ≤ bk) (hl : s.over = false → s.fl.length ≤ 100 ∧ s.toks.length ≤ 1000000) :
 CallsD Tryz.prog 49 #[.pointer (some ⟨bk, 0, none⟩), .pointer (some ⟨bb, 0, none⟩)] (.panicking (faultV f.1 f.2)) W fun e u' w' =>
  e = .returned (.tuple #[]) ∧ u' = .panicking [{ v := .iface 91 (.agg #[.int .i64 f.1, .int .i64 f.2]), recovered := true }] ∧
  ∃ vf', IsR w0 w' g fin vf' (if s.over = true then s else recS f s) ∧ w'.heap[bk]? = some (.cells #[.bool false] 4 (0, 0)) ∧ Go_ (W.setCell ⟨bk, 0, none⟩ (.bool false)) w' g vf vf' := by
 obtain ⟨s9, hs9⟩ : ∃ s9, (if s.over = true then s else recS f s) = s9 := ⟨_, rfl⟩
 rw [hs9]
 have HS9 := Aside0.mk hs9
 clear hs9
 have hta := assert_fail
 have hu91 := Tryz.underlying91
 obtain ⟨A, c, hh, hg, hln, hC, hR, hB, hN⟩ := id hI
 have c4 := blk_cell hh 4
 have k0 := blk_cell hk 0
 have z0 := blk_frozen hk 0
 have d0 := blk_cell hb 0
 simp only [List.getElem?_toArray, List.getElem?_cons_zero, List.getElem?_cons_succ] at c4 k0 d0
 have hgk : bk ≠ g := hI.ne_g hk (by decide)
 have hbk : bb ≠ bk := fun e => by subst e; rw [hk] at hb; cases hb
 have hgl := hI.lt
 have hkl : bk < W.heap.size := (Array.getElem?_eq_some_iff.1 hk).1
 have hbl : bb < W.heap.size := (Array.getElem?_eq_some_iff.1 hb).1
 have HI := Aside0.mk hI
 have HK := Aside0.mk hk
 have HBB := Aside0.mk hb
 have hov : ∃ b, s.over = b := ⟨_, rfl⟩
 have HL := Aside0.mk hl
 clear hI hk hb hh hB hR hC hN hl
 refine callsD_of_wpS Tryz.func49 rfl fun c₀ cs hu => ?_
 refine wpS_seq_rec (fun R' hR' => ?_)
 refine wpS_rec (v := .iface 91 (.agg #[.int .i64 f.1, .int .i64 f.2])) (cs' := { c₀ with mode := .panicking [{ v := .iface 91 (.agg #[.int .i64 f.1, .int .i64 f.2]), recovered := true }] } :: cs) (by simp [recoverD, hu, faultV]) (by simp [Tryz.ntmps49]) (hR' _ _ _ ?_)
 clear hR'
 refine wpS_of_wp ?_
 simp only [Tryz.ntmps49, Act.put, List.size_toArray, List.length_cons, List.length_nil, Nat.reduceAdd, Nat.reduceSub, Array.replicate_succ,
  Array.replicate_zero, List.push_toArray, List.append_toArray, List.nil_append, List.cons_append, List.setIfInBounds_toArray, List.set_cons_zero, List.set_cons_succ]
 obtain ⟨ov, hov⟩ := hov
 rw [hov] at c4
 cases ov with
 | true =>
  go_wp2_with fail
  refine ⟨rfl, _, rfl, _, results_none rfl _ _ _, rfl, rfl, vf, (show IsR w0 _ g fin vf s9 from by rw [← HS9.out, if_pos hov]; exact (HI.out.far HK.out (by decide) (by decide) hge 0 _).below (below_alloc (Below.refl _ _) _)), blk_alloc (blk_put HK.out 0 _ rfl) _, ?_⟩
  exact Go_.of_below (below_alloc (Below.refl _ _) _) g vf
 | false =>
  obtain ⟨hl1, hl2⟩ := HL.out hov
  go_wp2_with fail
  have HI1 := Aside0.mk ((HI.out.far HK.out (by decide) (by decide) hge 0 (.bool false)).below (below_alloc (Below.refl _ _) (.cells #[.int .i64 f.1, .int .i64 f.2] 91)))
  have HK1 := Aside0.mk (show ((W.setCell ⟨bk, 0, none⟩ (.bool false)).alloc (.cells #[.int .i64 f.1, .int .i64 f.2] 91)).heap[bk]? = some (.cells #[.bool false] 4 (0, 0)) from blk_alloc (blk_put HK.out 0 _ rfl) _)
  have HB1 := Aside0.mk (show ((W.setCell ⟨bk, 0, none⟩ (.bool false)).alloc (.cells #[.int .i64 f.1, .int .i64 f.2] 91)).heap[bb]? = some (.cells #[.pointer (some ⟨g, 0, none⟩)] 45 (0, 0)) from blk_alloc (blk_far HBB.out (p := ⟨bk, 0, none⟩) hbk _) _)
  have HG1 := Aside0.mk (Go_.of_below (below_alloc (Below.refl (W.setCell ⟨bk, 0, none⟩ (.bool false)).heap.size (W.setCell ⟨bk, 0, none⟩ (.bool false))) (.cells #[.int .i64 f.1, .int .i64 f.2] 91)) g vf)
  refine (tell_calls w0 _ g fin vf s ⟨f.1, f.2⟩ HI1.out hl1).mono ?_
  rintro e w1 ⟨rfl, vf1, h2, h3⟩
  have HI2 := Aside0.mk h2
  have HK2 := Aside0.mk (HI1.out.keep h3 HK1.out (by decide) (by decide))
  have hb2 := HI1.out.keep h3 HB1.out (by decide) (by decide)
  have HB2 := Aside0.mk hb2
  have HG2 := Aside0.mk (HG1.out.trans h3 (by simpa [World.setCell] using hgl))
  have d1 := blk_cell hb2 0
  simp only [List.getElem?_toArray, List.getElem?_cons_zero, List.getElem?_cons_succ] at d1
  clear h2 h3 hb2 HI1 HK1 HB1 HG1 c4 k0 z0 d0
  go_wp2_with fail
  refine (rskip_calls w0 _ g fin vf1 _ HI2.out hl2).mono ?_
  rintro e w2 ⟨rfl, h2, h3⟩
  have HG3 := Aside0.mk (HG2.out.trans h3 (by simpa [World.setCell] using hgl))
  have HK3 := Aside0.mk (HI2.out.keep h3 HK2.out (by decide) (by decide))
  have HI3 := Aside0.mk h2
  clear h2 h3 HI2 HK2 HG2
  go_wp2_with fail
  exact ⟨rfl, _, rfl, _, results_none rfl _ _ _, rfl, rfl, vf1, (by rw [← HS9.out, if_neg (by simp [hov])]; exact HI3.out), HK3.out, HG3.out⟩
end Go.Proofs.YtonhcfecfifghaaGreatDoor.PPx
namespace Go.Proofs.YtonhcfecfifghaaGreatDoor.PPx
open Go.RowKit Go.Proofs.YtonhcfecfifghaaGreatDoorW.PrintWords Go.Proofs.YtonhcfecfifghaaGreatDoorW.PrintLast Go.Proofs.YtonhcfecfifghaaGreatDoorW.PrintMore
set_option linter.unusedVariables false
set_option linter.unusedSimpArgs false
section
def OneOut (w0 W : World) (g : Nat) (fin : Int) (vf : Value) (r : Option S37 × Rs) (e : Ending) (w' : World) : Prop :=
 ∃ vf' x v, e = .returned (.tuple #[.agg (stmC x v), .bool r.1.isSome]) ∧ (∃ A n c, v = .slice A n c) ∧ (∀ y, r.1 = some y → x = y ∧ Kids w' W.heap.size g vf' v y.f6) ∧ IsR w0 w' g fin vf' r.2 ∧ Go_ W w' g vf vf'
theorem oneS_cases {rec : Int → Rs → Option (List S37 × Rs)} {fin deep : Int} {s : Rs} {r : Option S37 × Rs} (h : oneS rec fin deep s = some r) :
 ∃ q, stmtS rec fin deep s = some q ∧ ((∃ x, q.1 = .ok x ∧ r = (if q.2.over = true then none else some x, q.2)) ∨ (∃ f, q.1 = .error f ∧ (q.2.over = false → q.2.fl.length ≤ 100 ∧ q.2.toks.length ≤ 1000000) ∧ r = (none, if q.2.over = true then q.2 else recS f q.2))) := by
 unfold oneS at h
 obtain ⟨⟨q1, s1⟩, hq, h⟩ := Option.bind_eq_some_iff.1 h
 refine ⟨_, hq, ?_⟩
 cases q1 with
 | ok x =>
  simp only [Option.some.injEq] at h
  exact .inl ⟨x, rfl, h.symm⟩
 | error f =>
  refine .inr ⟨f, rfl, ?_⟩
  simp only at h ⊢
  cases ho : s1.over with
  | true => rw [ho] at h; simp only [if_true, Option.some.injEq] at h; simp [← h]
  | false =>
   rw [ho] at h
   simp only [Bool.false_eq_true, if_false] at h
   split at h
   · cases h
   · rename_i hn
     simp only [Option.some.injEq] at h
     exact ⟨fun _ => ⟨by omega, by omega⟩, by simp [← h]⟩
theorem results_cb {P : Program} {fn : Func} {p p' : Tmp} {ty ty' : TypeId} (h : fn.results = #[.cell p ty, .cell p' ty']) (tmps : Array Value) (w : World) (g g' : Nat) (t : TypeId) (cs : Array Value) (fr : Nat × Nat) (d : TypeDesc) (b : Bool)
 (hp : tmps.getD p undef = .pointer (some ⟨g, 0, none⟩)) (hp2 : tmps.getD p' undef = .pointer (some ⟨g', 0, none⟩)) (hg : w.heap[g]? = some (.cells cs t fr))
 (hu : P.underlying ty = some d) (hd : (match d with | .struct _ | .array _ _ => true | _ => false) = true) (hi : (P.info? ty).map (·.size) = some cs.size) (hb : (isAgg ty').run P w = .ok false w) (hc : w.cell? ⟨g', 0, none⟩ = some (.bool b)) :
 (results fn tmps).run P w = .ok (.tuple #[.agg cs, .bool b]) w := by
 have hp' : tmps[p]?.getD undef = .pointer (some ⟨g, 0, none⟩) := by simpa using hp
 have hp2' : tmps[p']?.getD undef = .pointer (some ⟨g', 0, none⟩) := by simpa using hp2
 have h1 := run_loadVar_row w g t ty cs fr d hg hu hd hi
 have h2 : (loadVar ty' ⟨g', 0, none⟩).run P w = .ok (.bool b) w := by unfold loadVar; simp [Sem.run_bind, hb, go_sem, hc]
 simp [results, h, hp', hp2', asAddr, h1, h2]
theorem bool_plain (w : World) : (isAgg 4).run Tryz.prog w = .ok false w := by kernel_rfl
structure OneA (w0 W wr : World) (g : Nat) (fin : Int) (vf0 vf : Value) (s : Rs) (x : S37) (v : Value) (b : Bool) (l : List S37) : Prop where
 r : IsR w0 wr g fin vf s
 go : Go_ W wr g vf0 vf
 b0 : wr.heap[W.heap.size]? = some (.cells #[.pointer (some ⟨g, 0, none⟩)] 45 (0, 0))
 b1 : wr.heap[W.heap.size + 1]? = some (.cells (stmC x v) 37 (0, 0))
 b2 : wr.heap[W.heap.size + 1 + 1]? = some (.cells #[.bool b] 4 (0, 0))
 kid : Kids wr (W.heap.size + 3) g vf v l
 gl : g < W.heap.size
 ge : w0.heap.size ≤ W.heap.size
section
variable {w0 W wr w' : World} {g : Nat} {fin : Int} {vf0 vf vf1 : Value} {s s' : Rs} {x y : S37} {v u : Value} {b b' : Bool} {l : List S37}
theorem OneA.set1 (h : OneA w0 W wr g fin vf0 vf s x v b l) (j : Nat) (z : Value) (he : (stmC x v).setIfInBounds j z = stmC x v) : OneA w0 W (wr.setCell ⟨W.heap.size + 1, j, none⟩ z) g fin vf0 vf s x v b l := by
 have := h.ge
 exact ⟨h.r.far h.b1 (by decide) (by decide) (by omega) j z, h.go.set (p := ⟨W.heap.size + 1, j, none⟩) (.inr (by show W.heap.size ≤ W.heap.size + 1; omega)) z, blk_far h.b0 (p := ⟨W.heap.size + 1, j, none⟩) (by show W.heap.size ≠ W.heap.size + 1; omega) z, blk_put h.b1 j z he, blk_far h.b2 (p := ⟨W.heap.size + 1, j, none⟩) (by show W.heap.size + 1 + 1 ≠ W.heap.size + 1; omega) z, Kids.setOld h.kid (by omega) j z, h.gl, h.ge⟩
theorem OneA.set2 (h : OneA w0 W wr g fin vf0 vf s x v b l) (b' : Bool) : OneA w0 W (wr.setCell ⟨W.heap.size + 1 + 1, 0, none⟩ (.bool b')) g fin vf0 vf s x v b' l := by
 have := h.ge
 exact ⟨h.r.far h.b2 (by decide) (by decide) (by omega) 0 _, h.go.set (p := ⟨W.heap.size + 1 + 1, 0, none⟩) (.inr (by show W.heap.size ≤ W.heap.size + 1 + 1; omega)) _, blk_far h.b0 (p := ⟨W.heap.size + 1 + 1, 0, none⟩) (by show W.heap.size ≠ W.heap.size + 1 + 1; omega) _, blk_far h.b1 (p := ⟨W.heap.size + 1 + 1, 0, none⟩) (by show W.heap.size + 1 ≠ W.heap.size + 1 + 1; omega) _, blk_put h.b2 0 _ rfl, Kids.setOld h.kid (by omega) 0 _, h.gl, h.ge⟩
theorem OneA.below (h : OneA w0 W wr g fin vf0 vf s x v b l) (hb : Below wr.heap.size wr w') : OneA w0 W w' g fin vf0 vf s x v b l :=
 ⟨h.r.below hb, h.go.trans (Go_.of_below hb g vf) h.gl, blk_below h.b0 hb, blk_below h.b1 hb, blk_below h.b2 hb, Kids.below h.kid hb, h.gl, h.ge⟩
theorem OneA.drew (h : OneA w0 W wr g fin vf0 vf s x v b l) : OneA w0 W wr.drew g fin vf0 vf s x v b l := h.below (below_drew (Below.refl _ _))
end
theorem stm_held {W' : World} {b : Nat} {x : S37} {v p : Value} {a ty : Nat} {Q : Prop} (h : W'.heap[b]? = some (.cells (stmC x v) 37 (0, 0))) (hp : W'.heap[a]? = some (.cells #[p] ty (0, 0))) (hq : Q) : W'.cell? ⟨b, 0, none⟩ = some (.int .i64 x.f0) ∧ W'.cell? ⟨b, 1, none⟩ = some (.int .i64 x.f1) ∧ W'.cell? ⟨b, 2, none⟩ = some (.string x.f2) ∧ W'.cell? ⟨b, 3, none⟩ = some (.string x.f3) ∧ W'.cell? ⟨b, 4, none⟩ = some (.int .i64 x.f4) ∧ W'.cell? ⟨b, 5, none⟩ = some (.int .i64 x.f5.f0.f0) ∧ W'.cell? ⟨b, 6, none⟩ = some (.int .i64 x.f5.f0.f1) ∧ W'.cell? ⟨b, 7, none⟩ = some (.int .i64 x.f5.f0.f2) ∧ W'.cell? ⟨b, 8, none⟩ = some (.int .i64 x.f5.f1.f0) ∧ W'.cell? ⟨b, 9, none⟩ = some (.int .i64 x.f5.f1.f1) ∧ W'.cell? ⟨b, 10, none⟩ = some (.int .i64 x.f5.f1.f2) ∧ W'.cell? ⟨b, 11, none⟩ = some (v) ∧ W'.cell? ⟨b, 12, none⟩ = some (.int .i64 x.f7) ∧ W'.cell? ⟨a, 0, none⟩ = some p ∧ Q :=
 ⟨blk_cell h 0, blk_cell h 1, blk_cell h 2, blk_cell h 3, blk_cell h 4, blk_cell h 5, blk_cell h 6, blk_cell h 7, blk_cell h 8, blk_cell h 9, blk_cell h 10, blk_cell h 11, blk_cell h 12, blk_cell hp 0, hq⟩
theorem one_calls (rec : Int → Rs → Option (List S37 × Rs)) (w0 W : World) (g : Nat) (fin deep : Int) (vf : Value) (s : Rs) (r : Option S37 × Rs) (hI : IsR w0 W g fin vf s) (hW : WordsAt w0) (hr : oneS rec fin deep s = some r)
 (HREC : Aside0 (∀ (d : Int) (W1 : World) (vf1 : Value) (s1 : Rs) (r1 : List S37 × Rs), IsR w0 W1 g fin vf1 s1 → rec d s1 = some r1 → Calls Tryz.prog 18 #[.pointer (some ⟨g, 0, none⟩), .int .i64 d] W1 fun e w' => StmtsOut w0 W1 g fin vf1 r1 e w')) :
 Calls Tryz.prog 32 #[.pointer (some ⟨g, 0, none⟩), .int .i64 deep] W fun e w' => OneOut w0 W g fin vf r e w' := by
 have hmf : ∀ (fn : Fn) (first cap : Array Value) (w : World), (Instr.makeFunc fn first cap).run Tryz.prog w = .ok (.func fn first cap) w := fun _ _ _ _ => rfl
 have hu55 := Tryz.underlying37
 obtain ⟨q, hq, hcase⟩ := oneS_cases hr
 have HC := Aside0.mk hcase
 have HQ := Aside0.mk hq
 have HW := Aside0.mk hW
 have hgl := hI.lt
 have hge := hI.bel.size
 have b0 := heap_alloc_new W (.cells #[.pointer (some ⟨g, 0, none⟩)] 45)
 have b1 : ((W.alloc (.cells #[.pointer (some ⟨g, 0, none⟩)] 45)).alloc (.cells zStm 37)).heap[W.heap.size + 1]? = some (.cells zStm 37 (0, 0)) := alloc_at (by simp)
 have b2 : (((W.alloc (.cells #[.pointer (some ⟨g, 0, none⟩)] 45)).alloc (.cells zStm 37)).alloc (.cells #[.bool false] 4)).heap[W.heap.size + 1 + 1]? = some (.cells #[.bool false] 4 (0, 0)) := alloc_at (by simp)
 have hb := below_alloc (below_alloc (below_alloc (Below.refl W.heap.size W) (.cells #[.pointer (some ⟨g, 0, none⟩)] 45)) (.cells zStm 37)) (.cells #[.bool false] 4)
 have HI1 := Aside0.mk (hI.below hb)
 have B0 := Aside0.mk (blk_alloc (blk_alloc b0 (.cells zStm 37)) (.cells #[.bool false] 4))
 have B1 := Aside0.mk (blk_alloc b1 (.cells #[.bool false] 4))
 have B2 := Aside0.mk b2
 have HB := Aside0.mk hb
 clear hI hW hr hcase hq b0 b1 b2 hb
 go_enter_defers Tryz.func32, Tryz.ntmps32
 go_wp2_with fail
 refine (stmt_calls rec w0 _ g fin deep vf s q HI1.out HW.out HQ.out HREC).mono ?_
 rintro e w1 ⟨vf1, hm, h2, h3⟩
 have C0 := Aside0.mk (HI1.out.keep h3 B0.out (by decide) (by decide))
 have C1 := Aside0.mk (HI1.out.keep h3 B1.out (by decide) (by decide))
 have C2 := Aside0.mk (HI1.out.keep h3 B2.out (by decide) (by decide))
 have HI2 := Aside0.mk h2
 have HG2 := Aside0.mk ((Go_.of_below HB.out g vf).trans h3 hgl)
 have hsz : W.heap.size + 3 ≤ w1.heap.size := by have := h3.size; simpa using this
 clear h2 h3 HI1 B0 B1 B2 HQ HREC
 rcases HC.out with ⟨x, hx, hr⟩ | ⟨f, hf, hn, hr⟩
 · rw [hx] at hm
   obtain ⟨v, rfl, hk⟩ := hm
   obtain ⟨A, c, rfl⟩ := hk.slice
   have HK := Aside0.mk hk
   have HR := Aside0.mk hr
   clear hk hr HC hx
   go_wp2_with (refine wpList_store_row rfl 37 _ _ rfl (W.heap.size + 1) (stmC x (.slice A x.f6.length c)) rfl rfl 37 zStm C1.out sizeStm rfl (by kernel_rfl) ?_)
   have HO := Aside0.mk (OneA.mk (vf0 := vf) (w0 := w0) (W := W) (fin := fin) (s := q.2) (b := false) (l := x.f6) (HI2.out.setRow (new := stmC x (.slice A x.f6.length c)) C1.out (by decide) (by decide) (by omega)) (HG2.out.setRow (b := W.heap.size + 1) (by omega) (stmC x (.slice A x.f6.length c))) ((setRow_other _ _ _ _ (by omega)).trans C0.out) (setRow_heap _ _ _ _ _ _ C1.out) ((setRow_other _ _ _ _ (by omega)).trans C2.out) (Kids.mono_base (Kids.setRow (b := W.heap.size + 1) HK.out (by simp) (stmC x (.slice A x.f6.length c))) (by simp)) hgl hge)
   clear HI2 HG2 C0 C1 C2 HK hsz
   generalize w1.setRow (W.heap.size + 1) (stmC x (.slice A x.f6.length c)) = w2 at *
   obtain ⟨A1, c1, hh, _⟩ := id HO.out.r
   have d4 := blk_cell hh 4
   have d0 := blk_cell HO.out.b0 0
   have u2 := blk_cell HO.out.b2 0
   have v2 := blk_frozen HO.out.b2 0
   have f0 := blk_frozen HO.out.b1 0
   have e0 := blk_cell HO.out.b1 0
   have f1 := blk_frozen HO.out.b1 1
   have e1 := blk_cell HO.out.b1 1
   have f2 := blk_frozen HO.out.b1 2
   have e2 := blk_cell HO.out.b1 2
   have f3 := blk_frozen HO.out.b1 3
   have e3 := blk_cell HO.out.b1 3
   have f4 := blk_frozen HO.out.b1 4
   have e4 := blk_cell HO.out.b1 4
   have f5 := blk_frozen HO.out.b1 5
   have e5 := blk_cell HO.out.b1 5
   have f6 := blk_frozen HO.out.b1 6
   have e6 := blk_cell HO.out.b1 6
   have f7 := blk_frozen HO.out.b1 7
   have e7 := blk_cell HO.out.b1 7
   have f8 := blk_frozen HO.out.b1 8
   have e8 := blk_cell HO.out.b1 8
   have f9 := blk_frozen HO.out.b1 9
   have e9 := blk_cell HO.out.b1 9
   have f10 := blk_frozen HO.out.b1 10
   have e10 := blk_cell HO.out.b1 10
   have f11 := blk_frozen HO.out.b1 11
   have e11 := blk_cell HO.out.b1 11
   have f12 := blk_frozen HO.out.b1 12
   have e12 := blk_cell HO.out.b1 12
   simp only [List.getElem?_toArray, List.getElem?_cons_zero, List.getElem?_cons_succ] at d0 d4 u2 e0 e1 e2 e3 e4 e5 e6 e7 e8 e9 e10 e11 e12
   clear hh
   have HO1 := Aside0.mk (((((((((((((HO.out.set1 0 (.int .i64 x.f0) rfl).set1 1 (.int .i64 x.f1) rfl).set1 2 (.string x.f2) rfl).set1 3 (.string x.f3) rfl).set1 4 (.int .i64 x.f4) rfl).set1 5 (.int .i64 x.f5.f0.f0) rfl).set1 6 (.int .i64 x.f5.f0.f1) rfl).set1 7 (.int .i64 x.f5.f0.f2) rfl).set1 8 (.int .i64 x.f5.f1.f0) rfl).set1 9 (.int .i64 x.f5.f1.f1) rfl).set1 10 (.int .i64 x.f5.f1.f2) rfl).set1 11 (.slice A x.f6.length c) rfl).set1 12 (.int .i64 x.f7) rfl)
   have HO2 := Aside0.mk (HO1.out.set2 (!q.2.over))
   have d4b : ∀ w', OneA w0 W w' g fin vf vf1 q.2 x (.slice A x.f6.length c) false x.f6 → w'.cell? ⟨g, 4, none⟩ = some (.bool q.2.over) := fun w' h => by obtain ⟨A2, c2, hh2, _⟩ := id h.r; exact blk_cell hh2 4
   have d4c : ∀ w', OneA w0 W w' g fin vf vf1 q.2 x (.slice A x.f6.length c) (!q.2.over) x.f6 → w'.cell? ⟨g, 4, none⟩ = some (.bool q.2.over) := fun w' h => by obtain ⟨A2, c2, hh2, _⟩ := id h.r; exact blk_cell hh2 4
   have hz := stm_held HO.out.drew.b1 HO.out.drew.b0 (d4b _ HO.out.drew)
   have hz1 := stm_held HO1.out.drew.b1 HO1.out.drew.b0 (d4b _ HO1.out.drew)
   have hz2 := stm_held HO2.out.drew.b1 HO2.out.drew.b0 (d4c _ HO2.out.drew)
   clear d4b d4c
   go_region_held3 (fun W' => W'.cell? ⟨W.heap.size + 1, 0, none⟩ = some (.int .i64 x.f0) ∧ W'.cell? ⟨W.heap.size + 1, 1, none⟩ = some (.int .i64 x.f1) ∧ W'.cell? ⟨W.heap.size + 1, 2, none⟩ = some (.string x.f2) ∧ W'.cell? ⟨W.heap.size + 1, 3, none⟩ = some (.string x.f3) ∧ W'.cell? ⟨W.heap.size + 1, 4, none⟩ = some (.int .i64 x.f4) ∧ W'.cell? ⟨W.heap.size + 1, 5, none⟩ = some (.int .i64 x.f5.f0.f0) ∧ W'.cell? ⟨W.heap.size + 1, 6, none⟩ = some (.int .i64 x.f5.f0.f1) ∧ W'.cell? ⟨W.heap.size + 1, 7, none⟩ = some (.int .i64 x.f5.f0.f2) ∧ W'.cell? ⟨W.heap.size + 1, 8, none⟩ = some (.int .i64 x.f5.f1.f0) ∧ W'.cell? ⟨W.heap.size + 1, 9, none⟩ = some (.int .i64 x.f5.f1.f1) ∧ W'.cell? ⟨W.heap.size + 1, 10, none⟩ = some (.int .i64 x.f5.f1.f2) ∧ W'.cell? ⟨W.heap.size + 1, 11, none⟩ = some (.slice A x.f6.length c) ∧ W'.cell? ⟨W.heap.size + 1, 12, none⟩ = some (.int .i64 x.f7) ∧ W'.cell? ⟨W.heap.size, 0, none⟩ = some (.pointer (some ⟨g, 0, none⟩)) ∧ W'.cell? ⟨g, 4, none⟩ = some (.bool q.2.over)) (with_reducible first | exact hz | exact hz1 | exact hz2) (fail)
   refine at_world (F := fun w => Exit.then _ _ Exit.normal _ w) (P := fun w3 => OneA w0 W w3 g fin vf vf1 q.2 x (.slice A x.f6.length c) (!q.2.over) x.f6) HO2.out.drew ?_
   intro w3 h3
   have H3 := Aside0.mk h3
   clear hz hz1 hz2 HO HO1 HO2 h3 d0 d4 u2 v2 e0 f0 e1 f1 e2 f2 e3 f3 e4 f4 e5 f5 e6 f6 e7 f7 e8 f8 e9 f9 e10 f10 e11 f11 e12 f12
   go_wp2_with fail
   refine leaves_cons (f := 49) (args := #[.pointer (some ⟨W.heap.size + 1 + 1, 0, none⟩), .pointer (some ⟨W.heap.size, 0, none⟩)]) (by simp) (by simp [go_sem]) ?_
   refine (one1_idle w3 _ _).mono ?_
   rintro e u' w'' ⟨rfl, rfl, rfl⟩
   refine ⟨_, results_cb rfl _ _ (W.heap.size + 1) (W.heap.size + 1 + 1) 37 _ (0, 0) _ (!q.2.over) rfl rfl H3.out.b1 hu55 rfl sizeStm (bool_plain _) (blk_cell H3.out.b2 0), ?_⟩
   have hs : (!q.2.over) = r.1.isSome := by rw [HR.out]; cases q.2.over <;> rfl
   refine ⟨vf1, x, .slice A x.f6.length c, by rw [hs], ⟨_, _, _, rfl⟩, fun y hy => ?_, by rw [HR.out]; exact H3.out.r, H3.out.go⟩
   rw [HR.out] at hy
   cases ho : q.2.over with
   | true => rw [ho] at hy; cases hy
   | false => rw [ho] at hy; cases hy; exact ⟨rfl, Kids.mono_base H3.out.kid (by omega)⟩
 · rw [hf] at hm
   simp only at hm
   subst hm
   have HN := Aside0.mk hn
   have HR := Aside0.mk hr
   clear hn hr HC hf
   refine leaves_cons (f := 49) (args := #[.pointer (some ⟨W.heap.size + 1 + 1, 0, none⟩), .pointer (some ⟨W.heap.size, 0, none⟩)]) (by simp) (by simp [go_sem]) ?_
   refine (one1_panics w0 w1 g fin vf1 q.2 f false (W.heap.size + 1 + 1) W.heap.size HI2.out C2.out C0.out (by omega) HN.out).mono ?_
   rintro e u' w2 ⟨rfl, rfl, vf2, h2, h3, h4⟩
   have D1 := (HI2.out.far C2.out (by decide) (by decide) (by omega) 0 (.bool false)).keep h4 (blk_far C1.out (p := ⟨W.heap.size + 1 + 1, 0, none⟩) (by show W.heap.size + 1 ≠ W.heap.size + 1 + 1; omega) _) (by decide) (by decide)
   have hg2 : Go_ W w2 g vf vf2 := (HG2.out.set (p := ⟨W.heap.size + 1 + 1, 0, none⟩) (.inr (by show W.heap.size ≤ W.heap.size + 1 + 1; omega)) (.bool false)).trans h4 hgl
   show Leaves _ _ _ _ [] (settle _) w2
   simp only [settle, List.dropWhile_nil]
   refine ⟨_, results_cb rfl _ _ (W.heap.size + 1) (W.heap.size + 1 + 1) 37 _ (0, 0) _ false rfl rfl D1 hu55 rfl sizeStm (bool_plain _) (blk_cell h3 0), ?_⟩
   exact ⟨vf2, xOf 0 0, .slice none 0 0, by rw [HR.out]; rfl, ⟨_, _, _, rfl⟩, fun y hy => by rw [HR.out] at hy; (cases hy), by rw [HR.out]; exact h2, hg2⟩
end
section
section
variable {w0 W W1 wr w1 : World} {g : Nat} {fin : Int} {vf vf1 : Value} {s : Rs} {row : Option Nat}
theorem IsR.grown (h : IsR w0 W g fin vf s) (hg : W.grownBy w1 row) (h1 : some g ≠ row) (h2 : ∀ k, row = some k → some k ≠ vf.ownBlock) (h3 : ∀ k, row = some k → w0.heap.size ≤ k) : IsR w0 w1 g fin vf s := by
 obtain ⟨A, c, hh, hgg, hl, hC, hR, hB, hN⟩ := h
 exact ⟨A, c, blk_grown hh hg h1, hgg, hl, hC, Kd.R_grown2 hR rfl hg h2, hB.grown hg hB.size h3, hN⟩
theorem Go_.grown (h : Go_ W wr g vf vf1) (hg : wr.grownBy w1 row) (h3 : ∀ k, row = some k → W.heap.size ≤ k) : Go_ W w1 g vf vf1 :=
 ⟨Nat.le_trans h.size hg.size, fun k hk hkg hkv => (hg.block k (Nat.lt_of_lt_of_le hk h.size) (fun e => by have := h3 k e.symm; omega)).trans (h.block k hk hkg hkv), h.row⟩
end
theorem infoStm : (Tryz.prog.info? 37).map (fun i => (i.zero, i.size, i.bytes)) = some (some (.agg #[.int .i64 0, .int .i64 0, .string ⟨#[]⟩, .string ⟨#[]⟩, .int .i64 0, .int .i64 0, .int .i64 0, .int .i64 0, .int .i64 0, .int .i64 0, .int .i64 0, .slice none 0 0, .int .i64 0]), 13, 136) := by kernel_rfl
theorem stmts_calls (w0 : World) (g : Nat) (fin : Int) (hW : WordsAt w0) (k : Nat) : ∀ (deep : Int) (W : World) (vf : Value) (s : Rs) (r : List S37 × Rs), IsR w0 W g fin vf s → stmtsS fin k deep s [] = some r →
 Calls Tryz.prog 18 #[.pointer (some ⟨g, 0, none⟩), .int .i64 deep] W fun e w' => StmtsOut w0 W g fin vf r e w' := by
 induction k using Nat.strongRecOn with
 | _ k ih =>
 intro deep W vf s r hI hr
 have hu44 := Tryz.underlying67
 have hu55 := Tryz.underlying37
 have HW := Aside0.mk hW
 have HI := Aside0.mk hI
 have HR := Aside0.mk hr
 have IH := Aside0.mk ih
 have hgl := hI.lt
 have hge := hI.bel.size
 clear hW hI hr ih
 go_enter Tryz.func18, Tryz.ntmps18
 go_wp2_with fail
 go_loopg [5] k (fun kq v5 wr => ∃ (so : Rs) (vf1 : Value) (out : List S37), Aside0 (stmtsS fin kq deep so out = some r) ∧ Aside0 (kq ≤ k) ∧ Aside0 (IsR w0 wr g fin vf1 so) ∧ Aside0 (Go_ W wr g vf vf1) ∧ Aside0 (Kids wr W.heap.size g vf1 v5 out))
 case atStart => exact ⟨s, vf, [], HR, ⟨Nat.le_refl _⟩, HI, ⟨Go_.refl _ _ _⟩, ⟨Kids.nil _ _ _ _⟩⟩
 case round =>
  clear HI HR
  obtain ⟨so, vf1, out, HS, HK, HI, HG, HO⟩ := hrel
  obtain ⟨A, c, hh, hg, hln, hC, hR, hB, hN⟩ := id HI.out
  have c0 := blk_cell hh 0
  have c2 := blk_cell hh 2
  have c4 := blk_cell hh 4
  have z0 := blk_frozen hh 0
  have z2 := blk_frozen hh 2
  have z4 := blk_frozen hh 4
  simp only [List.getElem?_toArray, List.getElem?_cons_zero, List.getElem?_cons_succ] at c0 c2 c4
  have HH := Aside0.mk hh
  clear hh hC hR hB hN
  cases gk with
  | zero => exact absurd HS.out (by simp [stmtsS])
  | succ k1 =>
   have H := HS.out
   simp only [stmtsS] at H
   have H1 := Aside0.mk H
   clear HS H
   cases ho : so.over with
   | true =>
    rw [ho] at c4
    have HE := Aside0.mk (show (out, so) = r from by have := H1.out; rw [if_pos (.inl ho)] at this; exact Option.some.inj this)
    clear H1
    go_wp2_with fail
    go_ret
    exact ⟨_, vf1, rfl, by rw [← HE.out]; exact HO.out, by rw [← HE.out]; exact HI.out, HG.out⟩
   | false =>
    rw [ho] at c4
    cases ht : so.toks with
    | nil =>
     have HE := Aside0.mk (show (out, so) = r from by have := H1.out; rw [if_pos (.inr ht)] at this; exact Option.some.inj this)
     rw [ht] at c0
     simp only [List.length_nil] at c0
     clear H1
     go_wp2_with fail
     go_ret
     exact ⟨_, vf1, rfl, by rw [← HE.out]; exact HO.out, by rw [← HE.out]; exact HI.out, HG.out⟩
    | cons t ts =>
     have H2 := Aside0.mk ((if_neg (show ¬ (so.over = true ∨ so.toks = []) from by simp [ho, ht])).symm.trans H1.out)
     clear H1
     rw [ht] at c0 H2
     have hp : (0 : Int) < ((t :: ts).length : Int) := by simp
     generalize hm : (t :: ts).length = m at *
     go_wp2_with fail
     refine (look_calls w0 wr g fin vf1 so HI.out).mono ?_
     rintro e w1 ⟨rfl, hb⟩
     rw [ht]
     simp only [lookS]
     have hb1 := below_alloc hb (.cells #[.int .i64 t.f0, .string t.f1, .int .i64 t.f2] 67)
     have HI1 := Aside0.mk (HI.out.below hb1)
     have HG1 := Aside0.mk (HG.out.trans (Go_.of_below hb1 g vf1) hgl)
     have HO1 := Aside0.mk (Kids.below HO.out hb1)
     have HIw := Aside0.mk (HI.out.below hb)
     have HGw := Aside0.mk (HG.out.trans (Go_.of_below hb g vf1) hgl)
     have HOw := Aside0.mk (Kids.below HO.out hb)
     have hh1 := blk_below HH.out hb
     have d0 := blk_cell hh1 0
     have d2 := blk_cell hh1 2
     have y0 := blk_frozen hh1 0
     have y2 := blk_frozen hh1 2
     have y4 := blk_frozen hh1 4
     have d4 := blk_cell hh1 4
     simp only [List.getElem?_toArray, List.getElem?_cons_zero, List.getElem?_cons_succ, ht, hm, ho] at d0 d2 d4
     have hsz1 : W.heap.size ≤ w1.heap.size := by have := HG.out.size; have := hb.size; omega
     have hg1 : g < w1.heap.size := by omega
     have e125 : (⟨#[125]⟩ : ByteArray).toList = [125] := by simp [ByteArray.toList_eq]
     clear c0 c2 c4 z0 z2 z4 hb hb1 HI HG HO HH hh1
     have hls : lookS fin (t :: ts) = t := rfl
     cases h125 : isSign ⟨#[125]⟩ t with
     | true =>
      have H125 := Aside0.mk h125
      simp only [isSign, e125, Bool.and_eq_true] at h125
      obtain ⟨h3, h125⟩ := h125
      by_cases hd : deep > 0
      · have HE := Aside0.mk (show (out, so) = r from by have := H2.out; rw [hls, if_pos H125.out, if_pos hd] at this; exact Option.some.inj this)
        clear H2
        go_wp2_with fail
        go_ret
        exact ⟨_, vf1, rfl, by rw [← HE.out]; exact HO1.out, by rw [← HE.out]; exact HI1.out, HG1.out⟩
      · have H3 := H2.out
        rw [hls, if_pos H125.out, if_neg hd] at H3
        by_cases hf : 100 < so.fl.length
        · rw [if_pos hf] at H3; cases H3
        · rw [if_neg hf] at H3
          have H4 := Aside0.mk H3
          clear H3 H2
          go_wp2_with fail
          refine (tell_calls w0 _ g fin vf1 so ⟨110, t.f2⟩ HI1.out (by omega)).mono ?_
          rintro e w2 ⟨rfl, vf2, h2, h3⟩
          have HI2 := Aside0.mk h2
          have HG2 := Aside0.mk (HG1.out.trans h3 hgl)
          have HO2 := Aside0.mk (HO1.out.go h3)
          have hgl2 := h2.lt
          clear h2 h3 HI1 HG1 HO1 d0 d2 y0 y2 y4 d4
          obtain ⟨A2, c2, hh2, hg2, hl2, hC2, hR2, hBx, hN2⟩ := id HI2.out
          have HN := Aside0.mk (show NumsOK ts from fun x hx => hN2 x (by show x ∈ so.toks; rw [ht]; exact List.mem_cons_of_mem _ hx))
          have q0 := blk_cell hh2 0
          have z0 := blk_frozen hh2 0
          simp only [List.getElem?_toArray, List.getElem?_cons_zero, List.getElem?_cons_succ] at q0
          have hC2' : Kd.C k67 w0 A2 (t :: ts).length (t :: ts) := by have := hC2; simp only [tellS, ht] at this; exact this
          have hl2' : (t :: ts).length ≤ c2 := by have := hl2; simp only [tellS, ht] at this; exact this
          have q0' : w2.cell? ⟨g, 0, none⟩ = some (.slice A2 m c2) := by rw [q0]; simp only [tellS, ht, hm]
          clear q0 hC2 hl2
          have hln' : (t :: ts).length = ts.length + 1 := rfl
          have hT := tail_C hC2' hl2'
          have hlc : ts.length ≤ c2 - 1 := by omega
          have hge1 : 1 ≤ m := by omega
          have hmc : m ≤ c2 := by omega
          clear hh2 hC2' hR2 hBx hl2' hN2
          by_cases hc2 : c2 = 1
          · subst hc2
            have hts : ts = [] := List.eq_nil_of_length_eq_zero (by omega)
            subst hts
            have HT := Aside0.mk (hT.1 rfl)
            clear hT
            have HI3 := Aside0.mk (IsR.set_toks (ts := []) (c' := 0) HI2.out HT.out (Nat.le_refl _) HN.out)
            have HG3 := Aside0.mk (HG2.out.set (p := ⟨g, 0, none⟩) (.inl rfl) (.slice A2 0 0))
            have HO3 := Aside0.mk (HO2.out.go ((Go_.refl w2 g vf2).set (p := ⟨g, 0, none⟩) (.inl rfl) (.slice A2 0 0)))
            clear HI2 HG2 HO2 HT HN
            have hm1 : m = 1 := hm.symm
            subst hm1
            clear hm hln' hlc hln
            go_wp2_with fail
            go_roundg k1
            case measure => omega
            case rel => exact ⟨_, vf2, out, H4, ⟨by have := HK.out; omega⟩, HI3, HG3, HO3⟩
          · have HT := Aside0.mk (hT.2 hc2)
            clear hT
            have hm1 : ts.length = m - 1 := by omega
            have h9 := IsR.set_toks HI2.out HT.out hlc HN.out
            rw [hm1] at h9
            have HI3 := Aside0.mk h9
            have HG3 := Aside0.mk (HG2.out.set (p := ⟨g, 0, none⟩) (.inl rfl) (.slice (A2.map (fun x => { block := x.block, off := x.off + 3 })) (m - 1) (c2 - 1)))
            have HO3 := Aside0.mk (HO2.out.go ((Go_.refl w2 g vf2).set (p := ⟨g, 0, none⟩) (.inl rfl) (.slice (A2.map (fun x => { block := x.block, off := x.off + 3 })) (m - 1) (c2 - 1))))
            clear HI2 HG2 HO2 HT HN h9 hm1
            go_wp2_with fail
            go_roundg k1
            case measure => omega
            case rel => exact ⟨_, vf2, out, H4, ⟨by have := HK.out; omega⟩, HI3, HG3, HO3⟩
     | false =>
      have HN125 := Aside0.mk h125
      have H3 := H2.out
      rw [hls, if_neg (by rw [HN125.out]; decide)] at H3
      have hbn := below_alloc (Below.refl (w1.setCell ⟨g, 2, none⟩ (.int .i64 (wrap64 (so.n + 1)))).heap.size (w1.setCell ⟨g, 2, none⟩ (.int .i64 (wrap64 (so.n + 1))))) (.cells #[.int .i64 t.f0, .string t.f1, .int .i64 t.f2] 67)
      have HI2 := Aside0.mk ((HIw.out.set_n (wrap64 (so.n + 1))).below hbn)
      have HG2 := Aside0.mk ((HGw.out.set (p := ⟨g, 2, none⟩) (.inl rfl) (.int .i64 (wrap64 (so.n + 1)))).trans (Go_.of_below hbn g vf1) hgl)
      have HO2 := Aside0.mk (Kids.below (HOw.out.go ((Go_.refl _ g vf1).set (p := ⟨g, 2, none⟩) (.inl rfl) (.int .i64 (wrap64 (so.n + 1))))) hbn)
      clear hbn HI1 HG1 HO1 HIw HGw HOw
      simp only [isSign, e125] at h125
      have h3c : (t.f0 == 3) = false ∨ ((t.f0 == 3) = true ∧ (t.f1.toList == [125]) = false) := by
       cases h3 : (t.f0 == 3) with
       | false => exact .inl rfl
       | true => rw [h3, Bool.true_and] at h125; exact .inr ⟨rfl, h125⟩
      clear h125
      by_cases hn : wrap64 (so.n + 1) > 64
      · rw [if_pos hn] at H3
        by_cases hf : 100 < so.fl.length
        · rw [if_pos hf] at H3; cases H3
        · rw [if_neg hf] at H3
          have H4 := Aside0.mk (Option.some.inj H3)
          clear H3 H2
          have hn' : (64 : Int) < wrap64 (so.n + 1) := hn
          rcases h3c with h3 | ⟨h3, h4⟩
          all_goals
           go_wp2_with fail
           generalize (w1.setCell ⟨g, 2, none⟩ (.int .i64 (wrap64 (so.n + 1)))).alloc (.cells #[.int .i64 t.f0, .string t.f1, .int .i64 t.f2] 67) = w3 at *
           obtain ⟨A3, c3, hh3, _, _, _, hR3, _, _⟩ := id HI2.out
           obtain ⟨Af, cf, rfl⟩ := Kd.R_slice hR3
           have k3 := blk_cell hh3 3
           have m3 := blk_frozen hh3 3
           simp only [List.getElem?_toArray, List.getElem?_cons_zero, List.getElem?_cons_succ] at k3
           have hgl3 := HI2.out.lt
           have HH3 := Aside0.mk hh3
           have HD := Aside0.mk (HI2.out.below (below_drew (Below.refl _ _)))
           have tf2 := tok_f2
           clear hh3 hR3
           go_region_law (first | (refine Kd.R_append_step k40 (w0 := w0) w0.heap.size (by rfl) (.tmp 63) (.tmp 68) 25 40 (.agg #[.int .i64 0, .int .i64 0]) 16 (by rfl) Tryz.underlying25 infoDia rfl (by decide) (by omega) (.slice Af so.fl.length cf) so.fl ⟨2, t.f2⟩ [.int .i64 2, .int .i64 t.f2] (fun k => k ≠ g) (fun _ => False) (by first | rfl | (go_simp; done) | (go_simp; rfl)) (by first | rfl | (go_simp; done) | (go_simp; rfl)) (k40_mkM _ _ _ ⟨2, t.f2⟩) (fun _ h => h.elim) (fun k hk => by have := hszx.out; omega) HRx.out HBx.out hbx.out (by omega) ?_; intro v5 w5 hR5 hB5 hg5 hat5; obtain ⟨Af5, cf5, ev5⟩ := Kd.R_slice hR5; subst ev5; have HR5 := Aside0.mk hR5; have HB5 := Aside0.mk hB5; have HG5 := Aside0.mk hg5; have HT5 := Aside0.mk hat5; have hh5 := (hg5.block g hszx.out HNx.out).trans HHx.out; have s3 := blk_cell hh5 3; have s4 := blk_frozen hh5 3; have s5 := blk_cell hh5 4; have s6 := blk_frozen hh5 4; simp only [List.getElem?_toArray, List.getElem?_cons_zero, List.getElem?_cons_succ] at s3 s5; clear hR5 hB5 hg5 hat5 hh5) | (go_simp; go_at_call 30; refine (look_calls w0 _ g fin _ _ HD.out).mono ?_; rintro e w4 ⟨rfl, hb4⟩; have HIx := Aside0.mk (HD.out.below hb4); have hszx := Aside0.mk HIx.out.lt; have hgx := HIx.out.lt; have HHx := Aside0.mk (blk_below HH3.out (below_step (below_drew (Below.refl _ _)) hb4)); obtain ⟨_, _, _, _, _, _, hRx, hBx, _⟩ := id HIx.out; have HRx := Aside0.mk hRx; have HBx := Aside0.mk hBx; have hbx := Aside0.mk hBx.size; have HNx := Aside0.mk (Kd.R_away hRx (fun k h => h)); have HGx := Aside0.mk (HG2.out.trans (Go_.of_below (below_step (below_drew (Below.refl _ _)) hb4) g _) hgl); have HOx := Aside0.mk (Kids.below HO2.out (below_step (below_drew (Below.refl _ _)) hb4)); have n3 := blk_cell HHx.out 3; simp only [List.getElem?_toArray, List.getElem?_cons_zero, List.getElem?_cons_succ] at n3; simp only [ht, lookS]; clear hb4 hRx hBx))
           all_goals
            have hlen : (so.fl ++ [(⟨2, t.f2⟩ : S40)]).length = so.fl.length + 1 := by simp
            have hIz := IsR.set_fl (W := w4) HIx.out (HG5.out.block g hszx.out HNx.out) HR5.out HB5.out
            have hGz : Go_ w4 (w5.setCell ⟨g, 3, none⟩ (.slice Af5 (so.fl ++ [(⟨2, t.f2⟩ : S40)]).length cf5)) g (.slice Af so.fl.length cf) (.slice Af5 (so.fl ++ [(⟨2, t.f2⟩ : S40)]).length cf5) :=
             ⟨by simpa [World.setCell] using HG5.out.size, fun k hk hkg hkv => (Below.heap_setCell w5 ⟨g, 3, none⟩ _ k hkg).trans (HG5.out.block k hk hkv), HT5.out⟩
            rw [hlen] at hIz hGz
            have HIz := Aside0.mk hIz
            have HGz := Aside0.mk (HGx.out.trans hGz hgl)
            have HOz := Aside0.mk (HOx.out.go hGz)
            have hszz : (w5.setCell ⟨g, 3, none⟩ (.slice Af5 (so.fl.length + 1) cf5)).heap.size = w5.heap.size := by simp [World.setCell]
            clear hIz hGz hszz HIx HGx HOx HRx HBx HR5 HB5 HG5 HT5 HNx HHx n3 HD HH3 k3 m3 HI2 HG2 HO2 hszx hbx
            go_wp2_with fail
            go_ret
            refine ⟨_, .slice Af5 (so.fl.length + 1) cf5, rfl, ?_, ?_, HGz.out.set (p := ⟨g, 4, none⟩) (.inl rfl) _⟩
            · rw [← H4.out]; exact HOz.out.go ((Go_.refl _ g _).set (p := ⟨g, 4, none⟩) (.inl rfl) _)
            · rw [← H4.out, ← ht]; exact HIz.out.set_over true
      · rw [if_neg hn] at H3
        by_cases hol : 1000 < out.length
        · rw [if_pos hol] at H3; cases H3
        · rw [if_neg hol] at H3
          obtain ⟨⟨x1, s1⟩, hone, H4⟩ := Option.bind_eq_some_iff.1 H3
          have HN1 := Aside0.mk hone
          have H4 := Aside0.mk H4
          clear H3 H2 hone
          have hn' : ¬ (64 : Int) < wrap64 (so.n + 1) := hn
          rcases h3c with h3 | ⟨h3, h4⟩
          all_goals
           go_wp2_with fail
           generalize (w1.setCell ⟨g, 2, none⟩ (.int .i64 (wrap64 (so.n + 1)))).alloc (.cells #[.int .i64 t.f0, .string t.f1, .int .i64 t.f2] 67) = w3 at *
           refine (one_calls (fun d s => stmtsS fin k1 d s []) w0 w3 g fin deep vf1 _ _ (by have := HI2.out; rw [ht] at this; exact this) HW.out HN1.out ⟨fun d W2 vf2 s2 r2 hI2 hr2 => IH.out k1 (by have := HK.out; omega) d W2 vf2 s2 r2 hI2 hr2⟩).mono ?_
           rintro e w4 ⟨vf4, x, v, rfl, ⟨Ak, nk, ck, rfl⟩, hk, h2, hg4⟩
           have HI4 := Aside0.mk h2
           have HG4 := Aside0.mk (HG2.out.trans hg4 hgl)
           have HO4 := Aside0.mk (HO2.out.go hg4)
           have hg4s := Aside0.mk hg4.size
           cases x1 with
           | none =>
            have hba := below_alloc (Below.refl w4.heap.size w4) (.cells (stmC x (.slice Ak nk ck)) 37)
            have HI5 := Aside0.mk (HI4.out.below hba)
            have HG5 := Aside0.mk (HG4.out.trans (Go_.of_below hba g vf4) hgl)
            have HO5 := Aside0.mk (Kids.below HO4.out hba)
            clear hk h2 hg4 hba HI2 HG2 HO2 HI4 HG4 HO4 HN1 hg4s
            simp only [Option.isSome_none]
            go_wp2_with fail
            go_roundg k1
            case measure => omega
            case rel => exact ⟨s1, vf4, out, H4, ⟨by have := HK.out; omega⟩, HI5, HG5, HO5⟩
           | some y =>
            obtain ⟨rfl, hky⟩ := hk y rfl
            have hlt4 : w3.heap.size ≤ w4.heap.size := hg4s.out
            have hRy := Kd.R_alloc (Kd.R_lower (Kd.R_mono (Kd.R_bound hky) (fun k hk => (show (k ≠ g ∧ some k ≠ vf4.ownBlock) ∧ some k ≠ u5.ownBlock from ⟨hk.1, fun e => by have := Kd.R_lt HO2.out k e.symm; have := hk.2.1; omega⟩))) (show W.heap.size ≤ w3.heap.size from HG2.out.size)) (.cells (stmC x (.slice Ak nk ck)) 37)
            have hba := below_alloc (Below.refl w4.heap.size w4) (.cells (stmC x (.slice Ak nk ck)) 37)
            have HI5 := Aside0.mk (HI4.out.below hba)
            have HG5 := Aside0.mk (HG4.out.trans (Go_.of_below hba g vf4) hgl)
            have HO5 := Aside0.mk (Kids.below HO4.out hba)
            have HM := Aside0.mk (k37_mkM (w4.alloc (.cells (stmC x (.slice Ak nk ck)) 37)) W.heap.size _ x hRy)
            have hsz5 : W.heap.size ≤ (w4.alloc (.cells (stmC x (.slice Ak nk ck)) 37)).heap.size := HG5.out.size
            have hgl5 := HI5.out.lt
            have HV5 := Aside0.mk (fun (k : Nat) (hk : (w4.alloc (.cells (stmC x (.slice Ak nk ck)) 37)).heap.size ≤ k) => show k ≠ g ∧ some k ≠ vf4.ownBlock from ⟨by omega, fun e => by rcases HI5.out.row_lt with h | ⟨b, h, hb⟩ <;> rw [h] at e; (cases e); injection e with e; omega⟩)
            clear hk hky h2 hg4 hba hRy HI2 HG2 HO2 HI4 HG4 HO4 HN1 hg4s
            simp only [Option.isSome_some]
            go_wp2_with (first | (refine wpList_load_row rfl 37 _ rfl w4.heap.size rfl 37 (stmC x (.slice Ak nk ck)) (0, 0) _ (heap_alloc_new w4 _) hu55 rfl sizeStm ?_) | (refine Kd.R_append k37 (w0 := w4.alloc (.cells (stmC x (.slice Ak nk ck)) 37)) (W := w4.alloc (.cells (stmC x (.slice Ak nk ck)) 37)) W.heap.size rfl (.tmp 82) (.tmp 84) 22 37 _ 136 rfl Tryz.underlying22 infoStm rfl (by decide) (by omega) u5 out x _ (fun k => k ≠ g ∧ some k ≠ vf4.ownBlock) _ rfl (by first | rfl | (go_simp; done) | (go_simp; rfl)) HM.out (fun k hk => hk) HV5.out HO5.out (Below.refl _ _) hsz5 (by omega) ?_; intro v6 w6 hR6 hB6 hg6 hat6))
            have HI6 := Aside0.mk (IsR.grown HI5.out hg6 (Kd.R_away HO5.out (fun k hk => hk.1)) (fun k hk => (HO5.out.1 k hk).2) (fun k hk => Nat.le_trans hge (Kd.R_base HO5.out k hk)))
            have HG6 := Aside0.mk (Go_.grown HG5.out hg6 (fun k hk => Kd.R_base HO5.out k hk))
            have HO6 := Aside0.mk (show Kids w6 W.heap.size g vf4 v6 (out ++ [x]) from hR6)
            clear hR6 hB6 hg6 hat6 HI5 HG5 HO5 HM HV5
            go_roundg k1
            case measure => omega
            case rel => exact ⟨s1, vf4, out ++ [x], H4, ⟨by have := HK.out; omega⟩, HI6, HG6, HO6⟩
end
theorem decFrom_some : ∀ (l : List UInt8) (acc : Nat), (∀ b ∈ l, 48 ≤ b.toNat ∧ b.toNat ≤ 57) → ∃ n, Lib.decFrom acc l = some n
 | [], acc, _ => ⟨acc, rfl⟩
 | b :: r, acc, h => by
  have hb := h b (by simp)
  obtain ⟨n, hn⟩ := decFrom_some r (acc * 10 + (b.toNat - 48)) (fun c hc => h c (by simp [hc]))
  exact ⟨n, by simp [Lib.decFrom, Lib.digitVal, hb, hn]⟩
theorem cls_two {c : Nat} (h : cls c = 2) : 48 ≤ c ∧ c ≤ 57 := by
 unfold cls at h
 repeat' split at h
 all_goals first | omega | contradiction
theorem mem_extract {s : ByteArray} {a b : Nat} {c : UInt8} (hb : b ≤ s.size) (h : c ∈ (s.extract a b).data.toList) : ∃ x : Nat, ∃ hx : x < s.size, a ≤ x ∧ x < b ∧ c = s[x] := by
 obtain ⟨k, hk, rfl⟩ := List.mem_iff_getElem.1 h
 have hk' : k < (s.extract a b).size := hk
 have e : (s.extract a b).data.toList[k] = (s.extract a b)[k] := rfl
 rw [e, ByteArray.getElem_extract]
 rw [ByteArray.size_extract] at hk'
 exact ⟨a + k, by omega, by omega, by omega, rfl⟩
theorem scan_all (p : Int → Bool) (n : Int) : ∀ (k : Nat) (i : Int), (n - i).toNat ≤ k → ∀ x, i ≤ x → x < scan p n k i → p x = true := by
 intro k
 induction k with
 | zero => intro i hk; simp only [scan]; intro x _ _; omega
 | succ k ih =>
  intro i hk
  simp only [scan]
  by_cases h : i < n
  · rw [if_pos h]
    by_cases hp : p i = true
    · rw [if_pos hp]
      intro x hx hx2
      by_cases e : x = i
      · rw [e]; exact hp
      · exact ih (i + 1) (by omega) x (by omega) hx2
    · rw [if_neg hp]; intro x _ _; omega
  · rw [if_neg h]; intro x _ _; omega
theorem digits_of {s : ByteArray} {f : Int} (h0 : 0 ≤ f) (h1 : f ≤ (s.size : Int)) : ∀ b ∈ (s.extract f.toNat (scanTo (digitAt s) s.size f).toNat).data.toList, 48 ≤ b.toNat ∧ b.toNat ≤ 57 := by
 intro b hb
 have hr := scanTo_range (digitAt s) s.size f h1
 obtain ⟨x, hx, h2, h3, rfl⟩ := mem_extract (by omega) hb
 have hd := scan_all (digitAt s) s.size _ f (Nat.le_refl _) x (by omega) (by show (x : Int) < scanTo (digitAt s) s.size f; omega)
 have h4 : at_ s x = 2 := by simpa [digitAt] using hd
 have h5 := cls_two (at_some (by decide) h4).2
 have h6 := bt_at s x (by simpa using hx)
 simp only [Int.toNat_natCast] at h6
 omega
theorem numOK_size {sg : Bool} {d : ByteArray} (h : numOK sg d = true) : 0 < d.size ∧ d.size ≤ 9 := by
 refine ⟨numOK_pos h, ?_⟩
 have hf := number_f sg d
 rw [h] at hf
 unfold lexer_number.f at hf
 split at hf
 · simp at hf
 · split at hf
   · simp at hf
   · omega
theorem data_size (s : ByteArray) : s.data.toList.length = s.size := by rw [Array.length_toList]; rfl
theorem data_ext0 {s : ByteArray} {i j : Int} (h0 : 0 ≤ i) (h1 : i < j) (h2 : j ≤ (s.size : Int)) : ∃ (h : i.toNat < s.size), (s.extract i.toNat j.toNat).data.toList = s[i.toNat] :: (s.extract (i + 1).toNat j.toNat).data.toList := by
 have hi : i.toNat < s.size := by omega
 refine ⟨hi, ?_⟩
 apply List.ext_getElem
 · simp only [List.length_cons, Array.length_toList]
   show (s.extract i.toNat j.toNat).size = (s.extract (i + 1).toNat j.toNat).size + 1
   rw [ByteArray.size_extract, ByteArray.size_extract]; omega
 · intro k hk hk2
   have hk' : k < (s.extract i.toNat j.toNat).size := hk
   have e : (s.extract i.toNat j.toNat).data.toList[k] = (s.extract i.toNat j.toNat)[k] := rfl
   rw [e, ByteArray.getElem_extract]
   cases k with
   | zero => simp
   | succ k =>
    have hk3 : k < (s.extract (i + 1).toNat j.toNat).size := by
     have h3 : k + 1 < (s[i.toNat] :: (s.extract (i + 1).toNat j.toNat).data.toList).length := hk2
     rw [List.length_cons, data_size] at h3
     omega
    have e2 : (s.extract (i + 1).toNat j.toNat).data.toList[k] = (s.extract (i + 1).toNat j.toNat)[k] := rfl
    simp only [List.getElem_cons_succ]
    rw [e2, ByteArray.getElem_extract]
    congr 1
    omega
theorem num_token {s : ByteArray} {i : Int} (h0 : 0 ≤ i) (hk : at_ s i = 7 ∨ at_ s i = 2) (hok : numOK (at_ s i == 7) (s.extract (firstAt (at_ s i == 7) i).toNat (scanTo (digitAt s) s.size (firstAt (at_ s i == 7) i)).toNat) = true) :
 (s.extract i.toNat (scanTo (digitAt s) s.size (firstAt (at_ s i == 7) i)).toNat).size ≤ 18 ∧ ∃ n, Lib.atoi (s.extract i.toNat (scanTo (digitAt s) s.size (firstAt (at_ s i == 7) i)).toNat).data.toList = some n := by
 have hlt : i < (s.size : Int) := by rcases hk with h | h <;> exact (at_some (by decide) h).1
 have hsz := numOK_size hok
 rcases hk with h | h
 · have hb : (at_ s i == 7) = true := by simp [h]
   rw [hb] at hok hsz ⊢
   have hf : firstAt true i = i + 1 := rfl
   rw [hf] at hok hsz ⊢
   have hr := scanTo_range (digitAt s) s.size (i + 1) (by omega)
   have hd := digits_of (s := s) (f := i + 1) (by omega) (by omega)
   rw [ByteArray.size_extract] at hsz
   obtain ⟨hi, he⟩ := data_ext0 (s := s) (j := scanTo (digitAt s) s.size (i + 1)) h0 (by omega) hr.2
   refine ⟨by rw [ByteArray.size_extract]; omega, ?_⟩
   rw [he]
   have h7 : s[i.toNat] = 45 := by
    have h5 := (at_some (by decide) h).2
    have h6 := bt_at s i hi
    have h8 : (bt s i).toNat = 45 := by
     revert h5; generalize (bt s i).toNat = c
     intro h5; unfold cls at h5; repeat' split at h5
     all_goals first | omega | contradiction
    apply UInt8.toNat_inj.1
    show _ = 45
    omega
   obtain ⟨n, hn⟩ := decFrom_some _ 0 hd
   refine ⟨-(n : Int), ?_⟩
   unfold Lib.atoi
   rw [h7]
   simp only [beq_self_eq_true, if_true]
   unfold Lib.decNat
   rw [if_neg (by
    intro hE
    have : (s.extract (i + 1).toNat (scanTo (digitAt s) s.size (i + 1)).toNat).data.toList.length = 0 := by rw [List.isEmpty_iff.1 hE]; rfl
    rw [data_size, ByteArray.size_extract] at this; omega), hn]
   rfl
 · have hb : (at_ s i == 7) = false := by simp [h]
   rw [hb] at hok hsz ⊢
   have hf : firstAt false i = i := rfl
   rw [hf] at hok hsz ⊢
   have hr := scanTo_range (digitAt s) s.size i (by omega)
   have hd := digits_of (s := s) (f := i) (by omega) (by omega)
   refine ⟨by omega, ?_⟩
   rw [ByteArray.size_extract] at hsz
   obtain ⟨hi, he⟩ := data_ext0 (s := s) (j := scanTo (digitAt s) s.size i) h0 (by omega) hr.2
   obtain ⟨n, hn⟩ := decFrom_some _ 0 hd
   have hc : 48 ≤ s[i.toNat].toNat ∧ s[i.toNat].toNat ≤ 57 := hd _ (by rw [he]; simp)
   refine ⟨(n : Int), ?_⟩
   rw [he] at hn ⊢
   unfold Lib.atoi
   show (if (s[i.toNat] == 45) = true then _ else if (s[i.toNat] == 43) = true then _ else Option.map (fun (m : Nat) => (m : Int)) (Lib.decNat (s[i.toNat] :: (s.extract (i + 1).toNat (scanTo (digitAt s) s.size i).toNat).data.toList))) = some (n : Int)
   rw [if_neg (by intro hE; rw [beq_iff_eq.1 hE] at hc; exact absurd hc.1 (by decide)), if_neg (by intro hE; rw [beq_iff_eq.1 hE] at hc; exact absurd hc.1 (by decide))]
   unfold Lib.decNat
   rw [if_neg (by simp), hn]
   rfl
theorem next_num {s : ByteArray} {i : Int} (h0 : 0 ≤ i) (hok : (nextAt s i).2.2.2.1 = true) (h2 : (nextAt s i).1 = 2) : (nextAt s i).2.1.size ≤ 18 ∧ ∃ n, Lib.atoi (nextAt s i).2.1.data.toList = some n := by
 unfold nextAt at hok h2 ⊢
 by_cases c1 : at_ s i = 1
 · simp only [if_pos c1] at h2; omega
 · simp only [if_neg c1] at hok h2 ⊢
   by_cases c4 : at_ s i = 4
   · simp only [if_pos c4] at h2; omega
   · simp only [if_neg c4] at hok h2 ⊢
     by_cases c7 : at_ s i = 7 ∨ at_ s i = 2
     · simp only [if_pos c7] at hok h2 ⊢
       split at hok
       · rename_i hc
         rw [if_pos hc]
         simp only [Bool.and_eq_true] at hc
         exact num_token h0 c7 hc.1
       · simp at hok
     · simp only [if_neg c7] at hok
       exact absurd hok (by simp)
theorem lexGo_nums (s : ByteArray) : ∀ (k : Nat) (i : Int) (acc : List S67), 0 ≤ i → i ≤ (s.size : Int) → NumsOK acc → NumsOK (lexGo s k i acc).1 := by
 intro k
 induction k with
 | zero => intro i acc _ _ h; exact h
 | succ k ih =>
  intro i acc h0 h1 h
  simp only [lexGo]
  split
  · rename_i hlt
    split
    · rename_i hok
      have hr := nextAt_range s i h0 h1 hok
      have hr2 := skipTo_range s (nextAt s i).2.2.2.2 (by omega) hr.2
      refine ih _ _ (by omega) (by omega) (fun t ht h2 => ?_)
      rcases List.mem_append.1 ht with ht | ht
      · exact h t ht h2
      · obtain rfl := List.mem_singleton.1 ht
        exact next_num h0 hok h2
    · exact fun t ht => absurd ht (by simp)
  · exact h
theorem lexB_nums (s : ByteArray) : NumsOK (lexB s).1 := by
 unfold lexB
 split
 · exact fun t ht => absurd ht (by simp)
 · have hr := skipTo_range s 0 (by omega) (by omega)
   exact lexGo_nums s _ _ _ (by omega) hr.2 (fun t ht => absurd ht (by simp))
section
theorem tab_below {P : Program} {w w1 : World} {n : String} {k : IntKind} {zs : List Int} (h : Lib.TabIs P w n k zs) (hb : Below w.heap.size w w1) : Lib.TabIs P w1 n k zs := by
 unfold Lib.TabIs World.var? at *
 obtain ⟨g, hg, h⟩ := Option.bind_eq_some_iff.1 h
 rw [hg]
 have hlt : g < w.heap.size := by
  rcases Nat.lt_or_ge g w.heap.size with h1 | h1
  · exact h1
  · simp [Array.getElem?_eq_none h1] at h
 simp only [Option.bind_some]
 rw [hb.block g hlt]
 exact h
def Glob (w : World) : Prop := WordsAt w ∧ Lib.TabIs Tryz.prog w "internal/strconv.uint64pow10" .u64 Lib.pow10Tab
theorem Glob.below {w w1 : World} (h : Glob w) (hb : Below w.heap.size w w1) : Glob w1 := ⟨h.1.below hb, tab_below h.2 hb⟩
theorem LeO.obind {α β : Type} {r : Step α} {f f' : α → Rs → Option (Step β)} (h : ∀ a s, LeO (f a s) (f' a s)) : LeO (obind r f) (obind r f') := by
 unfold Go.Proofs.YtonhcfecfifghaaGreatDoor.PPx.obind
 split
 · exact h _ _
 · exact LeO.refl _
section
variable {rec rec' : Int → Rs → Option (List S37 × Rs)} (h : ∀ d s, LeO (rec d s) (rec' d s)) (fin deep : Int)
include h
end
def parser_Parse.f (k : Nat) (a0 : ByteArray) : Option (List S37 × List S40) :=
 if (lexB a0).2.1 = 0 then (stmtsS a0.size k 0 ⟨(lexB a0).1, 0, [], false⟩ []).map fun r => (r.1, r.2.fl) else some ([], [⟨(lexB a0).2.1, (lexB a0).2.2⟩])
theorem parser_Parse.calls (k : Nat) (a0 : ByteArray) (r1 : List S37) (r2 : List S40) (w : World) (h : parser_Parse.f k a0 = some (r1, r2)) (hG : Glob w) :
 Calls Tryz.prog 6 #[.string a0] w fun e w' => ∃ v0_ v1_ : Value, e = .returned (.tuple #[v0_, v1_]) ∧ Kd.R k37 37 w' w.heap.size (fun _ => True) v0_ r1 ∧ Kd.R k40 40 w' w.heap.size (fun _ => True) v1_ r2 ∧ Below w.heap.size w w' := by
 have HGl := Aside0.mk hG
 clear hG
 unfold parser_Parse.f at h
 by_cases he : (lexB a0).2.1 = 0
 · rw [if_pos he] at h
   obtain ⟨⟨l, s9⟩, hs, h⟩ := Option.map_eq_some_iff.1 h
   simp only [Prod.mk.injEq] at h
   obtain ⟨rfl, rfl⟩ := h
   have HS := Aside0.mk hs
   have he' : ((lexB a0).2.1 != 0) = false := by simp [he]
   have HL := Aside0.mk (show lexer_Lex.f a0 = some ((lexB a0).1, (lexB a0).2.1, (lexB a0).2.2) from rfl)
   clear hs he
   go_enter Tryz.func6, Tryz.ntmps6
   go_wp2_with fail
   refine (lexer_Lex.calls a0 _ _ _ w HL.out).mono ?_
   rintro e w1 ⟨v, rfl, hR, hb⟩
   obtain ⟨A, c, rfl, hc, hC⟩ := Kd.R_reads hR
   have HC := Aside0.mk hC
   have HB := Aside0.mk hb
   clear hR hC hb
   go_wp2_with fail
   have hI : IsR w1 (w1.alloc (.cells #[.slice A (lexB a0).1.length c, .int .i64 a0.size, .int .i64 0, .slice none 0 0, .bool false] 47)) w1.heap.size a0.size (.slice none 0 0) ⟨(lexB a0).1, 0, [], false⟩ :=
    ⟨A, c, heap_alloc_new w1 _, Nat.le_refl _, hc, HC.out, Kd.R_nil _ _ _ _ _, below_alloc (Below.refl _ _) _, lexB_nums a0⟩
   refine (stmts_calls w1 w1.heap.size a0.size (HGl.out.1.below HB.out) k 0 _ _ _ (l, s9) hI HS.out).mono ?_
   rintro e w2 ⟨v, vf', rfl, hk, h2, h3⟩
   obtain ⟨A3, c3, hh3, _, _, _, hR3, hB3, _⟩ := id h2
   have HK := Aside0.mk (Kd.R_mono (Kd.R_lower hk (show w.heap.size ≤ _ from Nat.le_trans HB.out.size (by simp))) (fun _ _ => trivial))
   have HF := Aside0.mk (Kd.R_mono (Kd.R_lower hR3 HB.out.size) (fun _ _ => trivial))
   have HB2 := Aside0.mk (below_step HB.out hB3)
   have d3 := blk_cell hh3 3
   simp only [List.getElem?_toArray, List.getElem?_cons_zero, List.getElem?_cons_succ] at d3
   clear hI hk h2 h3 hh3 hR3 hB3 HC HB HS HL HGl
   go_wp2_with fail
   go_quiet (fail)
   go_wp2_with fail
   go_ret2
   exact ⟨v, vf', rfl, Kd.R_drewN HK.out _, Kd.R_drewN HF.out _, pw_below_drewN HB2.out _⟩
 · rw [if_neg he] at h
   simp only [Option.some.injEq, Prod.mk.injEq] at h
   obtain ⟨rfl, rfl⟩ := h
   have he' : ((lexB a0).2.1 != 0) = true := by simp [he]
   have HL := Aside0.mk (show lexer_Lex.f a0 = some ((lexB a0).1, (lexB a0).2.1, (lexB a0).2.2) from rfl)
   clear he
   go_enter Tryz.func6, Tryz.ntmps6
   go_wp2_with fail
   refine (lexer_Lex.calls a0 _ _ _ w HL.out).mono ?_
   rintro e w1 ⟨v, rfl, hR, hb⟩
   obtain ⟨A, c, rfl, hc, hC⟩ := Kd.R_reads hR
   have HB := Aside0.mk hb
   clear hR hC hb
   go_wp2_with fail
   go_ret2
   refine ⟨_, _, rfl, Kd.R_nil _ _ _ _ _, ⟨fun _ _ => trivial, _, World.ownsRow_lit (base := w.heap.size) (e := 40) (size := 2) w1 #[.int .i64 (lexB a0).2.1, .int .i64 (lexB a0).2.2] 1 HB.out.size (by decide) rfl, ?_⟩, below_alloc HB.out _⟩
   have h1 : k40.M (w1.alloc (.cells #[.int .i64 (lexB a0).2.1, .int .i64 (lexB a0).2.2] 40)) w.heap.size (fun k => True ∧ some k ≠ (Value.slice (some ⟨w1.heap.size, 0, none⟩) 1 1).ownBlock) ⟨(lexB a0).2.1, (lexB a0).2.2⟩ [.int .i64 (lexB a0).2.1, .int .i64 (lexB a0).2.2] := k40_mkM _ _ _ ⟨(lexB a0).2.1, (lexB a0).2.2⟩
   exact Reps.snoc (Reps.none _ _) h1 rfl
end
theorem bld_info : ∃ j, Tryz.prog.info? 59 = some j ∧ j.size ≠ 0 := by
 have h : (Tryz.prog.info? 59).map (·.size) = some 2 := by kernel_rfl
 obtain ⟨j, hj, hs⟩ := Option.map_eq_some_iff.1 h
 exact ⟨j, hj, by rw [hs]; decide⟩
theorem copyCheck_used (b : Nat) (w : World) (h0 : w.cell? ⟨b, 0, none⟩ = some (.pointer (some ⟨b, 0, none⟩))) :
 Calls Tryz.prog 69 #[.pointer (some ⟨b, 0, none⟩)] w fun e w' => e = .returned (.tuple #[]) ∧ w' = w := by
 obtain ⟨j, hj, _⟩ := bld_info
 have hp : Tryz.prog.underlying 56 = some (.pointer 59) := by kernel_rfl
 go_enter Tryz.func69, Tryz.ntmps69
 go_wp2
 rw [Lib.run_neq_ptr_same w _ hp hj]
 go_wp2
 go_end0
 exact ⟨rfl, rfl⟩
theorem copyCheck_fresh (b : Nat) (w : World) (h0 : w.cell? ⟨b, 0, none⟩ = some (.pointer none)) (hsh : w.shape? b = some (59, 2)) (hfz : w.frozen? ⟨b, 0, none⟩ = false) :
 Calls Tryz.prog 69 #[.pointer (some ⟨b, 0, none⟩)] w fun e w' => e = .returned (.tuple #[]) ∧ w' = w.setCell ⟨b, 0, none⟩ (.pointer (some ⟨b, 0, none⟩)) := by
 obtain ⟨j, hj, hjs⟩ := bld_info
 have hp : Tryz.prog.underlying 56 = some (.pointer 59) := by kernel_rfl
 have hu : Tryz.prog.underlying 122 = some .unsafePointer := by kernel_rfl
 have hl : liesAt Tryz.prog Tryz.prog.depth 59 (2 / Tryz.prog.cellsOf 59) 0 59 1 = true := by kernel_rfl
 go_enter Tryz.func69, Tryz.ntmps69
 go_wp2
 rw [Lib.run_to_unsafe w ⟨b, 0, none⟩ hp hu hj hjs hsh (Nat.zero_lt_succ 1)]
 simp only [Result.andThen]
 rw [Oper.upon_value]
 go_wp2
 rw [run_callFunc_extern Tryz.func89 (by kernel_rfl) (by kernel_rfl) (by kernel_rfl) (e := Extern.AbiNoEscape.same) (by kernel_rfl)]
 rw [Lib.run_noEscape]
 simp only [Result.andThen]
 rw [Oper.upon_value]
 go_wp2
 rw [Lib.run_from_unsafe w ⟨b, 0, none⟩ hu hp hj hsh hl]
 simp only [Result.andThen]
 rw [Oper.upon_value]
 go_wp2
 go_end0
 exact ⟨rfl, rfl⟩
theorem copyCheck_k (B b : Nat) (bs : List Value) (w : World) (h : Lib.IsBuilderF 59 5 B b bs w) :
 Calls Tryz.prog 69 #[.pointer (some ⟨b, 0, none⟩)] w fun e w' => e = .returned (.tuple #[]) ∧ (Lib.BuilderAtF 59 5 B b (.pointer (some ⟨b, 0, none⟩)) bs w' ∧ Below B w w' ∧ Lib.OthersKept 5 (some b) w w') := by
 rcases h with h | h
 · refine (copyCheck_fresh b w h.cell0 h.shape h.frozen0).mono ?_
   rintro e w' ⟨rfl, rfl⟩
   exact ⟨rfl, h.used _, (Below.refl B w).setCell (p := ⟨b, 0, none⟩) h.1 _, (Lib.OthersKept.refl _ _ w).setCell ⟨b, 0, none⟩ rfl _⟩
 · refine (copyCheck_used b w h.cell0).mono ?_
   rintro e w' ⟨rfl, rfl⟩
   exact ⟨rfl, h, Below.refl B _, Lib.OthersKept.refl _ _ _⟩
theorem WriteString_calls (B b : Nat) (bs : List Value) (s : ByteArray) (w : World) (h : Lib.IsBuilderF 59 5 B b bs w) (hlen : bs.length + s.size ≤ 140737488355328) (hBw : B ≤ w.heap.size) :
 Calls Tryz.prog 38 #[.pointer (some ⟨b, 0, none⟩), .string s] w fun e w' => e = .returned (.tuple #[.int .i64 s.size, .nilIface]) ∧ (Lib.BuilderAtF 59 5 B b (.pointer (some ⟨b, 0, none⟩)) (bs ++ Lib.strCells s) w' ∧ Below B w w' ∧ Lib.OthersKept 5 (some b) w w') := by
 obtain ⟨i0, hi, hz0, hz1, hz2⟩ := info_parts (show (Tryz.prog.info? 5).map (fun i => (i.zero, i.size, i.bytes)) = some (some (.int .u8 0), 1, 1) from by kernel_rfl)
 have u37 : Tryz.prog.underlying 57 = some (.slice 5) := by kernel_rfl
 have u9 : Tryz.prog.underlying 9 = some .string := by kernel_rfl
 go_enter Tryz.func38, Tryz.ntmps38
 go_wp2_with fail
 refine (copyCheck_k B b bs _ h).mono ?_
 rintro e w1 ⟨rfl, h1, hb1, hk1⟩
 obtain ⟨hB, v, hbk, hown, hne⟩ := h1
 have c0 : w1.cell? ⟨b, 0, none⟩ = some (.pointer (some ⟨b, 0, none⟩)) := by rw [Lib.cell_of_heap hbk]; rfl
 have c1 : w1.cell? ⟨b, 1, none⟩ = some v := by rw [Lib.cell_of_heap hbk]; rfl
 go_wp2_with (at_builtin; refine Lib.wpList_append_own_stringF _ rfl _ _ 57 9 rfl B 5 i0 u37 u9 hi hz0 hz1 hz2 _ _ _ rfl hown s rfl ?c3 ?c4 ?c5 ?_)
 case c3 => unfold maxLen; omega
 case c4 => omega
 case c5 => have := hb1.size; omega
 intro v' w2 hown' hgrow _
 have hlt : b < w1.heap.size := by
  rcases Nat.lt_or_ge b w1.heap.size with h' | h'
  · exact h'
  · simp [Array.getElem?_eq_none h'] at hbk
 have hb2 : w2.heap[b]? = some (.cells #[.pointer (some ⟨b, 0, none⟩), v] 59 (0, 0)) := by
  rw [hgrow.block b hlt (fun e => hne e.symm)]
  exact hbk
 have d0 : w2.cell? ⟨b, 0, none⟩ = some (.pointer (some ⟨b, 0, none⟩)) := by rw [Lib.cell_of_heap hb2]; rfl
 have d1 : w2.cell? ⟨b, 1, none⟩ = some v := by rw [Lib.cell_of_heap hb2]; rfl
 have f1 : w2.frozen? ⟨b, 1, none⟩ = false := Lib.frozen_of_heap hb2 1
 obtain ⟨ao, n', cap, rfl⟩ : ∃ ao n' cap, v' = .slice ao n' cap := by
  rcases hown'.2 with ⟨hv, _⟩ | ⟨g, cap, cur, fz, hv, _⟩
  · exact ⟨_, _, _, hv⟩
  · exact ⟨_, _, _, hv⟩
 go_wp2
 go_ret2
 refine ⟨rfl, ?_, ?_, (hk1.grown hgrow (Lib.ownsRowF_kind hown)).setCell ⟨b, 1, none⟩ rfl _⟩
 · exact Lib.BuilderAtF.put (T := 59) (e := 5) hB hb2 (bs' := bs ++ Lib.strCells s) (by simpa [Lib.strCells_length] using hown') (by decide)
 · exact (hb1.grown hgrow (by have := hb1.size; omega) (fun k hk => (hown.lt k hk).1)).setCell (p := ⟨b, 1, none⟩) hB _
end Go.Proofs.YtonhcfecfifghaaGreatDoor.PPx
