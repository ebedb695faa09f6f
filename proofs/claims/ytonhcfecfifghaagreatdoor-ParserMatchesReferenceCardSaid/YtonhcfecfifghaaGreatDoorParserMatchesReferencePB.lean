/- Part B of the proof of ParserMatchesReference: the contracts of the functions that the law reaches, and what their plain functions compute. No condition. -/
import Derived.Test.YtonhcfecfifghaaGreatDoorParserMatchesReferencePA
import Derived.Laws.StructEq
import Derived.Test.YtonhcfecfifghaaGreatDoorProg
import Derived.Below
import Derived.Deep.Draws
import Derived.Deep.AppendLies
import Derived.Maps.AppendAt
import Derived.OwnWalk
import Derived.Laws.BytesArg
import Derived.Laws.MakeOwn
import Derived.Laws.OwnMore
import Derived.Deep.OwnRows
import Derived.Tactics
import Derived.Lib.ConvBytes
import Derived.Laws.Slices
import Derived.WalkKit
import Derived.KernelRfl
import Derived.RowKit3
import Derived.Deep.LoopGhost
import Derived.Deep.QuietTactic
import Derived.BigQuiet
import Derived.WideLaws
import Derived.Deep.DeepCutAuto
import Derived.Deep.CutBlock
import Derived.Deep.RegionHeld3
import Derived.Laws.Rows
import Derived.Lib.AppendStr
import Derived.ArgAppend
import Derived.Laws.IdiomCopy
import Derived.OrdersHeld
import Derived.Laws.BitsLemmas
import Derived.RowKit
import Derived.StillTailTactics
set_option maxHeartbeats 40000000
set_option maxRecDepth 100000
namespace Go.Proofs.YtonhcfecfifghaaGreatDoorW.PrintMore
end Go.Proofs.YtonhcfecfifghaaGreatDoorW.PrintMore
namespace Go.Proofs.YtonhcfecfifghaaGreatDoorW.PrintWords
open Go.RowKit
theorem gate_callee {P : Program} {ops : Array Oper} {rest : List Oper} {o : Oper} {a : Act} {Q : Exit → Act → World → Prop} {W : World} {f : FuncId} {az : Array Operand} {ts : Array TypeId} (_ho : o.op = .call { callee := .value (.func f), args := az, argTypes := ts }) (h : wpList P ops Q (o :: rest) a W) : wpList P ops Q (o :: rest) a W := h
theorem gate_builtin {P : Program} {ops : Array Oper} {rest : List Oper} {o : Oper} {a : Act} {Q : Exit → Act → World → Prop} {W : World} {b : Builtin} {xs : Array Operand} {ts : Array TypeId} (_ho : o.op = .call { callee := .builtin b, args := xs, argTypes := ts }) (h : wpList P ops Q (o :: rest) a W) : wpList P ops Q (o :: rest) a W := h
theorem Kd.R_tight {α : Type} {d : Kd α} {e base : Nat} {ok : Nat → Prop} {w : World} {v : Value} {xs : List α} (hE : d.E = []) (h : Kd.R d e w base ok v xs) : Kd.R d e w base (fun k => some k = v.ownBlock) v xs := by
 obtain ⟨h0, inner, ho, hr⟩ := h
 refine ⟨fun k hk => hk.symm, inner, ho, hr.imp_ (fun p c hp => d.M_mono (fun k hk => ?_) (d.M_bound hp))⟩
 obtain ⟨_, _, _, q, hq, _⟩ := hk
 rw [hE] at hq
 cases hq
theorem Kd.R_grown2 {α : Type} {d : Kd α} {e base : Nat} {ok : Nat → Prop} {W w1 : World} {v : Value} {xs : List α} (h : Kd.R d e W base ok v xs) (hE : d.E = []) {row : Option Nat} (hg : W.grownBy w1 row) (hne : ∀ k, row = some k → some k ≠ v.ownBlock) : Kd.R d e w1 base ok v xs :=
 Kd.R_mono (Kd.R_grown (Kd.R_tight hE h) hg (fun k hk e_ => hne k e_.symm hk)) (fun k hk => h.1 k hk.symm)
end Go.Proofs.YtonhcfecfifghaaGreatDoorW.PrintWords
namespace Go.Proofs.YtonhcfecfifghaaGreatDoorW.PrintWords
open Go.RowKit
set_option linter.unusedVariables false
set_option linter.unusedSimpArgs false
class UpW (W V : World) : Prop where
 up : ∀ w : World, Below w.heap.size w W → Below w.heap.size w V
 blk : ∀ (g : Nat) (o : Obj), W.heap[g]? = some o → V.heap[g]? = some o
instance upRefl (W : World) : UpW W W := ⟨fun _ h => h, fun _ _ h => h⟩
instance upAlloc (W V : World) (o : Obj) [c : UpW W V] : UpW W (V.alloc o) := ⟨fun w h => below_alloc (c.up w h) o, fun g o' h => blk_alloc (c.blk g o' h) o⟩
instance upDrewN (W V : World) (n : Nat) [c : UpW W V] : UpW W (V.drewN n) := ⟨fun w h => pw_below_drewN (c.up w h) n, fun g o h => blk_drewN (c.blk g o h) n⟩
instance upDrew (W V : World) [c : UpW W V] : UpW W V.drew := ⟨fun w h => below_drew (c.up w h), fun g o h => blk_drew (c.blk g o h)⟩
theorem up_ {w W V : World} (h : Below w.heap.size w W) [c : UpW W V] : Below w.heap.size w V := c.up w h
theorem ub_ {W V : World} {g : Nat} {o : Obj} (h : W.heap[g]? = some o) [c : UpW W V] : V.heap[g]? = some o := c.blk g o h
end Go.Proofs.YtonhcfecfifghaaGreatDoorW.PrintWords
namespace Go.Proofs.YtonhcfecfifghaaGreatDoorW.PrintLast
open Go.Proofs.YtonhcfecfifghaaGreatDoorW.PrintWords (Aside0)
def needsOf (md : Region.Mode) (o : Oper) : List Nat := (o.after.toList.filter (fun e => Region.binds md e)).map (fun e => e.on)
def clashOf (md : Region.Mode) (ops : Array Oper) (i : Nat) (oi : Oper) : List Nat := (List.range ops.size).filter fun j => !(j == i) && match ops[j]? with
 | some oj => !(oj.after.any (fun e => Region.binds md e && e.on == i) || oi.apart ops oj)
 | none => false
def rtab (md : Region.Mode) (ops : Array Oper) : Bool × List (List Nat × List Nat) := (Region.noSelect ops, (List.range ops.size).map fun i => match ops[i]? with
 | some o => (needsOf md o, clashOf md ops i o)
 | none => ([], []))
def readyAt (T : List (List Nat × List Nat)) (l : List Bool) (i : Nat) : Bool := !l.getD i true && match T[i]? with
 | some r => r.1.all (fun j => l.getD j false)
 | none => false
def readyT (T : List (List Nat × List Nat)) (l : List Bool) : List Nat := (List.range T.length).filter (readyAt T l)
def freeT (T : List (List Nat × List Nat)) (l : List Bool) (i : Nat) : Bool := match T[i]? with
 | some r => r.2.all (fun j => l.getD j true)
 | none => false
def closedT (T : List (List Nat × List Nat)) (l : List Bool) : Bool := (List.range T.length).all fun j => !l.getD j false || match T[j]? with
 | some r => r.1.all (fun k => l.getD k false)
 | none => true
def reachT (T : List (List Nat × List Nat)) (i : Nat) : Nat → Nat → Bool
 | 0, _ => false
 | fuel + 1, d => match T[d]? with
  | some r => r.1.any fun j => j == i || reachT T i fuel j
  | none => false
def lastT (T : List (List Nat × List Nat)) (l : List Bool) (ds : List Nat) (i : Nat) : Bool := ds.all fun d => l.getD d true || reachT T i T.length d
section
variable {md : Region.Mode} {ops : Array Oper} {T : Bool × List (List Nat × List Nat)} {l l' li lj lk : Array Bool} {ds : List Nat} {i j k : Nat}
theorem gd (l : Array Bool) (j : Nat) (b : Bool) : l.getD j b = l.toList.getD j b := by simp [Array.getD_eq_getD_getElem?, List.getD_eq_getElem?_getD]
theorem needs_all (o : Oper) (p : Nat → Bool) : o.after.all (fun e => !Region.binds md e || p e.on) = (needsOf md o).all p := by
 unfold needsOf
 rw [← Array.all_toList]
 induction o.after.toList with
 | nil => rfl
 | cons e r ih =>
  rw [List.all_cons, ih, List.filter_cons]
  cases h : Region.binds md e <;> simp
theorem needs_any (o : Oper) (p : Nat → Bool) : o.after.any (fun e => Region.binds md e && p e.on) = (needsOf md o).any p := by
 unfold needsOf
 rw [← Array.any_toList]
 induction o.after.toList with
 | nil => rfl
 | cons e r ih =>
  rw [List.any_cons, ih, List.filter_cons]
  cases h : Region.binds md e <;> simp
theorem rtab_length : (rtab md ops).2.length = ops.size := by simp [rtab]
theorem rtab_some {o : Oper} (h : ops[i]? = some o) : (rtab md ops).2[i]? = some (needsOf md o, clashOf md ops i o) := by
 have hi := (Array.getElem?_eq_some_iff.1 h).1
 unfold rtab
 rw [List.getElem?_map, List.getElem?_range hi, Option.map_some, h]
theorem rtab_none (h : ops[i]? = none) : (rtab md ops).2[i]? = none := by
 have hi : ops.size ≤ i := Array.getElem?_eq_none_iff.1 h
 exact List.getElem?_eq_none (by rw [rtab_length]; exact hi)
theorem readyAt_eq : readyAt (rtab md ops).2 l.toList i = (!l.getD i true && ((ops[i]?).map (·.after.all fun e => !Region.binds md e || l.getD e.on false)).getD false) := by
 unfold readyAt
 rw [gd]
 cases h : ops[i]? with
 | none => rw [rtab_none h]; rfl
 | some o =>
  rw [rtab_some h]
  simp only [Option.map_some, Option.getD_some]
  rw [← needs_all]
  simp only [gd]
theorem ready_eq : Region.ready md ops l = readyT (rtab md ops).2 l.toList := by
 unfold Region.ready readyT
 rw [rtab_length]
 refine List.filter_congr (fun i _ => ?_)
 rw [readyAt_eq]
theorem free_eq : Region.free md ops l i = freeT (rtab md ops).2 l.toList i := by
 unfold Region.free freeT
 cases h : ops[i]? with
 | none => rw [rtab_none h]
 | some oi =>
  rw [rtab_some h]
  simp only [clashOf]
  rw [List.all_filter]
  congr 1
  funext j
  rw [gd]
  cases hj : ops[j]? with
  | none => cases (j == i) <;> cases (l.toList.getD j true) <;> simp
  | some oj =>
   cases (j == i) <;> cases (l.toList.getD j true) <;> cases (oj.after.any (fun e => Region.binds md e && e.on == i) || oi.apart ops oj) <;> simp_all
theorem closed_eq : Region.closedB md ops l = closedT (rtab md ops).2 l.toList := by
 unfold Region.closedB closedT
 rw [rtab_length]
 congr 1
 funext j
 rw [gd]
 cases h : ops[j]? with
 | none => rw [rtab_none h]
 | some o =>
  rw [rtab_some h]
  simp only
  rw [← needs_all]
  simp only [gd]
theorem reach_eq : ∀ (fuel d : Nat), Region.reachB md ops i fuel d = reachT (rtab md ops).2 i fuel d
 | 0, _ => rfl
 | fuel + 1, d => by
  unfold Region.reachB reachT
  cases h : ops[d]? with
  | none => rw [rtab_none h]
  | some o =>
   rw [rtab_some h]
   simp only
   rw [← needs_any]
   congr 1
   funext e
   rw [reach_eq fuel]
theorem last_eq : Region.lastB md ops l ds i = lastT (rtab md ops).2 l.toList ds i := by
 unfold Region.lastB lastT
 rw [rtab_length]
 congr 1
 funext d
 rw [gd, reach_eq]
theorem readyAt_mem (h : readyAt T.2 l.toList i = true) (hT : rtab md ops = T) : (Region.ready md ops l).contains i = true := by
 subst hT
 rw [ready_eq]
 unfold readyT
 rw [List.contains_iff_mem, List.mem_filter, List.mem_range]
 refine ⟨?_, h⟩
 unfold readyAt at h
 rw [Bool.and_eq_true] at h
 cases hq : (rtab md ops).2[i]? with
 | none => rw [hq] at h; simp at h
 | some r => exact (List.getElem?_eq_some_iff.1 hq).1
theorem set_of (h : (l.toList.set i true == l'.toList) = true) : (l.setIfInBounds i true == l') = true := by
 rw [beq_iff_eq] at h ⊢
 apply Array.ext'
 rw [Array.toList_setIfInBounds]
 exact h
def anyT (T : Bool × List (List Nat × List Nat)) (l l' : List Bool) (i : Nat) : Bool := T.1 && freeT T.2 l i && readyAt T.2 l i && (l.set i true == l')
theorem any_of (hT : rtab md ops = T) (h : anyT T l.toList l'.toList i = true) : anyB md ops l l' i = true := by
 simp only [anyT, Bool.and_eq_true] at h
 obtain ⟨⟨⟨h1, h2⟩, h3⟩, h4⟩ := h
 have h5 := readyAt_mem h3 hT
 have h6 := set_of h4
 subst hT
 simp only [anyB, Bool.and_eq_true]
 exact ⟨⟨⟨h1, by rw [free_eq]; exact h2⟩, h5⟩, h6⟩
def takeT (T : Bool × List (List Nat × List Nat)) (ds : List Nat) (l l' : List Bool) (i : Nat) : Bool := T.1 && freeT T.2 l i && readyAt T.2 l i && closedT T.2 l && lastT T.2 l ds i && (l.set i true == l')
theorem take_of (hT : rtab md ops = T) (h : takeT T ds l.toList l'.toList i = true) : takeB md ops ds l l' i = true := by
 simp only [takeT, Bool.and_eq_true] at h
 obtain ⟨⟨⟨⟨⟨h1, h2⟩, h3⟩, h4⟩, h5⟩, h6⟩ := h
 have h7 := readyAt_mem h3 hT
 have h8 := set_of h6
 subst hT
 simp only [takeB, Bool.and_eq_true]
 exact ⟨⟨⟨⟨⟨h1, by rw [free_eq]; exact h2⟩, h7⟩, by rw [closed_eq]; exact h4⟩, by rw [last_eq]; exact h5⟩, h8⟩
theorem one_of (hT : rtab md ops = T) (h : (readyT T.2 l.toList == [i] && l.toList.set i true == l'.toList) = true) : readyB md ops l l' i = true := by
 simp only [Bool.and_eq_true] at h
 obtain ⟨h1, h2⟩ := h
 subst hT
 simp only [readyB, Bool.and_eq_true]
 exact ⟨by rw [ready_eq]; exact h1, set_of h2⟩
theorem done_of (hT : rtab md ops = T) (h : (readyT T.2 l.toList == []) = true) : (Region.ready md ops l == []) = true := by
 subst hT
 rw [ready_eq]
 exact h
def upM (B : List Nat) (d : Nat) : List Nat → Nat
 | [] => 0
 | n :: r => (2 ^ n ||| (if n < d then B.getD n 0 else 0)) ||| upM B d r
def waitsOk (T : List (List Nat × List Nat)) (B : List Nat) : Bool := (List.range T.length).all fun d => match T[d]? with
 | some r => (B.getD d 0 ||| upM B d r.1) == upM B d r.1
 | none => false
theorem upM_bit {B : List Nat} {d i : Nat} : ∀ {ns : List Nat}, (upM B d ns).testBit i = true → ∃ n ∈ ns, n = i ∨ (n < d ∧ (B.getD n 0).testBit i = true)
 | [], h => by simp [upM] at h
 | n :: r, h => by
  unfold upM at h
  rw [Nat.testBit_or, Nat.testBit_or, Bool.or_eq_true, Bool.or_eq_true] at h
  rcases h with (h | h) | h
  · rw [Nat.testBit_two_pow] at h
    exact ⟨n, List.mem_cons_self, .inl (by simpa using h)⟩
  · by_cases hn : n < d
    · rw [if_pos hn] at h
      exact ⟨n, List.mem_cons_self, .inr ⟨hn, h⟩⟩
    · rw [if_neg hn] at h
      simp at h
  · obtain ⟨m, hm, h2⟩ := upM_bit h
    exact ⟨m, List.mem_cons_of_mem _ hm, h2⟩
theorem reach_bit {T : List (List Nat × List Nat)} {B : List Nat} (hB : waitsOk T B = true) : ∀ (fuel d : Nat), d < fuel → d < T.length → (B.getD d 0).testBit i = true → reachT T i fuel d = true
 | 0, d, h, _, _ => by omega
 | fuel + 1, d, h, hd, hb => by
  have h1 := List.all_eq_true.1 hB d (List.mem_range.2 hd)
  cases hr : T[d]? with
  | none => rw [hr] at h1; simp at h1
  | some r =>
   rw [hr] at h1
   simp only [beq_iff_eq] at h1
   have h2 : (upM B d r.1).testBit i = true := by rw [← h1, Nat.testBit_or, hb, Bool.true_or]
   obtain ⟨n, hn, h3⟩ := upM_bit h2
   unfold reachT
   rw [hr]
   simp only
   rw [List.any_eq_true]
   refine ⟨n, hn, ?_⟩
   rcases h3 with rfl | ⟨h4, h5⟩
   · simp
   · rw [reach_bit hB fuel n (by omega) (by omega) h5, Bool.or_true]
def lastW (T : List (List Nat × List Nat)) (B : List Nat) (l : List Bool) (ds : List Nat) (i : Nat) : Bool := ds.all fun d => l.getD d true || (decide (d < T.length) && (B.getD d 0).testBit i)
def takeW (T : Bool × List (List Nat × List Nat)) (B : List Nat) (ds : List Nat) (l l' : List Bool) (i : Nat) : Bool := T.1 && freeT T.2 l i && readyAt T.2 l i && closedT T.2 l && lastW T.2 B l ds i && (l.set i true == l')
theorem take_ofW {B : List Nat} (hT : rtab md ops = T) (hB : waitsOk T.2 B = true) (h : takeW T B ds l.toList l'.toList i = true) : takeB md ops ds l l' i = true := by
 refine take_of hT ?_
 simp only [takeW, takeT, Bool.and_eq_true] at h ⊢
 obtain ⟨⟨⟨⟨⟨h1, h2⟩, h3⟩, h4⟩, h5⟩, h6⟩ := h
 refine ⟨⟨⟨⟨⟨h1, h2⟩, h3⟩, h4⟩, ?_⟩, h6⟩
 unfold lastW at h5
 unfold lastT
 rw [List.all_eq_true] at h5 ⊢
 intro d hd
 have h7 := h5 d hd
 rw [Bool.or_eq_true, Bool.and_eq_true, decide_eq_true_eq] at h7
 rcases h7 with h7 | ⟨h8, h9⟩
 · rw [h7, Bool.true_or]
 · rw [reach_bit hB _ d h8 h8 h9, Bool.or_true]
theorem with_tabW {P : Program} {Q : Exit → Act → World → Prop} {S : World → Prop} {n : Nat} {a : Act} {w : World} {B : List Nat} (hT : rtab md ops = T) (hB : waitsOk T.2 B = true) (h : Aside0 (rtab md ops = T) → Aside0 (waitsOk T.2 B = true) → wpAnyLast P md ops Q S ds n l a w) : wpAnyLast P md ops Q S ds n l a w := h ⟨hT⟩ ⟨hB⟩
end
def opsIn : Code → Nat → Option (Array Oper)
 | .region id ops _, k => if id == k then some ops else none
 | .seq a b, k => match opsIn a k with
  | some o => some o
  | none => opsIn b k
 | .cond _ a b, k => match opsIn a k with
  | some o => some o
  | none => opsIn b k
 | .block _ c, k => opsIn c k
 | .loop c, k => opsIn c k
 | .scope c, k => opsIn c k
 | .rangeFunc _ _ a b, k => match opsIn a k with
  | some o => some o
  | none => opsIn b k
 | _, _ => none
def opsOf (f : Func) (k : Nat) : Array Oper := ((f.body.bind fun c => opsIn c k)).getD #[]
end Go.Proofs.YtonhcfecfifghaaGreatDoorW.PrintLast
namespace Go.Proofs.YtonhcfecfifghaaGreatDoorW.PrintWords
open Go.RowKit
section
variable {P : Program} {d : Nat} {xs ys : Array Value} {f : Field} {fs : List Field} {a b : Value} {r s : Bool} {w : World}
theorem eqf_last (hn : (f.name == "_") = false) (ha : (part f.type xs f.offset).run P w = .ok a w) (hb : (part f.type ys f.offset).run P w = .ok b w) (he : (Op.equalIn d f.type a b).run P w = .ok r w) : (Op.eqFields d xs ys [f]).run P w = .ok r w := by
 have hn' : f.name ≠ "_" := by simpa using hn
 simp only [Op.eqFields, if_pos hn', Sem.run_bind, ha, hb, he, Result.andThen_ok]
 cases r <;> simp
theorem eqf_cons (hn : (f.name == "_") = false) (ha : (part f.type xs f.offset).run P w = .ok a w) (hb : (part f.type ys f.offset).run P w = .ok b w) (he : (Op.equalIn d f.type a b).run P w = .ok r w) (hr : (Op.eqFields d xs ys fs).run P w = .ok s w) : (Op.eqFields d xs ys (f :: fs)).run P w = .ok (r && s) w := by
 have hn' : f.name ≠ "_" := by simpa using hn
 rw [Op.eqFields]
 simp only [if_pos hn', Sem.run_bind, ha, hb, he, Result.andThen_ok]
 cases r
 · simp
 · simpa using hr
theorem eqA_of {t : TypeId} {fs : Array Field} (hu : P.underlying t = some (.struct fs)) (hp : P.stoodInHeld t = false) (h : (Op.eqFields d xs ys fs.toList).run P w = .ok r w) : (Op.equalIn (d + 1) t (.agg xs) (.agg ys)).run P w = .ok r w := by
 have hf : P.fieldsOf t = fs := by simp [Program.fieldsOf, hu]
 rw [run_equalIn_struct (P := P) w d t xs ys (by rw [hf]; exact hu) hp, hf]
 exact h
end
end Go.Proofs.YtonhcfecfifghaaGreatDoorW.PrintWords
namespace Go.Proofs.YtonhcfecfifghaaGreatDoorW.PrintWords
theorem Reps.one {α : Type} {R : α → List Value → Prop} {ps : List α} {cs : List Value} {p : α} {v : Value} (hp : R p [v]) (h : Reps R 1 ps cs) : Reps R 1 (p :: ps) (v :: cs) := by
 refine ⟨by simp [h.1], fun j q hq => ?_⟩
 cases j with
 | zero =>
  simp only [List.getElem?_cons_zero, Option.some.injEq] at hq
  subst hq
  simpa using hp
 | succ j =>
  simp only [List.getElem?_cons_succ] at hq
  have h1 := h.2 j q hq
  simpa [Nat.mul_one] using h1
theorem Reps.front {α : Type} {R : α → List Value → Prop} {size : Nat} {ps : List α} {cs c all : List Value} {p : α} (hp : R p c) (hc : c.length = size) (h : Reps R size ps cs) (ha : c ++ cs = all) : Reps R size (p :: ps) all := by
 subst ha
 refine ⟨by rw [List.length_append, hc, h.1, List.length_cons, Nat.succ_mul, Nat.add_comm], fun j q hq => ?_⟩
 cases j with
 | zero =>
  simp only [List.getElem?_cons_zero, Option.some.injEq] at hq
  subst hq
  rw [Nat.zero_mul, List.drop_zero, List.take_append_of_le_length (by omega), List.take_of_length_le (by omega)]
  exact hp
 | succ j =>
  simp only [List.getElem?_cons_succ] at hq
  have h1 := h.2 j q hq
  rw [Nat.succ_mul, List.drop_append, List.drop_of_length_le (by rw [hc]; exact Nat.le_add_left _ _), List.nil_append, hc, Nat.add_sub_cancel]
  exact h1
theorem Reps.c2 {α : Type} {R : α → List Value → Prop} {ps : List α} {cs : List Value} {p : α} {va vb : Value} (hp : R p [va, vb]) (h : Reps R 2 ps cs) : Reps R 2 (p :: ps) (va :: vb :: cs) := Reps.front hp rfl h rfl
theorem Reps.c3 {α : Type} {R : α → List Value → Prop} {ps : List α} {cs : List Value} {p : α} {va vb vc : Value} (hp : R p [va, vb, vc]) (h : Reps R 3 ps cs) : Reps R 3 (p :: ps) (va :: vb :: vc :: cs) := Reps.front hp rfl h rfl
theorem Reps.c9 {α : Type} {R : α → List Value → Prop} {ps : List α} {cs : List Value} {p : α} {va vb vc vd ve vf vg vh vi : Value} (hp : R p [va, vb, vc, vd, ve, vf, vg, vh, vi]) (h : Reps R 9 ps cs) : Reps R 9 (p :: ps) (va :: vb :: vc :: vd :: ve :: vf :: vg :: vh :: vi :: cs) := Reps.front hp rfl h rfl
end Go.Proofs.YtonhcfecfifghaaGreatDoorW.PrintWords
namespace Go.Proofs.YtonhcfecfifghaaGreatDoorW.PrintWords
open Go.RowKit
section
variable {P : Program} {ops : Array Oper} {rest : List Oper} {o : Oper} {a : Act} {Q : Exit → Act → World → Prop} {W : World}
theorem gate_guard (hw : Region.wanted o (yielded ops a.tmps) = true) (h : wpList P ops Q ({ o with guard := none } :: rest) a W) : wpList P ops Q (o :: rest) a W := by
 have h1 : Region.wanted { o with guard := none } (yielded ops a.tmps) = true := rfl
 unfold wpList at h ⊢
 rw [if_pos h1] at h
 rw [if_pos hw]
 exact h
end
end Go.Proofs.YtonhcfecfifghaaGreatDoorW.PrintWords
namespace Go.Proofs.YtonhcfecfifghaaGreatDoor.PPx
open Go.RowKit Go.Proofs.YtonhcfecfifghaaGreatDoorW.PrintWords Go.Proofs.YtonhcfecfifghaaGreatDoorW.PrintLast Go.Proofs.YtonhcfecfifghaaGreatDoorW.PrintMore
set_option linter.unusedVariables false
set_option linter.unusedSimpArgs false
def errW : Option Int → Value
 | none => .nilIface
 | some c => .iface 0 (.int .i64 c)
theorem errW_none : errW none = .nilIface := rfl
theorem errW_some (c : Int) : errW (some c) = .iface 0 (.int .i64 c) := rfl
theorem info9 : (Tryz.prog.info? 9).map (fun i => (i.zero, i.size, i.bytes)) = some (some (.string ⟨#[]⟩), 1, 16) := by kernel_rfl
theorem info67 : (Tryz.prog.info? 67).map (fun i => (i.zero, i.size, i.bytes)) = some (some (.agg #[(.int .i64 0), (.string ⟨#[]⟩), (.int .i64 0)]), 3, 32) := by kernel_rfl
structure S67 where
 f0 : Int
 f1 : ByteArray
 f2 : Int
def z67 : S67 := ⟨(0 : Int), (⟨#[]⟩ : ByteArray), (0 : Int)⟩
def k67 : Kd S67 := Kd.iso (Kd.pair (Kd.int .i64) (Kd.pair Kd.string (Kd.int .i64))) (fun x : S67 => (x.f0, x.f1, x.f2))
theorem k67_open {w : World} {x : S67} {cs : List Value} (h : k67.K w x cs) : cs = [.int .i64 x.f0, .string x.f1, .int .i64 x.f2] := by
 obtain ⟨_, _, rfl, rfl, ⟨_, _, rfl, rfl, rfl⟩⟩ := h
 exact rfl
theorem k67_mkM (w : World) (base : Nat) (ok : Nat → Prop) (x : S67)  : k67.M w base ok x [.int .i64 x.f0, .string x.f1, .int .i64 x.f2] := ⟨[.int .i64 x.f0], [.string x.f1, .int .i64 x.f2], rfl, rfl, ⟨[.string x.f1], [.int .i64 x.f2], rfl, rfl, rfl⟩⟩
def rd_T67 (xs : List S67) (i : Int) : S67 := xs.getD i.toNat z67
theorem at_T67 {w : World} {A : Option Addr} {n : Nat} {xs : List S67} (h : Kd.C k67 w A n xs) (i : Int) (h0 : 0 ≤ i) (h1 : i < n) : ∃ ad , A = some ad ∧ w.cell? (ad.add (i.toNat * 3)) = some (.int .i64 (rd_T67 xs i).f0) ∧ w.cell? ⟨(ad.add (i.toNat * 3)).block, (ad.add (i.toNat * 3)).off + 1, none⟩ = some (.string (rd_T67 xs i).f1) ∧ w.cell? ⟨(ad.add (i.toNat * 3)).block, (ad.add (i.toNat * 3)).off + 2, none⟩ = some (.int .i64 (rd_T67 xs i).f2) := by
 obtain ⟨ad, c, e, _, hK, hc0⟩ := Kd.C_get h z67 i h0 h1
 have hc : ∀ j u, c[j]? = some u → w.cell? (ad.add (i.toNat * 3 + j)) = some u := hc0
 obtain rfl := k67_open hK
 exact ⟨ad, e, hc 0 _ rfl, by rw [← add_field _ _ 1 (by omega)]; exact hc 1 _ rfl, by rw [← add_field _ _ 2 (by omega)]; exact hc 2 _ rfl⟩
structure S40 where
 f0 : Int
 f1 : Int
def z40 : S40 := ⟨(0 : Int), (0 : Int)⟩
def k40 : Kd S40 := Kd.iso (Kd.pair (Kd.int .i64) (Kd.int .i64)) (fun x : S40 => (x.f0, x.f1))
theorem k40_open {w : World} {x : S40} {cs : List Value} (h : k40.K w x cs) : cs = [.int .i64 x.f0, .int .i64 x.f1] := by
 obtain ⟨_, _, rfl, rfl, rfl⟩ := h
 exact rfl
theorem k40_mkM (w : World) (base : Nat) (ok : Nat → Prop) (x : S40)  : k40.M w base ok x [.int .i64 x.f0, .int .i64 x.f1] := ⟨[.int .i64 x.f0], [.int .i64 x.f1], rfl, rfl, rfl⟩
def rd_T40 (xs : List S40) (i : Int) : S40 := xs.getD i.toNat z40
theorem at_T40 {w : World} {A : Option Addr} {n : Nat} {xs : List S40} (h : Kd.C k40 w A n xs) (i : Int) (h0 : 0 ≤ i) (h1 : i < n) : ∃ ad , A = some ad ∧ w.cell? (ad.add (i.toNat * 2)) = some (.int .i64 (rd_T40 xs i).f0) ∧ w.cell? ⟨(ad.add (i.toNat * 2)).block, (ad.add (i.toNat * 2)).off + 1, none⟩ = some (.int .i64 (rd_T40 xs i).f1) := by
 obtain ⟨ad, c, e, _, hK, hc0⟩ := Kd.C_get h z40 i h0 h1
 have hc : ∀ j u, c[j]? = some u → w.cell? (ad.add (i.toNat * 2 + j)) = some u := hc0
 obtain rfl := k40_open hK
 exact ⟨ad, e, hc 0 _ rfl, by rw [← add_field _ _ 1 (by omega)]; exact hc 1 _ rfl⟩
structure S34 where
 f0 : Int
 f1 : Int
 f2 : Int
def z34 : S34 := ⟨(0 : Int), (0 : Int), (0 : Int)⟩
def k34 : Kd S34 := Kd.iso (Kd.pair (Kd.int .i64) (Kd.pair (Kd.int .i64) (Kd.int .i64))) (fun x : S34 => (x.f0, x.f1, x.f2))
theorem k34_open {w : World} {x : S34} {cs : List Value} (h : k34.K w x cs) : cs = [.int .i64 x.f0, .int .i64 x.f1, .int .i64 x.f2] := by
 obtain ⟨_, _, rfl, rfl, ⟨_, _, rfl, rfl, rfl⟩⟩ := h
 exact rfl
theorem k34_mk (w : World) (x : S34)  : k34.K w x [.int .i64 x.f0, .int .i64 x.f1, .int .i64 x.f2] := ⟨[.int .i64 x.f0], [.int .i64 x.f1, .int .i64 x.f2], rfl, rfl, ⟨[.int .i64 x.f1], [.int .i64 x.f2], rfl, rfl, rfl⟩⟩
theorem k34_mkM (w : World) (base : Nat) (ok : Nat → Prop) (x : S34)  : k34.M w base ok x [.int .i64 x.f0, .int .i64 x.f1, .int .i64 x.f2] := ⟨[.int .i64 x.f0], [.int .i64 x.f1, .int .i64 x.f2], rfl, rfl, ⟨[.int .i64 x.f1], [.int .i64 x.f2], rfl, rfl, rfl⟩⟩
structure S35 where
 f0 : S34
 f1 : S34
def z35 : S35 := ⟨z34, z34⟩
def k35 : Kd S35 := Kd.iso (Kd.pair k34 k34) (fun x : S35 => (x.f0, x.f1))
theorem k35_open {w : World} {x : S35} {cs : List Value} (h : k35.K w x cs) : cs = [.int .i64 x.f0.f0, .int .i64 x.f0.f1, .int .i64 x.f0.f2, .int .i64 x.f1.f0, .int .i64 x.f1.f1, .int .i64 x.f1.f2] := by
 obtain ⟨_, _, rfl, s0, s3⟩ := h
 obtain rfl := k34_open s0
 obtain rfl := k34_open s3
 exact rfl
theorem k35_mk (w : World) (x : S35)  : k35.K w x [.int .i64 x.f0.f0, .int .i64 x.f0.f1, .int .i64 x.f0.f2, .int .i64 x.f1.f0, .int .i64 x.f1.f1, .int .i64 x.f1.f2] := ⟨[.int .i64 x.f0.f0, .int .i64 x.f0.f1, .int .i64 x.f0.f2], [.int .i64 x.f1.f0, .int .i64 x.f1.f1, .int .i64 x.f1.f2], rfl, (k34_mk w x.f0 ), (k34_mk w x.f1 )⟩
theorem k35_mkM (w : World) (base : Nat) (ok : Nat → Prop) (x : S35)  : k35.M w base ok x [.int .i64 x.f0.f0, .int .i64 x.f0.f1, .int .i64 x.f0.f2, .int .i64 x.f1.f0, .int .i64 x.f1.f1, .int .i64 x.f1.f2] := ⟨[.int .i64 x.f0.f0, .int .i64 x.f0.f1, .int .i64 x.f0.f2], [.int .i64 x.f1.f0, .int .i64 x.f1.f1, .int .i64 x.f1.f2], rfl, (k34_mkM w base ok x.f0 ), (k34_mkM w base ok x.f1 )⟩
structure S37 where
 f0 : Int
 f1 : Int
 f2 : ByteArray
 f3 : ByteArray
 f4 : Int
 f5 : S35
 f6 : (List S37)
 f7 : Int
def z37 : S37 := ⟨(0 : Int), (0 : Int), (⟨#[]⟩ : ByteArray), (⟨#[]⟩ : ByteArray), (0 : Int), z35, ([] : List S37), (0 : Int)⟩
def F37 (d : Kd S37) : Kd S37 := Kd.iso (Kd.pair (Kd.int .i64) (Kd.pair (Kd.int .i64) (Kd.pair Kd.string (Kd.pair Kd.string (Kd.pair (Kd.int .i64) (Kd.pair k35 (Kd.pair (Kd.slice 37 d) (Kd.int .i64)))))))) (fun x : S37 => (x.f0, x.f1, x.f2, x.f3, x.f4, x.f5, x.f6, x.f7))
theorem mono37 : Kd.Mono F37 := Kd.mono_iso _ (Kd.mono_pair (Kd.mono_const _) (Kd.mono_pair (Kd.mono_const _) (Kd.mono_pair (Kd.mono_const _) (Kd.mono_pair (Kd.mono_const _) (Kd.mono_pair (Kd.mono_const _) (Kd.mono_pair (Kd.mono_const _) (Kd.mono_pair (Kd.mono_slice 37 Kd.mono_id) (Kd.mono_const _))))))))
theorem sub37 : Kd.Sub F37 [37] := Kd.sub_iso _ (Kd.sub_pair (Kd.sub_const _ (by decide)) (Kd.sub_pair (Kd.sub_const _ (by decide)) (Kd.sub_pair (Kd.sub_const _ (by decide)) (Kd.sub_pair (Kd.sub_const _ (by decide)) (Kd.sub_pair (Kd.sub_const _ (by decide)) (Kd.sub_pair (Kd.sub_const _ (by decide)) (Kd.sub_pair (Kd.sub_slice 37 (by decide) Kd.sub_id) (Kd.sub_const _ (by decide)))))))))
theorem sz37 : ∀ n, (Kd.upto F37 13 [37] n).sz = 13 := Kd.upto_sz (fun _ => rfl)
def k37 : Kd S37 := Kd.fix F37 13 [37] sz37 (Kd.upto_E sub37)
theorem k37_open {w : World} {x : S37} {cs : List Value} (h : k37.K w x cs) : ∃ A11 c11, cs = [.int .i64 x.f0, .int .i64 x.f1, .string x.f2, .string x.f3, .int .i64 x.f4, .int .i64 x.f5.f0.f0, .int .i64 x.f5.f0.f1, .int .i64 x.f5.f0.f2, .int .i64 x.f5.f1.f0, .int .i64 x.f5.f1.f1, .int .i64 x.f5.f1.f2, .slice A11 x.f6.length c11, .int .i64 x.f7] ∧ x.f6.length ≤ c11 ∧ k37.C w A11 x.f6.length x.f6 := by
 obtain ⟨n, h⟩ := h
 cases n with
 | zero => exact h.elim
 | succ n =>
  obtain ⟨_, _, rfl, rfl, ⟨_, _, rfl, rfl, ⟨_, _, rfl, rfl, ⟨_, _, rfl, rfl, ⟨_, _, rfl, rfl, ⟨_, _, rfl, s5, ⟨_, _, rfl, ⟨A11, c11, rfl, l11, g11⟩, rfl⟩⟩⟩⟩⟩⟩⟩ := h
  obtain rfl := k35_open s5
  exact ⟨A11, c11, rfl, l11, Kd.fix_C g11⟩
theorem k37_mk (w : World) (x : S37) {A11 : Option Addr} {c11 : Nat} (l11 : x.f6.length ≤ c11) (g11 : k37.C w A11 x.f6.length x.f6) : k37.K w x [.int .i64 x.f0, .int .i64 x.f1, .string x.f2, .string x.f3, .int .i64 x.f4, .int .i64 x.f5.f0.f0, .int .i64 x.f5.f0.f1, .int .i64 x.f5.f0.f2, .int .i64 x.f5.f1.f0, .int .i64 x.f5.f1.f1, .int .i64 x.f5.f1.f2, .slice A11 x.f6.length c11, .int .i64 x.f7] := by
 obtain ⟨n11, q11⟩ := Kd.fix_C_back mono37 g11
 have r11 := Kd.upto_C_le mono37 sz37 (show n11 ≤ n11 by omega) q11
 exact ⟨n11 + 1, ⟨[.int .i64 x.f0], [.int .i64 x.f1, .string x.f2, .string x.f3, .int .i64 x.f4, .int .i64 x.f5.f0.f0, .int .i64 x.f5.f0.f1, .int .i64 x.f5.f0.f2, .int .i64 x.f5.f1.f0, .int .i64 x.f5.f1.f1, .int .i64 x.f5.f1.f2, .slice A11 x.f6.length c11, .int .i64 x.f7], rfl, rfl, ⟨[.int .i64 x.f1], [.string x.f2, .string x.f3, .int .i64 x.f4, .int .i64 x.f5.f0.f0, .int .i64 x.f5.f0.f1, .int .i64 x.f5.f0.f2, .int .i64 x.f5.f1.f0, .int .i64 x.f5.f1.f1, .int .i64 x.f5.f1.f2, .slice A11 x.f6.length c11, .int .i64 x.f7], rfl, rfl, ⟨[.string x.f2], [.string x.f3, .int .i64 x.f4, .int .i64 x.f5.f0.f0, .int .i64 x.f5.f0.f1, .int .i64 x.f5.f0.f2, .int .i64 x.f5.f1.f0, .int .i64 x.f5.f1.f1, .int .i64 x.f5.f1.f2, .slice A11 x.f6.length c11, .int .i64 x.f7], rfl, rfl, ⟨[.string x.f3], [.int .i64 x.f4, .int .i64 x.f5.f0.f0, .int .i64 x.f5.f0.f1, .int .i64 x.f5.f0.f2, .int .i64 x.f5.f1.f0, .int .i64 x.f5.f1.f1, .int .i64 x.f5.f1.f2, .slice A11 x.f6.length c11, .int .i64 x.f7], rfl, rfl, ⟨[.int .i64 x.f4], [.int .i64 x.f5.f0.f0, .int .i64 x.f5.f0.f1, .int .i64 x.f5.f0.f2, .int .i64 x.f5.f1.f0, .int .i64 x.f5.f1.f1, .int .i64 x.f5.f1.f2, .slice A11 x.f6.length c11, .int .i64 x.f7], rfl, rfl, ⟨[.int .i64 x.f5.f0.f0, .int .i64 x.f5.f0.f1, .int .i64 x.f5.f0.f2, .int .i64 x.f5.f1.f0, .int .i64 x.f5.f1.f1, .int .i64 x.f5.f1.f2], [.slice A11 x.f6.length c11, .int .i64 x.f7], rfl, (k35_mk w x.f5 ), ⟨[.slice A11 x.f6.length c11], [.int .i64 x.f7], rfl, ⟨A11, c11, rfl, l11, r11⟩, rfl⟩⟩⟩⟩⟩⟩⟩⟩
theorem k37_mkM (w : World) (base : Nat) (ok : Nat → Prop) (x : S37) {v11 : Value} (g11 : k37.R 37 w base ok v11 x.f6) : k37.M w base ok x [.int .i64 x.f0, .int .i64 x.f1, .string x.f2, .string x.f3, .int .i64 x.f4, .int .i64 x.f5.f0.f0, .int .i64 x.f5.f0.f1, .int .i64 x.f5.f0.f2, .int .i64 x.f5.f1.f0, .int .i64 x.f5.f1.f1, .int .i64 x.f5.f1.f2, v11, .int .i64 x.f7] := by
 obtain ⟨n11, q11⟩ := Kd.fix_R_back mono37 g11
 have r11 := Kd.upto_R_le mono37 sz37 (show n11 ≤ n11 by omega) q11
 exact ⟨n11 + 1, ⟨[.int .i64 x.f0], [.int .i64 x.f1, .string x.f2, .string x.f3, .int .i64 x.f4, .int .i64 x.f5.f0.f0, .int .i64 x.f5.f0.f1, .int .i64 x.f5.f0.f2, .int .i64 x.f5.f1.f0, .int .i64 x.f5.f1.f1, .int .i64 x.f5.f1.f2, v11, .int .i64 x.f7], rfl, rfl, ⟨[.int .i64 x.f1], [.string x.f2, .string x.f3, .int .i64 x.f4, .int .i64 x.f5.f0.f0, .int .i64 x.f5.f0.f1, .int .i64 x.f5.f0.f2, .int .i64 x.f5.f1.f0, .int .i64 x.f5.f1.f1, .int .i64 x.f5.f1.f2, v11, .int .i64 x.f7], rfl, rfl, ⟨[.string x.f2], [.string x.f3, .int .i64 x.f4, .int .i64 x.f5.f0.f0, .int .i64 x.f5.f0.f1, .int .i64 x.f5.f0.f2, .int .i64 x.f5.f1.f0, .int .i64 x.f5.f1.f1, .int .i64 x.f5.f1.f2, v11, .int .i64 x.f7], rfl, rfl, ⟨[.string x.f3], [.int .i64 x.f4, .int .i64 x.f5.f0.f0, .int .i64 x.f5.f0.f1, .int .i64 x.f5.f0.f2, .int .i64 x.f5.f1.f0, .int .i64 x.f5.f1.f1, .int .i64 x.f5.f1.f2, v11, .int .i64 x.f7], rfl, rfl, ⟨[.int .i64 x.f4], [.int .i64 x.f5.f0.f0, .int .i64 x.f5.f0.f1, .int .i64 x.f5.f0.f2, .int .i64 x.f5.f1.f0, .int .i64 x.f5.f1.f1, .int .i64 x.f5.f1.f2, v11, .int .i64 x.f7], rfl, rfl, ⟨[.int .i64 x.f5.f0.f0, .int .i64 x.f5.f0.f1, .int .i64 x.f5.f0.f2, .int .i64 x.f5.f1.f0, .int .i64 x.f5.f1.f1, .int .i64 x.f5.f1.f2], [v11, .int .i64 x.f7], rfl, (k35_mkM w base ok x.f5 ), ⟨[v11], [.int .i64 x.f7], rfl, ⟨v11, rfl, r11⟩, rfl⟩⟩⟩⟩⟩⟩⟩⟩
def rd_T37 (xs : List S37) (i : Int) : S37 := xs.getD i.toNat z37
theorem at_T37 {w : World} {A : Option Addr} {n : Nat} {xs : List S37} (h : Kd.C k37 w A n xs) (i : Int) (h0 : 0 ≤ i) (h1 : i < n) : ∃ ad A11 c11, A = some ad ∧ w.cell? (ad.add (i.toNat * 13)) = some (.int .i64 (rd_T37 xs i).f0) ∧ w.cell? ⟨(ad.add (i.toNat * 13)).block, (ad.add (i.toNat * 13)).off + 1, none⟩ = some (.int .i64 (rd_T37 xs i).f1) ∧ w.cell? ⟨(ad.add (i.toNat * 13)).block, (ad.add (i.toNat * 13)).off + 2, none⟩ = some (.string (rd_T37 xs i).f2) ∧ w.cell? ⟨(ad.add (i.toNat * 13)).block, (ad.add (i.toNat * 13)).off + 3, none⟩ = some (.string (rd_T37 xs i).f3) ∧ w.cell? ⟨(ad.add (i.toNat * 13)).block, (ad.add (i.toNat * 13)).off + 4, none⟩ = some (.int .i64 (rd_T37 xs i).f4) ∧ w.cell? ⟨(ad.add (i.toNat * 13)).block, (ad.add (i.toNat * 13)).off + 5, none⟩ = some (.int .i64 (rd_T37 xs i).f5.f0.f0) ∧ w.cell? ⟨(ad.add (i.toNat * 13)).block, (ad.add (i.toNat * 13)).off + 6, none⟩ = some (.int .i64 (rd_T37 xs i).f5.f0.f1) ∧ w.cell? ⟨(ad.add (i.toNat * 13)).block, (ad.add (i.toNat * 13)).off + 7, none⟩ = some (.int .i64 (rd_T37 xs i).f5.f0.f2) ∧ w.cell? ⟨(ad.add (i.toNat * 13)).block, (ad.add (i.toNat * 13)).off + 8, none⟩ = some (.int .i64 (rd_T37 xs i).f5.f1.f0) ∧ w.cell? ⟨(ad.add (i.toNat * 13)).block, (ad.add (i.toNat * 13)).off + 9, none⟩ = some (.int .i64 (rd_T37 xs i).f5.f1.f1) ∧ w.cell? ⟨(ad.add (i.toNat * 13)).block, (ad.add (i.toNat * 13)).off + 10, none⟩ = some (.int .i64 (rd_T37 xs i).f5.f1.f2) ∧ w.cell? ⟨(ad.add (i.toNat * 13)).block, (ad.add (i.toNat * 13)).off + 11, none⟩ = some (.slice A11 (rd_T37 xs i).f6.length c11) ∧ w.cell? ⟨(ad.add (i.toNat * 13)).block, (ad.add (i.toNat * 13)).off + 12, none⟩ = some (.int .i64 (rd_T37 xs i).f7) ∧ (rd_T37 xs i).f6.length ≤ c11 ∧ k37.C w A11 (rd_T37 xs i).f6.length (rd_T37 xs i).f6 := by
 obtain ⟨ad, c, e, _, hK, hc0⟩ := Kd.C_get h z37 i h0 h1
 have hc : ∀ j u, c[j]? = some u → w.cell? (ad.add (i.toNat * 13 + j)) = some u := hc0
 obtain ⟨A11, c11, rfl, l11, g11⟩ := k37_open hK
 exact ⟨ad, A11, c11, e, hc 0 _ rfl, by rw [← add_field _ _ 1 (by omega)]; exact hc 1 _ rfl, by rw [← add_field _ _ 2 (by omega)]; exact hc 2 _ rfl, by rw [← add_field _ _ 3 (by omega)]; exact hc 3 _ rfl, by rw [← add_field _ _ 4 (by omega)]; exact hc 4 _ rfl, by rw [← add_field _ _ 5 (by omega)]; exact hc 5 _ rfl, by rw [← add_field _ _ 6 (by omega)]; exact hc 6 _ rfl, by rw [← add_field _ _ 7 (by omega)]; exact hc 7 _ rfl, by rw [← add_field _ _ 8 (by omega)]; exact hc 8 _ rfl, by rw [← add_field _ _ 9 (by omega)]; exact hc 9 _ rfl, by rw [← add_field _ _ 10 (by omega)]; exact hc 10 _ rfl, by rw [← add_field _ _ 11 (by omega)]; exact hc 11 _ rfl, by rw [← add_field _ _ 12 (by omega)]; exact hc 12 _ rfl, l11, g11⟩
def IsS65 (w0 W : World) (g : Nat) (f0 : ByteArray) (f1 : Int) : Prop := W.heap[g]? = some (.cells #[.string f0, .int .i64 f1] 65 (0, 0)) ∧ w0.heap.size ≤ g
theorem IsS65.grown {w0 W : World} {g : Nat} {f0 : ByteArray} {f1 : Int} {W1 : World} {row : Option Nat} (h : IsS65 w0 W g f0 f1) (hw : W.grownBy W1 row) (hne : some g ≠ row) : IsS65 w0 W1 g f0 f1 := by
 obtain ⟨hb, hg⟩ := h
 exact ⟨blk_grown hb hw hne, hg⟩
theorem IsS65.below {w0 W : World} {g : Nat} {f0 : ByteArray} {f1 : Int} {W1 : World} (h : IsS65 w0 W g f0 f1) (hw : Below W.heap.size W W1) : IsS65 w0 W1 g f0 f1 := h.grown (grown_of_below hw none) (by simp)
theorem IsS65.alloc {w0 W : World} {g : Nat} {f0 : ByteArray} {f1 : Int} (h : IsS65 w0 W g f0 f1) (o : Obj) : IsS65 w0 (W.alloc o) g f0 f1 := h.below (below_alloc (Below.refl _ _) o)
theorem IsS65.drewN {w0 W : World} {g : Nat} {f0 : ByteArray} {f1 : Int} (h : IsS65 w0 W g f0 f1) (m : Nat) : IsS65 w0 (W.drewN m) g f0 f1 := h
theorem IsS65.drew {w0 W : World} {g : Nat} {f0 : ByteArray} {f1 : Int} (h : IsS65 w0 W g f0 f1) : IsS65 w0 W.drew g f0 f1 := h
theorem IsS65.at_ {w0 W : World} {g : Nat} {f0 : ByteArray} {f1 : Int} {w' : World} {m : Nat} (hq : W.drewN m = w') (h : IsS65 w0 W g f0 f1) : IsS65 w0 w' g f0 f1 := by subst hq; exact IsS65.drewN h m
theorem IsS65.apart {w0 W : World} {g : Nat} {f0 : ByteArray} {f1 : Int} {α : Type} {d : Kd α} {e : Nat} {base : Nat} {ok : Nat → Prop} {v : Value} {xs : List α} (h : IsS65 w0 W g f0 f1) (ho : d.R e W base ok v xs) (ht : ∀ q, q ∈ e :: d.E → q ≠ 65) : d.R e W base (fun k => ok k ∧ k ≠ g) v xs := by
 obtain ⟨hb, hg⟩ := h
 exact Kd.R_types ho hb ht
theorem IsS65.lt {w0 W : World} {g : Nat} {f0 : ByteArray} {f1 : Int} (h : IsS65 w0 W g f0 f1) : g < W.heap.size := by
 obtain ⟨hb, hg⟩ := h
 exact blk_lt hb
theorem IsS65.ge {w0 W : World} {g : Nat} {f0 : ByteArray} {f1 : Int} (h : IsS65 w0 W g f0 f1) : w0.heap.size ≤ g := by
 obtain ⟨hb, hg⟩ := h
 exact hg
theorem IsS65.far {w0 W : World} {g : Nat} {f0 : ByteArray} {f1 : Int} {p : Addr} (h : IsS65 w0 W g f0 f1) (hne : g ≠ p.block) (u : Value) : IsS65 w0 (W.setCell p u) g f0 f1 := by
 obtain ⟨hb, hg⟩ := h
 exact ⟨blk_far hb hne u, hg⟩
theorem cellS65_0 {W : World} {g : Nat} {f0 : ByteArray} {f1 : Int} (h : W.heap[g]? = some (.cells #[.string f0, .int .i64 f1] 65 (0, 0))) : W.cell? ⟨g, 0, none⟩ = some (.string f0) := (blk_cell h 0).trans rfl
theorem IsS65.set_0 {w0 W : World} {g : Nat} {f0 : ByteArray} {f1 : Int} (h : IsS65 w0 W g f0 f1) (x : ByteArray) : IsS65 w0 (W.setCell ⟨g, 0, none⟩ (.string x)) g x f1 := by
 obtain ⟨hb, hg⟩ := h
 exact ⟨by simpa using blk_set hb 0 (.string x), hg⟩
theorem cellS65_1 {W : World} {g : Nat} {f0 : ByteArray} {f1 : Int} (h : W.heap[g]? = some (.cells #[.string f0, .int .i64 f1] 65 (0, 0))) : W.cell? ⟨g, 1, none⟩ = some (.int .i64 f1) := (blk_cell h 1).trans rfl
theorem IsS65.set_1 {w0 W : World} {g : Nat} {f0 : ByteArray} {f1 : Int} (h : IsS65 w0 W g f0 f1) (x : Int) : IsS65 w0 (W.setCell ⟨g, 1, none⟩ (.int .i64 x)) g f0 x := by
 obtain ⟨hb, hg⟩ := h
 exact ⟨by simpa using blk_set hb 1 (.int .i64 x), hg⟩
theorem IsS65.new (w0 W : World) (f0 : ByteArray) (f1 : Int) (hB : Below w0.heap.size w0 W) : IsS65 w0 (W.alloc (.cells #[.string f0, .int .i64 f1] 65)) W.heap.size f0 f1 := ⟨by simpa using heap_alloc_new W _, hB.size⟩
def cls (c : Nat) : Int :=
 if (65 ≤ c ∧ c ≤ 90) ∨ (97 ≤ c ∧ c ≤ 122) then 1 else if 48 ≤ c ∧ c ≤ 57 then 2 else if c = 95 then 3
 else if c = 40 ∨ c = 41 ∨ c = 123 ∨ c = 125 ∨ c = 59 ∨ c = 44 then 4
 else if c = 32 ∨ c = 9 ∨ c = 10 ∨ c = 13 then 5 else if c = 35 then 6 else if c = 45 then 7 else 0
def tbl : Array Value := ((List.range 256).map fun c => Value.int .u8 (cls c)).toArray
def zerosTbl : Array Value := Array.replicate 256 (.int .u8 0)
theorem zeroTbl (w : World) : (zeroValue 110).run Tryz.prog w = .ok (.agg zerosTbl) w := by kernel_rfl
theorem sizeTbl : (Tryz.prog.info? 110).map (·.size) = some tbl.size := by kernel_rfl
theorem wpList_build_to {P : Program} {w : World} {ops : Array Oper} {rest : List Oper} {o : Oper} {a : Act} {Q : Exit → Act → World → Prop}
 (hg : o.guard = none) (t : TypeId) (parts : Array (Nat × Operand)) (ho : o.op = .build t parts) (cells : Array Value)
 (hc : P.built t (parts.map fun (i, x) => (i, a.eval x)).toList = some cells) (h : wpList P ops Q rest (a.put o.dst (.agg cells)) w) : wpList P ops Q (o :: rest) a w :=
 wpList_plain hg fun K hK => by
  unfold Oper.wp execOp
  simp only [ho, Sem.run_bind, run_build w t _ cells hc, Result.andThen_ok]
  exact hK _ _ h
theorem what_any (w : World) : Calls Tryz.prog 74 #[] w fun e w' => e = .returned (.agg tbl) ∧ Below w.heap.size w w' := by
 have hz := zeroTbl
 go_enter Tryz.func74, Tryz.ntmps74
 go_wp2_with (first | (refine wpList_build_to rfl 110 _ rfl tbl (by kernel_rfl) ?_) | (refine wpList_store_row rfl 110 _ _ rfl w.heap.size tbl rfl (by kernel_rfl) 110 zerosTbl (heap_alloc_new w _) sizeTbl rfl (by kernel_rfl) ?_))
 refine bodyPost_ret (v := .agg tbl) (results_cell_row Tryz.results74 _ _ w.heap.size 110 tbl (0, 0) (.array 256 5) rfl ?_ Tryz.underlying110 rfl sizeTbl) rfl ⟨rfl, ?_⟩
 · exact setRow_heap _ _ _ _ _ _ (heap_alloc_new w _)
 · exact ((Below.refl _ _).alloc (Nat.le_refl _) _).trans ⟨rfl, rfl, rfl, by simp, fun k hk => setRow_other _ _ _ _ (by omega)⟩
theorem tbl_at (c : Nat) (h : c < 256) : tbl[c]? = some (.int .u8 (cls c)) := by
 simp [tbl, h]
theorem index_tbl (w : World) (c : Int) (h0 : 0 ≤ c) (h1 : c < 256) : (Instr.index 110 (.agg tbl) (.int .u8 c)).run Tryz.prog w = .ok (.int .u8 (cls c.toNat)) w := by
 have hc : c.toNat < 256 := by omega
 have ht := tbl_at c.toNat hc
 have hsz : (sizeOf 5).run Tryz.prog w = .ok 1 w := by kernel_rfl
 have hag : (isAgg 5).run Tryz.prog w = .ok false w := by kernel_rfl
 unfold Instr.index
 simp only [asIntOf, Sem.run_bind, Sem.run_pure, Result.andThen_ok, run_underlying Tryz.underlying110]
 have hlt : 0 ≤ c ∧ c < ((256 : Nat) : Int) := ⟨h0, by omega⟩
 rw [if_pos hlt]
 simp only [Sem.run_bind, hsz, Result.andThen_ok, part, hag]
 simp [ht]
structure St (w0 w W : World) (g : Nat) (s : ByteArray) (i : Int) : Prop where
 is : IsS65 w0 W g s i
 bel : Below w0.heap.size w0 W
 kept : KeepBut w W g none
theorem St.drewN {w0 w W : World} {g : Nat} {s : ByteArray} {i : Int} (h : St w0 w W g s i) (n : Nat) : St w0 w (W.drewN n) g s i := ⟨h.is, pw_below_drewN h.bel n, keep_drewN h.kept n⟩
theorem St.drew {w0 w W : World} {g : Nat} {s : ByteArray} {i : Int} (h : St w0 w W g s i) : St w0 w W.drew g s i := ⟨h.is, below_drew1 h.bel, keep_drew h.kept⟩
theorem St.below {w0 w W W1 : World} {g : Nat} {s : ByteArray} {i : Int} (h : St w0 w W g s i) (hb : Below W.heap.size W W1) : St w0 w W1 g s i :=
 ⟨h.is.below hb, below_step h.bel hb, h.kept.trans (KeepBut.of_below hb g none) (.inl rfl)⟩
theorem St.cell0 {w0 w W : World} {g : Nat} {s : ByteArray} {i : Int} (h : St w0 w W g s i) : W.cell? ⟨g, 0, none⟩ = some (.string s) := cellS65_0 h.is.1
theorem St.cell1 {w0 w W : World} {g : Nat} {s : ByteArray} {i : Int} (h : St w0 w W g s i) : W.cell? ⟨g, 1, none⟩ = some (.int .i64 i) := cellS65_1 h.is.1
theorem St.set {w0 w W : World} {g : Nat} {s : ByteArray} {i : Int} (h : St w0 w W g s i) (j : Int) : St w0 w (W.setCell ⟨g, 1, none⟩ (.int .i64 j)) g s j :=
 ⟨h.is.set_1 j, below_set h.bel h.is.2, h.kept.set_ _ _⟩
theorem St.start {w0 w : World} {g : Nat} {s : ByteArray} {i : Int} (hI : IsS65 w0 w g s i) (hB : Below w0.heap.size w0 w) : St w0 w w g s i := ⟨hI, hB, KeepBut.refl _ _ _⟩
theorem St.trans {w0 w W W1 : World} {g : Nat} {s s1 : ByteArray} {i i1 : Int} (h : St w0 w W g s i) (k : St w0 W W1 g s1 i1) : St w0 w W1 g s1 i1 := ⟨k.is, k.bel, h.kept.trans k.kept (.inl rfl)⟩
theorem St.held {w0 w W : World} {g : Nat} {s : ByteArray} {i : Int} (h : St w0 w W g s i) :
 W.cell? ⟨g, 0, none⟩ = some (.string s) ∧ W.cell? ⟨g, 1, none⟩ = some (.int .i64 i) ∧ Aside0 (St w0 w W g s i) := ⟨h.cell0, h.cell1, ⟨h⟩⟩
def lexer_text_now.f (s : ByteArray) (i : Int) : Option (Int × ByteArray × Int) :=
 if i ≥ (s.size : Int) then some (0, s, i) else if 0 ≤ i then some (cls (bt s i).toNat, s, i) else none
theorem lexer_text_now.calls (g : Nat) (s0_0 : ByteArray) (s0_1 : Int) (r1 : Int) (r2 : ByteArray) (r3 : Int) (w0 w : World) (hI : IsS65 w0 w g s0_0 s0_1) (hB : Below w0.heap.size w0 w) (h : lexer_text_now.f s0_0 s0_1 = some (r1, r2, r3)) :
 Calls Tryz.prog 44 #[.pointer (some ⟨g, 0, none⟩)] w fun e w' => e = .returned (.int .u8 r1) ∧ IsS65 w0 w' g r2 r3 ∧ Below w0.heap.size w0 w' ∧ KeepBut w w' g none := by
 have HI0 := Aside0.mk hI
 have HK := Aside0.mk (KeepBut.refl w g none)
 have HB := Aside0.mk hB
 obtain ⟨HGz, hgz⟩ := hI
 have c0 := cellS65_0 HGz
 have c1 := cellS65_1 HGz
 have f0 := blk_frozen HGz 0
 have f1 := blk_frozen HGz 1
 clear HGz hgz hB
 by_cases hc : s0_1 ≥ (s0_0.size : Int)
 · simp only [lexer_text_now.f, if_pos hc, Option.some.injEq, Prod.mk.injEq] at h
   obtain ⟨rfl, rfl, rfl⟩ := h
   have hcb : decide ((s0_0.size : Int) ≤ s0_1) = true := decide_eq_true hc
   clear hc
   go_enter Tryz.func44, Tryz.ntmps44
   go_wp2
   repeat (go_quiet (fail); try go_wp2)
   go_ret
   exact ⟨rfl, by repeat (first | exact HI0.out | apply IsS65.drewN), by repeat (first | exact HB.out | apply pw_below_drewN), by repeat (first | exact HK.out | apply keep_drewN)⟩
 · rw [lexer_text_now.f, if_neg hc] at h
   by_cases h0 : 0 ≤ s0_1
   · rw [if_pos h0] at h
     simp only [Option.some.injEq, Prod.mk.injEq] at h
     obtain ⟨rfl, rfl, rfl⟩ := h
     have hcb : decide ((s0_0.size : Int) ≤ s0_1) = false := decide_eq_false hc
     have hlt : s0_1 < (s0_0.size : Int) := by omega
     clear hc
     go_enter Tryz.func44, Tryz.ntmps44
     go_wp2
     go_quiet (fail)
     go_wp2
     have hb := bt_range s0_0 s0_1
     have hx := bt_at s0_0 s0_1
     have hidx : ∀ w, (Instr.index 110 (.agg tbl) (.int .u8 (bt s0_0 s0_1))).run Tryz.prog w = .ok (.int .u8 (cls (bt s0_0 s0_1).toNat)) w := fun w => index_tbl w _ hb.1 (by omega)
     have HS := Aside0.mk ((St.start HI0.out HB.out).drewN nq)
     go_region_held3 (fun W' => W'.cell? ⟨g, 0, none⟩ = some (.string s0_0) ∧ W'.cell? ⟨g, 1, none⟩ = some (.int .i64 s0_1) ∧ Aside0 (St w0 w W' g s0_0 s0_1)) (first | exact HS.out.drew.held | exact (HS.out.drew.below hbel).held) (first | (go_at_call 74; refine (what_any _).mono ?_; rintro e w' ⟨rfl, hbel⟩))
     all_goals
      have hS := HS.out.drew.below hbel
      go_wp2
      go_ret
      exact ⟨rfl, hS.is, hS.bel, hS.kept⟩
   · rw [if_neg h0] at h
     exact absurd h (by simp)
def lexer_text_isBlank.f (s0_0 : ByteArray) (s0_1 : Int) : Option (Bool × ByteArray × Int) := (lexer_text_now.f s0_0 s0_1).bind fun bt101 => (some ((bt101.1 == 5), bt101.2.1, bt101.2.2))
theorem lexer_text_isBlank.calls (g : Nat) (s0_0 : ByteArray) (s0_1 : Int) (r1 : Bool) (r2 : ByteArray) (r3 : Int) (w0 w : World) (hI : IsS65 w0 w g s0_0 s0_1) (hB : Below w0.heap.size w0 w) (h : lexer_text_isBlank.f s0_0 s0_1 = some (r1, r2, r3)) :
 Calls Tryz.prog 43 #[.pointer (some ⟨g, 0, none⟩)] w fun e w' => e = .returned (.bool r1) ∧ IsS65 w0 w' g r2 r3 ∧ Below w0.heap.size w0 w' ∧ KeepBut w w' g none := by
 have HI0 := Aside0.mk hI
 have HK := Aside0.mk (KeepBut.refl w g none)
 have HL := Aside0.mk hB.size
 clear hI
 have HW0 := Aside0.mk hB.size
 have HB := Aside0.mk hB
 clear hB
 have H : ((lexer_text_now.f s0_0 s0_1).bind fun bt101 => (some ((bt101.1 == 5), bt101.2.1, bt101.2.2))) = some (r1, r2, r3) := h
 clear h
 replace H := Option.bind_eq_some_iff.mp H
 obtain ⟨⟨t101, t102, t103⟩, A20, H⟩ := H
 replace H : (some ((t101 == 5), t102, t103)) = some (r1, r2, r3) := H
 have A2 := Aside0.mk A20
 clear A20
 simp only [Option.some.injEq, Prod.mk.injEq] at H
 obtain ⟨rfl, rfl, rfl⟩ := H
 go_enter Tryz.func43, Tryz.ntmps43
 go_wp2_with (first | ((with_reducible refine gate_callee (f := 44) rfl ?_); refine goesL_ (some 4) rfl rfl Tryz.func44 (by kernel_rfl) rfl #[.pointer (some ⟨g, 0, none⟩)] rfl (by (try simp only [List.map_toArray, List.map_cons, List.map_nil]); first | done | rfl | (simp only [List.length_drop, List.length_take]; rfl)) ?_; (with_reducible refine (lexer_text_now.calls g s0_0 s0_1 t101 t102 t103 w0 _ ?side1 ?side2 A2.out).mono ?_); (case side1 => repeat (first | (with_reducible first | exact HI0.out | apply IsS65.alloc | apply IsS65.drewN | apply IsS65.drew | apply IsS65.set_0 | apply IsS65.set_1) | exact HI0.out)); (case side2 => repeat (first | (with_reducible first | exact HB.out | apply below_alloc | apply pw_below_drewN | apply below_drew1 | refine below_set ?_ (IsS65.ge HI0.out)) | exact HB.out)); rintro e w3 ⟨rfl, hi, hb, hk⟩; refine ⟨_, rfl, ?_⟩; have n0_ := Aside0.mk (KeepBut.trans (by repeat (first | (with_reducible first | exact HK.out | apply KeepBut.set_ | apply keep_drewN | apply keep_drew | apply keep_alloc) | exact HK.out)) hk (.inl rfl)); have n1_ := Aside0.mk (hb); have n2_ := Aside0.mk (hi); clear HK; clear HB; clear HI0; have HK := n0_; have HB := n1_; have HI0 := n2_; clear n0_ n1_ n2_; (try clear hb); (try clear hb2); (try clear hk); (try clear hi)))
 go_ret
 exact ⟨by first | rfl | (simp [errW_none, errW_some] <;> rfl) | (simp [*, errW_none, errW_some] <;> rfl), by repeat (first | (with_reducible first | exact HI0.out | apply IsS65.alloc | apply IsS65.drewN | apply IsS65.drew | apply IsS65.set_0 | apply IsS65.set_1) | exact HI0.out), by repeat (first | (with_reducible first | exact HB.out | apply below_alloc | apply pw_below_drewN | apply below_drew1 | refine below_set ?_ (IsS65.ge HI0.out)) | exact HB.out), by repeat (first | (with_reducible first | exact HK.out | apply KeepBut.set_ | apply keep_drewN | apply keep_drew | apply keep_alloc) | exact HK.out)⟩
def lexer_text_inLine.f (s0_0 : ByteArray) (s0_1 : Int) : Option (Bool × ByteArray × Int) := if 0 ≤ s0_1 then (if s0_1 < (s0_0.size : Int) then (some (((bt s0_0 s0_1) != 10), s0_0, s0_1)) else (none)) else (none)
theorem lexer_text_inLine.calls (g : Nat) (s0_0 : ByteArray) (s0_1 : Int) (r1 : Bool) (r2 : ByteArray) (r3 : Int) (w0 w : World) (hI : IsS65 w0 w g s0_0 s0_1) (hB : Below w0.heap.size w0 w) (h : lexer_text_inLine.f s0_0 s0_1 = some (r1, r2, r3)) :
 Calls Tryz.prog 45 #[.pointer (some ⟨g, 0, none⟩)] w fun e w' => e = .returned (.bool r1) ∧ IsS65 w0 w' g r2 r3 ∧ Below w0.heap.size w0 w' ∧ KeepBut w w' g none := by
 have HI0 := Aside0.mk hI
 have HK := Aside0.mk (KeepBut.refl w g none)
 have HL := Aside0.mk hB.size
 clear hI
 have HW0 := Aside0.mk hB.size
 have HB := Aside0.mk hB
 clear hB
 have H : (if 0 ≤ s0_1 then (if s0_1 < (s0_0.size : Int) then (some (((bt s0_0 s0_1) != 10), s0_0, s0_1)) else (none)) else (none)) = some (r1, r2, r3) := h
 clear h
 by_cases c2 : 0 ≤ s0_1
 · rw [if_pos c2] at H
   have c2b0 : decide (0 ≤ s0_1) = true := decide_eq_true c2
   clear c2
   by_cases c3 : s0_1 < (s0_0.size : Int)
   · rw [if_pos c3] at H
     have c3b0 : decide (s0_1 < (s0_0.size : Int)) = true := decide_eq_true c3
     clear c3
     simp only [Option.some.injEq, Prod.mk.injEq] at H
     obtain ⟨rfl, rfl, rfl⟩ := H
     obtain ⟨HGz5, hgz5⟩ := HI0.out
     have hcz5_0 := cellS65_0 HGz5
     have hcz5_1 := cellS65_1 HGz5
     have hfz5_0 := blk_frozen HGz5 0
     have hfz5_1 := blk_frozen HGz5 1
     clear HGz5 hgz5
     have p4 : 0 ≤ (s0_1 : Int) := of_decide_eq_true (by first | (with_reducible assumption) | assumption)
     have q4 : s0_1 < (s0_0.size : Int) := of_decide_eq_true (by first | (with_reducible assumption) | assumption)
     have hx4 := bt_at s0_0 s0_1
     replace p4 := eq_true p4
     replace q4 := eq_true q4
     go_enter Tryz.func45, Tryz.ntmps45
     go_wp2
     repeat (go_quiet (fail); try go_wp2)
     go_ret
     exact ⟨by first | rfl | (simp [errW_none, errW_some] <;> rfl) | (simp [*, errW_none, errW_some] <;> rfl), by repeat (first | (with_reducible first | exact HI0.out | apply IsS65.alloc | apply IsS65.drewN | apply IsS65.drew | apply IsS65.set_0 | apply IsS65.set_1) | exact HI0.out), by repeat (first | (with_reducible first | exact HB.out | apply below_alloc | apply pw_below_drewN | apply below_drew1 | refine below_set ?_ (IsS65.ge HI0.out)) | exact HB.out), by repeat (first | (with_reducible first | exact HK.out | apply KeepBut.set_ | apply keep_drewN | apply keep_drew | apply keep_alloc) | exact HK.out)⟩
   · rw [if_neg c3] at H
     exact absurd H (by simp)
 · rw [if_neg c2] at H
   exact absurd H (by simp)
theorem while_any (F : FuncId) (hcf : ∀ (args : Array Value) (w : World), Sem.run Tryz.prog (callFunc F args) w = .ok (.enter F args) w) (p : Int → Bool) (g : Nat) (s : ByteArray) (hs : s.size ≤ 140737488351232)
 (hF : Aside0 (∀ (w0 W : World) (i : Int), 0 ≤ i → i < (s.size : Int) → IsS65 w0 W g s i → Below w0.heap.size w0 W → Calls Tryz.prog F #[.pointer (some ⟨g, 0, none⟩)] W fun e w' => e = .returned (.bool (p i)) ∧ St w0 W w' g s i))
 (i0 : Int) (h0 : 0 ≤ i0) (h1 : i0 ≤ (s.size : Int)) (w0 w : World) (hI : IsS65 w0 w g s i0) (hB : Below w0.heap.size w0 w) :
 Calls Tryz.prog 42 #[.pointer (some ⟨g, 0, none⟩), .func (.func F) #[.pointer (some ⟨g, 0, none⟩)] #[]] w fun e w' => e = .returned (.tuple #[]) ∧
  ∃ j : Int, i0 ≤ j ∧ j ≤ (s.size : Int) ∧ (∀ x, i0 ≤ x → x < j → p x = true) ∧ (j < (s.size : Int) → p j = false) ∧ St w0 w w' g s j := by
 have HS := Aside0.mk (St.start hI hB)
 clear hI hB
 go_enter Tryz.func42, Tryz.ntmps42
 go_wp2
 go_loopg [] ((s.size : Int) - i0).toNat (fun kq wr => ∃ i : Int, Aside0 (((s.size : Int) - i).toNat = kq ∧ i0 ≤ i ∧ i ≤ (s.size : Int) ∧ (∀ x, i0 ≤ x → x < i → p x = true) ∧ St w0 w wr g s i))
 case atStart => exact ⟨i0, ⟨rfl, by omega, by omega, fun x _ _ => by omega, HS.out⟩⟩
 case round =>
  obtain ⟨i, ⟨hk, hi0, hi1, hp, hS⟩⟩ := hrel
  clear HS
  by_cases hlt : i < (s.size : Int)
  · have hd : decide (i < (s.size : Int)) = true := decide_eq_true hlt
    have HS := Aside0.mk hS
    have c0 := hS.cell0
    have c1 := hS.cell1
    have HP := Aside0.mk hp
    have Hk := Aside0.mk hk
    clear hp hk hS
    cases hb : p i with
    | true =>
     have HFi := Aside0.mk (fun W => hF.out w0 W i (by omega) hlt)
     rw [hb] at HFi
     have Hb := Aside0.mk hb
     clear hb
     go_wp2_with fail
     go_region_held3 (fun W' => W'.cell? ⟨g, 0, none⟩ = some (.string s) ∧ W'.cell? ⟨g, 1, none⟩ = some (.int .i64 i) ∧ Aside0 (St w0 w W' g s i)) (first | exact HS.out.drew.held | exact (HS.out.drew.trans hst).held) (first | ((with_reducible refine (HFi.out _ HS.out.drew.is HS.out.drew.bel).mono ?_); rintro e w' ⟨rfl, hst⟩))
     have hS := HS.out.drew.trans hst
     have c1 := hS.cell1
     have f1 := blk_frozen hS.is.1 1
     have HS2 := Aside0.mk hS
     clear hS hst
     go_wp2
     go_roundg ((s.size : Int) - (i + 1)).toNat
     case measure => have := Hk.out; omega
     case rel =>
      refine ⟨i + 1, ⟨rfl, by omega, by omega, fun x hx hx' => ?_, HS2.out.set _⟩⟩
      by_cases hxi : x = i
      · rw [hxi]; exact Hb.out
      · exact HP.out x hx (by omega)
    | false =>
     have HFi := Aside0.mk (fun W => hF.out w0 W i (by omega) hlt)
     rw [hb] at HFi
     have Hb := Aside0.mk hb
     clear hb
     go_wp2_with fail
     go_region_held3 (fun W' => W'.cell? ⟨g, 0, none⟩ = some (.string s) ∧ W'.cell? ⟨g, 1, none⟩ = some (.int .i64 i) ∧ Aside0 (St w0 w W' g s i)) (first | exact HS.out.drew.held | exact (HS.out.drew.trans hst).held) (first | ((with_reducible refine (HFi.out _ HS.out.drew.is HS.out.drew.bel).mono ?_); rintro e w' ⟨rfl, hst⟩))
     have hS := HS.out.drew.trans hst
     have HS2 := Aside0.mk hS
     clear hS hst
     go_wp2
     go_end0
     exact ⟨rfl, i, hi0, hi1, HP.out, fun _ => Hb.out, HS2.out⟩
  · have hd : decide (i < (s.size : Int)) = false := decide_eq_false hlt
    have HS := Aside0.mk hS
    have c0 := hS.cell0
    have c1 := hS.cell1
    have HP := Aside0.mk hp
    have hni : i = (s.size : Int) := by omega
    have Hn := Aside0.mk hni
    clear hp hk hS hni
    go_wp2_with fail
    go_quiet (fail)
    go_wp2
    go_end0
    exact ⟨rfl, i, hi0, hi1, HP.out, fun h => by omega, HS.out.drewN _⟩
def scan (p : Int → Bool) (n : Int) : Nat → Int → Int
 | 0, i => i
 | k + 1, i => if i < n then (if p i = true then scan p n k (i + 1) else i) else i
theorem scan_eq (p : Int → Bool) (n : Int) : ∀ (k : Nat) (i j : Int), (n - i).toNat ≤ k → i ≤ j → j ≤ n → (∀ x, i ≤ x → x < j → p x = true) → (j < n → p j = false) → scan p n k i = j := by
 intro k
 induction k with
 | zero => intro i j hk h1 h2 hp he; simp only [scan]; omega
 | succ k ih =>
  intro i j hk h1 h2 hp he
  simp only [scan]
  by_cases hlt : i < n
  · rw [if_pos hlt]
    by_cases hij : i = j
    · subst hij; rw [he hlt]; simp
    · rw [hp i (by omega) (by omega), if_pos rfl]
      exact ih (i + 1) j (by omega) (by omega) h2 (fun x hx => hp x (by omega)) he
  · rw [if_neg hlt]; omega
def scanTo (p : Int → Bool) (n i : Int) : Int := scan p n (n - i).toNat i
theorem while_scan (F : FuncId) (hcf : ∀ (args : Array Value) (w : World), Sem.run Tryz.prog (callFunc F args) w = .ok (.enter F args) w) (p : Int → Bool) (g : Nat) (s : ByteArray) (hs : s.size ≤ 140737488351232)
 (hF : ∀ (w0 W : World) (i : Int), 0 ≤ i → i < (s.size : Int) → IsS65 w0 W g s i → Below w0.heap.size w0 W → Calls Tryz.prog F #[.pointer (some ⟨g, 0, none⟩)] W fun e w' => e = .returned (.bool (p i)) ∧ St w0 W w' g s i)
 (i0 : Int) (h0 : 0 ≤ i0) (h1 : i0 ≤ (s.size : Int)) (w0 w : World) (hI : IsS65 w0 w g s i0) (hB : Below w0.heap.size w0 w) :
 Calls Tryz.prog 42 #[.pointer (some ⟨g, 0, none⟩), .func (.func F) #[.pointer (some ⟨g, 0, none⟩)] #[]] w fun e w' => e = .returned (.tuple #[]) ∧ St w0 w w' g s (scanTo p s.size i0) :=
 (while_any F hcf p g s hs ⟨hF⟩ i0 h0 h1 w0 w hI hB).mono fun e w' ⟨he, j, h1, h2, h3, h4, h5⟩ => by
  refine ⟨he, ?_⟩
  rw [scanTo, scan_eq p _ _ i0 j (Nat.le_refl _) h1 h2 h3 h4]
  exact h5
theorem scan_range (p : Int → Bool) (n : Int) : ∀ (k : Nat) (i : Int), i ≤ n → i ≤ scan p n k i ∧ scan p n k i ≤ n := by
 intro k
 induction k with
 | zero => intro i h; simp only [scan]; omega
 | succ k ih =>
  intro i h
  simp only [scan]
  split
  · split
    · have := ih (i + 1) (by omega); omega
    · omega
  · omega
theorem scanTo_range (p : Int → Bool) (n i : Int) (h : i ≤ n) : i ≤ scanTo p n i ∧ scanTo p n i ≤ n := scan_range p n _ i h
def at_ (s : ByteArray) (i : Int) : Int := if i ≥ (s.size : Int) then 0 else cls (bt s i).toNat
theorem now_f (s : ByteArray) (i : Int) (h : 0 ≤ i) : lexer_text_now.f s i = some (at_ s i, s, i) := by
 unfold lexer_text_now.f at_
 rw [if_pos h]
 split <;> rfl
theorem now_at (g : Nat) (s : ByteArray) (i : Int) (h : 0 ≤ i) (w0 w : World) (hI : IsS65 w0 w g s i) (hB : Below w0.heap.size w0 w) :
 Calls Tryz.prog 44 #[.pointer (some ⟨g, 0, none⟩)] w fun e w' => e = .returned (.int .u8 (at_ s i)) ∧ St w0 w w' g s i :=
 (lexer_text_now.calls g s i (at_ s i) s i w0 w hI hB (now_f s i h)).mono fun e w' ⟨he, h1, h2, h3⟩ => ⟨he, h1, h2, h3⟩
def blankAt (s : ByteArray) (i : Int) : Bool := at_ s i == 5
def lineAt (s : ByteArray) (i : Int) : Bool := bt s i != 10
def wordAt (s : ByteArray) (i : Int) : Bool := at_ s i == 1 || at_ s i == 2 || at_ s i == 3
def digitAt (s : ByteArray) (i : Int) : Bool := at_ s i == 2
theorem isBlank_at (g : Nat) (s : ByteArray) (w0 w : World) (i : Int) (h : 0 ≤ i) (_ : i < (s.size : Int)) (hI : IsS65 w0 w g s i) (hB : Below w0.heap.size w0 w) :
 Calls Tryz.prog 43 #[.pointer (some ⟨g, 0, none⟩)] w fun e w' => e = .returned (.bool (blankAt s i)) ∧ St w0 w w' g s i :=
 (lexer_text_isBlank.calls g s i (blankAt s i) s i w0 w hI hB (by rw [lexer_text_isBlank.f, now_f s i h]; rfl)).mono fun e w' ⟨he, h1, h2, h3⟩ => ⟨he, h1, h2, h3⟩
theorem inLine_at (g : Nat) (s : ByteArray) (w0 w : World) (i : Int) (h : 0 ≤ i) (hlt : i < (s.size : Int)) (hI : IsS65 w0 w g s i) (hB : Below w0.heap.size w0 w) :
 Calls Tryz.prog 45 #[.pointer (some ⟨g, 0, none⟩)] w fun e w' => e = .returned (.bool (lineAt s i)) ∧ St w0 w w' g s i :=
 (lexer_text_inLine.calls g s i (lineAt s i) s i w0 w hI hB (by rw [lexer_text_inLine.f, if_pos h, if_pos hlt]; rfl)).mono fun e w' ⟨he, h1, h2, h3⟩ => ⟨he, h1, h2, h3⟩
theorem while_blank (g : Nat) (s : ByteArray) (hs : s.size ≤ 140737488351232) (i0 : Int) (h0 : 0 ≤ i0) (h1 : i0 ≤ (s.size : Int)) (w0 w : World) (hI : IsS65 w0 w g s i0) (hB : Below w0.heap.size w0 w) :
 Calls Tryz.prog 42 #[.pointer (some ⟨g, 0, none⟩), .func (.func 43) #[.pointer (some ⟨g, 0, none⟩)] #[]] w fun e w' => e = .returned (.tuple #[]) ∧ St w0 w w' g s (scanTo (blankAt s) s.size i0) :=
 while_scan 43 (fun _ _ => by rfl) (blankAt s) g s hs (fun w0 W i => isBlank_at g s w0 W i) i0 h0 h1 w0 w hI hB
theorem while_line (g : Nat) (s : ByteArray) (hs : s.size ≤ 140737488351232) (i0 : Int) (h0 : 0 ≤ i0) (h1 : i0 ≤ (s.size : Int)) (w0 w : World) (hI : IsS65 w0 w g s i0) (hB : Below w0.heap.size w0 w) :
 Calls Tryz.prog 42 #[.pointer (some ⟨g, 0, none⟩), .func (.func 45) #[.pointer (some ⟨g, 0, none⟩)] #[]] w fun e w' => e = .returned (.tuple #[]) ∧ St w0 w w' g s (scanTo (lineAt s) s.size i0) :=
 while_scan 45 (fun _ _ => by rfl) (lineAt s) g s hs (fun w0 W i => inLine_at g s w0 W i) i0 h0 h1 w0 w hI hB
theorem at_some {s : ByteArray} {i c : Int} (hc : c ≠ 0) (h : at_ s i = c) : i < (s.size : Int) ∧ cls (bt s i).toNat = c := by
 unfold at_ at h
 split at h
 · exact absurd h.symm hc
 · exact ⟨by omega, h⟩
theorem scanTo_step {p : Int → Bool} {n i : Int} (h : i < n) (hp : p i = true) : i + 1 ≤ scanTo p n i := by
 unfold scanTo
 obtain ⟨k, hk⟩ : ∃ k, (n - i).toNat = k + 1 := ⟨(n - i).toNat - 1, by omega⟩
 rw [hk]
 simp only [scan]
 rw [if_pos h, if_pos hp]
 exact (scan_range p n k (i + 1) (by omega)).1
theorem cls_six {c : Nat} (h : cls c = 6) : c = 35 := by
 unfold cls at h
 repeat' split at h
 all_goals first | omega | assumption
theorem line_of_six {s : ByteArray} {i : Int} (h : at_ s i = 6) : lineAt s i = true := by
 have h6 := cls_six (at_some (by decide) h).2
 have hb := bt_range s i
 simp only [lineAt, bne_iff_ne, ne_eq]
 omega
def skipR (s : ByteArray) : Nat → Int → Int
 | 0, i => i
 | k + 1, i => if at_ s i = 6 then skipR s k (scanTo (blankAt s) s.size (scanTo (lineAt s) s.size i)) else i
def skipTo (s : ByteArray) (i : Int) : Int := skipR s s.size (scanTo (blankAt s) s.size i)
theorem skip_any (g : Nat) (s : ByteArray) (hs : s.size ≤ 140737488351232) (i0 : Int) (h0 : 0 ≤ i0) (h1 : i0 ≤ (s.size : Int)) (w0 w : World) (hI : IsS65 w0 w g s i0) (hB : Below w0.heap.size w0 w) :
 Calls Tryz.prog 28 #[.pointer (some ⟨g, 0, none⟩)] w fun e w' => e = .returned (.tuple #[]) ∧ St w0 w w' g s (skipTo s i0) := by
 have hmf : ∀ (fn : Fn) (first cap : Array Value) (w : World), (Instr.makeFunc fn first cap).run Tryz.prog w = .ok (.func fn first cap) w := fun _ _ _ _ => rfl
 go_enter Tryz.func28, Tryz.ntmps28
 go_wp2_with fail
 refine (while_blank g s hs i0 h0 h1 w0 _ hI hB).mono ?_
 rintro e w1 ⟨rfl, hS1⟩
 have hr := scanTo_range (blankAt s) s.size i0 h1
 generalize hi1 : scanTo (blankAt s) s.size i0 = i1 at hS1 hr
 have HS1 := Aside0.mk hS1
 clear hS1
 have Hi1 := Aside0.mk hi1
 clear hi1
 go_wp2_with fail
 go_loopg [] s.size (fun kq wr => ∃ i : Int, Aside0 (((s.size : Int) - i).toNat ≤ kq ∧ 0 ≤ i ∧ i ≤ (s.size : Int) ∧ skipR s kq i = skipTo s i0 ∧ St w0 w wr g s i))
 case atStart => exact ⟨i1, ⟨by omega, by omega, by omega, by rw [skipTo, Hi1.out], HS1.out⟩⟩
 case round =>
  clear HS1
  obtain ⟨i, ⟨hk, hi0, hi2, hr2, hS⟩⟩ := hrel
  have HR := Aside0.mk hr2
  clear hr2
  by_cases h6 : at_ s i = 6
  · have hlt := (at_some (by decide) h6).1
    have hst := scanTo_step hlt (line_of_six h6)
    have hb6 : (at_ s i == 6) = true := beq_iff_eq.2 h6
    have H6 := Aside0.mk h6
    clear h6
    go_wp2_with fail
    refine (now_at g s i hi0 w0 _ hS.is hS.bel).mono ?_
    rintro e w2 ⟨rfl, hS2⟩
    have HS2 := Aside0.mk (hS.trans hS2)
    clear hS hS2
    go_wp2_with fail
    refine (while_line g s hs i hi0 hi2 w0 _ HS2.out.is HS2.out.bel).mono ?_
    rintro e w3 ⟨rfl, hS3⟩
    have hr3 := scanTo_range (lineAt s) s.size i hi2
    generalize hi3 : scanTo (lineAt s) s.size i = i3 at hS3 hr3 hst
    have HS3 := Aside0.mk (HS2.out.trans hS3)
    have Hi3 := Aside0.mk hi3
    clear hS3 hi3 HS2
    go_wp2_with fail
    refine (while_blank g s hs i3 (by omega) (by omega) w0 _ HS3.out.is HS3.out.bel).mono ?_
    rintro e w4 ⟨rfl, hS4⟩
    have hr4 := scanTo_range (blankAt s) s.size i3 (by omega)
    generalize hi4 : scanTo (blankAt s) s.size i3 = i4 at hS4 hr4
    have HS4 := Aside0.mk (HS3.out.trans hS4)
    have Hi4 := Aside0.mk hi4
    clear hS4 hi4 HS3
    go_wp2_with fail
    cases gk with
    | zero => exfalso; omega
    | succ k =>
     go_roundg k
     case measure => omega
     case rel =>
      refine ⟨i4, ⟨by omega, by omega, by omega, ?_, HS4.out⟩⟩
      have := HR.out
      rw [skipR, if_pos H6.out, Hi3.out, Hi4.out] at this
      exact this
  · have hb6 : (at_ s i == 6) = false := beq_eq_false_iff_ne.2 h6
    have H6 := Aside0.mk h6
    clear h6
    go_wp2_with fail
    refine (now_at g s i hi0 w0 _ hS.is hS.bel).mono ?_
    rintro e w2 ⟨rfl, hS2⟩
    have HS2 := Aside0.mk (hS.trans hS2)
    clear hS hS2
    go_wp2_with fail
    go_end0
    have he : i = skipTo s i0 := by
     rw [← HR.out]
     cases gk with
     | zero => rfl
     | succ k => rw [skipR, if_neg H6.out]
    exact ⟨rfl, he ▸ HS2.out⟩
def lexer_text_skip.f (s : ByteArray) (i : Int) : Option (ByteArray × Int) := if 0 ≤ i ∧ i ≤ (s.size : Int) ∧ s.size ≤ 140737488351232 then some (s, skipTo s i) else none
def lexer_text_named.f (s0_0 : ByteArray) (s0_1 : Int) : Option (Bool × ByteArray × Int) := (lexer_text_now.f s0_0 s0_1).bind fun bt104 => (if bt104.1 = 1 then (some (true, bt104.2.1, bt104.2.2)) else (if bt104.1 = 2 then (some (true, bt104.2.1, bt104.2.2)) else (some ((bt104.1 == 3), bt104.2.1, bt104.2.2))))
theorem lexer_text_named.calls (g : Nat) (s0_0 : ByteArray) (s0_1 : Int) (r1 : Bool) (r2 : ByteArray) (r3 : Int) (w0 w : World) (hI : IsS65 w0 w g s0_0 s0_1) (hB : Below w0.heap.size w0 w) (h : lexer_text_named.f s0_0 s0_1 = some (r1, r2, r3)) :
 Calls Tryz.prog 46 #[.pointer (some ⟨g, 0, none⟩)] w fun e w' => e = .returned (.bool r1) ∧ IsS65 w0 w' g r2 r3 ∧ Below w0.heap.size w0 w' ∧ KeepBut w w' g none := by
 have HI0 := Aside0.mk hI
 have HK := Aside0.mk (KeepBut.refl w g none)
 have HL := Aside0.mk hB.size
 clear hI
 have HW0 := Aside0.mk hB.size
 have HB := Aside0.mk hB
 clear hB
 have H : ((lexer_text_now.f s0_0 s0_1).bind fun bt104 => (if bt104.1 = 1 then (some (true, bt104.2.1, bt104.2.2)) else (if bt104.1 = 2 then (some (true, bt104.2.1, bt104.2.2)) else (some ((bt104.1 == 3), bt104.2.1, bt104.2.2))))) = some (r1, r2, r3) := h
 clear h
 replace H := Option.bind_eq_some_iff.mp H
 obtain ⟨⟨t104, t105, t106⟩, A20, H⟩ := H
 replace H : (if t104 = 1 then (some (true, t105, t106)) else (if t104 = 2 then (some (true, t105, t106)) else (some ((t104 == 3), t105, t106)))) = some (r1, r2, r3) := H
 have A2 := Aside0.mk A20
 clear A20
 by_cases c3 : t104 = 1
 · rw [if_pos c3] at H
   have c3b0 : (t104 == 1) = true := beq_iff_eq.mpr c3
   have c3b1 : (t104 != 1) = false := bne_eq_false_iff_eq.mpr c3
   clear c3
   simp only [Option.some.injEq, Prod.mk.injEq] at H
   obtain ⟨rfl, rfl, rfl⟩ := H
   go_enter Tryz.func46, Tryz.ntmps46
   go_wp2_with (first | ((with_reducible refine gate_callee (f := 44) rfl ?_); refine goesL_ (some 5) rfl rfl Tryz.func44 (by kernel_rfl) rfl #[.pointer (some ⟨g, 0, none⟩)] rfl (by (try simp only [List.map_toArray, List.map_cons, List.map_nil]); first | done | rfl | (simp only [List.length_drop, List.length_take]; rfl)) ?_; (with_reducible refine (lexer_text_now.calls g s0_0 s0_1 t104 t105 t106 w0 _ ?side1 ?side2 A2.out).mono ?_); (case side1 => repeat (first | (with_reducible first | exact HI0.out | apply IsS65.alloc | apply IsS65.drewN | apply IsS65.drew | apply IsS65.set_0 | apply IsS65.set_1) | exact HI0.out)); (case side2 => repeat (first | (with_reducible first | exact HB.out | apply below_alloc | apply pw_below_drewN | apply below_drew1 | refine below_set ?_ (IsS65.ge HI0.out)) | exact HB.out)); rintro e w4 ⟨rfl, hi, hb, hk⟩; refine ⟨_, rfl, ?_⟩; have n0_ := Aside0.mk (KeepBut.trans (by repeat (first | (with_reducible first | exact HK.out | apply KeepBut.set_ | apply keep_drewN | apply keep_drew | apply keep_alloc) | exact HK.out)) hk (.inl rfl)); have n1_ := Aside0.mk (hb); have n2_ := Aside0.mk (hi); clear HK; clear HB; clear HI0; have HK := n0_; have HB := n1_; have HI0 := n2_; clear n0_ n1_ n2_; (try clear hb); (try clear hb2); (try clear hk); (try clear hi)))
   go_ret
   exact ⟨by first | rfl | (simp [errW_none, errW_some] <;> rfl) | (simp [*, errW_none, errW_some] <;> rfl), by repeat (first | (with_reducible first | exact HI0.out | apply IsS65.alloc | apply IsS65.drewN | apply IsS65.drew | apply IsS65.set_0 | apply IsS65.set_1) | exact HI0.out), by repeat (first | (with_reducible first | exact HB.out | apply below_alloc | apply pw_below_drewN | apply below_drew1 | refine below_set ?_ (IsS65.ge HI0.out)) | exact HB.out), by repeat (first | (with_reducible first | exact HK.out | apply KeepBut.set_ | apply keep_drewN | apply keep_drew | apply keep_alloc) | exact HK.out)⟩
 · rw [if_neg c3] at H
   have c3b0 : (t104 == 1) = false := beq_eq_false_iff_ne.mpr c3
   have c3b1 : (t104 != 1) = true := bne_iff_ne.mpr c3
   by_cases c5 : t104 = 2
   · rw [if_pos c5] at H
     have c5b0 : (t104 == 2) = true := beq_iff_eq.mpr c5
     have c5b1 : (t104 != 2) = false := bne_eq_false_iff_eq.mpr c5
     clear c5
     simp only [Option.some.injEq, Prod.mk.injEq] at H
     obtain ⟨rfl, rfl, rfl⟩ := H
     go_enter Tryz.func46, Tryz.ntmps46
     go_wp2_with (first | ((with_reducible refine gate_callee (f := 44) rfl ?_); refine goesL_ (some 5) rfl rfl Tryz.func44 (by kernel_rfl) rfl #[.pointer (some ⟨g, 0, none⟩)] rfl (by (try simp only [List.map_toArray, List.map_cons, List.map_nil]); first | done | rfl | (simp only [List.length_drop, List.length_take]; rfl)) ?_; (with_reducible refine (lexer_text_now.calls g s0_0 s0_1 t104 t105 t106 w0 _ ?side1 ?side2 A2.out).mono ?_); (case side1 => repeat (first | (with_reducible first | exact HI0.out | apply IsS65.alloc | apply IsS65.drewN | apply IsS65.drew | apply IsS65.set_0 | apply IsS65.set_1) | exact HI0.out)); (case side2 => repeat (first | (with_reducible first | exact HB.out | apply below_alloc | apply pw_below_drewN | apply below_drew1 | refine below_set ?_ (IsS65.ge HI0.out)) | exact HB.out)); rintro e w6 ⟨rfl, hi, hb, hk⟩; refine ⟨_, rfl, ?_⟩; have n0_ := Aside0.mk (KeepBut.trans (by repeat (first | (with_reducible first | exact HK.out | apply KeepBut.set_ | apply keep_drewN | apply keep_drew | apply keep_alloc) | exact HK.out)) hk (.inl rfl)); have n1_ := Aside0.mk (hb); have n2_ := Aside0.mk (hi); clear HK; clear HB; clear HI0; have HK := n0_; have HB := n1_; have HI0 := n2_; clear n0_ n1_ n2_; (try clear hb); (try clear hb2); (try clear hk); (try clear hi)))
     go_ret
     exact ⟨by first | rfl | (simp [errW_none, errW_some] <;> rfl) | (simp [*, errW_none, errW_some] <;> rfl), by repeat (first | (with_reducible first | exact HI0.out | apply IsS65.alloc | apply IsS65.drewN | apply IsS65.drew | apply IsS65.set_0 | apply IsS65.set_1) | exact HI0.out), by repeat (first | (with_reducible first | exact HB.out | apply below_alloc | apply pw_below_drewN | apply below_drew1 | refine below_set ?_ (IsS65.ge HI0.out)) | exact HB.out), by repeat (first | (with_reducible first | exact HK.out | apply KeepBut.set_ | apply keep_drewN | apply keep_drew | apply keep_alloc) | exact HK.out)⟩
   · rw [if_neg c5] at H
     have c5b0 : (t104 == 2) = false := beq_eq_false_iff_ne.mpr c5
     have c5b1 : (t104 != 2) = true := bne_iff_ne.mpr c5
     simp only [Option.some.injEq, Prod.mk.injEq] at H
     obtain ⟨rfl, rfl, rfl⟩ := H
     go_enter Tryz.func46, Tryz.ntmps46
     go_wp2_with (first | ((with_reducible refine gate_callee (f := 44) rfl ?_); refine goesL_ (some 5) rfl rfl Tryz.func44 (by kernel_rfl) rfl #[.pointer (some ⟨g, 0, none⟩)] rfl (by (try simp only [List.map_toArray, List.map_cons, List.map_nil]); first | done | rfl | (simp only [List.length_drop, List.length_take]; rfl)) ?_; (with_reducible refine (lexer_text_now.calls g s0_0 s0_1 t104 t105 t106 w0 _ ?side1 ?side2 A2.out).mono ?_); (case side1 => repeat (first | (with_reducible first | exact HI0.out | apply IsS65.alloc | apply IsS65.drewN | apply IsS65.drew | apply IsS65.set_0 | apply IsS65.set_1) | exact HI0.out)); (case side2 => repeat (first | (with_reducible first | exact HB.out | apply below_alloc | apply pw_below_drewN | apply below_drew1 | refine below_set ?_ (IsS65.ge HI0.out)) | exact HB.out)); rintro e w7 ⟨rfl, hi, hb, hk⟩; refine ⟨_, rfl, ?_⟩; have n0_ := Aside0.mk (KeepBut.trans (by repeat (first | (with_reducible first | exact HK.out | apply KeepBut.set_ | apply keep_drewN | apply keep_drew | apply keep_alloc) | exact HK.out)) hk (.inl rfl)); have n1_ := Aside0.mk (hb); have n2_ := Aside0.mk (hi); clear HK; clear HB; clear HI0; have HK := n0_; have HB := n1_; have HI0 := n2_; clear n0_ n1_ n2_; (try clear hb); (try clear hb2); (try clear hk); (try clear hi)))
     go_ret
     exact ⟨by first | rfl | (simp [errW_none, errW_some] <;> rfl) | (simp [*, errW_none, errW_some] <;> rfl), by repeat (first | (with_reducible first | exact HI0.out | apply IsS65.alloc | apply IsS65.drewN | apply IsS65.drew | apply IsS65.set_0 | apply IsS65.set_1) | exact HI0.out), by repeat (first | (with_reducible first | exact HB.out | apply below_alloc | apply pw_below_drewN | apply below_drew1 | refine below_set ?_ (IsS65.ge HI0.out)) | exact HB.out), by repeat (first | (with_reducible first | exact HK.out | apply KeepBut.set_ | apply keep_drewN | apply keep_drew | apply keep_alloc) | exact HK.out)⟩
def lexer_text_counted.f (s0_0 : ByteArray) (s0_1 : Int) : Option (Bool × ByteArray × Int) := (lexer_text_now.f s0_0 s0_1).bind fun bt107 => (some ((bt107.1 == 2), bt107.2.1, bt107.2.2))
theorem lexer_text_counted.calls (g : Nat) (s0_0 : ByteArray) (s0_1 : Int) (r1 : Bool) (r2 : ByteArray) (r3 : Int) (w0 w : World) (hI : IsS65 w0 w g s0_0 s0_1) (hB : Below w0.heap.size w0 w) (h : lexer_text_counted.f s0_0 s0_1 = some (r1, r2, r3)) :
 Calls Tryz.prog 47 #[.pointer (some ⟨g, 0, none⟩)] w fun e w' => e = .returned (.bool r1) ∧ IsS65 w0 w' g r2 r3 ∧ Below w0.heap.size w0 w' ∧ KeepBut w w' g none := by
 have HI0 := Aside0.mk hI
 have HK := Aside0.mk (KeepBut.refl w g none)
 have HL := Aside0.mk hB.size
 clear hI
 have HW0 := Aside0.mk hB.size
 have HB := Aside0.mk hB
 clear hB
 have H : ((lexer_text_now.f s0_0 s0_1).bind fun bt107 => (some ((bt107.1 == 2), bt107.2.1, bt107.2.2))) = some (r1, r2, r3) := h
 clear h
 replace H := Option.bind_eq_some_iff.mp H
 obtain ⟨⟨t107, t108, t109⟩, A20, H⟩ := H
 replace H : (some ((t107 == 2), t108, t109)) = some (r1, r2, r3) := H
 have A2 := Aside0.mk A20
 clear A20
 simp only [Option.some.injEq, Prod.mk.injEq] at H
 obtain ⟨rfl, rfl, rfl⟩ := H
 go_enter Tryz.func47, Tryz.ntmps47
 go_wp2_with (first | ((with_reducible refine gate_callee (f := 44) rfl ?_); refine goesL_ (some 4) rfl rfl Tryz.func44 (by kernel_rfl) rfl #[.pointer (some ⟨g, 0, none⟩)] rfl (by (try simp only [List.map_toArray, List.map_cons, List.map_nil]); first | done | rfl | (simp only [List.length_drop, List.length_take]; rfl)) ?_; (with_reducible refine (lexer_text_now.calls g s0_0 s0_1 t107 t108 t109 w0 _ ?side1 ?side2 A2.out).mono ?_); (case side1 => repeat (first | (with_reducible first | exact HI0.out | apply IsS65.alloc | apply IsS65.drewN | apply IsS65.drew | apply IsS65.set_0 | apply IsS65.set_1) | exact HI0.out)); (case side2 => repeat (first | (with_reducible first | exact HB.out | apply below_alloc | apply pw_below_drewN | apply below_drew1 | refine below_set ?_ (IsS65.ge HI0.out)) | exact HB.out)); rintro e w3 ⟨rfl, hi, hb, hk⟩; refine ⟨_, rfl, ?_⟩; have n0_ := Aside0.mk (KeepBut.trans (by repeat (first | (with_reducible first | exact HK.out | apply KeepBut.set_ | apply keep_drewN | apply keep_drew | apply keep_alloc) | exact HK.out)) hk (.inl rfl)); have n1_ := Aside0.mk (hb); have n2_ := Aside0.mk (hi); clear HK; clear HB; clear HI0; have HK := n0_; have HB := n1_; have HI0 := n2_; clear n0_ n1_ n2_; (try clear hb); (try clear hb2); (try clear hk); (try clear hi)))
 go_ret
 exact ⟨by first | rfl | (simp [errW_none, errW_some] <;> rfl) | (simp [*, errW_none, errW_some] <;> rfl), by repeat (first | (with_reducible first | exact HI0.out | apply IsS65.alloc | apply IsS65.drewN | apply IsS65.drew | apply IsS65.set_0 | apply IsS65.set_1) | exact HI0.out), by repeat (first | (with_reducible first | exact HB.out | apply below_alloc | apply pw_below_drewN | apply below_drew1 | refine below_set ?_ (IsS65.ge HI0.out)) | exact HB.out), by repeat (first | (with_reducible first | exact HK.out | apply KeepBut.set_ | apply keep_drewN | apply keep_drew | apply keep_alloc) | exact HK.out)⟩
def lexer_number.f (a0 : Bool) (a1 : ByteArray) : Option (Bool) := if a1.toList = ([] : List UInt8) then (some false) else (if (a1.size : Int) > 9 then (some false) else (if 0 < (a1.size : Int) then (if (bt a1 0) = 48 then (if a1.toList = ([48] : List UInt8) then (some (!a0)) else (some false)) else (some true)) else (none)))
theorem lexer_number.calls (a0 : Bool) (a1 : ByteArray) (r : Bool) (w : World) (h : lexer_number.f a0 a1 = some r) :
 Calls Tryz.prog 48 #[.bool a0, .string a1] w fun e w' => e = .returned (.bool r) ∧ Drawn0 w w' := by
 have H : (if a1.toList = ([] : List UInt8) then (some false) else (if (a1.size : Int) > 9 then (some false) else (if 0 < (a1.size : Int) then (if (bt a1 0) = 48 then (if a1.toList = ([48] : List UInt8) then (some (!a0)) else (some false)) else (some true)) else (none)))) = some r := h
 clear h
 by_cases c3 : a1.toList = ([] : List UInt8)
 · rw [if_pos c3] at H
   have c3b0 : (a1.toList == ([] : List UInt8)) = true := beq_iff_eq.mpr c3
   have c3b1 : (a1.toList != ([] : List UInt8)) = false := bne_eq_false_iff_eq.mpr c3
   clear c3
   obtain rfl := Option.some.inj H
   go_enter Tryz.func48, Tryz.ntmps48
   go_wp2
   go_ret
   exact ⟨by first | rfl | (simp; done) | (simp [*]; done), by repeat (first | exact Drawn0.refl _ | apply Drawn0.step)⟩
 · rw [if_neg c3] at H
   have c3b0 : (a1.toList == ([] : List UInt8)) = false := beq_eq_false_iff_ne.mpr c3
   have c3b1 : (a1.toList != ([] : List UInt8)) = true := bne_iff_ne.mpr c3
   by_cases c4 : (a1.size : Int) > 9
   · rw [if_pos c4] at H
     have c4b0 : decide (9 < (a1.size : Int)) = true := decide_eq_true c4
     have c4b1 : decide (9 < a1.size) = true := decide_eq_true (by omega)
     clear c4
     obtain rfl := Option.some.inj H
     go_enter Tryz.func48, Tryz.ntmps48
     go_wp2
     go_ret
     exact ⟨by first | rfl | (simp; done) | (simp [*]; done), by repeat (first | exact Drawn0.refl _ | apply Drawn0.step)⟩
   · rw [if_neg c4] at H
     have c4b0 : decide (9 < (a1.size : Int)) = false := decide_eq_false c4
     have c4b1 : decide (9 < a1.size) = false := decide_eq_false (by omega)
     clear c4
     by_cases c5 : 0 < (a1.size : Int)
     · rw [if_pos c5] at H
       have c5b0 : decide (0 < (a1.size : Int)) = true := decide_eq_true c5
       have c5b1 : decide (0 < a1.size) = true := decide_eq_true (by omega)
       clear c5
       by_cases c7 : (bt a1 0) = 48
       · rw [if_pos c7] at H
         have c7b0 : ((bt a1 0) == 48) = true := beq_iff_eq.mpr c7
         have c7b1 : ((bt a1 0) != 48) = false := bne_eq_false_iff_eq.mpr c7
         clear c7
         by_cases c8 : a1.toList = ([48] : List UInt8)
         · rw [if_pos c8] at H
           have c8b0 : (a1.toList == ([48] : List UInt8)) = true := beq_iff_eq.mpr c8
           have c8b1 : (a1.toList != ([48] : List UInt8)) = false := bne_eq_false_iff_eq.mpr c8
           clear c8
           obtain rfl := Option.some.inj H
           have p6 : 0 ≤ (0 : Int) := (by omega)
           have q6 : 0 < a1.size := (by have : (0 : Int) < (a1.size : Int) := of_decide_eq_true (by first | (with_reducible assumption) | assumption); omega)
           have hx6 : ∀ h : 0 < a1.size, ((a1[0]'h).toNat : Int) = bt a1 0 := bt_at a1 0
           clear p6
           have qi6 : (0 < (a1.size : Int)) = True := eq_true (of_decide_eq_true (by first | (with_reducible assumption) | assumption))
           replace q6 := eq_true q6
           go_enter Tryz.func48, Tryz.ntmps48
           go_wp2
           go_ret
           exact ⟨by first | rfl | (simp; done) | (simp [*]; done), by repeat (first | exact Drawn0.refl _ | apply Drawn0.step)⟩
         · rw [if_neg c8] at H
           have c8b0 : (a1.toList == ([48] : List UInt8)) = false := beq_eq_false_iff_ne.mpr c8
           have c8b1 : (a1.toList != ([48] : List UInt8)) = true := bne_iff_ne.mpr c8
           obtain rfl := Option.some.inj H
           have p6 : 0 ≤ (0 : Int) := (by omega)
           have q6 : 0 < a1.size := (by have : (0 : Int) < (a1.size : Int) := of_decide_eq_true (by first | (with_reducible assumption) | assumption); omega)
           have hx6 : ∀ h : 0 < a1.size, ((a1[0]'h).toNat : Int) = bt a1 0 := bt_at a1 0
           clear p6
           have qi6 : (0 < (a1.size : Int)) = True := eq_true (of_decide_eq_true (by first | (with_reducible assumption) | assumption))
           replace q6 := eq_true q6
           go_enter Tryz.func48, Tryz.ntmps48
           go_wp2
           go_ret
           exact ⟨by first | rfl | (simp; done) | (simp [*]; done), by repeat (first | exact Drawn0.refl _ | apply Drawn0.step)⟩
       · rw [if_neg c7] at H
         have c7b0 : ((bt a1 0) == 48) = false := beq_eq_false_iff_ne.mpr c7
         have c7b1 : ((bt a1 0) != 48) = true := bne_iff_ne.mpr c7
         obtain rfl := Option.some.inj H
         have p6 : 0 ≤ (0 : Int) := (by omega)
         have q6 : 0 < a1.size := (by have : (0 : Int) < (a1.size : Int) := of_decide_eq_true (by first | (with_reducible assumption) | assumption); omega)
         have hx6 : ∀ h : 0 < a1.size, ((a1[0]'h).toNat : Int) = bt a1 0 := bt_at a1 0
         clear p6
         have qi6 : (0 < (a1.size : Int)) = True := eq_true (of_decide_eq_true (by first | (with_reducible assumption) | assumption))
         replace q6 := eq_true q6
         go_enter Tryz.func48, Tryz.ntmps48
         go_wp2
         go_ret
         exact ⟨by first | rfl | (simp; done) | (simp [*]; done), by repeat (first | exact Drawn0.refl _ | apply Drawn0.step)⟩
     · rw [if_neg c5] at H
       exact absurd H (by simp)
theorem named_at (g : Nat) (s : ByteArray) (w0 w : World) (i : Int) (h : 0 ≤ i) (hI : IsS65 w0 w g s i) (hB : Below w0.heap.size w0 w) :
 Calls Tryz.prog 46 #[.pointer (some ⟨g, 0, none⟩)] w fun e w' => e = .returned (.bool (wordAt s i)) ∧ St w0 w w' g s i :=
 (lexer_text_named.calls g s i (wordAt s i) s i w0 w hI hB (by
  rw [lexer_text_named.f, now_f s i h]
  simp only [Option.bind_some, wordAt]
  by_cases h1 : at_ s i = 1
  · simp [h1]
  · by_cases h2 : at_ s i = 2
    · simp [h2]
    · simp [h1, h2])).mono fun e w' ⟨he, h1, h2, h3⟩ => ⟨he, h1, h2, h3⟩
theorem counted_at (g : Nat) (s : ByteArray) (w0 w : World) (i : Int) (h : 0 ≤ i) (_ : i < (s.size : Int)) (hI : IsS65 w0 w g s i) (hB : Below w0.heap.size w0 w) :
 Calls Tryz.prog 47 #[.pointer (some ⟨g, 0, none⟩)] w fun e w' => e = .returned (.bool (digitAt s i)) ∧ St w0 w w' g s i :=
 (lexer_text_counted.calls g s i (digitAt s i) s i w0 w hI hB (by rw [lexer_text_counted.f, now_f s i h]; rfl)).mono fun e w' ⟨he, h1, h2, h3⟩ => ⟨he, h1, h2, h3⟩
theorem while_word (g : Nat) (s : ByteArray) (hs : s.size ≤ 140737488351232) (i0 : Int) (h0 : 0 ≤ i0) (h1 : i0 ≤ (s.size : Int)) (w0 w : World) (hI : IsS65 w0 w g s i0) (hB : Below w0.heap.size w0 w) :
 Calls Tryz.prog 42 #[.pointer (some ⟨g, 0, none⟩), .func (.func 46) #[.pointer (some ⟨g, 0, none⟩)] #[]] w fun e w' => e = .returned (.tuple #[]) ∧ St w0 w w' g s (scanTo (wordAt s) s.size i0) :=
 while_scan 46 (fun _ _ => by rfl) (wordAt s) g s hs (fun w0 W i h _ => named_at g s w0 W i h) i0 h0 h1 w0 w hI hB
theorem while_digit (g : Nat) (s : ByteArray) (hs : s.size ≤ 140737488351232) (i0 : Int) (h0 : 0 ≤ i0) (h1 : i0 ≤ (s.size : Int)) (w0 w : World) (hI : IsS65 w0 w g s i0) (hB : Below w0.heap.size w0 w) :
 Calls Tryz.prog 42 #[.pointer (some ⟨g, 0, none⟩), .func (.func 47) #[.pointer (some ⟨g, 0, none⟩)] #[]] w fun e w' => e = .returned (.tuple #[]) ∧ St w0 w w' g s (scanTo (digitAt s) s.size i0) :=
 while_scan 47 (fun _ _ => by rfl) (digitAt s) g s hs (fun w0 W i => counted_at g s w0 W i) i0 h0 h1 w0 w hI hB
structure Nx (w0 w W : World) (g b : Nat) (s : ByteArray) (i : Int) : Prop where
 st : St w0 w W g s i
 res : W.heap[b]? = some (.cells #[.int .i64 0, .string ⟨#[]⟩, .int .i64 0] 67 (0, 0))
 ne : b ≠ g
 ge : w.heap.size ≤ b
 ge0 : w0.heap.size ≤ b
theorem Nx.trans {w0 w W W1 : World} {g b : Nat} {s s1 : ByteArray} {i i1 : Int} (h : Nx w0 w W g b s i) (k : St w0 W W1 g s1 i1) : Nx w0 w W1 g b s1 i1 :=
 ⟨h.st.trans k, k.kept.blk h.res h.ne (by simp), h.ne, h.ge, h.ge0⟩
theorem Nx.new {w0 w : World} {g : Nat} {s : ByteArray} {i : Int} (hI : IsS65 w0 w g s i) (hB : Below w0.heap.size w0 w) : Nx w0 w (w.alloc (.cells #[.int .i64 0, .string ⟨#[]⟩, .int .i64 0] 67)) g w.heap.size s i :=
 ⟨(St.start hI hB).below (below_alloc (Below.refl _ _) _), heap_alloc_new _ _, fun h => Nat.lt_irrefl _ (h ▸ hI.lt), Nat.le_refl _, hB.size⟩
theorem Nx.stored0 {w0 w W : World} {g b : Nat} {s : ByteArray} {i : Int} (h : Nx w0 w W g b s i) (x y z : Value) :
 St w0 w (((W.setCell ⟨b, 0, none⟩ x).setCell ⟨b, 1, none⟩ y).setCell ⟨b, 2, none⟩ z) g s i ∧ (((W.setCell ⟨b, 0, none⟩ x).setCell ⟨b, 1, none⟩ y).setCell ⟨b, 2, none⟩ z).heap[b]? = some (.cells #[x, y, z] 67 (0, 0)) := by
 have hgb := Ne.symm h.ne
 refine ⟨⟨(((h.st.is.far hgb x).far hgb y).far hgb z), below_set (below_set (below_set h.st.bel h.ge0) h.ge0) h.ge0, keep_far (keep_far (keep_far h.st.kept h.ge _) h.ge _) h.ge _⟩, ?_⟩
 have h1 := blk_set h.res 0 x
 have h2 := blk_set h1 1 y
 have h3 := blk_set h2 2 z
 simpa using h3
theorem Nx.stored {w0 w W : World} {g b : Nat} {s : ByteArray} {i : Int} (h : Nx w0 w W g b s i) (x y z : Value) :
 St w0 w ((((W.setCell ⟨b, 0, none⟩ x).setCell ⟨b, 1, none⟩ y).setCell ⟨b, 2, none⟩ z).drew) g s i ∧ ((((W.setCell ⟨b, 0, none⟩ x).setCell ⟨b, 1, none⟩ y).setCell ⟨b, 2, none⟩ z).drew).heap[b]? = some (.cells #[x, y, z] 67 (0, 0)) :=
 ⟨(h.stored0 x y z).1.drew, blk_drew (h.stored0 x y z).2⟩
theorem res18 {W : World} {b : Nat} {x y z v : Value} (h : W.heap[b]? = some (.cells #[x, y, z] 67 (0, 0))) (tmps : Array Value) (h2 : tmps.getD 2 undef = .pointer (some ⟨b, 0, none⟩)) (h3 : tmps.getD 3 undef = v) :
 (results Tryz.f29 tmps).run Tryz.prog W = .ok (.tuple #[.agg #[x, y, z], v]) W := by
 rw [results_cell_tmp (p := 2) (u := 3) (ty := 67) Tryz.results29, h2, h3]
 simp only [asAddr, Sem.run_pure, Result.andThen_ok]
 rw [run_loadVar_row W b 67 67 #[x, y, z] (0, 0) _ h Tryz.underlying67 rfl (by kernel_rfl)]
 rfl
theorem next_word (g : Nat) (s : ByteArray) (hs : s.size ≤ 140737488351232) (i : Int) (h0 : 0 ≤ i) (hc : at_ s i = 1) (w0 w : World) (hI : IsS65 w0 w g s i) (hB : Below w0.heap.size w0 w) :
 Calls Tryz.prog 29 #[.pointer (some ⟨g, 0, none⟩)] w fun e w' => e = .returned (.tuple #[.agg #[.int .i64 1, .string (s.extract i.toNat (scanTo (wordAt s) s.size i).toNat), .int .i64 i], .bool true]) ∧ St w0 w w' g s (scanTo (wordAt s) s.size i) := by
 have hmf : ∀ (fn : Fn) (first cap : Array Value) (w : World), (Instr.makeFunc fn first cap).run Tryz.prog w = .ok (.func fn first cap) w := fun _ _ _ _ => rfl
 have hlt := (at_some (by decide) hc).1
 have HN := Aside0.mk (Nx.new hI hB)
 have hcb : (at_ s i == 1) = true := beq_iff_eq.2 hc
 have c1 := cellS65_1 hI.1
 have hgl := hI.lt
 clear hI hB
 have Hc := Aside0.mk hc
 clear hc
 go_enter Tryz.func29, Tryz.ntmps29
 go_wp2_with fail
 refine (now_at g s i h0 w0 _ HN.out.st.is HN.out.st.bel).mono ?_
 rintro e w2 ⟨rfl, hS2⟩
 have HN2 := Aside0.mk (HN.out.trans hS2)
 clear hS2 HN
 go_wp2_with fail
 refine (while_word g s hs i h0 (by omega) w0 _ HN2.out.st.is HN2.out.st.bel).mono ?_
 rintro e w3 ⟨rfl, hS3⟩
 have hr3 := scanTo_range (wordAt s) s.size i (by omega)
 generalize hi3 : scanTo (wordAt s) s.size i = i3 at *
 have HN3 := Aside0.mk (HN2.out.trans hS3)
 have Hi3 := Aside0.mk hi3
 clear hS3 hi3 HN2
 go_wp2_with fail
 have c0 := HN3.out.st.cell0
 have c1 := HN3.out.st.cell1
 have d0 := blk_cell HN3.out.res 0
 have d1 := blk_cell HN3.out.res 1
 have d2 := blk_cell HN3.out.res 2
 have e0 := blk_frozen HN3.out.res 0
 have e1 := blk_frozen HN3.out.res 1
 have e2 := blk_frozen HN3.out.res 2
 go_still_tail 13, (by kernel_rfl)
 go_wp2_with fail
 have hst := HN3.out.stored (.int .i64 1) (.string (s.extract i.toNat i3.toNat)) (.int .i64 i)
 refine bodyPost_ret (res18 (v := .bool true) hst.2 _ rfl rfl) rfl ⟨?_, ?_⟩
 · rw [Hi3.out]
 · rw [Hi3.out]; exact hst.1
theorem next_sign (g : Nat) (s : ByteArray) (hs : s.size ≤ 140737488351232) (i : Int) (h0 : 0 ≤ i) (hc : at_ s i = 4) (w0 w : World) (hI : IsS65 w0 w g s i) (hB : Below w0.heap.size w0 w) :
 Calls Tryz.prog 29 #[.pointer (some ⟨g, 0, none⟩)] w fun e w' => e = .returned (.tuple #[.agg #[.int .i64 3, .string (s.extract i.toNat (i + 1).toNat), .int .i64 i], .bool true]) ∧ St w0 w w' g s (i + 1) := by
 have hlt := (at_some (by decide) hc).1
 have HN := Aside0.mk (Nx.new hI hB)
 have hcb : (at_ s i == 4) = true := beq_iff_eq.2 hc
 have hcb1 : (at_ s i == 1) = false := beq_eq_false_iff_ne.2 (by omega)
 have c1 := cellS65_1 hI.1
 have hgl := hI.lt
 clear hI hB
 have Hc := Aside0.mk hc
 clear hc
 go_enter Tryz.func29, Tryz.ntmps29
 go_wp2_with fail
 refine (now_at g s i h0 w0 _ HN.out.st.is HN.out.st.bel).mono ?_
 rintro e w2 ⟨rfl, hS2⟩
 have HN2 := Aside0.mk (HN.out.trans hS2)
 clear hS2 HN
 have c1 := HN2.out.st.cell1
 have f1 := blk_frozen HN2.out.st.is.1 1
 go_wp2_with fail
 have HN3 := Aside0.mk (HN2.out.trans ((St.start HN2.out.st.is HN2.out.st.bel).set (i + 1)))
 clear HN2 c1 f1
 generalize w2.setCell _ _ = w3 at *
 have hr3 : i ≤ i + 1 ∧ i + 1 ≤ (s.size : Int) := ⟨by omega, by omega⟩
 generalize hi3 : i + 1 = i3 at *
 have Hi3 := Aside0.mk hi3
 clear hi3
 have c0 := HN3.out.st.cell0
 have c1 := HN3.out.st.cell1
 have d0 := blk_cell HN3.out.res 0
 have d1 := blk_cell HN3.out.res 1
 have d2 := blk_cell HN3.out.res 2
 have e0 := blk_frozen HN3.out.res 0
 have e1 := blk_frozen HN3.out.res 1
 have e2 := blk_frozen HN3.out.res 2
 go_still_tail 13, (by kernel_rfl)
 go_wp2_with fail
 have hst := HN3.out.stored (.int .i64 3) (.string (s.extract i.toNat i3.toNat)) (.int .i64 i)
 exact bodyPost_ret (res18 (v := .bool true) hst.2 _ rfl rfl) rfl ⟨by rw [Hi3.out], by rw [Hi3.out]; exact hst.1⟩
theorem next_none (g : Nat) (s : ByteArray) (hs : s.size ≤ 140737488351232) (i : Int) (h0 : 0 ≤ i) (h1 : at_ s i ≠ 1) (h4 : at_ s i ≠ 4) (h7 : at_ s i ≠ 7) (h2 : at_ s i ≠ 2) (w0 w : World) (hI : IsS65 w0 w g s i) (hB : Below w0.heap.size w0 w) :
 Calls Tryz.prog 29 #[.pointer (some ⟨g, 0, none⟩)] w fun e w' => e = .returned (.tuple #[.agg #[.int .i64 0, .string ⟨#[]⟩, .int .i64 0], .bool false]) ∧ St w0 w w' g s i := by
 have HN := Aside0.mk (Nx.new hI hB)
 have hcb1 : (at_ s i == 1) = false := beq_eq_false_iff_ne.2 h1
 have hcb4 : (at_ s i == 4) = false := beq_eq_false_iff_ne.2 h4
 have hcb7 : (at_ s i == 7) = false := beq_eq_false_iff_ne.2 h7
 have hcb2 : (at_ s i == 2) = false := beq_eq_false_iff_ne.2 h2
 have c1 := cellS65_1 hI.1
 have hgl := hI.lt
 clear hI hB h1 h4 h7 h2
 go_enter Tryz.func29, Tryz.ntmps29
 go_wp2_with fail
 refine (now_at g s i h0 w0 _ HN.out.st.is HN.out.st.bel).mono ?_
 rintro e w2 ⟨rfl, hS2⟩
 have HN3 := Aside0.mk (HN.out.trans hS2)
 clear hS2 HN
 have c0 := HN3.out.st.cell0
 have c1 := HN3.out.st.cell1
 have d0 := blk_cell HN3.out.res 0
 have d1 := blk_cell HN3.out.res 1
 have d2 := blk_cell HN3.out.res 2
 have e0 := blk_frozen HN3.out.res 0
 have e1 := blk_frozen HN3.out.res 1
 have e2 := blk_frozen HN3.out.res 2
 go_wp2_with fail
 have hst := HN3.out.stored0 (.int .i64 0) (.string ⟨#[]⟩) (.int .i64 0)
 exact bodyPost_ret (res18 (v := .bool false) hst.2 _ rfl rfl) rfl ⟨rfl, hst.1⟩
def numOK (sg : Bool) (d : ByteArray) : Bool := (lexer_number.f sg d).getD false
theorem number_f (sg : Bool) (d : ByteArray) : lexer_number.f sg d = some (numOK sg d) := by
 unfold numOK lexer_number.f
 by_cases h : d.toList = []
 · rw [if_pos h]; rfl
 · rw [if_neg h]
   have hp : 0 < (d.size : Int) := by
    rcases Nat.eq_zero_or_pos d.size with h0 | h0
    · exact absurd (by rw [ByteArray.toList_eq, Array.eq_empty_of_size_eq_zero (show d.data.size = 0 from h0)]) h
    · omega
   rw [if_pos hp]
   split
   · rfl
   · split
     · split <;> rfl
     · rfl
theorem Nx.drew {w0 w W : World} {g b : Nat} {s : ByteArray} {i : Int} (h : Nx w0 w W g b s i) : Nx w0 w W.drew g b s i := ⟨h.st.drew, h.res, h.ne, h.ge, h.ge0⟩
theorem Nx.drewN {w0 w W : World} {g b : Nat} {s : ByteArray} {i : Int} (h : Nx w0 w W g b s i) (n : Nat) : Nx w0 w (W.drewN n) g b s i := ⟨h.st.drewN n, h.res, h.ne, h.ge, h.ge0⟩
theorem Nx.held {w0 w W : World} {g b : Nat} {s : ByteArray} {i : Int} (h : Nx w0 w W g b s i) :
 W.cell? ⟨g, 0, none⟩ = some (.string s) ∧ W.cell? ⟨g, 1, none⟩ = some (.int .i64 i) ∧ Aside0 (Nx w0 w W g b s i) := ⟨h.st.cell0, h.st.cell1, ⟨h⟩⟩
def firstAt (sg : Bool) (i : Int) : Int := if sg = true then i + 1 else i
theorem next_number (sg v wd : Bool) (g : Nat) (s : ByteArray) (hs : s.size ≤ 140737488351232) (i j : Int) (h0 : 0 ≤ i) (hc : at_ s i = if sg = true then 7 else 2)
 (hj : scanTo (digitAt s) s.size (firstAt sg i) = j) (hv : numOK sg (s.extract (firstAt sg i).toNat j.toNat) = v) (hw : wordAt s j = wd) (w0 w : World) (hI : IsS65 w0 w g s i) (hB : Below w0.heap.size w0 w) :
 Calls Tryz.prog 29 #[.pointer (some ⟨g, 0, none⟩)] w fun e w' => e = .returned (if (v && !wd) = true then .tuple #[.agg #[.int .i64 2, .string (s.extract i.toNat j.toNat), .int .i64 i], .bool true] else .tuple #[.agg #[.int .i64 0, .string ⟨#[]⟩, .int .i64 0], .bool false]) ∧ St w0 w w' g s j := by
 have hmf : ∀ (fn : Fn) (first cap : Array Value) (w : World), (Instr.makeFunc fn first cap).run Tryz.prog w = .ok (.func fn first cap) w := fun _ _ _ _ => rfl
 have hlt := (at_some (by cases sg <;> simp) hc).1
 have HN := Aside0.mk (Nx.new hI hB)
 have c1 := cellS65_1 hI.1
 have hgl := hI.lt
 clear hI hB
 have Hj := Aside0.mk hj
 have Hv := Aside0.mk (hv ▸ number_f sg (s.extract (firstAt sg i).toNat j.toNat))
 have Hw := Aside0.mk hw
 clear hj hv hw
 cases sg with
 | true =>
  simp only [if_true, firstAt] at *
  have hcb : (at_ s i == 7) = true := beq_iff_eq.2 hc
  have hcb1 : (at_ s i == 1) = false := beq_eq_false_iff_ne.2 (by omega)
  have hcb4 : (at_ s i == 4) = false := beq_eq_false_iff_ne.2 (by omega)
  have Hc := Aside0.mk hc
  clear hc
  go_enter Tryz.func29, Tryz.ntmps29
  go_wp2_with fail
  refine (now_at g s i h0 w0 _ HN.out.st.is HN.out.st.bel).mono ?_
  rintro e w2 ⟨rfl, hS2⟩
  have HN2 := Aside0.mk (HN.out.trans hS2)
  clear hS2 HN
  go_wp2_with fail
  refine (now_at g s i h0 w0 _ HN2.out.st.is HN2.out.st.bel).mono ?_
  rintro e w3 ⟨rfl, hS3⟩
  have HN3 := Aside0.mk (HN2.out.trans hS3)
  clear hS3 HN2
  have c1 := HN3.out.st.cell1
  have f1 := blk_frozen HN3.out.st.is.1 1
  go_wp2_with fail
  refine (while_digit g s hs (i + 1) (by omega) (by omega) w0 _ (HN3.out.st.set (i + 1)).is (HN3.out.st.set (i + 1)).bel).mono ?_
  rintro e w4 ⟨rfl, hS4⟩
  have HN4 := Aside0.mk ((HN3.out.trans ((St.start HN3.out.st.is HN3.out.st.bel).set (i + 1))).trans hS4)
  have hr4 := scanTo_range (digitAt s) s.size (i + 1) (by omega)
  rw [Hj.out] at HN4 hr4
  clear hS4 HN3 c1 f1
  have hij : i ≤ j := by omega
  have hp1 : 0 ≤ i + 1 := by omega
  have Hv' : Aside0 (lexer_number.f true (s.extract (i + 1).toNat j.toNat) = some v) := Hv
  generalize hi1 : i + 1 = i1 at *
  have Hi1 := Aside0.mk hi1
  clear hi1
  go_wp2_with fail
  have HN5 := HN4
  clear HN4
  cases v with
  | false =>
   have c0 := HN5.out.st.cell0
   have c1 := HN5.out.st.cell1
   have HQ : ∀ n, Calls Tryz.prog 48 #[.bool true, .string (s.extract i1.toNat j.toNat)] (w4.drewN n) fun e w' => e = .returned (.bool false) ∧ ∃ m, w' = (w4.drewN n).drewN m := fun n => (lexer_number.calls true _ _ _ Hv'.out).mono fun e w' ⟨he, hd⟩ => ⟨he, hd.out⟩
   have HQ' := Aside0.mk HQ
   clear HQ
   go_quiet ((go_at_call 48; exact Calls.quiet_of (HQ'.out _)))
   have HN6 := Aside0.mk (HN5.out.drewN nq)
   clear HN5 c0 c1
   have d0 := blk_cell HN6.out.res 0
   have d1 := blk_cell HN6.out.res 1
   have d2 := blk_cell HN6.out.res 2
   have e0 := blk_frozen HN6.out.res 0
   have e1 := blk_frozen HN6.out.res 1
   have e2 := blk_frozen HN6.out.res 2
   go_wp2_with fail
   have hst := HN6.out.stored0 (.int .i64 0) (.string ⟨#[]⟩) (.int .i64 0)
   exact bodyPost_ret (res18 (v := .bool false) hst.2 _ rfl rfl) rfl ⟨rfl, hst.1⟩
  | true =>
   cases wd with
   | true =>
    have HS := HN5
    go_region_held3 (fun W' => W'.cell? ⟨g, 0, none⟩ = some (.string s) ∧ W'.cell? ⟨g, 1, none⟩ = some (.int .i64 j) ∧ Aside0 (Nx w0 w W' g w.heap.size s j)) (first | exact HS.out.drew.held | exact (HS.out.drewN _).held | exact ((HS.out.drewN _).trans hst).held) (first | (go_at_call 48; refine (lexer_number.calls true _ _ _ Hv'.out).mono ?_; rintro e w' ⟨rfl, ⟨nd, rfl⟩⟩) | (go_at_call 46; refine (named_at g s w0 _ j (by omega) (HS.out.drewN _).st.is (HS.out.drewN _).st.bel).mono ?_; rw [Hw.out]; rintro e w' ⟨rfl, hst⟩))
    all_goals
    have HN6 := Aside0.mk ((HS.out.drewN _).trans hst)
    clear HS HN5
    have d0 := blk_cell HN6.out.res 0
    have d1 := blk_cell HN6.out.res 1
    have d2 := blk_cell HN6.out.res 2
    have e0 := blk_frozen HN6.out.res 0
    have e1 := blk_frozen HN6.out.res 1
    have e2 := blk_frozen HN6.out.res 2
    go_wp2_with fail
    have hst := HN6.out.stored0 (.int .i64 0) (.string ⟨#[]⟩) (.int .i64 0)
    exact bodyPost_ret (res18 (v := .bool false) hst.2 _ rfl rfl) rfl ⟨rfl, hst.1⟩
   | false =>
    have HS := HN5
    go_region_held3 (fun W' => W'.cell? ⟨g, 0, none⟩ = some (.string s) ∧ W'.cell? ⟨g, 1, none⟩ = some (.int .i64 j) ∧ Aside0 (Nx w0 w W' g w.heap.size s j)) (first | exact HS.out.drew.held | exact (HS.out.drewN _).held | exact ((HS.out.drewN _).trans hst).held) (first | (go_at_call 48; refine (lexer_number.calls true _ _ _ Hv'.out).mono ?_; rintro e w' ⟨rfl, ⟨nd, rfl⟩⟩) | (go_at_call 46; refine (named_at g s w0 _ j (by omega) (HS.out.drewN _).st.is (HS.out.drewN _).st.bel).mono ?_; rw [Hw.out]; rintro e w' ⟨rfl, hst⟩))
    all_goals
    have HN6 := Aside0.mk ((HS.out.drewN _).trans hst)
    clear HS HN5 hst
    have c0 := HN6.out.st.cell0
    have c1 := HN6.out.st.cell1
    have d0 := blk_cell HN6.out.res 0
    have d1 := blk_cell HN6.out.res 1
    have d2 := blk_cell HN6.out.res 2
    have e0 := blk_frozen HN6.out.res 0
    have e1 := blk_frozen HN6.out.res 1
    have e2 := blk_frozen HN6.out.res 2
    go_wp2_with fail
    go_still_tail 13, (by kernel_rfl)
    go_wp2_with fail
    have hst := HN6.out.stored (.int .i64 2) (.string (s.extract i.toNat j.toNat)) (.int .i64 i)
    exact bodyPost_ret (res18 (v := .bool true) hst.2 _ rfl rfl) rfl ⟨rfl, hst.1⟩
 | false =>
  simp only [Bool.false_eq_true, if_false, firstAt] at *
  have hcb7 : (at_ s i == 7) = false := beq_eq_false_iff_ne.2 (by omega)
  have hcb : (at_ s i == 2) = true := beq_iff_eq.2 hc
  have hcb1 : (at_ s i == 1) = false := beq_eq_false_iff_ne.2 (by omega)
  have hcb4 : (at_ s i == 4) = false := beq_eq_false_iff_ne.2 (by omega)
  have Hc := Aside0.mk hc
  clear hc
  go_enter Tryz.func29, Tryz.ntmps29
  go_wp2_with fail
  refine (now_at g s i h0 w0 _ HN.out.st.is HN.out.st.bel).mono ?_
  rintro e w2 ⟨rfl, hS2⟩
  have HN2 := Aside0.mk (HN.out.trans hS2)
  clear hS2 HN
  go_wp2_with fail
  refine (now_at g s i h0 w0 _ HN2.out.st.is HN2.out.st.bel).mono ?_
  rintro e w3 ⟨rfl, hS3⟩
  have HN3 := Aside0.mk (HN2.out.trans hS3)
  clear hS3 HN2
  have c1 := HN3.out.st.cell1
  have f1 := blk_frozen HN3.out.st.is.1 1
  go_wp2_with fail
  refine (while_digit g s hs i (by omega) (by omega) w0 _ HN3.out.st.is HN3.out.st.bel).mono ?_
  rintro e w4 ⟨rfl, hS4⟩
  have HN4 := Aside0.mk (HN3.out.trans hS4)
  have hr4 := scanTo_range (digitAt s) s.size i (by omega)
  rw [Hj.out] at HN4 hr4
  clear hS4 HN3 c1 f1
  have Hv' : Aside0 (lexer_number.f false (s.extract i.toNat j.toNat) = some v) := Hv
  go_wp2_with fail
  have HN5 := HN4
  clear HN4
  cases v with
  | false =>
   have c0 := HN5.out.st.cell0
   have c1 := HN5.out.st.cell1
   have HQ : ∀ n, Calls Tryz.prog 48 #[.bool false, .string (s.extract i.toNat j.toNat)] (w4.drewN n) fun e w' => e = .returned (.bool false) ∧ ∃ m, w' = (w4.drewN n).drewN m := fun n => (lexer_number.calls false _ _ _ Hv'.out).mono fun e w' ⟨he, hd⟩ => ⟨he, hd.out⟩
   have HQ' := Aside0.mk HQ
   clear HQ
   go_quiet ((go_at_call 48; exact Calls.quiet_of (HQ'.out _)))
   have HN6 := Aside0.mk (HN5.out.drewN nq)
   clear HN5 c0 c1
   have d0 := blk_cell HN6.out.res 0
   have d1 := blk_cell HN6.out.res 1
   have d2 := blk_cell HN6.out.res 2
   have e0 := blk_frozen HN6.out.res 0
   have e1 := blk_frozen HN6.out.res 1
   have e2 := blk_frozen HN6.out.res 2
   go_wp2_with fail
   have hst := HN6.out.stored0 (.int .i64 0) (.string ⟨#[]⟩) (.int .i64 0)
   exact bodyPost_ret (res18 (v := .bool false) hst.2 _ rfl rfl) rfl ⟨rfl, hst.1⟩
  | true =>
   cases wd with
   | true =>
    have HS := HN5
    go_region_held3 (fun W' => W'.cell? ⟨g, 0, none⟩ = some (.string s) ∧ W'.cell? ⟨g, 1, none⟩ = some (.int .i64 j) ∧ Aside0 (Nx w0 w W' g w.heap.size s j)) (first | exact HS.out.drew.held | exact (HS.out.drewN _).held | exact ((HS.out.drewN _).trans hst).held) (first | (go_at_call 48; refine (lexer_number.calls false _ _ _ Hv'.out).mono ?_; rintro e w' ⟨rfl, ⟨nd, rfl⟩⟩) | (go_at_call 46; refine (named_at g s w0 _ j (by omega) (HS.out.drewN _).st.is (HS.out.drewN _).st.bel).mono ?_; rw [Hw.out]; rintro e w' ⟨rfl, hst⟩))
    all_goals
    have HN6 := Aside0.mk ((HS.out.drewN _).trans hst)
    clear HS HN5
    have d0 := blk_cell HN6.out.res 0
    have d1 := blk_cell HN6.out.res 1
    have d2 := blk_cell HN6.out.res 2
    have e0 := blk_frozen HN6.out.res 0
    have e1 := blk_frozen HN6.out.res 1
    have e2 := blk_frozen HN6.out.res 2
    go_wp2_with fail
    have hst := HN6.out.stored0 (.int .i64 0) (.string ⟨#[]⟩) (.int .i64 0)
    exact bodyPost_ret (res18 (v := .bool false) hst.2 _ rfl rfl) rfl ⟨rfl, hst.1⟩
   | false =>
    have HS := HN5
    go_region_held3 (fun W' => W'.cell? ⟨g, 0, none⟩ = some (.string s) ∧ W'.cell? ⟨g, 1, none⟩ = some (.int .i64 j) ∧ Aside0 (Nx w0 w W' g w.heap.size s j)) (first | exact HS.out.drew.held | exact (HS.out.drewN _).held | exact ((HS.out.drewN _).trans hst).held) (first | (go_at_call 48; refine (lexer_number.calls false _ _ _ Hv'.out).mono ?_; rintro e w' ⟨rfl, ⟨nd, rfl⟩⟩) | (go_at_call 46; refine (named_at g s w0 _ j (by omega) (HS.out.drewN _).st.is (HS.out.drewN _).st.bel).mono ?_; rw [Hw.out]; rintro e w' ⟨rfl, hst⟩))
    all_goals
    have HN6 := Aside0.mk ((HS.out.drewN _).trans hst)
    clear HS HN5 hst
    have c0 := HN6.out.st.cell0
    have c1 := HN6.out.st.cell1
    have d0 := blk_cell HN6.out.res 0
    have d1 := blk_cell HN6.out.res 1
    have d2 := blk_cell HN6.out.res 2
    have e0 := blk_frozen HN6.out.res 0
    have e1 := blk_frozen HN6.out.res 1
    have e2 := blk_frozen HN6.out.res 2
    go_wp2_with fail
    go_still_tail 13, (by kernel_rfl)
    go_wp2_with fail
    have hst := HN6.out.stored (.int .i64 2) (.string (s.extract i.toNat j.toNat)) (.int .i64 i)
    exact bodyPost_ret (res18 (v := .bool true) hst.2 _ rfl rfl) rfl ⟨rfl, hst.1⟩
def nextAt (s : ByteArray) (i : Int) : Int × ByteArray × Int × Bool × Int :=
 if at_ s i = 1 then (1, s.extract i.toNat (scanTo (wordAt s) s.size i).toNat, i, true, scanTo (wordAt s) s.size i)
 else if at_ s i = 4 then (3, s.extract i.toNat (i + 1).toNat, i, true, i + 1)
 else if at_ s i = 7 ∨ at_ s i = 2 then
  let sg : Bool := at_ s i == 7
  let j := scanTo (digitAt s) s.size (firstAt sg i)
  if (numOK sg (s.extract (firstAt sg i).toNat j.toNat) && !wordAt s j) = true then (2, s.extract i.toNat j.toNat, i, true, j) else (0, ⟨#[]⟩, 0, false, j)
 else (0, ⟨#[]⟩, 0, false, i)
def lexer_text_next.f (s : ByteArray) (i : Int) : Option (Int × ByteArray × Int × Bool × ByteArray × Int) :=
 if 0 ≤ i ∧ s.size ≤ 140737488351232 then some ((nextAt s i).1, (nextAt s i).2.1, (nextAt s i).2.2.1, (nextAt s i).2.2.2.1, s, (nextAt s i).2.2.2.2) else none
theorem lexer_text_next.calls (g : Nat) (s0_0 : ByteArray) (s0_1 : Int) (r1 : Int) (r2 : ByteArray) (r3 : Int) (r4 : Bool) (r5 : ByteArray) (r6 : Int) (w0 w : World) (hI : IsS65 w0 w g s0_0 s0_1) (hB : Below w0.heap.size w0 w) (h : lexer_text_next.f s0_0 s0_1 = some (r1, r2, r3, r4, r5, r6)) :
 Calls Tryz.prog 29 #[.pointer (some ⟨g, 0, none⟩)] w fun e w' => e = .returned (.tuple #[.agg #[.int .i64 r1, .string r2, .int .i64 r3], .bool r4]) ∧ IsS65 w0 w' g r5 r6 ∧ Below w0.heap.size w0 w' ∧ KeepBut w w' g none := by
 unfold lexer_text_next.f at h
 split at h
 · rename_i hc
   simp only [Option.some.injEq, Prod.mk.injEq] at h
   obtain ⟨rfl, rfl, rfl, rfl, rfl, rfl⟩ := h
   unfold nextAt
   by_cases h1 : at_ s0_0 s0_1 = 1
   · simp only [if_pos h1]
     exact (next_word g s0_0 hc.2 s0_1 hc.1 h1 w0 w hI hB).mono fun e w' ⟨he, hS⟩ => ⟨he, hS.is, hS.bel, hS.kept⟩
   · simp only [if_neg h1]
     by_cases h4 : at_ s0_0 s0_1 = 4
     · simp only [if_pos h4]
       exact (next_sign g s0_0 hc.2 s0_1 hc.1 h4 w0 w hI hB).mono fun e w' ⟨he, hS⟩ => ⟨he, hS.is, hS.bel, hS.kept⟩
     · simp only [if_neg h4]
       by_cases h7 : at_ s0_0 s0_1 = 7 ∨ at_ s0_0 s0_1 = 2
       · simp only [if_pos h7]
         have hcc : at_ s0_0 s0_1 = if (at_ s0_0 s0_1 == 7) = true then 7 else 2 := by
          rcases h7 with h7 | h7 <;> simp [h7]
         refine (next_number _ _ _ g s0_0 hc.2 s0_1 _ hc.1 hcc rfl rfl rfl w0 w hI hB).mono fun e w' ⟨he, hS⟩ => ?_
         split
         · rename_i hv
           rw [if_pos hv] at he
           exact ⟨he, hS.is, hS.bel, hS.kept⟩
         · rename_i hv
           rw [if_neg hv] at he
           exact ⟨he, hS.is, hS.bel, hS.kept⟩
       · simp only [if_neg h7]
         exact (next_none g s0_0 hc.2 s0_1 hc.1 h1 h4 (fun h => h7 (.inl h)) (fun h => h7 (.inr h)) w0 w hI hB).mono fun e w' ⟨he, hS⟩ => ⟨he, hS.is, hS.bel, hS.kept⟩
 · exact absurd h (by simp)
theorem skipR_range (s : ByteArray) : ∀ (k : Nat) (i : Int), 0 ≤ i → i ≤ (s.size : Int) → i ≤ skipR s k i ∧ skipR s k i ≤ (s.size : Int) := by
 intro k
 induction k with
 | zero => intro i h0 h1; simp only [skipR]; omega
 | succ k ih =>
  intro i h0 h1
  simp only [skipR]
  split
  · have h2 := scanTo_range (lineAt s) s.size i h1
    have h3 := scanTo_range (blankAt s) s.size (scanTo (lineAt s) s.size i) h2.2
    have := ih _ (by omega) h3.2
    omega
  · omega
theorem skipTo_range (s : ByteArray) (i : Int) (h0 : 0 ≤ i) (h1 : i ≤ (s.size : Int)) : i ≤ skipTo s i ∧ skipTo s i ≤ (s.size : Int) := by
 have h2 := scanTo_range (blankAt s) s.size i h1
 have := skipR_range s s.size (scanTo (blankAt s) s.size i) (by omega) h2.2
 unfold skipTo
 omega
theorem word_of_one {s : ByteArray} {i : Int} (h : at_ s i = 1) : wordAt s i = true := by simp [wordAt, h]
theorem numOK_pos {sg : Bool} {d : ByteArray} (h : numOK sg d = true) : 0 < d.size := by
 rcases Nat.eq_zero_or_pos d.size with h0 | h0
 · exfalso
   have hd : d.toList = [] := by rw [ByteArray.toList_eq, Array.eq_empty_of_size_eq_zero (show d.data.size = 0 from h0)]
   have := number_f sg d
   rw [h, lexer_number.f, if_pos hd] at this
   simp at this
 · exact h0
theorem nextAt_range (s : ByteArray) (i : Int) (h0 : 0 ≤ i) (h1 : i ≤ (s.size : Int)) (hok : (nextAt s i).2.2.2.1 = true) : i + 1 ≤ (nextAt s i).2.2.2.2 ∧ (nextAt s i).2.2.2.2 ≤ (s.size : Int) := by
 unfold nextAt at hok ⊢
 by_cases c1 : at_ s i = 1
 · simp only [if_pos c1] at hok ⊢
   have hlt := (at_some (by decide) c1).1
   exact ⟨scanTo_step hlt (word_of_one c1), (scanTo_range _ _ _ h1).2⟩
 · simp only [if_neg c1] at hok ⊢
   by_cases c4 : at_ s i = 4
   · simp only [if_pos c4] at hok ⊢
     have hlt := (at_some (by decide) c4).1
     omega
   · simp only [if_neg c4] at hok ⊢
     by_cases c7 : at_ s i = 7 ∨ at_ s i = 2
     · simp only [if_pos c7] at hok ⊢
       have hlt : i < (s.size : Int) := by rcases c7 with c | c <;> exact (at_some (by decide) c).1
       have hf : i ≤ firstAt (at_ s i == 7) i ∧ firstAt (at_ s i == 7) i ≤ (s.size : Int) := by unfold firstAt; split <;> omega
       generalize firstAt (at_ s i == 7) i = f at *
       have hr := scanTo_range (digitAt s) s.size f hf.2
       generalize scanTo (digitAt s) s.size f = j at *
       split at hok
       · rename_i hc
         rw [if_pos hc]
         simp only [Bool.and_eq_true] at hc
         have hp := numOK_pos hc.1
         rw [ByteArray.size_extract] at hp
         simp only
         omega
       · simp at hok
     · simp only [if_neg c7] at hok
       exact absurd hok (by simp)
def lexGo (s : ByteArray) : Nat → Int → List S67 → List S67 × Int × Int
 | 0, _, acc => (acc, 0, 0)
 | k + 1, i, acc =>
  if i < (s.size : Int) then
   if (nextAt s i).2.2.2.1 = true then lexGo s k (skipTo s (nextAt s i).2.2.2.2) (acc ++ [⟨(nextAt s i).1, (nextAt s i).2.1, (nextAt s i).2.2.1⟩])
   else ([], 100, i)
  else (acc, 0, 0)
def lexB (s : ByteArray) : List S67 × Int × Int := if s.size > 20000 then ([], 2, 0) else lexGo s (s.size + 1) (skipTo s 0) []
def lexer_Lex.f (a0 : ByteArray) : Option (List S67 × Int × Int) := some (lexB a0)
theorem lexer_Lex.calls (a0 : ByteArray) (r1 : List (S67)) (r2 : Int) (r3 : Int) (w : World) (h : lexer_Lex.f a0 = some (r1, r2, r3)) :
 Calls Tryz.prog 17 #[.string a0] w fun e w' => ∃ v0_ : Value, e = .returned (.tuple #[v0_, .int .i64 r2, .int .i64 r3]) ∧ Kd.R k67 67 w' w.heap.size (fun _ => True) v0_ r1 ∧ Below w.heap.size w w' := by
 unfold lexer_Lex.f lexB at h
 have huT := Tryz.underlying67
 by_cases c2 : a0.size > 20000
 · rw [if_pos c2] at h
   simp only [Option.some.injEq, Prod.mk.injEq] at h
   obtain ⟨rfl, rfl, rfl⟩ := h
   have c2b0 : decide (20000 < (a0.size : Int)) = true := decide_eq_true (by omega)
   have c2b1 : decide (20000 < a0.size) = true := decide_eq_true c2
   clear c2
   go_enter Tryz.func17, Tryz.ntmps17
   go_wp2
   go_ret3
   exact ⟨_, rfl, Kd.R_nil _ _ _ _ _, Below.refl _ _⟩
 · rw [if_neg c2] at h
   have c2b0 : decide (20000 < (a0.size : Int)) = false := decide_eq_false (by omega)
   have c2b1 : decide (20000 < a0.size) = false := decide_eq_false c2
   have H := Aside0.mk (Option.some.inj h)
   clear h
   have hsz : a0.size ≤ 20000 := by omega
   clear c2
   go_enter Tryz.func17, Tryz.ntmps17
   go_wp2_with fail
   have hs2 : a0.size ≤ 140737488351232 := by omega
   have HI := Aside0.mk (IsS65.new w w a0 0 (Below.refl _ _))
   have HB := Aside0.mk (below_alloc (Below.refl w.heap.size w) (.cells #[.string a0, .int .i64 0] 65))
   refine (skip_any w.heap.size a0 hs2 0 (by omega) (by omega) w _ HI.out HB.out).mono ?_
   rintro e w1 ⟨rfl, hS1⟩
   have hr := skipTo_range a0 0 (by omega) (by omega)
   have HS1 := Aside0.mk hS1
   clear hS1
   clear HI HB
   have Hg : Aside0 (∃ g : Nat, g = w.heap.size) := ⟨⟨_, rfl⟩⟩
   go_wp2_with fail
   go_loopg [6] (a0.size + 1) (fun kq v wr => ∃ (i : Int) (acc : List S67), Aside0 (0 < kq ∧ ((a0.size : Int) - i).toNat < kq ∧ acc.length + kq ≤ a0.size + 1 ∧ 0 ≤ i ∧ i ≤ (a0.size : Int) ∧ lexGo a0 kq i acc = (r1, r2, r3) ∧ Kd.R k67 67 wr w.heap.size (fun k => k ≠ w.heap.size) v acc ∧ IsS65 w wr w.heap.size a0 i ∧ Below w.heap.size w wr))
   case atStart => exact ⟨skipTo a0 0, [], ⟨by omega, by omega, by simp, by omega, by omega, H.out, Kd.R_nil _ _ _ _ _, HS1.out.is, HS1.out.bel⟩⟩
   case round =>
    clear H HS1
    obtain ⟨i, acc, ⟨hk0, hk, hlen, hi0, hi1, hgo, hR, hI, hB⟩⟩ := hrel
    cases gk with
    | zero => exact absurd hk0 (by omega)
    | succ k =>
     simp only [lexGo] at hgo
     have HR := Aside0.mk hR
     have HI := Aside0.mk hI
     have HB := Aside0.mk hB
     have c0 := cellS65_0 hI.1
     have c1 := cellS65_1 hI.1
     have hgl := hI.lt
     clear hR hI hB
     by_cases c6 : i < (a0.size : Int)
     · rw [if_pos c6] at hgo
       have c6b0 : decide (i < (a0.size : Int)) = true := decide_eq_true c6
       have hnr := nextAt_range a0 i hi0 hi1
       have HN := lexer_text_next.calls w.heap.size a0 i (nextAt a0 i).1 (nextAt a0 i).2.1 (nextAt a0 i).2.2.1 (nextAt a0 i).2.2.2.1 a0 (nextAt a0 i).2.2.2.2 w wr HI.out HB.out (by rw [lexer_text_next.f, if_pos ⟨hi0, hs2⟩])
       generalize nextAt a0 i = x at *
       obtain ⟨x1, x2, x3, x4, x5⟩ := x
       simp only at hgo hnr HN
       have HN' := Aside0.mk HN
       clear HN
       cases x4 with
       | false =>
        rw [if_neg (by simp)] at hgo
        simp only [Prod.mk.injEq] at hgo
        obtain ⟨rfl, rfl, rfl⟩ := hgo
        go_wp2_with fail
        refine HN'.out.mono ?_
        rintro e w2 ⟨rfl, hI2, hB2, hK2⟩
        have HB2 := Aside0.mk hB2
        have hlt2 := hI2.lt
        clear hI2 hB2 hK2
        go_wp2_with fail
        go_ret3
        exact ⟨_, rfl, Kd.R_nil _ _ _ _ _, by repeat (first | exact HB2.out | apply below_alloc)⟩
       | true =>
        rw [if_pos rfl] at hgo
        go_wp2_with fail
        refine HN'.out.mono ?_
        rintro e w2 ⟨rfl, hI2, hB2, hK2⟩
        have HR2 := Aside0.mk (Kd.R_keep HR.out hK2 (fun _ h => h))
        have HI2 := Aside0.mk hI2
        have HB2 := Aside0.mk hB2
        have HW2 := Aside0.mk hI2.lt
        have Hgo := Aside0.mk hgo
        have hn1 : x5 ≤ (a0.size : Int) ∧ i + 1 ≤ x5 := by have := hnr; simp only [forall_const] at this; omega
        have Hlen := Aside0.mk hlen
        clear hI2 hB2 hK2 HR HI HB HN' hgo hnr hlen c0 c1
        go_wp2_with (at_builtin; refine Kd.R_append k67 (w0 := w) w.heap.size rfl (.tmp 39) (.tmp 41) 42 67 (.agg #[(.int .i64 0), (.string ⟨#[]⟩), (.int .i64 0)]) 32 rfl Tryz.underlying42 info67 rfl (by decide) (by omega) u6 acc (⟨x1, x2, x3⟩ : S67) [.int .i64 x1, .string x2, .int .i64 x3] (fun k_ => k_ ≠ w.heap.size) (fun _ => False) rfl (by first | (go_simp; done) | (go_simp; rfl)) ?aP (fun _ hk => hk.elim) ?aF ?aO ?aB ?aS ?aL ?_)
        case aP => exact k67_mkM _ _ _ (⟨x1, x2, x3⟩ : S67)
        case aF => intro k hk; have := HW2.out; simp at hk; omega
        case aO => exact Kd.R_alloc HR2.out _
        case aB => exact below_alloc HB2.out _
        case aS => have := HW2.out; simp; omega
        case aL => have := Hlen.out; omega
        intro v1 w3 hR3 hB3 hg3 hat3
        have hI3 := (HI2.out.alloc (.cells #[.int .i64 x1, .string x2, .int .i64 x3] 67)).grown hg3 (Kd.R_away HR2.out (fun _ h => h))
        have HR3 := Aside0.mk hR3
        have HB3 := Aside0.mk hB3
        have HI3 := Aside0.mk hI3
        clear hI3 hR3 hB3 hg3 hat3 HR2 HI2 HB2 HW2
        go_wp2_with fail
        refine (skip_any w.heap.size a0 hs2 x5 (by omega) (by omega) w _ HI3.out HB3.out).mono ?_
        rintro e w4 ⟨rfl, hS4⟩
        have hr4 := skipTo_range a0 x5 (by omega) (by omega)
        have HS4 := Aside0.mk hS4
        have HR4 := Aside0.mk (Kd.R_keep HR3.out hS4.kept (fun _ h => h))
        clear hS4 HR3 HB3 HI3
        go_wp2_with fail
        go_roundg k
        case measure => omega
        case rel =>
         have := Hlen.out
         exact ⟨skipTo a0 x5, acc ++ [⟨x1, x2, x3⟩], ⟨by omega, by omega, by simp; omega, by omega, by omega, Hgo.out, HR4.out, HS4.out.is, HS4.out.bel⟩⟩
     · rw [if_neg c6] at hgo
       have c6b0 : decide (i < (a0.size : Int)) = false := decide_eq_false c6
       simp only [Prod.mk.injEq] at hgo
       obtain ⟨rfl, rfl, rfl⟩ := hgo
       go_wp2_with fail
       go_ret3
       exact ⟨_, rfl, Kd.R_mono HR.out (fun _ _ => trivial), HB.out⟩
def IsS47 (w0 W : World) (g : Nat) (f0 : List (S67)) (f1 : Int) (f2 : Int) (f3 : List (S40)) (f4 : Bool) : Prop := ∃ A0 c0, ∃ A3 c3, W.heap[g]? = some (.cells #[.slice A0 f0.length c0, .int .i64 f1, .int .i64 f2, .slice A3 f3.length c3, .bool f4] 47 (0, 0)) ∧ w0.heap.size ≤ g ∧ Kd.C k67 w0 A0 f0.length f0 ∧ Kd.C k40 w0 A3 f3.length f3
theorem IsS47.grown {w0 W : World} {g : Nat} {f0 : List (S67)} {f1 : Int} {f2 : Int} {f3 : List (S40)} {f4 : Bool} {W1 : World} {row : Option Nat} (h : IsS47 w0 W g f0 f1 f2 f3 f4) (hw : W.grownBy W1 row) (hne : some g ≠ row) : IsS47 w0 W1 g f0 f1 f2 f3 f4 := by
 obtain ⟨A0, c0, A3, c3, hb, hg, hr0, hr3⟩ := h
 exact ⟨A0, c0, A3, c3, blk_grown hb hw hne, hg, hr0, hr3⟩
theorem IsS47.below {w0 W : World} {g : Nat} {f0 : List (S67)} {f1 : Int} {f2 : Int} {f3 : List (S40)} {f4 : Bool} {W1 : World} (h : IsS47 w0 W g f0 f1 f2 f3 f4) (hw : Below W.heap.size W W1) : IsS47 w0 W1 g f0 f1 f2 f3 f4 := h.grown (grown_of_below hw none) (by simp)
theorem IsS47.alloc {w0 W : World} {g : Nat} {f0 : List (S67)} {f1 : Int} {f2 : Int} {f3 : List (S40)} {f4 : Bool} (h : IsS47 w0 W g f0 f1 f2 f3 f4) (o : Obj) : IsS47 w0 (W.alloc o) g f0 f1 f2 f3 f4 := h.below (below_alloc (Below.refl _ _) o)
theorem IsS47.drewN {w0 W : World} {g : Nat} {f0 : List (S67)} {f1 : Int} {f2 : Int} {f3 : List (S40)} {f4 : Bool} (h : IsS47 w0 W g f0 f1 f2 f3 f4) (m : Nat) : IsS47 w0 (W.drewN m) g f0 f1 f2 f3 f4 := h
theorem IsS47.drew {w0 W : World} {g : Nat} {f0 : List (S67)} {f1 : Int} {f2 : Int} {f3 : List (S40)} {f4 : Bool} (h : IsS47 w0 W g f0 f1 f2 f3 f4) : IsS47 w0 W.drew g f0 f1 f2 f3 f4 := h
theorem IsS47.at_ {w0 W : World} {g : Nat} {f0 : List (S67)} {f1 : Int} {f2 : Int} {f3 : List (S40)} {f4 : Bool} {w' : World} {m : Nat} (hq : W.drewN m = w') (h : IsS47 w0 W g f0 f1 f2 f3 f4) : IsS47 w0 w' g f0 f1 f2 f3 f4 := by subst hq; exact IsS47.drewN h m
theorem IsS47.apart {w0 W : World} {g : Nat} {f0 : List (S67)} {f1 : Int} {f2 : Int} {f3 : List (S40)} {f4 : Bool} {α : Type} {d : Kd α} {e : Nat} {base : Nat} {ok : Nat → Prop} {v : Value} {xs : List α} (h : IsS47 w0 W g f0 f1 f2 f3 f4) (ho : d.R e W base ok v xs) (ht : ∀ q, q ∈ e :: d.E → q ≠ 47) : d.R e W base (fun k => ok k ∧ k ≠ g) v xs := by
 obtain ⟨A0, c0, A3, c3, hb, hg, hr0, hr3⟩ := h
 exact Kd.R_types ho hb ht
theorem IsS47.lt {w0 W : World} {g : Nat} {f0 : List (S67)} {f1 : Int} {f2 : Int} {f3 : List (S40)} {f4 : Bool} (h : IsS47 w0 W g f0 f1 f2 f3 f4) : g < W.heap.size := by
 obtain ⟨A0, c0, A3, c3, hb, hg, hr0, hr3⟩ := h
 exact blk_lt hb
theorem IsS47.ge {w0 W : World} {g : Nat} {f0 : List (S67)} {f1 : Int} {f2 : Int} {f3 : List (S40)} {f4 : Bool} (h : IsS47 w0 W g f0 f1 f2 f3 f4) : w0.heap.size ≤ g := by
 obtain ⟨A0, c0, A3, c3, hb, hg, hr0, hr3⟩ := h
 exact hg
def parser_reader_look.f (s0_0 : List (S67)) (s0_1 : Int) (s0_2 : Int) (s0_3 : List (S40)) (s0_4 : Bool) : Option (Int × ByteArray × Int × Int × Int × Bool) := if (s0_0.length : Int) = 0 then (some (0, (⟨#[]⟩ : ByteArray), s0_1, s0_1, s0_2, s0_4)) else (if 0 < (s0_0.length : Int) then (some ((rd_T67 s0_0 0).f0, (rd_T67 s0_0 0).f1, (rd_T67 s0_0 0).f2, s0_1, s0_2, s0_4)) else (none))
def slices_Index_string_string.l0 : Nat → List ByteArray → ByteArray → Int → Int → Option (Int)
 | 0, _, _, _, _ => none
 | k + 1, x0, x1, x7, x8 => if x8 < x7 then (if 0 ≤ x8 then (if x8 < (x0.length : Int) then (if x1.toList = (rdOf ByteArray.empty x0 x8).toList then (some x8) else (slices_Index_string_string.l0 k x0 x1 x7 (wrap64 (x8 + 1)))) else (none)) else (none)) else (some (-1))
def slices_Index_string_string.f (k : Nat) (l0 : List ByteArray) (a1 : ByteArray) : Option (Int) := slices_Index_string_string.l0 k l0 a1 (l0.length : Int) 0
theorem slices_Index_string_string.mono_l : ∀ k, (∀ y0 y1 y2 y3, LeO (slices_Index_string_string.l0 k y0 y1 y2 y3) (slices_Index_string_string.l0 (k + 1) y0 y1 y2 y3))
 | 0 => fun _ _ _ _ r h => by simp [slices_Index_string_string.l0] at h
 | k + 1 => by
  have ih0 := slices_Index_string_string.mono_l k
  · intro y0 y1 y2 y3
    unfold slices_Index_string_string.l0
    repeat' first
    | (with_reducible exact ih0 _ _ _ _)
    | (with_reducible exact LeO.refl _)
    | (with_reducible exact LeO.none _)
    | (with_reducible refine LeO.ite ?_ ?_)
    | (with_reducible refine LeO.bind ?_ (fun _ => ?_))
    | exact ih0 _ _ _ _
    | exact LeO.none _
    | refine LeO.ite ?_ ?_
    | refine LeO.bind ?_ (fun _ => ?_)
theorem slices_Index_string_string.calls (k : Nat) (A0 : Option Addr) (c0 : Nat) (l0 : List ByteArray) (a1 : ByteArray) (r : Int) (w : World) (hr0 : Kd.C Kd.string w A0 l0.length l0) (hc0 : l0.length ≤ c0) (h : slices_Index_string_string.f k l0 a1 = some r) :
 Calls Tryz.prog 78 #[.slice A0 l0.length c0, .string a1] w fun e w' => e = .returned (.int .i64 r) ∧ Drawn0 w w' := by
 have HR0 := Aside0.mk hr0
 have HC0 := Aside0.mk hc0
 clear hr0 hc0
 have H : (slices_Index_string_string.l0 k l0 a1 (l0.length : Int) 0) = some r := h
 clear h
 have H' := Aside0.mk H
 clear H
 go_enter Tryz.func78, Tryz.ntmps78
 go_wp2
 go_loopg [8] k (fun kq v8 w' => ∃ (x8_1 : Int), v8 = .int .i64 x8_1 ∧ Aside0 (slices_Index_string_string.l0 kq l0 a1 (l0.length : Int) x8_1 = some r) ∧ Aside0 (kq ≤ k) ∧ Drawn0 w w')
 case atStart => exact ⟨(0), (by first | rfl | (simp; done) | (simp [*]; done)), H', ⟨Nat.le_refl _⟩, by repeat (first | exact Drawn0.refl _ | apply Drawn0.step)⟩
 case round =>
  clear H'
  try clear p2
  obtain ⟨x8_1, rfl, HA, HK1, ⟨m1, rfl⟩⟩ := hrel
  cases gk with
  | zero => exact absurd HA.out (by simp [slices_Index_string_string.l0])
  | succ k1 =>
   have H := HA.out
   clear HA
   simp only [slices_Index_string_string.l0] at H
   by_cases c3 : x8_1 < (l0.length : Int)
   · rw [if_pos c3] at H
     have c3b0 : decide (x8_1 < (l0.length : Int)) = true := decide_eq_true c3
     clear c3
     by_cases c4 : 0 ≤ x8_1
     · rw [if_pos c4] at H
       have c4b0 : decide (0 ≤ x8_1) = true := decide_eq_true c4
       clear c4
       by_cases c5 : x8_1 < (l0.length : Int)
       · rw [if_pos c5] at H
         have c5b0 : decide (x8_1 < (l0.length : Int)) = true := decide_eq_true c5
         clear c5
         by_cases c6 : a1.toList = (rdOf ByteArray.empty l0 x8_1).toList
         · rw [if_pos c6] at H
           have c6b0 : (a1.toList == (rdOf ByteArray.empty l0 x8_1).toList) = true := beq_iff_eq.mpr c6
           have c6b1 : (a1.toList != (rdOf ByteArray.empty l0 x8_1).toList) = false := bne_eq_false_iff_eq.mpr c6
           clear c6
           obtain rfl := Option.some.inj H
           have p119 : 0 ≤ (x8_1 : Int) := of_decide_eq_true (by first | (with_reducible assumption) | assumption)
           have q119 : x8_1 < (l0.length : Int) := of_decide_eq_true (by first | (with_reducible assumption) | assumption)
           obtain ⟨ad119, e119, hx119_0⟩ := Kd.at_string HR0.out x8_1 p119 q119
           cases e119
           replace p119 := eq_true p119
           replace q119 := eq_true q119
           go_wp2
           go_ret
           exact ⟨by first | rfl | (simp; done) | (simp [*]; done), by repeat (first | exact Drawn0.refl _ | apply Drawn0.step)⟩
         · rw [if_neg c6] at H
           have c6b0 : (a1.toList == (rdOf ByteArray.empty l0 x8_1).toList) = false := beq_eq_false_iff_ne.mpr c6
           have c6b1 : (a1.toList != (rdOf ByteArray.empty l0 x8_1).toList) = true := bne_iff_ne.mpr c6
           have H' := Aside0.mk H
           clear H
           have p119 : 0 ≤ (x8_1 : Int) := of_decide_eq_true (by first | (with_reducible assumption) | assumption)
           have q119 : x8_1 < (l0.length : Int) := of_decide_eq_true (by first | (with_reducible assumption) | assumption)
           obtain ⟨ad119, e119, hx119_0⟩ := Kd.at_string HR0.out x8_1 p119 q119
           cases e119
           replace p119 := eq_true p119
           replace q119 := eq_true q119
           go_wp2
           go_roundg k1
           case measure => have := HK1.out; omega
           case rel => exact ⟨(wrap64 (x8_1 + 1)), (by first | rfl | (simp; done) | (simp [*]; done)), H', ⟨by have := HK1.out; omega⟩, by repeat (first | exact Drawn0.refl _ | apply Drawn0.step)⟩
       · rw [if_neg c5] at H
         exact absurd H (by simp)
     · rw [if_neg c4] at H
       exact absurd H (by simp)
   · rw [if_neg c3] at H
     have c3b0 : decide (x8_1 < (l0.length : Int)) = false := decide_eq_false c3
     clear c3
     obtain rfl := Option.some.inj H
     go_wp2
     go_ret
     exact ⟨by first | rfl | (simp; done) | (simp [*]; done), by repeat (first | exact Drawn0.refl _ | apply Drawn0.step)⟩
end Go.Proofs.YtonhcfecfifghaaGreatDoor.PPx
