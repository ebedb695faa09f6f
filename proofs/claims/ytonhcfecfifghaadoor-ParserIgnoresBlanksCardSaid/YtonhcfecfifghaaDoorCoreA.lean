/- Part A of the proofs of the parser's laws: the contracts of the functions that the law reaches, and what their plain functions compute. No condition. -/
import Derived.Test.YtonhcfecfifghaaDoorWWords
import Derived.Test.YtonhcfecfifghaaDoorWLast
import Derived.Test.YtonhcfecfifghaaDoorProg
import Derived.Below
import Derived.Deep.Draws
import Derived.Deep.AppendLies
import Derived.Maps.AppendAt
import Derived.OwnWalk
import Derived.Laws.BytesArg
import Derived.Laws.MakeOwn
import Derived.Laws.OwnMore
import Derived.Deep.OwnRows
import Derived.Tactics
import Derived.Lib.ConvBytes
import Derived.Laws.Slices
import Derived.WalkKit
import Derived.KernelRfl
import Derived.RowKit3
import Derived.Deep.LoopGhost
import Derived.Deep.QuietTactic
import Derived.BigQuiet
import Derived.WideLaws
import Derived.Deep.DeepCutAuto
import Derived.Deep.CutBlock
import Derived.Deep.RegionHeld3
import Derived.Laws.Rows
import Derived.Lib.AppendStr
import Derived.ArgAppend
import Derived.Laws.IdiomCopy
import Derived.OrdersHeld
import Derived.Laws.BitsLemmas
import Derived.RowKit
import Derived.StillTailTactics
import Derived.Test.YtonhcfecfifghaaDoorWEqStruct
import Derived.Test.YtonhcfecfifghaaDoorWRepsOne
import Derived.Defers
import Derived.Recover
import Derived.WalkSmall
import Derived.Lib.Atoi
import Derived.Shelf.Strings.Builder1
import Derived.Shelf.Strings.BuilderF
import Derived.Shelf.Strings.BuilderK
import Derived.Shelf.Strconv.Atoi
import Derived.Shelf.Strconv.Itoa0
import Derived.Shelf.Strconv.Itoa1
import Derived.Shelf.LaysM
import Derived.Shelf.Strconv.Itoa2
import Derived.Shelf.Strconv.Itoa3
import Derived.Deep.RegionHeldLaw
namespace Go.Proofs.YtonhcfecfifghaaDoorW.PrintMore
theorem none_here : True := trivial
end Go.Proofs.YtonhcfecfifghaaDoorW.PrintMore
namespace Go.Proofs.YtonhcfecfifghaaDoorW.PrintWords
open Go.RowKit
theorem gate_callee {P : Program} {ops : Array Oper} {rest : List Oper} {o : Oper} {a : Act} {Q : Exit → Act → World → Prop} {W : World} {f : FuncId} {az : Array Operand} {ts : Array TypeId} (_ho : o.op = .call { callee := .value (.func f), args := az, argTypes := ts }) (h : wpList P ops Q (o :: rest) a W) : wpList P ops Q (o :: rest) a W := h
theorem gate_builtin {P : Program} {ops : Array Oper} {rest : List Oper} {o : Oper} {a : Act} {Q : Exit → Act → World → Prop} {W : World} {b : Builtin} {xs : Array Operand} {ts : Array TypeId} (_ho : o.op = .call { callee := .builtin b, args := xs, argTypes := ts }) (h : wpList P ops Q (o :: rest) a W) : wpList P ops Q (o :: rest) a W := h
theorem Kd.R_tight {α : Type} {d : Kd α} {e base : Nat} {ok : Nat → Prop} {w : World} {v : Value} {xs : List α} (hE : d.E = []) (h : Kd.R d e w base ok v xs) : Kd.R d e w base (fun k => some k = v.ownBlock) v xs := by
  obtain ⟨h0, inner, ho, hr⟩ := h
  refine ⟨fun k hk => hk.symm, inner, ho, hr.imp_ (fun p c hp => d.M_mono (fun k hk => ?_) (d.M_bound hp))⟩
  obtain ⟨_, _, _, q, hq, _⟩ := hk
  rw [hE] at hq
  cases hq
theorem Kd.R_grown2 {α : Type} {d : Kd α} {e base : Nat} {ok : Nat → Prop} {W w1 : World} {v : Value} {xs : List α} (h : Kd.R d e W base ok v xs) (hE : d.E = []) {row : Option Nat} (hg : W.grownBy w1 row) (hne : ∀ k, row = some k → some k ≠ v.ownBlock) : Kd.R d e w1 base ok v xs :=
  Kd.R_mono (Kd.R_grown (Kd.R_tight hE h) hg (fun k hk e_ => hne k e_.symm hk)) (fun k hk => h.1 k hk.symm)
end Go.Proofs.YtonhcfecfifghaaDoorW.PrintWords
namespace Go.Proofs.YtonhcfecfifghaaDoor.PPx
open Go.RowKit Go.Proofs.YtonhcfecfifghaaDoorW.PrintWords Go.Proofs.YtonhcfecfifghaaDoorW.PrintLast Go.Proofs.YtonhcfecfifghaaDoorW.PrintMore
set_option linter.unusedVariables false
set_option linter.unusedSimpArgs false
def errW : Option Int → Value
  | none => .nilIface
  | some c => .iface 0 (.int .i64 c)
theorem errW_none : errW none = .nilIface := rfl
theorem errW_some (c : Int) : errW (some c) = .iface 0 (.int .i64 c) := rfl
theorem info9 : (Tryd.prog.info? 9).map (fun i => (i.zero, i.size, i.bytes)) = some (some (.string ⟨#[]⟩), 1, 16) := by kernel_rfl
theorem info44 : (Tryd.prog.info? 44).map (fun i => (i.zero, i.size, i.bytes)) = some (some (.agg #[(.int .i64 0), (.string ⟨#[]⟩), (.int .i64 0)]), 3, 32) := by kernel_rfl
structure S44 where
  f0 : Int
  f1 : ByteArray
  f2 : Int
def z44 : S44 := ⟨(0 : Int), (⟨#[]⟩ : ByteArray), (0 : Int)⟩
def k44 : Kd S44 := Kd.iso (Kd.pair (Kd.int .i64) (Kd.pair Kd.string (Kd.int .i64))) (fun x : S44 => (x.f0, x.f1, x.f2))
theorem k44_open {w : World} {x : S44} {cs : List Value} (h : k44.K w x cs) : cs = [.int .i64 x.f0, .string x.f1, .int .i64 x.f2] := by
  obtain ⟨_, _, rfl, rfl, ⟨_, _, rfl, rfl, rfl⟩⟩ := h
  exact rfl
theorem k44_openM {w : World} {base : Nat} {ok : Nat → Prop} {x : S44} {cs : List Value} (h : k44.M w base ok x cs) : cs = [.int .i64 x.f0, .string x.f1, .int .i64 x.f2] := by
  obtain ⟨_, _, rfl, rfl, ⟨_, _, rfl, rfl, rfl⟩⟩ := h
  exact rfl
theorem k44_mk (w : World) (x : S44)  : k44.K w x [.int .i64 x.f0, .string x.f1, .int .i64 x.f2] := ⟨[.int .i64 x.f0], [.string x.f1, .int .i64 x.f2], rfl, rfl, ⟨[.string x.f1], [.int .i64 x.f2], rfl, rfl, rfl⟩⟩
theorem k44_mkM (w : World) (base : Nat) (ok : Nat → Prop) (x : S44)  : k44.M w base ok x [.int .i64 x.f0, .string x.f1, .int .i64 x.f2] := ⟨[.int .i64 x.f0], [.string x.f1, .int .i64 x.f2], rfl, rfl, ⟨[.string x.f1], [.int .i64 x.f2], rfl, rfl, rfl⟩⟩
def rd_T44 (xs : List S44) (i : Int) : S44 := xs.getD i.toNat z44
theorem at_T44 {w : World} {A : Option Addr} {n : Nat} {xs : List S44} (h : Kd.C k44 w A n xs) (i : Int) (h0 : 0 ≤ i) (h1 : i < n) : ∃ ad , A = some ad ∧ w.cell? (ad.add (i.toNat * 3)) = some (.int .i64 (rd_T44 xs i).f0) ∧ w.cell? ⟨(ad.add (i.toNat * 3)).block, (ad.add (i.toNat * 3)).off + 1, none⟩ = some (.string (rd_T44 xs i).f1) ∧ w.cell? ⟨(ad.add (i.toNat * 3)).block, (ad.add (i.toNat * 3)).off + 2, none⟩ = some (.int .i64 (rd_T44 xs i).f2) := by
  obtain ⟨ad, c, e, _, hK, hc0⟩ := Kd.C_get h z44 i h0 h1
  have hc : ∀ j u, c[j]? = some u → w.cell? (ad.add (i.toNat * 3 + j)) = some u := hc0
  obtain rfl := k44_open hK
  exact ⟨ad, e, hc 0 _ rfl, by rw [← add_field _ _ 1 (by omega)]; exact hc 1 _ rfl, by rw [← add_field _ _ 2 (by omega)]; exact hc 2 _ rfl⟩
structure S52 where
  f0 : Int
  f1 : Int
  f2 : Int
def z52 : S52 := ⟨(0 : Int), (0 : Int), (0 : Int)⟩
def k52 : Kd S52 := Kd.iso (Kd.pair (Kd.int .i64) (Kd.pair (Kd.int .i64) (Kd.int .i64))) (fun x : S52 => (x.f0, x.f1, x.f2))
theorem k52_open {w : World} {x : S52} {cs : List Value} (h : k52.K w x cs) : cs = [.int .i64 x.f0, .int .i64 x.f1, .int .i64 x.f2] := by
  obtain ⟨_, _, rfl, rfl, ⟨_, _, rfl, rfl, rfl⟩⟩ := h
  exact rfl
theorem k52_openM {w : World} {base : Nat} {ok : Nat → Prop} {x : S52} {cs : List Value} (h : k52.M w base ok x cs) : cs = [.int .i64 x.f0, .int .i64 x.f1, .int .i64 x.f2] := by
  obtain ⟨_, _, rfl, rfl, ⟨_, _, rfl, rfl, rfl⟩⟩ := h
  exact rfl
theorem k52_mk (w : World) (x : S52)  : k52.K w x [.int .i64 x.f0, .int .i64 x.f1, .int .i64 x.f2] := ⟨[.int .i64 x.f0], [.int .i64 x.f1, .int .i64 x.f2], rfl, rfl, ⟨[.int .i64 x.f1], [.int .i64 x.f2], rfl, rfl, rfl⟩⟩
theorem k52_mkM (w : World) (base : Nat) (ok : Nat → Prop) (x : S52)  : k52.M w base ok x [.int .i64 x.f0, .int .i64 x.f1, .int .i64 x.f2] := ⟨[.int .i64 x.f0], [.int .i64 x.f1, .int .i64 x.f2], rfl, rfl, ⟨[.int .i64 x.f1], [.int .i64 x.f2], rfl, rfl, rfl⟩⟩
def rd_T52 (xs : List S52) (i : Int) : S52 := xs.getD i.toNat z52
theorem at_T52 {w : World} {A : Option Addr} {n : Nat} {xs : List S52} (h : Kd.C k52 w A n xs) (i : Int) (h0 : 0 ≤ i) (h1 : i < n) : ∃ ad , A = some ad ∧ w.cell? (ad.add (i.toNat * 3)) = some (.int .i64 (rd_T52 xs i).f0) ∧ w.cell? ⟨(ad.add (i.toNat * 3)).block, (ad.add (i.toNat * 3)).off + 1, none⟩ = some (.int .i64 (rd_T52 xs i).f1) ∧ w.cell? ⟨(ad.add (i.toNat * 3)).block, (ad.add (i.toNat * 3)).off + 2, none⟩ = some (.int .i64 (rd_T52 xs i).f2) := by
  obtain ⟨ad, c, e, _, hK, hc0⟩ := Kd.C_get h z52 i h0 h1
  have hc : ∀ j u, c[j]? = some u → w.cell? (ad.add (i.toNat * 3 + j)) = some u := hc0
  obtain rfl := k52_open hK
  exact ⟨ad, e, hc 0 _ rfl, by rw [← add_field _ _ 1 (by omega)]; exact hc 1 _ rfl, by rw [← add_field _ _ 2 (by omega)]; exact hc 2 _ rfl⟩
structure S53 where
  f0 : S52
  f1 : S52
def z53 : S53 := ⟨z52, z52⟩
def k53 : Kd S53 := Kd.iso (Kd.pair k52 k52) (fun x : S53 => (x.f0, x.f1))
theorem k53_open {w : World} {x : S53} {cs : List Value} (h : k53.K w x cs) : cs = [.int .i64 x.f0.f0, .int .i64 x.f0.f1, .int .i64 x.f0.f2, .int .i64 x.f1.f0, .int .i64 x.f1.f1, .int .i64 x.f1.f2] := by
  obtain ⟨_, _, rfl, s0, s3⟩ := h
  obtain rfl := k52_open s0
  obtain rfl := k52_open s3
  exact rfl
theorem k53_openM {w : World} {base : Nat} {ok : Nat → Prop} {x : S53} {cs : List Value} (h : k53.M w base ok x cs) : cs = [.int .i64 x.f0.f0, .int .i64 x.f0.f1, .int .i64 x.f0.f2, .int .i64 x.f1.f0, .int .i64 x.f1.f1, .int .i64 x.f1.f2] := by
  obtain ⟨_, _, rfl, s0, s3⟩ := h
  obtain rfl := k52_openM s0
  obtain rfl := k52_openM s3
  exact rfl
theorem k53_mk (w : World) (x : S53)  : k53.K w x [.int .i64 x.f0.f0, .int .i64 x.f0.f1, .int .i64 x.f0.f2, .int .i64 x.f1.f0, .int .i64 x.f1.f1, .int .i64 x.f1.f2] := ⟨[.int .i64 x.f0.f0, .int .i64 x.f0.f1, .int .i64 x.f0.f2], [.int .i64 x.f1.f0, .int .i64 x.f1.f1, .int .i64 x.f1.f2], rfl, (k52_mk w x.f0 ), (k52_mk w x.f1 )⟩
theorem k53_mkM (w : World) (base : Nat) (ok : Nat → Prop) (x : S53)  : k53.M w base ok x [.int .i64 x.f0.f0, .int .i64 x.f0.f1, .int .i64 x.f0.f2, .int .i64 x.f1.f0, .int .i64 x.f1.f1, .int .i64 x.f1.f2] := ⟨[.int .i64 x.f0.f0, .int .i64 x.f0.f1, .int .i64 x.f0.f2], [.int .i64 x.f1.f0, .int .i64 x.f1.f1, .int .i64 x.f1.f2], rfl, (k52_mkM w base ok x.f0 ), (k52_mkM w base ok x.f1 )⟩
def rd_T53 (xs : List S53) (i : Int) : S53 := xs.getD i.toNat z53
theorem at_T53 {w : World} {A : Option Addr} {n : Nat} {xs : List S53} (h : Kd.C k53 w A n xs) (i : Int) (h0 : 0 ≤ i) (h1 : i < n) : ∃ ad , A = some ad ∧ w.cell? (ad.add (i.toNat * 6)) = some (.int .i64 (rd_T53 xs i).f0.f0) ∧ w.cell? ⟨(ad.add (i.toNat * 6)).block, (ad.add (i.toNat * 6)).off + 1, none⟩ = some (.int .i64 (rd_T53 xs i).f0.f1) ∧ w.cell? ⟨(ad.add (i.toNat * 6)).block, (ad.add (i.toNat * 6)).off + 2, none⟩ = some (.int .i64 (rd_T53 xs i).f0.f2) ∧ w.cell? ⟨(ad.add (i.toNat * 6)).block, (ad.add (i.toNat * 6)).off + 3, none⟩ = some (.int .i64 (rd_T53 xs i).f1.f0) ∧ w.cell? ⟨(ad.add (i.toNat * 6)).block, (ad.add (i.toNat * 6)).off + 4, none⟩ = some (.int .i64 (rd_T53 xs i).f1.f1) ∧ w.cell? ⟨(ad.add (i.toNat * 6)).block, (ad.add (i.toNat * 6)).off + 5, none⟩ = some (.int .i64 (rd_T53 xs i).f1.f2) := by
  obtain ⟨ad, c, e, _, hK, hc0⟩ := Kd.C_get h z53 i h0 h1
  have hc : ∀ j u, c[j]? = some u → w.cell? (ad.add (i.toNat * 6 + j)) = some u := hc0
  obtain rfl := k53_open hK
  exact ⟨ad, e, hc 0 _ rfl, by rw [← add_field _ _ 1 (by omega)]; exact hc 1 _ rfl, by rw [← add_field _ _ 2 (by omega)]; exact hc 2 _ rfl, by rw [← add_field _ _ 3 (by omega)]; exact hc 3 _ rfl, by rw [← add_field _ _ 4 (by omega)]; exact hc 4 _ rfl, by rw [← add_field _ _ 5 (by omega)]; exact hc 5 _ rfl⟩
structure S55 where
  f0 : Int
  f1 : Int
  f2 : ByteArray
  f3 : ByteArray
  f4 : Int
  f5 : S53
  f6 : (List S55)
  f7 : Int
def z55 : S55 := ⟨(0 : Int), (0 : Int), (⟨#[]⟩ : ByteArray), (⟨#[]⟩ : ByteArray), (0 : Int), z53, ([] : List S55), (0 : Int)⟩
def F55 (d : Kd S55) : Kd S55 := Kd.iso (Kd.pair (Kd.int .i64) (Kd.pair (Kd.int .i64) (Kd.pair Kd.string (Kd.pair Kd.string (Kd.pair (Kd.int .i64) (Kd.pair k53 (Kd.pair (Kd.slice 55 d) (Kd.int .i64)))))))) (fun x : S55 => (x.f0, x.f1, x.f2, x.f3, x.f4, x.f5, x.f6, x.f7))
theorem mono55 : Kd.Mono F55 := Kd.mono_iso _ (Kd.mono_pair (Kd.mono_const _) (Kd.mono_pair (Kd.mono_const _) (Kd.mono_pair (Kd.mono_const _) (Kd.mono_pair (Kd.mono_const _) (Kd.mono_pair (Kd.mono_const _) (Kd.mono_pair (Kd.mono_const _) (Kd.mono_pair (Kd.mono_slice 55 Kd.mono_id) (Kd.mono_const _))))))))
theorem sub55 : Kd.Sub F55 [55] := Kd.sub_iso _ (Kd.sub_pair (Kd.sub_const _ (by decide)) (Kd.sub_pair (Kd.sub_const _ (by decide)) (Kd.sub_pair (Kd.sub_const _ (by decide)) (Kd.sub_pair (Kd.sub_const _ (by decide)) (Kd.sub_pair (Kd.sub_const _ (by decide)) (Kd.sub_pair (Kd.sub_const _ (by decide)) (Kd.sub_pair (Kd.sub_slice 55 (by decide) Kd.sub_id) (Kd.sub_const _ (by decide)))))))))
theorem sz55 : ∀ n, (Kd.upto F55 13 [55] n).sz = 13 := Kd.upto_sz (fun _ => rfl)
def k55 : Kd S55 := Kd.fix F55 13 [55] sz55 (Kd.upto_E sub55)
theorem k55_open {w : World} {x : S55} {cs : List Value} (h : k55.K w x cs) : ∃ A11 c11, cs = [.int .i64 x.f0, .int .i64 x.f1, .string x.f2, .string x.f3, .int .i64 x.f4, .int .i64 x.f5.f0.f0, .int .i64 x.f5.f0.f1, .int .i64 x.f5.f0.f2, .int .i64 x.f5.f1.f0, .int .i64 x.f5.f1.f1, .int .i64 x.f5.f1.f2, .slice A11 x.f6.length c11, .int .i64 x.f7] ∧ x.f6.length ≤ c11 ∧ k55.C w A11 x.f6.length x.f6 := by
  obtain ⟨n, h⟩ := h
  cases n with
  | zero => exact h.elim
  | succ n =>
    obtain ⟨_, _, rfl, rfl, ⟨_, _, rfl, rfl, ⟨_, _, rfl, rfl, ⟨_, _, rfl, rfl, ⟨_, _, rfl, rfl, ⟨_, _, rfl, s5, ⟨_, _, rfl, ⟨A11, c11, rfl, l11, g11⟩, rfl⟩⟩⟩⟩⟩⟩⟩ := h
    obtain rfl := k53_open s5
    exact ⟨A11, c11, rfl, l11, Kd.fix_C g11⟩
theorem k55_openM {w : World} {base : Nat} {ok : Nat → Prop} {x : S55} {cs : List Value} (h : k55.M w base ok x cs) : ∃ v11, cs = [.int .i64 x.f0, .int .i64 x.f1, .string x.f2, .string x.f3, .int .i64 x.f4, .int .i64 x.f5.f0.f0, .int .i64 x.f5.f0.f1, .int .i64 x.f5.f0.f2, .int .i64 x.f5.f1.f0, .int .i64 x.f5.f1.f1, .int .i64 x.f5.f1.f2, v11, .int .i64 x.f7] ∧ k55.R 55 w base ok v11 x.f6 := by
  obtain ⟨n, h⟩ := h
  cases n with
  | zero => exact h.elim
  | succ n =>
    obtain ⟨_, _, rfl, rfl, ⟨_, _, rfl, rfl, ⟨_, _, rfl, rfl, ⟨_, _, rfl, rfl, ⟨_, _, rfl, rfl, ⟨_, _, rfl, s5, ⟨_, _, rfl, ⟨v11, rfl, g11⟩, rfl⟩⟩⟩⟩⟩⟩⟩ := h
    obtain rfl := k53_openM s5
    exact ⟨v11, rfl, Kd.fix_R g11⟩
theorem k55_mk (w : World) (x : S55) {A11 : Option Addr} {c11 : Nat} (l11 : x.f6.length ≤ c11) (g11 : k55.C w A11 x.f6.length x.f6) : k55.K w x [.int .i64 x.f0, .int .i64 x.f1, .string x.f2, .string x.f3, .int .i64 x.f4, .int .i64 x.f5.f0.f0, .int .i64 x.f5.f0.f1, .int .i64 x.f5.f0.f2, .int .i64 x.f5.f1.f0, .int .i64 x.f5.f1.f1, .int .i64 x.f5.f1.f2, .slice A11 x.f6.length c11, .int .i64 x.f7] := by
  obtain ⟨n11, q11⟩ := Kd.fix_C_back mono55 g11
  have r11 := Kd.upto_C_le mono55 sz55 (show n11 ≤ n11 by omega) q11
  exact ⟨n11 + 1, ⟨[.int .i64 x.f0], [.int .i64 x.f1, .string x.f2, .string x.f3, .int .i64 x.f4, .int .i64 x.f5.f0.f0, .int .i64 x.f5.f0.f1, .int .i64 x.f5.f0.f2, .int .i64 x.f5.f1.f0, .int .i64 x.f5.f1.f1, .int .i64 x.f5.f1.f2, .slice A11 x.f6.length c11, .int .i64 x.f7], rfl, rfl, ⟨[.int .i64 x.f1], [.string x.f2, .string x.f3, .int .i64 x.f4, .int .i64 x.f5.f0.f0, .int .i64 x.f5.f0.f1, .int .i64 x.f5.f0.f2, .int .i64 x.f5.f1.f0, .int .i64 x.f5.f1.f1, .int .i64 x.f5.f1.f2, .slice A11 x.f6.length c11, .int .i64 x.f7], rfl, rfl, ⟨[.string x.f2], [.string x.f3, .int .i64 x.f4, .int .i64 x.f5.f0.f0, .int .i64 x.f5.f0.f1, .int .i64 x.f5.f0.f2, .int .i64 x.f5.f1.f0, .int .i64 x.f5.f1.f1, .int .i64 x.f5.f1.f2, .slice A11 x.f6.length c11, .int .i64 x.f7], rfl, rfl, ⟨[.string x.f3], [.int .i64 x.f4, .int .i64 x.f5.f0.f0, .int .i64 x.f5.f0.f1, .int .i64 x.f5.f0.f2, .int .i64 x.f5.f1.f0, .int .i64 x.f5.f1.f1, .int .i64 x.f5.f1.f2, .slice A11 x.f6.length c11, .int .i64 x.f7], rfl, rfl, ⟨[.int .i64 x.f4], [.int .i64 x.f5.f0.f0, .int .i64 x.f5.f0.f1, .int .i64 x.f5.f0.f2, .int .i64 x.f5.f1.f0, .int .i64 x.f5.f1.f1, .int .i64 x.f5.f1.f2, .slice A11 x.f6.length c11, .int .i64 x.f7], rfl, rfl, ⟨[.int .i64 x.f5.f0.f0, .int .i64 x.f5.f0.f1, .int .i64 x.f5.f0.f2, .int .i64 x.f5.f1.f0, .int .i64 x.f5.f1.f1, .int .i64 x.f5.f1.f2], [.slice A11 x.f6.length c11, .int .i64 x.f7], rfl, (k53_mk w x.f5 ), ⟨[.slice A11 x.f6.length c11], [.int .i64 x.f7], rfl, ⟨A11, c11, rfl, l11, r11⟩, rfl⟩⟩⟩⟩⟩⟩⟩⟩
theorem k55_mkM (w : World) (base : Nat) (ok : Nat → Prop) (x : S55) {v11 : Value} (g11 : k55.R 55 w base ok v11 x.f6) : k55.M w base ok x [.int .i64 x.f0, .int .i64 x.f1, .string x.f2, .string x.f3, .int .i64 x.f4, .int .i64 x.f5.f0.f0, .int .i64 x.f5.f0.f1, .int .i64 x.f5.f0.f2, .int .i64 x.f5.f1.f0, .int .i64 x.f5.f1.f1, .int .i64 x.f5.f1.f2, v11, .int .i64 x.f7] := by
  obtain ⟨n11, q11⟩ := Kd.fix_R_back mono55 g11
  have r11 := Kd.upto_R_le mono55 sz55 (show n11 ≤ n11 by omega) q11
  exact ⟨n11 + 1, ⟨[.int .i64 x.f0], [.int .i64 x.f1, .string x.f2, .string x.f3, .int .i64 x.f4, .int .i64 x.f5.f0.f0, .int .i64 x.f5.f0.f1, .int .i64 x.f5.f0.f2, .int .i64 x.f5.f1.f0, .int .i64 x.f5.f1.f1, .int .i64 x.f5.f1.f2, v11, .int .i64 x.f7], rfl, rfl, ⟨[.int .i64 x.f1], [.string x.f2, .string x.f3, .int .i64 x.f4, .int .i64 x.f5.f0.f0, .int .i64 x.f5.f0.f1, .int .i64 x.f5.f0.f2, .int .i64 x.f5.f1.f0, .int .i64 x.f5.f1.f1, .int .i64 x.f5.f1.f2, v11, .int .i64 x.f7], rfl, rfl, ⟨[.string x.f2], [.string x.f3, .int .i64 x.f4, .int .i64 x.f5.f0.f0, .int .i64 x.f5.f0.f1, .int .i64 x.f5.f0.f2, .int .i64 x.f5.f1.f0, .int .i64 x.f5.f1.f1, .int .i64 x.f5.f1.f2, v11, .int .i64 x.f7], rfl, rfl, ⟨[.string x.f3], [.int .i64 x.f4, .int .i64 x.f5.f0.f0, .int .i64 x.f5.f0.f1, .int .i64 x.f5.f0.f2, .int .i64 x.f5.f1.f0, .int .i64 x.f5.f1.f1, .int .i64 x.f5.f1.f2, v11, .int .i64 x.f7], rfl, rfl, ⟨[.int .i64 x.f4], [.int .i64 x.f5.f0.f0, .int .i64 x.f5.f0.f1, .int .i64 x.f5.f0.f2, .int .i64 x.f5.f1.f0, .int .i64 x.f5.f1.f1, .int .i64 x.f5.f1.f2, v11, .int .i64 x.f7], rfl, rfl, ⟨[.int .i64 x.f5.f0.f0, .int .i64 x.f5.f0.f1, .int .i64 x.f5.f0.f2, .int .i64 x.f5.f1.f0, .int .i64 x.f5.f1.f1, .int .i64 x.f5.f1.f2], [v11, .int .i64 x.f7], rfl, (k53_mkM w base ok x.f5 ), ⟨[v11], [.int .i64 x.f7], rfl, ⟨v11, rfl, r11⟩, rfl⟩⟩⟩⟩⟩⟩⟩⟩
def rd_T55 (xs : List S55) (i : Int) : S55 := xs.getD i.toNat z55
theorem at_T55 {w : World} {A : Option Addr} {n : Nat} {xs : List S55} (h : Kd.C k55 w A n xs) (i : Int) (h0 : 0 ≤ i) (h1 : i < n) : ∃ ad A11 c11, A = some ad ∧ w.cell? (ad.add (i.toNat * 13)) = some (.int .i64 (rd_T55 xs i).f0) ∧ w.cell? ⟨(ad.add (i.toNat * 13)).block, (ad.add (i.toNat * 13)).off + 1, none⟩ = some (.int .i64 (rd_T55 xs i).f1) ∧ w.cell? ⟨(ad.add (i.toNat * 13)).block, (ad.add (i.toNat * 13)).off + 2, none⟩ = some (.string (rd_T55 xs i).f2) ∧ w.cell? ⟨(ad.add (i.toNat * 13)).block, (ad.add (i.toNat * 13)).off + 3, none⟩ = some (.string (rd_T55 xs i).f3) ∧ w.cell? ⟨(ad.add (i.toNat * 13)).block, (ad.add (i.toNat * 13)).off + 4, none⟩ = some (.int .i64 (rd_T55 xs i).f4) ∧ w.cell? ⟨(ad.add (i.toNat * 13)).block, (ad.add (i.toNat * 13)).off + 5, none⟩ = some (.int .i64 (rd_T55 xs i).f5.f0.f0) ∧ w.cell? ⟨(ad.add (i.toNat * 13)).block, (ad.add (i.toNat * 13)).off + 6, none⟩ = some (.int .i64 (rd_T55 xs i).f5.f0.f1) ∧ w.cell? ⟨(ad.add (i.toNat * 13)).block, (ad.add (i.toNat * 13)).off + 7, none⟩ = some (.int .i64 (rd_T55 xs i).f5.f0.f2) ∧ w.cell? ⟨(ad.add (i.toNat * 13)).block, (ad.add (i.toNat * 13)).off + 8, none⟩ = some (.int .i64 (rd_T55 xs i).f5.f1.f0) ∧ w.cell? ⟨(ad.add (i.toNat * 13)).block, (ad.add (i.toNat * 13)).off + 9, none⟩ = some (.int .i64 (rd_T55 xs i).f5.f1.f1) ∧ w.cell? ⟨(ad.add (i.toNat * 13)).block, (ad.add (i.toNat * 13)).off + 10, none⟩ = some (.int .i64 (rd_T55 xs i).f5.f1.f2) ∧ w.cell? ⟨(ad.add (i.toNat * 13)).block, (ad.add (i.toNat * 13)).off + 11, none⟩ = some (.slice A11 (rd_T55 xs i).f6.length c11) ∧ w.cell? ⟨(ad.add (i.toNat * 13)).block, (ad.add (i.toNat * 13)).off + 12, none⟩ = some (.int .i64 (rd_T55 xs i).f7) ∧ (rd_T55 xs i).f6.length ≤ c11 ∧ k55.C w A11 (rd_T55 xs i).f6.length (rd_T55 xs i).f6 := by
  obtain ⟨ad, c, e, _, hK, hc0⟩ := Kd.C_get h z55 i h0 h1
  have hc : ∀ j u, c[j]? = some u → w.cell? (ad.add (i.toNat * 13 + j)) = some u := hc0
  obtain ⟨A11, c11, rfl, l11, g11⟩ := k55_open hK
  exact ⟨ad, A11, c11, e, hc 0 _ rfl, by rw [← add_field _ _ 1 (by omega)]; exact hc 1 _ rfl, by rw [← add_field _ _ 2 (by omega)]; exact hc 2 _ rfl, by rw [← add_field _ _ 3 (by omega)]; exact hc 3 _ rfl, by rw [← add_field _ _ 4 (by omega)]; exact hc 4 _ rfl, by rw [← add_field _ _ 5 (by omega)]; exact hc 5 _ rfl, by rw [← add_field _ _ 6 (by omega)]; exact hc 6 _ rfl, by rw [← add_field _ _ 7 (by omega)]; exact hc 7 _ rfl, by rw [← add_field _ _ 8 (by omega)]; exact hc 8 _ rfl, by rw [← add_field _ _ 9 (by omega)]; exact hc 9 _ rfl, by rw [← add_field _ _ 10 (by omega)]; exact hc 10 _ rfl, by rw [← add_field _ _ 11 (by omega)]; exact hc 11 _ rfl, by rw [← add_field _ _ 12 (by omega)]; exact hc 12 _ rfl, l11, g11⟩
structure S35 where
  f0 : Int
  f1 : Int
def z35 : S35 := ⟨(0 : Int), (0 : Int)⟩
def k35 : Kd S35 := Kd.iso (Kd.pair (Kd.int .i64) (Kd.int .i64)) (fun x : S35 => (x.f0, x.f1))
theorem k35_open {w : World} {x : S35} {cs : List Value} (h : k35.K w x cs) : cs = [.int .i64 x.f0, .int .i64 x.f1] := by
  obtain ⟨_, _, rfl, rfl, rfl⟩ := h
  exact rfl
theorem k35_openM {w : World} {base : Nat} {ok : Nat → Prop} {x : S35} {cs : List Value} (h : k35.M w base ok x cs) : cs = [.int .i64 x.f0, .int .i64 x.f1] := by
  obtain ⟨_, _, rfl, rfl, rfl⟩ := h
  exact rfl
theorem k35_mk (w : World) (x : S35)  : k35.K w x [.int .i64 x.f0, .int .i64 x.f1] := ⟨[.int .i64 x.f0], [.int .i64 x.f1], rfl, rfl, rfl⟩
theorem k35_mkM (w : World) (base : Nat) (ok : Nat → Prop) (x : S35)  : k35.M w base ok x [.int .i64 x.f0, .int .i64 x.f1] := ⟨[.int .i64 x.f0], [.int .i64 x.f1], rfl, rfl, rfl⟩
def rd_T35 (xs : List S35) (i : Int) : S35 := xs.getD i.toNat z35
theorem at_T35 {w : World} {A : Option Addr} {n : Nat} {xs : List S35} (h : Kd.C k35 w A n xs) (i : Int) (h0 : 0 ≤ i) (h1 : i < n) : ∃ ad , A = some ad ∧ w.cell? (ad.add (i.toNat * 2)) = some (.int .i64 (rd_T35 xs i).f0) ∧ w.cell? ⟨(ad.add (i.toNat * 2)).block, (ad.add (i.toNat * 2)).off + 1, none⟩ = some (.int .i64 (rd_T35 xs i).f1) := by
  obtain ⟨ad, c, e, _, hK, hc0⟩ := Kd.C_get h z35 i h0 h1
  have hc : ∀ j u, c[j]? = some u → w.cell? (ad.add (i.toNat * 2 + j)) = some u := hc0
  obtain rfl := k35_open hK
  exact ⟨ad, e, hc 0 _ rfl, by rw [← add_field _ _ 1 (by omega)]; exact hc 1 _ rfl⟩
end Go.Proofs.YtonhcfecfifghaaDoor.PPx
namespace Go.Proofs.YtonhcfecfifghaaDoor.PPx
open Go.RowKit Go.Proofs.YtonhcfecfifghaaDoorW.PrintWords Go.Proofs.YtonhcfecfifghaaDoorW.PrintLast Go.Proofs.YtonhcfecfifghaaDoorW.PrintMore
set_option linter.unusedVariables false
set_option linter.unusedSimpArgs false
def parser_small.f (a0 : Int) : Option (Bool) := if a0 > (-1000000000) then (some (decide (a0 < 1000000000))) else (some false)
set_option maxHeartbeats 8000000 in
set_option maxRecDepth 100000 in
theorem parser_small.calls (a0 : Int) (r : Bool) (w : World) (h : parser_small.f a0 = some r) :
    Calls Tryd.prog 43 #[.int .i64 a0] w fun e w' => e = .returned (.bool r) ∧ Drawn0 w w' := by
  have H : (if a0 > (-1000000000) then (some (decide (a0 < 1000000000))) else (some false)) = some r := h
  clear h
  by_cases c2 : a0 > (-1000000000)
  · rw [if_pos c2] at H
    have c2b0 : decide ((-1000000000) < a0) = true := decide_eq_true c2
    clear c2
    obtain rfl := Option.some.inj H
    go_enter Tryd.func43, Tryd.ntmps43
    go_wp2
    go_ret
    exact ⟨by first | rfl | (simp; done) | (simp [*]; done), by repeat (first | exact Drawn0.refl _ | apply Drawn0.step)⟩
  · rw [if_neg c2] at H
    have c2b0 : decide ((-1000000000) < a0) = false := decide_eq_false c2
    clear c2
    obtain rfl := Option.some.inj H
    go_enter Tryd.func43, Tryd.ntmps43
    go_wp2
    go_ret
    exact ⟨by first | rfl | (simp; done) | (simp [*]; done), by repeat (first | exact Drawn0.refl _ | apply Drawn0.step)⟩
/-- A state of type 70 at block g of W; what its slices lead to came in by w0. -/
def IsS70 (w0 W : World) (g : Nat) (f0 : ByteArray) (f1 : Int) : Prop := W.heap[g]? = some (.cells #[.string f0, .int .i64 f1] 70 (0, 0)) ∧ w0.heap.size ≤ g
theorem IsS70.grown {w0 W : World} {g : Nat} {f0 : ByteArray} {f1 : Int} {W1 : World} {row : Option Nat} (h : IsS70 w0 W g f0 f1) (hw : W.grownBy W1 row) (hne : some g ≠ row) : IsS70 w0 W1 g f0 f1 := by
  obtain ⟨hb, hg⟩ := h
  exact ⟨blk_grown hb hw hne, hg⟩
theorem IsS70.fresh {w0 W : World} {g : Nat} {f0 : ByteArray} {f1 : Int} (h : IsS70 w0 W g f0 f1) : ∀ k, W.heap.size ≤ k → k ≠ g := by
  obtain ⟨hb, hg⟩ := h
  exact Kd.freshB hb
theorem IsS70.below {w0 W : World} {g : Nat} {f0 : ByteArray} {f1 : Int} {W1 : World} (h : IsS70 w0 W g f0 f1) (hw : Below W.heap.size W W1) : IsS70 w0 W1 g f0 f1 := h.grown (grown_of_below hw none) (by simp)
theorem IsS70.alloc {w0 W : World} {g : Nat} {f0 : ByteArray} {f1 : Int} (h : IsS70 w0 W g f0 f1) (o : Obj) : IsS70 w0 (W.alloc o) g f0 f1 := h.below (below_alloc (Below.refl _ _) o)
theorem IsS70.drewN {w0 W : World} {g : Nat} {f0 : ByteArray} {f1 : Int} (h : IsS70 w0 W g f0 f1) (m : Nat) : IsS70 w0 (W.drewN m) g f0 f1 := h
theorem IsS70.drew {w0 W : World} {g : Nat} {f0 : ByteArray} {f1 : Int} (h : IsS70 w0 W g f0 f1) : IsS70 w0 W.drew g f0 f1 := h
theorem IsS70.at_ {w0 W : World} {g : Nat} {f0 : ByteArray} {f1 : Int} {w' : World} {m : Nat} (hq : W.drewN m = w') (h : IsS70 w0 W g f0 f1) : IsS70 w0 w' g f0 f1 := by subst hq; exact IsS70.drewN h m
theorem IsS70.apart {w0 W : World} {g : Nat} {f0 : ByteArray} {f1 : Int} {α : Type} {d : Kd α} {e : Nat} {base : Nat} {ok : Nat → Prop} {v : Value} {xs : List α} (h : IsS70 w0 W g f0 f1) (ho : d.R e W base ok v xs) (ht : ∀ q, q ∈ e :: d.E → q ≠ 70) : d.R e W base (fun k => ok k ∧ k ≠ g) v xs := by
  obtain ⟨hb, hg⟩ := h
  exact Kd.R_types ho hb ht
theorem IsS70.own_ne {w0 W : World} {g : Nat} {f0 : ByteArray} {f1 : Int} {α : Type} {d : Kd α} {e : Nat} {base : Nat} {ok : Nat → Prop} {v : Value} {xs : List α} (h : IsS70 w0 W g f0 f1) (ho : d.R e W base ok v xs) (ht : e ≠ 70) : some g ≠ v.ownBlock := by
  obtain ⟨hb, hg⟩ := h
  exact Kd.R_ne ho hb ht
theorem IsS70.lt {w0 W : World} {g : Nat} {f0 : ByteArray} {f1 : Int} (h : IsS70 w0 W g f0 f1) : g < W.heap.size := by
  obtain ⟨hb, hg⟩ := h
  exact blk_lt hb
theorem IsS70.ge {w0 W : World} {g : Nat} {f0 : ByteArray} {f1 : Int} (h : IsS70 w0 W g f0 f1) : w0.heap.size ≤ g := by
  obtain ⟨hb, hg⟩ := h
  exact hg
theorem IsS70.ne_blk {w0 W : World} {g : Nat} {f0 : ByteArray} {f1 : Int} {a : Nat} {cs : Array Value} {t : TypeId} {fr : Nat × Nat} (h : IsS70 w0 W g f0 f1) (hb2 : W.heap[a]? = some (.cells cs t fr)) (ht : t ≠ 70) : g ≠ a := by
  obtain ⟨hb, hg⟩ := h
  rintro rfl
  rw [hb] at hb2
  injection hb2 with hb2
  injection hb2 with _ ht2
  exact ht ht2.symm
theorem IsS70.far {w0 W : World} {g : Nat} {f0 : ByteArray} {f1 : Int} {p : Addr} (h : IsS70 w0 W g f0 f1) (hne : g ≠ p.block) (u : Value) : IsS70 w0 (W.setCell p u) g f0 f1 := by
  obtain ⟨hb, hg⟩ := h
  exact ⟨blk_far hb hne u, hg⟩
theorem cellS70_0 {W : World} {g : Nat} {f0 : ByteArray} {f1 : Int} (h : W.heap[g]? = some (.cells #[.string f0, .int .i64 f1] 70 (0, 0))) : W.cell? ⟨g, 0, none⟩ = some (.string f0) := (blk_cell h 0).trans rfl
theorem IsS70.set_0 {w0 W : World} {g : Nat} {f0 : ByteArray} {f1 : Int} (h : IsS70 w0 W g f0 f1) (x : ByteArray) : IsS70 w0 (W.setCell ⟨g, 0, none⟩ (.string x)) g x f1 := by
  obtain ⟨hb, hg⟩ := h
  exact ⟨by simpa using blk_set hb 0 (.string x), hg⟩
theorem cellS70_1 {W : World} {g : Nat} {f0 : ByteArray} {f1 : Int} (h : W.heap[g]? = some (.cells #[.string f0, .int .i64 f1] 70 (0, 0))) : W.cell? ⟨g, 1, none⟩ = some (.int .i64 f1) := (blk_cell h 1).trans rfl
theorem IsS70.set_1 {w0 W : World} {g : Nat} {f0 : ByteArray} {f1 : Int} (h : IsS70 w0 W g f0 f1) (x : Int) : IsS70 w0 (W.setCell ⟨g, 1, none⟩ (.int .i64 x)) g f0 x := by
  obtain ⟨hb, hg⟩ := h
  exact ⟨by simpa using blk_set hb 1 (.int .i64 x), hg⟩
theorem IsS70.new (w0 W : World) (f0 : ByteArray) (f1 : Int) (hB : Below w0.heap.size w0 W) : IsS70 w0 (W.alloc (.cells #[.string f0, .int .i64 f1] 70)) W.heap.size f0 f1 := ⟨by simpa using heap_alloc_new W _, hB.size⟩
/-- the class of a byte -/
def cls (c : Nat) : Int :=
  if (65 ≤ c ∧ c ≤ 90) ∨ (97 ≤ c ∧ c ≤ 122) then 1 else if 48 ≤ c ∧ c ≤ 57 then 2 else if c = 95 then 3
  else if c = 40 ∨ c = 41 ∨ c = 123 ∨ c = 125 ∨ c = 59 ∨ c = 44 then 4
  else if c = 32 ∨ c = 9 ∨ c = 10 ∨ c = 13 then 5 else if c = 35 then 6 else if c = 45 then 7 else 0
def tbl : Array Value := ((List.range 256).map fun c => Value.int .u8 (cls c)).toArray
def zerosTbl : Array Value := Array.replicate 256 (.int .u8 0)
theorem zeroTbl (w : World) : (zeroValue 96).run Tryd.prog w = .ok (.agg zerosTbl) w := by kernel_rfl
theorem sizeTbl : (Tryd.prog.info? 96).map (·.size) = some tbl.size := by kernel_rfl
theorem wpList_build_to {P : Program} {w : World} {ops : Array Oper} {rest : List Oper} {o : Oper} {a : Act} {Q : Exit → Act → World → Prop}
    (hg : o.guard = none) (t : TypeId) (parts : Array (Nat × Operand)) (ho : o.op = .build t parts) (cells : Array Value)
    (hc : P.built t (parts.map fun (i, x) => (i, a.eval x)).toList = some cells) (h : wpList P ops Q rest (a.put o.dst (.agg cells)) w) : wpList P ops Q (o :: rest) a w :=
  wpList_plain hg fun K hK => by
    unfold Oper.wp execOp
    simp only [ho, Sem.run_bind, run_build w t _ cells hc, Result.andThen_ok]
    exact hK _ _ h
set_option maxHeartbeats 4000000 in
set_option maxRecDepth 100000 in
theorem what_any (w : World) : Calls Tryd.prog 54 #[] w fun e w' => e = .returned (.agg tbl) ∧ Below w.heap.size w w' := by
  have hz := zeroTbl
  go_enter Tryd.func54, Tryd.ntmps54
  go_wp2_with (first | (refine wpList_build_to rfl 96 _ rfl tbl (by kernel_rfl) ?_) | (refine wpList_store_row rfl 96 _ _ rfl w.heap.size tbl rfl (by kernel_rfl) 96 zerosTbl (heap_alloc_new w _) sizeTbl rfl (by kernel_rfl) ?_))
  refine bodyPost_ret (v := .agg tbl) (results_cell_row Tryd.results54 _ _ w.heap.size 96 tbl (0, 0) (.array 256 5) rfl ?_ Tryd.underlying96 rfl sizeTbl) rfl ⟨rfl, ?_⟩
  · exact setRow_heap _ _ _ _ _ _ (heap_alloc_new w _)
  · exact ((Below.refl _ _).alloc (Nat.le_refl _) _).trans ⟨rfl, rfl, rfl, by simp, fun k hk => setRow_other _ _ _ _ (by omega)⟩
theorem tbl_at (c : Nat) (h : c < 256) : tbl[c]? = some (.int .u8 (cls c)) := by
  simp [tbl, h]
theorem index_tbl (w : World) (c : Int) (h0 : 0 ≤ c) (h1 : c < 256) : (Instr.index 96 (.agg tbl) (.int .u8 c)).run Tryd.prog w = .ok (.int .u8 (cls c.toNat)) w := by
  have hc : c.toNat < 256 := by omega
  have ht := tbl_at c.toNat hc
  have hsz : (sizeOf 5).run Tryd.prog w = .ok 1 w := by kernel_rfl
  have hag : (isAgg 5).run Tryd.prog w = .ok false w := by kernel_rfl
  unfold Instr.index
  simp only [asIntOf, Sem.run_bind, Sem.run_pure, Result.andThen_ok, run_underlying Tryd.underlying96]
  have hlt : 0 ≤ c ∧ c < ((256 : Nat) : Int) := ⟨h0, by omega⟩
  rw [if_pos hlt]
  simp only [Sem.run_bind, hsz, Result.andThen_ok, part, hag]
  simp [ht]
/-- the scanner's block, and what else has become of the world -/
structure St (w0 w W : World) (g : Nat) (s : ByteArray) (i : Int) : Prop where
  is : IsS70 w0 W g s i
  bel : Below w0.heap.size w0 W
  kept : KeepBut w W g none
theorem St.drewN {w0 w W : World} {g : Nat} {s : ByteArray} {i : Int} (h : St w0 w W g s i) (n : Nat) : St w0 w (W.drewN n) g s i := ⟨h.is, pw_below_drewN h.bel n, keep_drewN h.kept n⟩
theorem St.drew {w0 w W : World} {g : Nat} {s : ByteArray} {i : Int} (h : St w0 w W g s i) : St w0 w W.drew g s i := ⟨h.is, below_drew1 h.bel, keep_drew h.kept⟩
theorem St.below {w0 w W W1 : World} {g : Nat} {s : ByteArray} {i : Int} (h : St w0 w W g s i) (hb : Below W.heap.size W W1) : St w0 w W1 g s i :=
  ⟨h.is.below hb, below_step h.bel hb, h.kept.trans (KeepBut.of_below hb g none) (.inl rfl)⟩
theorem St.cell0 {w0 w W : World} {g : Nat} {s : ByteArray} {i : Int} (h : St w0 w W g s i) : W.cell? ⟨g, 0, none⟩ = some (.string s) := cellS70_0 h.is.1
theorem St.cell1 {w0 w W : World} {g : Nat} {s : ByteArray} {i : Int} (h : St w0 w W g s i) : W.cell? ⟨g, 1, none⟩ = some (.int .i64 i) := cellS70_1 h.is.1
theorem St.set {w0 w W : World} {g : Nat} {s : ByteArray} {i : Int} (h : St w0 w W g s i) (j : Int) : St w0 w (W.setCell ⟨g, 1, none⟩ (.int .i64 j)) g s j :=
  ⟨h.is.set_1 j, below_set h.bel h.is.2, h.kept.set_ _ _⟩
theorem St.start {w0 w : World} {g : Nat} {s : ByteArray} {i : Int} (hI : IsS70 w0 w g s i) (hB : Below w0.heap.size w0 w) : St w0 w w g s i := ⟨hI, hB, KeepBut.refl _ _ _⟩
theorem St.trans {w0 w W W1 : World} {g : Nat} {s s1 : ByteArray} {i i1 : Int} (h : St w0 w W g s i) (k : St w0 W W1 g s1 i1) : St w0 w W1 g s1 i1 := ⟨k.is, k.bel, h.kept.trans k.kept (.inl rfl)⟩
/-- what a drawn region that only reads the scanner holds on to -/
theorem St.held {w0 w W : World} {g : Nat} {s : ByteArray} {i : Int} (h : St w0 w W g s i) :
    W.cell? ⟨g, 0, none⟩ = some (.string s) ∧ W.cell? ⟨g, 1, none⟩ = some (.int .i64 i) ∧ Aside0 (St w0 w W g s i) := ⟨h.cell0, h.cell1, ⟨h⟩⟩
def lexer_text_now.f (s : ByteArray) (i : Int) : Option (Int × ByteArray × Int) :=
  if i ≥ (s.size : Int) then some (0, s, i) else if 0 ≤ i then some (cls (bt s i).toNat, s, i) else none
set_option maxHeartbeats 8000000 in
set_option maxRecDepth 100000 in
theorem lexer_text_now.calls (g : Nat) (s0_0 : ByteArray) (s0_1 : Int) (r1 : Int) (r2 : ByteArray) (r3 : Int) (w0 w : World) (hI : IsS70 w0 w g s0_0 s0_1) (hB : Below w0.heap.size w0 w) (h : lexer_text_now.f s0_0 s0_1 = some (r1, r2, r3)) :
    Calls Tryd.prog 38 #[.pointer (some ⟨g, 0, none⟩)] w fun e w' => e = .returned (.int .u8 r1) ∧ IsS70 w0 w' g r2 r3 ∧ Below w0.heap.size w0 w' ∧ KeepBut w w' g none := by
  have HI0 := Aside0.mk hI
  have HK := Aside0.mk (KeepBut.refl w g none)
  have HB := Aside0.mk hB
  obtain ⟨HGz, hgz⟩ := hI
  have c0 := cellS70_0 HGz
  have c1 := cellS70_1 HGz
  have f0 := blk_frozen HGz 0
  have f1 := blk_frozen HGz 1
  clear HGz hgz hB
  by_cases hc : s0_1 ≥ (s0_0.size : Int)
  · simp only [lexer_text_now.f, if_pos hc, Option.some.injEq, Prod.mk.injEq] at h
    obtain ⟨rfl, rfl, rfl⟩ := h
    have hcb : decide ((s0_0.size : Int) ≤ s0_1) = true := decide_eq_true hc
    clear hc
    go_enter Tryd.func38, Tryd.ntmps38
    go_wp2
    repeat (go_quiet (fail); try go_wp2)
    go_ret
    exact ⟨rfl, by repeat (first | exact HI0.out | apply IsS70.drewN), by repeat (first | exact HB.out | apply pw_below_drewN), by repeat (first | exact HK.out | apply keep_drewN)⟩
  · rw [lexer_text_now.f, if_neg hc] at h
    by_cases h0 : 0 ≤ s0_1
    · rw [if_pos h0] at h
      simp only [Option.some.injEq, Prod.mk.injEq] at h
      obtain ⟨rfl, rfl, rfl⟩ := h
      have hcb : decide ((s0_0.size : Int) ≤ s0_1) = false := decide_eq_false hc
      have hlt : s0_1 < (s0_0.size : Int) := by omega
      clear hc
      go_enter Tryd.func38, Tryd.ntmps38
      go_wp2
      go_quiet (fail)
      go_wp2
      have hb := bt_range s0_0 s0_1
      have hx := bt_at s0_0 s0_1
      have hidx : ∀ w, (Instr.index 96 (.agg tbl) (.int .u8 (bt s0_0 s0_1))).run Tryd.prog w = .ok (.int .u8 (cls (bt s0_0 s0_1).toNat)) w := fun w => index_tbl w _ hb.1 (by omega)
      have HS := Aside0.mk ((St.start HI0.out HB.out).drewN nq)
      go_region_held3 (fun W' => W'.cell? ⟨g, 0, none⟩ = some (.string s0_0) ∧ W'.cell? ⟨g, 1, none⟩ = some (.int .i64 s0_1) ∧ Aside0 (St w0 w W' g s0_0 s0_1)) (first | exact HS.out.drew.held | exact (HS.out.drew.below hbel).held) (first | (go_at_call 54; refine (what_any _).mono ?_; rintro e w' ⟨rfl, hbel⟩))
      all_goals
        have hS := HS.out.drew.below hbel
        go_wp2
        go_ret
        exact ⟨rfl, hS.is, hS.bel, hS.kept⟩
    · rw [if_neg h0] at h
      exact absurd h (by simp)
def lexer_text_isBlank.f (s0_0 : ByteArray) (s0_1 : Int) : Option (Bool × ByteArray × Int) := (lexer_text_now.f s0_0 s0_1).bind fun bt106 => (some ((bt106.1 == 5), bt106.2.1, bt106.2.2))
set_option maxHeartbeats 8000000 in
set_option maxRecDepth 100000 in
theorem lexer_text_isBlank.calls (g : Nat) (s0_0 : ByteArray) (s0_1 : Int) (r1 : Bool) (r2 : ByteArray) (r3 : Int) (w0 w : World) (hI : IsS70 w0 w g s0_0 s0_1) (hB : Below w0.heap.size w0 w) (h : lexer_text_isBlank.f s0_0 s0_1 = some (r1, r2, r3)) :
    Calls Tryd.prog 37 #[.pointer (some ⟨g, 0, none⟩)] w fun e w' => e = .returned (.bool r1) ∧ IsS70 w0 w' g r2 r3 ∧ Below w0.heap.size w0 w' ∧ KeepBut w w' g none := by
  have HI0 := Aside0.mk hI
  have HK := Aside0.mk (KeepBut.refl w g none)
  have HL := Aside0.mk hB.size
  clear hI
  have HW0 := Aside0.mk hB.size
  have HB := Aside0.mk hB
  clear hB
  have H : ((lexer_text_now.f s0_0 s0_1).bind fun bt106 => (some ((bt106.1 == 5), bt106.2.1, bt106.2.2))) = some (r1, r2, r3) := h
  clear h
  replace H := Option.bind_eq_some_iff.mp H
  obtain ⟨⟨t106, t107, t108⟩, A20, H⟩ := H
  replace H : (some ((t106 == 5), t107, t108)) = some (r1, r2, r3) := H
  have A2 := Aside0.mk A20
  clear A20
  simp only [Option.some.injEq, Prod.mk.injEq] at H
  obtain ⟨rfl, rfl, rfl⟩ := H
  go_enter Tryd.func37, Tryd.ntmps37
  go_wp2_with (first | ((with_reducible refine gate_callee (f := 38) rfl ?_); refine goesL_ (some 4) rfl rfl Tryd.func38 (by kernel_rfl) rfl #[.pointer (some ⟨g, 0, none⟩)] rfl (by (try simp only [List.map_toArray, List.map_cons, List.map_nil]); first | done | rfl | (simp only [List.length_drop, List.length_take]; rfl)) ?_; (with_reducible refine (lexer_text_now.calls g s0_0 s0_1 t106 t107 t108 w0 _ ?side1 ?side2 A2.out).mono ?_); (case side1 => repeat (first | (with_reducible first | exact HI0.out | apply IsS70.alloc | apply IsS70.drewN | apply IsS70.drew | apply IsS70.set_0 | apply IsS70.set_1) | exact HI0.out)); (case side2 => repeat (first | (with_reducible first | exact HB.out | apply below_alloc | apply pw_below_drewN | apply below_drew1 | refine below_set ?_ (IsS70.ge HI0.out)) | exact HB.out)); rintro e w3 ⟨rfl, hi, hb, hk⟩; refine ⟨_, rfl, ?_⟩; have n0_ := Aside0.mk (KeepBut.trans (by repeat (first | (with_reducible first | exact HK.out | apply KeepBut.set_ | apply keep_drewN | apply keep_drew | apply keep_alloc) | exact HK.out)) hk (.inl rfl)); have n1_ := Aside0.mk (hb); have n2_ := Aside0.mk (hi); clear HK; clear HB; clear HI0; have HK := n0_; have HB := n1_; have HI0 := n2_; clear n0_ n1_ n2_; (try clear hb); (try clear hb2); (try clear hk); (try clear hi)))
  go_ret
  exact ⟨by first | rfl | (simp [errW_none, errW_some] <;> rfl) | (simp [*, errW_none, errW_some] <;> rfl), by repeat (first | (with_reducible first | exact HI0.out | apply IsS70.alloc | apply IsS70.drewN | apply IsS70.drew | apply IsS70.set_0 | apply IsS70.set_1) | exact HI0.out), by repeat (first | (with_reducible first | exact HB.out | apply below_alloc | apply pw_below_drewN | apply below_drew1 | refine below_set ?_ (IsS70.ge HI0.out)) | exact HB.out), by repeat (first | (with_reducible first | exact HK.out | apply KeepBut.set_ | apply keep_drewN | apply keep_drew | apply keep_alloc) | exact HK.out)⟩
def lexer_text_inLine.f (s0_0 : ByteArray) (s0_1 : Int) : Option (Bool × ByteArray × Int) := if 0 ≤ s0_1 then (if s0_1 < (s0_0.size : Int) then (some (((bt s0_0 s0_1) != 10), s0_0, s0_1)) else (none)) else (none)
set_option maxHeartbeats 8000000 in
set_option maxRecDepth 100000 in
theorem lexer_text_inLine.calls (g : Nat) (s0_0 : ByteArray) (s0_1 : Int) (r1 : Bool) (r2 : ByteArray) (r3 : Int) (w0 w : World) (hI : IsS70 w0 w g s0_0 s0_1) (hB : Below w0.heap.size w0 w) (h : lexer_text_inLine.f s0_0 s0_1 = some (r1, r2, r3)) :
    Calls Tryd.prog 39 #[.pointer (some ⟨g, 0, none⟩)] w fun e w' => e = .returned (.bool r1) ∧ IsS70 w0 w' g r2 r3 ∧ Below w0.heap.size w0 w' ∧ KeepBut w w' g none := by
  have HI0 := Aside0.mk hI
  have HK := Aside0.mk (KeepBut.refl w g none)
  have HL := Aside0.mk hB.size
  clear hI
  have HW0 := Aside0.mk hB.size
  have HB := Aside0.mk hB
  clear hB
  have H : (if 0 ≤ s0_1 then (if s0_1 < (s0_0.size : Int) then (some (((bt s0_0 s0_1) != 10), s0_0, s0_1)) else (none)) else (none)) = some (r1, r2, r3) := h
  clear h
  by_cases c2 : 0 ≤ s0_1
  · rw [if_pos c2] at H
    have c2b0 : decide (0 ≤ s0_1) = true := decide_eq_true c2
    clear c2
    by_cases c3 : s0_1 < (s0_0.size : Int)
    · rw [if_pos c3] at H
      have c3b0 : decide (s0_1 < (s0_0.size : Int)) = true := decide_eq_true c3
      clear c3
      simp only [Option.some.injEq, Prod.mk.injEq] at H
      obtain ⟨rfl, rfl, rfl⟩ := H
      obtain ⟨HGz5, hgz5⟩ := HI0.out
      have hcz5_0 := cellS70_0 HGz5
      have hcz5_1 := cellS70_1 HGz5
      have hfz5_0 := blk_frozen HGz5 0
      have hfz5_1 := blk_frozen HGz5 1
      clear HGz5 hgz5
      have p4 : 0 ≤ (s0_1 : Int) := of_decide_eq_true (by first | (with_reducible assumption) | assumption)
      have q4 : s0_1 < (s0_0.size : Int) := of_decide_eq_true (by first | (with_reducible assumption) | assumption)
      have hx4 := bt_at s0_0 s0_1
      replace p4 := eq_true p4
      replace q4 := eq_true q4
      go_enter Tryd.func39, Tryd.ntmps39
      go_wp2
      repeat (go_quiet (fail); try go_wp2)
      go_ret
      exact ⟨by first | rfl | (simp [errW_none, errW_some] <;> rfl) | (simp [*, errW_none, errW_some] <;> rfl), by repeat (first | (with_reducible first | exact HI0.out | apply IsS70.alloc | apply IsS70.drewN | apply IsS70.drew | apply IsS70.set_0 | apply IsS70.set_1) | exact HI0.out), by repeat (first | (with_reducible first | exact HB.out | apply below_alloc | apply pw_below_drewN | apply below_drew1 | refine below_set ?_ (IsS70.ge HI0.out)) | exact HB.out), by repeat (first | (with_reducible first | exact HK.out | apply KeepBut.set_ | apply keep_drewN | apply keep_drew | apply keep_alloc) | exact HK.out)⟩
    · rw [if_neg c3] at H
      exact absurd H (by simp)
  · rw [if_neg c2] at H
    exact absurd H (by simp)
set_option maxHeartbeats 8000000 in
set_option maxRecDepth 100000 in
theorem while_any (F : FuncId) (hcf : ∀ (args : Array Value) (w : World), Sem.run Tryd.prog (callFunc F args) w = .ok (.enter F args) w) (p : Int → Bool) (g : Nat) (s : ByteArray) (hs : s.size ≤ 140737488351232)
    (hF : Aside0 (∀ (w0 W : World) (i : Int), 0 ≤ i → i < (s.size : Int) → IsS70 w0 W g s i → Below w0.heap.size w0 W → Calls Tryd.prog F #[.pointer (some ⟨g, 0, none⟩)] W fun e w' => e = .returned (.bool (p i)) ∧ St w0 W w' g s i))
    (i0 : Int) (h0 : 0 ≤ i0) (h1 : i0 ≤ (s.size : Int)) (w0 w : World) (hI : IsS70 w0 w g s i0) (hB : Below w0.heap.size w0 w) :
    Calls Tryd.prog 36 #[.pointer (some ⟨g, 0, none⟩), .func (.func F) #[.pointer (some ⟨g, 0, none⟩)] #[]] w fun e w' => e = .returned (.tuple #[]) ∧
      ∃ j : Int, i0 ≤ j ∧ j ≤ (s.size : Int) ∧ (∀ x, i0 ≤ x → x < j → p x = true) ∧ (j < (s.size : Int) → p j = false) ∧ St w0 w w' g s j := by
  have HS := Aside0.mk (St.start hI hB)
  clear hI hB
  go_enter Tryd.func36, Tryd.ntmps36
  go_wp2
  go_loopg [] ((s.size : Int) - i0).toNat (fun kq wr => ∃ i : Int, Aside0 (((s.size : Int) - i).toNat = kq ∧ i0 ≤ i ∧ i ≤ (s.size : Int) ∧ (∀ x, i0 ≤ x → x < i → p x = true) ∧ St w0 w wr g s i))
  case atStart => exact ⟨i0, ⟨rfl, by omega, by omega, fun x _ _ => by omega, HS.out⟩⟩
  case round =>
    obtain ⟨i, ⟨hk, hi0, hi1, hp, hS⟩⟩ := hrel
    clear HS
    by_cases hlt : i < (s.size : Int)
    · have hd : decide (i < (s.size : Int)) = true := decide_eq_true hlt
      have HS := Aside0.mk hS
      have c0 := hS.cell0
      have c1 := hS.cell1
      have HP := Aside0.mk hp
      have Hk := Aside0.mk hk
      clear hp hk hS
      cases hb : p i with
      | true =>
        have HFi := Aside0.mk (fun W => hF.out w0 W i (by omega) hlt)
        rw [hb] at HFi
        have Hb := Aside0.mk hb
        clear hb
        go_wp2_with fail
        go_region_held3 (fun W' => W'.cell? ⟨g, 0, none⟩ = some (.string s) ∧ W'.cell? ⟨g, 1, none⟩ = some (.int .i64 i) ∧ Aside0 (St w0 w W' g s i)) (first | exact HS.out.drew.held | exact (HS.out.drew.trans hst).held) (first | ((with_reducible refine (HFi.out _ HS.out.drew.is HS.out.drew.bel).mono ?_); rintro e w' ⟨rfl, hst⟩))
        have hS := HS.out.drew.trans hst
        have c1 := hS.cell1
        have f1 := blk_frozen hS.is.1 1
        have HS2 := Aside0.mk hS
        clear hS hst
        go_wp2
        go_roundg ((s.size : Int) - (i + 1)).toNat
        case measure => have := Hk.out; omega
        case rel =>
          refine ⟨i + 1, ⟨rfl, by omega, by omega, fun x hx hx' => ?_, HS2.out.set _⟩⟩
          by_cases hxi : x = i
          · rw [hxi]; exact Hb.out
          · exact HP.out x hx (by omega)
      | false =>
        have HFi := Aside0.mk (fun W => hF.out w0 W i (by omega) hlt)
        rw [hb] at HFi
        have Hb := Aside0.mk hb
        clear hb
        go_wp2_with fail
        go_region_held3 (fun W' => W'.cell? ⟨g, 0, none⟩ = some (.string s) ∧ W'.cell? ⟨g, 1, none⟩ = some (.int .i64 i) ∧ Aside0 (St w0 w W' g s i)) (first | exact HS.out.drew.held | exact (HS.out.drew.trans hst).held) (first | ((with_reducible refine (HFi.out _ HS.out.drew.is HS.out.drew.bel).mono ?_); rintro e w' ⟨rfl, hst⟩))
        have hS := HS.out.drew.trans hst
        have HS2 := Aside0.mk hS
        clear hS hst
        go_wp2
        go_end0
        exact ⟨rfl, i, hi0, hi1, HP.out, fun _ => Hb.out, HS2.out⟩
    · have hd : decide (i < (s.size : Int)) = false := decide_eq_false hlt
      have HS := Aside0.mk hS
      have c0 := hS.cell0
      have c1 := hS.cell1
      have HP := Aside0.mk hp
      have hni : i = (s.size : Int) := by omega
      have Hn := Aside0.mk hni
      clear hp hk hS hni
      go_wp2_with fail
      go_quiet (fail)
      go_wp2
      go_end0
      exact ⟨rfl, i, hi0, hi1, HP.out, fun h => by omega, HS.out.drewN _⟩
/-- from i on, the first place below n where p fails (at most k steps) -/
def scan (p : Int → Bool) (n : Int) : Nat → Int → Int
  | 0, i => i
  | k + 1, i => if i < n then (if p i = true then scan p n k (i + 1) else i) else i
theorem scan_eq (p : Int → Bool) (n : Int) : ∀ (k : Nat) (i j : Int), (n - i).toNat ≤ k → i ≤ j → j ≤ n → (∀ x, i ≤ x → x < j → p x = true) → (j < n → p j = false) → scan p n k i = j := by
  intro k
  induction k with
  | zero => intro i j hk h1 h2 hp he; simp only [scan]; omega
  | succ k ih =>
    intro i j hk h1 h2 hp he
    simp only [scan]
    by_cases hlt : i < n
    · rw [if_pos hlt]
      by_cases hij : i = j
      · subst hij; rw [he hlt]; simp
      · rw [hp i (by omega) (by omega), if_pos rfl]
        exact ih (i + 1) j (by omega) (by omega) h2 (fun x hx => hp x (by omega)) he
    · rw [if_neg hlt]; omega
def scanTo (p : Int → Bool) (n i : Int) : Int := scan p n (n - i).toNat i
/-- the contract of 'while' with a scan -/
theorem while_scan (F : FuncId) (hcf : ∀ (args : Array Value) (w : World), Sem.run Tryd.prog (callFunc F args) w = .ok (.enter F args) w) (p : Int → Bool) (g : Nat) (s : ByteArray) (hs : s.size ≤ 140737488351232)
    (hF : ∀ (w0 W : World) (i : Int), 0 ≤ i → i < (s.size : Int) → IsS70 w0 W g s i → Below w0.heap.size w0 W → Calls Tryd.prog F #[.pointer (some ⟨g, 0, none⟩)] W fun e w' => e = .returned (.bool (p i)) ∧ St w0 W w' g s i)
    (i0 : Int) (h0 : 0 ≤ i0) (h1 : i0 ≤ (s.size : Int)) (w0 w : World) (hI : IsS70 w0 w g s i0) (hB : Below w0.heap.size w0 w) :
    Calls Tryd.prog 36 #[.pointer (some ⟨g, 0, none⟩), .func (.func F) #[.pointer (some ⟨g, 0, none⟩)] #[]] w fun e w' => e = .returned (.tuple #[]) ∧ St w0 w w' g s (scanTo p s.size i0) :=
  (while_any F hcf p g s hs ⟨hF⟩ i0 h0 h1 w0 w hI hB).mono fun e w' ⟨he, j, h1, h2, h3, h4, h5⟩ => by
    refine ⟨he, ?_⟩
    rw [scanTo, scan_eq p _ _ i0 j (Nat.le_refl _) h1 h2 h3 h4]
    exact h5
theorem scan_range (p : Int → Bool) (n : Int) : ∀ (k : Nat) (i : Int), i ≤ n → i ≤ scan p n k i ∧ scan p n k i ≤ n := by
  intro k
  induction k with
  | zero => intro i h; simp only [scan]; omega
  | succ k ih =>
    intro i h
    simp only [scan]
    split
    · split
      · have := ih (i + 1) (by omega); omega
      · omega
    · omega
theorem scanTo_range (p : Int → Bool) (n i : Int) (h : i ≤ n) : i ≤ scanTo p n i ∧ scanTo p n i ≤ n := scan_range p n _ i h
/-- the class of the byte at i, 0 behind the end -/
def at_ (s : ByteArray) (i : Int) : Int := if i ≥ (s.size : Int) then 0 else cls (bt s i).toNat
theorem now_f (s : ByteArray) (i : Int) (h : 0 ≤ i) : lexer_text_now.f s i = some (at_ s i, s, i) := by
  unfold lexer_text_now.f at_
  rw [if_pos h]
  split <;> rfl
theorem now_at (g : Nat) (s : ByteArray) (i : Int) (h : 0 ≤ i) (w0 w : World) (hI : IsS70 w0 w g s i) (hB : Below w0.heap.size w0 w) :
    Calls Tryd.prog 38 #[.pointer (some ⟨g, 0, none⟩)] w fun e w' => e = .returned (.int .u8 (at_ s i)) ∧ St w0 w w' g s i :=
  (lexer_text_now.calls g s i (at_ s i) s i w0 w hI hB (now_f s i h)).mono fun e w' ⟨he, h1, h2, h3⟩ => ⟨he, h1, h2, h3⟩
def blankAt (s : ByteArray) (i : Int) : Bool := at_ s i == 5
def lineAt (s : ByteArray) (i : Int) : Bool := bt s i != 10
def wordAt (s : ByteArray) (i : Int) : Bool := at_ s i == 1 || at_ s i == 2 || at_ s i == 3
def digitAt (s : ByteArray) (i : Int) : Bool := at_ s i == 2
theorem isBlank_at (g : Nat) (s : ByteArray) (w0 w : World) (i : Int) (h : 0 ≤ i) (_ : i < (s.size : Int)) (hI : IsS70 w0 w g s i) (hB : Below w0.heap.size w0 w) :
    Calls Tryd.prog 37 #[.pointer (some ⟨g, 0, none⟩)] w fun e w' => e = .returned (.bool (blankAt s i)) ∧ St w0 w w' g s i :=
  (lexer_text_isBlank.calls g s i (blankAt s i) s i w0 w hI hB (by rw [lexer_text_isBlank.f, now_f s i h]; rfl)).mono fun e w' ⟨he, h1, h2, h3⟩ => ⟨he, h1, h2, h3⟩
theorem inLine_at (g : Nat) (s : ByteArray) (w0 w : World) (i : Int) (h : 0 ≤ i) (hlt : i < (s.size : Int)) (hI : IsS70 w0 w g s i) (hB : Below w0.heap.size w0 w) :
    Calls Tryd.prog 39 #[.pointer (some ⟨g, 0, none⟩)] w fun e w' => e = .returned (.bool (lineAt s i)) ∧ St w0 w w' g s i :=
  (lexer_text_inLine.calls g s i (lineAt s i) s i w0 w hI hB (by rw [lexer_text_inLine.f, if_pos h, if_pos hlt]; rfl)).mono fun e w' ⟨he, h1, h2, h3⟩ => ⟨he, h1, h2, h3⟩
set_option maxRecDepth 100000 in
theorem while_blank (g : Nat) (s : ByteArray) (hs : s.size ≤ 140737488351232) (i0 : Int) (h0 : 0 ≤ i0) (h1 : i0 ≤ (s.size : Int)) (w0 w : World) (hI : IsS70 w0 w g s i0) (hB : Below w0.heap.size w0 w) :
    Calls Tryd.prog 36 #[.pointer (some ⟨g, 0, none⟩), .func (.func 37) #[.pointer (some ⟨g, 0, none⟩)] #[]] w fun e w' => e = .returned (.tuple #[]) ∧ St w0 w w' g s (scanTo (blankAt s) s.size i0) :=
  while_scan 37 (fun _ _ => by rfl) (blankAt s) g s hs (fun w0 W i => isBlank_at g s w0 W i) i0 h0 h1 w0 w hI hB
set_option maxRecDepth 100000 in
theorem while_line (g : Nat) (s : ByteArray) (hs : s.size ≤ 140737488351232) (i0 : Int) (h0 : 0 ≤ i0) (h1 : i0 ≤ (s.size : Int)) (w0 w : World) (hI : IsS70 w0 w g s i0) (hB : Below w0.heap.size w0 w) :
    Calls Tryd.prog 36 #[.pointer (some ⟨g, 0, none⟩), .func (.func 39) #[.pointer (some ⟨g, 0, none⟩)] #[]] w fun e w' => e = .returned (.tuple #[]) ∧ St w0 w w' g s (scanTo (lineAt s) s.size i0) :=
  while_scan 39 (fun _ _ => by rfl) (lineAt s) g s hs (fun w0 W i => inLine_at g s w0 W i) i0 h0 h1 w0 w hI hB
theorem at_some {s : ByteArray} {i c : Int} (hc : c ≠ 0) (h : at_ s i = c) : i < (s.size : Int) ∧ cls (bt s i).toNat = c := by
  unfold at_ at h
  split at h
  · exact absurd h.symm hc
  · exact ⟨by omega, h⟩
theorem scanTo_step {p : Int → Bool} {n i : Int} (h : i < n) (hp : p i = true) : i + 1 ≤ scanTo p n i := by
  unfold scanTo
  obtain ⟨k, hk⟩ : ∃ k, (n - i).toNat = k + 1 := ⟨(n - i).toNat - 1, by omega⟩
  rw [hk]
  simp only [scan]
  rw [if_pos h, if_pos hp]
  exact (scan_range p n k (i + 1) (by omega)).1
theorem cls_six {c : Nat} (h : cls c = 6) : c = 35 := by
  unfold cls at h
  repeat' split at h
  all_goals first | omega | assumption
theorem line_of_six {s : ByteArray} {i : Int} (h : at_ s i = 6) : lineAt s i = true := by
  have h6 := cls_six (at_some (by decide) h).2
  have hb := bt_range s i
  simp only [lineAt, bne_iff_ne, ne_eq]
  omega
/-- white space and comments, at most k comments -/
def skipR (s : ByteArray) : Nat → Int → Int
  | 0, i => i
  | k + 1, i => if at_ s i = 6 then skipR s k (scanTo (blankAt s) s.size (scanTo (lineAt s) s.size i)) else i
def skipTo (s : ByteArray) (i : Int) : Int := skipR s s.size (scanTo (blankAt s) s.size i)
theorem skip_any (g : Nat) (s : ByteArray) (hs : s.size ≤ 140737488351232) (i0 : Int) (h0 : 0 ≤ i0) (h1 : i0 ≤ (s.size : Int)) (w0 w : World) (hI : IsS70 w0 w g s i0) (hB : Below w0.heap.size w0 w) :
    Calls Tryd.prog 27 #[.pointer (some ⟨g, 0, none⟩)] w fun e w' => e = .returned (.tuple #[]) ∧ St w0 w w' g s (skipTo s i0) := by
  have hmf : ∀ (fn : Fn) (first cap : Array Value) (w : World), (Instr.makeFunc fn first cap).run Tryd.prog w = .ok (.func fn first cap) w := fun _ _ _ _ => rfl
  go_enter Tryd.func27, Tryd.ntmps27
  go_wp2_with fail
  refine (while_blank g s hs i0 h0 h1 w0 _ hI hB).mono ?_
  rintro e w1 ⟨rfl, hS1⟩
  have hr := scanTo_range (blankAt s) s.size i0 h1
  generalize hi1 : scanTo (blankAt s) s.size i0 = i1 at hS1 hr
  have HS1 := Aside0.mk hS1
  clear hS1
  have Hi1 := Aside0.mk hi1
  clear hi1
  go_wp2_with fail
  go_loopg [] s.size (fun kq wr => ∃ i : Int, Aside0 (((s.size : Int) - i).toNat ≤ kq ∧ 0 ≤ i ∧ i ≤ (s.size : Int) ∧ skipR s kq i = skipTo s i0 ∧ St w0 w wr g s i))
  case atStart => exact ⟨i1, ⟨by omega, by omega, by omega, by rw [skipTo, Hi1.out], HS1.out⟩⟩
  case round =>
    clear HS1
    obtain ⟨i, ⟨hk, hi0, hi2, hr2, hS⟩⟩ := hrel
    have HR := Aside0.mk hr2
    clear hr2
    by_cases h6 : at_ s i = 6
    · have hlt := (at_some (by decide) h6).1
      have hst := scanTo_step hlt (line_of_six h6)
      have hb6 : (at_ s i == 6) = true := beq_iff_eq.2 h6
      have H6 := Aside0.mk h6
      clear h6
      go_wp2_with fail
      refine (now_at g s i hi0 w0 _ hS.is hS.bel).mono ?_
      rintro e w2 ⟨rfl, hS2⟩
      have HS2 := Aside0.mk (hS.trans hS2)
      clear hS hS2
      go_wp2_with fail
      refine (while_line g s hs i hi0 hi2 w0 _ HS2.out.is HS2.out.bel).mono ?_
      rintro e w3 ⟨rfl, hS3⟩
      have hr3 := scanTo_range (lineAt s) s.size i hi2
      generalize hi3 : scanTo (lineAt s) s.size i = i3 at hS3 hr3 hst
      have HS3 := Aside0.mk (HS2.out.trans hS3)
      have Hi3 := Aside0.mk hi3
      clear hS3 hi3 HS2
      go_wp2_with fail
      refine (while_blank g s hs i3 (by omega) (by omega) w0 _ HS3.out.is HS3.out.bel).mono ?_
      rintro e w4 ⟨rfl, hS4⟩
      have hr4 := scanTo_range (blankAt s) s.size i3 (by omega)
      generalize hi4 : scanTo (blankAt s) s.size i3 = i4 at hS4 hr4
      have HS4 := Aside0.mk (HS3.out.trans hS4)
      have Hi4 := Aside0.mk hi4
      clear hS4 hi4 HS3
      go_wp2_with fail
      cases gk with
      | zero => exfalso; omega
      | succ k =>
        go_roundg k
        case measure => omega
        case rel =>
          refine ⟨i4, ⟨by omega, by omega, by omega, ?_, HS4.out⟩⟩
          have := HR.out
          rw [skipR, if_pos H6.out, Hi3.out, Hi4.out] at this
          exact this
    · have hb6 : (at_ s i == 6) = false := beq_eq_false_iff_ne.2 h6
      have H6 := Aside0.mk h6
      clear h6
      go_wp2_with fail
      refine (now_at g s i hi0 w0 _ hS.is hS.bel).mono ?_
      rintro e w2 ⟨rfl, hS2⟩
      have HS2 := Aside0.mk (hS.trans hS2)
      clear hS hS2
      go_wp2_with fail
      go_end0
      have he : i = skipTo s i0 := by
        rw [← HR.out]
        cases gk with
        | zero => rfl
        | succ k => rw [skipR, if_neg H6.out]
      exact ⟨rfl, he ▸ HS2.out⟩
def lexer_text_skip.f (s : ByteArray) (i : Int) : Option (ByteArray × Int) := if 0 ≤ i ∧ i ≤ (s.size : Int) ∧ s.size ≤ 140737488351232 then some (s, skipTo s i) else none
theorem lexer_text_skip.calls (g : Nat) (s0_0 : ByteArray) (s0_1 : Int) (r1 : ByteArray) (r2 : Int) (w0 w : World) (hI : IsS70 w0 w g s0_0 s0_1) (hB : Below w0.heap.size w0 w) (h : lexer_text_skip.f s0_0 s0_1 = some (r1, r2)) :
    Calls Tryd.prog 27 #[.pointer (some ⟨g, 0, none⟩)] w fun e w' => e = .returned (.tuple #[]) ∧ IsS70 w0 w' g r1 r2 ∧ Below w0.heap.size w0 w' ∧ KeepBut w w' g none := by
  unfold lexer_text_skip.f at h
  split at h
  · rename_i hc
    simp only [Option.some.injEq, Prod.mk.injEq] at h
    obtain ⟨rfl, rfl⟩ := h
    exact (skip_any g s0_0 hc.2.2 s0_1 hc.1 hc.2.1 w0 w hI hB).mono fun e w' ⟨he, hS⟩ => ⟨he, hS.is, hS.bel, hS.kept⟩
  · exact absurd h (by simp)
def lexer_text_named.f (s0_0 : ByteArray) (s0_1 : Int) : Option (Bool × ByteArray × Int) := (lexer_text_now.f s0_0 s0_1).bind fun bt109 => (if bt109.1 = 1 then (some (true, bt109.2.1, bt109.2.2)) else (if bt109.1 = 2 then (some (true, bt109.2.1, bt109.2.2)) else (some ((bt109.1 == 3), bt109.2.1, bt109.2.2))))
set_option maxHeartbeats 8000000 in
set_option maxRecDepth 100000 in
theorem lexer_text_named.calls (g : Nat) (s0_0 : ByteArray) (s0_1 : Int) (r1 : Bool) (r2 : ByteArray) (r3 : Int) (w0 w : World) (hI : IsS70 w0 w g s0_0 s0_1) (hB : Below w0.heap.size w0 w) (h : lexer_text_named.f s0_0 s0_1 = some (r1, r2, r3)) :
    Calls Tryd.prog 40 #[.pointer (some ⟨g, 0, none⟩)] w fun e w' => e = .returned (.bool r1) ∧ IsS70 w0 w' g r2 r3 ∧ Below w0.heap.size w0 w' ∧ KeepBut w w' g none := by
  have HI0 := Aside0.mk hI
  have HK := Aside0.mk (KeepBut.refl w g none)
  have HL := Aside0.mk hB.size
  clear hI
  have HW0 := Aside0.mk hB.size
  have HB := Aside0.mk hB
  clear hB
  have H : ((lexer_text_now.f s0_0 s0_1).bind fun bt109 => (if bt109.1 = 1 then (some (true, bt109.2.1, bt109.2.2)) else (if bt109.1 = 2 then (some (true, bt109.2.1, bt109.2.2)) else (some ((bt109.1 == 3), bt109.2.1, bt109.2.2))))) = some (r1, r2, r3) := h
  clear h
  replace H := Option.bind_eq_some_iff.mp H
  obtain ⟨⟨t109, t110, t111⟩, A20, H⟩ := H
  replace H : (if t109 = 1 then (some (true, t110, t111)) else (if t109 = 2 then (some (true, t110, t111)) else (some ((t109 == 3), t110, t111)))) = some (r1, r2, r3) := H
  have A2 := Aside0.mk A20
  clear A20
  by_cases c3 : t109 = 1
  · rw [if_pos c3] at H
    have c3b0 : (t109 == 1) = true := beq_iff_eq.mpr c3
    have c3b1 : (t109 != 1) = false := bne_eq_false_iff_eq.mpr c3
    clear c3
    simp only [Option.some.injEq, Prod.mk.injEq] at H
    obtain ⟨rfl, rfl, rfl⟩ := H
    go_enter Tryd.func40, Tryd.ntmps40
    go_wp2_with (first | ((with_reducible refine gate_callee (f := 38) rfl ?_); refine goesL_ (some 5) rfl rfl Tryd.func38 (by kernel_rfl) rfl #[.pointer (some ⟨g, 0, none⟩)] rfl (by (try simp only [List.map_toArray, List.map_cons, List.map_nil]); first | done | rfl | (simp only [List.length_drop, List.length_take]; rfl)) ?_; (with_reducible refine (lexer_text_now.calls g s0_0 s0_1 t109 t110 t111 w0 _ ?side1 ?side2 A2.out).mono ?_); (case side1 => repeat (first | (with_reducible first | exact HI0.out | apply IsS70.alloc | apply IsS70.drewN | apply IsS70.drew | apply IsS70.set_0 | apply IsS70.set_1) | exact HI0.out)); (case side2 => repeat (first | (with_reducible first | exact HB.out | apply below_alloc | apply pw_below_drewN | apply below_drew1 | refine below_set ?_ (IsS70.ge HI0.out)) | exact HB.out)); rintro e w4 ⟨rfl, hi, hb, hk⟩; refine ⟨_, rfl, ?_⟩; have n0_ := Aside0.mk (KeepBut.trans (by repeat (first | (with_reducible first | exact HK.out | apply KeepBut.set_ | apply keep_drewN | apply keep_drew | apply keep_alloc) | exact HK.out)) hk (.inl rfl)); have n1_ := Aside0.mk (hb); have n2_ := Aside0.mk (hi); clear HK; clear HB; clear HI0; have HK := n0_; have HB := n1_; have HI0 := n2_; clear n0_ n1_ n2_; (try clear hb); (try clear hb2); (try clear hk); (try clear hi)))
    go_ret
    exact ⟨by first | rfl | (simp [errW_none, errW_some] <;> rfl) | (simp [*, errW_none, errW_some] <;> rfl), by repeat (first | (with_reducible first | exact HI0.out | apply IsS70.alloc | apply IsS70.drewN | apply IsS70.drew | apply IsS70.set_0 | apply IsS70.set_1) | exact HI0.out), by repeat (first | (with_reducible first | exact HB.out | apply below_alloc | apply pw_below_drewN | apply below_drew1 | refine below_set ?_ (IsS70.ge HI0.out)) | exact HB.out), by repeat (first | (with_reducible first | exact HK.out | apply KeepBut.set_ | apply keep_drewN | apply keep_drew | apply keep_alloc) | exact HK.out)⟩
  · rw [if_neg c3] at H
    have c3b0 : (t109 == 1) = false := beq_eq_false_iff_ne.mpr c3
    have c3b1 : (t109 != 1) = true := bne_iff_ne.mpr c3
    by_cases c5 : t109 = 2
    · rw [if_pos c5] at H
      have c5b0 : (t109 == 2) = true := beq_iff_eq.mpr c5
      have c5b1 : (t109 != 2) = false := bne_eq_false_iff_eq.mpr c5
      clear c5
      simp only [Option.some.injEq, Prod.mk.injEq] at H
      obtain ⟨rfl, rfl, rfl⟩ := H
      go_enter Tryd.func40, Tryd.ntmps40
      go_wp2_with (first | ((with_reducible refine gate_callee (f := 38) rfl ?_); refine goesL_ (some 5) rfl rfl Tryd.func38 (by kernel_rfl) rfl #[.pointer (some ⟨g, 0, none⟩)] rfl (by (try simp only [List.map_toArray, List.map_cons, List.map_nil]); first | done | rfl | (simp only [List.length_drop, List.length_take]; rfl)) ?_; (with_reducible refine (lexer_text_now.calls g s0_0 s0_1 t109 t110 t111 w0 _ ?side1 ?side2 A2.out).mono ?_); (case side1 => repeat (first | (with_reducible first | exact HI0.out | apply IsS70.alloc | apply IsS70.drewN | apply IsS70.drew | apply IsS70.set_0 | apply IsS70.set_1) | exact HI0.out)); (case side2 => repeat (first | (with_reducible first | exact HB.out | apply below_alloc | apply pw_below_drewN | apply below_drew1 | refine below_set ?_ (IsS70.ge HI0.out)) | exact HB.out)); rintro e w6 ⟨rfl, hi, hb, hk⟩; refine ⟨_, rfl, ?_⟩; have n0_ := Aside0.mk (KeepBut.trans (by repeat (first | (with_reducible first | exact HK.out | apply KeepBut.set_ | apply keep_drewN | apply keep_drew | apply keep_alloc) | exact HK.out)) hk (.inl rfl)); have n1_ := Aside0.mk (hb); have n2_ := Aside0.mk (hi); clear HK; clear HB; clear HI0; have HK := n0_; have HB := n1_; have HI0 := n2_; clear n0_ n1_ n2_; (try clear hb); (try clear hb2); (try clear hk); (try clear hi)))
      go_ret
      exact ⟨by first | rfl | (simp [errW_none, errW_some] <;> rfl) | (simp [*, errW_none, errW_some] <;> rfl), by repeat (first | (with_reducible first | exact HI0.out | apply IsS70.alloc | apply IsS70.drewN | apply IsS70.drew | apply IsS70.set_0 | apply IsS70.set_1) | exact HI0.out), by repeat (first | (with_reducible first | exact HB.out | apply below_alloc | apply pw_below_drewN | apply below_drew1 | refine below_set ?_ (IsS70.ge HI0.out)) | exact HB.out), by repeat (first | (with_reducible first | exact HK.out | apply KeepBut.set_ | apply keep_drewN | apply keep_drew | apply keep_alloc) | exact HK.out)⟩
    · rw [if_neg c5] at H
      have c5b0 : (t109 == 2) = false := beq_eq_false_iff_ne.mpr c5
      have c5b1 : (t109 != 2) = true := bne_iff_ne.mpr c5
      simp only [Option.some.injEq, Prod.mk.injEq] at H
      obtain ⟨rfl, rfl, rfl⟩ := H
      go_enter Tryd.func40, Tryd.ntmps40
      go_wp2_with (first | ((with_reducible refine gate_callee (f := 38) rfl ?_); refine goesL_ (some 5) rfl rfl Tryd.func38 (by kernel_rfl) rfl #[.pointer (some ⟨g, 0, none⟩)] rfl (by (try simp only [List.map_toArray, List.map_cons, List.map_nil]); first | done | rfl | (simp only [List.length_drop, List.length_take]; rfl)) ?_; (with_reducible refine (lexer_text_now.calls g s0_0 s0_1 t109 t110 t111 w0 _ ?side1 ?side2 A2.out).mono ?_); (case side1 => repeat (first | (with_reducible first | exact HI0.out | apply IsS70.alloc | apply IsS70.drewN | apply IsS70.drew | apply IsS70.set_0 | apply IsS70.set_1) | exact HI0.out)); (case side2 => repeat (first | (with_reducible first | exact HB.out | apply below_alloc | apply pw_below_drewN | apply below_drew1 | refine below_set ?_ (IsS70.ge HI0.out)) | exact HB.out)); rintro e w7 ⟨rfl, hi, hb, hk⟩; refine ⟨_, rfl, ?_⟩; have n0_ := Aside0.mk (KeepBut.trans (by repeat (first | (with_reducible first | exact HK.out | apply KeepBut.set_ | apply keep_drewN | apply keep_drew | apply keep_alloc) | exact HK.out)) hk (.inl rfl)); have n1_ := Aside0.mk (hb); have n2_ := Aside0.mk (hi); clear HK; clear HB; clear HI0; have HK := n0_; have HB := n1_; have HI0 := n2_; clear n0_ n1_ n2_; (try clear hb); (try clear hb2); (try clear hk); (try clear hi)))
      go_ret
      exact ⟨by first | rfl | (simp [errW_none, errW_some] <;> rfl) | (simp [*, errW_none, errW_some] <;> rfl), by repeat (first | (with_reducible first | exact HI0.out | apply IsS70.alloc | apply IsS70.drewN | apply IsS70.drew | apply IsS70.set_0 | apply IsS70.set_1) | exact HI0.out), by repeat (first | (with_reducible first | exact HB.out | apply below_alloc | apply pw_below_drewN | apply below_drew1 | refine below_set ?_ (IsS70.ge HI0.out)) | exact HB.out), by repeat (first | (with_reducible first | exact HK.out | apply KeepBut.set_ | apply keep_drewN | apply keep_drew | apply keep_alloc) | exact HK.out)⟩
def lexer_text_counted.f (s0_0 : ByteArray) (s0_1 : Int) : Option (Bool × ByteArray × Int) := (lexer_text_now.f s0_0 s0_1).bind fun bt112 => (some ((bt112.1 == 2), bt112.2.1, bt112.2.2))
set_option maxHeartbeats 8000000 in
set_option maxRecDepth 100000 in
theorem lexer_text_counted.calls (g : Nat) (s0_0 : ByteArray) (s0_1 : Int) (r1 : Bool) (r2 : ByteArray) (r3 : Int) (w0 w : World) (hI : IsS70 w0 w g s0_0 s0_1) (hB : Below w0.heap.size w0 w) (h : lexer_text_counted.f s0_0 s0_1 = some (r1, r2, r3)) :
    Calls Tryd.prog 41 #[.pointer (some ⟨g, 0, none⟩)] w fun e w' => e = .returned (.bool r1) ∧ IsS70 w0 w' g r2 r3 ∧ Below w0.heap.size w0 w' ∧ KeepBut w w' g none := by
  have HI0 := Aside0.mk hI
  have HK := Aside0.mk (KeepBut.refl w g none)
  have HL := Aside0.mk hB.size
  clear hI
  have HW0 := Aside0.mk hB.size
  have HB := Aside0.mk hB
  clear hB
  have H : ((lexer_text_now.f s0_0 s0_1).bind fun bt112 => (some ((bt112.1 == 2), bt112.2.1, bt112.2.2))) = some (r1, r2, r3) := h
  clear h
  replace H := Option.bind_eq_some_iff.mp H
  obtain ⟨⟨t112, t113, t114⟩, A20, H⟩ := H
  replace H : (some ((t112 == 2), t113, t114)) = some (r1, r2, r3) := H
  have A2 := Aside0.mk A20
  clear A20
  simp only [Option.some.injEq, Prod.mk.injEq] at H
  obtain ⟨rfl, rfl, rfl⟩ := H
  go_enter Tryd.func41, Tryd.ntmps41
  go_wp2_with (first | ((with_reducible refine gate_callee (f := 38) rfl ?_); refine goesL_ (some 4) rfl rfl Tryd.func38 (by kernel_rfl) rfl #[.pointer (some ⟨g, 0, none⟩)] rfl (by (try simp only [List.map_toArray, List.map_cons, List.map_nil]); first | done | rfl | (simp only [List.length_drop, List.length_take]; rfl)) ?_; (with_reducible refine (lexer_text_now.calls g s0_0 s0_1 t112 t113 t114 w0 _ ?side1 ?side2 A2.out).mono ?_); (case side1 => repeat (first | (with_reducible first | exact HI0.out | apply IsS70.alloc | apply IsS70.drewN | apply IsS70.drew | apply IsS70.set_0 | apply IsS70.set_1) | exact HI0.out)); (case side2 => repeat (first | (with_reducible first | exact HB.out | apply below_alloc | apply pw_below_drewN | apply below_drew1 | refine below_set ?_ (IsS70.ge HI0.out)) | exact HB.out)); rintro e w3 ⟨rfl, hi, hb, hk⟩; refine ⟨_, rfl, ?_⟩; have n0_ := Aside0.mk (KeepBut.trans (by repeat (first | (with_reducible first | exact HK.out | apply KeepBut.set_ | apply keep_drewN | apply keep_drew | apply keep_alloc) | exact HK.out)) hk (.inl rfl)); have n1_ := Aside0.mk (hb); have n2_ := Aside0.mk (hi); clear HK; clear HB; clear HI0; have HK := n0_; have HB := n1_; have HI0 := n2_; clear n0_ n1_ n2_; (try clear hb); (try clear hb2); (try clear hk); (try clear hi)))
  go_ret
  exact ⟨by first | rfl | (simp [errW_none, errW_some] <;> rfl) | (simp [*, errW_none, errW_some] <;> rfl), by repeat (first | (with_reducible first | exact HI0.out | apply IsS70.alloc | apply IsS70.drewN | apply IsS70.drew | apply IsS70.set_0 | apply IsS70.set_1) | exact HI0.out), by repeat (first | (with_reducible first | exact HB.out | apply below_alloc | apply pw_below_drewN | apply below_drew1 | refine below_set ?_ (IsS70.ge HI0.out)) | exact HB.out), by repeat (first | (with_reducible first | exact HK.out | apply KeepBut.set_ | apply keep_drewN | apply keep_drew | apply keep_alloc) | exact HK.out)⟩
def lexer_number.f (a0 : Bool) (a1 : ByteArray) : Option (Bool) := if a1.toList = ([] : List UInt8) then (some false) else (if (a1.size : Int) > 9 then (some false) else (if 0 < (a1.size : Int) then (if (bt a1 0) = 48 then (if a1.toList = ([48] : List UInt8) then (some (!a0)) else (some false)) else (some true)) else (none)))
set_option maxHeartbeats 8000000 in
set_option maxRecDepth 100000 in
theorem lexer_number.calls (a0 : Bool) (a1 : ByteArray) (r : Bool) (w : World) (h : lexer_number.f a0 a1 = some r) :
    Calls Tryd.prog 42 #[.bool a0, .string a1] w fun e w' => e = .returned (.bool r) ∧ Drawn0 w w' := by
  have H : (if a1.toList = ([] : List UInt8) then (some false) else (if (a1.size : Int) > 9 then (some false) else (if 0 < (a1.size : Int) then (if (bt a1 0) = 48 then (if a1.toList = ([48] : List UInt8) then (some (!a0)) else (some false)) else (some true)) else (none)))) = some r := h
  clear h
  by_cases c3 : a1.toList = ([] : List UInt8)
  · rw [if_pos c3] at H
    have c3b0 : (a1.toList == ([] : List UInt8)) = true := beq_iff_eq.mpr c3
    have c3b1 : (a1.toList != ([] : List UInt8)) = false := bne_eq_false_iff_eq.mpr c3
    clear c3
    obtain rfl := Option.some.inj H
    go_enter Tryd.func42, Tryd.ntmps42
    go_wp2
    go_ret
    exact ⟨by first | rfl | (simp; done) | (simp [*]; done), by repeat (first | exact Drawn0.refl _ | apply Drawn0.step)⟩
  · rw [if_neg c3] at H
    have c3b0 : (a1.toList == ([] : List UInt8)) = false := beq_eq_false_iff_ne.mpr c3
    have c3b1 : (a1.toList != ([] : List UInt8)) = true := bne_iff_ne.mpr c3
    by_cases c4 : (a1.size : Int) > 9
    · rw [if_pos c4] at H
      have c4b0 : decide (9 < (a1.size : Int)) = true := decide_eq_true c4
      have c4b1 : decide (9 < a1.size) = true := decide_eq_true (by omega)
      clear c4
      obtain rfl := Option.some.inj H
      go_enter Tryd.func42, Tryd.ntmps42
      go_wp2
      go_ret
      exact ⟨by first | rfl | (simp; done) | (simp [*]; done), by repeat (first | exact Drawn0.refl _ | apply Drawn0.step)⟩
    · rw [if_neg c4] at H
      have c4b0 : decide (9 < (a1.size : Int)) = false := decide_eq_false c4
      have c4b1 : decide (9 < a1.size) = false := decide_eq_false (by omega)
      clear c4
      by_cases c5 : 0 < (a1.size : Int)
      · rw [if_pos c5] at H
        have c5b0 : decide (0 < (a1.size : Int)) = true := decide_eq_true c5
        have c5b1 : decide (0 < a1.size) = true := decide_eq_true (by omega)
        clear c5
        by_cases c7 : (bt a1 0) = 48
        · rw [if_pos c7] at H
          have c7b0 : ((bt a1 0) == 48) = true := beq_iff_eq.mpr c7
          have c7b1 : ((bt a1 0) != 48) = false := bne_eq_false_iff_eq.mpr c7
          clear c7
          by_cases c8 : a1.toList = ([48] : List UInt8)
          · rw [if_pos c8] at H
            have c8b0 : (a1.toList == ([48] : List UInt8)) = true := beq_iff_eq.mpr c8
            have c8b1 : (a1.toList != ([48] : List UInt8)) = false := bne_eq_false_iff_eq.mpr c8
            clear c8
            obtain rfl := Option.some.inj H
            have p6 : 0 ≤ (0 : Int) := (by omega)
            have q6 : 0 < a1.size := (by have : (0 : Int) < (a1.size : Int) := of_decide_eq_true (by first | (with_reducible assumption) | assumption); omega)
            have hx6 : ∀ h : 0 < a1.size, ((a1[0]'h).toNat : Int) = bt a1 0 := bt_at a1 0
            clear p6
            have qi6 : (0 < (a1.size : Int)) = True := eq_true (of_decide_eq_true (by first | (with_reducible assumption) | assumption))
            replace q6 := eq_true q6
            go_enter Tryd.func42, Tryd.ntmps42
            go_wp2
            go_ret
            exact ⟨by first | rfl | (simp; done) | (simp [*]; done), by repeat (first | exact Drawn0.refl _ | apply Drawn0.step)⟩
          · rw [if_neg c8] at H
            have c8b0 : (a1.toList == ([48] : List UInt8)) = false := beq_eq_false_iff_ne.mpr c8
            have c8b1 : (a1.toList != ([48] : List UInt8)) = true := bne_iff_ne.mpr c8
            obtain rfl := Option.some.inj H
            have p6 : 0 ≤ (0 : Int) := (by omega)
            have q6 : 0 < a1.size := (by have : (0 : Int) < (a1.size : Int) := of_decide_eq_true (by first | (with_reducible assumption) | assumption); omega)
            have hx6 : ∀ h : 0 < a1.size, ((a1[0]'h).toNat : Int) = bt a1 0 := bt_at a1 0
            clear p6
            have qi6 : (0 < (a1.size : Int)) = True := eq_true (of_decide_eq_true (by first | (with_reducible assumption) | assumption))
            replace q6 := eq_true q6
            go_enter Tryd.func42, Tryd.ntmps42
            go_wp2
            go_ret
            exact ⟨by first | rfl | (simp; done) | (simp [*]; done), by repeat (first | exact Drawn0.refl _ | apply Drawn0.step)⟩
        · rw [if_neg c7] at H
          have c7b0 : ((bt a1 0) == 48) = false := beq_eq_false_iff_ne.mpr c7
          have c7b1 : ((bt a1 0) != 48) = true := bne_iff_ne.mpr c7
          obtain rfl := Option.some.inj H
          have p6 : 0 ≤ (0 : Int) := (by omega)
          have q6 : 0 < a1.size := (by have : (0 : Int) < (a1.size : Int) := of_decide_eq_true (by first | (with_reducible assumption) | assumption); omega)
          have hx6 : ∀ h : 0 < a1.size, ((a1[0]'h).toNat : Int) = bt a1 0 := bt_at a1 0
          clear p6
          have qi6 : (0 < (a1.size : Int)) = True := eq_true (of_decide_eq_true (by first | (with_reducible assumption) | assumption))
          replace q6 := eq_true q6
          go_enter Tryd.func42, Tryd.ntmps42
          go_wp2
          go_ret
          exact ⟨by first | rfl | (simp; done) | (simp [*]; done), by repeat (first | exact Drawn0.refl _ | apply Drawn0.step)⟩
      · rw [if_neg c5] at H
        exact absurd H (by simp)
end Go.Proofs.YtonhcfecfifghaaDoor.PPx
namespace Go.Proofs.YtonhcfecfifghaaDoor.PPx
open Go.RowKit Go.Proofs.YtonhcfecfifghaaDoorW.PrintWords Go.Proofs.YtonhcfecfifghaaDoorW.PrintLast Go.Proofs.YtonhcfecfifghaaDoorW.PrintMore
set_option linter.unusedVariables false
set_option linter.unusedSimpArgs false
theorem named_at (g : Nat) (s : ByteArray) (w0 w : World) (i : Int) (h : 0 ≤ i) (hI : IsS70 w0 w g s i) (hB : Below w0.heap.size w0 w) :
    Calls Tryd.prog 40 #[.pointer (some ⟨g, 0, none⟩)] w fun e w' => e = .returned (.bool (wordAt s i)) ∧ St w0 w w' g s i :=
  (lexer_text_named.calls g s i (wordAt s i) s i w0 w hI hB (by
    rw [lexer_text_named.f, now_f s i h]
    simp only [Option.bind_some, wordAt]
    by_cases h1 : at_ s i = 1
    · simp [h1]
    · by_cases h2 : at_ s i = 2
      · simp [h2]
      · simp [h1, h2])).mono fun e w' ⟨he, h1, h2, h3⟩ => ⟨he, h1, h2, h3⟩
theorem counted_at (g : Nat) (s : ByteArray) (w0 w : World) (i : Int) (h : 0 ≤ i) (_ : i < (s.size : Int)) (hI : IsS70 w0 w g s i) (hB : Below w0.heap.size w0 w) :
    Calls Tryd.prog 41 #[.pointer (some ⟨g, 0, none⟩)] w fun e w' => e = .returned (.bool (digitAt s i)) ∧ St w0 w w' g s i :=
  (lexer_text_counted.calls g s i (digitAt s i) s i w0 w hI hB (by rw [lexer_text_counted.f, now_f s i h]; rfl)).mono fun e w' ⟨he, h1, h2, h3⟩ => ⟨he, h1, h2, h3⟩
set_option maxRecDepth 100000 in
theorem while_word (g : Nat) (s : ByteArray) (hs : s.size ≤ 140737488351232) (i0 : Int) (h0 : 0 ≤ i0) (h1 : i0 ≤ (s.size : Int)) (w0 w : World) (hI : IsS70 w0 w g s i0) (hB : Below w0.heap.size w0 w) :
    Calls Tryd.prog 36 #[.pointer (some ⟨g, 0, none⟩), .func (.func 40) #[.pointer (some ⟨g, 0, none⟩)] #[]] w fun e w' => e = .returned (.tuple #[]) ∧ St w0 w w' g s (scanTo (wordAt s) s.size i0) :=
  while_scan 40 (fun _ _ => by rfl) (wordAt s) g s hs (fun w0 W i h _ => named_at g s w0 W i h) i0 h0 h1 w0 w hI hB
set_option maxRecDepth 100000 in
theorem while_digit (g : Nat) (s : ByteArray) (hs : s.size ≤ 140737488351232) (i0 : Int) (h0 : 0 ≤ i0) (h1 : i0 ≤ (s.size : Int)) (w0 w : World) (hI : IsS70 w0 w g s i0) (hB : Below w0.heap.size w0 w) :
    Calls Tryd.prog 36 #[.pointer (some ⟨g, 0, none⟩), .func (.func 41) #[.pointer (some ⟨g, 0, none⟩)] #[]] w fun e w' => e = .returned (.tuple #[]) ∧ St w0 w w' g s (scanTo (digitAt s) s.size i0) :=
  while_scan 41 (fun _ _ => by rfl) (digitAt s) g s hs (fun w0 W i => counted_at g s w0 W i) i0 h0 h1 w0 w hI hB
/-- the scanner, and beside it the result's own variable at block b, still zero -/
structure Nx (w0 w W : World) (g b : Nat) (s : ByteArray) (i : Int) : Prop where
  st : St w0 w W g s i
  res : W.heap[b]? = some (.cells #[.int .i64 0, .string ⟨#[]⟩, .int .i64 0] 44 (0, 0))
  ne : b ≠ g
  ge : w.heap.size ≤ b
  ge0 : w0.heap.size ≤ b
theorem Nx.trans {w0 w W W1 : World} {g b : Nat} {s s1 : ByteArray} {i i1 : Int} (h : Nx w0 w W g b s i) (k : St w0 W W1 g s1 i1) : Nx w0 w W1 g b s1 i1 :=
  ⟨h.st.trans k, k.kept.blk h.res h.ne (by simp), h.ne, h.ge, h.ge0⟩
theorem Nx.new {w0 w : World} {g : Nat} {s : ByteArray} {i : Int} (hI : IsS70 w0 w g s i) (hB : Below w0.heap.size w0 w) : Nx w0 w (w.alloc (.cells #[.int .i64 0, .string ⟨#[]⟩, .int .i64 0] 44)) g w.heap.size s i :=
  ⟨(St.start hI hB).below (below_alloc (Below.refl _ _) _), heap_alloc_new _ _, fun h => Nat.lt_irrefl _ (h ▸ hI.lt), Nat.le_refl _, hB.size⟩
/-- the result is stored: what is handed back -/
theorem Nx.stored0 {w0 w W : World} {g b : Nat} {s : ByteArray} {i : Int} (h : Nx w0 w W g b s i) (x y z : Value) :
    St w0 w (((W.setCell ⟨b, 0, none⟩ x).setCell ⟨b, 1, none⟩ y).setCell ⟨b, 2, none⟩ z) g s i ∧ (((W.setCell ⟨b, 0, none⟩ x).setCell ⟨b, 1, none⟩ y).setCell ⟨b, 2, none⟩ z).heap[b]? = some (.cells #[x, y, z] 44 (0, 0)) := by
  have hgb := Ne.symm h.ne
  refine ⟨⟨(((h.st.is.far hgb x).far hgb y).far hgb z), below_set (below_set (below_set h.st.bel h.ge0) h.ge0) h.ge0, keep_far (keep_far (keep_far h.st.kept h.ge _) h.ge _) h.ge _⟩, ?_⟩
  have h1 := blk_set h.res 0 x
  have h2 := blk_set h1 1 y
  have h3 := blk_set h2 2 z
  simpa using h3
theorem Nx.stored {w0 w W : World} {g b : Nat} {s : ByteArray} {i : Int} (h : Nx w0 w W g b s i) (x y z : Value) :
    St w0 w ((((W.setCell ⟨b, 0, none⟩ x).setCell ⟨b, 1, none⟩ y).setCell ⟨b, 2, none⟩ z).drew) g s i ∧ ((((W.setCell ⟨b, 0, none⟩ x).setCell ⟨b, 1, none⟩ y).setCell ⟨b, 2, none⟩ z).drew).heap[b]? = some (.cells #[x, y, z] 44 (0, 0)) :=
  ⟨(h.stored0 x y z).1.drew, blk_drew (h.stored0 x y z).2⟩
theorem res18 {W : World} {b : Nat} {x y z v : Value} (h : W.heap[b]? = some (.cells #[x, y, z] 44 (0, 0))) (tmps : Array Value) (h2 : tmps.getD 2 undef = .pointer (some ⟨b, 0, none⟩)) (h3 : tmps.getD 3 undef = v) :
    (results Tryd.f28 tmps).run Tryd.prog W = .ok (.tuple #[.agg #[x, y, z], v]) W := by
  rw [results_cell_tmp (p := 2) (u := 3) (ty := 44) Tryd.results28, h2, h3]
  simp only [asAddr, Sem.run_pure, Result.andThen_ok]
  rw [run_loadVar_row W b 44 44 #[x, y, z] (0, 0) _ h Tryd.underlying44 rfl (by kernel_rfl)]
  rfl
set_option maxRecDepth 100000 in
theorem next_word (g : Nat) (s : ByteArray) (hs : s.size ≤ 140737488351232) (i : Int) (h0 : 0 ≤ i) (hc : at_ s i = 1) (w0 w : World) (hI : IsS70 w0 w g s i) (hB : Below w0.heap.size w0 w) :
    Calls Tryd.prog 28 #[.pointer (some ⟨g, 0, none⟩)] w fun e w' => e = .returned (.tuple #[.agg #[.int .i64 1, .string (s.extract i.toNat (scanTo (wordAt s) s.size i).toNat), .int .i64 i], .bool true]) ∧ St w0 w w' g s (scanTo (wordAt s) s.size i) := by
  have hmf : ∀ (fn : Fn) (first cap : Array Value) (w : World), (Instr.makeFunc fn first cap).run Tryd.prog w = .ok (.func fn first cap) w := fun _ _ _ _ => rfl
  have hlt := (at_some (by decide) hc).1
  have HN := Aside0.mk (Nx.new hI hB)
  have hcb : (at_ s i == 1) = true := beq_iff_eq.2 hc
  have c1 := cellS70_1 hI.1
  have hgl := hI.lt
  clear hI hB
  have Hc := Aside0.mk hc
  clear hc
  go_enter Tryd.func28, Tryd.ntmps28
  go_wp2_with fail
  refine (now_at g s i h0 w0 _ HN.out.st.is HN.out.st.bel).mono ?_
  rintro e w2 ⟨rfl, hS2⟩
  have HN2 := Aside0.mk (HN.out.trans hS2)
  clear hS2 HN
  go_wp2_with fail
  refine (while_word g s hs i h0 (by omega) w0 _ HN2.out.st.is HN2.out.st.bel).mono ?_
  rintro e w3 ⟨rfl, hS3⟩
  have hr3 := scanTo_range (wordAt s) s.size i (by omega)
  generalize hi3 : scanTo (wordAt s) s.size i = i3 at *
  have HN3 := Aside0.mk (HN2.out.trans hS3)
  have Hi3 := Aside0.mk hi3
  clear hS3 hi3 HN2
  go_wp2_with fail
  have c0 := HN3.out.st.cell0
  have c1 := HN3.out.st.cell1
  have d0 := blk_cell HN3.out.res 0
  have d1 := blk_cell HN3.out.res 1
  have d2 := blk_cell HN3.out.res 2
  have e0 := blk_frozen HN3.out.res 0
  have e1 := blk_frozen HN3.out.res 1
  have e2 := blk_frozen HN3.out.res 2
  go_still_tail 13, (by kernel_rfl)
  go_wp2_with fail
  have hst := HN3.out.stored (.int .i64 1) (.string (s.extract i.toNat i3.toNat)) (.int .i64 i)
  refine bodyPost_ret (res18 (v := .bool true) hst.2 _ rfl rfl) rfl ⟨?_, ?_⟩
  · rw [Hi3.out]
  · rw [Hi3.out]; exact hst.1
set_option maxRecDepth 100000 in
theorem next_sign (g : Nat) (s : ByteArray) (hs : s.size ≤ 140737488351232) (i : Int) (h0 : 0 ≤ i) (hc : at_ s i = 4) (w0 w : World) (hI : IsS70 w0 w g s i) (hB : Below w0.heap.size w0 w) :
    Calls Tryd.prog 28 #[.pointer (some ⟨g, 0, none⟩)] w fun e w' => e = .returned (.tuple #[.agg #[.int .i64 3, .string (s.extract i.toNat (i + 1).toNat), .int .i64 i], .bool true]) ∧ St w0 w w' g s (i + 1) := by
  have hlt := (at_some (by decide) hc).1
  have HN := Aside0.mk (Nx.new hI hB)
  have hcb : (at_ s i == 4) = true := beq_iff_eq.2 hc
  have hcb1 : (at_ s i == 1) = false := beq_eq_false_iff_ne.2 (by omega)
  have c1 := cellS70_1 hI.1
  have hgl := hI.lt
  clear hI hB
  have Hc := Aside0.mk hc
  clear hc
  go_enter Tryd.func28, Tryd.ntmps28
  go_wp2_with fail
  refine (now_at g s i h0 w0 _ HN.out.st.is HN.out.st.bel).mono ?_
  rintro e w2 ⟨rfl, hS2⟩
  have HN2 := Aside0.mk (HN.out.trans hS2)
  clear hS2 HN
  have c1 := HN2.out.st.cell1
  have f1 := blk_frozen HN2.out.st.is.1 1
  go_wp2_with fail
  have HN3 := Aside0.mk (HN2.out.trans ((St.start HN2.out.st.is HN2.out.st.bel).set (i + 1)))
  clear HN2 c1 f1
  generalize w2.setCell _ _ = w3 at *
  have hr3 : i ≤ i + 1 ∧ i + 1 ≤ (s.size : Int) := ⟨by omega, by omega⟩
  generalize hi3 : i + 1 = i3 at *
  have Hi3 := Aside0.mk hi3
  clear hi3
  have c0 := HN3.out.st.cell0
  have c1 := HN3.out.st.cell1
  have d0 := blk_cell HN3.out.res 0
  have d1 := blk_cell HN3.out.res 1
  have d2 := blk_cell HN3.out.res 2
  have e0 := blk_frozen HN3.out.res 0
  have e1 := blk_frozen HN3.out.res 1
  have e2 := blk_frozen HN3.out.res 2
  go_still_tail 13, (by kernel_rfl)
  go_wp2_with fail
  have hst := HN3.out.stored (.int .i64 3) (.string (s.extract i.toNat i3.toNat)) (.int .i64 i)
  exact bodyPost_ret (res18 (v := .bool true) hst.2 _ rfl rfl) rfl ⟨by rw [Hi3.out], by rw [Hi3.out]; exact hst.1⟩
set_option maxRecDepth 100000 in
theorem next_none (g : Nat) (s : ByteArray) (hs : s.size ≤ 140737488351232) (i : Int) (h0 : 0 ≤ i) (h1 : at_ s i ≠ 1) (h4 : at_ s i ≠ 4) (h7 : at_ s i ≠ 7) (h2 : at_ s i ≠ 2) (w0 w : World) (hI : IsS70 w0 w g s i) (hB : Below w0.heap.size w0 w) :
    Calls Tryd.prog 28 #[.pointer (some ⟨g, 0, none⟩)] w fun e w' => e = .returned (.tuple #[.agg #[.int .i64 0, .string ⟨#[]⟩, .int .i64 0], .bool false]) ∧ St w0 w w' g s i := by
  have HN := Aside0.mk (Nx.new hI hB)
  have hcb1 : (at_ s i == 1) = false := beq_eq_false_iff_ne.2 h1
  have hcb4 : (at_ s i == 4) = false := beq_eq_false_iff_ne.2 h4
  have hcb7 : (at_ s i == 7) = false := beq_eq_false_iff_ne.2 h7
  have hcb2 : (at_ s i == 2) = false := beq_eq_false_iff_ne.2 h2
  have c1 := cellS70_1 hI.1
  have hgl := hI.lt
  clear hI hB h1 h4 h7 h2
  go_enter Tryd.func28, Tryd.ntmps28
  go_wp2_with fail
  refine (now_at g s i h0 w0 _ HN.out.st.is HN.out.st.bel).mono ?_
  rintro e w2 ⟨rfl, hS2⟩
  have HN3 := Aside0.mk (HN.out.trans hS2)
  clear hS2 HN
  have c0 := HN3.out.st.cell0
  have c1 := HN3.out.st.cell1
  have d0 := blk_cell HN3.out.res 0
  have d1 := blk_cell HN3.out.res 1
  have d2 := blk_cell HN3.out.res 2
  have e0 := blk_frozen HN3.out.res 0
  have e1 := blk_frozen HN3.out.res 1
  have e2 := blk_frozen HN3.out.res 2
  go_wp2_with fail
  have hst := HN3.out.stored0 (.int .i64 0) (.string ⟨#[]⟩) (.int .i64 0)
  exact bodyPost_ret (res18 (v := .bool false) hst.2 _ rfl rfl) rfl ⟨rfl, hst.1⟩
def numOK (sg : Bool) (d : ByteArray) : Bool := (lexer_number.f sg d).getD false
theorem number_f (sg : Bool) (d : ByteArray) : lexer_number.f sg d = some (numOK sg d) := by
  unfold numOK lexer_number.f
  by_cases h : d.toList = []
  · rw [if_pos h]; rfl
  · rw [if_neg h]
    have hp : 0 < (d.size : Int) := by
      rcases Nat.eq_zero_or_pos d.size with h0 | h0
      · exact absurd (by rw [ByteArray.toList_eq, Array.eq_empty_of_size_eq_zero (show d.data.size = 0 from h0)]) h
      · omega
    rw [if_pos hp]
    split
    · rfl
    · split
      · split <;> rfl
      · rfl
theorem Nx.drew {w0 w W : World} {g b : Nat} {s : ByteArray} {i : Int} (h : Nx w0 w W g b s i) : Nx w0 w W.drew g b s i := ⟨h.st.drew, h.res, h.ne, h.ge, h.ge0⟩
theorem Nx.drewN {w0 w W : World} {g b : Nat} {s : ByteArray} {i : Int} (h : Nx w0 w W g b s i) (n : Nat) : Nx w0 w (W.drewN n) g b s i := ⟨h.st.drewN n, h.res, h.ne, h.ge, h.ge0⟩
theorem Nx.held {w0 w W : World} {g b : Nat} {s : ByteArray} {i : Int} (h : Nx w0 w W g b s i) :
    W.cell? ⟨g, 0, none⟩ = some (.string s) ∧ W.cell? ⟨g, 1, none⟩ = some (.int .i64 i) ∧ Aside0 (Nx w0 w W g b s i) := ⟨h.st.cell0, h.st.cell1, ⟨h⟩⟩
/-- where the digits begin -/
def firstAt (sg : Bool) (i : Int) : Int := if sg = true then i + 1 else i
set_option maxHeartbeats 4000000 in
set_option maxRecDepth 100000 in
theorem next_number (sg v wd : Bool) (g : Nat) (s : ByteArray) (hs : s.size ≤ 140737488351232) (i j : Int) (h0 : 0 ≤ i) (hc : at_ s i = if sg = true then 7 else 2)
    (hj : scanTo (digitAt s) s.size (firstAt sg i) = j) (hv : numOK sg (s.extract (firstAt sg i).toNat j.toNat) = v) (hw : wordAt s j = wd) (w0 w : World) (hI : IsS70 w0 w g s i) (hB : Below w0.heap.size w0 w) :
    Calls Tryd.prog 28 #[.pointer (some ⟨g, 0, none⟩)] w fun e w' => e = .returned (if (v && !wd) = true then .tuple #[.agg #[.int .i64 2, .string (s.extract i.toNat j.toNat), .int .i64 i], .bool true] else .tuple #[.agg #[.int .i64 0, .string ⟨#[]⟩, .int .i64 0], .bool false]) ∧ St w0 w w' g s j := by
  have hmf : ∀ (fn : Fn) (first cap : Array Value) (w : World), (Instr.makeFunc fn first cap).run Tryd.prog w = .ok (.func fn first cap) w := fun _ _ _ _ => rfl
  have hlt := (at_some (by cases sg <;> simp) hc).1
  have HN := Aside0.mk (Nx.new hI hB)
  have c1 := cellS70_1 hI.1
  have hgl := hI.lt
  clear hI hB
  have Hj := Aside0.mk hj
  have Hv := Aside0.mk (hv ▸ number_f sg (s.extract (firstAt sg i).toNat j.toNat))
  have Hw := Aside0.mk hw
  clear hj hv hw
  cases sg with
  | true =>
    simp only [if_true, firstAt] at *
    have hcb : (at_ s i == 7) = true := beq_iff_eq.2 hc
    have hcb1 : (at_ s i == 1) = false := beq_eq_false_iff_ne.2 (by omega)
    have hcb4 : (at_ s i == 4) = false := beq_eq_false_iff_ne.2 (by omega)
    have Hc := Aside0.mk hc
    clear hc
    go_enter Tryd.func28, Tryd.ntmps28
    go_wp2_with fail
    refine (now_at g s i h0 w0 _ HN.out.st.is HN.out.st.bel).mono ?_
    rintro e w2 ⟨rfl, hS2⟩
    have HN2 := Aside0.mk (HN.out.trans hS2)
    clear hS2 HN
    go_wp2_with fail
    refine (now_at g s i h0 w0 _ HN2.out.st.is HN2.out.st.bel).mono ?_
    rintro e w3 ⟨rfl, hS3⟩
    have HN3 := Aside0.mk (HN2.out.trans hS3)
    clear hS3 HN2
    have c1 := HN3.out.st.cell1
    have f1 := blk_frozen HN3.out.st.is.1 1
    go_wp2_with fail
    refine (while_digit g s hs (i + 1) (by omega) (by omega) w0 _ (HN3.out.st.set (i + 1)).is (HN3.out.st.set (i + 1)).bel).mono ?_
    rintro e w4 ⟨rfl, hS4⟩
    have HN4 := Aside0.mk ((HN3.out.trans ((St.start HN3.out.st.is HN3.out.st.bel).set (i + 1))).trans hS4)
    have hr4 := scanTo_range (digitAt s) s.size (i + 1) (by omega)
    rw [Hj.out] at HN4 hr4
    clear hS4 HN3 c1 f1
    have hij : i ≤ j := by omega
    have hp1 : 0 ≤ i + 1 := by omega
    have Hv' : Aside0 (lexer_number.f true (s.extract (i + 1).toNat j.toNat) = some v) := Hv
    generalize hi1 : i + 1 = i1 at *
    have Hi1 := Aside0.mk hi1
    clear hi1
    go_wp2_with fail
    have HN5 := HN4
    clear HN4
    cases v with
    | false =>
      have c0 := HN5.out.st.cell0
      have c1 := HN5.out.st.cell1
      have HQ : ∀ n, Calls Tryd.prog 42 #[.bool true, .string (s.extract i1.toNat j.toNat)] (w4.drewN n) fun e w' => e = .returned (.bool false) ∧ ∃ m, w' = (w4.drewN n).drewN m := fun n => (lexer_number.calls true _ _ _ Hv'.out).mono fun e w' ⟨he, hd⟩ => ⟨he, hd.out⟩
      have HQ' := Aside0.mk HQ
      clear HQ
      go_quiet ((go_at_call 42; exact Calls.quiet_of (HQ'.out _)))
      have HN6 := Aside0.mk (HN5.out.drewN nq)
      clear HN5 c0 c1
      have d0 := blk_cell HN6.out.res 0
      have d1 := blk_cell HN6.out.res 1
      have d2 := blk_cell HN6.out.res 2
      have e0 := blk_frozen HN6.out.res 0
      have e1 := blk_frozen HN6.out.res 1
      have e2 := blk_frozen HN6.out.res 2
      go_wp2_with fail
      have hst := HN6.out.stored0 (.int .i64 0) (.string ⟨#[]⟩) (.int .i64 0)
      exact bodyPost_ret (res18 (v := .bool false) hst.2 _ rfl rfl) rfl ⟨rfl, hst.1⟩
    | true =>
      cases wd with
      | true =>
        have HS := HN5
        go_region_held3 (fun W' => W'.cell? ⟨g, 0, none⟩ = some (.string s) ∧ W'.cell? ⟨g, 1, none⟩ = some (.int .i64 j) ∧ Aside0 (Nx w0 w W' g w.heap.size s j)) (first | exact HS.out.drew.held | exact (HS.out.drewN _).held | exact ((HS.out.drewN _).trans hst).held) (first | (go_at_call 42; refine (lexer_number.calls true _ _ _ Hv'.out).mono ?_; rintro e w' ⟨rfl, ⟨nd, rfl⟩⟩) | (go_at_call 40; refine (named_at g s w0 _ j (by omega) (HS.out.drewN _).st.is (HS.out.drewN _).st.bel).mono ?_; rw [Hw.out]; rintro e w' ⟨rfl, hst⟩))
        all_goals
        have HN6 := Aside0.mk ((HS.out.drewN _).trans hst)
        clear HS HN5
        have d0 := blk_cell HN6.out.res 0
        have d1 := blk_cell HN6.out.res 1
        have d2 := blk_cell HN6.out.res 2
        have e0 := blk_frozen HN6.out.res 0
        have e1 := blk_frozen HN6.out.res 1
        have e2 := blk_frozen HN6.out.res 2
        go_wp2_with fail
        have hst := HN6.out.stored0 (.int .i64 0) (.string ⟨#[]⟩) (.int .i64 0)
        exact bodyPost_ret (res18 (v := .bool false) hst.2 _ rfl rfl) rfl ⟨rfl, hst.1⟩
      | false =>
        have HS := HN5
        go_region_held3 (fun W' => W'.cell? ⟨g, 0, none⟩ = some (.string s) ∧ W'.cell? ⟨g, 1, none⟩ = some (.int .i64 j) ∧ Aside0 (Nx w0 w W' g w.heap.size s j)) (first | exact HS.out.drew.held | exact (HS.out.drewN _).held | exact ((HS.out.drewN _).trans hst).held) (first | (go_at_call 42; refine (lexer_number.calls true _ _ _ Hv'.out).mono ?_; rintro e w' ⟨rfl, ⟨nd, rfl⟩⟩) | (go_at_call 40; refine (named_at g s w0 _ j (by omega) (HS.out.drewN _).st.is (HS.out.drewN _).st.bel).mono ?_; rw [Hw.out]; rintro e w' ⟨rfl, hst⟩))
        all_goals
        have HN6 := Aside0.mk ((HS.out.drewN _).trans hst)
        clear HS HN5 hst
        have c0 := HN6.out.st.cell0
        have c1 := HN6.out.st.cell1
        have d0 := blk_cell HN6.out.res 0
        have d1 := blk_cell HN6.out.res 1
        have d2 := blk_cell HN6.out.res 2
        have e0 := blk_frozen HN6.out.res 0
        have e1 := blk_frozen HN6.out.res 1
        have e2 := blk_frozen HN6.out.res 2
        go_wp2_with fail
        go_still_tail 13, (by kernel_rfl)
        go_wp2_with fail
        have hst := HN6.out.stored (.int .i64 2) (.string (s.extract i.toNat j.toNat)) (.int .i64 i)
        exact bodyPost_ret (res18 (v := .bool true) hst.2 _ rfl rfl) rfl ⟨rfl, hst.1⟩
  | false =>
    simp only [Bool.false_eq_true, if_false, firstAt] at *
    have hcb7 : (at_ s i == 7) = false := beq_eq_false_iff_ne.2 (by omega)
    have hcb : (at_ s i == 2) = true := beq_iff_eq.2 hc
    have hcb1 : (at_ s i == 1) = false := beq_eq_false_iff_ne.2 (by omega)
    have hcb4 : (at_ s i == 4) = false := beq_eq_false_iff_ne.2 (by omega)
    have Hc := Aside0.mk hc
    clear hc
    go_enter Tryd.func28, Tryd.ntmps28
    go_wp2_with fail
    refine (now_at g s i h0 w0 _ HN.out.st.is HN.out.st.bel).mono ?_
    rintro e w2 ⟨rfl, hS2⟩
    have HN2 := Aside0.mk (HN.out.trans hS2)
    clear hS2 HN
    go_wp2_with fail
    refine (now_at g s i h0 w0 _ HN2.out.st.is HN2.out.st.bel).mono ?_
    rintro e w3 ⟨rfl, hS3⟩
    have HN3 := Aside0.mk (HN2.out.trans hS3)
    clear hS3 HN2
    have c1 := HN3.out.st.cell1
    have f1 := blk_frozen HN3.out.st.is.1 1
    go_wp2_with fail
    refine (while_digit g s hs i (by omega) (by omega) w0 _ HN3.out.st.is HN3.out.st.bel).mono ?_
    rintro e w4 ⟨rfl, hS4⟩
    have HN4 := Aside0.mk (HN3.out.trans hS4)
    have hr4 := scanTo_range (digitAt s) s.size i (by omega)
    rw [Hj.out] at HN4 hr4
    clear hS4 HN3 c1 f1
    have Hv' : Aside0 (lexer_number.f false (s.extract i.toNat j.toNat) = some v) := Hv
    go_wp2_with fail
    have HN5 := HN4
    clear HN4
    cases v with
    | false =>
      have c0 := HN5.out.st.cell0
      have c1 := HN5.out.st.cell1
      have HQ : ∀ n, Calls Tryd.prog 42 #[.bool false, .string (s.extract i.toNat j.toNat)] (w4.drewN n) fun e w' => e = .returned (.bool false) ∧ ∃ m, w' = (w4.drewN n).drewN m := fun n => (lexer_number.calls false _ _ _ Hv'.out).mono fun e w' ⟨he, hd⟩ => ⟨he, hd.out⟩
      have HQ' := Aside0.mk HQ
      clear HQ
      go_quiet ((go_at_call 42; exact Calls.quiet_of (HQ'.out _)))
      have HN6 := Aside0.mk (HN5.out.drewN nq)
      clear HN5 c0 c1
      have d0 := blk_cell HN6.out.res 0
      have d1 := blk_cell HN6.out.res 1
      have d2 := blk_cell HN6.out.res 2
      have e0 := blk_frozen HN6.out.res 0
      have e1 := blk_frozen HN6.out.res 1
      have e2 := blk_frozen HN6.out.res 2
      go_wp2_with fail
      have hst := HN6.out.stored0 (.int .i64 0) (.string ⟨#[]⟩) (.int .i64 0)
      exact bodyPost_ret (res18 (v := .bool false) hst.2 _ rfl rfl) rfl ⟨rfl, hst.1⟩
    | true =>
      cases wd with
      | true =>
        have HS := HN5
        go_region_held3 (fun W' => W'.cell? ⟨g, 0, none⟩ = some (.string s) ∧ W'.cell? ⟨g, 1, none⟩ = some (.int .i64 j) ∧ Aside0 (Nx w0 w W' g w.heap.size s j)) (first | exact HS.out.drew.held | exact (HS.out.drewN _).held | exact ((HS.out.drewN _).trans hst).held) (first | (go_at_call 42; refine (lexer_number.calls false _ _ _ Hv'.out).mono ?_; rintro e w' ⟨rfl, ⟨nd, rfl⟩⟩) | (go_at_call 40; refine (named_at g s w0 _ j (by omega) (HS.out.drewN _).st.is (HS.out.drewN _).st.bel).mono ?_; rw [Hw.out]; rintro e w' ⟨rfl, hst⟩))
        all_goals
        have HN6 := Aside0.mk ((HS.out.drewN _).trans hst)
        clear HS HN5
        have d0 := blk_cell HN6.out.res 0
        have d1 := blk_cell HN6.out.res 1
        have d2 := blk_cell HN6.out.res 2
        have e0 := blk_frozen HN6.out.res 0
        have e1 := blk_frozen HN6.out.res 1
        have e2 := blk_frozen HN6.out.res 2
        go_wp2_with fail
        have hst := HN6.out.stored0 (.int .i64 0) (.string ⟨#[]⟩) (.int .i64 0)
        exact bodyPost_ret (res18 (v := .bool false) hst.2 _ rfl rfl) rfl ⟨rfl, hst.1⟩
      | false =>
        have HS := HN5
        go_region_held3 (fun W' => W'.cell? ⟨g, 0, none⟩ = some (.string s) ∧ W'.cell? ⟨g, 1, none⟩ = some (.int .i64 j) ∧ Aside0 (Nx w0 w W' g w.heap.size s j)) (first | exact HS.out.drew.held | exact (HS.out.drewN _).held | exact ((HS.out.drewN _).trans hst).held) (first | (go_at_call 42; refine (lexer_number.calls false _ _ _ Hv'.out).mono ?_; rintro e w' ⟨rfl, ⟨nd, rfl⟩⟩) | (go_at_call 40; refine (named_at g s w0 _ j (by omega) (HS.out.drewN _).st.is (HS.out.drewN _).st.bel).mono ?_; rw [Hw.out]; rintro e w' ⟨rfl, hst⟩))
        all_goals
        have HN6 := Aside0.mk ((HS.out.drewN _).trans hst)
        clear HS HN5 hst
        have c0 := HN6.out.st.cell0
        have c1 := HN6.out.st.cell1
        have d0 := blk_cell HN6.out.res 0
        have d1 := blk_cell HN6.out.res 1
        have d2 := blk_cell HN6.out.res 2
        have e0 := blk_frozen HN6.out.res 0
        have e1 := blk_frozen HN6.out.res 1
        have e2 := blk_frozen HN6.out.res 2
        go_wp2_with fail
        go_still_tail 13, (by kernel_rfl)
        go_wp2_with fail
        have hst := HN6.out.stored (.int .i64 2) (.string (s.extract i.toNat j.toNat)) (.int .i64 i)
        exact bodyPost_ret (res18 (v := .bool true) hst.2 _ rfl rfl) rfl ⟨rfl, hst.1⟩
/-- the next token at i: its kind, its text, its place, whether there is one, and where the scanner stands behind it -/
def nextAt (s : ByteArray) (i : Int) : Int × ByteArray × Int × Bool × Int :=
  if at_ s i = 1 then (1, s.extract i.toNat (scanTo (wordAt s) s.size i).toNat, i, true, scanTo (wordAt s) s.size i)
  else if at_ s i = 4 then (3, s.extract i.toNat (i + 1).toNat, i, true, i + 1)
  else if at_ s i = 7 ∨ at_ s i = 2 then
    let sg : Bool := at_ s i == 7
    let j := scanTo (digitAt s) s.size (firstAt sg i)
    if (numOK sg (s.extract (firstAt sg i).toNat j.toNat) && !wordAt s j) = true then (2, s.extract i.toNat j.toNat, i, true, j) else (0, ⟨#[]⟩, 0, false, j)
  else (0, ⟨#[]⟩, 0, false, i)
def lexer_text_next.f (s : ByteArray) (i : Int) : Option (Int × ByteArray × Int × Bool × ByteArray × Int) :=
  if 0 ≤ i ∧ s.size ≤ 140737488351232 then some ((nextAt s i).1, (nextAt s i).2.1, (nextAt s i).2.2.1, (nextAt s i).2.2.2.1, s, (nextAt s i).2.2.2.2) else none
theorem lexer_text_next.calls (g : Nat) (s0_0 : ByteArray) (s0_1 : Int) (r1 : Int) (r2 : ByteArray) (r3 : Int) (r4 : Bool) (r5 : ByteArray) (r6 : Int) (w0 w : World) (hI : IsS70 w0 w g s0_0 s0_1) (hB : Below w0.heap.size w0 w) (h : lexer_text_next.f s0_0 s0_1 = some (r1, r2, r3, r4, r5, r6)) :
    Calls Tryd.prog 28 #[.pointer (some ⟨g, 0, none⟩)] w fun e w' => e = .returned (.tuple #[.agg #[.int .i64 r1, .string r2, .int .i64 r3], .bool r4]) ∧ IsS70 w0 w' g r5 r6 ∧ Below w0.heap.size w0 w' ∧ KeepBut w w' g none := by
  unfold lexer_text_next.f at h
  split at h
  · rename_i hc
    simp only [Option.some.injEq, Prod.mk.injEq] at h
    obtain ⟨rfl, rfl, rfl, rfl, rfl, rfl⟩ := h
    unfold nextAt
    by_cases h1 : at_ s0_0 s0_1 = 1
    · simp only [if_pos h1]
      exact (next_word g s0_0 hc.2 s0_1 hc.1 h1 w0 w hI hB).mono fun e w' ⟨he, hS⟩ => ⟨he, hS.is, hS.bel, hS.kept⟩
    · simp only [if_neg h1]
      by_cases h4 : at_ s0_0 s0_1 = 4
      · simp only [if_pos h4]
        exact (next_sign g s0_0 hc.2 s0_1 hc.1 h4 w0 w hI hB).mono fun e w' ⟨he, hS⟩ => ⟨he, hS.is, hS.bel, hS.kept⟩
      · simp only [if_neg h4]
        by_cases h7 : at_ s0_0 s0_1 = 7 ∨ at_ s0_0 s0_1 = 2
        · simp only [if_pos h7]
          have hcc : at_ s0_0 s0_1 = if (at_ s0_0 s0_1 == 7) = true then 7 else 2 := by
            rcases h7 with h7 | h7 <;> simp [h7]
          refine (next_number _ _ _ g s0_0 hc.2 s0_1 _ hc.1 hcc rfl rfl rfl w0 w hI hB).mono fun e w' ⟨he, hS⟩ => ?_
          split
          · rename_i hv
            rw [if_pos hv] at he
            exact ⟨he, hS.is, hS.bel, hS.kept⟩
          · rename_i hv
            rw [if_neg hv] at he
            exact ⟨he, hS.is, hS.bel, hS.kept⟩
        · simp only [if_neg h7]
          exact (next_none g s0_0 hc.2 s0_1 hc.1 h1 h4 (fun h => h7 (.inl h)) (fun h => h7 (.inr h)) w0 w hI hB).mono fun e w' ⟨he, hS⟩ => ⟨he, hS.is, hS.bel, hS.kept⟩
  · exact absurd h (by simp)
theorem skipR_range (s : ByteArray) : ∀ (k : Nat) (i : Int), 0 ≤ i → i ≤ (s.size : Int) → i ≤ skipR s k i ∧ skipR s k i ≤ (s.size : Int) := by
  intro k
  induction k with
  | zero => intro i h0 h1; simp only [skipR]; omega
  | succ k ih =>
    intro i h0 h1
    simp only [skipR]
    split
    · have h2 := scanTo_range (lineAt s) s.size i h1
      have h3 := scanTo_range (blankAt s) s.size (scanTo (lineAt s) s.size i) h2.2
      have := ih _ (by omega) h3.2
      omega
    · omega
theorem skipTo_range (s : ByteArray) (i : Int) (h0 : 0 ≤ i) (h1 : i ≤ (s.size : Int)) : i ≤ skipTo s i ∧ skipTo s i ≤ (s.size : Int) := by
  have h2 := scanTo_range (blankAt s) s.size i h1
  have := skipR_range s s.size (scanTo (blankAt s) s.size i) (by omega) h2.2
  unfold skipTo
  omega
theorem word_of_one {s : ByteArray} {i : Int} (h : at_ s i = 1) : wordAt s i = true := by simp [wordAt, h]
theorem numOK_pos {sg : Bool} {d : ByteArray} (h : numOK sg d = true) : 0 < d.size := by
  rcases Nat.eq_zero_or_pos d.size with h0 | h0
  · exfalso
    have hd : d.toList = [] := by rw [ByteArray.toList_eq, Array.eq_empty_of_size_eq_zero (show d.data.size = 0 from h0)]
    have := number_f sg d
    rw [h, lexer_number.f, if_pos hd] at this
    simp at this
  · exact h0
theorem nextAt_range (s : ByteArray) (i : Int) (h0 : 0 ≤ i) (h1 : i ≤ (s.size : Int)) (hok : (nextAt s i).2.2.2.1 = true) : i + 1 ≤ (nextAt s i).2.2.2.2 ∧ (nextAt s i).2.2.2.2 ≤ (s.size : Int) := by
  unfold nextAt at hok ⊢
  by_cases c1 : at_ s i = 1
  · simp only [if_pos c1] at hok ⊢
    have hlt := (at_some (by decide) c1).1
    exact ⟨scanTo_step hlt (word_of_one c1), (scanTo_range _ _ _ h1).2⟩
  · simp only [if_neg c1] at hok ⊢
    by_cases c4 : at_ s i = 4
    · simp only [if_pos c4] at hok ⊢
      have hlt := (at_some (by decide) c4).1
      omega
    · simp only [if_neg c4] at hok ⊢
      by_cases c7 : at_ s i = 7 ∨ at_ s i = 2
      · simp only [if_pos c7] at hok ⊢
        have hlt : i < (s.size : Int) := by rcases c7 with c | c <;> exact (at_some (by decide) c).1
        have hf : i ≤ firstAt (at_ s i == 7) i ∧ firstAt (at_ s i == 7) i ≤ (s.size : Int) := by unfold firstAt; split <;> omega
        generalize firstAt (at_ s i == 7) i = f at *
        have hr := scanTo_range (digitAt s) s.size f hf.2
        generalize scanTo (digitAt s) s.size f = j at *
        split at hok
        · rename_i hc
          rw [if_pos hc]
          simp only [Bool.and_eq_true] at hc
          have hp := numOK_pos hc.1
          rw [ByteArray.size_extract] at hp
          simp only
          omega
        · simp at hok
      · simp only [if_neg c7] at hok
        exact absurd hok (by simp)
/-- the tokens from i on, behind those that were read; at most k of them -/
def lexGo (s : ByteArray) : Nat → Int → List S44 → List S44 × Int × Int
  | 0, _, acc => (acc, 0, 0)
  | k + 1, i, acc =>
    if i < (s.size : Int) then
      if (nextAt s i).2.2.2.1 = true then lexGo s k (skipTo s (nextAt s i).2.2.2.2) (acc ++ [⟨(nextAt s i).1, (nextAt s i).2.1, (nextAt s i).2.2.1⟩])
      else ([], 100, i)
    else (acc, 0, 0)
def lexB (s : ByteArray) : List S44 × Int × Int := if s.size > 20000 then ([], 2, 0) else lexGo s (s.size + 1) (skipTo s 0) []
def lexer_Lex.f (a0 : ByteArray) : Option (List S44 × Int × Int) := some (lexB a0)
theorem lexer_Lex.calls (a0 : ByteArray) (r1 : List (S44)) (r2 : Int) (r3 : Int) (w : World) (h : lexer_Lex.f a0 = some (r1, r2, r3)) :
    Calls Tryd.prog 17 #[.string a0] w fun e w' => ∃ v0_ : Value, e = .returned (.tuple #[v0_, .int .i64 r2, .int .i64 r3]) ∧ Kd.R k44 44 w' w.heap.size (fun _ => True) v0_ r1 ∧ Below w.heap.size w w' := by
  unfold lexer_Lex.f lexB at h
  have huT := Tryd.underlying44
  by_cases c2 : a0.size > 20000
  · rw [if_pos c2] at h
    simp only [Option.some.injEq, Prod.mk.injEq] at h
    obtain ⟨rfl, rfl, rfl⟩ := h
    have c2b0 : decide (20000 < (a0.size : Int)) = true := decide_eq_true (by omega)
    have c2b1 : decide (20000 < a0.size) = true := decide_eq_true c2
    clear c2
    go_enter Tryd.func17, Tryd.ntmps17
    go_wp2
    go_ret3
    exact ⟨_, rfl, Kd.R_nil _ _ _ _ _, Below.refl _ _⟩
  · rw [if_neg c2] at h
    have c2b0 : decide (20000 < (a0.size : Int)) = false := decide_eq_false (by omega)
    have c2b1 : decide (20000 < a0.size) = false := decide_eq_false c2
    have H := Aside0.mk (Option.some.inj h)
    clear h
    have hsz : a0.size ≤ 20000 := by omega
    clear c2
    go_enter Tryd.func17, Tryd.ntmps17
    go_wp2_with fail
    have hs2 : a0.size ≤ 140737488351232 := by omega
    have HI := Aside0.mk (IsS70.new w w a0 0 (Below.refl _ _))
    have HB := Aside0.mk (below_alloc (Below.refl w.heap.size w) (.cells #[.string a0, .int .i64 0] 70))
    refine (skip_any w.heap.size a0 hs2 0 (by omega) (by omega) w _ HI.out HB.out).mono ?_
    rintro e w1 ⟨rfl, hS1⟩
    have hr := skipTo_range a0 0 (by omega) (by omega)
    have HS1 := Aside0.mk hS1
    clear hS1
    clear HI HB
    have Hg : Aside0 (∃ g : Nat, g = w.heap.size) := ⟨⟨_, rfl⟩⟩
    go_wp2_with fail
    go_loopg [6] (a0.size + 1) (fun kq v wr => ∃ (i : Int) (acc : List S44), Aside0 (0 < kq ∧ ((a0.size : Int) - i).toNat < kq ∧ acc.length + kq ≤ a0.size + 1 ∧ 0 ≤ i ∧ i ≤ (a0.size : Int) ∧ lexGo a0 kq i acc = (r1, r2, r3) ∧ Kd.R k44 44 wr w.heap.size (fun k => k ≠ w.heap.size) v acc ∧ IsS70 w wr w.heap.size a0 i ∧ Below w.heap.size w wr))
    case atStart => exact ⟨skipTo a0 0, [], ⟨by omega, by omega, by simp, by omega, by omega, H.out, Kd.R_nil _ _ _ _ _, HS1.out.is, HS1.out.bel⟩⟩
    case round =>
      clear H HS1
      obtain ⟨i, acc, ⟨hk0, hk, hlen, hi0, hi1, hgo, hR, hI, hB⟩⟩ := hrel
      cases gk with
      | zero => exact absurd hk0 (by omega)
      | succ k =>
        simp only [lexGo] at hgo
        have HR := Aside0.mk hR
        have HI := Aside0.mk hI
        have HB := Aside0.mk hB
        have c0 := cellS70_0 hI.1
        have c1 := cellS70_1 hI.1
        have hgl := hI.lt
        clear hR hI hB
        by_cases c6 : i < (a0.size : Int)
        · rw [if_pos c6] at hgo
          have c6b0 : decide (i < (a0.size : Int)) = true := decide_eq_true c6
          have hnr := nextAt_range a0 i hi0 hi1
          have HN := lexer_text_next.calls w.heap.size a0 i (nextAt a0 i).1 (nextAt a0 i).2.1 (nextAt a0 i).2.2.1 (nextAt a0 i).2.2.2.1 a0 (nextAt a0 i).2.2.2.2 w wr HI.out HB.out (by rw [lexer_text_next.f, if_pos ⟨hi0, hs2⟩])
          generalize nextAt a0 i = x at *
          obtain ⟨x1, x2, x3, x4, x5⟩ := x
          simp only at hgo hnr HN
          have HN' := Aside0.mk HN
          clear HN
          cases x4 with
          | false =>
            rw [if_neg (by simp)] at hgo
            simp only [Prod.mk.injEq] at hgo
            obtain ⟨rfl, rfl, rfl⟩ := hgo
            go_wp2_with fail
            refine HN'.out.mono ?_
            rintro e w2 ⟨rfl, hI2, hB2, hK2⟩
            have HB2 := Aside0.mk hB2
            have hlt2 := hI2.lt
            clear hI2 hB2 hK2
            go_wp2_with fail
            go_ret3
            exact ⟨_, rfl, Kd.R_nil _ _ _ _ _, by repeat (first | exact HB2.out | apply below_alloc)⟩
          | true =>
            rw [if_pos rfl] at hgo
            go_wp2_with fail
            refine HN'.out.mono ?_
            rintro e w2 ⟨rfl, hI2, hB2, hK2⟩
            have HR2 := Aside0.mk (Kd.R_keep HR.out hK2 (fun _ h => h))
            have HI2 := Aside0.mk hI2
            have HB2 := Aside0.mk hB2
            have HW2 := Aside0.mk hI2.lt
            have Hgo := Aside0.mk hgo
            have hn1 : x5 ≤ (a0.size : Int) ∧ i + 1 ≤ x5 := by have := hnr; simp only [forall_const] at this; omega
            have Hlen := Aside0.mk hlen
            clear hI2 hB2 hK2 HR HI HB HN' hgo hnr hlen c0 c1
            go_wp2_with (at_builtin; refine Kd.R_append k44 (w0 := w) w.heap.size rfl (.tmp 39) (.tmp 41) 38 44 (.agg #[(.int .i64 0), (.string ⟨#[]⟩), (.int .i64 0)]) 32 rfl Tryd.underlying38 info44 rfl (by decide) (by omega) u6 acc (⟨x1, x2, x3⟩ : S44) [.int .i64 x1, .string x2, .int .i64 x3] (fun k_ => k_ ≠ w.heap.size) (fun _ => False) rfl (by first | (go_simp; done) | (go_simp; rfl)) ?aP (fun _ hk => hk.elim) ?aF ?aO ?aB ?aS ?aL ?_)
            case aP => exact k44_mkM _ _ _ (⟨x1, x2, x3⟩ : S44)
            case aF => intro k hk; have := HW2.out; simp at hk; omega
            case aO => exact Kd.R_alloc HR2.out _
            case aB => exact below_alloc HB2.out _
            case aS => have := HW2.out; simp; omega
            case aL => have := Hlen.out; omega
            intro v1 w3 hR3 hB3 hg3 hat3
            have hI3 := (HI2.out.alloc (.cells #[.int .i64 x1, .string x2, .int .i64 x3] 44)).grown hg3 (Kd.R_away HR2.out (fun _ h => h))
            have HR3 := Aside0.mk hR3
            have HB3 := Aside0.mk hB3
            have HI3 := Aside0.mk hI3
            clear hI3 hR3 hB3 hg3 hat3 HR2 HI2 HB2 HW2
            go_wp2_with fail
            refine (skip_any w.heap.size a0 hs2 x5 (by omega) (by omega) w _ HI3.out HB3.out).mono ?_
            rintro e w4 ⟨rfl, hS4⟩
            have hr4 := skipTo_range a0 x5 (by omega) (by omega)
            have HS4 := Aside0.mk hS4
            have HR4 := Aside0.mk (Kd.R_keep HR3.out hS4.kept (fun _ h => h))
            clear hS4 HR3 HB3 HI3
            go_wp2_with fail
            go_roundg k
            case measure => omega
            case rel =>
              have := Hlen.out
              exact ⟨skipTo a0 x5, acc ++ [⟨x1, x2, x3⟩], ⟨by omega, by omega, by simp; omega, by omega, by omega, Hgo.out, HR4.out, HS4.out.is, HS4.out.bel⟩⟩
        · rw [if_neg c6] at hgo
          have c6b0 : decide (i < (a0.size : Int)) = false := decide_eq_false c6
          simp only [Prod.mk.injEq] at hgo
          obtain ⟨rfl, rfl, rfl⟩ := hgo
          go_wp2_with fail
          go_ret3
          exact ⟨_, rfl, Kd.R_mono HR.out (fun _ _ => trivial), HB.out⟩
def slices_Index_string_string.l0 : Nat → List ByteArray → ByteArray → Int → Int → Option (Int)
  | 0, _, _, _, _ => none
  | k + 1, x0, x1, x7, x8 => if x8 < x7 then (if 0 ≤ x8 then (if x8 < (x0.length : Int) then (if x1.toList = (rdOf ByteArray.empty x0 x8).toList then (some x8) else (slices_Index_string_string.l0 k x0 x1 x7 (wrap64 (x8 + 1)))) else (none)) else (none)) else (some (-1))
def slices_Index_string_string.f (k : Nat) (l0 : List ByteArray) (a1 : ByteArray) : Option (Int) := slices_Index_string_string.l0 k l0 a1 (l0.length : Int) 0
theorem slices_Index_string_string.mono_l : ∀ k, (∀ y0 y1 y2 y3, LeO (slices_Index_string_string.l0 k y0 y1 y2 y3) (slices_Index_string_string.l0 (k + 1) y0 y1 y2 y3))
  | 0 => fun _ _ _ _ r h => by simp [slices_Index_string_string.l0] at h
  | k + 1 => by
    have ih0 := slices_Index_string_string.mono_l k
    · intro y0 y1 y2 y3
      unfold slices_Index_string_string.l0
      repeat' first
      | (with_reducible exact ih0 _ _ _ _)
      | (with_reducible exact LeO.refl _)
      | (with_reducible exact LeO.none _)
      | (with_reducible refine LeO.ite ?_ ?_)
      | (with_reducible refine LeO.bind ?_ (fun _ => ?_))
      | exact ih0 _ _ _ _
      | exact LeO.none _
      | refine LeO.ite ?_ ?_
      | refine LeO.bind ?_ (fun _ => ?_)
theorem slices_Index_string_string.mono : ∀ a0 a1 k, LeO (slices_Index_string_string.f k a0 a1) (slices_Index_string_string.f (k + 1) a0 a1) := by
  intro a0 a1 k
  have ih0 := slices_Index_string_string.mono_l k
  unfold slices_Index_string_string.f
  repeat' first
      | (with_reducible exact ih0 _ _ _ _)
      | (with_reducible exact LeO.refl _)
      | (with_reducible exact LeO.none _)
      | (with_reducible refine LeO.ite ?_ ?_)
      | (with_reducible refine LeO.bind ?_ (fun _ => ?_))
      | exact ih0 _ _ _ _
      | exact LeO.none _
      | refine LeO.ite ?_ ?_
      | refine LeO.bind ?_ (fun _ => ?_)
set_option maxHeartbeats 8000000 in
set_option maxRecDepth 100000 in
theorem slices_Index_string_string.calls (k : Nat) (A0 : Option Addr) (c0 : Nat) (l0 : List ByteArray) (a1 : ByteArray) (r : Int) (w : World) (hr0 : Kd.C Kd.string w A0 l0.length l0) (hc0 : l0.length ≤ c0) (h : slices_Index_string_string.f k l0 a1 = some r) :
    Calls Tryd.prog 60 #[.slice A0 l0.length c0, .string a1] w fun e w' => e = .returned (.int .i64 r) ∧ Drawn0 w w' := by
  have HR0 := Aside0.mk hr0
  have HC0 := Aside0.mk hc0
  clear hr0 hc0
  have H : (slices_Index_string_string.l0 k l0 a1 (l0.length : Int) 0) = some r := h
  clear h
  have H' := Aside0.mk H
  clear H
  go_enter Tryd.func60, Tryd.ntmps60
  go_wp2
  go_loopg [8] k (fun kq v8 w' => ∃ (x8_1 : Int), v8 = .int .i64 x8_1 ∧ Aside0 (slices_Index_string_string.l0 kq l0 a1 (l0.length : Int) x8_1 = some r) ∧ Aside0 (kq ≤ k) ∧ Drawn0 w w')
  case atStart => exact ⟨(0), (by first | rfl | (simp; done) | (simp [*]; done)), H', ⟨Nat.le_refl _⟩, by repeat (first | exact Drawn0.refl _ | apply Drawn0.step)⟩
  case round =>
    clear H'
    try clear p2
    obtain ⟨x8_1, rfl, HA, HK1, ⟨m1, rfl⟩⟩ := hrel
    cases gk with
    | zero => exact absurd HA.out (by simp [slices_Index_string_string.l0])
    | succ k1 =>
      have H := HA.out
      clear HA
      simp only [slices_Index_string_string.l0] at H
      by_cases c3 : x8_1 < (l0.length : Int)
      · rw [if_pos c3] at H
        have c3b0 : decide (x8_1 < (l0.length : Int)) = true := decide_eq_true c3
        clear c3
        by_cases c4 : 0 ≤ x8_1
        · rw [if_pos c4] at H
          have c4b0 : decide (0 ≤ x8_1) = true := decide_eq_true c4
          clear c4
          by_cases c5 : x8_1 < (l0.length : Int)
          · rw [if_pos c5] at H
            have c5b0 : decide (x8_1 < (l0.length : Int)) = true := decide_eq_true c5
            clear c5
            by_cases c6 : a1.toList = (rdOf ByteArray.empty l0 x8_1).toList
            · rw [if_pos c6] at H
              have c6b0 : (a1.toList == (rdOf ByteArray.empty l0 x8_1).toList) = true := beq_iff_eq.mpr c6
              have c6b1 : (a1.toList != (rdOf ByteArray.empty l0 x8_1).toList) = false := bne_eq_false_iff_eq.mpr c6
              clear c6
              obtain rfl := Option.some.inj H
              have p115 : 0 ≤ (x8_1 : Int) := of_decide_eq_true (by first | (with_reducible assumption) | assumption)
              have q115 : x8_1 < (l0.length : Int) := of_decide_eq_true (by first | (with_reducible assumption) | assumption)
              obtain ⟨ad115, e115, hx115_0⟩ := Kd.at_string HR0.out x8_1 p115 q115
              cases e115
              replace p115 := eq_true p115
              replace q115 := eq_true q115
              go_wp2
              go_ret
              exact ⟨by first | rfl | (simp; done) | (simp [*]; done), by repeat (first | exact Drawn0.refl _ | apply Drawn0.step)⟩
            · rw [if_neg c6] at H
              have c6b0 : (a1.toList == (rdOf ByteArray.empty l0 x8_1).toList) = false := beq_eq_false_iff_ne.mpr c6
              have c6b1 : (a1.toList != (rdOf ByteArray.empty l0 x8_1).toList) = true := bne_iff_ne.mpr c6
              have H' := Aside0.mk H
              clear H
              have p115 : 0 ≤ (x8_1 : Int) := of_decide_eq_true (by first | (with_reducible assumption) | assumption)
              have q115 : x8_1 < (l0.length : Int) := of_decide_eq_true (by first | (with_reducible assumption) | assumption)
              obtain ⟨ad115, e115, hx115_0⟩ := Kd.at_string HR0.out x8_1 p115 q115
              cases e115
              replace p115 := eq_true p115
              replace q115 := eq_true q115
              go_wp2
              go_roundg k1
              case measure => have := HK1.out; omega
              case rel => exact ⟨(wrap64 (x8_1 + 1)), (by first | rfl | (simp; done) | (simp [*]; done)), H', ⟨by have := HK1.out; omega⟩, by repeat (first | exact Drawn0.refl _ | apply Drawn0.step)⟩
          · rw [if_neg c5] at H
            exact absurd H (by simp)
        · rw [if_neg c4] at H
          exact absurd H (by simp)
      · rw [if_neg c3] at H
        have c3b0 : decide (x8_1 < (l0.length : Int)) = false := decide_eq_false c3
        clear c3
        obtain rfl := Option.some.inj H
        go_wp2
        go_ret
        exact ⟨by first | rfl | (simp; done) | (simp [*]; done), by repeat (first | exact Drawn0.refl _ | apply Drawn0.step)⟩
def slices_Contains_string_string.f (k : Nat) (l0 : List ByteArray) (a1 : ByteArray) : Option (Bool) := (slices_Index_string_string.f k l0 a1).bind fun t116 => (some (decide (t116 ≥ 0)))
theorem slices_Contains_string_string.mono : ∀ a0 a1 k, LeO (slices_Contains_string_string.f k a0 a1) (slices_Contains_string_string.f (k + 1) a0 a1) := by
  intro a0 a1 k
  unfold slices_Contains_string_string.f
  repeat' first
      | (with_reducible exact slices_Index_string_string.mono _ _ _)
      | (with_reducible exact LeO.refl _)
      | (with_reducible exact LeO.none _)
      | (with_reducible refine LeO.ite ?_ ?_)
      | (with_reducible refine LeO.bind ?_ (fun _ => ?_))
      | exact slices_Index_string_string.mono _ _ _
      | exact LeO.none _
      | refine LeO.ite ?_ ?_
      | refine LeO.bind ?_ (fun _ => ?_)
set_option maxHeartbeats 8000000 in
set_option maxRecDepth 100000 in
theorem slices_Contains_string_string.calls (k : Nat) (A0 : Option Addr) (c0 : Nat) (l0 : List ByteArray) (a1 : ByteArray) (r : Bool) (w : World) (hr0 : Kd.C Kd.string w A0 l0.length l0) (hc0 : l0.length ≤ c0) (h : slices_Contains_string_string.f k l0 a1 = some r) :
    Calls Tryd.prog 59 #[.slice A0 l0.length c0, .string a1] w fun e w' => e = .returned (.bool r) ∧ Drawn0 w w' := by
  have HR0 := Aside0.mk hr0
  have HC0 := Aside0.mk hc0
  clear hr0 hc0
  have H : ((slices_Index_string_string.f k l0 a1).bind fun t116 => (some (decide (t116 ≥ 0)))) = some r := h
  clear h
  replace H := Option.bind_eq_some_iff.mp H
  obtain ⟨t116, A30, H⟩ := H
  replace H : (some (decide (t116 ≥ 0))) = some r := H
  have A3 := Aside0.mk A30
  clear A30
  obtain rfl := Option.some.inj H
  go_enter Tryd.func59, Tryd.ntmps59
  go_wp2_with (first | ((with_reducible refine gate_callee (f := 60) rfl ?_); refine goesL_ (some 7) rfl rfl Tryd.func60 (by kernel_rfl) rfl #[.slice A0 l0.length c0, .string a1] rfl (by (try simp only [List.map_toArray, List.map_cons, List.map_nil]); first | done | rfl | (simp only [List.length_drop, List.length_take]; rfl)) ?_; (with_reducible refine (slices_Index_string_string.calls k _ _ l0 a1 t116 _ ?side1 ?side2 A3.out).mono ?_); (case side1 => repeat (first | exact HR0.out | (with_reducible refine Kd.C_alloc ?_ _) | (with_reducible refine Kd.C_drewN ?_ _) | (with_reducible refine Kd.C_drew ?_))); (case side2 => exact HC0.out); rintro e w' ⟨rfl, ⟨nd, rfl⟩⟩; refine ⟨_, rfl, ?_⟩))
  go_ret
  exact ⟨by first | rfl | (simp; done) | (simp [*]; done), by repeat (first | exact Drawn0.refl _ | apply Drawn0.step)⟩
/-- A state of type 59 at block g of W; what its slices lead to came in by w0. -/
def IsS59 (w0 W : World) (g : Nat) (f0 : List (S44)) (f1 : Int) (f2 : Int) (f3 : List (S35)) (f4 : Bool) : Prop := ∃ A0 c0, ∃ A3 c3, W.heap[g]? = some (.cells #[.slice A0 f0.length c0, .int .i64 f1, .int .i64 f2, .slice A3 f3.length c3, .bool f4] 59 (0, 0)) ∧ w0.heap.size ≤ g ∧ Kd.C k44 w0 A0 f0.length f0 ∧ Kd.C k35 w0 A3 f3.length f3
theorem IsS59.grown {w0 W : World} {g : Nat} {f0 : List (S44)} {f1 : Int} {f2 : Int} {f3 : List (S35)} {f4 : Bool} {W1 : World} {row : Option Nat} (h : IsS59 w0 W g f0 f1 f2 f3 f4) (hw : W.grownBy W1 row) (hne : some g ≠ row) : IsS59 w0 W1 g f0 f1 f2 f3 f4 := by
  obtain ⟨A0, c0, A3, c3, hb, hg, hr0, hr3⟩ := h
  exact ⟨A0, c0, A3, c3, blk_grown hb hw hne, hg, hr0, hr3⟩
theorem IsS59.fresh {w0 W : World} {g : Nat} {f0 : List (S44)} {f1 : Int} {f2 : Int} {f3 : List (S35)} {f4 : Bool} (h : IsS59 w0 W g f0 f1 f2 f3 f4) : ∀ k, W.heap.size ≤ k → k ≠ g := by
  obtain ⟨A0, c0, A3, c3, hb, hg, hr0, hr3⟩ := h
  exact Kd.freshB hb
theorem IsS59.below {w0 W : World} {g : Nat} {f0 : List (S44)} {f1 : Int} {f2 : Int} {f3 : List (S35)} {f4 : Bool} {W1 : World} (h : IsS59 w0 W g f0 f1 f2 f3 f4) (hw : Below W.heap.size W W1) : IsS59 w0 W1 g f0 f1 f2 f3 f4 := h.grown (grown_of_below hw none) (by simp)
theorem IsS59.alloc {w0 W : World} {g : Nat} {f0 : List (S44)} {f1 : Int} {f2 : Int} {f3 : List (S35)} {f4 : Bool} (h : IsS59 w0 W g f0 f1 f2 f3 f4) (o : Obj) : IsS59 w0 (W.alloc o) g f0 f1 f2 f3 f4 := h.below (below_alloc (Below.refl _ _) o)
theorem IsS59.drewN {w0 W : World} {g : Nat} {f0 : List (S44)} {f1 : Int} {f2 : Int} {f3 : List (S35)} {f4 : Bool} (h : IsS59 w0 W g f0 f1 f2 f3 f4) (m : Nat) : IsS59 w0 (W.drewN m) g f0 f1 f2 f3 f4 := h
theorem IsS59.drew {w0 W : World} {g : Nat} {f0 : List (S44)} {f1 : Int} {f2 : Int} {f3 : List (S35)} {f4 : Bool} (h : IsS59 w0 W g f0 f1 f2 f3 f4) : IsS59 w0 W.drew g f0 f1 f2 f3 f4 := h
theorem IsS59.at_ {w0 W : World} {g : Nat} {f0 : List (S44)} {f1 : Int} {f2 : Int} {f3 : List (S35)} {f4 : Bool} {w' : World} {m : Nat} (hq : W.drewN m = w') (h : IsS59 w0 W g f0 f1 f2 f3 f4) : IsS59 w0 w' g f0 f1 f2 f3 f4 := by subst hq; exact IsS59.drewN h m
theorem IsS59.apart {w0 W : World} {g : Nat} {f0 : List (S44)} {f1 : Int} {f2 : Int} {f3 : List (S35)} {f4 : Bool} {α : Type} {d : Kd α} {e : Nat} {base : Nat} {ok : Nat → Prop} {v : Value} {xs : List α} (h : IsS59 w0 W g f0 f1 f2 f3 f4) (ho : d.R e W base ok v xs) (ht : ∀ q, q ∈ e :: d.E → q ≠ 59) : d.R e W base (fun k => ok k ∧ k ≠ g) v xs := by
  obtain ⟨A0, c0, A3, c3, hb, hg, hr0, hr3⟩ := h
  exact Kd.R_types ho hb ht
theorem IsS59.own_ne {w0 W : World} {g : Nat} {f0 : List (S44)} {f1 : Int} {f2 : Int} {f3 : List (S35)} {f4 : Bool} {α : Type} {d : Kd α} {e : Nat} {base : Nat} {ok : Nat → Prop} {v : Value} {xs : List α} (h : IsS59 w0 W g f0 f1 f2 f3 f4) (ho : d.R e W base ok v xs) (ht : e ≠ 59) : some g ≠ v.ownBlock := by
  obtain ⟨A0, c0, A3, c3, hb, hg, hr0, hr3⟩ := h
  exact Kd.R_ne ho hb ht
theorem IsS59.lt {w0 W : World} {g : Nat} {f0 : List (S44)} {f1 : Int} {f2 : Int} {f3 : List (S35)} {f4 : Bool} (h : IsS59 w0 W g f0 f1 f2 f3 f4) : g < W.heap.size := by
  obtain ⟨A0, c0, A3, c3, hb, hg, hr0, hr3⟩ := h
  exact blk_lt hb
theorem IsS59.ge {w0 W : World} {g : Nat} {f0 : List (S44)} {f1 : Int} {f2 : Int} {f3 : List (S35)} {f4 : Bool} (h : IsS59 w0 W g f0 f1 f2 f3 f4) : w0.heap.size ≤ g := by
  obtain ⟨A0, c0, A3, c3, hb, hg, hr0, hr3⟩ := h
  exact hg
theorem IsS59.ne_blk {w0 W : World} {g : Nat} {f0 : List (S44)} {f1 : Int} {f2 : Int} {f3 : List (S35)} {f4 : Bool} {a : Nat} {cs : Array Value} {t : TypeId} {fr : Nat × Nat} (h : IsS59 w0 W g f0 f1 f2 f3 f4) (hb2 : W.heap[a]? = some (.cells cs t fr)) (ht : t ≠ 59) : g ≠ a := by
  obtain ⟨A0, c0, A3, c3, hb, hg, hr0, hr3⟩ := h
  rintro rfl
  rw [hb] at hb2
  injection hb2 with hb2
  injection hb2 with _ ht2
  exact ht ht2.symm
theorem IsS59.far {w0 W : World} {g : Nat} {f0 : List (S44)} {f1 : Int} {f2 : Int} {f3 : List (S35)} {f4 : Bool} {p : Addr} (h : IsS59 w0 W g f0 f1 f2 f3 f4) (hne : g ≠ p.block) (u : Value) : IsS59 w0 (W.setCell p u) g f0 f1 f2 f3 f4 := by
  obtain ⟨A0, c0, A3, c3, hb, hg, hr0, hr3⟩ := h
  exact ⟨A0, c0, A3, c3, blk_far hb hne u, hg, hr0, hr3⟩
theorem cellS59_0 {W : World} {g : Nat} {A0 : Option Addr} {c0 : Nat} {A3 : Option Addr} {c3 : Nat} {f0 : List (S44)} {f1 : Int} {f2 : Int} {f3 : List (S35)} {f4 : Bool} (h : W.heap[g]? = some (.cells #[.slice A0 f0.length c0, .int .i64 f1, .int .i64 f2, .slice A3 f3.length c3, .bool f4] 59 (0, 0))) : W.cell? ⟨g, 0, none⟩ = some (.slice A0 f0.length c0) := (blk_cell h 0).trans rfl
theorem cellS59_1 {W : World} {g : Nat} {A0 : Option Addr} {c0 : Nat} {A3 : Option Addr} {c3 : Nat} {f0 : List (S44)} {f1 : Int} {f2 : Int} {f3 : List (S35)} {f4 : Bool} (h : W.heap[g]? = some (.cells #[.slice A0 f0.length c0, .int .i64 f1, .int .i64 f2, .slice A3 f3.length c3, .bool f4] 59 (0, 0))) : W.cell? ⟨g, 1, none⟩ = some (.int .i64 f1) := (blk_cell h 1).trans rfl
theorem IsS59.set_1 {w0 W : World} {g : Nat} {f0 : List (S44)} {f1 : Int} {f2 : Int} {f3 : List (S35)} {f4 : Bool} (h : IsS59 w0 W g f0 f1 f2 f3 f4) (x : Int) : IsS59 w0 (W.setCell ⟨g, 1, none⟩ (.int .i64 x)) g f0 x f2 f3 f4 := by
  obtain ⟨A0, c0, A3, c3, hb, hg, hr0, hr3⟩ := h
  exact ⟨A0, c0, A3, c3, by simpa using blk_set hb 1 (.int .i64 x), hg, hr0, hr3⟩
theorem cellS59_2 {W : World} {g : Nat} {A0 : Option Addr} {c0 : Nat} {A3 : Option Addr} {c3 : Nat} {f0 : List (S44)} {f1 : Int} {f2 : Int} {f3 : List (S35)} {f4 : Bool} (h : W.heap[g]? = some (.cells #[.slice A0 f0.length c0, .int .i64 f1, .int .i64 f2, .slice A3 f3.length c3, .bool f4] 59 (0, 0))) : W.cell? ⟨g, 2, none⟩ = some (.int .i64 f2) := (blk_cell h 2).trans rfl
theorem IsS59.set_2 {w0 W : World} {g : Nat} {f0 : List (S44)} {f1 : Int} {f2 : Int} {f3 : List (S35)} {f4 : Bool} (h : IsS59 w0 W g f0 f1 f2 f3 f4) (x : Int) : IsS59 w0 (W.setCell ⟨g, 2, none⟩ (.int .i64 x)) g f0 f1 x f3 f4 := by
  obtain ⟨A0, c0, A3, c3, hb, hg, hr0, hr3⟩ := h
  exact ⟨A0, c0, A3, c3, by simpa using blk_set hb 2 (.int .i64 x), hg, hr0, hr3⟩
theorem cellS59_3 {W : World} {g : Nat} {A0 : Option Addr} {c0 : Nat} {A3 : Option Addr} {c3 : Nat} {f0 : List (S44)} {f1 : Int} {f2 : Int} {f3 : List (S35)} {f4 : Bool} (h : W.heap[g]? = some (.cells #[.slice A0 f0.length c0, .int .i64 f1, .int .i64 f2, .slice A3 f3.length c3, .bool f4] 59 (0, 0))) : W.cell? ⟨g, 3, none⟩ = some (.slice A3 f3.length c3) := (blk_cell h 3).trans rfl
theorem cellS59_4 {W : World} {g : Nat} {A0 : Option Addr} {c0 : Nat} {A3 : Option Addr} {c3 : Nat} {f0 : List (S44)} {f1 : Int} {f2 : Int} {f3 : List (S35)} {f4 : Bool} (h : W.heap[g]? = some (.cells #[.slice A0 f0.length c0, .int .i64 f1, .int .i64 f2, .slice A3 f3.length c3, .bool f4] 59 (0, 0))) : W.cell? ⟨g, 4, none⟩ = some (.bool f4) := (blk_cell h 4).trans rfl
theorem IsS59.set_4 {w0 W : World} {g : Nat} {f0 : List (S44)} {f1 : Int} {f2 : Int} {f3 : List (S35)} {f4 : Bool} (h : IsS59 w0 W g f0 f1 f2 f3 f4) (x : Bool) : IsS59 w0 (W.setCell ⟨g, 4, none⟩ (.bool x)) g f0 f1 f2 f3 x := by
  obtain ⟨A0, c0, A3, c3, hb, hg, hr0, hr3⟩ := h
  exact ⟨A0, c0, A3, c3, by simpa using blk_set hb 4 (.bool x), hg, hr0, hr3⟩
theorem IsS59.new (w0 W : World) (A0 : Option Addr) (c0 : Nat) (A3 : Option Addr) (c3 : Nat) (f0 : List (S44)) (f1 : Int) (f2 : Int) (f3 : List (S35)) (f4 : Bool) (hB : Below w0.heap.size w0 W) (hr0 : Kd.C k44 w0 A0 f0.length f0) (hr3 : Kd.C k35 w0 A3 f3.length f3) : IsS59 w0 (W.alloc (.cells #[.slice A0 f0.length c0, .int .i64 f1, .int .i64 f2, .slice A3 f3.length c3, .bool f4] 59)) W.heap.size f0 f1 f2 f3 f4 := ⟨A0, c0, A3, c3, by simpa using heap_alloc_new W _, hB.size, hr0, hr3⟩
def parser_reader_look.f (s0_0 : List (S44)) (s0_1 : Int) (s0_2 : Int) (s0_3 : List (S35)) (s0_4 : Bool) : Option (Int × ByteArray × Int × Int × Int × Bool) := if (s0_0.length : Int) = 0 then (some (0, (⟨#[]⟩ : ByteArray), s0_1, s0_1, s0_2, s0_4)) else (if 0 < (s0_0.length : Int) then (some ((rd_T44 s0_0 0).f0, (rd_T44 s0_0 0).f1, (rd_T44 s0_0 0).f2, s0_1, s0_2, s0_4)) else (none))
set_option maxHeartbeats 8000000 in
set_option maxRecDepth 100000 in
theorem parser_reader_look.calls (g : Nat) (s0_0 : List (S44)) (s0_1 : Int) (s0_2 : Int) (s0_3 : List (S35)) (s0_4 : Bool) (r1 : Int) (r2 : ByteArray) (r3 : Int) (r4 : Int) (r5 : Int) (r6 : Bool) (w0 w : World) (hI : IsS59 w0 w g s0_0 s0_1 s0_2 s0_3 s0_4) (hB : Below w0.heap.size w0 w) (h : parser_reader_look.f s0_0 s0_1 s0_2 s0_3 s0_4 = some (r1, r2, r3, r4, r5, r6)) :
    Calls Tryd.prog 31 #[.pointer (some ⟨g, 0, none⟩)] w fun e w' => e = .returned (.agg #[.int .i64 r1, .string r2, .int .i64 r3]) ∧ IsS59 w0 w' g s0_0 r4 r5 s0_3 r6 ∧ Below w0.heap.size w0 w' ∧ KeepBut w w' g none := by
  have hu44 := Tryd.underlying44
  have HI0 := Aside0.mk hI
  have HK := Aside0.mk (KeepBut.refl w g none)
  have HL := Aside0.mk hB.size
  clear hI
  have HW0 := Aside0.mk hB.size
  have HB := Aside0.mk hB
  clear hB
  have H : (if (s0_0.length : Int) = 0 then (some (0, (⟨#[]⟩ : ByteArray), s0_1, s0_1, s0_2, s0_4)) else (if 0 < (s0_0.length : Int) then (some ((rd_T44 s0_0 0).f0, (rd_T44 s0_0 0).f1, (rd_T44 s0_0 0).f2, s0_1, s0_2, s0_4)) else (none))) = some (r1, r2, r3, r4, r5, r6) := h
  clear h
  by_cases c2 : (s0_0.length : Int) = 0
  · rw [if_pos c2] at H
    have c2b0 : ((s0_0.length : Int) == 0) = true := beq_iff_eq.mpr c2
    have c2b1 : ((s0_0.length : Int) != 0) = false := bne_eq_false_iff_eq.mpr c2
    clear c2
    simp only [Option.some.injEq, Prod.mk.injEq] at H
    obtain ⟨rfl, rfl, rfl, rfl, rfl, rfl⟩ := H
    go_enter Tryd.func31, Tryd.ntmps31
    go_wp2_with (first | ((with_reducible refine gate_dst (N := 2) rfl ?_); refine box_event ?hg (N := 2) ?hd (cs := #[.int .i64 0, .string (⟨#[]⟩ : ByteArray), .int .i64 0]) (t := 44) ?hr ?_; (case hd => rfl); (case hg => rfl); (case hr => first | (go_simp; done) | (go_simp; rfl)); intro gb128 hg w3 hbox hb; have n0_ := Aside0.mk (IsS59.below (by repeat (first | (with_reducible first | exact HI0.out | apply IsS59.alloc | apply IsS59.drewN | apply IsS59.drew | apply IsS59.set_1 | apply IsS59.set_2 | apply IsS59.set_4) | exact HI0.out)) hb); have n1_ := Aside0.mk (KeepBut.trans (by repeat (first | (with_reducible first | exact HK.out | apply KeepBut.set_ | apply keep_drewN | apply keep_drew | apply keep_alloc) | exact HK.out)) (KeepBut.of_below hb g none) (.inl rfl)); have n2_ := Aside0.mk (below_step (by repeat (first | (with_reducible first | exact HB.out | apply below_alloc | apply pw_below_drewN | apply below_drew1 | refine below_set ?_ (IsS59.ge HI0.out)) | exact HB.out)) hb); have n3_ := Aside0.mk (hbox); have n4_ := Aside0.mk ((by rw [hg]; exact (keep_size (w := w) (g := g) (row := none) (by repeat (first | (with_reducible first | exact HK.out | apply KeepBut.set_ | apply keep_drewN | apply keep_drew | apply keep_alloc) | exact HK.out))) : w.heap.size ≤ gb128)); have n5_ := Aside0.mk ((Nat.le_trans HW0.out (by rw [hg]; exact (keep_size (w := w) (g := g) (row := none) (by repeat (first | (with_reducible first | exact HK.out | apply KeepBut.set_ | apply keep_drewN | apply keep_drew | apply keep_alloc) | exact HK.out))) : w.heap.size ≤ gb128) : w0.heap.size ≤ gb128)); have n6_ := Aside0.mk ((by rw [hg]; exact Nat.ne_of_lt (IsS59.lt (show IsS59 w0 _ g s0_0 s0_1 s0_2 s0_3 s0_4 from by repeat (first | (with_reducible first | exact HI0.out | apply IsS59.alloc | apply IsS59.drewN | apply IsS59.drew | apply IsS59.set_1 | apply IsS59.set_2 | apply IsS59.set_4) | exact HI0.out))) : g ≠ gb128)); have n7_ := Aside0.mk ((by rw [hg]; exact Nat.ne_of_gt (IsS59.lt (show IsS59 w0 _ g s0_0 s0_1 s0_2 s0_3 s0_4 from by repeat (first | (with_reducible first | exact HI0.out | apply IsS59.alloc | apply IsS59.drewN | apply IsS59.drew | apply IsS59.set_1 | apply IsS59.set_2 | apply IsS59.set_4) | exact HI0.out))) : gb128 ≠ g)); clear HI0; clear HK; clear HB; have HI0 := n0_; have HK := n1_; have HB := n2_; have BK128 := n3_; have GW128 := n4_; have GE128 := n5_; have NB0_128 := n6_; have NB128_0 := n7_; clear n0_ n1_ n2_ n3_ n4_ n5_ n6_ n7_; clear hb hbox hg; obtain ⟨ASz4_0, cSz4_0, ASz4_3, cSz4_3, HGz4, hgz4, HSz4_0, HSz4_3⟩ := HI0.out; have hcz4_0 := cellS59_0 HGz4; have hcz4_1 := cellS59_1 HGz4; have hcz4_2 := cellS59_2 HGz4; have hcz4_3 := cellS59_3 HGz4; have hcz4_4 := cellS59_4 HGz4; have hfz4_1 := blk_frozen HGz4 1; have hfz4_2 := blk_frozen HGz4 2; have hfz4_4 := blk_frozen HGz4 4; clear HGz4 hgz4; have hnb5 := NB128_0.out; have hnc5 := NB0_128.out; have hcz6_0 : w3.cell? ⟨gb128, 0, none⟩ = some (.int .i64 0) := (blk_cell BK128.out 0).trans rfl; have hcz6_1 : w3.cell? ⟨gb128, 1, none⟩ = some (.string (⟨#[]⟩ : ByteArray)) := (blk_cell BK128.out 1).trans rfl; have hcz6_2 : w3.cell? ⟨gb128, 2, none⟩ = some (.int .i64 0) := (blk_cell BK128.out 2).trans rfl; have hfz6_0 := blk_frozen BK128.out 0; have hfz6_1 := blk_frozen BK128.out 1; have hfz6_2 := blk_frozen BK128.out 2))
    refine bodyPost_ret (results_cell_row rfl _ _ gb128 44 #[.int .i64 0, .string (⟨#[]⟩ : ByteArray), .int .i64 s0_1] (0, 0) _ rfl (by (with_reducible repeat (first | refine blk_drewN ?_ _ | refine blk_drew ?_ | refine blk_alloc ?_ _)); refine blk_put (cs := #[.int .i64 0, .string (⟨#[]⟩ : ByteArray), .int .i64 0]) ?_ 2 _ rfl; (with_reducible repeat (first | refine blk_drewN ?_ _ | refine blk_drew ?_ | refine blk_alloc ?_ _)); refine blk_put (cs := #[.int .i64 0, .string (⟨#[]⟩ : ByteArray), .int .i64 0]) ?_ 1 _ rfl; (with_reducible repeat (first | refine blk_drewN ?_ _ | refine blk_drew ?_ | refine blk_alloc ?_ _)); refine blk_put (cs := #[.int .i64 0, .string (⟨#[]⟩ : ByteArray), .int .i64 0]) ?_ 0 _ rfl; (with_reducible repeat (first | refine blk_drewN ?_ _ | refine blk_drew ?_ | refine blk_alloc ?_ _)); exact BK128.out) Tryd.underlying44 rfl (by kernel_rfl)) rfl ?_
    exact ⟨by first | rfl | (simp [errW_none, errW_some] <;> rfl) | (simp [*, errW_none, errW_some] <;> rfl), by repeat (first | (with_reducible first | exact HI0.out | apply IsS59.alloc | apply IsS59.drewN | apply IsS59.drew | apply IsS59.set_1 | apply IsS59.set_2 | apply IsS59.set_4 | refine IsS59.far ?_ NB0_128.out _) | exact HI0.out), by repeat (first | (with_reducible first | exact HB.out | apply below_alloc | apply pw_below_drewN | apply below_drew1 | refine below_set ?_ (IsS59.ge HI0.out) | refine below_set ?_ GE128.out) | exact HB.out), by repeat (first | (with_reducible first | exact HK.out | apply KeepBut.set_ | apply keep_drewN | apply keep_drew | apply keep_alloc | refine keep_far ?_ GW128.out _) | exact HK.out)⟩
  · rw [if_neg c2] at H
    have c2b0 : ((s0_0.length : Int) == 0) = false := beq_eq_false_iff_ne.mpr c2
    have c2b1 : ((s0_0.length : Int) != 0) = true := bne_iff_ne.mpr c2
    have c2b2 : ¬ (s0_0 = []) := fun h_ => c2 (by rw [h_]; rfl)
    by_cases c7 : 0 < (s0_0.length : Int)
    · rw [if_pos c7] at H
      have c7b0 : decide (0 < (s0_0.length : Int)) = true := decide_eq_true c7
      have c7b1 : decide (0 < s0_0.length) = true := decide_eq_true (by omega)
      clear c7
      simp only [Option.some.injEq, Prod.mk.injEq] at H
      obtain ⟨rfl, rfl, rfl, rfl, rfl, rfl⟩ := H
      go_enter Tryd.func31, Tryd.ntmps31
      go_wp2_with (first | ((with_reducible refine gate_dst (N := 2) rfl ?_); refine box_event ?hg (N := 2) ?hd (cs := #[.int .i64 0, .string (⟨#[]⟩ : ByteArray), .int .i64 0]) (t := 44) ?hr ?_; (case hd => rfl); (case hg => rfl); (case hr => first | (go_simp; done) | (go_simp; rfl)); intro gb128 hg w8 hbox hb; have n0_ := Aside0.mk (IsS59.below (by repeat (first | (with_reducible first | exact HI0.out | apply IsS59.alloc | apply IsS59.drewN | apply IsS59.drew | apply IsS59.set_1 | apply IsS59.set_2 | apply IsS59.set_4) | exact HI0.out)) hb); have n1_ := Aside0.mk (KeepBut.trans (by repeat (first | (with_reducible first | exact HK.out | apply KeepBut.set_ | apply keep_drewN | apply keep_drew | apply keep_alloc) | exact HK.out)) (KeepBut.of_below hb g none) (.inl rfl)); have n2_ := Aside0.mk (below_step (by repeat (first | (with_reducible first | exact HB.out | apply below_alloc | apply pw_below_drewN | apply below_drew1 | refine below_set ?_ (IsS59.ge HI0.out)) | exact HB.out)) hb); have n3_ := Aside0.mk (hbox); have n4_ := Aside0.mk ((by rw [hg]; exact (keep_size (w := w) (g := g) (row := none) (by repeat (first | (with_reducible first | exact HK.out | apply KeepBut.set_ | apply keep_drewN | apply keep_drew | apply keep_alloc) | exact HK.out))) : w.heap.size ≤ gb128)); have n5_ := Aside0.mk ((Nat.le_trans HW0.out (by rw [hg]; exact (keep_size (w := w) (g := g) (row := none) (by repeat (first | (with_reducible first | exact HK.out | apply KeepBut.set_ | apply keep_drewN | apply keep_drew | apply keep_alloc) | exact HK.out))) : w.heap.size ≤ gb128) : w0.heap.size ≤ gb128)); have n6_ := Aside0.mk ((by rw [hg]; exact Nat.ne_of_lt (IsS59.lt (show IsS59 w0 _ g s0_0 s0_1 s0_2 s0_3 s0_4 from by repeat (first | (with_reducible first | exact HI0.out | apply IsS59.alloc | apply IsS59.drewN | apply IsS59.drew | apply IsS59.set_1 | apply IsS59.set_2 | apply IsS59.set_4) | exact HI0.out))) : g ≠ gb128)); have n7_ := Aside0.mk ((by rw [hg]; exact Nat.ne_of_gt (IsS59.lt (show IsS59 w0 _ g s0_0 s0_1 s0_2 s0_3 s0_4 from by repeat (first | (with_reducible first | exact HI0.out | apply IsS59.alloc | apply IsS59.drewN | apply IsS59.drew | apply IsS59.set_1 | apply IsS59.set_2 | apply IsS59.set_4) | exact HI0.out))) : gb128 ≠ g)); clear HI0; clear HK; clear HB; have HI0 := n0_; have HK := n1_; have HB := n2_; have BK128 := n3_; have GW128 := n4_; have GE128 := n5_; have NB0_128 := n6_; have NB128_0 := n7_; clear n0_ n1_ n2_ n3_ n4_ n5_ n6_ n7_; clear hb hbox hg; obtain ⟨ASz9_0, cSz9_0, ASz9_3, cSz9_3, HGz9, hgz9, HSz9_0, HSz9_3⟩ := HI0.out; have hcz9_0 := cellS59_0 HGz9; have hcz9_1 := cellS59_1 HGz9; have hcz9_2 := cellS59_2 HGz9; have hcz9_3 := cellS59_3 HGz9; have hcz9_4 := cellS59_4 HGz9; have hfz9_1 := blk_frozen HGz9 1; have hfz9_2 := blk_frozen HGz9 2; have hfz9_4 := blk_frozen HGz9 4; clear HGz9 hgz9; have p129 : 0 ≤ (0 : Int) := (by omega); have q129 : 0 < (s0_0.length : Int) := of_decide_eq_true (by first | (with_reducible assumption) | assumption); obtain ⟨ad129, e129, hx129_0, hx129_1, hx129_2⟩ := at_T44 HSz9_0 0 p129 q129; cases e129; have qi129 : (0 < s0_0.length) = True := eq_true (by omega); (try rw [show ((0 : Int)).toNat = 0 from rfl] at hx129_0); (try rw [show 0 * 3 = 0 from rfl] at hx129_0); (try rw [Addr.add_zero'] at hx129_0); (try rw [show ((0 : Int)).toNat = 0 from rfl] at hx129_1); (try rw [show 0 * 3 = 0 from rfl] at hx129_1); (try rw [Addr.add_zero'] at hx129_1); (try rw [show ((0 : Int)).toNat = 0 from rfl] at hx129_2); (try rw [show 0 * 3 = 0 from rfl] at hx129_2); (try rw [Addr.add_zero'] at hx129_2); replace hx129_0 := pw_cell_below HB.out hx129_0; replace hx129_1 := pw_cell_below HB.out hx129_1; replace hx129_2 := pw_cell_below HB.out hx129_2; replace p129 := eq_true p129; replace q129 := eq_true q129; have hnb10 := NB128_0.out; have hnc10 := NB0_128.out; have hcz11_0 : w8.cell? ⟨gb128, 0, none⟩ = some (.int .i64 0) := (blk_cell BK128.out 0).trans rfl; have hcz11_1 : w8.cell? ⟨gb128, 1, none⟩ = some (.string (⟨#[]⟩ : ByteArray)) := (blk_cell BK128.out 1).trans rfl; have hcz11_2 : w8.cell? ⟨gb128, 2, none⟩ = some (.int .i64 0) := (blk_cell BK128.out 2).trans rfl; have hfz11_0 := blk_frozen BK128.out 0; have hfz11_1 := blk_frozen BK128.out 1; have hfz11_2 := blk_frozen BK128.out 2))
      refine bodyPost_ret (results_cell_row rfl _ _ gb128 44 #[.int .i64 ((rd_T44 s0_0 0).f0), .string ((rd_T44 s0_0 0).f1), .int .i64 ((rd_T44 s0_0 0).f2)] (0, 0) _ rfl (by (with_reducible repeat (first | refine blk_drewN ?_ _ | refine blk_drew ?_ | refine blk_alloc ?_ _)); refine blk_put (cs := #[.int .i64 ((rd_T44 s0_0 0).f0), .string ((rd_T44 s0_0 0).f1), .int .i64 0]) ?_ 2 _ rfl; (with_reducible repeat (first | refine blk_drewN ?_ _ | refine blk_drew ?_ | refine blk_alloc ?_ _)); refine blk_put (cs := #[.int .i64 ((rd_T44 s0_0 0).f0), .string (⟨#[]⟩ : ByteArray), .int .i64 0]) ?_ 1 _ rfl; (with_reducible repeat (first | refine blk_drewN ?_ _ | refine blk_drew ?_ | refine blk_alloc ?_ _)); refine blk_put (cs := #[.int .i64 0, .string (⟨#[]⟩ : ByteArray), .int .i64 0]) ?_ 0 _ rfl; (with_reducible repeat (first | refine blk_drewN ?_ _ | refine blk_drew ?_ | refine blk_alloc ?_ _)); exact BK128.out) Tryd.underlying44 rfl (by kernel_rfl)) rfl ?_
      exact ⟨by first | rfl | (simp [errW_none, errW_some] <;> rfl) | (simp [*, errW_none, errW_some] <;> rfl), by repeat (first | (with_reducible first | exact HI0.out | apply IsS59.alloc | apply IsS59.drewN | apply IsS59.drew | apply IsS59.set_1 | apply IsS59.set_2 | apply IsS59.set_4 | refine IsS59.far ?_ NB0_128.out _) | exact HI0.out), by repeat (first | (with_reducible first | exact HB.out | apply below_alloc | apply pw_below_drewN | apply below_drew1 | refine below_set ?_ (IsS59.ge HI0.out) | refine below_set ?_ GE128.out) | exact HB.out), by repeat (first | (with_reducible first | exact HK.out | apply KeepBut.set_ | apply keep_drewN | apply keep_drew | apply keep_alloc | refine keep_far ?_ GW128.out _) | exact HK.out)⟩
    · rw [if_neg c7] at H
      exact absurd H (by simp)
end Go.Proofs.YtonhcfecfifghaaDoor.PPx
namespace Go.Proofs.YtonhcfecfifghaaDoor.PPx
open Go.RowKit Go.Proofs.YtonhcfecfifghaaDoorW.PrintWords Go.Proofs.YtonhcfecfifghaaDoorW.PrintLast Go.Proofs.YtonhcfecfifghaaDoorW.PrintMore
theorem scanTo_next {p : Int → Bool} {n i : Int} (h : i < n) (hp : p i = true) : scanTo p n i = scanTo p n (i + 1) := by
  have h1 : scanTo p n i = scan p n ((n - (i + 1)).toNat + 1) i := by unfold scanTo; rw [show (n - i).toNat = (n - (i + 1)).toNat + 1 from by omega]
  rw [h1]
  simp only [scan]
  rw [if_pos h, if_pos hp]
  rfl
theorem scanTo_stop {p : Int → Bool} {n i : Int} (h : ¬ i < n ∨ p i = false) : scanTo p n i = i := by
  unfold scanTo
  cases hk : (n - i).toNat with
  | zero => rfl
  | succ k =>
    simp only [scan]
    rcases h with h | h
    · rw [if_neg h]
    · rw [h]; simp
theorem skipR_more (s : ByteArray) : ∀ (k m : Nat) (i : Int), ((s.size : Int) - i).toNat ≤ k → k ≤ m → 0 ≤ i → i ≤ (s.size : Int) → skipR s m i = skipR s k i := by
  intro k
  induction k with
  | zero =>
    intro m i hk hm h0 h1
    cases m with
    | zero => rfl
    | succ m =>
      simp only [skipR]
      rw [if_neg]
      intro h6
      have := (at_some (by decide) h6).1
      omega
  | succ k ih =>
    intro m i hk hm h0 h1
    cases m with
    | zero => omega
    | succ m =>
      simp only [skipR]
      split
      · rename_i h6
        have hlt := (at_some (by decide) h6).1
        have hst := scanTo_step hlt (line_of_six h6)
        have h2 := scanTo_range (lineAt s) s.size i h1
        have h3 := scanTo_range (blankAt s) s.size (scanTo (lineAt s) s.size i) h2.2
        exact ih m _ (by omega) (by omega) (by omega) h3.2
      · rfl
theorem skipTo_blank {s : ByteArray} {i : Int} (h : at_ s i = 5) : skipTo s (i + 1) = skipTo s i := by
  have hlt := (at_some (by decide) h).1
  unfold skipTo
  rw [scanTo_next hlt (show blankAt s i = true by simp [blankAt, h])]
theorem skipTo_other {s : ByteArray} {i : Int} (h5 : at_ s i ≠ 5) (h6 : at_ s i ≠ 6) : skipTo s i = i := by
  unfold skipTo
  rw [scanTo_stop (.inr (show blankAt s i = false by simpa [blankAt] using h5))]
  cases s.size with
  | zero => rfl
  | succ k => simp only [skipR]; rw [if_neg h6]
theorem skipTo_note {s : ByteArray} {i : Int} (h0 : 0 ≤ i) (h : at_ s i = 6) : skipTo s (scanTo (lineAt s) s.size i) = skipTo s i := by
  have hlt := (at_some (by decide) h).1
  have hst := scanTo_step hlt (line_of_six h)
  have h2 := scanTo_range (lineAt s) s.size i (by omega)
  have h3 := scanTo_range (blankAt s) s.size (scanTo (lineAt s) s.size i) h2.2
  unfold skipTo
  rw [scanTo_stop (i := i) (.inr (show blankAt s i = false by simp [blankAt, h]))]
  obtain ⟨k, hk⟩ : ∃ k, s.size = k + 1 := ⟨s.size - 1, by omega⟩
  conv => rhs; rw [hk]; simp only [skipR]
  rw [if_pos h]
  refine (skipR_more s k s.size _ (by omega) (by omega) (by omega) h3.2)
theorem at_in {s : ByteArray} {i : Int} (h : i < (s.size : Int)) : at_ s i = cls (bt s i).toNat := by unfold at_; rw [if_neg (by omega)]
theorem scan_spec (p : Int → Bool) (n : Int) : ∀ (k : Nat) (i : Int), (n - i).toNat ≤ k → (∀ x, i ≤ x → x < scan p n k i → p x = true) ∧ (scan p n k i < n → p (scan p n k i) = false) := by
  intro k
  induction k with
  | zero => intro i hk; simp only [scan]; exact ⟨fun x _ _ => by omega, fun _ => by omega⟩
  | succ k ih =>
    intro i hk
    simp only [scan]
    by_cases h : i < n
    · rw [if_pos h]
      by_cases hp : p i = true
      · rw [if_pos hp]
        obtain ⟨h1, h2⟩ := ih (i + 1) (by omega)
        refine ⟨fun x hx hx2 => ?_, h2⟩
        by_cases e : x = i
        · rw [e]; exact hp
        · exact h1 x (by omega) hx2
      · rw [if_neg hp]
        exact ⟨fun x _ _ => by omega, fun _ => by simpa using hp⟩
    · rw [if_neg h]
      exact ⟨fun x _ _ => by omega, fun _ => by omega⟩
theorem scanTo_spec (p : Int → Bool) (n i : Int) : (∀ x, i ≤ x → x < scanTo p n i → p x = true) ∧ (scanTo p n i < n → p (scanTo p n i) = false) := scan_spec p n _ i (Nat.le_refl _)
theorem scanTo_eq {p : Int → Bool} {n i j : Int} (h1 : i ≤ j) (h2 : j ≤ n) (hp : ∀ x, i ≤ x → x < j → p x = true) (he : j < n → p j = false) : scanTo p n i = j := scan_eq p n _ i j (Nat.le_refl _) h1 h2 hp he
/-- from i to j there is white space and comments alone -/
inductive Gap (s : ByteArray) : Int → Int → Prop where
  | here (i : Int) : Gap s i i
  | blank {i j : Int} : at_ s i = 5 → Gap s (i + 1) j → Gap s i j
  | note {i m j : Int} : at_ s i = 6 → m = scanTo (lineAt s) s.size i → Gap s m j → Gap s i j
theorem Gap.skip {s : ByteArray} {i j : Int} (h : Gap s i j) (h0 : 0 ≤ i) : skipTo s j = skipTo s i := by
  induction h with
  | here i => rfl
  | blank h5 _ ih => rw [ih (by omega), skipTo_blank h5]
  | @note i m j h6 hm _ ih =>
    have hlt := (at_some (by decide) h6).1
    have := scanTo_range (lineAt s) s.size i (by omega)
    rw [ih (by omega), hm, skipTo_note h0 h6]
theorem Gap.le {s : ByteArray} {i j : Int} (h : Gap s i j) (h1 : i ≤ (s.size : Int)) : i ≤ j ∧ j ≤ (s.size : Int) := by
  induction h with
  | here i => omega
  | blank h5 _ ih =>
    have := (at_some (by decide) h5).1
    have := ih (by omega)
    omega
  | @note i m j h6 hm _ ih =>
    have := scanTo_range (lineAt s) s.size i h1
    have := ih (by omega)
    omega
theorem Gap.trans {s : ByteArray} {i j k : Int} (h : Gap s i j) (g : Gap s j k) : Gap s i k := by
  induction h with
  | here i => exact g
  | blank h5 _ ih => exact .blank h5 (ih g)
  | note h6 hm _ ih => exact .note h6 hm (ih g)
theorem gap_ex (s : ByteArray) : ∀ (d : Nat) (i : Int), 0 ≤ i → i ≤ (s.size : Int) → ((s.size : Int) - i).toNat ≤ d → ∃ j, Gap s i j ∧ at_ s j ≠ 5 ∧ at_ s j ≠ 6 := by
  intro d
  induction d with
  | zero =>
    intro i h0 h1 hd
    have hz : at_ s i = 0 := by unfold at_; rw [if_pos (by omega)]
    exact ⟨i, .here i, by omega, by omega⟩
  | succ d ih =>
    intro i h0 h1 hd
    by_cases h5 : at_ s i = 5
    · have hlt := (at_some (by decide) h5).1
      obtain ⟨j, hg, hj⟩ := ih (i + 1) (by omega) (by omega) (by omega)
      exact ⟨j, .blank h5 hg, hj⟩
    · by_cases h6 : at_ s i = 6
      · have hlt := (at_some (by decide) h6).1
        have hst := scanTo_step hlt (line_of_six h6)
        have hr := scanTo_range (lineAt s) s.size i h1
        obtain ⟨j, hg, hj⟩ := ih (scanTo (lineAt s) s.size i) (by omega) (by omega) (by omega)
        exact ⟨j, .note h6 rfl hg, hj⟩
      · exact ⟨i, .here i, h5, h6⟩
theorem skip_of_gap {s : ByteArray} {i j : Int} (h0 : 0 ≤ i) (h : Gap s i j) (h5 : at_ s j ≠ 5) (h6 : at_ s j ≠ 6) : skipTo s i = j := by
  rw [← h.skip h0, skipTo_other h5 h6]
theorem skip_gap (s : ByteArray) (i : Int) (h0 : 0 ≤ i) (h1 : i ≤ (s.size : Int)) : Gap s i (skipTo s i) ∧ at_ s (skipTo s i) ≠ 5 ∧ at_ s (skipTo s i) ≠ 6 := by
  obtain ⟨j, hg, h5, h6⟩ := gap_ex s _ i h0 h1 (Nat.le_refl _)
  rw [skip_of_gap h0 hg h5 h6]
  exact ⟨hg, h5, h6⟩
theorem at_end {s : ByteArray} {i : Int} (h : (s.size : Int) ≤ i) : at_ s i = 0 := by unfold at_; rw [if_pos h]
/-- a gap that ends at the end of the text -/
theorem skip_end {s : ByteArray} {i : Int} (h0 : 0 ≤ i) (h : Gap s i s.size) : skipTo s i = s.size := skip_of_gap h0 h (by rw [at_end (Int.le_refl _)]; decide) (by rw [at_end (Int.le_refl _)]; decide)
/-- the tokens from i on, and where the first error is, if there is one -/
inductive Lx (s : ByteArray) : Int → List S44 → Option Int → Prop where
  | done {i : Int} : ¬ i < (s.size : Int) → Lx s i [] none
  | err {i : Int} : i < (s.size : Int) → (nextAt s i).2.2.2.1 = false → Lx s i [] (some i)
  | tok {i : Int} {ts : List S44} {e : Option Int} : i < (s.size : Int) → (nextAt s i).2.2.2.1 = true → Lx s (skipTo s (nextAt s i).2.2.2.2) ts e → Lx s i (⟨(nextAt s i).1, (nextAt s i).2.1, (nextAt s i).2.2.1⟩ :: ts) e
theorem lx_ex (s : ByteArray) : ∀ (d : Nat) (i : Int), 0 ≤ i → i ≤ (s.size : Int) → ((s.size : Int) - i).toNat ≤ d → ∃ ts e, Lx s i ts e := by
  intro d
  induction d with
  | zero => intro i h0 h1 hd; exact ⟨[], none, .done (by omega)⟩
  | succ d ih =>
    intro i h0 h1 hd
    by_cases hlt : i < (s.size : Int)
    · cases hok : (nextAt s i).2.2.2.1 with
      | false => exact ⟨[], some i, .err hlt hok⟩
      | true =>
        have hr := nextAt_range s i h0 h1 hok
        have hr2 := skipTo_range s (nextAt s i).2.2.2.2 (by omega) hr.2
        obtain ⟨ts, e, h⟩ := ih (skipTo s (nextAt s i).2.2.2.2) (by omega) (by omega) (by omega)
        exact ⟨_, e, .tok hlt hok h⟩
    · exact ⟨[], none, .done hlt⟩
/-- what Lex hands back of that -/
def outOf (acc : List S44) : Option Int → List S44 × Int × Int
  | none => (acc, 0, 0)
  | some i => ([], 100, i)
theorem lexGo_of {s : ByteArray} {i : Int} {ts : List S44} {e : Option Int} (h : Lx s i ts e) : ∀ (k : Nat) (acc : List S44), 0 ≤ i → i ≤ (s.size : Int) → ((s.size : Int) - i).toNat < k → lexGo s k i acc = outOf (acc ++ ts) e := by
  induction h with
  | done hge =>
    intro k acc h0 h1 hk
    obtain ⟨k, rfl⟩ : ∃ m, k = m + 1 := ⟨k - 1, by omega⟩
    simp only [lexGo]; rw [if_neg hge]; simp [outOf]
  | err hlt hno =>
    intro k acc h0 h1 hk
    obtain ⟨k, rfl⟩ : ∃ m, k = m + 1 := ⟨k - 1, by omega⟩
    simp only [lexGo]; rw [if_pos hlt, hno]; simp [outOf]
  | @tok i ts e hlt hok hl ih =>
    intro k acc h0 h1 hk
    obtain ⟨k, rfl⟩ : ∃ m, k = m + 1 := ⟨k - 1, by omega⟩
    have hr := nextAt_range s i h0 h1 hok
    have hr2 := skipTo_range s (nextAt s i).2.2.2.2 (by omega) hr.2
    simp only [lexGo]; rw [if_pos hlt, if_pos hok, ih k _ (by omega) (by omega) (by omega)]
    simp
theorem lexB_of {s : ByteArray} (hs : s.size ≤ 20000) {ts : List S44} {e : Option Int} (h : Lx s (skipTo s 0) ts e) : lexB s = outOf ts e := by
  have hr := skipTo_range s 0 (by omega) (by omega)
  unfold lexB
  rw [if_neg (by omega), lexGo_of h (s.size + 1) [] (by omega) hr.2 (by omega)]
  rfl
theorem lx_whole (s : ByteArray) : ∃ ts e, Lx s (skipTo s 0) ts e := by
  have hr := skipTo_range s 0 (by omega) (by omega)
  exact lx_ex s _ _ (by omega) hr.2 (Nat.le_refl _)
theorem wrap_small {x : Int} (h0 : -1000000000000 ≤ x) (h1 : x ≤ 1000000000000) : wrap64 x = x := by
  unfold wrap64; omega
theorem lexGo_len (s : ByteArray) : ∀ (k : Nat) (i : Int) (acc : List S44), (lexGo s k i acc).1.length ≤ acc.length + k := by
  intro k
  induction k with
  | zero => intro i acc; simp [lexGo]
  | succ k ih =>
    intro i acc
    simp only [lexGo]
    split
    · split
      · have := ih (skipTo s (nextAt s i).2.2.2.2) (acc ++ [⟨(nextAt s i).1, (nextAt s i).2.1, (nextAt s i).2.2.1⟩])
        simp only [List.length_append, List.length_cons, List.length_nil] at this
        omega
      · simp
    · simp
theorem lexB_len (s : ByteArray) : (lexB s).1.length ≤ 20001 := by
  unfold lexB
  split
  · simp
  · have := lexGo_len s (s.size + 1) (skipTo s 0) []
    simp only [List.length_nil] at this
    omega
end Go.Proofs.YtonhcfecfifghaaDoor.PPx
namespace Go.Proofs.YtonhcfecfifghaaDoor.PPx
open Go.RowKit Go.Proofs.YtonhcfecfifghaaDoorW.PrintWords Go.Proofs.YtonhcfecfifghaaDoorW.PrintLast Go.Proofs.YtonhcfecfifghaaDoorW.PrintMore
theorem u8_bounds {n : Int} (h : (Lit.int .u8 n).wf = true) : 0 ≤ n ∧ n ≤ 255 := by
  simp only [Lit.wf, Bool.and_eq_true, decide_eq_true_eq] at h
  exact ⟨h.1, h.2⟩
theorem i64_bounds {n : Int} (h : (Lit.int .i64 n).wf = true) : -9223372036854775808 ≤ n ∧ n ≤ 9223372036854775807 := by
  simp only [Lit.wf, Bool.and_eq_true, decide_eq_true_eq] at h
  exact ⟨h.1, h.2⟩
theorem ext_bt {s u : ByteArray} (hs : s.size = u.size) (h : ∀ x : Int, 0 ≤ x → x < (s.size : Int) → bt s x = bt u x) : s = u := by
  apply ByteArray.ext_getElem hs
  intro i hi hi2
  have := h i (by omega) (by omega)
  rw [← bt_at s i (by omega), ← bt_at u i (by omega)] at this
  have h2 : (s[i]'hi).toNat = (u[i]'hi2).toNat := by
    have e : ((i : Nat) : Int).toNat = i := rfl
    simp only [Int.toNat_natCast] at this
    exact_mod_cast this
  exact UInt8.toNat_inj.1 h2
theorem bt_extract {s : ByteArray} {a b x : Int} (h0 : 0 ≤ a) (hx : 0 ≤ x) (h1 : a + x < b) (h2 : b ≤ (s.size : Int)) : bt (s.extract a.toNat b.toNat) x = bt s (a + x) := by
  have hl : x.toNat < (s.extract a.toNat b.toNat).size := by rw [ByteArray.size_extract]; omega
  rw [← bt_at _ x hl, ← bt_at s (a + x) (by omega), ByteArray.getElem_extract]
  have e : a.toNat + x.toNat = (a + x).toNat := by omega
  simp only [e]
theorem size_extractI {s : ByteArray} {a b : Int} (h0 : 0 ≤ a) (h1 : a ≤ b) (h2 : b ≤ (s.size : Int)) : ((s.extract a.toNat b.toNat).size : Int) = b - a := by
  rw [ByteArray.size_extract]; omega
theorem bt_left {s u : ByteArray} {x : Int} (h0 : 0 ≤ x) (h : x < (s.size : Int)) : bt (s ++ u) x = bt s x := by
  have hl : x.toNat < (s ++ u).size := by rw [ByteArray.size_append]; omega
  rw [← bt_at _ x hl, ← bt_at s x (by omega), ByteArray.getElem_append_left (by omega)]
theorem bt_right {s u : ByteArray} {x : Int} (h0 : (s.size : Int) ≤ x) (h : x < (s.size : Int) + u.size) : bt (s ++ u) x = bt u (x - s.size) := by
  have hl : x.toNat < (s ++ u).size := by rw [ByteArray.size_append]; omega
  rw [← bt_at _ x hl, ← bt_at u (x - s.size) (by omega), ByteArray.getElem_append_right (by omega)]
  have e : x.toNat - s.size = (x - s.size).toNat := by omega
  simp only [e]
/-- s from lo to hi lies in u, d places on -/
structure Move (s u : ByteArray) (d lo hi : Int) : Prop where
  h0 : 0 ≤ lo
  hs : hi ≤ (s.size : Int)
  d0 : 0 ≤ lo + d
  hu : hi + d ≤ (u.size : Int)
  eq : ∀ x, lo ≤ x → x < hi → bt u (x + d) = bt s x
section
variable {s u : ByteArray} {d lo hi : Int}
theorem Move.at (M : Move s u d lo hi) {x : Int} (h1 : lo ≤ x) (h2 : x < hi) : at_ u (x + d) = at_ s x := by
  have := M.hs; have := M.hu
  rw [at_in (by omega), at_in (by omega), M.eq x h1 h2]
theorem Move.line (M : Move s u d lo hi) {x : Int} (h1 : lo ≤ x) (h2 : x < hi) : lineAt u (x + d) = lineAt s x := by
  unfold lineAt; rw [M.eq x h1 h2]
theorem Move.word (M : Move s u d lo hi) {x : Int} (h1 : lo ≤ x) (h2 : x < hi) : wordAt u (x + d) = wordAt s x := by
  unfold wordAt; rw [M.at h1 h2]
theorem Move.digit (M : Move s u d lo hi) {x : Int} (h1 : lo ≤ x) (h2 : x < hi) : digitAt u (x + d) = digitAt s x := by
  unfold digitAt; rw [M.at h1 h2]
/-- a scan that ends at or before hi -/
theorem Move.scan (M : Move s u d lo hi) {p q : Int → Bool} (hpq : ∀ x, lo ≤ x → x < hi → q (x + d) = p x) {i : Int} (h1 : lo ≤ i) (h2 : i ≤ hi) (hj : scanTo p s.size i ≤ hi)
    (hq : scanTo p s.size i = hi → hi + d < (u.size : Int) → q (hi + d) = false) : scanTo q u.size (i + d) = scanTo p s.size i + d := by
  have hr := scanTo_range p s.size i (by have := M.hs; omega)
  obtain ⟨a, b⟩ := scanTo_spec p s.size i
  generalize scanTo p s.size i = j at *
  have := M.hs; have := M.hu
  refine scanTo_eq (by omega) (by omega) (fun x hx hx2 => ?_) (fun hlt => ?_)
  · have := hpq (x - d) (by omega) (by omega)
    rw [show x - d + d = x from by omega] at this
    rw [this]; exact a _ (by omega) (by omega)
  · by_cases e : j = hi
    · subst e; exact hq rfl hlt
    · rw [hpq j (by omega) (by omega)]; exact b (by omega)
theorem Move.text (M : Move s u d lo hi) {i j : Int} (h1 : lo ≤ i) (h2 : i ≤ j) (h3 : j ≤ hi) : u.extract (i + d).toNat (j + d).toNat = s.extract i.toNat j.toNat := by
  have := M.hs; have := M.hu; have := M.h0; have := M.d0
  have e1 := size_extractI (s := u) (a := i + d) (b := j + d) (by omega) (by omega) (by omega)
  have e2 := size_extractI (s := s) (a := i) (b := j) (by omega) (by omega) (by omega)
  refine ext_bt (by omega) (fun x hx hx2 => ?_)
  rw [bt_extract (by omega) hx (by omega) (by omega), bt_extract (by omega) hx (by omega) (by omega), show i + d + x = (i + x) + d from by omega]
  exact M.eq _ (by omega) (by omega)
/-- what stands in u behind the piece cuts words and numbers off -/
def Soft (u : ByteArray) (p : Int) : Prop := wordAt u p = false ∧ digitAt u p = false
theorem soft_end {u : ByteArray} {p : Int} (h : (u.size : Int) ≤ p) : Soft u p := by simp [Soft, wordAt, digitAt, at_end h]
theorem soft_of {u : ByteArray} {p : Int} (h : at_ u p = 5 ∨ at_ u p = 6) : Soft u p := by
  rcases h with h | h <;> simp [Soft, wordAt, digitAt, h]
/-- a gap inside the piece -/
theorem Move.gap (M : Move s u d lo hi) {i j : Int} (h : Gap s i j) : lo ≤ i → j ≤ hi → (j < hi ∨ hi + d = (u.size : Int) ∨ (∀ x, lo ≤ x → x < hi → at_ s x = 6 → scanTo (lineAt s) s.size x < hi)) → Gap u (i + d) (j + d) := by
  induction h with
  | here i => intro _ _ _; exact .here _
  | @blank i j h5 hg ih =>
    intro h1 h2 hb
    have hlt := (at_some (by decide) h5).1
    have hle := hg.le (by omega)
    have hx : at_ u (i + d) = 5 := by rw [M.at h1 (by omega), h5]
    have hi1 := ih (by omega) h2 hb
    rw [show i + 1 + d = i + d + 1 from by omega] at hi1
    exact .blank hx hi1
  | @note i m j h6 hm hg ih =>
    intro h1 h2 hb
    have hlt := (at_some (by decide) h6).1
    have hst := scanTo_step hlt (line_of_six h6)
    have hr := scanTo_range (lineAt s) s.size i (by omega)
    have hle := hg.le (by omega)
    have hx : at_ u (i + d) = 6 := by rw [M.at h1 (by omega), h6]
    have hsc : scanTo (lineAt u) u.size (i + d) = scanTo (lineAt s) s.size i + d := by
      refine M.scan (fun x a b => M.line a b) h1 (by omega) (by omega) (fun he hlt2 => ?_)
      rcases hb with hb | hb | hb
      · omega
      · omega
      · have := hb i h1 (by omega) h6; omega
    exact .note hx (by rw [hsc, hm]) (ih (by omega) h2 hb)
/-- what is skipped, where it ends inside the piece -/
theorem Move.skip (M : Move s u d lo hi) {i : Int} (h1 : lo ≤ i) (h2 : skipTo s i < hi) : skipTo u (i + d) = skipTo s i + d := by
  have hs := M.hs
  have h0 := M.h0
  have hi1 : i ≤ (s.size : Int) := by
    rcases Int.lt_or_le (s.size : Int) i with h | h
    · rw [skipTo_other (by rw [at_end (by omega)]; decide) (by rw [at_end (by omega)]; decide)] at h2; omega
    · exact h
  obtain ⟨hg, h5, h6⟩ := skip_gap s i (by omega) hi1
  have hle := hg.le hi1
  refine skip_of_gap (by have := M.d0; omega) (M.gap hg h1 (by omega) (.inl h2)) ?_ ?_
  · rw [M.at (by omega) h2]; exact h5
  · rw [M.at (by omega) h2]; exact h6
theorem firstAt_move (sg : Bool) (i d : Int) : firstAt sg (i + d) = firstAt sg i + d := by unfold firstAt; split <;> omega
/-- the token at i -/
theorem Move.next (M : Move s u d lo hi) {i : Int} (h1 : lo ≤ i) (h2 : i < hi) (hE : (nextAt s i).2.2.2.2 ≤ hi) (hsoft : (nextAt s i).2.2.2.2 = hi → Soft u (hi + d)) (hw : wordAt s hi = false ∨ (nextAt s i).2.2.2.1 = true ∨ (nextAt s i).2.2.2.2 < hi) :
    nextAt u (i + d) = ((nextAt s i).1, (nextAt s i).2.1, (if (nextAt s i).2.2.2.1 = true then (nextAt s i).2.2.1 + d else 0), (nextAt s i).2.2.2.1, (nextAt s i).2.2.2.2 + d) := by
  have hs := M.hs
  have h0 := M.h0
  unfold nextAt at hE hsoft hw ⊢
  rw [M.at h1 h2]
  by_cases c1 : at_ s i = 1
  · simp only [if_pos c1, if_true] at hE hsoft hw ⊢
    have hr := scanTo_range (wordAt s) s.size i (by omega)
    have hsc := M.scan (p := wordAt s) (q := wordAt u) (fun x a b => M.word a b) h1 (by omega) hE (fun e _ => (hsoft e).1)
    rw [hsc, M.text h1 hr.1 hE]
  · simp only [if_neg c1] at hE hsoft hw ⊢
    by_cases c4 : at_ s i = 4
    · simp only [if_pos c4, if_true] at hE hsoft hw ⊢
      rw [show i + d + 1 = i + 1 + d from by omega, M.text h1 (by omega) (by omega)]
    · simp only [if_neg c4] at hE hsoft hw ⊢
      by_cases c7 : at_ s i = 7 ∨ at_ s i = 2
      · simp only [if_pos c7] at hE hsoft hw ⊢
        generalize (at_ s i == 7) = sg at *
        rw [firstAt_move]
        have hf : i ≤ firstAt sg i ∧ firstAt sg i ≤ i + 1 := by unfold firstAt; split <;> omega
        generalize firstAt sg i = f at *
        have hr := scanTo_range (digitAt s) s.size f (by omega)
        have hj : scanTo (digitAt s) s.size f ≤ hi := by
          revert hE; split <;> (intro hE; exact hE)
        have hso : scanTo (digitAt s) s.size f = hi → Soft u (hi + d) := by
          revert hsoft; split <;> (intro hsoft; exact hsoft)
        have hsc := M.scan (p := digitAt s) (q := digitAt u) (fun x a b => M.digit a b) (by omega) (by omega) hj (fun e _ => (hso e).2)
        rw [hsc, M.text (by omega) hr.1 hj, M.text h1 (by omega) hj]
        have hww : wordAt u (scanTo (digitAt s) s.size f + d) = wordAt s (scanTo (digitAt s) s.size f) := by
          by_cases e : scanTo (digitAt s) s.size f = hi
          · rw [e, (hso e).1]
            rcases hw with hw | hw | hw
            · exact hw.symm
            · revert hw
              split
              · rename_i hc
                intro _
                simp only [Bool.and_eq_true, Bool.not_eq_true'] at hc
                rw [← e]; exact hc.2.symm
              · intro hw; exact absurd hw (by simp)
            · exfalso
              revert hw; split <;> (intro hw; simp only at hw; omega)
          · exact M.word (by omega) (by omega)
        rw [hww]
        split <;> simp
      · simp only [if_neg c7, Bool.false_eq_true, if_false] at hE hsoft hw ⊢
end
def tokAt (s : ByteArray) (i : Int) : S44 := ⟨(nextAt s i).1, (nextAt s i).2.1, (nextAt s i).2.2.1⟩
/-- from i on (ahead of the gap) the tokens ts are read; then the lexer stands at j, right behind the last -/
inductive Path (s : ByteArray) : Int → List S44 → Int → Prop where
  | nil (i : Int) : Path s i [] i
  | cons {i j : Int} {ts : List S44} : skipTo s i < (s.size : Int) → (nextAt s (skipTo s i)).2.2.2.1 = true → Path s (nextAt s (skipTo s i)).2.2.2.2 ts j → Path s i (tokAt s (skipTo s i) :: ts) j
theorem Path.le {s : ByteArray} {i j : Int} {ts : List S44} (h : Path s i ts j) : 0 ≤ i → i ≤ (s.size : Int) → i ≤ j ∧ j ≤ (s.size : Int) := by
  induction h with
  | nil i => intro _ h1; omega
  | cons hlt hok hp ih =>
    intro h0 h1
    have hr := skipTo_range s _ h0 h1
    have hn := nextAt_range s _ (by omega) hr.2 hok
    have := ih (by omega) hn.2
    omega
theorem Path.append {s : ByteArray} {i j k : Int} {ts us : List S44} (h : Path s i ts j) (g : Path s j us k) : Path s i (ts ++ us) k := by
  induction h with
  | nil i => exact g
  | cons hlt hok hp ih => exact .cons hlt hok (ih g)
theorem Path.cut {s : ByteArray} {i j : Int} {ts : List S44} (h : Path s i ts j) : ∀ n, n ≤ ts.length → ∃ m, Path s i (ts.take n) m ∧ Path s m (ts.drop n) j := by
  induction h with
  | nil i => intro n hn; exact ⟨i, by simpa using .nil i, by simpa using .nil i⟩
  | @cons i j ts hlt hok hp ih =>
    intro n hn
    cases n with
    | zero => exact ⟨i, .nil i, by simpa using .cons hlt hok hp⟩
    | succ n =>
      obtain ⟨m, h1, h2⟩ := ih n (by simpa using hn)
      exact ⟨m, .cons hlt hok h1, h2⟩
theorem path_of_lx {s : ByteArray} {p : Int} {ts : List S44} {e : Option Int} (h : Lx s p ts e) : ∀ i, p = skipTo s i → ∃ j, Path s i ts j ∧ (e = none → ¬ skipTo s j < (s.size : Int)) ∧ (∀ x, e = some x → x = skipTo s j ∧ x < (s.size : Int) ∧ (nextAt s x).2.2.2.1 = false) := by
  induction h with
  | done hge => intro i hi; subst hi; exact ⟨i, .nil i, fun _ => hge, fun x hx => by cases hx⟩
  | err hlt hno => intro i hi; subst hi; exact ⟨i, .nil i, (fun h => by cases h), (fun x hx => by obtain rfl := Option.some.inj hx; exact ⟨rfl, hlt, hno⟩)⟩
  | tok hlt hok hl ih =>
    intro i hi
    subst hi
    obtain ⟨j, hp, a, b⟩ := ih _ rfl
    exact ⟨j, .cons hlt hok hp, a, b⟩
theorem lx_of_path {s : ByteArray} {i j : Int} {ts : List S44} (h : Path s i ts j) : ∀ {us : List S44} {e : Option Int}, Lx s (skipTo s j) us e → Lx s (skipTo s i) (ts ++ us) e := by
  induction h with
  | nil i => intro us e h; exact h
  | cons hlt hok hp ih => intro us e h; exact .tok hlt hok (ih h)
/-- every text: its tokens, and how they end -/
theorem whole (s : ByteArray) (hs : s.size ≤ 20000) : ∃ ts j, Path s 0 ts j ∧ 0 ≤ j ∧ j ≤ (s.size : Int) ∧ ((lexB s = (ts, 0, 0) ∧ skipTo s j = s.size) ∨ (lexB s = ([], 100, skipTo s j) ∧ skipTo s j < (s.size : Int) ∧ (nextAt s (skipTo s j)).2.2.2.1 = false)) := by
  obtain ⟨ts, e, h⟩ := lx_whole s
  obtain ⟨j, hp, hn, he⟩ := path_of_lx h 0 rfl
  have hle := hp.le (by omega) (by omega)
  have hr := skipTo_range s j (by omega) hle.2
  refine ⟨ts, j, hp, by omega, hle.2, ?_⟩
  cases e with
  | none => exact .inl ⟨lexB_of hs h, by have := hn rfl; omega⟩
  | some x =>
    obtain ⟨hx, hlt, hno⟩ := he x rfl
    subst hx
    exact .inr ⟨lexB_of hs h, hlt, hno⟩
theorem lexB_ok {s : ByteArray} (hs : s.size ≤ 20000) {ts : List S44} {j : Int} (h : Path s 0 ts j) (he : ¬ skipTo s j < (s.size : Int)) : lexB s = (ts, 0, 0) := by
  have := lexB_of hs (lx_of_path h (.done he))
  simpa [outOf] using this
theorem lexB_bad {s : ByteArray} (hs : s.size ≤ 20000) {ts : List S44} {j : Int} (h : Path s 0 ts j) (he : skipTo s j < (s.size : Int)) (hno : (nextAt s (skipTo s j)).2.2.2.1 = false) : lexB s = ([], 100, skipTo s j) := by
  have := lexB_of hs (lx_of_path h (.err he hno))
  simpa [outOf] using this
/-- the place of a token is where it begins -/
theorem nextAt_at {s : ByteArray} {i : Int} (hok : (nextAt s i).2.2.2.1 = true) : (nextAt s i).2.2.1 = i ∧ (1 ≤ (nextAt s i).1 ∧ (nextAt s i).1 ≤ 3) ∧ (nextAt s i).2.1 = s.extract i.toNat (nextAt s i).2.2.2.2.toNat := by
  revert hok
  unfold nextAt
  by_cases c1 : at_ s i = 1
  · simp only [if_pos c1]; simp
  · simp only [if_neg c1]
    by_cases c4 : at_ s i = 4
    · simp only [if_pos c4]; simp
    · simp only [if_neg c4]
      by_cases c7 : at_ s i = 7 ∨ at_ s i = 2
      · simp only [if_pos c7]
        split
        · simp
        · intro h; exact absurd h (by simp)
      · simp only [if_neg c7]; intro h; exact absurd h (by simp)
/-- whatever is read ends in the text -/
theorem nextAt_end (s : ByteArray) (i : Int) (_ : 0 ≤ i) (h1 : i ≤ (s.size : Int)) : (nextAt s i).2.2.2.2 ≤ (s.size : Int) := by
  unfold nextAt
  by_cases c1 : at_ s i = 1
  · simp only [if_pos c1]; exact (scanTo_range _ _ _ h1).2
  · simp only [if_neg c1]
    by_cases c4 : at_ s i = 4
    · simp only [if_pos c4]; have := (at_some (by decide) c4).1; omega
    · simp only [if_neg c4]
      by_cases c7 : at_ s i = 7 ∨ at_ s i = 2
      · simp only [if_pos c7]
        have hlt : i < (s.size : Int) := by rcases c7 with c | c <;> exact (at_some (by decide) c).1
        have hf : firstAt (at_ s i == 7) i ≤ (s.size : Int) := by unfold firstAt; split <;> omega
        have := (scanTo_range (digitAt s) s.size _ hf).2
        split <;> exact this
      · simp only [if_neg c7]; exact h1
/-- tokens d places on -/
def moved (d : Int) (ts : List S44) : List S44 := ts.map fun t => ⟨t.f0, t.f1, t.f2 + d⟩
theorem Move.path {s u : ByteArray} {d lo hi : Int} (M : Move s u d lo hi) {i j : Int} {ts : List S44} (h : Path s i ts j) : lo ≤ i → 0 ≤ i → i ≤ (s.size : Int) → j ≤ hi → (j = hi → Soft u (hi + d)) → Path u (i + d) (moved d ts) (j + d) := by
  induction h with
  | nil i => intro _ _ _ _ _; exact .nil _
  | @cons i j ts hlt hok hp ih =>
    intro h1 h0 hi1 hj hso
    have hr := skipTo_range s i h0 hi1
    have hn := nextAt_range s _ (by omega) hr.2 hok
    have hle := hp.le (by omega) hn.2
    have hs := M.skip h1 (by omega)
    have hx := M.next (i := skipTo s i) (by omega) (by omega) (by omega) (fun e => hso (by omega)) (.inr (.inl hok))
    rw [if_pos hok] at hx
    have h3 := ih (by omega) (by omega) hn.2 hj hso
    have hu := M.hu; have hss := M.hs
    have e1 : tokAt u (skipTo u (i + d)) = ⟨(tokAt s (skipTo s i)).f0, (tokAt s (skipTo s i)).f1, (tokAt s (skipTo s i)).f2 + d⟩ := by
      unfold tokAt; rw [hs, hx]
    show Path u (i + d) (⟨(tokAt s (skipTo s i)).f0, (tokAt s (skipTo s i)).f1, (tokAt s (skipTo s i)).f2 + d⟩ :: moved d ts) (j + d)
    rw [← e1]
    refine .cons (by rw [hs]; omega) (by rw [hs, hx]; exact hok) ?_
    rw [hs, hx]
    exact h3
theorem moved_zero (ts : List S44) : moved 0 ts = ts := by
  unfold moved
  induction ts with
  | nil => rfl
  | cons t ts ih => rw [List.map_cons, ih]; simp
end Go.Proofs.YtonhcfecfifghaaDoor.PPx
namespace Go.Proofs.YtonhcfecfifghaaDoor.PPx
open Go.RowKit Go.Proofs.YtonhcfecfifghaaDoorW.PrintWords Go.Proofs.YtonhcfecfifghaaDoorW.PrintLast Go.Proofs.YtonhcfecfifghaaDoorW.PrintMore
/-- s holds u from i on -/
def Holds (s : ByteArray) (i : Int) (u : ByteArray) : Prop := 0 ≤ i ∧ i + u.size ≤ (s.size : Int) ∧ ∀ x : Int, 0 ≤ x → x < (u.size : Int) → bt s (i + x) = bt u x
theorem Holds.move {s u : ByteArray} {i : Int} (h : Holds s i u) : Move u s i 0 u.size := ⟨Int.le_refl _, Int.le_refl _, by have := h.1; omega, by have := h.2.1; omega, fun x h0 h1 => by rw [Int.add_comm]; exact h.2.2 x h0 h1⟩
theorem Holds.left {s u v : ByteArray} {i : Int} (h : Holds s i (u ++ v)) : Holds s i u := by
  obtain ⟨h0, h1, h2⟩ := h
  rw [ByteArray.size_append] at h1 h2
  refine ⟨h0, by omega, fun x hx hy => ?_⟩
  rw [h2 x hx (by omega), bt_left hx hy]
theorem Holds.right {s u v : ByteArray} {i : Int} (h : Holds s i (u ++ v)) : Holds s (i + u.size) v := by
  obtain ⟨h0, h1, h2⟩ := h
  rw [ByteArray.size_append] at h1 h2
  refine ⟨by omega, by omega, fun x hx hy => ?_⟩
  have := h2 (u.size + x) (by omega) (by omega)
  rw [show i + (u.size : Int) + x = i + (u.size + x) by omega, this, bt_right (by omega) (by omega)]
  congr 1; omega
theorem Holds.self (u : ByteArray) : Holds u 0 u := ⟨Int.le_refl _, by omega, fun x _ _ => by rw [Int.zero_add]⟩
theorem Holds.at {s u : ByteArray} {i x : Int} (h : Holds s i u) (h0 : 0 ≤ x) (h1 : x < (u.size : Int)) : at_ s (i + x) = at_ u x := by rw [Int.add_comm]; exact h.move.at h0 h1
/-- tokens, then a gap -/
def Runs (s : ByteArray) (i : Int) (ts : List S44) (j : Int) : Prop := ∃ j', Path s i ts j' ∧ Gap s j' j
theorem path_of_gap {s : ByteArray} {i' i j : Int} {ts : List S44} (hg : Gap s i' i) (h0 : 0 ≤ i') (h : Path s i ts j) (hne : ts ≠ []) : Path s i' ts j := by
  cases h with
  | nil => exact absurd rfl hne
  | cons hlt hok hp =>
    have e := hg.skip h0
    rw [e] at hlt hok hp ⊢
    exact .cons hlt hok hp
theorem Runs.append {s : ByteArray} {i j k : Int} {ts us : List S44} (h0 : 0 ≤ i) (h1 : i ≤ (s.size : Int)) (h : Runs s i ts j) (g : Runs s j us k) : Runs s i (ts ++ us) k := by
  obtain ⟨j', hp, hg⟩ := h
  obtain ⟨k', gp, gg⟩ := g
  have hj := hp.le h0 h1
  cases us with
  | nil =>
    rw [List.append_nil]
    cases gp
    exact ⟨j', hp, hg.trans gg⟩
  | cons u us => exact ⟨k', hp.append (path_of_gap hg (by omega) gp (by simp)), gg⟩
theorem moved_append (d : Int) (a b : List S44) : moved d (a ++ b) = moved d a ++ moved d b := by simp [moved]
theorem moved_moved (d e : Int) (a : List S44) : moved d (moved e a) = moved (e + d) a := by simp [moved, Int.add_assoc]
theorem moved_nil (d : Int) : moved d [] = [] := rfl
/-- over u the lexer reads ts (offsets from u's head on), wherever u stands; hard: if no byte of a word follows -/
def LexT (u : ByteArray) (hard : Bool) (ts : List S44) : Prop := ∀ (s : ByteArray) (i : Int), Holds s i u → (hard = true → Soft s (i + u.size)) → Runs s i (moved i ts) (i + u.size)
/-- a text that does not begin with a byte of a word -/
def SoftHd (v : ByteArray) : Prop := 0 < v.size ∧ Soft v 0
theorem soft_at {s u : ByteArray} {p q : Int} (h : at_ s p = at_ u q) (g : Soft u q) : Soft s p := by
  unfold Soft wordAt digitAt at *
  rw [h]; exact g
theorem LexT.append {u v : ByteArray} {a b : Bool} {ts us : List S44} (h : LexT u a ts) (g : LexT v b us) (hs : a = true → SoftHd v) : LexT (u ++ v) b (ts ++ moved u.size us) := by
  intro s i hh hb
  have hl := hh.left
  have hr := hh.right
  have h1 := h s i hl (fun e => by
    obtain ⟨hp, hsf⟩ := hs e
    refine soft_at ?_ hsf
    have := hr.at (x := 0) (Int.le_refl _) (by omega)
    rw [Int.add_zero] at this
    exact this)
  have h2 := g s (i + u.size) hr (fun e => by
    have := hb e
    rw [ByteArray.size_append] at this
    rw [show i + (u.size : Int) + v.size = i + ((u.size + v.size : Nat) : Int) by omega]
    exact this)
  rw [moved_append, moved_moved, ByteArray.size_append]
  have hz := hl.2.1
  have := Runs.append hl.1 (by omega) h1 h2
  rw [show i + ((u.size + v.size : Nat) : Int) = i + (u.size : Int) + v.size by omega, show (u.size : Int) + i = i + u.size by omega]
  exact this
/-- a text of blanks -/
def Blank (g : ByteArray) : Prop := ∀ x : Int, 0 ≤ x → x < (g.size : Int) → at_ g x = 5
theorem gap_blanks {s : ByteArray} : ∀ (n : Nat) (i : Int), (∀ x : Int, 0 ≤ x → x < (n : Int) → at_ s (i + x) = 5) → Gap s i (i + n)
  | 0, i, _ => by simpa using Gap.here i
  | n + 1, i, h => by
    have h5 : at_ s i = 5 := by have := h 0 (Int.le_refl _) (by omega); rwa [Int.add_zero] at this
    have := gap_blanks n (i + 1) (fun x h0 h1 => by
      have := h (x + 1) (by omega) (by omega)
      rwa [show i + (x + 1) = i + 1 + x by omega] at this)
    rw [show i + ((n + 1 : Nat) : Int) = i + 1 + n by omega]
    exact .blank h5 this
theorem LexT.blank {g : ByteArray} (h : Blank g) : LexT g false [] := by
  intro s i hh _
  refine ⟨i, .nil i, gap_blanks _ _ (fun x h0 h1 => ?_)⟩
  rw [hh.at h0 h1]
  exact h x h0 h1
theorem LexT.weak {u : ByteArray} {ts : List S44} (h : LexT u false ts) : LexT u true ts := fun s i hh _ => h s i hh (fun e => by cases e)
/-- a text that is one token -/
def TokText (k : Int) (w : ByteArray) : Prop := 0 < w.size ∧ at_ w 0 ≠ 5 ∧ at_ w 0 ≠ 6 ∧ nextAt w 0 = (k, w, 0, true, (w.size : Int))
theorem LexT.tok {k : Int} {w : ByteArray} (h : TokText k w) : LexT w true [⟨k, w, 0⟩] := by
  obtain ⟨h0, h5, h6, hn⟩ := h
  intro s i hh hs
  have hat : at_ s i = at_ w 0 := by have := hh.at (x := 0) (Int.le_refl _) (by omega); rwa [Int.add_zero] at this
  have hsk : skipTo s i = i := skipTo_other (by rw [hat]; exact h5) (by rw [hat]; exact h6)
  have hnx := hh.move.next (i := 0) (Int.le_refl _) (by omega) (by rw [hn]; exact Int.le_refl _) (fun _ => by rw [Int.add_comm]; exact hs rfl) (.inr (.inl (by rw [hn])))
  rw [hn, Int.zero_add] at hnx
  simp only [if_true] at hnx
  have hlt := hh.2.1
  have hp : Path s i [tokAt s (skipTo s i)] (nextAt s (skipTo s i)).2.2.2.2 := .cons (by rw [hsk]; omega) (by rw [hsk, hnx]) (.nil _)
  rw [hsk] at hp
  have e : tokAt s i = ⟨k, w, i⟩ := by unfold tokAt; rw [hnx]
  rw [e, hnx] at hp
  refine ⟨(w.size : Int) + i, by simpa [moved] using hp, ?_⟩
  rw [Int.add_comm]
  exact .here _
/-- a sign: whatever follows -/
theorem LexT.sign {w : ByteArray} (h1 : w.size = 1) (h4 : at_ w 0 = 4) : LexT w false [⟨3, w, 0⟩] := by
  intro s i hh _
  have hat : at_ s i = 4 := by have := hh.at (x := 0) (Int.le_refl _) (by omega); rw [Int.add_zero] at this; rw [this, h4]
  have hsk : skipTo s i = i := skipTo_other (by rw [hat]; decide) (by rw [hat]; decide)
  have hnx : nextAt s i = (3, s.extract i.toNat (i + 1).toNat, i, true, i + 1) := by
    unfold nextAt
    rw [if_neg (by rw [hat]; decide), if_pos hat]
  have hlt := hh.2.1
  have hz := hh.1
  have hp : Path s i [tokAt s (skipTo s i)] (nextAt s (skipTo s i)).2.2.2.2 := .cons (by rw [hsk]; omega) (by rw [hsk, hnx]) (.nil _)
  rw [hsk] at hp
  have hx : s.extract i.toNat (i + 1).toNat = w := by
    refine ext_bt ?_ (fun x h0 h1' => ?_)
    · have := size_extractI (s := s) (a := i) (b := i + 1) hz (by omega) (by omega); omega
    · have hsz := size_extractI (s := s) (a := i) (b := i + 1) hz (by omega) (by omega)
      rw [bt_extract hz h0 (by omega) (by omega)]
      exact hh.2.2 x h0 (by omega)
  have e : tokAt s i = ⟨3, w, i⟩ := by unfold tokAt; rw [hnx, hx]
  rw [e, hnx] at hp
  refine ⟨_, by simpa [moved] using hp, ?_⟩
  simp only [h1]
  exact .here _
/-- a whole text -/
theorem LexT.lex {u : ByteArray} {hard : Bool} {ts : List S44} (h : LexT u hard ts) (hs : u.size ≤ 20000) : lexB u = (ts, 0, 0) := by
  obtain ⟨j, hp, hg⟩ := h u 0 (Holds.self u) (fun _ => soft_end (by omega))
  rw [moved_zero] at hp
  have hj := hp.le (Int.le_refl _) (by omega)
  rw [Int.zero_add] at hg
  refine lexB_ok hs hp ?_
  rw [skip_end hj.1 hg]
  omega
/-- a text that the lexer takes for one token with the text's own bytes -/
theorem tok_of_lex {w : ByteArray} {t : S44} (h : lexB w = ([t], 0, 0)) (he : t.f1 = w) (hs : w.size ≤ 20000) : TokText t.f0 w := by
  obtain ⟨ts, j, hp, h0, h1, hc⟩ := whole w hs
  have hts : ts = [t] ∧ skipTo w j = w.size := by
    rcases hc with ⟨hl, hk⟩ | ⟨hl, _, _⟩
    · rw [h] at hl; exact ⟨(congrArg Prod.fst hl).symm, hk⟩
    · rw [h] at hl; exact absurd (congrArg Prod.fst hl) (by simp)
  obtain ⟨rfl, hk⟩ := hts
  obtain ⟨_, g5, g6⟩ := skip_gap w 0 (Int.le_refl _) (by omega)
  have hr := skipTo_range w 0 (Int.le_refl _) (by omega)
  cases hp with
  | cons hlt hok hp2 =>
    obtain ⟨a1, a2, a3⟩ := nextAt_at hok
    have hn := nextAt_range w _ (by omega) hr.2 hok
    simp only [tokAt] at he ⊢
    have hsz := size_extractI (s := w) (a := skipTo w 0) (b := (nextAt w (skipTo w 0)).2.2.2.2) (by omega) (by omega) hn.2
    have he' := congrArg ByteArray.size he
    rw [a3] at he'
    have hp0 : skipTo w 0 = 0 := by omega
    have hend : (nextAt w (skipTo w 0)).2.2.2.2 = (w.size : Int) := by omega
    have hsz0 : 0 < w.size := by omega
    rw [hp0] at g5 g6 hok a1 a2 a3 hend he ⊢
    refine ⟨hsz0, g5, g6, ?_⟩
    refine Prod.ext rfl (Prod.ext he (Prod.ext a1 (Prod.ext hok hend)))
end Go.Proofs.YtonhcfecfifghaaDoor.PPx
namespace Go.Proofs.YtonhcfecfifghaaDoor.PPx
open Go.RowKit Go.Proofs.YtonhcfecfifghaaDoorW.PrintWords Go.Proofs.YtonhcfecfifghaaDoorW.PrintLast Go.Proofs.YtonhcfecfifghaaDoorW.PrintMore
set_option linter.unusedVariables false
set_option linter.unusedSimpArgs false
/-- the reader's state, without the text's length -/
structure Rs where
  toks : List S44
  n : Int
  fl : List S35
  over : Bool
/-- the numbers among the tokens are numerals -/
def NumsOK (ts : List S44) : Prop := ∀ t ∈ ts, t.f0 = 2 → t.f1.size ≤ 18 ∧ ∃ n, Lib.atoi t.f1.data.toList = some n
/-- the reader at block g: w0 is the world ahead of it, in which the tokens lie already -/
def IsR (w0 W : World) (g : Nat) (fin : Int) (vf : Value) (s : Rs) : Prop :=
  ∃ A c, W.heap[g]? = some (.cells #[.slice A s.toks.length c, .int .i64 fin, .int .i64 s.n, vf, .bool s.over] 59 (0, 0)) ∧ w0.heap.size ≤ g ∧ s.toks.length ≤ c ∧ Kd.C k44 w0 A s.toks.length s.toks ∧
    Kd.R k35 35 W w0.heap.size (fun k => k ≠ g) vf s.fl ∧ Below w0.heap.size w0 W ∧ NumsOK s.toks
/-- a step of the reader: every block that W had is as it was but for the reader's own and the faults' row; those may be in a new row -/
structure Go_ (W W1 : World) (g : Nat) (vf vf1 : Value) : Prop where
  size : W.heap.size ≤ W1.heap.size
  block : ∀ k, k < W.heap.size → k ≠ g → some k ≠ vf.ownBlock → W1.heap[k]? = W.heap[k]?
  row : vf1.ownBlock = vf.ownBlock ∨ ∃ b, vf1.ownBlock = some b ∧ W.heap.size ≤ b
section
variable {w0 W W1 W2 : World} {g : Nat} {fin : Int} {vf vf1 vf2 : Value} {s : Rs}
theorem Go_.refl (W : World) (g : Nat) (vf : Value) : Go_ W W g vf vf := ⟨Nat.le_refl _, fun _ _ _ _ => rfl, .inl rfl⟩
theorem Go_.of_below (h : Below W.heap.size W W1) (g : Nat) (vf : Value) : Go_ W W1 g vf vf := ⟨h.size, fun k hk _ _ => h.block k hk, .inl rfl⟩
theorem Go_.trans (h : Go_ W W1 g vf vf1) (k : Go_ W1 W2 g vf1 vf2) (hg : g < W.heap.size) : Go_ W W2 g vf vf2 := by
  have hne : ∀ j, j < W.heap.size → some j ≠ vf.ownBlock → some j ≠ vf1.ownBlock := fun j hj hv => by
    rcases h.row with e | ⟨b, e, hb⟩
    · rw [e]; exact hv
    · rw [e]; intro he; injection he with he; omega
  refine ⟨Nat.le_trans h.size k.size, fun j hj hjg hjv => ?_, ?_⟩
  · rw [k.block j (Nat.lt_of_lt_of_le hj h.size) hjg (hne j hj hjv)]; exact h.block j hj hjg hjv
  · rcases k.row with e | ⟨b, e, hb⟩
    · rw [e]; exact h.row
    · exact .inr ⟨b, e, Nat.le_trans h.size hb⟩
theorem IsR.lt (h : IsR w0 W g fin vf s) : g < W.heap.size := by
  obtain ⟨A, c, hh, _⟩ := h
  exact (Array.getElem?_eq_some_iff.1 hh).1
theorem IsR.ge (h : IsR w0 W g fin vf s) : w0.heap.size ≤ g := by
  obtain ⟨A, c, hh, hg, _⟩ := h
  exact hg
theorem IsR.bel (h : IsR w0 W g fin vf s) : Below w0.heap.size w0 W := by
  obtain ⟨A, c, hh, hg, hl, hC, hR, hB, hN⟩ := h
  exact hB
theorem IsR.below (h : IsR w0 W g fin vf s) (hb : Below W.heap.size W W1) : IsR w0 W1 g fin vf s := by
  obtain ⟨A, c, hh, hg, hl, hC, hR, hB, hN⟩ := h
  refine ⟨A, c, (hb.block g (Array.getElem?_eq_some_iff.1 hh).1).trans hh, hg, hl, hC, Kd.R_below hR hb, hB.trans ⟨hb.os, hb.tape, hb.output, hb.size, fun k hk => hb.block k (Nat.lt_of_lt_of_le hk hB.size)⟩, hN⟩
/-- a row of the caller's own, through a step -/
theorem R_go {α : Type} {d : Kd α} {e base : Nat} {v : Value} {xs : List α} (h : d.R e W base (fun k => k ≠ g ∧ some k ≠ vf.ownBlock) v xs) (hg : Go_ W W1 g vf vf1) : d.R e W1 base (fun k => k ≠ g ∧ some k ≠ vf1.ownBlock) v xs := by
  have h1 : d.R e W base (fun k => (k ≠ g ∧ some k ≠ vf1.ownBlock) ∧ (k ≠ g ∧ some k ≠ vf.ownBlock)) v xs := by
    refine Kd.R_mono (Kd.R_bound h) (fun k hk => ⟨⟨hk.1.1, ?_⟩, hk.1⟩)
    rcases hg.row with e | ⟨b, e, hb⟩
    · rw [e]; exact hk.1.2
    · rw [e]; intro he; injection he with he; have := hk.2.2.1; omega
  exact Kd.R_mono (Kd.R_step h1 (fun k hk hlt => hg.block k hlt hk.2.1 hk.2.2)) (fun k hk => hk.1)
theorem blk_go {b : Nat} {o : Obj} (h : W.heap[b]? = some o) (hg : Go_ W W1 g vf vf1) (h1 : b ≠ g) (h2 : some b ≠ vf.ownBlock) : W1.heap[b]? = some o :=
  (hg.block b (Array.getElem?_eq_some_iff.1 h).1 h1 h2).trans h
end
/-- the next token; at the end: kind 0, at the text's length -/
def lookS (fin : Int) (ts : List S44) : S44 := match ts with
  | [] => ⟨0, ⟨#[]⟩, fin⟩
  | t :: _ => t
abbrev tokV (t : S44) : Value := .agg #[.int .i64 t.f0, .string t.f1, .int .i64 t.f2]
theorem cell_lt {W : World} {a : Addr} {v : Value} (h : W.cell? a = some v) : a.block < W.heap.size := by
  rcases Nat.lt_or_ge a.block W.heap.size with h1 | h1
  · exact h1
  · simp [World.cell?, Array.getElem?_eq_none h1] at h
theorem add_zero' (a : Addr) : a.add 0 = a := by unfold Addr.add; cases a; split <;> simp_all
/-- the first token's cells -/
theorem first_tok {W : World} {A : Option Addr} {t : S44} {ts : List S44} {n : Nat} (hC : Kd.C k44 W A n (t :: ts)) :
    ∃ ad, A = some ad ∧ ad.block < W.heap.size ∧ W.cell? ad = some (.int .i64 t.f0) ∧ W.cell? ⟨ad.block, ad.off + 1, none⟩ = some (.string t.f1) ∧ W.cell? ⟨ad.block, ad.off + 2, none⟩ = some (.int .i64 t.f2) := by
  have hn := Kd.C_len hC
  simp only [List.length_cons] at hn
  obtain ⟨ad, ea, hx0, hx1, hx2⟩ := at_T44 hC 0 (by omega) (by omega)
  have e : rd_T44 (t :: ts) 0 = t := rfl
  simp only [Int.toNat_zero, Nat.zero_mul, add_zero', e] at hx0 hx1 hx2
  exact ⟨ad, ea, cell_lt hx0, hx0, hx1, hx2⟩
theorem tok_f0 (w : World) (x : Int) (y : ByteArray) (z : Int) : (Instr.field 44 (.agg #[.int .i64 x, .string y, .int .i64 z]) 0).run Tryd.prog w = .ok (.int .i64 x) w := by kernel_rfl
theorem tok_f1 (w : World) (x : Int) (y : ByteArray) (z : Int) : (Instr.field 44 (.agg #[.int .i64 x, .string y, .int .i64 z]) 1).run Tryd.prog w = .ok (.string y) w := by kernel_rfl
theorem tok_f2 (w : World) (x : Int) (y : ByteArray) (z : Int) : (Instr.field 44 (.agg #[.int .i64 x, .string y, .int .i64 z]) 2).run Tryd.prog w = .ok (.int .i64 z) w := by kernel_rfl
section
variable {w0 W W1 : World} {g : Nat} {fin : Int} {vf vf1 : Value} {s : Rs}
theorem Go_.set (h : Go_ W W1 g vf vf1) {p : Addr} (hp : p.block = g ∨ W.heap.size ≤ p.block) (u : Value) : Go_ W (W1.setCell p u) g vf vf1 :=
  ⟨by simpa [World.setCell] using h.size, fun k hk hg hv => (Below.heap_setCell W1 p u k (by rcases hp with hp | hp <;> omega)).trans (h.block k hk hg hv), h.row⟩
/-- a store elsewhere: into a block of another type, made since w0 -/
theorem IsR.far (h : IsR w0 W g fin vf s) {b t : Nat} {cells : Array Value} (hb : W.heap[b]? = some (.cells cells t (0, 0))) (h1 : t ≠ 59) (h2 : t ≠ 35) (hge : w0.heap.size ≤ b) (j : Nat) (u : Value) : IsR w0 (W.setCell ⟨b, j, none⟩ u) g fin vf s := by
  obtain ⟨A, c, hh, hg, hl, hC, hR, hB, hN⟩ := h
  have hne : g ≠ b := fun e => by subst e; rw [hh] at hb; injection hb with hb; injection hb with _ hb; exact h1 hb.symm
  exact ⟨A, c, blk_far hh hne u, hg, hl, hC, Kd.R_set hR hb (by intro q hq; simp at hq; rcases hq with rfl | hq; exact fun e => h2 e.symm; exact absurd hq (by simp [k35, Kd.iso, Kd.pair, Kd.int, Kd.scalar])) j u, hB.setCell hge u, hN⟩
theorem IsR.set_toks (h : IsR w0 W g fin vf s) {A' : Option Addr} {c' : Nat} {ts : List S44} (hC' : Kd.C k44 w0 A' ts.length ts) (hl' : ts.length ≤ c') (hN' : NumsOK ts) : IsR w0 (W.setCell ⟨g, 0, none⟩ (.slice A' ts.length c')) g fin vf { s with toks := ts } := by
  obtain ⟨A, c, hh, hg, hl, hC, hR, hB, hN⟩ := h
  exact ⟨A', c', blk_put hh 0 _ rfl, hg, hl', hC', Kd.R_far hR (p := ⟨g, 0, none⟩) (fun k hk => hk) _, hB.setCell hg _, hN'⟩
theorem IsR.set_n (h : IsR w0 W g fin vf s) (n : Int) : IsR w0 (W.setCell ⟨g, 2, none⟩ (.int .i64 n)) g fin vf { s with n := n } := by
  obtain ⟨A, c, hh, hg, hl, hC, hR, hB, hN⟩ := h
  exact ⟨A, c, blk_put hh 2 _ rfl, hg, hl, hC, Kd.R_far hR (p := ⟨g, 2, none⟩) (fun k hk => hk) _, hB.setCell hg _, hN⟩
theorem IsR.set_over (h : IsR w0 W g fin vf s) (b : Bool) : IsR w0 (W.setCell ⟨g, 4, none⟩ (.bool b)) g fin vf { s with over := b } := by
  obtain ⟨A, c, hh, hg, hl, hC, hR, hB, hN⟩ := h
  exact ⟨A, c, blk_put hh 4 _ rfl, hg, hl, hC, Kd.R_far hR (p := ⟨g, 4, none⟩) (fun k hk => hk) _, hB.setCell hg _, hN⟩
/-- the tokens behind the first -/
theorem tail_C {A : Option Addr} {c : Nat} {t : S44} {ts : List S44} (hC : Kd.C k44 w0 A (t :: ts).length (t :: ts)) (hl : (t :: ts).length ≤ c) :
    (c = 1 → Kd.C k44 w0 A ts.length ts) ∧ (c ≠ 1 → Kd.C k44 w0 (A.map (fun x => { block := x.block, off := x.off + 3 })) ts.length ts) := by
  have h := Kd.C_drop (m := 1) hC (by simp) hl
  refine ⟨fun e => ?_, fun e => ?_⟩
  · rw [if_pos e] at h; exact h
  · rw [if_neg e] at h; exact h
end
section
variable {w0 W W1 : World} {g b : Nat} {fin : Int} {vf vf1 : Value} {s : Rs} {x y z x' y' z' : Value}
theorem blk3 {t : TypeId} (h : W.heap[b]? = some (.cells #[x, y, z] t (0, 0))) : (((W.setCell ⟨b, 0, none⟩ x').setCell ⟨b, 1, none⟩ y').setCell ⟨b, 2, none⟩ z').heap[b]? = some (.cells #[x', y', z'] t (0, 0)) := by
  have h1 : (W.setCell ⟨b, 0, none⟩ x').heap[b]? = some (.cells #[x', y, z] t (0, 0)) := blk_put h 0 _ rfl
  have h2 : ((W.setCell ⟨b, 0, none⟩ x').setCell ⟨b, 1, none⟩ y').heap[b]? = some (.cells #[x', y', z] t (0, 0)) := blk_put h1 1 _ rfl
  exact blk_put h2 2 _ rfl
theorem IsR.far3 (h : IsR w0 W g fin vf s) (hb : W.heap[b]? = some (.cells #[x, y, z] 44 (0, 0))) (hge : w0.heap.size ≤ b) : IsR w0 (((W.setCell ⟨b, 0, none⟩ x').setCell ⟨b, 1, none⟩ y').setCell ⟨b, 2, none⟩ z') g fin vf s := by
  have h1 : (W.setCell ⟨b, 0, none⟩ x').heap[b]? = some (.cells #[x', y, z] 44 (0, 0)) := blk_put hb 0 _ rfl
  have h2 : ((W.setCell ⟨b, 0, none⟩ x').setCell ⟨b, 1, none⟩ y').heap[b]? = some (.cells #[x', y', z] 44 (0, 0)) := blk_put h1 1 _ rfl
  exact ((h.far hb (by decide) (by decide) hge 0 x').far h1 (by decide) (by decide) hge 1 y').far h2 (by decide) (by decide) hge 2 z'
theorem Go_.set3 (h : Go_ W W1 g vf vf1) (hp : W.heap.size ≤ b) : Go_ W (((W1.setCell ⟨b, 0, none⟩ x').setCell ⟨b, 1, none⟩ y').setCell ⟨b, 2, none⟩ z') g vf vf1 :=
  ((h.set (p := ⟨b, 0, none⟩) (.inr hp) x').set (p := ⟨b, 1, none⟩) (.inr hp) y').set (p := ⟨b, 2, none⟩) (.inr hp) z'
end
end Go.Proofs.YtonhcfecfifghaaDoor.PPx
namespace Go.Proofs.YtonhcfecfifghaaDoor.PPx
open Go.RowKit Go.Proofs.YtonhcfecfifghaaDoorW.PrintWords Go.Proofs.YtonhcfecfifghaaDoorW.PrintLast Go.Proofs.YtonhcfecfifghaaDoorW.PrintMore
set_option linter.unusedVariables false
set_option linter.unusedSimpArgs false
set_option maxHeartbeats 1000000 in
set_option maxRecDepth 100000 in
theorem look_calls (w0 W : World) (g : Nat) (fin : Int) (vf : Value) (s : Rs) (hI : IsR w0 W g fin vf s) :
    Calls Tryd.prog 31 #[.pointer (some ⟨g, 0, none⟩)] W fun e w' => e = .returned (.agg #[.int .i64 (lookS fin s.toks).f0, .string (lookS fin s.toks).f1, .int .i64 (lookS fin s.toks).f2]) ∧ Below W.heap.size W w' := by
  have hu44 := Tryd.underlying44
  obtain ⟨A, c, hh, hg, hl, hC, hR, hB, hN⟩ := hI
  have c0 := blk_cell hh 0
  have c1 := blk_cell hh 1
  simp only [List.getElem?_toArray, List.getElem?_cons_zero, List.getElem?_cons_succ] at c0 c1
  have hgl := (Array.getElem?_eq_some_iff.1 hh).1
  have HB := Aside0.mk hB
  clear hh hB hR hN
  obtain ⟨toks, n, fl, over⟩ := s
  simp only at c0 hC hl ⊢
  cases toks with
  | nil =>
    simp only [List.length_nil] at c0
    go_enter Tryd.func31, Tryd.ntmps31
    go_wp2_with fail
    refine bodyPost_ret (results_cell_row rfl _ _ W.heap.size 44 #[.int .i64 0, .string (⟨#[]⟩ : ByteArray), .int .i64 fin] (0, 0) _ rfl (heap_alloc_new _ _) Tryd.underlying44 rfl (by kernel_rfl)) rfl ?_
    exact ⟨rfl, below_alloc (Below.refl _ _) _⟩
  | cons t ts =>
    obtain ⟨ad, ea, hal, hx0, hx1, hx2⟩ := first_tok (Kd.C_below hC HB.out)
    cases ea
    have hp : (0 < ((t :: ts).length : Int)) := by simp
    have hn : (((t :: ts).length : Int) == 0) = false := by simp; omega
    generalize (t :: ts).length = m at *
    have hp2 := eq_true hp
    clear hC
    go_enter Tryd.func31, Tryd.ntmps31
    go_wp2_with fail
    refine bodyPost_ret (results_cell_row rfl _ _ W.heap.size 44 #[.int .i64 t.f0, .string t.f1, .int .i64 t.f2] (0, 0) _ rfl (heap_alloc_new _ _) Tryd.underlying44 rfl (by kernel_rfl)) rfl ?_
    exact ⟨rfl, below_alloc (Below.refl _ _) _⟩
/-- the panic that a fault raises -/
def faultV (e at_ : Int) : List PanicEntry := [{ v := .iface 91 (.agg #[.int .i64 e, .int .i64 at_]), recovered := false }]
/-- the fault at the next token -/
def wrongE (ts : List S44) : Int := match ts with
  | [] => 3
  | _ :: _ => 110
set_option maxHeartbeats 1000000 in
set_option maxRecDepth 100000 in
theorem wrong_calls (w0 W : World) (g : Nat) (fin : Int) (vf : Value) (s : Rs) (hI : IsR w0 W g fin vf s) :
    Calls Tryd.prog 68 #[.pointer (some ⟨g, 0, none⟩)] W fun e w' => e = .panicked (faultV (wrongE s.toks) (lookS fin s.toks).f2) ∧ Below W.heap.size W w' := by
  have hu44 := Tryd.underlying44
  have hu91 := Tryd.underlying91
  have hf2 := tok_f2
  have HI := Aside0.mk hI
  obtain ⟨A, c, hh, hg, hl, hC, hR, hB, hN⟩ := hI
  have c0 := blk_cell hh 0
  simp only [List.getElem?_toArray, List.getElem?_cons_zero, List.getElem?_cons_succ] at c0
  have hgl := (Array.getElem?_eq_some_iff.1 hh).1
  clear hh hB hR hC hN
  obtain ⟨toks, n, fl, over⟩ := s
  simp only at c0 hl ⊢
  cases toks with
  | nil =>
    simp only [List.length_nil] at c0
    go_enter Tryd.func68, Tryd.ntmps68
    go_wp2_with (first | (go_at_call 31; refine (look_calls w0 W g fin vf _ HI.out).mono ?_; rintro e w1 ⟨rfl, hb⟩))
    exact ⟨rfl, rfl, hb⟩
  | cons t ts =>
    have hn : (((t :: ts).length : Int) == 0) = false := by simp; omega
    generalize (t :: ts).length = m at *
    go_enter Tryd.func68, Tryd.ntmps68
    go_wp2_with (first | (go_at_call 31; refine (look_calls w0 W g fin vf _ HI.out).mono ?_; rintro e w1 ⟨rfl, hb⟩))
    exact ⟨rfl, rfl, hb⟩
/-- what a step of the parser does: a value or a fault, and the state -/
abbrev Step (α : Type) := Except (Int × Int) α × Rs
def takeS (p : S44 → Bool) (fin : Int) (s : Rs) : Step S44 := match s.toks with
  | [] => (.error (3, fin), s)
  | t :: ts => if (t.f0 == 0 || !p t) = true then (.error (110, t.f2), s) else (.ok t, { s with toks := ts })
/-- how a call ends that makes this step: the faults' row stays where it is -/
def Out1 {α : Type} (w0 W : World) (g : Nat) (fin : Int) (vf : Value) (enc : α → Value) (r : Step α) (e : Ending) (w' : World) : Prop :=
  (match r.1 with
    | .ok a => e = .returned (enc a)
    | .error f => e = .panicked (faultV f.1 f.2)) ∧ IsR w0 w' g fin vf r.2 ∧ Go_ W w' g vf vf
set_option maxHeartbeats 1000000 in
set_option maxRecDepth 100000 in
theorem take_calls (F : FuncId) (cap : Array Value) (hcf : ∀ (args : Array Value) (w : World), Sem.run Tryd.prog (callFunc F args) w = .ok (.enter F args) w) (p : S44 → Bool) (w0 W : World) (g : Nat) (fin : Int) (vf : Value) (s : Rs) (hI : IsR w0 W g fin vf s)
    (HF : Aside0 (∀ (W1 : World) (t : S44), Below W.heap.size W W1 → Calls Tryd.prog F (#[.agg #[.int .i64 t.f0, .string t.f1, .int .i64 t.f2]] ++ cap) W1 fun e w' => e = .returned (.bool (p t)) ∧ Below W1.heap.size W1 w')) :
    Calls Tryd.prog 57 #[.pointer (some ⟨g, 0, none⟩), .func (.func F) #[] cap] W fun e w' => Out1 w0 W g fin vf tokV (takeS p fin s) e w' := by
  have hu44 := Tryd.underlying44
  have HI := Aside0.mk hI
  obtain ⟨A, c, hh, hg, hl, hC, hR, hB, hN⟩ := hI
  have c0 := blk_cell hh 0
  simp only [List.getElem?_toArray, List.getElem?_cons_zero, List.getElem?_cons_succ] at c0
  have hgl := (Array.getElem?_eq_some_iff.1 hh).1
  clear hh hB hR hC hN
  obtain ⟨toks, n, fl, over⟩ := s
  simp only at c0 hl ⊢
  cases toks with
  | nil =>
    simp only [List.length_nil] at c0
    go_enter Tryd.func57, Tryd.ntmps57
    go_wp2_with fail
    have hb0 := below_alloc (Below.refl W.heap.size W) (.cells #[.int .i64 0, .string ⟨#[]⟩, .int .i64 0] 44)
    refine (look_calls w0 _ g fin vf _ (HI.out.below hb0)).mono ?_
    rintro e w1 ⟨rfl, hb⟩
    have HI1 := Aside0.mk ((HI.out.below hb0).below hb)
    have HG1 := Aside0.mk (Go_.of_below (below_step hb0 hb) g vf)
    have hgl1 := HI1.out.lt
    simp only [lookS]
    clear HI HF hb hb0
    go_wp2_with fail
    refine (wrong_calls w0 _ g fin vf _ (HI1.out.below (below_alloc (Below.refl _ _) _))).mono ?_
    rintro e w2 ⟨rfl, hb⟩
    exact ⟨rfl, rfl, (HI1.out.below (below_alloc (Below.refl _ _) _)).below hb, HG1.out.trans (Go_.of_below (below_step (below_alloc (Below.refl _ _) _) hb) g vf) hgl⟩
  | cons t ts =>
    have hln : (t :: ts).length = ts.length + 1 := rfl
    have hp : 1 ≤ (t :: ts).length := by omega
    cases hz : (t.f0 == 0) with
    | true =>
      have ht : takeS p fin ⟨t :: ts, n, fl, over⟩ = (.error (110, t.f2), ⟨t :: ts, n, fl, over⟩) := by simp [takeS, hz]
      rw [ht]
      clear HF ht
      generalize (t :: ts).length = m at *
      go_enter Tryd.func57, Tryd.ntmps57
      go_wp2_with fail
      have hb0 := below_alloc (Below.refl W.heap.size W) (.cells #[.int .i64 0, .string ⟨#[]⟩, .int .i64 0] 44)
      refine (look_calls w0 _ g fin vf _ (HI.out.below hb0)).mono ?_
      rintro e w1 ⟨rfl, hb⟩
      have HI1 := Aside0.mk ((HI.out.below hb0).below hb)
      have HG1 := Aside0.mk (Go_.of_below (below_step hb0 hb) g vf)
      have hgl1 := HI1.out.lt
      simp only [lookS]
      clear HI hb hb0
      go_wp2_with fail
      refine (wrong_calls w0 _ g fin vf _ (HI1.out.below (below_alloc (Below.refl _ _) _))).mono ?_
      rintro e w2 ⟨rfl, hb⟩
      exact ⟨rfl, rfl, (HI1.out.below (below_alloc (Below.refl _ _) _)).below hb, HG1.out.trans (Go_.of_below (below_step (below_alloc (Below.refl _ _) _) hb) g vf) hgl⟩
    | false =>
      generalize hm : (t :: ts).length = m at *
      go_enter Tryd.func57, Tryd.ntmps57
      go_wp2_with fail
      have hb0 := below_alloc (Below.refl W.heap.size W) (.cells #[.int .i64 0, .string ⟨#[]⟩, .int .i64 0] 44)
      refine (look_calls w0 _ g fin vf _ (HI.out.below hb0)).mono ?_
      rintro e w1 ⟨rfl, hb⟩
      have HI1 := Aside0.mk ((HI.out.below hb0).below hb)
      have HB1 := Aside0.mk (below_step hb0 hb)
      have HR1 := Aside0.mk ((hb.block W.heap.size (by simp)).trans (heap_alloc_new W (.cells #[.int .i64 0, .string ⟨#[]⟩, .int .i64 0] 44)))
      have hgl1 := HI1.out.lt
      simp only [lookS]
      clear HI hb hb0
      go_wp2_with fail
      have hb1 := below_alloc (Below.refl w1.heap.size w1) (.cells #[.int .i64 t.f0, .string t.f1, .int .i64 t.f2] 44)
      refine (HF.out _ t (below_step HB1.out hb1)).mono ?_
      rintro e w2 ⟨rfl, hb2⟩
      have hsz1 := HB1.out.size
      have hlt1 : W.heap.size < w1.heap.size := (Array.getElem?_eq_some_iff.1 HR1.out).1
      have hlt2 : w1.heap.size < w2.heap.size := by have := hb2.size; simp at this; omega
      have HT2 := Aside0.mk ((hb2.block w1.heap.size (by simp)).trans (heap_alloc_new w1 (.cells #[.int .i64 t.f0, .string t.f1, .int .i64 t.f2] 44)))
      have HR2 := Aside0.mk (((below_step hb1 hb2).block W.heap.size hlt1).trans HR1.out)
      have HI2 := Aside0.mk ((HI1.out.below hb1).below hb2)
      have HB2 := Aside0.mk (below_step HB1.out (below_step hb1 hb2))
      have t0 := blk_cell HT2.out 0
      have t1 := blk_cell HT2.out 1
      have t2 := blk_cell HT2.out 2
      have r0 := blk_cell HR2.out 0
      have r1 := blk_cell HR2.out 1
      have r2 := blk_cell HR2.out 2
      have f0 := blk_frozen HR2.out 0
      have f1 := blk_frozen HR2.out 1
      have f2 := blk_frozen HR2.out 2
      simp only [List.getElem?_toArray, List.getElem?_cons_zero, List.getElem?_cons_succ] at t0 t1 t2 r0 r1 r2
      clear HI1 HR1 hb1 hb2 HF
      cases hpt : p t with
      | false =>
        go_wp2_with fail
        refine (wrong_calls w0 _ g fin vf _ HI2.out).mono ?_
        rintro e w3 ⟨rfl, hb⟩
        have ht : takeS p fin ⟨t :: ts, n, fl, over⟩ = (.error (110, t.f2), ⟨t :: ts, n, fl, over⟩) := by simp [takeS, hz, hpt]
        exact ⟨rfl, by rw [ht]; exact ⟨rfl, HI2.out.below hb, Go_.of_below (below_step HB2.out hb) g vf⟩⟩
      | true =>
        have ht : takeS p fin ⟨t :: ts, n, fl, over⟩ = (.ok t, ⟨ts, n, fl, over⟩) := by simp [takeS, hz, hpt]
        obtain ⟨A2, c2, hh2, hg2, hl2, hC2, hR2, hBx, hN2⟩ := HI2.out
        have HN := Aside0.mk (show NumsOK ts from fun x hx => hN2 x (List.mem_cons_of_mem _ hx))
        have q0 := blk_cell hh2 0
        have z0 := blk_frozen hh2 0
        simp only [List.getElem?_toArray, List.getElem?_cons_zero, List.getElem?_cons_succ, hm] at q0
        have hgl2 := (Array.getElem?_eq_some_iff.1 hh2).1
        have hT := tail_C hC2 hl2
        have hlc : ts.length ≤ c2 - 1 := by simp only [List.length_cons] at hl2; omega
        have hgw : w0.heap.size ≤ W.heap.size := by have := HB2.out.size; omega
        clear hh2 hC2 hR2 hBx hl2 hN2
        by_cases hc2 : c2 = 1
        · subst hc2
          have hts : ts = [] := List.eq_nil_of_length_eq_zero (by omega)
          subst hts
          have HT := Aside0.mk (hT.1 rfl)
          clear hT
          have hI3 : Aside0 (IsR w0 (w2.setCell ⟨g, 0, none⟩ (.slice A2 0 0)) g fin vf ⟨[], n, fl, over⟩) := ⟨IsR.set_toks (ts := []) (c' := 0) HI2.out HT.out (Nat.le_refl _) HN.out⟩
          have hr3 := Aside0.mk (blk_far HR2.out (p := ⟨g, 0, none⟩) (Ne.symm (Nat.ne_of_lt hgl)) (.slice A2 0 0))
          have hG3 := Aside0.mk ((Go_.of_below HB2.out g vf).set (p := ⟨g, 0, none⟩) (.inl rfl) (.slice A2 0 0))
          clear HI2 HR2 HB2 HT2 HT HN
          have hm1 : m = 1 := hm.symm
          clear hm hln hp hlc hl
          subst hm1
          go_wp2_with fail
          refine bodyPost_ret (results_cell_row rfl _ _ W.heap.size 44 #[.int .i64 t.f0, .string t.f1, .int .i64 t.f2] (0, 0) _ rfl (blk3 hr3.out) Tryd.underlying44 rfl (by kernel_rfl)) rfl ?_
          rw [ht]
          exact ⟨rfl, IsR.far3 hI3.out hr3.out hgw, Go_.set3 hG3.out (Nat.le_refl _)⟩
        · have HT := Aside0.mk (hT.2 hc2)
          clear hT
          have hI3 := Aside0.mk (IsR.set_toks HI2.out HT.out hlc HN.out)
          have hr3 := Aside0.mk (blk_far HR2.out (p := ⟨g, 0, none⟩) (Ne.symm (Nat.ne_of_lt hgl)) (.slice (A2.map (fun x => { block := x.block, off := x.off + 3 })) ts.length (c2 - 1)))
          have hG3 := Aside0.mk ((Go_.of_below HB2.out g vf).set (p := ⟨g, 0, none⟩) (.inl rfl) (.slice (A2.map (fun x => { block := x.block, off := x.off + 3 })) ts.length (c2 - 1)))
          clear HI2 HR2 HB2 HT2 HT HN
          go_wp2_with fail
          refine bodyPost_ret (results_cell_row rfl _ _ W.heap.size 44 #[.int .i64 t.f0, .string t.f1, .int .i64 t.f2] (0, 0) _ rfl (blk3 hr3.out) Tryd.underlying44 rfl (by kernel_rfl)) rfl ?_
          rw [ht]
          exact ⟨rfl, IsR.far3 hI3.out hr3.out hgw, Go_.set3 hG3.out (Nat.le_refl _)⟩
end Go.Proofs.YtonhcfecfifghaaDoor.PPx
namespace Go.Proofs.YtonhcfecfifghaaDoor.PPx
open Go.RowKit Go.Proofs.YtonhcfecfifghaaDoorW.PrintWords Go.Proofs.YtonhcfecfifghaaDoorW.PrintLast Go.Proofs.YtonhcfecfifghaaDoorW.PrintMore
set_option linter.unusedVariables false
set_option linter.unusedSimpArgs false
section
variable {α β : Type} {w0 W W1 w' : World} {g : Nat} {fin : Int} {vf : Value} {enc : α → Value} {r : Step α} {e : Ending}
theorem Out1.cases (h : Out1 w0 W g fin vf enc r e w') : (∃ a, r.1 = .ok a ∧ e = .returned (enc a) ∧ IsR w0 w' g fin vf r.2 ∧ Go_ W w' g vf vf) ∨ (∃ f, r.1 = .error f ∧ e = .panicked (faultV f.1 f.2) ∧ IsR w0 w' g fin vf r.2 ∧ Go_ W w' g vf vf) := by
  obtain ⟨h1, h2, h3⟩ := h
  cases hr : r.1 with
  | ok a => rw [hr] at h1; exact .inl ⟨a, rfl, h1, h2, h3⟩
  | error f => rw [hr] at h1; exact .inr ⟨f, rfl, h1, h2, h3⟩
theorem Out1.ok {a : α} (hr : r.1 = .ok a) (he : e = .returned (enc a)) (h2 : IsR w0 w' g fin vf r.2) (h3 : Go_ W w' g vf vf) : Out1 w0 W g fin vf enc r e w' := ⟨by rw [hr]; exact he, h2, h3⟩
theorem Out1.err {f : Int × Int} (hr : r.1 = .error f) (he : e = .panicked (faultV f.1 f.2)) (h2 : IsR w0 w' g fin vf r.2) (h3 : Go_ W w' g vf vf) : Out1 w0 W g fin vf enc r e w' := ⟨by rw [hr]; exact he, h2, h3⟩
end
def isSign (c : ByteArray) (t : S44) : Bool := t.f0 == 3 && t.f1.toList == c.toList
def isNumber (t : S44) : Bool := t.f0 == 2
def isArm (t : S44) : Bool := t.f0 == 2 && (t.f1.toList == [48] || t.f1.toList == [49])
set_option maxHeartbeats 1000000 in
set_option maxRecDepth 100000 in
theorem sign1_calls (c : ByteArray) (b : Nat) (W : World) (t : S44) (hc : W.heap[b]? = some (.cells #[.string c] 9 (0, 0))) :
    Calls Tryd.prog 72 #[.agg #[.int .i64 t.f0, .string t.f1, .int .i64 t.f2], .pointer (some ⟨b, 0, none⟩)] W fun e w' => e = .returned (.bool (isSign c t)) ∧ Below W.heap.size W w' := by
  have hu44 := Tryd.underlying44
  have c0 := blk_cell hc 0
  have hlt := (Array.getElem?_eq_some_iff.1 hc).1
  simp only [List.getElem?_toArray, List.getElem?_cons_zero, List.getElem?_cons_succ] at c0
  clear hc
  go_enter Tryd.func72, Tryd.ntmps72
  go_wp2_with fail
  all_goals (go_ret; exact ⟨by simp [isSign, *], below_alloc (Below.refl _ _) _⟩)
set_option maxHeartbeats 1000000 in
set_option maxRecDepth 100000 in
theorem number1_calls (W : World) (t : S44) :
    Calls Tryd.prog 71 #[.agg #[.int .i64 t.f0, .string t.f1, .int .i64 t.f2]] W fun e w' => e = .returned (.bool (isNumber t)) ∧ Below W.heap.size W w' := by
  have hu44 := Tryd.underlying44
  go_enter Tryd.func71, Tryd.ntmps71
  go_wp2_with fail
  all_goals (go_ret; exact ⟨by simp [isNumber, *], below_alloc (Below.refl _ _) _⟩)
set_option maxHeartbeats 1000000 in
set_option maxRecDepth 100000 in
theorem arm1_calls (W : World) (t : S44) :
    Calls Tryd.prog 69 #[.agg #[.int .i64 t.f0, .string t.f1, .int .i64 t.f2]] W fun e w' => e = .returned (.bool (isArm t)) ∧ Below W.heap.size W w' := by
  have hu44 := Tryd.underlying44
  go_enter Tryd.func69, Tryd.ntmps69
  go_wp2_with fail
  all_goals (go_ret; exact ⟨by simp [isArm, *], below_alloc (Below.refl _ _) _⟩)
theorem hcf_of (F : FuncId) (h : ∀ (args : Array Value) (w : World), Sem.run Tryd.prog (callFunc F args) w = .ok (.enter F args) w) : ∀ (args : Array Value) (w : World), Sem.run Tryd.prog (callFunc F args) w = .ok (.enter F args) w := h
/-- the same fault, no value -/
def voidV (_ : S44) : Value := .tuple #[]
def signS (c : ByteArray) (fin : Int) (s : Rs) : Step S44 := takeS (isSign c) fin s
set_option maxHeartbeats 1000000 in
set_option maxRecDepth 100000 in
theorem sign_calls (c : ByteArray) (w0 W : World) (g : Nat) (fin : Int) (vf : Value) (s : Rs) (hI : IsR w0 W g fin vf s) :
    Calls Tryd.prog 65 #[.pointer (some ⟨g, 0, none⟩), .string c] W fun e w' => Out1 w0 W g fin vf voidV (signS c fin s) e w' := by
  have hmf : ∀ (fn : Fn) (first cap : Array Value) (w : World), (Instr.makeFunc fn first cap).run Tryd.prog w = .ok (.func fn first cap) w := fun _ _ _ _ => rfl
  have HI := Aside0.mk hI
  clear hI
  go_enter Tryd.func65, Tryd.ntmps65
  go_wp2_with fail
  have hb := below_alloc (Below.refl W.heap.size W) (.cells #[.string c] 9)
  have hn := heap_alloc_new W (.cells #[.string c] 9)
  have hlt : W.heap.size < (W.alloc (.cells #[.string c] 9)).heap.size := by simp
  refine (take_calls 72 #[.pointer (some ⟨W.heap.size, 0, none⟩)] (fun _ _ => by rfl) (isSign c) w0 _ g fin vf s (HI.out.below hb) ⟨fun W1 t hW => sign1_calls c W.heap.size W1 t ((hW.block _ hlt).trans hn)⟩).mono ?_
  intro e w1 ho
  have hgl := HI.out.lt
  rcases ho.cases with ⟨a, hr, rfl, h2, h3⟩ | ⟨f, hr, rfl, h2, h3⟩
  · have hG := Aside0.mk ((Go_.of_below hb g vf).trans h3 hgl)
    have h2' := Aside0.mk h2
    clear HI hb hn hlt ho h2 h3
    go_wp2_with fail
    go_end0
    exact Out1.ok hr rfl h2'.out hG.out
  · exact ⟨rfl, Out1.err hr rfl h2 ((Go_.of_below hb g vf).trans h3 hgl)⟩
end Go.Proofs.YtonhcfecfifghaaDoor.PPx
namespace Go.Proofs.YtonhcfecfifghaaDoor.PPx
open Go.RowKit Go.Proofs.YtonhcfecfifghaaDoorW.PrintWords Go.Proofs.YtonhcfecfifghaaDoorW.PrintLast Go.Proofs.YtonhcfecfifghaaDoorW.PrintMore
set_option linter.unusedVariables false
set_option linter.unusedSimpArgs false
theorem takeS_ok {p : S44 → Bool} {fin : Int} {s : Rs} {t : S44} (h : (takeS p fin s).1 = .ok t) : p t = true ∧ s.toks = t :: (takeS p fin s).2.toks := by
  unfold takeS at h ⊢
  cases hs : s.toks with
  | nil => rw [hs] at h; simp at h
  | cons a ts =>
    rw [hs] at h
    simp only at h ⊢
    split at h
    · simp at h
    · rename_i hc
      simp only [Except.ok.injEq] at h
      subst h
      simp only [Bool.or_eq_true, beq_iff_eq, Bool.not_eq_true', not_or, Bool.not_eq_false] at hc
      rw [if_neg (by simp [hc.1, hc.2])]
      exact ⟨hc.2, rfl⟩
def Step.map {α β : Type} (f : α → β) (r : Step α) : Step β := (match r.1 with | .ok a => .ok (f a) | .error e => .error e, r.2)
theorem Step.map_ok {α β : Type} {f : α → β} {r : Step α} {a : α} (h : r.1 = .ok a) : (r.map f).1 = .ok (f a) := by simp [Step.map, h]
theorem Step.map_err {α β : Type} {f : α → β} {r : Step α} {e : Int × Int} (h : r.1 = .error e) : (r.map f).1 = .error e := by simp [Step.map, h]
theorem Step.map_st {α β : Type} {f : α → β} {r : Step α} : (r.map f).2 = r.2 := rfl
def armOf (t : S44) : Int := if t.f1.toList = [49] then 1 else 0
def armS (fin : Int) (s : Rs) : Step Int := (takeS isArm fin s).map armOf
theorem ofList1 {s : ByteArray} {c : UInt8} (h : s.toList = [c]) : s = ⟨#[c]⟩ := by
  rw [ByteArray.toList_eq] at h
  apply ByteArray.ext
  apply Array.ext'
  exact h
set_option maxHeartbeats 1000000 in
set_option maxRecDepth 100000 in
theorem arm_calls (w0 W : World) (g : Nat) (fin : Int) (vf : Value) (s : Rs) (hI : IsR w0 W g fin vf s) :
    Calls Tryd.prog 62 #[.pointer (some ⟨g, 0, none⟩)] W fun e w' => Out1 w0 W g fin vf (Value.int .i64) (armS fin s) e w' := by
  have hu44 := Tryd.underlying44
  have HI := Aside0.mk hI
  clear hI
  go_enter Tryd.func62, Tryd.ntmps62
  go_wp2_with fail
  refine (take_calls 69 #[] (fun _ _ => by rfl) isArm w0 W g fin vf s HI.out ⟨fun W1 t _ => arm1_calls W1 t⟩).mono ?_
  intro e w1 ho
  have hgl := HI.out.lt
  rcases ho.cases with ⟨t, hr, rfl, h2, h3⟩ | ⟨f, hr, rfl, h2, h3⟩
  · have hp := (takeS_ok hr).1
    simp only [isArm, Bool.and_eq_true, beq_iff_eq, Bool.or_eq_true] at hp
    obtain ⟨t0, t1, t2⟩ := t
    have h2' := Aside0.mk h2
    have h3' := Aside0.mk h3
    have hr' := Aside0.mk hr
    clear ho h2 h3 hr HI
    simp only at hp
    rcases hp.2 with h | h
    · obtain rfl := ofList1 h
      have ha : armOf ⟨t0, ⟨#[48]⟩, t2⟩ = 0 := by simp [armOf, ByteArray.toList_eq]
      clear hp h
      simp only [tokV]
      go_wp2_with fail
      go_ret
      exact Out1.ok (Step.map_ok hr'.out) (by rw [ha]; rfl) (h2'.out.below (below_alloc (Below.refl _ _) _)) (h3'.out.trans (Go_.of_below (below_alloc (Below.refl _ _) _) g vf) hgl)
    · obtain rfl := ofList1 h
      have ha : armOf ⟨t0, ⟨#[49]⟩, t2⟩ = 1 := by simp [armOf, ByteArray.toList_eq]
      clear hp h
      simp only [tokV]
      go_wp2_with fail
      go_ret
      exact Out1.ok (Step.map_ok hr'.out) (by rw [ha]; rfl) (h2'.out.below (below_alloc (Below.refl _ _) _)) (h3'.out.trans (Go_.of_below (below_alloc (Below.refl _ _) _) g vf) hgl)
  · exact ⟨rfl, Out1.err (Step.map_err hr) rfl h2 h3⟩
end Go.Proofs.YtonhcfecfifghaaDoor.PPx
namespace Go.Proofs
open Go.Shelf
def Tryd.lays169_ren : Go.Shelf.Ren := ⟨fun | 169 => 24 | n => n, fun | 70 => 61 | 9 => 9 | 0 => 0 | 72 => 63 | 37 => 37 | 127 => 84 | 3 => 3 | 5 => 5 | n => n, fun | n => n⟩
theorem Tryd.lays169 : Go.Proofs.Lays.n169 Tryd.prog Tryd.lays169_ren := {
  mixed := by kernel_rfl
  f169 := Tryd.func24.trans (congrArg some (by kernel_rfl))
  t0 := Tryd.underlying0
  a0 := Tryd.isAgg0
  z0 := Tryd.sizeOf0
  v0 := Tryd.zeroValue0
  t3 := Tryd.underlying3
  a3 := Tryd.isAgg3
  z3 := Tryd.sizeOf3
  v3 := Tryd.zeroValue3
  t9 := Tryd.underlying9
  a9 := Tryd.isAgg9
  z9 := Tryd.sizeOf9
  v9 := Tryd.zeroValue9
  t37 := Tryd.underlying37
  a37 := Tryd.isAgg37
  z37 := Tryd.sizeOf37
  v37 := Tryd.zeroValue37
  t70 := Tryd.underlying61
  a70 := Tryd.isAgg61
  z70 := Tryd.sizeOf61
  v70 := Tryd.zeroValue61
  t72 := Tryd.underlying63
  a72 := Tryd.isAgg63
  z72 := Tryd.sizeOf63
  v72 := Tryd.zeroValue63
  t127 := Tryd.underlying84
  a127 := Tryd.isAgg84
  z127 := Tryd.sizeOf84
  v127 := Tryd.zeroValue84 }
theorem Tryd.Builder_Extra_169 : Builder.Extra Tryd.prog Tryd.lays169_ren := {
  sizeBuilder := by kernel_rfl
  liesBuilder := by kernel_rfl
  t5 := Tryd.underlying5
  a5 := Tryd.isAgg5
  z5 := Tryd.sizeOf5
  v5 := Tryd.zeroValue5
  infoByte := by kernel_rfl
  cellsByte := by kernel_rfl
  sizeByte := by kernel_rfl
  neB5 := by decide }
open Go.RowKit in
/-- (*strings.Builder).String: "String returns the accumulated string.": OF A BUILDER THAT HOLDS AT LEAST ONE BYTE. ✋ THE MODEL FREEZES THOSE BYTES IN THE BUFFER (unsafe.String): a later write INTO them ends the model's run without an answer; a later append BEHIND them goes on. The statement's order of evaluation is drawn: one draw. (LAID: no walk: one application.) -/
theorem Tryd.Builder_String (B b : Nat) (l : List UInt8) (w : World) (h : Lib.IsBuilder 63 5 B b (Lib.byteCells l) w) (h0 : l ≠ []) :
    Calls Tryd.prog 24 #[.pointer (some ⟨b, 0, none⟩)] w fun e w' => e = .returned (.string ⟨l.toArray⟩) ∧ Below B w w' := Any.Builder_String Tryd.lays169 Tryd.Builder_Extra_169 B b l w h h0
open Go.RowKit in
/-- (*strings.Builder).String OF A BUILDER THAT HOLDS NO BYTE: the empty string. (Its buffer is nil, or a row of which it has taken nothing yet; where that row has NO capacity the model lays one new block for unsafe.SliceData's 'some address'.) One draw. (LAID: no walk: one application.) -/
theorem Tryd.Builder_String_empty (B b : Nat) (w : World) (h : Lib.IsBuilder 63 5 B b [] w) (hBw : B ≤ w.heap.size) :
    Calls Tryd.prog 24 #[.pointer (some ⟨b, 0, none⟩)] w fun e w' => e = .returned (.string ⟨#[]⟩) ∧ Below B w w' := Any.Builder_String_empty Tryd.lays169 Tryd.Builder_Extra_169 B b w h hBw
open Go.RowKit in
/-- (*strings.Builder).String: "String returns the accumulated string.": WHATEVER THE BUILDER HOLDS. (LAID: no walk: one application.) -/
theorem Tryd.Builder_String_any (B b : Nat) (l : List UInt8) (w : World) (h : Lib.IsBuilder 63 5 B b (Lib.byteCells l) w) (hBw : B ≤ w.heap.size) :
    Calls Tryd.prog 24 #[.pointer (some ⟨b, 0, none⟩)] w fun e w' => e = .returned (.string ⟨l.toArray⟩) ∧ Below B w w' := Any.Builder_String_any Tryd.lays169 Tryd.Builder_Extra_169 B b l w h hBw
open Go.RowKit in
/-- (*strings.Builder).String: "String returns the accumulated string.": OF A BUILDER THAT HOLDS AT LEAST ONE BYTE. ✋ THE MODEL FREEZES THOSE BYTES IN THE BUFFER (unsafe.String): a later write INTO them ends the model's run without an answer; a later append BEHIND them goes on. The statement's order of evaluation is drawn: one draw. THE FORM '_f': IT SAYS BESIDES THAT THE BUILDER IS A BUILDER STILL ('Lib.IsBuilderF', the same bytes): SO IT CAN BE WRITTEN ON: 'b.WriteString(b.String()[:k])'. (LAID: no walk: one application.) -/
theorem Tryd.Builder_String_f (B b : Nat) (l : List UInt8) (w : World) (h : Lib.IsBuilderF 63 5 B b (Lib.byteCells l) w) (h0 : l ≠ []) :
    Calls Tryd.prog 24 #[.pointer (some ⟨b, 0, none⟩)] w fun e w' => e = .returned (.string ⟨l.toArray⟩) ∧ (Lib.IsBuilderF 63 5 B b (Lib.byteCells l) w' ∧ Below B w w') := Any.Builder_String_f Tryd.lays169 Tryd.Builder_Extra_169 B b l w h h0
open Go.RowKit in
/-- (*strings.Builder).String OF A BUILDER THAT HOLDS NO BYTE: the empty string; THE FORM '_f': a builder still. (LAID: no walk: one application.) -/
theorem Tryd.Builder_String_empty_f (B b : Nat) (w : World) (h : Lib.IsBuilderF 63 5 B b [] w) (hBw : B ≤ w.heap.size) :
    Calls Tryd.prog 24 #[.pointer (some ⟨b, 0, none⟩)] w fun e w' => e = .returned (.string ⟨#[]⟩) ∧ (Lib.IsBuilderF 63 5 B b [] w' ∧ Below B w w') := Any.Builder_String_empty_f Tryd.lays169 Tryd.Builder_Extra_169 B b w h hBw
open Go.RowKit in
/-- (*strings.Builder).String: "String returns the accumulated string.": WHATEVER THE BUILDER HOLDS; THE FORM '_f': OF A BUILDER THAT MAY HAVE BEEN READ BEFORE; AND IT IS A BUILDER STILL, holding the same bytes: it can be written on. (LAID: no walk: one application.) -/
theorem Tryd.Builder_String_any_f (B b : Nat) (l : List UInt8) (w : World) (h : Lib.IsBuilderF 63 5 B b (Lib.byteCells l) w) (hBw : B ≤ w.heap.size) :
    Calls Tryd.prog 24 #[.pointer (some ⟨b, 0, none⟩)] w fun e w' => e = .returned (.string ⟨l.toArray⟩) ∧ (Lib.IsBuilderF 63 5 B b (Lib.byteCells l) w' ∧ Below B w w') := Any.Builder_String_any_f Tryd.lays169 Tryd.Builder_Extra_169 B b l w h hBw
open Go.RowKit in
/-- (*strings.Builder).String: "String returns the accumulated string.": OF A BUILDER THAT HOLDS AT LEAST ONE BYTE. ✋ THE MODEL FREEZES THOSE BYTES IN THE BUFFER (unsafe.String): a later write INTO them ends the model's run without an answer; a later append BEHIND them goes on. The statement's order of evaluation is drawn: one draw. THE FORM '_k': OVER 'Lib.IsBuilderF' (a builder that 'String()' may have read), AND WITH THE FRAME THAT REACHES ABOVE THE BUILDER: 'Lib.OthersKept': every block that is not b and is no row of uint8's stands as it stood: the iterator of a range among them. (LAID: no walk: one application.) -/
theorem Tryd.Builder_String_k (B b : Nat) (l : List UInt8) (w : World) (h : Lib.IsBuilderF 63 5 B b (Lib.byteCells l) w) (h0 : l ≠ []) :
    Calls Tryd.prog 24 #[.pointer (some ⟨b, 0, none⟩)] w fun e w' => e = .returned (.string ⟨l.toArray⟩) ∧ (Lib.IsBuilderF 63 5 B b (Lib.byteCells l) w' ∧ Below B w w' ∧ Lib.OthersKept 5 (some b) w w') := Any.Builder_String_k Tryd.lays169 Tryd.Builder_Extra_169 B b l w h h0
open Go.RowKit in
/-- (*strings.Builder).String OF A BUILDER THAT HOLDS NO BYTE: the empty string; THE FORM '_k': OVER 'Lib.IsBuilderF' (a builder that 'String()' may have read), AND WITH THE FRAME THAT REACHES ABOVE THE BUILDER: 'Lib.OthersKept': every block that is not b and is no row of uint8's stands as it stood: the iterator of a range among them. (LAID: no walk: one application.) -/
theorem Tryd.Builder_String_empty_k (B b : Nat) (w : World) (h : Lib.IsBuilderF 63 5 B b [] w) (hBw : B ≤ w.heap.size) :
    Calls Tryd.prog 24 #[.pointer (some ⟨b, 0, none⟩)] w fun e w' => e = .returned (.string ⟨#[]⟩) ∧ (Lib.IsBuilderF 63 5 B b [] w' ∧ Below B w w' ∧ Lib.OthersKept 5 (some b) w w') := Any.Builder_String_empty_k Tryd.lays169 Tryd.Builder_Extra_169 B b w h hBw
open Go.RowKit in
/-- (*strings.Builder).String: "String returns the accumulated string.": WHATEVER THE BUILDER HOLDS; THE FORM '_k': OVER 'Lib.IsBuilderF' (a builder that 'String()' may have read), AND WITH THE FRAME THAT REACHES ABOVE THE BUILDER: 'Lib.OthersKept': every block that is not b and is no row of uint8's stands as it stood: the iterator of a range among them. (LAID: no walk: one application.) -/
theorem Tryd.Builder_String_any_k (B b : Nat) (l : List UInt8) (w : World) (h : Lib.IsBuilderF 63 5 B b (Lib.byteCells l) w) (hBw : B ≤ w.heap.size) :
    Calls Tryd.prog 24 #[.pointer (some ⟨b, 0, none⟩)] w fun e w' => e = .returned (.string ⟨l.toArray⟩) ∧ (Lib.IsBuilderF 63 5 B b (Lib.byteCells l) w' ∧ Below B w w' ∧ Lib.OthersKept 5 (some b) w w') := Any.Builder_String_any_k Tryd.lays169 Tryd.Builder_Extra_169 B b l w h hBw
def Tryd.lays244_ren : Go.Shelf.Ren := ⟨fun | 244 => 74 | 247 => 80 | 287 => 90 | 321 => 95 | 322 => 96 | n => n, fun | 9 => 9 | 3 => 3 | 75 => 80 | 4 => 4 | 5 => 5 | 167 => 116 | 37 => 37 | 0 => 0 | 85 => 117 | 2 => 2 | 53 => 111 | 175 => 129 | 46 => 127 | 21 => 21 | 80 => 65 | n => n, fun | n => n⟩
theorem Tryd.lays244 : Go.Proofs.Lays.n244 Tryd.prog Tryd.lays244_ren := {
  mixed := by kernel_rfl
  f244 := Tryd.func74.trans (congrArg some (by kernel_rfl))
  f247 := Tryd.func80.trans (congrArg some (by kernel_rfl))
  f287 := Tryd.func90.trans (congrArg some (by kernel_rfl))
  f321 := Tryd.func95.trans (congrArg some (by kernel_rfl))
  f322 := Tryd.func96.trans (congrArg some (by kernel_rfl))
  t0 := Tryd.underlying0
  a0 := Tryd.isAgg0
  z0 := Tryd.sizeOf0
  v0 := Tryd.zeroValue0
  t2 := Tryd.underlying2
  a2 := Tryd.isAgg2
  z2 := Tryd.sizeOf2
  v2 := Tryd.zeroValue2
  t3 := Tryd.underlying3
  a3 := Tryd.isAgg3
  z3 := Tryd.sizeOf3
  v3 := Tryd.zeroValue3
  t4 := Tryd.underlying4
  a4 := Tryd.isAgg4
  z4 := Tryd.sizeOf4
  v4 := Tryd.zeroValue4
  t5 := Tryd.underlying5
  a5 := Tryd.isAgg5
  z5 := Tryd.sizeOf5
  v5 := Tryd.zeroValue5
  t9 := Tryd.underlying9
  a9 := Tryd.isAgg9
  z9 := Tryd.sizeOf9
  v9 := Tryd.zeroValue9
  t21 := Tryd.underlying21
  a21 := Tryd.isAgg21
  z21 := Tryd.sizeOf21
  v21 := Tryd.zeroValue21
  t37 := Tryd.underlying37
  a37 := Tryd.isAgg37
  z37 := Tryd.sizeOf37
  v37 := Tryd.zeroValue37
  t46 := Tryd.underlying127
  a46 := Tryd.isAgg127
  z46 := Tryd.sizeOf127
  v46 := Tryd.zeroValue127
  t53 := Tryd.underlying111
  a53 := Tryd.isAgg111
  z53 := Tryd.sizeOf111
  v53 := Tryd.zeroValue111
  t75 := Tryd.underlying80
  a75 := Tryd.isAgg80
  z75 := Tryd.sizeOf80
  v75 := Tryd.zeroValue80
  t85 := Tryd.underlying117
  a85 := Tryd.isAgg117
  z85 := Tryd.sizeOf117
  v85 := Tryd.zeroValue117
  t167 := Tryd.underlying116
  a167 := Tryd.isAgg116
  z167 := Tryd.sizeOf116
  v167 := Tryd.zeroValue116
  t175 := Tryd.underlying129
  a175 := Tryd.isAgg129
  z175 := Tryd.sizeOf129
  v175 := Tryd.zeroValue129 }
open Go.RowKit in
/-- internal/strconv.Atoi, at a decimal numeral of at most 18 bytes: ITS VALUE, AND NO ERROR. The world behind the call: the one new row that '[]byte(s)' lays. (LAID: no walk: one application.) -/
theorem Tryd.internal_strconv_Atoi (s : ByteArray) (n : Int) (hl : s.size ≤ 18) (h : Lib.atoi s.data.toList = some n) (w : World) :
    Calls Tryd.prog 74 #[.string s] w fun e w' => e = .returned (.tuple #[.int .i64 n, .nilIface]) ∧ ∃ t, w' = Lib.bytesWorld w 5 t := Any.internal_strconv_Atoi Tryd.lays244 s n hl h w
def Tryd.lays172_ren : Go.Shelf.Ren := ⟨fun | 172 => 70 | 244 => 74 | 245 => 75 | 247 => 80 | 279 => 81 | 280 => 82 | 281 => 83 | 282 => 84 | 287 => 90 | 316 => 91 | 171 => 52 | 205 => 92 | 321 => 95 | 322 => 96 | 243 => 67 | 246 => 73 | 283 => 76 | 284 => 77 | 285 => 78 | 286 => 79 | 129 => 86 | 317 => 85 | 318 => 87 | 319 => 88 | 320 => 89 | 337 => 93 | 338 => 94 | n => n, fun | 9 => 9 | 3 => 3 | 75 => 80 | 76 => 81 | 4 => 4 | 5 => 5 | 167 => 116 | 37 => 37 | 0 => 0 | 85 => 117 | 2 => 2 | 168 => 119 | 53 => 111 | 175 => 129 | 46 => 127 | 210 => 133 | 127 => 84 | 145 => 139 | 143 => 137 | 21 => 21 | 171 => 110 | 173 => 114 | 212 => 124 | 51 => 125 | 20 => 20 | 213 => 126 | 232 => 140 | 233 => 141 | 80 => 65 | n => n, fun | 15 => 2 | 16 => 3 | 17 => 1 | 18 => 4 | 19 => 5 | n => n⟩
theorem Tryd.lays172 : Go.Proofs.Lays.n172 Tryd.prog Tryd.lays172_ren := {
  mixed := by kernel_rfl
  f129 := Tryd.func86.trans (congrArg some (by kernel_rfl))
  f171 := Tryd.func52.trans (congrArg some (by kernel_rfl))
  f172 := Tryd.func70.trans (congrArg some (by kernel_rfl))
  f205 := Tryd.func92.trans (congrArg some (by kernel_rfl))
  f243 := Tryd.func67.trans (congrArg some (by kernel_rfl))
  f244 := Tryd.func74.trans (congrArg some (by kernel_rfl))
  f245 := Tryd.func75.trans (congrArg some (by kernel_rfl))
  f246 := Tryd.func73.trans (congrArg some (by kernel_rfl))
  f247 := Tryd.func80.trans (congrArg some (by kernel_rfl))
  f279 := Tryd.func81.trans (congrArg some (by kernel_rfl))
  f280 := Tryd.func82.trans (congrArg some (by kernel_rfl))
  f281 := Tryd.func83.trans (congrArg some (by kernel_rfl))
  f282 := Tryd.func84.trans (congrArg some (by kernel_rfl))
  f283 := Tryd.func76.trans (congrArg some (by kernel_rfl))
  f284 := Tryd.func77.trans (congrArg some (by kernel_rfl))
  f285 := Tryd.func78.trans (congrArg some (by kernel_rfl))
  f286 := Tryd.func79.trans (congrArg some (by kernel_rfl))
  f287 := Tryd.func90.trans (congrArg some (by kernel_rfl))
  f316 := Tryd.func91.trans (congrArg some (by kernel_rfl))
  f317 := Tryd.func85.trans (congrArg some (by kernel_rfl))
  f318 := Tryd.func87.trans (congrArg some (by kernel_rfl))
  f319 := Tryd.func88.trans (congrArg some (by kernel_rfl))
  f320 := Tryd.func89.trans (congrArg some (by kernel_rfl))
  f321 := Tryd.func95.trans (congrArg some (by kernel_rfl))
  f322 := Tryd.func96.trans (congrArg some (by kernel_rfl))
  f337 := Tryd.func93.trans (congrArg some (by kernel_rfl))
  f338 := Tryd.func94.trans (congrArg some (by kernel_rfl))
  t0 := Tryd.underlying0
  a0 := Tryd.isAgg0
  z0 := Tryd.sizeOf0
  v0 := Tryd.zeroValue0
  t2 := Tryd.underlying2
  a2 := Tryd.isAgg2
  z2 := Tryd.sizeOf2
  v2 := Tryd.zeroValue2
  t3 := Tryd.underlying3
  a3 := Tryd.isAgg3
  z3 := Tryd.sizeOf3
  v3 := Tryd.zeroValue3
  t4 := Tryd.underlying4
  a4 := Tryd.isAgg4
  z4 := Tryd.sizeOf4
  v4 := Tryd.zeroValue4
  t5 := Tryd.underlying5
  a5 := Tryd.isAgg5
  z5 := Tryd.sizeOf5
  v5 := Tryd.zeroValue5
  t9 := Tryd.underlying9
  a9 := Tryd.isAgg9
  z9 := Tryd.sizeOf9
  v9 := Tryd.zeroValue9
  t20 := Tryd.underlying20
  a20 := Tryd.isAgg20
  z20 := Tryd.sizeOf20
  v20 := Tryd.zeroValue20
  t21 := Tryd.underlying21
  a21 := Tryd.isAgg21
  z21 := Tryd.sizeOf21
  v21 := Tryd.zeroValue21
  t37 := Tryd.underlying37
  a37 := Tryd.isAgg37
  z37 := Tryd.sizeOf37
  v37 := Tryd.zeroValue37
  t46 := Tryd.underlying127
  a46 := Tryd.isAgg127
  z46 := Tryd.sizeOf127
  v46 := Tryd.zeroValue127
  t51 := Tryd.underlying125
  a51 := Tryd.isAgg125
  z51 := Tryd.sizeOf125
  v51 := Tryd.zeroValue125
  t53 := Tryd.underlying111
  a53 := Tryd.isAgg111
  z53 := Tryd.sizeOf111
  v53 := Tryd.zeroValue111
  t75 := Tryd.underlying80
  a75 := Tryd.isAgg80
  z75 := Tryd.sizeOf80
  v75 := Tryd.zeroValue80
  t76 := Tryd.underlying81
  a76 := Tryd.isAgg81
  z76 := Tryd.sizeOf81
  v76 := Tryd.zeroValue81
  t85 := Tryd.underlying117
  a85 := Tryd.isAgg117
  z85 := Tryd.sizeOf117
  v85 := Tryd.zeroValue117
  t127 := Tryd.underlying84
  a127 := Tryd.isAgg84
  z127 := Tryd.sizeOf84
  v127 := Tryd.zeroValue84
  t143 := Tryd.underlying137
  a143 := Tryd.isAgg137
  z143 := Tryd.sizeOf137
  v143 := Tryd.zeroValue137
  t145 := Tryd.underlying139
  a145 := Tryd.isAgg139
  z145 := Tryd.sizeOf139
  v145 := Tryd.zeroValue139
  t167 := Tryd.underlying116
  a167 := Tryd.isAgg116
  z167 := Tryd.sizeOf116
  v167 := Tryd.zeroValue116
  t168 := Tryd.underlying119
  a168 := Tryd.isAgg119
  z168 := Tryd.sizeOf119
  v168 := Tryd.zeroValue119
  t171 := Tryd.underlying110
  a171 := Tryd.isAgg110
  z171 := Tryd.sizeOf110
  v171 := Tryd.zeroValue110
  t173 := Tryd.underlying114
  a173 := Tryd.isAgg114
  z173 := Tryd.sizeOf114
  v173 := Tryd.zeroValue114
  t175 := Tryd.underlying129
  a175 := Tryd.isAgg129
  z175 := Tryd.sizeOf129
  v175 := Tryd.zeroValue129
  t210 := Tryd.underlying133
  a210 := Tryd.isAgg133
  z210 := Tryd.sizeOf133
  v210 := Tryd.zeroValue133
  t212 := Tryd.underlying124
  a212 := Tryd.isAgg124
  z212 := Tryd.sizeOf124
  v212 := Tryd.zeroValue124
  t213 := Tryd.underlying126
  a213 := Tryd.isAgg126
  z213 := Tryd.sizeOf126
  t232 := Tryd.underlying140
  a232 := Tryd.isAgg140
  z232 := Tryd.sizeOf140
  v232 := Tryd.zeroValue140
  t233 := Tryd.underlying141
  a233 := Tryd.isAgg141
  z233 := Tryd.sizeOf141
  v233 := Tryd.zeroValue141
  g15 := by kernel_rfl
  g16 := by kernel_rfl
  g17 := by kernel_rfl
  g18 := by kernel_rfl
  g19 := by kernel_rfl }
open Go.RowKit in
/-- strconv.Atoi: "Atoi is equivalent to ParseInt(s, 10, 0), converted to type int.": AT A DECIMAL NUMERAL OF AT MOST 18 BYTES: its value, and a nil error. The world behind the call: the one new row that the library's '[]byte(s)' lays. (LAID: no walk: one application.) -/
theorem Tryd.strconv_Atoi (s : ByteArray) (n : Int) (hl : s.size ≤ 18) (h : Lib.atoi s.data.toList = some n) (w : World) :
    Calls Tryd.prog 70 #[.string s] w fun e w' => e = .returned (.tuple #[.int .i64 n, .nilIface]) ∧ ∃ t, w' = Lib.bytesWorld w 5 t := Any.strconv_Atoi Tryd.lays172 s n hl h w
def Tryd.lays129_ren : Go.Shelf.Ren := ⟨fun | 129 => 86 | n => n, fun | 53 => 111 | 3 => 3 | 4 => 4 | 46 => 127 | 5 => 5 | 9 => 9 | n => n, fun | n => n⟩
theorem Tryd.lays129 : Go.Proofs.Lays.n129 Tryd.prog Tryd.lays129_ren := {
  mixed := by kernel_rfl
  f129 := Tryd.func86.trans (congrArg some (by kernel_rfl))
  t3 := Tryd.underlying3
  a3 := Tryd.isAgg3
  z3 := Tryd.sizeOf3
  v3 := Tryd.zeroValue3
  t4 := Tryd.underlying4
  a4 := Tryd.isAgg4
  z4 := Tryd.sizeOf4
  v4 := Tryd.zeroValue4
  t5 := Tryd.underlying5
  a5 := Tryd.isAgg5
  z5 := Tryd.sizeOf5
  v5 := Tryd.zeroValue5
  t9 := Tryd.underlying9
  a9 := Tryd.isAgg9
  z9 := Tryd.sizeOf9
  v9 := Tryd.zeroValue9
  t46 := Tryd.underlying127
  a46 := Tryd.isAgg127
  z46 := Tryd.sizeOf127
  v46 := Tryd.zeroValue127
  t53 := Tryd.underlying111
  a53 := Tryd.isAgg111
  z53 := Tryd.sizeOf111
  v53 := Tryd.zeroValue111 }
/-- bits.Len64: "Len64 returns the minimum number of bits required to represent x; the result is 0 for x == 0.": IT RETURNS 'Lib.bitLen x'; the world is as it was. ('h0', 'h1': x is a uint64.) (LAID: no walk: one application.) -/
theorem Tryd.bits_Len64 (x : Int) (w : World) (h0 : 0 ≤ x) (h1 : x ≤ 18446744073709551615) :
    Calls Tryd.prog 86 #[.int .u64 x] w fun e w' => e = .returned (.int .i64 (Lib.bitLen x.toNat)) ∧ w' = w := Any.bits_Len64 Tryd.lays129 x w h0 h1
def Tryd.lays317_ren : Go.Shelf.Ren := ⟨fun | 317 => 85 | n => n, fun | 3 => 3 | 46 => 127 | n => n, fun | n => n⟩
theorem Tryd.lays317 : Go.Proofs.Lays.n317 Tryd.prog Tryd.lays317_ren := {
  mixed := by kernel_rfl
  f317 := Tryd.func85.trans (congrArg some (by kernel_rfl))
  t3 := Tryd.underlying3
  a3 := Tryd.isAgg3
  z3 := Tryd.sizeOf3
  v3 := Tryd.zeroValue3
  t46 := Tryd.underlying127
  a46 := Tryd.isAgg127
  z46 := Tryd.sizeOf127
  v46 := Tryd.zeroValue127 }
open Go.Lib in
/-- internal/strconv.log10Pow2: "log10Pow2(x) returns ⌊log₁₀ 2**x⌋ = ⌊x * log₁₀ 2⌋.": '(x * 78913) >> 18', at an x up to 64 (a length in bits). The world is as it was. (LAID: no walk: one application.) -/
theorem Tryd.internal_strconv_log10Pow2 (x : Nat) (h : x ≤ 64) (w : World) :
    Calls Tryd.prog 85 #[.int .i64 x] w fun e w' => e = .returned (.int .i64 (Lib.l10 x)) ∧ w' = w := Any.internal_strconv_log10Pow2 Tryd.lays317 x h w
def Tryd.lays318_ren : Go.Shelf.Ren := ⟨fun | 318 => 87 | n => n, fun | 3 => 3 | 4 => 4 | n => n, fun | n => n⟩
theorem Tryd.lays318 : Go.Proofs.Lays.n318 Tryd.prog Tryd.lays318_ren := {
  mixed := by kernel_rfl
  f318 := Tryd.func87.trans (congrArg some (by kernel_rfl))
  t3 := Tryd.underlying3
  a3 := Tryd.isAgg3
  z3 := Tryd.sizeOf3
  v3 := Tryd.zeroValue3
  t4 := Tryd.underlying4
  a4 := Tryd.isAgg4
  z4 := Tryd.sizeOf4
  v4 := Tryd.zeroValue4 }
open Go.Lib in
/-- internal/strconv.bool2: "bool2 converts b to an integer: 1 for true, 0 for false." The world is as it was. (LAID: no walk: one application.) -/
theorem Tryd.internal_strconv_bool2_int (b : Bool) (w : World) :
    Calls Tryd.prog 87 #[.bool b] w fun e w' => e = .returned (.int .i64 (if b then 1 else 0)) ∧ w' = w := Any.internal_strconv_bool2_int Tryd.lays318 b w
def Tryd.lays283_ren : Go.Shelf.Ren := ⟨fun | 283 => 76 | n => n, fun | 3 => 3 | 9 => 9 | 4 => 4 | n => n, fun | n => n⟩
theorem Tryd.lays283 : Go.Proofs.Lays.n283 Tryd.prog Tryd.lays283_ren := {
  mixed := by kernel_rfl
  f283 := Tryd.func76.trans (congrArg some (by kernel_rfl))
  t3 := Tryd.underlying3
  a3 := Tryd.isAgg3
  z3 := Tryd.sizeOf3
  v3 := Tryd.zeroValue3
  t4 := Tryd.underlying4
  a4 := Tryd.isAgg4
  z4 := Tryd.sizeOf4
  v4 := Tryd.zeroValue4
  t9 := Tryd.underlying9
  a9 := Tryd.isAgg9
  z9 := Tryd.sizeOf9
  v9 := Tryd.zeroValue9 }
open Go.Lib in
/-- internal/strconv.small: "small returns the string for an i with 0 <= i < nSmalls.": i's decimal numeral. The world is as it was. (LAID: no walk: one application.) -/
theorem Tryd.internal_strconv_small (i : Nat) (h : i < 100) (w : World) :
    Calls Tryd.prog 76 #[.int .i64 i] w fun e w' => e = .returned (.string ⟨(Lib.decDigits i).toArray⟩) ∧ w' = w := Any.internal_strconv_small Tryd.lays283 i h w
def Tryd.laysM284_ren : Go.Shelf.Ren := ⟨fun | 284 => 77 | 129 => 86 | 317 => 85 | 318 => 87 | n => n, fun | 53 => 111 | 3 => 3 | 212 => 124 | 0 => 0 | 4 => 4 | 46 => 127 | 5 => 5 | 9 => 9 | n => n, fun | 17 => 1 | n => n⟩
theorem Tryd.laysM284 : Go.Proofs.LaysM.n284 Tryd.prog Tryd.laysM284_ren := {
  mixed := by kernel_rfl
  f129 := Tryd.func86.trans (congrArg some (by kernel_rfl))
  f284 := Tryd.func77.trans (congrArg some (by kernel_rfl))
  f317 := Tryd.func85.trans (congrArg some (by kernel_rfl))
  f318 := Tryd.func87.trans (congrArg some (by kernel_rfl))
  t0 := Tryd.underlying0
  a0 := Tryd.isAgg0
  z0 := Tryd.sizeOf0
  v0 := Tryd.zeroValue0
  t3 := Tryd.underlying3
  a3 := Tryd.isAgg3
  z3 := Tryd.sizeOf3
  v3 := Tryd.zeroValue3
  t4 := Tryd.underlying4
  a4 := Tryd.isAgg4
  z4 := Tryd.sizeOf4
  v4 := Tryd.zeroValue4
  t5 := Tryd.underlying5
  a5 := Tryd.isAgg5
  z5 := Tryd.sizeOf5
  v5 := Tryd.zeroValue5
  t9 := Tryd.underlying9
  a9 := Tryd.isAgg9
  z9 := Tryd.sizeOf9
  v9 := Tryd.zeroValue9
  t46 := Tryd.underlying127
  a46 := Tryd.isAgg127
  z46 := Tryd.sizeOf127
  v46 := Tryd.zeroValue127
  t53 := Tryd.underlying111
  a53 := Tryd.isAgg111
  z53 := Tryd.sizeOf111
  v53 := Tryd.zeroValue111
  t212 := Tryd.underlying124
  a212 := Tryd.isAgg124
  z212 := Tryd.sizeOf124
  v212 := Tryd.zeroValue124
  g17 := by kernel_rfl
  i0 := by kernel_rfl
  i3 := by kernel_rfl
  i4 := by kernel_rfl
  i5 := by kernel_rfl
  i9 := by kernel_rfl
  i46 := by kernel_rfl
  i53 := by kernel_rfl
  i212 := by kernel_rfl
  m17 := by kernel_rfl }
open Go.Lib in
/-- internal/strconv.numDigits, at a d that is not 0: THE NUMBER OF d's DECIMAL DIGITS. The world is as it was. (LAID: no walk: one application.) -/
theorem Tryd.internal_strconv_numDigits (u : Nat) (h1 : 1 ≤ u) (h2 : u < 18446744073709551616) (w : World) (htab : Lib.TabIs Tryd.prog w "internal/strconv.uint64pow10" .u64 Lib.pow10Tab) :
    Calls Tryd.prog 77 #[.int .u64 u] w fun e w' => e = .returned (.int .i64 (Lib.nDigits u)) ∧ w' = w := Any.internal_strconv_numDigits Tryd.laysM284 u h1 h2 w htab
def Tryd.lays285_ren : Go.Shelf.Ren := ⟨fun | 285 => 78 | n => n, fun | 37 => 37 | 53 => 111 | 3 => 3 | 4 => 4 | 51 => 125 | 9 => 9 | 5 => 5 | 0 => 0 | n => n, fun | n => n⟩
theorem Tryd.lays285 : Go.Proofs.Lays.n285 Tryd.prog Tryd.lays285_ren := {
  mixed := by kernel_rfl
  f285 := Tryd.func78.trans (congrArg some (by kernel_rfl))
  t0 := Tryd.underlying0
  a0 := Tryd.isAgg0
  z0 := Tryd.sizeOf0
  v0 := Tryd.zeroValue0
  t3 := Tryd.underlying3
  a3 := Tryd.isAgg3
  z3 := Tryd.sizeOf3
  v3 := Tryd.zeroValue3
  t4 := Tryd.underlying4
  a4 := Tryd.isAgg4
  z4 := Tryd.sizeOf4
  v4 := Tryd.zeroValue4
  t5 := Tryd.underlying5
  a5 := Tryd.isAgg5
  z5 := Tryd.sizeOf5
  v5 := Tryd.zeroValue5
  t9 := Tryd.underlying9
  a9 := Tryd.isAgg9
  z9 := Tryd.sizeOf9
  v9 := Tryd.zeroValue9
  t37 := Tryd.underlying37
  a37 := Tryd.isAgg37
  z37 := Tryd.sizeOf37
  v37 := Tryd.zeroValue37
  t51 := Tryd.underlying125
  a51 := Tryd.isAgg125
  z51 := Tryd.sizeOf125
  v51 := Tryd.zeroValue125
  t53 := Tryd.underlying111
  a53 := Tryd.isAgg111
  z53 := Tryd.sizeOf111
  v53 := Tryd.zeroValue111 }
open Go.RowKit Go.Sort Go.Lib in
/-- internal/strconv.formatBase10: "formatBase10 formats the decimal representation of u into a. The caller is responsible for ensuring that a is big enough to hold u. If a is too big, leading zeros will be filled in as needed.": THE ROW HOLDS u's DIGITS ('FmtInv .. 0 ..': every place t holds 'dg u (len - 1 - t)'); all else is as it was but for the count of draws. (LAID: no walk: one application.) -/
theorem Tryd.internal_strconv_formatBase10 (blk off cap : Nat) (u : Nat) (d : Array UInt8) (w : World) (hH : Holds (fun (b : UInt8) => Value.int .u8 (b.toNat : Int)) w blk off d) (hu : u < 10 ^ d.size) (hu64 : u < 18446744073709551616) (hsz : d.size < 4611686018427387904) :
    Calls Tryd.prog 78 #[.slice (some ⟨blk, off, none⟩) d.size cap, .int .u64 u] w fun e w' =>
      e = .returned (.tuple #[]) ∧ ∃ (n v' : Nat) (dk : Array UInt8), w' = (putRow (fun (b : UInt8) => Value.int .u8 (b.toNat : Int)) w blk off dk).drewN n ∧ FmtInv d.size u 0 v' dk := Any.internal_strconv_formatBase10 Tryd.lays285 blk off cap u d w hH hu hu64 hsz
def Tryd.laysM246_ren : Go.Shelf.Ren := ⟨fun | 246 => 73 | 283 => 76 | 284 => 77 | 285 => 78 | 286 => 79 | 129 => 86 | 317 => 85 | 318 => 87 | 319 => 88 | 320 => 89 | 337 => 93 | 338 => 94 | n => n, fun | 2 => 2 | 3 => 3 | 9 => 9 | 4 => 4 | 171 => 110 | 0 => 0 | 53 => 111 | 37 => 37 | 5 => 5 | 173 => 114 | 212 => 124 | 51 => 125 | 20 => 20 | 213 => 126 | 46 => 127 | 232 => 140 | 233 => 141 | n => n, fun | 17 => 1 | 18 => 4 | 19 => 5 | n => n⟩
theorem Tryd.laysM246 : Go.Proofs.LaysM.n246 Tryd.prog Tryd.laysM246_ren := {
  mixed := by kernel_rfl
  f129 := Tryd.func86.trans (congrArg some (by kernel_rfl))
  f246 := Tryd.func73.trans (congrArg some (by kernel_rfl))
  f283 := Tryd.func76.trans (congrArg some (by kernel_rfl))
  f284 := Tryd.func77.trans (congrArg some (by kernel_rfl))
  f285 := Tryd.func78.trans (congrArg some (by kernel_rfl))
  f286 := Tryd.func79.trans (congrArg some (by kernel_rfl))
  f317 := Tryd.func85.trans (congrArg some (by kernel_rfl))
  f318 := Tryd.func87.trans (congrArg some (by kernel_rfl))
  f319 := Tryd.func88.trans (congrArg some (by kernel_rfl))
  f320 := Tryd.func89.trans (congrArg some (by kernel_rfl))
  f337 := Tryd.func93.trans (congrArg some (by kernel_rfl))
  f338 := Tryd.func94.trans (congrArg some (by kernel_rfl))
  t0 := Tryd.underlying0
  a0 := Tryd.isAgg0
  z0 := Tryd.sizeOf0
  v0 := Tryd.zeroValue0
  t2 := Tryd.underlying2
  a2 := Tryd.isAgg2
  z2 := Tryd.sizeOf2
  v2 := Tryd.zeroValue2
  t3 := Tryd.underlying3
  a3 := Tryd.isAgg3
  z3 := Tryd.sizeOf3
  v3 := Tryd.zeroValue3
  t4 := Tryd.underlying4
  a4 := Tryd.isAgg4
  z4 := Tryd.sizeOf4
  v4 := Tryd.zeroValue4
  t5 := Tryd.underlying5
  a5 := Tryd.isAgg5
  z5 := Tryd.sizeOf5
  v5 := Tryd.zeroValue5
  t9 := Tryd.underlying9
  a9 := Tryd.isAgg9
  z9 := Tryd.sizeOf9
  v9 := Tryd.zeroValue9
  t20 := Tryd.underlying20
  a20 := Tryd.isAgg20
  z20 := Tryd.sizeOf20
  v20 := Tryd.zeroValue20
  t37 := Tryd.underlying37
  a37 := Tryd.isAgg37
  z37 := Tryd.sizeOf37
  v37 := Tryd.zeroValue37
  t46 := Tryd.underlying127
  a46 := Tryd.isAgg127
  z46 := Tryd.sizeOf127
  v46 := Tryd.zeroValue127
  t51 := Tryd.underlying125
  a51 := Tryd.isAgg125
  z51 := Tryd.sizeOf125
  v51 := Tryd.zeroValue125
  t53 := Tryd.underlying111
  a53 := Tryd.isAgg111
  z53 := Tryd.sizeOf111
  v53 := Tryd.zeroValue111
  t171 := Tryd.underlying110
  a171 := Tryd.isAgg110
  z171 := Tryd.sizeOf110
  v171 := Tryd.zeroValue110
  t173 := Tryd.underlying114
  a173 := Tryd.isAgg114
  z173 := Tryd.sizeOf114
  v173 := Tryd.zeroValue114
  t212 := Tryd.underlying124
  a212 := Tryd.isAgg124
  z212 := Tryd.sizeOf124
  v212 := Tryd.zeroValue124
  t213 := Tryd.underlying126
  a213 := Tryd.isAgg126
  z213 := Tryd.sizeOf126
  t232 := Tryd.underlying140
  a232 := Tryd.isAgg140
  z232 := Tryd.sizeOf140
  v232 := Tryd.zeroValue140
  t233 := Tryd.underlying141
  a233 := Tryd.isAgg141
  z233 := Tryd.sizeOf141
  v233 := Tryd.zeroValue141
  g17 := by kernel_rfl
  g18 := by kernel_rfl
  g19 := by kernel_rfl
  i0 := by kernel_rfl
  i2 := by kernel_rfl
  i3 := by kernel_rfl
  i4 := by kernel_rfl
  i5 := by kernel_rfl
  i9 := by kernel_rfl
  i20 := by kernel_rfl
  i37 := by kernel_rfl
  i46 := by kernel_rfl
  i51 := by kernel_rfl
  i53 := by kernel_rfl
  i171 := by kernel_rfl
  i173 := by kernel_rfl
  i212 := by kernel_rfl
  i232 := by kernel_rfl
  i233 := by kernel_rfl
  m17 := by kernel_rfl
  m18 := by kernel_rfl
  m19 := by kernel_rfl }
open Go.RowKit Go.Sort Go.Lib in
/-- internal/strconv.FormatInt: "FormatInt returns the string representation of i in the given base": AT BASE 10: i's decimal numeral, for every int64. The world behind the call: the world before it, new blocks behind the heap, draws. (LAID: no walk: one application.) -/
theorem Tryd.internal_strconv_FormatInt_10 (n : Int) (h0 : -9223372036854775808 ≤ n) (h1 : n ≤ 9223372036854775807) (w : World) (htab : Lib.TabIs Tryd.prog w "internal/strconv.uint64pow10" .u64 Lib.pow10Tab) :
    Calls Tryd.prog 73 #[.int .i64 n, .int .i64 10] w fun e w' => e = .returned (.string ⟨(Lib.itoa n).toArray⟩) ∧ ∃ k os, w' = grow (w.drewN k) os := Any.internal_strconv_FormatInt_10 Tryd.laysM246 n h0 h1 w htab
def Tryd.lays246_ren : Go.Shelf.Ren := ⟨fun | 246 => 73 | 283 => 76 | 284 => 77 | 285 => 78 | 286 => 79 | 129 => 86 | 317 => 85 | 318 => 87 | 319 => 88 | 320 => 89 | 337 => 93 | 338 => 94 | n => n, fun | 2 => 2 | 3 => 3 | 9 => 9 | 4 => 4 | 171 => 110 | 0 => 0 | 53 => 111 | 37 => 37 | 5 => 5 | 173 => 114 | 212 => 124 | 51 => 125 | 20 => 20 | 213 => 126 | 46 => 127 | 232 => 140 | 233 => 141 | n => n, fun | 17 => 1 | 18 => 4 | 19 => 5 | n => n⟩
theorem Tryd.lays246 : Go.Proofs.Lays.n246 Tryd.prog Tryd.lays246_ren := {
  mixed := by kernel_rfl
  f129 := Tryd.func86.trans (congrArg some (by kernel_rfl))
  f246 := Tryd.func73.trans (congrArg some (by kernel_rfl))
  f283 := Tryd.func76.trans (congrArg some (by kernel_rfl))
  f284 := Tryd.func77.trans (congrArg some (by kernel_rfl))
  f285 := Tryd.func78.trans (congrArg some (by kernel_rfl))
  f286 := Tryd.func79.trans (congrArg some (by kernel_rfl))
  f317 := Tryd.func85.trans (congrArg some (by kernel_rfl))
  f318 := Tryd.func87.trans (congrArg some (by kernel_rfl))
  f319 := Tryd.func88.trans (congrArg some (by kernel_rfl))
  f320 := Tryd.func89.trans (congrArg some (by kernel_rfl))
  f337 := Tryd.func93.trans (congrArg some (by kernel_rfl))
  f338 := Tryd.func94.trans (congrArg some (by kernel_rfl))
  t0 := Tryd.underlying0
  a0 := Tryd.isAgg0
  z0 := Tryd.sizeOf0
  v0 := Tryd.zeroValue0
  t2 := Tryd.underlying2
  a2 := Tryd.isAgg2
  z2 := Tryd.sizeOf2
  v2 := Tryd.zeroValue2
  t3 := Tryd.underlying3
  a3 := Tryd.isAgg3
  z3 := Tryd.sizeOf3
  v3 := Tryd.zeroValue3
  t4 := Tryd.underlying4
  a4 := Tryd.isAgg4
  z4 := Tryd.sizeOf4
  v4 := Tryd.zeroValue4
  t5 := Tryd.underlying5
  a5 := Tryd.isAgg5
  z5 := Tryd.sizeOf5
  v5 := Tryd.zeroValue5
  t9 := Tryd.underlying9
  a9 := Tryd.isAgg9
  z9 := Tryd.sizeOf9
  v9 := Tryd.zeroValue9
  t20 := Tryd.underlying20
  a20 := Tryd.isAgg20
  z20 := Tryd.sizeOf20
  v20 := Tryd.zeroValue20
  t37 := Tryd.underlying37
  a37 := Tryd.isAgg37
  z37 := Tryd.sizeOf37
  v37 := Tryd.zeroValue37
  t46 := Tryd.underlying127
  a46 := Tryd.isAgg127
  z46 := Tryd.sizeOf127
  v46 := Tryd.zeroValue127
  t51 := Tryd.underlying125
  a51 := Tryd.isAgg125
  z51 := Tryd.sizeOf125
  v51 := Tryd.zeroValue125
  t53 := Tryd.underlying111
  a53 := Tryd.isAgg111
  z53 := Tryd.sizeOf111
  v53 := Tryd.zeroValue111
  t171 := Tryd.underlying110
  a171 := Tryd.isAgg110
  z171 := Tryd.sizeOf110
  v171 := Tryd.zeroValue110
  t173 := Tryd.underlying114
  a173 := Tryd.isAgg114
  z173 := Tryd.sizeOf114
  v173 := Tryd.zeroValue114
  t212 := Tryd.underlying124
  a212 := Tryd.isAgg124
  z212 := Tryd.sizeOf124
  v212 := Tryd.zeroValue124
  t213 := Tryd.underlying126
  a213 := Tryd.isAgg126
  z213 := Tryd.sizeOf126
  t232 := Tryd.underlying140
  a232 := Tryd.isAgg140
  z232 := Tryd.sizeOf140
  v232 := Tryd.zeroValue140
  t233 := Tryd.underlying141
  a233 := Tryd.isAgg141
  z233 := Tryd.sizeOf141
  v233 := Tryd.zeroValue141
  g17 := by kernel_rfl
  g18 := by kernel_rfl
  g19 := by kernel_rfl }
open Go.RowKit Go.Sort Go.Lib in
/-- THE ROAD WITHOUT THE TABLE: 0 <= i < 100: two constants are read, nothing is laid: no premise on the world, and the world is as it was. (LAID: no walk: one application.) -/
theorem Tryd.internal_strconv_FormatInt_10_small (i : Nat) (hi : i < 100) (w : World) :
    Calls Tryd.prog 73 #[.int .i64 i, .int .i64 10] w fun e w' => e = .returned (.string ⟨(Lib.decDigits i).toArray⟩) ∧ w' = w := Any.internal_strconv_FormatInt_10_small Tryd.lays246 i hi w
def Tryd.laysM243_ren : Go.Shelf.Ren := ⟨fun | 243 => 67 | 246 => 73 | 283 => 76 | 284 => 77 | 285 => 78 | 286 => 79 | 129 => 86 | 317 => 85 | 318 => 87 | 319 => 88 | 320 => 89 | 337 => 93 | 338 => 94 | n => n, fun | 3 => 3 | 9 => 9 | 2 => 2 | 4 => 4 | 171 => 110 | 0 => 0 | 53 => 111 | 37 => 37 | 5 => 5 | 173 => 114 | 212 => 124 | 51 => 125 | 20 => 20 | 213 => 126 | 46 => 127 | 232 => 140 | 233 => 141 | n => n, fun | 17 => 1 | 18 => 4 | 19 => 5 | n => n⟩
theorem Tryd.laysM243 : Go.Proofs.LaysM.n243 Tryd.prog Tryd.laysM243_ren := {
  mixed := by kernel_rfl
  f129 := Tryd.func86.trans (congrArg some (by kernel_rfl))
  f243 := Tryd.func67.trans (congrArg some (by kernel_rfl))
  f246 := Tryd.func73.trans (congrArg some (by kernel_rfl))
  f283 := Tryd.func76.trans (congrArg some (by kernel_rfl))
  f284 := Tryd.func77.trans (congrArg some (by kernel_rfl))
  f285 := Tryd.func78.trans (congrArg some (by kernel_rfl))
  f286 := Tryd.func79.trans (congrArg some (by kernel_rfl))
  f317 := Tryd.func85.trans (congrArg some (by kernel_rfl))
  f318 := Tryd.func87.trans (congrArg some (by kernel_rfl))
  f319 := Tryd.func88.trans (congrArg some (by kernel_rfl))
  f320 := Tryd.func89.trans (congrArg some (by kernel_rfl))
  f337 := Tryd.func93.trans (congrArg some (by kernel_rfl))
  f338 := Tryd.func94.trans (congrArg some (by kernel_rfl))
  t0 := Tryd.underlying0
  a0 := Tryd.isAgg0
  z0 := Tryd.sizeOf0
  v0 := Tryd.zeroValue0
  t2 := Tryd.underlying2
  a2 := Tryd.isAgg2
  z2 := Tryd.sizeOf2
  v2 := Tryd.zeroValue2
  t3 := Tryd.underlying3
  a3 := Tryd.isAgg3
  z3 := Tryd.sizeOf3
  v3 := Tryd.zeroValue3
  t4 := Tryd.underlying4
  a4 := Tryd.isAgg4
  z4 := Tryd.sizeOf4
  v4 := Tryd.zeroValue4
  t5 := Tryd.underlying5
  a5 := Tryd.isAgg5
  z5 := Tryd.sizeOf5
  v5 := Tryd.zeroValue5
  t9 := Tryd.underlying9
  a9 := Tryd.isAgg9
  z9 := Tryd.sizeOf9
  v9 := Tryd.zeroValue9
  t20 := Tryd.underlying20
  a20 := Tryd.isAgg20
  z20 := Tryd.sizeOf20
  v20 := Tryd.zeroValue20
  t37 := Tryd.underlying37
  a37 := Tryd.isAgg37
  z37 := Tryd.sizeOf37
  v37 := Tryd.zeroValue37
  t46 := Tryd.underlying127
  a46 := Tryd.isAgg127
  z46 := Tryd.sizeOf127
  v46 := Tryd.zeroValue127
  t51 := Tryd.underlying125
  a51 := Tryd.isAgg125
  z51 := Tryd.sizeOf125
  v51 := Tryd.zeroValue125
  t53 := Tryd.underlying111
  a53 := Tryd.isAgg111
  z53 := Tryd.sizeOf111
  v53 := Tryd.zeroValue111
  t171 := Tryd.underlying110
  a171 := Tryd.isAgg110
  z171 := Tryd.sizeOf110
  v171 := Tryd.zeroValue110
  t173 := Tryd.underlying114
  a173 := Tryd.isAgg114
  z173 := Tryd.sizeOf114
  v173 := Tryd.zeroValue114
  t212 := Tryd.underlying124
  a212 := Tryd.isAgg124
  z212 := Tryd.sizeOf124
  v212 := Tryd.zeroValue124
  t213 := Tryd.underlying126
  a213 := Tryd.isAgg126
  z213 := Tryd.sizeOf126
  t232 := Tryd.underlying140
  a232 := Tryd.isAgg140
  z232 := Tryd.sizeOf140
  v232 := Tryd.zeroValue140
  t233 := Tryd.underlying141
  a233 := Tryd.isAgg141
  z233 := Tryd.sizeOf141
  v233 := Tryd.zeroValue141
  g17 := by kernel_rfl
  g18 := by kernel_rfl
  g19 := by kernel_rfl
  i0 := by kernel_rfl
  i2 := by kernel_rfl
  i3 := by kernel_rfl
  i4 := by kernel_rfl
  i5 := by kernel_rfl
  i9 := by kernel_rfl
  i20 := by kernel_rfl
  i37 := by kernel_rfl
  i46 := by kernel_rfl
  i51 := by kernel_rfl
  i53 := by kernel_rfl
  i171 := by kernel_rfl
  i173 := by kernel_rfl
  i212 := by kernel_rfl
  i232 := by kernel_rfl
  i233 := by kernel_rfl
  m17 := by kernel_rfl
  m18 := by kernel_rfl
  m19 := by kernel_rfl }
open Go.RowKit Go.Sort Go.Lib in
/-- internal/strconv.Itoa: "Itoa is equivalent to FormatInt(int64(i), 10).": i's decimal numeral, for every int. (LAID: no walk: one application.) -/
theorem Tryd.internal_strconv_Itoa (n : Int) (h0 : -9223372036854775808 ≤ n) (h1 : n ≤ 9223372036854775807) (w : World) (htab : Lib.TabIs Tryd.prog w "internal/strconv.uint64pow10" .u64 Lib.pow10Tab) :
    Calls Tryd.prog 67 #[.int .i64 n] w fun e w' => e = .returned (.string ⟨(Lib.itoa n).toArray⟩) ∧ ∃ k os, w' = grow (w.drewN k) os := Any.internal_strconv_Itoa Tryd.laysM243 n h0 h1 w htab
def Tryd.lays243_ren : Go.Shelf.Ren := ⟨fun | 243 => 67 | 246 => 73 | 283 => 76 | 284 => 77 | 285 => 78 | 286 => 79 | 129 => 86 | 317 => 85 | 318 => 87 | 319 => 88 | 320 => 89 | 337 => 93 | 338 => 94 | n => n, fun | 3 => 3 | 9 => 9 | 2 => 2 | 4 => 4 | 171 => 110 | 0 => 0 | 53 => 111 | 37 => 37 | 5 => 5 | 173 => 114 | 212 => 124 | 51 => 125 | 20 => 20 | 213 => 126 | 46 => 127 | 232 => 140 | 233 => 141 | n => n, fun | 17 => 1 | 18 => 4 | 19 => 5 | n => n⟩
theorem Tryd.lays243 : Go.Proofs.Lays.n243 Tryd.prog Tryd.lays243_ren := {
  mixed := by kernel_rfl
  f129 := Tryd.func86.trans (congrArg some (by kernel_rfl))
  f243 := Tryd.func67.trans (congrArg some (by kernel_rfl))
  f246 := Tryd.func73.trans (congrArg some (by kernel_rfl))
  f283 := Tryd.func76.trans (congrArg some (by kernel_rfl))
  f284 := Tryd.func77.trans (congrArg some (by kernel_rfl))
  f285 := Tryd.func78.trans (congrArg some (by kernel_rfl))
  f286 := Tryd.func79.trans (congrArg some (by kernel_rfl))
  f317 := Tryd.func85.trans (congrArg some (by kernel_rfl))
  f318 := Tryd.func87.trans (congrArg some (by kernel_rfl))
  f319 := Tryd.func88.trans (congrArg some (by kernel_rfl))
  f320 := Tryd.func89.trans (congrArg some (by kernel_rfl))
  f337 := Tryd.func93.trans (congrArg some (by kernel_rfl))
  f338 := Tryd.func94.trans (congrArg some (by kernel_rfl))
  t0 := Tryd.underlying0
  a0 := Tryd.isAgg0
  z0 := Tryd.sizeOf0
  v0 := Tryd.zeroValue0
  t2 := Tryd.underlying2
  a2 := Tryd.isAgg2
  z2 := Tryd.sizeOf2
  v2 := Tryd.zeroValue2
  t3 := Tryd.underlying3
  a3 := Tryd.isAgg3
  z3 := Tryd.sizeOf3
  v3 := Tryd.zeroValue3
  t4 := Tryd.underlying4
  a4 := Tryd.isAgg4
  z4 := Tryd.sizeOf4
  v4 := Tryd.zeroValue4
  t5 := Tryd.underlying5
  a5 := Tryd.isAgg5
  z5 := Tryd.sizeOf5
  v5 := Tryd.zeroValue5
  t9 := Tryd.underlying9
  a9 := Tryd.isAgg9
  z9 := Tryd.sizeOf9
  v9 := Tryd.zeroValue9
  t20 := Tryd.underlying20
  a20 := Tryd.isAgg20
  z20 := Tryd.sizeOf20
  v20 := Tryd.zeroValue20
  t37 := Tryd.underlying37
  a37 := Tryd.isAgg37
  z37 := Tryd.sizeOf37
  v37 := Tryd.zeroValue37
  t46 := Tryd.underlying127
  a46 := Tryd.isAgg127
  z46 := Tryd.sizeOf127
  v46 := Tryd.zeroValue127
  t51 := Tryd.underlying125
  a51 := Tryd.isAgg125
  z51 := Tryd.sizeOf125
  v51 := Tryd.zeroValue125
  t53 := Tryd.underlying111
  a53 := Tryd.isAgg111
  z53 := Tryd.sizeOf111
  v53 := Tryd.zeroValue111
  t171 := Tryd.underlying110
  a171 := Tryd.isAgg110
  z171 := Tryd.sizeOf110
  v171 := Tryd.zeroValue110
  t173 := Tryd.underlying114
  a173 := Tryd.isAgg114
  z173 := Tryd.sizeOf114
  v173 := Tryd.zeroValue114
  t212 := Tryd.underlying124
  a212 := Tryd.isAgg124
  z212 := Tryd.sizeOf124
  v212 := Tryd.zeroValue124
  t213 := Tryd.underlying126
  a213 := Tryd.isAgg126
  z213 := Tryd.sizeOf126
  t232 := Tryd.underlying140
  a232 := Tryd.isAgg140
  z232 := Tryd.sizeOf140
  v232 := Tryd.zeroValue140
  t233 := Tryd.underlying141
  a233 := Tryd.isAgg141
  z233 := Tryd.sizeOf141
  v233 := Tryd.zeroValue141
  g17 := by kernel_rfl
  g18 := by kernel_rfl
  g19 := by kernel_rfl }
open Go.RowKit Go.Sort Go.Lib in
/-- THE ROAD WITHOUT THE TABLE: 0 <= i < 100. (LAID: no walk: one application.) -/
theorem Tryd.internal_strconv_Itoa_small (i : Nat) (hi : i < 100) (w : World) :
    Calls Tryd.prog 67 #[.int .i64 i] w fun e w' => e = .returned (.string ⟨(Lib.decDigits i).toArray⟩) ∧ w' = w := Any.internal_strconv_Itoa_small Tryd.lays243 i hi w
def Tryd.laysM171_ren : Go.Shelf.Ren := ⟨fun | 171 => 52 | 243 => 67 | 246 => 73 | 283 => 76 | 284 => 77 | 285 => 78 | 286 => 79 | 129 => 86 | 317 => 85 | 318 => 87 | 319 => 88 | 320 => 89 | 337 => 93 | 338 => 94 | n => n, fun | 3 => 3 | 9 => 9 | 2 => 2 | 4 => 4 | 171 => 110 | 0 => 0 | 53 => 111 | 37 => 37 | 5 => 5 | 173 => 114 | 212 => 124 | 51 => 125 | 20 => 20 | 213 => 126 | 46 => 127 | 232 => 140 | 233 => 141 | n => n, fun | 17 => 1 | 18 => 4 | 19 => 5 | n => n⟩
theorem Tryd.laysM171 : Go.Proofs.LaysM.n171 Tryd.prog Tryd.laysM171_ren := {
  mixed := by kernel_rfl
  f129 := Tryd.func86.trans (congrArg some (by kernel_rfl))
  f171 := Tryd.func52.trans (congrArg some (by kernel_rfl))
  f243 := Tryd.func67.trans (congrArg some (by kernel_rfl))
  f246 := Tryd.func73.trans (congrArg some (by kernel_rfl))
  f283 := Tryd.func76.trans (congrArg some (by kernel_rfl))
  f284 := Tryd.func77.trans (congrArg some (by kernel_rfl))
  f285 := Tryd.func78.trans (congrArg some (by kernel_rfl))
  f286 := Tryd.func79.trans (congrArg some (by kernel_rfl))
  f317 := Tryd.func85.trans (congrArg some (by kernel_rfl))
  f318 := Tryd.func87.trans (congrArg some (by kernel_rfl))
  f319 := Tryd.func88.trans (congrArg some (by kernel_rfl))
  f320 := Tryd.func89.trans (congrArg some (by kernel_rfl))
  f337 := Tryd.func93.trans (congrArg some (by kernel_rfl))
  f338 := Tryd.func94.trans (congrArg some (by kernel_rfl))
  t0 := Tryd.underlying0
  a0 := Tryd.isAgg0
  z0 := Tryd.sizeOf0
  v0 := Tryd.zeroValue0
  t2 := Tryd.underlying2
  a2 := Tryd.isAgg2
  z2 := Tryd.sizeOf2
  v2 := Tryd.zeroValue2
  t3 := Tryd.underlying3
  a3 := Tryd.isAgg3
  z3 := Tryd.sizeOf3
  v3 := Tryd.zeroValue3
  t4 := Tryd.underlying4
  a4 := Tryd.isAgg4
  z4 := Tryd.sizeOf4
  v4 := Tryd.zeroValue4
  t5 := Tryd.underlying5
  a5 := Tryd.isAgg5
  z5 := Tryd.sizeOf5
  v5 := Tryd.zeroValue5
  t9 := Tryd.underlying9
  a9 := Tryd.isAgg9
  z9 := Tryd.sizeOf9
  v9 := Tryd.zeroValue9
  t20 := Tryd.underlying20
  a20 := Tryd.isAgg20
  z20 := Tryd.sizeOf20
  v20 := Tryd.zeroValue20
  t37 := Tryd.underlying37
  a37 := Tryd.isAgg37
  z37 := Tryd.sizeOf37
  v37 := Tryd.zeroValue37
  t46 := Tryd.underlying127
  a46 := Tryd.isAgg127
  z46 := Tryd.sizeOf127
  v46 := Tryd.zeroValue127
  t51 := Tryd.underlying125
  a51 := Tryd.isAgg125
  z51 := Tryd.sizeOf125
  v51 := Tryd.zeroValue125
  t53 := Tryd.underlying111
  a53 := Tryd.isAgg111
  z53 := Tryd.sizeOf111
  v53 := Tryd.zeroValue111
  t171 := Tryd.underlying110
  a171 := Tryd.isAgg110
  z171 := Tryd.sizeOf110
  v171 := Tryd.zeroValue110
  t173 := Tryd.underlying114
  a173 := Tryd.isAgg114
  z173 := Tryd.sizeOf114
  v173 := Tryd.zeroValue114
  t212 := Tryd.underlying124
  a212 := Tryd.isAgg124
  z212 := Tryd.sizeOf124
  v212 := Tryd.zeroValue124
  t213 := Tryd.underlying126
  a213 := Tryd.isAgg126
  z213 := Tryd.sizeOf126
  t232 := Tryd.underlying140
  a232 := Tryd.isAgg140
  z232 := Tryd.sizeOf140
  v232 := Tryd.zeroValue140
  t233 := Tryd.underlying141
  a233 := Tryd.isAgg141
  z233 := Tryd.sizeOf141
  v233 := Tryd.zeroValue141
  g17 := by kernel_rfl
  g18 := by kernel_rfl
  g19 := by kernel_rfl
  i0 := by kernel_rfl
  i2 := by kernel_rfl
  i3 := by kernel_rfl
  i4 := by kernel_rfl
  i5 := by kernel_rfl
  i9 := by kernel_rfl
  i20 := by kernel_rfl
  i37 := by kernel_rfl
  i46 := by kernel_rfl
  i51 := by kernel_rfl
  i53 := by kernel_rfl
  i171 := by kernel_rfl
  i173 := by kernel_rfl
  i212 := by kernel_rfl
  i232 := by kernel_rfl
  i233 := by kernel_rfl
  m17 := by kernel_rfl
  m18 := by kernel_rfl
  m19 := by kernel_rfl }
open Go.RowKit Go.Sort Go.Lib in
/-- strconv.Itoa: "Itoa is equivalent to FormatInt(int64(i), 10).": i's DECIMAL NUMERAL ('Lib.itoa': a '-' where i is negative, then the digits), FOR EVERY int. The world behind the call: the world before it, new blocks behind the heap (the library's 'var a [24]byte'), draws. (LAID: no walk: one application.) -/
theorem Tryd.strconv_Itoa (n : Int) (h0 : -9223372036854775808 ≤ n) (h1 : n ≤ 9223372036854775807) (w : World) (htab : Lib.TabIs Tryd.prog w "internal/strconv.uint64pow10" .u64 Lib.pow10Tab) :
    Calls Tryd.prog 52 #[.int .i64 n] w fun e w' => e = .returned (.string ⟨(Lib.itoa n).toArray⟩) ∧ ∃ k os, w' = grow (w.drewN k) os := Any.strconv_Itoa Tryd.laysM171 n h0 h1 w htab
def Tryd.lays171_ren : Go.Shelf.Ren := ⟨fun | 171 => 52 | 243 => 67 | 246 => 73 | 283 => 76 | 284 => 77 | 285 => 78 | 286 => 79 | 129 => 86 | 317 => 85 | 318 => 87 | 319 => 88 | 320 => 89 | 337 => 93 | 338 => 94 | n => n, fun | 3 => 3 | 9 => 9 | 2 => 2 | 4 => 4 | 171 => 110 | 0 => 0 | 53 => 111 | 37 => 37 | 5 => 5 | 173 => 114 | 212 => 124 | 51 => 125 | 20 => 20 | 213 => 126 | 46 => 127 | 232 => 140 | 233 => 141 | n => n, fun | 17 => 1 | 18 => 4 | 19 => 5 | n => n⟩
theorem Tryd.lays171 : Go.Proofs.Lays.n171 Tryd.prog Tryd.lays171_ren := {
  mixed := by kernel_rfl
  f129 := Tryd.func86.trans (congrArg some (by kernel_rfl))
  f171 := Tryd.func52.trans (congrArg some (by kernel_rfl))
  f243 := Tryd.func67.trans (congrArg some (by kernel_rfl))
  f246 := Tryd.func73.trans (congrArg some (by kernel_rfl))
  f283 := Tryd.func76.trans (congrArg some (by kernel_rfl))
  f284 := Tryd.func77.trans (congrArg some (by kernel_rfl))
  f285 := Tryd.func78.trans (congrArg some (by kernel_rfl))
  f286 := Tryd.func79.trans (congrArg some (by kernel_rfl))
  f317 := Tryd.func85.trans (congrArg some (by kernel_rfl))
  f318 := Tryd.func87.trans (congrArg some (by kernel_rfl))
  f319 := Tryd.func88.trans (congrArg some (by kernel_rfl))
  f320 := Tryd.func89.trans (congrArg some (by kernel_rfl))
  f337 := Tryd.func93.trans (congrArg some (by kernel_rfl))
  f338 := Tryd.func94.trans (congrArg some (by kernel_rfl))
  t0 := Tryd.underlying0
  a0 := Tryd.isAgg0
  z0 := Tryd.sizeOf0
  v0 := Tryd.zeroValue0
  t2 := Tryd.underlying2
  a2 := Tryd.isAgg2
  z2 := Tryd.sizeOf2
  v2 := Tryd.zeroValue2
  t3 := Tryd.underlying3
  a3 := Tryd.isAgg3
  z3 := Tryd.sizeOf3
  v3 := Tryd.zeroValue3
  t4 := Tryd.underlying4
  a4 := Tryd.isAgg4
  z4 := Tryd.sizeOf4
  v4 := Tryd.zeroValue4
  t5 := Tryd.underlying5
  a5 := Tryd.isAgg5
  z5 := Tryd.sizeOf5
  v5 := Tryd.zeroValue5
  t9 := Tryd.underlying9
  a9 := Tryd.isAgg9
  z9 := Tryd.sizeOf9
  v9 := Tryd.zeroValue9
  t20 := Tryd.underlying20
  a20 := Tryd.isAgg20
  z20 := Tryd.sizeOf20
  v20 := Tryd.zeroValue20
  t37 := Tryd.underlying37
  a37 := Tryd.isAgg37
  z37 := Tryd.sizeOf37
  v37 := Tryd.zeroValue37
  t46 := Tryd.underlying127
  a46 := Tryd.isAgg127
  z46 := Tryd.sizeOf127
  v46 := Tryd.zeroValue127
  t51 := Tryd.underlying125
  a51 := Tryd.isAgg125
  z51 := Tryd.sizeOf125
  v51 := Tryd.zeroValue125
  t53 := Tryd.underlying111
  a53 := Tryd.isAgg111
  z53 := Tryd.sizeOf111
  v53 := Tryd.zeroValue111
  t171 := Tryd.underlying110
  a171 := Tryd.isAgg110
  z171 := Tryd.sizeOf110
  v171 := Tryd.zeroValue110
  t173 := Tryd.underlying114
  a173 := Tryd.isAgg114
  z173 := Tryd.sizeOf114
  v173 := Tryd.zeroValue114
  t212 := Tryd.underlying124
  a212 := Tryd.isAgg124
  z212 := Tryd.sizeOf124
  v212 := Tryd.zeroValue124
  t213 := Tryd.underlying126
  a213 := Tryd.isAgg126
  z213 := Tryd.sizeOf126
  t232 := Tryd.underlying140
  a232 := Tryd.isAgg140
  z232 := Tryd.sizeOf140
  v232 := Tryd.zeroValue140
  t233 := Tryd.underlying141
  a233 := Tryd.isAgg141
  z233 := Tryd.sizeOf141
  v233 := Tryd.zeroValue141
  g17 := by kernel_rfl
  g18 := by kernel_rfl
  g19 := by kernel_rfl }
open Go.RowKit Go.Sort Go.Lib in
/-- THE ROAD WITHOUT THE TABLE: 0 <= i < 100: NO PREMISE ON THE WORLD, AND THE WORLD IS AS IT WAS: a row that keeps its argument in that range need list no table ('laid = []'). (LAID: no walk: one application.) -/
theorem Tryd.strconv_Itoa_small (i : Nat) (hi : i < 100) (w : World) :
    Calls Tryd.prog 52 #[.int .i64 i] w fun e w' => e = .returned (.string ⟨(Lib.decDigits i).toArray⟩) ∧ w' = w := Any.strconv_Itoa_small Tryd.lays171 i hi w
end Go.Proofs
namespace Go.Proofs.YtonhcfecfifghaaDoor.PPx
open Go.RowKit Go.Proofs.YtonhcfecfifghaaDoorW.PrintWords Go.Proofs.YtonhcfecfifghaaDoorW.PrintLast Go.Proofs.YtonhcfecfifghaaDoorW.PrintMore
set_option linter.unusedVariables false
set_option linter.unusedSimpArgs false
theorem below_bytes (W : World) (e : TypeId) (t : ByteArray) : Below W.heap.size W (Lib.bytesWorld W e t) := by
  refine ⟨?_, ?_, ?_, ?_, fun k hk => Lib.bytesWorld_at_old W e t k hk⟩
  · unfold Lib.bytesWorld World.freeze; split <;> rfl
  · unfold Lib.bytesWorld World.freeze; split <;> rfl
  · unfold Lib.bytesWorld World.freeze; split <;> rfl
  · rw [Lib.bytesWorld_size]; omega
/-- the number that a token spells -/
def numOf (t : S44) : Int := (Lib.atoi t.f1.data.toList).getD 0
def numberS (fin : Int) (s : Rs) : Step Int := (takeS isNumber fin s).map numOf
theorem IsR.nums {w0 W : World} {g : Nat} {fin : Int} {vf : Value} {s : Rs} (h : IsR w0 W g fin vf s) : NumsOK s.toks := by
  obtain ⟨A, c, hh, hg, hl, hC, hR, hB, hN⟩ := h
  exact hN
set_option maxHeartbeats 1000000 in
set_option maxRecDepth 100000 in
theorem number_calls (w0 W : World) (g : Nat) (fin : Int) (vf : Value) (s : Rs) (hI : IsR w0 W g fin vf s) :
    Calls Tryd.prog 64 #[.pointer (some ⟨g, 0, none⟩)] W fun e w' => Out1 w0 W g fin vf (Value.int .i64) (numberS fin s) e w' := by
  have hu44 := Tryd.underlying44
  have hf1 := tok_f1
  have HI := Aside0.mk hI
  have hgl := HI.out.lt
  clear hI
  go_enter Tryd.func64, Tryd.ntmps64
  go_wp2_with fail
  refine (take_calls 71 #[] (fun _ _ => by rfl) isNumber w0 W g fin vf s HI.out ⟨fun W1 t _ => number1_calls W1 t⟩).mono ?_
  intro e w1 ho
  rcases ho.cases with ⟨t, hr, rfl, h2, h3⟩ | ⟨f, hr, rfl, h2, h3⟩
  · obtain ⟨hp, hts⟩ := takeS_ok hr
    simp only [isNumber, beq_iff_eq] at hp
    obtain ⟨hsz, n, hn⟩ := HI.out.nums t (by rw [hts]; simp) hp
    have hnum : numOf t = n := by simp [numOf, hn]
    have h2' := Aside0.mk h2
    have h3' := Aside0.mk h3
    have hr' := Aside0.mk hr
    have Hn := Aside0.mk hn
    have Hnum := Aside0.mk hnum
    clear ho h2 h3 hr HI hn hnum hts
    simp only [tokV]
    go_wp2_with fail
    refine (Go.Proofs.Tryd.strconv_Atoi t.f1 n hsz Hn.out w1).mono ?_
    rintro e w2 ⟨rfl, tt, rfl⟩
    have hb := below_bytes w1 5 tt
    have H2 := Aside0.mk (h2'.out.below hb)
    have H3 := Aside0.mk (h3'.out.trans (Go_.of_below hb g vf) hgl)
    generalize Lib.bytesWorld w1 5 tt = w2 at *
    clear hb
    go_wp2_with fail
    go_ret
    exact Out1.ok (Step.map_ok hr'.out) (by rw [Hnum.out]; rfl) H2.out H3.out
  · exact ⟨rfl, Out1.err (Step.map_err hr) rfl h2 h3⟩
end Go.Proofs.YtonhcfecfifghaaDoor.PPx
namespace Go.Proofs.YtonhcfecfifghaaDoor.PPx
open Go.RowKit Go.Proofs.YtonhcfecfifghaaDoorW.PrintWords Go.Proofs.YtonhcfecfifghaaDoorW.PrintLast Go.Proofs.YtonhcfecfifghaaDoorW.PrintMore
set_option linter.unusedVariables false
set_option linter.unusedSimpArgs false
def Step.bind {α β : Type} (r : Step α) (f : α → Rs → Step β) : Step β := match r.1 with
  | .ok a => f a r.2
  | .error e => (.error e, r.2)
theorem Step.bind_ok {α β : Type} {r : Step α} {f : α → Rs → Step β} {a : α} (h : r.1 = .ok a) : r.bind f = f a r.2 := by simp [Step.bind, h]
theorem Step.bind_err {α β : Type} {r : Step α} {f : α → Rs → Step β} {e : Int × Int} (h : r.1 = .error e) : r.bind f = (.error e, r.2) := by simp [Step.bind, h]
def tri3 (fin a b c : Int) (s : Rs) : Step S52 := (signS ⟨#[41]⟩ fin s).bind fun _ s => (.ok ⟨a, b, c⟩, s)
def tri2 (fin a b : Int) (s : Rs) : Step S52 := (signS ⟨#[44]⟩ fin s).bind fun _ s => (numberS fin s).bind fun c s => tri3 fin a b c s
def tri1 (fin a : Int) (s : Rs) : Step S52 := (signS ⟨#[44]⟩ fin s).bind fun _ s => (numberS fin s).bind fun b s => tri2 fin a b s
def tripleS (fin : Int) (s : Rs) : Step S52 := (signS ⟨#[40]⟩ fin s).bind fun _ s => (numberS fin s).bind fun a s => tri1 fin a s
def triV (q : S52) : Value := .agg #[.int .i64 q.f0, .int .i64 q.f1, .int .i64 q.f2]
/-- where the loop stands: so many rounds are still to go; q: what the numbers read so far are -/
def TriAt (fin : Int) (s sI : Rs) : Nat → Int → Int → Int → Prop
  | 3, a, b, c => (a = 0 ∧ b = 0 ∧ c = 0) ∧ tripleS fin s = tripleS fin sI
  | 2, a, b, c => (b = 0 ∧ c = 0) ∧ tripleS fin s = tri1 fin a sI
  | 1, a, b, c => c = 0 ∧ tripleS fin s = tri2 fin a b sI
  | 0, a, b, c => tripleS fin s = tri3 fin a b c sI
  | _, _, _, _ => False
/-- the blocks of the function's own -/
structure Tri (w0 W wr : World) (g : Nat) (fin : Int) (vf : Value) (sI : Rs) (a b c : Int) : Prop where
  r : IsR w0 wr g fin vf sI
  go : Go_ W wr g vf vf
  b2 : wr.heap[W.heap.size]? = some (.cells #[.int .i64 0, .int .i64 0, .int .i64 0] 52 (0, 0))
  b3 : wr.heap[W.heap.size + 1]? = some (.cells #[.int .i64 a, .int .i64 b, .int .i64 c] 52 (0, 0))
  b6 : wr.heap[W.heap.size + 2]? = some (.cells #[.string ⟨#[40]⟩, .string ⟨#[44]⟩, .string ⟨#[44]⟩] 9 (0, 0))
  lt : g < W.heap.size
theorem Tri.step {w0 W wr w' : World} {g : Nat} {fin : Int} {vf : Value} {sI s' : Rs} {a b c : Int} (h : Tri w0 W wr g fin vf sI a b c) (hv : vf.ownBlock = none ∨ ∃ k, vf.ownBlock = some k ∧ k < W.heap.size) (h2 : IsR w0 w' g fin vf s') (h3 : Go_ wr w' g vf vf) : Tri w0 W w' g fin vf s' a b c := by
  have hg := h.lt
  have hne : ∀ j, some (W.heap.size + j) ≠ vf.ownBlock := fun j e => by
    rcases hv with hv | ⟨k, hv, hk⟩
    · rw [hv] at e; cases e
    · rw [hv] at e; injection e with e; omega
  exact ⟨h2, h.go.trans h3 hg, blk_go h.b2 h3 (by omega) (hne 0), blk_go h.b3 h3 (by omega) (hne 1), blk_go h.b6 h3 (by omega) (hne 2), hg⟩
theorem IsR.row_lt {w0 W : World} {g : Nat} {fin : Int} {vf : Value} {s : Rs} (h : IsR w0 W g fin vf s) : vf.ownBlock = none ∨ ∃ k, vf.ownBlock = some k ∧ k < W.heap.size := by
  obtain ⟨A, c, hh, hg, hl, hC, hR, hB, hN⟩ := h
  rcases hv : vf.ownBlock with _ | k
  · exact .inl rfl
  · exact .inr ⟨k, rfl, Kd.R_lt hR k hv⟩
theorem Out1.err' {α : Type} {w0 W w' : World} {g : Nat} {fin : Int} {vf : Value} {enc : α → Value} {r : Step α} {e : Ending} {f : Int × Int} {s' : Rs} (hr : r = (.error f, s')) (he : e = .panicked (faultV f.1 f.2)) (h2 : IsR w0 w' g fin vf s') (h3 : Go_ W w' g vf vf) : Out1 w0 W g fin vf enc r e w' := by subst hr; exact ⟨he, h2, h3⟩
theorem Out1.ok' {α : Type} {w0 W w' : World} {g : Nat} {fin : Int} {vf : Value} {enc : α → Value} {r : Step α} {e : Ending} {a : α} {s' : Rs} (hr : r = (.ok a, s')) (he : e = .returned (enc a)) (h2 : IsR w0 w' g fin vf s') (h3 : Go_ W w' g vf vf) : Out1 w0 W g fin vf enc r e w' := by subst hr; exact ⟨he, h2, h3⟩
theorem Tri.set {w0 W wr : World} {g : Nat} {fin : Int} {vf : Value} {sI : Rs} {a b c a' b' c' : Int} (h : Tri w0 W wr g fin vf sI a b c) (i : Nat) (x : Value) (he : (#[Value.int .i64 a, .int .i64 b, .int .i64 c]).setIfInBounds i x = #[.int .i64 a', .int .i64 b', .int .i64 c']) : Tri w0 W (wr.setCell ⟨W.heap.size + 1, i, none⟩ x) g fin vf sI a' b' c' := by
  have hg := h.lt
  have hle : w0.heap.size ≤ W.heap.size + 1 := by have := h.r.ge; omega
  exact ⟨h.r.far h.b3 (by decide) (by decide) hle i x, h.go.set (p := ⟨W.heap.size + 1, i, none⟩) (.inr (Nat.le_succ _)) x, blk_far h.b2 (p := ⟨W.heap.size + 1, i, none⟩) (Nat.ne_of_lt (Nat.lt_succ_self _)) x, blk_put h.b3 i x he, blk_far h.b6 (p := ⟨W.heap.size + 1, i, none⟩) (Nat.ne_of_gt (Nat.lt_succ_self _)) x, hg⟩
theorem IsR.far3t {w0 W : World} {g b t : Nat} {fin : Int} {vf : Value} {s : Rs} {x y z x' y' z' : Value} (h : IsR w0 W g fin vf s) (hb : W.heap[b]? = some (.cells #[x, y, z] t (0, 0))) (n1 : t ≠ 59) (n2 : t ≠ 35) (hge : w0.heap.size ≤ b) : IsR w0 (((W.setCell ⟨b, 0, none⟩ x').setCell ⟨b, 1, none⟩ y').setCell ⟨b, 2, none⟩ z') g fin vf s := by
  have h1 : (W.setCell ⟨b, 0, none⟩ x').heap[b]? = some (.cells #[x', y, z] t (0, 0)) := blk_put hb 0 _ rfl
  have h2 : ((W.setCell ⟨b, 0, none⟩ x').setCell ⟨b, 1, none⟩ y').heap[b]? = some (.cells #[x', y', z] t (0, 0)) := blk_put h1 1 _ rfl
  exact ((h.far hb n1 n2 hge 0 x').far h1 n1 n2 hge 1 y').far h2 n1 n2 hge 2 z'
set_option maxHeartbeats 2000000 in
set_option maxRecDepth 100000 in
theorem triple_calls (w0 W : World) (g : Nat) (fin : Int) (vf : Value) (s : Rs) (hI : IsR w0 W g fin vf s) :
    Calls Tryd.prog 63 #[.pointer (some ⟨g, 0, none⟩)] W fun e w' => Out1 w0 W g fin vf triV (tripleS fin s) e w' := by
  have hu51 := Tryd.underlying52
  have hv := Aside0.mk hI.row_lt
  have hgl := hI.lt
  have hgw : w0.heap.size ≤ W.heap.size := hI.bel.size
  have hb1 := below_alloc (below_alloc (below_alloc (Below.refl W.heap.size W) (.cells #[.int .i64 0, .int .i64 0, .int .i64 0] 52)) (.cells #[.int .i64 0, .int .i64 0, .int .i64 0] 52)) (.cells #[.string ⟨#[40]⟩, .string ⟨#[44]⟩, .string ⟨#[44]⟩] 9)
  have HT : Aside0 (Tri w0 W (((W.alloc (.cells #[.int .i64 0, .int .i64 0, .int .i64 0] 52)).alloc (.cells #[.int .i64 0, .int .i64 0, .int .i64 0] 52)).alloc (.cells #[.string ⟨#[40]⟩, .string ⟨#[44]⟩, .string ⟨#[44]⟩] 9)) g fin vf s 0 0 0) := by
    have e1 : (W.alloc (.cells #[.int .i64 0, .int .i64 0, .int .i64 0] 52)).heap.size = W.heap.size + 1 := by simp
    have e2 : ((W.alloc (.cells #[.int .i64 0, .int .i64 0, .int .i64 0] 52)).alloc (.cells #[.int .i64 0, .int .i64 0, .int .i64 0] 52)).heap.size = W.heap.size + 2 := by simp
    have h1 := heap_alloc_new W (.cells #[.int .i64 0, .int .i64 0, .int .i64 0] 52)
    have h2 := heap_alloc_new (W.alloc (.cells #[.int .i64 0, .int .i64 0, .int .i64 0] 52)) (.cells #[.int .i64 0, .int .i64 0, .int .i64 0] 52)
    have h3 := heap_alloc_new ((W.alloc (.cells #[.int .i64 0, .int .i64 0, .int .i64 0] 52)).alloc (.cells #[.int .i64 0, .int .i64 0, .int .i64 0] 52)) (.cells #[.string ⟨#[40]⟩, .string ⟨#[44]⟩, .string ⟨#[44]⟩] 9)
    rw [e1] at h2
    rw [e2] at h3
    exact ⟨⟨hI.below hb1, Go_.of_below hb1 g vf, blk_alloc (blk_alloc h1 _) _, blk_alloc h2 _, h3, hgl⟩⟩
  clear hI hb1
  go_enter Tryd.func63, Tryd.ntmps63
  go_wp2_with fail
  go_loopg [8] 3 (fun kq v8 wr => ∃ (sI : Rs) (a b c : Int), v8 = .int .i64 (3 - kq) ∧ Aside0 (TriAt fin s sI kq a b c ∧ Tri w0 W wr g fin vf sI a b c))
  case atStart => exact ⟨s, 0, 0, 0, rfl, ⟨⟨⟨rfl, rfl, rfl⟩, rfl⟩, HT.out⟩⟩
  case round =>
    clear HT
    obtain ⟨sI, a, b, c, hv8, ⟨hA, hT⟩⟩ := hrel
    have HA := Aside0.mk hA
    have HT := Aside0.mk hT
    have hgr := hT.r.lt
    have hlt2 := (Array.getElem?_eq_some_iff.1 hT.b6).1
    clear hA hT
    rcases gk with _ | _ | _ | _ | k
    · -- behind the loop
      have hv9 : _ = Value.int .i64 3 := hv8.trans rfl
      clear hv8
      subst hv9
      go_wp2_with fail
      refine (sign_calls ⟨#[41]⟩ w0 _ g fin vf sI HT.out.r).mono ?_
      intro e w1 ho
      rcases ho.cases with ⟨t, hr, rfl, h2, h3⟩ | ⟨f, hr, rfl, h2, h3⟩
      · have HT1 := Aside0.mk (HT.out.step hv.out h2 h3)
        have HE := Aside0.mk (show tripleS fin s = (.ok ⟨a, b, c⟩, (signS ⟨#[41]⟩ fin sI).2) from by rw [HA.out, tri3, Step.bind_ok hr])
        have q0 := blk_cell HT1.out.b3 0
        have q1 := blk_cell HT1.out.b3 1
        have q2 := blk_cell HT1.out.b3 2
        have r0 := blk_cell HT1.out.b2 0
        have r1 := blk_cell HT1.out.b2 1
        have r2 := blk_cell HT1.out.b2 2
        have z0 := blk_frozen HT1.out.b2 0
        have z1 := blk_frozen HT1.out.b2 1
        have z2 := blk_frozen HT1.out.b2 2
        simp only [List.getElem?_toArray, List.getElem?_cons_zero, List.getElem?_cons_succ] at q0 q1 q2 r0 r1 r2
        clear ho h2 h3 hr HT
        simp only [voidV]
        go_wp2_with fail
        refine bodyPost_ret (results_cell_row rfl _ _ W.heap.size 52 #[.int .i64 a, .int .i64 b, .int .i64 c] (0, 0) _ rfl (blk3 HT1.out.b2) Tryd.underlying52 rfl (by kernel_rfl)) rfl ?_
        exact Out1.ok' HE.out rfl (IsR.far3t HT1.out.r HT1.out.b2 (by decide) (by decide) hgw) (Go_.set3 HT1.out.go (Nat.le_refl _))
      · exact ⟨rfl, Out1.err' (by rw [HA.out, tri3, Step.bind_err hr]) rfl h2 (HT.out.go.trans h3 hgl)⟩
    · -- 1 rounds to go
      have hv9 : _ = Value.int .i64 2 := hv8.trans rfl
      clear hv8
      subst hv9
      have q6 := blk_cell HT.out.b6 2
      simp only [List.getElem?_toArray, List.getElem?_cons_zero, List.getElem?_cons_succ] at q6
      go_wp2_with fail
      refine (sign_calls ⟨#[44]⟩ w0 _ g fin vf sI HT.out.r).mono ?_
      intro e w1 ho
      rcases ho.cases with ⟨t, hr, rfl, h2, h3⟩ | ⟨f, hr, rfl, h2, h3⟩
      · have HT1 := Aside0.mk (HT.out.step hv.out h2 h3)
        have hr' := Aside0.mk hr
        clear ho h2 h3 hr q6
        simp only [voidV]
        go_wp2_with fail
        refine (number_calls w0 _ g fin vf _ HT1.out.r).mono ?_
        intro e w2 ho
        rcases ho.cases with ⟨m, hm, rfl, h2, h3⟩ | ⟨f, hm, rfl, h2, h3⟩
        · have HT2 := Aside0.mk (HT1.out.step (by have := HT1.out.go.size; rcases hv.out with h | ⟨k, h, hk⟩; exact .inl h; exact .inr ⟨k, h, hk⟩) h2 h3)
          have hm' := Aside0.mk hm
          have q3 := blk_cell HT2.out.b3 2
          have z3 := blk_frozen HT2.out.b3 2
          simp only [List.getElem?_toArray, List.getElem?_cons_zero, List.getElem?_cons_succ] at q3
          have HE := Aside0.mk (show tripleS fin s = tri3 fin a b m _ from by rw [HA.out.2, tri2, Step.bind_ok hr'.out, Step.bind_ok hm])
          have HT3 := Aside0.mk (HT2.out.set 2 (.int .i64 m) rfl)
          clear ho h2 h3 hm HT HT1 HT2
          go_wp2_with fail
          go_roundg 0
          case measure => omega
          case rel => exact ⟨_, a, b, m, rfl, ⟨HE.out, HT3.out⟩⟩
        · exact ⟨rfl, Out1.err' (by rw [HA.out.2, tri2, Step.bind_ok hr'.out, Step.bind_err hm]) rfl h2 (HT1.out.go.trans h3 hgl)⟩
      · exact ⟨rfl, Out1.err' (by rw [HA.out.2, tri2, Step.bind_err hr]) rfl h2 (HT.out.go.trans h3 hgl)⟩
    · -- 2 rounds to go
      have hv9 : _ = Value.int .i64 1 := hv8.trans rfl
      clear hv8
      subst hv9
      have q6 := blk_cell HT.out.b6 1
      simp only [List.getElem?_toArray, List.getElem?_cons_zero, List.getElem?_cons_succ] at q6
      go_wp2_with fail
      refine (sign_calls ⟨#[44]⟩ w0 _ g fin vf sI HT.out.r).mono ?_
      intro e w1 ho
      rcases ho.cases with ⟨t, hr, rfl, h2, h3⟩ | ⟨f, hr, rfl, h2, h3⟩
      · have HT1 := Aside0.mk (HT.out.step hv.out h2 h3)
        have hr' := Aside0.mk hr
        clear ho h2 h3 hr q6
        simp only [voidV]
        go_wp2_with fail
        refine (number_calls w0 _ g fin vf _ HT1.out.r).mono ?_
        intro e w2 ho
        rcases ho.cases with ⟨m, hm, rfl, h2, h3⟩ | ⟨f, hm, rfl, h2, h3⟩
        · have HT2 := Aside0.mk (HT1.out.step (by have := HT1.out.go.size; rcases hv.out with h | ⟨k, h, hk⟩; exact .inl h; exact .inr ⟨k, h, hk⟩) h2 h3)
          have hm' := Aside0.mk hm
          have q3 := blk_cell HT2.out.b3 1
          have z3 := blk_frozen HT2.out.b3 1
          simp only [List.getElem?_toArray, List.getElem?_cons_zero, List.getElem?_cons_succ] at q3
          have HE := Aside0.mk (show tripleS fin s = tri2 fin a m _ from by rw [HA.out.2, tri1, Step.bind_ok hr'.out, Step.bind_ok hm])
          have HT3 := Aside0.mk (HT2.out.set 1 (.int .i64 m) rfl)
          clear ho h2 h3 hm HT HT1 HT2
          go_wp2_with fail
          go_roundg 1
          case measure => omega
          case rel => exact ⟨_, a, m, c, rfl, ⟨⟨HA.out.1.2, HE.out⟩, HT3.out⟩⟩
        · exact ⟨rfl, Out1.err' (by rw [HA.out.2, tri1, Step.bind_ok hr'.out, Step.bind_err hm]) rfl h2 (HT1.out.go.trans h3 hgl)⟩
      · exact ⟨rfl, Out1.err' (by rw [HA.out.2, tri1, Step.bind_err hr]) rfl h2 (HT.out.go.trans h3 hgl)⟩
    · -- 3 rounds to go
      have hv9 : _ = Value.int .i64 0 := hv8.trans rfl
      clear hv8
      subst hv9
      have q6 := blk_cell HT.out.b6 0
      simp only [List.getElem?_toArray, List.getElem?_cons_zero, List.getElem?_cons_succ] at q6
      go_wp2_with fail
      refine (sign_calls ⟨#[40]⟩ w0 _ g fin vf sI HT.out.r).mono ?_
      intro e w1 ho
      rcases ho.cases with ⟨t, hr, rfl, h2, h3⟩ | ⟨f, hr, rfl, h2, h3⟩
      · have HT1 := Aside0.mk (HT.out.step hv.out h2 h3)
        have hr' := Aside0.mk hr
        clear ho h2 h3 hr q6
        simp only [voidV]
        go_wp2_with fail
        refine (number_calls w0 _ g fin vf _ HT1.out.r).mono ?_
        intro e w2 ho
        rcases ho.cases with ⟨m, hm, rfl, h2, h3⟩ | ⟨f, hm, rfl, h2, h3⟩
        · have HT2 := Aside0.mk (HT1.out.step (by have := HT1.out.go.size; rcases hv.out with h | ⟨k, h, hk⟩; exact .inl h; exact .inr ⟨k, h, hk⟩) h2 h3)
          have hm' := Aside0.mk hm
          have q3 := blk_cell HT2.out.b3 0
          have z3 := blk_frozen HT2.out.b3 0
          simp only [List.getElem?_toArray, List.getElem?_cons_zero, List.getElem?_cons_succ] at q3
          have HE := Aside0.mk (show tripleS fin s = tri1 fin m _ from by rw [HA.out.2, tripleS, Step.bind_ok hr'.out, Step.bind_ok hm])
          have HT3 := Aside0.mk (HT2.out.set 0 (.int .i64 m) rfl)
          clear ho h2 h3 hm HT HT1 HT2
          go_wp2_with fail
          go_roundg 2
          case measure => omega
          case rel => exact ⟨_, m, b, c, rfl, ⟨⟨⟨HA.out.1.2.1, HA.out.1.2.2⟩, HE.out⟩, HT3.out⟩⟩
        · exact ⟨rfl, Out1.err' (by rw [HA.out.2, tripleS, Step.bind_ok hr'.out, Step.bind_err hm]) rfl h2 (HT1.out.go.trans h3 hgl)⟩
      · exact ⟨rfl, Out1.err' (by rw [HA.out.2, tripleS, Step.bind_err hr]) rfl h2 (HT.out.go.trans h3 hgl)⟩
    · exact absurd HA.out (by simp [TriAt])
end Go.Proofs.YtonhcfecfifghaaDoor.PPx
namespace Go.Proofs.YtonhcfecfifghaaDoor.PPx
open Go.RowKit Go.Proofs.YtonhcfecfifghaaDoorW.PrintWords Go.Proofs.YtonhcfecfifghaaDoorW.PrintLast Go.Proofs.YtonhcfecfifghaaDoorW.PrintMore
set_option linter.unusedVariables false
set_option linter.unusedSimpArgs false
theorem infoDia : (Tryd.prog.info? 35).map (fun i => (i.zero, i.size, i.bytes)) = some (some (.agg #[(.int .i64 0), (.int .i64 0)]), 2, 16) := by kernel_rfl
theorem drew_alloc' (x : World) (o : Obj) : (x.alloc o).drew = x.drew.alloc o := rfl
def tellS (f : S35) (s : Rs) : Rs := { s with fl := s.fl ++ [f], over := s.over || (f.f0 == 3 || ((s.fl ++ [f]).length : Int) == 20) }
theorem IsR.set_fl {w0 W w1 : World} {g : Nat} {fin : Int} {vf v1 : Value} {s : Rs} {fl1 : List S35} (h : IsR w0 W g fin vf s) (hh : w1.heap[g]? = W.heap[g]?) (hR : Kd.R k35 35 w1 w0.heap.size (fun k => k ≠ g) v1 fl1) (hB : Below w0.heap.size w0 w1) : IsR w0 (w1.setCell ⟨g, 3, none⟩ v1) g fin v1 { s with fl := fl1 } := by
  obtain ⟨A, c, h1, hg, hl, hC, _, _, hN⟩ := h
  rw [h1] at hh
  exact ⟨A, c, blk_put hh 3 _ rfl, hg, hl, hC, Kd.R_far hR (p := ⟨g, 3, none⟩) (fun k hk => hk) _, hB.setCell hg _, hN⟩
set_option maxHeartbeats 1000000 in
set_option maxRecDepth 100000 in
theorem tell_calls (w0 W : World) (g : Nat) (fin : Int) (vf : Value) (s : Rs) (f : S35) (hI : IsR w0 W g fin vf s) (hl : s.fl.length ≤ 100) :
    Calls Tryd.prog 32 #[.pointer (some ⟨g, 0, none⟩), .agg #[.int .i64 f.f0, .int .i64 f.f1]] W fun e w' => e = .returned (.tuple #[]) ∧ ∃ vf', IsR w0 w' g fin vf' (tellS f s) ∧ Go_ W w' g vf vf' := by
  have hu35 := Tryd.underlying35
  have HI := Aside0.mk hI
  obtain ⟨A, c, hh, hg, hln, hC, hR, hB, hN⟩ := hI
  obtain ⟨Af, cf, rfl⟩ := Kd.R_slice hR
  have c3 := blk_cell hh 3
  have z3 := blk_frozen hh 3
  simp only [List.getElem?_toArray, List.getElem?_cons_zero, List.getElem?_cons_succ] at c3
  have hgl := (Array.getElem?_eq_some_iff.1 hh).1
  have HR := Aside0.mk hR
  have G3 := Aside0.mk (show (W.alloc (.cells #[.int .i64 f.f0, .int .i64 f.f1] 35)).cell? ⟨g, 3, none⟩ = some (.slice Af s.fl.length cf) from (blk_cell (blk_alloc hh _) 3).trans rfl)
  have Hh := Aside0.mk (show (W.alloc (.cells #[.int .i64 f.f0, .int .i64 f.f1] 35)).heap[g]? = _ from blk_alloc hh _)
  have hgl3 : g < (W.alloc (.cells #[.int .i64 f.f0, .int .i64 f.f1] 35)).drew.heap.size := by have := (Array.getElem?_eq_some_iff.1 hh).1; simp; omega
  have HG3 := Aside0.mk hgl3
  clear hgl3
  have N3 := Aside0.mk (Kd.R_away hR (fun k h => h))
  have NX := Aside0.mk (Kd.R_ne_new hR 0)
  clear hh hB hR hC hN
  go_enter Tryd.func32, Tryd.ntmps32
  go_wp2_with fail
  have b0 := heap_alloc_new W (.cells #[.int .i64 f.f0, .int .i64 f.f1] 35)
  have hgx : g ≠ W.heap.size := Nat.ne_of_lt hgl
  have x0 := blk_cell b0 0
  have x1 := blk_cell b0 1
  simp only [List.getElem?_toArray, List.getElem?_cons_zero, List.getElem?_cons_succ] at x0 x1
  have HB1 := Aside0.mk (HI.out.bel.alloc (by exact HI.out.bel.size) (.cells #[.int .i64 f.f0, .int .i64 f.f1] 35))
  have HR1 := Aside0.mk (Kd.R_alloc HR.out (.cells #[.int .i64 f.f0, .int .i64 f.f1] 35))
  have X0 := Aside0.mk x0
  have X1 := Aside0.mk x1
  have HB1' := Aside0.mk HB1.out.size
  go_region_law (first | (rw [drew_alloc', drew_alloc']; refine Kd.R_append_step k35 (w0 := w0) w0.heap.size (by rfl) (.tmp 8) (.tmp 10) 26 35 (.agg #[.int .i64 0, .int .i64 0]) 16 (by rfl) Tryd.underlying26 infoDia rfl (by decide) (by omega) (.slice Af s.fl.length cf) s.fl f [.int .i64 f.f0, .int .i64 f.f1] (fun k => k ≠ g) (fun _ => False) (by first | rfl | (go_simp; done) | (go_simp; rfl)) (by first | rfl | (go_simp; done) | (go_simp; rfl)) (k35_mkM _ _ _ f) (fun _ h => h.elim) (fun k hk => by simp at hk; omega) (Kd.R_drew HR1.out) (below_drew HB1.out) HB1'.out (by omega) ?_; intro v1 w1 hR2 hB2 hg2 hat2; obtain ⟨Af1, cf1, ev1⟩ := Kd.R_slice hR2; subst ev1; have s3 := hg2.cell (a := ⟨g, 3, none⟩) G3.out N3.out; have s0 := hg2.cell (a := ⟨W.heap.size, 0, none⟩) X0.out NX.out; have s1 := hg2.cell (a := ⟨W.heap.size, 1, none⟩) X1.out NX.out; have s4 := blk_frozen ((hg2.block g HG3.out N3.out).trans Hh.out) 3; have s5 := (blk_cell ((hg2.block g HG3.out N3.out).trans Hh.out) 4).trans (show _ = some (Value.bool s.over) from rfl); have s6 := blk_frozen ((hg2.block g HG3.out N3.out).trans Hh.out) 4; have HR2 := Aside0.mk hR2; have HB2 := Aside0.mk hB2; have HG2 := Aside0.mk hg2; have HT2 := Aside0.mk hat2; have hsz2 := hg2.size; clear hR2 hB2 hg2 hat2))
  all_goals
    have hlen : (s.fl ++ [f]).length = s.fl.length + 1 := by simp
    have hxlt : W.heap.size < w1.heap.size := by simp at hsz2; omega
    have hI2 := Aside0.mk (IsR.set_fl (W := (W.alloc (.cells #[.int .i64 f.f0, .int .i64 f.f1] 35))) (HI.out.below (below_alloc (Below.refl _ _) _)) (HG2.out.block g HG3.out N3.out) HR2.out HB2.out)
    have hG2 : Aside0 (Go_ W (w1.setCell ⟨g, 3, none⟩ (.slice Af1 (s.fl ++ [f]).length cf1)) g (.slice Af s.fl.length cf) (.slice Af1 (s.fl ++ [f]).length cf1)) := by
      refine ⟨⟨by simp [World.setCell]; omega, fun k hk hkg hkv => ?_, ?_⟩⟩
      · rw [Below.heap_setCell w1 ⟨g, 3, none⟩ _ k hkg, HG2.out.block k (by simp; omega) hkv]
        exact heap_alloc_old W _ hk
      · rcases HT2.out with h | ⟨b, h, hb⟩
        · exact .inl h
        · exact .inr ⟨b, h, by simp at hb; omega⟩
    rw [hlen] at hI2 hG2
    clear HR2 HB2 HG2 HT2 HI HR G3 Hh HG3 N3 NX X0 X1 HB1 HR1 hlen
    clear b0 x0 x1 HB1' hsz2 z3 c3
    have HS1 : Aside0 (∀ b : Bool, (f.f0 == 3 || ((s.fl ++ [f]).length : Int) == 20) = b → tellS f s = { s with fl := s.fl ++ [f], over := s.over || b }) := ⟨fun b hb => by simp only [tellS, hb]⟩
    go_wp2
    all_goals
      go_end0
      first
      | exact ⟨rfl, _, by rw [HS1.out true (by have h := ‹f.f0 = 3›; simp [h])]; simpa using hI2.out.set_over true, hG2.out.set (.inl rfl) _⟩
      | exact ⟨rfl, _, by rw [HS1.out true (by have h := ‹(f.f0 == 3) = true ∨ ((s.fl.length : Int) + 1 == 20) = true›; simpa using h)]; simpa using hI2.out.set_over true, hG2.out.set (.inl rfl) _⟩
      | exact ⟨rfl, _, by rw [HS1.out false (by have h := ‹(f.f0 == 3) = false ∧ ((s.fl.length : Int) + 1 == 20) = false›; simpa using h)]; simpa using hI2.out, hG2.out⟩
end Go.Proofs.YtonhcfecfifghaaDoor.PPx
