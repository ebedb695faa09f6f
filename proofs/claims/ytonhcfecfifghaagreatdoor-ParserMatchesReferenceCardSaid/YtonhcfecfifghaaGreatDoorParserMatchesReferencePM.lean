/- Part M of the proof of ParserMatchesReference: the contracts of the functions that the law reaches, and what their plain functions compute. No condition. -/
import Derived.Test.YtonhcfecfifghaaGreatDoorParserMatchesReferencePA
import Derived.Test.YtonhcfecfifghaaGreatDoorParserMatchesReferencePB
import Derived.Test.YtonhcfecfifghaaGreatDoorParserMatchesReferencePC
import Derived.Test.YtonhcfecfifghaaGreatDoorParserMatchesReferencePD
import Derived.Test.YtonhcfecfifghaaGreatDoorParserMatchesReferencePE
import Derived.Test.YtonhcfecfifghaaGreatDoorParserMatchesReferencePG
import Derived.Test.YtonhcfecfifghaaGreatDoorParserMatchesReferencePJ
import Derived.Test.YtonhcfecfifghaaGreatDoorParserMatchesReferencePK
import Derived.Test.YtonhcfecfifghaaGreatDoorParserMatchesReferencePL
import Derived.Test.YtonhcfecfifghaaGreatDoorRows
import Derived.SliceStrings
import Derived.Lib.LaidTab
import Derived.Stop.LaidErr
import Derived.MakeChecks
import Derived.ChangeArms
import Derived.OpenShut
import Derived.DataReads
import Derived.Test.YtonhcfecfifghaaGreatDoorCards
import Derived.Test.YtonhcfecfifghaaGreatDoorTie
import Derived.WalkKit
import Derived.ProofKit
import Derived.ShutString
import Derived.ChangeOld
import Derived.Below
import Derived.SizedLaws
import Derived.LaidMore
import Derived.Stop.Joined
import Derived.SevenTiedAt
set_option maxHeartbeats 40000000
set_option maxRecDepth 100000
namespace Go.Proofs.YtonhcfecfifghaaGreatDoor.PPx
open Go.RowKit Go.Proofs.YtonhcfecfifghaaGreatDoorW.PrintWords Go.Proofs.YtonhcfecfifghaaGreatDoorW.PrintLast Go.Proofs.YtonhcfecfifghaaGreatDoorW.PrintMore
set_option linter.unusedVariables false
set_option linter.unusedSimpArgs false
section
open Go.ChangeShapes Go.RowKit Go.Proofs.YtonhcfecfifghaaGreatDoorW.PrintWords Go.Proofs.YtonhcfecfifghaaGreatDoorW.PrintLast Go.Proofs.YtonhcfecfifghaaGreatDoorW.PrintMore
theorem gWords : Tryz.prog.globalNamed "ambidexter/parser.words" = some 0 := by kernel_rfl
theorem tWords : (Tryz.prog.globals[0]?).map (·.type) = some 86 := by kernel_rfl
theorem strs_inj : ∀ (a b : List ByteArray), strs (H := Unit) a = strs b → a = b
 | [], [], _ => rfl
 | [], y :: b, h => by simp [strs] at h
 | x :: a, [], h => by simp [strs] at h
 | x :: a, y :: b, h => by
  simp only [strs, List.map_cons, List.cons.injEq, DataW.lit.injEq, Lit.string.injEq] at h
  obtain ⟨h1, h2⟩ := h
  have hxy : x = y := by
   obtain ⟨x⟩ := x; obtain ⟨y⟩ := y
   exact congrArg _ (Array.toList_inj.1 h1)
  rw [hxy, strs_inj a b h2]
theorem words_of {W : World} {n : String} {r : List (String × DataW Unit)} (hn : n = "ambidexter/parser.words") (h : laidMet Tryz.prog ((n, Rows.laid_ambidexter_parser_words) :: r) W) : WordsAt W := by
 subst hn
 obtain ⟨ps, ⟨g, t, cs, fuel, p, q, hg, ht, hv, hd, _, _⟩, _, _⟩ := h
 obtain rfl := Option.some.inj (gWords.symm.trans hg)
 obtain rfl := Option.some.inj (tWords.symm.trans ht)
 rcases open_strings Tryz.underlying86 Tryz.underlying9 (by kernel_rfl) hd with ⟨_, hx⟩ | ⟨a, len, cap, ss, hcs, _, hlc, _, hlen, hx, hcell, _⟩
 · simp [Rows.laid_ambidexter_parser_words] at hx
 · simp only [Prod.mk.injEq, Rows.laid_ambidexter_parser_words, DataW.slice.injEq] at hx
   obtain ⟨⟨h1, h2⟩, _⟩ := hx
   have e1 : ss.take len = wordsL := (strs_inj wordsL _ h1).symm
   have e2 : ss.drop len = [] := (strs_inj [] _ h2).symm
   have e3 : ss = wordsL := by rw [← List.take_append_drop len ss, e1, e2, List.append_nil]
   have hl : len = 9 := by
    have h3 := congrArg List.length e1
    have h4 := congrArg List.length e2
    have h5 := congrArg List.length e3
    simp only [List.length_take, List.length_drop, List.length_nil] at h3 h4
    have h6 : wordsL.length = 9 := rfl
    have h7 : ss.length = cap := hlen
    omega
   subst hl
   subst e3
   have hc0 : W.cell? ⟨0, 0, none⟩ = some (.slice (some a) 9 cap) := by
    have := World.var?_cell hg hv 0
    obtain ⟨l⟩ := cs
    simp only at hcs
    subst hcs
    simpa using this
   refine ⟨some a, cap, hc0, hlc, Kd.C_of_reads (d := ByteArray.empty) ⟨rfl, by decide, fun _ => ⟨a, rfl, fun j hj => hcell j hj⟩⟩, ?_⟩
   exact cell_lt hc0
theorem glob_of {W : World} (h : laidMet Tryz.prog [("math/bits.deBruijn32tab", Rows.laid_math_bits_deBruijn32tab), ("math/bits.deBruijn64tab", Rows.laid_math_bits_deBruijn64tab), ("internal/strconv.uint64pow10", Rows.laid_internal_strconv_uint64pow10), ("strconv.ErrRange", Rows.laid_strconv_ErrRange), ("strconv.ErrSyntax", Rows.laid_strconv_ErrSyntax), ("ambidexter/parser.words", Rows.laid_ambidexter_parser_words)] W) : Glob W := by
 have h3 := (laidMet.tail (laidMet.tail h))
 refine ⟨words_of rfl (laidMet.tail (laidMet.tail (laidMet.tail h3))), ?_⟩
 have hh : laidMet Tryz.prog (("internal/strconv.uint64pow10", Lib.tabData .u64 Lib.pow10Tab) :: [("strconv.ErrRange", Rows.laid_strconv_ErrRange), ("strconv.ErrSyntax", Rows.laid_strconv_ErrSyntax), ("ambidexter/parser.words", Rows.laid_ambidexter_parser_words)]) W := h3
 exact Lib.tabIs_of_head (g := 1) (t := 140) (e := 127) (n := 20) (by kernel_rfl) (by kernel_rfl) (by kernel_rfl) (by kernel_rfl) (by kernel_rfl) (by kernel_rfl) hh
end
section
def h1L : List S37 := [⟨1, 1, ⟨#[]⟩, ⟨#[]⟩, 0, ⟨⟨0, 0, 0⟩, ⟨0, -3, 4⟩⟩, [], 0⟩]
def h2L : List S37 := [⟨2, 0, ⟨#[]⟩, ⟨#[]⟩, 0, ⟨⟨0, 0, 0⟩, ⟨0, 0, 0⟩⟩, [], 16⟩]
def h2M : List S37 := [⟨2, 0, ⟨#[]⟩, ⟨#[]⟩, 0, ⟨⟨0, 0, 0⟩, ⟨0, 0, 0⟩⟩, [], 0⟩]
def h5L : List S37 := [⟨7, 0, ⟨#[98]⟩, ⟨#[97]⟩, 0, ⟨⟨0, 0, 0⟩, ⟨0, 0, 0⟩⟩, [⟨6, 0, ⟨#[]⟩, ⟨#[]⟩, 5, ⟨⟨0, 0, 0⟩, ⟨0, 0, 0⟩⟩, [], 11⟩], 0⟩, ⟨8, 0, ⟨#[]⟩, ⟨#[]⟩, 0, ⟨⟨1, 2, 3⟩, ⟨4, 5, 6⟩⟩, [], 21⟩]
def h7L : List S37 := [⟨6, 1, ⟨#[]⟩, ⟨#[]⟩, 0, ⟨⟨0, 0, 0⟩, ⟨0, 0, 0⟩⟩, [], 0⟩]
set_option maxRecDepth 100000
def hs1 : ByteArray := ⟨#[103, 111, 32, 49, 32, 40, 48, 44, 32, 45, 51, 44, 32, 52, 41, 59]⟩
theorem head1 : parser_Parse.f 5 hs1 = some (h1L, []) := by kernel_rfl
def hs2 : ByteArray := ⟨#[103, 111, 32, 50, 32, 40, 48, 44, 32, 48, 44, 32, 48, 41, 59, 32, 104, 111, 109, 101, 32, 48, 59]⟩
theorem head2 : parser_Parse.f 5 hs2 = some (h2L, [⟨110, 3⟩]) := by kernel_rfl
def hs3 : ByteArray := ⟨#[119, 104, 101, 110, 32, 98, 101, 108, 116, 32, 99, 117, 112, 32, 123, 32, 112, 105, 99, 107, 32, 48, 32, 99, 117, 112, 59, 32]⟩
theorem head3 : parser_Parse.f 5 hs3 = some ([], [⟨3, 28⟩]) := by kernel_rfl
def hs4 : ByteArray := ⟨#[104, 111, 109, 101, 32, 48]⟩
theorem head4 : parser_Parse.f 5 hs4 = some ([], [⟨3, 6⟩]) := by kernel_rfl
def hs5 : ByteArray := ⟨#[119, 104, 101, 110, 32, 97, 32, 98, 32, 123, 32, 119, 97, 105, 116, 32, 53, 59, 32, 125, 32, 98, 111, 116, 104, 32, 40, 49, 44, 50, 44, 51, 41, 32, 40, 52, 44, 53, 44, 54, 41, 32, 59, 32, 35, 32, 100, 111, 110, 101]⟩
theorem head5 : parser_Parse.f 5 hs5 = some (h5L, []) := by kernel_rfl
def hs6 : ByteArray := ⟨#[112, 105, 99, 107, 32, 48, 32, 103, 111, 59, 32, 125]⟩
theorem head6 : parser_Parse.f 5 hs6 = some ([], [⟨110, 7⟩, ⟨110, 11⟩]) := by kernel_rfl
theorem headF1 : parser_Format.f 5 h1L = some ⟨#[103, 111, 32, 49, 32, 40, 48, 44, 32, 45, 51, 44, 32, 52, 41, 59, 10]⟩ := by kernel_rfl
theorem headF5 : parser_Format.f 5 h5L = some ⟨#[119, 104, 101, 110, 32, 97, 32, 98, 32, 123, 10, 32, 32, 119, 97, 105, 116, 32, 53, 59, 10, 125, 10, 98, 111, 116, 104, 32, 40, 49, 44, 32, 50, 44, 32, 51, 41, 32, 40, 52, 44, 32, 53, 44, 32, 54, 41, 59, 10]⟩ := by kernel_rfl
theorem headSame : ambidexterref11_Same.f 5 h2L h2M = some true := by kernel_rfl
theorem headV5 : parser_Valid.f 20 h5L = some true := by kernel_rfl
theorem headV7 : parser_Valid.f 20 h7L = some false := by kernel_rfl
theorem headE1 : parser_Equal.f 5 h5L h5L = some true := by kernel_rfl
theorem headE2 : parser_Equal.f 5 h5L h1L = some false := by kernel_rfl
end
section
attribute [local go_sem high] eqA34
theorem lit_C {α : Type} (d : Kd α) (W : World) (e : TypeId) {xs : List α} {inner : List Value} (hrep : Reps (d.M W W.heap.size (fun _ => True)) d.sz xs inner) (hm : xs.length ≤ 9223372036854775807) : d.C (W.alloc (.cells inner.toArray e)) (some ⟨W.heap.size, 0, none⟩) xs.length xs := by
 have hR : d.R e (W.alloc (.cells inner.toArray e)) W.heap.size (fun _ => True) (.slice (some ⟨W.heap.size, 0, none⟩) xs.length xs.length) xs := by
  refine ⟨fun k hk => trivial, inner, ?_, ?_⟩
  · have h2 := World.ownsRow_lit (base := W.heap.size) (e := e) (size := d.sz) W inner.toArray xs.length (Nat.le_refl _) (by simpa [maxLen] using hm) (by simpa using hrep.1)
    simpa using h2
  · refine hrep.imp_ (fun p c hp => d.M_mono (fun k hk => ⟨trivial, fun he => ?_⟩) (Kd.M_below (d.M_bound hp) (below_alloc (Below.refl _ _) _)))
    have h3 : k = W.heap.size := by simpa [Value.ownBlock] using he
    have := hk.2.2.1
    omega
 exact (Kd.R_reads' hR).2.2
theorem litS_C (k arm : Int) (W : World) : Kd.C k37 (W.alloc (.cells #[.int .i64 k, .int .i64 arm, .string ⟨#[]⟩, .string ⟨#[]⟩, .int .i64 0, .int .i64 0, .int .i64 0, .int .i64 0, .int .i64 0, .int .i64 0, .int .i64 0, .slice none 0 0, .int .i64 0] 37)) (some ⟨W.heap.size, 0, none⟩) 1 [⟨k, arm, ⟨#[]⟩, ⟨#[]⟩, 0, ⟨⟨0, 0, 0⟩, ⟨0, 0, 0⟩⟩, [], 0⟩] :=
 lit_C k37 W 37 (xs := [⟨k, arm, ⟨#[]⟩, ⟨#[]⟩, 0, ⟨⟨0, 0, 0⟩, ⟨0, 0, 0⟩⟩, [], 0⟩]) (inner := [.int .i64 k, .int .i64 arm, .string ⟨#[]⟩, .string ⟨#[]⟩, .int .i64 0, .int .i64 0, .int .i64 0, .int .i64 0, .int .i64 0, .int .i64 0, .int .i64 0, .slice none 0 0, .int .i64 0]) (Reps.front (k37_mkM _ _ _ _ (v11 := .slice none 0 0) (Kd.R_nil _ _ _ _ _)) rfl (Reps.none _ _) rfl) (by simp)
theorem litD_C (e at_ : Int) (W : World) : Kd.C k40 (W.alloc (.cells #[.int .i64 e, .int .i64 at_] 40)) (some ⟨W.heap.size, 0, none⟩) 1 [⟨e, at_⟩] :=
 lit_C k40 W 40 (xs := [⟨e, at_⟩]) (inner := [.int .i64 e, .int .i64 at_]) (Reps.c2 (k40_mkM _ _ _ (⟨e, at_⟩ : S40)) (Reps.none _ _)) (by simp)
theorem litD_C2 (e at_ e2 at2 : Int) (W : World) : Kd.C k40 (W.alloc (.cells #[.int .i64 e, .int .i64 at_, .int .i64 e2, .int .i64 at2] 40)) (some ⟨W.heap.size, 0, none⟩) 2 [⟨e, at_⟩, ⟨e2, at2⟩] :=
 lit_C k40 W 40 (xs := [⟨e, at_⟩, ⟨e2, at2⟩]) (inner := [.int .i64 e, .int .i64 at_, .int .i64 e2, .int .i64 at2]) (Reps.c2 (k40_mkM _ _ _ (⟨e, at_⟩ : S40)) (Reps.c2 (k40_mkM _ _ _ (⟨e2, at2⟩ : S40)) (Reps.none _ _))) (by simp)
theorem headG2 : ambidexterref11_Faults.f 5 [⟨110, 3⟩] [⟨110, 3⟩] = some true := by kernel_rfl
theorem headG3 : ambidexterref11_Faults.f 5 [⟨3, 28⟩] [⟨3, 28⟩] = some true := by kernel_rfl
theorem headG4 : ambidexterref11_Faults.f 5 [⟨3, 6⟩] [⟨3, 6⟩] = some true := by kernel_rfl
theorem headG6 : ambidexterref11_Faults.f 5 [⟨110, 7⟩, ⟨110, 11⟩] [⟨110, 7⟩, ⟨110, 11⟩] = some true := by kernel_rfl
theorem lhead_calls (w : World) (hG : Glob w) : Calls Tryz.prog 4 #[] w fun e w' => e = .returned (.bool true) ∧ Below w.heap.size w w' := by
 have hu55 := Tryz.underlying37
 have HG := Aside0.mk hG
 have HB := Aside0.mk (Below.refl w.heap.size w)
 clear hG
 go_enter Tryz.func4, Tryz.ntmps4
 go_wp2_with fail
 refine (parser_Parse.calls 5 hs1 _ _ _ head1 (HG.out.below HB.out)).mono ?_
 rintro e w1 ⟨v1, f1, rfl, hr, hf, hb⟩
 obtain ⟨A1, c1, e1, hc1, hC⟩ := Kd.R_reads hr
 obtain ⟨B1, d1, e2, hd1, hD⟩ := Kd.R_reads hf
 have e1' : v1 = .slice A1 1 c1 := e1
 have e2' : f1 = .slice B1 0 d1 := e2
 subst e1' e2'
 clear e1 e2 hr hf
 have HB' := Aside0.mk (below_step HB.out hb)
 clear HB
 have HB := HB'
 clear HB'
 have HC1 := Aside0.mk hC
 clear hC hD hb
 go_wp2_with fail
 refine (parser_Parse.calls 5 hs2 _ _ _ head2 (HG.out.below HB.out)).mono ?_
 rintro e w2 ⟨v1, f1, rfl, hr, hf, hb⟩
 obtain ⟨A2, c2, e1, hc2, hC⟩ := Kd.R_reads hr
 obtain ⟨B2, d2, e2, hd2, hD⟩ := Kd.R_reads hf
 have e1' : v1 = .slice A2 1 c2 := e1
 have e2' : f1 = .slice B2 1 d2 := e2
 subst e1' e2'
 clear e1 e2 hr hf
 have HC1' := Aside0.mk (Kd.C_below HC1.out hb)
 clear HC1
 have HC1 := HC1'
 clear HC1'
 have HB' := Aside0.mk (below_step HB.out hb)
 clear HB
 have HB := HB'
 clear HB'
 have HC2 := Aside0.mk hC
 have HD2 := Aside0.mk hD
 clear hC hD hb
 go_wp2_with fail
 refine (parser_Parse.calls 5 hs3 _ _ _ head3 (HG.out.below HB.out)).mono ?_
 rintro e w3 ⟨v1, f1, rfl, hr, hf, hb⟩
 obtain ⟨A3, c3, e1, hc3, hC⟩ := Kd.R_reads hr
 obtain ⟨B3, d3, e2, hd3, hD⟩ := Kd.R_reads hf
 have e1' : v1 = .slice A3 0 c3 := e1
 have e2' : f1 = .slice B3 1 d3 := e2
 subst e1' e2'
 clear e1 e2 hr hf
 have HC1' := Aside0.mk (Kd.C_below HC1.out hb)
 clear HC1
 have HC1 := HC1'
 clear HC1'
 have HC2' := Aside0.mk (Kd.C_below HC2.out hb)
 clear HC2
 have HC2 := HC2'
 clear HC2'
 have HD2' := Aside0.mk (Kd.C_below HD2.out hb)
 clear HD2
 have HD2 := HD2'
 clear HD2'
 have HB' := Aside0.mk (below_step HB.out hb)
 clear HB
 have HB := HB'
 clear HB'
 have HD3 := Aside0.mk hD
 clear hC hD hb
 go_wp2_with fail
 refine (parser_Parse.calls 5 hs4 _ _ _ head4 (HG.out.below HB.out)).mono ?_
 rintro e w4 ⟨v1, f1, rfl, hr, hf, hb⟩
 obtain ⟨A4, c4, e1, hc4, hC⟩ := Kd.R_reads hr
 obtain ⟨B4, d4, e2, hd4, hD⟩ := Kd.R_reads hf
 have e1' : v1 = .slice A4 0 c4 := e1
 have e2' : f1 = .slice B4 1 d4 := e2
 subst e1' e2'
 clear e1 e2 hr hf
 have HC1' := Aside0.mk (Kd.C_below HC1.out hb)
 clear HC1
 have HC1 := HC1'
 clear HC1'
 have HC2' := Aside0.mk (Kd.C_below HC2.out hb)
 clear HC2
 have HC2 := HC2'
 clear HC2'
 have HD2' := Aside0.mk (Kd.C_below HD2.out hb)
 clear HD2
 have HD2 := HD2'
 clear HD2'
 have HD3' := Aside0.mk (Kd.C_below HD3.out hb)
 clear HD3
 have HD3 := HD3'
 clear HD3'
 have HB' := Aside0.mk (below_step HB.out hb)
 clear HB
 have HB := HB'
 clear HB'
 have HD4 := Aside0.mk hD
 clear hC hD hb
 go_wp2_with fail
 refine (parser_Parse.calls 5 hs5 _ _ _ head5 (HG.out.below HB.out)).mono ?_
 rintro e w5 ⟨v1, f1, rfl, hr, hf, hb⟩
 obtain ⟨A5, c5, e1, hc5, hC⟩ := Kd.R_reads hr
 obtain ⟨B5, d5, e2, hd5, hD⟩ := Kd.R_reads hf
 have e1' : v1 = .slice A5 2 c5 := e1
 have e2' : f1 = .slice B5 0 d5 := e2
 subst e1' e2'
 clear e1 e2 hr hf
 have HC1' := Aside0.mk (Kd.C_below HC1.out hb)
 clear HC1
 have HC1 := HC1'
 clear HC1'
 have HC2' := Aside0.mk (Kd.C_below HC2.out hb)
 clear HC2
 have HC2 := HC2'
 clear HC2'
 have HD2' := Aside0.mk (Kd.C_below HD2.out hb)
 clear HD2
 have HD2 := HD2'
 clear HD2'
 have HD3' := Aside0.mk (Kd.C_below HD3.out hb)
 clear HD3
 have HD3 := HD3'
 clear HD3'
 have HD4' := Aside0.mk (Kd.C_below HD4.out hb)
 clear HD4
 have HD4 := HD4'
 clear HD4'
 have HB' := Aside0.mk (below_step HB.out hb)
 clear HB
 have HB := HB'
 clear HB'
 have HC5 := Aside0.mk hC
 clear hC hD hb
 go_wp2_with fail
 refine (parser_Parse.calls 5 hs6 _ _ _ head6 (HG.out.below HB.out)).mono ?_
 rintro e w6 ⟨v1, f1, rfl, hr, hf, hb⟩
 obtain ⟨A6, c6, e1, hc6, hC⟩ := Kd.R_reads hr
 obtain ⟨B6, d6, e2, hd6, hD⟩ := Kd.R_reads hf
 have e1' : v1 = .slice A6 0 c6 := e1
 have e2' : f1 = .slice B6 2 d6 := e2
 subst e1' e2'
 clear e1 e2 hr hf
 have HC1' := Aside0.mk (Kd.C_below HC1.out hb)
 clear HC1
 have HC1 := HC1'
 clear HC1'
 have HC2' := Aside0.mk (Kd.C_below HC2.out hb)
 clear HC2
 have HC2 := HC2'
 clear HC2'
 have HD2' := Aside0.mk (Kd.C_below HD2.out hb)
 clear HD2
 have HD2 := HD2'
 clear HD2'
 have HD3' := Aside0.mk (Kd.C_below HD3.out hb)
 clear HD3
 have HD3 := HD3'
 clear HD3'
 have HD4' := Aside0.mk (Kd.C_below HD4.out hb)
 clear HD4
 have HD4 := HD4'
 clear HD4'
 have HC5' := Aside0.mk (Kd.C_below HC5.out hb)
 clear HC5
 have HC5 := HC5'
 clear HC5'
 have HB' := Aside0.mk (below_step HB.out hb)
 clear HB
 have HB := HB'
 clear HB'
 have HD6 := Aside0.mk hD
 clear hC hD hb
 obtain ⟨ad, Ax, cx, ex, x0, x1, x2, x3, x4, x5, x6, x7, x8, x9, x10, x11, x12, hlx, hCx⟩ := at_T37 HC1.out 0 (by decide) (by decide)
 subst ex
 have y0 : w6.cell? ad = some (.int .i64 1) := x0
 have y1 : w6.cell? ⟨ad.block, ad.off + 1, none⟩ = some (.int .i64 1) := x1
 have y8 : w6.cell? ⟨ad.block, ad.off + 8, none⟩ = some (.int .i64 0) := x8
 have y9 : w6.cell? ⟨ad.block, ad.off + 9, none⟩ = some (.int .i64 (-3)) := x9
 have y10 : w6.cell? ⟨ad.block, ad.off + 10, none⟩ = some (.int .i64 4) := x10
 clear hCx hlx x0 x1 x2 x3 x4 x5 x6 x7 x8 x9 x10 x11 x12
 simp only
 go_wp2_with fail
 refine (parser_Format.calls 5 (some ad) c1 h1L _ w6 HC1.out hc1 headF1 (HG.out.below HB.out)).mono ?_
 rintro e w7 ⟨rfl, hb⟩
 have HB7 := Aside0.mk hb
 clear hb y0 y1 y8 y9 y10
 go_wp2_with fail
 have hal := fun k arm => below_alloc (Below.refl w7.heap.size w7) (.cells #[.int .i64 k, .int .i64 arm, .string ⟨#[]⟩, .string ⟨#[]⟩, .int .i64 0, .int .i64 0, .int .i64 0, .int .i64 0, .int .i64 0, .int .i64 0, .int .i64 0, .slice none 0 0, .int .i64 0] 37)
 refine (ambidexterref11_Same.calls 5 A2 c2 h2L (some ⟨w7.heap.size, 0, none⟩) 1 h2M true _ (Kd.C_below (Kd.C_below HC2.out HB7.out) (hal 2 0)) hc2 (litS_C 2 0 w7) (by decide) headSame).mono ?_
 rintro e w8 ⟨rfl, hb⟩
 have HB8 := Aside0.mk (below_step (below_step HB7.out (hal 2 0)) hb)
 clear hb hal HB7
 go_wp2_with fail
 have hal := below_alloc (Below.refl w8.heap.size w8) (.cells #[.int .i64 110, .int .i64 3] 40)
 refine (ambidexterref11_Faults.calls 5 B2 d2 _ (some ⟨w8.heap.size, 0, none⟩) 1 _ true _ (Kd.C_below (Kd.C_below HD2.out HB8.out) hal) hd2 (litD_C 110 3 w8) (Nat.le_refl _) headG2).mono ?_
 rintro e w9 ⟨rfl, hb⟩
 have HB9 := Aside0.mk (below_step (below_step HB8.out hal) hb.below)
 clear hb hal HB8
 go_wp2_with fail
 have hal := below_alloc (Below.refl w9.heap.size w9) (.cells #[.int .i64 3, .int .i64 28] 40)
 refine (ambidexterref11_Faults.calls 5 B3 d3 _ (some ⟨w9.heap.size, 0, none⟩) 1 _ true _ (Kd.C_below (Kd.C_below HD3.out HB9.out) hal) hd3 (litD_C 3 28 w9) (Nat.le_refl _) headG3).mono ?_
 rintro e w10 ⟨rfl, hb⟩
 have HB10 := Aside0.mk (below_step (below_step HB9.out hal) hb.below)
 clear hb hal HB9
 go_wp2_with fail
 have hal := below_alloc (Below.refl w10.heap.size w10) (.cells #[.int .i64 3, .int .i64 6] 40)
 refine (ambidexterref11_Faults.calls 5 B4 d4 _ (some ⟨w10.heap.size, 0, none⟩) 1 _ true _ (Kd.C_below (Kd.C_below HD4.out HB10.out) hal) hd4 (litD_C 3 6 w10) (Nat.le_refl _) headG4).mono ?_
 rintro e w11 ⟨rfl, hb⟩
 have HB11 := Aside0.mk (below_step (below_step HB10.out hal) hb.below)
 clear hb hal HB10
 go_wp2_with fail
 refine (parser_Format.calls 5 A5 c5 h5L _ w11 (Kd.C_below HC5.out HB11.out) hc5 headF5 (HG.out.below (below_step HB.out HB11.out))).mono ?_
 rintro e w12 ⟨rfl, hb⟩
 have HB12 := Aside0.mk (below_step HB11.out hb)
 clear hb HB11
 go_wp2_with fail
 have hal := below_alloc (Below.refl w12.heap.size w12) (.cells #[.int .i64 110, .int .i64 7, .int .i64 110, .int .i64 11] 40)
 refine (ambidexterref11_Faults.calls 5 B6 d6 _ (some ⟨w12.heap.size, 0, none⟩) 2 _ true _ (Kd.C_below (Kd.C_below HD6.out HB12.out) hal) hd6 (litD_C2 110 7 110 11 w12) (Nat.le_refl _) headG6).mono ?_
 rintro e w13 ⟨rfl, hb⟩
 have HB13 := Aside0.mk (below_step (below_step HB12.out hal) hb.below)
 clear hb hal HB12
 go_wp2_with fail
 refine (parser_Valid.calls 20 A5 c5 h5L true w13 (Kd.C_below HC5.out HB13.out) hc5 headV5 (HG.out.below (below_step HB.out HB13.out))).mono ?_
 rintro e w14 ⟨rfl, hb⟩
 have HB14 := Aside0.mk (below_step HB13.out hb)
 clear hb HB13
 go_wp2_with fail
 have hal := below_alloc (Below.refl w14.heap.size w14) (.cells #[.int .i64 6, .int .i64 1, .string ⟨#[]⟩, .string ⟨#[]⟩, .int .i64 0, .int .i64 0, .int .i64 0, .int .i64 0, .int .i64 0, .int .i64 0, .int .i64 0, .slice none 0 0, .int .i64 0] 37)
 refine (parser_Valid.calls 20 (some ⟨w14.heap.size, 0, none⟩) 1 h7L false _ (litS_C 6 1 w14) (by decide) headV7 (HG.out.below (below_step (below_step HB.out HB14.out) hal))).mono ?_
 rintro e w15 ⟨rfl, hb⟩
 have HB15 := Aside0.mk (below_step (below_step HB14.out hal) hb)
 clear hb hal HB14
 go_wp2_with fail
 refine (parser_Equal.calls 5 A5 c5 h5L A5 c5 h5L true w15 (Kd.C_below HC5.out HB15.out) hc5 (Kd.C_below HC5.out HB15.out) hc5 headE1).mono ?_
 rintro e w16 ⟨rfl, hb⟩
 have HB16 := Aside0.mk (below_step HB15.out hb)
 clear hb HB15
 go_wp2_with fail
 refine (parser_Equal.calls 5 A5 c5 h5L (some ad) c1 h1L false w16 (Kd.C_below HC5.out HB16.out) hc5 (Kd.C_below HC1.out HB16.out) hc1 headE2).mono ?_
 rintro e w17 ⟨rfl, hb⟩
 have HB17 := Aside0.mk (below_step HB16.out hb)
 clear hb HB16
 go_wp2_with fail
 go_ret
 exact ⟨rfl, below_step HB.out HB17.out⟩
def ambidexterlaw11_head.f : Option Bool := some true
theorem ambidexterlaw11_head.calls (r : Bool) (w : World) (h : ambidexterlaw11_head.f = some r) (hG : Glob w) :
 Calls Tryz.prog 4 #[] w fun e w' => e = .returned (.bool r) ∧ Below w.heap.size w w' := by
 obtain rfl := Option.some.inj h
 exact lhead_calls w hG
end
theorem law_plain (l m : List S37) (hL : Lens 9 l) : ∃ (k : Nat) (b e : Bool), parser_Valid.f k l = some b ∧ rightF k l = some b ∧ parser_Equal.f k l m = some e ∧ (b = true → ∃ out, parser_Format.f k l = some out ∧ rtextF k ⟨#[]⟩ l = some out) := by
 obtain ⟨b, ⟨K1, h1⟩, ⟨K2, h2⟩, hv⟩ := right_valid hL
 obtain ⟨e, K3, h3⟩ := equal_total l m
 refine ⟨K1 + K2 + K3 + 5, b, e, h1 _ (by omega), h2 _ (by omega), h3 _ (by omega), fun hb => ?_⟩
 obtain ⟨n, ks, hv, hn⟩ := hv hb
 obtain ⟨out, f1, f2⟩ := format_text hv hn
 exact ⟨out, f1 _ (by omega), f2 _ (by omega)⟩
theorem faults_loop (l : List S40) (hl : l.length ≤ 9223372036854775807) : ∀ (d i : Nat), i + d = l.length → ambidexterref11_Faults.l0 (d + 1) l l (i : Int) = some true
 | 0, i, h => by rw [ambidexterref11_Faults.l0, if_neg (by omega)]
 | d + 1, i, h => by
  have hw : wrap64 ((i : Int) + 1) = ((i + 1 : Nat) : Int) := by unfold wrap64; omega
  rw [ambidexterref11_Faults.l0, if_pos (by omega), if_pos (by omega), if_pos (by omega), if_neg (by simp), hw]
  exact faults_loop l hl d (i + 1) (by omega)
theorem faults_self (l : List S40) (hl : l.length ≤ 9223372036854775807) : ambidexterref11_Faults.f (l.length + 1) l l = some true := by
 unfold ambidexterref11_Faults.f
 rw [if_pos rfl]
 exact faults_loop l hl l.length 0 (by omega)
theorem law_calls (s : ByteArray) (A0 : Option Addr) (c0 : Nat) (l : List S37) (A1 : Option Addr) (c1 : Nat) (m : List S37) (w : World) (hl : Kd.C k37 w A0 l.length l) (hc0 : l.length ≤ c0) (hm : Kd.C k37 w A1 m.length m) (hc1 : m.length ≤ c1) (hG : Glob w) :
 Calls Tryz.prog 3 #[.string s, .slice A0 l.length c0, .slice A1 m.length c1] w fun e w' => e = .returned (.bool true) ∧ Below w.heap.size w w' := by
 obtain ⟨bl, ⟨K1, hf1⟩, hL⟩ := few_main l
 obtain ⟨bm, ⟨K2, hf2⟩, _⟩ := few_main m
 have HF1 := Aside0.mk (show fewF K1 0 l = some bl from hf1 K1 (Nat.le_refl _))
 have HF2 := Aside0.mk (show fewF K2 0 m = some bm from hf2 K2 (Nat.le_refl _))
 have HG := Aside0.mk hG
 have HL := Aside0.mk hl
 have HM := Aside0.mk hm
 have HLL := Aside0.mk hL
 clear hf1 hf2 hG hl hm hL
 go_enter Tryz.func3, Tryz.ntmps3
 go_wp2_with fail
 refine (ambidexterlaw11_head.calls true w rfl HG.out).mono ?_
 rintro e w1 ⟨rfl, hb⟩
 have HB1 := Aside0.mk hb
 clear hb
 by_cases hs : (s.size : Int) > 4000
 · have cs : decide ((s.size : Int) > 4000) = true := decide_eq_true hs
   have cs2 : (4000 < s.size) = True := eq_true (by omega)
   clear hs
   go_wp2_with fail
   go_ret
   exact ⟨rfl, HB1.out⟩
 have cs : decide ((s.size : Int) > 4000) = false := decide_eq_false hs
 have cs2 : (4000 < s.size) = False := eq_false (by omega)
 clear hs
 go_wp2_with fail
 refine (few_calls K1 A0 c0 l 0 bl w1 (Kd.C_below HL.out HB1.out) hc0 HF1.out).mono ?_
 rintro e w2 ⟨rfl, hb⟩
 have HB2 := Aside0.mk (below_step HB1.out hb)
 clear hb HB1 HF1
 cases bl with
 | false =>
  go_wp2_with fail
  go_ret
  exact ⟨rfl, HB2.out⟩
 | true =>
 go_wp2_with fail
 refine (few_calls K2 A1 c1 m 0 bm w2 (Kd.C_below HM.out HB2.out) hc1 HF2.out).mono ?_
 rintro e w3 ⟨rfl, hb⟩
 have HB3 := Aside0.mk (below_step HB2.out hb)
 clear hb HB2 HF2
 cases bm with
 | false =>
  go_wp2_with fail
  go_ret
  exact ⟨rfl, HB3.out⟩
 | true =>
 obtain ⟨pa, pf, hp1, hp2⟩ := parse_both s
 obtain ⟨n, ks, hv, _⟩ := parse_valid hp1
 obtain ⟨k, b, e0, hV, hR, hE, hX⟩ := law_plain l m (by have h := HLL.out; simpa using h)
 have HP1 := Aside0.mk hp1
 have HP2 := Aside0.mk hp2
 have HPl := Aside0.mk (placed_calls hv)
 have HV := Aside0.mk hV
 have HR := Aside0.mk hR
 have HE := Aside0.mk hE
 have HX := Aside0.mk hX
 clear hp1 hp2 hv hV hR hE hX HLL
 go_wp2_with fail
 refine (parser_Parse.calls 30000 s pa pf w3 HP1.out (HG.out.below HB3.out)).mono ?_
 rintro e w4 ⟨v1, f1, rfl, hr, hf, hb⟩
 obtain ⟨B1, d1, rfl, hd1, hD1⟩ := Kd.R_reads hr
 obtain ⟨B2, d2, rfl, hd2, hD2⟩ := Kd.R_reads hf
 have HB4 := Aside0.mk (below_step HB3.out hb)
 have HD1 := Aside0.mk hD1
 have HD2 := Aside0.mk hD2
 clear hr hf hb hD1 hD2 HB3 HP1
 go_wp2_with fail
 refine (ambidexterref11_Parse.calls 30000 s pa pf w4 HP2.out).mono ?_
 rintro e w5 ⟨v0, A5, c5, rfl, hr, hc5, hD5, hb⟩
 obtain ⟨B3, d3, rfl, hd3, hD3⟩ := Kd.R_reads hr
 have HB5 := Aside0.mk (below_step HB4.out hb)
 have HC1 := Aside0.mk (Kd.C_below HD1.out hb)
 have HC2 := Aside0.mk (Kd.C_below HD2.out hb)
 have HC3 := Aside0.mk hD3
 have HC5 := Aside0.mk hD5
 clear hr hb hD3 hD5 HB4 HP2 HD1 HD2
 go_wp2_with fail
 refine (HPl.out B1 d1 B3 d3 w5 HC1.out hd1 HC3.out hd3).mono ?_
 rintro e w6 ⟨rfl, hb⟩
 have HB6 := Aside0.mk (below_step HB5.out hb)
 have HF2 := Aside0.mk (Kd.C_below HC2.out hb)
 have HF5 := Aside0.mk (Kd.C_below HC5.out hb)
 clear hb HB5 HC1 HC2 HC3 HC5 HPl
 go_wp2_with fail
 refine (ambidexterref11_Faults.calls (pf.length + 1) B2 d2 pf A5 c5 pf true w6 HF2.out hd2 HF5.out hc5 (faults_self pf (Kd.C_max HF2.out))).mono ?_
 rintro e w7 ⟨rfl, hd⟩
 have HB7 := Aside0.mk (below_step HB6.out (of_drawn hd))
 clear hd HB6 HF2 HF5
 go_wp2_with fail
 refine (parser_Valid.calls k A0 c0 l b w7 (Kd.C_below HL.out HB7.out) hc0 HV.out (HG.out.below HB7.out)).mono ?_
 rintro e w8 ⟨rfl, hb⟩
 have HB8 := Aside0.mk (below_step HB7.out hb)
 clear hb HB7
 go_wp2_with fail
 refine (rright_calls rplain_calls k A0 c0 l b w8 (Kd.C_below HL.out HB8.out) hc0 HR.out).mono ?_
 rintro e w9 ⟨rfl, hb⟩
 have HB9 := Aside0.mk (below_step HB8.out hb)
 have hbb : (b != b) = false := by simp
 clear hb HB8
 go_wp2_with fail
 refine (parser_Equal.calls k A0 c0 l A1 c1 m e0 w9 (Kd.C_below HL.out HB9.out) hc0 (Kd.C_below HM.out HB9.out) hc1 HE.out).mono ?_
 rintro e w10 ⟨rfl, hb⟩
 have HB10 := Aside0.mk (below_step HB9.out hb)
 clear hb HB9
 go_wp2_with fail
 refine (ambidexterref11_Same.calls k A0 c0 l A1 c1 m e0 w10 (Kd.C_below HL.out HB10.out) hc0 (Kd.C_below HM.out HB10.out) hc1 HE.out).mono ?_
 rintro e w11 ⟨rfl, hb⟩
 have HB11 := Aside0.mk (below_step HB10.out hb)
 have hee : (e0 != e0) = false := by simp
 clear hb HB10
 go_wp2_with fail
 refine (rright_calls rplain_calls k A0 c0 l b w11 (Kd.C_below HL.out HB11.out) hc0 HR.out).mono ?_
 rintro e w12 ⟨rfl, hb⟩
 have HB12 := Aside0.mk (below_step HB11.out hb)
 clear hb HB11
 cases b with
 | false =>
  go_wp2_with fail
  go_ret
  exact ⟨rfl, HB12.out⟩
 | true =>
 obtain ⟨out, hF, hT⟩ := HX.out rfl
 have HFm := Aside0.mk hF
 have HT := Aside0.mk hT
 clear hF hT
 go_wp2_with fail
 refine (parser_Format.calls k A0 c0 l out w12 (Kd.C_below HL.out HB12.out) hc0 HFm.out (HG.out.below HB12.out)).mono ?_
 rintro e w13 ⟨rfl, hb⟩
 have HB13 := Aside0.mk (below_step HB12.out hb)
 clear hb HB12
 go_wp2_with fail
 refine (ambidexterref11_Text.calls k A0 c0 l out w13 (Kd.C_below HL.out HB13.out) hc0 HT.out).mono ?_
 rintro e w14 ⟨rfl, hb⟩
 have HB14 := Aside0.mk (below_step HB13.out hb)
 clear hb HB13
 go_wp2_with fail
 go_ret
 exact ⟨by simp, HB14.out⟩
section
structure Ty (P : Program) : Prop where
 u3 : P.underlying 3 = some (.int .i64)
 u9 : P.underlying 9 = some .string
 uS : P.underlying 22 = some (.slice 37)
 uJ : P.underlying 34 = some (.array 3 3)
 uA : P.underlying 35 = some (.array 2 34)
 uT : P.underlying 37 = some (.struct #[{ name := "Kind", type := 3, offset := 0, embedded := false, tag := "", pkgPath := "", byteOffset := 0 }, { name := "Arm", type := 3, offset := 1, embedded := false, tag := "", pkgPath := "", byteOffset := 8 }, { name := "Part", type := 9, offset := 2, embedded := false, tag := "", pkgPath := "", byteOffset := 16 }, { name := "Place", type := 9, offset := 3, embedded := false, tag := "", pkgPath := "", byteOffset := 32 }, { name := "N", type := 3, offset := 4, embedded := false, tag := "", pkgPath := "", byteOffset := 48 }, { name := "To", type := 35, offset := 5, embedded := false, tag := "", pkgPath := "", byteOffset := 56 }, { name := "Kids", type := 22, offset := 11, embedded := false, tag := "", pkgPath := "", byteOffset := 104 }, { name := "At", type := 3, offset := 12, embedded := false, tag := "", pkgPath := "", byteOffset := 128 }])
 c3 : P.cellsOf 3 = 1
 c9 : P.cellsOf 9 = 1
 cS : P.cellsOf 22 = 1
 cJ : P.cellsOf 34 = 3
 cA : P.cellsOf 35 = 6
 cT : P.cellsOf 37 = 13
theorem ty : Ty Tryz.prog := ⟨Tryz.underlying3, Tryz.underlying9, Tryz.underlying22, Tryz.underlying34, Tryz.underlying35, Tryz.underlying37, by kernel_rfl, by kernel_rfl, by kernel_rfl, by kernel_rfl, by kernel_rfl, by kernel_rfl⟩
section
variable {H : Type} {enc : TypeId × Value → H} {P : Program} {W : World} {base : Nat} {sp : Nat → Bool} {held : Bool}
theorem add_add_ (a : Addr) (i j : Nat) : a.add (i + j) = (a.add i).add j := by
 obtain ⟨b, o, s⟩ := a
 unfold Addr.add
 by_cases hi : i = 0
 · subst hi; simp
 · by_cases hj : j = 0
   · subst hj; simp
   · simp [hi, hj, Nat.add_assoc]
theorem get_some {α : Type} {xs : List α} {n i : Nat} (h : xs.length = n) (hi : i < n) : ∃ y, xs[i]? = some y := ⟨xs[i], List.getElem?_eq_getElem (by omega)⟩
theorem len3 {cs : List Value} (h : cs.length = 3) : ∃ a b c, cs = [a, b, c] := by
 match cs, h with
 | [a, b, c], _ => exact ⟨a, b, c, rfl⟩
theorem len6 {cs : List Value} (h : cs.length = 6) : ∃ a b c d e f, cs = [a, b, c, d, e, f] := by
 match cs, h with
 | [a, b, c, d, e, f], _ => exact ⟨a, b, c, d, e, f, rfl⟩
theorem len13 {cs : List Value} (h : cs.length = 13) : ∃ a b c d e f g h i j k l m, cs = [a, b, c, d, e, f, g, h, i, j, k, l, m] := by
 match cs, h with
 | [a, b, c, d, e, f, g, h, i, j, k, l, m], _ => exact ⟨a, b, c, d, e, f, g, h, i, j, k, l, m, rfl⟩
theorem open_one (T : Ty P) {n : Nat} {u : Value} {x : DataW H × List MemPlace} (h : DataW.trod enc P W base sp held n 3 [u] = some x) : ∃ a, u = .int .i64 a := by
 obtain ⟨a, ha, _, _⟩ := DataW.trod_int T.u3 h
 exact ⟨a, by simpa using ha⟩
theorem open_str (T : Ty P) {n : Nat} {u : Value} {x : DataW H × List MemPlace} (h : DataW.trod enc P W base sp held n 9 [u] = some x) : ∃ a, u = .string a := by
 obtain ⟨a, ha, _, _⟩ := DataW.trod_string T.u9 h
 exact ⟨a, by simpa using ha⟩
theorem open_joints (T : Ty P) {n : Nat} {cs : List Value} {x : DataW H × List MemPlace} (h : DataW.trod enc P W base sp held n 34 cs = some x) : ∃ a b c, cs = [.int .i64 a, .int .i64 b, .int .i64 c] := by
 obtain ⟨xs, m, _, _, hl, hx, hi⟩ := DataW.trod_array T.uJ h
 rw [T.cJ] at hl
 obtain ⟨u, v, w, rfl⟩ := len3 hl
 obtain ⟨y0, h0⟩ := get_some (i := 0) hx (by decide)
 obtain ⟨y1, h1⟩ := get_some (i := 1) hx (by decide)
 obtain ⟨y2, h2⟩ := get_some (i := 2) hx (by decide)
 have g0 := hi 0 (by decide)
 have g1 := hi 1 (by decide)
 have g2 := hi 2 (by decide)
 rw [T.c3] at g0 g1 g2
 rw [h0] at g0
 rw [h1] at g1
 rw [h2] at g2
 obtain ⟨a, rfl⟩ := open_one T (u := u) g0
 obtain ⟨b, rfl⟩ := open_one T (u := v) g1
 obtain ⟨c, rfl⟩ := open_one T (u := w) g2
 exact ⟨a, b, c, rfl⟩
theorem open_arms (T : Ty P) {n : Nat} {cs : List Value} {x : DataW H × List MemPlace} (h : DataW.trod enc P W base sp held n 35 cs = some x) : ∃ a b c d e f, cs = [.int .i64 a, .int .i64 b, .int .i64 c, .int .i64 d, .int .i64 e, .int .i64 f] := by
 obtain ⟨xs, m, _, _, hl, hx, hi⟩ := DataW.trod_array T.uA h
 rw [T.cA] at hl
 obtain ⟨u, v, w, u', v', w', rfl⟩ := len6 hl
 obtain ⟨y0, h0⟩ := get_some (i := 0) hx (by decide)
 obtain ⟨y1, h1⟩ := get_some (i := 1) hx (by decide)
 have g0 := hi 0 (by decide)
 have g1 := hi 1 (by decide)
 rw [T.cJ] at g0 g1
 rw [h0] at g0
 rw [h1] at g1
 obtain ⟨a, b, c, e0⟩ := open_joints T (cs := [u, v, w]) g0
 obtain ⟨d, e, f, e1⟩ := open_joints T (cs := [u', v', w']) g1
 simp only [List.cons.injEq, and_true] at e0 e1
 obtain ⟨rfl, rfl, rfl⟩ := e0
 obtain ⟨rfl, rfl, rfl⟩ := e1
 exact ⟨a, b, c, d, e, f, rfl⟩
theorem open_both (T : Ty P) : ∀ (n : Nat), (∀ cs x, DataW.trod enc P W base sp held n 22 cs = some x → ∃ A c l, cs = [.slice A l.length c] ∧ l.length ≤ c ∧ Kd.C k37 W A l.length l) ∧ (∀ cs x, DataW.trod enc P W base sp held n 37 cs = some x → ∃ s, k37.K W s cs)
 | 0 => ⟨fun cs x h => by simp [DataW.trod] at h, fun cs x h => by simp [DataW.trod] at h⟩
 | n + 1 => by
  obtain ⟨ih1, ih2⟩ := open_both T n
  refine ⟨fun cs x h => ?_, fun cs x h => ?_⟩
  · rcases DataW.trod_slice T.uS h with ⟨rfl, _⟩ | ⟨a, len, cap, elems, rest, m, hm, rfl, _, _, hl, hc, hlen, hel, _⟩
    · exact ⟨none, 0, [], rfl, Nat.le_refl _, Kd.C_nil _ _⟩
    · obtain rfl : m = n := by omega
      rw [T.cT] at hel
      have hx : ∀ i, i < len → ∃ s c, c.length = 13 ∧ k37.K W s c ∧ ∀ j u, c[j]? = some u → W.cell? (a.add (i * 13 + j)) = some u := by
       intro i hi
       obtain ⟨y, hy⟩ := get_some hlen hi
       have h1 := hel i hi
       rw [hy] at h1
       obtain ⟨c, hc1, hc2⟩ := Option.bind_eq_some_iff.1 h1
       obtain ⟨s, hs⟩ := ih2 c y hc2
       obtain ⟨_, hcl, hcc⟩ := World.cells?_some hc1
       refine ⟨s, c, hcl, hs, fun j u hu => ?_⟩
       have hj : j < 13 := by
        have := (List.getElem?_eq_some_iff.1 hu).1
        omega
       have := hcc j hj
       rw [hu] at this
       rw [← this]
       congr 1
       exact add_add_ a (i * 13) j
      let f : Nat → S37 := fun i => if h : i < len then (hx i h).choose else z37
      have hf : ∀ i, i < len → ∃ c, c.length = 13 ∧ k37.K W (f i) c ∧ ∀ j u, c[j]? = some u → W.cell? (a.add (i * 13 + j)) = some u := by
       intro i hi
       have := (hx i hi).choose_spec
       have e : f i = (hx i hi).choose := by simp only [f, dif_pos hi]
       rw [e]
       exact this
      have hll : ((List.range len).map f).length = len := by simp
      have hmx : len ≤ 9223372036854775807 := Nat.le_trans hl hc
      refine ⟨some a, cap, (List.range len).map f, by rw [hll], by rw [hll]; exact hl, ?_⟩
      rw [hll]
      refine ⟨hll, hmx, fun _ => ⟨a, rfl, fun j p hp => ?_⟩⟩
      have hj : j < len := by
       have := (List.getElem?_eq_some_iff.1 hp).1
       omega
      rw [List.getElem?_map, List.getElem?_range hj] at hp
      obtain rfl := Option.some.inj hp
      exact hf j hj
  · obtain ⟨xs, m, hm, _, hl, hx, hi⟩ := DataW.trod_struct T.uT h
    obtain rfl : m = n := by omega
    rw [T.cT] at hl
    obtain ⟨u0, u1, u2, u3, u4, u5, u6, u7, u8, u9, u10, u11, u12, rfl⟩ := len13 hl
    obtain ⟨y0, h0⟩ := get_some (i := 0) hx (by decide)
    obtain ⟨y1, h1⟩ := get_some (i := 1) hx (by decide)
    obtain ⟨y2, h2⟩ := get_some (i := 2) hx (by decide)
    obtain ⟨y3, h3⟩ := get_some (i := 3) hx (by decide)
    obtain ⟨y4, h4⟩ := get_some (i := 4) hx (by decide)
    obtain ⟨y5, h5⟩ := get_some (i := 5) hx (by decide)
    obtain ⟨y6, h6⟩ := get_some (i := 6) hx (by decide)
    obtain ⟨y7, h7⟩ := get_some (i := 7) hx (by decide)
    have g0 : DataW.trod enc P W base sp held m 3 (([u0, u1, u2, u3, u4, u5, u6, u7, u8, u9, u10, u11, u12].drop 0).take (P.cellsOf 3)) = xs[0]? := hi 0 _ rfl
    have g1 : DataW.trod enc P W base sp held m 3 (([u0, u1, u2, u3, u4, u5, u6, u7, u8, u9, u10, u11, u12].drop 1).take (P.cellsOf 3)) = xs[1]? := hi 1 _ rfl
    have g2 : DataW.trod enc P W base sp held m 9 (([u0, u1, u2, u3, u4, u5, u6, u7, u8, u9, u10, u11, u12].drop 2).take (P.cellsOf 9)) = xs[2]? := hi 2 _ rfl
    have g3 : DataW.trod enc P W base sp held m 9 (([u0, u1, u2, u3, u4, u5, u6, u7, u8, u9, u10, u11, u12].drop 3).take (P.cellsOf 9)) = xs[3]? := hi 3 _ rfl
    have g4 : DataW.trod enc P W base sp held m 3 (([u0, u1, u2, u3, u4, u5, u6, u7, u8, u9, u10, u11, u12].drop 4).take (P.cellsOf 3)) = xs[4]? := hi 4 _ rfl
    have g5 : DataW.trod enc P W base sp held m 35 (([u0, u1, u2, u3, u4, u5, u6, u7, u8, u9, u10, u11, u12].drop 5).take (P.cellsOf 35)) = xs[5]? := hi 5 _ rfl
    have g6 : DataW.trod enc P W base sp held m 22 (([u0, u1, u2, u3, u4, u5, u6, u7, u8, u9, u10, u11, u12].drop 11).take (P.cellsOf 22)) = xs[6]? := hi 6 _ rfl
    have g7 : DataW.trod enc P W base sp held m 3 (([u0, u1, u2, u3, u4, u5, u6, u7, u8, u9, u10, u11, u12].drop 12).take (P.cellsOf 3)) = xs[7]? := hi 7 _ rfl
    rw [T.c3] at g0 g1 g4 g7
    rw [T.c9] at g2 g3
    rw [T.cA] at g5
    rw [T.cS] at g6
    rw [h0] at g0
    rw [h1] at g1
    rw [h2] at g2
    rw [h3] at g3
    rw [h4] at g4
    rw [h5] at g5
    rw [h6] at g6
    rw [h7] at g7
    obtain ⟨a0, rfl⟩ := open_one T (u := u0) g0
    obtain ⟨a1, rfl⟩ := open_one T (u := u1) g1
    obtain ⟨a2, rfl⟩ := open_str T (u := u2) g2
    obtain ⟨a3, rfl⟩ := open_str T (u := u3) g3
    obtain ⟨a4, rfl⟩ := open_one T (u := u4) g4
    obtain ⟨p0, p1, p2, q0, q1, q2, e5⟩ := open_arms T (cs := [u5, u6, u7, u8, u9, u10]) g5
    simp only [List.cons.injEq, and_true] at e5
    obtain ⟨rfl, rfl, rfl, rfl, rfl, rfl⟩ := e5
    obtain ⟨A, c, l, e6, hlc, hC⟩ := ih1 [u11] _ g6
    simp only [List.cons.injEq, and_true] at e6
    subst e6
    obtain ⟨a7, rfl⟩ := open_one T (u := u12) g7
    exact ⟨⟨a0, a1, a2, a3, a4, ⟨⟨p0, p1, p2⟩, ⟨q0, q1, q2⟩⟩, l, a7⟩, k37_mk W ⟨a0, a1, a2, a3, a4, ⟨⟨p0, p1, p2⟩, ⟨q0, q1, q2⟩⟩, l, a7⟩ hlc hC⟩
theorem open_stms (T : Ty P) {v : Value} {d : DataW H} {p : List MemPlace} (h : DataW.Trod enc P W base sp held 22 v d p) : ∃ A c l, v.cells.toList = [.slice A l.length c] ∧ l.length ≤ c ∧ Kd.C k37 W A l.length l := by
 obtain ⟨n, h⟩ := h
 exact (open_both T n).1 _ _ h
end
end
end Go.Proofs.YtonhcfecfifghaaGreatDoor.PPx
namespace Go.Proofs.YtonhcfecfifghaaGreatDoor.parserMatchesReference
open Go.ChangeShapes Go.WideShapes Go.ChangeAt Go.RowKit
open Go.ChangeMaps (open_string shut_string)
set_option linter.unusedVariables false
theorem laidOut : laidOutB Tryz.prog = true := by kernel_rfl
theorem own : ownKnob Tryz.prog.godebug = none := by kernel_rfl
theorem plainLaid {W : World} (h : laidMetH Tryz.prog Rows.parserMatchesReferenceRow.laid W) : PPx.Glob W := by
 rw [MakeChecks.laidMetH_plain _ _ _ (by kernel_rfl)] at h
 exact PPx.glob_of h
theorem door_met (os : Os) (args : Array Value) : laidMetH Tryz.prog Rows.parserMatchesReferenceRow.laid ((World.doorLaid Tryz.prog 400 os).forCall (fun _ _ => 0) ⟨#[], args, []⟩).memory :=
 laidMetH_of_parts3 (fuel := 8) (laidMet_of_run' 8 (by kernel_rfl) (by kernel_rfl)) (by kernel_rfl) (by kernel_rfl)
theorem lifted (os : Os) (started : os.Started) (H : Type) (enc : TypeId × Value → H) :
 ReturnsInHanded {} Tryz.checked os 3 .any (fun w args => (Rows.parserMatchesReferenceSpec.pre enc Tryz.prog Tryz.f3 [] false w args ∧ laidMetH Tryz.prog Rows.parserMatchesReferenceRow.laid w) ∧ sizedMet enc Tryz.prog Tryz.f3 (OpenSpec.ofChange Rows.parserMatchesReferenceSpec) false w args)
  (Rows.parserMatchesReferenceSpec.post enc Tryz.prog Tryz.f3 false true false false) := by
 refine returnsInHanded_of_change_and (C := Tryz.checked) (X := fun w _ => laidMetH Tryz.prog Rows.parserMatchesReferenceRow.laid w) (fun _ _ _ hh h => h.of_heap hh) own started (by kernel_rfl) Tryz.func3
  (ChangeSpec.witness_shaped (enc := enc) (C := Tryz.checked) (os := os) (X := fun w _ => laidMetH Tryz.prog Rows.parserMatchesReferenceRow.laid w) false (World.doorLaid Tryz.prog 400 os) #[.string ByteArray.empty, .slice none 0 0, .slice none 0 0] 8 rfl (World.shaped_of_RefB (by kernel_rfl) (by kernel_rfl)) (by kernel_rfl) (by kernel_rfl) (by kernel_rfl) (door_met os _)) ?_
 intro W base args ds gs before hval0 hW hcnd hsz0 hL _
 have hsz : (DataW.weightsEach Tryz.prog (Tryz.f3.params.toList ++ Rows.parserMatchesReferenceSpec.plain.varTypes Tryz.prog) (ds ++ gs)).all (· ≤ reachBytes) = true := hsz0
 have hval : ∀ (j : Nat) t v, Tryz.f3.params[j]? = some t → args[j]? = some v → Value.okWide Tryz.prog W .any base t v := hval0
 have hW' := hW
 obtain ⟨p, q, hA0, hV, rfl, hfz, hnd⟩ := hW
 have hA : DataW.TrodAll enc Tryz.prog W 0 (fun _ => true) true Tryz.f3.params.toList args.toList ds p := hA0
 rw [Tryz.params3] at hA hval hsz
 obtain ⟨v0, vs0, d0, ds0, p0, q0, hargs, rfl, rfl, h0, r0⟩ := trodAll_cons hA
 obtain ⟨v1, vs1, d1, ds1, p1, q1, rfl, rfl, rfl, h1, r1⟩ := trodAll_cons r0
 obtain ⟨v2, vs2, d2, ds2, p2, q2, rfl, rfl, rfl, h2, r2⟩ := trodAll_cons r1
 obtain ⟨rfl, rfl, rfl⟩ := trodAll_nil r2
 obtain rfl : args = #[v0, v1, v2] := by cases args; simp_all
 obtain ⟨rfl, rfl⟩ := trodVars_none hV
 obtain ⟨a0, rfl, rfl, rfl, y0⟩ := open_string Tryz.underlying9 (hval 0 9 v0 rfl rfl) h0
 obtain ⟨A1, len1, c1, rfl⟩ := okWide_slice Tryz.underlying22 (hval 1 22 v1 rfl rfl)
 have k1 := h1
 have lt1 : ∀ x ∈ p1, x.block < W.heap.size := by obtain ⟨m, hm⟩ := k1; exact DataW.trod_lt m _ _ _ hm
 obtain ⟨A, c, l, hv, hc, hC⟩ := PPx.open_stms PPx.ty h1
 simp only [Value.cells, List.cons.injEq, Value.slice.injEq, and_true] at hv
 obtain ⟨rfl, rfl, rfl⟩ := hv
 obtain ⟨A2, len2, c2, rfl⟩ := okWide_slice Tryz.underlying22 (hval 2 22 v2 rfl rfl)
 have k2 := h2
 have lt2 : ∀ x ∈ p2, x.block < W.heap.size := by obtain ⟨m, hm⟩ := k2; exact DataW.trod_lt m _ _ _ hm
 obtain ⟨A', c', m, hv, hc', hC'⟩ := PPx.open_stms PPx.ty h2
 simp only [Value.cells, List.cons.injEq, Value.slice.injEq, and_true] at hv
 obtain ⟨rfl, rfl, rfl⟩ := hv
 clear hA0 hval0 hsz0 hsz
 refine (PPx.law_calls a0 A1 c1 l A2 c2 m W hC hc hC' hc' (plainLaid hL)).mono fun e W' ⟨he, bel⟩ => ?_
 subst he
 exact ⟨_, rfl, _, _, _, [], _, [], hW', trodAll_mk1 (shut_bool Tryz.underlying4 _), (trodAll_cons_mk (shut_string Tryz.underlying9 y0) (trodAll_cons_mk (Below.trod laidOut (by kernel_rfl) (of_decide_eq_true (by kernel_rfl)) k1 bel lt1) (trodAll_cons_mk (Below.trod laidOut (by kernel_rfl) (of_decide_eq_true (by kernel_rfl)) k2 bel lt2) trodAll_mk0))), rfl, bel.frame _, fun h => by cases h⟩
theorem over : Rows.ParserMatchesReferenceSaid :=
 OpenClaim.holds_of_wide 3 Tryz.f3 rfl rfl rfl rfl rfl rfl rfl ⟨rfl, rfl, rfl, rfl, rfl⟩ rfl rfl rfl rfl rfl (by kernel_rfl) Tryz.func3 (by kernel_rfl)
  (of_decide_eq_true (by kernel_rfl)) (by unfold Func.isWrapper; first | (rw [if_pos (by decide +kernel)]; kernel_rfl) | (rw [if_neg (by decide +kernel)]; exact ⟨rfl, rfl⟩))
  (fun os started H enc _ => lifted os started H enc)
theorem card : Rows.ParserMatchesReferenceCardSaid :=
 Claim7.holds_tied_plain_at .later [] [.data, .data, .data, .sentinel, .sentinel, .widerDeep] true (true, "949402bcc3c355267d9393f1b67bb01980b8a5373f77940b6b0069dbef693843") true
  over (fun _ h => by cases h) (by kernel_rfl) (fun _ h => by cases h) parserMatchesReference_row_tie rfl ⟨rfl, rfl⟩ (by kernel_rfl) rfl
  (fun f fn hf hfn => by
   obtain rfl : f = 3 := Option.some.inj ((show Tryz.prog.funcNamed "ambidexter/ambidexterlaw11.ParserMatchesReference" = some 3 by kernel_rfl).symm.trans hf) |>.symm
   obtain rfl : fn = Tryz.f3 := (Option.some.inj (Tryz.func3.symm.trans hfn)).symm
   exact ⟨by kernel_rfl, fun j t ht => by
    rw [Tryz.params3] at ht
    have h3 : t = 9 ∨ t = 22 := by
     rcases j with _ | _ | _ | j
     · exact .inl (by simpa using ht.symm)
     · exact .inr (by simpa using ht.symm)
     · exact .inr (by simpa using ht.symm)
     · simp at ht
    rcases h3 with rfl | rfl
    · exact (show Tryz.prog.wantsStandIn 9 = false by kernel_rfl)
    · exact (show Tryz.prog.wantsStandIn 22 = false by kernel_rfl)⟩)
  (by kernel_rfl)
end Go.Proofs.YtonhcfecfifghaaGreatDoor.parserMatchesReference
