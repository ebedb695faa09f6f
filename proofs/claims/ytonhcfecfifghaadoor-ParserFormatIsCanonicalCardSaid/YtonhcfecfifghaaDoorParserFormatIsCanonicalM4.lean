/- Part 4 of the proof of ParserFormatIsCanonical: the contracts of the functions that the law reaches, and what their plain functions compute. No condition. -/
import Derived.Test.YtonhcfecfifghaaDoorParserFormatIsCanonicalM1
import Derived.Test.YtonhcfecfifghaaDoorParserFormatIsCanonicalM2
import Derived.Test.YtonhcfecfifghaaDoorParserFormatIsCanonicalM3
namespace Go.Proofs.YtonhcfecfifghaaDoor.PPx
open Go.RowKit Go.Proofs.YtonhcfecfifghaaDoorW.PrintWords Go.Proofs.YtonhcfecfifghaaDoorW.PrintLast Go.Proofs.YtonhcfecfifghaaDoorW.PrintMore
set_option linter.unusedVariables false
def kt (ts : List S44) : List (Int × ByteArray) := ts.map fun t => (t.f0, t.f1)
theorem kt_append (a b : List S44) : kt (a ++ b) = kt a ++ kt b := by simp [kt]
theorem kt_moved (d : Int) (a : List S44) : kt (moved d a) = kt a := by simp [kt, moved]
def LexK (u : ByteArray) (hard : Bool) (ks : List (Int × ByteArray)) : Prop := ∃ ts, LexT u hard ts ∧ kt ts = ks
theorem LexK.append {u v : ByteArray} {a b : Bool} {ks ls : List (Int × ByteArray)} (h : LexK u a ks) (g : LexK v b ls) (hs : a = true → SoftHd v) : LexK (u ++ v) b (ks ++ ls) := by
  obtain ⟨ts, h1, h2⟩ := h
  obtain ⟨us, g1, g2⟩ := g
  exact ⟨_, h1.append g1 hs, by rw [kt_append, kt_moved, h2, g2]⟩
theorem LexK.soft {u v : ByteArray} {b : Bool} {ks ls : List (Int × ByteArray)} (h : LexK u false ks) (g : LexK v b ls) : LexK (u ++ v) b (ks ++ ls) := h.append g (fun e => by cases e)
theorem LexK.hard {u v : ByteArray} {b : Bool} {ks ls : List (Int × ByteArray)} (h : LexK u true ks) (g : LexK v b ls) (hs : SoftHd v) : LexK (u ++ v) b (ks ++ ls) := h.append g (fun _ => hs)
theorem LexK.tok {k : Int} {w : ByteArray} (h : TokText k w) : LexK w true [(k, w)] := ⟨_, LexT.tok h, rfl⟩
theorem LexK.blank {g : ByteArray} (h : Blank g) : LexK g false [] := ⟨_, LexT.blank h, rfl⟩
theorem LexK.sign {w : ByteArray} (h1 : w.size = 1) (h4 : at_ w 0 = 4) : LexK w false [(3, w)] := ⟨_, LexT.sign h1 h4, rfl⟩
theorem blank_one {c : UInt8} (h : cls c.toNat = 5) : Blank ⟨#[c]⟩ := by
  intro x h0 h1
  have h1' : x < 1 := h1
  obtain rfl : x = 0 := by omega
  exact h
theorem blank_append {a b : ByteArray} (ha : Blank a) (hb : Blank b) : Blank (a ++ b) := by
  intro x h0 h1
  rw [ByteArray.size_append] at h1
  by_cases hx : x < (a.size : Int)
  · have := ha x h0 hx
    rw [at_in (by omega)] at this
    rw [at_in (by rw [ByteArray.size_append]; omega), bt_left h0 hx]
    exact this
  · have := hb (x - a.size) (by omega) (by omega)
    rw [at_in (by omega)] at this
    rw [at_in (by rw [ByteArray.size_append]; omega), bt_right (by omega) (by omega)]
    exact this
def sp1 : ByteArray := ⟨#[32]⟩
def nl1 : ByteArray := ⟨#[10]⟩
def semi : ByteArray := ⟨#[59]⟩
def obr : ByteArray := ⟨#[123]⟩
def cbr : ByteArray := ⟨#[125]⟩
def opar : ByteArray := ⟨#[40]⟩
def cpar : ByteArray := ⟨#[41]⟩
def comma : ByteArray := ⟨#[44]⟩
theorem l_sp : LexK ⟨#[32]⟩ false [] := .blank (blank_one (by decide +kernel))
theorem l_nl : LexK ⟨#[10]⟩ false [] := .blank (blank_one (by decide +kernel))
theorem l_semi : LexK ⟨#[59]⟩ false [(3, semi)] := .sign rfl (by decide +kernel)
theorem l_opar : LexK ⟨#[40]⟩ false [(3, opar)] := .sign rfl (by decide +kernel)
theorem l_cpar : LexK ⟨#[41]⟩ false [(3, cpar)] := .sign rfl (by decide +kernel)
theorem l_comma : LexK ⟨#[44]⟩ false [(3, comma)] := .sign rfl (by decide +kernel)
theorem l_obr : LexK ⟨#[123]⟩ false [(3, obr)] := .sign rfl (by decide +kernel)
theorem l_cbr : LexK ⟨#[125]⟩ false [(3, cbr)] := .sign rfl (by decide +kernel)
theorem s_sp : SoftHd ⟨#[32]⟩ := ⟨by decide, by constructor <;> decide +kernel⟩
theorem s_semi : SoftHd ⟨#[59]⟩ := ⟨by decide, by constructor <;> decide +kernel⟩
theorem s_cpar : SoftHd ⟨#[41]⟩ := ⟨by decide, by constructor <;> decide +kernel⟩
theorem softHd_append {a b : ByteArray} (h : SoftHd a) : SoftHd (a ++ b) := by
  refine ⟨by rw [ByteArray.size_append]; have := h.1; omega, soft_at ?_ h.2⟩
  have h0 := h.1
  rw [at_in (by rw [ByteArray.size_append]; omega), at_in (by omega), bt_left (Int.le_refl _) (by omega)]
/-- a keyword -/
theorem kw_tok {w : ByteArray} (h : lexB w = ([⟨1, w, 0⟩], 0, 0)) (hs : w.size ≤ 20000) : LexK w true [(1, w)] := .tok (tok_of_lex h rfl hs)
def wGo : ByteArray := ⟨#[103, 111]⟩
def wHome : ByteArray := ⟨#[104, 111, 109, 101]⟩
def wPick : ByteArray := ⟨#[112, 105, 99, 107]⟩
def wPut : ByteArray := ⟨#[112, 117, 116]⟩
def wHand : ByteArray := ⟨#[104, 97, 110, 100]⟩
def wWait : ByteArray := ⟨#[119, 97, 105, 116]⟩
def wWhen : ByteArray := ⟨#[119, 104, 101, 110]⟩
def wBoth : ByteArray := ⟨#[98, 111, 116, 104]⟩
theorem k_go : LexK wGo true [(1, wGo)] := kw_tok (by kernel_rfl) (by decide)
theorem k_home : LexK wHome true [(1, wHome)] := kw_tok (by kernel_rfl) (by decide)
theorem k_pick : LexK wPick true [(1, wPick)] := kw_tok (by kernel_rfl) (by decide)
theorem k_put : LexK wPut true [(1, wPut)] := kw_tok (by kernel_rfl) (by decide)
theorem k_hand : LexK wHand true [(1, wHand)] := kw_tok (by kernel_rfl) (by decide)
theorem k_wait : LexK wWait true [(1, wWait)] := kw_tok (by kernel_rfl) (by decide)
theorem k_when : LexK wWhen true [(1, wWhen)] := kw_tok (by kernel_rfl) (by decide)
theorem k_both : LexK wBoth true [(1, wBoth)] := kw_tok (by kernel_rfl) (by decide)
def numB (n : Int) : ByteArray := ⟨(Lib.itoa n).toArray⟩
def Small (n : Int) : Prop := -1000000000 < n ∧ n < 1000000000
theorem l_num {n : Int} (h : Small n) : LexK (numB n) true [(2, numB n)] := .tok (itoa_tok h.1 h.2).1
theorem num_size {n : Int} (h : Small n) : (numB n).size ≤ 10 := by have := (itoa_tok h.1 h.2).2; unfold numB; rw [size_list]; exact this
theorem itoaS_small {n : Int} (h : Small n) : itoaS n = some (numB n) := by unfold itoaS; rw [if_pos ⟨by have := h.1; omega, by have := h.2; omega⟩]; rfl
def triK (q : S52) : List (Int × ByteArray) := [(3, opar), (2, numB q.f0), (3, comma), (2, numB q.f1), (3, comma), (2, numB q.f2), (3, cpar)]
def SmallQ (q : S52) : Prop := Small q.f0 ∧ Small q.f1 ∧ Small q.f2
def triB (q : S52) : ByteArray := tripleB (numB q.f0) (numB q.f1) (numB q.f2)
theorem l_commasp : LexK ⟨#[44, 32]⟩ false [(3, comma)] := by
  have := l_comma.soft l_sp
  exact this
theorem s_commasp : SoftHd ⟨#[44, 32]⟩ := ⟨by decide, by constructor <;> decide +kernel⟩
theorem l_tri {q : S52} (h : SmallQ q) : LexK (triB q) false (triK q) := by
  obtain ⟨h0, h1, h2⟩ := h
  exact ((((((l_opar.soft (l_num h0)).hard l_commasp s_commasp).soft (l_num h1)).hard l_commasp s_commasp).soft (l_num h2)).hard l_cpar s_cpar)
theorem tri_size {q : S52} (h : SmallQ q) : (triB q).size ≤ 36 := by
  have := num_size h.1; have := num_size h.2.1; have := num_size h.2.2
  have e1 : (⟨#[40]⟩ : ByteArray).size = 1 := rfl
  have e2 : (⟨#[44, 32]⟩ : ByteArray).size = 2 := rfl
  have e3 : (⟨#[41]⟩ : ByteArray).size = 1 := rfl
  simp only [triB, tripleB, app_size, e1, e2, e3]
  omega
theorem tripleF_small {q : S52} (h : SmallQ q) : tripleF q = some (triB q) := by
  unfold tripleF
  rw [itoaS_small h.1, itoaS_small h.2.1, itoaS_small h.2.2]
  simp only [Option.bind_some]
  unfold fitS
  rw [if_pos]
  · rfl
  · have := tri_size h; unfold triB at this; omega
end Go.Proofs.YtonhcfecfifghaaDoor.PPx
namespace Go.Proofs.YtonhcfecfifghaaDoor.PPx
open Go.RowKit Go.Proofs.YtonhcfecfifghaaDoorW.PrintWords Go.Proofs.YtonhcfecfifghaaDoorW.PrintLast Go.Proofs.YtonhcfecfifghaaDoorW.PrintMore
set_option linter.unusedVariables false
/-- a name -/
def NameOK (s : ByteArray) : Prop := TokText 1 s ∧ s.size ≤ 12 ∧ isWord s = false
def none0 : ByteArray := ⟨#[]⟩
/-- a statement that is valid, its kids apart -/
inductive PlainOK : S55 → Prop where
  | go0 {q : S52} {a : Int} (h : SmallQ q) : PlainOK ⟨1, 0, none0, none0, 0, ⟨q, zJ⟩, [], a⟩
  | go1 {q : S52} {a : Int} (h : SmallQ q) : PlainOK ⟨1, 1, none0, none0, 0, ⟨zJ, q⟩, [], a⟩
  | home {m a : Int} (h : m = 0 ∨ m = 1) : PlainOK ⟨2, m, none0, none0, 0, ⟨zJ, zJ⟩, [], a⟩
  | pick {m a : Int} {s : ByteArray} (h : m = 0 ∨ m = 1) (hs : NameOK s) : PlainOK ⟨3, m, s, none0, 0, ⟨zJ, zJ⟩, [], a⟩
  | put {m a : Int} {s : ByteArray} (h : m = 0 ∨ m = 1) (hs : NameOK s) : PlainOK ⟨4, m, none0, s, 0, ⟨zJ, zJ⟩, [], a⟩
  | hand {m a : Int} {s : ByteArray} (h : m = 0 ∨ m = 1) (hs : NameOK s) : PlainOK ⟨5, m, none0, s, 0, ⟨zJ, zJ⟩, [], a⟩
  | wait {n a : Int} (h : Small n) : PlainOK ⟨6, 0, none0, none0, n, ⟨zJ, zJ⟩, [], a⟩
  | when_ {s t : ByteArray} {l : List S55} {a : Int} (hs : NameOK s) (ht : NameOK t) : PlainOK ⟨7, 0, s, t, 0, ⟨zJ, zJ⟩, l, a⟩
  | both {q p : S52} {a : Int} (h : SmallQ q) (g : SmallQ p) : PlainOK ⟨8, 0, none0, none0, 0, ⟨q, p⟩, [], a⟩
/-- the tokens of a statement's line -/
def lineK (x : S55) : List (Int × ByteArray) :=
  if x.f0 = 1 then [(1, wGo), (2, numB x.f1)] ++ triK (if x.f1 = 0 then x.f5.f0 else x.f5.f1) ++ [(3, semi)]
  else if x.f0 = 2 then [(1, wHome), (2, numB x.f1), (3, semi)]
  else if x.f0 = 3 then [(1, wPick), (2, numB x.f1), (1, x.f2), (3, semi)]
  else if x.f0 = 4 then [(1, wPut), (2, numB x.f1), (1, x.f3), (3, semi)]
  else if x.f0 = 5 then [(1, wHand), (2, numB x.f1), (1, x.f3), (3, semi)]
  else if x.f0 = 6 then [(1, wWait), (2, numB x.f4), (3, semi)]
  else if x.f0 = 7 then [(1, wWhen), (1, x.f3), (1, x.f2), (3, obr)]
  else [(1, wBoth)] ++ triK x.f5.f0 ++ triK x.f5.f1 ++ [(3, semi)]
theorem small_arm {m : Int} (h : m = 0 ∨ m = 1) : Small m := by rcases h with rfl | rfl <;> exact ⟨by decide, by decide⟩
theorem l_name {s : ByteArray} (h : NameOK s) : LexK s true [(1, s)] := .tok h.1
theorem l_gosp : LexK ⟨#[103, 111, 32]⟩ false [(1, wGo)] := k_go.hard l_sp s_sp
theorem l_homesp : LexK ⟨#[104, 111, 109, 101, 32]⟩ false [(1, wHome)] := k_home.hard l_sp s_sp
theorem l_waitsp : LexK ⟨#[119, 97, 105, 116, 32]⟩ false [(1, wWait)] := k_wait.hard l_sp s_sp
theorem l_whensp : LexK ⟨#[119, 104, 101, 110, 32]⟩ false [(1, wWhen)] := k_when.hard l_sp s_sp
theorem l_bothsp : LexK ⟨#[98, 111, 116, 104, 32]⟩ false [(1, wBoth)] := k_both.hard l_sp s_sp
theorem l_spobr : LexK ⟨#[32, 123]⟩ false [(3, obr)] := l_sp.soft l_obr
theorem s_spobr : SoftHd ⟨#[32, 123]⟩ := ⟨by decide, by constructor <;> decide +kernel⟩
theorem fit_small {s : ByteArray} (h : s.size ≤ 1000000) : fitS s = some s := by unfold fitS; rw [if_pos (by omega)]
theorem app_none (x : ByteArray) : x ++ none0 = x := by apply ByteArray.ext; simp [ByteArray.data_append, none0]
/-- the line of a valid statement, its tokens, its size -/
theorem line_ok {x : S55} (h : PlainOK x) : ∃ s, lineF x = some s ∧ LexK s false (lineK x) ∧ s.size ≤ 100 := by
  cases h with
  | @go0 q a h =>
    have e0 : (⟨#[103, 111, 32]⟩ : ByteArray).size = 3 := rfl
    have e1 : (⟨#[32]⟩ : ByteArray).size = 1 := rfl
    have e2 : (⟨#[59]⟩ : ByteArray).size = 1 := rfl
    have h1 := num_size (n := 0) (small_arm (.inl rfl))
    have h2 := tri_size h
    have hsz : (lineGo (numB 0) (triB q)).size ≤ 100 := by
      simp only [lineGo, app_size, e0, e1, e2]
      omega
    refine ⟨lineGo (numB 0) (triB q), ?_, ?_, hsz⟩
    · show ((itoaS 0).bind fun a => (tripleF q).bind fun t => fitS (lineGo a t)) = _
      rw [itoaS_small (small_arm (.inl rfl)), tripleF_small h]
      exact fit_small (by omega)
    · exact ((((l_gosp.soft (l_num (small_arm (.inl rfl)))).hard l_sp s_sp).soft (l_tri h)).soft l_semi)
  | @go1 q a h =>
    have e0 : (⟨#[103, 111, 32]⟩ : ByteArray).size = 3 := rfl
    have e1 : (⟨#[32]⟩ : ByteArray).size = 1 := rfl
    have e2 : (⟨#[59]⟩ : ByteArray).size = 1 := rfl
    have h1 := num_size (n := 1) (small_arm (.inr rfl))
    have h2 := tri_size h
    have hsz : (lineGo (numB 1) (triB q)).size ≤ 100 := by
      simp only [lineGo, app_size, e0, e1, e2]
      omega
    refine ⟨lineGo (numB 1) (triB q), ?_, ?_, hsz⟩
    · show ((itoaS 1).bind fun a => (tripleF q).bind fun t => fitS (lineGo a t)) = _
      rw [itoaS_small (small_arm (.inr rfl)), tripleF_small h]
      exact fit_small (by omega)
    · exact ((((l_gosp.soft (l_num (small_arm (.inr rfl)))).hard l_sp s_sp).soft (l_tri h)).soft l_semi)
  | @home m a h =>
    have e0 : (⟨#[104, 111, 109, 101, 32]⟩ : ByteArray).size = 5 := rfl
    have e1 : (⟨#[59]⟩ : ByteArray).size = 1 := rfl
    have h1 := num_size (small_arm h)
    have hsz : (lineOne ⟨#[104, 111, 109, 101, 32]⟩ (numB m)).size ≤ 100 := by
      simp only [lineOne, app_size, e0, e1]
      omega
    refine ⟨lineOne ⟨#[104, 111, 109, 101, 32]⟩ (numB m), ?_, ?_, hsz⟩
    · show ((itoaS m).bind fun a => fitS (lineOne ⟨#[104, 111, 109, 101, 32]⟩ a)) = _
      rw [itoaS_small (small_arm h)]
      exact fit_small (by omega)
    · exact ((l_homesp.soft (l_num (small_arm h))).hard l_semi s_semi)
  | @pick m a s h hs =>
    have e0 : (⟨#[112, 105, 99, 107]⟩ : ByteArray).size = 4 := rfl
    have e1 : (⟨#[32]⟩ : ByteArray).size = 1 := rfl
    have e2 : (⟨#[59]⟩ : ByteArray).size = 1 := rfl
    have e3 : none0.size = 0 := rfl
    have h1 := num_size (small_arm h)
    have h2 := hs.2.1
    have hsz : (lineName ⟨#[112, 105, 99, 107]⟩ (numB m) s none0).size ≤ 100 := by
      simp only [lineName, app_size, e0, e1, e2, e3]
      omega
    refine ⟨lineName ⟨#[112, 105, 99, 107]⟩ (numB m) s none0, ?_, ?_, hsz⟩
    · show ((itoaS m).bind fun a => fitS (lineName ⟨#[112, 105, 99, 107]⟩ a s none0)) = _
      rw [itoaS_small (small_arm h)]
      exact fit_small (by omega)
    · have e : lineName ⟨#[112, 105, 99, 107]⟩ (numB m) s none0 = (((((⟨#[112, 105, 99, 107]⟩ ++ ⟨#[32]⟩) ++ numB m) ++ ⟨#[32]⟩) ++ s) ++ ⟨#[59]⟩ : ByteArray) := by
        simp only [lineName]
        rw [app_none]
      rw [e]
      exact (((((k_pick.hard l_sp s_sp).soft (l_num (small_arm h))).hard l_sp s_sp).soft (l_name hs)).hard l_semi s_semi)
  | @put m a s h hs =>
    have e0 : (⟨#[112, 117, 116]⟩ : ByteArray).size = 3 := rfl
    have e1 : (⟨#[32]⟩ : ByteArray).size = 1 := rfl
    have e2 : (⟨#[59]⟩ : ByteArray).size = 1 := rfl
    have e3 : none0.size = 0 := rfl
    have h1 := num_size (small_arm h)
    have h2 := hs.2.1
    have hsz : (lineName ⟨#[112, 117, 116]⟩ (numB m) none0 s).size ≤ 100 := by
      simp only [lineName, app_size, e0, e1, e2, e3]
      omega
    refine ⟨lineName ⟨#[112, 117, 116]⟩ (numB m) none0 s, ?_, ?_, hsz⟩
    · show ((itoaS m).bind fun a => fitS (lineName ⟨#[112, 117, 116]⟩ a none0 s)) = _
      rw [itoaS_small (small_arm h)]
      exact fit_small (by omega)
    · have e : lineName ⟨#[112, 117, 116]⟩ (numB m) none0 s = (((((⟨#[112, 117, 116]⟩ ++ ⟨#[32]⟩) ++ numB m) ++ ⟨#[32]⟩) ++ s) ++ ⟨#[59]⟩ : ByteArray) := by
        simp only [lineName]
        rw [app_none]
      rw [e]
      exact (((((k_put.hard l_sp s_sp).soft (l_num (small_arm h))).hard l_sp s_sp).soft (l_name hs)).hard l_semi s_semi)
  | @hand m a s h hs =>
    have e0 : (⟨#[104, 97, 110, 100]⟩ : ByteArray).size = 4 := rfl
    have e1 : (⟨#[32]⟩ : ByteArray).size = 1 := rfl
    have e2 : (⟨#[59]⟩ : ByteArray).size = 1 := rfl
    have e3 : none0.size = 0 := rfl
    have h1 := num_size (small_arm h)
    have h2 := hs.2.1
    have hsz : (lineName ⟨#[104, 97, 110, 100]⟩ (numB m) none0 s).size ≤ 100 := by
      simp only [lineName, app_size, e0, e1, e2, e3]
      omega
    refine ⟨lineName ⟨#[104, 97, 110, 100]⟩ (numB m) none0 s, ?_, ?_, hsz⟩
    · show ((itoaS m).bind fun a => fitS (lineName ⟨#[104, 97, 110, 100]⟩ a none0 s)) = _
      rw [itoaS_small (small_arm h)]
      exact fit_small (by omega)
    · have e : lineName ⟨#[104, 97, 110, 100]⟩ (numB m) none0 s = (((((⟨#[104, 97, 110, 100]⟩ ++ ⟨#[32]⟩) ++ numB m) ++ ⟨#[32]⟩) ++ s) ++ ⟨#[59]⟩ : ByteArray) := by
        simp only [lineName]
        rw [app_none]
      rw [e]
      exact (((((k_hand.hard l_sp s_sp).soft (l_num (small_arm h))).hard l_sp s_sp).soft (l_name hs)).hard l_semi s_semi)
  | @wait n a h =>
    have e0 : (⟨#[119, 97, 105, 116, 32]⟩ : ByteArray).size = 5 := rfl
    have e1 : (⟨#[59]⟩ : ByteArray).size = 1 := rfl
    have h1 := num_size h
    have hsz : (lineOne ⟨#[119, 97, 105, 116, 32]⟩ (numB n)).size ≤ 100 := by
      simp only [lineOne, app_size, e0, e1]
      omega
    refine ⟨lineOne ⟨#[119, 97, 105, 116, 32]⟩ (numB n), ?_, ?_, hsz⟩
    · show ((itoaS n).bind fun a => fitS (lineOne ⟨#[119, 97, 105, 116, 32]⟩ a)) = _
      rw [itoaS_small h]
      exact fit_small (by omega)
    · exact ((l_waitsp.soft (l_num h)).hard l_semi s_semi)
  | @when_ s t l a hs ht =>
    have e0 : (⟨#[119, 104, 101, 110, 32]⟩ : ByteArray).size = 5 := rfl
    have e1 : (⟨#[32]⟩ : ByteArray).size = 1 := rfl
    have e2 : (⟨#[32, 123]⟩ : ByteArray).size = 2 := rfl
    have h1 := hs.2.1
    have h2 := ht.2.1
    have hsz : (lineWhen t s).size ≤ 100 := by
      simp only [lineWhen, app_size, e0, e1, e2]
      omega
    refine ⟨lineWhen t s, ?_, ?_, hsz⟩
    · show fitS (lineWhen t s) = _
      exact fit_small (by omega)
    · exact ((((l_whensp.soft (l_name ht)).hard l_sp s_sp).soft (l_name hs)).hard l_spobr s_spobr)
  | @both q p a h g =>
    have e0 : (⟨#[98, 111, 116, 104, 32]⟩ : ByteArray).size = 5 := rfl
    have e1 : (⟨#[32]⟩ : ByteArray).size = 1 := rfl
    have e2 : (⟨#[59]⟩ : ByteArray).size = 1 := rfl
    have h1 := tri_size h
    have h2 := tri_size g
    have hsz : (lineBoth (triB q) (triB p)).size ≤ 100 := by
      simp only [lineBoth, app_size, e0, e1, e2]
      omega
    refine ⟨lineBoth (triB q) (triB p), ?_, ?_, hsz⟩
    · show ((tripleF q).bind fun t => (tripleF p).bind fun u => fitS (lineBoth t u)) = _
      rw [tripleF_small h, tripleF_small g]
      exact fit_small (by omega)
    · exact ((((l_bothsp.soft (l_tri h)).soft l_sp).soft (l_tri g)).soft l_semi)
end Go.Proofs.YtonhcfecfifghaaDoor.PPx
namespace Go.Proofs.YtonhcfecfifghaaDoor.PPx
open Go.RowKit Go.Proofs.YtonhcfecfifghaaDoorW.PrintWords Go.Proofs.YtonhcfecfifghaaDoorW.PrintLast Go.Proofs.YtonhcfecfifghaaDoorW.PrintMore
set_option linter.unusedVariables false
/-- valid statements: how deep they may still nest, how many they are, their tokens -/
inductive VLs : Nat → List S55 → Nat → List (Int × ByteArray) → Prop where
  | nil (d : Nat) : VLs d [] 0 []
  | plain {d n : Nat} {x : S55} {l : List S55} {ks : List (Int × ByteArray)} : PlainOK x → x.f0 ≠ 7 → VLs d l n ks → VLs d (x :: l) (n + 1) (lineK x ++ ks)
  | when_ {d n m : Nat} {x : S55} {l : List S55} {ks ls : List (Int × ByteArray)} : PlainOK x → x.f0 = 7 → VLs d x.f6 m ls → VLs (d + 1) l n ks → VLs (d + 1) (x :: l) (n + m + 1) (lineK x ++ (ls ++ ((3, cbr) :: ks)))
theorem l_cbrnl : LexK ⟨#[125, 10]⟩ false [(3, cbr)] := l_cbr.soft l_nl
theorem l_none : LexK ⟨#[]⟩ false [] := .blank (fun x h0 h1 => by exact absurd h1 (by show ¬ x < 0; omega))
theorem blank_sp2 : Blank ⟨#[32, 32]⟩ := blank_append (a := ⟨#[32]⟩) (b := ⟨#[32]⟩) (blank_one (by decide +kernel)) (blank_one (by decide +kernel))
theorem written_ok {d n : Nat} {l : List S55} {ks : List (Int × ByteArray)} (h : VLs d l n ks) : ∀ (k : Nat) (ins : ByteArray), d < k → Blank ins → ins.size + 2 * d ≤ 20 → ∃ out, writtenF k ins l = some out ∧ LexK out false ks ∧ out.size ≤ n * 200 := by
  induction h with
  | nil d =>
    intro k ins hk hb hi
    obtain ⟨k, rfl⟩ : ∃ k', k = k' + 1 := ⟨k - 1, by omega⟩
    exact ⟨⟨#[]⟩, rfl, l_none, Nat.zero_le _⟩
  | @plain d n x l ks hx h7 hl ih =>
    intro k ins hk hb hi
    obtain ⟨k, rfl⟩ : ∃ k', k = k' + 1 := ⟨k - 1, by omega⟩
    obtain ⟨u, hu, hlu, hsu⟩ := ih (k + 1) ins hk hb hi
    obtain ⟨s, hs, hls, hss⟩ := line_ok hx
    have hkid : kidsW (writtenF k) ins x = some ⟨#[]⟩ := by unfold kidsW; rw [if_neg h7]
    refine ⟨(((ins ++ s) ++ ⟨#[10]⟩) ++ ⟨#[]⟩) ++ u, ?_, ?_, ?_⟩
    · show ((lineF x).bind fun s => (kidsW (writtenF k) ins x).bind fun t => (writtenL (writtenF k) ins l).bind fun u => some ((((ins ++ s) ++ ⟨#[10]⟩) ++ t) ++ u)) = _
      rw [hs, hkid, show writtenL (writtenF k) ins l = some u from hu]
      rfl
    · have := ((((LexK.blank hb).soft hls).soft l_nl).soft l_none).soft hlu
      simpa using this
    · have e1 : (⟨#[10]⟩ : ByteArray).size = 1 := rfl
      have e2 : (⟨#[]⟩ : ByteArray).size = 0 := rfl
      simp only [app_size, e1, e2]
      omega
  | @when_ d n m x l ks ls hx h7 hk hl ihk ihl =>
    intro k ins hk hb hi
    obtain ⟨k, rfl⟩ : ∃ k', k = k' + 1 := ⟨k - 1, by omega⟩
    obtain ⟨u, hu, hlu, hsu⟩ := ihl (k + 1) ins hk hb hi
    obtain ⟨t, ht, hlt, hst⟩ := ihk k (ins ++ ⟨#[32, 32]⟩) (by omega) (blank_append hb blank_sp2) (by
      have e1 : (⟨#[32, 32]⟩ : ByteArray).size = 2 := rfl
      rw [app_size, e1]; omega)
    obtain ⟨s, hs, hls, hss⟩ := line_ok hx
    have hkid : kidsW (writtenF k) ins x = some (t ++ (ins ++ ⟨#[125, 10]⟩)) := by unfold kidsW; rw [if_pos h7, ht]; rfl
    refine ⟨(((ins ++ s) ++ ⟨#[10]⟩) ++ (t ++ (ins ++ ⟨#[125, 10]⟩))) ++ u, ?_, ?_, ?_⟩
    · show ((lineF x).bind fun s => (kidsW (writtenF k) ins x).bind fun t => (writtenL (writtenF k) ins l).bind fun u => some ((((ins ++ s) ++ ⟨#[10]⟩) ++ t) ++ u)) = _
      rw [hs, hkid, show writtenL (writtenF k) ins l = some u from hu]
      rfl
    · have := (((((LexK.blank hb).soft hls).soft l_nl).soft (hlt.soft ((LexK.blank hb).soft l_cbrnl))).soft hlu)
      simpa using this
    · have e1 : (⟨#[10]⟩ : ByteArray).size = 1 := rfl
      have e2 : (⟨#[125, 10]⟩ : ByteArray).size = 2 := rfl
      simp only [app_size, e1, e2]
      omega
/-- Format of valid statements -/
theorem format_ok {d n : Nat} {l : List S55} {ks : List (Int × ByteArray)} (h : VLs d l n ks) (hd : d ≤ 10) (hn : n ≤ 100) : ∃ out ts, (∀ k, d < k → parser_Format.f k l = some out) ∧ lexB out = (ts, 0, 0) ∧ kt ts = ks ∧ out.size ≤ 20000 := by
  obtain ⟨out, ho, ⟨ts, hts, hkt⟩, hsz⟩ := written_ok h (d + 1) ⟨#[]⟩ (by omega) (fun x h0 h1 => by exact absurd h1 (by show ¬ x < 0; omega)) (by show 0 + 2 * d ≤ 20; omega)
  refine ⟨out, ts, fun k hk => ?_, hts.lex (by omega), hkt, by omega⟩
  have hm : ∀ j, writtenF (d + 1 + j) ⟨#[]⟩ l = some out := by
    intro j
    induction j with
    | zero => exact ho
    | succ j ih => exact written_le _ _ _ _ ih
  have := hm (k - (d + 1))
  rw [show d + 1 + (k - (d + 1)) = k by omega] at this
  unfold parser_Format.f
  rw [this]
  show (if out.size ≤ 140737488355328 then some out else none) = _
  rw [if_pos (by omega)]
end Go.Proofs.YtonhcfecfifghaaDoor.PPx
namespace Go.Proofs.YtonhcfecfifghaaDoor.PPx
open Go.RowKit Go.Proofs.YtonhcfecfifghaaDoorW.PrintWords Go.Proofs.YtonhcfecfifghaaDoorW.PrintLast Go.Proofs.YtonhcfecfifghaaDoorW.PrintMore
set_option linter.unusedVariables false
theorem decFrom_app : ∀ (l m : List UInt8) (acc : Nat), Lib.decFrom acc (l ++ m) = (Lib.decFrom acc l).bind fun a => Lib.decFrom a m
  | [], m, acc => rfl
  | b :: l, m, acc => by
    simp only [List.cons_append, Lib.decFrom]
    cases Lib.digitVal b with
    | none => rfl
    | some d => exact decFrom_app l m _
theorem digit_val {d : Nat} (h : d < 10) : Lib.digitVal (UInt8.ofNat (48 + d)) = some d := by
  have : ∀ x : Fin 10, Lib.digitVal (UInt8.ofNat (48 + x.val)) = some x.val := by decide
  exact this ⟨d, h⟩
theorem decFrom_dec : ∀ (u acc : Nat), Lib.decFrom acc (Lib.decDigits u) = some (acc * 10 ^ Lib.nDigits u + u) := by
  intro u
  induction u using Nat.strongRecOn with
  | _ u ih =>
    intro acc
    by_cases h : u < 10
    · rw [Lib.decDigits, dif_pos h, Lib.nDigits_small h]
      simp only [Lib.decFrom, digit_val h, Nat.pow_one]
    · rw [Lib.decDigits, dif_neg h, decFrom_app, ih (u / 10) (by omega), Lib.nDigits_big h]
      simp only [Option.bind_some, Lib.decFrom, digit_val (Nat.mod_lt u (show 0 < 10 by decide))]
      congr 1
      rw [Nat.pow_succ, Nat.add_mul]
      have : acc * 10 ^ Lib.nDigits (u / 10) * 10 = acc * (10 ^ Lib.nDigits (u / 10) * 10) := Nat.mul_assoc _ _ _
      omega
theorem dec_ne (u : Nat) : Lib.decDigits u ≠ [] := fun h => by
  have := Lib.decDigits_length u
  have h2 := Lib.nDigits_pos u
  rw [h] at this; simp at this; omega
theorem decNat_dec (u : Nat) : Lib.decNat (Lib.decDigits u) = some u := by
  unfold Lib.decNat
  have : (Lib.decDigits u).isEmpty = false := by
    cases h : Lib.decDigits u with
    | nil => exact absurd h (dec_ne u)
    | cons => rfl
  rw [this]
  simp only [Bool.false_eq_true, if_false]
  rw [decFrom_dec]; simp
theorem dec_head (u : Nat) : ∃ b r, Lib.decDigits u = b :: r ∧ 48 ≤ b.toNat ∧ b.toNat ≤ 57 := by
  cases h : Lib.decDigits u with
  | nil => exact absurd h (dec_ne u)
  | cons b r =>
    refine ⟨b, r, rfl, ?_⟩
    have hl : 0 < (Lib.decDigits u).length := by rw [h]; simp
    have := dec_at u 0 hl
    simp only [h, List.getElem_cons_zero] at this
    have h2 := Nat.mod_lt (u / 10 ^ (Lib.nDigits u - 1 - 0)) (show 0 < 10 by decide)
    omega
theorem atoi_itoa (n : Int) : Lib.atoi (Lib.itoa n) = some n := by
  rcases Int.lt_or_le n 0 with hn | hn
  · obtain ⟨u, rfl⟩ : ∃ u : Nat, n = -(u : Int) := ⟨n.natAbs, by omega⟩
    rw [Lib.itoa_neg u (by omega)]
    show (if ((45 : UInt8) == 45) = true then (Lib.decNat (Lib.decDigits u)).map fun (m : Nat) => -(m : Int) else if ((45 : UInt8) == 43) = true then (Lib.decNat (Lib.decDigits u)).map fun (m : Nat) => (m : Int) else (Lib.decNat (45 :: Lib.decDigits u)).map fun (m : Nat) => (m : Int)) = _
    rw [if_pos (by decide), decNat_dec]
    rfl
  · obtain ⟨u, rfl⟩ := Int.eq_ofNat_of_zero_le hn
    rw [Lib.itoa_nonneg u]
    obtain ⟨b, r, e, h1, h2⟩ := dec_head u
    rw [e]
    show (if (b == 45) = true then (Lib.decNat r).map fun (m : Nat) => -(m : Int) else if (b == 43) = true then (Lib.decNat r).map fun (m : Nat) => (m : Int) else (Lib.decNat (b :: r)).map fun (m : Nat) => (m : Int)) = _
    have n1 : ¬ (b == 45) = true := by intro h; have := eq_of_beq h; subst this; revert h1; decide
    have n2 : ¬ (b == 43) = true := by intro h; have := eq_of_beq h; subst this; revert h1; decide
    rw [if_neg n1, if_neg n2, ← e, decNat_dec]
    rfl
theorem numOf_numB (n a : Int) : numOf ⟨2, numB n, a⟩ = n := by
  unfold numOf numB
  rw [show ((⟨2, ⟨(Lib.itoa n).toArray⟩, a⟩ : S44).f1.data.toList) = Lib.itoa n from rfl, atoi_itoa]
  rfl
theorem kt_cons {ts : List S44} {k : Int} {w : ByteArray} {ks : List (Int × ByteArray)} (h : kt ts = (k, w) :: ks) : ∃ a ts', ts = ⟨k, w, a⟩ :: ts' ∧ kt ts' = ks := by
  cases ts with
  | nil => simp [kt] at h
  | cons t ts =>
    simp only [kt, List.map_cons, List.cons.injEq, Prod.mk.injEq] at h
    obtain ⟨⟨h1, h2⟩, h3⟩ := h
    obtain ⟨t0, t1, t2⟩ := t
    simp only at h1 h2
    subst h1 h2
    exact ⟨t2, ts, rfl, h3⟩
theorem take_ok {p : S44 → Bool} {fin : Int} {t : S44} {ts : List S44} {n : Int} {fl : List S35} {o : Bool} (h0 : t.f0 ≠ 0) (hp : p t = true) : takeS p fin ⟨t :: ts, n, fl, o⟩ = (.ok t, ⟨ts, n, fl, o⟩) := by
  have : ¬ (t.f0 == 0 || !p t) = true := by simp [h0, hp]
  simp only [takeS, if_neg this]
theorem sign_ok {c : ByteArray} {fin a : Int} {ts : List S44} {n : Int} {fl : List S35} {o : Bool} : signS c fin ⟨⟨3, c, a⟩ :: ts, n, fl, o⟩ = (.ok ⟨3, c, a⟩, ⟨ts, n, fl, o⟩) := take_ok (by simp) (by simp [isSign])
theorem sign_opar {fin a : Int} {ts : List S44} {n : Int} {fl : List S35} {o : Bool} : signS ⟨#[40]⟩ fin ⟨⟨3, opar, a⟩ :: ts, n, fl, o⟩ = (.ok ⟨3, opar, a⟩, ⟨ts, n, fl, o⟩) := sign_ok
theorem sign_cpar {fin a : Int} {ts : List S44} {n : Int} {fl : List S35} {o : Bool} : signS ⟨#[41]⟩ fin ⟨⟨3, cpar, a⟩ :: ts, n, fl, o⟩ = (.ok ⟨3, cpar, a⟩, ⟨ts, n, fl, o⟩) := sign_ok
theorem sign_comma {fin a : Int} {ts : List S44} {n : Int} {fl : List S35} {o : Bool} : signS ⟨#[44]⟩ fin ⟨⟨3, comma, a⟩ :: ts, n, fl, o⟩ = (.ok ⟨3, comma, a⟩, ⟨ts, n, fl, o⟩) := sign_ok
theorem sign_semi {fin a : Int} {ts : List S44} {n : Int} {fl : List S35} {o : Bool} : signS ⟨#[59]⟩ fin ⟨⟨3, semi, a⟩ :: ts, n, fl, o⟩ = (.ok ⟨3, semi, a⟩, ⟨ts, n, fl, o⟩) := sign_ok
theorem sign_obr {fin a : Int} {ts : List S44} {n : Int} {fl : List S35} {o : Bool} : signS ⟨#[123]⟩ fin ⟨⟨3, obr, a⟩ :: ts, n, fl, o⟩ = (.ok ⟨3, obr, a⟩, ⟨ts, n, fl, o⟩) := sign_ok
theorem sign_cbr {fin a : Int} {ts : List S44} {n : Int} {fl : List S35} {o : Bool} : signS ⟨#[125]⟩ fin ⟨⟨3, cbr, a⟩ :: ts, n, fl, o⟩ = (.ok ⟨3, cbr, a⟩, ⟨ts, n, fl, o⟩) := sign_ok
theorem number_ok {m fin a : Int} {ts : List S44} {n : Int} {fl : List S35} {o : Bool} : numberS fin ⟨⟨2, numB m, a⟩ :: ts, n, fl, o⟩ = (.ok m, ⟨ts, n, fl, o⟩) := by
  unfold numberS
  rw [take_ok (by simp) (by simp [isNumber])]
  simp only [Step.map, numOf_numB]
theorem numB0 : numB 0 = ⟨#[48]⟩ := by unfold numB; rw [show (0 : Int) = ((0 : Nat) : Int) from rfl, Lib.itoa_nonneg, Lib.decDigits_one (by decide)]; rfl
theorem numB1 : numB 1 = ⟨#[49]⟩ := by unfold numB; rw [show (1 : Int) = ((1 : Nat) : Int) from rfl, Lib.itoa_nonneg, Lib.decDigits_one (by decide)]; rfl
theorem arm_ok {m fin a : Int} {ts : List S44} {n : Int} {fl : List S35} {o : Bool} (h : m = 0 ∨ m = 1) : armS fin ⟨⟨2, numB m, a⟩ :: ts, n, fl, o⟩ = (.ok m, ⟨ts, n, fl, o⟩) := by
  unfold armS
  rcases h with rfl | rfl
  · have e : (⟨#[48]⟩ : ByteArray).toList = [48] := by decide +kernel
    rw [numB0, take_ok (by simp) (by simp only [isArm, e]; rfl)]
    simp only [Step.map, armOf, e]
    rfl
  · have e : (⟨#[49]⟩ : ByteArray).toList = [49] := by decide +kernel
    rw [numB1, take_ok (by simp) (by simp only [isArm, e]; rfl)]
    simp only [Step.map, armOf, e]
    rfl
theorem name_ok {w : ByteArray} {fin a : Int} {ts : List S44} {n : Int} {fl : List S35} {o : Bool} (h : NameOK w) : nameS fin ⟨⟨1, w, a⟩ :: ts, n, fl, o⟩ = (.ok w, ⟨ts, n, fl, o⟩) := by
  unfold nameS
  rw [take_ok (by simp) (by have := h.2.1; have := h.2.2; simp [isNamed]; exact ⟨by omega, by assumption⟩)]
  rfl
theorem triple_ok {q : S52} {ts : List S44} {ks : List (Int × ByteArray)} (h : kt ts = triK q ++ ks) : ∃ us, kt us = ks ∧ ∀ (fin n : Int) (fl : List S35) (o : Bool), tripleS fin ⟨ts, n, fl, o⟩ = (.ok q, ⟨us, n, fl, o⟩) := by
  obtain ⟨a0, ts, rfl, g0⟩ := kt_cons h
  obtain ⟨a1, ts, rfl, g1⟩ := kt_cons g0
  obtain ⟨a2, ts, rfl, g2⟩ := kt_cons g1
  obtain ⟨a3, ts, rfl, g3⟩ := kt_cons g2
  obtain ⟨a4, ts, rfl, g4⟩ := kt_cons g3
  obtain ⟨a5, ts, rfl, g5⟩ := kt_cons g4
  obtain ⟨a6, ts, rfl, g6⟩ := kt_cons g5
  refine ⟨ts, g6, fun fin n fl o => ?_⟩
  unfold tripleS
  rw [sign_opar]
  simp only [Step.bind, number_ok]
  unfold tri1
  rw [sign_comma]
  simp only [Step.bind, number_ok]
  unfold tri2
  rw [sign_comma]
  simp only [Step.bind, number_ok]
  unfold tri3
  rw [sign_cpar]
  rfl
/-- a statement with another place -/
def atA (x : S55) (a : Int) : S55 := ⟨x.f0, x.f1, x.f2, x.f3, x.f4, x.f5, x.f6, a⟩
theorem key_ok {w : ByteArray} {fin a : Int} {ts : List S44} {n : Int} {fl : List S35} {o : Bool} (h : isWord w = true) : takeS isKey fin ⟨⟨1, w, a⟩ :: ts, n, fl, o⟩ = (.ok ⟨1, w, a⟩, ⟨ts, n, fl, o⟩) := take_ok (by simp) (by simp [isKey, h])
theorem ix_go : isWord wGo = true ∧ wordIx wGo = 1 := by decide +kernel
theorem ix_home : isWord wHome = true ∧ wordIx wHome = 2 := by decide +kernel
theorem ix_pick : isWord wPick = true ∧ wordIx wPick = 3 := by decide +kernel
theorem ix_put : isWord wPut = true ∧ wordIx wPut = 4 := by decide +kernel
theorem ix_hand : isWord wHand = true ∧ wordIx wHand = 5 := by decide +kernel
theorem ix_wait : isWord wWait = true ∧ wordIx wWait = 6 := by decide +kernel
theorem ix_when : isWord wWhen = true ∧ wordIx wWhen = 7 := by decide +kernel
theorem ix_both : isWord wBoth = true ∧ wordIx wBoth = 8 := by decide +kernel
theorem semiS_ok {x : S55} {fin a : Int} {ts : List S44} {n : Int} {fl : List S35} {o : Bool} : semiS fin x ⟨⟨3, semi, a⟩ :: ts, n, fl, o⟩ = some (.ok x, ⟨ts, n, fl, o⟩) := by
  unfold semiS
  rw [sign_semi]
  rfl
/-- a plain statement's tokens give the statement -/
theorem stmt_plain {x : S55} (hx : PlainOK x) (h7 : x.f0 ≠ 7) {ts : List S44} {ks : List (Int × ByteArray)} (h : kt ts = lineK x ++ ks) :
    ∃ a us, kt us = ks ∧ ∀ (rec : Int → Rs → Option (List S55 × Rs)) (fin deep n : Int) (fl : List S35) (o : Bool), stmtS rec fin deep ⟨ts, n, fl, o⟩ = some (.ok (atA x a), ⟨us, n, fl, o⟩) := by
  cases hx with
  | @go0 q a0 hq =>
    obtain ⟨a, ts, rfl, g0⟩ := kt_cons (show kt ts = (1, wGo) :: ((2, numB 0) :: (triK q ++ ((3, semi) :: ks))) by rw [h]; simp [lineK])
    obtain ⟨b, ts, rfl, g1⟩ := kt_cons g0
    obtain ⟨us, g2, g3⟩ := triple_ok (q := q) g1
    obtain ⟨c, us, rfl, g4⟩ := kt_cons g2
    refine ⟨a, us, g4, fun rec fin deep n fl o => ?_⟩
    unfold stmtS
    rw [key_ok ix_go.1, obind_ok rfl]
    simp only [ix_go.2]
    unfold restS
    rw [if_pos rfl, arm_ok (.inl rfl), obind_ok rfl]
    simp only
    rw [g3, obind_ok rfl]
    simp only
    rw [semiS_ok]
    rfl
  | @go1 q a0 hq =>
    obtain ⟨a, ts, rfl, g0⟩ := kt_cons (show kt ts = (1, wGo) :: ((2, numB 1) :: (triK q ++ ((3, semi) :: ks))) by rw [h]; simp [lineK])
    obtain ⟨b, ts, rfl, g1⟩ := kt_cons g0
    obtain ⟨us, g2, g3⟩ := triple_ok (q := q) g1
    obtain ⟨c, us, rfl, g4⟩ := kt_cons g2
    refine ⟨a, us, g4, fun rec fin deep n fl o => ?_⟩
    unfold stmtS
    rw [key_ok ix_go.1, obind_ok rfl]
    simp only [ix_go.2]
    unfold restS
    rw [if_pos rfl, arm_ok (.inr rfl), obind_ok rfl]
    simp only
    rw [g3, obind_ok rfl]
    simp only
    rw [semiS_ok]
    rfl
  | @home m a0 hm =>
    obtain ⟨a, ts, rfl, g0⟩ := kt_cons (show kt ts = (1, wHome) :: ((2, numB m) :: ((3, semi) :: ks)) by rw [h]; simp [lineK])
    obtain ⟨b, ts, rfl, g1⟩ := kt_cons g0
    obtain ⟨c, us, rfl, g4⟩ := kt_cons g1
    refine ⟨a, us, g4, fun rec fin deep n fl o => ?_⟩
    unfold stmtS
    rw [key_ok ix_home.1, obind_ok rfl]
    simp only [ix_home.2]
    unfold restS
    rw [if_neg (by decide), if_pos rfl, arm_ok hm, obind_ok rfl]
    simp only
    rw [semiS_ok]
    rfl
  | @pick m a0 s hm hs =>
    obtain ⟨a, ts, rfl, g0⟩ := kt_cons (show kt ts = (1, wPick) :: ((2, numB m) :: ((1, s) :: ((3, semi) :: ks))) by rw [h]; simp [lineK])
    obtain ⟨b, ts, rfl, g1⟩ := kt_cons g0
    obtain ⟨b2, ts, rfl, g2⟩ := kt_cons g1
    obtain ⟨c, us, rfl, g4⟩ := kt_cons g2
    refine ⟨a, us, g4, fun rec fin deep n fl o => ?_⟩
    unfold stmtS
    rw [key_ok ix_pick.1, obind_ok rfl]
    simp only [ix_pick.2]
    unfold restS
    rw [if_neg (by decide), if_neg (by decide), if_pos rfl, arm_ok hm, obind_ok rfl]
    simp only
    rw [name_ok hs, obind_ok rfl]
    simp only
    rw [semiS_ok]
    rfl
  | @put m a0 s hm hs =>
    obtain ⟨a, ts, rfl, g0⟩ := kt_cons (show kt ts = (1, wPut) :: ((2, numB m) :: ((1, s) :: ((3, semi) :: ks))) by rw [h]; simp [lineK])
    obtain ⟨b, ts, rfl, g1⟩ := kt_cons g0
    obtain ⟨b2, ts, rfl, g2⟩ := kt_cons g1
    obtain ⟨c, us, rfl, g4⟩ := kt_cons g2
    refine ⟨a, us, g4, fun rec fin deep n fl o => ?_⟩
    unfold stmtS
    rw [key_ok ix_put.1, obind_ok rfl]
    simp only [ix_put.2]
    unfold restS
    rw [if_neg (by decide), if_neg (by decide), if_neg (by decide), if_pos rfl, arm_ok hm, obind_ok rfl]
    simp only
    rw [name_ok hs, obind_ok rfl]
    simp only
    rw [semiS_ok]
    rfl
  | @hand m a0 s hm hs =>
    obtain ⟨a, ts, rfl, g0⟩ := kt_cons (show kt ts = (1, wHand) :: ((2, numB m) :: ((1, s) :: ((3, semi) :: ks))) by rw [h]; simp [lineK])
    obtain ⟨b, ts, rfl, g1⟩ := kt_cons g0
    obtain ⟨b2, ts, rfl, g2⟩ := kt_cons g1
    obtain ⟨c, us, rfl, g4⟩ := kt_cons g2
    refine ⟨a, us, g4, fun rec fin deep n fl o => ?_⟩
    unfold stmtS
    rw [key_ok ix_hand.1, obind_ok rfl]
    simp only [ix_hand.2]
    unfold restS
    rw [if_neg (by decide), if_neg (by decide), if_neg (by decide), if_neg (by decide), if_pos rfl, arm_ok hm, obind_ok rfl]
    simp only
    rw [name_ok hs, obind_ok rfl]
    simp only
    rw [semiS_ok]
    rfl
  | @wait m a0 hm =>
    obtain ⟨a, ts, rfl, g0⟩ := kt_cons (show kt ts = (1, wWait) :: ((2, numB m) :: ((3, semi) :: ks)) by rw [h]; simp [lineK])
    obtain ⟨b, ts, rfl, g1⟩ := kt_cons g0
    obtain ⟨c, us, rfl, g4⟩ := kt_cons g1
    refine ⟨a, us, g4, fun rec fin deep n fl o => ?_⟩
    unfold stmtS
    rw [key_ok ix_wait.1, obind_ok rfl]
    simp only [ix_wait.2]
    unfold restS
    rw [if_neg (by decide), if_neg (by decide), if_neg (by decide), if_neg (by decide), if_neg (by decide), if_pos rfl, number_ok, obind_ok rfl]
    simp only
    rw [semiS_ok]
    rfl
  | @when_ s t l a0 hs ht => exact absurd rfl h7
  | @both q p a0 hq hp =>
    obtain ⟨a, ts, rfl, g0⟩ := kt_cons (show kt ts = (1, wBoth) :: (triK q ++ (triK p ++ ((3, semi) :: ks))) by rw [h]; simp [lineK])
    obtain ⟨us, g2, g3⟩ := triple_ok (q := q) g0
    obtain ⟨vs, g5, g6⟩ := triple_ok (q := p) g2
    obtain ⟨c, us, rfl, g4⟩ := kt_cons g5
    refine ⟨a, us, g4, fun rec fin deep n fl o => ?_⟩
    unfold stmtS
    rw [key_ok ix_both.1, obind_ok rfl]
    simp only [ix_both.2]
    unfold restS
    rw [if_neg (by decide), if_neg (by decide), if_neg (by decide), if_neg (by decide), if_neg (by decide), if_neg (by decide), if_pos rfl, g3, obind_ok rfl]
    simp only
    rw [g6, obind_ok rfl]
    simp only
    rw [semiS_ok]
    rfl
end Go.Proofs.YtonhcfecfifghaaDoor.PPx
namespace Go.Proofs.YtonhcfecfifghaaDoor.PPx
open Go.RowKit Go.Proofs.YtonhcfecfifghaaDoorW.PrintWords Go.Proofs.YtonhcfecfifghaaDoorW.PrintLast Go.Proofs.YtonhcfecfifghaaDoorW.PrintMore
set_option linter.unusedVariables false
/-- the same statements, their places apart -/
inductive SimL : List S55 → List S55 → Prop where
  | nil : SimL [] []
  | cons {x y : S55} {l m : List S55} : x.f0 = y.f0 → x.f1 = y.f1 → x.f2 = y.f2 → x.f3 = y.f3 → x.f4 = y.f4 → x.f5 = y.f5 → SimL x.f6 y.f6 → SimL l m → SimL (x :: l) (y :: m)
theorem SimL.len {l m : List S55} (h : SimL l m) : l.length = m.length := by
  induction h with
  | nil => rfl
  | cons _ _ _ _ _ _ _ _ _ ih => simp [ih]
theorem VLs.sim {d n : Nat} {l : List S55} {ks : List (Int × ByteArray)} (h : VLs d l n ks) : SimL l l := by
  induction h with
  | nil => exact .nil
  | @plain d n x l ks hx h7 _ ih =>
    refine .cons rfl rfl rfl rfl rfl rfl ?_ ih
    cases hx <;> first | exact .nil | exact absurd rfl h7
  | when_ _ _ _ _ ihk ihl => exact .cons rfl rfl rfl rfl rfl rfl ihk ihl
theorem stmts_lift {fin : Int} {deep : Int} {s : Rs} {out : List S55} {r : List S55 × Rs} {k k' : Nat} (hk : k ≤ k') (h : stmtsS fin k deep s out = some r) : stmtsS fin k' deep s out = some r := by
  obtain ⟨j, rfl⟩ := Nat.exists_eq_add_of_le hk
  induction j with
  | zero => exact h
  | succ j ih => exact stmtsS_le _ _ _ _ _ _ (ih (by omega))
theorem lineK_head {x : S55} (h : PlainOK x) : ∃ w ks, lineK x = (1, w) :: ks := by
  cases h <;> exact ⟨_, _, rfl⟩
/-- a round of stmts at a keyword -/
theorem round_ok {fin deep m : Int} {w : ByteArray} {a : Int} {ts : List S44} {fl : List S35} {out : List S55} {k : Nat} (h0 : 0 ≤ m) (h1 : m + 1 ≤ 64) (ho : out.length ≤ 1000) :
    stmtsS fin (k + 1) deep ⟨⟨1, w, a⟩ :: ts, m, fl, false⟩ out = (oneS (fun d s => stmtsS fin k d s []) fin deep ⟨⟨1, w, a⟩ :: ts, m + 1, fl, false⟩).bind fun r => stmtsS fin k deep r.2 (match r.1 with | some x => out ++ [x] | none => out) := by
  have hw : wrap64 (m + 1) = m + 1 := by unfold wrap64; omega
  rw [stmtsS]
  rw [if_neg (by simp), if_neg (by simp [lookS, isSign]), hw, if_neg (by omega), if_neg (by omega)]
  rfl
theorem one_ok {rec : Int → Rs → Option (List S55 × Rs)} {fin deep : Int} {s : Rs} {x : S55} {ts : List S44} {n : Int} {fl : List S35} (h : stmtS rec fin deep s = some (.ok x, ⟨ts, n, fl, false⟩)) : oneS rec fin deep s = some (some x, ⟨ts, n, fl, false⟩) := by
  unfold oneS; rw [h]; rfl
theorem plain_at {x : S55} (h : PlainOK x) (a : Int) : PlainOK (atA x a) := by
  cases h with
  | go0 h => exact .go0 h
  | go1 h => exact .go1 h
  | home h => exact .home h
  | pick h g => exact .pick h g
  | put h g => exact .put h g
  | hand h g => exact .hand h g
  | wait h => exact .wait h
  | when_ h g => exact .when_ h g
  | both h g => exact .both h g
theorem lineK_at (x : S55) (a : Int) : lineK (atA x a) = lineK x := rfl
theorem stmt_when {rec : Int → Rs → Option (List S55 × Rs)} {fin deep a b1 b2 b3 c n n' : Int} {s t : ByteArray} {fl : List S35} {ts4 ts5 : List S44} {kids : List S55} (hs : NameOK s) (ht : NameOK t) (hd : deep ≠ 4) (hd0 : 0 ≤ deep) (hd1 : deep ≤ 4)
    (hr : rec (deep + 1) ⟨ts4, n, fl, false⟩ = some (kids, ⟨⟨3, cbr, c⟩ :: ts5, n', fl, false⟩)) :
    stmtS rec fin deep ⟨⟨1, wWhen, a⟩ :: ⟨1, t, b1⟩ :: ⟨1, s, b2⟩ :: ⟨3, obr, b3⟩ :: ts4, n, fl, false⟩ = some (.ok ⟨7, 0, s, t, 0, ⟨zJ, zJ⟩, kids, a⟩, ⟨ts5, n', fl, false⟩) := by
  have hw : wrap64 (deep + 1) = deep + 1 := by unfold wrap64; omega
  unfold stmtS
  rw [key_ok ix_when.1, obind_ok rfl]
  simp only [ix_when.2]
  unfold restS
  rw [if_neg (by decide), if_neg (by decide), if_neg (by decide), if_neg (by decide), if_neg (by decide), if_neg (by decide), if_neg (by decide), if_pos rfl, if_neg hd, name_ok ht, obind_ok rfl]
  simp only
  rw [name_ok hs, obind_ok rfl]
  simp only
  rw [sign_obr, obind_ok rfl]
  simp only
  rw [hw, hr]
  simp only [Option.bind_some]
  rw [sign_cbr]
  rfl
theorem close_ok {fin deep c n : Int} {ts : List S44} {fl : List S35} {out : List S55} (hd : 0 < deep) : stmtsS fin 1 deep ⟨⟨3, cbr, c⟩ :: ts, n, fl, false⟩ out = some (out, ⟨⟨3, cbr, c⟩ :: ts, n, fl, false⟩) := by
  have : isSign ⟨#[125]⟩ (lookS fin (⟨3, cbr, c⟩ :: ts)) = true := by simp [lookS, isSign, cbr]
  rw [stmtsS]
  rw [if_neg (by simp), if_pos this, if_pos hd]
theorem parse_list {d n : Nat} {l : List S55} {ks : List (Int × ByteArray)} (h : VLs d l n ks) : ∀ (fin deep : Int) (ts : List S44) (ks' : List (Int × ByteArray)), 0 ≤ deep → deep + d ≤ 4 → kt ts = ks ++ ks' →
    ∃ us l', kt us = ks' ∧ SimL l l' ∧ VLs d l' n ks ∧ ∀ (m : Int) (fl : List S35) (out : List S55) (R : List S55 × Rs) (k : Nat), 0 ≤ m → m + n ≤ 64 → out.length + n ≤ 1000 → stmtsS fin k deep ⟨us, m + n, fl, false⟩ (out ++ l') = some R → ∃ k', stmtsS fin k' deep ⟨ts, m, fl, false⟩ out = some R := by
  induction h with
  | nil d =>
    intro fin deep ts ks' h0 hd hk
    refine ⟨ts, [], hk, .nil, .nil d, fun m fl out R k hm hn ho hr => ⟨k, ?_⟩⟩
    simpa using hr
  | @plain d n x l ks hx h7 hl ih =>
    intro fin deep ts ks' h0 hd hk
    obtain ⟨w, k0, hw⟩ := lineK_head hx
    have hk2 : kt ts = lineK x ++ (ks ++ ks') := by rw [hk, List.append_assoc]
    obtain ⟨a0, ts0, rfl, g0⟩ := kt_cons (show kt ts = (1, w) :: (k0 ++ (ks ++ ks')) by rw [hk2, hw]; rfl)
    obtain ⟨a, vs, hv, hst⟩ := stmt_plain hx h7 hk2
    obtain ⟨us, l', hus, hsim, hvl, hrun⟩ := ih fin deep vs ks' h0 hd hv
    refine ⟨us, atA x a :: l', hus, ?_, ?_, ?_⟩
    · refine .cons rfl rfl rfl rfl rfl rfl ?_ hsim
      cases hx <;> first | exact .nil | exact absurd rfl h7
    · have := VLs.plain (plain_at hx a) (show (atA x a).f0 ≠ 7 from h7) hvl
      rw [lineK_at] at this
      exact this
    · intro m fl out R k hm hn ho hr
      have hr' := hrun (m + 1) fl (out ++ [atA x a]) R k (by omega) (by omega) (by rw [List.length_append]; simp; omega) (by
        rw [show m + 1 + (n : Int) = m + ((n + 1 : Nat) : Int) by omega]
        simpa using hr)
      obtain ⟨k', hk'⟩ := hr'
      refine ⟨k' + 1, ?_⟩
      rw [round_ok hm (by omega) (by omega), one_ok (hst _ fin deep (m + 1) fl false)]
      exact hk'
  | @when_ d n m x l ks ls hx h7 hkd hl ihk ihl =>
    intro fin deep ts ks' h0 hd hk
    cases hx with
    | @when_ s t kids a0 hs ht =>
      have hk2 : kt ts = (1, wWhen) :: ((1, t) :: ((1, s) :: ((3, obr) :: (ls ++ ((3, cbr) :: (ks ++ ks')))))) := by rw [hk]; simp [lineK]
      obtain ⟨a, ts1, rfl, g0⟩ := kt_cons hk2
      obtain ⟨b1, ts2, rfl, g1⟩ := kt_cons g0
      obtain ⟨b2, ts3, rfl, g2⟩ := kt_cons g1
      obtain ⟨b3, ts4, rfl, g3⟩ := kt_cons g2
      obtain ⟨us1, kids', hu1, hsim1, hv1, hrun1⟩ := ihk fin (deep + 1) ts4 _ (by omega) (by omega) g3
      obtain ⟨c, ts5, rfl, g5⟩ := kt_cons hu1
      obtain ⟨us, l', hus, hsim, hvl, hrun⟩ := ihl fin deep ts5 ks' h0 hd g5
      refine ⟨us, ⟨7, 0, s, t, 0, ⟨zJ, zJ⟩, kids', a⟩ :: l', hus, .cons rfl rfl rfl rfl rfl rfl hsim1 hsim, ?_, ?_⟩
      · exact VLs.when_ (x := ⟨7, 0, s, t, 0, ⟨zJ, zJ⟩, kids', a⟩) (.when_ hs ht) rfl hv1 hvl
      · intro m0 fl out R k hm hn ho hr
        obtain ⟨k2, hk2'⟩ := hrun (m0 + 1 + m) fl (out ++ [⟨7, 0, s, t, 0, ⟨zJ, zJ⟩, kids', a⟩]) R k (by omega) (by omega) (by rw [List.length_append]; simp; omega) (by
          rw [show m0 + 1 + (m : Int) + n = m0 + ((n + m + 1 : Nat) : Int) by omega]
          simpa using hr)
        obtain ⟨k1, hk1⟩ := hrun1 (m0 + 1) fl [] (kids', ⟨⟨3, cbr, c⟩ :: ts5, m0 + 1 + m, fl, false⟩) 1 (by omega) (by omega) (by simp; omega) (by
          rw [List.nil_append]; exact close_ok (by omega))
        refine ⟨max k1 k2 + 1, ?_⟩
        rw [round_ok hm (by omega) (by omega), one_ok (stmt_when (n' := m0 + 1 + m) (kids := kids') hs ht (by omega) h0 (by omega) (stmts_lift (Nat.le_max_left k1 k2) hk1))]
        exact stmts_lift (Nat.le_max_right k1 k2) hk2'
    | _ => exact absurd h7 (by simp)
/-- Parse of a text whose tokens are those of valid statements -/
theorem parse_text {n : Nat} {l : List S55} {ks : List (Int × ByteArray)} (h : VLs 4 l n ks) (hn : n ≤ 64) {s : ByteArray} {ts : List S44} (hs : lexB s = (ts, 0, 0)) (hk : kt ts = ks) : ∃ l', SimL l l' ∧ VLs 4 l' n ks ∧ ∃ K, ∀ k, K ≤ k → parser_Parse.f k s = some (l', []) := by
  obtain ⟨us, l', hu, hsim, hv, hrun⟩ := parse_list h s.size 0 ts [] (Int.le_refl _) (by omega) (by rw [hk, List.append_nil])
  have hus : us = [] := by cases us with
    | nil => rfl
    | cons => simp [kt] at hu
  subst hus
  obtain ⟨K, hK⟩ := hrun 0 [] [] (l', ⟨[], 0 + n, [], false⟩) 1 (Int.le_refl _) (by omega) (by simp; omega) (by
    rw [List.nil_append, stmtsS, if_pos (.inr rfl)])
  refine ⟨l', hsim, hv, K, fun k hk' => ?_⟩
  unfold parser_Parse.f
  rw [hs]
  simp only [if_true]
  rw [stmts_lift hk' hK]
  rfl
end Go.Proofs.YtonhcfecfifghaaDoor.PPx
namespace Go.Proofs.YtonhcfecfifghaaDoor.PPx
open Go.RowKit Go.Proofs.YtonhcfecfifghaaDoorW.PrintWords Go.Proofs.YtonhcfecfifghaaDoorW.PrintLast Go.Proofs.YtonhcfecfifghaaDoorW.PrintMore
set_option linter.unusedVariables false
theorem equal_lift {l m : List S55} {r : Bool} {k k' : Nat} (hk : k ≤ k') (h : parser_Equal.f k l m = some r) : parser_Equal.f k' l m = some r := by
  obtain ⟨j, rfl⟩ := Nat.exists_eq_add_of_le hk
  induction j with
  | zero => exact h
  | succ j ih => exact Equal_le _ _ _ _ (ih (by omega))
theorem same_true {EQ : List S55 → List S55 → Option Bool} {x y : S55} (h0 : x.f0 = y.f0) (h1 : x.f1 = y.f1) (h2 : x.f2 = y.f2) (h3 : x.f3 = y.f3) (h4 : x.f4 = y.f4) (h5 : x.f5 = y.f5) (h : EQ x.f6 y.f6 = some true) : sameS EQ x y = some true := by
  unfold sameS sameE
  rw [h0, h1, h2, h3, h4, h5, h]
  simp
theorem SimL.equal {l m : List S55} (h : SimL l m) : ∃ K, ∀ k, K ≤ k → parser_Equal.f k l m = some true := by
  have key : ∃ K, ∀ k, K ≤ k → eqLoop (parser_Equal.f k) l m = some true := by
    induction h with
    | nil => exact ⟨0, fun k _ => rfl⟩
    | @cons x y l m h0 h1 h2 h3 h4 h5 hk hl ihk ihl =>
      obtain ⟨K1, g1⟩ := ihk
      obtain ⟨K2, g2⟩ := ihl
      refine ⟨max (K1 + 1) K2, fun k hkk => ?_⟩
      have hkid : parser_Equal.f k x.f6 y.f6 = some true := by
        obtain ⟨k, rfl⟩ : ∃ j, k = j + 1 := ⟨k - 1, by omega⟩
        show (if x.f6.length = y.f6.length then eqLoop (parser_Equal.f k) x.f6 y.f6 else some false) = _
        rw [if_pos hk.len]
        exact g1 k (by omega)
      show ((sameS (parser_Equal.f k) x y).bind fun t => if t = true then eqLoop (parser_Equal.f k) l m else some false) = _
      rw [same_true h0 h1 h2 h3 h4 h5 hkid]
      exact g2 k (by omega)
  obtain ⟨K, hK⟩ := key
  refine ⟨K + 1, fun k hk => ?_⟩
  obtain ⟨k, rfl⟩ : ∃ j, k = j + 1 := ⟨k - 1, by omega⟩
  show (if l.length = m.length then eqLoop (parser_Equal.f k) l m else some false) = _
  rw [if_pos h.len]
  exact hK k (by omega)
theorem line_sim {x y : S55} (h0 : x.f0 = y.f0) (h1 : x.f1 = y.f1) (h2 : x.f2 = y.f2) (h3 : x.f3 = y.f3) (h4 : x.f4 = y.f4) (h5 : x.f5 = y.f5) : lineF x = lineF y := by
  unfold lineF
  rw [h0, h1, h2, h3, h4, h5]
theorem SimL.written {l m : List S55} (h : SimL l m) : ∀ (k : Nat) (ins : ByteArray), writtenF k ins l = writtenF k ins m := by
  induction h with
  | nil => intro k ins; rfl
  | @cons x y l m h0 h1 h2 h3 h4 h5 hk hl ihk ihl =>
    intro k ins
    cases k with
    | zero => rfl
    | succ k =>
      have e : kidsW (writtenF k) ins x = kidsW (writtenF k) ins y := by unfold kidsW; rw [h0, ihk]
      show ((lineF x).bind fun s => (kidsW (writtenF k) ins x).bind fun t => (writtenF (k + 1) ins l).bind fun u => some ((((ins ++ s) ++ ⟨#[10]⟩) ++ t) ++ u)) = ((lineF y).bind fun s => (kidsW (writtenF k) ins y).bind fun t => (writtenF (k + 1) ins m).bind fun u => some ((((ins ++ s) ++ ⟨#[10]⟩) ++ t) ++ u))
      rw [line_sim h0 h1 h2 h3 h4 h5, e, ihl]
theorem SimL.format {l m : List S55} (h : SimL l m) (k : Nat) : parser_Format.f k l = parser_Format.f k m := by
  unfold parser_Format.f
  rw [h.written]
end Go.Proofs.YtonhcfecfifghaaDoor.PPx
namespace Go.Proofs.YtonhcfecfifghaaDoor.PPx
open Go.RowKit Go.Proofs.YtonhcfecfifghaaDoorW.PrintWords Go.Proofs.YtonhcfecfifghaaDoorW.PrintLast Go.Proofs.YtonhcfecfifghaaDoorW.PrintMore
set_option linter.unusedVariables false
def TokOK (ts : List S44) : Prop := ∀ t ∈ ts, (t.f0 = 1 → TokText 1 t.f1) ∧ (t.f0 = 2 → Small (numOf t))
/-- the same reader but for tokens taken -/
def Sub (s s' : Rs) : Prop := s'.toks <:+ s.toks ∧ s'.n = s.n ∧ s'.fl = s.fl ∧ s'.over = s.over
theorem Sub.refl (s : Rs) : Sub s s := ⟨List.suffix_refl _, rfl, rfl, rfl⟩
theorem Sub.trans {a b c : Rs} (h : Sub a b) (g : Sub b c) : Sub a c := ⟨g.1.trans h.1, g.2.1.trans h.2.1, g.2.2.1.trans h.2.2.1, g.2.2.2.trans h.2.2.2⟩
theorem take_sub (p : S44 → Bool) (fin : Int) (s : Rs) : Sub s (takeS p fin s).2 ∧ ∀ t, (takeS p fin s).1 = .ok t → t ∈ s.toks ∧ p t = true ∧ t.f0 ≠ 0 := by
  obtain ⟨ts, n, fl, o⟩ := s
  cases ts with
  | nil => exact ⟨Sub.refl _, fun t h => by simp [takeS] at h⟩
  | cons t ts =>
    by_cases c : (t.f0 == 0 || !p t) = true
    · have e : takeS p fin ⟨t :: ts, n, fl, o⟩ = (.error (110, t.f2), ⟨t :: ts, n, fl, o⟩) := by simp only [takeS, if_pos c]
      rw [e]
      exact ⟨Sub.refl _, fun t h => by simp at h⟩
    · have e : takeS p fin ⟨t :: ts, n, fl, o⟩ = (.ok t, ⟨ts, n, fl, o⟩) := by simp only [takeS, if_neg c]
      rw [e]
      refine ⟨⟨List.suffix_cons _ _, rfl, rfl, rfl⟩, fun t' h => ?_⟩
      obtain rfl : t = t' := by simpa using h
      simp only [Bool.or_eq_true, beq_iff_eq, Bool.not_eq_true', not_or, Bool.not_eq_false] at c
      exact ⟨List.mem_cons_self, c.2, c.1⟩
theorem obind_inv {α β : Type} {r : Step α} {f : α → Rs → Option (Step β)} {y : Step β} (h : obind r f = some y) : (∃ a, r.1 = .ok a ∧ f a r.2 = some y) ∨ (∃ e, r.1 = .error e ∧ y = (.error e, r.2)) := by
  unfold obind at h
  cases hr : r.1 with
  | ok a => rw [hr] at h; exact .inl ⟨a, rfl, h⟩
  | error e => rw [hr] at h; exact .inr ⟨e, rfl, (Option.some.inj h).symm⟩
theorem map_sub {α β : Type} {r : Step α} {f : α → β} {b : β} (h : (r.map f).1 = .ok b) : ∃ a, r.1 = .ok a ∧ b = f a := by
  unfold Step.map at h
  cases hr : r.1 with
  | ok a => rw [hr] at h; simp at h; exact ⟨a, rfl, h.symm⟩
  | error e => rw [hr] at h; simp at h
theorem bind_inv {α β : Type} {r : Step α} {f : α → Rs → Step β} : (∃ a, r.1 = .ok a ∧ r.bind f = f a r.2) ∨ (∃ e, r.1 = .error e ∧ r.bind f = (.error e, r.2)) := by
  cases hr : r.1 with
  | ok a => exact .inl ⟨a, rfl, Step.bind_ok hr⟩
  | error e => exact .inr ⟨e, rfl, Step.bind_err hr⟩
theorem number_sub (fin : Int) (s : Rs) (hs : TokOK s.toks) : Sub s (numberS fin s).2 ∧ ∀ n, (numberS fin s).1 = .ok n → Small n := by
  have h := take_sub isNumber fin s
  refine ⟨h.1, fun n hn => ?_⟩
  obtain ⟨t, ht, rfl⟩ := map_sub hn
  obtain ⟨hm, hp, _⟩ := h.2 t ht
  exact (hs t hm).2 (by simpa [isNumber] using hp)
theorem arm_sub (fin : Int) (s : Rs) : Sub s (armS fin s).2 ∧ ∀ n, (armS fin s).1 = .ok n → n = 0 ∨ n = 1 := by
  have h := take_sub isArm fin s
  refine ⟨h.1, fun n hn => ?_⟩
  obtain ⟨t, ht, rfl⟩ := map_sub hn
  unfold armOf
  split
  · exact .inr rfl
  · exact .inl rfl
theorem name_sub (fin : Int) (s : Rs) (hs : TokOK s.toks) : Sub s (nameS fin s).2 ∧ ∀ n, (nameS fin s).1 = .ok n → NameOK n := by
  have h := take_sub isNamed fin s
  refine ⟨h.1, fun n hn => ?_⟩
  obtain ⟨t, ht, rfl⟩ := map_sub hn
  obtain ⟨hm, hp, _⟩ := h.2 t ht
  simp only [isNamed, Bool.and_eq_true, beq_iff_eq, decide_eq_true_eq, Bool.not_eq_true'] at hp
  exact ⟨(hs t hm).1 hp.1, by omega, hp.2.2⟩
theorem TokOK.sub {s s' : Rs} (h : TokOK s.toks) (g : Sub s s') : TokOK s'.toks := fun t ht => h t (g.1.subset ht)
def StepOK {α : Type} (P : α → Prop) (s : Rs) (r : Step α) : Prop := Sub s r.2 ∧ ∀ a, r.1 = .ok a → P a
theorem StepOK.bind {α β : Type} {P : α → Prop} {Q : β → Prop} {s : Rs} {r : Step α} {f : α → Rs → Step β} (h : StepOK P s r) (g : ∀ a, P a → StepOK Q r.2 (f a r.2)) : StepOK Q s (r.bind f) := by
  rcases bind_inv (r := r) (f := f) with ⟨a, ha, e⟩ | ⟨e', he, e⟩
  · rw [e]
    have := g a (h.2 a ha)
    exact ⟨h.1.trans this.1, this.2⟩
  · rw [e]
    exact ⟨h.1, fun b hb => by simp at hb⟩
def OOK {β : Type} (Q : β → Prop) (s : Rs) (o : Option (Step β)) : Prop := ∀ y, o = some y → StepOK Q s y
theorem OOK.obind {α β : Type} {P : α → Prop} {Q : β → Prop} {s : Rs} {r : Step α} {f : α → Rs → Option (Step β)} (h : StepOK P s r) (g : ∀ a, P a → OOK Q r.2 (f a r.2)) : OOK Q s (PPx.obind r f) := by
  intro y hy
  rcases obind_inv hy with ⟨a, ha, e⟩ | ⟨e', he, e⟩
  · have := g a (h.2 a ha) y e
    exact ⟨h.1.trans this.1, this.2⟩
  · rw [e]
    exact ⟨h.1, fun b hb => by simp at hb⟩
theorem sign_ok' (c : ByteArray) (fin : Int) (s : Rs) : StepOK (fun _ => True) s (signS c fin s) := ⟨(take_sub _ fin s).1, fun _ _ => trivial⟩
theorem triple_sub (fin : Int) (s : Rs) (hs : TokOK s.toks) : StepOK SmallQ s (tripleS fin s) := by
  unfold tripleS
  refine StepOK.bind (sign_ok' _ fin s) fun _ _ => ?_
  have h1 := hs.sub (sign_ok' ⟨#[40]⟩ fin s).1
  refine StepOK.bind (number_sub fin _ h1) fun a ha => ?_
  have h2 := h1.sub (number_sub fin _ h1).1
  unfold tri1
  refine StepOK.bind (sign_ok' _ fin _) fun _ _ => ?_
  have h3 := h2.sub (sign_ok' ⟨#[44]⟩ fin _).1
  refine StepOK.bind (number_sub fin _ h3) fun b hb => ?_
  have h4 := h3.sub (number_sub fin _ h3).1
  unfold tri2
  refine StepOK.bind (sign_ok' _ fin _) fun _ _ => ?_
  have h5 := h4.sub (sign_ok' ⟨#[44]⟩ fin _).1
  refine StepOK.bind (number_sub fin _ h5) fun c hc => ?_
  unfold tri3
  refine StepOK.bind (sign_ok' _ fin _) fun _ _ => ?_
  exact ⟨Sub.refl _, fun q hq => by obtain rfl := Except.ok.inj hq; exact ⟨ha, hb, hc⟩⟩
theorem semi_sub {P : S55 → Prop} (fin : Int) (x : S55) (s : Rs) (hx : P x) : OOK P s (semiS fin x s) := by
  intro y hy
  obtain rfl := Option.some.inj hy
  refine StepOK.bind (sign_ok' _ fin s) fun _ _ => ?_
  exact ⟨Sub.refl _, fun q hq => by obtain rfl := Except.ok.inj hq; exact hx⟩
/-- what follows a keyword other than when -/
theorem rest_sub (rec : Int → Rs → Option (List S55 × Rs)) (fin deep k c : Int) (s : Rs) (hs : TokOK s.toks) (h7 : k ≠ 7) (hk : 1 ≤ k ∧ k ≤ 8) : OOK (fun x => PlainOK x ∧ x.f0 ≠ 7) s (restS rec fin deep k c s) := by
  unfold restS
  by_cases k1 : k = 1
  · rw [if_pos k1]
    refine OOK.obind (arm_sub fin s) fun a ha => ?_
    refine OOK.obind (triple_sub fin _ (hs.sub (arm_sub fin s).1)) fun q hq => ?_
    refine semi_sub fin _ _ ?_
    rcases ha with rfl | rfl
    · exact ⟨.go0 hq, by simp⟩
    · exact ⟨.go1 hq, by simp⟩
  rw [if_neg k1]
  by_cases k2 : k = 2
  · rw [if_pos k2]
    refine OOK.obind (arm_sub fin s) fun a ha => ?_
    exact semi_sub fin _ _ ⟨.home ha, by simp⟩
  rw [if_neg k2]
  by_cases k3 : k = 3
  · rw [if_pos k3]
    refine OOK.obind (arm_sub fin s) fun a ha => ?_
    refine OOK.obind (name_sub fin _ (hs.sub (arm_sub fin s).1)) fun q hq => ?_
    exact semi_sub fin _ _ ⟨.pick ha hq, by simp⟩
  rw [if_neg k3]
  by_cases k4 : k = 4
  · rw [if_pos k4]
    refine OOK.obind (arm_sub fin s) fun a ha => ?_
    refine OOK.obind (name_sub fin _ (hs.sub (arm_sub fin s).1)) fun q hq => ?_
    exact semi_sub fin _ _ ⟨.put ha hq, by simp⟩
  rw [if_neg k4]
  by_cases k5 : k = 5
  · rw [if_pos k5]
    refine OOK.obind (arm_sub fin s) fun a ha => ?_
    refine OOK.obind (name_sub fin _ (hs.sub (arm_sub fin s).1)) fun q hq => ?_
    exact semi_sub fin _ _ ⟨.hand ha hq, by simp⟩
  rw [if_neg k5]
  by_cases k6 : k = 6
  · rw [if_pos k6]
    refine OOK.obind (number_sub fin s hs) fun a ha => ?_
    exact semi_sub fin _ _ ⟨.wait ha, by simp⟩
  rw [if_neg k6]
  have k8 : k = 8 := by omega
  rw [if_pos k8]
  refine OOK.obind (triple_sub fin s hs) fun q hq => ?_
  refine OOK.obind (triple_sub fin _ (hs.sub (triple_sub fin s hs).1)) fun p hp => ?_
  exact semi_sub fin _ _ ⟨.both hq hp, by simp⟩
end Go.Proofs.YtonhcfecfifghaaDoor.PPx
namespace Go.Proofs.YtonhcfecfifghaaDoor.PPx
open Go.RowKit Go.Proofs.YtonhcfecfifghaaDoorW.PrintWords Go.Proofs.YtonhcfecfifghaaDoorW.PrintLast Go.Proofs.YtonhcfecfifghaaDoorW.PrintMore
set_option linter.unusedVariables false
/-- a keyword's number is 0 for the empty text alone -/
theorem index_ge (l : List ByteArray) (s : ByteArray) (hl : l.length ≤ 1000) : ∀ (k : Nat) (i r : Int), 0 ≤ i → i ≤ l.length → slices_Index_string_string.l0 k l s l.length i = some r → r = -1 ∨ i ≤ r := by
  intro k
  induction k with
  | zero => intro i r _ _ h; simp [slices_Index_string_string.l0] at h
  | succ k ih =>
    intro i r h0 h1 h
    rw [slices_Index_string_string.l0] at h
    by_cases hlt : i < (l.length : Int)
    · rw [if_pos hlt, if_pos h0, if_pos hlt, wrap_small' (by omega) (by omega)] at h
      split at h
      · have := Option.some.inj h; omega
      · have := ih (i + 1) r (by omega) (by omega) h; omega
    · rw [if_neg hlt] at h
      have := Option.some.inj h; omega
theorem word0 {s : ByteArray} (h : wordIx s = 0) : s = ⟨#[]⟩ := by
  have hf := (wordIx_f s).1
  rw [h] at hf
  have hf : slices_Index_string_string.l0 20 wordsL s (wordsL.length : Int) 0 = some 0 := hf
  rw [slices_Index_string_string.l0, if_pos (by decide), if_pos (by decide), if_pos (by decide), wrap_small' (by decide) (by decide)] at hf
  by_cases he : s.toList = (rdOf ByteArray.empty wordsL 0).toList
  · rw [ByteArray.toList_eq, ByteArray.toList_eq] at he
    apply ByteArray.ext
    exact Array.toList_inj.1 he
  · rw [if_neg he] at hf
    have := index_ge wordsL s (by decide) _ _ _ (by decide) (by decide) hf
    omega
def Inv (s : Rs) : Prop := 0 ≤ s.n ∧ s.n ≤ 65 ∧ (s.over = false → s.n ≤ 64)
def Res (deep : Int) (s : Rs) (out : List S55) (r : List S55 × Rs) : Prop := r.2.toks <:+ s.toks ∧ Inv r.2 ∧ s.n ≤ r.2.n ∧ ∃ l n ks, r.1 = out ++ l ∧ VLs (4 - deep).toNat l n ks ∧ s.n + n ≤ r.2.n ∧ (n ≠ 0 → s.n + n ≤ 64)
def RecOK (deep : Int) (rec : Int → Rs → Option (List S55 × Rs)) : Prop := ∀ s r, rec (deep + 1) s = some r → TokOK s.toks → Inv s → deep ≠ 4 → Res (deep + 1) s [] r
theorem Inv.sub {s s' : Rs} (h : Inv s) (g : Sub s s') : Inv s' := by
  obtain ⟨_, hn, _, ho⟩ := g
  unfold Inv
  rw [hn, ho]
  exact h
/-- what a statement's step gives -/
def StmOut (deep : Int) (s : Rs) (y : Step S55) : Prop := y.2.toks <:+ s.toks ∧ Inv y.2 ∧ s.n ≤ y.2.n ∧ ∀ x, y.1 = .ok x → PlainOK x ∧ ((x.f0 ≠ 7) ∨ (x.f0 = 7 ∧ deep ≠ 4 ∧ ∃ m ls, VLs (4 - (deep + 1)).toNat x.f6 m ls ∧ s.n + m ≤ y.2.n))
theorem out_of_step {deep : Int} {s s1 : Rs} {y : Step S55} (h1 : Sub s s1) (hI : Inv s) (h : StepOK (fun x => PlainOK x ∧ x.f0 ≠ 7) s1 y) : StmOut deep s y := by
  have hs := h1.trans h.1
  refine ⟨hs.1, hI.sub hs, by rw [hs.2.1]; exact Int.le_refl _, fun x hx => ⟨(h.2 x hx).1, .inl (h.2 x hx).2⟩⟩
theorem err_out {deep : Int} {s s1 : Rs} {e : Int × Int} (h1 : Sub s s1) (hI : Inv s) : StmOut deep s (.error e, s1) := ⟨h1.1, hI.sub h1, by rw [h1.2.1]; exact Int.le_refl _, fun x hx => by simp at hx⟩
theorem isWord_ix {s : ByteArray} (h : isWord s = true) : 0 ≤ wordIx s ∧ wordIx s ≤ 8 := by
  have h1 : wordIx s ≥ 0 := by simpa [isWord] using h
  have := (wordIx_f s).2.2
  omega
theorem stmt_sound {rec : Int → Rs → Option (List S55 × Rs)} {fin deep : Int} (hr : RecOK deep rec) (hd : 0 ≤ deep) (hd4 : deep ≤ 4) {s : Rs} (hs : TokOK s.toks) (hI : Inv s) {y : Step S55} (h : stmtS rec fin deep s = some y) : StmOut deep s y := by
  unfold stmtS at h
  rcases obind_inv h with ⟨t, ht, h⟩ | ⟨e, he, rfl⟩
  case inr => exact err_out (take_sub isKey fin s).1 hI
  have htk := take_sub isKey fin s
  obtain ⟨hm, hp, hn0⟩ := htk.2 t ht
  have hk : t.f0 = 1 ∧ isWord t.f1 = true := by simpa [isKey] using hp
  have hix := isWord_ix hk.2
  have hs1 := hs.sub htk.1
  have hI1 := hI.sub htk.1
  by_cases h0 : wordIx t.f1 = 0
  · -- the empty keyword is no token
    exfalso
    have hz := ((hs t hm).1 hk.1).1
    rw [word0 h0] at hz
    exact absurd hz (by decide)
  by_cases h7 : wordIx t.f1 = 7
  · rw [h7] at h
    unfold restS at h
    rw [if_neg (by decide), if_neg (by decide), if_neg (by decide), if_neg (by decide), if_neg (by decide), if_neg (by decide), if_neg (by decide), if_pos rfl] at h
    by_cases h4 : deep = 4
    · rw [if_pos h4] at h
      obtain rfl := Option.some.inj h
      exact err_out htk.1 hI
    rw [if_neg h4] at h
    have hw : wrap64 (deep + 1) = deep + 1 := by unfold wrap64; omega
    have n1 := name_sub fin (takeS isKey fin s).2 hs1
    rcases obind_inv h with ⟨p, hp1, h⟩ | ⟨e, he, rfl⟩
    case inr => exact err_out (htk.1.trans n1.1) hI
    have hs2 := hs1.sub n1.1
    have n2 := name_sub fin _ hs2
    rcases obind_inv h with ⟨q, hq1, h⟩ | ⟨e, he, rfl⟩
    case inr => exact err_out (htk.1.trans (n1.1.trans n2.1)) hI
    have hs3 := hs2.sub n2.1
    have n3 := sign_ok' ⟨#[123]⟩ fin (nameS fin (nameS fin (takeS isKey fin s).2).2).2
    rcases obind_inv h with ⟨u, hu1, h⟩ | ⟨e, he, rfl⟩
    case inr => exact err_out (htk.1.trans (n1.1.trans (n2.1.trans n3.1))) hI
    have hs4 := hs3.sub n3.1
    have hsub := htk.1.trans (n1.1.trans (n2.1.trans n3.1))
    obtain ⟨r, hr1, h⟩ := Option.bind_eq_some_iff.1 h
    rw [hw] at hr1
    obtain ⟨ha, hb, hc, l, n, ks, hl, hv, hn, hn64⟩ := hr _ _ hr1 hs4 (hI.sub hsub) h4
    obtain rfl := Option.some.inj h
    have hn1 := hsub.2.1
    rw [List.nil_append] at hl
    have n5 := sign_ok' ⟨#[125]⟩ fin r.2
    rcases bind_inv (r := signS ⟨#[125]⟩ fin r.2) (f := fun _ s => (.ok (⟨7, 0, q, p, 0, ⟨⟨0, 0, 0⟩, ⟨0, 0, 0⟩⟩, r.1, t.f2⟩ : S55), s)) with ⟨a, ha', e⟩ | ⟨e', he, e⟩
    · rw [e]
      refine ⟨n5.1.1.trans (ha.trans hsub.1), hb.sub n5.1, by have := n5.1.2.1; simp only; omega, fun x hx => ?_⟩
      obtain rfl := Except.ok.inj hx
      refine ⟨.when_ (n2.2 q hq1) (n1.2 p hp1), .inr ⟨rfl, h4, n, ks, ?_, ?_⟩⟩
      · rw [← hl] at hv; exact hv
      · have := n5.1.2.1; simp only; omega
    · rw [e]
      refine ⟨n5.1.1.trans (ha.trans hsub.1), hb.sub n5.1, by have := n5.1.2.1; simp only; omega, fun x hx => by simp at hx⟩
  · exact out_of_step htk.1 hI (rest_sub rec fin deep _ _ _ hs1 h7 (by omega) y h)
theorem skip_suf : ∀ (ts : List S44), skipS ts <:+ ts
  | [] => List.suffix_refl _
  | x :: ts => by
    unfold skipS
    split
    · exact List.suffix_cons _ _
    · split
      · exact List.suffix_refl _
      · exact (skip_suf ts).trans (List.suffix_cons _ _)
/-- what a recovered statement gives -/
theorem one_sound {rec : Int → Rs → Option (List S55 × Rs)} {fin deep : Int} (hr : RecOK deep rec) (hd : 0 ≤ deep) (hd4 : deep ≤ 4) {s : Rs} (hs : TokOK s.toks) (hI : Inv s) (ho : s.over = false) {x : Option S55} {s' : Rs} (h : oneS rec fin deep s = some (x, s')) :
    s'.toks <:+ s.toks ∧ Inv s' ∧ s.n ≤ s'.n ∧ ∀ z, x = some z → s'.over = false ∧ PlainOK z ∧ ((z.f0 ≠ 7) ∨ (z.f0 = 7 ∧ deep ≠ 4 ∧ ∃ m ls, VLs (4 - (deep + 1)).toNat z.f6 m ls ∧ s.n + m ≤ s'.n)) := by
  unfold oneS at h
  obtain ⟨⟨y, s1⟩, hy, h⟩ := Option.bind_eq_some_iff.1 h
  obtain ⟨h1, h2, h3, h4⟩ := stmt_sound hr hd hd4 hs hI hy
  simp only at h1 h2 h3 h4
  cases y with
  | ok z =>
    simp only [Option.some.injEq, Prod.mk.injEq] at h
    obtain ⟨hx, rfl⟩ := h
    refine ⟨h1, h2, h3, fun z' hz => ?_⟩
    by_cases hov : s1.over = true
    · rw [if_pos hov] at hx; rw [← hx] at hz; cases hz
    · rw [if_neg hov] at hx
      rw [← hx] at hz
      obtain rfl := Option.some.inj hz
      exact ⟨by simpa using hov, h4 z rfl⟩
  | error f =>
    simp only at h
    split at h
    · simp only [Option.some.injEq, Prod.mk.injEq] at h
      obtain ⟨rfl, rfl⟩ := h
      exact ⟨h1, h2, h3, fun z hz => by cases hz⟩
    · rename_i hov
      split at h
      · cases h
      · simp only [Option.some.injEq, Prod.mk.injEq] at h
        obtain ⟨rfl, rfl⟩ := h
        refine ⟨(skip_suf _).trans h1, ⟨h2.1, h2.2.1, fun _ => h2.2.2 (by simpa using hov)⟩, h3, fun z hz => by cases hz⟩
theorem stmts_sound (fin : Int) : ∀ (k : Nat) (deep : Int) (s : Rs) (out : List S55) (r : List S55 × Rs), stmtsS fin k deep s out = some r → TokOK s.toks → 0 ≤ deep → deep ≤ 4 → Inv s → Res deep s out r
  | 0, deep, s, out, r => fun h => by simp [stmtsS] at h
  | k + 1, deep, s, out, r => fun h hs hd hd4 hI => by
    have ih := stmts_sound fin k
    have none_ : ∀ (s' : Rs), s'.toks <:+ s.toks → Inv s' → s.n ≤ s'.n → Res deep s out (out, s') := fun s' a b c => ⟨a, b, c, [], 0, [], by simp, .nil _, by simpa using c, fun h => absurd rfl h⟩
    rw [stmtsS] at h
    by_cases c1 : s.over = true ∨ s.toks = []
    · rw [if_pos c1] at h
      obtain rfl := Option.some.inj h
      exact none_ s (List.suffix_refl _) hI (Int.le_refl _)
    rw [if_neg c1] at h
    have hov : s.over = false := by simpa using fun h' => c1 (.inl h')
    have h64 := hI.2.2 hov
    have hn0 := hI.1
    by_cases c2 : isSign ⟨#[125]⟩ (lookS fin s.toks) = true
    · rw [if_pos c2] at h
      by_cases c3 : deep > 0
      · rw [if_pos c3] at h
        obtain rfl := Option.some.inj h
        exact none_ s (List.suffix_refl _) hI (Int.le_refl _)
      rw [if_neg c3] at h
      split at h
      · cases h
      · obtain ⟨a, b, c, d⟩ := ih _ _ _ _ h (fun t ht => hs t (List.mem_of_mem_tail ht)) hd hd4 ⟨hI.1, hI.2.1, fun _ => h64⟩
        exact ⟨a.trans (List.tail_suffix _), b, c, d⟩
    rw [if_neg c2] at h
    have hw : wrap64 (s.n + 1) = s.n + 1 := by unfold wrap64; omega
    rw [hw] at h
    by_cases c4 : s.n + 1 > 64
    · rw [if_pos c4] at h
      split at h
      · cases h
      · obtain rfl := Option.some.inj h
        exact none_ _ (List.suffix_refl _) ⟨by simp only; omega, by simp only; omega, fun h => by simp at h⟩ (by simp only; omega)
    rw [if_neg c4] at h
    split at h
    · cases h
    obtain ⟨⟨x, s1⟩, hx, h⟩ := Option.bind_eq_some_iff.1 h
    have hrec : RecOK deep (fun d s => stmtsS fin k d s []) := fun s' r' h' ht hi hd' => ih _ _ _ _ h' ht (by omega) (by omega) hi
    obtain ⟨h1, h2, h3, h4⟩ := one_sound hrec hd hd4 (s := { s with n := s.n + 1 }) hs ⟨by simp only; omega, by simp only; omega, fun _ => by simp only; omega⟩ hov hx
    simp only at h1 h2 h3 h4 h
    cases x with
    | none =>
      obtain ⟨a, b, c, l, n, ks, hl, hv, hn, hn64⟩ := ih _ _ _ _ h (fun t ht => hs t (h1.subset ht)) hd hd4 h2
      exact ⟨a.trans h1, b, by omega, l, n, ks, hl, hv, by omega, fun hne => by have := hn64 hne; omega⟩
    | some z =>
      obtain ⟨hov1, hz, hz7⟩ := h4 z rfl
      have h641 := h2.2.2 hov1
      obtain ⟨a, b, c, l, n, ks, hl, hv, hn, hn64⟩ := ih _ _ _ _ h (fun t ht => hs t (h1.subset ht)) hd hd4 h2
      refine ⟨a.trans h1, b, by omega, z :: l, ?_⟩
      rcases hz7 with hz7 | ⟨hz7, hd', m, ls, hvk, hmk⟩
      · refine ⟨n + 1, lineK z ++ ks, by rw [hl]; simp, .plain hz hz7 hv, by omega, fun _ => ?_⟩
        by_cases hn' : n = 0
        · omega
        · have := hn64 hn'; omega
      · obtain ⟨d, hd2⟩ : ∃ d, (4 - deep).toNat = d + 1 := ⟨(4 - deep).toNat - 1, by omega⟩
        have hd3 : (4 - (deep + 1)).toNat = d := by omega
        rw [hd2] at hv ⊢
        rw [hd3] at hvk
        refine ⟨n + m + 1, lineK z ++ (ls ++ ((3, cbr) :: ks)), by rw [hl]; simp, .when_ hz hz7 hvk hv, by omega, fun _ => ?_⟩
        by_cases hn' : n = 0
        · omega
        · have := hn64 hn'; omega
end Go.Proofs.YtonhcfecfifghaaDoor.PPx
namespace Go.Proofs.YtonhcfecfifghaaDoor.PPx
open Go.RowKit Go.Proofs.YtonhcfecfifghaaDoorW.PrintWords Go.Proofs.YtonhcfecfifghaaDoorW.PrintLast Go.Proofs.YtonhcfecfifghaaDoorW.PrintMore
set_option linter.unusedVariables false
/-- a token's text, alone, is that token -/
theorem tok_alone {s : ByteArray} {p : Int} (h0 : 0 ≤ p) (h1 : p < (s.size : Int)) (hok : (nextAt s p).2.2.2.1 = true) (h5 : at_ s p ≠ 5) (h6 : at_ s p ≠ 6) : TokText (nextAt s p).1 (nextAt s p).2.1 := by
  obtain ⟨a1, a2, a3⟩ := nextAt_at hok
  have hn := nextAt_range s p h0 (by omega) hok
  have hsz := size_extractI (s := s) (a := p) (b := (nextAt s p).2.2.2.2) h0 (by omega) hn.2
  have M : Move s (s.extract p.toNat (nextAt s p).2.2.2.2.toNat) (-p) p (nextAt s p).2.2.2.2 := by
    refine ⟨h0, hn.2, by omega, by omega, fun x hx hx2 => ?_⟩
    rw [bt_extract h0 (by omega) (by omega) hn.2]
    congr 1; omega
  have hx := M.next (i := p) (Int.le_refl _) (by omega) (Int.le_refl _) (fun _ => soft_end (by omega)) (.inr (.inl hok))
  have hat := M.at (x := p) (Int.le_refl _) (by omega)
  rw [show p + -p = 0 by omega] at hx hat
  rw [hok, a1, ← a3] at hx
  rw [← a3] at hat hsz
  simp only [if_true] at hx
  refine ⟨by omega, by rw [hat]; exact h5, by rw [hat]; exact h6, ?_⟩
  rw [hx]
  refine Prod.ext rfl (Prod.ext rfl (Prod.ext (by simp only; omega) (Prod.ext rfl (by simp only; omega))))
/-- every token of a path begins somewhere in the text -/
theorem path_tok {s : ByteArray} {i j : Int} {ts : List S44} (h : Path s i ts j) : 0 ≤ i → i ≤ (s.size : Int) → ∀ t ∈ ts, ∃ p, i ≤ p ∧ p < (s.size : Int) ∧ at_ s p ≠ 5 ∧ at_ s p ≠ 6 ∧ (nextAt s p).2.2.2.1 = true ∧ t = tokAt s p := by
  induction h with
  | nil i => intro _ _ t ht; cases ht
  | @cons i j ts hlt hok hp ih =>
    intro h0 h1 t ht
    have hr := skipTo_range s i h0 h1
    have hn := nextAt_range s _ (by omega) hr.2 hok
    obtain ⟨_, h5, h6⟩ := skip_gap s i h0 h1
    rcases List.mem_cons.1 ht with rfl | ht
    · exact ⟨skipTo s i, hr.1, hlt, h5, h6, hok, rfl⟩
    · obtain ⟨p, hp0, hp1⟩ := ih (by omega) hn.2 t ht
      exact ⟨p, by omega, hp1⟩
theorem decNat_lt {l : List UInt8} {m : Nat} (h : Lib.decNat l = some m) (hl : l.length ≤ 9) : m < 1000000000 := by
  unfold Lib.decNat at h
  split at h
  · cases h
  · have h1 := Lib.decFrom_lt _ 0 m h
    have h2 := Nat.pow_le_pow_right (n := 10) (by decide) hl
    rw [Nat.zero_add, Nat.one_mul] at h1
    have e : 10 ^ 9 = 1000000000 := by decide
    omega
theorem atoi_small {b : UInt8} {r : List UInt8} {n : Int} (h : Lib.atoi (b :: r) = some n) (hr : r.length ≤ 8 ∨ (b = 45 ∧ r.length ≤ 9)) : Small n := by
  unfold Lib.atoi at h
  have h : (if (b == 45) = true then (Lib.decNat r).map fun (m : Nat) => -(m : Int) else if (b == 43) = true then (Lib.decNat r).map fun (m : Nat) => (m : Int) else (Lib.decNat (b :: r)).map fun (m : Nat) => (m : Int)) = some n := h
  by_cases c : (b == 45) = true
  · rw [if_pos c] at h
    obtain ⟨m, hm, rfl⟩ := Option.map_eq_some_iff.1 h
    have := decNat_lt hm (by omega)
    exact ⟨by omega, by omega⟩
  · rw [if_neg c] at h
    have hr8 : r.length ≤ 8 := by
      rcases hr with h | ⟨rfl, _⟩
      · exact h
      · exact absurd rfl c
    split at h
    · obtain ⟨m, hm, rfl⟩ := Option.map_eq_some_iff.1 h
      have := decNat_lt hm (by omega)
      exact ⟨by omega, by omega⟩
    · obtain ⟨m, hm, rfl⟩ := Option.map_eq_some_iff.1 h
      have := decNat_lt hm (by simp; omega)
      exact ⟨by omega, by omega⟩
theorem token_small {s : ByteArray} {i : Int} (h0 : 0 ≤ i) (hk : at_ s i = 7 ∨ at_ s i = 2) (hok : numOK (at_ s i == 7) (s.extract (firstAt (at_ s i == 7) i).toNat (scanTo (digitAt s) s.size (firstAt (at_ s i == 7) i)).toNat) = true) :
    ∀ n, Lib.atoi (s.extract i.toNat (scanTo (digitAt s) s.size (firstAt (at_ s i == 7) i)).toNat).data.toList = some n → Small n := by
  intro n hn
  have hlt : i < (s.size : Int) := by rcases hk with h | h <;> exact (at_some (by decide) h).1
  have hsz := numOK_size hok
  rcases hk with h | h
  · have hb : (at_ s i == 7) = true := by simp [h]
    rw [hb] at hok hsz hn
    have hf : firstAt true i = i + 1 := rfl
    rw [hf] at hok hsz hn
    have hr := scanTo_range (digitAt s) s.size (i + 1) (by omega)
    rw [ByteArray.size_extract] at hsz
    obtain ⟨hi, he⟩ := data_ext0 (s := s) (j := scanTo (digitAt s) s.size (i + 1)) h0 (by omega) hr.2
    rw [he] at hn
    have h7 : s[i.toNat] = 45 := by
      have h5 := (at_some (by decide) h).2
      have h6 := bt_at s i hi
      have h8 : (bt s i).toNat = 45 := by
        revert h5; generalize (bt s i).toNat = c
        intro h5; unfold cls at h5; repeat' split at h5
        all_goals first | omega | contradiction
      apply UInt8.toNat_inj.1
      show _ = 45
      omega
    refine atoi_small hn (.inr ⟨h7, ?_⟩)
    rw [data_size, ByteArray.size_extract]; omega
  · have hb : (at_ s i == 7) = false := by simp [h]
    rw [hb] at hok hsz hn
    have hf : firstAt false i = i := rfl
    rw [hf] at hok hsz hn
    have hr := scanTo_range (digitAt s) s.size i (by omega)
    rw [ByteArray.size_extract] at hsz
    obtain ⟨hi, he⟩ := data_ext0 (s := s) (j := scanTo (digitAt s) s.size i) h0 (by omega) hr.2
    rw [he] at hn
    refine atoi_small hn (.inl ?_)
    rw [data_size, ByteArray.size_extract]; omega
theorem next_small {s : ByteArray} {i : Int} (h0 : 0 ≤ i) (hok : (nextAt s i).2.2.2.1 = true) (h2 : (nextAt s i).1 = 2) : ∀ n, Lib.atoi (nextAt s i).2.1.data.toList = some n → Small n := by
  unfold nextAt at hok h2 ⊢
  by_cases c1 : at_ s i = 1
  · simp only [if_pos c1] at h2; omega
  · simp only [if_neg c1] at hok h2 ⊢
    by_cases c4 : at_ s i = 4
    · simp only [if_pos c4] at h2; omega
    · simp only [if_neg c4] at hok h2 ⊢
      by_cases c7 : at_ s i = 7 ∨ at_ s i = 2
      · simp only [if_pos c7] at hok h2 ⊢
        split at hok
        · rename_i hc
          rw [if_pos hc]
          simp only [Bool.and_eq_true] at hc
          exact token_small h0 c7 hc.1
        · simp at hok
      · simp only [if_neg c7] at hok
        exact absurd hok (by simp)
theorem path_ok {s : ByteArray} {j : Int} {ts : List S44} (h : Path s 0 ts j) : TokOK ts := by
  intro t ht
  obtain ⟨p, h0, h1, h5, h6, hok, rfl⟩ := path_tok h (Int.le_refl _) (by omega) t ht
  have ha := tok_alone h0 h1 hok h5 h6
  refine ⟨fun h1 => ?_, fun h2 => ?_⟩
  · have h1' : (nextAt s p).1 = 1 := h1
    rw [h1'] at ha
    exact ha
  · have h2' : (nextAt s p).1 = 2 := h2
    obtain ⟨_, n, hn⟩ := next_num h0 hok h2'
    have := next_small h0 hok h2' n hn
    show Small ((Lib.atoi (nextAt s p).2.1.data.toList).getD 0)
    rw [hn]
    exact this
theorem lex_ok (s : ByteArray) : TokOK (lexB s).1 := by
  by_cases hs : s.size ≤ 20000
  · obtain ⟨ts, j, hp, h0, h1, hc⟩ := whole s hs
    rcases hc with ⟨hl, hk⟩ | ⟨hl, _, _⟩
    · rw [hl]; exact path_ok hp
    · rw [hl]; exact fun t ht => by cases ht
  · unfold lexB
    rw [if_pos (by omega)]
    exact fun t ht => by cases ht
end Go.Proofs.YtonhcfecfifghaaDoor.PPx
namespace Go.Proofs.YtonhcfecfifghaaDoor.PPx
open Go.RowKit Go.Proofs.YtonhcfecfifghaaDoorW.PrintWords Go.Proofs.YtonhcfecfifghaaDoorW.PrintLast Go.Proofs.YtonhcfecfifghaaDoorW.PrintMore
set_option linter.unusedVariables false
/-- what holds of the reader at any time -/
def InvT (s : Rs) : Prop := 0 ≤ s.n ∧ s.n ≤ 65 ∧ s.fl.length ≤ 20 ∧ (s.over = false → s.n ≤ 64 ∧ s.fl.length < 20)
theorem InvT.sub {s s' : Rs} (h : InvT s) (g : Sub s s') : InvT s' := by
  obtain ⟨_, hn, hf, ho⟩ := g
  unfold InvT
  rw [hn, hf, ho]
  exact h
theorem suf_len {a b : List S44} (h : a <:+ b) : a.length ≤ b.length := h.length_le
def Tot {α : Type} (o : Option α) : Prop := ∃ y, o = some y
theorem Tot.obind {α β : Type} {r : Step α} {f : α → Rs → Option (Step β)} (g : ∀ a s, Tot (f a s)) : Tot (PPx.obind r f) := by
  unfold PPx.obind
  cases r.1 with
  | ok a => exact g a _
  | error e => exact ⟨_, rfl⟩
theorem semi_tot (fin : Int) (x : S55) (s : Rs) : Tot (semiS fin x s) := ⟨_, rfl⟩
theorem rest_tot (rec : Int → Rs → Option (List S55 × Rs)) (fin deep k c : Int) (s : Rs) (h7 : k ≠ 7) : Tot (restS rec fin deep k c s) := by
  unfold restS
  by_cases k1 : k = 1
  · rw [if_pos k1]; exact Tot.obind fun a s => Tot.obind fun q s => semi_tot _ _ _
  rw [if_neg k1]
  by_cases k2 : k = 2
  · rw [if_pos k2]; exact Tot.obind fun a s => semi_tot _ _ _
  rw [if_neg k2]
  by_cases k3 : k = 3
  · rw [if_pos k3]; exact Tot.obind fun a s => Tot.obind fun q s => semi_tot _ _ _
  rw [if_neg k3]
  by_cases k4 : k = 4
  · rw [if_pos k4]; exact Tot.obind fun a s => Tot.obind fun q s => semi_tot _ _ _
  rw [if_neg k4]
  by_cases k5 : k = 5
  · rw [if_pos k5]; exact Tot.obind fun a s => Tot.obind fun q s => semi_tot _ _ _
  rw [if_neg k5]
  by_cases k6 : k = 6
  · rw [if_pos k6]; exact Tot.obind fun a s => semi_tot _ _ _
  rw [if_neg k6]
  by_cases k8 : k = 8
  · rw [if_pos k8]; exact Tot.obind fun a s => Tot.obind fun q s => semi_tot _ _ _
  rw [if_neg k8, if_neg h7]
  exact semi_tot _ _ _
/-- what a reader's later state keeps -/
def Later (s s' : Rs) : Prop := s'.toks <:+ s.toks ∧ s.n ≤ s'.n ∧ InvT s'
def RecT (deep : Int) (rec : Int → Rs → Option (List S55 × Rs)) (s0 : Rs) : Prop := ∀ s, s.toks.length ≤ s0.toks.length → s.n = s0.n → InvT s → TokOK s.toks → deep ≠ 4 → ∃ l s', rec (deep + 1) s = some (l, s') ∧ Later s s'
theorem Later.of_sub {s s' : Rs} (h : Sub s s') (hI : InvT s) : Later s s' := ⟨h.1, by rw [h.2.1]; exact Int.le_refl _, hI.sub h⟩
theorem stmt_total {rec : Int → Rs → Option (List S55 × Rs)} {fin deep : Int} (hd : 0 ≤ deep) (hd4 : deep ≤ 4) {s : Rs} (hr : RecT deep rec s) (hs : TokOK s.toks) (hI : InvT s) : ∃ y s', stmtS rec fin deep s = some (y, s') ∧ Later s s' := by
  have htk := take_sub isKey fin s
  unfold stmtS
  cases ht : (takeS isKey fin s).1 with
  | error e => rw [obind_err ht]; exact ⟨_, _, rfl, Later.of_sub htk.1 hI⟩
  | ok t =>
  rw [obind_ok ht]
  obtain ⟨hm, hp, hn0⟩ := htk.2 t ht
  have hk : t.f0 = 1 ∧ isWord t.f1 = true := by simpa [isKey] using hp
  have hix := isWord_ix hk.2
  have hs1 := hs.sub htk.1
  have hI1 := hI.sub htk.1
  have h0 : wordIx t.f1 ≠ 0 := by
    intro h0
    have hz := ((hs t hm).1 hk.1).1
    rw [word0 h0] at hz
    exact absurd hz (by decide)
  by_cases h7 : wordIx t.f1 = 7
  · rw [h7]
    unfold restS
    rw [if_neg (by decide), if_neg (by decide), if_neg (by decide), if_neg (by decide), if_neg (by decide), if_neg (by decide), if_neg (by decide), if_pos rfl]
    by_cases h4 : deep = 4
    · rw [if_pos h4]; exact ⟨_, _, rfl, Later.of_sub htk.1 hI⟩
    rw [if_neg h4]
    have hw : wrap64 (deep + 1) = deep + 1 := by unfold wrap64; omega
    have n1 := name_sub fin (takeS isKey fin s).2 hs1
    cases hp1 : (nameS fin (takeS isKey fin s).2).1 with
    | error e => rw [obind_err hp1]; exact ⟨_, _, rfl, Later.of_sub (htk.1.trans n1.1) hI⟩
    | ok p =>
    rw [obind_ok hp1]
    have hs2 := hs1.sub n1.1
    have n2 := name_sub fin _ hs2
    cases hq1 : (nameS fin (nameS fin (takeS isKey fin s).2).2).1 with
    | error e => rw [obind_err hq1]; exact ⟨_, _, rfl, Later.of_sub (htk.1.trans (n1.1.trans n2.1)) hI⟩
    | ok q =>
    rw [obind_ok hq1]
    have hs3 := hs2.sub n2.1
    have n3 := sign_ok' ⟨#[123]⟩ fin (nameS fin (nameS fin (takeS isKey fin s).2).2).2
    have hsub := htk.1.trans (n1.1.trans (n2.1.trans n3.1))
    cases hu1 : (signS ⟨#[123]⟩ fin (nameS fin (nameS fin (takeS isKey fin s).2).2).2).1 with
    | error e => rw [obind_err hu1]; exact ⟨_, _, rfl, Later.of_sub hsub hI⟩
    | ok u =>
    rw [obind_ok hu1]
    have hs4 := hs3.sub n3.1
    obtain ⟨l, s', hr1, ha, hb, hc⟩ := hr _ (suf_len hsub.1) hsub.2.1 (hI.sub hsub) hs4 h4
    rw [hw, hr1]
    simp only [Option.bind_some]
    have n5 := sign_ok' ⟨#[125]⟩ fin s'
    rcases bind_inv (r := signS ⟨#[125]⟩ fin s') (f := fun _ s => (.ok (⟨7, 0, q, p, 0, ⟨⟨0, 0, 0⟩, ⟨0, 0, 0⟩⟩, l, t.f2⟩ : S55), s)) with ⟨a, ha', e⟩ | ⟨e', he, e⟩
    all_goals
      rw [e]
      refine ⟨_, _, rfl, n5.1.1.trans (ha.trans hsub.1), ?_, hc.sub n5.1⟩
      have := n5.1.2.1
      have := hsub.2.1
      omega
  · obtain ⟨⟨y, s'⟩, hy⟩ := rest_tot rec fin deep (wordIx t.f1) t.f2 (takeS isKey fin s).2 h7
    refine ⟨y, s', hy, Later.of_sub (htk.1.trans ?_) hI⟩
    exact (rest_sub rec fin deep _ _ _ hs1 h7 (by omega) (y, s') hy).1
theorem tell_inv {s : Rs} (f : S35) (hI : InvT s) (ho : s.over = false) : InvT (tellS f s) := by
  obtain ⟨h0, h1, h2, h3⟩ := hI
  have h4 := h3 ho
  refine ⟨h0, h1, ?_, fun h => ⟨h4.1, ?_⟩⟩
  · simp only [tellS, List.length_append, List.length_cons, List.length_nil]; omega
  · simp only [tellS, List.length_append, List.length_cons, List.length_nil] at h ⊢
    rw [ho] at h
    simp only [Bool.false_or, Bool.or_eq_false_iff, beq_eq_false_iff_ne, ne_eq] at h
    have := h.2
    omega
theorem one_total {rec : Int → Rs → Option (List S55 × Rs)} {fin deep : Int} (hd : 0 ≤ deep) (hd4 : deep ≤ 4) {s : Rs} (hr : RecT deep rec s) (hs : TokOK s.toks) (hI : InvT s) (hl : s.toks.length ≤ 1000000) : ∃ x s', oneS rec fin deep s = some (x, s') ∧ Later s s' := by
  obtain ⟨y, s1, hy, h1, h2, h3⟩ := stmt_total (fin := fin) hd hd4 hr hs hI
  unfold oneS
  rw [hy]
  simp only [Option.bind_some]
  cases y with
  | ok z => exact ⟨_, _, rfl, h1, h2, h3⟩
  | error f =>
    by_cases ho : s1.over = true
    · simp only [if_pos ho]
      exact ⟨_, _, rfl, h1, h2, h3⟩
    · have ho : s1.over = false := by simpa using ho
      have h20 := (h3.2.2.2 ho).2
      have hln := suf_len h1
      simp only [ho, Bool.false_eq_true, if_false]
      rw [if_neg (by omega)]
      have hx := tell_inv ⟨f.1, f.2⟩ h3 ho
      exact ⟨_, _, rfl, (skip_suf _).trans h1, h2, hx⟩
theorem stmts_total (fin : Int) : ∀ (k : Nat) (deep : Int) (s : Rs) (out : List S55), 0 ≤ deep → deep ≤ 4 → TokOK s.toks → s.toks.length ≤ 1000000 → InvT s → (out.length : Int) ≤ s.n → s.toks.length + (65 - s.n).toNat < k → ∃ l s', stmtsS fin k deep s out = some (l, s') ∧ Later s s'
  | 0, deep, s, out, _, _, _, _, _, _, hk => by omega
  | k + 1, deep, s, out, hd, hd4, hs, hl, hI, ho, hk => by
    have ih := stmts_total fin k
    rw [stmtsS]
    by_cases c1 : s.over = true ∨ s.toks = []
    · rw [if_pos c1]; exact ⟨_, _, rfl, List.suffix_refl _, Int.le_refl _, hI⟩
    rw [if_neg c1]
    have hov : s.over = false := by simpa using fun h' => c1 (.inl h')
    have hne : s.toks ≠ [] := fun h' => c1 (.inr h')
    have h64 := hI.2.2.2 hov
    have hn0 := hI.1
    by_cases c2 : isSign ⟨#[125]⟩ (lookS fin s.toks) = true
    · rw [if_pos c2]
      by_cases c3 : deep > 0
      · rw [if_pos c3]; exact ⟨_, _, rfl, List.suffix_refl _, Int.le_refl _, hI⟩
      rw [if_neg c3, if_neg (by omega)]
      have hlen : s.toks.tail.length + 1 = s.toks.length := by
        cases h : s.toks with
        | nil => exact absurd h hne
        | cons => simp
      have hsuf : s.toks.tail <:+ s.toks := List.tail_suffix _
      obtain ⟨l, s', h, ha, hb, hc⟩ := ih deep { tellS ⟨110, (lookS fin s.toks).f2⟩ s with toks := s.toks.tail } out hd hd4 (fun t ht => hs t (hsuf.subset ht)) (by simp only; omega) (tell_inv _ hI hov) ho (by simp only [tellS]; omega)
      exact ⟨l, s', h, ha.trans hsuf, hb, hc⟩
    rw [if_neg c2]
    have hw : wrap64 (s.n + 1) = s.n + 1 := by unfold wrap64; omega
    rw [hw]
    by_cases c4 : s.n + 1 > 64
    · rw [if_pos c4, if_neg (by omega)]
      refine ⟨_, _, rfl, List.suffix_refl _, by simp only; omega, by simp only; omega, by simp only; omega, ?_, fun h => by simp at h⟩
      simp only [List.length_append, List.length_cons, List.length_nil]; omega
    rw [if_neg c4, if_neg (by omega)]
    have hI' : InvT { s with n := s.n + 1 } := ⟨by simp only; omega, by simp only; omega, hI.2.2.1, fun h => ⟨by simp only; omega, h64.2⟩⟩
    have hrec : RecT deep (fun d s => stmtsS fin k d s []) { s with n := s.n + 1 } := by
      intro s2 h1 h2 h3 h4 h5
      simp only at h1 h2
      exact ih (deep + 1) s2 [] (by omega) (by omega) h4 (by omega) h3 (by simp only [List.length_nil]; have := h3.1; omega) (by omega)
    obtain ⟨x, s1, hx, h1, h2, h3⟩ := one_total (fin := fin) hd hd4 hrec hs hI' hl
    rw [hx]
    simp only [Option.bind_some]
    simp only at h1 h2
    have hln := suf_len h1
    cases x with
    | none =>
      obtain ⟨l, s', h, ha, hb, hc⟩ := ih deep s1 out hd hd4 (fun t ht => hs t (h1.subset ht)) (by omega) h3 (by omega) (by omega)
      exact ⟨l, s', h, ha.trans h1, by omega, hc⟩
    | some z =>
      obtain ⟨l, s', h, ha, hb, hc⟩ := ih deep s1 (out ++ [z]) hd hd4 (fun t ht => hs t (h1.subset ht)) (by omega) h3 (by simp only [List.length_append, List.length_cons, List.length_nil]; omega) (by omega)
      exact ⟨l, s', h, ha.trans h1, by omega, hc⟩
theorem inv0 (ts : List S44) : InvT ⟨ts, 0, [], false⟩ := ⟨by simp, by simp, by simp, fun _ => ⟨by simp, by simp⟩⟩
/-- Parse ends -/
theorem parse_total (s : ByteArray) : ∃ r, ∃ K, ∀ k, K ≤ k → parser_Parse.f k s = some r := by
  unfold parser_Parse.f
  by_cases he : (lexB s).2.1 = 0
  · have hl := lexB_len s
    obtain ⟨l, s', h, _⟩ := stmts_total s.size 30000 0 ⟨(lexB s).1, 0, [], false⟩ [] (Int.le_refl _) (by decide) (lex_ok s) (by simp only; omega) (inv0 _) (by simp) (by simp only; omega)
    refine ⟨(l, s'.fl), 30000, fun k hk => ?_⟩
    rw [if_pos he, stmts_lift hk h]
    rfl
  · exact ⟨_, 0, fun k _ => by rw [if_neg he]⟩
/-- what Parse hands back is valid -/
theorem parse_valid {s : ByteArray} {k : Nat} {l : List S55} {f : List S35} (h : parser_Parse.f k s = some (l, f)) : ∃ n ks, VLs 4 l n ks ∧ n ≤ 64 := by
  unfold parser_Parse.f at h
  by_cases he : (lexB s).2.1 = 0
  · rw [if_pos he] at h
    obtain ⟨r, hr, h2⟩ := Option.map_eq_some_iff.1 h
    obtain ⟨_, hI, _, l', n, ks, hl, hv, hn, hn64⟩ := stmts_sound _ _ _ _ _ _ hr (lex_ok s) (Int.le_refl _) (by decide) ⟨by simp, by simp, fun _ => by simp⟩
    simp only at hn hn64
    have e : l = r.1 := (congrArg Prod.fst h2).symm
    rw [hl, List.nil_append] at e
    rw [e]
    refine ⟨n, ks, hv, ?_⟩
    by_cases hz : n = 0
    · omega
    · have := hn64 hz; omega
  · rw [if_neg he] at h
    have e : l = [] := (congrArg Prod.fst (Option.some.inj h)).symm
    rw [e]
    exact ⟨0, [], .nil _, by decide⟩
end Go.Proofs.YtonhcfecfifghaaDoor.PPx
namespace Go.Proofs.YtonhcfecfifghaaDoor.PPx
open Go.RowKit Go.Proofs.YtonhcfecfifghaaDoorW.PrintWords Go.Proofs.YtonhcfecfifghaaDoorW.PrintLast Go.Proofs.YtonhcfecfifghaaDoorW.PrintMore
set_option linter.unusedVariables false
theorem smallB_of {n : Int} (h : Small n) : smallB n = true := by
  obtain ⟨h1, h2⟩ := h
  unfold smallB
  rw [decide_eq_true (show n > -1000000000 from h1), decide_eq_true h2]
  rfl
theorem smallJ_of {q : S52} (h : SmallQ q) : smallJ q = true := by
  unfold smallJ
  rw [smallB_of h.1, smallB_of h.2.1, smallB_of h.2.2]
  rfl
theorem small0 : Small 0 := ⟨by decide, by decide⟩
theorem smallZ : SmallQ zJ := ⟨small0, small0, small0⟩
theorem name_lex {s : ByteArray} (h : TokText 1 s) (hs : s.size ≤ 20000) : lexB s = ([⟨1, s, 0⟩], 0, 0) := (LexT.tok h).lex hs
theorem name_true {s : ByteArray} (h : NameOK s) : parser_name.f s = some true := by
  have hl := name_lex h.1 (by have := h.2.1; omega)
  have hn : isNamed ⟨1, s, 0⟩ = true := by
    have h1 := h.2.1
    simp only [isNamed, h.2.2, Bool.not_false, Bool.and_true, beq_self_eq_true, Bool.true_and, decide_eq_true_eq]
    omega
  unfold parser_name.f
  rw [show lexer_Lex.f s = some (lexB s) from rfl, hl]
  simp only [Option.bind_some]
  rw [if_pos trivial, if_pos (by simp), if_pos (by simp)]
  show (Option.bind (some (isNamed ⟨1, s, 0⟩)) fun t124 => if t124 = true then some (s.toList == s.toList) else some false) = _
  rw [hn]
  simp
theorem plainF_of {k : Nat} {x : S55} (h1 : 1 ≤ x.f0) (h8 : x.f0 ≤ 8) (ha : x.f1 = 0 ∨ x.f1 = 1) (hn : Small x.f4) (hs : sameS (parser_Equal.f k) x (bareS x) = some true) (hq : SmallQ x.f5.f0) (hp : SmallQ x.f5.f1) (hm : namesF x = some true) : plainF k x = some true := by
  unfold plainF
  rw [if_neg (by omega), if_neg (by omega), if_neg (by omega), if_neg (by rw [smallB_of hn]; decide), hs, Option.bind_some, if_neg (by decide), if_neg (by rw [smallJ_of hq]; decide), if_neg (by rw [smallJ_of hp]; decide)]
  exact hm
theorem arm_in {m : Int} (h : m = 0 ∨ m = 1) : m = 0 ∨ m = 1 := h
theorem plain_true {x : S55} (hx : PlainOK x) (hs : SimL x.f6 x.f6) : ∃ K, ∀ k, K ≤ k → plainF k x = some true := by
  obtain ⟨K, hK⟩ := hs.equal
  obtain ⟨K0, hK0⟩ := SimL.nil.equal
  refine ⟨max K K0, fun k hk => ?_⟩
  have hk1 := hK k (by omega)
  have hk0 := hK0 k (by omega)
  cases hx with
  | go0 h => exact plainF_of (by simp) (by simp) (.inl rfl) small0 (same_true rfl rfl rfl rfl rfl rfl hk0) h smallZ rfl
  | go1 h => exact plainF_of (by simp) (by simp) (.inr rfl) small0 (same_true rfl rfl rfl rfl rfl rfl hk0) smallZ h rfl
  | home h => exact plainF_of (by simp) (by simp) h small0 (same_true rfl rfl rfl rfl rfl rfl hk0) smallZ smallZ rfl
  | pick h hn => exact plainF_of (by simp) (by simp) h small0 (same_true rfl rfl rfl rfl rfl rfl hk0) smallZ smallZ (by simp [namesF, name_true hn])
  | put h hn => exact plainF_of (by simp) (by simp) h small0 (same_true rfl rfl rfl rfl rfl rfl hk0) smallZ smallZ (by simp [namesF, name_true hn])
  | hand h hn => exact plainF_of (by simp) (by simp) h small0 (same_true rfl rfl rfl rfl rfl rfl hk0) smallZ smallZ (by simp [namesF, name_true hn])
  | wait h => exact plainF_of (by simp) (by simp) (.inl rfl) h (same_true rfl rfl rfl rfl rfl rfl hk0) smallZ smallZ rfl
  | when_ h g => exact plainF_of (by simp) (by simp) (.inl rfl) small0 (same_true rfl rfl rfl rfl rfl rfl hk1) smallZ smallZ (by simp [namesF, name_true h, name_true g])
  | both h g => exact plainF_of (by simp) (by simp) (.inl rfl) small0 (same_true rfl rfl rfl rfl rfl rfl hk0) h g rfl
/-- a round of count -/
theorem count_step (k : Nat) (deep n : Int) (l : List S55) (i : Int) (h0 : 0 ≤ i) (h1 : i < l.length) : parser_count.l0 (k + 2) deep n l l.length i =
    if wrap64 (n + 1) > 64 then some 65 else if (rd_T55 l i).f0 = 7 ∧ deep = 4 then some 65
    else (plainF (k + 1) (rd_T55 l i)).bind fun t => if t = true then (if (rd_T55 l i).f0 = 7 then (parser_count.f k (rd_T55 l i).f6 (wrap64 (deep + 1))).bind fun m => parser_count.l0 k deep (wrap64 (wrap64 (n + 1) + m)) l l.length (wrap64 (i + 1)) else parser_count.l0 k deep (wrap64 (n + 1)) l l.length (wrap64 (i + 1))) else some 65 := by
  rw [parser_count.l0, if_pos h1, if_pos h0, if_pos h1]
  by_cases c : wrap64 (n + 1) > 64
  · rw [if_pos c, if_pos c, parser_count.j1, if_pos rfl]
  rw [if_neg c, if_neg c]
  by_cases c7 : (rd_T55 l i).f0 = 7
  · rw [if_pos c7]
    by_cases c4 : deep = 4
    · rw [if_pos c4, if_pos ⟨c7, c4⟩, parser_count.j1, if_pos rfl]
    · rw [if_neg c4, if_neg (fun h => c4 h.2)]
      simp only [parser_count.j1]
      show (plainF (k + 1) (rd_T55 l i)).bind _ = _
      congr 1
      funext t
      cases t
      · rfl
      · simp only [Bool.not_true, Bool.false_eq_true, if_false, if_true]
  · rw [if_neg c7, if_neg (fun h => c7 h.1)]
    simp only [parser_count.j1]
    show (plainF (k + 1) (rd_T55 l i)).bind _ = _
    congr 1
    funext t
    cases t
    · rfl
    · simp only [Bool.not_true, Bool.false_eq_true, if_false, if_true, if_neg c7]
theorem rd_mid (pre : List S55) (x : S55) (l : List S55) : rd_T55 (pre ++ x :: l) (pre.length : Int) = x := by simp [rd_T55]
theorem count_end (k : Nat) (deep n : Int) (l : List S55) : parser_count.l0 (k + 1) deep n l l.length l.length = some n := by
  rw [parser_count.l0, if_neg (Int.lt_irrefl _)]
theorem plain_lift {k k' : Nat} {x : S55} {r : Bool} (hk : k ≤ k') (h : plainF k x = some r) : plainF k' x = some r := by
  obtain ⟨j, rfl⟩ := Nat.exists_eq_add_of_le hk
  induction j with
  | zero => exact h
  | succ j ih => exact plain_le _ _ _ (ih (by omega))
theorem vls_len {d m : Nat} {l : List S55} {ks : List (Int × ByteArray)} (h : VLs d l m ks) : l.length ≤ m := by
  induction h with
  | nil => simp
  | plain _ _ _ ih => simp only [List.length_cons]; omega
  | when_ _ _ _ _ _ ih => simp only [List.length_cons]; omega
/-- count of valid statements -/
theorem count_ok {d m : Nat} {l : List S55} {ks : List (Int × ByteArray)} (h : VLs d l m ks) : ∀ (deep n : Int) (pre : List S55), 0 ≤ deep → deep + d ≤ 4 → 0 ≤ n → n + m ≤ 64 → (pre.length : Int) + l.length ≤ 1000000 → ∃ K, ∀ k, K ≤ k → parser_count.l0 k deep n (pre ++ l) (pre ++ l).length pre.length = some (n + m) := by
  induction h with
  | nil d =>
    intro deep n pre hd hd4 hn hm hp
    refine ⟨1, fun k hk => ?_⟩
    obtain ⟨k, rfl⟩ : ∃ j, k = j + 1 := ⟨k - 1, by omega⟩
    rw [List.append_nil, count_end]
    simp
  | @plain d m x l ks hx h7 hl ih =>
    intro deep n pre hd hd4 hn hm hp
    obtain ⟨K, hK⟩ := ih deep (n + 1) (pre ++ [x]) hd hd4 (by omega) (by omega) (by simp only [List.length_append, List.length_cons, List.length_nil] at hp ⊢; omega)
    have h6 : SimL x.f6 x.f6 := by cases hx <;> first | exact .nil | exact absurd rfl h7
    obtain ⟨K1, hK1⟩ := plain_true hx h6
    refine ⟨max K K1 + 2, fun k hk => ?_⟩
    obtain ⟨k, rfl⟩ : ∃ j, k = j + 2 := ⟨k - 2, by omega⟩
    have hn1 : wrap64 (n + 1) = n + 1 := by unfold wrap64; omega
    have hi1 : wrap64 ((pre.length : Int) + 1) = ((pre ++ [x]).length : Int) := by
      simp only [List.length_append, List.length_cons, List.length_nil] at hp ⊢
      unfold wrap64; omega
    rw [count_step k deep n (pre ++ x :: l) pre.length (by omega) (by simp only [List.length_append, List.length_cons]; omega), rd_mid, hn1, hi1, if_neg (by omega), if_neg (fun h => h7 h.1), plain_lift (Nat.le_succ k) (hK1 k (by omega)), Option.bind_some, if_pos rfl, if_neg h7]
    have := hK k (by omega)
    rw [List.append_assoc, List.singleton_append] at this
    rw [this]
    congr 1; omega
  | @when_ d m1 m2 x l ks ls hx h7 hkd hl ihk ihl =>
    intro deep n pre hd hd4 hn hm hp
    obtain ⟨K, hK⟩ := ihl deep (n + 1 + m2) (pre ++ [x]) hd hd4 (by omega) (by omega) (by simp only [List.length_append, List.length_cons, List.length_nil] at hp ⊢; omega)
    obtain ⟨K2, hK2⟩ := ihk (deep + 1) 0 [] (by omega) (by omega) (Int.le_refl _) (by omega) (by
      have := vls_len hkd
      simp only [List.length_nil]; omega)
    obtain ⟨K1, hK1⟩ := plain_true hx hkd.sim
    refine ⟨max (max K K1) (K2 + 1) + 2, fun k hk => ?_⟩
    obtain ⟨k, rfl⟩ : ∃ j, k = j + 2 := ⟨k - 2, by omega⟩
    have hn1 : wrap64 (n + 1) = n + 1 := by unfold wrap64; omega
    have hd1 : wrap64 (deep + 1) = deep + 1 := by unfold wrap64; omega
    have hi1 : wrap64 ((pre.length : Int) + 1) = ((pre ++ [x]).length : Int) := by
      simp only [List.length_append, List.length_cons, List.length_nil] at hp ⊢
      unfold wrap64; omega
    have hc : parser_count.f k x.f6 (deep + 1) = some (m2 : Int) := by
      obtain ⟨k, rfl⟩ : ∃ j, k = j + 1 := ⟨k - 1, by omega⟩
      have := hK2 k (by omega)
      rw [parser_count.f]
      simpa using this
    have hn2 : wrap64 (n + 1 + (m2 : Int)) = n + 1 + m2 := by unfold wrap64; omega
    rw [count_step k deep n (pre ++ x :: l) pre.length (by omega) (by simp only [List.length_append, List.length_cons]; omega), rd_mid, hn1, hi1, hd1, if_neg (by omega), if_neg (by omega), plain_lift (Nat.le_succ k) (hK1 k (by omega)), Option.bind_some, if_pos rfl, if_pos h7, hc, Option.bind_some, hn2]
    have := hK k (by omega)
    rw [List.append_assoc, List.singleton_append] at this
    rw [this]
    congr 1; omega
theorem valid_ok {m : Nat} {l : List S55} {ks : List (Int × ByteArray)} (h : VLs 4 l m ks) (hm : m ≤ 64) : ∃ K, ∀ k, K ≤ k → parser_Valid.f k l = some true := by
  obtain ⟨K, hK⟩ := count_ok h 0 0 [] (Int.le_refl _) (by omega) (Int.le_refl _) (by omega) (by have := vls_len h; simp only [List.length_nil]; omega)
  refine ⟨K + 1, fun k hk => ?_⟩
  obtain ⟨k, rfl⟩ : ∃ j, k = j + 1 := ⟨k - 1, by omega⟩
  have := hK k (by omega)
  unfold parser_Valid.f
  rw [parser_count.f]
  have e : parser_count.l0 k 0 0 l (l.length : Int) 0 = some (0 + (m : Int)) := by simpa using this
  rw [e, Option.bind_some, decide_eq_true (by omega)]
end Go.Proofs.YtonhcfecfifghaaDoor.PPx
namespace Go.Proofs.YtonhcfecfifghaaDoor.PPx
open Go.RowKit Go.Proofs.YtonhcfecfifghaaDoorW.PrintWords Go.Proofs.YtonhcfecfifghaaDoorW.PrintLast Go.Proofs.YtonhcfecfifghaaDoorW.PrintMore
set_option linter.unusedVariables false
theorem kids_lt {l : List S55} {x : S55} (h : x ∈ l) : SizeOf.sizeOf x.f6 < SizeOf.sizeOf l := by
  have h1 := List.sizeOf_lt_of_mem h
  have h2 : SizeOf.sizeOf x.f6 < SizeOf.sizeOf x := by
    cases x
    simp only [S55.mk.sizeOf_spec]
    omega
  omega
theorem list_ind {P : List S55 → Prop} (h : ∀ l, (∀ x ∈ l, P x.f6) → P l) : ∀ l, P l := by
  have key : ∀ (n : Nat) (l : List S55), SizeOf.sizeOf l < n → P l := by
    intro n
    induction n with
    | zero => intro l hl; omega
    | succ n ih => intro l hl; exact h l (fun x hx => ih _ (by have := kids_lt hx; omega))
  exact fun l => key _ l (Nat.lt_succ_self _)
def EvalsTo {α : Type} (f : Nat → Option α) (b : α) : Prop := ∃ K, ∀ k, K ≤ k → f k = some b
theorem EvalsTo.const {α : Type} (b : α) : EvalsTo (fun _ => some b) b := ⟨0, fun _ _ => rfl⟩
theorem EvalsTo.bind {α β : Type} {f : Nat → Option α} {a : α} {g : Nat → α → Option β} {b : β} (h : EvalsTo f a) (hg : EvalsTo (fun k => g k a) b) : EvalsTo (fun k => (f k).bind (g k)) b := by
  obtain ⟨K, hK⟩ := h
  obtain ⟨K2, hK2⟩ := hg
  exact ⟨max K K2, fun k hk => by simp only; rw [hK k (by omega), Option.bind_some]; exact hK2 k (by omega)⟩
theorem EvalsTo.congr {α : Type} {f g : Nat → Option α} {b : α} (h : EvalsTo f b) (e : ∀ k, g k = f k) : EvalsTo g b := by
  obtain ⟨K, hK⟩ := h
  exact ⟨K, fun k hk => by rw [e k]; exact hK k hk⟩
theorem EvalsTo.shift {α : Type} {f g : Nat → Option α} {b : α} {j : Nat} (h : EvalsTo f b) (e : ∀ k, g (k + j) = f k) : EvalsTo g b := by
  obtain ⟨K, hK⟩ := h
  refine ⟨K + j, fun k hk => ?_⟩
  have := e (k - j)
  rw [show k - j + j = k by omega] at this
  rw [this]
  exact hK _ (by omega)
theorem same_total {EQ : Nat → List S55 → List S55 → Option Bool} {x y : S55} {b : Bool} (h : EvalsTo (fun k => EQ k x.f6 y.f6) b) : ∃ b', EvalsTo (fun k => sameS (EQ k) x y) b' := by
  obtain ⟨K, hK⟩ := h
  have : ∀ k, K ≤ k → sameS (EQ k) x y = sameS (fun _ _ => some b) x y := by
    intro k hk
    unfold sameS sameE
    rw [show EQ k x.f6 y.f6 = some b from hK k hk]
  have ht : ∃ b', sameS (fun _ _ => some b) x y = some b' := by
    unfold sameS sameE
    repeat' (first | exact ⟨_, rfl⟩ | split)
  obtain ⟨b', hb⟩ := ht
  exact ⟨b', K, fun k hk => (this k hk).trans hb⟩
theorem equal_total : ∀ (l m : List S55), ∃ b, EvalsTo (fun k => parser_Equal.f k l m) b := by
  refine list_ind fun l ih m => ?_
  have key : ∀ (l : List S55), (∀ x ∈ l, ∀ m, ∃ b, EvalsTo (fun k => parser_Equal.f k x.f6 m) b) → ∀ m, ∃ b, EvalsTo (fun k => eqLoop (parser_Equal.f k) l m) b := by
    intro l
    induction l with
    | nil => intro _ m; exact ⟨true, .const _⟩
    | cons x l il =>
      intro H m
      cases m with
      | nil => exact ⟨false, .const _⟩
      | cons y m =>
        obtain ⟨b, hb⟩ := H x List.mem_cons_self y.f6
        obtain ⟨b1, h1⟩ := same_total hb
        obtain ⟨b2, h2⟩ := il (fun z hz => H z (List.mem_cons_of_mem _ hz)) m
        refine ⟨if b1 = true then b2 else false, ?_⟩
        refine EvalsTo.bind (g := fun k t => if t = true then eqLoop (parser_Equal.f k) l m else some false) h1 ?_
        cases b1
        · exact .const _
        · exact h2
  obtain ⟨b, hb⟩ := key l ih m
  by_cases hl : l.length = m.length
  · refine ⟨b, EvalsTo.shift (j := 1) hb fun k => ?_⟩
    show (if l.length = m.length then eqLoop (parser_Equal.f k) l m else some false) = _
    rw [if_pos hl]
  · refine ⟨false, EvalsTo.shift (j := 1) (EvalsTo.const false) fun k => ?_⟩
    show (if l.length = m.length then eqLoop (parser_Equal.f k) l m else some false) = _
    rw [if_neg hl]
theorem name_total (s : ByteArray) : ∃ b, parser_name.f s = some b := by
  unfold parser_name.f
  rw [show lexer_Lex.f s = some (lexB s) from rfl, Option.bind_some]
  by_cases h0 : (lexB s).2.1 = 0
  · rw [if_pos h0]
    by_cases h1 : ((lexB s).1.length : Int) = 1
    · rw [if_pos h1, if_pos (by omega)]
      unfold parser_named.f
      rw [Option.bind_some]
      split <;> exact ⟨_, rfl⟩
    · rw [if_neg h1]; exact ⟨_, rfl⟩
  · rw [if_neg h0]; exact ⟨_, rfl⟩
theorem names_total (x : S55) : ∃ b, namesF x = some b := by
  obtain ⟨b, hb⟩ := name_total x.f2
  obtain ⟨c, hc⟩ := name_total x.f3
  unfold namesF
  rw [hb, hc]
  repeat' (first | exact ⟨_, rfl⟩ | split | simp only [Option.bind_some])
theorem plain_total (x : S55) : ∃ b, EvalsTo (fun k => plainF k x) b := by
  obtain ⟨b, hb⟩ := equal_total x.f6 (bareS x).f6
  obtain ⟨b1, K, h1⟩ := same_total hb
  simp only at h1
  obtain ⟨c, hc⟩ := names_total x
  have : ∀ k, K ≤ k → plainF k x = plainF K x := by
    intro k hk
    unfold plainF
    rw [h1 k hk, h1 K (Nat.le_refl _)]
  have ht : ∃ b', plainF K x = some b' := by
    unfold plainF
    rw [h1 K (Nat.le_refl _), hc, Option.bind_some]
    repeat' (first | exact ⟨_, rfl⟩ | split)
  obtain ⟨b', hb'⟩ := ht
  exact ⟨b', K, fun k hk => (this k hk).trans hb'⟩
theorem count_total : ∀ (l : List S55) (deep : Int), 0 ≤ deep → deep ≤ 4 → ∃ r, EvalsTo (fun k => parser_count.f k l deep) r ∧ 0 ≤ r ∧ r ≤ 100 * (5 - deep) := by
  refine list_ind fun l ih deep hd hd4 => ?_
  have key : ∀ (l : List S55), (∀ x ∈ l, ∀ deep : Int, 0 ≤ deep → deep ≤ 4 → ∃ r, EvalsTo (fun k => parser_count.f k x.f6 deep) r ∧ 0 ≤ r ∧ r ≤ 100 * (5 - deep)) →
      ∀ (n : Int) (pre : List S55), 0 ≤ n → (pre.length : Int) ≤ n → n ≤ 65 + 100 * (4 - deep) → ∃ r, EvalsTo (fun k => parser_count.l0 k deep n (pre ++ l) (pre ++ l).length pre.length) r ∧ 0 ≤ r ∧ r ≤ 100 * (5 - deep) := by
    intro l
    induction l with
    | nil =>
      intro _ n pre h0 hp hn
      refine ⟨n, EvalsTo.shift (j := 1) (EvalsTo.const n) (fun k => ?_), h0, by omega⟩
      rw [List.append_nil, count_end]
    | cons x l il =>
      intro H n pre h0 hp hn
      have hn1 : wrap64 (n + 1) = n + 1 := by unfold wrap64; omega
      have hd1 : wrap64 (deep + 1) = deep + 1 := by unfold wrap64; omega
      have hst := fun k => count_step k deep n (pre ++ x :: l) pre.length (by omega) (by simp only [List.length_append, List.length_cons]; omega)
      simp only [rd_mid, hn1, hd1] at hst
      by_cases c : n + 1 > 64
      · refine ⟨65, EvalsTo.shift (j := 2) (EvalsTo.const 65) (fun k => ?_), by omega, by omega⟩
        rw [hst, if_pos c]
      by_cases c7 : x.f0 = 7 ∧ deep = 4
      · refine ⟨65, EvalsTo.shift (j := 2) (EvalsTo.const 65) (fun k => ?_), by omega, by omega⟩
        rw [hst, if_neg c, if_pos c7]
      obtain ⟨b, K, hK⟩ := plain_total x
      have hi1 : wrap64 ((pre.length : Int) + 1) = ((pre ++ [x]).length : Int) := by
        simp only [List.length_append, List.length_cons, List.length_nil]
        unfold wrap64; omega
      simp only [hi1, if_neg c, if_neg c7] at hst
      have hp2 : EvalsTo (fun k => plainF (k + 1) x) b := ⟨K, fun k hk => hK _ (by omega)⟩
      cases b with
      | false =>
        refine ⟨65, EvalsTo.shift (j := 2) ?_ hst, by omega, by omega⟩
        refine EvalsTo.bind hp2 ?_
        simp only [Bool.false_eq_true, if_false]
        exact EvalsTo.const 65
      | true =>
        by_cases h7 : x.f0 = 7
        · obtain ⟨t, ht, ht0, ht1⟩ := H x List.mem_cons_self (deep + 1) (by omega) (by omega)
          obtain ⟨r, hr, hr0, hr1⟩ := il (fun z hz => H z (List.mem_cons_of_mem _ hz)) (n + 1 + t) (pre ++ [x]) (by omega) (by simp only [List.length_append, List.length_cons, List.length_nil]; omega) (by omega)
          have hw : wrap64 (n + 1 + t) = n + 1 + t := by unfold wrap64; omega
          rw [List.append_assoc, List.singleton_append] at hr
          refine ⟨r, EvalsTo.shift (j := 2) ?_ hst, hr0, hr1⟩
          refine EvalsTo.bind hp2 ?_
          simp only [if_true, if_pos h7]
          refine EvalsTo.bind ht ?_
          simp only [hw]
          exact hr
        · obtain ⟨r, hr, hr0, hr1⟩ := il (fun z hz => H z (List.mem_cons_of_mem _ hz)) (n + 1) (pre ++ [x]) (by omega) (by simp only [List.length_append, List.length_cons, List.length_nil]; omega) (by omega)
          rw [List.append_assoc, List.singleton_append] at hr
          refine ⟨r, EvalsTo.shift (j := 2) ?_ hst, hr0, hr1⟩
          refine EvalsTo.bind hp2 ?_
          simp only [if_true, if_neg h7]
          exact hr
  obtain ⟨r, hr, h0, h1⟩ := key l ih 0 [] (Int.le_refl _) (by simp) (by omega)
  refine ⟨r, EvalsTo.shift (j := 1) hr (fun k => ?_), h0, h1⟩
  rw [parser_count.f]
  rfl
theorem valid_total (l : List S55) : ∃ b, EvalsTo (fun k => parser_Valid.f k l) b := by
  obtain ⟨r, hr, _⟩ := count_total l 0 (Int.le_refl _) (by decide)
  refine ⟨decide (r ≤ 64), ?_⟩
  unfold parser_Valid.f
  exact EvalsTo.bind hr (EvalsTo.const _)
theorem name_inv {s : ByteArray} (h : parser_name.f s = some true) : NameOK s := by
  unfold parser_name.f at h
  rw [show lexer_Lex.f s = some (lexB s) from rfl, Option.bind_some] at h
  by_cases h0 : (lexB s).2.1 = 0
  · rw [if_pos h0] at h
    by_cases h1 : ((lexB s).1.length : Int) = 1
    · rw [if_pos h1, if_pos (by omega)] at h
      obtain ⟨t, ht⟩ : ∃ t, (lexB s).1 = [t] := List.length_eq_one_iff.1 (by omega)
      have hrd : rd_T44 (lexB s).1 0 = t := by rw [ht]; rfl
      rw [hrd] at h
      unfold parser_named.f at h
      rw [Option.bind_some] at h
      by_cases hn : isNamed t = true
      · have hn' : isNamed ⟨t.f0, t.f1, t.f2⟩ = true := hn
        rw [if_pos hn'] at h
        have he : t.f1.toList = s.toList := by simpa using h
        have he : t.f1 = s := by
          rw [ByteArray.toList_eq, ByteArray.toList_eq] at he
          apply ByteArray.ext
          exact Array.toList_inj.1 he
        simp only [isNamed, Bool.and_eq_true, beq_iff_eq, decide_eq_true_eq, Bool.not_eq_true'] at hn
        obtain ⟨n0, n1, n2⟩ := hn
        rw [he] at n1 n2
        have hl : lexB s = ([t], 0, 0) := by
          have hsz : s.size ≤ 20000 := by omega
          obtain ⟨ts, j, hp, _, _, hc⟩ := whole s hsz
          rcases hc with ⟨hl, _⟩ | ⟨hl, _, _⟩
          · rw [hl] at ht
            rw [hl]
            simp only at ht
            rw [ht]
          · rw [hl] at h0
            exact absurd h0 (by simp)
        have := tok_of_lex hl he (by omega)
        rw [n0] at this
        exact ⟨this, by omega, n2⟩
      · have hn' : ¬ isNamed ⟨t.f0, t.f1, t.f2⟩ = true := hn
        rw [if_neg hn'] at h
        exact absurd h (by simp)
    · rw [if_neg h1] at h; exact absurd h (by simp)
  · rw [if_neg h0] at h; exact absurd h (by simp)
theorem small_inv {n : Int} (h : smallB n = true) : Small n := by
  unfold smallB at h
  simp only [Bool.and_eq_true, decide_eq_true_eq] at h
  exact h
theorem smallJ_inv {q : S52} (h : smallJ q = true) : SmallQ q := by
  unfold smallJ at h
  simp only [Bool.and_eq_true] at h
  exact ⟨small_inv h.1, small_inv h.2.1, small_inv h.2.2⟩
theorem same_inv {EQ : List S55 → List S55 → Option Bool} {x y : S55} (h : sameS EQ x y = some true) : x.f0 = y.f0 ∧ x.f1 = y.f1 ∧ x.f2 = y.f2 ∧ x.f3 = y.f3 ∧ x.f4 = y.f4 ∧ x.f5 = y.f5 ∧ EQ x.f6 y.f6 = some true := by
  have hb : ∀ {a b : ByteArray}, a.toList = b.toList → a = b := by
    intro a b he
    rw [ByteArray.toList_eq, ByteArray.toList_eq] at he
    apply ByteArray.ext
    exact Array.toList_inj.1 he
  unfold sameS sameE at h
  split at h
  case isFalse => exact absurd h (by simp)
  rename_i h0
  split at h
  case isFalse => exact absurd h (by simp)
  rename_i h1
  split at h
  case isFalse => exact absurd h (by simp)
  rename_i h2
  split at h
  case isFalse => exact absurd h (by simp)
  rename_i h3
  split at h
  case isFalse => exact absurd h (by simp)
  rename_i h4
  split at h
  case isFalse => exact absurd h (by simp)
  rename_i h5
  simp only [Bool.and_eq_true, beq_iff_eq] at h5
  obtain ⟨⟨a, b, c⟩, d, e, f⟩ := h5
  obtain ⟨t, ht, h⟩ := Option.bind_eq_some_iff.1 h
  obtain rfl := Option.some.inj h
  refine ⟨h0, h1, hb h2, hb h3, h4, ?_, ht⟩
  obtain ⟨x0, x1, x2, x3, x4, ⟨⟨q0, q1, q2⟩, ⟨p0, p1, p2⟩⟩, x6, x7⟩ := x
  obtain ⟨y0, y1, y2, y3, y4, ⟨⟨r0, r1, r2⟩, ⟨s0, s1, s2⟩⟩, y6, y7⟩ := y
  simp only at a b c d e f ⊢
  subst a b c d e f
  rfl
theorem equal_len {k : Nat} {l m : List S55} (h : parser_Equal.f k l m = some true) : l.length = m.length := by
  cases k with
  | zero => exact absurd h (by simp [parser_Equal.f])
  | succ k =>
    have h : (if l.length = m.length then eqLoop (parser_Equal.f k) l m else some false) = some true := h
    by_cases e : l.length = m.length
    · exact e
    · rw [if_neg e] at h; exact absurd h (by simp)
theorem bind_true {o : Option Bool} (h : (o.bind fun a => if a = true then some true else some false) = some true) : o = some true := by
  obtain ⟨b, hb, h⟩ := Option.bind_eq_some_iff.1 h
  cases b with
  | true => exact hb
  | false => exact absurd h (by simp)
theorem plain_inv {k : Nat} {x : S55} (h : plainF k x = some true) : PlainOK x := by
  unfold plainF at h
  by_cases h1 : x.f0 < 1
  · rw [if_pos h1] at h; exact absurd h (by simp)
  rw [if_neg h1] at h
  by_cases h8 : x.f0 > 8
  · rw [if_pos h8] at h; exact absurd h (by simp)
  rw [if_neg h8] at h
  by_cases ha : x.f1 ≠ 0 ∧ x.f1 ≠ 1
  · rw [if_pos ha] at h; exact absurd h (by simp)
  rw [if_neg ha] at h
  by_cases hn : smallB x.f4 = false
  · rw [if_pos hn] at h; exact absurd h (by simp)
  rw [if_neg hn] at h
  replace hn := small_inv (by simpa using hn)
  obtain ⟨t, ht, h⟩ := Option.bind_eq_some_iff.1 h
  cases t with
  | false => exact absurd h (by simp)
  | true =>
  rw [if_neg (by decide)] at h
  by_cases hq : smallJ x.f5.f0 = false
  · rw [if_pos hq] at h; exact absurd h (by simp)
  rw [if_neg hq] at h
  replace hq := smallJ_inv (by simpa using hq)
  by_cases hp : smallJ x.f5.f1 = false
  · rw [if_pos hp] at h; exact absurd h (by simp)
  rw [if_neg hp] at h
  replace hp := smallJ_inv (by simpa using hp)
  obtain ⟨s0, s1, s2, s3, s4, s5, s6⟩ := same_inv ht
  have hlen := equal_len s6
  replace ha : x.f1 = 0 ∨ x.f1 = 1 := by omega
  obtain ⟨x0, x1, x2, x3, x4, ⟨q, p⟩, x6, x7⟩ := x
  simp only at h1 h8 ha hn hq hp
  have hk : x0 = 1 ∨ x0 = 2 ∨ x0 = 3 ∨ x0 = 4 ∨ x0 = 5 ∨ x0 = 6 ∨ x0 = 7 ∨ x0 = 8 := by omega
  clear s0 s6 ht
  rcases hk with rfl | rfl | rfl | rfl | rfl | rfl | rfl | rfl
  · rcases ha with rfl | rfl
    · simp [bareS] at s2 s3 s4 s5 hlen
      subst s2 s3 s4 s5
      obtain rfl := List.eq_nil_of_length_eq_zero (by simpa using hlen)
      exact .go0 hq
    · simp [bareS] at s2 s3 s4 s5 hlen
      subst s2 s3 s4 s5
      obtain rfl := List.eq_nil_of_length_eq_zero (by simpa using hlen)
      exact .go1 hp
  · simp [bareS] at s2 s3 s4 s5 hlen
    obtain ⟨rfl, rfl⟩ := s5
    subst s2 s3 s4
    obtain rfl := List.eq_nil_of_length_eq_zero (by simpa using hlen)
    exact .home ha
  · simp [bareS] at s3 s4 s5 hlen
    obtain ⟨rfl, rfl⟩ := s5
    subst s3 s4
    obtain rfl := List.eq_nil_of_length_eq_zero (by simpa using hlen)
    have hnm : parser_name.f x2 = some true := bind_true (by simpa [namesF] using h)
    exact .pick ha (name_inv hnm)
  · simp [bareS] at s2 s4 s5 hlen
    obtain ⟨rfl, rfl⟩ := s5
    subst s2 s4
    obtain rfl := List.eq_nil_of_length_eq_zero (by simpa using hlen)
    have hnm : parser_name.f x3 = some true := by simpa [namesF] using h
    exact .put ha (name_inv hnm)
  · simp [bareS] at s2 s4 s5 hlen
    obtain ⟨rfl, rfl⟩ := s5
    subst s2 s4
    obtain rfl := List.eq_nil_of_length_eq_zero (by simpa using hlen)
    have hnm : parser_name.f x3 = some true := by simpa [namesF] using h
    exact .hand ha (name_inv hnm)
  · simp [bareS] at s1 s2 s3 s5 hlen
    obtain ⟨rfl, rfl⟩ := s5
    subst s1 s2 s3
    obtain rfl := List.eq_nil_of_length_eq_zero (by simpa using hlen)
    exact .wait hn
  · simp [bareS] at s1 s4 s5
    obtain ⟨rfl, rfl⟩ := s5
    subst s1 s4
    obtain ⟨b, hb, h⟩ := Option.bind_eq_some_iff.1 (show (parser_name.f x2).bind (fun a => if a = true then parser_name.f x3 else some false) = some true by simpa [namesF] using h)
    cases b with
    | false => exact absurd h (by simp)
    | true => exact .when_ (name_inv hb) (name_inv (by simpa using h))
  · simp [bareS] at s1 s2 s3 s4 hlen
    subst s1 s2 s3 s4
    obtain rfl := List.eq_nil_of_length_eq_zero (by simpa using hlen)
    exact .both hq hp
theorem count_lift2 {k : Nat} {deep n m i r : Int} {l : List S55} (h : parser_count.l0 k deep n l m i = some r) : parser_count.l0 (k + 2) deep n l m i = some r := (parser_count.mono_l (k + 1)).2.1 _ _ _ _ _ _ ((parser_count.mono_l k).2.1 _ _ _ _ _ _ h)
theorem count_inv : ∀ (l : List S55) (k : Nat) (deep r : Int), 0 ≤ deep → deep ≤ 4 → parser_count.f k l deep = some r → 0 ≤ r ∧ r ≤ 100 * (5 - deep) ∧ (r ≤ 64 → ∃ m ks, VLs (4 - deep).toNat l m ks ∧ (m : Int) = r) := by
  refine list_ind fun l ih k deep r hd hd4 h => ?_
  have key : ∀ (l : List S55), (∀ x ∈ l, ∀ (k : Nat) (deep r : Int), 0 ≤ deep → deep ≤ 4 → parser_count.f k x.f6 deep = some r → 0 ≤ r ∧ r ≤ 100 * (5 - deep) ∧ (r ≤ 64 → ∃ m ks, VLs (4 - deep).toNat x.f6 m ks ∧ (m : Int) = r)) →
      ∀ (k : Nat) (n r : Int) (pre : List S55), 0 ≤ n → (pre.length : Int) ≤ n → n ≤ 65 + 100 * (4 - deep) → parser_count.l0 k deep n (pre ++ l) (pre ++ l).length pre.length = some r → 0 ≤ r ∧ r ≤ 100 * (5 - deep) ∧ (r ≤ 64 → ∃ m ks, VLs (4 - deep).toNat l m ks ∧ n + (m : Int) = r) := by
    intro l
    induction l with
    | nil =>
      intro _ k n r pre h0 hp hn h
      rw [List.append_nil] at h
      have h2 := count_lift2 h
      rw [count_end] at h2
      obtain rfl := Option.some.inj h2
      exact ⟨h0, by omega, fun _ => ⟨0, [], .nil _, by simp⟩⟩
    | cons x l il =>
      intro H k n r pre h0 hp hn h
      have hn1 : wrap64 (n + 1) = n + 1 := by unfold wrap64; omega
      have hd1 : wrap64 (deep + 1) = deep + 1 := by unfold wrap64; omega
      have hst := count_step k deep n (pre ++ x :: l) pre.length (by omega) (by simp only [List.length_append, List.length_cons]; omega)
      rw [count_lift2 h] at hst
      simp only [rd_mid, hn1, hd1] at hst
      by_cases c : n + 1 > 64
      · rw [if_pos c] at hst
        have := Option.some.inj hst
        exact ⟨by omega, by omega, fun hr => by omega⟩
      rw [if_neg c] at hst
      by_cases c7 : x.f0 = 7 ∧ deep = 4
      · rw [if_pos c7] at hst
        have := Option.some.inj hst
        exact ⟨by omega, by omega, fun hr => by omega⟩
      rw [if_neg c7] at hst
      obtain ⟨t, ht, hst⟩ := Option.bind_eq_some_iff.1 hst.symm
      cases t with
      | false =>
        have := Option.some.inj hst
        exact ⟨by omega, by omega, fun hr => by omega⟩
      | true =>
      have hx := plain_inv ht
      have hi1 : wrap64 ((pre.length : Int) + 1) = ((pre ++ [x]).length : Int) := by
        simp only [List.length_append, List.length_cons, List.length_nil]
        unfold wrap64; omega
      have hpl : ((pre ++ [x]).length : Int) = pre.length + 1 := by simp
      have hap : pre ++ x :: l = (pre ++ [x]) ++ l := by simp
      rw [if_pos rfl, hi1, hap] at hst
      by_cases h7 : x.f0 = 7
      · rw [if_pos h7] at hst
        obtain ⟨t, ht2, hst⟩ := Option.bind_eq_some_iff.1 hst
        obtain ⟨t0, t1, t2⟩ := H x List.mem_cons_self k (deep + 1) t (by omega) (by omega) ht2
        have hw : wrap64 (n + 1 + t) = n + 1 + t := by unfold wrap64; omega
        rw [hw] at hst
        obtain ⟨r0, r1, r2⟩ := il (fun z hz => H z (List.mem_cons_of_mem _ hz)) k (n + 1 + t) r (pre ++ [x]) (by omega) (by omega) (by omega) hst
        refine ⟨r0, r1, fun hr => ?_⟩
        obtain ⟨m, ks, hv, hm⟩ := r2 hr
        obtain ⟨m2, ls, hv2, hm2⟩ := t2 (by omega)
        obtain ⟨d, hd2⟩ : ∃ d, (4 - deep).toNat = d + 1 := ⟨(4 - deep).toNat - 1, by omega⟩
        have hd3 : (4 - (deep + 1)).toNat = d := by omega
        rw [hd2] at hv ⊢
        rw [hd3] at hv2
        exact ⟨m + m2 + 1, _, .when_ hx h7 hv2 hv, by omega⟩
      · rw [if_neg h7] at hst
        obtain ⟨r0, r1, r2⟩ := il (fun z hz => H z (List.mem_cons_of_mem _ hz)) k (n + 1) r (pre ++ [x]) (by omega) (by omega) (by omega) hst
        refine ⟨r0, r1, fun hr => ?_⟩
        obtain ⟨m, ks, hv, hm⟩ := r2 hr
        exact ⟨m + 1, _, .plain hx h7 hv, by omega⟩
  cases k with
  | zero => exact absurd h (by simp [parser_count.f])
  | succ k =>
    rw [parser_count.f] at h
    obtain ⟨r0, r1, r2⟩ := key l ih k 0 r [] (Int.le_refl _) (by simp) (by omega) h
    refine ⟨r0, r1, fun hr => ?_⟩
    obtain ⟨m, ks, hv, hm⟩ := r2 hr
    exact ⟨m, ks, hv, by omega⟩
/-- what Valid's yes tells -/
theorem valid_inv {l : List S55} {k : Nat} (h : parser_Valid.f k l = some true) : ∃ n ks, VLs 4 l n ks ∧ n ≤ 64 := by
  unfold parser_Valid.f at h
  obtain ⟨r, hr, h⟩ := Option.bind_eq_some_iff.1 h
  have hle : r ≤ 64 := by simpa using h
  obtain ⟨_, _, h2⟩ := count_inv l k 0 r (Int.le_refl _) (by decide) hr
  obtain ⟨m, ks, hv, hm⟩ := h2 hle
  exact ⟨m, ks, hv, by omega⟩
end Go.Proofs.YtonhcfecfifghaaDoor.PPx
namespace Go.Proofs.YtonhcfecfifghaaDoor.PPx
open Go.RowKit Go.Proofs.YtonhcfecfifghaaDoorW.PrintWords Go.Proofs.YtonhcfecfifghaaDoorW.PrintLast Go.Proofs.YtonhcfecfifghaaDoorW.PrintMore
set_option linter.unusedVariables false
theorem fc_pure : ambidexterlaw11_ParserFormatIsCanonical.Pure := by
  intro s _
  suffices h : EvalsTo (fun k => ambidexterlaw11_ParserFormatIsCanonical.f k s) true by
    obtain ⟨K, hK⟩ := h
    exact ⟨K, hK K (Nat.le_refl _)⟩
  unfold ambidexterlaw11_ParserFormatIsCanonical.f
  simp only [show ambidexterlaw11_head.f = some true from rfl, Option.bind_some]
  by_cases hs : (s.size : Int) > 4000
  · simp only [if_pos hs]; exact EvalsTo.const true
  simp only [if_neg hs]
  obtain ⟨⟨a, f⟩, K1, h1⟩ := parse_total s
  obtain ⟨n, ks, hv, hn⟩ := parse_valid (h1 K1 (Nat.le_refl _))
  obtain ⟨t, ts, h2, hl, hk, _⟩ := format_ok hv (by decide) (by omega)
  obtain ⟨b, hsim, hvb, K3, h3⟩ := parse_text hv hn hl hk
  have e1 : EvalsTo (fun k => parser_Parse.f k s) (a, f) := ⟨K1, h1⟩
  have e2 : EvalsTo (fun k => parser_Format.f k a) t := ⟨5, fun k hk => h2 k (by omega)⟩
  have e3 : EvalsTo (fun k => parser_Parse.f k t) (b, []) := ⟨K3, h3⟩
  have e4 : EvalsTo (fun k => parser_Valid.f k a) true := valid_ok hv hn
  have e5 : EvalsTo (fun k => ambidexterref11_Same.f k a b) true := hsim.equal
  have e6 : EvalsTo (fun k => parser_Format.f k b) t := e2.congr fun k => (hsim.format k).symm
  refine EvalsTo.bind e1 ?_
  refine EvalsTo.bind e2 ?_
  refine EvalsTo.bind e3 ?_
  simp only [if_true]
  refine EvalsTo.bind e4 ?_
  simp only [if_true, List.length_nil, Int.ofNat_zero]
  refine EvalsTo.bind e5 ?_
  simp only [if_true]
  refine EvalsTo.bind e6 ?_
  simp only [beq_self_eq_true]
  exact EvalsTo.const true
end Go.Proofs.YtonhcfecfifghaaDoor.PPx
