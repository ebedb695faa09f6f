import Derived.Test.YtiikijdkhmbdbaaBytes
namespace Go.Proofs.Ytiikijdkhmbdbaa.PLx
open Go.RowKit Go.Proofs.YtiikijdkhmbdbaaW.PrintWords Go.Proofs.YtiikijdkhmbdbaaW.PrintLast Go.Proofs.YtiikijdkhmbdbaaW.PrintMore
/-- line feeds behind a text -/
def padn (t : ByteArray) : Nat → ByteArray
  | 0 => t
  | k + 1 => (padn t k).push 10
theorem padn_size (t : ByteArray) : ∀ k, (padn t k).size = t.size + k
  | 0 => rfl
  | k + 1 => by rw [padn, size_push', padn_size t k]; omega
theorem OwnB.lower {W : World} {b b' e : Nat} {v : Value} {s : ByteArray} (h : OwnB W b e v s) (hb : b' ≤ b) : OwnB W b' e v s := by
  obtain ⟨g, cap, cur, lo, hi, hv, h1, r⟩ := h
  exact ⟨g, cap, cur, lo, hi, hv, Nat.le_trans hb h1, r⟩
set_option maxHeartbeats 8000000 in
set_option maxRecDepth 100000 in
theorem big_calls (a0 : ByteArray) (m : Int) (hm0 : 0 ≤ m) (hm1 : m ≤ 255) (t : ByteArray) (ht : ambidexterlaw10_few.f a0 = some t) (hts : t.size ≤ 2000) (l : List S31) (e1 e2 : Int) (hl : l.length ≤ 100000) (hpad : ∀ k, (padn t k).size ≤ 20000 → lexB (padn t k) = (l, e1, e2)) (w : World) : 
    Calls Try.prog 9 #[.string a0, .int .u8 m] w fun e w' => e = .returned (.bool true) ∧ Below w.heap.size w w' := by
  have hu31 := Try.underlying31
  have kc : ∀ (w : World) (s : ByteArray), (convert 9 32 (.string s)).run Try.prog w = _ := fun w s => run_bytes_of_string (P := Try.prog) w 9 32 5 s Try.underlying9 Try.underlying32 Try.underlying5
  have HT := Aside0.mk ht
  have HP := Aside0.mk hpad
  have Hl := Aside0.mk hl
  have A2 : Aside0 (ambidexterlaw10_head.f = some true) := ⟨rfl⟩
  clear ht hpad hl
  have HB := Aside0.mk (Below.refl w.heap.size w)
  go_enter Try.func9, Try.ntmps9
  go_wp2_with (first | (go_at_call 10; (with_reducible refine (ambidexterlaw10_head.calls true _ A2.out).mono ?_); rintro e w1 ⟨rfl, hb⟩; have n0_ := Aside0.mk (below_step (by repeat (first | (with_reducible first | exact HB.out | apply below_alloc | apply pw_below_drewN | apply below_drew1) | exact HB.out)) hb); clear HB; have HB := n0_; clear n0_; clear hb) | (go_at_call 11; (with_reducible refine (ambidexterlaw10_few.calls a0 t _ HT.out).mono ?_); rintro e w2 ⟨rfl, hb⟩; have n0_ := Aside0.mk (below_step (by repeat (first | (with_reducible first | exact HB.out | apply below_alloc | apply pw_below_drewN | apply below_drew1) | exact HB.out)) hb); clear HB; have HB := n0_; clear n0_; clear hb))
  have HO := Aside0.mk ((OwnB.new w2 5 t (by show _ ≤ 9223372036854775807; omega)).lower (below_size HB.out))
  go_loopg [6] (20000 - t.size) (fun kq v wr => ∃ k : Nat, Aside0 (t.size + k + kq = 20000 ∧ OwnB wr w.heap.size 5 v (padn t k) ∧ Below w.heap.size w wr))
  case atStart => exact ⟨0, ⟨by omega, HO.out, by repeat (first | exact HB.out | apply below_alloc | apply below_drew)⟩⟩
  case round =>
    clear HO HB
    obtain ⟨k, ⟨hk, hO, hB⟩⟩ := hrel
    obtain ⟨g, cap, rfl, hbg, hlt⟩ := hO.form
    have Hsz := Aside0.mk (padn_size t k)
    have HO := Aside0.mk hO
    have HB := Aside0.mk hB
    clear hO hB
    cases gk with
    | succ j =>
      have cb : decide (((padn t k).size : Int) < 20000) = true := decide_eq_true (by have := Hsz.out; omega)
      have HJ := Aside0.mk hk
      clear hk
      go_wp2_with (at_builtin; refine B_append (w0 := w) w.heap.size rfl (.tmp 24) (.tmp 25) 32 5 rfl Try.underlying32 info5 _ (padn t k) 10 rfl (by first | (go_simp; done) | (go_simp; rfl)) HO.out HB.out (below_size HB.out) (by have := Hsz.out; have := HJ.out; omega) ?_)
      intro v1 w3 hO3 hB3 _ _
      have HO3 := Aside0.mk hO3
      have HB3 := Aside0.mk hB3
      clear hO3 hB3 HO HB
      go_wp2_with fail
      go_roundg j
      case measure => omega
      case rel => exact ⟨k + 1, ⟨by have := HJ.out; omega, HO3.out, HB3.out⟩⟩
    | zero =>
      have cb : decide (((padn t k).size : Int) < 20000) = false := decide_eq_false (by have := Hsz.out; omega)
      have HL := Aside0.mk (show lexer_Lex.f (padn t k) = some (l, e1, e2) by rw [lexer_Lex.f, HP.out k (by have := Hsz.out; omega)])
      have HL0 := Aside0.mk (show lexer_Lex.f t = some (l, e1, e2) by rw [lexer_Lex.f]; have := HP.out 0 (by simp only [padn]; omega); rw [padn] at this; rw [this])
      have hbk := HO.out.back (P := Try.prog) (src := 32) (dst := 9) Try.underlying32 Try.underlying5 Try.underlying9
      clear HP
      go_wp2_with fail
      refine (lexer_Lex.calls (padn t k) l e1 e2 _ HL.out).mono ?_
      rintro e w3 ⟨v7, rfl, hr7, hb⟩
      have HO3 := Aside0.mk (HO.out.below hb)
      have HR7 := Aside0.mk (Kd.R_lower (Kd.R_new' hr7 HO.out.lt) (below_size HB.out))
      have HB3 := Aside0.mk (below_step HB.out hb)
      clear hr7 hb HO HB hbk
      go_wp2_with (first | (go_at_call 11; (with_reducible refine (ambidexterlaw10_few.calls a0 t _ HT.out).mono ?_); rintro e w4 ⟨rfl, hb⟩; have n0_ := Aside0.mk (HO3.out.below hb); have n1_ := Aside0.mk (Kd.R_below HR7.out hb); have n2_ := Aside0.mk (below_step HB3.out hb); clear HO3 HR7 HB3; have HO3 := n0_; have HR7 := n1_; have HB3 := n2_; clear n0_ n1_ n2_ hb))
      refine (lexer_Lex.calls t l e1 e2 _ HL0.out).mono ?_
      rintro e w5 ⟨v10, rfl, hr10, hb⟩
      have HO5 := Aside0.mk (HO3.out.below hb)
      have HR75 := Aside0.mk (Kd.R_below HR7.out hb)
      have HR10 := Aside0.mk (Kd.R_lower (Kd.R_new' hr10 HO3.out.lt) (below_size HB3.out))
      have HB5 := Aside0.mk (below_step HB3.out hb)
      clear hr10 hb HO3 HR7 HB3
      go_wp2_with fail
      go_loopg [6, 13] 256 (fun kq v6 v13 wr => ∃ (i : Int) (s : ByteArray), v13 = .int .i64 i ∧ Aside0 (0 ≤ i ∧ i + kq = 256 ∧ OwnB wr w.heap.size 5 v6 s ∧ 20000 ≤ s.size ∧ (s.size : Int) ≤ 20000 + i ∧ (0 < i → 20000 < s.size) ∧ Kd.R k31 31 wr w.heap.size (fun k_ => True ∧ some k_ ≠ v6.ownBlock) v7 l ∧ Kd.R k31 31 wr w.heap.size (fun k_ => True ∧ some k_ ≠ v6.ownBlock) v10 l ∧ Below w.heap.size w wr))
      case atStart => exact ⟨0, padn t k, rfl, ⟨by omega, by omega, HO5.out, by have := Hsz.out; omega, by have := Hsz.out; omega, fun h => by omega, HR75.out, HR10.out, HB5.out⟩⟩
      case round =>
        clear HO5 HR75 HR10 HB5
        obtain ⟨i, s, rfl, ⟨hi0, hik, hO, hs0, hs1, hs2, hr7, hr10, hB⟩⟩ := hrel
        obtain ⟨g2, cap2, rfl, hbg2, hlt2⟩ := hO.form
        have HO := Aside0.mk hO
        have HB := Aside0.mk hB
        have HR7 := Aside0.mk hr7
        have HR10 := Aside0.mk hr10
        have HN := Aside0.mk (And.intro hi0 (And.intro hik (And.intro hs0 (And.intro hs1 hs2))))
        clear hO hB hr7 hr10
        cases gk with
        | succ j =>
          have ci : decide (i < 256) = true := decide_eq_true (by omega)
          clear hi0 hik hs0 hs1 hs2
          by_cases cm : i ≤ m
          · have cmb : decide (i ≤ m) = true := decide_eq_true cm
            go_wp2_with (at_builtin; refine B_append (w0 := w) w.heap.size rfl (.tmp 49) (.tmp 50) 32 5 rfl Try.underlying32 info5 _ s 10 rfl (by first | (go_simp; done) | (go_simp; rfl)) HO.out HB.out (below_size HB.out) (by have := HN.out; omega) ?_)
            intro v1 w6 hO6 hB6 hg6 hat6
            have HR76 := Aside0.mk (Kd.R_after HR7.out hg6 hat6)
            have HR106 := Aside0.mk (Kd.R_after HR10.out hg6 hat6)
            have HO6 := Aside0.mk hO6
            have HB6 := Aside0.mk hB6
            clear hO6 hB6 HO HB hg6 hat6 HR7 HR10
            go_wp2_with fail
            go_roundg j
            case measure => omega
            case rel => exact ⟨i + 1, s.push 10, by have := HN.out; rw [show wrap64 (i + 1) = i + 1 from Pure.wrap_small (by omega) (by omega)], ⟨by have := HN.out; omega, by have := HN.out; omega, HO6.out, by rw [size_push']; have := HN.out; omega, by rw [size_push']; have := HN.out; omega, fun _ => by rw [size_push']; have := HN.out; omega, HR76.out, HR106.out, HB6.out⟩⟩
          · have cmb : decide (i ≤ m) = false := decide_eq_false cm
            go_wp2_with fail
            go_roundg j
            case measure => omega
            case rel => exact ⟨i + 1, s, by have := HN.out; rw [show wrap64 (i + 1) = i + 1 from Pure.wrap_small (by omega) (by omega)], ⟨by have := HN.out; omega, by have := HN.out; omega, HO.out, by have := HN.out; omega, by have := HN.out; omega, fun _ => by have := HN.out; omega, HR7.out, HR10.out, HB.out⟩⟩
        | zero =>
          have ci : decide (i < 256) = false := decide_eq_false (by omega)
          have HLx := Aside0.mk (show lexer_Lex.f s = some ([], 2, 0) by rw [lexer_Lex.f, lexB, if_pos (by omega)])
          have hbk := HO.out.back (P := Try.prog) (src := 32) (dst := 9) Try.underlying32 Try.underlying5 Try.underlying9
          clear hi0 hik hs0 hs1 hs2
          go_wp2_with fail
          refine (lexer_Lex.calls s [] 2 0 _ HLx.out).mono ?_
          rintro e w7 ⟨v14, rfl, hr14, hb⟩
          have HR77 := Aside0.mk (Kd.R_below HR7.out hb)
          have HR107 := Aside0.mk (Kd.R_below HR10.out hb)
          have HB7 := Aside0.mk (below_step HB.out hb)
          obtain ⟨Ao1, co1, eo1⟩ := Kd.R_slice HR77.out
          subst eo1
          obtain ⟨Ao2, co2, eo2⟩ := Kd.R_slice HR107.out
          subst eo2
          obtain ⟨Ao3, co3, eo3⟩ := Kd.R_slice hr14
          subst eo3
          clear hr14 hb HO HR7 HR10 HB hbk
          have A7 := Aside0.mk (Pure.same_f l (by have := Hl.out; omega) (l.length + 1) (by omega))
          go_wp2_with (first | (go_at_call 14; (with_reducible refine (ambidexterref10_Same.calls (l.length + 1) _ _ l _ _ l true _ ?side1 ?side2 ?side3 ?side4 A7.out).mono ?_); (case side1 => repeat (first | exact (Kd.R_reads' HR77.out).2.2 | (with_reducible refine Kd.C_alloc ?_ _) | (with_reducible refine Kd.C_drewN ?_ _) | (with_reducible refine Kd.C_drew ?_))); (case side2 => exact (Kd.R_reads' HR77.out).2.1); (case side3 => repeat (first | exact (Kd.R_reads' HR107.out).2.2 | (with_reducible refine Kd.C_alloc ?_ _) | (with_reducible refine Kd.C_drewN ?_ _) | (with_reducible refine Kd.C_drew ?_))); (case side4 => exact (Kd.R_reads' HR107.out).2.1); rintro e w' ⟨rfl, ⟨nd, rfl⟩⟩))
          go_ret
          exact ⟨rfl, by repeat (first | (with_reducible first | exact HB7.out | apply below_alloc | apply pw_below_drewN | apply below_drew1) | exact HB7.out)⟩
end Go.Proofs.Ytiikijdkhmbdbaa.PLx
