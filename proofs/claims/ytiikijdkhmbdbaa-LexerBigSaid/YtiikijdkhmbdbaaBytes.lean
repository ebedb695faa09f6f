import Derived.Test.YtiikijdkhmbdbaaTheory2
import Derived.Laws.IdiomStrings
namespace Go.Proofs.Ytiikijdkhmbdbaa.PLx
open Go.RowKit Go.Proofs.YtiikijdkhmbdbaaW.PrintWords Go.Proofs.YtiikijdkhmbdbaaW.PrintLast Go.Proofs.YtiikijdkhmbdbaaW.PrintMore
/-- v is a byte slice of the call's own that holds s; its row may bear the run-time's mark behind the last cell, as the row of a conversion does -/
def OwnB (W : World) (base e : Nat) (v : Value) (s : ByteArray) : Prop :=
  ∃ (g cap : Nat) (cur : Array Value) (lo hi : Nat), v = .slice (some ⟨g, 0, none⟩) s.size cap ∧ base ≤ g ∧ W.heap[g]? = some (.cells cur e (lo, hi)) ∧ s.size ≤ cap ∧ cap ≤ maxLen ∧ cur.size = cap ∧
    (∀ j, j < cap → (decide (lo ≤ j) && decide (j < hi)) = false) ∧ ∀ j (h : j < s.data.size), cur[j]? = some (.int .u8 ((s.data[j]'h).toNat : Int))
section
variable {P : Program} {W w1 : World} {base e : Nat} {v : Value} {s : ByteArray}
theorem OwnB.form (h : OwnB W base e v s) : ∃ g cap, v = .slice (some ⟨g, 0, none⟩) s.size cap ∧ base ≤ g ∧ g < W.heap.size := by
  obtain ⟨g, cap, cur, lo, hi, hv, hb, hh, _⟩ := h
  exact ⟨g, cap, hv, hb, (Array.getElem?_eq_some_iff.1 hh).1⟩
theorem OwnB.base_le (h : OwnB W base e v s) : ∀ k, v.ownBlock = some k → base ≤ k := by
  obtain ⟨g, cap, hv, hb, _⟩ := h.form
  intro k hk
  subst hv
  simp only [Value.ownBlock, Option.some.injEq] at hk
  omega
theorem OwnB.lt (h : OwnB W base e v s) : ∀ k, v.ownBlock = some k → k < W.heap.size := by
  obtain ⟨g, cap, hv, hb, hl⟩ := h.form
  intro k hk
  subst hv
  simp only [Value.ownBlock, Option.some.injEq] at hk
  omega
theorem OwnB.step (h : OwnB W base e v s) (hm : ∀ k, v.ownBlock = some k → k < W.heap.size → w1.heap[k]? = W.heap[k]?) : OwnB w1 base e v s := by
  obtain ⟨g, cap, cur, lo, hi, rfl, hb, hh, r⟩ := h
  exact ⟨g, cap, cur, lo, hi, rfl, hb, (hm g rfl (Array.getElem?_eq_some_iff.1 hh).1).trans hh, r⟩
theorem OwnB.below (h : OwnB W base e v s) (hb : Below W.heap.size W w1) : OwnB w1 base e v s := h.step (fun k _ hk => hb.block k hk)
theorem OwnB.new (w : World) (e : Nat) (s : ByteArray) (hs : s.size ≤ maxLen) :
    OwnB (w.drew.alloc (.cells (bytesRow s (grownCap w s.size 0 e)) e ((bytesRow s (grownCap w s.size 0 e)).size, (bytesRow s (grownCap w s.size 0 e)).size + 1))) w.heap.size e (.slice (some ⟨w.heap.size, 0, none⟩) s.size (grownCap w s.size 0 e)) s := by
  have hge := grownCap_ge w s.size 0 e
  have hsz : (bytesRow s (grownCap w s.size 0 e)).size = grownCap w s.size 0 e := by
    have e0 : s.data.size = s.size := rfl
    simp only [bytesRow, Array.size_append, Array.size_map, Array.size_replicate]; omega
  refine ⟨w.heap.size, _, _, _, _, rfl, Nat.le_refl _, heap_alloc_new w.drew _, hge, grownCap_le_maxLen w _ 0 e hs, hsz, fun j hj => ?_, fun j h => bytesRow_at s _ j h⟩
  rw [hsz]
  simp; omega
theorem OwnB.back (h : OwnB W base e v s) {src dst : TypeId} (hs : P.underlying src = some (.slice e)) (he : P.underlying e = some (.int .u8)) (hd : P.underlying dst = some .string) :
    (convert src dst v).run P W = .ok (.string s) W := by
  obtain ⟨g, cap, cur, lo, hi, rfl, hb, hh, hc, hm, hz, hf, hj⟩ := h
  have e0 : s.data.toList.length = s.size := rfl
  have := run_convert_bytes_back (P := P) W src dst e ⟨g, 0, none⟩ cap s.data.toList hs he hd (fun j hjl => by
    rw [Addr.add_lit]
    have hj2 : j < s.data.size := by simpa using hjl
    have := hj j hj2
    unfold World.cell?
    rw [hh]
    simpa using this)
  rw [e0] at this
  rw [this]
theorem push_get (s : ByteArray) (x : UInt8) (j : Nat) (h : j < (s.push x).data.size) : (s.push x).data[j]'h = if h2 : j < s.data.size then s.data[j]'h2 else x := by
  show (s.data.push x)[j]'h = _
  rw [Array.getElem_push]
theorem size_push' (s : ByteArray) (x : UInt8) : (s.push x).size = s.size + 1 := by
  show (s.data.push x).size = _
  rw [Array.size_push]; rfl
/-- one byte more -/
theorem OwnB.append (h : OwnB W base e v s) (hbase : base ≤ W.heap.size) (t ty : TypeId) (i : TypeInfo) (ht : P.underlying t = some (.slice e)) (hi : P.info? e = some i) (hz : i.zero = some (.int .u8 0)) (hsz : i.size = 1) (hby : i.bytes = 1)
    (a : Addr) (c : Nat) (x : UInt8) (hx : W.cell? a = some (.int .u8 (x.toNat : Int))) (hs : s.size ≤ 1000000) :
    ∃ v' w', (Builtin.append_ #[t, t] ty #[v, .slice (some a) 1 c]).run P W = .ok v' w' ∧ OwnB w' base e v' (s.push x) ∧ W.grownBy w' v.ownBlock ∧ (v'.ownBlock = v.ownBlock ∨ ∃ b, v'.ownBlock = some b ∧ W.heap.size ≤ b) := by
  obtain ⟨g, cap, cur, lo, hi', rfl, hb, hh, hc, hm, hcs, hf, hj⟩ := h
  have hml : maxLen = 9223372036854775807 := by rfl
  have hone : (Value.int .u8 (x.toNat : Int)).oneCell' = true := rfl
  have hnews : ∀ j u, [Value.int .u8 (x.toNat : Int)][j]? = some u → W.cell? (a.add j) = some u := by
    intro j u hu
    cases j with
    | zero =>
      simp only [List.getElem?_cons_zero, Option.some.injEq] at hu
      subst hu
      have : a.add 0 = a := by unfold Addr.add; cases a; split <;> simp_all
      rw [this]; exact hx
    | succ j => simp at hu
  by_cases hroom : s.size + 1 ≤ cap
  · have hfc := run_firstCells_some (P := P) W i.size 1 a 1 c [Value.int .u8 (x.toNat : Int)] (by simp [hsz]) hnews
    have hcell : W.cell? ⟨g, s.size, none⟩ = some (cur[s.size]'(by omega)) := by
      unfold World.cell?
      rw [hh]
      simp [Array.getElem?_eq_getElem (show s.size < cur.size by omega)]
    have hfro : W.frozen? ⟨g, s.size, none⟩ = false := by
      unfold World.frozen?
      rw [hh]
      exact hf s.size (by omega)
    have hst : (store ⟨g, s.size, none⟩ (Value.int .u8 (x.toNat : Int))).run P W = .ok () (W.setRow g (cur.setIfInBounds s.size (Value.int .u8 (x.toNat : Int)))) := by
      rw [run_store P W _ _ _ hone, hcell]
      simp only [hfro, Bool.false_eq_true, if_false]
      rw [setCell_eq_setRow W g s.size cur e (lo, hi') _ hh]
    refine ⟨.slice (some ⟨g, 0, none⟩) (s.size + 1) cap, W.setRow g (cur.setIfInBounds s.size (Value.int .u8 (x.toNat : Int))), ?_, ?_, ⟨rfl, rfl, rfl, by simp [World.setRow], fun k _ hk => setRow_other W g k _ (fun e => hk (by simp [Value.ownBlock, e]))⟩, .inl rfl⟩
    · rw [hsz] at hfc
      simp [Builtin.append_, run_underlying ht, sizeOf, typeInfo, hi, Builtin.lenOf, hroom, hsz, hfc, Addr.add_lit, storeCells, hst]
    · refine ⟨g, cap, _, lo, hi', by rw [size_push'], hb, setRow_heap W g cur _ e _ hh, by rw [size_push']; omega, hm, by simpa using hcs, hf, fun j hlt => ?_⟩
      rw [push_get]
      have e1 : (s.push x).data.size = s.size + 1 := size_push' s x
      by_cases hjs : j < s.data.size
      · rw [dif_pos hjs, Array.getElem?_setIfInBounds_ne (show s.size ≠ j from fun h => by subst h; exact Nat.lt_irrefl _ hjs)]
        exact hj j hjs
      · rw [dif_neg hjs]
        have e2 : s.data.size = s.size := rfl
        have e3 : j = s.size := by omega
        subst e3
        simp [show s.size < cur.size by omega]
  · have holds : ∀ j u, ((s.data.toList.map (fun b : UInt8 => Value.int .u8 (b.toNat : Int)))[j]? = some u) → W.cell? ((⟨g, 0, none⟩ : Addr).add j) = some u := by
      intro j u hu
      rw [Addr.add_lit]
      have hjl : j < s.data.size := by
        have := (List.getElem?_eq_some_iff.1 hu).1
        simpa using this
      have h1 := hj j hjl
      unfold World.cell?
      rw [hh]
      simp [Array.getElem?_eq_getElem hjl] at hu
      rw [← hu]
      simpa using h1
    have e2 : s.data.toList.length = s.size := rfl
    have hr := run_append_grow (P := P) W t ty e i (.int .u8 0) ht hi hz ⟨g, 0, none⟩ s.size cap (s.data.toList.map (fun b : UInt8 => Value.int .u8 (b.toNat : Int))) (by rw [List.length_map, e2, hsz]; omega) holds a 1 c [Value.int .u8 (x.toNat : Int)] (by simp [hsz]) hnews (by omega) (by omega) (growslice_fits (by omega) (by rw [hby]; omega))
    have hge := grownCap_ge W (s.size + 1) cap e
    have hcm : grownCap W (s.size + 1) cap e ≤ maxLen := grownCap_le_maxLen W _ cap e (by omega)
    refine ⟨_, _, hr, ⟨W.heap.size, _, _, 0, 0, by rw [size_push'], hbase, heap_alloc_new W.drew _, by rw [size_push']; exact hge, hcm, ?_, fun j _ => by simp, fun j hlt => ?_⟩, ⟨rfl, rfl, rfl, by simp, fun k hk _ => heap_alloc_old W.drew _ hk⟩, .inr ⟨W.heap.size, rfl, Nat.le_refl _⟩⟩
    · simp only [Array.size_append, List.size_toArray, List.length_map, e2, size_zeroCells, List.length_cons, List.length_nil]
      show s.size + (0 + 1) + (grownCap W (s.size + 1) cap e - (s.size + 1)) * 1 = _
      omega
    · rw [push_get]
      have e1 : (s.push x).data.size = s.size + 1 := size_push' s x
      have e4 : (s.data.toList.map (fun b : UInt8 => Value.int .u8 (b.toNat : Int))).toArray.size = s.size := by simp
      rw [Array.append_assoc]
      by_cases hjs : j < s.data.size
      · rw [dif_pos hjs, Array.getElem?_append_left (by rw [e4]; exact hjs)]
        simp [Array.getElem?_eq_getElem hjs]
      · rw [dif_neg hjs]
        have e5 : s.data.size = s.size := rfl
        have e3 : j = s.size := by omega
        subst e3
        rw [Array.getElem?_append_right (by rw [e4]; exact Nat.le_refl _), e4, Nat.sub_self, Array.getElem?_append_left (by simp)]
        rfl
end
section
variable {P : Program} {ops : Array Oper} {rest : List Oper} {o : Oper} {a : Act} {Q : Exit → Act → World → Prop}
theorem B_append {w0 W : World} (base : Nat) (hgd : o.guard = none) (s x : Operand) (t e : TypeId)
    (ho : o.op = .call { callee := .builtin .append, args := #[s, x], argTypes := #[t, t] })
    (ht : P.underlying t = some (.slice e)) (hinfo : (P.info? e).map (fun i => (i.zero, i.size, i.bytes)) = some (some (.int .u8 0), 1, 1))
    (v : Value) (bs : ByteArray) (c : UInt8) (hs : a.eval s = v) (hx : a.eval x = .slice (some ⟨W.heap.size, 0, none⟩) 1 1)
    (HO : OwnB W base e v bs) (HB : Below base w0 W) (hbase : base ≤ W.heap.size) (hl : bs.size ≤ 1000000)
    (h : ∀ v1 w1, OwnB w1 base e v1 (bs.push c) → Below base w0 w1 → W.grownBy w1 v.ownBlock → (v1.ownBlock = v.ownBlock ∨ ∃ b, v1.ownBlock = some b ∧ W.heap.size ≤ b) → wpList P ops Q rest (a.put o.dst v1) w1) :
    wpList P ops Q (o :: rest) a (W.alloc (.cells #[.int .u8 (c.toNat : Int)] e)) := by
  refine wpList_plain hgd fun K hK => ?_
  obtain ⟨i, hi, hzz⟩ := Option.map_eq_some_iff.1 hinfo
  simp only [Prod.mk.injEq] at hzz
  have HB1 := HB.alloc hbase (.cells #[.int .u8 (c.toNat : Int)] e)
  have HO1 : OwnB (W.alloc (.cells #[.int .u8 (c.toNat : Int)] e)) base e v bs := HO.below (below_alloc (Below.refl _ _) _)
  have hcell : (W.alloc (.cells #[.int .u8 (c.toNat : Int)] e)).cell? ⟨W.heap.size, 0, none⟩ = some (.int .u8 (c.toNat : Int)) := by
    rw [World.cell?_alloc_mark]; rfl
  obtain ⟨v1, w1, hr, h1, h2, h3⟩ := HO1.append (P := P) (by simp; omega) t o.type i ht hi hzz.1 hzz.2.1 hzz.2.2 ⟨W.heap.size, 0, none⟩ 1 c hcell hl
  have hg : W.grownBy w1 v.ownBlock := by
    refine ⟨h2.os, h2.tape, h2.output, by have := h2.size; simp at this; omega, fun k hk hne => ?_⟩
    rw [h2.block k (by simp; omega) hne]
    exact heap_alloc_old W _ hk
  unfold Oper.wp execOp
  simp only [ho, resolve, invoke, builtin, Sem.run_bind, Sem.run_pure, Result.andThen_ok, List.map_toArray, List.map_cons, List.map_nil, hs, hx, hr]
  refine hK _ _ (h v1 w1 h1 (HB1.grown h2 (by simp; omega) HO1.base_le) hg ?_)
  rcases h3 with h3 | ⟨b, hb, hle⟩
  · exact .inl h3
  · exact .inr ⟨b, hb, by simp at hle; omega⟩
end
end Go.Proofs.Ytiikijdkhmbdbaa.PLx
