/- Part J of the proof of ParserMatchesReference: the contracts of the functions that the law reaches, and what their plain functions compute. No condition. -/
import Derived.Test.YtonhcfecfifghaaGreatDoorParserMatchesReferencePA
import Derived.Test.YtonhcfecfifghaaGreatDoorParserMatchesReferencePD
import Derived.Test.YtonhcfecfifghaaGreatDoorParserMatchesReferencePF
import Derived.Test.YtonhcfecfifghaaGreatDoorParserMatchesReferencePG
import Derived.Test.YtonhcfecfifghaaGreatDoorParserMatchesReferencePH
import Derived.Test.YtonhcfecfifghaaGreatDoorParserMatchesReferencePI
import Derived.Deep.DeepCutAuto
set_option maxHeartbeats 40000000
set_option maxRecDepth 100000
namespace Go.Proofs.YtonhcfecfifghaaGreatDoor.PPx
open Go.RowKit Go.Proofs.YtonhcfecfifghaaGreatDoorW.PrintWords Go.Proofs.YtonhcfecfifghaaGreatDoorW.PrintLast Go.Proofs.YtonhcfecfifghaaGreatDoorW.PrintMore
set_option linter.unusedVariables false
set_option linter.unusedSimpArgs false
section
theorem rstmt_calls (rec : Int → Rs → Option (List S37 × Rs)) (A : Option Addr) (c : Nat) (ts : List S67) (S : Nat → Prop) (w : World) (i : Nat) (fin n deep : Int) (B : Option Addr) (fc : Nat) (fl : List S40) (o : Bool) (r : Option S37 × Rs) (hI : Inp A c ts S w i B fc fl) (hlt : i < ts.length) (hrec : RecC rec fin) (hr : rstmtS rec fin deep ⟨ts.drop i, n, fl, o⟩ = some r) :
 Calls Tryz.prog 35 #[.agg (stV A ts.length c i fin n B fl.length fc o), .int .i64 deep] w (RStmO A c ts fin S w r) := by
 have hr2 : rstmtK rec fin deep (keyS (rd_T67 ts (i : Int))) (rd_T67 ts (i : Int)).f2 ⟨ts.drop i, n, fl, o⟩ ⟨ts.drop (i + 1), n, fl, o⟩ = some r := by
  unfold rstmtS at hr
  have hd := drop_cons ts i hlt
  simp only [hd] at hr
  rw [hd]
  exact hr
 by_cases h1 : (rd_T67 ts (i : Int)).f0 = 1
 · by_cases h0 : kindS (rd_T67 ts (i : Int)).f1 = 0
   · exact rstmt_none1 rec A c ts S w i fin n deep B fc fl o r hI hlt hr2 h1 h0
   · by_cases h7 : kindS (rd_T67 ts (i : Int)).f1 = 7
     · by_cases h4 : deep = 4
       · exact rstmt_big rec A c ts S w i fin n deep B fc fl o r hI hlt hr2 h1 h7 h4
       · exact rstmt_when rec A c ts S w i fin n deep B fc fl o r hI hlt hr2 h1 h7 h4 hrec
     · exact rstmt_flat rec A c ts S w i fin n deep B fc fl o r hI hlt hr2 h1 h0 h7
 · exact rstmt_none2 rec A c ts S w i fin n deep B fc fl o r hI hlt hr2 h1
theorem dia_row {W : World} {g : Nat} {a b : Int} (h : W.heap[g]? = some (.cells #[.int .i64 a, .int .i64 b] 40 (0, 0))) : ReadsRow (fun (p : S40) (cs : List Value) => cs = [.int .i64 p.f0, .int .i64 p.f1]) 2 W (some ⟨g, 0, none⟩) 1 [⟨a, b⟩] := by
 refine ⟨rfl, by decide, fun _ => ⟨_, rfl, fun j p hj => ?_⟩⟩
 rcases j with _ | j
 · obtain rfl := Option.some.inj hj
   refine ⟨[.int .i64 a, .int .i64 b], rfl, rfl, fun i u hu => ?_⟩
   rcases i with _ | _ | i
   · obtain rfl := Option.some.inj hu
     exact blk_cell h 0
   · obtain rfl := Option.some.inj hu
     exact blk_cell h 1
   · cases hu
 · cases hj
def SO (S : Nat → Prop) (w : World) (v : Value) (k : Nat) : Prop := (S k ∨ (w.heap.size ≤ k ∧ k < w.heap.size + 2)) ∨ v.ownBlock = some k
structure Fs (A : Option Addr) (c : Nat) (ts : List S67) (fin : Int) (S : Nat → Prop) (w W : World) (j : Nat) (n : Int) (B : Option Addr) (fc : Nat) (fl : List S40) (o : Bool) (v : Value) (out : List S37) : Prop where
 b0 : W.heap[w.heap.size]? = some (.cells (stV A ts.length c j fin n B fl.length fc o) 50 (0, 0))
 b1 : W.heap[w.heap.size + 1]? = some (.cells zSt 50 (0, 0))
 hB : Below w.heap.size w W
 hK : KeepC (SO S w v) W B fl
 hf : fl.length ≤ fc
 hj : j ≤ ts.length
 hO : Kd.R k37 37 W w.heap.size (fun k => w.heap.size + 2 ≤ k) v out
section
variable {A : Option Addr} {c : Nat} {ts : List S67} {fin : Int} {S : Nat → Prop} {w W W1 : World} {j : Nat} {n : Int} {B : Option Addr} {fc : Nat} {fl : List S40} {o : Bool} {v : Value} {out : List S37}
theorem Fs.below (h : Fs A c ts fin S w W j n B fc fl o v out) (hb : Below W.heap.size W W1) : Fs A c ts fin S w W1 j n B fc fl o v out :=
 ⟨blk_below h.b0 hb, blk_below h.b1 hb, below_step h.hB hb, h.hK.below hb, h.hf, h.hj, Kd.R_below h.hO hb⟩
theorem Fs.ext (h : Fs A c ts fin S w W j n B fc fl o v out) (x : Obj) : Fs A c ts fin S w (W.alloc x) j n B fc fl o v out := h.below (below_alloc (Below.refl _ _) x)
theorem Fs.at (h : Fs A c ts fin S w W j n B fc fl o v out) (hj : j < ts.length) : Fs A c ts fin S w (W.setCell ⟨w.heap.size, 1, none⟩ (.int .i64 ((j : Int) + 1))) (j + 1) n B fc fl o v out :=
 ⟨blk_put h.b0 1 (.int .i64 ((j : Int) + 1)) rfl, blk_far h.b1 (by simp) _, below_set h.hB (Nat.le_refl _), h.hK.set (.inl (.inr ⟨Nat.le_refl _, by simp⟩)) _, h.hf, hj, Kd.R_far h.hO (fun k hk => by simp only; omega) _⟩
theorem Fs.sz (h : Fs A c ts fin S w W j n B fc fl o v out) : w.heap.size + 1 < W.heap.size := blk_lt h.b1
theorem Fs.over (h : Fs A c ts fin S w W j n B fc fl o v out) (b : Bool) : Fs A c ts fin S w (W.setCell ⟨w.heap.size, 5, none⟩ (.bool b)) j n B fc fl b v out :=
 ⟨blk_put h.b0 5 (.bool b) rfl, blk_far h.b1 (by simp) _, below_set h.hB (Nat.le_refl _), h.hK.set (.inl (.inr ⟨Nat.le_refl _, by simp⟩)) _, h.hf, h.hj, Kd.R_far h.hO (fun k hk => by simp only; omega) _⟩
theorem Fs.num (h : Fs A c ts fin S w W j n B fc fl o v out) (m : Int) : Fs A c ts fin S w (W.setCell ⟨w.heap.size, 3, none⟩ (.int .i64 m)) j m B fc fl o v out :=
 ⟨blk_put h.b0 3 (.int .i64 m) rfl, blk_far h.b1 (by simp) _, below_set h.hB (Nat.le_refl _), h.hK.set (.inl (.inr ⟨Nat.le_refl _, by simp⟩)) _, h.hf, h.hj, Kd.R_far h.hO (fun k hk => by simp only; omega) _⟩
theorem Fs.put (h : Fs A c ts fin S w W j n B fc fl o v out) {j2 fc2 : Nat} {n2 : Int} {B2 : Option Addr} {fl2 : List S40} {o2 : Bool} (hK : KeepC (SO S w v) W B2 fl2) (hf2 : fl2.length ≤ fc2) (hj2 : j2 ≤ ts.length) :
 Fs A c ts fin S w ((((((W.setCell ⟨w.heap.size, 0, none⟩ (.slice A ts.length c)).setCell ⟨w.heap.size, 1, none⟩ (.int .i64 (j2 : Int))).setCell ⟨w.heap.size, 2, none⟩ (.int .i64 fin)).setCell ⟨w.heap.size, 3, none⟩ (.int .i64 n2)).setCell ⟨w.heap.size, 4, none⟩ (.slice B2 fl2.length fc2)).setCell ⟨w.heap.size, 5, none⟩ (.bool o2)) j2 n2 B2 fc2 fl2 o2 v out :=
 ⟨set6 h.b0, blk_far (blk_far (blk_far (blk_far (blk_far (blk_far h.b1 (by simp) _) (by simp) _) (by simp) _) (by simp) _) (by simp) _) (by simp) _, below_set (below_set (below_set (below_set (below_set (below_set h.hB (Nat.le_refl _)) (Nat.le_refl _)) (Nat.le_refl _)) (Nat.le_refl _)) (Nat.le_refl _)) (Nat.le_refl _), keep6 (b5 := w.heap.size) hK (.inl (.inr ⟨Nat.le_refl _, by omega⟩)), hf2, hj2, far6 (b5 := w.heap.size) h.hO (fun k hk => by omega)⟩
theorem Fs.app (h : Fs A c ts fin S w W j n B fc fl o v out) {v6 : Value} {w6 : World} {out2 : List S37} (hR : Kd.R k37 37 w6 w.heap.size (fun k => w.heap.size + 2 ≤ k) v6 out2) (hB : Below w.heap.size w w6) (hg : W.grownBy w6 v.ownBlock) (hat : v6.ownBlock = v.ownBlock ∨ ∃ b, v6.ownBlock = some b ∧ W.heap.size ≤ b) : Fs A c ts fin S w w6 j n B fc fl o v6 out2 := by
 have ho : ∀ k, v.ownBlock = some k → w.heap.size + 2 ≤ k := fun k hk => h.hO.1 k hk
 have hne : ∀ k, k < w.heap.size + 2 → some k ≠ v.ownBlock := fun k hk e => by have := ho k e.symm; omega
 refine ⟨(hg.block _ (blk_lt h.b0) (hne _ (by omega))).trans h.b0, (hg.block _ (blk_lt h.b1) (hne _ (by omega))).trans h.b1, hB, fun W2 h2 => h.hK W2 (fun k hk hs => ?_), h.hf, h.hj, hR⟩
 have hkv : some k ≠ v.ownBlock := fun e => hs (.inr e.symm)
 have hk6 : k < w6.heap.size := Nat.lt_of_lt_of_le hk hg.size
 refine (h2 k hk6 (fun e => ?_)).trans (hg.block k hk hkv)
 rcases e with e | e
 · exact hs (.inl e)
 · rcases hat with ha | ⟨b, ha, hb⟩
   · exact hkv (ha ▸ e.symm)
   · rw [ha] at e
     have := Option.some.inj e
     omega
theorem Fs.fault {base n2 ch : Nat} {Ah : Option Addr} {ok : Nat → Prop} {fl2 : List S40} (h : Fs A c ts fin S w W j n B fc fl o v out) (hS : ∀ k, S k → k < w.heap.size) (hR : Kd.R k40 40 W base ok (.slice Ah n2 ch) fl2) (hb : w.heap.size + 2 ≤ base) (ho : ∀ k, v.ownBlock = some k → k < base) : Fs A c ts fin S w (W.setCell ⟨w.heap.size, 4, none⟩ (.slice Ah n2 ch)) j n Ah ch fl2 o v out := by
 obtain ⟨hn, hle, _⟩ := Kd.R_reads' hR
 subst hn
 have hR2 := Kd.R_far (p := ⟨w.heap.size, 4, none⟩) (Kd.R_mono (Kd.R_bound hR) (ok' := fun k => base ≤ k) (fun k h => h.2.1)) (fun k h => by simp only; omega) (.slice Ah fl2.length ch)
 have hR3 := Kd.R_mono (Kd.R_lower hR2 (Nat.le_of_eq rfl)) (ok' := fun k => base ≤ k) (fun k h => h)
 refine ⟨blk_put h.b0 4 (.slice Ah fl2.length ch) rfl, blk_far h.b1 (by simp) _, below_set h.hB (Nat.le_refl _), keep_of_R hR3 (fun k hk => hk.elim (fun e => e.elim (fun e => by have := hS k e; omega) (fun e => by omega)) (ho k)), hle, h.hj, Kd.R_far h.hO (fun k hk => by simp only; omega) _⟩
theorem RStsO.ext {r : List S37 × Rs} {e : Ending} (h : RStsO A c ts fin S w r e W) (x : Obj) : RStsO A c ts fin S w r e (W.alloc x) := by
 obtain ⟨v, kv, he, hk, ⟨i, B, fc, h1, h2, h3, h4, h5⟩, hB⟩ := h
 exact ⟨v, kv, he, Kd.R_alloc hk x, ⟨i, B, fc, h1, h2, h3, h4, h5.below (below_alloc (Below.refl _ _) _)⟩, below_alloc hB x⟩
theorem RStsO.drew {r : List S37 × Rs} {e : Ending} (h : RStsO A c ts fin S w r e W) : RStsO A c ts fin S w r e W.drew := by
 obtain ⟨v, kv, he, hk, ⟨i, B, fc, h1, h2, h3, h4, h5⟩, hB⟩ := h
 exact ⟨v, kv, he, Kd.R_drew hk, ⟨i, B, fc, h1, h2, h3, h4, h5.below (below_drew (Below.refl _ _))⟩, below_drew hB⟩
theorem Fs.fin' (h : Fs A c ts fin S w W j n B fc fl o v out) (y0 y1 y2 y3 y4 y5 : Value) {W2 : World} (hW : W2 = ((((((W.setCell ⟨w.heap.size + 1, 0, none⟩ y0).setCell ⟨w.heap.size + 1, 1, none⟩ y1).setCell ⟨w.heap.size + 1, 2, none⟩ y2).setCell ⟨w.heap.size + 1, 3, none⟩ y3).setCell ⟨w.heap.size + 1, 4, none⟩ y4).setCell ⟨w.heap.size + 1, 5, none⟩ y5)) :
 RStsO A c ts fin S w (out, ⟨ts.drop j, n, fl, o⟩) (.returned (.tuple #[.agg (stV A ts.length c j fin n B fl.length fc o), v])) W2 := by
 subst hW
 have hR := set6_R (b := w.heap.size + 1) (y0 := y0) (y1 := y1) (y2 := y2) (y3 := y3) (y4 := y4) (y5 := y5) h.hO h.hB (by omega) (fun k h => by omega)
 exact ⟨_, v, rfl, Kd.R_mono hR.1 (fun _ _ => trivial), ⟨j, B, fc, rfl, h.hj, rfl, h.hf, (keep6 (b5 := w.heap.size + 1) h.hK (.inl (.inr ⟨by omega, by omega⟩))).less (fun k hk => .inl (.inl hk))⟩, hR.2⟩
end
theorem rstmts_step (fin : Int) (K : Nat) (hRec : ∀ k, k < K → RecC (fun d s => rstmtsS fin k d s []) fin) : RecC (fun d s => rstmtsS fin K d s []) fin := by
 intro A c ts S w i n deep B fc fl o r hI hr
 have hu := Tryz.underlying50
 have hux := Tryz.underlying37
 have hn6 := hI.n
 have hc6 := hI.c
 have HI := Aside0.mk hI
 have HRec := Aside0.mk hRec
 have HR := Aside0.mk hr
 have F0 := Aside0.mk (show Fs A c ts fin S w (((w.alloc (.cells (stV A ts.length c i fin n B fl.length fc o) 50)).alloc (.cells zSt 50)).alloc (.cells #[] 37)) i n B fc fl o (.slice (some ⟨w.heap.size + 1 + 1, 0, none⟩) 0 0) [] from
  ⟨blk_alloc (blk_alloc (alloc_at rfl) _) _, blk_alloc (alloc_at (by simp)) _, below_alloc (below_alloc (below_alloc (Below.refl _ _) _) _) _,
   KeepC.less (hI.F.frame (below_alloc (below_alloc (below_alloc (Below.refl w.heap.size w) (.cells (stV A ts.length c i fin n B fl.length fc o) 50)) (.cells zSt 50)) (.cells #[] 37))) (fun k (hk : SO S w (.slice (some ⟨w.heap.size + 1 + 1, 0, none⟩) 0 0) k) => hk.elim (fun e => e.elim .inl (fun e => .inr ⟨e.1, by simp; omega⟩)) (fun e => .inr (by have e := Option.some.inj e; simp only at e; exact ⟨by omega, by simp; omega⟩))), hI.f, hI.i,
   by have h := R_new0' k37 ((w.alloc (.cells (stV A ts.length c i fin n B fl.length fc o) 50)).alloc (.cells zSt 50)) 37 (w.heap.size + 2) (by simp); have h2 := Kd.R_lower (Kd.R_mono (Kd.R_bound h) (ok' := fun k => w.heap.size + 2 ≤ k) (fun k hk => hk.2.1)) (show w.heap.size ≤ w.heap.size + 2 by omega); simpa using h2⟩)
 clear hI hRec hr
 go_enter Tryz.func20, Tryz.ntmps20
 go_wp2_with fail
 go_loopg [6] K (fun kq v6 wr => ∃ (j : Nat) (n1 : Int) (B1 : Option Addr) (fc1 : Nat) (fl1 : List S40) (o1 : Bool) (out : List S37), Aside0 (kq ≤ K ∧ rstmtsS fin kq deep ⟨ts.drop j, n1, fl1, o1⟩ out = some r ∧ Fs A c ts fin S w wr j n1 B1 fc1 fl1 o1 v6 out))
 case atStart => exact ⟨i, n, B, fc, fl, o, [], ⟨Nat.le_refl _, HR.out, F0.out⟩⟩
 case round =>
  clear F0 HR
  obtain ⟨j, n1, B1, fc1, fl1, o1, out, ⟨hk, hr, hF⟩⟩ := hrel
  have HR := Aside0.mk hr
  have HF := Aside0.mk hF
  obtain ⟨Ao, co, rfl⟩ := Kd.R_slice hF.hO
  have hjl := hF.hj
  have hz := row6 hF.b0
  have hz1 := row6 hF.b1
  have hb0 := blk_lt hF.b0
  have hb1 := blk_lt hF.b1
  clear hr hF
  go_split_ands
  rcases gk with _ | k1
  · exact absurd HR.out (by simp [rstmtsS])
  · have HK := Aside0.mk hk
    clear hk
    cases o1 with
    | true =>
     have HE := HR.out
     rw [rstmtsS, if_pos (.inl rfl)] at HE
     have HE := Option.some.inj HE
     subst HE
     clear HR
     go_wp2_with fail
     refine bodyPost_ret (results_ct rfl _ _ (w.heap.size + 1) 50 (stV A ts.length c j fin n1 B1 fl1.length fc1 true) (0, 0) _ rfl (set6 HF.out.b1) hu rfl sizeSt) rfl ?_
     exact Fs.fin' HF.out _ _ _ _ _ _ rfl
    | false =>
     by_cases hjlt : ¬ j < ts.length
     · have cb : decide ((j : Int) < (ts.length : Int)) = false := decide_eq_false (by omega)
       have HE := HR.out
       rw [rstmtsS, if_pos (.inr (List.drop_eq_nil_of_le (by omega)))] at HE
       have HE := Option.some.inj HE
       subst HE
       clear HR
       go_wp2_with fail
       refine bodyPost_ret (results_ct rfl _ _ (w.heap.size + 1) 50 (stV A ts.length c j fin n1 B1 fl1.length fc1 false) (0, 0) _ rfl (set6 HF.out.b1) hu rfl sizeSt) rfl ?_
       exact Fs.fin' HF.out _ _ _ _ _ _ rfl
     · have hjlt : j < ts.length := by omega
       have cb : decide ((j : Int) < (ts.length : Int)) = true := decide_eq_true (by omega)
       have hi0 : (0 : Int) ≤ (j : Int) := by omega
       have hi1 : (j : Int) < (ts.length : Int) := by omega
       obtain ⟨ad, ea, x0, x1, x2⟩ := at_T67 (Kd.C_below HI.out.C HF.out.hB) (j : Int) hi0 hi1
       subst ea
       simp only [Int.toNat_natCast] at x0 x1 x2
       have hal := cell_lt x0
       have hd := drop_cons ts j (by omega)
       have HE := HR.out
       rw [rstmtsS, if_neg (by rw [hd]; simp)] at HE
       have e1 : lookS fin (ts.drop j) = rd_T67 ts (j : Int) := by rw [hd]; rfl
       have e2 : (ts.drop j).tail = ts.drop (j + 1) := by rw [hd]; rfl
       simp only [e1, e2] at HE
       clear HR hd e1 e2
       generalize rd_T67 ts (j : Int) = t at *
       have HE := Aside0.mk HE
       replace hi0 := eq_true hi0
       replace hi1 := eq_true hi1
       have e125 : (⟨#[125]⟩ : ByteArray).toList = [125] := by simp [ByteArray.toList_eq]
       have hFx := HF.out.ext (.cells #[.int .i64 t.f0, .string t.f1, .int .i64 t.f2] 67)
       have HFx := Aside0.mk hFx
       have hz := row6 hFx.b0
       have hz1 := row6 hFx.b1
       clear hFx
       go_split_ands
       cases h125 : isSign ⟨#[125]⟩ t with
       | true =>
        have HE := Aside0.mk (show _ from by have h := HE.out; rw [if_pos h125] at h; exact h)
        simp only [isSign, e125, Bool.and_eq_true] at h125
        obtain ⟨bx, b125⟩ := h125
        by_cases hdp : deep > 0
        · have cd : decide (deep > 0) = true := decide_eq_true hdp
          have HE2 := HE.out
          rw [if_pos hdp] at HE2
          have HE2 := Option.some.inj HE2
          subst HE2
          clear HE e125 hdp
          go_wp2_with fail
          all_goals
           refine bodyPost_ret (results_ct rfl _ _ (w.heap.size + 1) 50 (stV (some ad) ts.length c j fin n1 B1 fl1.length fc1 false) (0, 0) _ rfl (blk_alloc (set6 HF.out.b1) _) hu rfl sizeSt) rfl ?_
           refine RStsO.ext ?_ _
           exact Fs.fin' HF.out _ _ _ _ _ _ rfl
        · have cd : decide (deep > 0) = false := decide_eq_false hdp
          have HE2 := Aside0.mk (show _ from by have h := HE.out; rw [if_neg hdp] at h; exact h)
          clear HE e125 hdp
          have hfl1 : fl1.length ≤ 100 := by
           have h := HE2.out
           by_cases hc : 100 < fl1.length
           · rw [if_pos hc] at h; cases h
           · omega
          have HE3 := Aside0.mk (show rstmtsS fin k1 deep ⟨ts.drop (j + 1), n1, fl1 ++ [⟨110, t.f2⟩], ((fl1.length + 1 : Nat) : Int) == 20⟩ out = some r from by have h := HE2.out; rw [if_neg (by omega)] at h; exact h)
          clear HE2
          have hfa := (HF.out.at hjlt).ext (.cells #[.int .i64 t.f0, .string t.f1, .int .i64 t.f2] 67)
          have htr : ((wr.setCell ⟨w.heap.size, 1, none⟩ (.int .i64 ((j : Int) + 1))).alloc (.cells #[.int .i64 t.f0, .string t.f1, .int .i64 t.f2] 67)).heap[wr.heap.size]? = some (.cells #[.int .i64 t.f0, .string t.f1, .int .i64 t.f2] 67 (0, 0)) := alloc_at (by simp)
          have HFA := Aside0.mk hfa
          have HTR := Aside0.mk htr
          clear hfa htr
          go_upto_region 8 with fail
          generalize (wr.setCell ⟨w.heap.size, 1, none⟩ (.int .i64 ((j : Int) + 1))).alloc (.cells #[.int .i64 t.f0, .string t.f1, .int .i64 t.f2] 67) = W0 at *
          generalize hbt : wr.heap.size = bt at HTR ⊢
          go_cut [] (fun wx => ∃ (B2 : Option Addr) (fc2 : Nat), Aside0 (Fs (some ad) c ts fin S w wx (j + 1) n1 B2 fc2 (fl1 ++ [⟨110, t.f2⟩]) false (.slice Ao out.length co) out))
          case first =>
           have hz := row6 HFA.out.b0
           have hz3 := tok3 HTR.out
           have hl0 := blk_lt HFA.out.b0
           have hl3 := blk_lt HTR.out
           go_split_ands
           go_region_law (first | (refine Kd.R_append_rows_step k40 (Rr := k40.K ((W0.alloc (.cells #[] 40)).drew)) (w0 := W0) (W := (W0.alloc (.cells #[] 40)).drew) W0.heap.size (by rfl) (.tmp 55) (.tmp 57) 25 40 (.agg #[.int .i64 0, .int .i64 0]) 16 (by rfl) Tryz.underlying25 infoDia rfl (by decide) (by decide) (.slice (some ⟨W0.heap.size, 0, none⟩) 0 0) [] fl1 B1 fl1.length fc1 (fun _ => True) (fun _ => False) (by first | rfl | (go_simp; done) | (go_simp; rfl)) (by first | rfl | (go_simp; done) | (go_simp; rfl)) (Kd.R_drew (R_new0' k40 W0 40 W0.heap.size (Nat.le_refl _))) (Kd.C_below HFA.out.hK.here (below_drew (below_alloc (Below.refl W0.heap.size W0) _))) (fun x cs h => by rw [k40_open h]; exact k40_mkM _ _ _ x) (fun _ h => h.elim) (fun _ _ => trivial) (below_drew (below_alloc (Below.refl W0.heap.size W0) _)) ((below_drew (below_alloc (Below.refl W0.heap.size W0) _))).size (by simp only [List.length_nil]; omega) ?_; intro v1 w3 hR hb hg hat; rw [List.nil_append] at hR; obtain ⟨Ag, cg, rfl⟩ := Kd.R_slice hR; have HF3 := Aside0.mk (HFA.out.below hb); have HT3 := Aside0.mk (blk_below HTR.out hb); have HR3 := Aside0.mk hR; have HB3 := Aside0.mk hb; have hz33 := row6 HF3.out.b0; have hz34 := tok3 HT3.out; have hl33 := blk_lt HF3.out.b0; have hl34 := blk_lt HT3.out; clear hR hb hg hat; go_split_ands) | (refine Kd.R_append_rows_step k40 (Rr := k40.K (((W0.alloc (.cells #[] 40)).alloc (.cells #[.int .i64 110, .int .i64 t.f2] 40)).drew)) (w0 := W0) (W := ((W0.alloc (.cells #[] 40)).alloc (.cells #[.int .i64 110, .int .i64 t.f2] 40)).drew) W0.heap.size (by rfl) (.tmp 55) (.tmp 57) 25 40 (.agg #[.int .i64 0, .int .i64 0]) 16 (by rfl) Tryz.underlying25 infoDia rfl (by decide) (by decide) (.slice (some ⟨W0.heap.size, 0, none⟩) 0 0) [] fl1 B1 fl1.length fc1 (fun _ => True) (fun _ => False) (by first | rfl | (go_simp; done) | (go_simp; rfl)) (by first | rfl | (go_simp; done) | (go_simp; rfl)) (Kd.R_drew (Kd.R_alloc (R_new0' k40 W0 40 W0.heap.size (Nat.le_refl _)) _)) (Kd.C_below HFA.out.hK.here (below_drew (below_alloc (below_alloc (Below.refl W0.heap.size W0) _) _))) (fun x cs h => by rw [k40_open h]; exact k40_mkM _ _ _ x) (fun _ h => h.elim) (fun _ _ => trivial) (below_drew (below_alloc (below_alloc (Below.refl W0.heap.size W0) _) _)) ((below_drew (below_alloc (below_alloc (Below.refl W0.heap.size W0) _) _))).size (by simp only [List.length_nil]; omega) ?_; intro v1 w3 hR hb hg hat; rw [List.nil_append] at hR; obtain ⟨Ag, cg, rfl⟩ := Kd.R_slice hR; have HF3 := Aside0.mk (HFA.out.below hb); have HT3 := Aside0.mk (blk_below HTR.out hb); have HR3 := Aside0.mk hR; have HB3 := Aside0.mk hb; have hz33 := row6 HF3.out.b0; have hz34 := tok3 HT3.out; have hl33 := blk_lt HF3.out.b0; have hl34 := blk_lt HT3.out; have HRW := Aside0.mk ((hg.block (W0.heap.size + 1) (by simp) (by simp [Value.ownBlock])).trans (blk_drew (alloc_at (by simp)))); have hlr := blk_lt HRW.out; clear hR hb hg hat; go_split_ands) | (refine Kd.R_append_rows_step k40 (Rr := k40.K (((W0.alloc (.cells #[.int .i64 110, .int .i64 t.f2] 40)).alloc (.cells #[] 40)).drew)) (w0 := W0) (W := ((W0.alloc (.cells #[.int .i64 110, .int .i64 t.f2] 40)).alloc (.cells #[] 40)).drew) W0.heap.size (by rfl) (.tmp 55) (.tmp 57) 25 40 (.agg #[.int .i64 0, .int .i64 0]) 16 (by rfl) Tryz.underlying25 infoDia rfl (by decide) (by decide) (.slice (some ⟨W0.heap.size + 1, 0, none⟩) 0 0) [] fl1 B1 fl1.length fc1 (fun _ => True) (fun _ => False) (by first | rfl | (go_simp; done) | (go_simp; rfl)) (by first | rfl | (go_simp; done) | (go_simp; rfl)) (Kd.R_drew (by have h := R_new0' k40 (W0.alloc (.cells #[.int .i64 110, .int .i64 t.f2] 40)) 40 W0.heap.size (by simp); simpa using h)) (Kd.C_below HFA.out.hK.here (below_drew (below_alloc (below_alloc (Below.refl W0.heap.size W0) _) _))) (fun x cs h => by rw [k40_open h]; exact k40_mkM _ _ _ x) (fun _ h => h.elim) (fun _ _ => trivial) (below_drew (below_alloc (below_alloc (Below.refl W0.heap.size W0) _) _)) ((below_drew (below_alloc (below_alloc (Below.refl W0.heap.size W0) _) _))).size (by simp only [List.length_nil]; omega) ?_; intro v1 w3 hR hb hg hat; rw [List.nil_append] at hR; obtain ⟨Ag, cg, rfl⟩ := Kd.R_slice hR; have HF3 := Aside0.mk (HFA.out.below hb); have HT3 := Aside0.mk (blk_below HTR.out hb); have HR3 := Aside0.mk hR; have HB3 := Aside0.mk hb; have hz33 := row6 HF3.out.b0; have hz34 := tok3 HT3.out; have hl33 := blk_lt HF3.out.b0; have hl34 := blk_lt HT3.out; have HRW := Aside0.mk ((hg.block W0.heap.size (by simp <;> omega) (by simp [Value.ownBlock])).trans (blk_drew (blk_alloc (alloc_at rfl) _))); have hlr := blk_lt HRW.out; clear hR hb hg hat; go_split_ands) | (refine Kd.R_append_step k40 (w0 := W0) (W := w3) W0.heap.size (by rfl) (.tmp 58) (.tmp 62) 25 40 (.agg #[.int .i64 0, .int .i64 0]) 16 (by rfl) Tryz.underlying25 infoDia rfl (by decide) (by decide) (.slice Ag fl1.length cg) fl1 ⟨110, t.f2⟩ [.int .i64 110, .int .i64 t.f2] (fun _ => True) (fun _ => False) (by first | rfl | (go_simp; done) | (go_simp; rfl)) (by first | rfl | (go_simp; done) | (go_simp; rfl)) (k40_mkM _ _ _ ⟨110, t.f2⟩) (fun _ h => h.elim) (fun _ _ => trivial) HR3.out HB3.out HB3.out.size (by omega) ?_; intro v2 w4 hR hb hg hat; obtain ⟨Ah, ch, rfl⟩ := Kd.R_slice hR; rw [List.length_append, List.length_singleton] at hR; have HF4 := Aside0.mk (HFA.out.below hb); have HT4 := Aside0.mk (blk_below HTR.out hb); have HR4 := Aside0.mk hR; have HB4 := Aside0.mk hb; have hz43 := row6 HF4.out.b0; have hz44 := tok3 HT4.out; have hl43 := blk_lt HF4.out.b0; have hl44 := blk_lt HT4.out; clear hR hb hg hat; go_split_ands) | (refine Kd.R_append_rows_step k40 (Rr := fun p cs => cs = [.int .i64 p.f0, .int .i64 p.f1]) (w0 := W0) (W := w3) W0.heap.size (by rfl) (.tmp 58) (.tmp 62) 25 40 (.agg #[.int .i64 0, .int .i64 0]) 16 (by rfl) Tryz.underlying25 infoDia rfl (by decide) (by decide) (.slice Ag fl1.length cg) fl1 [⟨110, t.f2⟩] (some ⟨W0.heap.size + 1, 0, none⟩) 1 1 (fun _ => True) (fun _ => False) (by first | rfl | (go_simp; done) | (go_simp; rfl)) (by first | rfl | (go_simp; done) | (go_simp; rfl)) HR3.out (dia_row HRW.out) (fun x cs h => by subst h; exact k40_mkM _ _ _ x) (fun _ h => h.elim) (fun _ _ => trivial) HB3.out HB3.out.size (by omega) ?_; intro v2 w4 hR hb hg hat; obtain ⟨Ah, ch, rfl⟩ := Kd.R_slice hR; rw [List.length_append, List.length_singleton] at hR; have HF4 := Aside0.mk (HFA.out.below hb); have HT4 := Aside0.mk (blk_below HTR.out hb); have HR4 := Aside0.mk hR; have HB4 := Aside0.mk hb; have hz43 := row6 HF4.out.b0; have hz44 := tok3 HT4.out; have hl43 := blk_lt HF4.out.b0; have hl44 := blk_lt HT4.out; clear hR hb hg hat; go_split_ands) | (refine Kd.R_append_rows_step k40 (Rr := fun p cs => cs = [.int .i64 p.f0, .int .i64 p.f1]) (w0 := W0) (W := w3) W0.heap.size (by rfl) (.tmp 58) (.tmp 62) 25 40 (.agg #[.int .i64 0, .int .i64 0]) 16 (by rfl) Tryz.underlying25 infoDia rfl (by decide) (by decide) (.slice Ag fl1.length cg) fl1 [⟨110, t.f2⟩] (some ⟨W0.heap.size, 0, none⟩) 1 1 (fun _ => True) (fun _ => False) (by first | rfl | (go_simp; done) | (go_simp; rfl)) (by first | rfl | (go_simp; done) | (go_simp; rfl)) HR3.out (dia_row HRW.out) (fun x cs h => by subst h; exact k40_mkM _ _ _ x) (fun _ h => h.elim) (fun _ _ => trivial) HB3.out HB3.out.size (by omega) ?_; intro v2 w4 hR hb hg hat; obtain ⟨Ah, ch, rfl⟩ := Kd.R_slice hR; rw [List.length_append, List.length_singleton] at hR; have HF4 := Aside0.mk (HFA.out.below hb); have HT4 := Aside0.mk (blk_below HTR.out hb); have HR4 := Aside0.mk hR; have HB4 := Aside0.mk hb; have hz43 := row6 HF4.out.b0; have hz44 := tok3 HT4.out; have hl43 := blk_lt HF4.out.b0; have hl44 := blk_lt HT4.out; clear hR hb hg hat; go_split_ands))
           all_goals (go_wp2_with fail; go_meet; exact ⟨Ah, ch, ⟨Fs.fault HF4.out HI.out.S HR4.out (by have := HFA.out.sz; omega) (Kd.R_lt HFA.out.hO)⟩⟩)
          case rest =>
           obtain ⟨B2, fc2, HF2⟩ := hcut
           obtain ⟨fl2, hf2⟩ : ∃ fl2, fl2 = fl1 ++ [⟨110, t.f2⟩] := ⟨_, rfl⟩
           have hl2 : fl2.length = fl1.length + 1 := by rw [hf2]; simp
           rw [← hf2, ← hl2] at HE3
           rw [← hf2] at HF2
           clear HFA HTR hf2 hl2
           have hz := row6 HF2.out.b0
           have hl0 := blk_lt HF2.out.b0
           go_split_ands
           go_wp2_with fail
           go_roundg k1
           case measure => exact Nat.lt_succ_self _
           case rel => exact ⟨j + 1, n1, B2, fc2, fl2, _, out, ⟨Nat.le_of_succ_le HK.out, HE3.out, HF2.out.over _⟩⟩
       | false =>
        have HE2 := Aside0.mk (show _ from by have h := HE.out; rw [if_neg (by rw [h125]; decide)] at h; exact h)
        simp only [isSign, e125] at h125
        clear HE e125
        have htr : (wr.alloc (.cells #[.int .i64 t.f0, .string t.f1, .int .i64 t.f2] 67)).heap[wr.heap.size]? = some (.cells #[.int .i64 t.f0, .string t.f1, .int .i64 t.f2] 67 (0, 0)) := alloc_at rfl
        have HTR := Aside0.mk htr
        clear htr
        go_upto_region 4 with fail
        generalize wr.alloc (.cells #[.int .i64 t.f0, .string t.f1, .int .i64 t.f2] 67) = W0 at *
        generalize hbt : wr.heap.size = bt at HTR ⊢
        clear x0 x1 x2 hal
        have hz3 := tok3 HTR.out
        have hl0 := blk_lt HFx.out.b0
        have hl3 := blk_lt HTR.out
        go_split_ands
        have H125 := Aside0.mk h125
        clear h125
        go_cut [40] (fun s40 wx => s40 = .bool false ∧ wx = W0)
        case first =>
         have h125 := H125.out
         by_cases h3 : t.f0 = 3
         · have bx : (t.f0 == 3) = true := beq_iff_eq.2 h3
           rw [bx, Bool.true_and] at h125
           clear h3
           go_wp2_with fail
           go_meet
           exact ⟨rfl, rfl⟩
         · have bx : (t.f0 == 3) = false := beq_eq_false_iff_ne.2 h3
           clear h3 h125
           go_wp2_with fail
           go_meet
           exact ⟨rfl, rfl⟩
        case rest =>
         obtain ⟨rfl, hwc⟩ := hcut
         obtain rfl := hwc.symm
         go_upto_region 6 with fail
         go_cut [50] (fun s50 wx => s50 = .bool false ∧ wx = W0)
         case first =>
          have h125 := H125.out
          by_cases h3 : t.f0 = 3
          · have bx : (t.f0 == 3) = true := beq_iff_eq.2 h3
            rw [bx, Bool.true_and] at h125
            clear h3
            go_wp2_with fail
            go_meet
            exact ⟨rfl, rfl⟩
          · have bx : (t.f0 == 3) = false := beq_eq_false_iff_ne.2 h3
            clear h3 h125
            go_wp2_with fail
            go_meet
            exact ⟨rfl, rfl⟩
         case rest =>
          obtain ⟨rfl, hwc⟩ := hcut
          obtain rfl := hwc.symm
          clear H125
          have HFN := Aside0.mk (HFx.out.num (wrap64 (n1 + 1)))
          have HTN := Aside0.mk (blk_far HTR.out (p := ⟨w.heap.size, 3, none⟩) (by simp only; omega) (.int .i64 (wrap64 (n1 + 1))))
          by_cases hg : 100 < fl1.length ∨ 1000 < out.length
          · have h := HE2.out
            rw [if_pos hg] at h
            cases h
          · have hfl1 : fl1.length ≤ 100 := by omega
            have hol1 : out.length ≤ 1000 := by omega
            have HE3 := Aside0.mk (show _ from by have h := HE2.out; rw [if_neg hg] at h; exact h)
            clear HE2 hg
            by_cases hm : wrap64 (n1 + 1) > 64
            · have cm : decide (wrap64 (n1 + 1) > 64) = true := decide_eq_true hm
              have HE4 := HE3.out
              rw [if_pos hm] at HE4
              have HE4 := Aside0.mk (Option.some.inj HE4)
              clear HE3 hm
              go_upto_region 12 with fail
              generalize W0.setCell ⟨w.heap.size, 3, none⟩ (.int .i64 (wrap64 (n1 + 1))) = W1 at *
              clear HFx HTR
              have HFA := HFN
              have HTR := HTN
              clear HFN HTN
              go_cut [] (fun wx => ∃ (B2 : Option Addr) (fc2 : Nat), Aside0 (Fs (some ad) c ts fin S w wx j (wrap64 (n1 + 1)) B2 fc2 (fl1 ++ [⟨2, t.f2⟩]) false (.slice Ao out.length co) out))
              case first =>
               have hz := row6 HFA.out.b0
               have hz3 := tok3 HTR.out
               have hl0 := blk_lt HFA.out.b0
               have hl3 := blk_lt HTR.out
               go_split_ands
               go_region_law (first | (refine Kd.R_append_rows_step k40 (Rr := k40.K ((W1.alloc (.cells #[] 40)).drew)) (w0 := W1) (W := (W1.alloc (.cells #[] 40)).drew) W1.heap.size (by rfl) (.tmp 77) (.tmp 79) 25 40 (.agg #[.int .i64 0, .int .i64 0]) 16 (by rfl) Tryz.underlying25 infoDia rfl (by decide) (by decide) (.slice (some ⟨W1.heap.size, 0, none⟩) 0 0) [] fl1 B1 fl1.length fc1 (fun _ => True) (fun _ => False) (by first | rfl | (go_simp; done) | (go_simp; rfl)) (by first | rfl | (go_simp; done) | (go_simp; rfl)) (Kd.R_drew (R_new0' k40 W1 40 W1.heap.size (Nat.le_refl _))) (Kd.C_below HFA.out.hK.here (below_drew (below_alloc (Below.refl W1.heap.size W1) _))) (fun x cs h => by rw [k40_open h]; exact k40_mkM _ _ _ x) (fun _ h => h.elim) (fun _ _ => trivial) (below_drew (below_alloc (Below.refl W1.heap.size W1) _)) ((below_drew (below_alloc (Below.refl W1.heap.size W1) _))).size (by simp only [List.length_nil]; omega) ?_; intro v1 w3 hR hb hg hat; rw [List.nil_append] at hR; obtain ⟨Ag, cg, rfl⟩ := Kd.R_slice hR; have HF3 := Aside0.mk (HFA.out.below hb); have HT3 := Aside0.mk (blk_below HTR.out hb); have HR3 := Aside0.mk hR; have HB3 := Aside0.mk hb; have hz33 := row6 HF3.out.b0; have hz34 := tok3 HT3.out; have hl33 := blk_lt HF3.out.b0; have hl34 := blk_lt HT3.out; clear hR hb hg hat; go_split_ands) | (refine Kd.R_append_rows_step k40 (Rr := k40.K (((W1.alloc (.cells #[] 40)).alloc (.cells #[.int .i64 2, .int .i64 t.f2] 40)).drew)) (w0 := W1) (W := ((W1.alloc (.cells #[] 40)).alloc (.cells #[.int .i64 2, .int .i64 t.f2] 40)).drew) W1.heap.size (by rfl) (.tmp 77) (.tmp 79) 25 40 (.agg #[.int .i64 0, .int .i64 0]) 16 (by rfl) Tryz.underlying25 infoDia rfl (by decide) (by decide) (.slice (some ⟨W1.heap.size, 0, none⟩) 0 0) [] fl1 B1 fl1.length fc1 (fun _ => True) (fun _ => False) (by first | rfl | (go_simp; done) | (go_simp; rfl)) (by first | rfl | (go_simp; done) | (go_simp; rfl)) (Kd.R_drew (Kd.R_alloc (R_new0' k40 W1 40 W1.heap.size (Nat.le_refl _)) _)) (Kd.C_below HFA.out.hK.here (below_drew (below_alloc (below_alloc (Below.refl W1.heap.size W1) _) _))) (fun x cs h => by rw [k40_open h]; exact k40_mkM _ _ _ x) (fun _ h => h.elim) (fun _ _ => trivial) (below_drew (below_alloc (below_alloc (Below.refl W1.heap.size W1) _) _)) ((below_drew (below_alloc (below_alloc (Below.refl W1.heap.size W1) _) _))).size (by simp only [List.length_nil]; omega) ?_; intro v1 w3 hR hb hg hat; rw [List.nil_append] at hR; obtain ⟨Ag, cg, rfl⟩ := Kd.R_slice hR; have HF3 := Aside0.mk (HFA.out.below hb); have HT3 := Aside0.mk (blk_below HTR.out hb); have HR3 := Aside0.mk hR; have HB3 := Aside0.mk hb; have hz33 := row6 HF3.out.b0; have hz34 := tok3 HT3.out; have hl33 := blk_lt HF3.out.b0; have hl34 := blk_lt HT3.out; have HRW := Aside0.mk ((hg.block (W1.heap.size + 1) (by simp) (by simp [Value.ownBlock])).trans (blk_drew (alloc_at (by simp)))); have hlr := blk_lt HRW.out; clear hR hb hg hat; go_split_ands) | (refine Kd.R_append_rows_step k40 (Rr := k40.K (((W1.alloc (.cells #[.int .i64 2, .int .i64 t.f2] 40)).alloc (.cells #[] 40)).drew)) (w0 := W1) (W := ((W1.alloc (.cells #[.int .i64 2, .int .i64 t.f2] 40)).alloc (.cells #[] 40)).drew) W1.heap.size (by rfl) (.tmp 77) (.tmp 79) 25 40 (.agg #[.int .i64 0, .int .i64 0]) 16 (by rfl) Tryz.underlying25 infoDia rfl (by decide) (by decide) (.slice (some ⟨W1.heap.size + 1, 0, none⟩) 0 0) [] fl1 B1 fl1.length fc1 (fun _ => True) (fun _ => False) (by first | rfl | (go_simp; done) | (go_simp; rfl)) (by first | rfl | (go_simp; done) | (go_simp; rfl)) (Kd.R_drew (by have h := R_new0' k40 (W1.alloc (.cells #[.int .i64 2, .int .i64 t.f2] 40)) 40 W1.heap.size (by simp); simpa using h)) (Kd.C_below HFA.out.hK.here (below_drew (below_alloc (below_alloc (Below.refl W1.heap.size W1) _) _))) (fun x cs h => by rw [k40_open h]; exact k40_mkM _ _ _ x) (fun _ h => h.elim) (fun _ _ => trivial) (below_drew (below_alloc (below_alloc (Below.refl W1.heap.size W1) _) _)) ((below_drew (below_alloc (below_alloc (Below.refl W1.heap.size W1) _) _))).size (by simp only [List.length_nil]; omega) ?_; intro v1 w3 hR hb hg hat; rw [List.nil_append] at hR; obtain ⟨Ag, cg, rfl⟩ := Kd.R_slice hR; have HF3 := Aside0.mk (HFA.out.below hb); have HT3 := Aside0.mk (blk_below HTR.out hb); have HR3 := Aside0.mk hR; have HB3 := Aside0.mk hb; have hz33 := row6 HF3.out.b0; have hz34 := tok3 HT3.out; have hl33 := blk_lt HF3.out.b0; have hl34 := blk_lt HT3.out; have HRW := Aside0.mk ((hg.block W1.heap.size (by simp <;> omega) (by simp [Value.ownBlock])).trans (blk_drew (blk_alloc (alloc_at rfl) _))); have hlr := blk_lt HRW.out; clear hR hb hg hat; go_split_ands) | (refine Kd.R_append_step k40 (w0 := W1) (W := w3) W1.heap.size (by rfl) (.tmp 80) (.tmp 84) 25 40 (.agg #[.int .i64 0, .int .i64 0]) 16 (by rfl) Tryz.underlying25 infoDia rfl (by decide) (by decide) (.slice Ag fl1.length cg) fl1 ⟨2, t.f2⟩ [.int .i64 2, .int .i64 t.f2] (fun _ => True) (fun _ => False) (by first | rfl | (go_simp; done) | (go_simp; rfl)) (by first | rfl | (go_simp; done) | (go_simp; rfl)) (k40_mkM _ _ _ ⟨2, t.f2⟩) (fun _ h => h.elim) (fun _ _ => trivial) HR3.out HB3.out HB3.out.size (by omega) ?_; intro v2 w4 hR hb hg hat; obtain ⟨Ah, ch, rfl⟩ := Kd.R_slice hR; rw [List.length_append, List.length_singleton] at hR; have HF4 := Aside0.mk (HFA.out.below hb); have HT4 := Aside0.mk (blk_below HTR.out hb); have HR4 := Aside0.mk hR; have HB4 := Aside0.mk hb; have hz43 := row6 HF4.out.b0; have hz44 := tok3 HT4.out; have hl43 := blk_lt HF4.out.b0; have hl44 := blk_lt HT4.out; clear hR hb hg hat; go_split_ands) | (refine Kd.R_append_rows_step k40 (Rr := fun p cs => cs = [.int .i64 p.f0, .int .i64 p.f1]) (w0 := W1) (W := w3) W1.heap.size (by rfl) (.tmp 80) (.tmp 84) 25 40 (.agg #[.int .i64 0, .int .i64 0]) 16 (by rfl) Tryz.underlying25 infoDia rfl (by decide) (by decide) (.slice Ag fl1.length cg) fl1 [⟨2, t.f2⟩] (some ⟨W1.heap.size + 1, 0, none⟩) 1 1 (fun _ => True) (fun _ => False) (by first | rfl | (go_simp; done) | (go_simp; rfl)) (by first | rfl | (go_simp; done) | (go_simp; rfl)) HR3.out (dia_row HRW.out) (fun x cs h => by subst h; exact k40_mkM _ _ _ x) (fun _ h => h.elim) (fun _ _ => trivial) HB3.out HB3.out.size (by omega) ?_; intro v2 w4 hR hb hg hat; obtain ⟨Ah, ch, rfl⟩ := Kd.R_slice hR; rw [List.length_append, List.length_singleton] at hR; have HF4 := Aside0.mk (HFA.out.below hb); have HT4 := Aside0.mk (blk_below HTR.out hb); have HR4 := Aside0.mk hR; have HB4 := Aside0.mk hb; have hz43 := row6 HF4.out.b0; have hz44 := tok3 HT4.out; have hl43 := blk_lt HF4.out.b0; have hl44 := blk_lt HT4.out; clear hR hb hg hat; go_split_ands) | (refine Kd.R_append_rows_step k40 (Rr := fun p cs => cs = [.int .i64 p.f0, .int .i64 p.f1]) (w0 := W1) (W := w3) W1.heap.size (by rfl) (.tmp 80) (.tmp 84) 25 40 (.agg #[.int .i64 0, .int .i64 0]) 16 (by rfl) Tryz.underlying25 infoDia rfl (by decide) (by decide) (.slice Ag fl1.length cg) fl1 [⟨2, t.f2⟩] (some ⟨W1.heap.size, 0, none⟩) 1 1 (fun _ => True) (fun _ => False) (by first | rfl | (go_simp; done) | (go_simp; rfl)) (by first | rfl | (go_simp; done) | (go_simp; rfl)) HR3.out (dia_row HRW.out) (fun x cs h => by subst h; exact k40_mkM _ _ _ x) (fun _ h => h.elim) (fun _ _ => trivial) HB3.out HB3.out.size (by omega) ?_; intro v2 w4 hR hb hg hat; obtain ⟨Ah, ch, rfl⟩ := Kd.R_slice hR; rw [List.length_append, List.length_singleton] at hR; have HF4 := Aside0.mk (HFA.out.below hb); have HT4 := Aside0.mk (blk_below HTR.out hb); have HR4 := Aside0.mk hR; have HB4 := Aside0.mk hb; have hz43 := row6 HF4.out.b0; have hz44 := tok3 HT4.out; have hl43 := blk_lt HF4.out.b0; have hl44 := blk_lt HT4.out; clear hR hb hg hat; go_split_ands))
               all_goals (go_wp2_with fail; go_meet; exact ⟨Ah, ch, ⟨Fs.fault HF4.out HI.out.S HR4.out (by have := HFA.out.sz; omega) (Kd.R_lt HFA.out.hO)⟩⟩)
              case rest =>
               obtain ⟨B2, fc2, HF2⟩ := hcut
               obtain ⟨fl2, hf2⟩ : ∃ fl2, fl2 = fl1 ++ [⟨2, t.f2⟩] := ⟨_, rfl⟩
               rw [← hf2] at HF2
               rw [← hf2] at HE4
               clear HFA HTR hf2
               have hF3 := HF2.out.over true
               have HF3 := Aside0.mk hF3
               have hz := row6 HF2.out.b0
               have hz1 := row6 HF2.out.b1
               have hl0 := blk_lt HF2.out.b0
               clear hF3
               go_split_ands
               go_wp2_with fail
               refine bodyPost_ret (results_ct rfl _ _ (w.heap.size + 1) 50 (stV (some ad) ts.length c j fin (wrap64 (n1 + 1)) B2 fl2.length fc2 true) (0, 0) _ rfl (set6 HF3.out.b1) hu rfl sizeSt) rfl ?_
               rw [← HE4.out]
               exact Fs.fin' HF3.out _ _ _ _ _ _ rfl
            · have cm : decide (wrap64 (n1 + 1) > 64) = false := decide_eq_false hm
              have HE4 := Aside0.mk (show _ from by have h := HE3.out; rw [if_neg hm] at h; exact h)
              clear HE3 hm
              go_upto_region 15 with fail
              generalize W0.setCell ⟨w.heap.size, 3, none⟩ (.int .i64 (wrap64 (n1 + 1))) = W1 at *
              obtain ⟨⟨ox, s2⟩, hst, hnx⟩ := Option.bind_eq_some_iff.1 HE4.out
              have HST := Aside0.mk hst
              have HNX := Aside0.mk hnx
              clear HE4 hst hnx HFx HTR HTN
              have hz := row6 HFN.out.b0
              have hl0 := blk_lt HFN.out.b0
              go_split_ands
              have HIN := Aside0.mk (show Inp (some ad) c ts (SO S w (.slice Ao out.length co)) W1 j B1 fc1 fl1 from ⟨Kd.C_below HI.out.C HFN.out.hB, hc6, hjl, HFN.out.hK, fun k hk => hk.elim (fun e => e.elim (fun e => by have := HI.out.S k e; have := HFN.out.sz; omega) (fun e => by have := HFN.out.sz; omega)) (Kd.R_lt HFN.out.hO k), HFN.out.hf, hfl1, hn6, HI.out.t⟩)
              go_wp2_with fail
              refine (rstmt_calls (fun d s => rstmtsS fin k1 d s []) (some ad) c ts _ W1 j fin (wrap64 (n1 + 1)) deep B1 fc1 fl1 false (ox, s2) HIN.out hjlt (HRec.out k1 (Nat.lt_of_succ_le HK.out)) HST.out).mono ?_
              rintro e w5 ⟨v, x, Ak, nk, ck, rfl, hkk, ⟨i2, B2, fc2, rfl, hi2, ht2, hf2, hF2⟩, hb⟩
              obtain ⟨toks2, n2, fl2, o2⟩ := s2
              simp only at ht2 hf2 hF2
              subst ht2
              have HG := Aside0.mk (((Fs.put (n2 := n2) (o2 := o2) (HFN.out.below hb) hF2 hf2 hi2).ext (.cells (stV (some ad) ts.length c i2 fin n2 B2 fl2.length fc2 o2) 50)).ext (.cells (stmC x (.slice Ak nk ck)) 37))
              have HKK := Aside0.mk (show ∀ y, ox = some y → y = x ∧ Kd.R k37 37 ((((((((w5.setCell ⟨w.heap.size, 0, none⟩ (.slice (some ad) ts.length c)).setCell ⟨w.heap.size, 1, none⟩ (.int .i64 (i2 : Int))).setCell ⟨w.heap.size, 2, none⟩ (.int .i64 fin)).setCell ⟨w.heap.size, 3, none⟩ (.int .i64 n2)).setCell ⟨w.heap.size, 4, none⟩ (.slice B2 fl2.length fc2)).setCell ⟨w.heap.size, 5, none⟩ (.bool o2)).alloc (.cells (stV (some ad) ts.length c i2 fin n2 B2 fl2.length fc2 o2) 50)).alloc (.cells (stmC x (.slice Ak nk ck)) 37)) W1.heap.size (fun k => W1.heap.size ≤ k) (.slice Ak nk ck) x.f6 from
               fun y hy => ⟨(hkk y hy).1, Kd.R_alloc (Kd.R_alloc (far6 (b5 := w.heap.size) (Kd.R_mono (Kd.R_bound (hkk y hy).2) (fun k h => h.2.1)) (fun k h => by have := HFN.out.sz; omega)) _) _⟩)
              have HXR := Aside0.mk (show ((((((((w5.setCell ⟨w.heap.size, 0, none⟩ (.slice (some ad) ts.length c)).setCell ⟨w.heap.size, 1, none⟩ (.int .i64 (i2 : Int))).setCell ⟨w.heap.size, 2, none⟩ (.int .i64 fin)).setCell ⟨w.heap.size, 3, none⟩ (.int .i64 n2)).setCell ⟨w.heap.size, 4, none⟩ (.slice B2 fl2.length fc2)).setCell ⟨w.heap.size, 5, none⟩ (.bool o2)).alloc (.cells (stV (some ad) ts.length c i2 fin n2 B2 fl2.length fc2 o2) 50)).alloc (.cells (stmC x (.slice Ak nk ck)) 37)).heap[w5.heap.size + 1]? = some (.cells (stmC x (.slice Ak nk ck)) 37 (0, 0)) from alloc_at (by simp))
              have hz5 := row6 (HFN.out.below hb).b0
              have hl5 := blk_lt (HFN.out.below hb).b0
              clear hkk hF2 hb HIN HST
              go_split_ands
              have HLW := Aside0.mk (Kd.R_lt HFN.out.hO)
              go_upto_region 17 with fail
              generalize (((((((w5.setCell ⟨w.heap.size, 0, none⟩ (.slice (some ad) ts.length c)).setCell ⟨w.heap.size, 1, none⟩ (.int .i64 (i2 : Int))).setCell ⟨w.heap.size, 2, none⟩ (.int .i64 fin)).setCell ⟨w.heap.size, 3, none⟩ (.int .i64 n2)).setCell ⟨w.heap.size, 4, none⟩ (.slice B2 fl2.length fc2)).setCell ⟨w.heap.size, 5, none⟩ (.bool o2)).alloc (.cells (stV (some ad) ts.length c i2 fin n2 B2 fl2.length fc2 o2) 50)).alloc (.cells (stmC x (.slice Ak nk ck)) 37) = W7 at *
              have hzx := row13 HXR.out
              have hlx := blk_lt HXR.out
              have hl7 := blk_lt HG.out.b0
              go_split_ands
              cases ox with
              | none =>
               clear HKK HXR
               have HNX2 := Aside0.mk (show rstmtsS fin k1 deep ⟨ts.drop i2, n2, fl2, o2⟩ out = some r from HNX.out)
               go_wp2_with fail
               go_roundg k1
               case measure => exact Nat.lt_succ_self _
               case rel => exact ⟨i2, n2, B2, fc2, fl2, o2, out, ⟨Nat.le_of_succ_le HK.out, HNX2.out, HG.out⟩⟩
              | some y =>
               obtain ⟨rfl, hky⟩ := HKK.out y rfl
               have HNX2 := Aside0.mk (show rstmtsS fin k1 deep ⟨ts.drop i2, n2, fl2, o2⟩ (out ++ [y]) = some r from HNX.out)
               have hsz1 := HFN.out.sz
               have HM := Aside0.mk (k37_mkM W7 w.heap.size (fun k => W1.heap.size ≤ k) y (Kd.R_lower hky (by omega)))
               have HOK := Aside0.mk (show ∀ k, W1.heap.size ≤ k → w.heap.size + 2 ≤ k ∧ some k ≠ (Value.slice Ao out.length co).ownBlock from fun k hk => ⟨by omega, fun e => by have := HLW.out k e.symm; omega⟩)
               clear HKK hky hsz1
               go_wp2_with ((with_reducible refine gate_builtin (b := .append) (xs := #[.tmp 99, .tmp 101]) rfl ?_); refine Aside0.out ?_)
               refine Aside0.mk ?_
               refine wpList_of' (Kd.R_append_step k37 (w0 := w) (W := W7) w.heap.size rfl (.tmp 99) (.tmp 101) 22 37 _ 136 rfl Tryz.underlying22 infoStm rfl (by decide) (by decide) (.slice Ao out.length co) out y _ (fun k => w.heap.size + 2 ≤ k) (fun k => W1.heap.size ≤ k) rfl rfl HM.out HOK.out (fun k hk => Nat.le_trans (Nat.succ_le_of_lt HG.out.sz) hk) HG.out.hO HG.out.hB HG.out.hB.size (by omega) ?_)
               intro v6 w6 hR6 hB6 hg6 hat6
               have HG6 := Aside0.mk (HG.out.app hR6 hB6 hg6 hat6)
               clear hR6 hB6 hg6 hat6 HM HOK HXR HLW
               go_wp2_with fail
               go_roundg k1
               case measure => exact Nat.lt_succ_self _
               case rel => exact ⟨i2, n2, B2, fc2, fl2, o2, out ++ [y], ⟨Nat.le_of_succ_le HK.out, HNX2.out, HG6.out⟩⟩
end
theorem rstmts_calls (fin : Int) (K : Nat) : RecC (fun d s => rstmtsS fin K d s []) fin := by
 induction K using Nat.strongRecOn with
 | _ K ih => exact rstmts_step fin K ih
theorem ambidexterref11_Parse.calls (k : Nat) (a0 : ByteArray) (r1 : List S37) (r2 : List S40) (w : World) (h : ambidexterref11_Parse.f k a0 = some (r1, r2)) :
 Calls Tryz.prog 7 #[.string a0] w fun e w' => ∃ (v0 : Value) (A1 : Option Addr) (c1 : Nat), e = .returned (.tuple #[v0, .slice A1 r2.length c1]) ∧ Kd.R k37 37 w' w.heap.size (fun _ => True) v0 r1 ∧ r2.length ≤ c1 ∧ Kd.C k40 w' A1 r2.length r2 ∧ Below w.heap.size w w' := by
 have hu := Tryz.underlying50
 unfold ambidexterref11_Parse.f at h
 have HL := Aside0.mk (show ambidexterref10_Lex.f a0 = some ((lexB a0).1, (lexB a0).2.1, (lexB a0).2.2) from rfl)
 by_cases he : (lexB a0).2.1 = 0
 · rw [if_pos he] at h
   obtain ⟨⟨l, s9⟩, hs, h⟩ := Option.map_eq_some_iff.1 h
   simp only [Prod.mk.injEq] at h
   obtain ⟨rfl, rfl⟩ := h
   have HS := Aside0.mk hs
   have he' : ((lexB a0).2.1 != 0) = false := by simp [he]
   have HG := Aside0.mk (lex_goods a0)
   have HN := Aside0.mk (lexB_len a0)
   clear hs he
   go_enter Tryz.func7, Tryz.ntmps7
   go_wp2_with fail
   refine (ambidexterref10_Lex.calls a0 _ _ _ w HL.out).mono ?_
   rintro e w1 ⟨v, rfl, hR, hb⟩
   obtain ⟨A, c, rfl, hc, hC⟩ := Kd.R_reads hR
   have HC := Aside0.mk hC
   have HB := Aside0.mk hb
   clear hR hC hb
   go_wp2_with fail
   refine (rstmts_calls a0.size k A c (lexB a0).1 (fun _ => False) w1 0 0 0 none 0 [] false (l, s9) ⟨HC.out, hc, Nat.zero_le _, fun W2 _ => (Kd.R_reads' (Kd.R_nil k40 40 W2 0 (fun _ => True))).2.2, fun _ h => h.elim, Nat.le_refl _, by simp, by have := HN.out; omega, fun t ht h3 => (HG.out t ht).2.1⟩ HS.out).mono ?_
   rintro e w2 ⟨v, kv, rfl, hk, ⟨i2, B2, fc2, rfl, hi2, ht2, hf2, hF2⟩, hb⟩
   have HK := Aside0.mk (Kd.R_mono (Kd.R_lower hk HB.out.size) (fun _ _ => trivial))
   have HF := Aside0.mk hF2
   have HB2 := Aside0.mk (below_step HB.out hb)
   clear hk hF2 hb HB HC HS HL HG HN
   go_wp2_with fail
   go_region
   all_goals
    go_wp2_with fail
    go_ret2
    exact ⟨kv, B2, fc2, rfl, Kd.R_drew (Kd.R_alloc HK.out _), hf2, Kd.C_below HF.out.here (below_drew (below_alloc (Below.refl _ _) _)), below_drew (below_alloc HB2.out _)⟩
 · rw [if_neg he] at h
   simp only [Option.some.injEq, Prod.mk.injEq] at h
   obtain ⟨rfl, rfl⟩ := h
   have he' : ((lexB a0).2.1 != 0) = true := by simp [he]
   clear he
   go_enter Tryz.func7, Tryz.ntmps7
   go_wp2_with fail
   refine (ambidexterref10_Lex.calls a0 _ _ _ w HL.out).mono ?_
   rintro e w1 ⟨v, rfl, hR, hb⟩
   obtain ⟨A, c, rfl, hc, hC⟩ := Kd.R_reads hR
   have HB := Aside0.mk hb
   clear hR hC hb
   go_wp2_with fail
   go_ret2
   refine ⟨_, some ⟨w1.heap.size, 0, none⟩, 1, rfl, Kd.R_nil _ _ _ _ _, Nat.le_refl 1, ?_, below_alloc HB.out _⟩
   have hR : Kd.R k40 40 (w1.alloc (.cells #[.int .i64 (lexB a0).2.1, .int .i64 (lexB a0).2.2] 40)) w.heap.size (fun _ => True) (.slice (some ⟨w1.heap.size, 0, none⟩) 1 1) [⟨(lexB a0).2.1, (lexB a0).2.2⟩] := by
    refine ⟨fun _ _ => trivial, _, World.ownsRow_lit (base := w.heap.size) (e := 40) (size := 2) w1 #[.int .i64 (lexB a0).2.1, .int .i64 (lexB a0).2.2] 1 HB.out.size (by decide) rfl, ?_⟩
    have h1 : k40.M (w1.alloc (.cells #[.int .i64 (lexB a0).2.1, .int .i64 (lexB a0).2.2] 40)) w.heap.size (fun k => True ∧ some k ≠ (Value.slice (some ⟨w1.heap.size, 0, none⟩) 1 1).ownBlock) ⟨(lexB a0).2.1, (lexB a0).2.2⟩ [.int .i64 (lexB a0).2.1, .int .i64 (lexB a0).2.2] := k40_mkM _ _ _ _
    exact Reps.snoc (Reps.none _ _) h1 rfl
   exact (Kd.R_reads' hR).2.2
end Go.Proofs.YtonhcfecfifghaaGreatDoor.PPx
