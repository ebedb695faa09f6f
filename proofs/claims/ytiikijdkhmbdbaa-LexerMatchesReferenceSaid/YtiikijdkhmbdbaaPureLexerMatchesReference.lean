/- For every string: Lex and the reference's Lex hand back the same tokens, the same error and the same offset for its first 2000 bytes (the examples of the chapter hold besides). No condition but the form's own bound on a string's size. -/
import Derived.Test.YtiikijdkhmbdbaaTheory
namespace Go.Proofs.Ytiikijdkhmbdbaa.Pure
open Go.RowKit Go.Proofs.Ytiikijdkhmbdbaa.PLx Go.Proofs.YtiikijdkhmbdbaaW.PrintWords Go.Proofs.YtiikijdkhmbdbaaW.PrintLast

theorem LexerMatchesReference : ambidexterlaw10_LexerMatchesReference.Pure := by
  intro a0 h0
  obtain ⟨t, ht, hs, _⟩ := few_f a0
  have hl := lexB_len t
  refine ⟨20002, ?_⟩
  unfold ambidexterlaw10_LexerMatchesReference.f
  rw [ht]
  simp only [ambidexterlaw10_head.f, lexer_Lex.f, ambidexterref10_Lex.f, Option.bind_some, if_true]
  rw [same_f _ (by omega) 20002 (by omega)]
  simp

end Go.Proofs.Ytiikijdkhmbdbaa.Pure
