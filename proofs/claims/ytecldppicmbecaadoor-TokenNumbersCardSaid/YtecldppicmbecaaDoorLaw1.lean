/-
  Walks over the laws' helpers 'same', 'awake' and made.Within.
-/
import Derived.Test.YtecldppicmbecaaDoorRef4
import Derived.Test.YtecldppicmbecaaDoorSame
namespace Go.Proofs.YtecldppicmbecaaDoor
open Go.RowKit


/-- what two answers of Lex for one text have in common -/
theorem lexR_same {w w' : World} {s : List UInt8} {v u : Value} {p q e f : Int} (h : LexR w s v p e) (h' : LexR w' s u q f) (hb : Below w.heap.size w w') :
    p = q ∧ e = f ∧ ∃ l : List Tok, l.length ≤ 1000000 ∧ RowAt w' v l.length (toksCells l) ∧ RowAt w' u l.length (toksCells l) := by
  rcases h with ⟨l, h1, h2, h3, h4, h5⟩ | ⟨a, b, h1, h2, h3, h4, h5⟩
  · rcases h' with ⟨l', g1, g2, g3, g4, g5⟩ | ⟨a', b', g1, g2, g3, g4, g5⟩
    · rw [h1] at g1; cases g1
      exact ⟨by rw [h3, g3], by rw [h4, g4], l, by omega, h2.below hb (Nat.le_refl _), g2⟩
    · rw [h1] at g1; cases g1
  · rcases h' with ⟨l', g1, g2, g3, g4, g5⟩ | ⟨a', b', g1, g2, g3, g4, g5⟩
    · rw [h1] at g1; cases g1
    · rw [h1] at g1; cases g1
      subst h2; subst g2
      exact ⟨by rw [h3, g3], by rw [h4, g4], [], by simp, RowAt.nil _, RowAt.nil _⟩

theorem tLex_any (s : List UInt8) (v : Value) (w : World) (he : Env w) (hv : RowAt w v s.length (bcells s)) :
    Calls Tryd.prog 14 #[v] w fun e w' => (∃ v pos er, e = .returned (.tuple #[v, .int .i64 pos, .int .i64 er]) ∧ LexR w' s v pos er) ∧ Below w.heap.size w w' := Lex_any s v w he hv
set_option maxRecDepth 100000 in
set_option maxHeartbeats 400000 in
theorem same_any (s : List UInt8) (v : Value) (w : World) (he : Env w) (hv : RowAt w v s.length (bcells s)) (hcm : ∀ a n c, v = .slice a n c → c ≤ 9223372036854775807) :
    Calls Tryd.prog 10 #[v] w fun e w' => e = .returned (.bool true) ∧ Below w.heap.size w w' := by
  go_enter Tryd.func10, Tryd.ntmps10
  go_wp2_with (go_at_call 14; ((with_reducible refine (tLex_any s v w he hv).mono ?_); rintro e w1 ⟨⟨x, p, er, rfl, hR⟩, hb⟩; have HR := Lib.hid hR; clear hR))
  go_wp2_with (go_at_call 18; ((with_reducible refine (rLex_any s v w1 (hv.below hb (Nat.le_refl _)) hcm).mono ?_); rintro e w2 ⟨⟨y, q, fr, rfl, hR⟩, hb2⟩; obtain ⟨rfl, rfl, l, hl, hx, hy⟩ := lexR_same HR.out hR hb2; clear hR HR))
  have t1 : (p == p) = true := by simp
  have t2 : (er == er) = true := by simp
  go_wp2_with (go_at_call 17; ((with_reducible refine (sameTokens_any l l true x y w2 hx hy (SameT.refl _ _) hl).mono ?_); rintro e w3 ⟨rfl, hb3⟩))
  go_ret
  exact ⟨rfl, (hb.trans (hb2.mono hb.size)).trans (hb3.mono (Nat.le_trans hb.size hb2.size))⟩
end Go.Proofs.YtecldppicmbecaaDoor
