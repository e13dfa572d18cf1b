/-
  Walks over token.next and token.Lex: what they return. Conditions: the package's table of words; sizes within Go's reach.
-/
import Derived.Test.YtecldppicmbecaaDoorLexWalks2
namespace Go.Proofs.YtecldppicmbecaaDoor
open Go.RowKit

theorem bcell {W w1 : World} (hb : Below W.heap.size W w1) : (∀ b o, b < W.heap.size → w1.cell? ⟨b, o, none⟩ = W.cell? ⟨b, o, none⟩) ∧ (∀ b o, b < W.heap.size → w1.frozen? ⟨b, o, none⟩ = W.frozen? ⟨b, o, none⟩) :=
  ⟨fun b o h => hb.cell (p := ⟨b, o, none⟩) h, fun b o h => hb.frozen (p := ⟨b, o, none⟩) h⟩

def nextP (l : List UInt8) (k num er : Int) (text : ByteArray) : Prop :=
  (∃ n : Nat, nextL l = .err n ∧ er = n ∧ n ≠ 0) ∨ (∃ kd len nu : Nat, nextL l = .tok kd len nu ∧ er = 0 ∧ k = kd ∧ num = nu ∧ text = bytes (l.take len))
def nextR (l : List UInt8) (e : Ending) : Prop := ∃ (k num er : Int) (text : ByteArray), e = .returned (.tuple #[.agg #[.int .i64 k, .string text, .int .i64 num, .int .i64 0], .int .i64 er]) ∧ nextP l k num er text
theorem takeWhile_take {α : Type} (p : α → Bool) (l : List α) : l.take (l.takeWhile p).length = l.takeWhile p :=
  (List.prefix_iff_eq_take.1 (List.takeWhile_prefix p)).symm
theorem toList_cons (s : ByteArray) (h0 : 0 < s.size) : s.data.toList = s[0] :: s.data.toList.drop 1 := by
  have := drop_cons s.data.toList 0 (by exact h0)
  rw [List.drop_zero] at this; exact this
theorem name_next (s : ByteArray) (w : World) (hs : s.size ≤ 9223372036854775807) (he : Env w) (h0 : 0 < s.size) (hl : isLet s[0] = true) :
    Calls Tryd.prog 42 #[.string s] w fun e w' => nextR s.data.toList e ∧ Below w.heap.size w w' := by
  refine (name_any s w hs he).mono fun e w' ⟨h, hb⟩ => ⟨⟨_, _, _, _, h, ?_⟩, hb⟩
  have hn := nextL_name (c := s[0]) (r := s.data.toList.drop 1) hl
  rw [← toList_cons s h0] at hn
  by_cases h16 : 16 < (s.data.toList.takeWhile isNam).length
  · rw [if_pos h16] at hn; exact .inl ⟨3, hn, by rw [if_pos h16], by omega⟩
  · rw [if_neg h16] at hn; exact .inr ⟨_, _, _, hn, by rw [if_neg h16]; rfl, rfl, rfl, by rw [takeWhile_take]⟩
theorem number_next (s : ByteArray) (w : World) (hs : s.size ≤ 9223372036854775807) (h0 : 0 < s.size) (hl : isLet s[0] = false) (hd : isDig s[0] = true) :
    Calls Tryd.prog 44 #[.string s] w fun e w' => nextR s.data.toList e ∧ Below w.heap.size w w' := by
  refine (number_any s w hs).mono fun e w' ⟨h, hb⟩ => ⟨?_, hb⟩
  obtain ⟨n, _, ⟨hn, h⟩ | ⟨hn, h⟩⟩ := h
  · refine ⟨_, _, _, _, h, .inl ⟨2, ?_, rfl, by omega⟩⟩
    rw [bytes_toList] at hn
    rw [toList_cons s h0] at hn; have hq := nextL_none hl hd hn; rw [← toList_cons s h0] at hq; exact hq
  · refine ⟨_, _, _, _, h, .inr ⟨2, (s.data.toList.takeWhile isDig).length, n, ?_, rfl, rfl, rfl, by rw [takeWhile_take]⟩⟩
    rw [bytes_toList] at hn
    rw [toList_cons s h0] at hn; have hq := nextL_num hl hd hn; rw [← toList_cons s h0] at hq; exact hq
theorem sign_next (s : ByteArray) (w : World) (he : Env w) (h0 : 0 < s.size) (hl : isLet s[0] = false) (hd : isDig s[0] = false) :
    Calls Tryd.prog 45 #[.string s] w fun e w' => nextR s.data.toList e ∧ Below w.heap.size w w' := by
  refine (sign_any s w he h0).mono fun e w' ⟨h, hb⟩ => ⟨?_, hb⟩
  have hn := nextL_sign (c := s[0]) (r := s.data.toList.drop 1) hl hd
  rw [← toList_cons s h0] at hn
  by_cases hz : signL s.data.toList = 0
  · rw [if_pos hz] at hn
    rw [hz] at h; exact ⟨_, _, _, _, h, .inl ⟨1, hn, rfl, by omega⟩⟩
  · rw [if_neg hz] at hn
    refine ⟨_, _, _, _, h, .inr ⟨_, _, _, hn, by rw [if_neg hz], by rw [if_neg hz]; rfl, rfl, rfl⟩⟩

set_option maxHeartbeats 400000 in
theorem next_any (s : ByteArray) (w : World) (hs : s.size ≤ 9223372036854775807) (he : Env w) (h0 : 0 < s.size) :
    Calls Tryd.prog 26 #[.string s] w fun e w' => nextR s.data.toList e ∧ Below w.heap.size w w' := by
  by_cases hl : isLet s[0] = true
  · go_enter Tryd.func26, Tryd.ntmps26
    go_wp2_with (first | (go_at_call 41; refine (letter_any _ _).mono ?_; rintro e w' ⟨rfl, rfl⟩) | (go_at_call 42; refine (name_next _ _ hs (he.alloc _) h0 hl).mono ?_; rintro e w' ⟨⟨k, num, er, text, rfl, hR⟩, hb⟩; have HR := Lib.hid hR; clear hR; obtain ⟨hc, hf⟩ := bcell hb))
    refine bodyPost_ret (v := .tuple #[.agg #[.int .i64 k, .string text, .int .i64 num, .int .i64 0], .int .i64 er]) (by simp [results, Tryd.results26, go_sem, hc]) rfl ?_
    exact ⟨⟨_, _, _, _, rfl, HR.out⟩, ((((Below.refl _ _).alloc (Nat.le_refl _) _).trans (hb.mono (by simp))).setCell (by simp) _).setCell (by simp) _ |>.setCell (by simp) _ |>.setCell (by simp) _⟩
  have hl' : isLet s[0] = false := by simpa using hl
  clear hl
  by_cases hd : isDig s[0] = true
  · go_enter Tryd.func26, Tryd.ntmps26
    go_wp2_with (first | (go_at_call 41; refine (letter_any _ _).mono ?_; rintro e w' ⟨rfl, rfl⟩) | (go_at_call 43; refine (digit_any _ _).mono ?_; rintro e w' ⟨rfl, rfl⟩) | (go_at_call 44; refine (number_next _ _ hs h0 hl' hd).mono ?_; rintro e w' ⟨⟨k, num, er, text, rfl, hR⟩, hb⟩; have HR := Lib.hid hR; clear hR; obtain ⟨hc, hf⟩ := bcell hb))
    refine bodyPost_ret (v := .tuple #[.agg #[.int .i64 k, .string text, .int .i64 num, .int .i64 0], .int .i64 er]) (by simp [results, Tryd.results26, go_sem, hc]) rfl ?_
    exact ⟨⟨_, _, _, _, rfl, HR.out⟩, ((((Below.refl _ _).alloc (Nat.le_refl _) _).trans (hb.mono (by simp))).setCell (by simp) _).setCell (by simp) _ |>.setCell (by simp) _ |>.setCell (by simp) _⟩
  have hd' : isDig s[0] = false := by simpa using hd
  clear hd
  · go_enter Tryd.func26, Tryd.ntmps26
    go_wp2_with (first | (go_at_call 41; refine (letter_any _ _).mono ?_; rintro e w' ⟨rfl, rfl⟩) | (go_at_call 43; refine (digit_any _ _).mono ?_; rintro e w' ⟨rfl, rfl⟩) | (go_at_call 45; refine (sign_next _ _ (he.alloc _) h0 hl' hd').mono ?_; rintro e w' ⟨⟨k, num, er, text, rfl, hR⟩, hb⟩; have HR := Lib.hid hR; clear hR; obtain ⟨hc, hf⟩ := bcell hb))
    refine bodyPost_ret (v := .tuple #[.agg #[.int .i64 k, .string text, .int .i64 num, .int .i64 0], .int .i64 er]) (by simp [results, Tryd.results26, go_sem, hc]) rfl ?_
    exact ⟨⟨_, _, _, _, rfl, HR.out⟩, ((((Below.refl _ _).alloc (Nat.le_refl _) _).trans (hb.mono (by simp))).setCell (by simp) _).setCell (by simp) _ |>.setCell (by simp) _ |>.setCell (by simp) _⟩
end Go.Proofs.YtecldppicmbecaaDoor
