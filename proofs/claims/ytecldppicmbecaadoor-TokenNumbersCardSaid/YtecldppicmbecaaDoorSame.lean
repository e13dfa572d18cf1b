/-
  The walk over the reference's SameTokens, where the tokens are the same: it returns true. Conditions: both slices read as lists of tokens.
-/
import Derived.Test.YtecldppicmbecaaDoorLex4
import Derived.Deep.QuietTactic
import Derived.BigQuiet
namespace Go.Proofs.YtecldppicmbecaaDoor
open Go.RowKit

theorem toksCells_get (l : List Tok) (k : Nat) (hk : k < l.length) : (toksCells l)[4 * k]? = some (.int .i64 l[k].kind) ∧ (toksCells l)[4 * k + 1]? = some (.string l[k].text) ∧ (toksCells l)[4 * k + 2]? = some (.int .i64 l[k].num) ∧ (toksCells l)[4 * k + 3]? = some (.int .i64 l[k].pos) := by
  induction l generalizing k with
  | nil => simp at hk
  | cons t r ih =>
    have e : toksCells (t :: r) = .int .i64 t.kind :: .string t.text :: .int .i64 t.num :: .int .i64 t.pos :: toksCells r := rfl
    cases k with
    | zero => simp [e]
    | succ k =>
      have := ih k (by simpa using hk)
      rw [e, show 4 * (k + 1) = 4 * k + 1 + 1 + 1 + 1 by omega]
      simpa using this
theorem toksCells_nil {l : List Tok} (h : toksCells l = []) : l = [] := by
  cases l with
  | nil => rfl
  | cons t r => simp [toksCells, Tok.cells] at h
/-- the cells of token k of a row -/
theorem tokRow {w : World} {b off : Nat} {l : List Tok} (h : ∀ j u, (toksCells l)[j]? = some u → w.cell? ⟨b, off + j, none⟩ = some u) (k : Nat) (hk : k < l.length) :
    w.cell? ⟨b, off + k * 4, none⟩ = some (.int .i64 l[k].kind) ∧ w.cell? ⟨b, off + k * 4 + 1, none⟩ = some (.string l[k].text) ∧ w.cell? ⟨b, off + k * 4 + 2, none⟩ = some (.int .i64 l[k].num) ∧ w.cell? ⟨b, off + k * 4 + 3, none⟩ = some (.int .i64 l[k].pos) :=
  have h2 := toksCells_get l k hk
  have e := Nat.mul_comm k 4
  ⟨by rw [e]; exact h _ _ h2.1, by rw [e, Nat.add_assoc]; exact h _ _ h2.2.1, by rw [e, Nat.add_assoc]; exact h _ _ h2.2.2.1, by rw [e, Nat.add_assoc]; exact h _ _ h2.2.2.2⟩
def SameT (places : Bool) (l m : List Tok) : Prop := l.length = m.length ∧ ∀ k (h : k < l.length) (h' : k < m.length), l[k].kind = m[k].kind ∧ l[k].text = m[k].text ∧ l[k].num = m[k].num ∧ (places = true → l[k].pos = m[k].pos)
theorem SameT.refl (p : Bool) (l : List Tok) : SameT p l l := ⟨rfl, fun _ _ _ => ⟨rfl, rfl, rfl, fun _ => rfl⟩⟩

set_option maxRecDepth 100000 in
set_option maxHeartbeats 800000 in
theorem sameTokens_any (l m : List Tok) (p : Bool) (v u : Value) (w : World) (hv : RowAt w v l.length (toksCells l)) (hu : RowAt w u m.length (toksCells m)) (hs : SameT p l m) (hn : l.length ≤ 1000000) :
    Calls Tryd.prog 17 #[v, u, .bool p] w fun e w' => e = .returned (.bool true) ∧ Below w.heap.size w w' := by
  obtain ⟨a, c, rfl, hc, hr⟩ := hv
  obtain ⟨a', c', rfl, hc', hr'⟩ := hu
  obtain ⟨hlen, hall⟩ := hs
  have HLEN := Lib.hid hlen
  rw [← hlen] at hc' ⊢
  have HALL := Lib.hid hall
  clear hlen hall
  go_enter Tryd.func17, Tryd.ntmps17
  go_wp2_with fail
  go_loopw [7] (fun i wr => ∃ k : Nat, k ≤ l.length ∧ i = .int .i64 k ∧ Below w.heap.size w wr) (fun i _ => l.length - (intOf i).toNat)
  case atStart => exact ⟨0, by omega, rfl, Below.refl _ _⟩
  case round =>
    obtain ⟨k, hk, rfl, hb⟩ := hrel
    by_cases hlt : k < l.length
    · rcases hr with h0 | ⟨b, off, rfl, hr⟩
      · rw [toksCells_nil h0] at hlt; simp at hlt
      rcases hr' with h0 | ⟨b', off', rfl, hr'⟩
      · have h1 : m.length = 0 := by rw [toksCells_nil h0]; rfl
        have := HLEN.out; omega
      have hlt' : k < m.length := by have := HLEN.out; omega
      obtain ⟨q1, q2, q3, q4⟩ := tokRow hr k hlt
      obtain ⟨s1, s2, s3, s4⟩ := tokRow hr' k hlt'
      obtain ⟨e1, e2, e3, e4⟩ := HALL.out k hlt hlt'
      rw [← e1] at s1; rw [← e2] at s2; rw [← e3] at s3
      have hB := bcell hb
      have B1 := cell_lt q1
      have B2 := cell_lt s1
      rw [← hB.1 _ _ B1] at q1 q2 q3 q4
      rw [← hB.1 _ _ B2] at s1 s2 s3 s4
      have E4 := Lib.hid e4
      clear hr hr' e1 e2 e3 e4 hB B1 B2
      have n1 : ((l[k].kind : Int) != l[k].kind) = false := by simp
      have n2 := strNe_false (rfl : l[k].text = l[k].text)
      have n3 : ((l[k].num : Int) != l[k].num) = false := by simp
      cases p with
      | true =>
        have e4 := E4.out rfl
        rw [← e4] at s4
        have n4 : ((l[k].pos : Int) != l[k].pos) = false := by simp
        clear e4
        go_wp2_with fail
        go_quiet (fail)
        go_wp2_with fail
        go_roundw
        case rel => exact ⟨k + 1, by omega, by go_num, ⟨hb.os, hb.tape, hb.output, hb.size, hb.block⟩⟩
        case measure => simp [intOf]; omega
      | false =>
        go_wp2_with fail
        go_quiet (fail)
        go_wp2_with fail
        go_roundw
        case rel => exact ⟨k + 1, by omega, by go_num, ⟨hb.os, hb.tape, hb.output, hb.size, hb.block⟩⟩
        case measure => simp [intOf]; omega
    · go_wp2_with fail
      go_ret
      exact ⟨rfl, hb⟩
end Go.Proofs.YtecldppicmbecaaDoor
