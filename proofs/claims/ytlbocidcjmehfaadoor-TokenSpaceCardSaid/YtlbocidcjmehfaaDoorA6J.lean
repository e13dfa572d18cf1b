import Derived.Test.YtlbocidcjmehfaaDoorA3J
import Derived.Deep.QuietTactic
import Derived.BigQuiet
import Derived.Test.YtlbocidcjmehfaaDoorA5J
import Derived.KernelRfl
import Derived.Lib.SlBytesConst
import Derived.Test.YtlbocidcjmehfaaDoorCards
import Derived.Test.YtlbocidcjmehfaaDoorTie
import Derived.ProofKit
import Derived.OpenShut
import Derived.Carry
import Derived.Deep.DeepHandedRow
import Derived.LaidMore
import Derived.Lib.LaidTab
import Derived.Shelf.Vars
import Derived.Test.YtlbocidcjmehfaaDoorA2J
set_option linter.unusedVariables false
set_option linter.unusedSimpArgs false
namespace Go.Proofs.YtlbocidcjmehfaaDoor
open Go.RowKit
theorem toksCells_get (l : List Tok) (k : Nat) (hk : k < l.length) : (toksCells l)[4 * k]? = some (.int .i64 l[k].kind) ∧ (toksCells l)[4 * k + 1]? = some (.string l[k].text) ∧ (toksCells l)[4 * k + 2]? = some (.int .i64 l[k].num) ∧ (toksCells l)[4 * k + 3]? = some (.int .i64 l[k].pos) := by
 induction l generalizing k with
 | nil => simp at hk
 | cons t r ih =>
  have e : toksCells (t :: r) = .int .i64 t.kind :: .string t.text :: .int .i64 t.num :: .int .i64 t.pos :: toksCells r := rfl
  cases k with
  | zero => simp [e]
  | succ k =>
   have := ih k (by simpa using hk)
   rw [e, show 4 * (k + 1) = 4 * k + 1 + 1 + 1 + 1 by omega]
   simpa using this
theorem toksCells_nil {l : List Tok} (h : toksCells l = []) : l = [] := by
 cases l with
 | nil => rfl
 | cons t r => simp [toksCells, Tok.cells] at h
theorem tokRow {w : World} {b off : Nat} {l : List Tok} (h : ∀ j u, (toksCells l)[j]? = some u → w.cell? ⟨b, off + j, none⟩ = some u) (k : Nat) (hk : k < l.length) :
  w.cell? ⟨b, off + k * 4, none⟩ = some (.int .i64 l[k].kind) ∧ w.cell? ⟨b, off + k * 4 + 1, none⟩ = some (.string l[k].text) ∧ w.cell? ⟨b, off + k * 4 + 2, none⟩ = some (.int .i64 l[k].num) ∧ w.cell? ⟨b, off + k * 4 + 3, none⟩ = some (.int .i64 l[k].pos) :=
 have h2 := toksCells_get l k hk
 have e := Nat.mul_comm k 4
 ⟨by rw [e]; exact h _ _ h2.1, by rw [e, Nat.add_assoc]; exact h _ _ h2.2.1, by rw [e, Nat.add_assoc]; exact h _ _ h2.2.2.1, by rw [e, Nat.add_assoc]; exact h _ _ h2.2.2.2⟩
def SameT (places : Bool) (l m : List Tok) : Prop := l.length = m.length ∧ ∀ k (h : k < l.length) (h' : k < m.length), l[k].kind = m[k].kind ∧ l[k].text = m[k].text ∧ l[k].num = m[k].num ∧ (places = true → l[k].pos = m[k].pos)
theorem SameT.refl (p : Bool) (l : List Tok) : SameT p l l := ⟨rfl, fun _ _ _ => ⟨rfl, rfl, rfl, fun _ => rfl⟩⟩
set_option maxRecDepth 100000 in
set_option maxHeartbeats 800000 in
theorem sameTokens_any (l m : List Tok) (p : Bool) (v u : Value) (w : World) (hv : RowAt w v l.length (toksCells l)) (hu : RowAt w u m.length (toksCells m)) (hs : SameT p l m) (hn : l.length ≤ 1000000) :
  Calls Tryd.prog 18 #[v, u, .bool p] w fun e w' => e = .returned (.bool true) ∧ Below w.heap.size w w' := by
 obtain ⟨a, c, rfl, hc, hr⟩ := hv
 obtain ⟨a', c', rfl, hc', hr'⟩ := hu
 obtain ⟨hlen, hall⟩ := hs
 have HLEN := Lib.hid hlen
 rw [← hlen] at hc' ⊢
 have HALL := Lib.hid hall
 clear hlen hall
 go_enter Tryd.func18, Tryd.ntmps18
 go_wp2_with fail
 go_loopw [7] (fun i wr => ∃ k : Nat, k ≤ l.length ∧ i = .int .i64 k ∧ Below w.heap.size w wr) (fun i _ => l.length - (intOf i).toNat)
 case atStart => exact ⟨0, by omega, rfl, Below.refl _ _⟩
 case round =>
  obtain ⟨k, hk, rfl, hb⟩ := hrel
  by_cases hlt : k < l.length
  ·rcases hr with h0 | ⟨b, off, rfl, hr⟩
   ·rw [toksCells_nil h0] at hlt; simp at hlt
   rcases hr' with h0 | ⟨b', off', rfl, hr'⟩
   ·have h1 : m.length = 0 := by rw [toksCells_nil h0]; rfl
    have := HLEN.out; omega
   have hlt' : k < m.length := by have := HLEN.out; omega
   obtain ⟨q1, q2, q3, q4⟩ := tokRow hr k hlt
   obtain ⟨s1, s2, s3, s4⟩ := tokRow hr' k hlt'
   obtain ⟨e1, e2, e3, e4⟩ := HALL.out k hlt hlt'
   rw [← e1] at s1; rw [← e2] at s2; rw [← e3] at s3
   have hB := bcell hb
   have B1 := cell_lt q1
   have B2 := cell_lt s1
   rw [← hB.1 _ _ B1] at q1 q2 q3 q4
   rw [← hB.1 _ _ B2] at s1 s2 s3 s4
   have E4 := Lib.hid e4
   clear hr hr' e1 e2 e3 e4 hB B1 B2
   have n1 : ((l[k].kind : Int) != l[k].kind) = false := by simp
   have n2 := strNe_false (rfl : l[k].text = l[k].text)
   have n3 : ((l[k].num : Int) != l[k].num) = false := by simp
   cases p with
   | true =>
    have e4 := E4.out rfl
    rw [← e4] at s4
    have n4 : ((l[k].pos : Int) != l[k].pos) = false := by simp
    clear e4
    go_wp2_with fail
    go_quiet (fail)
    go_wp2_with fail
    go_roundw
    case rel => exact ⟨k + 1, by omega, by go_num, ⟨hb.os, hb.tape, hb.output, hb.size, hb.block⟩⟩
    case measure => simp [intOf]; omega
   | false =>
    go_wp2_with fail
    go_quiet (fail)
    go_wp2_with fail
    go_roundw
    case rel => exact ⟨k + 1, by omega, by go_num, ⟨hb.os, hb.tape, hb.output, hb.size, hb.block⟩⟩
    case measure => simp [intOf]; omega
  ·go_wp2_with fail
   go_ret
   exact ⟨rfl, hb⟩
end Go.Proofs.YtlbocidcjmehfaaDoor
namespace Go.Proofs.YtlbocidcjmehfaaDoor
open Go.RowKit
theorem lexR_same {w w' : World} {s : List UInt8} {v u : Value} {p q e f : Int} (h : LexR w s v p e) (h' : LexR w' s u q f) (hb : Below w.heap.size w w') :
  p = q ∧ e = f ∧ ∃ l : List Tok, l.length ≤ 1000000 ∧ RowAt w' v l.length (toksCells l) ∧ RowAt w' u l.length (toksCells l) := by
 rcases h with ⟨l, h1, h2, h3, h4, h5⟩ | ⟨a, b, h1, h2, h3, h4, h5⟩
 ·rcases h' with ⟨l', g1, g2, g3, g4, g5⟩ | ⟨a', b', g1, g2, g3, g4, g5⟩
  ·rw [h1] at g1; cases g1
   exact ⟨by rw [h3, g3], by rw [h4, g4], l, by omega, h2.below hb (Nat.le_refl _), g2⟩
  ·rw [h1] at g1; cases g1
 ·rcases h' with ⟨l', g1, g2, g3, g4, g5⟩ | ⟨a', b', g1, g2, g3, g4, g5⟩
  ·rw [h1] at g1; cases g1
  ·rw [h1] at g1; cases g1
   subst h2; subst g2
   exact ⟨by rw [h3, g3], by rw [h4, g4], [], by simp, RowAt.nil _, RowAt.nil _⟩
theorem tLex_any (s : List UInt8) (v : Value) (w : World) (he : Env w) (hv : RowAt w v s.length (bcells s)) :
  Calls Tryd.prog 15 #[v] w fun e w' => (∃ v pos er, e = .returned (.tuple #[v, .int .i64 pos, .int .i64 er]) ∧ LexR w' s v pos er) ∧ Below w.heap.size w w' := Lex_any s v w he hv
set_option maxRecDepth 100000 in
set_option maxHeartbeats 400000 in
theorem same_any (s : List UInt8) (v : Value) (w : World) (he : Env w) (hv : RowAt w v s.length (bcells s)) (hcm : ∀ a n c, v = .slice a n c → c ≤ 9223372036854775807) :
  Calls Tryd.prog 13 #[v] w fun e w' => e = .returned (.bool true) ∧ Below w.heap.size w w' := by
 go_enter Tryd.func13, Tryd.ntmps13
 go_wp2_with (go_at_call 15; ((with_reducible refine (tLex_any s v w he hv).mono ?_); rintro e w1 ⟨⟨x, p, er, rfl, hR⟩, hb⟩; have HR := Lib.hid hR; clear hR))
 go_wp2_with (go_at_call 19; ((with_reducible refine (rLex_any s v w1 (hv.below hb (Nat.le_refl _)) hcm).mono ?_); rintro e w2 ⟨⟨y, q, fr, rfl, hR⟩, hb2⟩; obtain ⟨rfl, rfl, l, hl, hx, hy⟩ := lexR_same HR.out hR hb2; clear hR HR))
 have t1 : (p == p) = true := by simp
 have t2 : (er == er) = true := by simp
 go_wp2_with (go_at_call 18; ((with_reducible refine (sameTokens_any l l true x y w2 hx hy (SameT.refl _ _) hl).mono ?_); rintro e w3 ⟨rfl, hb3⟩))
 go_ret
 exact ⟨rfl, (hb.trans (hb2.mono hb.size)).trans (hb3.mono (Nat.le_trans hb.size hb2.size))⟩
end Go.Proofs.YtlbocidcjmehfaaDoor
namespace Go.Proofs.YtlbocidcjmehfaaDoor
open Go.RowKit
def textsB (l : List Tok) : List ByteArray := (l.filter fun t => decide (t.kind ≠ 5)).map Tok.text
def textL (l : List Tok) : List UInt8 := Lib.join ((textsB l).map (·.data.toList)) [32]
theorem textsB_take (l : List Tok) (k : Nat) (hk : k < l.length) : textsB (l.take (k + 1)) = if l[k].kind = 5 then textsB (l.take k) else textsB (l.take k) ++ [l[k].text] := by
 unfold textsB
 rw [List.take_succ_eq_append_getElem hk, List.filter_append, List.map_append]
 by_cases h : l[k].kind = 5
 ·rw [if_pos h]; simp [h]
 ·rw [if_neg h]; simp [h]
theorem textsB_len (l : List Tok) : (textsB l).length ≤ l.length := by
 unfold textsB; rw [List.length_map]; exact (List.filter_sublist).length_le
theorem strInfo : (Tryd.prog.info? 9).map (fun i => (i.zero, i.size, i.bytes)) = some (some (.string ⟨#[]⟩), 1, 16) := by kernel_rfl
theorem join_any (xs : List ByteArray) (v : Value) (w : World) (hv : RowAt w v xs.length (xs.map .string)) (hn : xs.length ≤ 1000000) (hlen : (Lib.join (xs.map (·.data.toList)) [32]).length ≤ 140737488355328) :
  Calls Tryd.prog 33 #[v, .string ⟨#[32]⟩] w fun e w' => e = .returned (.string (bytes (Lib.join (xs.map (·.data.toList)) [32]))) ∧ Below w.heap.size w w' := by
 obtain ⟨a, c, rfl, hc, hr⟩ := hv
 rcases hr with h0 | ⟨b, off, rfl, hr⟩
 ·obtain rfl : xs = [] := by simpa using h0
  exact (Tryd.strings_Join_none a c ⟨#[32]⟩ w).mono fun e w' ⟨h, hw⟩ => ⟨h, hw ▸ Below.refl _ _⟩
 ·by_cases h0 : xs = []
  ·subst h0
   exact (Tryd.strings_Join_none _ c ⟨#[32]⟩ w).mono fun e w' ⟨h, hw⟩ => ⟨h, hw ▸ Below.refl _ _⟩
  have hb : b < w.heap.size := by
   obtain ⟨x, r, rfl⟩ := List.exists_cons_of_ne_nil h0
   exact cell_lt (hr 0 (.string x) (by simp))
  exact Tryd.strings_Join b off c xs ⟨#[32]⟩ w (fun j x hx => hr j (.string x) (by simp [hx])) hb (by omega) hc hlen
set_option maxRecDepth 100000 in
set_option maxHeartbeats 800000 in
theorem text_any (l : List Tok) (v : Value) (w : World) (hv : RowAt w v l.length (toksCells l)) (hn : l.length ≤ 1000000) (hlen : (textL l).length ≤ 140737488355328) :
  Calls Tryd.prog 16 #[v] w fun e w' => e = .returned (.string (bytes (textL l))) ∧ Below w.heap.size w w' := by
 obtain ⟨a, c, rfl, hc, hr⟩ := hv
 obtain ⟨i0, hi, hz0, hz1, hz2⟩ := info_parts strInfo
 have HN := Lib.hid hlen
 clear hlen
 go_enter Tryd.func16, Tryd.ntmps16
 go_wp2_with fail
 go_loopw [3, 8] (fun v i wr => ∃ k : Nat, k ≤ l.length ∧ i = .int .i64 k ∧ wr.ownsRow w.heap.size 9 1 v (textsB (l.take k)).length ((textsB (l.take k)).map .string) ∧ Below w.heap.size w wr) (fun _ i _ => l.length - (intOf i).toNat)
 case atStart => exact ⟨0, by omega, rfl, ownsRow_nil _ _ _ _, Below.refl _ _⟩
 case round =>
  obtain ⟨k, hk, rfl, hown, hb⟩ := hrel
  obtain ⟨oa, oc, rfl⟩ := owns_slice hown
  have hsz := hb.size
  by_cases hlt : k < l.length
  ·rcases hr with h0 | ⟨b, off, rfl, hr⟩
   ·rw [toksCells_nil h0] at hlt; simp at hlt
   obtain ⟨q1, q2, q3, q4⟩ := tokRow hr k hlt
   have hB := bcell hb
   have B1 := cell_lt q1
   rw [← hB.1 _ _ B1] at q1 q2 q3 q4
   have htk := textsB_take l k hlt
   have HTK := Lib.hid htk
   have hln := textsB_len (l.take k)
   rw [List.length_take] at hln
   clear hr hB B1 htk
   by_cases h5 : l[k].kind = 5
   ·have n1 : ((l[k].kind : Int) != 5) = false := by simp; omega
    have H5 := Lib.hid h5
    clear h5
    go_wp2_with fail
    go_roundw
    case rel => exact ⟨k + 1, by omega, by go_num, by rw [HTK.out, if_pos H5.out]; exact ownsRow_below hown (by go_grown) (Nat.le_refl _), by go_grown⟩
    case measure => simp [intOf]; omega
   ·have n1 : ((l[k].kind : Int) != 5) = true := by simp; omega
    have H5 := Lib.hid h5
    clear h5
    go_wp2_with (at_builtin; refine wpList_append_own _ rfl _ _ 42 rfl w.heap.size 9 i0 _ 1 16 Tryd.underlying42 hi hz0 hz1 hz2 rfl (by decide) _ (textsB (l.take k)).length ((textsB (l.take k)).map .string) rfl (ownsRow_below hown (by go_grown) (Nat.le_refl _)) _ 1 1 [.string l[k].text] rfl rfl (new_cells_at _ _ _ _ (by simp)) (by simp [Value.oneCell']) (by unfold maxLen; omega) (by omega) (by simp; omega) ?_)
    intro v' w2 hown2 hgrow _
    have hb2 : Below w.heap.size w w2 := Below.grow (by go_grown) hgrow (by simp; omega) (ownsRow_below hown (by go_grown) (Nat.le_refl _)) (Nat.le_refl _)
    clear hgrow
    go_wp2_with fail
    go_roundw
    case rel => exact ⟨k + 1, by omega, by go_num, by rw [HTK.out, if_neg H5.out]; simpa using hown2, hb2⟩
    case measure => simp [intOf]; omega
  ·have hkl : k = l.length := by omega
   subst hkl
   have hrow := RowAt.of_owns hown
   rw [List.take_length] at hrow
   have hll := textsB_len l
   have hoc : (textsB l).length = (textsB (l.take l.length)).length := by rw [List.take_length]
   rw [← hoc]
   have HJ : Hid ((Lib.join ((textsB l).map (·.data.toList)) [32]).length ≤ 140737488355328) := HN
   clear hr hoc
   go_wp2_with (go_at_call 33; ((with_reducible refine (join_any (textsB l) _ _ hrow (by omega) HJ.out).mono ?_); rintro e w1 ⟨rfl, hb1⟩))
   go_ret
   exact ⟨rfl, hb.trans (hb1.mono hsz)⟩
end Go.Proofs.YtlbocidcjmehfaaDoor
namespace Go.Proofs.YtlbocidcjmehfaaDoor
open Go.RowKit
def awakeB : List UInt8 := [108, 111, 99, 107, 32, 97, 91, 49, 93, 59, 32, 47, 47, 32, 98]
def awakeT : List Tok := [⟨3, bytes [108, 111, 99, 107], 0, 0⟩, ⟨1, bytes [97], 0, 5⟩, ⟨4, bytes [91], 0, 6⟩, ⟨2, bytes [49], 1, 7⟩, ⟨4, bytes [93], 0, 8⟩, ⟨4, bytes [59], 0, 9⟩, ⟨5, ⟨#[]⟩, 0, 15⟩]
theorem awake_lex : lexL awakeB = .ok awakeT := by kernel_rfl
theorem awake_err : lexL [97, 32, 38, 32, 98] = .err 2 1 := by kernel_rfl
theorem awake_text : textL awakeT = [108, 111, 99, 107, 32, 97, 32, 91, 32, 49, 32, 93, 32, 59] := by kernel_rfl
theorem awake_go : reserved ⟨#[103, 111]⟩ = true := by kernel_rfl
theorem RowAt.new_mark (w : World) (l : List Value) (T : TypeId) (n : Nat) (fr : Nat × Nat) : RowAt (w.alloc (Obj.cells l.toArray T fr)) (.slice (some ⟨w.heap.size, 0, none⟩) n n) n l :=
 ⟨_, _, rfl, Nat.le_refl _, .inr ⟨_, 0, rfl, fun j u hu => by rw [Nat.zero_add, World.cell?_alloc_mark]; simpa using hu⟩⟩
theorem lex_awake (w : World) (he : Env w) :
  Calls Tryd.prog 15 #[.slice (some ⟨w.heap.size, 0, none⟩) 15 15] (w.alloc (Obj.cells #[Value.int .u8 108, Value.int .u8 111, Value.int .u8 99, Value.int .u8 107, Value.int .u8 32, Value.int .u8 97, Value.int .u8 91, Value.int .u8 49, Value.int .u8 93, Value.int .u8 59, Value.int .u8 32, Value.int .u8 47, Value.int .u8 47, Value.int .u8 32, Value.int .u8 98] 5 (15, 16))) fun e w' => (∃ b off c, e = .returned (.tuple #[.slice (some ⟨b, off, none⟩) 7 c, .int .i64 15, .int .i64 0]) ∧ 7 ≤ c ∧ ∀ j u, (toksCells awakeT)[j]? = some u → w'.cell? ⟨b, off + j, none⟩ = some u) ∧ Below w.heap.size w w' := by
 refine (tLex_any awakeB _ _ (he.alloc _) (RowAt.new_mark w (bcells awakeB) 5 15 (15, 16))).mono fun e w' ⟨⟨v, p, er, h, hR⟩, hb⟩ => ⟨?_, ((Below.refl _ _).alloc (Nat.le_refl _) _).trans (hb.mono (by simp))⟩
 rcases hR with ⟨l, h1, ⟨a, c, hv, hc, hr⟩, h3, h4, h5⟩ | ⟨a, b, h1, h2, h3, h4, h5⟩
 ·rw [awake_lex] at h1; cases h1
  rcases hr with h0 | ⟨b, off, ha, hr⟩
  ·exact absurd h0 (by simp [toksCells, awakeT, Tok.cells])
  ·exact ⟨b, off, c, by rw [h, hv, ha, h3, h4]; rfl, hc, hr⟩
 ·rw [awake_lex] at h1; cases h1
theorem lex_awake2 (w : World) (he : Env w) :
  Calls Tryd.prog 15 #[.slice (some ⟨w.heap.size, 0, none⟩) 5 5] (w.alloc (Obj.cells #[Value.int .u8 97, Value.int .u8 32, Value.int .u8 38, Value.int .u8 32, Value.int .u8 98] 5 (5, 6))) fun e w' => (e = .returned (.tuple #[.slice none 0 0, .int .i64 2, .int .i64 1])) ∧ Below w.heap.size w w' := by
 refine (tLex_any [97, 32, 38, 32, 98] _ _ (he.alloc _) (RowAt.new_mark w (bcells [97, 32, 38, 32, 98]) 5 5 (5, 6))).mono fun e w' ⟨⟨v, p, er, h, hR⟩, hb⟩ => ⟨?_, ((Below.refl _ _).alloc (Nat.le_refl _) _).trans (hb.mono (by simp))⟩
 rcases hR with ⟨l, h1, ⟨a, c, hv, hc, hr⟩, h3, h4, h5⟩ | ⟨a, b, h1, h2, h3, h4, h5⟩
 ·rw [awake_err] at h1; cases h1
 ·rw [awake_err] at h1; cases h1
  rw [h, h2, h3, h4]; rfl
theorem text_awake (b off c : Nat) (w : World) (hc : 7 ≤ c) (hr : ∀ j u, (toksCells awakeT)[j]? = some u → w.cell? ⟨b, off + j, none⟩ = some u) :
  Calls Tryd.prog 16 #[.slice (some ⟨b, off, none⟩) 7 c] w fun e w' => e = .returned (.string ⟨#[108, 111, 99, 107, 32, 97, 32, 91, 32, 49, 32, 93, 32, 59]⟩) ∧ Below w.heap.size w w' := by
 refine (text_any awakeT _ w ⟨_, c, rfl, hc, .inr ⟨b, off, rfl, hr⟩⟩ (by decide) (by rw [awake_text]; decide)).mono fun e w' ⟨h, hb⟩ => ⟨?_, hb⟩
 rw [h, awake_text]; rfl
theorem reserved_go (w : World) (he : Env w) :
  Calls Tryd.prog 30 #[.string ⟨#[103, 111]⟩] w fun e w' => e = .returned (.bool true) ∧ w = w' :=
 (reserved_any _ w he).mono fun e w' ⟨h, hw⟩ => ⟨by rw [h, awake_go], hw⟩
set_option maxRecDepth 100000 in
set_option maxHeartbeats 800000 in
theorem awake_any (w : World) (he : Env w) :
  Calls Tryd.prog 14 #[] w fun e w' => e = .returned (.bool true) ∧ Below w.heap.size w w' := by
 have kc := fun (w : World) (C : Array Value) (n c : Nat) => Lib.run_convert_bytes_const (P := Tryd.prog) w 23 5 C n c Tryd.underlying23 Tryd.underlying5
 go_enter Tryd.func14, Tryd.ntmps14
 go_wp2_with (go_at_call 15; ((with_reducible refine (lex_awake w he).mono ?_); rintro e w1 ⟨⟨b, off, c, rfl, hc, hr⟩, hb1⟩; have HR := Lib.hid hr; clear hr))
 have he1 : Env w1 := he.below hb1 he.size
 have key : ∀ w2, Below w1.heap.size w1 w2 → Env w2 ∧ (∀ j u, (toksCells awakeT)[j]? = some u → w2.cell? ⟨b, off + j, none⟩ = some u) ∧ w2.cell? ⟨b, off, none⟩ = some (.int .i64 3) ∧ w2.cell? ⟨b, off + 12 + 2, none⟩ = some (.int .i64 1) ∧ w2.cell? ⟨b, off + 14, none⟩ = some (.int .i64 1) := by
  intro w2 hb2
  have hr2 : ∀ j u, (toksCells awakeT)[j]? = some u → w2.cell? ⟨b, off + j, none⟩ = some u := fun j u hu => by
   have h1 := HR.out j u hu
   rw [hb2.cell (p := ⟨b, off + j, none⟩) (cell_lt h1)]; exact h1
  exact ⟨he1.below hb2 he1.size, hr2, hr2 0 _ rfl, hr2 14 _ rfl, hr2 14 _ rfl⟩
 have KEY := Lib.hid key
 clear key
 go_wp2_with (first | (go_at_call 15; ((with_reducible refine (lex_awake2 w1 he1).mono ?_); rintro e w2 ⟨rfl, hb2⟩; obtain ⟨he2, hr2, q0, q1, q2⟩ := KEY.out w2 hb2; have HR2 := Lib.hid hr2; clear hr2)) | (go_at_call 16; ((with_reducible refine (text_awake b off c _ hc HR2.out).mono ?_); rintro e w3 ⟨rfl, hb3⟩)) | (go_at_call 30; ((with_reducible refine (reserved_go _ (he2.below hb3 he2.size)).mono ?_); rintro e w' ⟨rfl, rfl⟩)))
 go_ret
 exact ⟨rfl, (hb1.trans (hb2.mono hb1.size)).trans (hb3.mono (Nat.le_trans hb1.size hb2.size))⟩
end Go.Proofs.YtlbocidcjmehfaaDoor
namespace Go.Proofs.YtlbocidcjmehfaaDoor
open Go.ChangeShapes Go.WideShapes Go.ChangeAt Go.RowKit
theorem own : ownKnob Tryd.prog.godebug = none := by kernel_rfl
theorem laidOut : laidOutB Tryd.prog = true := by kernel_rfl
theorem gWords : Tryd.prog.globalNamed "lockorder/token.words" = some 0 := by kernel_rfl
theorem cells_of_strs {H : Type} {enc : TypeId × Value → H} {P : Program} {w : World} {base : Nat} {sp : Nat → Bool} {held : Bool} {fuel : Nat} {t e : TypeId} {n : Nat} {cs : List Value} {zs : List (List UInt8)} {p : List MemPlace}
  (ht : P.underlying t = some (.array n e)) (he : P.underlying e = some .string) (hce : P.cellsOf e = 1) (hct : P.cellsOf t = n)
  (h : DataW.trod enc P w base sp held fuel t cs = some (.agg (zs.map fun z => .lit (.string z)), p)) : cs = zs.map fun z => Value.string (bytes z) := by
 cases fuel with
 | zero => simp [DataW.trod] at h
 | succ fuel =>
  simp only [DataW.trod, ht, hce, hct, Nat.mul_one] at h
  split at h
  ·rename_i hl
   obtain ⟨xs, hm, hx⟩ := Option.map_eq_some_iff.1 h
   have hxs : xs.map (·.1) = zs.map fun z => (DataW.lit (.string z) : DataW H) := by
    have := congrArg Prod.fst hx
    simpa using this
   have hxl : xs.length = n := by simpa using Lib.mapM_length hm
   have hzl : zs.length = n := by
    have := congrArg List.length hxs
    simp at this
    omega
   apply List.ext_getElem?
   intro i
   by_cases hi : i < n
   ·obtain ⟨b, hb, hf⟩ := Lib.mapM_at hm i i (by simp [hi])
    obtain ⟨z, hc, rfl, _⟩ := DataW.trod_string he hf
    have h1 : cs[i]? = some (.string z) := by
     have := congrArg (·[0]?) hc
     simpa [List.getElem?_take, List.getElem?_drop] using this
    have h2 : (xs.map (·.1))[i]? = some (DataW.lit (.string z.data.toList) : DataW H) := by simp [hb]
    rw [hxs] at h2
    simp only [List.getElem?_map, Option.map_eq_some_iff, DataW.lit.injEq, Lit.string.injEq] at h2
    obtain ⟨z', hz', he'⟩ := h2
    simp [h1, hz', bytes, he']
   ·rw [List.getElem?_eq_none (by omega), List.getElem?_eq_none (by simp; omega)]
  ·cases h
def wordsL : List (List UInt8) := words.map fun b => b.data.toList
theorem env_of {W : World} (h : laidMetH Tryd.prog [("lockorder/token.words", Rows.laid_lockorder_token_words)] W) (hs : W.ShapedOpen Tryd.prog) : Env W := by
 obtain ⟨ps, ⟨g', t', cs, fuel, p, q, hg', ht', hvar, hd, _, _⟩, _⟩ := (show laidMet Tryd.prog [("lockorder/token.words", Rows.laid_lockorder_token_words)] W from h)
 obtain rfl := Option.some.inj (gWords.symm.trans hg')
 obtain rfl : t' = 97 := Option.some.inj (ht'.symm.trans (show (Tryd.prog.globals[0]?).map (·.type) = some 97 by kernel_rfl))
 have hc := cells_of_strs (zs := wordsL) (n := 11) (e := 9) Tryd.underlying97 Tryd.underlying9 (by kernel_rfl) (by kernel_rfl) hd
 refine ⟨fun j hj => ?_, ?_, ?_⟩
 ·have := World.var?_cell hg' hvar j
  rw [← Array.getElem?_toList, hc] at this
  rw [Nat.zero_add, this]
  have hj' : j < 11 := hj
  have : ∀ i, i < 11 → (wordsL.map fun z => Value.string (bytes z))[i]? = some (.string (words.getD i ByteArray.empty)) := by
   intro i hi
   simp only [wordsL, List.map_map]
   rw [List.getElem?_map, List.getElem?_eq_getElem (show i < words.length from hi)]
   simp [List.getD, show i < words.length from hi, bytes]
  simpa using this j hj'
 ·exact cell_of_shapedOpen_int (zero := #[.int .i64 0]) (t := 3) hs (of_decide_eq_true (by kernel_rfl)) (by kernel_rfl) rfl (by kernel_rfl) (by kernel_rfl) Tryd.underlying3
 ·obtain ⟨m, hm⟩ := cell_of_shapedOpen_int (zero := #[.int .i64 0]) (t := 3) (g := 2) hs (of_decide_eq_true (by kernel_rfl)) (by kernel_rfl) rfl (by kernel_rfl) (by kernel_rfl) Tryd.underlying3
  have := cell_lt hm
  exact this
theorem trodAll_below {H : Type} {enc : TypeId × Value → H} {W W' : World} (hb : Below W.heap.size W W') :
  ∀ {ts : List TypeId} {vs : List Value} {ds : List (DataW H)} {ps : List MemPlace}, (∀ t ∈ ts, Tryd.prog.readableRec t = true ∧ t < Tryd.prog.types.size) → DataW.TrodAll enc Tryd.prog W 0 (fun _ => true) true ts vs ds ps → (∀ x ∈ ps, x.block < W.heap.size) →
   DataW.TrodAll enc Tryd.prog W' 0 (fun b => decide (b < W.heap.size)) true ts vs ds ps
 | [], _, _, _, _, h, _ => by
  obtain ⟨rfl, rfl, rfl⟩ := trodAll_nil h
  exact trodAll_mk0
 | t :: ts, _, _, _, hr, h, hlt => by
  obtain ⟨v, vs1, d, ds1, a, b, rfl, rfl, rfl, h1, h2⟩ := trodAll_cons h
  have ht := hr t (List.mem_cons_self ..)
  exact ⟨a, b, Below.trod laidOut ht.1 ht.2 h1 hb (fun x hx => hlt x (List.mem_append_left _ hx)),
   trodAll_below hb (fun u hu => hr u (List.mem_cons_of_mem _ hu)) h2 (fun x hx => hlt x (List.mem_append_right _ hx)), rfl⟩
theorem law_post {H : Type} {enc : TypeId × Value → H} {F : Func} {s : ChangeSpec} {W W' : World} {args : Array Value} {ds gs : List (DataW H)} {before : List MemPlace}
  (hW : DataW.Whole enc Tryd.prog F.params.toList s.vars false W args.toList ds gs before) (hv : s.vars = []) (hfn : s.fn H ds = { results := [.lit (.bool true)], args := ds })
  (hread : ∀ t ∈ F.params.toList, Tryd.prog.readableRec t = true ∧ t < Tryd.prog.types.size) (hres : F.resultTypes = #[4]) (hb : Below W.heap.size W W') :
  ∃ v, Ending.returned (.bool true) = .returned v ∧ s.post enc Tryd.prog F false true false false W args v W' := by
 refine ⟨_, rfl, ?_⟩
 have hlt : ∀ p ∈ before, p.block < W.heap.size := fun p hp => by simpa using hW.lt p hp
 have hW' := hW
 obtain ⟨p, q, hA, hV, rfl, hfz, hnd⟩ := hW
 rw [hv] at hV
 obtain ⟨rfl, rfl⟩ := trodVars_none hV
 simp only [List.append_nil] at hlt hW'
 refine ⟨ds, [], p, [], p, [], hW', ?_, ?_, ?_, ?_, fun h => by cases h⟩
 ·rw [hres, List.append_nil, hfn]
  exact trodAll_cons_mk (shut_bool Tryd.underlying4 true) trodAll_mk0
 ·rw [List.append_nil, hfn]
  exact trodAll_below hb hread hA hlt
 ·rw [List.append_nil, hfn, hv]; rfl
 ·exact hb.frame _
theorem laid_met (os : Os) (args : Array Value) : laidMet Tryd.prog [("lockorder/token.words", Rows.laid_lockorder_token_words)] ((World.doorLaid Tryd.prog 60 os).forCall (fun _ _ => 0) ⟨#[], args, []⟩).memory :=
 laidMet_of_run' 8 (by kernel_rfl) (by kernel_rfl)
theorem add_of_cell {W : World} {a : Addr} {u : Value} (h : W.cell? (a.add 0) = some u) : ∃ b off, a = ⟨b, off, none⟩ := by
 obtain ⟨b, off, sp⟩ := a
 cases sp with
 | none => exact ⟨b, off, rfl⟩
 | some k =>
  exfalso
  simp only [Addr.add, if_true] at h
  unfold World.cell? at h
  split at h
  ·simp at h
  ·cases h
theorem byte_of_int (n : Int) (h : (Lit.int .u8 n).wf = true) : ((UInt8.ofNat n.toNat).toNat : Int) = n := by
 simp only [Lit.wf, Bool.and_eq_true, decide_eq_true_eq] at h
 have h1 : (0 : Int) ≤ n := h.1
 have h2 : n ≤ 255 := h.2
 rw [UInt8.toNat_ofNat']; omega
set_option maxRecDepth 100000 in
theorem open_bytes {H : Type} {enc : TypeId × Value → H} {W : World} {base : Nat} {v : Value} {d : DataW H} {p : List MemPlace} (hval : Value.okWide Tryd.prog W .any base 23 v) (hd : DataW.Trod enc Tryd.prog W 0 (fun _ => true) true 23 v d p) :
  ∃ (s : List UInt8) (a : Option Addr) (cap : Nat), v = .slice a s.length cap ∧ s.length ≤ cap ∧ cap ≤ maxLen ∧ RowAt W v s.length (bcells s) := by
 obtain ⟨a, len, cap, rfl⟩ := okWide_slice Tryd.underlying23 hval
 obtain ⟨fuel, hf⟩ := hd
 rcases open_ints Tryd.underlying23 Tryd.underlying5 (by kernel_rfl) hf with ⟨hcs, hx⟩ | ⟨a', len', cap', zs, hcs, _, hl, hm, hz, hx, hcell, hwz⟩
 ·simp [Value.cells] at hcs
  obtain ⟨rfl, rfl, rfl⟩ := hcs
  exact ⟨[], none, 0, rfl, Nat.le_refl _, (by unfold maxLen; omega), RowAt.nil _⟩
 ·simp [Value.cells] at hcs
  obtain ⟨rfl, rfl, rfl⟩ := hcs
  simp only [if_true] at hz
  have hlen : ((zs.take len).map fun n => UInt8.ofNat n.toNat).length = len := by rw [List.length_map, List.length_take]; omega
  refine ⟨(zs.take len).map fun n => UInt8.ofNat n.toNat, some a', cap, by rw [hlen], by rw [hlen]; exact hl, hm, some a', cap, by rw [hlen], by rw [hlen]; exact hl, ?_⟩
  by_cases h0 : len = 0
  ·left; subst h0; rfl
  ·right
   obtain ⟨b, off, rfl⟩ := add_of_cell (hcell 0 (by omega))
   refine ⟨b, off, rfl, fun j u hu => ?_⟩
   have hj : j < len := by
    rcases Nat.lt_or_ge j len with h | h
    ·exact h
    ·rw [List.getElem?_eq_none (by simp only [bcells, List.length_map]; rw [hlen] at *; simp; omega)] at hu; cases hu
   have hc := hcell j (by omega)
   rw [add_plain] at hc
   rw [hc]
   simp only [bcells, List.map_map, List.getElem?_map, List.getElem?_take, if_pos hj, List.getElem?_eq_getElem (show j < zs.length by omega), Option.map_some, Function.comp] at hu
   rw [← hu, byte_of_int _ (hwz _ (List.getElem_mem _))]
   simp [List.getD, show j < zs.length by omega]
end Go.Proofs.YtlbocidcjmehfaaDoor
namespace Go.Proofs.YtlbocidcjmehfaaDoor
open Go.ChangeShapes Go.WideShapes Go.ChangeAt Go.RowKit
set_option maxRecDepth 100000 in
theorem open_intsR {H : Type} {enc : TypeId × Value → H} {W : World} {base : Nat} {v : Value} {d : DataW H} {p : List MemPlace} (hval : Value.okWide Tryd.prog W .any base 22 v) (hd : DataW.Trod enc Tryd.prog W 0 (fun _ => true) true 22 v d p) :
  ∃ (s : List Int) (a : Option Addr) (cap : Nat), v = .slice a s.length cap ∧ s.length ≤ cap ∧ cap ≤ maxLen ∧ RowAt W v s.length (s.map (.int .i64)) := by
 obtain ⟨a, len, cap, rfl⟩ := okWide_slice Tryd.underlying22 hval
 obtain ⟨fuel, hf⟩ := hd
 rcases open_ints Tryd.underlying22 Tryd.underlying3 (by kernel_rfl) hf with ⟨hcs, hx⟩ | ⟨a', len', cap', zs, hcs, _, hl, hm, hz, hx, hcell, hwz⟩
 ·simp [Value.cells] at hcs
  obtain ⟨rfl, rfl, rfl⟩ := hcs
  exact ⟨[], none, 0, rfl, Nat.le_refl _, (by unfold maxLen; omega), RowAt.nil _⟩
 ·simp [Value.cells] at hcs
  obtain ⟨rfl, rfl, rfl⟩ := hcs
  simp only [if_true] at hz
  have hlen : (zs.take len).length = len := by rw [List.length_take]; omega
  refine ⟨zs.take len, some a', cap, by rw [hlen], by rw [hlen]; exact hl, hm, some a', cap, by rw [hlen], by rw [hlen]; exact hl, ?_⟩
  by_cases h0 : len = 0
  ·left; subst h0; rfl
  ·right
   obtain ⟨b, off, rfl⟩ := add_of_cell (hcell 0 (by omega))
   refine ⟨b, off, rfl, fun j u hu => ?_⟩
   have hj : j < len := by
    rcases Nat.lt_or_ge j len with h | h
    ·exact h
    ·rw [List.getElem?_eq_none (by rw [List.length_map, hlen]; exact h)] at hu; cases hu
   have hc := hcell j (by omega)
   rw [add_plain] at hc
   rw [hc]
   simp only [List.getElem?_map, List.getElem?_take, if_pos hj, List.getElem?_eq_getElem (show j < zs.length by omega), Option.map_some] at hu
   rw [← hu]
   simp [List.getD, show j < zs.length by omega]
end Go.Proofs.YtlbocidcjmehfaaDoor
namespace Go.Proofs.YtlbocidcjmehfaaDoor
open Go.RowKit
theorem neg_lt_tmod (x n : Int) (hn : 0 < n) : -n < x.tmod n := by
 by_cases hx : 0 ≤ x
 ·have := Int.tmod_nonneg n hx; omega
 ·have h1 := Int.tmod_lt_of_pos (-x) hn
  rw [Int.neg_tmod] at h1; omega
theorem tmod_within (x n : Int) (hn : 0 < n) : (x.tmod n + n).tmod n = x % n := by
 have h1 := Int.tmod_lt_of_pos x hn
 have h2 := neg_lt_tmod x n hn
 rw [Int.tmod_eq_emod_of_nonneg (by omega), Int.add_emod_right]
 rw [Int.tmod_def]
 rw [show x - n * x.tdiv n = x + n * (-(x.tdiv n)) by rw [Int.mul_neg]; omega, Int.add_mul_emod_self_left]
set_option maxHeartbeats 400000 in
theorem within_any (x n : Int) (w : World) (hn : 0 < n) (hn2 : n ≤ 4611686018427387904) :
  Calls Tryd.prog 12 #[.int .i64 x, .int .i64 n] w fun e w' => e = .returned (.int .i64 (x % n)) ∧ w = w' := by
 have h1 := Int.tmod_lt_of_pos x hn
 have h2 := neg_lt_tmod x n hn
 have h3 := tmod_within x n hn
 have h4 : 0 ≤ x % n := Int.emod_nonneg x (by omega)
 have h5 : x % n < n := Int.emod_lt_of_pos x hn
 have hw1 : IntKind.i64.wrap (x.tmod n) = x.tmod n := IntWalk.i64_in _ (by omega)
 have hw2 : IntKind.i64.wrap (x.tmod n + n) = x.tmod n + n := IntWalk.i64_in _ (by omega)
 have hw3 : IntKind.i64.wrap (x % n) = x % n := IntWalk.i64_in _ (by omega)
 go_enter Tryd.func12, Tryd.ntmps12
 go_wp2
 go_ret
 exact ⟨ret_int (by simp [h3]), rfl⟩
end Go.Proofs.YtlbocidcjmehfaaDoor
namespace Go.Proofs.YtlbocidcjmehfaaDoor
open Go.RowKit
theorem grownCap_le (w : World) (n : Nat) (e : TypeId) (hn : n < 9223372036854775808) : n ≤ grownCap w n 0 e ∧ grownCap w n 0 e ≤ 9223372036854775807 := by
 unfold grownCap Question.cut
 have : w.tape w.drawn (.appendCap n 0 e) % (2 ^ 63 - n) < 2 ^ 63 - n := Nat.mod_lt _ (by omega)
 simp only
 omega
theorem row_of_string (w : World) (s : ByteArray) (c : Nat) (T : TypeId) (hc : s.size ≤ c) (fr : Nat × Nat) : RowAt (w.drew.alloc (.cells (bytesRow s c) T fr)) (.slice (some ⟨w.heap.size, 0, none⟩) s.size c) s.data.toList.length (bcells s.data.toList) := by
 refine ⟨_, _, rfl, hc, .inr ⟨_, 0, rfl, fun j u hu => ?_⟩⟩
 have hm := World.cell?_alloc_mark w.drew (bytesRow s c) T fr j
 rw [Nat.zero_add]
 have e : (⟨w.drew.heap.size, j, none⟩ : Addr) = ⟨w.heap.size, j, none⟩ := rfl
 rw [← e, hm]
 have hj : j < s.data.toList.length := by
  have := (List.getElem?_eq_some_iff.1 hu).1
  simpa [bcells] using this
 unfold bytesRow
 rw [Array.getElem?_append_left (by simpa using hj)]
 simp only [bcells, List.getElem?_map] at hu
 simpa using hu
theorem bytes_of (w : World) (s : ByteArray) : (convert 9 23 (.string s)).run Tryd.prog w = .ok (.slice (some ⟨w.heap.size, 0, none⟩) s.size (grownCap w s.size 0 5))
   (w.drew.alloc (.cells (bytesRow s (grownCap w s.size 0 5)) 5 ((bytesRow s (grownCap w s.size 0 5)).size, (bytesRow s (grownCap w s.size 0 5)).size + 1))) :=
 run_bytes_of_string w 9 23 5 s Tryd.underlying9 Tryd.underlying23 Tryd.underlying5
theorem below_str (w : World) (o : Obj) : Below w.heap.size w (w.drew.alloc o) := ((Below.refl _ _).drew).alloc (Nat.le_refl _) _
theorem lex_str (s : ByteArray) (w : World) (he : Env w) (hs : s.size < 9223372036854775808) (c : Nat) (hc : c = grownCap w s.size 0 5) (fr : Nat × Nat) :
  Calls Tryd.prog 15 #[.slice (some ⟨w.heap.size, 0, none⟩) s.size c] ((w.alloc (.cells (bytesRow s c) 5 fr)).drew)
   fun e w' => (∃ v pos er, e = .returned (.tuple #[v, .int .i64 pos, .int .i64 er]) ∧ LexR w' s.data.toList v pos er) ∧ Below w.heap.size w w' := by
 subst hc
 exact (tLex_any s.data.toList _ (w.drew.alloc _) (he.below (below_str w _) he.size) (row_of_string w s _ _ (grownCap_le w _ _ hs).1 _)).mono fun e w' ⟨h, hb⟩ => ⟨h, Below.step (below_str w _) hb⟩
end Go.Proofs.YtlbocidcjmehfaaDoor
