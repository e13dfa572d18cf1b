import Derived.Test.YtflcnehhpmjipaaGreatDoorA2J
import Derived.Test.YtflcnehhpmjipaaGreatDoorA1J
import Derived.Deep.QuietTactic
import Derived.BigQuiet
set_option linter.unusedVariables false
set_option linter.unusedSimpArgs false
namespace Go.Proofs.YtflcnehhpmjipaaGreatDoor
open Go.RowKit
def Tok.cells (t : Tok) : List Value := [.int .i64 t.kind, .string t.text, .int .i64 t.num, .int .i64 t.pos]
def toksCells (l : List Tok) : List Value := l.flatMap Tok.cells
theorem toksCells_snoc (l : List Tok) (t : Tok) : toksCells l ++ [.int .i64 t.kind, .string t.text, .int .i64 t.num, .int .i64 t.pos] = toksCells (l ++ [t]) := by simp [toksCells, Tok.cells]
theorem tokInfo : (Tryz.prog.info? 72).map (fun i => (i.zero, i.size, i.bytes)) = some (some (.agg #[.int .i64 0, .string ⟨#[]⟩, .int .i64 0, .int .i64 0]), 4, 40) := by kernel_rfl
theorem nextP_err {l : List UInt8} {k num er : Int} {text : ByteArray} {n : Nat} (h : nextP l k num er text) (hn : nextL l = .err n) : er = n ∧ (n : Int) ≠ 0 := by
 rcases h with ⟨m, h1, h2, h3⟩ | ⟨_, _, _, h1, _⟩
 ·rw [hn] at h1; cases h1; exact ⟨h2, by omega⟩
 ·rw [hn] at h1; cases h1
theorem nextP_tok {l : List UInt8} {k num er : Int} {text : ByteArray} {a b c : Nat} (h : nextP l k num er text) (hn : nextL l = .tok a b c) : er = 0 ∧ k = a ∧ num = c ∧ text = bytes (l.take b) := by
 rcases h with ⟨m, h1, h2, h3⟩ | ⟨_, _, _, h1, h2, h3, h4, h5⟩
 ·rw [hn] at h1; cases h1
 ·rw [hn] at h1; cases h1; exact ⟨h2, h3, h4, h5⟩
def LexR (w : World) (s : List UInt8) (v : Value) (pos er : Int) : Prop :=
 (∃ l, lexL s = .ok l ∧ RowAt w v l.length (toksCells l) ∧ pos = s.length ∧ er = 0 ∧ l.length ≤ 4001) ∨ (∃ p e : Nat, lexL s = .err p e ∧ v = .slice none 0 0 ∧ pos = p ∧ er = e ∧ e ≠ 0)
def LexF (w : World) (N : Nat) (s : List UInt8) (v : Value) (pos er : Int) : Prop :=
 (∃ l, lexL s = .ok l ∧ w.ownsRow N 72 4 v l.length (toksCells l) ∧ pos = s.length ∧ er = 0 ∧ l.length ≤ 4001) ∨ (∃ p e : Nat, lexL s = .err p e ∧ v = .slice none 0 0 ∧ pos = p ∧ er = e ∧ e ≠ 0)
theorem LexF.r {w : World} {N : Nat} {s : List UInt8} {v : Value} {pos er : Int} (h : LexF w N s v pos er) : LexR w s v pos er :=
 h.imp (fun ⟨l, h1, h2, h3⟩ => ⟨l, h1, RowAt.of_owns h2, h3⟩) id
set_option maxRecDepth 100000 in
set_option maxHeartbeats 400000 in
theorem lex_long (a : Option Addr) (n cap : Nat) (w : World) (hs : (262144 : Int) < n) :
  Calls Tryz.prog 35 #[.slice a n cap] w fun e w' => e = .returned (.tuple #[.slice none 0 0, .int .i64 262144, .int .i64 3]) ∧ w = w' := by
 go_enter Tryz.func35, Tryz.ntmps35
 go_wp2_with fail
 go_step3
 go_wp2_with fail
 rw [Exit.noGoto_ret]
 go_ret3
 exact ⟨rfl, rfl⟩
set_option maxRecDepth 100000 in
set_option maxHeartbeats 800000 in
theorem lex_any (s : ByteArray) (a : Option Addr) (n cap : Nat) (w : World) (he : Env w) (hn : n = s.size) (hs : s.size ≤ 262144)
  (hcv : (convert 23 9 (.slice a n cap)).run Tryz.prog w = .ok (.string s) w) :
  Calls Tryz.prog 35 #[.slice a n cap] w fun e w' => (∃ v pos er, e = .returned (.tuple #[v, .int .i64 pos, .int .i64 er]) ∧ LexF w' w.heap.size s.data.toList v pos er) ∧ Below w.heap.size w w' := by
 subst hn
 obtain ⟨i0, hi, hz0, hz1, hz2⟩ := info_parts tokInfo
 have HS := Lib.hid (show s.data.toList.length = s.size from rfl)
 go_enter Tryz.func35, Tryz.ntmps35
 go_wp2_with fail
 go_step3
 go_wp2_with fail
 go_step3
 go_wp2_with fail
 go_loopw [6, 7] (fun v at_ wr => ∃ (k : Nat) (toks : List Tok), at_ = .int .i64 k ∧ k ≤ s.size ∧ wr.ownsRow w.heap.size 72 4 v toks.length (toksCells toks) ∧ lexT s.data.toList 0 0 = Lexed.app toks (lexT s.data.toList k toks.length) ∧ toks.length ≤ 4000 ∧ Below w.heap.size w wr) (fun _ at_ _ => s.size - (intOf at_).toNat)
 case atStart => exact ⟨0, [], rfl, by omega, ownsRow_nil _ _ _ _, by rw [Lexed.app_nil]; rfl, by simp, Below.refl _ _⟩
 case round =>
  obtain ⟨k, toks, rfl, hk, hown, hlx, hlen, hbel⟩ := hrel
  have heW : Env wr := he.below hbel he.size
  obtain ⟨oa, oc, rfl⟩ := owns_slice hown
  have hge := skipN_ge s.data.toList k hk
  have HLX := Lib.hid hlx
  clear hlx hcv
  by_cases hend : s.size ≤ skipN s.data.toList k
  ·go_wp2_with (first | (go_at_call 64; refine (skip_any _ _ _ (by omega) hk).mono ?_; rintro e w' ⟨rfl, rfl⟩) | (at_builtin; refine wpList_append_own _ rfl _ _ 47 rfl w.heap.size 72 i0 _ 4 40 Tryz.underlying47 hi hz0 hz1 hz2 rfl (by decide) _ toks.length (toksCells toks) rfl (ownsRow_below hown ((Below.refl _ _).alloc (Nat.le_refl _) _) (Nat.le_refl _)) ⟨wr.heap.size, 0, none⟩ 1 1 [.int .i64 5, .string ⟨#[]⟩, .int .i64 0, .int .i64 s.size] rfl rfl (new_cells _ _ _) (by simp [Value.oneCell']) (by unfold maxLen; omega) (by omega) (by have := hbel.size; simp; omega) ?_))
   intro v' w1 hown1 hgrow _
   have hb1 : Below w.heap.size w w1 := Below.grow (hbel.alloc hbel.size _) hgrow (by have := hbel.size; simp; omega) (ownsRow_below hown ((Below.refl _ _).alloc (Nat.le_refl _) _) (Nat.le_refl _)) (Nat.le_refl _)
   clear hgrow
   go_wp2_with fail
   rw [Exit.noGoto_ret]
   go_ret3
   refine ⟨⟨_, _, _, rfl, .inl ⟨toks ++ [⟨5, ⟨#[]⟩, 0, s.size⟩], ?_, ?_, by rw [HS.out], rfl, by simp; omega⟩⟩, hb1⟩
   ·unfold lexL
    rw [if_neg (by rw [HS.out]; omega), HLX.out, lexT_end (by rw [HS.out]; exact hend), HS.out]; rfl
   ·have := hown1
    rw [← toksCells_snoc]; simpa using this
  ·have hlt : skipN s.data.toList k < s.size := by omega
   have hx : s.extract (skipN s.data.toList k) s.size = bytes (s.data.toList.drop (skipN s.data.toList k)) := by
    have := ByteArray.extract_mk s.data.toList (skipN s.data.toList k) s.size
    rw [show (ByteArray.mk s.data.toList.toArray) = s from by simp] at this
    rw [this, bytes]; congr 2; exact List.take_of_length_le (by rw [List.length_drop, HS.out]; omega)
   have hsz : (bytes (s.data.toList.drop (skipN s.data.toList k))).size = s.size - skipN s.data.toList k := by rw [bytes]; show (List.drop _ _).toArray.size = _; rw [List.size_toArray, List.length_drop, HS.out]
   have HZ := Lib.hid hsz
   have hbd := bytes_toList (s.data.toList.drop (skipN s.data.toList k))
   have HD := Lib.hid hbd
   clear hsz hbd
   cases hnx : nextL (s.data.toList.drop (skipN s.data.toList k)) with
   | err en =>
    have HN := Lib.hid hnx
    clear hnx
    go_wp2_with (first | (go_at_call 64; refine (skip_any _ _ _ (by omega) hk).mono ?_; rintro e w' ⟨rfl, rfl⟩) | (go_at_call 65; refine (next_any _ _ (by rw [HZ.out]; omega) heW (by rw [HZ.out]; omega)).mono ?_; rintro e w1 ⟨⟨kd, num, er, text, rfl, hR⟩, hb⟩; rw [HD.out] at hR; obtain ⟨rfl, hne⟩ := nextP_err hR HN.out; clear hR; obtain ⟨hc, hf⟩ := bcell hb))
    rw [Exit.noGoto_ret]
    go_ret3
    refine ⟨⟨_, _, _, rfl, .inr ⟨skipN s.data.toList k, en, ?_, rfl, rfl, rfl, by omega⟩⟩, (hbel.trans (hb.mono hbel.size)).alloc (Nat.le_trans hbel.size hb.size) _⟩
    unfold lexL
    rw [if_neg (by rw [HS.out]; omega), HLX.out, lexT_err (by rw [HS.out]; exact hlt) HN.out]; rfl
   | tok nk len nu =>
    have hl1 := nextL_len (by intro h; have := congrArg List.length h; rw [List.length_drop, HS.out] at this; simp at this; omega) hnx
    rw [List.length_drop, HS.out] at hl1
    have HN := Lib.hid hnx
    clear hnx
    have htx : (bytes ((s.data.toList.drop (skipN s.data.toList k)).take len)).size = len := by
     rw [bytes]; show (List.take _ _).toArray.size = _; rw [List.size_toArray, List.length_take, List.length_drop, HS.out]; omega
    by_cases hfull : toks.length = 4000
    ·have hf1 : ((toks.length : Int) == 4000) = true := by rw [beq_iff_eq]; omega
     have HF := Lib.hid hfull
     clear hfull htx
     go_wp2_with (first | (go_at_call 64; refine (skip_any _ _ _ (by omega) hk).mono ?_; rintro e w' ⟨rfl, rfl⟩) | (go_at_call 65; refine (next_any _ _ (by rw [HZ.out]; omega) heW (by rw [HZ.out]; omega)).mono ?_; rintro e w1 ⟨⟨kd, num, er, text, rfl, hR⟩, hb⟩; rw [HD.out] at hR; obtain ⟨rfl, rfl, rfl, rfl⟩ := nextP_tok hR HN.out; clear hR; obtain ⟨hc, hf⟩ := bcell hb))
     rw [Exit.noGoto_ret]
     go_ret3
     refine ⟨⟨_, _, _, rfl, .inr ⟨skipN s.data.toList k, 3, ?_, rfl, rfl, rfl, by omega⟩⟩, (hbel.trans (hb.mono hbel.size)).alloc (Nat.le_trans hbel.size hb.size) _⟩
     unfold lexL
     rw [if_neg (by rw [HS.out]; omega), HLX.out, HF.out, lexT_full (by rw [HS.out]; exact hlt) HN.out]; rfl
    ·have hf1 : ((toks.length : Int) == 4000) = false := by rw [beq_eq_false_iff_ne]; omega
     have HF := Lib.hid hfull
     have hlen2 : toks.length < 4000 := by omega
     clear hfull
     go_wp2_with (first | (go_at_call 64; refine (skip_any _ _ _ (by omega) hk).mono ?_; rintro e w' ⟨rfl, rfl⟩) | (go_at_call 65; refine (next_any _ _ (by rw [HZ.out]; omega) heW (by rw [HZ.out]; omega)).mono ?_; rintro e w1 ⟨⟨kd, num, er, text, rfl, hR⟩, hb⟩; rw [HD.out] at hR; obtain ⟨rfl, rfl, rfl, rfl⟩ := nextP_tok hR HN.out; clear hR; obtain ⟨hc, hf⟩ := bcell hb) | (at_builtin; refine wpList_append_own _ rfl _ _ 47 rfl w.heap.size 72 i0 _ 4 40 Tryz.underlying47 hi hz0 hz1 hz2 rfl (by decide) _ toks.length (toksCells toks) rfl (ownsRow_below hown ((hb.alloc hb.size _).alloc (by have := hb.size; simp; omega) _) (Nat.le_refl _)) ⟨w1.heap.size + 1, 0, none⟩ 1 1 [.int .i64 nk, .string (bytes ((s.data.toList.drop (skipN s.data.toList k)).take len)), .int .i64 nu, .int .i64 (skipN s.data.toList k)] rfl rfl (new_cells_at _ _ _ _ (by simp)) (by simp [Value.oneCell']) (by unfold maxLen; omega) (by omega) (by have := hbel.size; have := hb.size; simp; omega) ?_))
     intro v' w2 hown2 hgrow _
     have hb2 : Below w.heap.size w w2 := Below.grow (((hbel.trans (hb.mono hbel.size)).alloc (Nat.le_trans hbel.size hb.size) _).alloc (by have := hbel.size; have := hb.size; simp; omega) _) hgrow (by have := hbel.size; have := hb.size; simp; omega) (ownsRow_below hown ((hb.alloc hb.size _).alloc (by have := hb.size; simp; omega) _) (Nat.le_refl _)) (Nat.le_refl _)
     have hcw : ∀ o, w2.cell? ⟨w1.heap.size, o, none⟩ = ((w1.alloc (Obj.cells #[.int .i64 nk, .string (bytes ((s.data.toList.drop (skipN s.data.toList k)).take len)), .int .i64 nu, .int .i64 (skipN s.data.toList k)] 72)).cell? ⟨w1.heap.size, o, none⟩) := by
      intro o
      rw [grow_cell hgrow hown hb.size (by simp; omega) o]
      exact (Below.alloc (B := (w1.alloc (Obj.cells #[.int .i64 nk, .string (bytes ((s.data.toList.drop (skipN s.data.toList k)).take len)), .int .i64 nu, .int .i64 (skipN s.data.toList k)] 72)).heap.size) (Below.refl _ _) (Nat.le_refl _) _).cell (p := ⟨w1.heap.size, o, none⟩) (by simp)
     clear hgrow
     go_wp2_with fail
     go_roundw
     case rel =>
      refine ⟨skipN s.data.toList k + len, toks ++ [⟨nk, bytes ((s.data.toList.drop (skipN s.data.toList k)).take len), nu, skipN s.data.toList k⟩], by go_num, by omega, ?_, ?_, by simp; omega, hb2⟩
      ·rw [← toksCells_snoc]; simpa using hown2
      ·rw [HLX.out, lexT_tok (by rw [HS.out]; exact hk) (by rw [HS.out]; exact hlt) HN.out HF.out, Lexed.app_cons]; simp
     case measure => simp [intOf]; omega
theorem lex_big (a : Option Addr) (n cap : Nat) (w : World) (s : List UInt8) (hn : n = s.length) (hs : 262144 < n) :
  Calls Tryz.prog 35 #[.slice a n cap] w fun e w' => (∃ v pos er, e = .returned (.tuple #[v, .int .i64 pos, .int .i64 er]) ∧ LexF w' w.heap.size s v pos er) ∧ Below w.heap.size w w' := by
 refine (lex_long a n cap w (by omega)).mono fun e w' ⟨h, hw⟩ => ?_
 subst hw
 refine ⟨⟨_, _, _, h, .inr ⟨262144, 3, ?_, rfl, rfl, rfl, by omega⟩⟩, Below.refl _ _⟩
 unfold lexL; rw [if_pos (by omega)]
theorem Lex_own (s : List UInt8) (v : Value) (w : World) (he : Env w) (hv : RowAt w v s.length (s.map fun c => .int .u8 c.toNat)) :
  Calls Tryz.prog 35 #[v] w fun e w' => (∃ v pos er, e = .returned (.tuple #[v, .int .i64 pos, .int .i64 er]) ∧ LexF w' w.heap.size s v pos er) ∧ Below w.heap.size w w' := by
 obtain ⟨a, cap, rfl, hc, hcells⟩ := hv
 by_cases hs : 262144 < s.length
 ·exact lex_big a _ cap w s rfl hs
 have hconv : (convert 23 9 (.slice a s.length cap)).run Tryz.prog w = .ok (.string (bytes s)) w := by
  rcases hcells with h0 | ⟨b, off, rfl, hr⟩
  ·obtain rfl : s = [] := by simpa using h0
   cases a with
   | none => exact run_convert_bytes_nil w _ _ Tryz.underlying23 Tryz.underlying5 _ _ _ Tryz.underlying9
   | some a =>
    have hl := run_loadCells_list (P := Tryz.prog) w a [] (fun j v hj => by simp at hj)
    rw [run_convert_bytes_string w _ _ _ _ _ _ Tryz.underlying23 Tryz.underlying5 Tryz.underlying9, List.length_nil, run_bytesToString w a 0 cap [] (by simpa using hl)]
    rfl
  ·rw [run_convert_bytes_arg w _ _ Tryz.underlying23 Tryz.underlying5 b off s.length cap (s.map fun c => (c.toNat : Int)) (by simp) ?_ _ Tryz.underlying9]
   ·rw [strOfNums, List.map_map, bytes]; congr 3; rw [show ((fun n : Int => UInt8.ofNat n.toNat) ∘ fun c : UInt8 => (c.toNat : Int)) = id from by funext c; simp]; simp
   ·intro i hi
    rw [hr i (.int .u8 s[i].toNat) (by simp [hi])]; simp [hi]
 have := lex_any (bytes s) a s.length cap w he (by simp [bytes, ByteArray.size]) (by show (List.toArray s).size ≤ _; rw [List.size_toArray]; omega) hconv
 rw [bytes_toList] at this; exact this
end Go.Proofs.YtflcnehhpmjipaaGreatDoor
namespace Go.Proofs.YtflcnehhpmjipaaGreatDoor
open Go.RowKit
def SameT (places : Bool) (l m : List Tok) : Prop := l.length = m.length ∧ ∀ k (h : k < l.length) (h' : k < m.length), l[k].kind = m[k].kind ∧ l[k].text = m[k].text ∧ l[k].num = m[k].num ∧ (places = true → l[k].pos = m[k].pos)
theorem SameT.refl (p : Bool) (l : List Tok) : SameT p l l := ⟨rfl, fun _ _ _ => ⟨rfl, rfl, rfl, fun _ => rfl⟩⟩
theorem RowAt.new_mark (w : World) (l : List Value) (T : TypeId) (n : Nat) (fr : Nat × Nat) : RowAt (w.alloc (Obj.cells l.toArray T fr)) (.slice (some ⟨w.heap.size, 0, none⟩) n n) n l :=
 ⟨_, _, rfl, Nat.le_refl _, .inr ⟨_, 0, rfl, fun j u hu => by rw [Nat.zero_add, World.cell?_alloc_mark]; simpa using hu⟩⟩
end Go.Proofs.YtflcnehhpmjipaaGreatDoor
