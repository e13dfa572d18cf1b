import Derived.Test.YtflcnehhpmjipaaGreatDoorA4J
set_option linter.unusedVariables false
set_option linter.unusedSimpArgs false
namespace Go.Proofs.YtflcnehhpmjipaaGreatDoor
open Go.RowKit
theorem rskip_at (s : List UInt8) (k0 : Nat) (z : Int) (hz : z = k0) (a : Option Addr) (cap : Nat) (w : World) (hr : bcells s = [] ∨ ∃ b off, a = some ⟨b, off, none⟩ ∧ ∀ j u, (bcells s)[j]? = some u → w.cell? ⟨b, off + j, none⟩ = some u) (hc : s.length ≤ cap) (hs : s.length ≤ 1000000) (hk : k0 ≤ s.length) :
  Calls Tryz.prog 38 #[.slice a s.length cap, .int .i64 z] w fun e w' => e = .returned (.int .i64 (skipN s k0)) ∧ w = w' := by
 subst hz; exact rskip_any s k0 _ w ⟨a, cap, rfl, hc, hr⟩ hs hk
theorem lex_step {s : List UInt8} {k p kind len num : Nat} {toks : List Tok} (HP : p = skipN s k) (hk : k ≤ s.length) (hlt : p < s.length) (hN : nextL (s.drop p) = .tok kind len num) (hn : toks.length ≠ 4000) (HLX : lexT s 0 0 = Lexed.app toks (lexT s k toks.length)) :
  lexT s 0 0 = Lexed.app (toks ++ [⟨kind, bytes ((s.drop p).take len), num, p⟩]) (lexT s (p + len) (toks ++ [(⟨kind, bytes ((s.drop p).take len), num, p⟩ : Tok)]).length) := by
 subst HP; rw [HLX, lexT_tok hk hlt hN hn, Lexed.app_cons]; simp
theorem lex_full {s : List UInt8} {k p kind len num : Nat} {toks : List Tok} (hs : s.length ≤ 262144) (HP : p = skipN s k) (hlt : p < s.length) (hN : nextL (s.drop p) = .tok kind len num) (hn : toks.length = 4000) (HLX : lexT s 0 0 = Lexed.app toks (lexT s k toks.length)) : lexL s = .err p 3 := by
 subst HP; unfold lexL; rw [if_neg (by omega), HLX, hn, lexT_full hlt hN]; rfl
theorem lex_fail {s : List UInt8} {k p e : Nat} {toks : List Tok} (hs : s.length ≤ 262144) (HP : p = skipN s k) (hlt : p < s.length) (hN : nextL (s.drop p) = .err e) (HLX : lexT s 0 0 = Lexed.app toks (lexT s k toks.length)) : lexL s = .err p e := by
 subst HP; unfold lexL; rw [if_neg (by omega), HLX, lexT_err hlt hN]; rfl
theorem reserved_len {l : List UInt8} (h : reserved (bytes l) = true) : l.length ≤ 16 := by
 rw [reserved_iff] at h
 have hall : ∀ x ∈ words, x.data.toList.length ≤ 16 := by decide
 have := hall _ h
 rw [bytes_toList] at this; exact this
theorem cell_set {w : World} {a : Addr} {u : Value} {b o : Nat} (h : b ≠ a.block) : (w.setCell a u).cell? ⟨b, o, none⟩ = w.cell? ⟨b, o, none⟩ :=
 World.cell?_of_block (a := ⟨b, o, none⟩) (Below.heap_setCell w a u b h)
theorem rnumber_at {s : List UInt8} {b off : Nat} {w : World} (hr : ∀ j u, (bcells s)[j]? = some u → w.cell? ⟨b, off + j, none⟩ = some u) (p len cap : Nat) (hpl : p + len ≤ s.length) (hcl : len ≤ cap ∧ s.length ≤ 1000000) (hd : ∀ c ∈ (s.drop p).take len, isDig c = true) (w' : World) (hw : ∀ o, w'.cell? ⟨b, o, none⟩ = w.cell? ⟨b, o, none⟩) :
  Calls Tryz.prog 42 #[.slice (some ⟨b, off + p, none⟩) len cap] w' fun e w'' => e = .returned (.int .i64 (numI ((s.drop p).take len))) ∧ w' = w'' := by
 have hl : ((s.drop p).take len).length = len := by rw [List.length_take, List.length_drop]; omega
 refine rnumber_any ((s.drop p).take len) _ w' ⟨_, cap, by rw [hl], by rw [hl]; exact hcl.1, .inr ⟨b, off + p, rfl, fun j u hu => by rw [hw]; exact subRow2 hr p len j u hu⟩⟩ (by rw [hl]; omega) hd
theorem brow_below {s : List UInt8} {a : Option Addr} {w w' : World} (hr : bcells s = [] ∨ ∃ b off, a = some ⟨b, off, none⟩ ∧ ∀ j u, (bcells s)[j]? = some u → w.cell? ⟨b, off + j, none⟩ = some u) (hb : Below w.heap.size w w') :
  bcells s = [] ∨ ∃ b off, a = some ⟨b, off, none⟩ ∧ ∀ j u, (bcells s)[j]? = some u → w'.cell? ⟨b, off + j, none⟩ = some u :=
 hr.imp id fun ⟨b, off, ha, h⟩ => ⟨b, off, ha, fun j u hu => by
  have h1 := h j u hu
  rw [hb.cell (p := ⟨b, off + j, none⟩) (cell_lt h1)]; exact h1⟩
set_option maxRecDepth 100000 in
set_option maxHeartbeats 1600000 in
theorem rlex_any (s : List UInt8) (a : Option Addr) (cap : Nat) (w : World) (hs : s.length ≤ 262144) (hc : s.length ≤ cap) (hcm : cap ≤ 9223372036854775807)
  (hr : bcells s = [] ∨ ∃ b off, a = some ⟨b, off, none⟩ ∧ ∀ j u, (bcells s)[j]? = some u → w.cell? ⟨b, off + j, none⟩ = some u) :
  Calls Tryz.prog 19 #[.slice a s.length cap] w fun e w' => (∃ v pos er, e = .returned (.tuple #[v, .int .i64 pos, .int .i64 er]) ∧ LexF w' w.heap.size s v pos er) ∧ Below w.heap.size w w' := by
 obtain ⟨i0, hi, hz0, hz1, hz2⟩ := info_parts tokInfo
 have HR := Lib.hid hr
 clear hr
 go_enter Tryz.func19, Tryz.ntmps19
 go_wp2_with (first | (go_at_call 38; refine (rskip_at s 0 _ rfl _ _ _ HR.out hc (by omega) (by omega)).mono ?_; rintro e w' ⟨rfl, rfl⟩))
 go_loopw [5, 6] (fun v at_ wr => ∃ (k : Nat) (toks : List Tok), at_ = .int .i64 (skipN s k) ∧ k ≤ s.length ∧ wr.ownsRow w.heap.size 72 4 v toks.length (toksCells toks) ∧ lexT s 0 0 = Lexed.app toks (lexT s k toks.length) ∧ toks.length ≤ 4000 ∧ Below w.heap.size w wr) (fun _ at_ _ => s.length - (intOf at_).toNat)
 case atStart => exact ⟨0, [], rfl, by omega, ownsRow_nil _ _ _ _, by rw [Lexed.app_nil]; rfl, by simp, Below.refl _ _⟩
 case round =>
  obtain ⟨k, toks, rfl, hk, hown, hlx, hlen, hbel⟩ := hrel
  obtain ⟨oa, oc, rfl⟩ := owns_slice hown
  have HLX := Lib.hid hlx
  have hrr := brow_below HR.out hbel
  have HRR := Lib.hid hrr
  clear hlx hrr
  have hle := skipN_le s k
  by_cases hend : s.length ≤ skipN s k
  ·have hee : skipN s k = s.length := by omega
   have heq : ((skipN s k : Int) == s.length) = true := by rw [beq_iff_eq]; omega
   have HE := Lib.hid hee
   clear hee
   go_wp2_with (at_builtin; refine wpList_append_own _ rfl _ _ 47 rfl w.heap.size 72 i0 _ 4 40 Tryz.underlying47 hi hz0 hz1 hz2 rfl (by decide) _ toks.length (toksCells toks) rfl (ownsRow_below hown ((Below.refl _ _).alloc (Nat.le_refl _) _) (Nat.le_refl _)) ⟨wr.heap.size, 0, none⟩ 1 1 [.int .i64 5, .string ⟨#[]⟩, .int .i64 0, .int .i64 (skipN s k)] rfl rfl (new_cells _ _ _) (by simp [Value.oneCell']) (by unfold maxLen; omega) (by omega) (by have := hbel.size; simp; omega) ?_)
   intro v' w1 hown1 hgrow _
   have hb1 : Below w.heap.size w w1 := Below.grow (hbel.alloc hbel.size _) hgrow (by have := hbel.size; simp; omega) (ownsRow_below hown ((Below.refl _ _).alloc (Nat.le_refl _) _) (Nat.le_refl _)) (Nat.le_refl _)
   clear hgrow
   go_wp2_with fail
   go_ret3
   refine ⟨⟨_, _, _, rfl, .inl ⟨toks ++ [⟨5, ⟨#[]⟩, 0, s.length⟩], ?_, ?_, by rw [HE.out], rfl, by simp; omega⟩⟩, hb1⟩
   ·unfold lexL
    rw [if_neg (by omega), HLX.out, lexT_end hend]; rfl
   ·have := hown1
    rw [← toksCells_snoc, ← HE.out]; simpa using this
  ·have hlt : skipN s k < s.length := by omega
   have hne : ((skipN s k : Int) == s.length) = false := by rw [beq_eq_false_iff_ne]; omega
   obtain ⟨p, hp⟩ : ∃ p, p = skipN s k := ⟨_, rfl⟩
   have HP := Lib.hid hp
   rw [← hp] at hlt hne hle ⊢
   clear hp hend
   rcases HRR.out with h0 | ⟨b, off, rfl, hr⟩
   ·have : s.length = 0 := by simpa [bcells] using congrArg List.length h0
    omega
   have hblt : b < wr.heap.size := cell_lt (ByteRow.cell hr p hlt)
   have hcell := ByteRow.cell hr p hlt
   have HB := Lib.hid hr
   clear hr
   cases hl : isLet s[p] with
   | true =>
    obtain ⟨len, hlen2⟩ : ∃ len, len = ((s.drop p).takeWhile isNam).length := ⟨_, rfl⟩
    have hpl : p + len ≤ s.length := by have := (List.takeWhile_sublist (l := s.drop p) isNam).length_le; rw [← hlen2, List.length_drop] at this; omega
    have hname : nextL (s.drop p) = if 16 < len then .err 3 else .tok (if reserved (bytes ((s.drop p).take len)) then 3 else 1) len 0 := by
     have h1 := nextL_name (c := s[p]) (r := s.drop (p + 1)) hl
     rw [← drop_cons s p hlt, ← hlen2] at h1
     rw [show (s.drop p).take len = (s.drop p).takeWhile isNam from by rw [hlen2]; exact takeWhile_take isNam (s.drop p)]
     exact h1
    have hl0 : 0 < len := by rw [hlen2, drop_cons s p hlt, List.takeWhile_cons_of_pos (by simp [isNam, hl])]; simp
    have HNM := Lib.hid hname
    have HL2 := Lib.hid hlen2
    clear hlen2 hname
    go_wp2_with (first | (go_at_call 39; refine (rletter_any _ _).mono ?_; rintro e w' ⟨rfl, rfl⟩))
    go_hide hQ
    go_loop [8] (fun v => ∃ d : Nat, d ≤ len ∧ v = .int .i64 ((p : Int) + d) ∧ len = d + (((s.drop p).drop d).takeWhile isNam).length) (fun v => s.length - (intOf v).toNat)
    case atStart => exact ⟨0, by omega, by simp, by rw [HL2.out]; simp⟩
    case round =>
     obtain ⟨d, hd, rfl, hinv⟩ := hrel
     have HI := Lib.hid hinv
     clear hinv
     by_cases hlt2 : p + d < s.length
     ·have g1 : (p : Int) + d < s.length := by omega
      have hcell2 := ByteRow.cell HB.out (p + d) hlt2
      have hst := takeWhile_step isNam (s.drop p) d (by rw [List.length_drop]; omega) (by rw [← HL2.out]; exact HI.out)
      rw [List.getElem_drop, ← HL2.out] at hst
      have HST := Lib.hid hst
      clear hst
      cases hn : isNam s[p + d] with
      | true =>
       have hnx := HST.out.1 hn
       have HNX := Lib.hid hnx
       have hdl : d + 1 ≤ len := by omega
       unfold isNam at hn
       have HN := Lib.hid hn
       clear hnx hn
       go_wp2_with (first | (go_at_call 39; refine (rletter_any _ _).mono ?_; rintro e w' ⟨rfl, rfl⟩) | (go_at_call 40; refine (rdigit_any _ _).mono ?_; rintro e w' ⟨rfl, rfl⟩))
       all_goals first
        | (go_round; (case rel => exact ⟨d + 1, hdl, (by simp; omega), HNX.out⟩); (case measure => simp [intOf]; omega))
        | (exfalso; have h := HN.out; simp_all)
      | false =>
       have hnx := HST.out.2 hn
       have hdl : len = d := hnx
       unfold isNam at hn
       rw [Bool.or_eq_false_iff] at hn
       obtain ⟨hn1, hn2⟩ := hn
       subst hdl
       clear hnx
       go_wp2_with (first | (go_at_call 39; ((with_reducible refine (rletter_any _ _).mono ?_); rintro e w' ⟨rfl, rfl⟩)) | (go_at_call 40; ((with_reducible refine (rdigit_any _ _).mono ?_); rintro e w' ⟨rfl, rfl⟩)))
       subst hQ
       have hsz := hbel.size
       have hge := skipN_ge s (p + len) hpl
       go_wp2_with (first | (rw [conv_sub HB.out p len _ hpl _ (fun o => World.cell?_alloc_lt wr _ ⟨b, o, none⟩ hblt)]; go_simp) | (go_at_call 41; ((with_reducible refine (rreserved_any _ _).mono ?_); rintro e w1 ⟨rfl, hb⟩; obtain ⟨hcc, hcf⟩ := bcell hb; have hbw1 : Below wr.heap.size wr w1 := ((Below.refl _ _).alloc (Nat.le_refl _) _).trans (hb.mono (by simp)); have hbW1 : Below w.heap.size w w1 := hbel.trans (hbw1.mono hsz); have hsz1 := hbw1.size)))
       ·have h4 : ((toks.length : Int) == 4000) = true := by assumption
        go_ret3
        exact ⟨⟨_, _, _, rfl, .inr ⟨p, 3, lex_full hs HP.out hlt (show nextL (s.drop p) = .tok 3 len 0 from by have hq : reserved (bytes ((s.drop p).take len)) = true := by { assumption }; rw [HNM.out, if_neg (by have := reserved_len hq; rw [List.length_take, List.length_drop] at this; omega), if_pos hq]) (by have := h4; simp at this; omega) HLX.out, rfl, rfl, rfl, by omega⟩⟩, by go_grown⟩
       ·have h4 : ((toks.length : Int) == 4000) = false := by assumption
        have h4' : toks.length ≠ 4000 := by intro h; rw [h] at h4; simp at h4
        have h5 : toks.length < 4000 := by omega
        have HN := Lib.hid (show nextL (s.drop p) = .tok 3 len 0 from by have hq : reserved (bytes ((s.drop p).take len)) = true := by { assumption }; rw [HNM.out, if_neg (by have := reserved_len hq; rw [List.length_take, List.length_drop] at this; omega), if_pos hq])
        have H4 := Lib.hid h4'
        clear h4'
        go_wp2_with (first | (rw [conv_sub HB.out p len _ hpl _ (fun o => by (repeat rw [cell_set (Nat.ne_of_lt hblt)]); rw [hcc _ _ (by simp; omega), World.cell?_alloc_lt wr _ ⟨b, o, none⟩ hblt])]; go_simp) | (at_builtin; refine wpList_append_own _ rfl _ _ 47 rfl w.heap.size 72 i0 _ 4 40 Tryz.underlying47 hi hz0 hz1 hz2 rfl (by decide) _ toks.length (toksCells toks) rfl (ownsRow_below hown (by go_grown) (Nat.le_refl _)) _ 1 1 [.int .i64 3, .string (bytes ((s.drop p).take len)), .int .i64 0, .int .i64 p] rfl rfl (new_cells_at _ _ _ _ (by simp)) (by simp [Value.oneCell']) (by unfold maxLen; omega) (by omega) (by simp; omega) ?_))
        intro v' w2 hown2 hgrow _
        have hb2 : Below w.heap.size w w2 := Below.grow (by go_grown) hgrow (by simp; omega) (ownsRow_below hown (by go_grown) (Nat.le_refl _)) (Nat.le_refl _)
        clear hgrow
        go_wp2_with ((go_at_call 38; ((with_reducible refine (rskip_at s (p + len) _ (by omega) _ _ _ (brow_below HR.out hb2) hc (by omega) hpl).mono ?_); rintro e w' ⟨rfl, rfl⟩)))
        go_roundw
        case rel => exact ⟨p + len, toks ++ [⟨3, bytes ((s.drop p).take len), 0, p⟩], rfl, hpl, (by rw [← toksCells_snoc]; simpa using hown2), lex_step HP.out hk hlt HN.out H4.out HLX.out, by simp; omega, hb2⟩
        case measure => simp [intOf]; omega
       ·go_ret3
        exact ⟨⟨_, _, _, rfl, .inr ⟨p, 3, lex_fail hs HP.out hlt (by rw [HNM.out, if_pos (by omega)]) HLX.out, rfl, rfl, rfl, by omega⟩⟩, by go_grown⟩
       ·have h4 : ((toks.length : Int) == 4000) = true := by assumption
        go_ret3
        exact ⟨⟨_, _, _, rfl, .inr ⟨p, 3, lex_full hs HP.out hlt (show nextL (s.drop p) = .tok 1 len 0 from by have hq : reserved (bytes ((s.drop p).take len)) = false := by { assumption }; rw [HNM.out, if_neg (by omega), if_neg (by simp [hq])]) (by have := h4; simp at this; omega) HLX.out, rfl, rfl, rfl, by omega⟩⟩, by go_grown⟩
       ·have h4 : ((toks.length : Int) == 4000) = false := by assumption
        have h4' : toks.length ≠ 4000 := by intro h; rw [h] at h4; simp at h4
        have h5 : toks.length < 4000 := by omega
        have HN := Lib.hid (show nextL (s.drop p) = .tok 1 len 0 from by have hq : reserved (bytes ((s.drop p).take len)) = false := by { assumption }; rw [HNM.out, if_neg (by omega), if_neg (by simp [hq])])
        have H4 := Lib.hid h4'
        clear h4'
        go_wp2_with (first | (rw [conv_sub HB.out p len _ hpl _ (fun o => by (repeat rw [cell_set (Nat.ne_of_lt hblt)]); rw [hcc _ _ (by simp; omega), World.cell?_alloc_lt wr _ ⟨b, o, none⟩ hblt])]; go_simp) | (at_builtin; refine wpList_append_own _ rfl _ _ 47 rfl w.heap.size 72 i0 _ 4 40 Tryz.underlying47 hi hz0 hz1 hz2 rfl (by decide) _ toks.length (toksCells toks) rfl (ownsRow_below hown (by go_grown) (Nat.le_refl _)) _ 1 1 [.int .i64 1, .string (bytes ((s.drop p).take len)), .int .i64 0, .int .i64 p] rfl rfl (new_cells_at _ _ _ _ (by simp)) (by simp [Value.oneCell']) (by unfold maxLen; omega) (by omega) (by simp; omega) ?_))
        intro v' w2 hown2 hgrow _
        have hb2 : Below w.heap.size w w2 := Below.grow (by go_grown) hgrow (by simp; omega) (ownsRow_below hown (by go_grown) (Nat.le_refl _)) (Nat.le_refl _)
        clear hgrow
        go_wp2_with ((go_at_call 38; ((with_reducible refine (rskip_at s (p + len) _ (by omega) _ _ _ (brow_below HR.out hb2) hc (by omega) hpl).mono ?_); rintro e w' ⟨rfl, rfl⟩)))
        go_roundw
        case rel => exact ⟨p + len, toks ++ [⟨1, bytes ((s.drop p).take len), 0, p⟩], rfl, hpl, (by rw [← toksCells_snoc]; simpa using hown2), lex_step HP.out hk hlt HN.out H4.out HLX.out, by simp; omega, hb2⟩
        case measure => simp [intOf]; omega
     ·have hdl : len = d := by have h := HI.out; rw [List.drop_drop, List.drop_eq_nil_of_le (by omega)] at h; simpa using h
      have g1 : (s.length : Int) ≤ p + d := by omega
      subst hdl
      go_wp2_with (first | (go_at_call 39; ((with_reducible refine (rletter_any _ _).mono ?_); rintro e w' ⟨rfl, rfl⟩)) | (go_at_call 40; ((with_reducible refine (rdigit_any _ _).mono ?_); rintro e w' ⟨rfl, rfl⟩)))
      subst hQ
      have hsz := hbel.size
      have hge := skipN_ge s (p + len) hpl
      go_wp2_with (first | (rw [conv_sub HB.out p len _ hpl _ (fun o => World.cell?_alloc_lt wr _ ⟨b, o, none⟩ hblt)]; go_simp) | (go_at_call 41; ((with_reducible refine (rreserved_any _ _).mono ?_); rintro e w1 ⟨rfl, hb⟩; obtain ⟨hcc, hcf⟩ := bcell hb; have hbw1 : Below wr.heap.size wr w1 := ((Below.refl _ _).alloc (Nat.le_refl _) _).trans (hb.mono (by simp)); have hbW1 : Below w.heap.size w w1 := hbel.trans (hbw1.mono hsz); have hsz1 := hbw1.size)))
      ·have h4 : ((toks.length : Int) == 4000) = true := by assumption
       go_ret3
       exact ⟨⟨_, _, _, rfl, .inr ⟨p, 3, lex_full hs HP.out hlt (show nextL (s.drop p) = .tok 3 len 0 from by have hq : reserved (bytes ((s.drop p).take len)) = true := by { assumption }; rw [HNM.out, if_neg (by have := reserved_len hq; rw [List.length_take, List.length_drop] at this; omega), if_pos hq]) (by have := h4; simp at this; omega) HLX.out, rfl, rfl, rfl, by omega⟩⟩, by go_grown⟩
      ·have h4 : ((toks.length : Int) == 4000) = false := by assumption
       have h4' : toks.length ≠ 4000 := by intro h; rw [h] at h4; simp at h4
       have h5 : toks.length < 4000 := by omega
       have HN := Lib.hid (show nextL (s.drop p) = .tok 3 len 0 from by have hq : reserved (bytes ((s.drop p).take len)) = true := by { assumption }; rw [HNM.out, if_neg (by have := reserved_len hq; rw [List.length_take, List.length_drop] at this; omega), if_pos hq])
       have H4 := Lib.hid h4'
       clear h4'
       go_wp2_with (first | (rw [conv_sub HB.out p len _ hpl _ (fun o => by (repeat rw [cell_set (Nat.ne_of_lt hblt)]); rw [hcc _ _ (by simp; omega), World.cell?_alloc_lt wr _ ⟨b, o, none⟩ hblt])]; go_simp) | (at_builtin; refine wpList_append_own _ rfl _ _ 47 rfl w.heap.size 72 i0 _ 4 40 Tryz.underlying47 hi hz0 hz1 hz2 rfl (by decide) _ toks.length (toksCells toks) rfl (ownsRow_below hown (by go_grown) (Nat.le_refl _)) _ 1 1 [.int .i64 3, .string (bytes ((s.drop p).take len)), .int .i64 0, .int .i64 p] rfl rfl (new_cells_at _ _ _ _ (by simp)) (by simp [Value.oneCell']) (by unfold maxLen; omega) (by omega) (by simp; omega) ?_))
       intro v' w2 hown2 hgrow _
       have hb2 : Below w.heap.size w w2 := Below.grow (by go_grown) hgrow (by simp; omega) (ownsRow_below hown (by go_grown) (Nat.le_refl _)) (Nat.le_refl _)
       clear hgrow
       go_wp2_with ((go_at_call 38; ((with_reducible refine (rskip_at s (p + len) _ (by omega) _ _ _ (brow_below HR.out hb2) hc (by omega) hpl).mono ?_); rintro e w' ⟨rfl, rfl⟩)))
       go_roundw
       case rel => exact ⟨p + len, toks ++ [⟨3, bytes ((s.drop p).take len), 0, p⟩], rfl, hpl, (by rw [← toksCells_snoc]; simpa using hown2), lex_step HP.out hk hlt HN.out H4.out HLX.out, by simp; omega, hb2⟩
       case measure => simp [intOf]; omega
      ·go_ret3
       exact ⟨⟨_, _, _, rfl, .inr ⟨p, 3, lex_fail hs HP.out hlt (by rw [HNM.out, if_pos (by omega)]) HLX.out, rfl, rfl, rfl, by omega⟩⟩, by go_grown⟩
      ·have h4 : ((toks.length : Int) == 4000) = true := by assumption
       go_ret3
       exact ⟨⟨_, _, _, rfl, .inr ⟨p, 3, lex_full hs HP.out hlt (show nextL (s.drop p) = .tok 1 len 0 from by have hq : reserved (bytes ((s.drop p).take len)) = false := by { assumption }; rw [HNM.out, if_neg (by omega), if_neg (by simp [hq])]) (by have := h4; simp at this; omega) HLX.out, rfl, rfl, rfl, by omega⟩⟩, by go_grown⟩
      ·have h4 : ((toks.length : Int) == 4000) = false := by assumption
       have h4' : toks.length ≠ 4000 := by intro h; rw [h] at h4; simp at h4
       have h5 : toks.length < 4000 := by omega
       have HN := Lib.hid (show nextL (s.drop p) = .tok 1 len 0 from by have hq : reserved (bytes ((s.drop p).take len)) = false := by { assumption }; rw [HNM.out, if_neg (by omega), if_neg (by simp [hq])])
       have H4 := Lib.hid h4'
       clear h4'
       go_wp2_with (first | (rw [conv_sub HB.out p len _ hpl _ (fun o => by (repeat rw [cell_set (Nat.ne_of_lt hblt)]); rw [hcc _ _ (by simp; omega), World.cell?_alloc_lt wr _ ⟨b, o, none⟩ hblt])]; go_simp) | (at_builtin; refine wpList_append_own _ rfl _ _ 47 rfl w.heap.size 72 i0 _ 4 40 Tryz.underlying47 hi hz0 hz1 hz2 rfl (by decide) _ toks.length (toksCells toks) rfl (ownsRow_below hown (by go_grown) (Nat.le_refl _)) _ 1 1 [.int .i64 1, .string (bytes ((s.drop p).take len)), .int .i64 0, .int .i64 p] rfl rfl (new_cells_at _ _ _ _ (by simp)) (by simp [Value.oneCell']) (by unfold maxLen; omega) (by omega) (by simp; omega) ?_))
       intro v' w2 hown2 hgrow _
       have hb2 : Below w.heap.size w w2 := Below.grow (by go_grown) hgrow (by simp; omega) (ownsRow_below hown (by go_grown) (Nat.le_refl _)) (Nat.le_refl _)
       clear hgrow
       go_wp2_with ((go_at_call 38; ((with_reducible refine (rskip_at s (p + len) _ (by omega) _ _ _ (brow_below HR.out hb2) hc (by omega) hpl).mono ?_); rintro e w' ⟨rfl, rfl⟩)))
       go_roundw
       case rel => exact ⟨p + len, toks ++ [⟨1, bytes ((s.drop p).take len), 0, p⟩], rfl, hpl, (by rw [← toksCells_snoc]; simpa using hown2), lex_step HP.out hk hlt HN.out H4.out HLX.out, by simp; omega, hb2⟩
       case measure => simp [intOf]; omega
   | false =>
    cases hdg : isDig s[p] with
    | true =>
     obtain ⟨len, hlen2⟩ : ∃ len, len = ((s.drop p).takeWhile isDig).length := ⟨_, rfl⟩
     have hpl : p + len ≤ s.length := by have := (List.takeWhile_sublist (l := s.drop p) isDig).length_le; rw [← hlen2, List.length_drop] at this; omega
     have htw : (s.drop p).take len = (s.drop p).takeWhile isDig := by rw [hlen2]; exact takeWhile_take isDig (s.drop p)
     have hnn : numL 0 ((s.drop p).take len) = none → nextL (s.drop p) = .err 2 := by
      intro h
      have h1 := nextL_none (c := s[p]) (r := s.drop (p + 1)) hl hdg (by rw [← drop_cons s p hlt, ← htw]; exact h)
      rw [← drop_cons s p hlt] at h1; exact h1
     have hns : ∀ nv, numL 0 ((s.drop p).take len) = some nv → nextL (s.drop p) = .tok 2 len nv := by
      intro nv h
      have h1 := nextL_num (c := s[p]) (r := s.drop (p + 1)) hl hdg (by rw [← drop_cons s p hlt, ← htw]; exact h)
      rw [← drop_cons s p hlt, ← hlen2] at h1; exact h1
     have hdall : Hid (∀ c ∈ (s.drop p).take len, isDig c = true) := Lib.hid (by rw [htw]; exact fun c hc => (List.all_eq_true.1 (List.all_takeWhile (p := isDig) (l := s.drop p))) c hc)
     have hl0 : 0 < len := by rw [hlen2, drop_cons s p hlt, List.takeWhile_cons_of_pos hdg]; simp
     have HNN := Lib.hid hnn
     have HNS := Lib.hid hns
     have HL2 := Lib.hid hlen2
     have hsz := hbel.size
     have hge := skipN_ge s (p + len) hpl
     clear hlen2 hnn hns htw
     go_wp2_with (first | (go_at_call 39; ((with_reducible refine (rletter_any _ _).mono ?_); rintro e w' ⟨rfl, rfl⟩)) | (go_at_call 40; ((with_reducible refine (rdigit_any _ _).mono ?_); rintro e w' ⟨rfl, rfl⟩)))
     go_hide hQ
     go_loop [8] (fun v => ∃ d : Nat, d ≤ len ∧ v = .int .i64 ((p : Int) + d) ∧ len = d + (((s.drop p).drop d).takeWhile isDig).length) (fun v => s.length - (intOf v).toNat)
     case atStart => exact ⟨0, by omega, by simp, by rw [HL2.out]; simp⟩
     case round =>
      obtain ⟨d, hd, rfl, hinv⟩ := hrel
      have HI := Lib.hid hinv
      clear hinv
      by_cases hlt2 : p + d < s.length
      ·have g1 : (p : Int) + d < s.length := by omega
       have hcell2 := ByteRow.cell HB.out (p + d) hlt2
       have hst := takeWhile_step isDig (s.drop p) d (by rw [List.length_drop]; omega) (by rw [← HL2.out]; exact HI.out)
       rw [List.getElem_drop, ← HL2.out] at hst
       have HST := Lib.hid hst
       clear hst
       cases hn : isDig s[p + d] with
       | true =>
        have hnx := HST.out.1 hn
        have HNX := Lib.hid hnx
        have hdl : d + 1 ≤ len := by omega
        clear hnx
        go_wp2_with (first | (go_at_call 39; ((with_reducible refine (rletter_any _ _).mono ?_); rintro e w' ⟨rfl, rfl⟩)) | (go_at_call 40; ((with_reducible refine (rdigit_any _ _).mono ?_); rintro e w' ⟨rfl, rfl⟩)))
        go_round
        case rel => exact ⟨d + 1, hdl, (by simp; omega), HNX.out⟩
        case measure => simp [intOf]; omega
       | false =>
        have hdl : len = d := HST.out.2 hn
        subst hdl
        cases hnum : numL 0 ((s.drop p).take len) with
        | none =>
         have hni : numI ((s.drop p).take len) = -1 := by unfold numI; rw [hnum]
         have HNI := Lib.hid hni
         have HE := Lib.hid (HNN.out hnum)
         clear hni hnum
         go_wp2_with (first | (go_at_call 39; ((with_reducible refine (rletter_any _ _).mono ?_); rintro e w' ⟨rfl, rfl⟩)) | (go_at_call 40; ((with_reducible refine (rdigit_any _ _).mono ?_); rintro e w' ⟨rfl, rfl⟩)))
         subst hQ
         go_wp2_with (go_at_call 42; ((with_reducible refine (rnumber_at HB.out p len _ hpl (by omega) hdall.out _ (fun o => World.cell?_alloc_lt wr _ ⟨b, o, none⟩ hblt)).mono ?_); rintro e w' ⟨rfl, rfl⟩; rw [HNI.out]))
         go_ret3
         exact ⟨⟨_, _, _, rfl, .inr ⟨p, 2, lex_fail hs HP.out hlt HE.out HLX.out, rfl, rfl, rfl, by omega⟩⟩, by go_grown⟩
        | some nv =>
         have hni : numI ((s.drop p).take len) = nv := by unfold numI; rw [hnum]
         have HNI := Lib.hid hni
         have HNM := Lib.hid (HNS.out nv hnum)
         clear hni hnum
         go_wp2_with (first | (go_at_call 39; ((with_reducible refine (rletter_any _ _).mono ?_); rintro e w' ⟨rfl, rfl⟩)) | (go_at_call 40; ((with_reducible refine (rdigit_any _ _).mono ?_); rintro e w' ⟨rfl, rfl⟩)))
         subst hQ
         go_wp2_with (go_at_call 42; ((with_reducible refine (rnumber_at HB.out p len _ hpl (by omega) hdall.out _ (fun o => World.cell?_alloc_lt wr _ ⟨b, o, none⟩ hblt)).mono ?_); rintro e w' ⟨rfl, rfl⟩; rw [HNI.out]))
         ·have h4 : ((toks.length : Int) == 4000) = true := by assumption
          go_ret3
          exact ⟨⟨_, _, _, rfl, .inr ⟨p, 3, lex_full hs HP.out hlt (show nextL (s.drop p) = .tok 2 len nv from HNM.out) (by have := h4; simp at this; omega) HLX.out, rfl, rfl, rfl, by omega⟩⟩, by go_grown⟩
         ·have h4 : ((toks.length : Int) == 4000) = false := by assumption
          have h4' : toks.length ≠ 4000 := by intro h; rw [h] at h4; simp at h4
          have h5 : toks.length < 4000 := by omega
          have HN := Lib.hid (show nextL (s.drop p) = .tok 2 len nv from HNM.out)
          have H4 := Lib.hid h4'
          clear h4'
          go_wp2_with (first | (rw [conv_sub HB.out p len _ hpl _ (fun o => World.cell?_alloc_lt wr _ ⟨b, o, none⟩ hblt)]; go_simp) | (at_builtin; refine wpList_append_own _ rfl _ _ 47 rfl w.heap.size 72 i0 _ 4 40 Tryz.underlying47 hi hz0 hz1 hz2 rfl (by decide) _ toks.length (toksCells toks) rfl (ownsRow_below hown (by go_grown) (Nat.le_refl _)) _ 1 1 [.int .i64 2, .string (bytes ((s.drop p).take len)), .int .i64 nv, .int .i64 p] rfl rfl (new_cells_at _ _ _ _ (by simp)) (by simp [Value.oneCell']) (by unfold maxLen; omega) (by omega) (by simp; omega) ?_))
          intro v' w2 hown2 hgrow _
          have hb2 : Below w.heap.size w w2 := Below.grow (by go_grown) hgrow (by simp; omega) (ownsRow_below hown (by go_grown) (Nat.le_refl _)) (Nat.le_refl _)
          clear hgrow
          go_wp2_with ((go_at_call 38; ((with_reducible refine (rskip_at s (p + len) _ (by omega) _ _ _ (brow_below HR.out hb2) hc (by omega) hpl).mono ?_); rintro e w' ⟨rfl, rfl⟩)))
          go_roundw
          case rel => exact ⟨p + len, toks ++ [⟨2, bytes ((s.drop p).take len), nv, p⟩], rfl, hpl, (by rw [← toksCells_snoc]; simpa using hown2), lex_step HP.out hk hlt HN.out H4.out HLX.out, by simp; omega, hb2⟩
          case measure => simp [intOf]; omega
      ·have hdl : len = d := by have h := HI.out; rw [List.drop_drop, List.drop_eq_nil_of_le (by omega)] at h; simpa using h
       have g1 : (s.length : Int) ≤ p + d := by omega
       subst hdl
       cases hnum : numL 0 ((s.drop p).take len) with
       | none =>
        have hni : numI ((s.drop p).take len) = -1 := by unfold numI; rw [hnum]
        have HNI := Lib.hid hni
        have HE := Lib.hid (HNN.out hnum)
        clear hni hnum
        go_wp2_with (first | (go_at_call 39; ((with_reducible refine (rletter_any _ _).mono ?_); rintro e w' ⟨rfl, rfl⟩)) | (go_at_call 40; ((with_reducible refine (rdigit_any _ _).mono ?_); rintro e w' ⟨rfl, rfl⟩)))
        subst hQ
        go_wp2_with (go_at_call 42; ((with_reducible refine (rnumber_at HB.out p len _ hpl (by omega) hdall.out _ (fun o => World.cell?_alloc_lt wr _ ⟨b, o, none⟩ hblt)).mono ?_); rintro e w' ⟨rfl, rfl⟩; rw [HNI.out]))
        go_ret3
        exact ⟨⟨_, _, _, rfl, .inr ⟨p, 2, lex_fail hs HP.out hlt HE.out HLX.out, rfl, rfl, rfl, by omega⟩⟩, by go_grown⟩
       | some nv =>
        have hni : numI ((s.drop p).take len) = nv := by unfold numI; rw [hnum]
        have HNI := Lib.hid hni
        have HNM := Lib.hid (HNS.out nv hnum)
        clear hni hnum
        go_wp2_with (first | (go_at_call 39; ((with_reducible refine (rletter_any _ _).mono ?_); rintro e w' ⟨rfl, rfl⟩)) | (go_at_call 40; ((with_reducible refine (rdigit_any _ _).mono ?_); rintro e w' ⟨rfl, rfl⟩)))
        subst hQ
        go_wp2_with (go_at_call 42; ((with_reducible refine (rnumber_at HB.out p len _ hpl (by omega) hdall.out _ (fun o => World.cell?_alloc_lt wr _ ⟨b, o, none⟩ hblt)).mono ?_); rintro e w' ⟨rfl, rfl⟩; rw [HNI.out]))
        ·have h4 : ((toks.length : Int) == 4000) = true := by assumption
         go_ret3
         exact ⟨⟨_, _, _, rfl, .inr ⟨p, 3, lex_full hs HP.out hlt (show nextL (s.drop p) = .tok 2 len nv from HNM.out) (by have := h4; simp at this; omega) HLX.out, rfl, rfl, rfl, by omega⟩⟩, by go_grown⟩
        ·have h4 : ((toks.length : Int) == 4000) = false := by assumption
         have h4' : toks.length ≠ 4000 := by intro h; rw [h] at h4; simp at h4
         have h5 : toks.length < 4000 := by omega
         have HN := Lib.hid (show nextL (s.drop p) = .tok 2 len nv from HNM.out)
         have H4 := Lib.hid h4'
         clear h4'
         go_wp2_with (first | (rw [conv_sub HB.out p len _ hpl _ (fun o => World.cell?_alloc_lt wr _ ⟨b, o, none⟩ hblt)]; go_simp) | (at_builtin; refine wpList_append_own _ rfl _ _ 47 rfl w.heap.size 72 i0 _ 4 40 Tryz.underlying47 hi hz0 hz1 hz2 rfl (by decide) _ toks.length (toksCells toks) rfl (ownsRow_below hown (by go_grown) (Nat.le_refl _)) _ 1 1 [.int .i64 2, .string (bytes ((s.drop p).take len)), .int .i64 nv, .int .i64 p] rfl rfl (new_cells_at _ _ _ _ (by simp)) (by simp [Value.oneCell']) (by unfold maxLen; omega) (by omega) (by simp; omega) ?_))
         intro v' w2 hown2 hgrow _
         have hb2 : Below w.heap.size w w2 := Below.grow (by go_grown) hgrow (by simp; omega) (ownsRow_below hown (by go_grown) (Nat.le_refl _)) (Nat.le_refl _)
         clear hgrow
         go_wp2_with ((go_at_call 38; ((with_reducible refine (rskip_at s (p + len) _ (by omega) _ _ _ (brow_below HR.out hb2) hc (by omega) hpl).mono ?_); rintro e w' ⟨rfl, rfl⟩)))
         go_roundw
         case rel => exact ⟨p + len, toks ++ [⟨2, bytes ((s.drop p).take len), nv, p⟩], rfl, hpl, (by rw [← toksCells_snoc]; simpa using hown2), lex_step HP.out hk hlt HN.out H4.out HLX.out, by simp; omega, hb2⟩
         case measure => simp [intOf]; omega
    | false =>
     obtain ⟨len, hlen2⟩ : ∃ len, len = signL (s.drop p) := ⟨_, rfl⟩
     have hpl : p + len ≤ s.length := by have := (signL_le (s.drop p)).2; rw [← hlen2, List.length_drop] at this; omega
     have hsn := nextL_sign (c := s[p]) (r := s.drop (p + 1)) hl hdg
     rw [← drop_cons s p hlt, ← hlen2] at hsn
     have hsz := hbel.size
     have hge := skipN_ge s (p + len) hpl
     have HSN := Lib.hid hsn
     clear hsn
     have HSG := Lib.hid hlen2
     clear hlen2
     by_cases h0 : len = 0
     ·have HE := Lib.hid (show nextL (s.drop p) = .err 1 by rw [HSN.out, if_pos h0])
      have hq : ((p : Int) + len == p) = true := by rw [beq_iff_eq]; omega
      have H0 := Lib.hid h0
      clear h0
      go_wp2_with (first | (go_at_call 39; ((with_reducible refine (rletter_any _ _).mono ?_); rintro e w' ⟨rfl, rfl⟩)) | (go_at_call 40; ((with_reducible refine (rdigit_any _ _).mono ?_); rintro e w' ⟨rfl, rfl⟩)) | (go_at_call 43; ((with_reducible refine (rsign_any s p b off cap _ (fun j u hu => by rw [World.cell?_alloc_lt wr _ ⟨b, off + j, none⟩ hblt]; exact HB.out j u hu) hc hcm (by omega) hlt).mono ?_); rintro e w1 ⟨rfl, hb⟩; rw [← HSG.out]; obtain ⟨hcc, hcf⟩ := bcell hb; have hbw1 : Below wr.heap.size wr w1 := ((Below.refl _ _).alloc (Nat.le_refl _) _).trans (hb.mono (by simp)); have hbW1 : Below w.heap.size w w1 := hbel.trans (hbw1.mono hsz); have hsz1 := hbw1.size)))
      go_ret3
      exact ⟨⟨_, _, _, rfl, .inr ⟨p, 1, lex_fail hs HP.out hlt HE.out HLX.out, rfl, rfl, rfl, by omega⟩⟩, by go_grown⟩
     ·have HNM := Lib.hid (show nextL (s.drop p) = .tok 4 len 0 by rw [HSN.out, if_neg h0])
      have hq : ((p : Int) + len == p) = false := by rw [beq_eq_false_iff_ne]; omega
      have hl0 : 0 < len := by omega
      clear h0
      go_wp2_with (first | (go_at_call 39; ((with_reducible refine (rletter_any _ _).mono ?_); rintro e w' ⟨rfl, rfl⟩)) | (go_at_call 40; ((with_reducible refine (rdigit_any _ _).mono ?_); rintro e w' ⟨rfl, rfl⟩)) | (go_at_call 43; ((with_reducible refine (rsign_any s p b off cap _ (fun j u hu => by rw [World.cell?_alloc_lt wr _ ⟨b, off + j, none⟩ hblt]; exact HB.out j u hu) hc hcm (by omega) hlt).mono ?_); rintro e w1 ⟨rfl, hb⟩; rw [← HSG.out]; obtain ⟨hcc, hcf⟩ := bcell hb; have hbw1 : Below wr.heap.size wr w1 := ((Below.refl _ _).alloc (Nat.le_refl _) _).trans (hb.mono (by simp)); have hbW1 : Below w.heap.size w w1 := hbel.trans (hbw1.mono hsz); have hsz1 := hbw1.size)))
      ·have h4 : ((toks.length : Int) == 4000) = true := by assumption
       go_ret3
       exact ⟨⟨_, _, _, rfl, .inr ⟨p, 3, lex_full hs HP.out hlt (show nextL (s.drop p) = .tok 4 len 0 from HNM.out) (by have := h4; simp at this; omega) HLX.out, rfl, rfl, rfl, by omega⟩⟩, by go_grown⟩
      ·have h4 : ((toks.length : Int) == 4000) = false := by assumption
       have h4' : toks.length ≠ 4000 := by intro h; rw [h] at h4; simp at h4
       have h5 : toks.length < 4000 := by omega
       have HN := Lib.hid (show nextL (s.drop p) = .tok 4 len 0 from HNM.out)
       have H4 := Lib.hid h4'
       clear h4'
       go_wp2_with (first | (rw [conv_sub HB.out p len _ hpl _ (fun o => by (repeat rw [cell_set (Nat.ne_of_lt hblt)]); rw [hcc _ _ (by simp; omega), World.cell?_alloc_lt wr _ ⟨b, o, none⟩ hblt])]; go_simp) | (at_builtin; refine wpList_append_own _ rfl _ _ 47 rfl w.heap.size 72 i0 _ 4 40 Tryz.underlying47 hi hz0 hz1 hz2 rfl (by decide) _ toks.length (toksCells toks) rfl (ownsRow_below hown (by go_grown) (Nat.le_refl _)) _ 1 1 [.int .i64 4, .string (bytes ((s.drop p).take len)), .int .i64 0, .int .i64 p] rfl rfl (new_cells_at _ _ _ _ (by simp)) (by simp [Value.oneCell']) (by unfold maxLen; omega) (by omega) (by simp; omega) ?_))
       intro v' w2 hown2 hgrow _
       have hb2 : Below w.heap.size w w2 := Below.grow (by go_grown) hgrow (by simp; omega) (ownsRow_below hown (by go_grown) (Nat.le_refl _)) (Nat.le_refl _)
       clear hgrow
       go_wp2_with ((go_at_call 38; ((with_reducible refine (rskip_at s (p + len) _ (by omega) _ _ _ (brow_below HR.out hb2) hc (by omega) hpl).mono ?_); rintro e w' ⟨rfl, rfl⟩)))
       go_roundw
       case rel => exact ⟨p + len, toks ++ [⟨4, bytes ((s.drop p).take len), 0, p⟩], rfl, hpl, (by rw [← toksCells_snoc]; simpa using hown2), lex_step HP.out hk hlt HN.out H4.out HLX.out, by simp; omega, hb2⟩
       case measure => simp [intOf]; omega
set_option maxRecDepth 100000 in
set_option maxHeartbeats 400000 in
theorem rlex_long (a : Option Addr) (n cap : Nat) (w : World) (hs : (262144 : Int) < n) :
  Calls Tryz.prog 19 #[.slice a n cap] w fun e w' => e = .returned (.tuple #[.slice none 0 0, .int .i64 262144, .int .i64 3]) ∧ w = w' := by
 go_enter Tryz.func19, Tryz.ntmps19
 go_wp2_with fail
 go_ret3
 exact ⟨rfl, rfl⟩
theorem rLex_own (s : List UInt8) (v : Value) (w : World) (hv : RowAt w v s.length (bcells s)) (hcm : ∀ a n c, v = .slice a n c → c ≤ 9223372036854775807) :
  Calls Tryz.prog 19 #[v] w fun e w' => (∃ v pos er, e = .returned (.tuple #[v, .int .i64 pos, .int .i64 er]) ∧ LexF w' w.heap.size s v pos er) ∧ Below w.heap.size w w' := by
 obtain ⟨a, cap, rfl, hc, hr⟩ := hv
 by_cases hs : 262144 < s.length
 ·refine (rlex_long a _ cap w (by omega)).mono fun e w' ⟨h, hw⟩ => ?_
  subst hw
  refine ⟨⟨_, _, _, h, .inr ⟨262144, 3, ?_, rfl, rfl, rfl, by omega⟩⟩, Below.refl _ _⟩
  unfold lexL; rw [if_pos (by omega)]
 ·exact rlex_any s a cap w (by omega) hc (hcm _ _ _ rfl) hr
end Go.Proofs.YtflcnehhpmjipaaGreatDoor
