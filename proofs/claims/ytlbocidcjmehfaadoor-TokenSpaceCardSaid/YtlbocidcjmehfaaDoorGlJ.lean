import Derived.Test.YtlbocidcjmehfaaDoorA1J
import Derived.Test.YtlbocidcjmehfaaDoorA6J
import Derived.Test.YtlbocidcjmehfaaDoorB2J
set_option linter.unusedVariables false
set_option linter.unusedSimpArgs false
namespace Go.Proofs.YtlbocidcjmehfaaDoor
def blankHead (x : List UInt8) : Prop := x = [] ∨ ∃ c r, x = c :: r ∧ isSp c = true
def Tok.tx (t : Tok) : List UInt8 := t.text.data.toList
structure Good (t : Tok) : Prop where
 ne : t.tx ≠ []
 skip : ∀ x, blankHead x → skipL (t.tx ++ x) = t.tx ++ x
 next : ∀ x, blankHead x → nextL (t.tx ++ x) = .tok t.kind t.tx.length t.num
theorem sp_nam {c : UInt8} (h : isSp c = true) : isNam c = false := by
 unfold isSp at h; unfold isNam isLet isDig
 simp at h ⊢; omega
theorem sp_dig {c : UInt8} (h : isSp c = true) : isDig c = false := by
 unfold isSp at h; unfold isDig
 simp at h ⊢; omega
theorem let_sp {c : UInt8} (h : isLet c = true) : isSp c = false ∧ c ≠ 47 := by
 constructor
 ·cases hs : isSp c with
  | false => rfl
  | true => have := sp_nam hs; simp [isNam, h] at this
 ·rintro rfl; revert h; decide
theorem dig_sp {c : UInt8} (h : isDig c = true) : isSp c = false ∧ c ≠ 47 := by
 constructor
 ·cases hs : isSp c with
  | false => rfl
  | true => have := sp_dig hs; simp [h] at this
 ·rintro rfl; revert h; decide
theorem skipL_idem (l : List UInt8) : skipL (skipL l) = skipL l := by
 induction l using skipL.induct with
 | case1 => rw [skipL_nil, skipL_nil]
 | case2 c r h ih => rw [skipL_sp h]; exact ih
 | case3 c r h hc ih =>
  have e : skipL (c :: r) = skipL (r.dropWhile (· != 10)) := by rw [skipL, if_neg h, if_pos hc]
  rw [e]; exact ih
 | case4 c r h hc =>
  have e : skipL (c :: r) = c :: r := by rw [skipL, if_neg h, if_neg hc]
  rw [e, e]
theorem takeWhile_blank (p : UInt8 → Bool) (hp : ∀ c, isSp c = true → p c = false) (l x : List UInt8) (hx : blankHead x) : (l.takeWhile p ++ x).takeWhile p = l.takeWhile p := by
 rw [List.takeWhile_append_of_pos (fun a ha => by simpa using List.all_eq_true.1 (List.all_takeWhile (p := p) (l := l)) a ha)]
 rcases hx with rfl | ⟨c, r, rfl, hc⟩
 ·simp
 ·rw [List.takeWhile_cons_of_neg (by simp [hp c hc]), List.append_nil]
theorem take_while (p : UInt8 → Bool) (l : List UInt8) : l.take (l.takeWhile p).length = l.takeWhile p :=
 (List.prefix_iff_eq_take.1 (List.takeWhile_prefix p)).symm
theorem tx_bytes (k : Nat) (l : List UInt8) (n p : Nat) : (Tok.mk k (bytes l) n p).tx = l := by simp [Tok.tx, bytes]
theorem good_of_next {l : List UInt8} {kind len num pos : Nat} (hl : l ≠ []) (hs : skipL l = l) (h : nextL l = .tok kind len num) : Good ⟨kind, bytes (l.take len), num, pos⟩ := by
 obtain ⟨c, r, rfl⟩ := List.exists_cons_of_ne_nil hl
 cases hc : isLet c with
 | true =>
  have h1 := let_sp hc
  rw [nextL_name hc] at h
  by_cases hn : 16 < ((c :: r).takeWhile isNam).length
  ·rw [if_pos hn] at h; cases h
  ·rw [if_neg hn] at h
   injection h with e1 e2 e3
   subst e1; subst e2; subst e3
   rw [take_while]
   have hT : (c :: r).takeWhile isNam = c :: r.takeWhile isNam := List.takeWhile_cons_of_pos (by simp [isNam, hc])
   refine ⟨by rw [tx_bytes, hT]; simp, fun x hx => ?_, fun x hx => ?_⟩
   ·rw [tx_bytes, hT, List.cons_append]; exact skipL_stop h1.1 (fun h => h1.2 h.1)
   ·rw [tx_bytes]
    have := takeWhile_blank isNam (fun _ h => sp_nam h) (c :: r) x hx
    rw [hT, List.cons_append] at this ⊢
    rw [nextL_name hc, this, ← hT, if_neg hn]
 | false =>
  cases hd : isDig c with
  | true =>
   have h1 := dig_sp hd
   have hT : (c :: r).takeWhile isDig = c :: r.takeWhile isDig := List.takeWhile_cons_of_pos hd
   cases hn : numL 0 ((c :: r).takeWhile isDig) with
   | none => rw [nextL_none hc hd hn] at h; cases h
   | some n =>
    rw [nextL_num hc hd hn] at h
    injection h with e1 e2 e3
    subst e1; subst e2; subst e3
    rw [take_while]
    refine ⟨by rw [tx_bytes, hT]; simp, fun x hx => ?_, fun x hx => ?_⟩
    ·rw [tx_bytes, hT, List.cons_append]; exact skipL_stop h1.1 (fun h => h1.2 h.1)
    ·rw [tx_bytes]
     have := takeWhile_blank isDig (fun _ h => sp_dig h) (c :: r) x hx
     rw [hT] at hn
     rw [hT, List.cons_append] at this ⊢
     rw [nextL_num hc hd (n := n) (by rw [this]; exact hn), this]
  | false =>
   have hsp : isSp c = false := by
    cases hsp : isSp c with
    | false => rfl
    | true =>
     rw [skipL_sp hsp] at hs
     have := (skipL_suffix r).length_le
     rw [hs] at this; simp at this; omega
   rw [nextL_sign hc hd] at h
   by_cases h0 : signL (c :: r) = 0
   ·rw [if_pos h0] at h; cases h
   ·rw [if_neg h0] at h
    injection h with e1 e2 e3
    subst e1; subst e2; subst e3
    by_cases h2 : 2 ≤ (c :: r).length ∧ (c :: r).take 2 ∈ pairsL
    ·rw [signL_two h2.1 h2.2]
     obtain ⟨d, r', rfl⟩ : ∃ d r', r = d :: r' := by
      cases r with
      | nil => simp at h2
      | cons d r' => exact ⟨d, r', rfl⟩
     have hp : [c, d] ∈ pairsL := h2.2
     have hc47 : c ≠ 47 := by rintro rfl; revert hp; simp [pairsL]
     refine ⟨by rw [tx_bytes]; simp, fun x hx => ?_, fun x hx => ?_⟩
     ·rw [tx_bytes]; exact skipL_stop hsp (fun h => hc47 h.1)
     ·rw [tx_bytes]
      have e : signL (c :: d :: x) = 2 := signL_two (by simp) hp
      show nextL (c :: d :: x) = _
      rw [nextL_sign hc hd, e]; rfl
    ·have hcs : c ∈ singlesL := by
      apply Classical.byContradiction; intro hcs; exact h0 (signL_none h2 hcs)
     rw [signL_one h2 hcs]
     refine ⟨by rw [tx_bytes]; simp, fun x hx => ?_, fun x hx => ?_⟩
     ·rw [tx_bytes]
      refine skipL_stop hsp (fun h => ?_)
      rcases hx with rfl | ⟨d, r', rfl, hd'⟩
      ·simp at h
      ·have : d = 47 := by simpa using h.2
       subst this; revert hd'; decide
     ·rw [tx_bytes]
      have h3 : ¬ (2 ≤ (c :: x).length ∧ (c :: x).take 2 ∈ pairsL) := by
       rintro ⟨h4, h5⟩
       rcases hx with rfl | ⟨d, r', rfl, hd'⟩
       ·simp at h4
       ·have h6 : [c, d] ∈ pairsL := h5
        simp only [pairsL, List.mem_cons, List.cons.injEq, and_true, List.not_mem_nil, or_false] at h6
        rcases h6 with h6 | h6 | h6 | h6 | h6 | h6 <;> (obtain ⟨_, rfl⟩ := h6; revert hd'; decide)
      have e : signL (c :: x) = 1 := signL_one h3 hcs
      show nextL (c :: x) = _
      rw [nextL_sign hc hd, e]; rfl
inductive Glued : List Tok → List UInt8 → Prop
 | nil {r : List UInt8} (h : skipL r = []) : Glued [] r
 | cons {t : Tok} {ts : List Tok} {sep r : List UInt8} (ht : Good t) (hb : blankHead (sep ++ r)) (hs : skipL (sep ++ r) = skipL r) (h : Glued ts r) : Glued (t :: ts) (t.tx ++ (sep ++ r))
def Tok.strip (t : Tok) : Nat × ByteArray × Nat := (t.kind, t.text, t.num)
theorem bytes_tx (t : Tok) : bytes t.tx = t.text := by
 cases t with
 | mk k tx n p => cases tx; simp [bytes, Tok.tx]
theorem relexT : ∀ {ts : List Tok} {r : List UInt8}, Glued ts r → ∀ (s : List UInt8) (k n : Nat), k ≤ s.length → skipL (s.drop k) = skipL r → n + ts.length ≤ 4000 →
  ∃ l, lexT s k n = .ok (l ++ [⟨5, ⟨#[]⟩, 0, s.length⟩]) ∧ l.map Tok.strip = ts.map Tok.strip := by
 intro ts r h
 induction h with
 | @nil r h =>
  intro s k n hk he hn
  refine ⟨[], ?_, rfl⟩
  rw [lexT_end]; · rfl
  unfold skipN; rw [he, h]; simp
 | @cons t ts sep r ht hb hs h ih =>
  intro s k n hk he hn
  rw [ht.skip _ hb] at he
  have hd : s.drop (skipN s k) = t.tx ++ (sep ++ r) := by rw [skipN_drop, he]
  have hne : 0 < t.tx.length := by
   rcases hx : t.tx with _ | ⟨a, b⟩
   ·exact absurd hx ht.ne
   ·simp
  have hlen := congrArg List.length hd
  rw [List.length_drop, List.length_append] at hlen
  have hlt : skipN s k < s.length := by omega
  have hnx : nextL (s.drop (skipN s k)) = .tok t.kind t.tx.length t.num := by rw [hd]; exact ht.next _ hb
  simp only [List.length_cons] at hn
  rw [lexT_tok hk hlt hnx (by omega)]
  have hd2 : s.drop (skipN s k + t.tx.length) = sep ++ r := by
   rw [← List.drop_drop, hd, List.drop_left]
  obtain ⟨l, hl, hm⟩ := ih s (skipN s k + t.tx.length) (n + 1) (by omega) (by rw [hd2]; exact hs) (by omega)
  refine ⟨⟨t.kind, bytes ((s.drop (skipN s k)).take t.tx.length), t.num, skipN s k⟩ :: l, by rw [hl]; rfl, ?_⟩
  rw [List.map_cons, List.map_cons, hm]
  congr 1
  rw [hd, List.take_left, bytes_tx]; rfl
theorem relex {ts : List Tok} {r : List UInt8} (h : Glued ts r) (hr : r.length ≤ 262144) (hn : ts.length ≤ 4000) : ∃ l, lexL r = .ok (l ++ [⟨5, ⟨#[]⟩, 0, r.length⟩]) ∧ l.map Tok.strip = ts.map Tok.strip := by
 unfold lexL
 rw [if_neg (by omega)]
 exact relexT h r 0 0 (by omega) (by simp) (by omega)
theorem lexT_good : ∀ (m : Nat) (s : List UInt8) (k n : Nat), s.length - k ≤ m → k ≤ s.length → n ≤ 4000 → ∀ l, lexT s k n = .ok l →
  ∃ ts, l = ts ++ [⟨5, ⟨#[]⟩, 0, s.length⟩] ∧ (∀ t, t ∈ ts → Good t) ∧ (ts.map fun t => t.tx.length).sum ≤ s.length - k ∧ n + ts.length ≤ 4000 := by
 intro m
 induction m with
 | zero =>
  intro s k n hm hk hn l h
  have h1 : s.length ≤ skipN s k := by have := skipN_ge s k hk; omega
  rw [lexT_end h1] at h
  injection h with h
  exact ⟨[], h.symm, by simp, by simp, by simpa using hn⟩
 | succ m ih =>
  intro s k n hm hk hn l h
  by_cases h1 : s.length ≤ skipN s k
  ·rw [lexT_end h1] at h
   injection h with h
   exact ⟨[], h.symm, by simp, by simp, by simpa using hn⟩
  ·have hge := skipN_ge s k hk
   cases hx : nextL (s.drop (skipN s k)) with
   | err e => rw [lexT_err (by omega) hx] at h; cases h
   | tok kind len num =>
    by_cases h4 : n = 4000
    ·subst h4; rw [lexT_full (by omega) hx] at h; cases h
    ·rw [lexT_tok hk (by omega) hx h4] at h
     have hne : s.drop (skipN s k) ≠ [] := by intro hd; have := congrArg List.length hd; simp at this; omega
     have hlen := nextL_len hne hx
     rw [List.length_drop] at hlen
     cases hr : lexT s (skipN s k + len) (n + 1) with
     | err p e => rw [hr] at h; cases h
     | ok l' =>
      rw [hr] at h
      injection h with h
      obtain ⟨ts, rfl, h5, h6, h7⟩ := ih s (skipN s k + len) (n + 1) (by omega) (by omega) (by omega) l' hr
      have hg : Good ⟨kind, bytes ((s.drop (skipN s k)).take len), num, skipN s k⟩ := by
       refine good_of_next hne ?_ hx
       rw [skipN_drop]
       exact skipL_idem _
      refine ⟨_ :: ts, h.symm, ?_, ?_, by simp only [List.length_cons]; omega⟩
      ·intro t ht
       rcases List.mem_cons.1 ht with rfl | ht
       ·exact hg
       ·exact h5 t ht
      ·rw [List.map_cons, List.sum_cons, tx_bytes, List.length_take, List.length_drop]; omega
end Go.Proofs.YtlbocidcjmehfaaDoor
namespace Go.Proofs.YtlbocidcjmehfaaDoor
theorem nextL_kind {l : List UInt8} {kind len num : Nat} (h : nextL l = .tok kind len num) : kind ≠ 5 := by
 unfold nextL at h
 split at h
 ·split at h
  ·cases h
  ·injection h with h1
   rw [← h1]; split <;> decide
 ·split at h
  ·split at h
   ·cases h
   ·injection h with h1; omega
  ·split at h
   ·cases h
   ·injection h with h1; omega
theorem Good.kind {t : Tok} (h : Good t) : t.kind ≠ 5 := nextL_kind (h.next [] (.inl rfl))
def blankT : List Tok → List UInt8
 | [] => []
 | [t] => t.tx
 | t :: u :: r => t.tx ++ (32 :: blankT (u :: r))
theorem glued_blank : ∀ (ts : List Tok), (∀ t, t ∈ ts → Good t) → Glued ts (blankT ts)
 | [], _ => .nil skipL_nil
 | [t], h => by
  have := Glued.cons (sep := []) (r := []) (h t (by simp)) (.inl rfl) rfl (.nil skipL_nil)
  simpa [blankT] using this
 | t :: u :: r, h => by
  have := Glued.cons (sep := [32]) (h t (by simp)) (.inr ⟨32, blankT (u :: r), rfl, by decide⟩) (skipL_sp (by decide)) (glued_blank (u :: r) (fun x hx => h x (List.mem_cons_of_mem _ hx)))
  simpa [blankT] using this
theorem textsB_all {ts : List Tok} (h : ∀ t, t ∈ ts → t.kind ≠ 5) (e : Tok) (he : e.kind = 5) : textsB (ts ++ [e]) = ts.map Tok.text := by
 unfold textsB
 rw [List.filter_append]
 have h1 : ts.filter (fun t => decide (t.kind ≠ 5)) = ts := List.filter_eq_self.2 (fun t ht => by simpa using h t ht)
 rw [h1]
 simp [he]
theorem join_blank : ∀ (ts : List Tok), Lib.join ((ts.map Tok.text).map (·.data.toList)) [32] = blankT ts
 | [] => rfl
 | [t] => by simp [Lib.join_one, blankT, Tok.tx]
 | t :: u :: r => by
  have ih := join_blank (u :: r)
  rw [List.map_cons, List.map_cons, List.map_cons, List.map_cons] at *
  rw [Lib.join_cons] at *
  simp only [blankT]
  rw [← ih]
  simp [Lib.joinTail, Tok.tx]
theorem blankT_len : ∀ (ts : List Tok), (blankT ts).length ≤ (ts.map fun t => t.tx.length).sum + ts.length
 | [] => by simp [blankT]
 | [t] => by simp [blankT]
 | t :: u :: r => by
  have ih := blankT_len (u :: r)
  simp only [blankT, List.length_append, List.length_cons, List.map_cons, List.sum_cons] at *
  omega
theorem same_of_strip {l m : List Tok} (h : l.map Tok.strip = m.map Tok.strip) (p q : Nat) : SameT false (m ++ [⟨5, ⟨#[]⟩, 0, p⟩]) (l ++ [⟨5, ⟨#[]⟩, 0, q⟩]) := by
 have hl : l.length = m.length := by simpa using congrArg List.length h
 refine ⟨by simp [hl], fun k h1 h2 => ?_⟩
 rcases Nat.lt_or_ge k m.length with hk | hk
 ·rw [List.getElem_append_left hk, List.getElem_append_left (by omega)]
  have e : (m.map Tok.strip)[k]'(by simpa using hk) = (l.map Tok.strip)[k]'(by simp; omega) := by simp only [h]
  simp only [List.getElem_map, Tok.strip, Prod.mk.injEq] at e
  exact ⟨e.1, e.2.1, e.2.2, fun h => by cases h⟩
 ·rw [List.getElem_append_right hk, List.getElem_append_right (by omega)]
  simp
theorem again {T : List UInt8} {toks : List Tok} (h : lexL T = .ok toks) (hT : T.length ≤ 75000) :
  ∃ l2, lexL (textL toks) = .ok l2 ∧ SameT false toks l2 ∧ (textL toks).length ≤ 80000 ∧ toks.length ≤ 4001 := by
 unfold lexL at h
 rw [if_neg (by omega)] at h
 obtain ⟨ts, rfl, hg, hs, hn⟩ := lexT_good T.length T 0 0 (by omega) (by omega) (by omega) _ h
 have e : textL (ts ++ [⟨5, ⟨#[]⟩, 0, T.length⟩]) = blankT ts := by
  unfold textL
  rw [textsB_all (fun t ht => (hg t ht).kind) _ rfl, join_blank]
 have hl := blankT_len ts
 rw [e]
 obtain ⟨l, h1, h2⟩ := relex (glued_blank ts hg) (by omega) (by omega)
 exact ⟨_, h1, same_of_strip h2 _ _, by omega, by simp; omega⟩
end Go.Proofs.YtlbocidcjmehfaaDoor
namespace Go.Proofs.YtlbocidcjmehfaaDoor
open Go.RowKit
theorem join_snoc (xs : List (List UInt8)) (y sep : List UInt8) : Lib.join (xs ++ [y]) sep = if xs = [] then y else Lib.join xs sep ++ sep ++ y := by
 cases xs with
 | nil => simp [Lib.join_one]
 | cons x r => rw [List.cons_append, Lib.join_cons, Lib.join_cons]; simp [Lib.joinTail]
theorem textL_take (l : List Tok) (k : Nat) (hk : k < l.length) : textL (l.take (k + 1)) = if l[k].kind = 5 then textL (l.take k) else if textsB (l.take k) = [] then l[k].tx else textL (l.take k) ++ [32] ++ l[k].tx := by
 unfold textL
 rw [textsB_take l k hk]
 by_cases h : l[k].kind = 5
 ·rw [if_pos h, if_pos h]
 ·rw [if_neg h, if_neg h, List.map_append, List.map_cons, List.map_nil, join_snoc]
  by_cases h0 : textsB (l.take k) = []
  ·rw [if_pos h0, h0]; rfl
  ·rw [if_neg h0, if_neg (by simpa using h0)]; rfl
set_option maxRecDepth 100000 in
set_option maxHeartbeats 1600000 in
theorem refText_tokens (l : List Tok) (v : Value) (w : World) (hv : RowAt w v l.length (toksCells l)) (hn : l.length ≤ 1000000) (hb0 : ∀ k, (textL (l.take k)).length ≤ 1000000) (ht0 : ∀ k (h : k < l.length), l[k].text.size ≤ 1000000) :
  Calls Tryd.prog 17 #[v] w fun e w' => e = .returned (.string (bytes (textL l))) ∧ Below w.heap.size w w' := by
 obtain ⟨a, c, rfl, hc, hr⟩ := hv
 have HB0 := Lib.hid hb0
 have HT0 := Lib.hid ht0
 clear hb0 ht0
 go_enter Tryd.func17, Tryd.ntmps17
 go_wp2_with fail
 go_loopw [3, 4, 5] (fun s f i wr => ∃ k : Nat, k ≤ l.length ∧ i = .int .i64 k ∧ s = .string (bytes (textL (l.take k))) ∧ f = .bool (textsB (l.take k)).isEmpty ∧ Below w.heap.size w wr) (fun _ _ i _ => l.length - (intOf i).toNat)
 case atStart => exact ⟨0, by omega, rfl, rfl, rfl, Below.refl _ _⟩
 case round =>
  obtain ⟨k, hk, rfl, rfl, rfl, hb⟩ := hrel
  obtain ⟨s, hs⟩ : ∃ s, s = bytes (textL (l.take k)) := ⟨_, rfl⟩
  obtain ⟨f, hf⟩ : ∃ f, f = (textsB (l.take k)).isEmpty := ⟨_, rfl⟩
  have hss : s.size ≤ 1000000 := by rw [hs, bytes_size]; exact HB0.out k
  rw [← hs, ← hf]
  have HS := Lib.hid hs
  have HF := Lib.hid hf
  clear hs hf
  by_cases hlt : k < l.length
  ·have hli : (k : Int) < (l.length : Int) := by omega
   rcases hr with h0 | ⟨b, off, rfl, hr⟩
   ·rw [toksCells_nil h0] at hlt; simp at hlt
   obtain ⟨q1, q2, q3, q4⟩ := tokRow hr k hlt
   have hB := bcell hb
   have B1 := cell_lt q1
   rw [← hB.1 _ _ B1] at q1 q2 q3 q4
   have HTK := Lib.hid (textL_take l k hlt)
   have HTB := Lib.hid (textsB_take l k hlt)
   have hts := HT0.out k hlt
   have HTX : Hid (l[k].tx = l[k].text.data.toList) := Lib.hid rfl
   clear hr hB B1
   by_cases h5 : l[k].kind = 5
   ·have n1 : ((l[k].kind : Int) == 5) = true := by simp; omega
    have H5 := Lib.hid h5
    clear h5
    go_wp2_with fail
    go_roundw
    case rel => exact ⟨k + 1, by omega, by go_num, by rw [HS.out, HTK.out, if_pos H5.out], by rw [HF.out, HTB.out, if_pos H5.out], by go_grown⟩
    case measure => simp [intOf]; omega
   ·have n1 : ((l[k].kind : Int) == 5) = false := by simp; omega
    have H5 := Lib.hid h5
    obtain ⟨t, ht⟩ : ∃ t, t = l[k].text := ⟨_, rfl⟩
    rw [← ht] at q2 hts HTX
    have HT := Lib.hid ht
    clear h5 ht
    cases f
    ·have HNE : Hid (¬ textsB (l.take k) = []) := Lib.hid (fun h => by have := HF.out; rw [h] at this; cases this)
     have hbs : ((⟨#[32]⟩ : ByteArray)).size = 1 := rfl
     have hs2 : (s ++ (⟨#[32]⟩ : ByteArray)).size = s.size + 1 := by rw [ByteArray.size_append]; rfl
     go_wp2_with fail
     go_roundw
     case rel =>
      refine ⟨k + 1, by omega, by go_num, ?_, ?_, by go_grown⟩
      ·rw [HTK.out, if_neg H5.out, if_neg HNE.out, HTX.out, HS.out]
       congr 1 <;> exact bytes_ext (by simp [bytes])
      ·rw [HTB.out, if_neg H5.out]; simp
     case measure => simp [intOf]; omega
    ·have HE : Hid (textsB (l.take k) = []) := Lib.hid (List.isEmpty_iff.1 HF.out.symm)
     have HSE : Hid (s.data.toList = []) := Lib.hid (by rw [HS.out]; unfold textL; rw [HE.out]; rfl)
     go_wp2_with fail
     go_roundw
     case rel =>
      refine ⟨k + 1, by omega, by go_num, ?_, ?_, by go_grown⟩
      ·rw [HTK.out, if_neg H5.out, if_pos HE.out, HTX.out]
       congr 1 <;> exact bytes_ext (by simp [bytes, HSE.out])
      ·rw [HTB.out, if_neg H5.out]; simp
     case measure => simp [intOf]; omega
  ·have hli : ¬ (k : Int) < (l.length : Int) := by omega
   have HKL : Hid (l.take k = l) := Lib.hid (List.take_of_length_le (by omega))
   go_wp2_with fail
   go_ret
   exact ⟨by rw [HS.out, HKL.out]; rfl, hb⟩
end Go.Proofs.YtlbocidcjmehfaaDoor
