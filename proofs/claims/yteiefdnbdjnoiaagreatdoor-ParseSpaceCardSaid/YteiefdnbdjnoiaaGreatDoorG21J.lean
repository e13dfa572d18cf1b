import Derived.Test.YteiefdnbdjnoiaaGreatDoorA1J
import Derived.Lib.Join
import Derived.Test.YteiefdnbdjnoiaaGreatDoorG7J
import Derived.Test.YteiefdnbdjnoiaaGreatDoorG13J
import Derived.Test.YteiefdnbdjnoiaaGreatDoorG5J
import Derived.Test.YteiefdnbdjnoiaaGreatDoorG16J
import Derived.Test.YteiefdnbdjnoiaaGreatDoorG14J
import Derived.Test.YteiefdnbdjnoiaaGreatDoorG15J
import Derived.Test.YteiefdnbdjnoiaaGreatDoorG20J
import Derived.Test.YteiefdnbdjnoiaaGreatDoorG12J
import Derived.Test.YteiefdnbdjnoiaaGreatDoorG6J
set_option linter.all false
set_option synthInstance.maxHeartbeats 1000000
set_option synthInstance.maxSize 1000000
set_option maxHeartbeats 1600000
set_option maxRecDepth 100000
namespace Go.Proofs.YteiefdnbdjnoiaaGreatDoor
open List (length_append length_cons length_nil mem_append mem_cons not_mem_nil append_assoc getElem_mem take_of_length_le)
section
def sD (x : List UInt8) : Prop := x = [] ∨ ∃ c r, x = c :: r ∧ isSp c = true
def Tok.tx (t : Tok) : List UInt8 := t.text.data.toList
structure Good (t : Tok) : Prop where
 ne : t.tx ≠ []
 skip : ∀ x, sD x → eY (t.tx ++ x) = t.tx ++ x
 next : ∀ x, sD x → dQ (t.tx ++ x) = .tok t.kind t.tx.length t.num
theorem aMd {c : UInt8} (h : isSp c = true) : cT c = false := by
 unfold isSp at h; unfold cT fU cD
 simp at h ⊢; omega
theorem aNj {c : UInt8} (h : isSp c = true) : cD c = false := by
 unfold isSp at h; unfold cD
 simp at h ⊢; omega
theorem aP4 {c : UInt8} (h : fU c = true) : isSp c = false ∧ c ≠ 47 := by
 constructor
 ·cases hs : isSp c with
  | false => rfl
  | true => have := aMd hs; simp [cT, h] at this
 ·rintro rfl; revert h; decide
theorem aQr {c : UInt8} (h : cD c = true) : isSp c = false ∧ c ≠ 47 := by
 constructor
 ·cases hs : isSp c with
  | false => rfl
  | true => have := aNj hs; simp [h] at this
 ·rintro rfl; revert h; decide
theorem aH6 (l : List UInt8) : eY (eY l) = eY l := by
 induction l using eY.induct with
 | case1 => rw [lO, lO]
 | case2 c r h ih => rw [oP h]; exact ih
 | case3 c r h hc ih =>
  have e : eY (c :: r) = eY (r.dropWhile (· != 10)) := by rw [eY, if_neg h, if_pos hc]
  rw [e]; exact ih
 | case4 c r h hc =>
  have e : eY (c :: r) = c :: r := by rw [eY, if_neg h, if_neg hc]
  rw [e, e]
theorem qN (p : UInt8 → Bool) (hp : ∀ c, isSp c = true → p c = false) (l x : List UInt8) (hx : sD x) : (l.takeWhile p ++ x).takeWhile p = l.takeWhile p := by
 rw [List.takeWhile_append_of_pos (fun a ha => by simpa using List.all_eq_true.1 (List.all_takeWhile (p := p) (l := l)) a ha)]
 rcases hx with rfl | ⟨c, r, rfl, hc⟩
 ·simp
 ·rw [List.takeWhile_cons_of_neg (by simp [hp c hc]), List.append_nil]
theorem zG (p : UInt8 → Bool) (l : List UInt8) : l.take (l.takeWhile p).length = l.takeWhile p :=
 (List.prefix_iff_eq_take.1 (List.takeWhile_prefix p)).symm
theorem iC (k : Nat) (l : List UInt8) (n p : Nat) : (Tok.mk k (bytes l) n p).tx = l := by simp [Tok.tx, bytes]
theorem aC6 {l : List UInt8} {kind len num pos : Nat} (hl : l ≠ []) (hs : eY l = l) (h : dQ l = .tok kind len num) : Good ⟨kind, bytes (l.take len), num, pos⟩ := by
 obtain ⟨c, r, rfl⟩ := List.exists_cons_of_ne_nil hl
 cases hc : fU c with
 | true =>
  have h1 := aP4 hc
  rw [kK hc] at h
  by_cases hn : 16 < ((c :: r).takeWhile cT).length
  ·rw [if_pos hn] at h; cases h
  ·rw [if_neg hn] at h
   injection h with e1 e2 e3
   subst e1; subst e2; subst e3
   rw [zG]
   have hT : (c :: r).takeWhile cT = c :: r.takeWhile cT := List.takeWhile_cons_of_pos (by simp [cT, hc])
   refine ⟨by rw [iC, hT]; simp, fun x hx => ?_, fun x hx => ?_⟩
   ·rw [iC, hT, List.cons_append]; exact iK h1.1 (fun h => h1.2 h.1)
   ·rw [iC]
    have := qN cT (fun _ h => aMd h) (c :: r) x hx
    rw [hT, List.cons_append] at this ⊢
    rw [kK hc, this, ← hT, if_neg hn]
 | false =>
  cases hd : cD c with
  | true =>
   have h1 := aQr hd
   have hT : (c :: r).takeWhile cD = c :: r.takeWhile cD := List.takeWhile_cons_of_pos hd
   cases hn : iT 0 ((c :: r).takeWhile cD) with
   | none => rw [nK hc hd hn] at h; cases h
   | some n =>
    rw [lP hc hd hn] at h
    injection h with e1 e2 e3
    subst e1; subst e2; subst e3
    rw [zG]
    refine ⟨by rw [iC, hT]; simp, fun x hx => ?_, fun x hx => ?_⟩
    ·rw [iC, hT, List.cons_append]; exact iK h1.1 (fun h => h1.2 h.1)
    ·rw [iC]
     have := qN cD (fun _ h => aNj h) (c :: r) x hx
     rw [hT] at hn
     rw [hT, List.cons_append] at this ⊢
     rw [lP hc hd (n := n) (by rw [this]; exact hn), this]
  | false =>
   have hsp : isSp c = false := by
    cases hsp : isSp c with
    | false => rfl
    | true =>
     rw [oP hsp] at hs
     have := (pN r).length_le
     rw [hs] at this; simp at this; omega
   rw [iN hc hd] at h
   by_cases h0 : jE (c :: r) = 0
   ·rw [if_pos h0] at h; cases h
   ·rw [if_neg h0] at h
    injection h with e1 e2 e3
    subst e1; subst e2; subst e3
    by_cases h2 : 2 ≤ (c :: r).length ∧ (c :: r).take 2 ∈ fE
    ·rw [pA h2.1 h2.2]
     obtain ⟨d, r', rfl⟩ : ∃ d r', r = d :: r' := by
      cases r with
      | nil => simp at h2
      | cons d r' => exact ⟨d, r', rfl⟩
     have hp : [c, d] ∈ fE := h2.2
     have hc47 : c ≠ 47 := by rintro rfl; revert hp; simp [fE]
     refine ⟨by rw [iC]; simp, fun x hx => ?_, fun x hx => ?_⟩
     ·rw [iC]; exact iK hsp (fun h => hc47 h.1)
     ·rw [iC]
      have e : jE (c :: d :: x) = 2 := pA (by simp) hp
      show dQ (c :: d :: x) = _
      rw [iN hc hd, e]; rfl
    ·have hcs : c ∈ dW := by
      apply Classical.byContradiction; intro hcs; exact h0 (tL h2 hcs)
     rw [oR h2 hcs]
     refine ⟨by rw [iC]; simp, fun x hx => ?_, fun x hx => ?_⟩
     ·rw [iC]
      refine iK hsp (fun h => ?_)
      rcases hx with rfl | ⟨d, r', rfl, hd'⟩
      ·simp at h
      ·have : d = 47 := by simpa using h.2
       subst this; revert hd'; decide
     ·rw [iC]
      have h3 : ¬ (2 ≤ (c :: x).length ∧ (c :: x).take 2 ∈ fE) := by
       rintro ⟨h4, h5⟩
       rcases hx with rfl | ⟨d, r', rfl, hd'⟩
       ·simp at h4
       ·have h6 : [c, d] ∈ fE := h5
        simp only [fE, mem_cons, List.cons.injEq, and_true, not_mem_nil, or_false] at h6
        rcases h6 with h6 | h6 | h6 | h6 | h6 | h6 <;> (obtain ⟨_, rfl⟩ := h6; revert hd'; decide)
      have e : jE (c :: x) = 1 := oR h3 hcs
      show dQ (c :: x) = _
      rw [iN hc hd, e]; rfl
inductive xS : List Tok → List UInt8 → Prop
 | nil {r : List UInt8} (h : eY r = []) : xS [] r
 | cons {t : Tok} {ts : List Tok} {sep r : List UInt8} (ht : Good t) (hb : sD (sep ++ r)) (hs : eY (sep ++ r) = eY r) (h : xS ts r) : xS (t :: ts) (t.tx ++ (sep ++ r))
def Tok.strip (t : Tok) : Nat × ByteArray × Nat := (t.kind, t.text, t.num)
theorem aLy (t : Tok) : bytes t.tx = t.text := by
 cases t with
 | mk k tx n p => cases tx; simp [bytes, Tok.tx]
theorem aRb : ∀ {ts : List Tok} {r : List UInt8}, xS ts r → ∀ (s : List UInt8) (k n : Nat), k ≤ s.length → eY (s.drop k) = eY r → n + ts.length ≤ 4000 →
  ∃ l, kD s k n = .ok (l ++ [⟨5, ⟨#[]⟩, 0, s.length⟩]) ∧ l.map Tok.strip = ts.map Tok.strip := by
 intro ts r h
 induction h with
 | @nil r h =>
  intro s k n hk he hn
  refine ⟨[], ?_, rfl⟩
  rw [mX]; · rfl
  unfold bF; rw [he, h]; simp
 | @cons t ts sep r ht hb hs h ih =>
  intro s k n hk he hn
  rw [ht.skip _ hb] at he
  have hd : s.drop (bF s k) = t.tx ++ (sep ++ r) := by rw [qJ, he]
  have hne : 0 < t.tx.length := by
   rcases hx : t.tx with _ | ⟨a, b⟩
   ·exact absurd hx ht.ne
   ·simp
  have hlen := congrArg List.length hd
  rw [List.length_drop, length_append] at hlen
  have hlt : bF s k < s.length := by omega
  have hnx : dQ (s.drop (bF s k)) = .tok t.kind t.tx.length t.num := by rw [hd]; exact ht.next _ hb
  simp only [length_cons] at hn
  rw [nD hk hlt hnx (by omega)]
  have hd2 : s.drop (bF s k + t.tx.length) = sep ++ r := by
   rw [← List.drop_drop, hd, List.drop_left]
  obtain ⟨l, hl, hm⟩ := ih s (bF s k + t.tx.length) (n + 1) (by omega) (by rw [hd2]; exact hs) (by omega)
  refine ⟨⟨t.kind, bytes ((s.drop (bF s k)).take t.tx.length), t.num, bF s k⟩ :: l, by rw [hl]; rfl, ?_⟩
  rw [List.map_cons, List.map_cons, hm]
  congr 1
  rw [hd, List.take_left, aLy]; rfl
theorem aT6 {ts : List Tok} {r : List UInt8} (h : xS ts r) (hr : r.length ≤ 262144) (hn : ts.length ≤ 4000) : ∃ l, iH r = .ok (l ++ [⟨5, ⟨#[]⟩, 0, r.length⟩]) ∧ l.map Tok.strip = ts.map Tok.strip := by
 unfold iH
 rw [if_neg (by omega)]
 exact aRb h r 0 0 (by omega) (by simp) (by omega)
theorem aB1 : ∀ (m : Nat) (s : List UInt8) (k n : Nat), s.length - k ≤ m → k ≤ s.length → n ≤ 4000 → ∀ l, kD s k n = .ok l →
  ∃ ts, l = ts ++ [⟨5, ⟨#[]⟩, 0, s.length⟩] ∧ (∀ t, t ∈ ts → Good t) ∧ (ts.map fun t => t.tx.length).sum ≤ s.length - k ∧ n + ts.length ≤ 4000 := by
 intro m
 induction m with
 | zero =>
  intro s k n hm hk hn l h
  have h1 : s.length ≤ bF s k := by have := lG s k hk; omega
  rw [mX h1] at h
  injection h with h
  exact ⟨[], h.symm, by simp, by simp, by simpa using hn⟩
 | succ m ih =>
  intro s k n hm hk hn l h
  by_cases h1 : s.length ≤ bF s k
  ·rw [mX h1] at h
   injection h with h
   exact ⟨[], h.symm, by simp, by simp, by simpa using hn⟩
  ·have hge := lG s k hk
   cases hx : dQ (s.drop (bF s k)) with
   | err e => rw [uY (by omega) hx] at h; cases h
   | tok kind len num =>
    by_cases h4 : n = 4000
    ·subst h4; rw [sG (by omega) hx] at h; cases h
    ·rw [nD hk (by omega) hx h4] at h
     have hne : s.drop (bF s k) ≠ [] := by intro hd; have := congrArg List.length hd; simp at this; omega
     have hlen := mS hne hx
     rw [List.length_drop] at hlen
     cases hr : kD s (bF s k + len) (n + 1) with
     | err p e => rw [hr] at h; cases h
     | ok l' =>
      rw [hr] at h
      injection h with h
      obtain ⟨ts, rfl, h5, h6, h7⟩ := ih s (bF s k + len) (n + 1) (by omega) (by omega) (by omega) l' hr
      have hg : Good ⟨kind, bytes ((s.drop (bF s k)).take len), num, bF s k⟩ := by
       refine aC6 hne ?_ hx
       rw [qJ]
       exact aH6 _
      refine ⟨_ :: ts, h.symm, ?_, ?_, by simp only [length_cons]; omega⟩
      ·intro t ht
       rcases mem_cons.1 ht with rfl | ht
       ·exact hg
       ·exact h5 t ht
      ·rw [List.map_cons, List.sum_cons, iC, List.length_take, List.length_drop]; omega
end
section
def lT (l : List Tok) : List ByteArray := (l.filter fun t => decide (t.kind ≠ 5)).map Tok.text
def iS (l : List Tok) : List UInt8 := Lib.join ((lT l).map (·.data.toList)) [32]
theorem oB (l : List Tok) (k : Nat) (hk : k < l.length) : lT (l.take (k + 1)) = if l[k].kind = 5 then lT (l.take k) else lT (l.take k) ++ [l[k].text] := by
 unfold lT
 rw [List.take_succ_eq_append_getElem hk, List.filter_append, List.map_append]
 by_cases h : l[k].kind = 5
 ·rw [if_pos h]; simp [h]
 ·rw [if_neg h]; simp [h]
theorem aJq (xs : List (List UInt8)) (y sep : List UInt8) : Lib.join (xs ++ [y]) sep = if xs = [] then y else Lib.join xs sep ++ sep ++ y := by
 cases xs with
 | nil => simp [Lib.join_one]
 | cons x r => rw [List.cons_append, Lib.join_cons, Lib.join_cons]; simp [Lib.joinTail]
theorem pI (l : List Tok) (k : Nat) (hk : k < l.length) : iS (l.take (k + 1)) = if l[k].kind = 5 then iS (l.take k) else if lT (l.take k) = [] then l[k].tx else iS (l.take k) ++ [32] ++ l[k].tx := by
 unfold iS
 rw [oB l k hk]
 by_cases h : l[k].kind = 5
 ·rw [if_pos h, if_pos h]
 ·rw [if_neg h, if_neg h, List.map_append, List.map_cons, List.map_nil, aJq]
  by_cases h0 : lT (l.take k) = []
  ·rw [if_pos h0, h0]; rfl
  ·rw [if_neg h0, if_neg (by simpa using h0)]; rfl
end
section
theorem aHx {l : List UInt8} {kind len num : Nat} (h : dQ l = .tok kind len num) : kind ≠ 5 := by
 unfold dQ at h
 split at h
 ·split at h
  ·cases h
  ·injection h with h1
   rw [← h1]; split <;> decide
 ·split at h
  ·split at h
   ·cases h
   ·injection h with h1; omega
  ·split at h
   ·cases h
   ·injection h with h1; omega
theorem Good.kind {t : Tok} (h : Good t) : t.kind ≠ 5 := aHx (h.next [] (.inl rfl))
def lN : List Tok → List UInt8
 | [] => []
 | [t] => t.tx
 | t :: u :: r => t.tx ++ (32 :: lN (u :: r))
theorem xA : ∀ (ts : List Tok), (∀ t, t ∈ ts → Good t) → xS ts (lN ts)
 | [], _ => .nil lO
 | [t], h => by
  have := xS.cons (sep := []) (r := []) (h t (by simp)) (.inl rfl) rfl (.nil lO)
  simpa [lN] using this
 | t :: u :: r, h => by
  have := xS.cons (sep := [32]) (h t (by simp)) (.inr ⟨32, lN (u :: r), rfl, by decide⟩) (oP (by decide)) (xA (u :: r) (fun x hx => h x (List.mem_cons_of_mem _ hx)))
  simpa [lN] using this
theorem aG1 {ts : List Tok} (h : ∀ t, t ∈ ts → t.kind ≠ 5) (e : Tok) (he : e.kind = 5) : lT (ts ++ [e]) = ts.map Tok.text := by
 unfold lT
 rw [List.filter_append]
 have h1 : ts.filter (fun t => decide (t.kind ≠ 5)) = ts := List.filter_eq_self.2 (fun t ht => by simpa using h t ht)
 rw [h1]
 simp [he]
theorem zA : ∀ (ts : List Tok), Lib.join ((ts.map Tok.text).map (·.data.toList)) [32] = lN ts
 | [] => rfl
 | [t] => by simp [Lib.join_one, lN, Tok.tx]
 | t :: u :: r => by
  have ih := zA (u :: r)
  rw [List.map_cons, List.map_cons, List.map_cons, List.map_cons] at *
  rw [Lib.join_cons] at *
  simp only [lN]
  rw [← ih]
  simp [Lib.joinTail, Tok.tx]
theorem yP : ∀ (ts : List Tok), (lN ts).length ≤ (ts.map fun t => t.tx.length).sum + ts.length
 | [] => by simp [lN]
 | [t] => by simp [lN]
 | t :: u :: r => by
  have ih := yP (u :: r)
  simp only [lN, length_append, length_cons, List.map_cons, List.sum_cons] at *
  omega
theorem aAu {l m : List Tok} (h : l.map Tok.strip = m.map Tok.strip) (p q : Nat) : aGg false (m ++ [⟨5, ⟨#[]⟩, 0, p⟩]) (l ++ [⟨5, ⟨#[]⟩, 0, q⟩]) := by
 have hl : l.length = m.length := by simpa using congrArg List.length h
 refine ⟨by simp [hl], fun k h1 h2 => ?_⟩
 rcases Nat.lt_or_ge k m.length with hk | hk
 ·rw [List.getElem_append_left hk, List.getElem_append_left (by omega)]
  have e : (m.map Tok.strip)[k]'(by simpa using hk) = (l.map Tok.strip)[k]'(by simp; omega) := by simp only [h]
  simp only [List.getElem_map, Tok.strip, Prod.mk.injEq] at e
  exact ⟨e.1, e.2.1, e.2.2, fun h => by cases h⟩
 ·rw [List.getElem_append_right hk, List.getElem_append_right (by omega)]
  simp
theorem again {T : List UInt8} {toks : List Tok} (h : iH T = .ok toks) (hT : T.length ≤ 75000) :
  ∃ l2, iH (iS toks) = .ok l2 ∧ aGg false toks l2 ∧ (iS toks).length ≤ 80000 ∧ toks.length ≤ 4001 := by
 unfold iH at h
 rw [if_neg (by omega)] at h
 obtain ⟨ts, rfl, hg, hs, hn⟩ := aB1 T.length T 0 0 (by omega) (by omega) (by omega) _ h
 have e : iS (ts ++ [⟨5, ⟨#[]⟩, 0, T.length⟩]) = lN ts := by
  unfold iS
  rw [aG1 (fun t ht => (hg t ht).kind) _ rfl, zA]
 have hl := yP ts
 rw [e]
 obtain ⟨l, h1, h2⟩ := aT6 (xA ts hg) (by omega) (by omega)
 exact ⟨_, h1, aAu h2 _ _, by omega, by simp; omega⟩
end
section
structure aFq (l l' : List Tok) : Prop where
 len : l.length = l'.length
 kind : ∀ k, (bU l k).kind = (bU l' k).kind
 text : ∀ k, (bU l k).text = (bU l' k).text
 num : ∀ k, (bU l k).num = (bU l' k).num
theorem aFq.of {l l' : List Tok} (h : l.map Tok.pt = l'.map Tok.pt) : aFq l l' := by
 have hl : l.length = l'.length := by simpa using congrArg List.length h
 have key : ∀ k, (bU l k).pt = (bU l' k).pt := fun k => by
  unfold bU
  have h1 := congrArg (·[k]?) h
  simp only [List.getElem?_map] at h1
  rw [List.getD_eq_getElem?_getD, List.getD_eq_getElem?_getD]
  cases h2 : l[k]? with
  | none => rw [h2] at h1; cases h3 : l'[k]? with
   | none => rfl
   | some _ => rw [h3] at h1; cases h1
  | some a => rw [h2] at h1; cases h3 : l'[k]? with
   | none => rw [h3] at h1; cases h1
   | some b => rw [h3] at h1; simpa using h1
 exact ⟨hl, fun k => congrArg PT.kind (key k), fun k => congrArg PT.text (key k), fun k => congrArg PT.num (key k)⟩
section
variable {l l' : List Tok} (h : aFq l l')
include h
theorem iQ : cS l = cS l' := by funext k s; unfold cS; rw [h.kind, h.text]
theorem qY : dN l = dN l' := by funext k s; unfold dN; rw [h.kind, h.text]
theorem mA : jW l = jW l' := by funext k; unfold jW; rw [h.kind, h.text]
theorem aIe : qE l = qE l' := by funext k; unfold qE; rw [h.kind, h.num]
theorem mB : fD l = fD l' := by funext s k; unfold fD; rw [iQ h]
theorem aD0 (sub : Nat → bN aH) (lv : Nat) : ∀ (n : Nat) (x : aH) (k : Nat), fR l sub lv n x k = fR l' sub lv n x k
 | 0, _, _ => rfl
 | n + 1, x, k => by
  rw [fR, fR, h.kind, h.text]
  split
  ·split
   ·exact aD0 sub lv n _ _
   ·rfl
  ·rfl
theorem aCo (s : Nat → bN aH) : ∀ (j : Nat), gS l s j = gS l' s j
 | 0 => by funext k; rw [gS, gS]
 | j + 1 => by
  funext k; rw [gS, gS, aCo s j, h.len]
  split
  ·exact aD0 h _ _ _ _ _
  ·rfl
theorem aOj : aHo l = aHo l' := by funext r; unfold aHo; rw [iQ h]
theorem zO : ∀ d, bL l d = bL l' d
 | 0 => by funext k; rw [bL, bL, h.kind, h.num, h.text, iQ h]
 | d + 1 => by funext k; rw [bL, bL, h.kind, h.num, h.text, iQ h, zO d, aOj h, aCo h]
theorem oT : lJ l = lJ l' := by funext k; unfold lJ; rw [zO h, aCo h]
theorem aIm : xV l = xV l' := by
 have e : jT l = jT l' := by funext n k; unfold jT; rw [iQ h, oT h, mB h]
 funext k; unfold xV; rw [mA h, e]
theorem aPk : rC l = rC l' := by funext k; unfold rC; rw [qY h, aIm h, oT h]
theorem aEg {α : Type} (el : Nat → Nat → bN α) : ∀ (n : Nat) (acc : List α) (k : Nat), lI l el n acc k = lI l' el n acc k
 | 0, _, _ => rfl
 | n + 1, acc, k => by
  rw [lI, lI, iQ h, mB h]
  congr 1; funext x k; rw [aEg el n]
theorem yZ {α : Type} (el : Nat → Nat → bN α) : jC l el = jC l' el := by
 funext k; unfold jC; rw [mB h, iQ h, h.len]
 congr 1; funext x k; rw [aEg h el]
theorem aEu : rA l = rA l' := by funext k; unfold rA; rw [aPk h, yZ h]
theorem uV : oO l = oO l' := by funext s k; unfold oO; rw [mB h]
theorem aNy : fB l = fB l' := by
 have e1 : qI l = qI l' := by funext k; unfold qI; rw [mA h, mB h, oT h, uV h]
 have e2 : goP l = goP l' := by funext k; unfold goP; rw [mA h, aEu h, uV h]
 have e3 : nH l = nH l' := by funext z k; unfold nH; rw [aIm h, uV h]
 have e4 : tA l = tA l' := by funext b e t k; unfold tA; rw [qY h]
 have e5 : ifP l = ifP l' := by funext b k; unfold ifP; rw [oT h, e4]
 have e6 : pJ l = pJ l' := by funext b k; unfold pJ; rw [oT h]
 have e7 : aD8 l = aD8 l' := by funext k; unfold aD8; rw [uV h]
 have e8 : iB l = iB l' := by funext n k; unfold iB; rw [iQ h, oT h, uV h, aEu h]
 have e9 : mG l = mG l' := by funext k; unfold mG; rw [mA h, e8]
 funext b k; unfold fB; rw [qY h, e1, e2, e3, e5, e6, e7, e9]
theorem aBc (st : Nat → bN aJ) : ∀ (n : Nat) (acc : List aJ) (k : Nat), eS l st n acc k = eS l' st n acc k
 | 0, _, _ => rfl
 | n + 1, acc, k => by
  rw [eS, eS, iQ h]
  congr 1; congr 1; funext s k; rw [aBc st n]
theorem aBp : ∀ d, eX l d = eX l' d
 | 0 => by funext k; rw [eX, eX, iQ h]
 | d + 1 => by
  funext k; rw [eX, eX, mB h, aBp d, aNy h, h.len]
  congr 1; funext x k; rw [aBc h]
theorem aMj : gR l = gR l' := by
 have e1 : mP l = mP l' := by funext k; unfold mP; rw [mA h, iQ h, aIe h, mB h]
 have e2 : qX l = qX l' := by funext k; unfold qX; rw [aIe h]
 have e3 : nE l = nE l' := by funext b k; unfold nE; rw [mA h, iQ h, e2, mB h]
 have e4 : fQ l = fQ l' := by funext n k; unfold fQ; rw [h.kind, qY h, mA h]
 have e5 : sW l = sW l' := by funext k; unfold sW; rw [mA h, e4, yZ h, aBp h]
 funext x k; unfold gR; rw [qY h, e1, e3, e5]
theorem aFk : ∀ (n : Nat) (x : cK) (k : Nat), lK l n x k = lK l' n x k
 | 0, _, _ => rfl
 | n + 1, x, k => by
  rw [lK, lK, h.kind, aMj h]
  congr 1; congr 1; funext y k; rw [aFk n]
theorem aEe : fH l = fH l' := by unfold fH; rw [h.len, aFk h]
end
end
section
open Go.RowKit
structure TOk (l : List Tok) : Prop where
 last : rP l
 reg : ∀ t, t ∈ l → aPn t
 len : l.length ≤ 1000000
theorem lA {e : Nat} (h : e ≠ 0) : bC .eql (e : Int) 0 = some false := by simp [bC, h]
theorem jS {m n : Nat} : bC .eql (m : Int) (n : Int) = some (decide (m = n)) := by
 by_cases h : m = n
 ·subst h; simp [bC]
 ·have h2 : ¬ (m : Int) = (n : Int) := by omega
  simp [bC, h, h2]
def aC7 (e b k x b1 e1 : Nat) : Prop := (e = 0 → k = b1 ∧ x = e1) ∧ (e ≠ 0 → b = b1 ∧ e = e1)
theorem aC7.run {α : Type} {e b k x b1 e1 : Nat} {r : bN α} (h : aC7 e b k x b1 e1) (hx : x ≠ 0) (hr : e = 0 → r = .err k x) (y : α) (k1 : Nat) : kX e b r y k1 b1 e1 := by
 by_cases he : e = 0
 ·obtain ⟨rfl, rfl⟩ := h.1 he
  subst he
  exact .err _ _ _ _ _ (hr rfl) hx
 ·obtain ⟨rfl, rfl⟩ := h.2 he
  exact .skip he _ _ _
theorem aC7.small {e b k x b1 e1 : Nat} (h : aC7 e b k x b1 e1) (he : e < 16) (hx : x < 16) : e1 < 16 := by
 by_cases h0 : e = 0
 ·rw [← (h.1 h0).2]; exact hx
 ·rw [← (h.2 h0).2]; exact he
end
section
open Go.RowKit
theorem TOk.of {s : List UInt8} {l : List Tok} (h : iH s = .ok l) : TOk l := ⟨(wD h).ends, (wD h).reg, by have := (wD h).few; omega⟩
def jM (s : List UInt8) : cK × Nat × Nat :=
 match iH s with
 | .err p e => (⟨[], [], []⟩, p, e)
 | .ok l => match fH l with
  | .ok x _ => (x, s.length, 0)
  | .err k e => (⟨[], [], []⟩, (bU l k).pos, e)
theorem aA9 {s : List UInt8} {p e : Nat} (h : iH s = .err p e) : jM s = (⟨[], [], []⟩, p, e) := by unfold jM; rw [h]
theorem aBe {s : List UInt8} {l : List Tok} {k e : Nat} (h : iH s = .ok l) (h2 : fH l = .err k e) (hk : k < l.length) : jM s = (⟨[], [], []⟩, l[k].pos, e) := by unfold jM; rw [h]; dsimp only; rw [h2]; dsimp only; rw [bG hk]
theorem pT {s : List UInt8} {l : List Tok} {x : cK} {k : Nat} (h : iH s = .ok l) (h2 : fH l = .ok x k) : jM s = (x, s.length, 0) := by unfold jM; rw [h]; dsimp only; rw [h2]
end
section
def bN.Few (k : Nat) : bN aH → Prop
 | .ok x k' => x.nodes + 3 * k ≤ 3 * k'
 | .err _ _ => True
theorem aK2 (op num : Int) (s : ByteArray) (x : aH) : (aH.mk op num s [x]).nodes = 2 + x.nodes := by simp [aH.nodes, cZ]; omega
theorem aKf (op num : Int) (s : ByteArray) (x y : aH) : (aH.mk op num s [x, y]).nodes = 3 + x.nodes + y.nodes := by simp [aH.nodes, cZ]; omega
theorem qH (op num : Int) (s : ByteArray) : (aH.mk op num s []).nodes = 1 := by simp [aH.nodes, cZ]
theorem aBv {l : List Tok} {sub : Nat → bN aH} {level : Nat} (hs : ∀ k, (sub k).Few k) : ∀ (n : Nat) (x : aH) (k j : Nat), x.nodes + 3 * j ≤ 3 * k → (fR l sub level n x k).Few j
 | 0, x, k, j, h => by unfold fR; exact h
 | n + 1, x, k, j, h => by
  unfold fR
  split
  ·have h1 := hs (k + 1)
   cases hr : sub (k + 1) with
   | ok y k' =>
    rw [hr] at h1
    have h2 : y.nodes + 3 * (k + 1) ≤ 3 * k' := h1
    exact aBv hs n _ k' j (by rw [aKf]; omega)
   | err a e => trivial
  ·exact h
theorem uE {l : List Tok} {single : Nat → bN aH} (hs : ∀ k, (single k).Few k) : ∀ (j k : Nat), (gS l single j k).Few k
 | 0, k => by unfold gS; exact hs k
 | j + 1, k => by
  unfold gS
  have h1 := uE (l := l) hs j k
  cases hr : gS l single j k with
  | ok x k' => rw [hr] at h1; exact aBv (l := l) (fun k => uE (l := l) hs j k) _ _ _ _ h1
  | err a e => trivial
theorem rH {l : List Tok} : ∀ (d k : Nat), (bL l d k).Few k
 | 0, k => by
  unfold bL
  split
  ·show aH.nodes _ + 3 * k ≤ 3 * (k + 1); rw [qH]; omega
  ·split
   ·show aH.nodes _ + 3 * k ≤ 3 * (k + 1); rw [qH]; omega
   ·split <;> trivial
 | d + 1, k => by
  have h1 := rH (l := l) d (k + 1)
  have hn : ∀ op, (aKc op (bL l d (k + 1))).Few k := by
   intro op
   cases hr : bL l d (k + 1) with
   | ok x k' => rw [hr] at h1; have h2 : x.nodes + 3 * (k + 1) ≤ 3 * k' := h1; show aH.nodes _ + 3 * k ≤ 3 * k'; rw [aK2]; omega
   | err a e => trivial
  have h2 := uE (l := l) (single := bL l d) (fun k => rH (l := l) d k) 5 (k + 1)
  unfold bL
  split
  ·show aH.nodes _ + 3 * k ≤ 3 * (k + 1); rw [qH]; omega
  ·split
   ·show aH.nodes _ + 3 * k ≤ 3 * (k + 1); rw [qH]; omega
   ·split
    ·exact hn 3
    ·split
     ·exact hn 4
     ·split
      ·cases hr : gS l (bL l d) 5 (k + 1) with
       | ok x k' =>
        rw [hr] at h2
        have h3 : x.nodes + 3 * (k + 1) ≤ 3 * k' := h2
        change (if cS l k' [41] then bN.ok x (k' + 1) else bN.err k' 4).Few k
        by_cases hs : cS l k' [41] = true
        ·rw [if_pos hs]; show x.nodes + 3 * k ≤ 3 * (k' + 1); omega
        ·rw [if_neg hs]; trivial
       | err a e => trivial
      ·trivial
theorem aJr (l : List Tok) (k : Nat) : (lJ l k).Few k := uE (l := l) (single := bL l 24) (fun k => rH (l := l) 24 k) 5 k
end
section
theorem aFh (s : List UInt8) : (jM s).1.small 1000000000 := by
 have hz : (⟨[], [], []⟩ : cK).small 1000000000 := ⟨by simp, by simp, by simp, by simp⟩
 cases h : iH s with
 | err p e => rw [aA9 h]; exact hz
 | ok l =>
  have hok := TOk.of h
  cases h2 : fH l with
  | ok x k => rw [pT h h2]; exact yV (N := 1000000000) hok.last (by decide) (by have := hok.len; omega) (fun k x k9 hk h => by have h1 := aJr l k; have h2 := kY hok.last hk; rw [h] at h1 h2; have h3 : x.nodes + 3 * k ≤ 3 * k9 := h1; have h4 := h2.2; have := hok.len; omega) h2
  | err k e =>
   have hb : k < l.length := by have h9 : (fH l).At l 0 := aD9 hok.last _ _ _ hok.last.1; rw [h2] at h9; exact h9.2.1
   rw [aBe h h2 hb]; exact hz
end
section
theorem aGc (l : List Tok) (c : Nat) (h : ∀ t, t ∈ l → t.text.size ≤ c) : ∀ k, (iS (l.take k)).length ≤ k * (c + 1)
 | 0 => by simp [iS, lT, Lib.join]
 | k + 1 => by
  have ih := aGc l c h k
  by_cases hk : k < l.length
  ·have h1 : l[k].tx.length ≤ c := h _ (getElem_mem hk)
   rw [pI l k hk, Nat.succ_mul]
   split
   ·omega
   ·split
    ·omega
    ·simp only [length_append, length_cons, length_nil]; omega
  ·rw [take_of_length_le (by omega)] at ih ⊢
   rw [Nat.succ_mul]; omega
theorem aH7 {α : Type} (f : α → Nat) : ∀ (l : List α) (x : α), x ∈ l → f x ≤ (l.map f).sum
 | y :: l, x, h => by
  rw [List.map_cons, List.sum_cons]
  rcases mem_cons.1 h with rfl | h
  ·omega
  ·have := aH7 f l x h; omega
theorem aJg {s : List UInt8} {L : List Tok} (h : iH s = .ok L) : L.length ≤ 4001 ∧ ∀ t, t ∈ L → t.text.size ≤ 262144 := by
 unfold iH at h
 split at h
 ·cases h
 ·rename_i hl
  obtain ⟨ts, rfl, hg, hs, hn⟩ := aB1 s.length s 0 0 (by omega) (by omega) (by omega) _ h
  refine ⟨by simp; omega, fun t ht => ?_⟩
  rcases mem_append.1 ht with ht | ht
  ·have := aH7 (fun t : Tok => t.tx.length) ts t ht
   show t.tx.length ≤ _; omega
  ·rw [List.mem_singleton.1 ht]; exact Nat.zero_le _
theorem aNf {l m : List Tok} (h : aGg false l m) : aFq l m := by
 refine aFq.of (List.ext_getElem (by simp [h.1]) fun i h1 h2 => ?_)
 simp only [List.length_map] at h1 h2
 obtain ⟨a, b, c, -⟩ := h.2 i h1 h2
 simp only [List.getElem_map, Tok.pt, a, b, c]
theorem aF9 {p : cK} (h : sY p) : vI p = cR p := by unfold vI; rw [yO h]; rfl
theorem yH {p : cK} (h : sY p) : ∃ L, iH (cR p) = .ok L ∧ jM (cR p) = (p, (cR p).length, 0) ∧ (jM (iS L)).1 = p ∧ (jM (iS L)).2.2 = 0 ∧ (iS L).length ≤ 80000 := by
 obtain ⟨L, k, h1, h2, h3⟩ := aFx h.facts.sane (yO h)
 obtain ⟨L2, h4, h5, h6, -⟩ := again h1 h.facts.len
 have h7 : fH L2 = .ok p k := by rw [← h3]; exact (aEe (aNf h5)).symm ▸ rfl
 refine ⟨L, h1, pT h1 h3, ?_, ?_, h6⟩ <;> rw [pT h4 h7]
end
section
open Go.RowKit
theorem aPm (l0 : List Int) (hl0 : l0.length ≤ 9223372036854775807) (s : Sto) : aL Tryz.prog 13 [.c (.sl l0.length (l0.map fun i => .val (.int .i64 i)))] [] s fun t s' => ∃ p, sY p ∧ t = .c (.val (.string (bytes (cR p)))) ∧ s' = s := by
 obtain ⟨bx, rw⟩ := s
 refine aD Tryz.func13 rfl (Nat.le_of_ble_eq_true rfl) ?_
 show AWp Tryz.prog _ ⟨6, _, ⟨bx, rw⟩, [(0, .c (.sl l0.length (l0.map fun i => .val (.int .i64 i))))]⟩ _
 refine go 8 ?_
 refine wo rfl (bV rfl rfl (by decide) Tryz.call17 rfl (aHs l0 hl0 _) ?_)
 rintro _ _ ⟨p, rfl, hp, rfl⟩
 have hfa := hp.facts
 refine wo rfl (bV rfl rfl (by decide) Tryz.call18 rfl (aNw p hfa.sane (by have := hfa.wt; omega) _) ?_)
 rintro _ _ ⟨rfl, rfl⟩
 refine go 4 ?_
 exact cB (s' := ⟨bx, rw⟩) (.inr rfl) rfl (aF rfl) (aA (.refl _) (.refl _)) ⟨p, hp, by rw [aF9 hp], rfl⟩
end
section
open Go.RowKit
theorem aOh (l : List Tok) (hl : l.length ≤ 1000000) (hb : ∀ k, (iS (l.take k)).length ≤ 2000000000) (ht : ∀ k (h : k < l.length), l[k].text.size ≤ 1000000000) (s : Sto) : aL Tryz.prog 22 [.c (.sl l.length (l.flatMap aW))] [] s fun t s' => t = .c (.val (.string (bytes (iS l)))) ∧ s' = s := by
 obtain ⟨bx, rw⟩ := s
 refine aD Tryz.func22 rfl (Nat.le_of_ble_eq_true rfl) ?_
 show AWp Tryz.prog _ ⟨30, _, ⟨bx, rw⟩, [(0, .c (.sl l.length (l.flatMap aW)))]⟩ _
 refine go 18 ?_
 refine oC (l.length) 5 (fun k => [(3, .c (.val (.string (bytes (iS (l.take (k))))))), (4, .c (.val (.bool (decide (lT (l.take (k)) = []))))), (0, .c (.sl l.length (l.flatMap aW)))]) (sA rfl) fun k hk => ?_
 show AWp Tryz.prog _ ⟨30, _, _, (5, nI k) :: [(3, .c (.val (.string (bytes (iS (l.take (k))))))), (4, .c (.val (.bool (decide (lT (l.take (k)) = []))))), (0, .c (.sl l.length (l.flatMap aW)))]⟩ _
 refine go 6 ?_
 by_cases h1 : ((k : Nat) : Int) < ((l.length : Nat) : Int)
 ·refine wcp true rfl (jZ h1) ?_
  refine go 12 ?_
  refine wyy rfl rfl rfl (bH aW aW l bJ (fun _ => rfl) k rfl rfl rfl rfl (by omega) (by decide) Tryz.runUnderlying43 Tryz.sizeOf84) ?_
  refine go 2 ?_
  by_cases h3 : ((l[k].kind : Nat) : Int) = 5
  ·refine wcp true rfl (eR h3) ?_
   refine go 9 ?_
   refine wyy rfl rfl rfl (bB rfl rfl rfl (by omega) (by omega)) ?_
   refine go 2 ?_
   exact ⟨by omega, (aG rfl (gQ (by omega)) (aG rfl (jX (by rw [pI l k (by omega), if_pos (by omega)])) (aG rfl (bZ (by rw [oB l k (by omega), if_pos (by omega)])) (sA rfl))))⟩
  ·refine wcp false rfl (eD h3) ?_
   refine go 8 ?_
   have hlk : k < l.length := by omega
   refine go 1 ?_
   rcases Bool.eq_false_or_eq_true (decide (lT (l.take (k)) = [])) with h6 | h6
   ·refine wyy rfl rfl rfl (fL (bZ (aKs h6)) (lF rfl rfl)) ?_
    refine go 9 ?_
    refine wyy rfl rfl rfl (bH aW aW l bJ (fun _ => rfl) k rfl rfl rfl rfl (by omega) (by decide) Tryz.runUnderlying43 Tryz.sizeOf84) ?_
    refine go 2 ?_
    refine wyy rfl rfl rfl (aN (iS (l.take (k))) l[k].text.data.toList rfl rfl rfl rfl (back _) (by have h1 := hb k; have h2 := ht k (by omega); have h3 : l[k].text.data.toList.length = l[k].text.size := rfl; (try simp only [length_append, length_cons, length_nil]); omega)) ?_
    refine go 7 ?_
    refine wyy rfl rfl rfl (bB rfl rfl rfl (by omega) (by omega)) ?_
    refine go 2 ?_
    exact ⟨by omega, (aG rfl (gQ (by omega)) (aG rfl (jX (by rw [pI l k (by omega), if_neg (by omega), if_pos (of_decide_eq_true h6)]; rw [show iS (l.take k) = [] by unfold iS; rw [of_decide_eq_true h6]; rfl]; rfl)) (aG rfl (bZ (by rw [oB l k (by omega), if_neg (by omega)]; simp)) (sA rfl))))⟩
   ·refine wyy rfl rfl rfl (fL (bZ (aKt h6)) (lF rfl rfl)) ?_
    refine go 5 ?_
    refine wyy rfl rfl rfl (aN (iS (l.take (k))) [32] rfl rfl rfl rfl rfl (by have h1 := hb k; have h2 := ht k (by omega); have h3 : l[k].text.data.toList.length = l[k].text.size := rfl; (try simp only [length_append, length_cons, length_nil]); omega)) ?_
    refine go 7 ?_
    refine wyy rfl rfl rfl (bH aW aW l bJ (fun _ => rfl) k rfl rfl rfl rfl (by omega) (by decide) Tryz.runUnderlying43 Tryz.sizeOf84) ?_
    refine go 2 ?_
    refine wyy rfl rfl rfl (aN ((iS (l.take (k))) ++ [32]) l[k].text.data.toList rfl rfl rfl rfl (back _) (by have h1 := hb k; have h2 := ht k (by omega); have h3 : l[k].text.data.toList.length = l[k].text.size := rfl; (try simp only [length_append, length_cons, length_nil]); omega)) ?_
    refine go 7 ?_
    refine wyy rfl rfl rfl (bB rfl rfl rfl (by omega) (by omega)) ?_
    refine go 2 ?_
    exact ⟨by omega, (aG rfl (gQ (by omega)) (aG rfl (jX (by rw [pI l k (by omega), if_neg (by omega), if_neg (of_decide_eq_false h6)]; rfl)) (aG rfl (bZ (by rw [oB l k (by omega), if_neg (by omega)]; simp)) (sA rfl))))⟩
 ·refine wcp false rfl (jQ h1) ?_
  refine go 15 ?_
  exact cB (s' := ⟨bx, rw⟩) (.inr rfl) rfl (aF rfl) (aA (.refl _) (.refl _)) ⟨oW (by rw [take_of_length_le (by omega)]), rfl⟩
end
end Go.Proofs.YteiefdnbdjnoiaaGreatDoor
