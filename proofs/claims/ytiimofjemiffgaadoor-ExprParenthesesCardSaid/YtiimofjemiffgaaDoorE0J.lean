import Derived.Test.YtiimofjemiffgaaDoorB1J
import Derived.Test.YtiimofjemiffgaaDoorA1J
set_option linter.unusedVariables false
set_option linter.unusedSimpArgs false
namespace Go.Proofs.YtiimofjemiffgaaDoor
inductive PRes (α : Type) where
 | ok (x : α) (k : Nat)
 | err (k e : Nat)
def tokAt (l : List Tok) (k : Nat) : Tok := l.getD k default
theorem tokAt_lt {l : List Tok} {k : Nat} (h : k < l.length) : tokAt l k = l[k] := by unfold tokAt; rw [List.getD_eq_getElem?_getD, List.getElem?_eq_getElem h]; rfl
def binOp (s : ByteArray) : Nat × Nat :=
 if s = bytes [124, 124] then (17, 1) else if s = bytes [38, 38] then (16, 2) else if s = bytes [61, 61] then (14, 3) else if s = bytes [33, 61] then (15, 3) else
 if s = bytes [60] then (10, 3) else if s = bytes [60, 61] then (11, 3) else if s = bytes [62] then (12, 3) else if s = bytes [62, 61] then (13, 3) else
 if s = bytes [43] then (8, 4) else if s = bytes [45] then (9, 4) else if s = bytes [42] then (5, 5) else if s = bytes [47] then (6, 5) else if s = bytes [37] then (7, 5) else (0, 0)
def signAt (l : List Tok) (k : Nat) (s : List UInt8) : Bool := decide ((tokAt l k).kind = 4) && decide ((tokAt l k).text = bytes s)
def loopP (l : List Tok) (sub : Nat → PRes AExpr) (level : Nat) : Nat → AExpr → Nat → PRes AExpr
 | 0, x, k => .ok x k
 | n + 1, x, k =>
  if (tokAt l k).kind = 4 ∧ (binOp (tokAt l k).text).2 = level then
   match sub (k + 1) with
   | .ok y k' => loopP l sub level n (.mk ((binOp (tokAt l k).text).1 : Int) 0 emptyB [x, y]) k'
   | .err a e => .err a e
  else .ok x k
def binP (l : List Tok) (single : Nat → PRes AExpr) : Nat → Nat → PRes AExpr
 | 0, k => single k
 | j + 1, k =>
  match binP l single j k with
  | .ok x k' => loopP l (binP l single j) (5 - j) (l.length + 1) x k'
  | .err a e => .err a e
def negP (op : Int) : PRes AExpr → PRes AExpr
 | .ok x k => .ok (.mk op 0 emptyB [x]) k
 | .err a e => .err a e
def parP (l : List Tok) : PRes AExpr → PRes AExpr
 | .ok x k => if signAt l k [41] then .ok x (k + 1) else .err k 4
 | .err a e => .err a e
def singleP (l : List Tok) : Nat → Nat → PRes AExpr
 | 0, k =>
  if (tokAt l k).kind = 2 then .ok (.mk 1 (tokAt l k).num emptyB []) (k + 1)
  else if (tokAt l k).kind = 1 then .ok (.mk 2 0 (tokAt l k).text []) (k + 1)
  else if signAt l k [45] || signAt l k [33] || signAt l k [40] then .err k 3
  else .err k 4
 | d + 1, k =>
  if (tokAt l k).kind = 2 then .ok (.mk 1 (tokAt l k).num emptyB []) (k + 1)
  else if (tokAt l k).kind = 1 then .ok (.mk 2 0 (tokAt l k).text []) (k + 1)
  else if signAt l k [45] then negP 3 (singleP l d (k + 1))
  else if signAt l k [33] then negP 4 (singleP l d (k + 1))
  else if signAt l k [40] then parP l (binP l (singleP l d) 5 (k + 1))
  else .err k 4
def exprP (l : List Tok) (k : Nat) : PRes AExpr := binP l (singleP l 24) 5 k
def EndAt (l : List Tok) : Prop := ∃ h : 0 < l.length, (l[l.length - 1]'(by omega)).kind = 5
theorem EndAt.more {l : List Tok} (h : EndAt l) {k : Nat} (hk : k < l.length) (hn : (tokAt l k).kind ≠ 5) : k + 1 < l.length := by
 obtain ⟨h0, h1⟩ := h
 rcases Nat.lt_or_ge (k + 1) l.length with h | h
 ·exact h
 ·exfalso; apply hn; rw [tokAt_lt hk]; obtain rfl : k = l.length - 1 := by omega
  exact h1
theorem signAt_kind {l : List Tok} {k : Nat} {s : List UInt8} (h : signAt l k s = true) : (tokAt l k).kind = 4 ∧ (tokAt l k).text = bytes s := by simpa [signAt] using h
def PRes.In {α : Type} (l : List Tok) (k : Nat) : PRes α → Prop
 | .ok _ k' => k < k' ∧ k' < l.length
 | .err a e => k ≤ a ∧ a < l.length ∧ 0 < e ∧ e < 16
theorem PRes.In.mono {α : Type} {l : List Tok} {k j : Nat} {r : PRes α} (h : r.In l k) (hj : j ≤ k) : r.In l j := by
 cases r <;> unfold PRes.In at h ⊢ <;> omega
theorem loopP_in {l : List Tok} (hl : EndAt l) {sub : Nat → PRes AExpr} {level : Nat} (hs : ∀ k, k < l.length → (sub k).In l k) : ∀ (n : Nat) (x : AExpr) (k j : Nat), j < k → k < l.length → (loopP l sub level n x k).In l j
 | 0, x, k, j, hj, hk => by unfold loopP; exact ⟨hj, hk⟩
 | n + 1, x, k, j, hj, hk => by
  unfold loopP
  by_cases ht : (tokAt l k).kind = 4 ∧ (binOp (tokAt l k).text).2 = level
  ·rw [if_pos ht]
   have hm := hl.more hk (by omega)
   have h1 := hs (k + 1) hm
   cases hr : sub (k + 1) with
   | ok y k' =>
    rw [hr] at h1
    obtain ⟨h2, h3⟩ := h1
    exact loopP_in hl hs n _ k' j (by omega) h3
   | err a e =>
    rw [hr] at h1
    obtain ⟨h2, h3, h4, h5⟩ := h1
    exact ⟨by omega, h3, h4, h5⟩
  ·rw [if_neg ht]; exact ⟨hj, hk⟩
theorem binP_in {l : List Tok} (hl : EndAt l) {single : Nat → PRes AExpr} (hs : ∀ k, k < l.length → (single k).In l k) : ∀ (j k : Nat), k < l.length → (binP l single j k).In l k
 | 0, k, hk => by unfold binP; exact hs k hk
 | j + 1, k, hk => by
  unfold binP
  have h1 := binP_in hl hs j k hk
  cases hr : binP l single j k with
  | ok x k' =>
   rw [hr] at h1
   exact loopP_in hl (fun k hk => binP_in hl hs j k hk) _ _ _ _ h1.1 h1.2
  | err a e => rw [hr] at h1; exact h1
theorem negP_in {l : List Tok} {op : Int} {k j : Nat} {r : PRes AExpr} (h : r.In l k) (hj : j ≤ k) : (negP op r).In l j := by
 cases r with
 | ok x k' => obtain ⟨h1, h2⟩ := h; exact ⟨by omega, h2⟩
 | err a e => obtain ⟨h1, h2, h3, h4⟩ := h; exact ⟨by omega, h2, h3, h4⟩
theorem parP_in {l : List Tok} (hl : EndAt l) {k j : Nat} {r : PRes AExpr} (h : r.In l k) (hj : j ≤ k) : (parP l r).In l j := by
 cases r with
 | ok x k' =>
  obtain ⟨h1, h2⟩ := h
  show PRes.In l j (if signAt l k' [41] then .ok x (k' + 1) else .err k' 4)
  by_cases hs : signAt l k' [41] = true
  ·rw [if_pos hs]; exact ⟨by omega, hl.more h2 (by rw [(signAt_kind hs).1]; decide)⟩
  ·rw [if_neg hs]; exact ⟨by omega, h2, by omega, by omega⟩
 | err a e => obtain ⟨h1, h2, h3, h4⟩ := h; exact ⟨by omega, h2, h3, h4⟩
theorem singleP_in {l : List Tok} (hl : EndAt l) : ∀ (d k : Nat), k < l.length → (singleP l d k).In l k
 | 0, k, hk => by
  unfold singleP
  by_cases h1 : (tokAt l k).kind = 2
  ·rw [if_pos h1]; exact ⟨by omega, hl.more hk (by omega)⟩
  ·rw [if_neg h1]
   by_cases h2 : (tokAt l k).kind = 1
   ·rw [if_pos h2]; exact ⟨by omega, hl.more hk (by omega)⟩
   ·rw [if_neg h2]; split <;> exact ⟨by omega, hk, by omega, by omega⟩
 | d + 1, k, hk => by
  unfold singleP
  by_cases h1 : (tokAt l k).kind = 2
  ·rw [if_pos h1]; exact ⟨by omega, hl.more hk (by omega)⟩
  ·rw [if_neg h1]
   by_cases h2 : (tokAt l k).kind = 1
   ·rw [if_pos h2]; exact ⟨by omega, hl.more hk (by omega)⟩
   ·rw [if_neg h2]
    by_cases h3 : signAt l k [45] = true
    ·rw [if_pos h3]; exact negP_in (singleP_in hl d _ (hl.more hk (by rw [(signAt_kind h3).1]; decide))) (by omega)
    ·rw [if_neg h3]
     by_cases h4 : signAt l k [33] = true
     ·rw [if_pos h4]; exact negP_in (singleP_in hl d _ (hl.more hk (by rw [(signAt_kind h4).1]; decide))) (by omega)
     ·rw [if_neg h4]
      by_cases h5 : signAt l k [40] = true
      ·rw [if_pos h5]; exact parP_in hl (binP_in hl (fun k hk => singleP_in hl d k hk) _ _ (hl.more hk (by rw [(signAt_kind h5).1]; decide))) (by omega)
      ·rw [if_neg h5]; exact ⟨by omega, hk, by omega, by omega⟩
theorem exprP_in {l : List Tok} (hl : EndAt l) {k : Nat} (hk : k < l.length) : (exprP l k).In l k := binP_in hl (fun k hk => singleP_in hl 24 k hk) 5 k hk
end Go.Proofs.YtiimofjemiffgaaDoor
namespace Go.Proofs.YtiimofjemiffgaaDoor
def sgnL : List (List UInt8) := [[124, 124], [38, 38], [61, 61], [33, 61], [60], [60, 61], [62], [62, 61], [43], [45], [42], [47], [37]]
def strL' : List Int := [0, 1, 2, 2, 2, 2, 2, 2, 3, 3, 4, 4, 4]
def opsL : List Int := [17, 16, 14, 15, 10, 11, 12, 13, 8, 9, 5, 6, 7]
def opsT (a b : Nat) : List UInt8 := [120, 32] ++ sgnL.getD a [] ++ [32, 121, 32] ++ sgnL.getD b [] ++ [32, 122]
def opsX (a b : Nat) (x : AExpr) : Bool :=
 match x.args with
 | [y, z] => if strL'.getD b 0 ≤ strL'.getD a 0 then decide (x.op = opsL.getD b 0) && decide (y.op = opsL.getD a 0) && decide (z.name = bytes [122]) else decide (x.op = opsL.getD a 0) && decide (z.op = opsL.getD b 0) && decide (y.name = bytes [120])
 | _ => false
def opsE (a b : Nat) (L : List Tok) : Bool :=
 match exprP L 0 with
 | .ok x _ => opsX a b x && decide (L.length = 6) && decide ((L.getD 5 default).kind = 5)
 | .err _ _ => false
def opsOK (a b : Nat) : Bool :=
 match lexL (opsT a b) with
 | .ok L => opsE a b L
 | .err _ _ => false
theorem ops_all : ((List.range 13).all fun a => (List.range 13).all fun b => opsOK a b) = true := by decide +kernel
theorem ops_one (a b : Nat) (ha : a < 13) (hb : b < 13) : ∃ L x k, lexL (opsT a b) = .ok L ∧ exprP L 0 = .ok x k ∧ EndAt L ∧ L.length = 6 ∧ opsX a b x = true := by
 have h := List.all_eq_true.1 (List.all_eq_true.1 ops_all a (List.mem_range.2 ha)) b (List.mem_range.2 hb)
 unfold opsOK at h
 cases hl : lexL (opsT a b) with
 | err p e => rw [hl] at h; cases h
 | ok L =>
  rw [hl] at h
  change opsE a b L = true at h
  unfold opsE at h
  cases hp : exprP L 0 with
  | err p e => rw [hp] at h; cases h
  | ok x k =>
   rw [hp] at h
   simp only [Bool.and_eq_true, decide_eq_true_eq] at h
   obtain ⟨⟨h1, h2⟩, h3⟩ := h
   refine ⟨L, x, k, rfl, hp, ⟨by omega, ?_⟩, h2, h1⟩
   rw [List.getD_eq_getElem?_getD, List.getElem?_eq_getElem (by omega)] at h3
   have he : L.length - 1 = 5 := by omega
   simp only [he]
   exact h3
theorem opsX_two {a b : Nat} {x : AExpr} (h : opsX a b x = true) : ∃ y z, x.args = [y, z] ∧
  (strL'.getD b 0 ≤ strL'.getD a 0 → x.op = opsL.getD b 0 ∧ y.op = opsL.getD a 0 ∧ z.name = bytes [122]) ∧
  (¬ strL'.getD b 0 ≤ strL'.getD a 0 → x.op = opsL.getD a 0 ∧ z.op = opsL.getD b 0 ∧ y.name = bytes [120]) := by
 unfold opsX at h
 split at h
 ·rename_i y z he
  refine ⟨y, z, he, fun hs => ?_, fun hs => ?_⟩
  ·rw [if_pos hs] at h; simp only [Bool.and_eq_true, decide_eq_true_eq] at h; exact ⟨h.1.1, h.1.2, h.2⟩
  ·rw [if_neg hs] at h; simp only [Bool.and_eq_true, decide_eq_true_eq] at h; exact ⟨h.1.1, h.1.2, h.2⟩
 ·cases h
end Go.Proofs.YtiimofjemiffgaaDoor
namespace Go.Proofs.YtiimofjemiffgaaDoor
def oneC (c : UInt8) : Bool := c == 40 || c == 41 || c == 45 || c == 33 || c == 97
theorem oneC_or {c : UInt8} (h : oneC c = true) : c = 40 ∨ c = 41 ∨ c = 45 ∨ c = 33 ∨ c = 97 := by
 simpa [oneC, or_assoc] using h
def okC : List UInt8 → Bool
 | [] => true
 | c :: r => oneC c && (c != 97 || r.headD 0 != 97) && okC r
def tkC (c : UInt8) (p : Nat) : Tok := if c = 97 then ⟨1, bytes [97], 0, p⟩ else ⟨4, bytes [c], 0, p⟩
def tkL : Nat → List UInt8 → List Tok
 | _, [] => []
 | p, c :: r => tkC c p :: tkL (p + 1) r
theorem tkL_len : ∀ (r : List UInt8) (p : Nat), (tkL p r).length = r.length
 | [], _ => rfl
 | _ :: r, p => by unfold tkL; rw [List.length_cons, List.length_cons, tkL_len r]
theorem tkL_at : ∀ (r : List UInt8) (p i : Nat) (hi : i < r.length), (tkL p r)[i]'(by rw [tkL_len]; exact hi) = tkC r[i] (p + i)
 | [], _, _, hi => by simp at hi
 | c :: r, p, 0, _ => by simp [tkL]
 | c :: r, p, i + 1, hi => by
  have h := tkL_at r (p + 1) i (by simpa using hi)
  simp only [tkL, List.getElem_cons_succ]
  rw [h]; congr 1; omega
theorem next_one {c : UInt8} {r : List UInt8} (h : okC (c :: r) = true) : skipL (c :: r) = c :: r ∧ nextL (c :: r) = .tok (if c = 97 then 1 else 4) 1 0 := by
 unfold okC at h
 simp only [Bool.and_eq_true] at h
 obtain ⟨⟨h1, h2⟩, h3⟩ := h
 have hr : ∀ d r', r = d :: r' → oneC d = true := by
  rintro d r' rfl
  unfold okC at h3
  simp only [Bool.and_eq_true] at h3
  exact h3.1.1
 have hn : ¬ (2 ≤ (c :: r).length ∧ (c :: r).take 2 ∈ pairsL) := by
  rintro ⟨h4, h5⟩
  cases r with
  | nil => simp at h4
  | cons d r' =>
   have hd := oneC_or (hr d r' rfl)
   have h6 : [c, d] ∈ pairsL := h5
   have hc := oneC_or h1
   rcases hc with rfl | rfl | rfl | rfl | rfl <;> rcases hd with rfl | rfl | rfl | rfl | rfl <;> revert h6 <;> decide
 have hc := oneC_or h1
 by_cases h97 : c = 97
 ·subst h97
  refine ⟨skipL_stop (by decide) (by simp), ?_⟩
  rw [nextL_name (by decide)]
  have ht : (97 :: r).takeWhile isNam = [97] := by
   rw [List.takeWhile_cons_of_pos (by decide)]
   congr 1
   cases r with
   | nil => rfl
   | cons d r' =>
    have hd := oneC_or (hr d r' rfl)
    have hd2 : d ≠ 97 := by rintro rfl; simp at h2
    rw [List.takeWhile_cons_of_neg]
    rcases hd with rfl | rfl | rfl | rfl | rfl
    ·decide
    ·decide
    ·decide
    ·decide
    ·exact absurd rfl hd2
  rw [ht]
  rfl
 ·have h1s : signL (c :: r) = 1 := signL_one hn (by rcases hc with rfl | rfl | rfl | rfl | rfl; decide; decide; decide; decide; exact absurd rfl h97)
  have hl : isLet c = false := by rcases hc with rfl | rfl | rfl | rfl | rfl; decide; decide; decide; decide; exact absurd rfl h97
  have hd : isDig c = false := by rcases hc with rfl | rfl | rfl | rfl | rfl; decide; decide; decide; decide; decide
  refine ⟨skipL_stop (by rcases hc with rfl | rfl | rfl | rfl | rfl <;> decide) (by rintro ⟨rfl, _⟩; revert hc; decide), ?_⟩
  rw [nextL_sign hl hd, h1s, if_neg h97]; rfl
theorem lexT_one (s : List UInt8) : ∀ (r : List UInt8) (k n : Nat), s.drop k = r → k ≤ s.length → okC r = true → n + r.length ≤ 4000 → lexT s k n = .ok (tkL k r ++ [⟨5, ⟨#[]⟩, 0, s.length⟩])
 | [], k, n, h, hk, _, _ => by
  rw [lexT_end]; · rfl
  unfold skipN; rw [h, skipL_nil]; simp
 | c :: r, k, n, h, hk, ho, hn => by
  obtain ⟨h1, h2⟩ := next_one ho
  have hl := congrArg List.length h
  rw [List.length_drop, List.length_cons] at hl
  have hs : skipN s k = k := by unfold skipN; rw [h, h1, List.length_cons]; omega
  have hd : s.drop (k + 1) = r := by rw [← List.drop_drop, h]; rfl
  simp only [List.length_cons] at hn
  rw [lexT_tok hk (by omega) (by rw [hs, h]; exact h2) (by omega), hs, h, lexT_one s r (k + 1) (n + 1) hd (by omega) (by unfold okC at ho; simp only [Bool.and_eq_true] at ho; exact ho.2) (by omega)]
  show Lexed.ok (_ :: (tkL (k + 1) r ++ _)) = Lexed.ok (tkC c k :: (tkL (k + 1) r ++ _))
  congr 2
  unfold tkC
  by_cases h97 : c = 97
  ·subst h97; rfl
  ·rw [if_neg h97, if_neg h97]; rfl
def dsign (c : Nat) : UInt8 := if c = 0 then 40 else if c = 1 then 45 else 33
def deepT (cs : List Nat) : List UInt8 := cs.map dsign ++ 97 :: List.replicate (cs.count 0) 41
def deepL (cs : List Nat) : List Tok := tkL 0 (deepT cs) ++ [⟨5, ⟨#[]⟩, 0, (deepT cs).length⟩]
theorem dsign_or (c : Nat) : dsign c = 40 ∨ dsign c = 45 ∨ dsign c = 33 := by
 unfold dsign; split
 ·simp
 ·split <;> simp
theorem ok_rep : ∀ m, okC (List.replicate m 41) = true
 | 0 => rfl
 | m + 1 => by rw [List.replicate_succ]; unfold okC; rw [ok_rep m]; rfl
theorem ok_deep (m : Nat) : ∀ cs : List Nat, okC (cs.map dsign ++ 97 :: List.replicate m 41) = true
 | [] => by
  show okC (97 :: List.replicate m 41) = true
  unfold okC; rw [ok_rep]; cases m <;> rfl
 | c :: cs => by
  show okC (dsign c :: (cs.map dsign ++ 97 :: List.replicate m 41)) = true
  unfold okC; rw [ok_deep m cs]
  rcases dsign_or c with h | h | h <;> rw [h] <;> rfl
theorem deepT_len (cs : List Nat) : (deepT cs).length = cs.length + 1 + cs.count 0 := by
 unfold deepT; rw [List.length_append, List.length_map, List.length_cons, List.length_replicate]; omega
theorem deep_lex (cs : List Nat) (h : cs.length ≤ 100) : lexL (deepT cs) = .ok (deepL cs) := by
 have hl := deepT_len cs
 have hc := List.count_le_length (a := 0) (l := cs)
 unfold lexL
 rw [if_neg (by omega)]
 exact lexT_one (deepT cs) (deepT cs) 0 0 rfl (by omega) (ok_deep _ cs) (by omega)
theorem deepL_len (cs : List Nat) : (deepL cs).length = cs.length + 2 + cs.count 0 := by
 unfold deepL; rw [List.length_append, tkL_len, deepT_len, List.length_singleton]; omega
theorem deepL_end (cs : List Nat) : EndAt (deepL cs) := by
 refine ⟨by rw [deepL_len]; omega, ?_⟩
 unfold deepL
 simp
theorem deepL_at (cs : List Nat) (i : Nat) (hi : i < (deepT cs).length) : tokAt (deepL cs) i = tkC (deepT cs)[i] i := by
 rw [tokAt_lt (by rw [deepL_len]; rw [deepT_len] at hi; omega)]
 unfold deepL
 rw [List.getElem_append_left (by rw [tkL_len]; exact hi), tkL_at _ _ _ hi]
 congr 1; omega
theorem deepL_last (cs : List Nat) : (tokAt (deepL cs) (cs.length + 1 + cs.count 0)).kind = 5 := by
 rw [tokAt_lt (by rw [deepL_len]; omega)]
 unfold deepL
 have := deepT_len cs
 rw [List.getElem_append_right (by rw [tkL_len]; omega)]
 simp
theorem deep_front (cs : List Nat) (i : Nat) (hi : i < cs.length) : tokAt (deepL cs) i = ⟨4, bytes [dsign cs[i]], 0, i⟩ := by
 rw [deepL_at cs i (by rw [deepT_len]; omega)]
 have : (deepT cs)[i]'(by rw [deepT_len]; omega) = dsign cs[i] := by
  unfold deepT; rw [List.getElem_append_left (by rw [List.length_map]; exact hi), List.getElem_map]
 rw [this]
 unfold tkC
 rw [if_neg]
 rcases dsign_or cs[i] with h | h | h <;> rw [h] <;> decide
theorem deep_name (cs : List Nat) : tokAt (deepL cs) cs.length = ⟨1, bytes [97], 0, cs.length⟩ := by
 rw [deepL_at cs _ (by rw [deepT_len]; omega)]
 have : (deepT cs)[cs.length]'(by rw [deepT_len]; omega) = 97 := by
  unfold deepT; rw [List.getElem_append_right (by simp)]; simp
 rw [this]; rfl
theorem deep_back (cs : List Nat) (j : Nat) (hj : j < cs.count 0) : tokAt (deepL cs) (cs.length + 1 + j) = ⟨4, bytes [41], 0, cs.length + 1 + j⟩ := by
 rw [deepL_at cs _ (by rw [deepT_len]; omega)]
 have : (deepT cs)[cs.length + 1 + j]'(by rw [deepT_len]; omega) = 41 := by
  unfold deepT
  rw [List.getElem_append_right (by rw [List.length_map]; omega)]
  simp only [List.length_map]
  rw [List.getElem_cons]
  rw [dif_neg (by omega), List.getElem_replicate]
 rw [this]; rfl
theorem binP_stop {l : List Tok} {single : Nat → PRes AExpr} {k k' : Nat} {x : AExpr} (h : single k = .ok x k') (hs : ¬ ((tokAt l k').kind = 4 ∧ 1 ≤ (binOp (tokAt l k').text).2)) : ∀ j, j ≤ 5 → binP l single j k = .ok x k'
 | 0, _ => h
 | j + 1, hj => by
  unfold binP
  rw [binP_stop h hs j (by omega)]
  show loopP l _ (5 - j) (l.length + 1) x k' = _
  unfold loopP
  rw [if_neg]
  rintro ⟨h1, h2⟩
  exact hs ⟨h1, by omega⟩
theorem binP_err {l : List Tok} {single : Nat → PRes AExpr} {k a e : Nat} (h : single k = .err a e) : ∀ j, binP l single j k = .err a e
 | 0 => h
 | j + 1 => by unfold binP; rw [binP_err h j]
theorem deep_stop (cs : List Nat) (j : Nat) (hj : j ≤ cs.count 0) : ¬ ((tokAt (deepL cs) (cs.length + 1 + j)).kind = 4 ∧ 1 ≤ (binOp (tokAt (deepL cs) (cs.length + 1 + j)).text).2) := by
 rcases Nat.lt_or_ge j (cs.count 0) with h | h
 ·rw [deep_back cs j h]
  rintro ⟨_, h2⟩
  exact absurd h2 (by show ¬ 1 ≤ (binOp (bytes [41])).2; decide)
 ·obtain rfl : j = cs.count 0 := by omega
  rintro ⟨h1, _⟩
  rw [deepL_last] at h1; omega
theorem deep_single (cs : List Nat) : ∀ (m i d : Nat), i + m = cs.length →
  (m ≤ d → ∃ x, singleP (deepL cs) d i = .ok x (cs.length + 1 + (cs.drop i).count 0)) ∧ (d < m → singleP (deepL cs) d i = .err (i + d) 3)
 | 0, i, d, hi => by
  obtain rfl : i = cs.length := by omega
  refine ⟨fun _ => ⟨.mk 2 0 (bytes [97]) [], ?_⟩, fun h => absurd h (by omega)⟩
  have hn := deep_name cs
  cases d <;> (unfold singleP; rw [hn]; simp)
 | m + 1, i, d, hi => by
  have hf := deep_front cs i (by omega)
  have hdr : cs.drop i = cs[i] :: cs.drop (i + 1) := List.drop_eq_getElem_cons (by omega)
  obtain ⟨c, hc⟩ : ∃ c, c = cs[i]'(by omega) := ⟨_, rfl⟩
  rw [← hc] at hf hdr
  rw [hdr, List.count_cons]
  have sg : ∀ s : List UInt8, signAt (deepL cs) i s = decide (bytes [dsign c] = bytes s) := fun s => by unfold signAt; rw [hf]; simp
  cases d with
  | zero =>
   refine ⟨fun h => absurd h (by omega), fun _ => ?_⟩
   unfold singleP
   rw [hf, if_neg (by show ¬ (4 = 2); decide), if_neg (by show ¬ (4 = 1); decide), if_pos]
   ·rfl
   ·rw [sg, sg, sg]
    rcases dsign_or c with h | h | h <;> rw [h] <;> decide
  | succ d =>
   obtain ⟨ih1, ih2⟩ := deep_single cs m (i + 1) d (by omega)
   by_cases h0 : c = 0
   ·have e0 : dsign c = 40 := by rw [h0]; rfl
    unfold singleP
    rw [hf, if_neg (by show ¬ (4 = 2); decide), if_neg (by show ¬ (4 = 1); decide), sg, sg, sg, e0, if_neg (by decide), if_neg (by decide), if_pos (by decide)]
    refine ⟨fun h => ?_, fun h => ?_⟩
    ·obtain ⟨x, hx⟩ := ih1 (by omega)
     have hle : (cs.drop (i + 1)).count 0 < cs.count 0 := by
      have h1 : cs.count 0 = (cs.take i).count 0 + (cs.drop i).count 0 := by rw [← List.count_append, List.take_append_drop]
      rw [hdr, List.count_cons, h0] at h1
      simp at h1; omega
     rw [binP_stop hx (deep_stop cs _ (by omega)) 5 (by omega)]
     refine ⟨x, ?_⟩
     show (if signAt _ _ [41] then _ else _) = _
     rw [if_pos (by unfold signAt; rw [deep_back cs _ hle]; simp), h0]
     simp; omega
    ·rw [binP_err (ih2 (by omega))]
     show PRes.err _ _ = _
     congr 1; omega
   ·have hcz : (if (c == 0) = true then 1 else 0) = 0 := by rw [if_neg]; simpa using h0
    rw [hcz]
    have e0 : dsign c ≠ 40 := by
     unfold dsign; rw [if_neg h0]; split <;> decide
    unfold singleP
    rw [hf, if_neg (by show ¬ (4 = 2); decide), if_neg (by show ¬ (4 = 1); decide), sg, sg, sg]
    rcases dsign_or c with h | h | h
    ·exact absurd h e0
    ·rw [h, if_pos (by decide)]
     refine ⟨fun hm => ?_, fun hm => ?_⟩
     ·obtain ⟨x, hx⟩ := ih1 (by omega)
      rw [hx]; exact ⟨_, rfl⟩
     ·rw [ih2 (by omega)]
      show PRes.err _ _ = _
      congr 1; omega
    ·rw [h, if_neg (by decide), if_pos (by decide)]
     refine ⟨fun hm => ?_, fun hm => ?_⟩
     ·obtain ⟨x, hx⟩ := ih1 (by omega)
      rw [hx]; exact ⟨_, rfl⟩
     ·rw [ih2 (by omega)]
      show PRes.err _ _ = _
      congr 1; omega
theorem deep_parse (cs : List Nat) : (cs.length ≤ 24 → ∃ x k, exprP (deepL cs) 0 = .ok x k) ∧ (24 < cs.length → exprP (deepL cs) 0 = .err 24 3) := by
 obtain ⟨h1, h2⟩ := deep_single cs cs.length 0 24 (by omega)
 refine ⟨fun h => ?_, fun h => ?_⟩
 ·obtain ⟨x, hx⟩ := h1 h
  have hle : (cs.drop 0).count 0 ≤ cs.count 0 := by simp
  exact ⟨x, _, binP_stop hx (deep_stop cs _ hle) 5 (by omega)⟩
 ·have := binP_err (l := deepL cs) (h2 h) 5
  unfold exprP; rw [this]
end Go.Proofs.YtiimofjemiffgaaDoor
namespace Go.Proofs.YtiimofjemiffgaaDoor
def RegT (t : Tok) : Prop := (t.kind = 3 → reserved t.text = true) ∧ (t.kind = 4 → reserved t.text = false) ∧ t.num ≤ 9223372036854775807
theorem numL_fits : ∀ (r : List UInt8) (n m : Nat), n ≤ 9223372036854775807 → numL n r = some m → m ≤ 9223372036854775807
 | [], n, m, h, he => by unfold numL at he; cases he; exact h
 | c :: r, n, m, h, he => by
  unfold numL at he
  split at he
  ·cases he
  ·exact numL_fits r _ m (by have := c.toNat_lt; omega) he
theorem words_let : ∀ x, x ∈ words → isLet (x.data.toList.headD 0) = true := by decide
theorem sign_free {c : UInt8} {r : List UInt8} (h : isLet c = false) {n : Nat} (hn : n ≠ 0) : reserved (bytes ((c :: r).take n)) = false := by
 cases hr : reserved (bytes ((c :: r).take n)) with
 | false => rfl
 | true =>
  have h1 := words_let _ ((reserved_iff _).1 hr)
  obtain ⟨m, rfl⟩ : ∃ m, n = m + 1 := ⟨n - 1, by omega⟩
  simp [bytes] at h1
  rw [h] at h1; cases h1
theorem nextL_reg {c : UInt8} {r : List UInt8} {kind len num : Nat} (p : Nat) (h : nextL (c :: r) = .tok kind len num) : RegT ⟨kind, bytes ((c :: r).take len), num, p⟩ ∧ kind ≠ 5 := by
 cases hc : isLet c with
 | true =>
  rw [nextL_name hc] at h
  split at h
  ·cases h
  ·injection h with h1 h2 h3
   subst h2; subst h3; subst h1
   have ht : (c :: r).take ((c :: r).takeWhile isNam).length = (c :: r).takeWhile isNam := by
    have := List.takeWhile_prefix (l := c :: r) isNam
    exact (List.prefix_iff_eq_take.1 this).symm
   rw [ht]
   refine ⟨⟨fun h3 => ?_, fun h4 => ?_, by show 0 ≤ _; omega⟩, ?_⟩
   ·change (if reserved (bytes ((c :: r).takeWhile isNam)) = true then 3 else 1) = 3 at h3
    split at h3
    ·assumption
    ·omega
   ·change (if reserved (bytes ((c :: r).takeWhile isNam)) = true then 3 else 1) = 4 at h4
    split at h4 <;> omega
   ·split <;> omega
 | false =>
  cases hd : isDig c with
  | true =>
   cases hn : numL 0 ((c :: r).takeWhile isDig) with
   | none => rw [nextL_none hc hd hn] at h; cases h
   | some n =>
    rw [nextL_num hc hd hn] at h
    injection h with h1 h2 h3
    subst h1; subst h2; subst h3
    exact ⟨⟨fun h => absurd h (show ¬ (2 = 3) by decide), fun h => absurd h (show ¬ (2 = 4) by decide), numL_fits _ _ _ (by omega) hn⟩, by omega⟩
  | false =>
   rw [nextL_sign hc hd] at h
   split at h
   ·cases h
   ·rename_i h0
    injection h with h1 h2 h3
    subst h1; subst h2; subst h3
    exact ⟨⟨fun h => absurd h (show ¬ (4 = 3) by decide), fun _ => sign_free hc h0, Nat.zero_le _⟩, by omega⟩
structure Toks (l : List Tok) : Prop where
 ends : EndAt l
 reg : ∀ t, t ∈ l → RegT t
 few : l.length ≤ 4001
theorem lexT_reg : ∀ (m : Nat) (s : List UInt8) (k n : Nat), s.length - k ≤ m → k ≤ s.length → n ≤ 4000 → ∀ L, lexT s k n = .ok L → (∃ h : 0 < L.length, (L[L.length - 1]'(by omega)).kind = 5) ∧ (∀ t, t ∈ L → RegT t) ∧ L.length + n ≤ 4001
 | m, s, k, n, hm, hk, hn, L, h => by
  by_cases he : s.length ≤ skipN s k
  ·rw [lexT_end he] at h
   cases h
   refine ⟨⟨by simp, rfl⟩, fun t ht => ?_, by simp; omega⟩
   simp at ht; subst ht
   exact ⟨fun h => (by cases h), fun h => (by cases h), by show 0 ≤ _; omega⟩
  ·have hlt : skipN s k < s.length := by omega
   cases hx : nextL (s.drop (skipN s k)) with
   | err e => rw [lexT_err hlt hx] at h; cases h
   | tok kind len num =>
    by_cases h4 : n = 4000
    ·subst h4; rw [lexT_full hlt hx] at h; cases h
    rw [lexT_tok hk hlt hx h4] at h
    have hg := skipN_ge s k hk
    have hd : s.drop (skipN s k) ≠ [] := by intro hd; have := congrArg List.length hd; rw [List.length_drop] at this; simp at this; omega
    have hl := nextL_len hd hx
    rw [List.length_drop] at hl
    obtain ⟨c, r, hcr⟩ := List.exists_cons_of_ne_nil hd
    rw [hcr] at hx h
    have hreg := nextL_reg (skipN s k) hx
    cases m with
    | zero => omega
    | succ m =>
     cases ht : lexT s (skipN s k + len) (n + 1) with
     | err p e => rw [ht] at h; cases h
     | ok L' =>
      rw [ht] at h
      cases h
      obtain ⟨⟨h0, h5⟩, h2, h3⟩ := lexT_reg m s (skipN s k + len) (n + 1) (by omega) (by omega) (by omega) L' ht
      refine ⟨⟨by simp, ?_⟩, fun t ht => ?_, by simp; omega⟩
      ·simp only [List.length_cons]
       rw [List.getElem_cons]
       rw [dif_neg (by omega)]
       simpa using h5
      ·rcases List.mem_cons.1 ht with rfl | ht
       ·exact hreg.1
       ·exact h2 t ht
theorem lexL_toks {s : List UInt8} {L : List Tok} (h : lexL s = .ok L) : Toks L := by
 unfold lexL at h
 split at h
 ·cases h
 ·obtain ⟨h1, h2, h3⟩ := lexT_reg s.length s 0 0 (by omega) (by omega) (by omega) L h
  exact ⟨h1, h2, by omega⟩
end Go.Proofs.YtiimofjemiffgaaDoor
namespace Go.Proofs.YtiimofjemiffgaaDoor
def valL (n : Nat) (l : List UInt8) : Nat := l.foldl (fun n c => 10 * n + (c.toNat - 48)) n
theorem valL_nil (n : Nat) : valL n [] = n := rfl
theorem valL_cons (n : Nat) (c : UInt8) (r : List UInt8) : valL n (c :: r) = valL (10 * n + (c.toNat - 48)) r := by unfold valL; rw [List.foldl_cons]
theorem valL_back (l : List UInt8) (c : UInt8) (n : Nat) : valL n (l ++ [c]) = 10 * valL n l + (c.toNat - 48) := by
 unfold valL; rw [List.foldl_append]; rfl
theorem isDig_of (k : Nat) : isDig (UInt8.ofNat (48 + k % 10)) = true := by
 have hc : (UInt8.ofNat (48 + k % 10)).toNat = 48 + k % 10 := by rw [UInt8.toNat_ofNat']; omega
 simp only [isDig, decide_eq_true_eq, hc]; omega
theorem valL_ge (l : List UInt8) : ∀ n, n ≤ valL n l := by
 induction l with
 | nil => intro n; exact Nat.le_refl _
 | cons c r ih => intro n; have := ih (10 * n + (c.toNat - 48)); rw [valL_cons]; omega
theorem numL_val (l : List UInt8) (h : ∀ c ∈ l, isDig c = true) : ∀ n, n ≤ 9223372036854775807 → numL n l = if valL n l ≤ 9223372036854775807 then some (valL n l) else none := by
 induction l with
 | nil => intro n hn; rw [numL, valL_nil, if_pos hn]
 | cons c r ih =>
  intro n hn
  have hc := h c (List.mem_cons_self ..)
  simp only [isDig, decide_eq_true_eq] at hc
  rw [numL, valL_cons]
  by_cases ho : (9223372036854775807 - (c.toNat - 48)) / 10 < n
  ·rw [if_pos ho]
   have := valL_ge r (10 * n + (c.toNat - 48))
   rw [if_neg (by omega)]
  ·rw [if_neg ho, ih (fun d hd => h d (List.mem_cons_of_mem _ hd)) _ (by omega)]
theorem isDig_not (c : UInt8) (h : isDig c = true) : isLet c = false ∧ isSp c = false ∧ c ≠ 47 := by
 simp only [isDig, decide_eq_true_eq] at h
 refine ⟨?_, ?_, ?_⟩
 ·simp only [isLet, decide_eq_false_iff_not]; omega
 ·simp only [isSp, decide_eq_false_iff_not]; omega
 ·rintro rfl; revert h; decide
end Go.Proofs.YtiimofjemiffgaaDoor
