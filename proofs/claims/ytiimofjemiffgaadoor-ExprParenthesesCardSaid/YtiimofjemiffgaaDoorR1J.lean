import Derived.Test.YtiimofjemiffgaaDoorE0J
import Derived.Test.YtiimofjemiffgaaDoorB1J
import Derived.Test.YtiimofjemiffgaaDoorMadeJ
set_option linter.unusedVariables false
set_option linter.unusedSimpArgs false
namespace Go.Proofs.YtiimofjemiffgaaDoor
structure PT where
 kind : Nat
 text : ByteArray
 num : Nat
def Tok.pt (t : Tok) : PT := ⟨t.kind, t.text, t.num⟩
def endPT : PT := ⟨5, ⟨#[]⟩, 0⟩
def sgn (s : List UInt8) : PT := ⟨4, bytes s, 0⟩
inductive Lx : List UInt8 → List PT → Prop where
 | nil {s : List UInt8} (h : skipL s = []) : Lx s []
 | cons {s r : List UInt8} {kind len num : Nat} {ps : List PT} (h : skipL s = r) (h0 : r ≠ []) (hn : nextL r = .tok kind len num) (ht : Lx (r.drop len) ps) : Lx s (⟨kind, bytes (r.take len), num⟩ :: ps)
theorem Lx.same {s s' : List UInt8} {ps : List PT} (h : Lx s ps) (he : skipL s' = skipL s) : Lx s' ps := by
 cases h with
 | nil h => exact .nil (he.trans h)
 | cons h h0 hn ht => exact .cons (he.trans h) h0 hn ht
theorem Lx.sp {c : UInt8} {r : List UInt8} {ps : List PT} (h : Lx r ps) (hc : isSp c = true) : Lx (c :: r) ps := h.same (skipL_sp hc)
theorem Lx.bl {r : List UInt8} {ps : List PT} (h : Lx r ps) : Lx (32 :: r) ps := h.sp (by decide)
theorem Lx.end : Lx [] [] := .nil skipL_nil
theorem lexT_lx {r : List UInt8} {ps : List PT} (h : Lx r ps) : ∀ (s : List UInt8) (k n : Nat), s.drop k = r → k ≤ s.length → n + ps.length ≤ 4000 → ∃ L, lexT s k n = .ok L ∧ L.map Tok.pt = ps ++ [endPT] := by
 induction h with
 | @nil r h =>
  intro s k n hd hk _
  refine ⟨_, lexT_end (by unfold skipN; rw [hd, h]; simp), rfl⟩
 | @cons r0 r kind len num ps h h0 hn _ ih =>
  intro s k n hd hk hl
  simp only [List.length_cons] at hl
  have hs : s.drop (skipN s k) = r := by rw [skipN_drop, hd, h]
  have hlt : skipN s k < s.length := by
   rcases Nat.lt_or_ge (skipN s k) s.length with h1 | h1
   ·exact h1
   ·rw [List.drop_eq_nil_of_le h1] at hs; exact absurd hs.symm h0
  have hlen := nextL_len h0 hn
  have hr : r.length = s.length - skipN s k := by rw [← hs, List.length_drop]
  obtain ⟨L, h1, h2⟩ := ih s (skipN s k + len) (n + 1) (by rw [← List.drop_drop, hs]) (by omega) (by omega)
  rw [lexT_tok hk hlt (by rw [hs]; exact hn) (by omega), h1, hs]
  exact ⟨_, rfl, by rw [List.map_cons, h2]; rfl⟩
theorem lexL_lx {s : List UInt8} {ps : List PT} (h : Lx s ps) (hs : s.length ≤ 262144) (hp : ps.length ≤ 4000) : ∃ L, lexL s = .ok L ∧ L.map Tok.pt = ps ++ [endPT] := by
 unfold lexL
 rw [if_neg (by omega)]
 exact lexT_lx h s 0 0 rfl (by omega) (by omega)
def NoNam (r : List UInt8) : Prop := ∀ c, r.head? = some c → isNam c = false
theorem takeWhile_app {p : UInt8 → Bool} {l r : List UInt8} (h : ∀ c ∈ l, p c = true) (hr : ∀ c, r.head? = some c → p c = false) : (l ++ r).takeWhile p = l := by
 induction l with
 | nil =>
  cases r with
  | nil => rfl
  | cons c r => rw [List.nil_append, List.takeWhile_cons_of_neg]; rw [hr c rfl]; simp
 | cons c l ih => rw [List.cons_append, List.takeWhile_cons_of_pos (h c (List.mem_cons_self ..)), ih fun d hd => h d (List.mem_cons_of_mem _ hd)]
theorem isLet_not {c : UInt8} (h : isLet c = true) : isSp c = false ∧ c ≠ 47 := by
 simp only [isLet, decide_eq_true_eq] at h
 refine ⟨?_, ?_⟩
 ·simp only [isSp, decide_eq_false_iff_not]; omega
 ·rintro rfl; revert h; decide
theorem Lx.letters {s r : List UInt8} {ps : List PT} (h : Lx r ps) (c : UInt8) (q : List UInt8) (hs : s = c :: q) (hc : isLet c = true) (hq : ∀ d ∈ q, isNam d = true) (hl : s.length ≤ 16) (hr : NoNam r) : Lx (s ++ r) (⟨if reserved (bytes s) then 3 else 1, bytes s, 0⟩ :: ps) := by
 subst hs
 have ht : ((c :: q) ++ r).takeWhile isNam = c :: q := takeWhile_app (fun d hd => by
  rcases List.mem_cons.1 hd with rfl | hd
  ·simp [isNam, hc]
  ·exact hq d hd) hr
 have hn : nextL ((c :: q) ++ r) = .tok (if reserved (bytes (c :: q)) then 3 else 1) (c :: q).length 0 := by
  rw [List.cons_append] at ht ⊢
  rw [nextL_name hc, ht, if_neg (by omega)]
 have := Lx.cons (s := (c :: q) ++ r) (r := (c :: q) ++ r) (skipL_stop (r := q ++ r) (isLet_not hc).1 (fun h => (isLet_not hc).2 h.1)) (by simp) hn (ps := ps) (by rw [List.drop_left]; exact h)
 rw [List.take_left] at this
 exact this
theorem bytes_tl (s : ByteArray) : bytes s.data.toList = s := by simp [bytes]
theorem Lx.name {r : List UInt8} {ps : List PT} (h : Lx r ps) (s : ByteArray) (hs : nameB s = true) (hr : NoNam r) : Lx (s.data.toList ++ r) (⟨1, s, 0⟩ :: ps) := by
 unfold nameB at hs
 split at hs
 ·cases hs
 ·rename_i c q he
  simp only [Bool.and_eq_true, List.all_eq_true, decide_eq_true_eq, Bool.not_eq_true'] at hs
  obtain ⟨⟨⟨h1, h2⟩, h3⟩, h4⟩ := hs
  have := h.letters (s := s.data.toList) c q he h1 h2 (by exact h3) hr
  rw [bytes_tl, h4] at this
  exact this
theorem digits_dig (n : Nat) : ∀ c ∈ digitsL n, isDig c = true := by
 induction n using digitsL.induct with
 | case1 n h =>
  rw [digitsL, if_pos h]
  intro c hc
  simp only [List.mem_singleton] at hc
  subst hc
  have := isDig_of n
  rwa [Nat.mod_eq_of_lt h] at this
 | case2 n h ih =>
  rw [digitsL, if_neg h]
  intro c hc
  rcases List.mem_append.1 hc with hc | hc
  ·exact ih c hc
  ·simp only [List.mem_singleton] at hc; subst hc; exact isDig_of n
theorem digits_ne (n : Nat) : digitsL n ≠ [] := by rw [digitsL]; split <;> simp
theorem digits_val (n : Nat) : valL 0 (digitsL n) = n := by
 induction n using digitsL.induct with
 | case1 n h =>
  have hc : (UInt8.ofNat (48 + n)).toNat = 48 + n := by rw [UInt8.toNat_ofNat']; omega
  rw [digitsL, if_pos h, valL_cons, valL_nil, hc]; omega
 | case2 n h ih =>
  have hc : (UInt8.ofNat (48 + n % 10)).toNat = 48 + n % 10 := by rw [UInt8.toNat_ofNat']; omega
  rw [digitsL, if_neg h, valL_back, ih, hc]; omega
theorem Lx.num {r : List UInt8} {ps : List PT} (h : Lx r ps) (n : Nat) (hn : n ≤ 9223372036854775807) (hr : NoNam r) : Lx (digitsL n ++ r) (⟨2, bytes (digitsL n), n⟩ :: ps) := by
 obtain ⟨c, q, he⟩ := List.exists_cons_of_ne_nil (digits_ne n)
 have hd := digits_dig n
 have hv := numL_val (digitsL n) hd 0 (by omega)
 rw [digits_val, if_pos hn] at hv
 have ht : (digitsL n ++ r).takeWhile isDig = digitsL n := takeWhile_app hd fun c hc => by
  have := hr c hc
  unfold isNam at this
  simp only [Bool.or_eq_false_iff] at this
  exact this.2
 have hc := hd c (by rw [he]; exact List.mem_cons_self ..)
 have hx := isDig_not c hc
 have hnx : nextL (digitsL n ++ r) = .tok 2 (digitsL n).length n := by
  rw [he, List.cons_append] at ht ⊢
  rw [nextL_num hx.1 hc (n := n) (by rw [ht, ← he]; exact hv), ht]
 have := Lx.cons (s := digitsL n ++ r) (r := digitsL n ++ r) (by rw [he]; exact skipL_stop (r := q ++ r) hx.2.1 (fun h => hx.2.2 h.1)) (by rw [he]; simp) hnx (ps := ps) (by rw [List.drop_left]; exact h)
 rw [List.take_left] at this
 exact this
theorem singles_not : ∀ c, c ∈ singlesL → isLet c = false ∧ isDig c = false ∧ isSp c = false := by decide
theorem Lx.one {r : List UInt8} {ps : List PT} (h : Lx r ps) (c : UInt8) (hc : c ∈ singlesL) (hr : ∀ d, r.head? = some d → [c, d] ∉ pairsL ∧ ¬ (c = 47 ∧ d = 47)) : Lx (c :: r) (sgn [c] :: ps) := by
 obtain ⟨h1, h2, h3⟩ := singles_not c hc
 have hno : ¬ (2 ≤ (c :: r).length ∧ (c :: r).take 2 ∈ pairsL) := by
  rintro ⟨h4, h5⟩
  cases r with
  | nil => simp at h4
  | cons d r => exact (hr d rfl).1 h5
 have hn : nextL (c :: r) = .tok 4 1 0 := by rw [nextL_sign h1 h2, signL_one hno hc]; rfl
 exact Lx.cons (skipL_stop h3 (fun ⟨h4, h5⟩ => (hr 47 h5).2 ⟨h4, rfl⟩)) (by simp) hn h
theorem pairs_not : ∀ x, x ∈ pairsL → isLet (x.headD 0) = false ∧ isDig (x.headD 0) = false ∧ isSp (x.headD 0) = false ∧ x.headD 0 ≠ 47 := by decide
theorem Lx.two {r : List UInt8} {ps : List PT} (h : Lx r ps) (c d : UInt8) (hc : [c, d] ∈ pairsL) : Lx (c :: d :: r) (sgn [c, d] :: ps) := by
 obtain ⟨h1, h2, h3, h4⟩ := pairs_not _ hc
 have hn : nextL (c :: d :: r) = .tok 4 2 0 := by rw [nextL_sign (c := c) h1 h2, signL_two (l := c :: d :: r) (by simp) hc]; rfl
 exact Lx.cons (skipL_stop h3 (fun h5 => h4 h5.1)) (by simp) hn h
def Fin (r : List UInt8) : Prop := ∀ c, r.head? = some c → c ∈ ([32, 41, 93, 59, 44] : List UInt8)
theorem fin_all : ∀ c, c ∈ ([32, 41, 93, 59, 44] : List UInt8) → isNam c = false ∧ c ≠ 47 ∧ ∀ d, d ∈ singlesL → [d, c] ∉ pairsL := by decide
theorem Fin.nam {r : List UInt8} (h : Fin r) : NoNam r := fun c hc => (fin_all c (h c hc)).1
theorem Fin.cons {c : UInt8} {r : List UInt8} (h : c ∈ ([32, 41, 93, 59, 44] : List UInt8)) : Fin (c :: r) := fun d hd => by cases hd; exact h
theorem Fin.nil : Fin [] := fun c hc => by cases hc
theorem NoNam.cons {c : UInt8} {r : List UInt8} (h : isNam c = false) : NoNam (c :: r) := fun d hd => by cases hd; exact h
theorem Lx.one' {r : List UInt8} {ps : List PT} (h : Lx r ps) (c : UInt8) (hc : c ∈ singlesL) (hr : Fin r) : Lx (c :: r) (sgn [c] :: ps) :=
 h.one c hc fun d hd => ⟨(fin_all d (hr d hd)).2.2 c hc, fun h2 => (fin_all d (hr d hd)).2.1 h2.2⟩
theorem free_all : ∀ c, c ∈ ([40, 41, 123, 125, 91, 93, 44, 59, 43, 45, 42, 37] : List UInt8) → c ∈ singlesL ∧ c ≠ 47 ∧ ∀ x, x ∈ pairsL → x.headD 0 ≠ c := by decide
theorem Lx.free {r : List UInt8} {ps : List PT} (h : Lx r ps) (c : UInt8) (hc : c ∈ ([40, 41, 123, 125, 91, 93, 44, 59, 43, 45, 42, 37] : List UInt8)) : Lx (c :: r) (sgn [c] :: ps) := by
 obtain ⟨h1, h2, h3⟩ := free_all c hc
 exact h.one c h1 fun d _ => ⟨fun hm => h3 _ hm rfl, fun h4 => h2 h4.1⟩
end Go.Proofs.YtiimofjemiffgaaDoor
namespace Go.Proofs.YtiimofjemiffgaaDoor
inductive VE : AExpr → Prop where
 | num (n : Nat) (h : n ≤ 9223372036854775807) : VE (.mk 1 n emptyB [])
 | name (s : ByteArray) (h : nameB s = true) : VE (.mk 2 0 s [])
 | un (op : Int) (x : AExpr) (h : op = 3 ∨ op = 4) (hx : VE x) : VE (.mk op 0 emptyB [x])
 | bin (op : Int) (x y : AExpr) (h : 5 ≤ op ∧ op ≤ 17) (hx : VE x) (hy : VE y) : VE (.mk op 0 emptyB [x, y])
def parT (b : Bool) (t : List UInt8) : List UInt8 := if b then [40] ++ t ++ [41] else t
def parK (b : Bool) (t : List PT) : List PT := if b then sgn [40] :: (t ++ [sgn [41]]) else t
def opToks (op num : Int) (name : ByteArray) (ts : List (List PT)) : List PT :=
 if op = 1 then [⟨2, bytes (digitsL num.natAbs), num.natAbs⟩] else if op = 2 then [⟨1, name, 0⟩] else if op = 3 then sgn [45] :: ts.getD 0 [] else if op = 4 then sgn [33] :: ts.getD 0 [] else
 ts.getD 0 [] ++ sgn (opSign op) :: ts.getD 1 []
mutual
def exprToks : AExpr → List PT
 | .mk op num name args => opToks op num name (argToks op 0 args)
def argToks (b : Int) : Nat → List AExpr → List (List PT)
 | _, [] => []
 | k, e :: es => parK (innerB b k e.op) (exprToks e) :: argToks b (k + 1) es
end
theorem op_list {op : Int} (h : 5 ≤ op ∧ op ≤ 17) : op = 5 ∨ op = 6 ∨ op = 7 ∨ op = 8 ∨ op = 9 ∨ op = 10 ∨ op = 11 ∨ op = 12 ∨ op = 13 ∨ op = 14 ∨ op = 15 ∨ op = 16 ∨ op = 17 := by omega
theorem strength_bin {op : Int} (h : 5 ≤ op ∧ op ≤ 17) : strengthN op < 5 := by
 rcases op_list h with rfl | rfl | rfl | rfl | rfl | rfl | rfl | rfl | rfl | rfl | rfl | rfl | rfl <;> decide
theorem etext_num (n : Nat) : exprText (.mk 1 n emptyB []) = digitsL n := by
 rw [exprText, argTexts]
 show numberL (n : Int) = _
 unfold numberL; rw [if_neg (by omega)]; rfl
theorem etext_name (s : ByteArray) : exprText (.mk 2 0 s []) = s.data.toList := by rw [exprText, argTexts]; rfl
theorem toks_num (n : Nat) : exprToks (.mk 1 n emptyB []) = [⟨2, bytes (digitsL n), n⟩] := by rw [exprToks, argToks]; rfl
theorem toks_name (s : ByteArray) : exprToks (.mk 2 0 s []) = [⟨1, s, 0⟩] := by rw [exprToks, argToks]; rfl
theorem etext_un {op : Int} (h : op = 3 ∨ op = 4) (x : AExpr) : exprText (.mk op 0 emptyB [x]) = (if op = 3 then 45 else 33) :: parT (innerB op 0 x.op) (exprText x) := by
 rw [exprText, argTexts, argTexts]
 rcases h with rfl | rfl <;> rfl
theorem toks_un {op : Int} (h : op = 3 ∨ op = 4) (x : AExpr) : exprToks (.mk op 0 emptyB [x]) = sgn [if op = 3 then 45 else 33] :: parK (innerB op 0 x.op) (exprToks x) := by
 rw [exprToks, argToks, argToks]
 rcases h with rfl | rfl <;> rfl
theorem etext_bin {op : Int} (h : 5 ≤ op ∧ op ≤ 17) (x y : AExpr) : exprText (.mk op 0 emptyB [x, y]) = parT (innerB op 0 x.op) (exprText x) ++ ([32] ++ opSign op ++ [32]) ++ parT (innerB op 1 y.op) (exprText y) := by
 rw [exprText, argTexts, argTexts, argTexts]
 unfold opJoin
 have hs := strength_bin h
 rw [if_neg (by omega), if_neg (by omega), if_neg (by omega), if_neg (by omega), if_pos hs]
 simp [parT]
theorem toks_bin {op : Int} (h : 5 ≤ op ∧ op ≤ 17) (x y : AExpr) : exprToks (.mk op 0 emptyB [x, y]) = parK (innerB op 0 x.op) (exprToks x) ++ sgn (opSign op) :: parK (innerB op 1 y.op) (exprToks y) := by
 rw [exprToks, argToks, argToks, argToks]
 unfold opToks
 rw [if_neg (by omega), if_neg (by omega), if_neg (by omega), if_neg (by omega)]
 rfl
theorem height_un {op : Int} (h : op = 3 ∨ op = 4) (x : AExpr) : heightN (.mk op 0 emptyB [x]) = (heightN x + if innerB op 0 x.op then 1 else 0) + 1 := by
 rw [heightN, argsHeight, argsHeight]
 have hs : strengthN op = 5 := by rcases h with rfl | rfl <;> rfl
 rw [if_pos hs]; omega
theorem height_bin {op : Int} (h : 5 ≤ op ∧ op ≤ 17) (x y : AExpr) : heightN (.mk op 0 emptyB [x, y]) = max (heightN x + if innerB op 0 x.op then 1 else 0) (heightN y + if innerB op 1 y.op then 1 else 0) := by
 rw [heightN, argsHeight, argsHeight, argsHeight]
 have hs := strength_bin h
 rw [if_neg (show ¬ strengthN op = 5 by omega), Nat.zero_add]; omega
def Sta (r : List UInt8) : Prop := ∃ c q, r = c :: q ∧ c ≠ 61 ∧ c ≠ 38 ∧ c ≠ 124 ∧ c ≠ 47
theorem Sta.app {r : List UInt8} (h : Sta r) (s : List UInt8) : Sta (r ++ s) := by
 obtain ⟨c, q, rfl, h1⟩ := h
 exact ⟨c, q ++ s, rfl, h1⟩
theorem sta_let {c : UInt8} (h : isNam c = true) (q : List UInt8) : Sta (c :: q) := by
 refine ⟨c, q, rfl, ?_, ?_, ?_, ?_⟩ <;> (rintro rfl; revert h; decide)
theorem sta_par {b : Bool} {t : List UInt8} (h : Sta t) : Sta (parT b t) := by
 cases b
 ·exact h
 ·exact ⟨40, t ++ [41], rfl, by decide, by decide, by decide, by decide⟩
theorem VE.sta {e : AExpr} (h : VE e) : Sta (exprText e) := by
 induction h with
 | num n h =>
  rw [etext_num]
  obtain ⟨c, q, he⟩ := List.exists_cons_of_ne_nil (digits_ne n)
  rw [he]
  exact sta_let (by unfold isNam; rw [digits_dig n c (by rw [he]; exact List.mem_cons_self ..)]; simp) q
 | name s h =>
  rw [etext_name]
  unfold nameB at h
  split at h
  ·cases h
  ·rename_i c q he
   simp only [Bool.and_eq_true] at h
   rw [he]
   exact sta_let (by unfold isNam; rw [h.1.1.1]; rfl) q
 | un op x h hx ih =>
  rw [etext_un h]
  rcases h with rfl | rfl
  ·exact ⟨45, _, rfl, by decide, by decide, by decide, by decide⟩
  ·exact ⟨33, _, rfl, by decide, by decide, by decide, by decide⟩
 | bin op x y h hx hy ihx ihy =>
  rw [etext_bin h, List.append_assoc]
  exact (sta_par ihx).app _
theorem pairs_snd : ∀ x, x ∈ pairsL → x.getD 1 0 = 61 ∨ x.getD 1 0 = 38 ∨ x.getD 1 0 = 124 := by decide
theorem Lx.pre {r : List UInt8} {ps : List PT} (h : Lx r ps) (c : UInt8) (hc : c ∈ singlesL) (hr : Sta r) : Lx (c :: r) (sgn [c] :: ps) := by
 obtain ⟨d, q, rfl, h1, h2, h3, h4⟩ := hr
 refine h.one c hc fun d' hd => ?_
 cases hd
 refine ⟨fun hm => ?_, fun h5 => h4 h5.2⟩
 rcases pairs_snd _ hm with h5 | h5 | h5
 ·exact h1 h5
 ·exact h2 h5
 ·exact h3 h5
theorem Lx.oper {r : List UInt8} {ps : List PT} (h : Lx r ps) {op : Int} (ho : 5 ≤ op ∧ op ≤ 17) : Lx ([32] ++ opSign op ++ [32] ++ r) (sgn (opSign op) :: ps) := by
 have h1 := h.bl
 have hf : Fin (32 :: r) := Fin.cons (by decide)
 rcases op_list ho with rfl | rfl | rfl | rfl | rfl | rfl | rfl | rfl | rfl | rfl | rfl | rfl | rfl
 ·exact (h1.one' 42 (by decide) hf).bl
 ·exact (h1.one' 47 (by decide) hf).bl
 ·exact (h1.one' 37 (by decide) hf).bl
 ·exact (h1.one' 43 (by decide) hf).bl
 ·exact (h1.one' 45 (by decide) hf).bl
 ·exact (h1.one' 60 (by decide) hf).bl
 ·exact (h1.two 60 61 (by decide)).bl
 ·exact (h1.one' 62 (by decide) hf).bl
 ·exact (h1.two 62 61 (by decide)).bl
 ·exact (h1.two 61 61 (by decide)).bl
 ·exact (h1.two 33 61 (by decide)).bl
 ·exact (h1.two 38 38 (by decide)).bl
 ·exact (h1.two 124 124 (by decide)).bl
theorem VE.lx {e : AExpr} (h : VE e) : ∀ (r : List UInt8) (ps : List PT), Fin r → Lx r ps → Lx (exprText e ++ r) (exprToks e ++ ps) := by
 have par : ∀ (b : Bool) (x : AExpr), VE x → (∀ (r : List UInt8) (ps : List PT), Fin r → Lx r ps → Lx (exprText x ++ r) (exprToks x ++ ps)) → ∀ (r : List UInt8) (ps : List PT), Fin r → Lx r ps → Lx (parT b (exprText x) ++ r) (parK b (exprToks x) ++ ps) := by
  intro b x hx ih r ps hf hr
  cases b with
  | false => exact ih r ps hf hr
  | true =>
   have h1 := (ih (41 :: r) (sgn [41] :: ps) (Fin.cons (by decide)) (hr.free 41 (by decide))).free 40 (by decide)
   simpa [parT, parK] using h1
 induction h with
 | num n h => intro r ps hf hr; rw [etext_num, toks_num]; exact hr.num n h hf.nam
 | name s h => intro r ps hf hr; rw [etext_name, toks_name]; exact hr.name s h hf.nam
 | un op x h hx ih =>
  intro r ps hf hr
  rw [etext_un h, toks_un h]
  have h1 := par (innerB op 0 x.op) x hx ih r ps hf hr
  have h2 := (sta_par (b := innerB op 0 x.op) hx.sta).app r
  rcases h with rfl | rfl
  ·exact h1.pre 45 (by decide) h2
  ·exact h1.pre 33 (by decide) h2
 | bin op x y h hx hy ihx ihy =>
  intro r ps hf hr
  rw [etext_bin h, toks_bin h]
  have h1 := (par (innerB op 1 y.op) y hy ihy r ps hf hr).oper h
  have h2 := par (innerB op 0 x.op) x hx ihx _ _ (Fin.cons (by decide)) h1
  simpa using h2
def Seg (l : List Tok) (k : Nat) (ps : List PT) : Prop := ps <+: (l.map Tok.pt).drop k
theorem Seg.app {l : List Tok} {k : Nat} {a b : List PT} (h : Seg l k (a ++ b)) : Seg l k a ∧ Seg l (k + a.length) b := by
 obtain ⟨t, ht⟩ := h
 refine ⟨⟨b ++ t, by rw [← ht, List.append_assoc]⟩, ⟨t, ?_⟩⟩
 rw [← List.drop_drop, ← ht, List.append_assoc, List.drop_left]
theorem Seg.head {l : List Tok} {k : Nat} {t : PT} {ps : List PT} (h : Seg l k (t :: ps)) : (tokAt l k).pt = t ∧ k < l.length ∧ Seg l (k + 1) ps := by
 obtain ⟨q, ht⟩ := h
 have h1 : (l.map Tok.pt).drop k = t :: (ps ++ q) := ht.symm
 have hk : k < l.length := by
  rcases Nat.lt_or_ge k l.length with h2 | h2
  ·exact h2
  ·rw [List.drop_eq_nil_of_le (by simpa using h2)] at h1; cases h1
 have h2 := List.drop_eq_getElem_cons (l := l.map Tok.pt) (i := k) (by simpa using hk)
 rw [h2] at h1
 injection h1 with h3 h4
 refine ⟨by rw [tokAt_lt hk]; simpa using h3, hk, ⟨q, h4.symm⟩⟩
theorem sg_kind {l : List Tok} {k : Nat} {s : List UInt8} (h : (tokAt l k).pt = sgn s) : (tokAt l k).kind = 4 ∧ (tokAt l k).text = bytes s := by
 have h1 := congrArg PT.kind h
 have h2 := congrArg PT.text h
 exact ⟨h1, h2⟩
theorem signAt_pt {l : List Tok} {k : Nat} {s : List UInt8} (h : (tokAt l k).pt = sgn s) (u : List UInt8) : signAt l k u = decide (bytes s = bytes u) := by
 obtain ⟨h1, h2⟩ := sg_kind h
 unfold signAt; rw [h1, h2]; simp
def Fol (l : List Tok) (k m : Nat) : Prop := ¬ ((tokAt l k).kind = 4 ∧ m ≤ (binOp (tokAt l k).text).2)
theorem Fol.mono {l : List Tok} {k m n : Nat} (h : Fol l k m) (hn : m ≤ n) : Fol l k n := fun hh => h ⟨hh.1, by omega⟩
theorem binOp_sign {op : Int} (h : 5 ≤ op ∧ op ≤ 17) : (binOp (bytes (opSign op))).1 = op.toNat ∧ (binOp (bytes (opSign op))).2 = strengthN op + 1 := by
 rcases op_list h with rfl | rfl | rfl | rfl | rfl | rfl | rfl | rfl | rfl | rfl | rfl | rfl | rfl <;> decide
theorem fol_sign {l : List Tok} {k m : Nat} {s : List UInt8} (h : (tokAt l k).pt = sgn s) (hs : (binOp (bytes s)).2 < m) : Fol l k m := by
 rintro ⟨_, h2⟩
 rw [(sg_kind h).2] at h2; omega
theorem binP_only {l : List Tok} {single : Nat → PRes AExpr} {k k' : Nat} {x : AExpr} (h : single k = .ok x k') : ∀ j, j ≤ 5 → Fol l k' (6 - j) → binP l single j k = .ok x k'
 | 0, _, _ => h
 | j + 1, hj, hf => by
  unfold binP
  rw [binP_only h j (by omega) (hf.mono (by omega))]
  show loopP l _ (5 - j) (l.length + 1) x k' = _
  unfold loopP
  rw [if_neg]
  rintro ⟨h1, h2⟩
  exact hf ⟨h1, by omega⟩
theorem inner_no {op a : Int} {k : Nat} (h : innerB op k a = false) : strengthN op ≤ strengthN a ∧ (k = 1 → strengthN op < strengthN a) := by
 unfold innerB at h
 rw [decide_eq_false_iff_not] at h
 omega
section
variable {l : List Tok}
structure Reads (l : List Tok) (e : AExpr) : Prop where
 single : ∀ d k, heightN e ≤ d → Seg l k (exprToks e) → 5 ≤ strengthN e.op → singleP l d k = .ok e (k + (exprToks e).length)
 bin : ∀ d k j, heightN e ≤ d → Seg l k (exprToks e) → j ≤ 5 → 5 ≤ strengthN e.op + j → Fol l (k + (exprToks e).length) (6 - j) → binP l (singleP l d) j k = .ok e (k + (exprToks e).length)
 chain : ∀ d k j, heightN e ≤ d → Seg l k (exprToks e) → j < 5 → 5 ≤ strengthN e.op + (j + 1) → Fol l (k + (exprToks e).length) (6 - j) → ∃ a k0 m, binP l (singleP l d) j k = .ok a k0 ∧ m ≤ (exprToks e).length ∧ ∀ n, loopP l (binP l (singleP l d) j) (5 - j) (m + n) a k0 = loopP l (binP l (singleP l d) j) (5 - j) n e (k + (exprToks e).length)
theorem Reads.par {x : AExpr} (h : Reads l x) (b : Bool) (d k : Nat) (hb : b = false → 5 ≤ strengthN x.op) (hd : (heightN x + if b then 1 else 0) ≤ d) (hs : Seg l k (parK b (exprToks x))) : singleP l d k = .ok x (k + (parK b (exprToks x)).length) := by
 cases b with
 | false => exact h.single d k (by simpa using hd) hs (hb rfl)
 | true =>
  simp only [if_true] at hd
  obtain ⟨d, rfl⟩ : ∃ d', d = d' + 1 := ⟨d - 1, by omega⟩
  have hs' : Seg l k (sgn [40] :: (exprToks x ++ [sgn [41]])) := hs
  obtain ⟨h1, hk, h2⟩ := hs'.head
  obtain ⟨h3, h4⟩ := h2.app
  obtain ⟨h5, hk5, _⟩ := h4.head
  have hkd := (sg_kind h1).1
  unfold singleP
  rw [hkd, if_neg (by decide), if_neg (by decide), signAt_pt h1, signAt_pt h1, signAt_pt h1, if_neg (by decide), if_neg (by decide), if_pos (by decide)]
  rw [h.bin d (k + 1) 5 (by omega) h3 (Nat.le_refl _) (by omega) (fol_sign h5 (by decide))]
  show (if signAt l _ [41] then _ else _) = _
  rw [signAt_pt h5, if_pos (by decide)]
  congr 1
  simp [parK]; omega
theorem Reads.of {e : AExpr} (single : ∀ d k, heightN e ≤ d → Seg l k (exprToks e) → 5 ≤ strengthN e.op → singleP l d k = .ok e (k + (exprToks e).length))
  (step : ∀ d k j, heightN e ≤ d → Seg l k (exprToks e) → j < 5 → strengthN e.op + j = 4 → Fol l (k + (exprToks e).length) (6 - j) → ∃ a k0 m, binP l (singleP l d) j k = .ok a k0 ∧ m ≤ (exprToks e).length ∧ ∀ n, loopP l (binP l (singleP l d) j) (5 - j) (m + n) a k0 = loopP l (binP l (singleP l d) j) (5 - j) n e (k + (exprToks e).length)) : Reads l e := by
 have bin : ∀ j d k, heightN e ≤ d → Seg l k (exprToks e) → j ≤ 5 → 5 ≤ strengthN e.op + j → Fol l (k + (exprToks e).length) (6 - j) → binP l (singleP l d) j k = .ok e (k + (exprToks e).length) := by
  intro j
  induction j with
  | zero => intro d k hd hs _ h5 hf; exact single d k hd hs (by omega)
  | succ j ih =>
   intro d k hd hs hj h5 hf
   by_cases h6 : 5 ≤ strengthN e.op + j
   ·unfold binP
    rw [ih d k hd hs (by omega) h6 (hf.mono (by omega))]
    show loopP l _ (5 - j) (l.length + 1) _ _ = _
    unfold loopP
    rw [if_neg]
    rintro ⟨h1, h2⟩
    exact hf ⟨h1, by omega⟩
   ·obtain ⟨a, k0, m, h1, h2, h3⟩ := step d k j hd hs (by omega) (by omega) (hf.mono (by omega))
    have hl : (exprToks e).length ≤ l.length := by
     obtain ⟨t, ht⟩ := hs
     have := congrArg List.length ht
     simp at this; omega
    unfold binP
    rw [h1]
    show loopP l _ (5 - j) (l.length + 1) _ _ = _
    have := h3 (l.length - m + 1)
    rw [show m + (l.length - m + 1) = l.length + 1 by omega] at this
    rw [this]
    unfold loopP
    rw [if_neg]
    rintro ⟨h1, h2⟩
    exact hf ⟨h1, by omega⟩
 refine ⟨single, fun d k j hd hs hj h5 hf => bin j d k hd hs hj h5 hf, fun d k j hd hs hj h5 hf => ?_⟩
 by_cases h6 : 5 ≤ strengthN e.op + j
 ·exact ⟨e, _, 0, bin j d k hd hs (by omega) h6 hf, by omega, fun n => by rw [Nat.zero_add]⟩
 ·exact step d k j hd hs hj (by omega) hf
theorem VE.reads {e : AExpr} (h : VE e) : Reads l e := by
 induction h with
 | num n h =>
  refine .of (fun d k hd hs _ => ?_) (fun d k j _ _ _ h4 _ => ?_)
  ·rw [toks_num] at hs ⊢
   obtain ⟨h1, hk, _⟩ := hs.head
   have e1 : (tokAt l k).kind = 2 := congrArg PT.kind h1
   have e2 : (tokAt l k).num = n := congrArg PT.num h1
   cases d <;> (unfold singleP; rw [if_pos e1, e2]; rfl)
  ·have : strengthN (AExpr.mk 1 n emptyB []).op = 6 := rfl
   omega
 | name s h =>
  refine .of (fun d k hd hs _ => ?_) (fun d k j _ _ _ h4 _ => ?_)
  ·rw [toks_name] at hs ⊢
   obtain ⟨h1, hk, _⟩ := hs.head
   have e1 : (tokAt l k).kind = 1 := congrArg PT.kind h1
   have e2 : (tokAt l k).text = s := congrArg PT.text h1
   cases d <;> (unfold singleP; rw [if_neg (by omega), if_pos e1, e2]; rfl)
  ·have : strengthN (AExpr.mk 2 0 s []).op = 6 := rfl
   omega
 | un op x h hx ih =>
  have hs5 : strengthN op = 5 := by rcases h with rfl | rfl <;> rfl
  refine .of (fun d k hd hs _ => ?_) (fun d k j _ _ _ h4 _ => ?_)
  ·rw [height_un h] at hd
   obtain ⟨d, rfl⟩ : ∃ d', d = d' + 1 := ⟨d - 1, by omega⟩
   rw [toks_un h] at hs ⊢
   obtain ⟨h1, hk, h2⟩ := hs.head
   have hp := ih.par (innerB op 0 x.op) d (k + 1) (fun hb => by have := inner_no hb; omega) (by omega) h2
   have hkd := (sg_kind h1).1
   unfold singleP
   rw [hkd, if_neg (by decide), if_neg (by decide), signAt_pt h1, signAt_pt h1, hp]
   rcases h with rfl | rfl
   ·rw [if_pos (by decide)]
    show PRes.ok _ _ = _
    congr 1; simp; omega
   ·rw [if_neg (by decide), if_pos (by decide)]
    show PRes.ok _ _ = _
    congr 1; simp; omega
  ·have : strengthN (AExpr.mk op 0 emptyB [x]).op = 5 := hs5
   omega
 | bin op x y h hx hy ihx ihy =>
  have hlt := strength_bin h
  refine .of (fun d k hd hs h5 => ?_) (fun d k j hd hs hj h4 hf => ?_)
  ·have : strengthN op < 5 := hlt
   have h5 : 5 ≤ strengthN op := h5
   omega
  ·rw [height_bin h] at hd
   have h4 : strengthN op + j = 4 := h4
   rw [toks_bin h] at hs hf ⊢
   obtain ⟨s1, s2⟩ := hs.app
   obtain ⟨t1, hk1, s3⟩ := s2.head
   obtain ⟨b1, b2⟩ := binOp_sign h
   have f1 : Fol l (k + (parK (innerB op 0 x.op) (exprToks x)).length) (6 - j) := fol_sign t1 (by omega)
   have hlen : (parK (innerB op 0 x.op) (exprToks x) ++ sgn (opSign op) :: parK (innerB op 1 y.op) (exprToks y)).length = (parK (innerB op 0 x.op) (exprToks x)).length + 1 + (parK (innerB op 1 y.op) (exprToks y)).length := by simp; omega
   rw [hlen] at hf ⊢
   have left : ∃ a k0 m, binP l (singleP l d) j k = .ok a k0 ∧ m ≤ (parK (innerB op 0 x.op) (exprToks x)).length ∧ ∀ n, loopP l (binP l (singleP l d) j) (5 - j) (m + n) a k0 = loopP l (binP l (singleP l d) j) (5 - j) n x (k + (parK (innerB op 0 x.op) (exprToks x)).length) := by
    cases hb : innerB op 0 x.op with
    | false =>
     rw [hb] at s1 f1
     have := inner_no hb
     obtain ⟨a, k0, m, g1, g2, g3⟩ := ihx.chain d k j (by omega) s1 hj (by omega) f1
     exact ⟨a, k0, m, g1, g2, g3⟩
    | true =>
     rw [hb] at s1 f1 hd
     have hp := ihx.par true d k (by simp) (by omega) s1
     exact ⟨x, _, 0, binP_only hp j (by omega) f1, by omega, fun n => by rw [Nat.zero_add]⟩
   have right : binP l (singleP l d) j (k + (parK (innerB op 0 x.op) (exprToks x)).length + 1) = .ok y (k + (parK (innerB op 0 x.op) (exprToks x)).length + 1 + (parK (innerB op 1 y.op) (exprToks y)).length) := by
    cases hb : innerB op 1 y.op with
    | false =>
     rw [hb] at s3 hf
     have := inner_no hb
     exact ihy.bin d _ j (by omega) s3 (by omega) (by omega) (by have e : parK false (exprToks y) = exprToks y := rfl; rw [e] at hf; simpa [Nat.add_assoc] using hf)
    | true =>
     rw [hb] at s3 hf hd
     have hp := ihy.par true d _ (by simp) (by omega) s3
     exact binP_only hp j (by omega) (by simpa [Nat.add_assoc] using hf)
   obtain ⟨a, k0, m, g1, g2, g3⟩ := left
   refine ⟨a, k0, m + 1, g1, by omega, fun n => ?_⟩
   rw [Nat.add_assoc, g3 (1 + n), Nat.add_comm 1 n]
   conv => lhs; unfold loopP
   have hc : (tokAt l (k + (parK (innerB op 0 x.op) (exprToks x)).length)).kind = 4 ∧ (binOp (tokAt l (k + (parK (innerB op 0 x.op) (exprToks x)).length)).text).2 = 5 - j := by
    rw [(sg_kind t1).1, (sg_kind t1).2, b2]; exact ⟨rfl, by omega⟩
   rw [if_pos hc, right, (sg_kind t1).2, b1, show ((op.toNat : Nat) : Int) = op by omega]
   simp only [Nat.add_assoc]
end
theorem VE.par2 {e : AExpr} (h : VE e) (hh : heightN e ≤ 22) {l : List Tok} {k : Nat} (hs : Seg l k (parK true (parK true (exprToks e)))) (hf : Fol l (k + (parK true (parK true (exprToks e))).length) 1) : exprP l k = .ok e (k + (parK true (parK true (exprToks e))).length) := by
 have hs' : Seg l k (sgn [40] :: (parK true (exprToks e) ++ [sgn [41]])) := hs
 obtain ⟨h1, hk, h2⟩ := hs'.head
 obtain ⟨h3, h4⟩ := h2.app
 obtain ⟨h5, hk5, _⟩ := h4.head
 have hp := h.reads.par true 23 (k + 1) (by simp) (by simp; omega) h3
 have hb := binP_only hp 5 (Nat.le_refl _) (fol_sign h5 (by decide))
 have hq : singleP l 24 k = .ok e (k + (parK true (parK true (exprToks e))).length) := by
  have hkd := (sg_kind h1).1
  unfold singleP
  rw [hkd, if_neg (by decide), if_neg (by decide), signAt_pt h1, signAt_pt h1, signAt_pt h1, if_neg (by decide), if_neg (by decide), if_pos (by decide), hb]
  show (if signAt l _ [41] then _ else _) = _
  rw [signAt_pt h5, if_pos (by decide)]
  congr 1
  simp [parK]; omega
 exact binP_only hq 5 (Nat.le_refl _) hf
end Go.Proofs.YtiimofjemiffgaaDoor
namespace Go.Proofs.YtiimofjemiffgaaDoor
theorem Lx.len_le {s : List UInt8} {ps : List PT} (h : Lx s ps) : ps.length ≤ s.length := by
 induction h with
 | nil _ => simp
 | @cons s r kind len num ps h h0 hn _ ih =>
  have h1 := nextL_len h0 hn
  have h2 := (skipL_suffix s).length_le
  rw [h] at h2
  rw [List.length_drop] at ih
  simp only [List.length_cons]; omega
theorem MExpr.ve {names : List ByteArray} {d : Nat} {e : AExpr} (hn : ∀ x, x ∈ names → nameB x = true) (h : MExpr names d e) : VE e := by
 induction h with
 | @name d x h => exact .name x (hn x h)
 | @num d n h0 h1 =>
  obtain ⟨k, rfl⟩ : ∃ k : Nat, n = k := ⟨n.toNat, by omega⟩
  exact .num k (by omega)
 | @un d op e ho he ih => exact .un op e ho ih
 | @bin d op a b h0 h1 ha hb iha ihb => exact .bin op a b ⟨h0, h1⟩ iha ihb
theorem seg_all {L : List Tok} {ps : List PT} (h : L.map Tok.pt = ps ++ [endPT]) : Seg L 0 (ps ++ [endPT]) := ⟨[], by rw [List.drop_zero, h, List.append_nil]⟩
theorem end_all {L : List Tok} {ps : List PT} (h : L.map Tok.pt = ps ++ [endPT]) : L.length = ps.length + 1 ∧ EndAt L ∧ ∀ m, Fol L ps.length m := by
 have hl : L.length = ps.length + 1 := by have := congrArg List.length h; simpa using this
 have he := ((seg_all h).app.2.head).1
 rw [Nat.zero_add] at he
 have hk : (tokAt L ps.length).kind = 5 := congrArg PT.kind he
 refine ⟨hl, ⟨by omega, ?_⟩, fun m hh => by omega⟩
 rw [tokAt_lt (by omega)] at hk
 have e : L.length - 1 = ps.length := by omega
 simp only [e]; exact hk
theorem par2_lx {e : AExpr} (h : VE e) : Lx ([40, 40] ++ exprText e ++ [41, 41]) (parK true (parK true (exprToks e))) := by
 have h1 := ((h.lx ([41, 41]) [sgn [41], sgn [41]] (Fin.cons (by decide)) ((Lx.end.free 41 (by decide)).free 41 (by decide))).free 40 (by decide)).free 40 (by decide)
 simpa [parK] using h1
theorem par2_round {e : AExpr} (h : VE e) (hh : heightN e ≤ 22) (hl : (exprText e).length ≤ 3000) : ∃ L k, lexL ([40, 40] ++ exprText e ++ [41, 41]) = .ok L ∧ exprP L 0 = .ok e k ∧ EndAt L ∧ 0 < L.length ∧ L.length ≤ 4001 := by
 have h1 := par2_lx h
 have h2 := h1.len_le
 have h3 : ([40, 40] ++ exprText e ++ [41, 41]).length = (exprText e).length + 4 := by simp
 obtain ⟨L, h4, h5⟩ := lexL_lx h1 (by omega) (by omega)
 obtain ⟨h6, h7, h8⟩ := end_all h5
 refine ⟨L, 0 + (parK true (parK true (exprToks e))).length, h4, ?_, h7, by omega, by omega⟩
 exact h.par2 hh (seg_all h5).app.1 (by rw [Nat.zero_add]; exact h8 1)
end Go.Proofs.YtiimofjemiffgaaDoor
