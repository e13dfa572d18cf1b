import Derived.Test.YtflcnehhpmjipaaGreatDoorN1J
import Derived.Test.YtflcnehhpmjipaaGreatDoorB1J
import Derived.Test.YtflcnehhpmjipaaGreatDoorE0J
set_option linter.unusedVariables false
set_option linter.unusedSimpArgs false
namespace Go.Proofs.YtflcnehhpmjipaaGreatDoor
structure PT where
 kind : Nat
 text : ByteArray
 num : Nat
def Tok.pt (t : Tok) : PT := ⟨t.kind, t.text, t.num⟩
def endPT : PT := ⟨5, ⟨#[]⟩, 0⟩
def sgn (s : List UInt8) : PT := ⟨4, bytes s, 0⟩
def wrd (s : List UInt8) : PT := ⟨3, bytes s, 0⟩
inductive Lx : List UInt8 → List PT → Prop where
 | nil {s : List UInt8} (h : skipL s = []) : Lx s []
 | cons {s r : List UInt8} {kind len num : Nat} {ps : List PT} (h : skipL s = r) (h0 : r ≠ []) (hn : nextL r = .tok kind len num) (ht : Lx (r.drop len) ps) : Lx s (⟨kind, bytes (r.take len), num⟩ :: ps)
theorem Lx.same {s s' : List UInt8} {ps : List PT} (h : Lx s ps) (he : skipL s' = skipL s) : Lx s' ps := by
 cases h with
 | nil h => exact .nil (he.trans h)
 | cons h h0 hn ht => exact .cons (he.trans h) h0 hn ht
theorem Lx.sp {c : UInt8} {r : List UInt8} {ps : List PT} (h : Lx r ps) (hc : isSp c = true) : Lx (c :: r) ps := h.same (skipL_sp hc)
theorem Lx.bl {r : List UInt8} {ps : List PT} (h : Lx r ps) : Lx (32 :: r) ps := h.sp (by decide)
theorem Lx.end : Lx [] [] := .nil skipL_nil
theorem lexT_lx {r : List UInt8} {ps : List PT} (h : Lx r ps) : ∀ (s : List UInt8) (k n : Nat), s.drop k = r → k ≤ s.length → n + ps.length ≤ 4000 → ∃ L, lexT s k n = .ok L ∧ L.map Tok.pt = ps ++ [endPT] := by
 induction h with
 | @nil r h =>
  intro s k n hd hk _
  refine ⟨_, lexT_end (by unfold skipN; rw [hd, h]; simp), rfl⟩
 | @cons r0 r kind len num ps h h0 hn _ ih =>
  intro s k n hd hk hl
  simp only [List.length_cons] at hl
  have hs : s.drop (skipN s k) = r := by rw [skipN_drop, hd, h]
  have hlt : skipN s k < s.length := by
   rcases Nat.lt_or_ge (skipN s k) s.length with h1 | h1
   ·exact h1
   ·rw [List.drop_eq_nil_of_le h1] at hs; exact absurd hs.symm h0
  have hlen := nextL_len h0 hn
  have hr : r.length = s.length - skipN s k := by rw [← hs, List.length_drop]
  obtain ⟨L, h1, h2⟩ := ih s (skipN s k + len) (n + 1) (by rw [← List.drop_drop, hs]) (by omega) (by omega)
  rw [lexT_tok hk hlt (by rw [hs]; exact hn) (by omega), h1, hs]
  exact ⟨_, rfl, by rw [List.map_cons, h2]; rfl⟩
theorem lexL_lx {s : List UInt8} {ps : List PT} (h : Lx s ps) (hs : s.length ≤ 262144) (hp : ps.length ≤ 4000) : ∃ L, lexL s = .ok L ∧ L.map Tok.pt = ps ++ [endPT] := by
 unfold lexL
 rw [if_neg (by omega)]
 exact lexT_lx h s 0 0 rfl (by omega) (by omega)
def NoNam (r : List UInt8) : Prop := ∀ c, r.head? = some c → isNam c = false
theorem takeWhile_app {p : UInt8 → Bool} {l r : List UInt8} (h : ∀ c ∈ l, p c = true) (hr : ∀ c, r.head? = some c → p c = false) : (l ++ r).takeWhile p = l := by
 induction l with
 | nil =>
  cases r with
  | nil => rfl
  | cons c r => rw [List.nil_append, List.takeWhile_cons_of_neg]; rw [hr c rfl]; simp
 | cons c l ih => rw [List.cons_append, List.takeWhile_cons_of_pos (h c (List.mem_cons_self ..)), ih fun d hd => h d (List.mem_cons_of_mem _ hd)]
theorem isLet_not {c : UInt8} (h : isLet c = true) : isSp c = false ∧ c ≠ 47 := by
 simp only [isLet, decide_eq_true_eq] at h
 refine ⟨?_, ?_⟩
 ·simp only [isSp, decide_eq_false_iff_not]; omega
 ·rintro rfl; revert h; decide
theorem Lx.letters {s r : List UInt8} {ps : List PT} (h : Lx r ps) (c : UInt8) (q : List UInt8) (hs : s = c :: q) (hc : isLet c = true) (hq : ∀ d ∈ q, isNam d = true) (hl : s.length ≤ 16) (hr : NoNam r) : Lx (s ++ r) (⟨if reserved (bytes s) then 3 else 1, bytes s, 0⟩ :: ps) := by
 subst hs
 have ht : ((c :: q) ++ r).takeWhile isNam = c :: q := takeWhile_app (fun d hd => by
  rcases List.mem_cons.1 hd with rfl | hd
  ·simp [isNam, hc]
  ·exact hq d hd) hr
 have hn : nextL ((c :: q) ++ r) = .tok (if reserved (bytes (c :: q)) then 3 else 1) (c :: q).length 0 := by
  rw [List.cons_append] at ht ⊢
  rw [nextL_name hc, ht, if_neg (by omega)]
 have := Lx.cons (s := (c :: q) ++ r) (r := (c :: q) ++ r) (skipL_stop (r := q ++ r) (isLet_not hc).1 (fun h => (isLet_not hc).2 h.1)) (by simp) hn (ps := ps) (by rw [List.drop_left]; exact h)
 rw [List.take_left] at this
 exact this
theorem bytes_tl (s : ByteArray) : bytes s.data.toList = s := by simp [bytes]
theorem Lx.name {r : List UInt8} {ps : List PT} (h : Lx r ps) (s : ByteArray) (hs : nameB s = true) (hr : NoNam r) : Lx (s.data.toList ++ r) (⟨1, s, 0⟩ :: ps) := by
 unfold nameB at hs
 split at hs
 ·cases hs
 ·rename_i c q he
  simp only [Bool.and_eq_true, List.all_eq_true, decide_eq_true_eq, Bool.not_eq_true'] at hs
  obtain ⟨⟨⟨h1, h2⟩, h3⟩, h4⟩ := hs
  have := h.letters (s := s.data.toList) c q he h1 h2 (by exact h3) hr
  rw [bytes_tl, h4] at this
  exact this
theorem words_ok : ∀ x, x ∈ words → x.size ≤ 16 ∧ isLet (x.data.toList.headD 0) = true ∧ (x.data.toList.tail.all isNam) = true := by decide
theorem Lx.word {r : List UInt8} {ps : List PT} (h : Lx r ps) (s : List UInt8) (hs : reserved (bytes s) = true) (hr : NoNam r) : Lx (s ++ r) (wrd s :: ps) := by
 obtain ⟨h1, h2, h3⟩ := words_ok _ ((reserved_iff _).1 hs)
 have e : (bytes s).data.toList = s := by simp [bytes]
 rw [e] at h2 h3
 have e2 : (bytes s).size = s.length := by simp [bytes, ByteArray.size]
 rw [e2] at h1
 cases s with
 | nil => exact absurd h2 (by decide)
 | cons c q =>
  have := h.letters (s := c :: q) c q rfl h2 (List.all_eq_true.1 h3) h1 hr
  rw [hs] at this
  exact this
theorem digits_dig (n : Nat) : ∀ c ∈ digitsL n, isDig c = true := by
 induction n using digitsL.induct with
 | case1 n h =>
  rw [digitsL, if_pos h]
  intro c hc
  simp only [List.mem_singleton] at hc
  subst hc
  have := isDig_of n
  rwa [Nat.mod_eq_of_lt h] at this
 | case2 n h ih =>
  rw [digitsL, if_neg h]
  intro c hc
  rcases List.mem_append.1 hc with hc | hc
  ·exact ih c hc
  ·simp only [List.mem_singleton] at hc; subst hc; exact isDig_of n
theorem digits_ne (n : Nat) : digitsL n ≠ [] := by rw [digitsL]; split <;> simp
theorem digits_val (n : Nat) : valL 0 (digitsL n) = n := by
 induction n using digitsL.induct with
 | case1 n h =>
  have hc : (UInt8.ofNat (48 + n)).toNat = 48 + n := by rw [UInt8.toNat_ofNat']; omega
  rw [digitsL, if_pos h, valL_cons, valL_nil, hc]; omega
 | case2 n h ih =>
  have hc : (UInt8.ofNat (48 + n % 10)).toNat = 48 + n % 10 := by rw [UInt8.toNat_ofNat']; omega
  rw [digitsL, if_neg h, valL_back, ih, hc]; omega
theorem Lx.num {r : List UInt8} {ps : List PT} (h : Lx r ps) (n : Nat) (hn : n ≤ 9223372036854775807) (hr : NoNam r) : Lx (digitsL n ++ r) (⟨2, bytes (digitsL n), n⟩ :: ps) := by
 obtain ⟨c, q, he⟩ := List.exists_cons_of_ne_nil (digits_ne n)
 have hd := digits_dig n
 have hv := numL_val (digitsL n) hd 0 (by omega)
 rw [digits_val, if_pos hn] at hv
 have ht : (digitsL n ++ r).takeWhile isDig = digitsL n := takeWhile_app hd fun c hc => by
  have := hr c hc
  unfold isNam at this
  simp only [Bool.or_eq_false_iff] at this
  exact this.2
 have hc := hd c (by rw [he]; exact List.mem_cons_self ..)
 have hx := isDig_not c hc
 have hnx : nextL (digitsL n ++ r) = .tok 2 (digitsL n).length n := by
  rw [he, List.cons_append] at ht ⊢
  rw [nextL_num hx.1 hc (n := n) (by rw [ht, ← he]; exact hv), ht]
 have := Lx.cons (s := digitsL n ++ r) (r := digitsL n ++ r) (by rw [he]; exact skipL_stop (r := q ++ r) hx.2.1 (fun h => hx.2.2 h.1)) (by rw [he]; simp) hnx (ps := ps) (by rw [List.drop_left]; exact h)
 rw [List.take_left] at this
 exact this
theorem singles_not : ∀ c, c ∈ singlesL → isLet c = false ∧ isDig c = false ∧ isSp c = false := by decide
theorem Lx.one {r : List UInt8} {ps : List PT} (h : Lx r ps) (c : UInt8) (hc : c ∈ singlesL) (hr : ∀ d, r.head? = some d → [c, d] ∉ pairsL ∧ ¬ (c = 47 ∧ d = 47)) : Lx (c :: r) (sgn [c] :: ps) := by
 obtain ⟨h1, h2, h3⟩ := singles_not c hc
 have hno : ¬ (2 ≤ (c :: r).length ∧ (c :: r).take 2 ∈ pairsL) := by
  rintro ⟨h4, h5⟩
  cases r with
  | nil => simp at h4
  | cons d r => exact (hr d rfl).1 h5
 have hn : nextL (c :: r) = .tok 4 1 0 := by rw [nextL_sign h1 h2, signL_one hno hc]; rfl
 exact Lx.cons (skipL_stop h3 (fun ⟨h4, h5⟩ => (hr 47 h5).2 ⟨h4, rfl⟩)) (by simp) hn h
theorem pairs_not : ∀ x, x ∈ pairsL → isLet (x.headD 0) = false ∧ isDig (x.headD 0) = false ∧ isSp (x.headD 0) = false ∧ x.headD 0 ≠ 47 := by decide
theorem Lx.two {r : List UInt8} {ps : List PT} (h : Lx r ps) (c d : UInt8) (hc : [c, d] ∈ pairsL) : Lx (c :: d :: r) (sgn [c, d] :: ps) := by
 obtain ⟨h1, h2, h3, h4⟩ := pairs_not _ hc
 have hn : nextL (c :: d :: r) = .tok 4 2 0 := by rw [nextL_sign (c := c) h1 h2, signL_two (l := c :: d :: r) (by simp) hc]; rfl
 exact Lx.cons (skipL_stop h3 (fun h5 => h4 h5.1)) (by simp) hn h
def Fin (r : List UInt8) : Prop := ∀ c, r.head? = some c → c ∈ ([32, 41, 93, 59, 44] : List UInt8)
theorem Fin.cons {c : UInt8} {r : List UInt8} (h : c ∈ ([32, 41, 93, 59, 44] : List UInt8)) : Fin (c :: r) := fun d hd => by cases hd; exact h
theorem Fin.nil : Fin [] := fun c hc => by cases hc
theorem NoNam.cons {c : UInt8} {r : List UInt8} (h : isNam c = false) : NoNam (c :: r) := fun d hd => by cases hd; exact h
theorem free_all : ∀ c, c ∈ ([40, 41, 123, 125, 91, 93, 44, 59, 43, 45, 42, 37] : List UInt8) → c ∈ singlesL ∧ c ≠ 47 ∧ ∀ x, x ∈ pairsL → x.headD 0 ≠ c := by decide
theorem Lx.free {r : List UInt8} {ps : List PT} (h : Lx r ps) (c : UInt8) (hc : c ∈ ([40, 41, 123, 125, 91, 93, 44, 59, 43, 45, 42, 37] : List UInt8)) : Lx (c :: r) (sgn [c] :: ps) := by
 obtain ⟨h1, h2, h3⟩ := free_all c hc
 exact h.one c h1 fun d _ => ⟨fun hm => h3 _ hm rfl, fun h4 => h2 h4.1⟩
end Go.Proofs.YtflcnehhpmjipaaGreatDoor
namespace Go.Proofs.YtflcnehhpmjipaaGreatDoor
structure EqTok (l l' : List Tok) : Prop where
 len : l.length = l'.length
 kind : ∀ k, (tokAt l k).kind = (tokAt l' k).kind
 text : ∀ k, (tokAt l k).text = (tokAt l' k).text
 num : ∀ k, (tokAt l k).num = (tokAt l' k).num
theorem EqTok.of {l l' : List Tok} (h : l.map Tok.pt = l'.map Tok.pt) : EqTok l l' := by
 have hl : l.length = l'.length := by simpa using congrArg List.length h
 have key : ∀ k, (tokAt l k).pt = (tokAt l' k).pt := fun k => by
  unfold tokAt
  have h1 := congrArg (·[k]?) h
  simp only [List.getElem?_map] at h1
  rw [List.getD_eq_getElem?_getD, List.getD_eq_getElem?_getD]
  cases h2 : l[k]? with
  | none => rw [h2] at h1; cases h3 : l'[k]? with
   | none => rfl
   | some _ => rw [h3] at h1; cases h1
  | some a => rw [h2] at h1; cases h3 : l'[k]? with
   | none => rw [h3] at h1; cases h1
   | some b => rw [h3] at h1; simpa using h1
 exact ⟨hl, fun k => congrArg PT.kind (key k), fun k => congrArg PT.text (key k), fun k => congrArg PT.num (key k)⟩
section
variable {l l' : List Tok} (h : EqTok l l')
include h
theorem signAt_c : signAt l = signAt l' := by funext k s; unfold signAt; rw [h.kind, h.text]
theorem wordAt_c : wordAt l = wordAt l' := by funext k s; unfold wordAt; rw [h.kind, h.text]
theorem nameP_c0 : nameP l = nameP l' := by funext k; unfold nameP; rw [h.kind, h.text]
theorem numP_c0 : numP l = numP l' := by funext k; unfold numP; rw [h.kind, h.num]
theorem wantP_c0 : wantP l = wantP l' := by funext s k; unfold wantP; rw [signAt_c h]
theorem loopP_c0 (sub : Nat → PRes AExpr) (lv : Nat) : ∀ (n : Nat) (x : AExpr) (k : Nat), loopP l sub lv n x k = loopP l' sub lv n x k
 | 0, _, _ => rfl
 | n + 1, x, k => by
  rw [loopP, loopP, h.kind, h.text]
  split
  ·split
   ·exact loopP_c0 sub lv n _ _
   ·rfl
  ·rfl
theorem binP_c0 (s : Nat → PRes AExpr) : ∀ (j : Nat), binP l s j = binP l' s j
 | 0 => by funext k; rw [binP, binP]
 | j + 1 => by
  funext k; rw [binP, binP, binP_c0 s j, h.len]
  split
  ·exact loopP_c0 h _ _ _ _ _
  ·rfl
theorem parP_c0 : parP l = parP l' := by funext r; unfold parP; rw [signAt_c h]
theorem singleP_c0 : ∀ d, singleP l d = singleP l' d
 | 0 => by funext k; rw [singleP, singleP, h.kind, h.num, h.text, signAt_c h]
 | d + 1 => by funext k; rw [singleP, singleP, h.kind, h.num, h.text, signAt_c h, singleP_c0 d, parP_c0 h, binP_c0 h]
theorem exprP_c0 : exprP l = exprP l' := by funext k; unfold exprP; rw [singleP_c0 h, binP_c0 h]
theorem refP_c0 : refP l = refP l' := by
 have e : refTail l = refTail l' := by funext n k; unfold refTail; rw [signAt_c h, exprP_c0 h, wantP_c0 h]
 funext k; unfold refP; rw [nameP_c0 h, e]
theorem argP_c0 : argP l = argP l' := by funext k; unfold argP; rw [wordAt_c h, refP_c0 h, exprP_c0 h]
theorem listP_c0 {α : Type} (el : Nat → Nat → PRes α) : ∀ (n : Nat) (acc : List α) (k : Nat), listP l el n acc k = listP l' el n acc k
 | 0, _, _ => rfl
 | n + 1, acc, k => by
  rw [listP, listP, signAt_c h, wantP_c0 h]
  congr 1; funext x k; rw [listP_c0 el n]
theorem parensP_c0 {α : Type} (el : Nat → Nat → PRes α) : parensP l el = parensP l' el := by
 funext k; unfold parensP; rw [wantP_c0 h, signAt_c h, h.len]
 congr 1; funext x k; rw [listP_c0 h el]
theorem argsP_c0 : argsP l = argsP l' := by funext k; unfold argsP; rw [argP_c0 h, parensP_c0 h]
theorem semi_c0 : semi l = semi l' := by funext s k; unfold semi; rw [wantP_c0 h]
theorem stmtP_c0 : stmtP l = stmtP l' := by
 have e1 : localP l = localP l' := by funext k; unfold localP; rw [nameP_c0 h, wantP_c0 h, exprP_c0 h, semi_c0 h]
 have e2 : goP l = goP l' := by funext k; unfold goP; rw [nameP_c0 h, argsP_c0 h, semi_c0 h]
 have e3 : lockP l = lockP l' := by funext z k; unfold lockP; rw [refP_c0 h, semi_c0 h]
 have e4 : elseP l = elseP l' := by funext b e t k; unfold elseP; rw [wordAt_c h]
 have e5 : ifP l = ifP l' := by funext b k; unfold ifP; rw [exprP_c0 h, e4]
 have e6 : whileP l = whileP l' := by funext b k; unfold whileP; rw [exprP_c0 h]
 have e7 : retP l = retP l' := by funext k; unfold retP; rw [semi_c0 h]
 have e8 : namedTail l = namedTail l' := by funext n k; unfold namedTail; rw [signAt_c h, exprP_c0 h, semi_c0 h, argsP_c0 h]
 have e9 : namedP l = namedP l' := by funext k; unfold namedP; rw [nameP_c0 h, e8]
 funext b k; unfold stmtP; rw [wordAt_c h, e1, e2, e3, e5, e6, e7, e9]
theorem stmtsP_c0 (st : Nat → PRes AStmt) : ∀ (n : Nat) (acc : List AStmt) (k : Nat), stmtsP l st n acc k = stmtsP l' st n acc k
 | 0, _, _ => rfl
 | n + 1, acc, k => by
  rw [stmtsP, stmtsP, signAt_c h]
  congr 1; congr 1; funext s k; rw [stmtsP_c0 st n]
theorem blockP_c0 : ∀ d, blockP l d = blockP l' d
 | 0 => by funext k; rw [blockP, blockP, signAt_c h]
 | d + 1 => by
  funext k; rw [blockP, blockP, wantP_c0 h, blockP_c0 d, stmtP_c0 h, h.len]
  congr 1; funext x k; rw [stmtsP_c0 h]
theorem declP_c0 : declP l = declP l' := by
 have e1 : globalP l = globalP l' := by funext k; unfold globalP; rw [nameP_c0 h, signAt_c h, numP_c0 h, wantP_c0 h]
 have e2 : sizeP l = sizeP l' := by funext k; unfold sizeP; rw [numP_c0 h]
 have e3 : mutexP l = mutexP l' := by funext b k; unfold mutexP; rw [nameP_c0 h, signAt_c h, e2, wantP_c0 h]
 have e4 : paramP l = paramP l' := by funext n k; unfold paramP; rw [h.kind, wordAt_c h, nameP_c0 h]
 have e5 : funcP l = funcP l' := by funext k; unfold funcP; rw [nameP_c0 h, e4, parensP_c0 h, blockP_c0 h]
 funext x k; unfold declP; rw [wordAt_c h, e1, e3, e5]
theorem progP_c0 : ∀ (n : Nat) (x : AProg) (k : Nat), progP l n x k = progP l' n x k
 | 0, _, _ => rfl
 | n + 1, x, k => by
  rw [progP, progP, h.kind, declP_c0 h]
  congr 1; congr 1; funext y k; rw [progP_c0 n]
theorem programP_c0 : programP l = programP l' := by unfold programP; rw [h.len, progP_c0 h]
end
def unpt (p : PT) : Tok := ⟨p.kind, p.text, p.num, 0⟩
theorem pt_unpt (ps : List PT) : (ps.map unpt).map Tok.pt = ps := by
 rw [List.map_map]
 have : Tok.pt ∘ unpt = id := by funext p; cases p; rfl
 rw [this, List.map_id]
end Go.Proofs.YtflcnehhpmjipaaGreatDoor
namespace Go.Proofs.YtflcnehhpmjipaaGreatDoor
inductive VE : AExpr → Prop where
 | num (n : Nat) (h : n ≤ 9223372036854775807) : VE (.mk 1 n emptyB [])
 | name (s : ByteArray) (h : nameB s = true) : VE (.mk 2 0 s [])
 | un (op : Int) (x : AExpr) (h : op = 3 ∨ op = 4) (hx : VE x) : VE (.mk op 0 emptyB [x])
 | bin (op : Int) (x y : AExpr) (h : 5 ≤ op ∧ op ≤ 17) (hx : VE x) (hy : VE y) : VE (.mk op 0 emptyB [x, y])
def parK (b : Bool) (t : List PT) : List PT := if b then sgn [40] :: (t ++ [sgn [41]]) else t
def opToks (op num : Int) (name : ByteArray) (ts : List (List PT)) : List PT :=
 if op = 1 then [⟨2, bytes (digitsL num.natAbs), num.natAbs⟩] else if op = 2 then [⟨1, name, 0⟩] else if op = 3 then sgn [45] :: ts.getD 0 [] else if op = 4 then sgn [33] :: ts.getD 0 [] else
 ts.getD 0 [] ++ sgn (opSign op) :: ts.getD 1 []
mutual
def exprToks : AExpr → List PT
 | .mk op num name args => opToks op num name (argToks op 0 args)
def argToks (b : Int) : Nat → List AExpr → List (List PT)
 | _, [] => []
 | k, e :: es => parK (innerB b k e.op) (exprToks e) :: argToks b (k + 1) es
end
theorem op_list {op : Int} (h : 5 ≤ op ∧ op ≤ 17) : op = 5 ∨ op = 6 ∨ op = 7 ∨ op = 8 ∨ op = 9 ∨ op = 10 ∨ op = 11 ∨ op = 12 ∨ op = 13 ∨ op = 14 ∨ op = 15 ∨ op = 16 ∨ op = 17 := by omega
theorem strength_bin {op : Int} (h : 5 ≤ op ∧ op ≤ 17) : strengthN op < 5 := by
 rcases op_list h with rfl | rfl | rfl | rfl | rfl | rfl | rfl | rfl | rfl | rfl | rfl | rfl | rfl <;> decide
theorem toks_num (n : Nat) : exprToks (.mk 1 n emptyB []) = [⟨2, bytes (digitsL n), n⟩] := by rw [exprToks, argToks]; rfl
theorem toks_name (s : ByteArray) : exprToks (.mk 2 0 s []) = [⟨1, s, 0⟩] := by rw [exprToks, argToks]; rfl
theorem toks_un {op : Int} (h : op = 3 ∨ op = 4) (x : AExpr) : exprToks (.mk op 0 emptyB [x]) = sgn [if op = 3 then 45 else 33] :: parK (innerB op 0 x.op) (exprToks x) := by
 rw [exprToks, argToks, argToks]
 rcases h with rfl | rfl <;> rfl
theorem toks_bin {op : Int} (h : 5 ≤ op ∧ op ≤ 17) (x y : AExpr) : exprToks (.mk op 0 emptyB [x, y]) = parK (innerB op 0 x.op) (exprToks x) ++ sgn (opSign op) :: parK (innerB op 1 y.op) (exprToks y) := by
 rw [exprToks, argToks, argToks, argToks]
 unfold opToks
 rw [if_neg (by omega), if_neg (by omega), if_neg (by omega), if_neg (by omega)]
 rfl
theorem height_un {op : Int} (h : op = 3 ∨ op = 4) (x : AExpr) : heightN (.mk op 0 emptyB [x]) = (heightN x + if innerB op 0 x.op then 1 else 0) + 1 := by
 rw [heightN, argsHeight, argsHeight]
 have hs : strengthN op = 5 := by rcases h with rfl | rfl <;> rfl
 rw [if_pos hs]; omega
theorem height_bin {op : Int} (h : 5 ≤ op ∧ op ≤ 17) (x y : AExpr) : heightN (.mk op 0 emptyB [x, y]) = max (heightN x + if innerB op 0 x.op then 1 else 0) (heightN y + if innerB op 1 y.op then 1 else 0) := by
 rw [heightN, argsHeight, argsHeight, argsHeight]
 have hs := strength_bin h
 rw [if_neg (show ¬ strengthN op = 5 by omega), Nat.zero_add]; omega
def Sta (r : List UInt8) : Prop := ∃ c q, r = c :: q ∧ c ≠ 61 ∧ c ≠ 38 ∧ c ≠ 124 ∧ c ≠ 47
theorem Sta.app {r : List UInt8} (h : Sta r) (s : List UInt8) : Sta (r ++ s) := by
 obtain ⟨c, q, rfl, h1⟩ := h
 exact ⟨c, q ++ s, rfl, h1⟩
theorem pairs_snd : ∀ x, x ∈ pairsL → x.getD 1 0 = 61 ∨ x.getD 1 0 = 38 ∨ x.getD 1 0 = 124 := by decide
theorem Lx.pre {r : List UInt8} {ps : List PT} (h : Lx r ps) (c : UInt8) (hc : c ∈ singlesL) (hr : Sta r) : Lx (c :: r) (sgn [c] :: ps) := by
 obtain ⟨d, q, rfl, h1, h2, h3, h4⟩ := hr
 refine h.one c hc fun d' hd => ?_
 cases hd
 refine ⟨fun hm => ?_, fun h5 => h4 h5.2⟩
 rcases pairs_snd _ hm with h5 | h5 | h5
 ·exact h1 h5
 ·exact h2 h5
 ·exact h3 h5
def Seg (l : List Tok) (k : Nat) (ps : List PT) : Prop := ps <+: (l.map Tok.pt).drop k
theorem Seg.app {l : List Tok} {k : Nat} {a b : List PT} (h : Seg l k (a ++ b)) : Seg l k a ∧ Seg l (k + a.length) b := by
 obtain ⟨t, ht⟩ := h
 refine ⟨⟨b ++ t, by rw [← ht, List.append_assoc]⟩, ⟨t, ?_⟩⟩
 rw [← List.drop_drop, ← ht, List.append_assoc, List.drop_left]
theorem Seg.head {l : List Tok} {k : Nat} {t : PT} {ps : List PT} (h : Seg l k (t :: ps)) : (tokAt l k).pt = t ∧ k < l.length ∧ Seg l (k + 1) ps := by
 obtain ⟨q, ht⟩ := h
 have h1 : (l.map Tok.pt).drop k = t :: (ps ++ q) := ht.symm
 have hk : k < l.length := by
  rcases Nat.lt_or_ge k l.length with h2 | h2
  ·exact h2
  ·rw [List.drop_eq_nil_of_le (by simpa using h2)] at h1; cases h1
 have h2 := List.drop_eq_getElem_cons (l := l.map Tok.pt) (i := k) (by simpa using hk)
 rw [h2] at h1
 injection h1 with h3 h4
 refine ⟨by rw [tokAt_lt hk]; simpa using h3, hk, ⟨q, h4.symm⟩⟩
theorem sg_kind {l : List Tok} {k : Nat} {s : List UInt8} (h : (tokAt l k).pt = sgn s) : (tokAt l k).kind = 4 ∧ (tokAt l k).text = bytes s := by
 have h1 := congrArg PT.kind h
 have h2 := congrArg PT.text h
 exact ⟨h1, h2⟩
theorem signAt_pt {l : List Tok} {k : Nat} {s : List UInt8} (h : (tokAt l k).pt = sgn s) (u : List UInt8) : signAt l k u = decide (bytes s = bytes u) := by
 obtain ⟨h1, h2⟩ := sg_kind h
 unfold signAt; rw [h1, h2]; simp
def Fol (l : List Tok) (k m : Nat) : Prop := ¬ ((tokAt l k).kind = 4 ∧ m ≤ (binOp (tokAt l k).text).2)
theorem Fol.mono {l : List Tok} {k m n : Nat} (h : Fol l k m) (hn : m ≤ n) : Fol l k n := fun hh => h ⟨hh.1, by omega⟩
theorem binOp_sign {op : Int} (h : 5 ≤ op ∧ op ≤ 17) : (binOp (bytes (opSign op))).1 = op.toNat ∧ (binOp (bytes (opSign op))).2 = strengthN op + 1 := by
 rcases op_list h with rfl | rfl | rfl | rfl | rfl | rfl | rfl | rfl | rfl | rfl | rfl | rfl | rfl <;> decide
theorem fol_sign {l : List Tok} {k m : Nat} {s : List UInt8} (h : (tokAt l k).pt = sgn s) (hs : (binOp (bytes s)).2 < m) : Fol l k m := by
 rintro ⟨_, h2⟩
 rw [(sg_kind h).2] at h2; omega
theorem binP_only {l : List Tok} {single : Nat → PRes AExpr} {k k' : Nat} {x : AExpr} (h : single k = .ok x k') : ∀ j, j ≤ 5 → Fol l k' (6 - j) → binP l single j k = .ok x k'
 | 0, _, _ => h
 | j + 1, hj, hf => by
  unfold binP
  rw [binP_only h j (by omega) (hf.mono (by omega))]
  show loopP l _ (5 - j) (l.length + 1) x k' = _
  unfold loopP
  rw [if_neg]
  rintro ⟨h1, h2⟩
  exact hf ⟨h1, by omega⟩
theorem inner_no {op a : Int} {k : Nat} (h : innerB op k a = false) : strengthN op ≤ strengthN a ∧ (k = 1 → strengthN op < strengthN a) := by
 unfold innerB at h
 rw [decide_eq_false_iff_not] at h
 omega
section
variable {l : List Tok}
structure Reads (l : List Tok) (e : AExpr) : Prop where
 single : ∀ d k, heightN e ≤ d → Seg l k (exprToks e) → 5 ≤ strengthN e.op → singleP l d k = .ok e (k + (exprToks e).length)
 bin : ∀ d k j, heightN e ≤ d → Seg l k (exprToks e) → j ≤ 5 → 5 ≤ strengthN e.op + j → Fol l (k + (exprToks e).length) (6 - j) → binP l (singleP l d) j k = .ok e (k + (exprToks e).length)
 chain : ∀ d k j, heightN e ≤ d → Seg l k (exprToks e) → j < 5 → 5 ≤ strengthN e.op + (j + 1) → Fol l (k + (exprToks e).length) (6 - j) → ∃ a k0 m, binP l (singleP l d) j k = .ok a k0 ∧ m ≤ (exprToks e).length ∧ ∀ n, loopP l (binP l (singleP l d) j) (5 - j) (m + n) a k0 = loopP l (binP l (singleP l d) j) (5 - j) n e (k + (exprToks e).length)
theorem Reads.par {x : AExpr} (h : Reads l x) (b : Bool) (d k : Nat) (hb : b = false → 5 ≤ strengthN x.op) (hd : (heightN x + if b then 1 else 0) ≤ d) (hs : Seg l k (parK b (exprToks x))) : singleP l d k = .ok x (k + (parK b (exprToks x)).length) := by
 cases b with
 | false => exact h.single d k (by simpa using hd) hs (hb rfl)
 | true =>
  simp only [if_true] at hd
  obtain ⟨d, rfl⟩ : ∃ d', d = d' + 1 := ⟨d - 1, by omega⟩
  have hs' : Seg l k (sgn [40] :: (exprToks x ++ [sgn [41]])) := hs
  obtain ⟨h1, hk, h2⟩ := hs'.head
  obtain ⟨h3, h4⟩ := h2.app
  obtain ⟨h5, hk5, _⟩ := h4.head
  have hkd := (sg_kind h1).1
  unfold singleP
  rw [hkd, if_neg (by decide), if_neg (by decide), signAt_pt h1, signAt_pt h1, signAt_pt h1, if_neg (by decide), if_neg (by decide), if_pos (by decide)]
  rw [h.bin d (k + 1) 5 (by omega) h3 (Nat.le_refl _) (by omega) (fol_sign h5 (by decide))]
  show (if signAt l _ [41] then _ else _) = _
  rw [signAt_pt h5, if_pos (by decide)]
  congr 1
  simp [parK]; omega
theorem Reads.of {e : AExpr} (single : ∀ d k, heightN e ≤ d → Seg l k (exprToks e) → 5 ≤ strengthN e.op → singleP l d k = .ok e (k + (exprToks e).length))
  (step : ∀ d k j, heightN e ≤ d → Seg l k (exprToks e) → j < 5 → strengthN e.op + j = 4 → Fol l (k + (exprToks e).length) (6 - j) → ∃ a k0 m, binP l (singleP l d) j k = .ok a k0 ∧ m ≤ (exprToks e).length ∧ ∀ n, loopP l (binP l (singleP l d) j) (5 - j) (m + n) a k0 = loopP l (binP l (singleP l d) j) (5 - j) n e (k + (exprToks e).length)) : Reads l e := by
 have bin : ∀ j d k, heightN e ≤ d → Seg l k (exprToks e) → j ≤ 5 → 5 ≤ strengthN e.op + j → Fol l (k + (exprToks e).length) (6 - j) → binP l (singleP l d) j k = .ok e (k + (exprToks e).length) := by
  intro j
  induction j with
  | zero => intro d k hd hs _ h5 hf; exact single d k hd hs (by omega)
  | succ j ih =>
   intro d k hd hs hj h5 hf
   by_cases h6 : 5 ≤ strengthN e.op + j
   ·unfold binP
    rw [ih d k hd hs (by omega) h6 (hf.mono (by omega))]
    show loopP l _ (5 - j) (l.length + 1) _ _ = _
    unfold loopP
    rw [if_neg]
    rintro ⟨h1, h2⟩
    exact hf ⟨h1, by omega⟩
   ·obtain ⟨a, k0, m, h1, h2, h3⟩ := step d k j hd hs (by omega) (by omega) (hf.mono (by omega))
    have hl : (exprToks e).length ≤ l.length := by
     obtain ⟨t, ht⟩ := hs
     have := congrArg List.length ht
     simp at this; omega
    unfold binP
    rw [h1]
    show loopP l _ (5 - j) (l.length + 1) _ _ = _
    have := h3 (l.length - m + 1)
    rw [show m + (l.length - m + 1) = l.length + 1 by omega] at this
    rw [this]
    unfold loopP
    rw [if_neg]
    rintro ⟨h1, h2⟩
    exact hf ⟨h1, by omega⟩
 refine ⟨single, fun d k j hd hs hj h5 hf => bin j d k hd hs hj h5 hf, fun d k j hd hs hj h5 hf => ?_⟩
 by_cases h6 : 5 ≤ strengthN e.op + j
 ·exact ⟨e, _, 0, bin j d k hd hs (by omega) h6 hf, by omega, fun n => by rw [Nat.zero_add]⟩
 ·exact step d k j hd hs hj (by omega) hf
theorem VE.reads {e : AExpr} (h : VE e) : Reads l e := by
 induction h with
 | num n h =>
  refine .of (fun d k hd hs _ => ?_) (fun d k j _ _ _ h4 _ => ?_)
  ·rw [toks_num] at hs ⊢
   obtain ⟨h1, hk, _⟩ := hs.head
   have e1 : (tokAt l k).kind = 2 := congrArg PT.kind h1
   have e2 : (tokAt l k).num = n := congrArg PT.num h1
   cases d <;> (unfold singleP; rw [if_pos e1, e2]; rfl)
  ·have : strengthN (AExpr.mk 1 n emptyB []).op = 6 := rfl
   omega
 | name s h =>
  refine .of (fun d k hd hs _ => ?_) (fun d k j _ _ _ h4 _ => ?_)
  ·rw [toks_name] at hs ⊢
   obtain ⟨h1, hk, _⟩ := hs.head
   have e1 : (tokAt l k).kind = 1 := congrArg PT.kind h1
   have e2 : (tokAt l k).text = s := congrArg PT.text h1
   cases d <;> (unfold singleP; rw [if_neg (by omega), if_pos e1, e2]; rfl)
  ·have : strengthN (AExpr.mk 2 0 s []).op = 6 := rfl
   omega
 | un op x h hx ih =>
  have hs5 : strengthN op = 5 := by rcases h with rfl | rfl <;> rfl
  refine .of (fun d k hd hs _ => ?_) (fun d k j _ _ _ h4 _ => ?_)
  ·rw [height_un h] at hd
   obtain ⟨d, rfl⟩ : ∃ d', d = d' + 1 := ⟨d - 1, by omega⟩
   rw [toks_un h] at hs ⊢
   obtain ⟨h1, hk, h2⟩ := hs.head
   have hp := ih.par (innerB op 0 x.op) d (k + 1) (fun hb => by have := inner_no hb; omega) (by omega) h2
   have hkd := (sg_kind h1).1
   unfold singleP
   rw [hkd, if_neg (by decide), if_neg (by decide), signAt_pt h1, signAt_pt h1, hp]
   rcases h with rfl | rfl
   ·rw [if_pos (by decide)]
    show PRes.ok _ _ = _
    congr 1; simp; omega
   ·rw [if_neg (by decide), if_pos (by decide)]
    show PRes.ok _ _ = _
    congr 1; simp; omega
  ·have : strengthN (AExpr.mk op 0 emptyB [x]).op = 5 := hs5
   omega
 | bin op x y h hx hy ihx ihy =>
  have hlt := strength_bin h
  refine .of (fun d k hd hs h5 => ?_) (fun d k j hd hs hj h4 hf => ?_)
  ·have : strengthN op < 5 := hlt
   have h5 : 5 ≤ strengthN op := h5
   omega
  ·rw [height_bin h] at hd
   have h4 : strengthN op + j = 4 := h4
   rw [toks_bin h] at hs hf ⊢
   obtain ⟨s1, s2⟩ := hs.app
   obtain ⟨t1, hk1, s3⟩ := s2.head
   obtain ⟨b1, b2⟩ := binOp_sign h
   have f1 : Fol l (k + (parK (innerB op 0 x.op) (exprToks x)).length) (6 - j) := fol_sign t1 (by omega)
   have hlen : (parK (innerB op 0 x.op) (exprToks x) ++ sgn (opSign op) :: parK (innerB op 1 y.op) (exprToks y)).length = (parK (innerB op 0 x.op) (exprToks x)).length + 1 + (parK (innerB op 1 y.op) (exprToks y)).length := by simp; omega
   rw [hlen] at hf ⊢
   have left : ∃ a k0 m, binP l (singleP l d) j k = .ok a k0 ∧ m ≤ (parK (innerB op 0 x.op) (exprToks x)).length ∧ ∀ n, loopP l (binP l (singleP l d) j) (5 - j) (m + n) a k0 = loopP l (binP l (singleP l d) j) (5 - j) n x (k + (parK (innerB op 0 x.op) (exprToks x)).length) := by
    cases hb : innerB op 0 x.op with
    | false =>
     rw [hb] at s1 f1
     have := inner_no hb
     obtain ⟨a, k0, m, g1, g2, g3⟩ := ihx.chain d k j (by omega) s1 hj (by omega) f1
     exact ⟨a, k0, m, g1, g2, g3⟩
    | true =>
     rw [hb] at s1 f1 hd
     have hp := ihx.par true d k (by simp) (by omega) s1
     exact ⟨x, _, 0, binP_only hp j (by omega) f1, by omega, fun n => by rw [Nat.zero_add]⟩
   have right : binP l (singleP l d) j (k + (parK (innerB op 0 x.op) (exprToks x)).length + 1) = .ok y (k + (parK (innerB op 0 x.op) (exprToks x)).length + 1 + (parK (innerB op 1 y.op) (exprToks y)).length) := by
    cases hb : innerB op 1 y.op with
    | false =>
     rw [hb] at s3 hf
     have := inner_no hb
     exact ihy.bin d _ j (by omega) s3 (by omega) (by omega) (by have e : parK false (exprToks y) = exprToks y := rfl; rw [e] at hf; simpa [Nat.add_assoc] using hf)
    | true =>
     rw [hb] at s3 hf hd
     have hp := ihy.par true d _ (by simp) (by omega) s3
     exact binP_only hp j (by omega) (by simpa [Nat.add_assoc] using hf)
   obtain ⟨a, k0, m, g1, g2, g3⟩ := left
   refine ⟨a, k0, m + 1, g1, by omega, fun n => ?_⟩
   rw [Nat.add_assoc, g3 (1 + n), Nat.add_comm 1 n]
   conv => lhs; unfold loopP
   have hc : (tokAt l (k + (parK (innerB op 0 x.op) (exprToks x)).length)).kind = 4 ∧ (binOp (tokAt l (k + (parK (innerB op 0 x.op) (exprToks x)).length)).text).2 = 5 - j := by
    rw [(sg_kind t1).1, (sg_kind t1).2, b2]; exact ⟨rfl, by omega⟩
   rw [if_pos hc, right, (sg_kind t1).2, b1, show ((op.toNat : Nat) : Int) = op by omega]
   simp only [Nat.add_assoc]
end
theorem VE.parse {e : AExpr} (h : VE e) (hh : heightN e ≤ 24) {l : List Tok} {k : Nat} (hs : Seg l k (exprToks e)) (hf : Fol l (k + (exprToks e).length) 1) : exprP l k = .ok e (k + (exprToks e).length) :=
 h.reads.bin 24 k 5 hh hs (Nat.le_refl _) (by omega) hf
end Go.Proofs.YtflcnehhpmjipaaGreatDoor
namespace Go.Proofs.YtflcnehhpmjipaaGreatDoor
def nmT (s : ByteArray) : PT := ⟨1, s, 0⟩
def VX (e : AExpr) : Prop := VE e ∧ heightN e ≤ 24
inductive VR : ARef → Prop where
 | one (n : ByteArray) (h : nameB n = true) : VR ⟨n, []⟩
 | el (n : ByteArray) (e : AExpr) (h : nameB n = true) (he : VX e) : VR ⟨n, [e]⟩
inductive VA : AArg → Prop where
 | mutex (r : ARef) (h : VR r) : VA ⟨true, r, .zero⟩
 | expr (e : AExpr) (h : VX e) : VA ⟨false, .zero, e⟩
def refToks (r : ARef) : List PT := match r.index with | [] => [nmT r.name] | e :: _ => nmT r.name :: sgn [91] :: (exprToks e ++ [sgn [93]])
def argK (a : AArg) : List PT := if a.mutex then wrd [109, 117, 116, 101, 120] :: refToks a.ref else exprToks a.expr
section
variable {r : List UInt8} {ps : List PT}
theorem Lx.nl (h : Lx r ps) : Lx (10 :: r) ps := h.sp (by decide)
theorem Lx.semi (h : Lx r ps) : Lx (59 :: 10 :: r) (sgn [59] :: ps) := h.nl.free 59 (by decide)
theorem Lx.kw (h : Lx r ps) (s : List UInt8) (hs : reserved (bytes s) = true) : Lx (s ++ 32 :: r) (wrd s :: ps) := h.bl.word s hs (.cons (by decide))
end
section
variable {l : List Tok} {k : Nat}
theorem Seg.len {ps : List PT} (h : Seg l k ps) (hk : k ≤ l.length) : k + ps.length ≤ l.length := by
 obtain ⟨t, ht⟩ := h
 have := congrArg List.length ht
 simp at this; omega
theorem sign_yes {s : List UInt8} (h : (tokAt l k).pt = sgn s) : signAt l k s = true := by rw [signAt_pt h]; simp
theorem want_yes {s : List UInt8} (h : (tokAt l k).pt = sgn s) : wantP l s k = .ok () (k + 1) := by unfold wantP; rw [if_pos (sign_yes h)]
theorem word_pt {s : List UInt8} (h : (tokAt l k).pt = wrd s) (u : List UInt8) : wordAt l k u = decide (bytes s = bytes u) := by
 have h1 : (tokAt l k).kind = 3 := congrArg PT.kind h
 have h2 : (tokAt l k).text = bytes s := congrArg PT.text h
 unfold wordAt; rw [h1, h2]; simp
theorem word_no {t : PT} (h : (tokAt l k).pt = t) (ht : t.kind ≠ 3) (u : List UInt8) : wordAt l k u = false := by
 have h1 : (tokAt l k).kind = t.kind := congrArg PT.kind h
 unfold wordAt; rw [h1, decide_eq_false ht]; rfl
theorem sign_no {t : PT} (h : (tokAt l k).pt = t) (ht : t.kind ≠ 4) (u : List UInt8) : signAt l k u = false := by
 have h1 : (tokAt l k).kind = t.kind := congrArg PT.kind h
 unfold signAt; rw [h1, decide_eq_false ht]; rfl
theorem name_yes {s : ByteArray} (h : (tokAt l k).pt = nmT s) : nameP l k = .ok s (k + 1) := by
 have h1 : (tokAt l k).kind = 1 := congrArg PT.kind h
 have h2 : (tokAt l k).text = s := congrArg PT.text h
 unfold nameP; rw [if_pos h1, h2]
theorem VX.parse {e : AExpr} (h : VX e) {s : List UInt8} {q : List PT} (hs : Seg l k (exprToks e ++ sgn s :: q)) (hb : (binOp (bytes s)).2 = 0) : exprP l k = .ok e (k + (exprToks e).length) ∧ Seg l (k + (exprToks e).length) (sgn s :: q) := by
 obtain ⟨h1, h2⟩ := hs.app
 exact ⟨h.1.parse h.2 h1 (fol_sign h2.head.1 (by omega)), h2⟩
theorem VR.parse {f : ARef} (h : VR f) {s : List UInt8} {q : List PT} (hs : Seg l k (refToks f ++ sgn s :: q)) (ht : decide (bytes s = bytes [91]) = false) : refP l k = .ok f (k + (refToks f).length) ∧ Seg l (k + (refToks f).length) (sgn s :: q) := by
 cases h with
 | one n h =>
  have hs' : Seg l k (nmT n :: sgn s :: q) := hs
  obtain ⟨h1, _, h2⟩ := hs'.head
  refine ⟨?_, h2⟩
  unfold refP
  rw [name_yes h1, bind_ok]
  unfold refTail
  rw [if_neg]; · rfl
  rw [signAt_pt h2.head.1, ht]; simp
 | el n e h he =>
  have hs' : Seg l k (nmT n :: sgn [91] :: (exprToks e ++ sgn [93] :: sgn s :: q)) := by simpa [refToks] using hs
  obtain ⟨h1, _, h2⟩ := hs'.head
  obtain ⟨h3, _, h4⟩ := h2.head
  obtain ⟨h5, h6⟩ := he.parse h4 (by decide)
  obtain ⟨h7, _, h8⟩ := h6.head
  have hl : k + (refToks ⟨n, [e]⟩).length = k + 1 + 1 + (exprToks e).length + 1 := by simp [refToks]; omega
  rw [hl]
  refine ⟨?_, h8⟩
  unfold refP
  rw [name_yes h1, bind_ok]
  unfold refTail
  rw [if_pos (sign_yes h3), h5, bind_ok, want_yes h7, bind_ok]
def BegT (t : PT) : Prop := t.kind = 1 ∨ t.kind = 2 ∨ ∃ c, t = sgn [c] ∧ c ∈ ([45, 33, 40] : List UInt8)
theorem BegT.word {t : PT} (h : BegT t) : t.kind ≠ 3 := by
 rcases h with h | h | ⟨c, rfl, _⟩
 ·omega
 ·omega
 ·show (4 : Nat) ≠ 3; omega
theorem VE.beg {e : AExpr} (h : VE e) : ∃ t q, exprToks e = t :: q ∧ BegT t := by
 induction h with
 | num n h => exact ⟨_, _, toks_num n, .inr (.inl rfl)⟩
 | name s h => exact ⟨_, _, toks_name s, .inl rfl⟩
 | un op x h hx ih =>
  refine ⟨_, _, toks_un h x, .inr (.inr ⟨_, rfl, ?_⟩)⟩
  rcases h with rfl | rfl <;> decide
 | bin op x y h hx hy ihx ihy =>
  rw [toks_bin h]
  cases innerB op 0 x.op with
  | true => exact ⟨_, _, rfl, .inr (.inr ⟨40, rfl, by decide⟩)⟩
  | false =>
   obtain ⟨t, q, h1, h2⟩ := ihx
   exact ⟨t, _, by show exprToks x ++ _ = _; rw [h1]; rfl, h2⟩
theorem VA.parse {a : AArg} (h : VA a) {s : List UInt8} {q : List PT} (hs : Seg l k (argK a ++ sgn s :: q)) (ht : decide (bytes s = bytes [91]) = false) (hb : (binOp (bytes s)).2 = 0) : argP l k = .ok a (k + (argK a).length) := by
 cases h with
 | mutex f h =>
  have hs' : Seg l k (wrd [109, 117, 116, 101, 120] :: (refToks f ++ sgn s :: q)) := hs
  obtain ⟨h1, _, h2⟩ := hs'.head
  unfold argP
  rw [if_pos (by rw [word_pt h1]; simp), (h.parse h2 ht).1, bind_ok]
  congr 1
  simp [argK]; omega
 | expr e h =>
  have hs' : Seg l k (exprToks e ++ sgn s :: q) := hs
  obtain ⟨t, q', h1, h2⟩ := h.1.beg
  have h3 : Seg l k (t :: (q' ++ sgn s :: q)) := by rw [h1] at hs'; exact hs'
  unfold argP
  rw [if_neg (by rw [word_no h3.head.1 h2.word]; simp), (h.parse hs' hb).1, bind_ok]
  rfl
theorem VA.beg {a : AArg} (h : VA a) : ∃ t q, argK a = t :: q ∧ (t.kind = 3 ∨ BegT t) := by
 cases h with
 | mutex f h => exact ⟨_, _, rfl, .inl rfl⟩
 | expr e h =>
  obtain ⟨t, q, h1, h2⟩ := h.1.beg
  exact ⟨t, q, h1, .inr h2⟩
end
end Go.Proofs.YtflcnehhpmjipaaGreatDoor
