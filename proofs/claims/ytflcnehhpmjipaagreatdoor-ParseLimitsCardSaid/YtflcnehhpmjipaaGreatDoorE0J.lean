import Derived.Test.YtflcnehhpmjipaaGreatDoorB1J
import Derived.Test.YtflcnehhpmjipaaGreatDoorA3J
set_option linter.unusedVariables false
set_option linter.unusedSimpArgs false
namespace Go.Proofs.YtflcnehhpmjipaaGreatDoor
inductive PRes (α : Type) where
 | ok (x : α) (k : Nat)
 | err (k e : Nat)
def tokAt (l : List Tok) (k : Nat) : Tok := l.getD k default
theorem tokAt_lt {l : List Tok} {k : Nat} (h : k < l.length) : tokAt l k = l[k] := by unfold tokAt; rw [List.getD_eq_getElem?_getD, List.getElem?_eq_getElem h]; rfl
def binOp (s : ByteArray) : Nat × Nat :=
 if s = bytes [124, 124] then (17, 1) else if s = bytes [38, 38] then (16, 2) else if s = bytes [61, 61] then (14, 3) else if s = bytes [33, 61] then (15, 3) else
 if s = bytes [60] then (10, 3) else if s = bytes [60, 61] then (11, 3) else if s = bytes [62] then (12, 3) else if s = bytes [62, 61] then (13, 3) else
 if s = bytes [43] then (8, 4) else if s = bytes [45] then (9, 4) else if s = bytes [42] then (5, 5) else if s = bytes [47] then (6, 5) else if s = bytes [37] then (7, 5) else (0, 0)
def signAt (l : List Tok) (k : Nat) (s : List UInt8) : Bool := decide ((tokAt l k).kind = 4) && decide ((tokAt l k).text = bytes s)
def loopP (l : List Tok) (sub : Nat → PRes AExpr) (level : Nat) : Nat → AExpr → Nat → PRes AExpr
 | 0, x, k => .ok x k
 | n + 1, x, k =>
  if (tokAt l k).kind = 4 ∧ (binOp (tokAt l k).text).2 = level then
   match sub (k + 1) with
   | .ok y k' => loopP l sub level n (.mk ((binOp (tokAt l k).text).1 : Int) 0 emptyB [x, y]) k'
   | .err a e => .err a e
  else .ok x k
def binP (l : List Tok) (single : Nat → PRes AExpr) : Nat → Nat → PRes AExpr
 | 0, k => single k
 | j + 1, k =>
  match binP l single j k with
  | .ok x k' => loopP l (binP l single j) (5 - j) (l.length + 1) x k'
  | .err a e => .err a e
def negP (op : Int) : PRes AExpr → PRes AExpr
 | .ok x k => .ok (.mk op 0 emptyB [x]) k
 | .err a e => .err a e
def parP (l : List Tok) : PRes AExpr → PRes AExpr
 | .ok x k => if signAt l k [41] then .ok x (k + 1) else .err k 4
 | .err a e => .err a e
def singleP (l : List Tok) : Nat → Nat → PRes AExpr
 | 0, k =>
  if (tokAt l k).kind = 2 then .ok (.mk 1 (tokAt l k).num emptyB []) (k + 1)
  else if (tokAt l k).kind = 1 then .ok (.mk 2 0 (tokAt l k).text []) (k + 1)
  else if signAt l k [45] || signAt l k [33] || signAt l k [40] then .err k 3
  else .err k 4
 | d + 1, k =>
  if (tokAt l k).kind = 2 then .ok (.mk 1 (tokAt l k).num emptyB []) (k + 1)
  else if (tokAt l k).kind = 1 then .ok (.mk 2 0 (tokAt l k).text []) (k + 1)
  else if signAt l k [45] then negP 3 (singleP l d (k + 1))
  else if signAt l k [33] then negP 4 (singleP l d (k + 1))
  else if signAt l k [40] then parP l (binP l (singleP l d) 5 (k + 1))
  else .err k 4
def exprP (l : List Tok) (k : Nat) : PRes AExpr := binP l (singleP l 24) 5 k
def EndAt (l : List Tok) : Prop := ∃ h : 0 < l.length, (l[l.length - 1]'(by omega)).kind = 5
theorem EndAt.more {l : List Tok} (h : EndAt l) {k : Nat} (hk : k < l.length) (hn : (tokAt l k).kind ≠ 5) : k + 1 < l.length := by
 obtain ⟨h0, h1⟩ := h
 rcases Nat.lt_or_ge (k + 1) l.length with h | h
 ·exact h
 ·exfalso; apply hn; rw [tokAt_lt hk]; obtain rfl : k = l.length - 1 := by omega
  exact h1
theorem signAt_kind {l : List Tok} {k : Nat} {s : List UInt8} (h : signAt l k s = true) : (tokAt l k).kind = 4 ∧ (tokAt l k).text = bytes s := by simpa [signAt] using h
def PRes.In {α : Type} (l : List Tok) (k : Nat) : PRes α → Prop
 | .ok _ k' => k < k' ∧ k' < l.length
 | .err a e => k ≤ a ∧ a < l.length ∧ 0 < e ∧ e < 16
theorem PRes.In.mono {α : Type} {l : List Tok} {k j : Nat} {r : PRes α} (h : r.In l k) (hj : j ≤ k) : r.In l j := by
 cases r <;> unfold PRes.In at h ⊢ <;> omega
theorem loopP_in {l : List Tok} (hl : EndAt l) {sub : Nat → PRes AExpr} {level : Nat} (hs : ∀ k, k < l.length → (sub k).In l k) : ∀ (n : Nat) (x : AExpr) (k j : Nat), j < k → k < l.length → (loopP l sub level n x k).In l j
 | 0, x, k, j, hj, hk => by unfold loopP; exact ⟨hj, hk⟩
 | n + 1, x, k, j, hj, hk => by
  unfold loopP
  by_cases ht : (tokAt l k).kind = 4 ∧ (binOp (tokAt l k).text).2 = level
  ·rw [if_pos ht]
   have hm := hl.more hk (by omega)
   have h1 := hs (k + 1) hm
   cases hr : sub (k + 1) with
   | ok y k' =>
    rw [hr] at h1
    obtain ⟨h2, h3⟩ := h1
    exact loopP_in hl hs n _ k' j (by omega) h3
   | err a e =>
    rw [hr] at h1
    obtain ⟨h2, h3, h4, h5⟩ := h1
    exact ⟨by omega, h3, h4, h5⟩
  ·rw [if_neg ht]; exact ⟨hj, hk⟩
theorem binP_in {l : List Tok} (hl : EndAt l) {single : Nat → PRes AExpr} (hs : ∀ k, k < l.length → (single k).In l k) : ∀ (j k : Nat), k < l.length → (binP l single j k).In l k
 | 0, k, hk => by unfold binP; exact hs k hk
 | j + 1, k, hk => by
  unfold binP
  have h1 := binP_in hl hs j k hk
  cases hr : binP l single j k with
  | ok x k' =>
   rw [hr] at h1
   exact loopP_in hl (fun k hk => binP_in hl hs j k hk) _ _ _ _ h1.1 h1.2
  | err a e => rw [hr] at h1; exact h1
theorem negP_in {l : List Tok} {op : Int} {k j : Nat} {r : PRes AExpr} (h : r.In l k) (hj : j ≤ k) : (negP op r).In l j := by
 cases r with
 | ok x k' => obtain ⟨h1, h2⟩ := h; exact ⟨by omega, h2⟩
 | err a e => obtain ⟨h1, h2, h3, h4⟩ := h; exact ⟨by omega, h2, h3, h4⟩
theorem parP_in {l : List Tok} (hl : EndAt l) {k j : Nat} {r : PRes AExpr} (h : r.In l k) (hj : j ≤ k) : (parP l r).In l j := by
 cases r with
 | ok x k' =>
  obtain ⟨h1, h2⟩ := h
  show PRes.In l j (if signAt l k' [41] then .ok x (k' + 1) else .err k' 4)
  by_cases hs : signAt l k' [41] = true
  ·rw [if_pos hs]; exact ⟨by omega, hl.more h2 (by rw [(signAt_kind hs).1]; decide)⟩
  ·rw [if_neg hs]; exact ⟨by omega, h2, by omega, by omega⟩
 | err a e => obtain ⟨h1, h2, h3, h4⟩ := h; exact ⟨by omega, h2, h3, h4⟩
theorem singleP_in {l : List Tok} (hl : EndAt l) : ∀ (d k : Nat), k < l.length → (singleP l d k).In l k
 | 0, k, hk => by
  unfold singleP
  by_cases h1 : (tokAt l k).kind = 2
  ·rw [if_pos h1]; exact ⟨by omega, hl.more hk (by omega)⟩
  ·rw [if_neg h1]
   by_cases h2 : (tokAt l k).kind = 1
   ·rw [if_pos h2]; exact ⟨by omega, hl.more hk (by omega)⟩
   ·rw [if_neg h2]; split <;> exact ⟨by omega, hk, by omega, by omega⟩
 | d + 1, k, hk => by
  unfold singleP
  by_cases h1 : (tokAt l k).kind = 2
  ·rw [if_pos h1]; exact ⟨by omega, hl.more hk (by omega)⟩
  ·rw [if_neg h1]
   by_cases h2 : (tokAt l k).kind = 1
   ·rw [if_pos h2]; exact ⟨by omega, hl.more hk (by omega)⟩
   ·rw [if_neg h2]
    by_cases h3 : signAt l k [45] = true
    ·rw [if_pos h3]; exact negP_in (singleP_in hl d _ (hl.more hk (by rw [(signAt_kind h3).1]; decide))) (by omega)
    ·rw [if_neg h3]
     by_cases h4 : signAt l k [33] = true
     ·rw [if_pos h4]; exact negP_in (singleP_in hl d _ (hl.more hk (by rw [(signAt_kind h4).1]; decide))) (by omega)
     ·rw [if_neg h4]
      by_cases h5 : signAt l k [40] = true
      ·rw [if_pos h5]; exact parP_in hl (binP_in hl (fun k hk => singleP_in hl d k hk) _ _ (hl.more hk (by rw [(signAt_kind h5).1]; decide))) (by omega)
      ·rw [if_neg h5]; exact ⟨by omega, hk, by omega, by omega⟩
theorem exprP_in {l : List Tok} (hl : EndAt l) {k : Nat} (hk : k < l.length) : (exprP l k).In l k := binP_in hl (fun k hk => singleP_in hl 24 k hk) 5 k hk
end Go.Proofs.YtflcnehhpmjipaaGreatDoor
namespace Go.Proofs.YtflcnehhpmjipaaGreatDoor
def PRes.bind {α β : Type} (r : PRes α) (f : α → Nat → PRes β) : PRes β :=
 match r with
 | .ok x k => f x k
 | .err a e => .err a e
theorem bind_ok {α β : Type} (x : α) (k : Nat) (f : α → Nat → PRes β) : PRes.bind (.ok x k) f = f x k := rfl
theorem bind_err {α β : Type} (a e : Nat) (f : α → Nat → PRes β) : PRes.bind (.err a e : PRes α) f = .err a e := rfl
def wordAt (l : List Tok) (k : Nat) (s : List UInt8) : Bool := decide ((tokAt l k).kind = 3) && decide ((tokAt l k).text = bytes s)
def nameP (l : List Tok) (k : Nat) : PRes ByteArray := if (tokAt l k).kind = 1 then .ok (tokAt l k).text (k + 1) else .err k 4
def numP (l : List Tok) (k : Nat) : PRes Nat := if (tokAt l k).kind = 2 then .ok (tokAt l k).num (k + 1) else .err k 4
def wantP (l : List Tok) (s : List UInt8) (k : Nat) : PRes Unit := if signAt l k s then .ok () (k + 1) else .err k 4
def refTail (l : List Tok) (n : ByteArray) (k : Nat) : PRes ARef :=
 if signAt l k [91] then (exprP l (k + 1)).bind fun e k => (wantP l [93] k).bind fun _ k => .ok ⟨n, [e]⟩ k else .ok ⟨n, []⟩ k
def refP (l : List Tok) (k : Nat) : PRes ARef := (nameP l k).bind (refTail l)
def argP (l : List Tok) (k : Nat) : PRes AArg :=
 if wordAt l k [109, 117, 116, 101, 120] then (refP l (k + 1)).bind fun r k => .ok ⟨true, r, .zero⟩ k
 else (exprP l k).bind fun e k => .ok ⟨false, .zero, e⟩ k
def listP {α : Type} (l : List Tok) (el : Nat → Nat → PRes α) : Nat → List α → Nat → PRes (List α)
 | 0, _, k => .err k 4
 | n + 1, acc, k => (el acc.length k).bind fun x k => if signAt l k [44] then listP l el n (acc ++ [x]) (k + 1) else (wantP l [41] k).bind fun _ k => .ok (acc ++ [x]) k
def parensP {α : Type} (l : List Tok) (el : Nat → Nat → PRes α) (k : Nat) : PRes (List α) :=
 (wantP l [40] k).bind fun _ k => if signAt l k [41] then .ok [] (k + 1) else listP l el l.length [] k
def argsP (l : List Tok) (k : Nat) : PRes (List AArg) := parensP l (fun _ => argP l) k
def semi (l : List Tok) (s : AStmt) (k : Nat) : PRes AStmt := (wantP l [59] k).bind fun _ k => .ok s k
def localP (l : List Tok) (k : Nat) : PRes AStmt := (nameP l k).bind fun n k => (wantP l [61] k).bind fun _ k => (exprP l k).bind fun e k => semi l (.mk 1 n e .zero [] [] []) k
def goP (l : List Tok) (k : Nat) : PRes AStmt := (nameP l k).bind fun n k => (argsP l k).bind fun a k => semi l (.mk 4 n .zero .zero a [] []) k
def lockP (l : List Tok) (kind : Int) (k : Nat) : PRes AStmt := (refP l k).bind fun r k => semi l (.mk kind emptyB .zero r [] [] []) k
def elseP (l : List Tok) (blk : Nat → PRes (List AStmt)) (e : AExpr) (t : List AStmt) (k : Nat) : PRes AStmt :=
 if wordAt l k [101, 108, 115, 101] then (blk (k + 1)).bind fun f k => .ok (.mk 7 emptyB e .zero [] t f) k else .ok (.mk 7 emptyB e .zero [] t []) k
def ifP (l : List Tok) (blk : Nat → PRes (List AStmt)) (k : Nat) : PRes AStmt := (exprP l k).bind fun e k => (blk k).bind fun t k => elseP l blk e t k
def whileP (l : List Tok) (blk : Nat → PRes (List AStmt)) (k : Nat) : PRes AStmt := (exprP l k).bind fun e k => (blk k).bind fun t k => .ok (.mk 8 emptyB e .zero [] t []) k
def retP (l : List Tok) (k : Nat) : PRes AStmt := semi l (.mk 9 emptyB .zero .zero [] [] []) k
def namedTail (l : List Tok) (n : ByteArray) (k : Nat) : PRes AStmt :=
 if signAt l k [61] then (exprP l (k + 1)).bind fun e k => semi l (.mk 2 n e .zero [] [] []) k else (argsP l k).bind fun a k => semi l (.mk 3 n .zero .zero a [] []) k
def namedP (l : List Tok) (k : Nat) : PRes AStmt := (nameP l k).bind (namedTail l)
def stmtP (l : List Tok) (blk : Nat → PRes (List AStmt)) (k : Nat) : PRes AStmt :=
 if wordAt l k [118, 97, 114] then localP l (k + 1)
 else if wordAt l k [103, 111] then goP l (k + 1)
 else if wordAt l k [108, 111, 99, 107] then lockP l 5 (k + 1)
 else if wordAt l k [117, 110, 108, 111, 99, 107] then lockP l 6 (k + 1)
 else if wordAt l k [105, 102] then ifP l blk (k + 1)
 else if wordAt l k [119, 104, 105, 108, 101] then whileP l blk (k + 1)
 else if wordAt l k [114, 101, 116, 117, 114, 110] then retP l (k + 1)
 else namedP l k
def stmtsP (l : List Tok) (st : Nat → PRes AStmt) : Nat → List AStmt → Nat → PRes (List AStmt)
 | 0, _, k => .err k 4
 | n + 1, acc, k => if signAt l k [125] then .ok acc (k + 1) else (st k).bind fun s k => stmtsP l st n (acc ++ [s]) k
def blockP (l : List Tok) : Nat → Nat → PRes (List AStmt)
 | 0, k => if signAt l k [123] then .err k 3 else .err k 4
 | d + 1, k => (wantP l [123] k).bind fun _ k => stmtsP l (stmtP l (blockP l d)) l.length [] k
def globalP (l : List Tok) (k : Nat) : PRes AGlobal :=
 (nameP l k).bind fun n k =>
  if signAt l k [61] then
   if signAt l (k + 1) [45] then (numP l (k + 2)).bind fun i k => (wantP l [59] k).bind fun _ k => .ok ⟨n, -(i : Int)⟩ k
   else (numP l (k + 1)).bind fun i k => (wantP l [59] k).bind fun _ k => .ok ⟨n, i⟩ k
  else (wantP l [59] k).bind fun _ k => .ok ⟨n, 0⟩ k
def sizeP (l : List Tok) (k : Nat) : PRes Nat := (numP l k).bind fun i k' => if i < 1 ∨ 64 < i then .err k 3 else .ok i k'
def mutexP (l : List Tok) (re : Bool) (k : Nat) : PRes AMutex :=
 (nameP l k).bind fun n k =>
  if re = false ∧ signAt l k [91] = true then (sizeP l (k + 1)).bind fun i k => (wantP l [93] k).bind fun _ k => (wantP l [59] k).bind fun _ k => .ok ⟨n, re, i⟩ k
  else (wantP l [59] k).bind fun _ k => .ok ⟨n, re, 0⟩ k
def paramP (l : List Tok) (n k : Nat) : PRes AParam :=
 if 6 ≤ n ∧ ((tokAt l k).kind = 1 ∨ wordAt l k [109, 117, 116, 101, 120] = true) then .err k 3
 else if wordAt l k [109, 117, 116, 101, 120] then (nameP l (k + 1)).bind fun s k => .ok ⟨s, true⟩ k else (nameP l k).bind fun s k => .ok ⟨s, false⟩ k
def funcP (l : List Tok) (k : Nat) : PRes AFunc := (nameP l k).bind fun n k => (parensP l (paramP l) k).bind fun p k => (blockP l 24 k).bind fun b k => .ok ⟨n, p, b⟩ k
def declP (l : List Tok) (x : AProg) (k : Nat) : PRes AProg :=
 if wordAt l k [118, 97, 114] then if 16 ≤ x.globals.length then .err k 3 else (globalP l (k + 1)).bind fun g k => .ok { x with globals := x.globals ++ [g] } k
 else if wordAt l k [109, 117, 116, 101, 120] then if 12 ≤ x.mutexes.length then .err k 3 else (mutexP l false (k + 1)).bind fun m k => .ok { x with mutexes := x.mutexes ++ [m] } k
 else if wordAt l k [114, 109, 117, 116, 101, 120] then if 12 ≤ x.mutexes.length then .err k 3 else (mutexP l true (k + 1)).bind fun m k => .ok { x with mutexes := x.mutexes ++ [m] } k
 else if wordAt l k [102, 117, 110, 99] then if 16 ≤ x.funcs.length then .err k 3 else (funcP l (k + 1)).bind fun f k => .ok { x with funcs := x.funcs ++ [f] } k
 else .err k 4
def progP (l : List Tok) : Nat → AProg → Nat → PRes AProg
 | 0, _, k => .err k 4
 | n + 1, x, k => if (tokAt l k).kind = 5 then .ok x k else (declP l x k).bind fun y k => progP l n y k
def programP (l : List Tok) : PRes AProg := progP l l.length ⟨[], [], []⟩ 0
theorem wordAt_kind {l : List Tok} {k : Nat} {s : List UInt8} (h : wordAt l k s = true) : (tokAt l k).kind = 3 ∧ (tokAt l k).text = bytes s := by simpa [wordAt] using h
def PRes.At {α : Type} (l : List Tok) (k : Nat) : PRes α → Prop
 | .ok _ k' => k ≤ k' ∧ k' < l.length
 | .err a e => k ≤ a ∧ a < l.length ∧ 0 < e ∧ e < 16
theorem PRes.In.at {α : Type} {l : List Tok} {k : Nat} {r : PRes α} (h : r.In l k) : r.At l k := by
 cases r <;> unfold PRes.In at h <;> unfold PRes.At <;> omega
theorem PRes.At.mono {α : Type} {l : List Tok} {k j : Nat} {r : PRes α} (h : r.At l k) (hj : j ≤ k) : r.At l j := by
 cases r <;> unfold PRes.At at h ⊢ <;> omega
theorem PRes.At.in {α : Type} {l : List Tok} {k j : Nat} {r : PRes α} (h : r.At l k) (hj : j < k) : r.In l j := by
 cases r <;> unfold PRes.At at h <;> unfold PRes.In <;> omega
theorem PRes.In.bind {α β : Type} {l : List Tok} {k : Nat} {r : PRes α} {f : α → Nat → PRes β} (h : r.In l k) (hf : ∀ x k', k < k' → k' < l.length → (f x k').At l k') : (r.bind f).In l k := by
 cases r with
 | ok x k' => unfold PRes.In at h; exact (hf x k' h.1 h.2).in h.1
 | err a e => exact h
theorem PRes.At.bind {α β : Type} {l : List Tok} {k : Nat} {r : PRes α} {f : α → Nat → PRes β} (h : r.At l k) (hf : ∀ x k', k ≤ k' → k' < l.length → (f x k').At l k') : (r.bind f).At l k := by
 cases r with
 | ok x k' => unfold PRes.At at h; exact (hf x k' h.1 h.2).mono h.1
 | err a e => exact h
theorem ok_at {α : Type} {l : List Tok} {k : Nat} {x : α} (hk : k < l.length) : (PRes.ok x k).At l k := ⟨Nat.le_refl _, hk⟩
theorem err4_in {α : Type} {l : List Tok} {k : Nat} (hk : k < l.length) : (PRes.err k 4 : PRes α).In l k := ⟨Nat.le_refl _, hk, by omega, by omega⟩
theorem err3_in {α : Type} {l : List Tok} {k : Nat} (hk : k < l.length) : (PRes.err k 3 : PRes α).In l k := ⟨Nat.le_refl _, hk, by omega, by omega⟩
section
variable {l : List Tok} (hl : EndAt l)
include hl
theorem nameP_in {k : Nat} (hk : k < l.length) : (nameP l k).In l k := by
 unfold nameP; split
 ·exact ⟨by omega, hl.more hk (by omega)⟩
 ·exact err4_in hk
theorem numP_in {k : Nat} (hk : k < l.length) : (numP l k).In l k := by
 unfold numP; split
 ·exact ⟨by omega, hl.more hk (by omega)⟩
 ·exact err4_in hk
theorem sign_more {k : Nat} {s : List UInt8} (hk : k < l.length) (h : signAt l k s = true) : k + 1 < l.length := hl.more hk (by rw [(signAt_kind h).1]; decide)
theorem word_more {k : Nat} {s : List UInt8} (hk : k < l.length) (h : wordAt l k s = true) : k + 1 < l.length := hl.more hk (by rw [(wordAt_kind h).1]; decide)
theorem wantP_in {k : Nat} (s : List UInt8) (hk : k < l.length) : (wantP l s k).In l k := by
 unfold wantP; split
 ·rename_i h; exact ⟨by omega, sign_more hl hk h⟩
 ·exact err4_in hk
theorem refTail_at {n : ByteArray} {k : Nat} (hk : k < l.length) : (refTail l n k).At l k := by
 unfold refTail; split
 ·rename_i h
  exact (((exprP_in hl (sign_more hl hk h)).bind fun _ _ _ hk => ((wantP_in hl _ hk).bind fun _ _ _ hk => ok_at hk).at).at).mono (by omega)
 ·exact ok_at hk
theorem refP_in {k : Nat} (hk : k < l.length) : (refP l k).In l k := (nameP_in hl hk).bind fun _ _ _ hk => refTail_at hl hk
theorem argP_in {k : Nat} (hk : k < l.length) : (argP l k).In l k := by
 unfold argP; split
 ·rename_i h
  exact (((refP_in hl (word_more hl hk h)).bind fun _ _ _ hk => ok_at hk).at).in (by omega)
 ·exact (exprP_in hl hk).bind fun _ _ _ hk => ok_at hk
theorem listP_in {α : Type} {el : Nat → Nat → PRes α} (he : ∀ n k, k < l.length → (el n k).In l k) : ∀ (n : Nat) (acc : List α) (k : Nat), k < l.length → (listP l el n acc k).In l k
 | 0, _, k, hk => by unfold listP; exact err4_in hk
 | n + 1, acc, k, hk => by
  unfold listP
  refine (he acc.length k hk).bind fun x k' _ hk' => ?_
  split
  ·rename_i h
   exact (listP_in he n _ (k' + 1) (sign_more hl hk' h)).at.mono (by omega)
  ·exact ((wantP_in hl _ hk').bind fun _ _ _ hk => ok_at hk).at
theorem parensP_in {α : Type} {el : Nat → Nat → PRes α} (he : ∀ n k, k < l.length → (el n k).In l k) {k : Nat} (hk : k < l.length) : (parensP l el k).In l k := by
 unfold parensP
 refine (wantP_in hl _ hk).bind fun x k' _ hk' => ?_
 split
 ·rename_i h
  exact (ok_at (sign_more hl hk' h)).mono (by omega)
 ·exact (listP_in hl he _ _ _ hk').at
theorem argsP_in {k : Nat} (hk : k < l.length) : (argsP l k).In l k := parensP_in hl (fun _ _ hk => argP_in hl hk) hk
theorem semi_in {s : AStmt} {k : Nat} (hk : k < l.length) : (semi l s k).In l k := (wantP_in hl _ hk).bind fun _ _ _ hk => ok_at hk
theorem localP_in {k : Nat} (hk : k < l.length) : (localP l k).In l k :=
 (nameP_in hl hk).bind fun _ _ _ hk => ((wantP_in hl _ hk).bind fun _ _ _ hk => ((exprP_in hl hk).bind fun _ _ _ hk => (semi_in hl hk).at).at).at
theorem goP_in {k : Nat} (hk : k < l.length) : (goP l k).In l k := (nameP_in hl hk).bind fun _ _ _ hk => ((argsP_in hl hk).bind fun _ _ _ hk => (semi_in hl hk).at).at
theorem lockP_in {kd : Int} {k : Nat} (hk : k < l.length) : (lockP l kd k).In l k := (refP_in hl hk).bind fun _ _ _ hk => (semi_in hl hk).at
theorem namedTail_at {n : ByteArray} {k : Nat} (hk : k < l.length) : (namedTail l n k).At l k := by
 unfold namedTail; split
 ·rename_i h
  exact (((exprP_in hl (sign_more hl hk h)).bind fun _ _ _ hk => (semi_in hl hk).at).at).mono (by omega)
 ·exact ((argsP_in hl hk).bind fun _ _ _ hk => (semi_in hl hk).at).at
theorem namedP_in {k : Nat} (hk : k < l.length) : (namedP l k).In l k := (nameP_in hl hk).bind fun _ _ _ hk => namedTail_at hl hk
section
variable {blk : Nat → PRes (List AStmt)} (hb : ∀ k, k < l.length → (blk k).In l k)
include hb
theorem elseP_at {e : AExpr} {t : List AStmt} {k : Nat} (hk : k < l.length) : (elseP l blk e t k).At l k := by
 unfold elseP; split
 ·rename_i h
  exact (((hb _ (word_more hl hk h)).bind fun _ _ _ hk => ok_at hk).at).mono (by omega)
 ·exact ok_at hk
theorem ifP_in {k : Nat} (hk : k < l.length) : (ifP l blk k).In l k := (exprP_in hl hk).bind fun _ _ _ hk => ((hb _ hk).bind fun _ _ _ hk => elseP_at hl hb hk).at
theorem whileP_in {k : Nat} (hk : k < l.length) : (whileP l blk k).In l k := (exprP_in hl hk).bind fun _ _ _ hk => ((hb _ hk).bind fun _ _ _ hk => ok_at hk).at
theorem stmtP_in {k : Nat} (hk : k < l.length) : (stmtP l blk k).In l k := by
 unfold stmtP
 split; · rename_i h; exact (localP_in hl (word_more hl hk h)).mono (by omega)
 split; · rename_i h; exact (goP_in hl (word_more hl hk h)).mono (by omega)
 split; · rename_i h; exact (lockP_in hl (word_more hl hk h)).mono (by omega)
 split; · rename_i h; exact (lockP_in hl (word_more hl hk h)).mono (by omega)
 split; · rename_i h; exact (ifP_in hl hb (word_more hl hk h)).mono (by omega)
 split; · rename_i h; exact (whileP_in hl hb (word_more hl hk h)).mono (by omega)
 split; · rename_i h; exact (semi_in hl (word_more hl hk h)).mono (by omega)
 exact namedP_in hl hk
end
theorem stmtsP_in {st : Nat → PRes AStmt} (hs : ∀ k, k < l.length → (st k).In l k) : ∀ (n : Nat) (acc : List AStmt) (k : Nat), k < l.length → (stmtsP l st n acc k).In l k
 | 0, _, k, hk => by unfold stmtsP; exact err4_in hk
 | n + 1, acc, k, hk => by
  unfold stmtsP; split
  ·rename_i h; exact ⟨by omega, sign_more hl hk h⟩
  ·exact (hs k hk).bind fun s k' _ hk' => (stmtsP_in hs n _ k' hk').at
theorem blockP_in : ∀ (d k : Nat), k < l.length → (blockP l d k).In l k
 | 0, k, hk => by unfold blockP; split; exact err3_in hk; exact err4_in hk
 | d + 1, k, hk => by
  unfold blockP
  exact (wantP_in hl _ hk).bind fun _ k' _ hk' => (stmtsP_in hl (fun k hk => stmtP_in hl (fun k hk => blockP_in d k hk) hk) _ _ _ hk').at
theorem globalP_in {k : Nat} (hk : k < l.length) : (globalP l k).In l k := by
 unfold globalP
 refine (nameP_in hl hk).bind fun _ k _ hk => ?_
 split
 ·rename_i h
  have h1 := sign_more hl hk h
  split
  ·rename_i h2
   have h3 := sign_more hl h1 h2
   exact (((numP_in hl h3).bind fun _ _ _ hk => ((wantP_in hl _ hk).bind fun _ _ _ hk => ok_at hk).at).at).mono (by omega)
  ·exact (((numP_in hl h1).bind fun _ _ _ hk => ((wantP_in hl _ hk).bind fun _ _ _ hk => ok_at hk).at).at).mono (by omega)
 ·exact ((wantP_in hl _ hk).bind fun _ _ _ hk => ok_at hk).at
theorem sizeP_in {k : Nat} (hk : k < l.length) : (sizeP l k).In l k := by
 unfold sizeP
 have h := numP_in hl hk
 cases hr : numP l k with
 | ok i k' =>
  rw [hr] at h
  show PRes.In l k (if i < 1 ∨ 64 < i then .err k 3 else .ok i k')
  split
  ·exact err3_in hk
  ·exact h
 | err a e => rw [hr] at h; exact h
theorem mutexP_in {re : Bool} {k : Nat} (hk : k < l.length) : (mutexP l re k).In l k := by
 unfold mutexP
 refine (nameP_in hl hk).bind fun _ k _ hk => ?_
 split
 ·rename_i h
  exact (((sizeP_in hl (sign_more hl hk h.2)).bind fun _ _ _ hk => ((wantP_in hl _ hk).bind fun _ _ _ hk => ((wantP_in hl _ hk).bind fun _ _ _ hk => ok_at hk).at).at).at).mono (by omega)
 ·exact ((wantP_in hl _ hk).bind fun _ _ _ hk => ok_at hk).at
theorem paramP_in {n k : Nat} (hk : k < l.length) : (paramP l n k).In l k := by
 unfold paramP; split
 ·exact err3_in hk
 ·split
  ·rename_i h
   exact (((nameP_in hl (word_more hl hk h)).bind fun _ _ _ hk => ok_at hk).at).in (by omega)
  ·exact (nameP_in hl hk).bind fun _ _ _ hk => ok_at hk
theorem funcP_in {k : Nat} (hk : k < l.length) : (funcP l k).In l k :=
 (nameP_in hl hk).bind fun _ _ _ hk => ((parensP_in hl (fun _ _ hk => paramP_in hl hk) hk).bind fun _ _ _ hk => ((blockP_in hl 24 _ hk).bind fun _ _ _ hk => ok_at hk).at).at
theorem declP_in {x : AProg} {k : Nat} (hk : k < l.length) : (declP l x k).In l k := by
 unfold declP
 split
 ·rename_i h; split
  ·exact err3_in hk
  ·exact (((globalP_in hl (word_more hl hk h)).bind fun _ _ _ hk => ok_at hk).at).in (by omega)
 split
 ·rename_i h; split
  ·exact err3_in hk
  ·exact (((mutexP_in hl (word_more hl hk h)).bind fun _ _ _ hk => ok_at hk).at).in (by omega)
 split
 ·rename_i h; split
  ·exact err3_in hk
  ·exact (((mutexP_in hl (word_more hl hk h)).bind fun _ _ _ hk => ok_at hk).at).in (by omega)
 split
 ·rename_i h; split
  ·exact err3_in hk
  ·exact (((funcP_in hl (word_more hl hk h)).bind fun _ _ _ hk => ok_at hk).at).in (by omega)
 exact err4_in hk
theorem progP_at : ∀ (n : Nat) (x : AProg) (k : Nat), k < l.length → (progP l n x k).At l k
 | 0, _, k, hk => by unfold progP; exact (err4_in hk).at
 | n + 1, x, k, hk => by
  unfold progP; split
  ·exact ok_at hk
  ·exact ((declP_in hl hk).bind fun y k' _ hk' => progP_at n y k' hk').at
end
end Go.Proofs.YtflcnehhpmjipaaGreatDoor
namespace Go.Proofs.YtflcnehhpmjipaaGreatDoor
def Run {α : Type} (e0 k0 : Nat) (r : PRes α) (x : α) (k e : Nat) : Prop :=
 (e0 ≠ 0 ∧ k = k0 ∧ e = e0) ∨ (e0 = 0 ∧ ((r = .ok x k ∧ e = 0) ∨ (r = .err k e ∧ e ≠ 0)))
section
variable {α β : Type} {e0 k0 k k2 e e2 : Nat} {r : PRes α} {x : α} {y : β}
theorem Run.skip (h : e0 ≠ 0) (r : PRes α) (x : α) : Run e0 k0 r x k0 e0 := .inl ⟨h, rfl, rfl⟩
theorem Run.ok (x : α) (k0 k : Nat) (h : r = .ok x k) : Run 0 k0 r x k 0 := .inr ⟨rfl, .inl ⟨h, rfl⟩⟩
theorem Run.err (x : α) (k0 k e : Nat) (h : r = .err k e) (he : e ≠ 0) : Run 0 k0 r x k e := .inr ⟨rfl, .inr ⟨h, he⟩⟩
theorem Run.pure (x : α) (k e : Nat) : Run e k (.ok x k) x k e := by
 by_cases h : e = 0
 ·subst h; exact .ok x k k rfl
 ·exact .skip h _ _
theorem Run.bind {f : α → Nat → PRes β} (h : Run e0 k0 r x k e) (h2 : Run e k (f x k) y k2 e2) : Run e0 k0 (r.bind f) y k2 e2 := by
 rcases h with ⟨h0, rfl, rfl⟩ | ⟨rfl, ⟨rfl, rfl⟩ | ⟨rfl, he⟩⟩
 ·rcases h2 with ⟨_, rfl, rfl⟩ | ⟨h3, _⟩
  ·exact .inl ⟨h0, rfl, rfl⟩
  ·exact absurd h3 h0
 ·rcases h2 with ⟨h3, _⟩ | ⟨_, h2⟩
  ·exact absurd rfl h3
  ·exact .inr ⟨rfl, h2⟩
 ·rcases h2 with ⟨_, rfl, rfl⟩ | ⟨h3, _⟩
  ·exact .inr ⟨rfl, .inr ⟨rfl, he⟩⟩
  ·exact absurd h3 he
theorem Run.map {f : α → β} (h : Run e0 k0 r x k e) : Run e0 k0 (r.bind fun x k => .ok (f x) k) (f x) k e := h.bind (Run.pure _ _ _)
theorem Run.yes {c : Prop} [Decidable c] {a b : PRes α} (hc : e0 = 0 → c) (h : Run e0 k0 a x k e) : Run e0 k0 (if c then a else b) x k e := by
 by_cases h0 : e0 = 0
 ·rw [if_pos (hc h0)]; exact h
 ·rcases h with ⟨_, rfl, rfl⟩ | ⟨h3, _⟩
  ·exact .skip h0 _ _
  ·exact absurd h3 h0
theorem Run.no {c : Prop} [Decidable c] {a b : PRes α} (hc : e0 = 0 → ¬ c) (h : Run e0 k0 b x k e) : Run e0 k0 (if c then a else b) x k e := by
 by_cases h0 : e0 = 0
 ·rw [if_neg (hc h0)]; exact h
 ·rcases h with ⟨_, rfl, rfl⟩ | ⟨h3, _⟩
  ·exact .skip h0 _ _
  ·exact absurd h3 h0
theorem Run.from {k1 : Nat} (h : Run 0 k1 r x k e) : Run 0 k0 r x k e := by
 rcases h with ⟨h0, _⟩ | h
 ·exact absurd rfl h0
 ·exact .inr h
theorem Run.eq {r' : PRes α} (h : Run e0 k0 r x k e) (hr : e0 = 0 → r = r') : Run e0 k0 r' x k e := by
 rcases h with ⟨h0, h1, h2⟩ | ⟨h0, h⟩
 ·exact .inl ⟨h0, h1, h2⟩
 ·rw [hr h0] at h; exact .inr ⟨h0, h⟩
theorem Run.good (h : Run e0 k0 r x k e) (he : e = 0) : e0 = 0 ∧ r = .ok x k := by
 rcases h with ⟨h0, _, rfl⟩ | ⟨rfl, ⟨rfl, rfl⟩ | ⟨rfl, h1⟩⟩
 ·exact absurd he h0
 ·exact ⟨rfl, rfl⟩
 ·exact absurd he h1
theorem Run.place {l : List Tok} (h : Run e0 k0 r x k e) (hk : k0 < l.length) (hr : e0 = 0 → r.At l k0) : k0 ≤ k ∧ k < l.length := by
 rcases h with ⟨h0, rfl, rfl⟩ | ⟨rfl, ⟨rfl, rfl⟩ | ⟨rfl, h1⟩⟩
 ·exact ⟨Nat.le_refl _, hk⟩
 ·exact hr rfl
 ·exact ⟨(hr rfl).1, (hr rfl).2.1⟩
theorem Run.small {l : List Tok} (h : Run e0 k0 r x k e) (he : e0 < 16) (hr : e0 = 0 → r.At l k0) : e < 16 := by
 rcases h with ⟨h0, rfl, rfl⟩ | ⟨rfl, ⟨rfl, rfl⟩ | ⟨rfl, h1⟩⟩
 ·exact he
 ·omega
 ·exact (hr rfl).2.2.2
end
def RRun {α : Type} (e0 b0 : Nat) (r : PRes α) (x : α) (k b e : Nat) : Prop :=
 (e0 ≠ 0 ∧ b = b0 ∧ e = e0) ∨ (e0 = 0 ∧ ((r = .ok x k ∧ e = 0 ∧ b = b0) ∨ (r = .err b e ∧ e ≠ 0)))
section
variable {α β : Type} {e0 b0 k k0 b k2 b2 e e2 : Nat} {r : PRes α} {x : α} {y : β}
theorem RRun.skip (h : e0 ≠ 0) (r : PRes α) (x : α) (k : Nat) : RRun e0 b0 r x k b0 e0 := .inl ⟨h, rfl, rfl⟩
theorem RRun.ok (x : α) (k b0 : Nat) (h : r = .ok x k) : RRun 0 b0 r x k b0 0 := .inr ⟨rfl, .inl ⟨h, rfl, rfl⟩⟩
theorem RRun.err (x : α) (k b0 b e : Nat) (h : r = .err b e) (he : e ≠ 0) : RRun 0 b0 r x k b e := .inr ⟨rfl, .inr ⟨h, he⟩⟩
theorem RRun.pure (x : α) (k b e : Nat) : RRun e b (.ok x k) x k b e := by
 by_cases h : e = 0
 ·subst h; exact .ok x k b rfl
 ·exact .skip h _ _ _
theorem RRun.bind {f : α → Nat → PRes β} (h : RRun e0 b0 r x k b e) (h2 : RRun e b (f x k) y k2 b2 e2) : RRun e0 b0 (r.bind f) y k2 b2 e2 := by
 rcases h with ⟨h0, rfl, rfl⟩ | ⟨rfl, ⟨rfl, rfl, rfl⟩ | ⟨rfl, he⟩⟩
 ·rcases h2 with ⟨_, rfl, rfl⟩ | ⟨h3, _⟩
  ·exact .inl ⟨h0, rfl, rfl⟩
  ·exact absurd h3 h0
 ·rcases h2 with ⟨h3, _⟩ | ⟨_, h2⟩
  ·exact absurd rfl h3
  ·exact .inr ⟨rfl, h2⟩
 ·rcases h2 with ⟨_, rfl, rfl⟩ | ⟨h3, _⟩
  ·exact .inr ⟨rfl, .inr ⟨rfl, he⟩⟩
  ·exact absurd h3 he
theorem RRun.map {f : α → β} (h : RRun e0 b0 r x k b e) : RRun e0 b0 (r.bind fun x k => .ok (f x) k) (f x) k b e := h.bind (RRun.pure _ _ _ _)
theorem RRun.yes {c : Prop} [Decidable c] {a d : PRes α} (hc : e0 = 0 → c) (h : RRun e0 b0 a x k b e) : RRun e0 b0 (if c then a else d) x k b e := by
 by_cases h0 : e0 = 0
 ·rw [if_pos (hc h0)]; exact h
 ·rcases h with ⟨_, rfl, rfl⟩ | ⟨h3, _⟩
  ·exact .skip h0 _ _ _
  ·exact absurd h3 h0
theorem RRun.no {c : Prop} [Decidable c] {a d : PRes α} (hc : e0 = 0 → ¬ c) (h : RRun e0 b0 d x k b e) : RRun e0 b0 (if c then a else d) x k b e := by
 by_cases h0 : e0 = 0
 ·rw [if_neg (hc h0)]; exact h
 ·rcases h with ⟨_, rfl, rfl⟩ | ⟨h3, _⟩
  ·exact .skip h0 _ _ _
  ·exact absurd h3 h0
theorem RRun.eq {r' : PRes α} (h : RRun e0 b0 r x k b e) (hr : e0 = 0 → r = r') : RRun e0 b0 r' x k b e := by
 rcases h with ⟨h0, h1, h2⟩ | ⟨h0, h⟩
 ·exact .inl ⟨h0, h1, h2⟩
 ·rw [hr h0] at h; exact .inr ⟨h0, h⟩
theorem RRun.good (h : RRun e0 b0 r x k b e) (he : e = 0) : e0 = 0 ∧ r = .ok x k ∧ b = b0 := by
 rcases h with ⟨h0, _, rfl⟩ | ⟨rfl, ⟨rfl, rfl, rfl⟩ | ⟨rfl, h1⟩⟩
 ·exact absurd he h0
 ·exact ⟨rfl, rfl, rfl⟩
 ·exact absurd he h1
theorem RRun.small {l : List Tok} (h : RRun e0 b0 r x k b e) (he : e0 < 16) (hr : e0 = 0 → r.At l k0) : e < 16 := by
 rcases h with ⟨h0, rfl, rfl⟩ | ⟨rfl, ⟨rfl, rfl, rfl⟩ | ⟨rfl, h1⟩⟩
 ·exact he
 ·omega
 ·exact (hr rfl).2.2.2
end
end Go.Proofs.YtflcnehhpmjipaaGreatDoor
namespace Go.Proofs.YtflcnehhpmjipaaGreatDoor
mutual
def AExpr.nodes : AExpr → Nat
 | .mk _ _ _ args => 1 + nodesL args
def nodesL : List AExpr → Nat
 | [] => 0
 | e :: es => 1 + e.nodes + nodesL es
end
theorem nodesL_len : ∀ (l : List AExpr), l.length ≤ nodesL l
 | [] => by simp
 | e :: es => by have := nodesL_len es; rw [nodesL]; simp; omega
end Go.Proofs.YtflcnehhpmjipaaGreatDoor
namespace Go.Proofs.YtflcnehhpmjipaaGreatDoor
def ARef.small (N : Nat) (r : ARef) : Prop := r.index.length ≤ 1 ∧ ∀ x, x ∈ r.index → x.nodes ≤ N
def AArg.small (N : Nat) (a : AArg) : Prop := a.ref.small N ∧ a.expr.nodes ≤ N
mutual
def AStmt.small (N : Nat) : AStmt → Prop
 | .mk _ _ e r a t f => e.nodes ≤ N ∧ r.small N ∧ a.length ≤ N ∧ (∀ x, x ∈ a → x.small N) ∧ t.length ≤ N ∧ smalls N t ∧ f.length ≤ N ∧ smalls N f
def smalls (N : Nat) : List AStmt → Prop
 | [] => True
 | s :: r => s.small N ∧ smalls N r
end
theorem smalls_iff {N : Nat} : ∀ {l : List AStmt}, smalls N l ↔ ∀ s, s ∈ l → s.small N
 | [] => by rw [smalls]; simp
 | s :: r => by rw [smalls, smalls_iff (l := r)]; simp
def AFunc.small (N : Nat) (f : AFunc) : Prop := f.params.length ≤ N ∧ f.body.length ≤ N ∧ smalls N f.body
def AProg.small (N : Nat) (p : AProg) : Prop := p.globals.length ≤ N ∧ p.mutexes.length ≤ N ∧ p.funcs.length ≤ N ∧ ∀ f, f ∈ p.funcs → f.small N
theorem zero_small {N : Nat} (h : 1 ≤ N) : AExpr.zero.nodes ≤ N := by simpa [AExpr.zero, AExpr.nodes, nodesL] using h
theorem rzero_small {N : Nat} : ARef.zero.small N := ⟨by simp [ARef.zero], by simp [ARef.zero]⟩
theorem bind_inv {α β : Type} {r : PRes α} {f : α → Nat → PRes β} {y : β} {k2 : Nat} (h : r.bind f = .ok y k2) : ∃ x k1, r = .ok x k1 ∧ f x k1 = .ok y k2 := by
 cases r with
 | ok x k => exact ⟨x, k, rfl, h⟩
 | err a e => cases h
set_option linter.unusedSectionVars false
section
variable {l : List Tok} {N : Nat} (hel : EndAt l) (h1 : 1 ≤ N) (hlN : l.length ≤ N) (hf : ∀ k x k', k < l.length → exprP l k = .ok x k' → x.nodes ≤ N)
include hel hf
theorem refP_small {k k' : Nat} {x : ARef} (hk : k < l.length) (h : refP l k = .ok x k') : x.small N := by
 obtain ⟨n, k1, h1, h2⟩ := bind_inv h
 have hk1 := nameP_in hel hk
 rw [h1] at hk1
 unfold refTail at h2
 split at h2
 ·rename_i hs
  obtain ⟨e, k2, h3, h4⟩ := bind_inv h2
  obtain ⟨_, k3, _, h5⟩ := bind_inv h4
  cases h5
  exact ⟨by simp, fun y hy => by simp at hy; subst hy; exact hf _ _ _ (sign_more hel hk1.2 hs) h3⟩
 ·cases h2; exact ⟨by simp, by simp⟩
include h1
theorem argP_small {k k' : Nat} {x : AArg} (hk : k < l.length) (h : argP l k = .ok x k') : x.small N := by
 unfold argP at h
 split at h
 ·rename_i hs
  obtain ⟨r, k1, h1', h2⟩ := bind_inv h
  cases h2
  exact ⟨refP_small hel hf (word_more hel hk hs) h1', zero_small h1⟩
 ·obtain ⟨e, k1, h1', h2⟩ := bind_inv h
  cases h2
  exact ⟨rzero_small, hf _ _ _ hk h1'⟩
omit h1 hf in
theorem listP_small {α : Type} {el : Nat → Nat → PRes α} {Q : α → Prop} (he : ∀ n k, k < l.length → (el n k).In l k) (hq : ∀ n k x k', k < l.length → el n k = .ok x k' → Q x) : ∀ (n : Nat) (acc : List α) (k k' : Nat) (out : List α), k < l.length → acc.length ≤ k → (∀ x, x ∈ acc → Q x) → listP l el n acc k = .ok out k' → out.length ≤ l.length ∧ ∀ x, x ∈ out → Q x
 | 0, acc, k, k', out, _, _, _, h => by unfold listP at h; cases h
 | n + 1, acc, k, k', out, hk, ha, hQ, h => by
  unfold listP at h
  obtain ⟨x, k1, h1, h2⟩ := bind_inv h
  have hk1 := he acc.length k hk
  rw [h1] at hk1
  have hQ' : ∀ y, y ∈ acc ++ [x] → Q y := by
   intro y hy
   rcases List.mem_append.1 hy with hy | hy
   ·exact hQ y hy
   ·simp at hy; subst hy; exact hq _ _ _ _ hk h1
  have hl1 : (acc ++ [x]).length = acc.length + 1 := by simp
  have := hk1.1
  have := hk1.2
  split at h2
  ·rename_i hs
   exact listP_small he hq n _ (k1 + 1) k' out (sign_more hel hk1.2 hs) (by omega) hQ' h2
  ·obtain ⟨_, k3, _, h5⟩ := bind_inv h2
   cases h5
   exact ⟨by omega, hQ'⟩
omit h1 hf in
theorem parensP_small {α : Type} {el : Nat → Nat → PRes α} {Q : α → Prop} (he : ∀ n k, k < l.length → (el n k).In l k) (hq : ∀ n k x k', k < l.length → el n k = .ok x k' → Q x) {k k' : Nat} {out : List α} (hk : k < l.length) (h : parensP l el k = .ok out k') : out.length ≤ l.length ∧ ∀ x, x ∈ out → Q x := by
 obtain ⟨_, k1, h1, h2⟩ := bind_inv h
 have hk1 := wantP_in hel [40] hk
 rw [h1] at hk1
 split at h2
 ·cases h2; exact ⟨by simp, by simp⟩
 ·exact listP_small hel he hq _ _ _ _ _ hk1.2 (by simp) (by simp) h2
include hlN
theorem argsP_small {k k' : Nat} {x : List AArg} (hk : k < l.length) (h : argsP l k = .ok x k') : x.length ≤ N ∧ ∀ a, a ∈ x → a.small N := by
 have := parensP_small hel (Q := fun a => a.small N) (fun _ _ hk => argP_in hel hk) (fun n k x k' hk h => argP_small hel h1 hf hk h) hk h
 exact ⟨by omega, this.2⟩
omit hlN h1 hf hel in
theorem semi_inv {s x : AStmt} {k k' : Nat} (h : semi l s k = .ok x k') : x = s := by
 obtain ⟨_, k3, _, h5⟩ := bind_inv h
 cases h5; rfl
omit hlN hel hf in
theorem leaf_small {kd : Int} {n : ByteArray} {e : AExpr} {r : ARef} {a : List AArg} (he : e.nodes ≤ N) (hr : r.small N) (ha : a.length ≤ N ∧ ∀ x, x ∈ a → x.small N) : (AStmt.mk kd n e r a [] []).small N := by
 rw [AStmt.small]
 exact ⟨he, hr, ha.1, ha.2, by simp, by rw [smalls]; trivial, by simp, by rw [smalls]; trivial⟩
omit hlN hel hf in
theorem noargs : ([] : List AArg).length ≤ N ∧ ∀ x, x ∈ ([] : List AArg) → x.small N := ⟨by simp, by simp⟩
theorem stmtP_small {blk : Nat → PRes (List AStmt)} (hb : ∀ k, k < l.length → (blk k).In l k) (hbs : ∀ k x k', k < l.length → blk k = .ok x k' → x.length ≤ N ∧ smalls N x) {k k' : Nat} {x : AStmt} (hk : k < l.length) (h : stmtP l blk k = .ok x k') : x.small N := by
 have hz := zero_small h1
 have hrz := rzero_small (N := N)
 have hna := noargs h1 (N := N)
 unfold stmtP at h
 split at h
 ·rename_i hw
  have hk := word_more hel hk hw
  obtain ⟨n, k1, g1, g⟩ := bind_inv h
  have i1 := nameP_in hel hk
  rw [g1] at i1
  obtain ⟨_, k2, g2, g⟩ := bind_inv g
  have i2 := wantP_in hel [61] i1.2
  rw [g2] at i2
  obtain ⟨e, k3, g3, g⟩ := bind_inv g
  rw [semi_inv g]
  exact leaf_small h1 (hf _ _ _ i2.2 g3) hrz hna
 split at h
 ·rename_i hw
  have hk := word_more hel hk hw
  obtain ⟨n, k1, g1, g⟩ := bind_inv h
  have i1 := nameP_in hel hk
  rw [g1] at i1
  obtain ⟨a, k2, g2, g⟩ := bind_inv g
  rw [semi_inv g]
  exact leaf_small h1 hz hrz (argsP_small hel h1 hlN hf i1.2 g2)
 split at h
 ·rename_i hw
  have hk := word_more hel hk hw
  obtain ⟨r, k1, g1, g⟩ := bind_inv h
  rw [semi_inv g]
  exact leaf_small h1 hz (refP_small hel hf hk g1) hna
 split at h
 ·rename_i hw
  have hk := word_more hel hk hw
  obtain ⟨r, k1, g1, g⟩ := bind_inv h
  rw [semi_inv g]
  exact leaf_small h1 hz (refP_small hel hf hk g1) hna
 split at h
 ·rename_i hw
  have hk := word_more hel hk hw
  obtain ⟨e, k1, g1, g⟩ := bind_inv h
  have i1 := exprP_in hel hk
  rw [g1] at i1
  obtain ⟨t, k2, g2, g⟩ := bind_inv g
  have i2 := hb _ i1.2
  rw [g2] at i2
  have s2 := hbs _ _ _ i1.2 g2
  unfold elseP at g
  split at g
  ·rename_i hw2
   obtain ⟨f, k3, g3, g⟩ := bind_inv g
   cases g
   have s3 := hbs _ _ _ (word_more hel i2.2 hw2) g3
   rw [AStmt.small]
   exact ⟨hf _ _ _ hk g1, hrz, hna.1, hna.2, s2.1, s2.2, s3.1, s3.2⟩
  ·cases g
   rw [AStmt.small]
   exact ⟨hf _ _ _ hk g1, hrz, hna.1, hna.2, s2.1, s2.2, by simp, by rw [smalls]; trivial⟩
 split at h
 ·rename_i hw
  have hk := word_more hel hk hw
  obtain ⟨e, k1, g1, g⟩ := bind_inv h
  have i1 := exprP_in hel hk
  rw [g1] at i1
  obtain ⟨t, k2, g2, g⟩ := bind_inv g
  have s2 := hbs _ _ _ i1.2 g2
  cases g
  rw [AStmt.small]
  exact ⟨hf _ _ _ hk g1, hrz, hna.1, hna.2, s2.1, s2.2, by simp, by rw [smalls]; trivial⟩
 split at h
 ·rename_i hw
  rw [semi_inv h]
  exact leaf_small h1 hz hrz hna
 obtain ⟨n, k1, g1, g⟩ := bind_inv h
 have i1 := nameP_in hel hk
 rw [g1] at i1
 unfold namedTail at g
 split at g
 ·rename_i hs
  obtain ⟨e, k2, g2, g⟩ := bind_inv g
  rw [semi_inv g]
  exact leaf_small h1 (hf _ _ _ (sign_more hel i1.2 hs) g2) hrz hna
 ·obtain ⟨a, k2, g2, g⟩ := bind_inv g
  rw [semi_inv g]
  exact leaf_small h1 hz hrz (argsP_small hel h1 hlN hf i1.2 g2)
omit h1 hlN hf in
theorem stmtsP_small {st : Nat → PRes AStmt} (hs : ∀ k, k < l.length → (st k).In l k) (hss : ∀ k x k', k < l.length → st k = .ok x k' → x.small N) : ∀ (n : Nat) (acc : List AStmt) (k k' : Nat) (out : List AStmt), k < l.length → acc.length ≤ k → (∀ x, x ∈ acc → x.small N) → stmtsP l st n acc k = .ok out k' → out.length ≤ l.length ∧ ∀ x, x ∈ out → x.small N
 | 0, acc, k, k', out, _, _, _, h => by unfold stmtsP at h; cases h
 | n + 1, acc, k, k', out, hk, ha, hQ, h => by
  unfold stmtsP at h
  split at h
  ·cases h; exact ⟨by omega, hQ⟩
  ·obtain ⟨x, k1, h1, h2⟩ := bind_inv h
   have hk1 := hs k hk
   rw [h1] at hk1
   have := hk1.1
   exact stmtsP_small hs hss n _ k1 k' out hk1.2 (by simp; omega) (fun y hy => by
    rcases List.mem_append.1 hy with hy | hy
    ·exact hQ y hy
    ·simp at hy; subst hy; exact hss _ _ _ hk h1) h2
theorem blockP_small : ∀ (d k : Nat) (x : List AStmt) (k' : Nat), k < l.length → blockP l d k = .ok x k' → x.length ≤ N ∧ smalls N x
 | 0, k, x, k', _, h => by unfold blockP at h; split at h <;> cases h
 | d + 1, k, x, k', hk, h => by
  unfold blockP at h
  obtain ⟨_, k1, g1, g⟩ := bind_inv h
  have i1 := wantP_in hel [123] hk
  rw [g1] at i1
  have := stmtsP_small hel (N := N) (fun k hk => stmtP_in hel (fun k hk => blockP_in hel d k hk) hk) (fun k x k' hk h => stmtP_small hel h1 hlN hf (fun k hk => blockP_in hel d k hk) (fun k x k' hk h => blockP_small d k x k' hk h) hk h) _ _ _ _ _ i1.2 (by simp) (by simp) g
  exact ⟨by omega, smalls_iff.2 this.2⟩
theorem funcP_small {k k' : Nat} {x : AFunc} (hk : k < l.length) (h : funcP l k = .ok x k') : x.small N := by
 obtain ⟨n, k1, g1, g⟩ := bind_inv h
 have i1 := nameP_in hel hk
 rw [g1] at i1
 obtain ⟨p, k2, g2, g⟩ := bind_inv g
 have i2 := parensP_in hel (el := paramP l) (fun n k hk => paramP_in hel (n := n) hk) i1.2
 rw [g2] at i2
 have s2 := parensP_small hel (el := paramP l) (Q := fun _ => True) (fun n k hk => paramP_in hel (n := n) hk) (fun _ _ _ _ _ _ => trivial) i1.2 g2
 obtain ⟨b, k3, g3, g⟩ := bind_inv g
 cases g
 have s3 := blockP_small hel h1 hlN hf _ _ _ _ i2.2 g3
 exact ⟨by show p.length ≤ N; omega, s3.1, s3.2⟩
theorem declP_small {x y : AProg} {k k' : Nat} (hk : k < l.length) (hx : x.small N) (hx2 : x.globals.length + x.mutexes.length + x.funcs.length ≤ k) (h : declP l x k = .ok y k') : y.small N ∧ y.globals.length + y.mutexes.length + y.funcs.length ≤ k + 1 := by
 obtain ⟨x1, x2, x3, x4⟩ := hx
 unfold declP at h
 split at h
 ·split at h
  ·cases h
  obtain ⟨g, k1, g1, gg⟩ := bind_inv h
  cases gg
  exact ⟨⟨by show (x.globals ++ [g]).length ≤ N; simp; omega, x2, x3, x4⟩, by show (x.globals ++ [g]).length + _ + _ ≤ _; simp; omega⟩
 split at h
 ·split at h
  ·cases h
  obtain ⟨g, k1, g1, gg⟩ := bind_inv h
  cases gg
  exact ⟨⟨x1, by show (x.mutexes ++ [g]).length ≤ N; simp; omega, x3, x4⟩, by show _ + (x.mutexes ++ [g]).length + _ ≤ _; simp; omega⟩
 split at h
 ·split at h
  ·cases h
  obtain ⟨g, k1, g1, gg⟩ := bind_inv h
  cases gg
  exact ⟨⟨x1, by show (x.mutexes ++ [g]).length ≤ N; simp; omega, x3, x4⟩, by show _ + (x.mutexes ++ [g]).length + _ ≤ _; simp; omega⟩
 split at h
 ·rename_i hw
  split at h
  ·cases h
  obtain ⟨g, k1, g1, gg⟩ := bind_inv h
  cases gg
  refine ⟨⟨x1, x2, by show (x.funcs ++ [g]).length ≤ N; simp; omega, fun f hf' => ?_⟩, by show _ + _ + (x.funcs ++ [g]).length ≤ _; simp; omega⟩
  rcases List.mem_append.1 hf' with hf' | hf'
  ·exact x4 f hf'
  ·simp at hf'; subst hf'; exact funcP_small hel h1 hlN hf (word_more hel hk hw) g1
 cases h
theorem progP_small : ∀ (n : Nat) (x : AProg) (k : Nat) (y : AProg) (k' : Nat), k < l.length → x.small N → x.globals.length + x.mutexes.length + x.funcs.length ≤ k → progP l n x k = .ok y k' → y.small N
 | 0, _, k, _, _, _, _, _, h => by unfold progP at h; cases h
 | n + 1, x, k, y, k', hk, hx, hx2, h => by
  unfold progP at h
  split at h
  ·cases h; exact hx
  ·obtain ⟨z, k1, g1, g⟩ := bind_inv h
   have i1 := declP_in hel (x := x) hk
   rw [g1] at i1
   have s1 := declP_small hel h1 hlN hf hk hx hx2 g1
   have := i1.1
   exact progP_small n z k1 y k' i1.2 s1.1 (by omega) g
theorem programP_small {y : AProg} {k' : Nat} (h : programP l = .ok y k') : y.small N :=
 progP_small hel h1 hlN hf _ _ _ _ _ (by obtain ⟨h0, _⟩ := hel; exact h0) ⟨by simp, by simp, by simp, by simp⟩ (by simp) h
end
end Go.Proofs.YtflcnehhpmjipaaGreatDoor
namespace Go.Proofs.YtflcnehhpmjipaaGreatDoor
def RegT (t : Tok) : Prop := (t.kind = 3 → reserved t.text = true) ∧ (t.kind = 4 → reserved t.text = false) ∧ t.num ≤ 9223372036854775807
theorem numL_fits : ∀ (r : List UInt8) (n m : Nat), n ≤ 9223372036854775807 → numL n r = some m → m ≤ 9223372036854775807
 | [], n, m, h, he => by unfold numL at he; cases he; exact h
 | c :: r, n, m, h, he => by
  unfold numL at he
  split at he
  ·cases he
  ·exact numL_fits r _ m (by have := c.toNat_lt; omega) he
theorem words_let : ∀ x, x ∈ words → isLet (x.data.toList.headD 0) = true := by decide
theorem sign_free {c : UInt8} {r : List UInt8} (h : isLet c = false) {n : Nat} (hn : n ≠ 0) : reserved (bytes ((c :: r).take n)) = false := by
 cases hr : reserved (bytes ((c :: r).take n)) with
 | false => rfl
 | true =>
  have h1 := words_let _ ((reserved_iff _).1 hr)
  obtain ⟨m, rfl⟩ : ∃ m, n = m + 1 := ⟨n - 1, by omega⟩
  simp [bytes] at h1
  rw [h] at h1; cases h1
theorem nextL_reg {c : UInt8} {r : List UInt8} {kind len num : Nat} (p : Nat) (h : nextL (c :: r) = .tok kind len num) : RegT ⟨kind, bytes ((c :: r).take len), num, p⟩ ∧ kind ≠ 5 := by
 cases hc : isLet c with
 | true =>
  rw [nextL_name hc] at h
  split at h
  ·cases h
  ·injection h with h1 h2 h3
   subst h2; subst h3; subst h1
   have ht : (c :: r).take ((c :: r).takeWhile isNam).length = (c :: r).takeWhile isNam := by
    have := List.takeWhile_prefix (l := c :: r) isNam
    exact (List.prefix_iff_eq_take.1 this).symm
   rw [ht]
   refine ⟨⟨fun h3 => ?_, fun h4 => ?_, by show 0 ≤ _; omega⟩, ?_⟩
   ·change (if reserved (bytes ((c :: r).takeWhile isNam)) = true then 3 else 1) = 3 at h3
    split at h3
    ·assumption
    ·omega
   ·change (if reserved (bytes ((c :: r).takeWhile isNam)) = true then 3 else 1) = 4 at h4
    split at h4 <;> omega
   ·split <;> omega
 | false =>
  cases hd : isDig c with
  | true =>
   cases hn : numL 0 ((c :: r).takeWhile isDig) with
   | none => rw [nextL_none hc hd hn] at h; cases h
   | some n =>
    rw [nextL_num hc hd hn] at h
    injection h with h1 h2 h3
    subst h1; subst h2; subst h3
    exact ⟨⟨fun h => absurd h (show ¬ (2 = 3) by decide), fun h => absurd h (show ¬ (2 = 4) by decide), numL_fits _ _ _ (by omega) hn⟩, by omega⟩
  | false =>
   rw [nextL_sign hc hd] at h
   split at h
   ·cases h
   ·rename_i h0
    injection h with h1 h2 h3
    subst h1; subst h2; subst h3
    exact ⟨⟨fun h => absurd h (show ¬ (4 = 3) by decide), fun _ => sign_free hc h0, Nat.zero_le _⟩, by omega⟩
structure Toks (l : List Tok) : Prop where
 ends : EndAt l
 reg : ∀ t, t ∈ l → RegT t
 few : l.length ≤ 4001
theorem lexT_reg : ∀ (m : Nat) (s : List UInt8) (k n : Nat), s.length - k ≤ m → k ≤ s.length → n ≤ 4000 → ∀ L, lexT s k n = .ok L → (∃ h : 0 < L.length, (L[L.length - 1]'(by omega)).kind = 5) ∧ (∀ t, t ∈ L → RegT t) ∧ L.length + n ≤ 4001
 | m, s, k, n, hm, hk, hn, L, h => by
  by_cases he : s.length ≤ skipN s k
  ·rw [lexT_end he] at h
   cases h
   refine ⟨⟨by simp, rfl⟩, fun t ht => ?_, by simp; omega⟩
   simp at ht; subst ht
   exact ⟨fun h => (by cases h), fun h => (by cases h), by show 0 ≤ _; omega⟩
  ·have hlt : skipN s k < s.length := by omega
   cases hx : nextL (s.drop (skipN s k)) with
   | err e => rw [lexT_err hlt hx] at h; cases h
   | tok kind len num =>
    by_cases h4 : n = 4000
    ·subst h4; rw [lexT_full hlt hx] at h; cases h
    rw [lexT_tok hk hlt hx h4] at h
    have hg := skipN_ge s k hk
    have hd : s.drop (skipN s k) ≠ [] := by intro hd; have := congrArg List.length hd; rw [List.length_drop] at this; simp at this; omega
    have hl := nextL_len hd hx
    rw [List.length_drop] at hl
    obtain ⟨c, r, hcr⟩ := List.exists_cons_of_ne_nil hd
    rw [hcr] at hx h
    have hreg := nextL_reg (skipN s k) hx
    cases m with
    | zero => omega
    | succ m =>
     cases ht : lexT s (skipN s k + len) (n + 1) with
     | err p e => rw [ht] at h; cases h
     | ok L' =>
      rw [ht] at h
      cases h
      obtain ⟨⟨h0, h5⟩, h2, h3⟩ := lexT_reg m s (skipN s k + len) (n + 1) (by omega) (by omega) (by omega) L' ht
      refine ⟨⟨by simp, ?_⟩, fun t ht => ?_, by simp; omega⟩
      ·simp only [List.length_cons]
       rw [List.getElem_cons]
       rw [dif_neg (by omega)]
       simpa using h5
      ·rcases List.mem_cons.1 ht with rfl | ht
       ·exact hreg.1
       ·exact h2 t ht
theorem lexL_toks {s : List UInt8} {L : List Tok} (h : lexL s = .ok L) : Toks L := by
 unfold lexL at h
 split at h
 ·cases h
 ·obtain ⟨h1, h2, h3⟩ := lexT_reg s.length s 0 0 (by omega) (by omega) (by omega) L h
  exact ⟨h1, h2, by omega⟩
end Go.Proofs.YtflcnehhpmjipaaGreatDoor
namespace Go.Proofs.YtflcnehhpmjipaaGreatDoor
open Go.RowKit
theorem strL_true {s : ByteArray} {l : List UInt8} (h : s = bytes l) : (s.toList == l) = true := by subst h; rw [ByteArray.toList_eq]; simp [bytes]
theorem strL_false {s : ByteArray} {l : List UInt8} (h : s ≠ bytes l) : (s.toList == l) = false := by
 rw [beq_eq_false_iff_ne, ByteArray.toList_eq]; intro e; apply h; apply bytes_ext; rw [e]; simp [bytes]
set_option maxRecDepth 100000 in
set_option maxHeartbeats 1600000 in
theorem binaryOp_any (s : ByteArray) (w : World) : Calls Tryz.prog 199 #[.string s] w fun e w' => e = .returned (.tuple #[.int .i64 (binOp s).1, .int .i64 (binOp s).2]) ∧ w = w' := by
 go_enter Tryz.func199, Tryz.ntmps199
 by_cases h0 : s = bytes [124, 124]
 ·have g0 : (s.toList == [124, 124]) = true := strL_true h0
  have hb : binOp s = (17, 1) := by rw [binOp, if_pos h0]
  rw [hb]
  clear hb h0
  go_wp2_with fail
  refine bodyPost_ret (v := .tuple #[.int .i64 17, .int .i64 1]) (by simp [results, Tryz.results199, go_sem]) rfl ?_
  exact ⟨rfl, rfl⟩
 have g0 : (s.toList == [124, 124]) = false := strL_false h0
 by_cases h1 : s = bytes [38, 38]
 ·have g1 : (s.toList == [38, 38]) = true := strL_true h1
  have hb : binOp s = (16, 2) := by rw [binOp, if_neg h0, if_pos h1]
  rw [hb]
  clear hb h0 h1
  go_wp2_with fail
  refine bodyPost_ret (v := .tuple #[.int .i64 16, .int .i64 2]) (by simp [results, Tryz.results199, go_sem]) rfl ?_
  exact ⟨rfl, rfl⟩
 have g1 : (s.toList == [38, 38]) = false := strL_false h1
 by_cases h2 : s = bytes [61, 61]
 ·have g2 : (s.toList == [61, 61]) = true := strL_true h2
  have hb : binOp s = (14, 3) := by rw [binOp, if_neg h0, if_neg h1, if_pos h2]
  rw [hb]
  clear hb h0 h1 h2
  go_wp2_with fail
  refine bodyPost_ret (v := .tuple #[.int .i64 14, .int .i64 3]) (by simp [results, Tryz.results199, go_sem]) rfl ?_
  exact ⟨rfl, rfl⟩
 have g2 : (s.toList == [61, 61]) = false := strL_false h2
 by_cases h3 : s = bytes [33, 61]
 ·have g3 : (s.toList == [33, 61]) = true := strL_true h3
  have hb : binOp s = (15, 3) := by rw [binOp, if_neg h0, if_neg h1, if_neg h2, if_pos h3]
  rw [hb]
  clear hb h0 h1 h2 h3
  go_wp2_with fail
  refine bodyPost_ret (v := .tuple #[.int .i64 15, .int .i64 3]) (by simp [results, Tryz.results199, go_sem]) rfl ?_
  exact ⟨rfl, rfl⟩
 have g3 : (s.toList == [33, 61]) = false := strL_false h3
 by_cases h4 : s = bytes [60]
 ·have g4 : (s.toList == [60]) = true := strL_true h4
  have hb : binOp s = (10, 3) := by rw [binOp, if_neg h0, if_neg h1, if_neg h2, if_neg h3, if_pos h4]
  rw [hb]
  clear hb h0 h1 h2 h3 h4
  go_wp2_with fail
  refine bodyPost_ret (v := .tuple #[.int .i64 10, .int .i64 3]) (by simp [results, Tryz.results199, go_sem]) rfl ?_
  exact ⟨rfl, rfl⟩
 have g4 : (s.toList == [60]) = false := strL_false h4
 by_cases h5 : s = bytes [60, 61]
 ·have g5 : (s.toList == [60, 61]) = true := strL_true h5
  have hb : binOp s = (11, 3) := by rw [binOp, if_neg h0, if_neg h1, if_neg h2, if_neg h3, if_neg h4, if_pos h5]
  rw [hb]
  clear hb h0 h1 h2 h3 h4 h5
  go_wp2_with fail
  refine bodyPost_ret (v := .tuple #[.int .i64 11, .int .i64 3]) (by simp [results, Tryz.results199, go_sem]) rfl ?_
  exact ⟨rfl, rfl⟩
 have g5 : (s.toList == [60, 61]) = false := strL_false h5
 by_cases h6 : s = bytes [62]
 ·have g6 : (s.toList == [62]) = true := strL_true h6
  have hb : binOp s = (12, 3) := by rw [binOp, if_neg h0, if_neg h1, if_neg h2, if_neg h3, if_neg h4, if_neg h5, if_pos h6]
  rw [hb]
  clear hb h0 h1 h2 h3 h4 h5 h6
  go_wp2_with fail
  refine bodyPost_ret (v := .tuple #[.int .i64 12, .int .i64 3]) (by simp [results, Tryz.results199, go_sem]) rfl ?_
  exact ⟨rfl, rfl⟩
 have g6 : (s.toList == [62]) = false := strL_false h6
 by_cases h7 : s = bytes [62, 61]
 ·have g7 : (s.toList == [62, 61]) = true := strL_true h7
  have hb : binOp s = (13, 3) := by rw [binOp, if_neg h0, if_neg h1, if_neg h2, if_neg h3, if_neg h4, if_neg h5, if_neg h6, if_pos h7]
  rw [hb]
  clear hb h0 h1 h2 h3 h4 h5 h6 h7
  go_wp2_with fail
  refine bodyPost_ret (v := .tuple #[.int .i64 13, .int .i64 3]) (by simp [results, Tryz.results199, go_sem]) rfl ?_
  exact ⟨rfl, rfl⟩
 have g7 : (s.toList == [62, 61]) = false := strL_false h7
 by_cases h8 : s = bytes [43]
 ·have g8 : (s.toList == [43]) = true := strL_true h8
  have hb : binOp s = (8, 4) := by rw [binOp, if_neg h0, if_neg h1, if_neg h2, if_neg h3, if_neg h4, if_neg h5, if_neg h6, if_neg h7, if_pos h8]
  rw [hb]
  clear hb h0 h1 h2 h3 h4 h5 h6 h7 h8
  go_wp2_with fail
  refine bodyPost_ret (v := .tuple #[.int .i64 8, .int .i64 4]) (by simp [results, Tryz.results199, go_sem]) rfl ?_
  exact ⟨rfl, rfl⟩
 have g8 : (s.toList == [43]) = false := strL_false h8
 by_cases h9 : s = bytes [45]
 ·have g9 : (s.toList == [45]) = true := strL_true h9
  have hb : binOp s = (9, 4) := by rw [binOp, if_neg h0, if_neg h1, if_neg h2, if_neg h3, if_neg h4, if_neg h5, if_neg h6, if_neg h7, if_neg h8, if_pos h9]
  rw [hb]
  clear hb h0 h1 h2 h3 h4 h5 h6 h7 h8 h9
  go_wp2_with fail
  refine bodyPost_ret (v := .tuple #[.int .i64 9, .int .i64 4]) (by simp [results, Tryz.results199, go_sem]) rfl ?_
  exact ⟨rfl, rfl⟩
 have g9 : (s.toList == [45]) = false := strL_false h9
 by_cases h10 : s = bytes [42]
 ·have g10 : (s.toList == [42]) = true := strL_true h10
  have hb : binOp s = (5, 5) := by rw [binOp, if_neg h0, if_neg h1, if_neg h2, if_neg h3, if_neg h4, if_neg h5, if_neg h6, if_neg h7, if_neg h8, if_neg h9, if_pos h10]
  rw [hb]
  clear hb h0 h1 h2 h3 h4 h5 h6 h7 h8 h9 h10
  go_wp2_with fail
  refine bodyPost_ret (v := .tuple #[.int .i64 5, .int .i64 5]) (by simp [results, Tryz.results199, go_sem]) rfl ?_
  exact ⟨rfl, rfl⟩
 have g10 : (s.toList == [42]) = false := strL_false h10
 by_cases h11 : s = bytes [47]
 ·have g11 : (s.toList == [47]) = true := strL_true h11
  have hb : binOp s = (6, 5) := by rw [binOp, if_neg h0, if_neg h1, if_neg h2, if_neg h3, if_neg h4, if_neg h5, if_neg h6, if_neg h7, if_neg h8, if_neg h9, if_neg h10, if_pos h11]
  rw [hb]
  clear hb h0 h1 h2 h3 h4 h5 h6 h7 h8 h9 h10 h11
  go_wp2_with fail
  refine bodyPost_ret (v := .tuple #[.int .i64 6, .int .i64 5]) (by simp [results, Tryz.results199, go_sem]) rfl ?_
  exact ⟨rfl, rfl⟩
 have g11 : (s.toList == [47]) = false := strL_false h11
 by_cases h12 : s = bytes [37]
 ·have g12 : (s.toList == [37]) = true := strL_true h12
  have hb : binOp s = (7, 5) := by rw [binOp, if_neg h0, if_neg h1, if_neg h2, if_neg h3, if_neg h4, if_neg h5, if_neg h6, if_neg h7, if_neg h8, if_neg h9, if_neg h10, if_neg h11, if_pos h12]
  rw [hb]
  clear hb h0 h1 h2 h3 h4 h5 h6 h7 h8 h9 h10 h11 h12
  go_wp2_with fail
  refine bodyPost_ret (v := .tuple #[.int .i64 7, .int .i64 5]) (by simp [results, Tryz.results199, go_sem]) rfl ?_
  exact ⟨rfl, rfl⟩
 have g12 : (s.toList == [37]) = false := strL_false h12
 have hb : binOp s = (0, 0) := by rw [binOp, if_neg h0, if_neg h1, if_neg h2, if_neg h3, if_neg h4, if_neg h5, if_neg h6, if_neg h7, if_neg h8, if_neg h9, if_neg h10, if_neg h11, if_neg h12]
 rw [hb]
 clear hb h0 h1 h2 h3 h4 h5 h6 h7 h8 h9 h10 h11 h12
 go_wp2_with fail
 refine bodyPost_ret (v := .tuple #[.int .i64 0, .int .i64 0]) (by simp [results, Tryz.results199, go_sem]) rfl ?_
 exact ⟨rfl, rfl⟩
end Go.Proofs.YtflcnehhpmjipaaGreatDoor
namespace Go.Proofs.YtflcnehhpmjipaaGreatDoor
def signsS : Nat → List ByteArray
 | 0 => [⟨#[124, 124]⟩]
 | 1 => [⟨#[38, 38]⟩]
 | 2 => [⟨#[61, 61]⟩, ⟨#[33, 61]⟩, ⟨#[60]⟩, ⟨#[60, 61]⟩, ⟨#[62]⟩, ⟨#[62, 61]⟩]
 | 3 => [⟨#[43]⟩, ⟨#[45]⟩]
 | _ => [⟨#[42]⟩, ⟨#[47]⟩, ⟨#[37]⟩]
def signsO : Nat → List Int
 | 0 => [17]
 | 1 => [16]
 | 2 => [14, 15, 10, 11, 12, 13]
 | 3 => [8, 9]
 | _ => [5, 6, 7]
theorem signs_len (k : Nat) : (signsO k).length = (signsS k).length ∧ 1 ≤ (signsS k).length ∧ (signsS k).length ≤ 6 := by
 rcases k with _ | _ | _ | _ | k <;> simp [signsO, signsS]
theorem signs_free (k : Nat) (hk : k < 5) : ∀ j (h : j < (signsS k).length), reserved (signsS k)[j] = false := by
 rcases (show k = 0 ∨ k = 1 ∨ k = 2 ∨ k = 3 ∨ k = 4 by omega) with rfl | rfl | rfl | rfl | rfl <;> decide
theorem signs_op (k : Nat) (hk : k < 5) : ∀ j (h : j < (signsS k).length) (h' : j < (signsO k).length), (((binOp (signsS k)[j]).1 : Int) = (signsO k)[j]) ∧ (binOp (signsS k)[j]).2 = k + 1 := by
 rcases (show k = 0 ∨ k = 1 ∨ k = 2 ∨ k = 3 ∨ k = 4 by omega) with rfl | rfl | rfl | rfl | rfl <;> decide
theorem signs_all (k : Nat) (hk : k < 5) (s : ByteArray) (h : (binOp s).2 = k + 1) : s ∈ signsS k := by
 by_cases ha : s = bytes [124, 124] ∨ s = bytes [38, 38] ∨ s = bytes [61, 61] ∨ s = bytes [33, 61] ∨ s = bytes [60] ∨ s = bytes [60, 61] ∨ s = bytes [62] ∨ s = bytes [62, 61] ∨ s = bytes [43] ∨ s = bytes [45] ∨ s = bytes [42] ∨ s = bytes [47] ∨ s = bytes [37]
 ·rcases (show k = 0 ∨ k = 1 ∨ k = 2 ∨ k = 3 ∨ k = 4 by omega) with rfl | rfl | rfl | rfl | rfl <;> rcases ha with rfl | rfl | rfl | rfl | rfl | rfl | rfl | rfl | rfl | rfl | rfl | rfl | rfl <;> first | (exfalso; revert h; decide) | simp [signsS, bytes]
 ·exfalso
  simp only [not_or] at ha
  obtain ⟨a1, a2, a3, a4, a5, a6, a7, a8, a9, b1, b2, b3, b4⟩ := ha
  rw [binOp, if_neg a1, if_neg a2, if_neg a3, if_neg a4, if_neg a5, if_neg a6, if_neg a7, if_neg a8, if_neg a9, if_neg b1, if_neg b2, if_neg b3, if_neg b4] at h
  simp at h
end Go.Proofs.YtflcnehhpmjipaaGreatDoor
namespace Go.Proofs.YtflcnehhpmjipaaGreatDoor
def PRes.Few (k : Nat) : PRes AExpr → Prop
 | .ok x k' => x.nodes + 3 * k ≤ 3 * k'
 | .err _ _ => True
theorem nodes_one (op num : Int) (s : ByteArray) (x : AExpr) : (AExpr.mk op num s [x]).nodes = 2 + x.nodes := by simp [AExpr.nodes, nodesL]; omega
theorem nodes_two (op num : Int) (s : ByteArray) (x y : AExpr) : (AExpr.mk op num s [x, y]).nodes = 3 + x.nodes + y.nodes := by simp [AExpr.nodes, nodesL]; omega
theorem nodes_zero (op num : Int) (s : ByteArray) : (AExpr.mk op num s []).nodes = 1 := by simp [AExpr.nodes, nodesL]
theorem loopP_few {l : List Tok} {sub : Nat → PRes AExpr} {level : Nat} (hs : ∀ k, (sub k).Few k) : ∀ (n : Nat) (x : AExpr) (k j : Nat), x.nodes + 3 * j ≤ 3 * k → (loopP l sub level n x k).Few j
 | 0, x, k, j, h => by unfold loopP; exact h
 | n + 1, x, k, j, h => by
  unfold loopP
  split
  ·have h1 := hs (k + 1)
   cases hr : sub (k + 1) with
   | ok y k' =>
    rw [hr] at h1
    have h2 : y.nodes + 3 * (k + 1) ≤ 3 * k' := h1
    exact loopP_few hs n _ k' j (by rw [nodes_two]; omega)
   | err a e => trivial
  ·exact h
theorem binP_few {l : List Tok} {single : Nat → PRes AExpr} (hs : ∀ k, (single k).Few k) : ∀ (j k : Nat), (binP l single j k).Few k
 | 0, k => by unfold binP; exact hs k
 | j + 1, k => by
  unfold binP
  have h1 := binP_few (l := l) hs j k
  cases hr : binP l single j k with
  | ok x k' => rw [hr] at h1; exact loopP_few (l := l) (fun k => binP_few (l := l) hs j k) _ _ _ _ h1
  | err a e => trivial
theorem singleP_few {l : List Tok} : ∀ (d k : Nat), (singleP l d k).Few k
 | 0, k => by
  unfold singleP
  split
  ·show AExpr.nodes _ + 3 * k ≤ 3 * (k + 1); rw [nodes_zero]; omega
  ·split
   ·show AExpr.nodes _ + 3 * k ≤ 3 * (k + 1); rw [nodes_zero]; omega
   ·split <;> trivial
 | d + 1, k => by
  have h1 := singleP_few (l := l) d (k + 1)
  have hn : ∀ op, (negP op (singleP l d (k + 1))).Few k := by
   intro op
   cases hr : singleP l d (k + 1) with
   | ok x k' => rw [hr] at h1; have h2 : x.nodes + 3 * (k + 1) ≤ 3 * k' := h1; show AExpr.nodes _ + 3 * k ≤ 3 * k'; rw [nodes_one]; omega
   | err a e => trivial
  have h2 := binP_few (l := l) (single := singleP l d) (fun k => singleP_few (l := l) d k) 5 (k + 1)
  unfold singleP
  split
  ·show AExpr.nodes _ + 3 * k ≤ 3 * (k + 1); rw [nodes_zero]; omega
  ·split
   ·show AExpr.nodes _ + 3 * k ≤ 3 * (k + 1); rw [nodes_zero]; omega
   ·split
    ·exact hn 3
    ·split
     ·exact hn 4
     ·split
      ·cases hr : binP l (singleP l d) 5 (k + 1) with
       | ok x k' =>
        rw [hr] at h2
        have h3 : x.nodes + 3 * (k + 1) ≤ 3 * k' := h2
        change (if signAt l k' [41] then PRes.ok x (k' + 1) else PRes.err k' 4).Few k
        by_cases hs : signAt l k' [41] = true
        ·rw [if_pos hs]; show x.nodes + 3 * k ≤ 3 * (k' + 1); omega
        ·rw [if_neg hs]; trivial
       | err a e => trivial
      ·trivial
theorem exprP_few (l : List Tok) (k : Nat) : (exprP l k).Few k := binP_few (l := l) (single := singleP l 24) (fun k => singleP_few (l := l) 24 k) 5 k
end Go.Proofs.YtflcnehhpmjipaaGreatDoor
