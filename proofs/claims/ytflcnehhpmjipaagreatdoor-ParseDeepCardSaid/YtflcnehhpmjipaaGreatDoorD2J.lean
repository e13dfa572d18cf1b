import Derived.Test.YtflcnehhpmjipaaGreatDoorD1J
import Derived.Test.YtflcnehhpmjipaaGreatDoorR7J
import Derived.KernelRfl
set_option linter.unusedVariables false
set_option linter.unusedSimpArgs false
namespace Go.Proofs.YtflcnehhpmjipaaGreatDoor
def catL {α : Type} (f : Nat → List α) : Nat → List α
 | 0 => []
 | n + 1 => catL f n ++ f n
def limF (k j : Nat) : List UInt8 :=
 if k = 0 then [118, 97, 114, 32, 120, 59, 32] else if k = 1 then (if j % 2 = 0 then [109, 117, 116, 101, 120, 32, 120, 59, 32] else [114, 109, 117, 116, 101, 120, 32, 121, 59, 32])
 else if k = 2 then [102, 117, 110, 99, 32, 102, 40, 41, 32, 123, 32, 125, 32] else (if j = 0 then [120] else [44, 32, 109, 117, 116, 101, 120, 32, 121])
def limT (k n : Nat) : List UInt8 :=
 if k < 3 then catL (limF k) n else if k = 3 then [102, 117, 110, 99, 32, 102, 40] ++ catL (limF 3) n ++ [41, 32, 123, 32, 125] else [109, 117, 116, 101, 120, 32, 120, 91] ++ numberL n ++ [93, 59]
def nmx (s : List UInt8) : PT := ⟨1, bytes s, 0⟩
def limG (k j : Nat) : List PT :=
 if k = 0 then [wrd [118, 97, 114], nmx [120], sgn [59]] else if k = 1 then (if j % 2 = 0 then [wrd [109, 117, 116, 101, 120], nmx [120], sgn [59]] else [wrd [114, 109, 117, 116, 101, 120], nmx [121], sgn [59]])
 else if k = 2 then [wrd [102, 117, 110, 99], nmx [102], sgn [40], sgn [41], sgn [123], sgn [125]] else (if j = 0 then [nmx [120]] else [sgn [44], wrd [109, 117, 116, 101, 120], nmx [121]])
def limK (k n : Nat) : List PT :=
 if k < 3 then catL (limG k) n else if k = 3 then [wrd [102, 117, 110, 99], nmx [102], sgn [40]] ++ catL (limG 3) n ++ [sgn [41], sgn [123], sgn [125]] else [wrd [109, 117, 116, 101, 120], nmx [120], sgn [91], ⟨2, bytes (digitsL n), n⟩, sgn [93], sgn [59]]
def limMost (k n : Nat) : Bool := if k = 0 then decide (n ≤ 16) else if k = 1 then decide (n ≤ 12) else if k = 2 then decide (n ≤ 16) else if k = 3 then decide (n ≤ 6) else decide (1 ≤ n ∧ n ≤ 64)
theorem lim_nm {r : List UInt8} {ps : List PT} (h : Lx r ps) (s : List UInt8) (hs : nameB (bytes s) = true) (hr : NoNam r) : Lx (s ++ r) (nmx s :: ps) := h.name (bytes s) hs hr
theorem lim_piece {k j : Nat} (hk : k < 3) {r : List UInt8} {ps : List PT} (h : Lx r ps) : Lx (limF k j ++ r) (limG k j ++ ps) := by
 have hv : ∀ (w : List UInt8) (c : UInt8), reserved (bytes w) = true → nameB (bytes [c]) = true → Lx (w ++ 32 :: ([c] ++ 59 :: 32 :: r)) (wrd w :: nmx [c] :: sgn [59] :: ps) := fun w c hw hc =>
  (lim_nm (h.bl.free 59 (by decide)) [c] hc (.cons (by decide))).kw w hw
 match k, hk with
 | 0, _ => exact hv [118, 97, 114] 120 (by decide) (by kernel_rfl)
 | 1, _ =>
  unfold limF limG
  by_cases hj : j % 2 = 0
  ·simp only [hj, if_true]; exact hv [109, 117, 116, 101, 120] 120 (by decide) (by kernel_rfl)
  ·simp only [hj, if_false]; exact hv [114, 109, 117, 116, 101, 120] 121 (by decide) (by kernel_rfl)
 | 2, _ => exact (lim_nm ((((h.bl.free 125 (by decide)).bl.free 123 (by decide)).bl.free 41 (by decide)).free 40 (by decide)) [102] (by kernel_rfl) (.cons (by decide))).kw [102, 117, 110, 99] (by decide)
theorem lim_cat {k : Nat} (hk : k < 3) : ∀ (n : Nat) {r : List UInt8} {ps : List PT}, Lx r ps → Lx (catL (limF k) n ++ r) (catL (limG k) n ++ ps)
 | 0, _, _, h => h
 | n + 1, r, ps, h => by
  rw [catL, catL, List.append_assoc, List.append_assoc]; exact lim_cat hk n (lim_piece hk h)
theorem lim_par : ∀ (n : Nat) {r : List UInt8} {ps : List PT}, NoNam r → Lx r ps → Lx (catL (limF 3) n ++ r) (catL (limG 3) n ++ ps)
 | 0, _, _, _, h => h
 | 1, r, ps, hr, h => lim_nm h [120] (by kernel_rfl) hr
 | n + 2, r, ps, hr, h => by
  show Lx (catL (limF 3) (n + 1) ++ limF 3 (n + 1) ++ r) (catL (limG 3) (n + 1) ++ limG 3 (n + 1) ++ ps)
  rw [List.append_assoc, List.append_assoc]
  have e : limF 3 (n + 1) = [44, 32, 109, 117, 116, 101, 120, 32, 121] := rfl
  have e2 : limG 3 (n + 1) = [sgn [44], wrd [109, 117, 116, 101, 120], nmx [121]] := rfl
  rw [e, e2]
  exact lim_par (n + 1) (.cons (by decide)) ((((lim_nm h [121] (by kernel_rfl) hr).kw [109, 117, 116, 101, 120] (by decide)).bl).free 44 (by decide))
theorem lim_num (n : Nat) : numberL (n : Int) = digitsL n := by unfold numberL; rw [if_neg (by omega)]; rfl
theorem lim_lx (k n : Nat) (hn : n < 70) : Lx (limT k n) (limK k n) := by
 unfold limT limK
 by_cases hk : k < 3
 ·rw [if_pos hk, if_pos hk]
  have := lim_cat hk n (r := []) (ps := []) .end
  simpa using this
 ·rw [if_neg hk, if_neg hk]
  by_cases h3 : k = 3
  ·rw [if_pos h3, if_pos h3]
   have h9 := lim_par n (r := [41, 32, 123, 32, 125]) (ps := [sgn [41], sgn [123], sgn [125]]) (.cons (by decide)) ((((Lx.end.free 125 (by decide)).bl.free 123 (by decide)).bl).free 41 (by decide))
   have h8 := (lim_nm (h9.free 40 (by decide)) [102] (by kernel_rfl) (.cons (by decide))).kw [102, 117, 110, 99] (by decide)
   simpa using h8
  ·rw [if_neg h3, if_neg h3, lim_num]
   have h9 := (((Lx.end.free 59 (by decide)).free 93 (by decide)).num n (by omega) (.cons (by decide))).free 91 (by decide)
   have h8 := (lim_nm h9 [120] (by kernel_rfl) (.cons (by decide))).kw [109, 117, 116, 101, 120] (by decide)
   simpa using h8
def resE (r : PRes AProg) : Nat := match r with | .ok _ _ => 0 | .err _ e => e
theorem progX_e {s : List UInt8} {L : List Tok} (h : lexL s = .ok L) : (progX s).2.2 = resE (programP L) := by
 have hok := TOk.of h
 cases h2 : programP L with
 | ok x k => rw [progX_good h h2]; rfl
 | err k e =>
  have hb : k < L.length := by have h9 : (programP L).At L 0 := progP_at hok.last _ _ _ hok.last.1; rw [h2] at h9; exact h9.2.1
  rw [progX_bad h h2 hb]; rfl
theorem progX_lx {s : List UInt8} {ps : List PT} (h : Lx s ps) (hs : s.length ≤ 262144) (hp : ps.length ≤ 4000) : (progX s).2.2 = resE (programP ((ps ++ [endPT]).map unpt)) := by
 obtain ⟨L, hL, hpt⟩ := lexL_lx h hs hp
 rw [progX_e hL, programP_c0 (EqTok.of (hpt.trans (pt_unpt _).symm))]
def limChk (k n : Nat) : Bool := decide ((limT k n).length ≤ 2000) && decide ((limK k n).length ≤ 2000) && decide (resE (programP ((limK k n ++ [endPT]).map unpt)) = if limMost k n then 0 else 3)
set_option maxRecDepth 100000 in
theorem lim_0_0 : ((List.range 24).all fun i => limChk 0 (0 + i)) = true := by kernel_rfl
set_option maxRecDepth 100000 in
theorem lim_0_1 : ((List.range 24).all fun i => limChk 0 (24 + i)) = true := by kernel_rfl
set_option maxRecDepth 100000 in
theorem lim_0_2 : ((List.range 24).all fun i => limChk 0 (48 + i)) = true := by kernel_rfl
set_option maxRecDepth 100000 in
theorem lim_1_0 : ((List.range 24).all fun i => limChk 1 (0 + i)) = true := by kernel_rfl
set_option maxRecDepth 100000 in
theorem lim_1_1 : ((List.range 24).all fun i => limChk 1 (24 + i)) = true := by kernel_rfl
set_option maxRecDepth 100000 in
theorem lim_1_2 : ((List.range 24).all fun i => limChk 1 (48 + i)) = true := by kernel_rfl
set_option maxRecDepth 100000 in
theorem lim_2_0 : ((List.range 24).all fun i => limChk 2 (0 + i)) = true := by kernel_rfl
set_option maxRecDepth 100000 in
theorem lim_2_1 : ((List.range 24).all fun i => limChk 2 (24 + i)) = true := by kernel_rfl
set_option maxRecDepth 100000 in
theorem lim_2_2 : ((List.range 24).all fun i => limChk 2 (48 + i)) = true := by kernel_rfl
set_option maxRecDepth 100000 in
theorem lim_3_0 : ((List.range 24).all fun i => limChk 3 (0 + i)) = true := by kernel_rfl
set_option maxRecDepth 100000 in
theorem lim_3_1 : ((List.range 24).all fun i => limChk 3 (24 + i)) = true := by kernel_rfl
set_option maxRecDepth 100000 in
theorem lim_3_2 : ((List.range 24).all fun i => limChk 3 (48 + i)) = true := by kernel_rfl
set_option maxRecDepth 100000 in
theorem lim_4_0 : ((List.range 24).all fun i => limChk 4 (0 + i)) = true := by kernel_rfl
set_option maxRecDepth 100000 in
theorem lim_4_1 : ((List.range 24).all fun i => limChk 4 (24 + i)) = true := by kernel_rfl
set_option maxRecDepth 100000 in
theorem lim_4_2 : ((List.range 24).all fun i => limChk 4 (48 + i)) = true := by kernel_rfl
theorem lim_all (k n : Nat) (hk : k < 5) (hn : n < 70) : limChk k n = true := by
 have key : ∀ c, (n = 24 * c + (n - 24 * c) ∧ n - 24 * c < 24) → ((List.range 24).all fun i => limChk k (24 * c + i)) = true → limChk k n = true := fun c h1 h2 => by
  have h3 := List.all_eq_true.1 h2 (n - 24 * c) (List.mem_range.2 h1.2)
  rw [← h1.1] at h3; exact h3
 have hc : ∃ c, c < 3 ∧ n = 24 * c + (n - 24 * c) ∧ n - 24 * c < 24 := ⟨n / 24, by omega, by omega, by omega⟩
 obtain ⟨c, hc3, h1⟩ := hc
 match k, hk, c, hc3 with
 | 0, _, 0, _ => exact key 0 h1 lim_0_0
 | 0, _, 1, _ => exact key 1 h1 lim_0_1
 | 0, _, 2, _ => exact key 2 h1 lim_0_2
 | 1, _, 0, _ => exact key 0 h1 lim_1_0
 | 1, _, 1, _ => exact key 1 h1 lim_1_1
 | 1, _, 2, _ => exact key 2 h1 lim_1_2
 | 2, _, 0, _ => exact key 0 h1 lim_2_0
 | 2, _, 1, _ => exact key 1 h1 lim_2_1
 | 2, _, 2, _ => exact key 2 h1 lim_2_2
 | 3, _, 0, _ => exact key 0 h1 lim_3_0
 | 3, _, 1, _ => exact key 1 h1 lim_3_1
 | 3, _, 2, _ => exact key 2 h1 lim_3_2
 | 4, _, 0, _ => exact key 0 h1 lim_4_0
 | 4, _, 1, _ => exact key 1 h1 lim_4_1
 | 4, _, 2, _ => exact key 2 h1 lim_4_2
theorem lim_e (k n : Nat) (hk : k < 5) (hn : n < 70) : (progX (limT k n)).2.2 = (if limMost k n then 0 else 3) ∧ (limT k n).length ≤ 2000 := by
 have h := lim_all k n hk hn
 simp only [limChk, Bool.and_eq_true, decide_eq_true_eq] at h
 exact ⟨by rw [progX_lx (lim_lx k n hn) (by omega) (by omega), h.2], h.1.1⟩
end Go.Proofs.YtflcnehhpmjipaaGreatDoor
namespace Go.Proofs.YtflcnehhpmjipaaGreatDoor
def dpT (d : Nat) : List UInt8 := if d = 0 then [105, 102, 32, 49, 32, 123] else if d = 1 then [105, 102, 32, 49, 32, 123, 32, 125, 32, 101, 108, 115, 101, 32, 123] else [119, 104, 105, 108, 101, 32, 48, 32, 123]
def dpK (d : Nat) : List PT := if d = 0 then [wrd [105, 102], ⟨2, bytes (digitsL 1), 1⟩] else if d = 1 then [wrd [105, 102], ⟨2, bytes (digitsL 1), 1⟩, sgn [123], sgn [125], wrd [101, 108, 115, 101]] else [wrd [119, 104, 105, 108, 101], ⟨2, bytes (digitsL 0), 0⟩]
def dpF (ds : List Nat) : List PT := ds.flatMap fun d => dpK d ++ [sgn [123]]
def dpB (ds : List Nat) : List PT := sgn [123] :: (dpF ds ++ List.replicate (ds.length + 1) (sgn [125]))
theorem dpB_cons (d : Nat) (ds : List Nat) : dpB (d :: ds) = sgn [123] :: (dpK d ++ (dpB ds ++ [sgn [125]])) := by
 unfold dpB dpF
 simp only [List.flatMap_cons, List.length_cons, List.append_assoc, List.cons_append, List.nil_append]
 rw [← List.replicate_succ']
def dpFront (ds : List Nat) : List UInt8 := [102, 117, 110, 99, 32, 109, 97, 105, 110, 40, 41, 32, 123] ++ ds.flatMap dpT
def dpText (ds : List Nat) : List UInt8 := dpFront ds ++ List.replicate (ds.length + 1) 125
theorem dp_lx : ∀ (ds : List Nat) {r : List UInt8} {ps : List PT}, Lx r ps → Lx (ds.flatMap dpT ++ r) (dpF ds ++ ps)
 | [], _, _, h => h
 | d :: ds, r, ps, h => by
  have ih := dp_lx ds h
  have e1 : (d :: ds).flatMap dpT ++ r = dpT d ++ (ds.flatMap dpT ++ r) := by simp
  have e2 : dpF (d :: ds) ++ ps = dpK d ++ (sgn [123] :: (dpF ds ++ ps)) := by simp [dpF]
  rw [e1, e2]
  generalize ds.flatMap dpT ++ r = r' at ih
  generalize dpF ds ++ ps = ps' at ih
  have h1 := ih.free 123 (by decide)
  have n1 : ∀ {r : List UInt8} {ps : List PT}, Lx r ps → Lx (49 :: 32 :: r) (⟨2, bytes (digitsL 1), 1⟩ :: ps) := fun h => by
   have := h.bl.num 1 (by decide) (.cons (by decide))
   rw [show digitsL 1 = [49] by kernel_rfl] at this ⊢; exact this
  have n0 : ∀ {r : List UInt8} {ps : List PT}, Lx r ps → Lx (48 :: 32 :: r) (⟨2, bytes (digitsL 0), 0⟩ :: ps) := fun h => by
   have := h.bl.num 0 (by decide) (.cons (by decide))
   rw [show digitsL 0 = [48] by kernel_rfl] at this ⊢; exact this
  unfold dpT dpK
  by_cases h0 : d = 0
  ·rw [if_pos h0, if_pos h0]; exact (n1 h1).kw [105, 102] (by decide)
  ·rw [if_neg h0, if_neg h0]
   by_cases h2 : d = 1
   ·rw [if_pos h2, if_pos h2]
    exact (n1 ((((h1.kw [101, 108, 115, 101] (by decide)).bl).free 125 (by decide)).bl.free 123 (by decide))).kw [105, 102] (by decide)
   ·rw [if_neg h2, if_neg h2]; exact (n0 h1).kw [119, 104, 105, 108, 101] (by decide)
theorem dp_close : ∀ n, Lx (List.replicate n 125) (List.replicate n (sgn [125]))
 | 0 => .end
 | n + 1 => by rw [List.replicate_succ, List.replicate_succ]; exact (dp_close n).free 125 (by decide)
theorem dpText_lx (ds : List Nat) : Lx (dpText ds) (wrd [102, 117, 110, 99] :: nmx [109, 97, 105, 110] :: sgn [40] :: sgn [41] :: dpB ds) := by
 have h1 := ((((dp_lx ds (dp_close (ds.length + 1))).free 123 (by decide)).bl.free 41 (by decide)).free 40 (by decide))
 have h2 := (lim_nm h1 [109, 97, 105, 110] (by kernel_rfl) (.cons (by decide))).kw [102, 117, 110, 99] (by decide)
 unfold dpText dpFront
 simpa [dpB] using h2
section
variable {l : List Tok}
theorem dp_num {k n : Nat} {q : List PT} (hn : n ≤ 9) (hs : Seg l k (⟨2, bytes (digitsL n), n⟩ :: sgn [123] :: q)) : exprP l k = .ok (.mk 1 n emptyB []) (k + 1) := by
 have h9 : VX (.mk 1 n emptyB []) := ⟨.num n (by omega), by rw [heightN, argsHeight]; simp [strengthN]⟩
 have h8 := (h9.parse (l := l) (k := k) (s := [123]) (q := q) (by rw [toks_num]; exact hs) (by decide)).1
 rw [toks_num] at h8; exact h8
theorem dp_nword {k : Nat} {s u : List UInt8} (h : (tokAt l k).pt = wrd s) (hu : decide (bytes s = bytes u) = false) : wordAt l k u = false := by rw [word_pt h u, hu]
theorem dp_block : ∀ (ds : List Nat) (D k : Nat) (q : List PT), k ≤ l.length → Seg l k (dpB ds ++ q) → (ds.length + 1 ≤ D → ∃ b, blockP l D k = .ok b (k + (dpB ds).length)) ∧ (¬ ds.length + 1 ≤ D → ∃ a, blockP l D k = .err a 3)
 | [], 0, k, q, hk, hs => ⟨fun h => absurd h (by simp), fun _ => ⟨k, by rw [blockP, if_pos (sign_yes hs.head.1)]⟩⟩
 | [], D + 1, k, q, hk, hs => by
  refine ⟨fun _ => ?_, fun h => absurd (by simp) h⟩
  have h1 := hs.head
  have h2 := h1.2.2.head
  obtain ⟨f, hf⟩ : ∃ f, l.length = f + 1 := ⟨l.length - 1, by have := h1.2.1; omega⟩
  refine ⟨[], ?_⟩
  rw [blockP, want_yes h1.1, bind_ok, hf, stmtsP, if_pos (sign_yes h2.1)]
  simp [dpB, dpF]
 | d :: ds, 0, k, q, hk, hs => ⟨fun h => absurd h (by simp), fun _ => ⟨k, by rw [blockP, if_pos (sign_yes hs.head.1)]⟩⟩
 | d :: ds, D + 1, k, q, hk, hs => by
  rw [dpB_cons] at hs ⊢
  have h1 := hs.head
  have h2 : Seg l (k + 1) (dpK d ++ (dpB ds ++ sgn [125] :: q)) := by have := h1.2.2; simpa using this
  have hl1 : k + 1 ≤ l.length := h1.2.1
  obtain ⟨f, hf⟩ : ∃ f, l.length = f + 2 := ⟨l.length - 2, by
   have h3 := h2.len hl1
   have h4 : 1 ≤ (dpK d).length := by unfold dpK; (repeat' split) <;> simp
   simp only [List.length_append, List.length_cons] at h3; omega⟩
  have key : ∀ (S : PRes AStmt), stmtP l (blockP l D) (k + 1) = S → signAt l (k + 1) [125] = false → (∀ s k2, S = .ok s k2 → (tokAt l k2).pt = sgn [125]) →
    (∀ s k2, S = .ok s k2 → blockP l (D + 1) k = .ok [s] (k2 + 1)) ∧ (∀ a e, S = .err a e → blockP l (D + 1) k = .err a e) := by
   intro S hS hn hend
   have e0 : blockP l (D + 1) k = S.bind fun s k => stmtsP l (stmtP l (blockP l D)) (f + 1) ([] ++ [s]) k := by
    rw [blockP, want_yes h1.1, bind_ok, hf, stmtsP, if_neg (by rw [hn]; decide), hS]
   refine ⟨fun s k2 h => ?_, fun a e h => by rw [e0, h, bind_err]⟩
   rw [e0, h, bind_ok, stmtsP, if_pos (sign_yes (hend s k2 h))]; rfl
  have fin : ∀ (pre : Nat) (mkS : List AStmt → AStmt) (kb : Nat), kb = k + 1 + pre → pre = (dpK d).length → Seg l kb (dpB ds ++ sgn [125] :: q) → signAt l (k + 1) [125] = false →
    (∀ b, blockP l D kb = .ok b (kb + (dpB ds).length) → stmtP l (blockP l D) (k + 1) = .ok (mkS b) (kb + (dpB ds).length)) → (∀ a, blockP l D kb = .err a 3 → ∃ a', stmtP l (blockP l D) (k + 1) = .err a' 3) →
    ((d :: ds).length + 1 ≤ D + 1 → ∃ b, blockP l (D + 1) k = .ok b (k + (sgn [123] :: (dpK d ++ (dpB ds ++ [sgn [125]]))).length)) ∧ (¬ (d :: ds).length + 1 ≤ D + 1 → ∃ a, blockP l (D + 1) k = .err a 3) := by
   intro pre mkS kb hkb hpre hseg hn hok herr
   have hkl : kb ≤ l.length := Nat.le_of_lt hseg.head.2.1
   obtain ⟨i1, i2⟩ := dp_block ds D kb _ hkl hseg
   have hnext : (tokAt l (kb + (dpB ds).length)).pt = sgn [125] := (hseg.app).2.head.1
   refine ⟨fun h => ?_, fun h => ?_⟩
   ·obtain ⟨b, hb⟩ := i1 (by simpa using h)
    have hS := hok b hb
    refine ⟨[mkS b], ?_⟩
    rw [(key _ hS hn (fun s k2 h => by cases h; exact hnext)).1 _ _ rfl]
    congr 1
    simp only [List.length_cons, List.length_append, List.length_nil]; omega
   ·obtain ⟨a, ha⟩ := i2 (by simpa using h)
    obtain ⟨a', ha'⟩ := herr a ha
    exact ⟨a', (key _ ha' hn (fun s k2 h => by cases h)).2 _ _ rfl⟩
  have lastword : ∀ k2 s, (tokAt l k2).pt = sgn s → ∀ u, wordAt l k2 u = false := fun k2 s h u => word_no h (by show (4 : Nat) ≠ 3; decide) u
  by_cases h0 : d = 0
  ·subst h0
   have g1 := h2.head
   have g2 : Seg l (k + 2) (⟨2, bytes (digitsL 1), 1⟩ :: sgn [123] :: ((dpF ds ++ List.replicate (ds.length + 1) (sgn [125])) ++ sgn [125] :: q)) := g1.2.2
   have g3 : Seg l (k + 3) (dpB ds ++ sgn [125] :: q) := g2.head.2.2
   have hw : wordAt l (k + 1) [105, 102] = true := by rw [word_pt g1.1]; decide
   have hst : stmtP l (blockP l D) (k + 1) = ifP l (blockP l D) (k + 2) := by
    unfold stmtP
    rw [if_neg (by rw [dp_nword g1.1 (by decide)]; decide), if_neg (by rw [dp_nword g1.1 (by decide)]; decide), if_neg (by rw [dp_nword g1.1 (by decide)]; decide), if_neg (by rw [dp_nword g1.1 (by decide)]; decide), if_pos hw]
   have hif : ifP l (blockP l D) (k + 2) = (blockP l D (k + 3)).bind fun t k => elseP l (blockP l D) (.mk 1 (1 : Nat) emptyB []) t k := by
    unfold ifP; rw [dp_num (n := 1) (by decide) g2, bind_ok]
   have hnx : (tokAt l (k + 3 + (dpB ds).length)).pt = sgn [125] := (g3.app).2.head.1
   refine fin 2 (fun b => .mk 7 emptyB (.mk 1 (1 : Nat) emptyB []) .zero [] b []) (k + 3) (by omega) rfl g3 (sign_no g1.1 (by show (3 : Nat) ≠ 4; decide) _) (fun b hb => ?_) (fun a ha => ?_)
   ·rw [hst, hif, hb, bind_ok]; unfold elseP; rw [if_neg (by rw [lastword _ _ hnx]; decide)]
   ·exact ⟨a, by rw [hst, hif, ha, bind_err]⟩
  ·by_cases h3 : d = 1
   ·subst h3
    have g1 := h2.head
    have g2 : Seg l (k + 2) (⟨2, bytes (digitsL 1), 1⟩ :: sgn [123] :: (sgn [125] :: wrd [101, 108, 115, 101] :: (dpB ds ++ sgn [125] :: q))) := g1.2.2
    have g3 : Seg l (k + 3) (dpB [] ++ (wrd [101, 108, 115, 101] :: (dpB ds ++ sgn [125] :: q))) := g2.head.2.2
    have g5 : Seg l (k + 5) (wrd [101, 108, 115, 101] :: (dpB ds ++ sgn [125] :: q)) := (g3.app).2
    have g6 : Seg l (k + 6) (dpB ds ++ sgn [125] :: q) := g5.head.2.2
    have hw : wordAt l (k + 1) [105, 102] = true := by rw [word_pt g1.1]; decide
    have he : wordAt l (k + 5) [101, 108, 115, 101] = true := by rw [word_pt g5.head.1]; decide
    have hst : stmtP l (blockP l D) (k + 1) = ifP l (blockP l D) (k + 2) := by
     unfold stmtP
     rw [if_neg (by rw [dp_nword g1.1 (by decide)]; decide), if_neg (by rw [dp_nword g1.1 (by decide)]; decide), if_neg (by rw [dp_nword g1.1 (by decide)]; decide), if_neg (by rw [dp_nword g1.1 (by decide)]; decide), if_pos hw]
    have hif : ifP l (blockP l D) (k + 2) = (blockP l D (k + 3)).bind fun t k => elseP l (blockP l D) (.mk 1 (1 : Nat) emptyB []) t k := by
     unfold ifP; rw [dp_num (n := 1) (by decide) g2, bind_ok]
    obtain ⟨j1, j2⟩ := dp_block [] D (k + 3) _ (Nat.le_of_lt g3.head.2.1) g3
    refine fin 5 (fun b => .mk 7 emptyB (.mk 1 (1 : Nat) emptyB []) .zero [] (match blockP l D (k + 3) with | .ok t _ => t | .err _ _ => []) b) (k + 6) (by omega) rfl g6 (sign_no g1.1 (by show (3 : Nat) ≠ 4; decide) _) (fun b hb => ?_) (fun a ha => ?_)
    ·have hD : 1 ≤ D := by
      rcases Nat.eq_zero_or_pos D with h | h
      ·subst h; rw [blockP] at hb; split at hb <;> cases hb
      ·exact h
     obtain ⟨t, ht⟩ := j1 (by simpa using hD)
     have ht' : blockP l D (k + 3) = .ok t (k + 5) := ht
     rw [hst, hif, ht', bind_ok]; unfold elseP; rw [if_pos he, hb, bind_ok]
    ·by_cases hD : 1 ≤ D
     ·obtain ⟨t, ht⟩ := j1 (by simpa using hD)
      have ht' : blockP l D (k + 3) = .ok t (k + 5) := ht
      exact ⟨a, by rw [hst, hif, ht', bind_ok]; unfold elseP; rw [if_pos he, ha, bind_err]⟩
     ·obtain ⟨a', ha'⟩ := j2 (by simpa using hD)
      exact ⟨a', by rw [hst, hif, ha', bind_err]⟩
   ·have hd : dpK d = [wrd [119, 104, 105, 108, 101], ⟨2, bytes (digitsL 0), 0⟩] := by unfold dpK; rw [if_neg h0, if_neg h3]
    rw [hd] at h2
    have g1 := h2.head
    have g2 : Seg l (k + 2) (⟨2, bytes (digitsL 0), 0⟩ :: sgn [123] :: ((dpF ds ++ List.replicate (ds.length + 1) (sgn [125])) ++ sgn [125] :: q)) := g1.2.2
    have g3 : Seg l (k + 3) (dpB ds ++ sgn [125] :: q) := g2.head.2.2
    have hw : wordAt l (k + 1) [119, 104, 105, 108, 101] = true := by rw [word_pt g1.1]; decide
    have hst : stmtP l (blockP l D) (k + 1) = whileP l (blockP l D) (k + 2) := by
     unfold stmtP
     rw [if_neg (by rw [dp_nword g1.1 (by decide)]; decide), if_neg (by rw [dp_nword g1.1 (by decide)]; decide), if_neg (by rw [dp_nword g1.1 (by decide)]; decide), if_neg (by rw [dp_nword g1.1 (by decide)]; decide), if_neg (by rw [dp_nword g1.1 (by decide)]; decide), if_pos hw]
    have hif : whileP l (blockP l D) (k + 2) = (blockP l D (k + 3)).bind fun t k => .ok (.mk 8 emptyB (.mk 1 (0 : Nat) emptyB []) .zero [] t []) k := by
     unfold whileP; rw [dp_num (n := 0) (by decide) g2, bind_ok]
    refine fin 2 (fun b => .mk 8 emptyB (.mk 1 (0 : Nat) emptyB []) .zero [] b []) (k + 3) (by omega) (by rw [hd]; rfl) g3 (sign_no g1.1 (by show (3 : Nat) ≠ 4; decide) _) (fun b hb => ?_) (fun a ha => ?_)
    ·rw [hst, hif, hb, bind_ok]
    ·exact ⟨a, by rw [hst, hif, ha, bind_err]⟩
theorem dp_prog (ds : List Nat) (hs : Seg l 0 ((wrd [102, 117, 110, 99] :: nmx [109, 97, 105, 110] :: sgn [40] :: sgn [41] :: dpB ds) ++ [endPT])) : resE (programP l) = if ds.length + 1 ≤ 24 then 0 else 3 := by
 have g0 := hs.head
 have g1 : Seg l 1 (nmx [109, 97, 105, 110] :: sgn [40] :: sgn [41] :: (dpB ds ++ [endPT])) := g0.2.2
 have g2 := g1.head.2.2
 have g3 := g2.head.2.2
 have g4 : Seg l 4 (dpB ds ++ [endPT]) := g3.head.2.2
 obtain ⟨f, hf⟩ : ∃ f, l.length = f + 2 := ⟨l.length - 2, by have := g3.head.2.1; omega⟩
 have hname : nameP l 1 = .ok (bytes [109, 97, 105, 110]) 2 := by
  have h1 : (tokAt l 1).pt = nmx [109, 97, 105, 110] := g1.head.1
  have hk : (tokAt l 1).kind = 1 := congrArg PT.kind h1
  have ht : (tokAt l 1).text = bytes [109, 97, 105, 110] := congrArg PT.text h1
  unfold nameP; rw [if_pos hk, ht]
 have hpar : parensP l (paramP l) 2 = .ok [] 4 := by
  unfold parensP; rw [want_yes g2.head.1, bind_ok, if_pos (sign_yes g3.head.1)]
 have hk5 : ¬ (tokAt l 0).kind = 5 := by
  have : (tokAt l 0).kind = 3 := congrArg PT.kind g0.1
  rw [this]; decide
 have hdecl : declP l ⟨[], [], []⟩ 0 = (blockP l 24 4).bind fun b k => .ok ⟨[], [], [⟨bytes [109, 97, 105, 110], [], b⟩]⟩ k := by
  unfold declP
  have hw : wordAt l 0 [102, 117, 110, 99] = true := by rw [word_pt g0.1]; decide
  rw [if_neg (by rw [dp_nword g0.1 (by decide)]; decide), if_neg (by rw [dp_nword g0.1 (by decide)]; decide), if_neg (by rw [dp_nword g0.1 (by decide)]; decide), if_pos hw, if_neg (by simp)]
  unfold funcP
  rw [hname, bind_ok, hpar, bind_ok]
  cases blockP l 24 4 with
  | ok b k => rfl
  | err a e => rfl
 obtain ⟨j1, j2⟩ := dp_block ds 24 4 _ (Nat.le_of_lt g4.head.2.1) g4
 unfold programP
 rw [hf, progP, if_neg hk5, hdecl]
 by_cases h : ds.length + 1 ≤ 24
 ·obtain ⟨b, hb⟩ := j1 h
  have he : (tokAt l (4 + (dpB ds).length)).kind = 5 := congrArg PT.kind (g4.app).2.head.1
  rw [hb, bind_ok, bind_ok, progP, if_pos he, if_pos h]; rfl
 ·obtain ⟨a, ha⟩ := j2 h
  rw [ha, bind_err, bind_err, if_neg h]; rfl
end
theorem dp_len (ds : List Nat) : (ds.flatMap dpT).length ≤ 15 * ds.length ∧ (dpF ds).length ≤ 6 * ds.length := by
 induction ds with
 | nil => simp [dpF]
 | cons d ds ih =>
  have h1 : (dpT d).length ≤ 15 := by unfold dpT; (repeat' split) <;> decide
  have h2 : (dpK d).length ≤ 5 := by unfold dpK; (repeat' split) <;> simp
  simp only [dpF, List.flatMap_cons, List.length_append, List.length_cons, List.length_nil] at ih ⊢
  omega
theorem dp_e (ds : List Nat) (hd : ds.length ≤ 100) : (progX (dpText ds)).2.2 = if ds.length + 1 ≤ 24 then 0 else 3 := by
 obtain ⟨h1, h2⟩ := dp_len ds
 obtain ⟨L, hL, hpt⟩ := lexL_lx (dpText_lx ds) (by unfold dpText dpFront; simp only [List.length_append, List.length_replicate, List.length_cons, List.length_nil]; omega) (by unfold dpB; simp only [List.length_append, List.length_replicate, List.length_cons]; omega)
 rw [progX_e hL, dp_prog ds ⟨[], by rw [List.drop_zero, hpt, List.append_nil]⟩]
end Go.Proofs.YtflcnehhpmjipaaGreatDoor
