import Derived.Test.YteiefdnbdjnoiaaGreatDoorK13J
import Derived.Test.YteiefdnbdjnoiaaGreatDoorK1J
import Derived.Test.YteiefdnbdjnoiaaGreatDoorK9J
import Derived.Test.YteiefdnbdjnoiaaGreatDoorK8J
import Derived.Test.YteiefdnbdjnoiaaGreatDoorK7J
import Derived.Test.YteiefdnbdjnoiaaGreatDoorK11J
set_option linter.all false
set_option synthInstance.maxHeartbeats 1000000
set_option synthInstance.maxSize 1000000
namespace Go.Proofs.YteiefdnbdjnoiaaGreatDoor
open List (length_append length_cons length_nil mem_append mem_cons not_mem_nil append_assoc getElem_mem take_of_length_le)
section
section
variable {l : List Tok}
def aNb (t : PT) : Prop := t.kind = 1 ∨ ∃ s, t = wrd s ∧ decide (bytes s = bytes [101, 108, 115, 101]) = false
theorem aNb.sign {t : PT} {k : Nat} (h : aNb t) (ht : (bU l k).pt = t) (s : List UInt8) : cS l k s = false := by
 rcases h with h | ⟨u, rfl, _⟩
 ·exact sQ ht (by omega) s
 ·exact sQ ht (by show (3 : Nat) ≠ 4; omega) s
theorem aNb.els {t : PT} {k : Nat} (h : aNb t) (ht : (bU l k).pt = t) : dN l k [101, 108, 115, 101] = false := by
 rcases h with h | ⟨u, rfl, hu⟩
 ·exact yE ht (by omega) _
 ·rw [xY ht]; exact hu
theorem VSs.beg {d : Nat} {s : aJ} {r : List aJ} (h : VSs d (s :: r)) : ∃ t q, cE s = t :: q ∧ aNb t := by
 cases h with
 | var | go | lock | unlock | ret | loop | cond => exact ⟨_, _, by rw [cE]; rfl, .inr ⟨_, rfl, by decide⟩⟩
 | assign | call => exact ⟨_, _, by rw [cE]; rfl, .inl rfl⟩
theorem VSs.tail {d : Nat} {s : aJ} {r : List aJ} (h : VSs d (s :: r)) : VSs d r := by cases h <;> assumption
theorem aJk {d : Nat} {r : List aJ} (h : VSs d r) {k : Nat} {q : List PT} (hs : Seg l k (aQ r ++ sgn [125] :: q)) : dN l k [101, 108, 115, 101] = false := by
 cases r with
 | nil =>
  have hs' : Seg l k (sgn [125] :: q) := hs
  exact yE hs'.head.1 (by show (4 : Nat) ≠ 3; omega) _
 | cons s r =>
  obtain ⟨t, p, h1, h2⟩ := h.beg
  rw [aQ, h1] at hs
  have hs' : Seg l k (t :: (p ++ aQ r ++ sgn [125] :: q)) := by simpa using hs
  exact h2.els hs'.head.1
theorem gI {k : Nat} {s : List UInt8} (h : (bU l k).pt = wrd s) : dN l k s = true := by rw [xY h]; simp
theorem cG {k : Nat} {s u : List UInt8} (h : (bU l k).pt = wrd s) (hu : decide (bytes s = bytes u) = false) : ¬ dN l k u = true := by rw [xY h, hu]; simp
theorem wM {k : Nat} {n : ByteArray} (h : (bU l k).pt = nmT n) (u : List UInt8) : ¬ dN l k u = true := by rw [yE h (by show (1 : Nat) ≠ 3; omega)]; simp
theorem aGl {d : Nat} {s : aJ} {r : List aJ} (h : VSs d (s :: r)) (blk : Nat → bN (List aJ))
  (hb : ∀ d' b k q, d = d' + 1 → VSs d' b → k ≤ l.length → Seg l k (sgn [123] :: (aQ b ++ sgn [125] :: q)) → b.length ≤ (aQ b).length → blk k = .ok b (k + (aQ b).length + 2))
  (hc : ∀ d' b, VSs d' b → b.length ≤ (aQ b).length) {k : Nat} {q : List PT} (hk : k ≤ l.length) (hs : Seg l k (cE s ++ (aQ r ++ sgn [125] :: q))) : fB l blk k = .ok s (k + (cE s).length) := by
 have hlen := hs.app.1.len hk
 cases h with
 | @var _ n e _ hn he h =>
  rw [cE] at hs hlen ⊢
  simp only [if_true] at hs hlen ⊢
  obtain ⟨h1, _, h2⟩ := hs.head
  unfold fB
  rw [if_pos (gI h1)]
  obtain ⟨h3, _, h4⟩ := h2.head
  obtain ⟨h5, _, h6⟩ := h4.head
  obtain ⟨h7, h8⟩ := he.parse (s := [59]) (q := aQ r ++ sgn [125] :: q) (by simpa using h6) (by decide)
  unfold qI
  rw [jH h3, bind_ok, iV h5, bind_ok, h7, bind_ok, kI _ h8]
  simp; omega
 | @assign _ n e _ hn he h =>
  rw [cE] at hs hlen ⊢
  simp only [if_true, show ¬ ((2 : Int) = 1) by decide, if_false] at hs hlen ⊢
  obtain ⟨h3, _, h4⟩ := hs.head
  obtain ⟨h5, _, h6⟩ := h4.head
  obtain ⟨h7, h8⟩ := he.parse (s := [59]) (q := aQ r ++ sgn [125] :: q) (by simpa using h6) (by decide)
  unfold fB
  repeat rw [if_neg (wM h3 _)]
  unfold mG
  rw [jH h3, bind_ok]
  unfold iB
  rw [if_pos (jY h5), h7, bind_ok, kI _ h8]
  simp; omega
 | @call _ n a _ hn ha h =>
  rw [cE] at hs hlen ⊢
  simp only [if_true, show ¬ ((3 : Int) = 1) by decide, show ¬ ((3 : Int) = 2) by decide, if_false] at hs hlen ⊢
  obtain ⟨h3, hk3, h4⟩ := hs.head
  have h4' : Seg l (k + 1) (iG a ++ sgn [59] :: (aQ r ++ sgn [125] :: q)) := by simpa using h4
  have h5 : Seg l (k + 1) (sgn [40] :: (fZ wH a ++ [sgn [41]] ++ sgn [59] :: (aQ r ++ sgn [125] :: q))) := by simpa [iG] using h4'
  obtain ⟨h7, h8⟩ := yY ha (by omega) h4'
  unfold fB
  repeat rw [if_neg (wM h3 _)]
  unfold mG
  rw [jH h3, bind_ok]
  unfold iB
  rw [if_neg (by rw [gK h5.head.1]; decide), h7, bind_ok, kI _ h8]
  simp; omega
 | @go _ n a _ hn ha h =>
  rw [cE] at hs hlen ⊢
  simp only [if_true, show ¬ ((4 : Int) = 1) by decide, show ¬ ((4 : Int) = 2) by decide, show ¬ ((4 : Int) = 3) by decide, if_false] at hs hlen ⊢
  obtain ⟨h1, _, h2⟩ := hs.head
  obtain ⟨h3, hk3, h4⟩ := h2.head
  have h4' : Seg l (k + 1 + 1) (iG a ++ sgn [59] :: (aQ r ++ sgn [125] :: q)) := by simpa using h4
  obtain ⟨h7, h8⟩ := yY ha (by omega) h4'
  unfold fB
  rw [if_neg (cG h1 (by decide)), if_pos (gI h1)]
  unfold goP
  rw [jH h3, bind_ok, h7, bind_ok, kI _ h8]
  simp; omega
 | @lock _ f _ hf h =>
  rw [cE] at hs hlen ⊢
  simp only [if_true, show ¬ ((5 : Int) = 1) by decide, show ¬ ((5 : Int) = 2) by decide, show ¬ ((5 : Int) = 3) by decide, show ¬ ((5 : Int) = 4) by decide, if_false] at hs hlen ⊢
  obtain ⟨h1, _, h2⟩ := hs.head
  obtain ⟨h7, h8⟩ := hf.parse (s := [59]) (q := aQ r ++ sgn [125] :: q) (by simpa using h2) (by decide)
  unfold fB
  rw [if_neg (cG h1 (by decide)), if_neg (cG h1 (by decide)), if_pos (gI h1)]
  unfold nH
  rw [h7, bind_ok, kI _ h8]
  simp; omega
 | @unlock _ f _ hf h =>
  rw [cE] at hs hlen ⊢
  simp only [if_true, show ¬ ((6 : Int) = 1) by decide, show ¬ ((6 : Int) = 2) by decide, show ¬ ((6 : Int) = 3) by decide, show ¬ ((6 : Int) = 4) by decide, show ¬ ((6 : Int) = 5) by decide, if_false] at hs hlen ⊢
  obtain ⟨h1, _, h2⟩ := hs.head
  obtain ⟨h7, h8⟩ := hf.parse (s := [59]) (q := aQ r ++ sgn [125] :: q) (by simpa using h2) (by decide)
  unfold fB
  rw [if_neg (cG h1 (by decide)), if_neg (cG h1 (by decide)), if_neg (cG h1 (by decide)), if_pos (gI h1)]
  unfold nH
  rw [h7, bind_ok, kI _ h8]
  simp; omega
 | @cond d e t f _ he ht hf h =>
  rw [cE] at hs hlen ⊢
  simp only [if_true, show ¬ ((7 : Int) = 1) by decide, show ¬ ((7 : Int) = 2) by decide, show ¬ ((7 : Int) = 3) by decide, show ¬ ((7 : Int) = 4) by decide, show ¬ ((7 : Int) = 5) by decide, show ¬ ((7 : Int) = 6) by decide, show ¬ ((7 : Int) = 8) by decide, true_or, if_false] at hs hlen ⊢
  obtain ⟨h1, _, h2⟩ := hs.head
  obtain ⟨h7, h8⟩ := he.parse (s := [123]) (q := aQ t ++ sgn [125] :: ((if f.length = 0 then [] else wrd [101, 108, 115, 101] :: sgn [123] :: (aQ f ++ [sgn [125]])) ++ (aQ r ++ sgn [125] :: q))) (by simpa using h2) (by decide)
  have hk8 := h8.head.2.1
  have h9 := hb d t _ _ rfl ht (by omega) h8 (hc _ _ ht)
  obtain ⟨_, _, h10⟩ := (h8.head.2.2.app.2).head
  unfold fB
  rw [if_neg (cG h1 (by decide)), if_neg (cG h1 (by decide)), if_neg (cG h1 (by decide)), if_neg (cG h1 (by decide)), if_pos (gI h1)]
  unfold ifP
  rw [h7, bind_ok, h9, bind_ok]
  have ek : k + 1 + (aT e).length + (aQ t).length + 2 = k + 1 + (aT e).length + 1 + (aQ t).length + 1 := by omega
  rw [ek]
  unfold tA
  by_cases hz : f.length = 0
  ·rw [if_pos hz] at h10 hlen ⊢
   rw [if_neg (by rw [aJk h h10]; simp)]
   have : f = [] := List.length_eq_zero_iff.1 hz
   subst this
   simp; omega
  ·rw [if_neg hz] at h10 hlen ⊢
   obtain ⟨h11, _, h12⟩ := h10.head
   rw [if_pos (gI h11)]
   have h12' : Seg l (k + 1 + (aT e).length + 1 + (aQ t).length + 1 + 1) (sgn [123] :: (aQ f ++ sgn [125] :: (aQ r ++ sgn [125] :: q))) := by simpa using h12
   have hk12 := h12'.head.2.1
   rw [hb d f _ _ rfl hf (by omega) h12' (hc _ _ hf), bind_ok]
   simp; omega
 | @loop d e t _ he ht h =>
  rw [cE] at hs hlen ⊢
  simp only [if_true, show ¬ ((8 : Int) = 1) by decide, show ¬ ((8 : Int) = 2) by decide, show ¬ ((8 : Int) = 3) by decide, show ¬ ((8 : Int) = 4) by decide, show ¬ ((8 : Int) = 5) by decide, show ¬ ((8 : Int) = 6) by decide, or_true, if_false, length_nil] at hs hlen ⊢
  obtain ⟨h1, _, h2⟩ := hs.head
  obtain ⟨h7, h8⟩ := he.parse (s := [123]) (q := aQ t ++ sgn [125] :: (aQ r ++ sgn [125] :: q)) (by simpa using h2) (by decide)
  have hk8 := h8.head.2.1
  have h9 := hb d t _ _ rfl ht (by omega) h8 (hc _ _ ht)
  unfold fB
  rw [if_neg (cG h1 (by decide)), if_neg (cG h1 (by decide)), if_neg (cG h1 (by decide)), if_neg (cG h1 (by decide)), if_neg (cG h1 (by decide)), if_pos (gI h1)]
  unfold pJ
  rw [h7, bind_ok, h9, bind_ok]
  simp; omega
 | @ret _ _ h =>
  rw [cE] at hs hlen ⊢
  simp only [show ¬ ((9 : Int) = 1) by decide, show ¬ ((9 : Int) = 2) by decide, show ¬ ((9 : Int) = 3) by decide, show ¬ ((9 : Int) = 4) by decide, show ¬ ((9 : Int) = 5) by decide, show ¬ ((9 : Int) = 6) by decide, show ¬ ((9 : Int) = 8) by decide, show ¬ ((9 : Int) = 7) by decide, or_self, if_false] at hs hlen ⊢
  obtain ⟨h1, _, h2⟩ := hs.head
  unfold fB
  rw [if_neg (cG h1 (by decide)), if_neg (cG h1 (by decide)), if_neg (cG h1 (by decide)), if_neg (cG h1 (by decide)), if_neg (cG h1 (by decide)), if_neg (cG h1 (by decide)), if_pos (gI h1)]
  unfold aD8
  rw [kI _ h2]
  rfl
theorem VSs.count {d : Nat} {b : List aJ} (h : VSs d b) : b.length ≤ (aQ b).length := by
 induction b with
 | nil => simp
 | cons s r ih =>
  obtain ⟨t, q, h1, _⟩ := h.beg
  have := ih h.tail
  rw [aQ, h1]
  simp; omega
theorem xJ {d : Nat} (st : Nat → bN aJ) (hst : ∀ s r k q, VSs d (s :: r) → k ≤ l.length → Seg l k (cE s ++ (aQ r ++ sgn [125] :: q)) → st k = .ok s (k + (cE s).length)) :
  ∀ (b acc : List aJ) (n k : Nat) (q : List PT), VSs d b → b.length < n → k ≤ l.length → Seg l k (aQ b ++ sgn [125] :: q) → eS l st n acc k = .ok (acc ++ b) (k + (aQ b).length + 1)
 | [], acc, n, k, q, _, hn, _, hs => by
  obtain ⟨n, rfl⟩ : ∃ n', n = n' + 1 := ⟨n - 1, by simp at hn; omega⟩
  have hs' : Seg l k (sgn [125] :: q) := hs
  unfold eS
  rw [if_pos (jY hs'.head.1)]
  simp [aQ]
 | s :: r, acc, n, k, q, h, hn, hk, hs => by
  obtain ⟨n, rfl⟩ : ∃ n', n = n' + 1 := ⟨n - 1, by simp at hn; omega⟩
  rw [aQ] at hs
  have hs' : Seg l k (cE s ++ (aQ r ++ sgn [125] :: q)) := by simpa using hs
  obtain ⟨t, p, h1, h2⟩ := h.beg
  have h3 : Seg l k (t :: (p ++ (aQ r ++ sgn [125] :: q))) := by rw [h1] at hs'; exact hs'
  have hlen := hs'.app.1.len hk
  unfold eS
  rw [if_neg (by rw [h2.sign h3.head.1]; simp), hst s r k q h hk hs', bind_ok, xJ st hst r (acc ++ [s]) n _ q h.tail (by simp at hn; omega) hlen hs'.app.2]
  rw [aQ]
  simp; omega
theorem xI : ∀ (d : Nat) (b : List aJ) (k : Nat) (q : List PT), VSs d b → k ≤ l.length → Seg l k (sgn [123] :: (aQ b ++ sgn [125] :: q)) → eX l (d + 1) k = .ok b (k + (aQ b).length + 2)
 | d, b, k, q, h, hk, hs => by
  obtain ⟨h1, hk1, h2⟩ := hs.head
  have hlen := hs.len hk
  have hcnt := h.count
  simp at hlen
  unfold eX
  rw [iV h1, bind_ok]
  rw [xJ (d := d) (fB l (eX l d)) (fun s r k q hh hk hs => aGl hh (eX l d) (fun d' b k q hd hb hk hs _ => by
   subst hd
   exact xI d' b k q hb hk hs) (fun _ _ hb => hb.count) hk hs) b [] l.length (k + 1) q h (by omega) (by omega) h2]
  simp; omega
end
end
section
inductive fF where
 | glob (g : aI)
 | mtx (m : cL)
 | fn (f : bS)
def VG (g : aI) : Prop := bQ g.name = true ∧ g.init.natAbs ≤ 9223372036854775807
def VM (m : cL) : Prop := bQ m.name = true ∧ 0 ≤ m.size ∧ m.size ≤ 64 ∧ (m.reentrant = true → m.size = 0)
def VF (f : bS) : Prop := bQ f.name = true ∧ f.params.length ≤ 6 ∧ (∀ x, x ∈ f.params → bQ x.name = true) ∧ VSs 23 f.body
def fF.ok : fF → Prop
 | .glob g => VG g
 | .mtx m => VM m
 | .fn f => VF f
def fF.text : fF → List UInt8
 | .glob g => aU g
 | .mtx m => bE m
 | .fn f => funcText f
def bEr (g : aI) : List PT := wrd [118, 97, 114] :: nmT g.name :: ((if g.init = 0 then [] else sgn [61] :: (if g.init < 0 then [sgn [45], nuT g.init.natAbs] else [nuT g.init.natAbs])) ++ [sgn [59]])
def gT (m : cL) : List PT := (if m.reentrant then wrd [114, 109, 117, 116, 101, 120] else wrd [109, 117, 116, 101, 120]) :: nmT m.name :: ((if 0 < m.size then [sgn [91], nuT m.size.natAbs, sgn [93]] else []) ++ [sgn [59]])
def lQ (x : aS) : List PT := (if x.mutex then [wrd [109, 117, 116, 101, 120]] else []) ++ [nmT x.name]
def kA (f : bS) : List PT := wrd [102, 117, 110, 99] :: nmT f.name :: sgn [40] :: (fZ lQ f.params ++ sgn [41] :: sgn [123] :: (aQ f.body ++ [sgn [125]]))
def fF.toks : fF → List PT
 | .glob g => bEr g
 | .mtx m => gT m
 | .fn f => kA f
def fF.add (x : cK) : fF → cK
 | .glob g => { x with globals := x.globals ++ [g] }
 | .mtx m => { x with mutexes := x.mutexes ++ [m] }
 | .fn f => { x with funcs := x.funcs ++ [f] }
section
variable {r : List UInt8} {ps : List PT}
theorem VG.lx {g : aI} (h : VG g) (hr : Lx r ps) : Lx (aU g ++ r) (bEr g ++ ps) := by
 obtain ⟨hn, hi⟩ := h
 unfold aU bEr
 by_cases h0 : g.init = 0
 ·rw [if_pos h0, if_pos h0]
  have h1 := (hr.semi.name g.name hn (.cons (by decide))).kw [118, 97, 114] (by decide)
  simpa [nmT] using h1
 ·rw [if_neg h0, if_neg h0]
  have h1 := hr.semi.num g.init.natAbs hi (.cons (by decide))
  have hsta : Sta (cO g.init.natAbs ++ 59 :: 10 :: r) := by
   have := (VE.num g.init.natAbs hi).sta
   rw [wE] at this
   exact this.app _
  unfold eH
  by_cases hneg : g.init < 0
  ·rw [if_pos hneg, if_pos hneg]
   have h2 := (((h1.pre 45 (by decide) hsta).bl.one' 61 (by decide) (Fin.cons (by decide))).bl.name g.name hn (.cons (by decide))).kw [118, 97, 114] (by decide)
   simpa [nmT, nuT] using h2
  ·rw [if_neg hneg, if_neg hneg]
   have h2 := ((h1.bl.one' 61 (by decide) (Fin.cons (by decide))).bl.name g.name hn (.cons (by decide))).kw [118, 97, 114] (by decide)
   simpa [nmT, nuT] using h2
theorem VM.lx {m : cL} (h : VM m) (hr : Lx r ps) : Lx (bE m ++ r) (gT m ++ ps) := by
 obtain ⟨hn, h0, h1, h2⟩ := h
 have key : Lx (m.name.data.toList ++ (if 0 < m.size then [91] ++ eH m.size ++ [93] else []) ++ [59, 10] ++ r) (nmT m.name :: ((if 0 < m.size then [sgn [91], nuT m.size.natAbs, sgn [93]] else []) ++ [sgn [59]]) ++ ps) := by
  by_cases hp : 0 < m.size
  ·rw [if_pos hp, if_pos hp]
   have h3 := (((hr.semi.free 93 (by decide)).num m.size.natAbs (by omega) (.cons (by decide))).free 91 (by decide)).name m.name hn (.cons (by decide))
   unfold eH
   rw [if_neg (by omega)]
   simpa [nmT, nuT] using h3
  ·rw [if_neg hp, if_neg hp]
   have h3 := hr.semi.name m.name hn (.cons (by decide))
   simpa [nmT] using h3
 unfold bE gT
 cases hre : m.reentrant with
 | true =>
  have := key.kw [114, 109, 117, 116, 101, 120] (by decide)
  simpa using this
 | false =>
  have := key.kw [109, 117, 116, 101, 120] (by decide)
  simpa using this
theorem aNk {x : aS} (h : bQ x.name = true) (hf : Fin r) (hr : Lx r ps) : Lx (bX x ++ r) (lQ x ++ ps) := by
 unfold bX lQ
 have h1 := hr.name x.name h hf.nam
 cases x.mutex with
 | true =>
  have h2 := h1.kw [109, 117, 116, 101, 120] (by decide)
  simpa [nmT] using h2
 | false => simpa [nmT] using h1
theorem VF.lx {f : bS} (h : VF f) (hr : Lx r ps) : Lx (funcText f ++ r) (kA f ++ ps) := by
 obtain ⟨hn, h0, h1, h2⟩ := h
 have h3 := ((h2.lx [9] _ _ (by decide) (hr.nl.free 125 (by decide))).nl.free 123 (by decide)).bl.free 41 (by decide)
 have h4 := ((yR (fT := bX) (fK := lQ) f.params (fun x hx r ps hf hr => aNk (h1 x hx) hf hr) (Fin.cons (by decide)) h3).free 40 (by decide)).name f.name hn (.cons (by decide))
 have h5 := h4.kw [102, 117, 110, 99] (by decide)
 unfold funcText kA
 simpa [nmT] using h5
theorem fF.lx {x : fF} (h : x.ok) (hr : Lx r ps) : Lx (x.text ++ r) (x.toks ++ ps) := by
 cases x with
 | glob g => exact VG.lx h hr
 | mtx m => exact VM.lx h hr
 | fn f => exact VF.lx h hr
theorem uR : ∀ (ds : List fF), (∀ x, x ∈ ds → x.ok) → Lx r ps → Lx ((ds.map fF.text).flatten ++ r) ((ds.map fF.toks).flatten ++ ps)
 | [], _, hr => hr
 | x :: ds, h, hr => by
  have h1 := fF.lx (h x (List.mem_cons_self ..)) (uR ds (fun y hy => h y (List.mem_cons_of_mem _ hy)) hr)
  simpa using h1
end
section
variable {l : List Tok}
theorem aFa {x : aS} (h : bQ x.name = true) {n k : Nat} {s : List UInt8} {q : List PT} (hn : n < 6) (hs : Seg l k (lQ x ++ sgn s :: q)) : fQ l n k = .ok x (k + (lQ x).length) := by
 obtain ⟨nm, mu⟩ := x
 unfold fQ
 rw [if_neg (fun hh => by omega)]
 cases mu with
 | true =>
  have hs' : Seg l k (wrd [109, 117, 116, 101, 120] :: nmT nm :: sgn s :: q) := hs
  obtain ⟨h1, _, h2⟩ := hs'.head
  rw [if_pos (gI h1), jH h2.head.1]
  rfl
 | false =>
  have hs' : Seg l k (nmT nm :: sgn s :: q) := hs
  rw [if_neg (wM hs'.head.1 _), jH hs'.head.1]
  rfl
theorem VG.parse {g : aI} {k : Nat} {q : List PT} (hs : Seg l k (bEr g ++ q)) : mP l (k + 1) = .ok g (k + (bEr g).length) := by
 obtain ⟨nm, i⟩ := g
 unfold bEr at hs ⊢
 simp only at hs ⊢
 obtain ⟨h1, _, h2⟩ := hs.head
 obtain ⟨h3, _, h4⟩ := h2.head
 unfold mP
 rw [jH h3, bind_ok]
 by_cases h0 : i = 0
 ·rw [if_pos h0] at h4 ⊢
  have h5 : Seg l (k + 1 + 1) (sgn [59] :: q) := h4
  rw [if_neg (by rw [gK h5.head.1]; decide), iV h5.head.1, bind_ok, h0]
  rfl
 ·rw [if_neg h0] at h4 ⊢
  by_cases hn : i < 0
  ·rw [if_pos hn] at h4 ⊢
   have h5 : Seg l (k + 1 + 1) (sgn [61] :: sgn [45] :: nuT i.natAbs :: sgn [59] :: q) := h4
   obtain ⟨h6, _, h7⟩ := h5.head
   obtain ⟨h8, _, h9⟩ := h7.head
   obtain ⟨h10, _, h11⟩ := h9.head
   rw [if_pos (jY h6), if_pos (jY h8), aDu h10, bind_ok, iV h11.head.1, bind_ok]
   rw [show -((i.natAbs : Nat) : Int) = i by omega]
   rfl
  ·rw [if_neg hn] at h4 ⊢
   have h5 : Seg l (k + 1 + 1) (sgn [61] :: nuT i.natAbs :: sgn [59] :: q) := h4
   obtain ⟨h6, _, h7⟩ := h5.head
   obtain ⟨h8, _, h9⟩ := h7.head
   rw [if_pos (jY h6), if_neg (by rw [sQ h8 (by show (2 : Nat) ≠ 4; omega)]; simp), aDu h8, bind_ok, iV h9.head.1, bind_ok]
   rw [show ((i.natAbs : Nat) : Int) = i by omega]
   rfl
theorem VM.parse {m : cL} (h : VM m) {k : Nat} {q : List PT} (hs : Seg l k (gT m ++ q)) : nE l m.reentrant (k + 1) = .ok m (k + (gT m).length) := by
 obtain ⟨nm, re, sz⟩ := m
 obtain ⟨_, g0, g1, g2⟩ := h
 simp only at g0 g1 g2
 unfold gT at hs ⊢
 simp only at hs ⊢
 obtain ⟨h1, _, h2⟩ := hs.head
 obtain ⟨h3, _, h4⟩ := h2.head
 unfold nE
 rw [jH h3, bind_ok]
 by_cases h0 : 0 < sz
 ·have hre : re = false := by
   cases re with
   | false => rfl
   | true => have := g2 rfl; omega
  rw [if_pos h0] at h4 ⊢
  have h5 : Seg l (k + 1 + 1) (sgn [91] :: nuT sz.natAbs :: sgn [93] :: sgn [59] :: q) := h4
  obtain ⟨h6, _, h7⟩ := h5.head
  obtain ⟨h8, _, h9⟩ := h7.head
  obtain ⟨h10, _, h11⟩ := h9.head
  rw [if_pos ⟨hre, jY h6⟩]
  unfold qX
  rw [aDu h8, bind_ok, if_neg (by omega), bind_ok, iV h10, bind_ok, iV h11.head.1, bind_ok]
  rw [show ((sz.natAbs : Nat) : Int) = sz by omega]
  rfl
 ·rw [if_neg h0] at h4 ⊢
  have h5 : Seg l (k + 1 + 1) (sgn [59] :: q) := h4
  rw [if_neg (fun hh => by rw [gK h5.head.1] at hh; exact absurd hh.2 (by decide)), iV h5.head.1, bind_ok]
  rw [show sz = 0 by omega]
  rfl
theorem VF.parse {f : bS} (h : VF f) {k : Nat} {q : List PT} (hk : k ≤ l.length) (hs : Seg l k (kA f ++ q)) : sW l (k + 1) = .ok f (k + (kA f).length) := by
 obtain ⟨nm, pa, bd⟩ := f
 obtain ⟨_, g0, g1, g2⟩ := h
 simp only at g0 g1 g2
 have hlen := hs.app.1.len hk
 unfold kA at hs hlen ⊢
 simp only at hs hlen ⊢
 obtain ⟨h1, hk1, h2⟩ := hs.head
 obtain ⟨h3, hk2, h4⟩ := h2.head
 have h4' : Seg l (k + 1 + 1) (sgn [40] :: (fZ lQ pa ++ sgn [41] :: (sgn [123] :: (aQ bd ++ sgn [125] :: q)))) := by simpa using h4
 unfold sW
 rw [jH h3, bind_ok, vN (f := lQ) pa (k + 1 + 1) _ (by omega) h4' (fun x hx => by
  unfold lQ
  cases x.mutex with
  | true => exact ⟨_, _, rfl, .inl rfl⟩
  | false => exact ⟨_, _, rfl, .inr (.inl rfl)⟩) (fun i hi k s q _ hs => aFa (g1 _ (getElem_mem hi)) (by omega) hs), bind_ok]
 have h5 := h4'.head.2.2.app.2.head.2.2
 simp at hlen
 rw [show k + 1 + 1 + (fZ lQ pa).length + 2 = k + 1 + 1 + 1 + (fZ lQ pa).length + 1 by omega]
 rw [xI 23 bd _ q g2 (by omega) h5, bind_ok]
 simp; omega
def gN : List fF → Nat
 | [] => 0
 | .glob _ :: r => gN r + 1
 | _ :: r => gN r
def mN : List fF → Nat
 | [] => 0
 | .mtx _ :: r => mN r + 1
 | _ :: r => mN r
def fN : List fF → Nat
 | [] => 0
 | .fn _ :: r => fN r + 1
 | _ :: r => fN r
theorem aD6 (x : fF) : ∃ s q, x.toks = wrd s :: q := by
 cases x with
 | glob g => exact ⟨_, _, rfl⟩
 | fn f => exact ⟨_, _, rfl⟩
 | mtx m =>
  show ∃ s q, gT m = wrd s :: q
  unfold gT
  cases m.reentrant <;> exact ⟨_, _, rfl⟩
theorem aGi {d : fF} {x : cK} (h : d.ok) {k : Nat} {q : List PT} (hk : k ≤ l.length) (hs : Seg l k (d.toks ++ q)) (hg : x.globals.length + gN [d] ≤ 16) (hm : x.mutexes.length + mN [d] ≤ 12) (hf : x.funcs.length + fN [d] ≤ 16) : gR l x k = .ok (d.add x) (k + d.toks.length) := by
 cases d with
 | glob g =>
  simp only [gN] at hg
  have h1 : Seg l k (bEr g ++ q) := hs
  have hw : (bU l k).pt = wrd [118, 97, 114] := h1.head.1
  unfold gR
  rw [if_pos (gI hw), if_neg (by omega), VG.parse h1, bind_ok]
  rfl
 | mtx m =>
  simp only [mN] at hm
  have h1 : Seg l k (gT m ++ q) := hs
  have h2 := VM.parse h h1
  unfold gR
  cases hre : m.reentrant with
  | true =>
   have hw : (bU l k).pt = wrd [114, 109, 117, 116, 101, 120] := by
    have := h1.head.1
    rw [hre] at this; exact this
   rw [hre] at h2
   rw [if_neg (cG hw (by decide)), if_neg (cG hw (by decide)), if_pos (gI hw), if_neg (by omega), h2, bind_ok]
   rfl
  | false =>
   have hw : (bU l k).pt = wrd [109, 117, 116, 101, 120] := by
    have := h1.head.1
    rw [hre] at this; exact this
   rw [hre] at h2
   rw [if_neg (cG hw (by decide)), if_pos (gI hw), if_neg (by omega), h2, bind_ok]
   rfl
 | fn f =>
  simp only [fN] at hf
  have h1 : Seg l k (kA f ++ q) := hs
  have hw : (bU l k).pt = wrd [102, 117, 110, 99] := h1.head.1
  unfold gR
  rw [if_neg (cG hw (by decide)), if_neg (cG hw (by decide)), if_neg (cG hw (by decide)), if_pos (gI hw), if_neg (by omega), VF.parse h hk h1, bind_ok]
  rfl
theorem vZ (d : fF) (ds : List fF) : gN (d :: ds) = gN [d] + gN ds ∧ mN (d :: ds) = mN [d] + mN ds ∧ fN (d :: ds) = fN [d] + fN ds := by
 cases d <;> simp [gN, mN, fN] <;> omega
theorem aMg (d : fF) (x : cK) : (d.add x).globals.length = x.globals.length + gN [d] ∧ (d.add x).mutexes.length = x.mutexes.length + mN [d] ∧ (d.add x).funcs.length = x.funcs.length + fN [d] := by
 cases d <;> simp [fF.add, gN, mN, fN]
theorem yX : ∀ (ds : List fF) (x : cK) (n k : Nat), (∀ d, d ∈ ds → d.ok) → ds.length < n → k ≤ l.length → Seg l k ((ds.map fF.toks).flatten ++ [aAa]) → x.globals.length + gN ds ≤ 16 → x.mutexes.length + mN ds ≤ 12 → x.funcs.length + fN ds ≤ 16 → lK l n x k = .ok (ds.foldl fF.add x) (k + (ds.map fF.toks).flatten.length)
 | [], x, n, k, _, hn, _, hs, _, _, _ => by
  obtain ⟨n, rfl⟩ : ∃ n', n = n' + 1 := ⟨n - 1, by simp at hn; omega⟩
  have hs' : Seg l k [aAa] := hs
  have h1 : (bU l k).kind = 5 := congrArg PT.kind hs'.head.1
  unfold lK
  rw [if_pos h1]
  rfl
 | d :: ds, x, n, k, h, hn, hk, hs, hg, hm, hf => by
  obtain ⟨n, rfl⟩ : ∃ n', n = n' + 1 := ⟨n - 1, by simp at hn; omega⟩
  have hs' : Seg l k (d.toks ++ ((ds.map fF.toks).flatten ++ [aAa])) := by simpa using hs
  obtain ⟨s, q, hb⟩ := aD6 d
  have h1 : (bU l k).kind = 3 := by
   have h2 := hs'
   rw [hb] at h2
   exact congrArg PT.kind h2.head.1
  obtain ⟨n1, n2, n3⟩ := vZ d ds
  obtain ⟨m1, m2, m3⟩ := aMg d x
  have hlen := hs'.app.1.len hk
  unfold lK
  rw [if_neg (by omega), aGi (h d (List.mem_cons_self ..)) hk hs' (by omega) (by omega) (by omega), bind_ok]
  rw [yX ds _ n _ (fun y hy => h y (List.mem_cons_of_mem _ hy)) (by simp at hn; omega) hlen hs'.app.2 (by omega) (by omega) (by omega)]
  simp; omega
end
def iA (p : cK) : List fF := p.globals.map .glob ++ (p.mutexes.map .mtx ++ p.funcs.map .fn)
theorem aG5 (l : List aI) : ∀ (x : cK), (l.map fF.glob).foldl fF.add x = { x with globals := x.globals ++ l } := by
 induction l with
 | nil => intro x; simp
 | cons a r ih => intro x; rw [List.map_cons, List.foldl_cons, ih]; simp [fF.add]
theorem aKl (l : List cL) : ∀ (x : cK), (l.map fF.mtx).foldl fF.add x = { x with mutexes := x.mutexes ++ l } := by
 induction l with
 | nil => intro x; simp
 | cons a r ih => intro x; rw [List.map_cons, List.foldl_cons, ih]; simp [fF.add]
theorem aNx (l : List bS) : ∀ (x : cK), (l.map fF.fn).foldl fF.add x = { x with funcs := x.funcs ++ l } := by
 induction l with
 | nil => intro x; simp
 | cons a r ih => intro x; rw [List.map_cons, List.foldl_cons, ih]; simp [fF.add]
theorem aD7 (a b : List fF) : gN (a ++ b) = gN a + gN b ∧ mN (a ++ b) = mN a + mN b ∧ fN (a ++ b) = fN a + fN b := by
 induction a with
 | nil => simp [gN, mN, fN]
 | cons x a ih =>
  obtain ⟨h1, h2, h3⟩ := ih
  obtain ⟨a1, a2, a3⟩ := vZ x (a ++ b)
  obtain ⟨b1, b2, b3⟩ := vZ x a
  rw [List.cons_append]
  omega
theorem aLo (gs : List aI) (ms : List cL) (fs : List bS) : (gN (gs.map .glob) = gs.length ∧ mN (gs.map .glob) = 0 ∧ fN (gs.map .glob) = 0) ∧ (gN (ms.map .mtx) = 0 ∧ mN (ms.map .mtx) = ms.length ∧ fN (ms.map .mtx) = 0) ∧ (gN (fs.map .fn) = 0 ∧ mN (fs.map .fn) = 0 ∧ fN (fs.map .fn) = fs.length) := by
 refine ⟨?_, ?_, ?_⟩
 ·induction gs with
  | nil => simp [gN, mN, fN]
  | cons a r ih => simpa [gN, mN, fN] using ih
 ·induction ms with
  | nil => simp [gN, mN, fN]
  | cons a r ih => simpa [gN, mN, fN] using ih
 ·induction fs with
  | nil => simp [gN, mN, fN]
  | cons a r ih => simpa [gN, mN, fN] using ih
theorem aFw {ds : List fF} {s : List UInt8} (hs : s = (ds.map fF.text).flatten) (h : ∀ d, d ∈ ds → d.ok) (hl : s.length ≤ 262144) (ht : (ds.map fF.toks).flatten.length ≤ 4000) (hg : gN ds ≤ 16) (hm : mN ds ≤ 12) (hf : fN ds ≤ 16) :
  ∃ L k, iH s = .ok L ∧ L.map Tok.pt = (ds.map fF.toks).flatten ++ [aAa] ∧ fH L = .ok (ds.foldl fF.add ⟨[], [], []⟩) k := by
 have h1 := uR ds h Lx.end
 rw [List.append_nil, List.append_nil, ← hs] at h1
 obtain ⟨L, h2, h3⟩ := aIz h1 hl ht
 have hn : ds.length ≤ (ds.map fF.toks).flatten.length := by
  clear h1 h2 h3 hg hm hf hs ht h
  induction ds with
  | nil => simp
  | cons d ds ih =>
   obtain ⟨s, q, hb⟩ := aD6 d
   simp [hb] at ih ⊢; omega
 have hL : L.length = (ds.map fF.toks).flatten.length + 1 := by
  have := congrArg List.length h3
  simpa using this
 refine ⟨L, 0 + (ds.map fF.toks).flatten.length, h2, h3, ?_⟩
 unfold fH
 exact yX ds ⟨[], [], []⟩ L.length 0 h (by omega) (by omega) ⟨[], by rw [List.drop_zero, h3, List.append_nil]⟩ (by simpa using hg) (by simpa using hm) (by simpa using hf)
end
section
mutual
def aH.nodes : aH → Nat
 | .mk _ _ _ args => 1 + cZ args
def cZ : List aH → Nat
 | [] => 0
 | e :: es => 1 + e.nodes + cZ es
end
theorem nM : ∀ (l : List aH) (k : Nat) (h : k < l.length), l[k].nodes < cZ l
 | [], k, h => by simp at h
 | e :: es, 0, h => by rw [cZ]; simp; omega
 | e :: es, k + 1, h => by have := nM es k (by simpa using h); rw [cZ]; simp; omega
theorem tN : ∀ (l : List aH), l.length ≤ cZ l
 | [] => by simp
 | e :: es => by have := tN es; rw [cZ]; simp; omega
end
section
def fit (n : Int) : Prop := -9223372036854775808 ≤ n ∧ n ≤ 9223372036854775807
mutual
def aH.sane : aH → Prop
 | .mk _ num name args => fit num ∧ name.size ≤ 4611686018427387904 ∧ iI args
def iI : List aH → Prop
 | [] => True
 | e :: es => e.sane ∧ iI es
end
def cY.sane (r : cY) : Prop := r.name.size ≤ 4611686018427387904 ∧ iI r.index
def eN.sane (a : eN) : Prop := a.ref.sane ∧ a.expr.sane
mutual
def aJ.sane : aJ → Prop
 | .mk _ n e r args t el => n.size ≤ 4611686018427387904 ∧ e.sane ∧ r.sane ∧ (∀ a, a ∈ args → a.sane) ∧ gC t ∧ gC el
def gC : List aJ → Prop
 | [] => True
 | s :: r => s.sane ∧ gC r
end
def bS.sane (f : bS) : Prop := f.name.size ≤ 4611686018427387904 ∧ (∀ x, x ∈ f.params → x.name.size ≤ 4611686018427387904) ∧ gC f.body
structure cK.sane (p : cK) : Prop where
 globals : ∀ g, g ∈ p.globals → fit g.init ∧ g.name.size ≤ 4611686018427387904
 mutexes : ∀ m, m ∈ p.mutexes → fit m.size ∧ m.name.size ≤ 4611686018427387904
 funcs : ∀ f, f ∈ p.funcs → f.sane
theorem mV : ∀ (l : List aH), iI l → ∀ e, e ∈ l → e.sane
 | [], _, _, h => by cases h
 | x :: l, hs, e, h => by
  rw [iI] at hs
  rcases mem_cons.1 h with rfl | h
  ·exact hs.1
  ·exact mV l hs.2 e h
theorem oS : ∀ (l : List aJ), gC l → ∀ e, e ∈ l → e.sane
 | [], _, _, h => by cases h
 | x :: l, hs, e, h => by
  rw [gC] at hs
  rcases mem_cons.1 h with rfl | h
  ·exact hs.1
  ·exact oS l hs.2 e h
theorem rW (op : Int) : (aM op < 5 ∧ 5 ≤ op ∧ op ≤ 17) ∨ (aM op = 5 ∧ (op = 3 ∨ op = 4)) ∨ aM op = 6 := by
 unfold aM
 repeat' split
 all_goals omega
mutual
theorem yT : ∀ (e : aH), e.sane → eO e = true → VE e
 | .mk op num name args, hs, h => by
  rw [aH.sane] at hs
  rw [eO] at h
  simp only [Bool.and_eq_true, decide_eq_true_eq] at h
  obtain ⟨⟨h1, h2⟩, h3⟩ := h
  have hv := aB0 args hs.2.2 h3
  rcases rW op with ⟨k1, k2⟩ | ⟨k1, k2⟩ | k1
  ·rw [if_neg (by omega)] at h1
   simp only [Bool.and_eq_true, decide_eq_true_eq] at h1
   obtain ⟨rfl, rfl⟩ := h1
   rw [arity, if_neg (by omega), if_neg (by omega)] at h2
   match args, h2, hv with
   | [a, b], _, hv => exact .bin op a b k2 (hv a (by simp)) (hv b (by simp))
  ·rw [if_neg (by omega)] at h1
   simp only [Bool.and_eq_true, decide_eq_true_eq] at h1
   obtain ⟨rfl, rfl⟩ := h1
   rw [arity, if_neg (by omega), if_pos k1] at h2
   match args, h2, hv with
   | [a], _, hv => exact .un op a k2 (hv a (by simp))
  ·rw [if_pos k1] at h1
   rw [arity, if_pos k1] at h2
   obtain rfl := List.length_eq_zero_iff.1 h2
   unfold jG at h1
   simp only [Bool.or_eq_true, Bool.and_eq_true, decide_eq_true_eq] at h1
   rcases h1 with ⟨⟨rfl, h0⟩, rfl⟩ | ⟨⟨rfl, rfl⟩, h0⟩
   ·obtain ⟨n, rfl⟩ : ∃ n : Nat, num = n := ⟨num.toNat, by omega⟩
    exact .num n (by have := hs.1.2; omega)
   ·exact .name name h0
theorem aB0 : ∀ (l : List aH), iI l → dY l = true → ∀ x, x ∈ l → VE x
 | [], _, _, _, h => by cases h
 | y :: l, hs, h, x, hx => by
  rw [iI] at hs
  rw [dY, Bool.and_eq_true] at h
  rcases mem_cons.1 hx with hx | hx
  ·rw [hx]; exact yT y hs.1 h.1
  ·exact aB0 l hs.2 h.2 x hx
end
theorem zD {e : aH} (hs : e.sane) (h : dM e = true) : VX e := by
 rw [dM, Bool.and_eq_true, decide_eq_true_eq] at h
 exact ⟨yT e hs h.1, h.2⟩
theorem wQ {e : aH} (h : hI e = true) : e = .zero := by
 obtain ⟨op, num, name, args⟩ := e
 unfold hI at h
 rw [Bool.and_eq_true, Bool.and_eq_true] at h
 obtain ⟨⟨h1, h2⟩, h3⟩ := h
 obtain ⟨h4, h5⟩ := of_decide_eq_true h1
 have h6 := of_decide_eq_true h2
 have h7 := of_decide_eq_true h3
 simp only [aH.op, aH.num, aH.name, aH.args] at h4 h5 h6 h7
 subst h4; subst h5; subst h6
 have h := h7
 rw [List.length_eq_zero_iff.1 h]; rfl
theorem zP {r : cY} (h : kM r = true) : r = .zero := by
 obtain ⟨name, index⟩ := r
 simp only [kM, Bool.and_eq_true, decide_eq_true_eq] at h
 obtain ⟨rfl, h⟩ := h
 rw [List.length_eq_zero_iff.1 h]; rfl
theorem aFr {r : cY} (hs : r.sane) (h : okRefB r = true) : VR r := by
 obtain ⟨name, index⟩ := r
 unfold okRefB at h
 rw [Bool.and_eq_true] at h
 obtain ⟨h1, h2⟩ := h
 match index, hs, h2 with
 | [], _, _ => exact .one name h1
 | [e], hs, h2 => exact .el name e h1 (zD (mV _ hs.2 e (by simp)) h2)
theorem aLi {a : eN} (hs : a.sane) (h : fY a = true) : VA a := by
 obtain ⟨m, r, e⟩ := a
 unfold fY at h
 cases m with
 | true =>
  rw [if_pos rfl, Bool.and_eq_true] at h
  obtain rfl := wQ h.2
  exact .mutex r (aFr hs.1 h.1)
 | false =>
  rw [if_neg (by simp), Bool.and_eq_true] at h
  obtain rfl := zP h.1
  exact .expr e (zD hs.2 h.2)
theorem iL (D : Nat) : ∀ (l : List aJ), bM D l = true → D < 24
 | [], h => by rw [bM] at h; exact of_decide_eq_true h
 | s :: r, h => by rw [bM, Bool.and_eq_true] at h; exact iL D r h.2
mutual
theorem aJ3 : ∀ (s : aJ) (d D : Nat), D + d = 23 → s.sane → hZ D s = true → ∀ l, VSs d l → VSs d (s :: l)
 | .mk k n e r args t el, d, D, hd, hs, h, l, ih => by
  rw [aJ.sane] at hs
  rw [hZ] at h
  obtain ⟨-, he, hr, ha, ht, hel⟩ := hs
  simp only [Bool.and_eq_true, Bool.or_eq_true, decide_eq_true_eq] at h
  obtain ⟨⟨⟨⟨⟨⟨⟨h1, h2⟩, h3⟩, h4⟩, h5⟩, h6⟩, h7⟩, h8⟩ := h
  have hva : ∀ x, x ∈ args → VA x := fun x hx => aLi (ha x hx) (List.all_eq_true.1 h6 x hx)
  have hk : k = 1 ∨ k = 2 ∨ k = 3 ∨ k = 4 ∨ k = 5 ∨ k = 6 ∨ k = 7 ∨ k = 8 ∨ k = 9 := by omega
  have hname : ¬ (1 ≤ k ∧ k ≤ 4) → n = aK := fun hp => by rw [if_neg hp] at h2; exact of_decide_eq_true h2
  have hname1 : 1 ≤ k ∧ k ≤ 4 → bQ n = true := fun hp => by rwa [if_pos hp] at h2
  have hex : ¬ (k = 1 ∨ k = 2 ∨ k = 7 ∨ k = 8) → e = .zero := fun hp => by rw [if_neg hp] at h3; exact wQ h3
  have hex1 : (k = 1 ∨ k = 2 ∨ k = 7 ∨ k = 8) → VX e := fun hp => by rw [if_pos hp] at h3; exact zD he h3
  have href : ¬ (k = 5 ∨ k = 6) → r = .zero := fun hp => by rw [if_neg hp] at h4; exact zP h4
  have href1 : (k = 5 ∨ k = 6) → VR r := fun hp => by rw [if_pos hp] at h4; exact aFr hr h4
  have hargs : ¬ (k = 3 ∨ k = 4) → args = [] := fun hp => List.length_eq_zero_iff.1 (h5.resolve_left hp)
  have hthn : ¬ (k = 7 ∨ k = 8) → t = [] := fun hp => by rw [if_neg hp] at h7; exact List.length_eq_zero_iff.1 (of_decide_eq_true h7)
  have hels : k ≠ 7 → el = [] := fun hp => h8.elim List.length_eq_zero_iff.1 (fun h => absurd h.1 hp)
  rcases hk with rfl | rfl | rfl | rfl | rfl | rfl | rfl | rfl | rfl
  ·rw [href (by omega), hargs (by omega), hthn (by omega), hels (by omega)]; exact .var (hname1 (by omega)) (hex1 (by omega)) ih
  ·rw [href (by omega), hargs (by omega), hthn (by omega), hels (by omega)]; exact .assign (hname1 (by omega)) (hex1 (by omega)) ih
  ·rw [hex (by omega), href (by omega), hthn (by omega), hels (by omega)]; exact .call (hname1 (by omega)) hva ih
  ·rw [hex (by omega), href (by omega), hthn (by omega), hels (by omega)]; exact .go (hname1 (by omega)) hva ih
  ·rw [hname (by omega), hex (by omega), hargs (by omega), hthn (by omega), hels (by omega)]; exact .lock (href1 (by omega)) ih
  ·rw [hname (by omega), hex (by omega), hargs (by omega), hthn (by omega), hels (by omega)]; exact .unlock (href1 (by omega)) ih
  ·rw [if_pos (.inl rfl)] at h7
   obtain ⟨d', rfl⟩ : ∃ d', d = d' + 1 := ⟨d - 1, by have := iL _ _ h7; omega⟩
   have h9 := lS t d' (D + 1) (by omega) ht h7
   rw [hname (by omega), href (by omega), hargs (by omega)]
   refine .cond (hex1 (by omega)) h9 ?_ ih
   rcases h8 with h8 | h8
   ·rw [List.length_eq_zero_iff.1 h8]; exact .nil
   ·exact lS el d' (D + 1) (by omega) hel h8.2
  ·rw [if_pos (.inr rfl)] at h7
   obtain ⟨d', rfl⟩ : ∃ d', d = d' + 1 := ⟨d - 1, by have := iL _ _ h7; omega⟩
   have h9 := lS t d' (D + 1) (by omega) ht h7
   rw [hname (by omega), href (by omega), hargs (by omega), hels (by omega)]
   exact .loop (hex1 (by omega)) h9 ih
  ·rw [hname (by omega), hex (by omega), href (by omega), hargs (by omega), hthn (by omega), hels (by omega)]; exact .ret ih
theorem lS : ∀ (l : List aJ) (d D : Nat), D + d = 23 → gC l → bM D l = true → VSs d l
 | [], _, _, _, _, _ => .nil
 | s :: l, d, D, hd, hs, h => by
  rw [gC] at hs
  rw [bM, Bool.and_eq_true] at h
  exact aJ3 s d D hd hs.1 h.1 l (lS l d D hd hs.2 h.2)
end
theorem wC (p : cK) : cR p = ((iA p).map fF.text).flatten := by
 simp only [cR, iA, List.map_append, List.map_map, List.flatten_append, append_assoc]
 rfl
end
section
mutual
def aH.tame : aH → Prop
 | .mk _ num name args => num.natAbs < 9223372036854775808 ∧ name.size ≤ 1048576 ∧ oG args
def oG : List aH → Prop
 | [] => True
 | e :: es => e.tame ∧ oG es
end
def lL : List (List UInt8) → Nat
 | [] => 0
 | t :: ts => t.length + lL ts
theorem aMh (ts : List (List UInt8)) : (ts.getD 0 []).length ≤ lL ts := by
 cases ts with
 | nil => simp [lL]
 | cons t ts => simp [lL]
theorem aJj (ts : List (List UInt8)) : (ts.getD 0 []).length + (ts.getD 1 []).length ≤ lL ts := by
 match ts with
 | [] => simp [lL]
 | [t] => simp [lL]
 | t :: u :: ts => first | (simp [lL]; done) | (simp [lL]; omega)
theorem aI4 {c : Prop} [Decidable c] {l r : List UInt8} {n : Nat} (h1 : l.length ≤ n) (h2 : r.length ≤ n) : (if c then l else r).length ≤ n := by
 by_cases h : c
 ·rw [if_pos h]; exact h1
 ·rw [if_neg h]; exact h2
theorem aAr (op : Int) : (iW op).length ≤ 2 := by
 unfold iW
 repeat' (with_reducible apply aI4)
 all_goals decide
theorem aH5 (op num : Int) (name : ByteArray) (ts : List (List UInt8)) (h1 : num.natAbs < 9223372036854775808) (h2 : name.size ≤ 1048576) :
  (iX op num name ts).length ≤ 1048576 + lL ts := by
 have a0 := aMh ts
 have a1 := aJj ts
 have a2 := aAr op
 have a3 : (eH num).length ≤ 21 := by
  have := kC _ (Nat.lt_trans h1 (by decide))
  unfold eH
  split <;> simp <;> omega
 have a4 : name.data.toList.length = name.size := rfl
 unfold iX
 repeat' (with_reducible apply aI4)
 all_goals ((try simp only [length_append, length_cons, length_nil]); omega)
theorem vQ : ∀ (N : Nat) (e : aH), e.nodes ≤ N → e.tame → (aP e).length + 2 ≤ e.nodes * 2000000
 | 0, .mk op num name args, h, _ => by rw [aH.nodes] at h; omega
 | N + 1, .mk op num name args, h, ht => by
  rw [aH.nodes] at h
  rw [aH.tame] at ht
  have key : ∀ (l : List aH) (k : Nat), cZ l ≤ N → oG l → lL (dP op k l) ≤ cZ l * 2000000 := by
   intro l
   induction l with
   | nil => intro k _ _; rw [dP, lL]; omega
   | cons e es ih =>
    intro k hl hm
    rw [cZ] at hl ⊢
    rw [oG] at hm
    rw [dP, lL]
    have h1 := vQ N e (by omega) hm.1
    have h2 := ih (k + 1) (by omega) hm.2
    split
    ·simp only [length_append, length_cons, length_nil]; omega
    ·omega
  have h1 := key args 0 (by omega) ht.2.2
  have h2 := aH5 op num name (dP op 0 args) ht.1 ht.2.1
  rw [aP, aH.nodes]
  omega
end
section
theorem dV {s : ByteArray} (h : bQ s = true) : s.size ≤ 16 := by
 unfold bQ at h
 split at h
 ·cases h
 ·simp only [Bool.and_eq_true, decide_eq_true_eq] at h; exact h.1.2
theorem eT.nodes {names : List ByteArray} {d : Nat} {e : aH} (h : eT names d e) : e.nodes + 3 ≤ 4 * 2 ^ d := by
 induction h with
 | @name d x h => rw [aH.nodes, cZ]; have := Nat.one_le_two_pow (n := d); omega
 | @num d n h0 h1 => rw [aH.nodes, cZ]; have := Nat.one_le_two_pow (n := d); omega
 | @un d op e ho he ih => rw [aH.nodes, cZ, cZ, Nat.pow_succ]; have := Nat.one_le_two_pow (n := d); omega
 | @bin d op a b h0 h1 ha hb iha ihb => rw [aH.nodes, cZ, cZ, cZ, Nat.pow_succ]; have := Nat.one_le_two_pow (n := d); omega
theorem eT.tame {names : List ByteArray} {d : Nat} {e : aH} (hn : ∀ x, x ∈ names → bQ x = true) (h : eT names d e) : e.tame := by
 induction h with
 | @name d x h => rw [aH.tame]; exact ⟨by decide, Nat.le_trans (dV (hn x h)) (by decide), by rw [oG]; trivial⟩
 | @num d n h0 h1 => rw [aH.tame]; exact ⟨by omega, by decide, by rw [oG]; trivial⟩
 | @un d op e ho he ih => rw [aH.tame]; exact ⟨by decide, by decide, by rw [oG, oG]; exact ⟨ih, trivial⟩⟩
 | @bin d op a b h0 h1 ha hb iha ihb => rw [aH.tame]; exact ⟨by decide, by decide, by rw [oG, oG, oG]; exact ⟨iha, ihb, trivial⟩⟩
theorem sX {op : Int} (h0 : 5 ≤ op) (h1 : op ≤ 17) : aM op < 5 := by
 unfold aM
 repeat' split
 all_goals omega
theorem aDj {op : Int} (h : op = 3 ∨ op = 4) : aM op = 5 := by
 rcases h with rfl | rfl <;> rfl
theorem eT.shape {names : List ByteArray} {d : Nat} {e : aH} (hn : ∀ x, x ∈ names → bQ x = true) (h : eT names d e) : eO e = true := by
 induction h with
 | @name d x h =>
  rw [eO, dY, show aM 2 = 6 from rfl, if_pos rfl, jG, arity, show aM 2 = 6 from rfl, if_pos rfl, hn x h]; simp
 | @num d n h0 h1 =>
  rw [eO, dY, show aM 1 = 6 from rfl, if_pos rfl, jG, arity, show aM 1 = 6 from rfl, if_pos rfl]; simp [h0]
 | @un d op e ho he ih =>
  have hs := aDj ho
  rw [eO, dY, dY, arity, hs, if_neg (by decide), if_neg (by decide), if_pos rfl, ih]; simp
 | @bin d op a b h0 h1 ha hb iha ihb =>
  have hs := sX h0 h1
  rw [eO, dY, dY, dY, arity, if_neg (by omega), if_neg (by omega), if_neg (by omega), iha, ihb]; simp
theorem eT.height {names : List ByteArray} {d : Nat} {e : aH} (h : eT names d e) : dI e ≤ 2 * d := by
 induction h with
 | @name d x h => rw [dI, cF, if_neg (by decide)]; omega
 | @num d n h0 h1 => rw [dI, cF, if_neg (by decide)]; omega
 | @un d op e ho he ih => rw [dI, cF, cF]; split <;> split <;> omega
 | @bin d op a b h0 h1 ha hb iha ihb => rw [dI, cF, cF, cF]; split <;> split <;> split <;> omega
theorem eT.valid {names : List ByteArray} {d : Nat} {e : aH} (hn : ∀ x, x ∈ names → bQ x = true) (h : eT names d e) (hd : d ≤ 12) : dM e = true := by
 rw [dM, h.shape hn, Bool.true_and, decide_eq_true_eq]; have := h.height; omega
theorem eT.sane {names : List ByteArray} {d : Nat} {e : aH} (hn : ∀ x, x ∈ names → bQ x = true) (h : eT names d e) : e.sane := by
 induction h with
 | @name d x h => rw [aH.sane]; exact ⟨by unfold fit; omega, Nat.le_trans (dV (hn x h)) (by decide), by rw [iI]; trivial⟩
 | @num d n h0 h1 => rw [aH.sane]; exact ⟨by unfold fit; omega, by decide, by rw [iI]; trivial⟩
 | @un d op e ho he ih => rw [aH.sane]; exact ⟨by unfold fit; omega, by decide, by rw [iI, iI]; exact ⟨ih, trivial⟩⟩
 | @bin d op a b h0 h1 ha hb iha ihb => rw [aH.sane]; exact ⟨by unfold fit; omega, by decide, by rw [iI, iI, iI]; exact ⟨iha, ihb, trivial⟩⟩
theorem rQ {n : Int} (h0 : -9223372036854775808 ≤ n) (h1 : n ≤ 9223372036854775807) : (eH n).length ≤ 21 := by
 have := kC n.natAbs (by omega)
 unfold eH
 split <;> simp <;> omega
theorem eT.len {names : List ByteArray} {d : Nat} {e : aH} (hn : ∀ x, x ∈ names → bQ x = true) (h : eT names d e) : (aP e).length + 10 ≤ 31 * 2 ^ d := by
 induction h with
 | @name d x h =>
  have h1 := dV (hn x h)
  have h2 : x.data.toList.length = x.size := rfl
  rw [aP, iX, if_neg (by decide), if_pos rfl]; have := Nat.one_le_two_pow (n := d); omega
 | @num d n h0 h1 =>
  have := rQ (n := n) (by omega) (by omega)
  rw [aP, iX, if_pos rfl]; have := Nat.one_le_two_pow (n := d); omega
 | @un d op e ho he ih =>
  rw [aP, dP, dP, Nat.pow_succ]
  have hl : ∀ x : List UInt8, (iX op 0 aK [x]).length = x.length + 1 := by
   intro x; rcases ho with rfl | rfl <;> simp [iX]
  rw [hl]
  have := Nat.one_le_two_pow (n := d)
  split
  ·simp only [length_append, length_cons, length_nil]; omega
  ·omega
 | @bin d op a b h0 h1 ha hb iha ihb =>
  rw [aP, dP, dP, dP, Nat.pow_succ]
  have hs := sX h0 h1
  have ho := aAr op
  have hl : ∀ x y : List UInt8, (iX op 0 aK [x, y]).length = x.length + 1 + (iW op).length + 1 + y.length := by
   intro x y; rw [iX, if_neg (by omega), if_neg (by omega), if_neg (by omega), if_neg (by omega), if_pos hs]; simp; omega
  rw [hl]
  split <;> split <;> (try simp only [length_append, length_cons, length_nil]) <;> omega
end
section
def aPn (t : Tok) : Prop := (t.kind = 3 → dA t.text = true) ∧ (t.kind = 4 → dA t.text = false) ∧ t.num ≤ 9223372036854775807
theorem aBk : ∀ (r : List UInt8) (n m : Nat), n ≤ 9223372036854775807 → iT n r = some m → m ≤ 9223372036854775807
 | [], n, m, h, he => by unfold iT at he; cases he; exact h
 | c :: r, n, m, h, he => by
  unfold iT at he
  split at he
  ·cases he
  ·exact aBk r _ m (by have := c.toNat_lt; omega) he
theorem aKj : ∀ x, x ∈ words → fU (x.data.toList.headD 0) = true := by decide
theorem aKh {c : UInt8} {r : List UInt8} (h : fU c = false) {n : Nat} (hn : n ≠ 0) : dA (bytes ((c :: r).take n)) = false := by
 cases hr : dA (bytes ((c :: r).take n)) with
 | false => rfl
 | true =>
  have h1 := aKj _ ((mK _).1 hr)
  obtain ⟨m, rfl⟩ : ∃ m, n = m + 1 := ⟨n - 1, by omega⟩
  simp [bytes] at h1
  rw [h] at h1; cases h1
theorem aKe {c : UInt8} {r : List UInt8} {kind len num : Nat} (p : Nat) (h : dQ (c :: r) = .tok kind len num) : aPn ⟨kind, bytes ((c :: r).take len), num, p⟩ ∧ kind ≠ 5 := by
 cases hc : fU c with
 | true =>
  rw [kK hc] at h
  split at h
  ·cases h
  ·injection h with h1 h2 h3
   subst h2; subst h3; subst h1
   have ht : (c :: r).take ((c :: r).takeWhile cT).length = (c :: r).takeWhile cT := by
    have := List.takeWhile_prefix (l := c :: r) cT
    exact (List.prefix_iff_eq_take.1 this).symm
   rw [ht]
   refine ⟨⟨fun h3 => ?_, fun h4 => ?_, by show 0 ≤ _; omega⟩, ?_⟩
   ·change (if dA (bytes ((c :: r).takeWhile cT)) = true then 3 else 1) = 3 at h3
    split at h3
    ·assumption
    ·omega
   ·change (if dA (bytes ((c :: r).takeWhile cT)) = true then 3 else 1) = 4 at h4
    split at h4 <;> omega
   ·split <;> omega
 | false =>
  cases hd : cD c with
  | true =>
   cases hn : iT 0 ((c :: r).takeWhile cD) with
   | none => rw [nK hc hd hn] at h; cases h
   | some n =>
    rw [lP hc hd hn] at h
    injection h with h1 h2 h3
    subst h1; subst h2; subst h3
    exact ⟨⟨fun h => absurd h (show ¬ (2 = 3) by decide), fun h => absurd h (show ¬ (2 = 4) by decide), aBk _ _ _ (by omega) hn⟩, by omega⟩
  | false =>
   rw [iN hc hd] at h
   split at h
   ·cases h
   ·rename_i h0
    injection h with h1 h2 h3
    subst h1; subst h2; subst h3
    exact ⟨⟨fun h => absurd h (show ¬ (4 = 3) by decide), fun _ => aKh hc h0, Nat.zero_le _⟩, by omega⟩
structure aX5 (l : List Tok) : Prop where
 ends : rP l
 reg : ∀ t, t ∈ l → aPn t
 few : l.length ≤ 4001
theorem aFf : ∀ (m : Nat) (s : List UInt8) (k n : Nat), s.length - k ≤ m → k ≤ s.length → n ≤ 4000 → ∀ L, kD s k n = .ok L → (∃ h : 0 < L.length, (L[L.length - 1]'(by omega)).kind = 5) ∧ (∀ t, t ∈ L → aPn t) ∧ L.length + n ≤ 4001
 | m, s, k, n, hm, hk, hn, L, h => by
  by_cases he : s.length ≤ bF s k
  ·rw [mX he] at h
   cases h
   refine ⟨⟨by simp, rfl⟩, fun t ht => ?_, by simp; omega⟩
   simp at ht; subst ht
   exact ⟨fun h => (by cases h), fun h => (by cases h), by show 0 ≤ _; omega⟩
  ·have hlt : bF s k < s.length := by omega
   cases hx : dQ (s.drop (bF s k)) with
   | err e => rw [uY hlt hx] at h; cases h
   | tok kind len num =>
    by_cases h4 : n = 4000
    ·subst h4; rw [sG hlt hx] at h; cases h
    rw [nD hk hlt hx h4] at h
    have hg := lG s k hk
    have hd : s.drop (bF s k) ≠ [] := by intro hd; have := congrArg List.length hd; rw [List.length_drop] at this; simp at this; omega
    have hl := mS hd hx
    rw [List.length_drop] at hl
    obtain ⟨c, r, hcr⟩ := List.exists_cons_of_ne_nil hd
    rw [hcr] at hx h
    have hreg := aKe (bF s k) hx
    cases m with
    | zero => omega
    | succ m =>
     cases ht : kD s (bF s k + len) (n + 1) with
     | err p e => rw [ht] at h; cases h
     | ok L' =>
      rw [ht] at h
      cases h
      obtain ⟨⟨h0, h5⟩, h2, h3⟩ := aFf m s (bF s k + len) (n + 1) (by omega) (by omega) (by omega) L' ht
      refine ⟨⟨by simp, ?_⟩, fun t ht => ?_, by simp; omega⟩
      ·simp only [length_cons]
       rw [List.getElem_cons]
       rw [dif_neg (by omega)]
       simpa using h5
      ·rcases mem_cons.1 ht with rfl | ht
       ·exact hreg.1
       ·exact h2 t ht
theorem wD {s : List UInt8} {L : List Tok} (h : iH s = .ok L) : aX5 L := by
 unfold iH at h
 split at h
 ·cases h
 ·obtain ⟨h1, h2, h3⟩ := aFf s.length s 0 0 (by omega) (by omega) (by omega) L h
  exact ⟨h1, h2, by omega⟩
end
section
theorem eT.ve {names : List ByteArray} {d : Nat} {e : aH} (hn : ∀ x, x ∈ names → bQ x = true) (h : eT names d e) : VE e := by
 induction h with
 | @name d x h => exact .name x (hn x h)
 | @num d n h0 h1 =>
  obtain ⟨k, rfl⟩ : ∃ k : Nat, n = k := ⟨n.toNat, by omega⟩
  exact .num k (by omega)
 | @un d op e ho he ih => exact .un op e ho ih
 | @bin d op a b h0 h1 ha hb iha ihb => exact .bin op a b ⟨h0, h1⟩ iha ihb
end
section
open Go.RowKit
section
variable {m n : Int}
theorem eR (h : m = n) : bC .eql m n = some true := by simp [bC, h]
theorem eD (h : ¬ m = n) : bC .eql m n = some false := by simp [bC, h]
theorem xL (h : ¬ m = n) : bC .neq m n = some true := by simp [bC, h]
theorem xG (h : m = n) : bC .neq m n = some false := by simp [bC, h]
theorem jZ (h : m < n) : bC .lss m n = some true := by simp [bC, h]
theorem jQ (h : ¬ m < n) : bC .lss m n = some false := by simp only [bC, decide_eq_false h]
theorem aPz (h : m ≤ n) : bC .leq m n = some true := by simp [bC, h]
theorem aPx (h : ¬ m ≤ n) : bC .leq m n = some false := by simp only [bC, decide_eq_false h]
theorem mH (h : n < m) : bC .gtr m n = some true := by simp [bC, h]
theorem mI (h : ¬ n < m) : bC .gtr m n = some false := by simp only [bC, decide_eq_false h]
theorem aMq (h : n ≤ m) : bC .geq m n = some true := by simp [bC, h]
theorem aMx (h : ¬ n ≤ m) : bC .geq m n = some false := by simp only [bC, decide_eq_false h]
end
section
variable {m n : ByteArray}
theorem aL8 (h : m = n) : oM .eql m n = some true := by simp [oM, h]
theorem aLs (h : ¬ m = n) : oM .eql m n = some false := by simp [oM, h]
theorem aLc (h : ¬ m = n) : oM .neq m n = some true := by simp [oM, h]
theorem aMz (h : m = n) : oM .neq m n = some false := by simp [oM, h]
end
section
variable {P : Program} {U T : List Nat} {o : Oper} {n d : Nat} {ts : List (Nat × AT)} {s : Sto} {K : AS → Prop} {st : AS} {Q : Exit → AS → Prop}
theorem fL {t t' : AT} (h : Wk t t') (hy : AY P U o st t) : AY P U o st t' := fun a w hs hu =>
 let ⟨v, h1, h2⟩ := hy a w hs hu
 ⟨v, h _ _ h1, h2⟩
theorem bZ {a b : Bool} (h : a = b) : Wk (.c (.val (.bool a))) (.c (.val (.bool b))) := h ▸ Wk.refl _
theorem gQ {a b : Int} (h : a = b) : Wk (.c (.val (.int .i64 a))) (.c (.val (.int .i64 b))) := h ▸ Wk.refl _
theorem jX {a b : ByteArray} (h : a = b) : Wk (.c (.val (.string a))) (.c (.val (.string b))) := h ▸ Wk.refl _
theorem aKs {x : Bool} (h : x = true) : (!x) = false := by rw [h]; rfl
theorem aKt {x : Bool} (h : x = false) : (!x) = true := by rw [h]; rfl
theorem cX {a b : Bool} (h : b = a) : AT.c (.val (.bool a)) = .c (.val (.bool b)) := h ▸ rfl
theorem aPy {a b : Int} (h : b = a) : AT.c (.val (.int .i64 a)) = .c (.val (.int .i64 b)) := h ▸ rfl
theorem oW {a b : ByteArray} (h : b = a) : AT.c (.val (.string a)) = .c (.val (.string b)) := h ▸ rfl
theorem aHz (a b : List UInt8) : bytes a ++ bytes b = bytes (a ++ b) := sI (by simp [bytes])
theorem kT (a : List UInt8) : (bytes a).size = a.length := by simp [bytes, ByteArray.size]
theorem aN {t yt : TypeId} {x y : Operand} {m k : ByteArray} (a b : List UInt8) (ho : o.op = .binOp .add t x y yt) (hx : evA st x = some (.c (.val (.string m)))) (hy : evA st y = some (.c (.val (.string k)))) (ha : m = bytes a) (hb : k = bytes b) (hl : a.length + b.length ≤ 9223372036854775807) : AY P U o st (.c (.val (.string (bytes (a ++ b))))) := by
 subst ha; subst hb
 rw [← aHz]
 exact aHr ho hx hy (by rw [kT, kT]; exact hl)
theorem back (s : ByteArray) : s = bytes s.data.toList := by simp [bytes]
theorem bV {F : FuncId} {ars : Array Operand} {tys : Array TypeId} {us : List AT} {QQ : AT → Sto → Prop} (ho : o.op = .call { callee := .value (.func F), args := ars, argTypes := tys }) (hd : o.dst = some d) (hn : d < n)
  (hcf : ∀ args w, (callFunc F args).run P w = .ok (.enter F args) w) (has : ars.toList.map (evA ⟨n, T, s, ts⟩) = us.map some) (hc : aL P F us [] s QQ) (h : ∀ r s', QQ r s' → K ⟨n, T, s', (d, r) :: ts⟩) : AO P U o ⟨n, T, s, ts⟩ K :=
 bD [] ho hd hn hcf has hc bDl bDl (fun _ => bDl) h
theorem oC {c : Code} (N i : Nat) (fx : Nat → List (Nat × AT)) (hs : Sub ⟨n, T, s, ts⟩ ⟨n, T, s, (i, nI 0) :: fx 0⟩)
  (round : ∀ k, k ≤ N → AWp P c ⟨n, T, s, (i, nI k) :: fx k⟩ (sU (fun s' => k < N ∧ Sub s' ⟨n, T, s, (i, nI (k + 1)) :: fx (k + 1)⟩) Q)) : AWp P (.loop c) ⟨n, T, s, ts⟩ Q := by
 refine fM (fun k => ⟨n, T, s, (i, nI k) :: fx k⟩) (fun k => k ≤ N) (fun k => N - k) 0 hs (Nat.zero_le _) fun k hk => sE (round k hk) fun e s' h => ?_
 cases e with
 | normal => exact ⟨k + 1, h.1, by have := h.1; omega, h.2⟩
 | _ => exact h
theorem lE {c : Code} (p : Nat → Prop) (N i : Nat) (fx : Nat → List (Nat × AT)) (hp : p 0) (hs : Sub ⟨n, T, s, ts⟩ ⟨n, T, s, (i, nI 0) :: fx 0⟩)
  (round : ∀ k, k ≤ N → p k → AWp P c ⟨n, T, s, (i, nI k) :: fx k⟩ (sU (fun s' => k < N ∧ p (k + 1) ∧ Sub s' ⟨n, T, s, (i, nI (k + 1)) :: fx (k + 1)⟩) Q)) : AWp P (.loop c) ⟨n, T, s, ts⟩ Q := by
 refine fM (fun k => ⟨n, T, s, (i, nI k) :: fx k⟩) (fun k => k ≤ N ∧ p k) (fun k => N - k) 0 hs ⟨Nat.zero_le _, hp⟩ fun k hk => sE (round k hk.1 hk.2) fun e s' h => ?_
 cases e with
 | normal => exact ⟨k + 1, ⟨h.1, h.2.1⟩, by have := h.1; omega, h.2.2⟩
 | _ => exact h
theorem aO2 {c : Code} {bx bx0 : List Box} {rw rw0 : List bA} (p : Nat → Prop) (N i j : Nat) (E : TypeId) (z : Nat) (cnt : Nat → Nat) (cs : Nat → List AC) (T0 : List Nat) (fx : Nat → List (Nat × AT)) (hp : p 0)
  (hs : Sub ⟨n, T, ⟨bx0, rw0⟩, ts⟩ ⟨n, aY (.slice none 0 0) ++ T0, ⟨bx, ⟨.slice none 0 0, E, z, cnt 0, cs 0⟩ :: rw⟩, (i, nI 0) :: (j, .c (.val (.slice none 0 0))) :: fx 0⟩)
  (round : ∀ k v, k ≤ N → p k → AWp P c ⟨n, aY v ++ T0, ⟨bx, ⟨v, E, z, cnt k, cs k⟩ :: rw⟩, (i, nI k) :: (j, .c (.val v)) :: fx k⟩
   (sU (fun s' => k < N ∧ p (k + 1) ∧ ∃ v', Sub s' ⟨n, aY v' ++ T0, ⟨bx, ⟨v', E, z, cnt (k + 1), cs (k + 1)⟩ :: rw⟩, (i, nI (k + 1)) :: (j, .c (.val v')) :: fx (k + 1)⟩) Q)) : AWp P (.loop c) ⟨n, T, ⟨bx0, rw0⟩, ts⟩ Q := by
 refine fM (fun g : Nat × Value => ⟨n, aY g.2 ++ T0, ⟨bx, ⟨g.2, E, z, cnt g.1, cs g.1⟩ :: rw⟩, (i, nI g.1) :: (j, .c (.val g.2)) :: fx g.1⟩) (fun g => g.1 ≤ N ∧ p g.1) (fun g => N - g.1) (0, .slice none 0 0) hs ⟨Nat.zero_le _, hp⟩ fun g hg => sE (round g.1 g.2 hg.1 hg.2) fun e s' h => ?_
 cases e with
 | normal =>
  obtain ⟨h1, h2, v', h3⟩ := h
  exact ⟨(g.1 + 1, v'), ⟨h1, h2⟩, by show N - (g.1 + 1) < N - g.1; omega, h3⟩
 | _ => exact h
end
theorem Oper.wp_mono2 {P : Program} {Q Q' : Exit → Act → World → Prop} {o : Oper} {a : Act} {w : World} {K K' : Act → World → Prop} (h : ∀ a w, K a w → K' a w) (hq : ∀ e a w, e ≠ .normal → Q e a w → Q' e a w) (hl : LetsOut Q → LetsOut Q')
  (hh : o.wp P a w K Q) : o.wp P a w K' Q' := by
 unfold Oper.wp at *
 generalize (execOp a.eval o).run P w = r at *
 cases r with
 | ok n w' =>
  cases n <;> simp only [Oper.upon] at hh ⊢ <;>
   first
    | exact h _ _ hh
    | exact Calls.mono hh (fun e w'' he => by cases e <;> first | exact h _ _ he | exact hq _ _ _ (by simp) he | exact hl he)
    | exact Rows.mono hh (fun _ _ he => h _ _ he)
 | halt x w' => cases x <;> simp only [Oper.upon] at hh ⊢ <;> first | exact hq _ _ _ (by simp) hh | exact hh
theorem tM {P : Program} {ops : Array Oper} {Q Q1 : Exit → Act → World → Prop} {l2 : List Oper} (hn : ∀ a w, Q1 .normal a w → wpList P ops Q l2 a w) (hq : ∀ e a w, e ≠ .normal → Q1 e a w → Q e a w) : ∀ (l1 : List Oper) (a : Act) (w : World), wpList P ops Q1 l1 a w → wpList P ops Q (l1 ++ l2) a w
 | [], a, w, h => hn a w h
 | o :: l1, a, w, h => by
  rw [List.cons_append]
  unfold wpList at h ⊢
  split at h
  ·rename_i hw
   rw [if_pos hw]
   rcases h with h | ⟨h1, a2, w2, h2⟩
   ·refine .inl ?_
    have hK : ∀ a w, wpList P ops Q1 l1 a w → wpList P ops Q (l1 ++ l2) a w := fun a w => tM hn hq l1 a w
    have hL : LetsOut Q1 → LetsOut Q := fun ⟨a, w, h⟩ => ⟨a, w, hq _ a w (by simp) h⟩
    exact Oper.wp_mono2 hK hq hL h
   ·exact .inr ⟨h1, a2, w2, hq _ _ _ (by simp) h2⟩
  ·rename_i hw
   rw [if_neg hw]
   exact tM hn hq l1 _ _ h
class vT (N : Nat) (l : List Oper) (l1 l2 : outParam (List Oper)) : Prop where h : l = l1 ++ l2
instance aUv {l : List Oper} : vT 0 l [] l := ⟨rfl⟩
instance aW9 {N : Nat} {o : Oper} {l l1 l2 : List Oper} [h : vT N l l1 l2] : vT (N + 1) (o :: l) (o :: l1) l2 := ⟨by rw [h.h]; rfl⟩
instance aV8 {N : Nat} {o : Oper} {l m l1 l2 : List Oper} [h : vT (N + 1) (o :: List.append l m) l1 l2] : vT (N + 1) (List.append (o :: l) m) l1 l2 := ⟨h.h⟩
instance aU8 {N : Nat} {m l1 l2 : List Oper} [h : vT N m l1 l2] : vT N (List.append [] m) l1 l2 := ⟨h.h⟩
instance aVp {j t : Nat} {o : Oper} {l m : List Oper} [h : wV (o :: List.append l m) j t] : wV (List.append (o :: l) m) j t := ⟨h.h⟩
instance aUd {j t : Nat} {m : List Oper} [h : wV m j t] : wV (List.append [] m) j t := ⟨h.h⟩
instance aYy {P : Program} {ops : Array Oper} {o : Oper} {l m : List Oper} {st : AS} {Q : Exit → AS → Prop} {N : Nat} {g : Prop} [h : Go1 (N + 1) (eQ P ops (o :: List.append l m) st Q) g] : Go1 (N + 1) (eQ P ops (List.append (o :: l) m) st Q) g := ⟨h.out⟩
instance aVr {P : Program} {ops : Array Oper} {m : List Oper} {st : AS} {Q : Exit → AS → Prop} {N : Nat} {g : Prop} [h : Go1 (N + 1) (eQ P ops m st Q) g] : Go1 (N + 1) (eQ P ops (List.append [] m) st Q) g := ⟨h.out⟩
theorem aLj {P : Program} {ops : Array Oper} {l l1 l2 : List Oper} {st : AS} {Q : Exit → AS → Prop} (N : Nat) (st' : AS) [hs : vT N l l1 l2] (h1 : eQ P ops l1 st (fun e s => e = .normal ∧ Sub s st')) (h2 : eQ P ops l2 st' Q) : eQ P ops l st Q := by
 rw [hs.h]
 intro a w hS QQ hQ
 refine tM (Q1 := fun e a' w' => match e with | .normal => ∃ s, Sub s st' ∧ Sim s a' w' ∧ Ext st w s w' | _ => False) ?_ ?_ l1 a w (h1 a w hS _ ?_)
 ·rintro a' w' ⟨s, hs1, hs2, hs3⟩
  exact h2 a' w' (hs1 a' w' hs2).1 QQ fun e a2 w2 s2 q k1 k2 => hQ e a2 w2 s2 q k1 ((hs3.trans (hs1.ext hs2)).trans k2)
 ·intro e a' w' he h
  cases e with
  | normal => exact absurd rfl he
  | _ => exact h.elim
 ·rintro e a' w' s ⟨rfl, h⟩ k1 k2
  exact ⟨s, h, k1, k2⟩
theorem iE {P : Program} {ops : Array Oper} {l l1 l2 : List Oper} {n : Nat} {T : List Nat} {s : Sto} {ts : List (Nat × AT)} {Q : Exit → AS → Prop} (N : Nat) (ts' : List (Nat × AT)) [hs : vT N l l1 l2] (h1 : eQ P ops l1 ⟨n, T, s, ts⟩ (fun e s' => e = .normal ∧ Sub s' ⟨n, T, s, ts'⟩)) (h2 : eQ P ops l2 ⟨n, T, s, ts'⟩ Q) : eQ P ops l ⟨n, T, s, ts⟩ Q := aLj N _ h1 h2
theorem xX {P : Program} {x y : Code} {n : Nat} {T : List Nat} {s : Sto} {ts : List (Nat × AT)} {Q : Exit → AS → Prop} (ts' : List (Nat × AT)) (h1 : AWp P x ⟨n, T, s, ts⟩ (fun e s' => e = .normal ∧ Sub s' ⟨n, T, s, ts'⟩)) (h2 : AWp P y ⟨n, T, s, ts'⟩ Q) : AWp P (.seq x y) ⟨n, T, s, ts⟩ Q :=
 aHp (sE h1 fun e s ⟨he, hs⟩ => by subst he; exact rX (zU hs h2))
end
end Go.Proofs.YteiefdnbdjnoiaaGreatDoor
