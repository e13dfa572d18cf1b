import Derived.Test.YtlbocidcjmehfaaDoorBlk1J
import Derived.Deep.DeepCutAuto
import Derived.Deep.CutBlock
set_option linter.unusedVariables false
set_option linter.unusedSimpArgs false
namespace Go.Proofs.YtlbocidcjmehfaaDoor
open Go.RowKit
theorem stmtInfo : (Tryd.prog.info? 136).map (fun i => (i.zero, i.size, i.bytes)) = some (some (.agg #[.int .i64 0, .string ⟨#[]⟩, .int .i64 0, .int .i64 0, .string ⟨#[]⟩, .slice none 0 0, .string ⟨#[]⟩, .slice none 0 0, .slice none 0 0, .slice none 0 0, .slice none 0 0]), 11, 192) := by kernel_rfl
theorem tkeep {L : List Nat} {T : Nat} {a b : World} {y0 y1 y2 y3 y4 y5 y6 y7 y8 y9 y10 : Value} (h : a.cell? ⟨T, 0, none⟩ = some y0 ∧ a.cell? ⟨T, 1, none⟩ = some y1 ∧ a.cell? ⟨T, 2, none⟩ = some y2 ∧ a.cell? ⟨T, 3, none⟩ = some y3 ∧ a.cell? ⟨T, 4, none⟩ = some y4 ∧ a.cell? ⟨T, 5, none⟩ = some y5 ∧ a.cell? ⟨T, 6, none⟩ = some y6 ∧ a.cell? ⟨T, 7, none⟩ = some y7 ∧ a.cell? ⟨T, 8, none⟩ = some y8 ∧ a.cell? ⟨T, 9, none⟩ = some y9 ∧ a.cell? ⟨T, 10, none⟩ = some y10 ∧ ∀ o, a.frozen? ⟨T, o, none⟩ = false) (hk : Keep L a b) (hT : T ∉ L) :
  b.cell? ⟨T, 0, none⟩ = some y0 ∧ b.cell? ⟨T, 1, none⟩ = some y1 ∧ b.cell? ⟨T, 2, none⟩ = some y2 ∧ b.cell? ⟨T, 3, none⟩ = some y3 ∧ b.cell? ⟨T, 4, none⟩ = some y4 ∧ b.cell? ⟨T, 5, none⟩ = some y5 ∧ b.cell? ⟨T, 6, none⟩ = some y6 ∧ b.cell? ⟨T, 7, none⟩ = some y7 ∧ b.cell? ⟨T, 8, none⟩ = some y8 ∧ b.cell? ⟨T, 9, none⟩ = some y9 ∧ b.cell? ⟨T, 10, none⟩ = some y10 ∧ ∀ o, b.frozen? ⟨T, o, none⟩ = false := by
 have hl : T < a.heap.size := cell_lt h.1
 have c := fun o => hk.cell (p := ⟨T, o, none⟩) hl hT
 have f := fun o => hk.frozen (p := ⟨T, o, none⟩) hl hT
 simp only [c, f]; exact h
theorem fkeep {L : List Nat} {F : Nat} {a b : World} {y0 y1 y2 : Value} (h : a.cell? ⟨F, 0, none⟩ = some y0 ∧ a.cell? ⟨F, 1, none⟩ = some y1 ∧ a.cell? ⟨F, 2, none⟩ = some y2) (hk : Keep L a b) (hF : F ∉ L) :
  b.cell? ⟨F, 0, none⟩ = some y0 ∧ b.cell? ⟨F, 1, none⟩ = some y1 ∧ b.cell? ⟨F, 2, none⟩ = some y2 := by
 have hl : F < a.heap.size := cell_lt h.1
 have c := fun o => hk.cell (p := ⟨F, o, none⟩) hl hF
 simp only [c]; exact h
theorem qkeep {L : List Nat} {F : Nat} {a b : World} {y0 y1 : Value} (h : a.cell? ⟨F, 0, none⟩ = some y0 ∧ a.cell? ⟨F, 1, none⟩ = some y1) (hk : Keep L a b) (hF : F ∉ L) : b.cell? ⟨F, 0, none⟩ = some y0 ∧ b.cell? ⟨F, 1, none⟩ = some y1 := by
 have hl : F < a.heap.size := cell_lt h.1
 have c := fun o => hk.cell (p := ⟨F, o, none⟩) hl hF
 simp only [c]; exact h
theorem conv_two {w : World} {Q : Nat} (c d : UInt8) (h1 : w.cell? ⟨Q, 0, none⟩ = some (.int .u8 c.toNat)) (h2 : w.cell? ⟨Q, 1, none⟩ = some (.int .u8 d.toNat)) :
  (convert 23 9 (.slice (some ⟨Q, 0, none⟩) 2 2)).run Tryd.prog w = .ok (.string (bytes [c, d])) w :=
 conv_row [c, d] (some ⟨Q, 0, none⟩) 2 w (.inr ⟨Q, 0, rfl, fun j u hj => by
  match j with
  | 0 => simp [bcells] at hj; subst hj; exact h1
  | 1 => simp [bcells] at hj; subst hj; exact h2
  | j + 2 => simp [bcells] at hj⟩)
theorem varsCT {H : List Nat} {w3 w4 : World} {u u' o : Value} (hg : w3.grownBy w4 u.ownBlock) (hf : ∀ g, u'.ownBlock = some g → u.ownBlock = some g ∨ w3.heap.size ≤ g) : CT (ownB o ++ (ownB u ++ H)) w3 (ownB o ++ (ownB u' ++ H)) w4 := by
 have c1 : CT (ownB o ++ (ownB u ++ H)) w3 (ownB u ++ (ownB o ++ H)) w3 := CT.sub (fun x hx => by simp only [List.mem_append] at hx ⊢; rcases hx with hx | hx | hx <;> simp [hx])
 have c3 : CT (ownB u' ++ (ownB o ++ H)) w4 (ownB o ++ (ownB u' ++ H)) w4 := CT.sub (fun x hx => by simp only [List.mem_append] at hx ⊢; rcases hx with hx | hx | hx <;> simp [hx])
 exact (c1.trans (ct_grown (H := ownB o ++ H) hg hf)).trans c3
theorem vbyte (k : Nat) (hk : k < 26) : IntKind.u8.wrap (IntKind.i64.wrap (97 + (k : Int))) = ((UInt8.ofNat (97 + k)).toNat : Int) := by
 rw [IntWalk.i64_in _ (by omega)]
 have h : (List.range 26).all (fun k => decide (IntKind.u8.wrap (97 + (k : Int)) = ((UInt8.ofNat (97 + k)).toNat : Int))) = true := by decide
 exact of_decide_eq_true (List.all_eq_true.1 h k (List.mem_range.2 hk))
theorem vbyte1 (m : Nat) : IntKind.u8.wrap (IntKind.i64.wrap (97 + (m : Int).tmod 26)) = ((UInt8.ofNat (97 + m % 26)).toNat : Int) := by
 rw [show (m : Int).tmod 26 = ((m % 26 : Nat) : Int) from (Int.ofNat_tmod m 26).symm]; exact vbyte _ (Nat.mod_lt _ (by omega))
theorem vbyte2 (m : Nat) (hm : m ≤ 1000) : IntKind.u8.wrap (IntKind.i64.wrap (97 + (IntKind.i64.wrap ((m : Int) / 26)).tmod 26)) = ((UInt8.ofNat (97 + m / 26 % 26)).toNat : Int) := by
 rw [show (m : Int) / 26 = ((m / 26 : Nat) : Int) from rfl, show IntKind.i64.wrap ((m / 26 : Nat) : Int) = ((m / 26 : Nat) : Int) from IntWalk.i64_in _ (by omega)]
 exact vbyte1 (m / 26)
theorem held_two {P : Program} {ops : Array Oper} {Q : Exit → Act → World → Prop} {md : Region.Mode} {S : World → Prop} (i j : Nat) {oi oj : Oper} {fuel : Nat} {listed : Array Bool} {a : Act} {w : World}
  (hr : Region.ready md ops listed = [i, j]) (hi : ops.toList[i]? = some oi) (hj : ops.toList[j]? = some oj) (hgi : Region.wanted oi (yielded ops a.tmps) = true) (hgj : Region.wanted oj (yielded ops a.tmps) = true)
  (h1 : ∀ K' : Act → World → Prop, Shut (∀ a w, S w → (S w → wpAnyH P md ops Q S fuel (listed.setIfInBounds i true) a w) → K' a w) → Oper.wp P oi a w K' Q)
  (h2 : ∀ K' : Act → World → Prop, Shut (∀ a w, S w → (S w → wpAnyH P md ops Q S fuel (listed.setIfInBounds j true) a w) → K' a w) → Oper.wp P oj a w K' Q) : wpAnyH P md ops Q S (fuel + 1) listed a w :=
 wpAnyH_ready hr (by simp) (AllReadyH.cons (by rw [← Array.getElem?_toList]; exact hi) (fun K' hK => by rw [if_pos hgi]; exact h1 K' hK) (AllReadyH.cons (by rw [← Array.getElem?_toList]; exact hj) (fun K' hK => by rw [if_pos hgj]; exact h2 K' hK) AllReadyH.nil))
def blR (ms : List AMutex) (fs : List Sig) (ps : List AParam) (vars : List ByteArray) (deep L : Nat) (H : List Nat) (S W B : Nat) (vg vm vf : Value) (ar : Bool) (W2 : World) (most : Nat) (u o n : Value) (wr : World) : Prop :=
 ∃ (vs : List ByteArray) (al : List AStmt) (lf k : Nat), n = .int .i64 k ∧ k ≤ most ∧ BlSt H S W B vg vm vf ar W2 vs u al o lf wr ∧ BlTo ms fs ps vars deep L vs lf al ∧ vs.length + lf ≤ 1000 ∧ lf ≤ L
def cutR (ms : List AMutex) (fs : List Sig) (ps : List AParam) (vars : List ByteArray) (deep L : Nat) (H : List Nat) (S W B : Nat) (vg vm vf : Value) (ar : Bool) (W2 : World) (T : Nat) (u o : Value) (wc : World) : Prop :=
 ∃ (vs : List ByteArray) (al : List AStmt) (lf : Nat) (x : AStmt) (kk e0 e1 : Int) (nm e2 r0 : ByteArray) (ea ra aa ta la : Option Addr) (en ec rn rc an ac tn tc ln lc : Nat), BlSt (T :: H) S W B vg vm vf ar W2 vs u al o lf wc ∧ BlTo ms fs ps vars deep L vs lf (al ++ [x]) ∧ vs.length + lf ≤ 1000 ∧ lf ≤ L ∧
  StmtRep (hideL (ownB o ++ (ownB u ++ T :: H)) wc) x [.int .i64 kk, .string nm, .int .i64 e0, .int .i64 e1, .string e2, .slice ea en ec, .string r0, .slice ra rn rc, .slice aa an ac, .slice ta tn tc, .slice la ln lc] ∧
  (wc.cell? ⟨T, 0, none⟩ = some (.int .i64 kk) ∧ wc.cell? ⟨T, 1, none⟩ = some (.string nm) ∧ wc.cell? ⟨T, 2, none⟩ = some (.int .i64 e0) ∧ wc.cell? ⟨T, 3, none⟩ = some (.int .i64 e1) ∧ wc.cell? ⟨T, 4, none⟩ = some (.string e2) ∧ wc.cell? ⟨T, 5, none⟩ = some (.slice ea en ec) ∧ wc.cell? ⟨T, 6, none⟩ = some (.string r0) ∧ wc.cell? ⟨T, 7, none⟩ = some (.slice ra rn rc) ∧ wc.cell? ⟨T, 8, none⟩ = some (.slice aa an ac) ∧ wc.cell? ⟨T, 9, none⟩ = some (.slice ta tn tc) ∧ wc.cell? ⟨T, 10, none⟩ = some (.slice la ln lc))
def firstBlock (n : Nat) : Code → Option Code
 | .block k c => bif k == n then some (.block k c) else firstBlock n c
 | .seq a b => match firstBlock n a with
  | some c => some c
  | none => firstBlock n b
 | .loop c => firstBlock n c
 | .scope c => firstBlock n c
 | .cond _ a b => match firstBlock n a with
  | some c => some c
  | none => firstBlock n b
 | _ => none
noncomputable def swCode : Code := (Tryd.f51.body.bind (firstBlock 2)).getD .skip
end Go.Proofs.YtlbocidcjmehfaaDoor
