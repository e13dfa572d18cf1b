import Derived.Test.YtflcnehhpmjipaaGreatDoorW3J
import Derived.Test.YtflcnehhpmjipaaGreatDoorProg
set_option linter.unusedVariables false
set_option linter.unusedSimpArgs false
namespace Go.Proofs.YtflcnehhpmjipaaGreatDoor
open Go.RowKit
mutual
def encE : AExpr → List AC
 | .mk op num name args => [.val (.int .i64 op), .val (.int .i64 num), .val (.string name), .sl args.length (encEs args)]
def encEs : List AExpr → List AC
 | [] => []
 | e :: es => encE e ++ encEs es
end
theorem encEs_eq : ∀ l : List AExpr, encEs l = l.flatMap encE
 | [] => by rw [encEs]; rfl
 | e :: es => by rw [encEs, encEs_eq es, List.flatMap_cons]
def encE1 (x : AExpr) : List AC := [.val (.int .i64 x.op), .val (.int .i64 x.num), .val (.string x.name), .sl x.args.length (x.args.flatMap encE)]
theorem encE_eq (x : AExpr) : encE x = [.val (.int .i64 x.op), .val (.int .i64 x.num), .val (.string x.name), .sl x.args.length (x.args.flatMap encE)] := by
 cases x; rw [encE, encEs_eq]; rfl
theorem encE_one (x : AExpr) : encE x = encE1 x := encE_eq x
theorem encE_len (x : AExpr) : (encE x).length = 4 := by rw [encE_eq]; rfl
def encR (r : ARef) : List AC := [.val (.string r.name), .sl r.index.length (r.index.flatMap encE)]
def encA (a : AArg) : List AC := [.val (.bool a.mutex), .val (.string a.ref.name), .sl a.ref.index.length (a.ref.index.flatMap encE), .val (.int .i64 a.expr.op), .val (.int .i64 a.expr.num), .val (.string a.expr.name), .sl a.expr.args.length (a.expr.args.flatMap encE)]
theorem encA_len (a : AArg) : (encA a).length = 7 := rfl
mutual
def encS : AStmt → List AC
 | .mk k name e r args t el => [.val (.int .i64 k), .val (.string name), .val (.int .i64 e.op), .val (.int .i64 e.num), .val (.string e.name), .sl e.args.length (e.args.flatMap encE), .val (.string r.name), .sl r.index.length (r.index.flatMap encE), .sl args.length (args.flatMap encA), .sl t.length (encSs t), .sl el.length (encSs el)]
def encSs : List AStmt → List AC
 | [] => []
 | e :: es => encS e ++ encSs es
end
theorem encSs_eq : ∀ l : List AStmt, encSs l = l.flatMap encS
 | [] => by rw [encSs]; rfl
 | e :: es => by rw [encSs, encSs_eq es, List.flatMap_cons]
theorem encS_eq (x : AStmt) : encS x = [.val (.int .i64 x.kind), .val (.string x.name), .val (.int .i64 x.expr.op), .val (.int .i64 x.expr.num), .val (.string x.expr.name), .sl x.expr.args.length (x.expr.args.flatMap encE), .val (.string x.ref.name), .sl x.ref.index.length (x.ref.index.flatMap encE), .sl x.args.length (x.args.flatMap encA), .sl x.thn.length (x.thn.flatMap encS), .sl x.els.length (x.els.flatMap encS)] := by
 cases x; rw [encS, encSs_eq, encSs_eq]; rfl
def encS1 (x : AStmt) : List AC := [.val (.int .i64 x.kind), .val (.string x.name), .val (.int .i64 x.expr.op), .val (.int .i64 x.expr.num), .val (.string x.expr.name), .sl x.expr.args.length (x.expr.args.flatMap encE), .val (.string x.ref.name), .sl x.ref.index.length (x.ref.index.flatMap encE), .sl x.args.length (x.args.flatMap encA), .sl x.thn.length (x.thn.flatMap encS), .sl x.els.length (x.els.flatMap encS)]
theorem encS_one (x : AStmt) : encS x = encS1 x := encS_eq x
theorem encS_len (x : AStmt) : (encS x).length = 11 := by rw [encS_eq]; rfl
def encP (p : AParam) : List AC := [.val (.string p.name), .val (.bool p.mutex)]
def encF (f : AFunc) : List AC := [.val (.string f.name), .sl f.params.length (f.params.flatMap encP), .sl f.body.length (f.body.flatMap encS)]
def encG (g : AGlobal) : List AC := [.val (.string g.name), .val (.int .i64 g.init)]
def encM (m : AMutex) : List AC := [.val (.string m.name), .val (.bool m.reentrant), .val (.int .i64 m.size)]
def encPr (p : AProg) : List AC := [.sl p.globals.length (p.globals.flatMap encG), .sl p.mutexes.length (p.mutexes.flatMap encM), .sl p.funcs.length (p.funcs.flatMap encF)]
def encT (t : Tok) : List AC := [.val (.int .i64 t.kind), .val (.string t.text), .val (.int .i64 t.num), .val (.int .i64 t.pos)]
theorem encP_len (p : AParam) : (encP p).length = 2 := rfl
theorem encF_len (p : AFunc) : (encF p).length = 3 := rfl
theorem encG_len (p : AGlobal) : (encG p).length = 2 := rfl
theorem encM_len (p : AMutex) : (encM p).length = 3 := rfl
theorem encT_len (p : Tok) : (encT p).length = 4 := rfl
theorem aw_for {P : Program} {c : Code} {n : Nat} {T : List Nat} {s : Sto} {ts : List (Nat × AT)} {Q : Exit → AS → Prop} (N i : Nat) (fixed : List (Nat × AT)) (hs : Sub ⟨n, T, s, ts⟩ ⟨n, T, s, (i, .c (.val (.int .i64 ((0 : Nat) : Int)))) :: fixed⟩)
  (round : ∀ k, k ≤ N → AWp P c ⟨n, T, s, (i, .c (.val (.int .i64 ((k : Nat) : Int)))) :: fixed⟩ (Then (fun s' => k < N ∧ Sub s' ⟨n, T, s, (i, .c (.val (.int .i64 ((k + 1 : Nat) : Int)))) :: fixed⟩) Q)) : AWp P (.loop c) ⟨n, T, s, ts⟩ Q := by
 refine aw_loop (fun k => ⟨n, T, s, (i, .c (.val (.int .i64 ((k : Nat) : Int)))) :: fixed⟩) (fun k => k ≤ N) (fun k => N - k) 0 hs (Nat.zero_le _) fun k hk => aw_mono (round k hk) fun e s' h => ?_
 cases e with
 | normal => exact ⟨k + 1, h.1, by have := h.1; omega, h.2⟩
 | _ => exact h
end Go.Proofs.YtflcnehhpmjipaaGreatDoor
namespace Go.Proofs.YtflcnehhpmjipaaGreatDoor
open Go.RowKit
section
variable {P : Program} {ops : Array Oper} {U Z : List Nat} {o o2 : Oper} {n d : Nat} {T : List Nat} {s : Sto} {bx : List Box} {rw : List ORow} {ts : List (Nat × AT)} {Q : Exit → AS → Prop} {K : AS → Prop} {st : AS}
theorem sub_ext {ts' : List (Nat × AT)} (h : ∀ i t, look ts' i = some t → look ts i = some t) : Sub ⟨n, T, s, ts⟩ ⟨n, T, s, ts'⟩ := fun a w hs => ⟨⟨hs.df, hs.sz, fun i t ht => hs.tm i t (h i t ht), hs.mem⟩, fun _ h => h, fun _ h => h⟩
theorem sub_perm {bx' : List Box} (h : bx'.Perm bx) : Sub ⟨n, T, ⟨bx, rw⟩, ts⟩ ⟨n, T, ⟨bx', rw⟩, ts⟩ := fun a w hs => by
 have hbl : (⟨bx', rw⟩ : Sto).bl.Perm (⟨bx, rw⟩ : Sto).bl := (h.map _).append (List.Perm.refl _)
 have hu : Up2 (hideL (⟨bx, rw⟩ : Sto).bl w) (hideL (⟨bx', rw⟩ : Sto).bl w) := up_sub fun b hb => hbl.mem_iff.1 hb
 refine ⟨⟨hs.df, hs.sz, fun i t ht => let ⟨v, e1, e2⟩ := hs.tm i t ht; ⟨v, e1, e2.mono hu (hide_size (Nat.le_refl _))⟩, ?_⟩, fun b hb => hbl.mem_iff.1 hb, fun _ h => h⟩
 exact ⟨hbl.nodup_iff.2 hs.mem.nodup, fun b hb => hs.mem.lt b (hbl.mem_iff.1 hb), fun x hx => let ⟨us, e1, e2⟩ := hs.mem.box x (h.mem_iff.1 hx); ⟨us, e1, e2.mono hu⟩, fun r hr => let ⟨us, e1, e2⟩ := hs.mem.row r hr; ⟨us, e1, e2.mono hu⟩⟩
theorem anyH_eq {md : Region.Mode} {QQ : Exit → Act → World → Prop} {S S' : World → Prop} (hS : ∀ w, S' w → S w) {fuel : Nat} {listed : Array Bool} {a : Act} {w : World} (h : wpAnyH P md ops QQ S' fuel listed a w) : wpAnyH P md ops QQ S fuel listed a w := anyH_strong hS _ _ _ _ h
theorem any_sub {fuel : Nat} {listed : Array Bool} {st' : AS} (hs : Sub st st') (h : AAny P ops Z fuel listed st' K) : AAny P ops Z fuel listed st K :=
 fun a w hS QQ hp hQ => anyH_eq (fun w2 h2 => h2.mono fun b hb => mem_off.2 ⟨(hs a w hS).2.1 b (mem_off.1 hb).1, (mem_off.1 hb).2⟩) (h a w (hs a w hS).1 QQ hp fun a' w' st2 q s2 k => hQ a' w' st2 q s2 ((hs.ext hS).trans k))
theorem allocs2 (i j : Nat) {E1 E2 : TypeId} {d1 d2 : Nat} {z1 z2 : Value} {cs1 cs2 : List AC} {fuel : Nat} {listed : Array Bool} (hr : Region.ready .any ops listed = [i, j]) (hr1 : Region.ready .any ops (listed.setIfInBounds i true) = [j]) (hr2 : Region.ready .any ops (listed.setIfInBounds j true) = [i])
  (hi : ops.toList[i]? = some o) (hw : wantA ops o ⟨n, T, ⟨bx, rw⟩, ts⟩ = some true) (hi2 : ops.toList[j]? = some o2) (hw2 : wantA ops o2 ⟨n, T, ⟨bx, rw⟩, ts⟩ = some true) (hg1 : o.guard = none) (hg2 : o2.guard = none) (ho : o.op = .alloc E1) (hd1 : o.dst = some d1) (hn1 : d1 < n) (ho2 : o2.op = .alloc E2) (hd2 : o2.dst = some d2) (hn2 : d2 < n) (hne : d1 ≠ d2) (hij : i ≠ j)
  (hz1 : ∀ w, (zeroValue E1).run P w = .ok z1 w) (hc1 : cellsT (cst z1) = some cs1) (hz2 : ∀ w, (zeroValue E2).run P w = .ok z2 w) (hc2 : cellsT (cst z2) = some cs2)
  (h : ∀ b1 b2, AAny P ops Z fuel ((listed.setIfInBounds i true).setIfInBounds j true) ⟨n, b2 :: b1 :: T, ⟨⟨b2, E2, cs2⟩ :: ⟨b1, E1, cs1⟩ :: bx, rw⟩, (d2, .c (.val (.pointer (some ⟨b2, 0, none⟩)))) :: (d1, .c (.val (.pointer (some ⟨b1, 0, none⟩)))) :: ts⟩ K) :
  AAny P ops Z (fuel + 1 + 1) listed ⟨n, T, ⟨bx, rw⟩, ts⟩ K := by
 have w1 : ∀ st, wantA ops o st = some true := fun st => by unfold wantA; rw [hg1]
 have w2 : ∀ st, wantA ops o2 st = some true := fun st => by unfold wantA; rw [hg2]
 refine two i j hr hi (w1 _) hi2 (w2 _) (walloc ho hd1 hn1 hz1 hc1 fun b1 => ?_) (walloc ho2 hd2 hn2 hz2 hc2 fun b2 => ?_)
 ·exact one j hr1 hi2 (w2 _) (walloc ho2 hd2 hn2 hz2 hc2 fun b2 => h b1 b2)
 ·refine one i hr2 hi (w1 _) (walloc ho hd1 hn1 hz1 hc1 fun b1 => ?_)
  have h9 := h b1 b2
  rw [Array.setIfInBounds_comm _ _ hij] at h9
  refine any_sub (Sub.trans (sub_perm (List.Perm.swap _ _ _)) (Sub.trans (sub_T (st := ⟨n, b1 :: b2 :: T, ⟨⟨b2, E2, cs2⟩ :: ⟨b1, E1, cs1⟩ :: bx, rw⟩, _⟩) (b2 :: b1 :: T) ?_) (sub_ext ?_))) h9
  ·intro b hb; simp only [List.mem_cons] at hb ⊢; rcases hb with h | h | h <;> simp [h]
  ·intro k t hk
   simp only [look] at hk ⊢
   by_cases e1 : d2 = k
   ·rw [if_pos e1] at hk
    rw [if_neg (fun e => hne (e.trans e1.symm)), if_pos e1]; exact hk
   ·rw [if_neg e1] at hk ⊢; exact hk
theorem ay_subR (r : Int) {E yt : TypeId} {x y : Operand} {m k : Int} (ho : o.op = .binOp .sub E x y yt) (hx : evA st x = some (.c (.val (.int .i64 m)))) (hy : evA st y = some (.c (.val (.int .i64 k)))) (hr : m - k = r) (h1 : -9223372036854775808 ≤ r) (h2 : r ≤ 9223372036854775807) : AY P U o st (.c (.val (.int .i64 r))) := by
 subst hr; exact ay_sub ho hx hy h1 h2
theorem way {U : List Nat} {t : AT} (hd : o.dst = some d) (hn : d < n) (hy : AY P [] o ⟨n, T, s, ts⟩ t) (h : K ⟨n, T, s, (d, t) :: ts⟩) : AO P U o ⟨n, T, s, ts⟩ K := ao_y hd hn hy h
theorem ay_ixm {E e : TypeId} {x y : Operand} {α : Type} (f : α → AC) (lst : List α) {k : IntKind} {i : Int} (j : Nat) (ho : o.op = .indexAddr E x y) (hx : evA st x = some (.c (.sl lst.length (lst.map f)))) (hy : evA st y = some (.c (.val (.int k i)))) (hi : i = j) (hj : j < lst.length)
  (hu : ∀ w, (underlying E).run P w = .ok (.slice e) w) (hS : ∀ w, (sizeOf e).run P w = .ok 1 w) : AY P U o st (.el (f lst[j] :: (lst.drop (j + 1)).map f)) := by
 have h := ay_index_el (P := P) (U := U) j ho hx hy hi hj (by simpa using hj) hu hS
 have e1 : (lst.map f).drop (j * 1) = f lst[j] :: (lst.drop (j + 1)).map f := by rw [Nat.mul_one, ← List.map_drop, List.drop_eq_getElem_cons hj, List.map_cons]
 rw [e1] at h
 exact h
theorem fill_one {α : Type} (enc enc' : α → List AC) (x : α) {z : Nat} {zc : List AC} (he : enc x = enc' x) (h1 : zc.length = z) (h2 : (enc' x).length = z) : fillA (fun k => some (k * z, z)) zc [(0, .agg (enc' x))] = some ([x].flatMap enc) := by
 simp only [fillA, cellsT, Nat.zero_mul, Nat.zero_add]
 rw [if_pos ⟨h2, by omega⟩, splice_all (by omega)]
 simp [he]
theorem fill_two {α : Type} (enc enc' : α → List AC) (x y : α) {z : Nat} {zc : List AC} (he : ∀ x, enc x = enc' x) (h1 : zc.length = 2 * z) (h2 : ∀ x, (enc' x).length = z) : fillA (fun k => some (k * z, z)) zc [(0, .agg (enc' x)), (1, .agg (enc' y))] = some ([x, y].flatMap enc) := by
 simp only [fillA, cellsT, Nat.zero_mul, Nat.zero_add, Nat.one_mul]
 have e1 : (splice zc 0 (enc' x)).length = 2 * z := by unfold splice; simp [h2]; omega
 rw [if_pos ⟨h2 x, by omega⟩, if_pos ⟨h2 y, by omega⟩]
 unfold splice
 simp only [h2, List.take_zero, List.nil_append, Nat.zero_add, List.flatMap_cons, List.flatMap_nil, List.append_nil, he]
 rw [List.take_left' (h2 x), List.drop_of_length_le (by simp [h2]; omega)]
 simp
theorem ba_beq (s : ByteArray) : (s == s) = true := by
 cases s with
 | mk d => show ((ByteArray.mk d).data == (ByteArray.mk d).data) = true; simp
theorem ay_aggeq (us : List Value) (r : Bool) {op : BinOp} {t yt : TypeId} {x y : Operand} (ho : o.op = .binOp op t x y yt) (hx : evA st x = some (.agg (us.map .val))) (hy : evA st y = some (.agg (us.map .val))) (hg : P.eqGuardType P.depth t = false) (hE : ∀ w, (Op.equal t (.agg us.toArray) (.agg us.toArray)).run P w = .ok true w)
  (hr : boolR op true true = some r) : AY P U o st (.c (.val (.bool r))) := by
 intro a w hs _
 have key : ∀ z : Operand, evA st z = some (.agg (us.map .val)) → a.eval z = .agg us.toArray := by
  intro z hz
  have h := hs.ev hz
  generalize a.eval z = u at h
  cases h with
  | agg _ vs h1 =>
   have : vs = us := by
    refine List.ext_getElem (by have := h1.len; simpa using this) fun i h2 h3 => ?_
    have h4 := h1.at_ i (by simpa using h3) h2
    simp only [List.getElem_map] at h4
    generalize vs[i] = p at h4
    cases h4; rfl
   rw [this]
 refine ⟨_, .c _ _ (.val _ rfl), fun w' _ => ?_⟩
 have e2 := hE w'
 generalize hg2 : Op.equal t (.agg us.toArray) (.agg us.toArray) = E at e2
 simp only [execOp, ho, key x hx, key y hy]
 cases op <;> simp_all [go_sem, eqGuard, binOp, boolR]
end
end Go.Proofs.YtflcnehhpmjipaaGreatDoor
namespace Go.Proofs.YtflcnehhpmjipaaGreatDoor
open Go.RowKit
section
variable {P : Program} {U T : List Nat} {o : Oper} {n d : Nat} {ts : List (Nat × AT)} {bx : List Box} {rw : List ORow} {K : AS → Prop} {Q : Exit → AS → Prop} {ops : Array Oper} {l : List Oper}
theorem wapI {E e : TypeId} {x y : Operand} {k m z : Nat} {v zv : Value} {cs ds r : List AC} (A : List ORow) (i : TypeInfo) (bytes : Nat) {B : List ORow} (ho : o.op = .call { callee := .builtin .append, args := #[x, y], argTypes := #[E, E] }) (hd : o.dst = some d) (hn : d < n)
  (hx : evA ⟨n, T, ⟨bx, A ++ ⟨v, e, z, k, cs⟩ :: B⟩, ts⟩ x = some (.c (.val v))) (hy : evA ⟨n, T, ⟨bx, A ++ ⟨v, e, z, k, cs⟩ :: B⟩, ts⟩ y = some (.c (.sl m ds))) (hu : P.underlying E = some (.slice e)) (hi : P.info? e = some i) (hz : i.zero = some zv) (hsz : i.size = z) (hby : i.bytes = bytes) (hzs : zv.cells.size = z) (h0 : 0 < z)
  (hm : ds.length = m * z) (hm0 : 0 < m) (hlen : k + m ≤ maxLen) (hbytes : (k + m) * bytes ≤ 140737488355328) {N : Nat} (hN : k + m = N) (hU : (⟨bx, A ++ ⟨v, e, z, k, cs⟩ :: B⟩ : Sto).bl.Nodup → ∀ b, b ∈ rowB v → b ∈ U) (hT : ∀ b, b ∈ rowB v → b ∈ T) (hr : cs ++ ds = r)
  (h : ∀ v', K ⟨n, rowB v' ++ T, ⟨bx, A ++ ⟨v', e, z, N, r⟩ :: B⟩, (d, .c (.val v')) :: ts⟩) : AO P U o ⟨n, T, ⟨bx, A ++ ⟨v, e, z, k, cs⟩ :: B⟩, ts⟩ K := by
 subst hr; subst hN
 exact ao_append A ho hd hn hx rfl hy hu hi hz hsz hby hzs h0 hm hm0 hlen hbytes hU hT h
theorem frozen_rep {R R' : List ORow} {r : ORow} {w : World} (hm : Mem ⟨bx, R ++ r :: R'⟩ w) : Rep (hideL (⟨bx, R ++ R'⟩ : Sto).bl w) (.sl r.n r.cs) r.v := by
 obtain ⟨us, hown, hrep⟩ := hm.row r (by simp)
 have hbl : ∀ b, b ∈ (⟨bx, R ++ R'⟩ : Sto).bl → b ∈ (⟨bx, R ++ r :: R'⟩ : Sto).bl := fun b hb => by
  unfold Sto.bl at hb ⊢
  simp only [List.flatMap_append, List.flatMap_cons, List.mem_append] at hb ⊢
  rcases hb with h | h | h
  ·exact .inl h
  ·exact .inr (.inl h)
  ·exact .inr (.inr (.inr h))
 refine .sl _ _ us _ ?_ hrep.len (fun k h h' => (hrep.at_ k h h').mono (up_sub hbl)) (owns_cap hown)
 obtain ⟨p, cap, he, hc, hr⟩ := RowAt.of_owns hown
 refine ⟨p, cap, he, hc, ?_⟩
 rcases hr with h0 | ⟨b, off, rfl, hr⟩
 ·exact .inl h0
 ·refine .inr ⟨b, off, rfl, fun j x hj => ?_⟩
  have hbv : b ∈ rowB r.v := by rw [he]; simp [rowB, Value.ownBlock]
  rw [hideL_cell_ne]
  ·exact hr j x hj
  ·intro hm1
   have hnd := hm.nodup
   rw [bl_rows bx R R' r] at hnd
   have hm2 : b ∈ (bx.map Box.b ++ R.flatMap fun r => rowB r.v) ∨ b ∈ R'.flatMap fun r => rowB r.v := by
    unfold Sto.bl at hm1; simp only [List.flatMap_append, List.mem_append] at hm1 ⊢
    rcases hm1 with h | h | h
    ·exact .inl (.inl h)
    ·exact .inl (.inr h)
    ·exact .inr h
   rcases hm2 with hm2 | hm2
   ·exact (List.nodup_append.1 hnd).2.2 b hm2 b (List.mem_append_left _ hbv) rfl
   ·exact (List.nodup_append.1 (List.nodup_append.1 hnd).2.1).2.2 b hbv b hm2 rfl
theorem subS_frzb {b : Nat} {E : TypeId} {cs : List AC} {r : ORow} (A : List Box) {B : List Box} (i : Nat) (hi : cs[i]? = some (.val r.v)) : SubS ⟨A ++ ⟨b, E, cs⟩ :: B, r :: rw⟩ ⟨A ++ ⟨b, E, cs.set i (.sl r.n r.cs)⟩ :: B, rw⟩ := by
 intro w hm
 have hf := frozen_rep (R := []) hm
 obtain ⟨h1, h2⟩ := subS_of (s := ⟨A ++ ⟨b, E, cs⟩ :: B, r :: rw⟩) (s' := ⟨A ++ ⟨b, E, cs⟩ :: B, rw⟩) (.refl _) (List.sublist_cons_self _ _) w hm
 have hbl : (⟨A ++ ⟨b, E, cs.set i (.sl r.n r.cs)⟩ :: B, rw⟩ : Sto).bl = (⟨A ++ ⟨b, E, cs⟩ :: B, rw⟩ : Sto).bl := by unfold Sto.bl; simp
 refine ⟨⟨by rw [hbl]; exact h1.nodup, by rw [hbl]; exact h1.lt, fun x hx => ?_, fun x hx => by rw [hbl]; exact h1.row x hx⟩, by rw [hbl]; exact h2⟩
 rw [hbl]
 rcases List.mem_append.1 hx with hx | hx
 ·exact h1.box x (List.mem_append_left _ hx)
 ·rcases List.mem_cons.1 hx with rfl | hx
  ·obtain ⟨us, e1, e2⟩ := h1.box ⟨b, E, cs⟩ (by simp)
   refine ⟨us, e1, ?_⟩
   obtain ⟨u, g1, g2⟩ := e2.get hi
   cases g2
   have h9 := e2.set i hf
   have hus : us.set i r.v = us := by
    refine List.ext_getElem (by simp) fun j h1 h2 => ?_
    rw [List.getElem_set]
    split
    ·rename_i hj; subst hj; exact (List.getElem?_eq_some_iff.1 g1).2.symm
    ·rfl
   rw [hus] at h9; exact h9
  ·exact h1.box x (List.mem_append_right _ (List.mem_cons_of_mem _ hx))
theorem wfrzb {b : Nat} {E : TypeId} {cs cs' : List AC} {v : Value} {E2 : TypeId} {z k : Nat} {ds : List AC} (A : List Box) {B : List Box} (i : Nat) (hi : cs[i]? = some (.val v)) (hr : cs.set i (.sl k ds) = cs') (h : AOps P ops l ⟨n, T, ⟨A ++ ⟨b, E, cs'⟩ :: B, rw⟩, ts⟩ Q) : AOps P ops l ⟨n, T, ⟨A ++ ⟨b, E, cs⟩ :: B, ⟨v, E2, z, k, ds⟩ :: rw⟩, ts⟩ Q := by
 subst hr
 exact aops_sub (sub_sto (st := ⟨n, T, ⟨A ++ ⟨b, E, cs⟩ :: B, ⟨v, E2, z, k, ds⟩ :: rw⟩, ts⟩) (subS_frzb (r := ⟨v, E2, z, k, ds⟩) A i hi)) h
theorem resv_wk {st : AS} {rv : ResultVar} {r r' : AT} (h : Wk r r') (hr : ResV P st rv r) : ResV P st rv r' := fun a w hs =>
 let ⟨v, h1, h2⟩ := hr a w hs
 ⟨v, h _ _ h1, h2⟩
end
end Go.Proofs.YtflcnehhpmjipaaGreatDoor
namespace Go.Proofs.YtflcnehhpmjipaaGreatDoor
open Go.RowKit
section
variable {P : Program} {U T : List Nat} {o : Oper} {n d : Nat} {ts : List (Nat × AT)} {s : Sto} {K : AS → Prop}
theorem ay_makeFuncB {st : AS} {F : FuncId} {cap : Array Operand} {vs : List Value} (ho : o.op = .makeFunc (.func F) cap #[]) (hc : cap.toList.map (evA st) = vs.map fun v => some (.c (.val v))) : AY P U o st (.c (.val (.func (.func F) vs.toArray #[]))) :=
 ay_vals rfl fun a w hs w' => by
  have e : cap.map a.eval = vs.toArray := by
   rw [← Array.toList_inj, Array.toList_map]
   have : ∀ (l : List Operand) (vs : List Value), l.map (evA st) = vs.map (fun v => some (.c (.val v))) → l.map a.eval = vs := by
    intro l
    induction l with
    | nil => intro vs h; cases vs with | nil => rfl | cons => cases h
    | cons x l ih =>
     intro vs h
     cases vs with
     | nil => cases h
     | cons v vs =>
      simp only [List.map_cons, List.cons.injEq] at h ⊢
      exact ⟨hs.val h.1, ih vs h.2⟩
   exact this _ _ hc
  simp only [execOp, ho, Instr.makeFunc, e]
  simp [go_sem]
theorem wcallv {F : FuncId} {x : Operand} {fst cap : Array Value} {ars : Array Operand} {tys : Array TypeId} {us : List AT} (T' : List Nat) {QQ : AT → Sto → Prop} (ho : o.op = .call { callee := .value x, args := ars, argTypes := tys }) (hx : evA ⟨n, T, s, ts⟩ x = some (.c (.val (.func (.func F) fst cap)))) (hd : o.dst = some d) (hn : d < n)
  (hcf : ∀ args w, (callFunc F args).run P w = .ok (.enter F args) w) (has : ars.toList.map (evA ⟨n, T, s, ts⟩) = us.map some) (hc : ACall P F (fst.toList.map cst ++ us ++ cap.toList.map cst) T' s QQ) (hT : ∀ b, b ∈ T' → b ∈ T) (hTb : ∀ b, b ∈ T' → b ∈ s.bl) (hU : s.bl.Nodup → ∀ b, b ∈ T' → b ∈ U)
  (h : ∀ r s', QQ r s' → ∃ T2, (s'.bl.Nodup → ∀ b, b ∈ T2 → b ∈ s'.bl ∧ (b ∈ s.bl → b ∈ T)) ∧ K ⟨n, T2 ++ T, s', (d, r) :: ts⟩) : AO P U o ⟨n, T, s, ts⟩ K := by
 intro a w hs KK QQ' hK
 obtain ⟨h1, h2⟩ := evs_reps hs has
 obtain ⟨c1, c2⟩ := repTs_cst (hideL s.bl w) fst.toList
 obtain ⟨d1, d2⟩ := repTs_cst (hideL s.bl w) cap.toList
 obtain ⟨g1, g2⟩ := repTs_app c1 c2 h1 h2
 obtain ⟨g3, g4⟩ := repTs_app g1 g2 d1 d2
 unfold Oper.wp
 rw [show (execOp a.eval o).run P w = .ok (.enter F (fst.toList ++ ars.toList.map a.eval ++ cap.toList).toArray) w from by
  simp only [execOp, ho, resolve, hs.val hx, Deferred.ofValue, Sem.run_bind, Sem.run_pure, Result.andThen_ok, invoke]
  rw [hcf]
  congr 2
  rw [← Array.toList_inj]; simp, Oper.upon_enter]
 refine (hc _ w hs.mem hTb g3 g4).mono ?_
 rintro en w' ⟨r, v, s', rfl, hq, hr, hm, hk, hb⟩
 dsimp only
 rw [hd]
 obtain ⟨T2, ht, hK2⟩ := h r s' hq
 have s1 := hs.step (T2 ++ T) (hk.mono hTb) hm hb
 refine hK _ _ _ hK2 (s1.put hn hr) ⟨hk.mono hTb, hk.mono hT, hb, fun b hb2 => ?_⟩ (hk.mono (hU hs.mem.nodup))
 rcases List.mem_append.1 hb2 with hb2 | hb2
 ·obtain ⟨e1, e2⟩ := ht hm.nodup b hb2
  exact (hb b e1).imp e2 id
 ·exact .inl hb2
theorem row_back {bx bx' : List Box} {r r' : ORow} {rw : List ORow} {b : Nat} (hb : bx'.map Box.b = bx.map Box.b) (hn : (⟨bx', r' :: rw⟩ : Sto).bl.Nodup) (h1 : b ∈ rowB r'.v) (h2 : b ∈ (⟨bx, r :: rw⟩ : Sto).bl) : b ∈ rowB r.v := by
 unfold Sto.bl at hn h2
 simp only [List.flatMap_cons, List.mem_append] at h2
 simp only [List.flatMap_cons] at hn
 rw [hb] at hn
 rcases h2 with h | h | h
 ·exact absurd rfl ((List.nodup_append.1 hn).2.2 b h b (List.mem_append_left _ h1))
 ·exact h
 ·exact absurd rfl ((List.nodup_append.1 (List.nodup_append.1 hn).2.1).2.2 b h1 b h)
end
theorem eqf_fn (d : Nat) (fn : Fn) (x y : Array Value) (w : World) : (Op.equalIn (d + 1) 127 (.func fn x y) .nilFunc).run Tryz.prog w = .ok false w := by
 unfold Op.equalIn; simp [go_sem, Tryz.underlying127]
theorem eqf_nf (d : Nat) (w : World) : (Op.equalIn (d + 1) 127 .nilFunc .nilFunc).run Tryz.prog w = .ok true w := by
 unfold Op.equalIn; simp [go_sem, Tryz.underlying127]
theorem fn_neq (fn : Fn) (x y : Array Value) (w : World) : (Go.binOp BinOp.neq 127 (.func fn x y) .nilFunc).run Tryz.prog w = .ok (.bool true) w := by
 have := eqf_fn 9999 fn x y w
 simp [Go.binOp, go_sem, Tryz.underlying127]
 rw [show Op.equal = Op.equalIn 10000 from rfl, this]; rfl
theorem nf_neq (w : World) : (Go.binOp BinOp.neq 127 .nilFunc .nilFunc).run Tryz.prog w = .ok (.bool false) w := by
 have := eqf_nf 9999 w
 simp [Go.binOp, go_sem, Tryz.underlying127]
 rw [show Op.equal = Op.equalIn 10000 from rfl, this]; rfl
theorem ay_fnne {U : List Nat} {o : Oper} {st : AS} {x y : Operand} {yt : TypeId} {fn : Fn} {a c : Array Value} (ho : o.op = .binOp .neq 127 x y yt) (hx : evA st x = some (.c (.val (.func fn a c)))) (hy : evA st y = some (.c (.val .nilFunc))) : AY Tryz.prog U o st (.c (.val (.bool true))) :=
 ay_vals rfl fun a w hs w' => by
  simp only [execOp, ho, hs.val hx, hs.val hy, Sem.run_bind]
  simp [go_sem, eqGuard, fn_neq]
theorem ay_nfne {U : List Nat} {o : Oper} {st : AS} {x y : Operand} {yt : TypeId} (ho : o.op = .binOp .neq 127 x y yt) (hx : evA st x = some (.c (.val .nilFunc))) (hy : evA st y = some (.c (.val .nilFunc))) : AY Tryz.prog U o st (.c (.val (.bool false))) :=
 ay_vals rfl fun a w hs w' => by
  simp only [execOp, ho, hs.val hx, hs.val hy, Sem.run_bind]
  simp [go_sem, eqGuard, nf_neq]
end Go.Proofs.YtflcnehhpmjipaaGreatDoor
