import Derived.Test.YteiefdnbdjnoiaaGreatDoorH29J
import Derived.Test.YteiefdnbdjnoiaaGreatDoorCards
import Derived.Test.YteiefdnbdjnoiaaGreatDoorTie
import Derived.KernelRfl
import Derived.ProofKit
import Derived.OpenShut
import Derived.Carry
import Derived.Deep.DeepHandedRow
import Derived.LaidMore
import Derived.Lib.LaidTab
import Derived.Shelf.Vars
import Derived.Test.YteiefdnbdjnoiaaGreatDoorH6J
import Derived.Test.YteiefdnbdjnoiaaGreatDoorH7J
import Derived.Lib.SlBytesConst
import Derived.Test.YteiefdnbdjnoiaaGreatDoorH13J
set_option linter.all false
set_option synthInstance.maxHeartbeats 1000000
set_option synthInstance.maxSize 1000000
set_option maxHeartbeats 1600000
set_option maxRecDepth 100000
namespace Go.Proofs.YteiefdnbdjnoiaaGreatDoor
open List (length_append length_cons length_nil mem_append mem_cons not_mem_nil append_assoc getElem_mem take_of_length_le)
section
open Go.RowKit
theorem aQw (w : World) (he : Env w) : Calls Tryz.prog 19 #[.slice (some ⟨w.heap.size, 0, none⟩) 42 42] (w.alloc (Obj.cells #[Value.int .u8 109, Value.int .u8 117, Value.int .u8 116, Value.int .u8 101, Value.int .u8 120, Value.int .u8 32, Value.int .u8 97, Value.int .u8 59, Value.int .u8 32, Value.int .u8 102, Value.int .u8 117, Value.int .u8 110, Value.int .u8 99, Value.int .u8 32, Value.int .u8 109, Value.int .u8 97, Value.int .u8 105, Value.int .u8 110, Value.int .u8 40, Value.int .u8 41, Value.int .u8 32, Value.int .u8 123, Value.int .u8 32, Value.int .u8 108, Value.int .u8 111, Value.int .u8 99, Value.int .u8 107, Value.int .u8 32, Value.int .u8 97, Value.int .u8 59, Value.int .u8 32, Value.int .u8 117, Value.int .u8 110, Value.int .u8 108, Value.int .u8 111, Value.int .u8 99, Value.int .u8 107, Value.int .u8 32, Value.int .u8 97, Value.int .u8 59, Value.int .u8 32, Value.int .u8 125] 5 (42, 43))) fun e w' => (∃ ga gn gc a c b off c2 a3 c3, e = .returned (.tuple #[.agg #[.slice ga gn gc, .slice a 1 c, .slice (some ⟨b, off, none⟩) 1 c2], .int .i64 42, .int .i64 0]) ∧ 1 ≤ c2 ∧ w'.cell? ⟨b, off + 2, none⟩ = some (.slice a3 2 c3)) ∧ Below w.heap.size w w' :=
 (aMf _ _ (he.alloc _) (dD.new_mark w (cC aCh) 5 42 (42, 43)) (fun _ _ _ h => by cases h; decide)).mono fun e w' ⟨h, hb⟩ => ⟨h, ((Below.refl _ _).alloc (Nat.le_refl _) _).trans (hb.mono (by simp))⟩
theorem aQn (w : World) (he : Env w) : Calls Tryz.prog 19 #[.slice (some ⟨w.heap.size, 0, none⟩) 10 10] (w.alloc (Obj.cells #[Value.int .u8 109, Value.int .u8 117, Value.int .u8 116, Value.int .u8 101, Value.int .u8 120, Value.int .u8 32, Value.int .u8 97, Value.int .u8 59, Value.int .u8 32, Value.int .u8 97] 5 (10, 11))) fun e w' => (∃ ga gn gc ua un uc fa fn fc, e = .returned (.tuple #[.agg #[.slice ga gn gc, .slice ua un uc, .slice fa fn fc], .int .i64 9, .int .i64 4])) ∧ Below w.heap.size w w' :=
 (aMo _ _ (he.alloc _) (dD.new_mark w (cC aJ9) 5 10 (10, 11)) (fun _ _ _ h => by cases h; decide)).mono fun e w' ⟨h, hb⟩ => ⟨h, ((Below.refl _ _).alloc (Nat.le_refl _) _).trans (hb.mono (by simp))⟩
theorem aH8 (w : World) (X : Obj) (he : Env w) : Calls Tryz.prog 19 #[.slice (some ⟨w.heap.size + 1, 0, none⟩) 10 10] ((w.alloc X).alloc (Obj.cells #[Value.int .u8 109, Value.int .u8 117, Value.int .u8 116, Value.int .u8 101, Value.int .u8 120, Value.int .u8 32, Value.int .u8 97, Value.int .u8 59, Value.int .u8 32, Value.int .u8 97] 5 (10, 11))) fun e w' => (∃ ga gn gc ua un uc fa fn fc, e = .returned (.tuple #[.agg #[.slice ga gn gc, .slice ua un uc, .slice fa fn fc], .int .i64 9, .int .i64 4])) ∧ Below (w.heap.size + 1) (w.alloc X) w' := by
 have h := aQn (w.alloc X) (he.alloc _)
 have e1 : (w.alloc X).heap.size = w.heap.size + 1 := by simp
 rw [e1] at h; exact h
theorem aH2 (w : World) (he : Env w) :
  Calls Tryz.prog 16 #[] w fun e w' => e = .returned (.bool true) ∧ Below w.heap.size w w' := by
 have kc := fun (w : World) (C : Array Value) (n c : Nat) => Lib.run_convert_bytes_const (P := Tryz.prog) w 23 5 C n c Tryz.underlying23 Tryz.underlying5
 go_enter Tryz.func16, Tryz.ntmps16
 go_wp2_with (go_at_call 19; ((with_reducible refine (aQw w he).mono ?_); rintro e w1 ⟨⟨ga, gn, gc, a, c, b, off, c2, a3, c3, rfl, hc2, hcell⟩, hb1⟩))
 have he1 : Env w1 := he.below hb1 he.size
 have hs1 := hb1.size
 have key : ∀ w2, Below w1.heap.size w1 w2 → Env w2 ∧ w2.cell? ⟨b, off + 2, none⟩ = some (.slice a3 2 c3) := fun w2 hb2 => ⟨he1.below hb2 he1.size, by rw [hb2.cell (p := ⟨b, off + 2, none⟩) (gV hcell)]; exact hcell⟩
 have KEY := Lib.hid key
 clear key
 have HQ : ∀ w2, Below (w1.heap.size + 1) (w1.alloc (Obj.cells #[Value.slice ga gn gc, Value.slice a 1 c, Value.slice (some ⟨b, off, none⟩) 1 c2] 35)) w2 → (∀ X, (w2.alloc X).cell? ⟨w1.heap.size, 1, none⟩ = some (.slice a 1 c)) ∧ (∀ X, (w2.alloc X).cell? ⟨w1.heap.size, 2, none⟩ = some (.slice (some ⟨b, off, none⟩) 1 c2)) ∧ (∀ X, (w2.alloc X).cell? ⟨b, off + 2, none⟩ = some (.slice a3 2 c3)) := by
  intro w2 hb2
  have hs2 := hb2.size
  simp only [World.size_alloc] at hs2
  have h1 : ∀ o u, (w1.alloc (Obj.cells #[Value.slice ga gn gc, Value.slice a 1 c, Value.slice (some ⟨b, off, none⟩) 1 c2] 35)).cell? ⟨w1.heap.size, o, none⟩ = some u → ∀ X, (w2.alloc X).cell? ⟨w1.heap.size, o, none⟩ = some u := fun o u h X => by
   rw [World.cell?_alloc_lt w2 _ ⟨w1.heap.size, o, none⟩ (by show w1.heap.size < w2.heap.size; omega), hb2.cell (p := ⟨w1.heap.size, o, none⟩) (by show w1.heap.size < _; omega)]; exact h
  have hbl := gV hcell
  refine ⟨h1 1 _ (by simp [World.cell?_alloc_mark]), h1 2 _ (by simp [World.cell?_alloc_mark]), fun X => ?_⟩
  rw [World.cell?_alloc_lt w2 _ ⟨b, off + 2, none⟩ (by show b < w2.heap.size; have : b < w1.heap.size := hbl; omega), hb2.cell (p := ⟨b, off + 2, none⟩) (by show b < _; have : b < w1.heap.size := hbl; omega), World.cell?_alloc_lt w1 _ ⟨b, off + 2, none⟩ hbl]; exact hcell
 have kc2 := fun (X : Obj) (C : Array Value) (n c : Nat) => kc (w1.alloc X) C n c
 simp only [World.size_alloc] at kc2
 go_wp2_with (first | (go_at_call 19; ((with_reducible refine (aH8 w1 _ he1).mono ?_); rintro e w2 ⟨⟨ga2, gn2, gc2, ua2, un2, uc2, fa2, fn2, fc2, rfl⟩, hb2⟩)))
 rw [kc2]
 go_wp2_with (first | (go_at_call 19; ((with_reducible refine (aH8 w1 _ he1).mono ?_); rintro e w2 ⟨⟨ga2, gn2, gc2, ua2, un2, uc2, fa2, fn2, fc2, rfl⟩, hb2⟩; obtain ⟨q1, q2, q3⟩ := HQ w2 hb2)))
 go_ret
 have hb3 := (hb1.alloc hb1.size (Obj.cells #[Value.slice ga gn gc, Value.slice a 1 c, Value.slice (some ⟨b, off, none⟩) 1 c2] 35)).trans (hb2.mono (by have := hb1.size; omega))
 exact ⟨rfl, hb3.alloc hb3.size _⟩
end
section
open Go.ChangeShapes Go.WideShapes Go.ChangeAt Go.RowKit
theorem own : ownKnob Tryz.prog.godebug = none := by kernel_rfl
theorem laidOut : laidOutB Tryz.prog = true := by kernel_rfl
theorem aRc : Tryz.prog.globalNamed "lockorder/token.words" = some 0 := by kernel_rfl
theorem aA1 {H : Type} {enc : TypeId × Value → H} {P : Program} {w : World} {base : Nat} {sp : Nat → Bool} {held : Bool} {fuel : Nat} {t e : TypeId} {n : Nat} {cs : List Value} {zs : List (List UInt8)} {p : List MemPlace}
  (ht : P.underlying t = some (.array n e)) (he : P.underlying e = some .string) (hce : P.cellsOf e = 1) (hct : P.cellsOf t = n)
  (h : DataW.trod enc P w base sp held fuel t cs = some (.agg (zs.map fun z => .lit (.string z)), p)) : cs = zs.map fun z => Value.string (bytes z) := by
 cases fuel with
 | zero => simp [DataW.trod] at h
 | succ fuel =>
  simp only [DataW.trod, ht, hce, hct, Nat.mul_one] at h
  split at h
  ·rename_i hl
   obtain ⟨xs, hm, hx⟩ := Option.map_eq_some_iff.1 h
   have hxs : xs.map (·.1) = zs.map fun z => (DataW.lit (.string z) : DataW H) := by
    have := congrArg Prod.fst hx
    simpa using this
   have hxl : xs.length = n := by simpa using Lib.mapM_length hm
   have hzl : zs.length = n := by
    have := congrArg List.length hxs
    simp at this
    omega
   apply List.ext_getElem?
   intro i
   by_cases hi : i < n
   ·obtain ⟨b, hb, hf⟩ := Lib.mapM_at hm i i (by simp [hi])
    obtain ⟨z, hc, rfl, _⟩ := DataW.trod_string he hf
    have h1 : cs[i]? = some (.string z) := by
     have := congrArg (·[0]?) hc
     simpa [List.getElem?_take, List.getElem?_drop] using this
    have h2 : (xs.map (·.1))[i]? = some (DataW.lit (.string z.data.toList) : DataW H) := by simp [hb]
    rw [hxs] at h2
    simp only [List.getElem?_map, Option.map_eq_some_iff, DataW.lit.injEq, Lit.string.injEq] at h2
    obtain ⟨z', hz', he'⟩ := h2
    simp [h1, hz', bytes, he']
   ·rw [List.getElem?_eq_none (by omega), List.getElem?_eq_none (by simp; omega)]
  ·cases h
def aGj : List (List UInt8) := words.map fun b => b.data.toList
theorem aQe {W : World} (h : laidMetH Tryz.prog [("lockorder/token.words", Rows.laid_lockorder_token_words)] W) (hs : W.ShapedOpen Tryz.prog) : Env W := by
 obtain ⟨ps, ⟨g', t', cs, fuel, p, q, hg', ht', hvar, hd, _, _⟩, _⟩ := (show laidMet Tryz.prog [("lockorder/token.words", Rows.laid_lockorder_token_words)] W from h)
 obtain rfl := Option.some.inj (aRc.symm.trans hg')
 obtain rfl : t' = 198 := Option.some.inj (ht'.symm.trans (show (Tryz.prog.globals[0]?).map (·.type) = some 198 by kernel_rfl))
 have hc := aA1 (zs := aGj) (n := 11) (e := 9) Tryz.underlying198 Tryz.underlying9 (by kernel_rfl) (by kernel_rfl) hd
 refine ⟨fun j hj => ?_, ?_, ?_⟩
 ·have := World.var?_cell hg' hvar j
  rw [← Array.getElem?_toList, hc] at this
  rw [Nat.zero_add, this]
  have hj' : j < 11 := hj
  have : ∀ i, i < 11 → (aGj.map fun z => Value.string (bytes z))[i]? = some (.string (words.getD i ByteArray.empty)) := by
   intro i hi
   simp only [aGj, List.map_map]
   rw [List.getElem?_map, List.getElem?_eq_getElem (show i < words.length from hi)]
   simp [List.getD, show i < words.length from hi, bytes]
  simpa using this j hj'
 ·exact cell_of_shapedOpen_int (zero := #[.int .i64 0]) (t := 3) hs (of_decide_eq_true (by kernel_rfl)) (by kernel_rfl) rfl (by kernel_rfl) (by kernel_rfl) Tryz.underlying3
 ·obtain ⟨m, hm⟩ := cell_of_shapedOpen_int (zero := #[.int .i64 0]) (t := 3) (g := 1) hs (of_decide_eq_true (by kernel_rfl)) (by kernel_rfl) rfl (by kernel_rfl) (by kernel_rfl) Tryz.underlying3
  have := gV hm
  exact this
theorem sV {H : Type} {enc : TypeId × Value → H} {W W' : World} (hb : Below W.heap.size W W') :
  ∀ {ts : List TypeId} {vs : List Value} {ds : List (DataW H)} {ps : List MemPlace}, (∀ t ∈ ts, Tryz.prog.readableRec t = true ∧ t < Tryz.prog.types.size) → DataW.TrodAll enc Tryz.prog W 0 (fun _ => true) true ts vs ds ps → (∀ x ∈ ps, x.block < W.heap.size) →
   DataW.TrodAll enc Tryz.prog W' 0 (fun b => decide (b < W.heap.size)) true ts vs ds ps
 | [], _, _, _, _, h, _ => by
  obtain ⟨rfl, rfl, rfl⟩ := trodAll_nil h
  exact trodAll_mk0
 | t :: ts, _, _, _, hr, h, hlt => by
  obtain ⟨v, vs1, d, ds1, a, b, rfl, rfl, rfl, h1, h2⟩ := trodAll_cons h
  have ht := hr t (List.mem_cons_self ..)
  exact ⟨a, b, Below.trod laidOut ht.1 ht.2 h1 hb (fun x hx => hlt x (List.mem_append_left _ hx)),
   sV hb (fun u hu => hr u (List.mem_cons_of_mem _ hu)) h2 (fun x hx => hlt x (List.mem_append_right _ hx)), rfl⟩
theorem aMc {H : Type} {enc : TypeId × Value → H} {F : Func} {s : ChangeSpec} {W W' : World} {args : Array Value} {ds gs : List (DataW H)} {before : List MemPlace}
  (hW : DataW.Whole enc Tryz.prog F.params.toList s.vars false W args.toList ds gs before) (hv : s.vars = []) (hfn : s.fn H ds = { results := [.lit (.bool true)], args := ds })
  (hread : ∀ t ∈ F.params.toList, Tryz.prog.readableRec t = true ∧ t < Tryz.prog.types.size) (hres : F.resultTypes = #[4]) (hb : Below W.heap.size W W') :
  ∃ v, Ending.returned (.bool true) = .returned v ∧ s.post enc Tryz.prog F false true false false W args v W' := by
 refine ⟨_, rfl, ?_⟩
 have hlt : ∀ p ∈ before, p.block < W.heap.size := fun p hp => by simpa using hW.lt p hp
 have hW' := hW
 obtain ⟨p, q, hA, hV, rfl, hfz, hnd⟩ := hW
 rw [hv] at hV
 obtain ⟨rfl, rfl⟩ := trodVars_none hV
 simp only [List.append_nil] at hlt hW'
 refine ⟨ds, [], p, [], p, [], hW', ?_, ?_, ?_, ?_, fun h => by cases h⟩
 ·rw [hres, List.append_nil, hfn]
  exact trodAll_cons_mk (shut_bool Tryz.underlying4 true) trodAll_mk0
 ·rw [List.append_nil, hfn]
  exact sV hb hread hA hlt
 ·rw [List.append_nil, hfn, hv]; rfl
 ·exact hb.frame _
theorem aNi (os : Os) (args : Array Value) : laidMet Tryz.prog [("lockorder/token.words", Rows.laid_lockorder_token_words)] ((World.doorLaid Tryz.prog 60 os).forCall (fun _ _ => 0) ⟨#[], args, []⟩).memory :=
 laidMet_of_run' 8 (by kernel_rfl) (by kernel_rfl)
theorem aFm {W : World} {a : Addr} {u : Value} (h : W.cell? (a.add 0) = some u) : ∃ b off, a = ⟨b, off, none⟩ := by
 obtain ⟨b, off, sp⟩ := a
 cases sp with
 | none => exact ⟨b, off, rfl⟩
 | some k =>
  exfalso
  simp only [Addr.add, if_true] at h
  unfold World.cell? at h
  split at h
  ·simp at h
  ·cases h
end
section
open Go.ChangeShapes Go.WideShapes Go.ChangeAt Go.RowKit
theorem aHn {H : Type} {enc : TypeId × Value → H} {W : World} {base : Nat} {v : Value} {d : DataW H} {p : List MemPlace} (hval : Value.okWide Tryz.prog W .any base 22 v) (hd : DataW.Trod enc Tryz.prog W 0 (fun _ => true) true 22 v d p) :
  ∃ (s : List Int) (a : Option Addr) (cap : Nat), v = .slice a s.length cap ∧ s.length ≤ cap ∧ cap ≤ maxLen ∧ dD W v s.length (s.map (.int .i64)) := by
 obtain ⟨a, len, cap, rfl⟩ := okWide_slice Tryz.underlying22 hval
 obtain ⟨fuel, hf⟩ := hd
 rcases open_ints Tryz.underlying22 Tryz.underlying3 (by kernel_rfl) hf with ⟨hcs, hx⟩ | ⟨a', len', cap', zs, hcs, _, hl, hm, hz, hx, hcell, hwz⟩
 ·simp [Value.cells] at hcs
  obtain ⟨rfl, rfl, rfl⟩ := hcs
  exact ⟨[], none, 0, rfl, Nat.le_refl _, (by unfold maxLen; omega), dD.nil _⟩
 ·simp [Value.cells] at hcs
  obtain ⟨rfl, rfl, rfl⟩ := hcs
  simp only [if_true] at hz
  have hlen : (zs.take len).length = len := by rw [List.length_take]; omega
  refine ⟨zs.take len, some a', cap, by rw [hlen], by rw [hlen]; exact hl, hm, some a', cap, by rw [hlen], by rw [hlen]; exact hl, ?_⟩
  by_cases h0 : len = 0
  ·left; subst h0; rfl
  ·right
   obtain ⟨b, off, rfl⟩ := aFm (hcell 0 (by omega))
   refine ⟨b, off, rfl, fun j u hu => ?_⟩
   have hj : j < len := by
    rcases Nat.lt_or_ge j len with h | h
    ·exact h
    ·rw [List.getElem?_eq_none (by rw [List.length_map, hlen]; exact h)] at hu; cases hu
   have hc := hcell j (by omega)
   rw [add_plain] at hc
   rw [hc]
   simp only [List.getElem?_map, List.getElem?_take, if_pos hj, List.getElem?_eq_getElem (show j < zs.length by omega), Option.map_some] at hu
   rw [← hu]
   simp [List.getD, show j < zs.length by omega]
end
section
open Go.RowKit
def bFm (x y : Int) : Int := IntKind.i64.wrap ((BitVec.ofInt IntKind.i64.bits x &&& BitVec.ofInt IntKind.i64.bits y).toNat)
section
variable {P : Program} {U : List Nat} {o : Oper} {st : AS}
theorem bFn {t yt : TypeId} {x y : Operand} {m n : Int} (ho : o.op = .binOp .and t x y yt) (hx : evA st x = some (.c (.val (.int .i64 m)))) (hy : evA st y = some (.c (.val (.int .i64 n)))) : AY P U o st (.c (.val (.int .i64 (bFm m n)))) :=
 fW rfl fun a w hs w' => by
  simp only [execOp, ho, hs.val hx, hs.val hy]
  simp [go_sem, eqGuard, binOp, Op.intBits, bFm]
theorem bFd {t yt : TypeId} {x y : Operand} {m : Int} (ho : o.op = .binOp .shr t x y yt) (hx : evA st x = some (.c (.val (.int .i64 m)))) (hy : evA st y = some (.c (.val (.int .u64 1)))) : AY P U o st (.c (.val (.int .i64 (m.fdiv 2)))) :=
 fW rfl fun a w hs w' => by
  simp only [execOp, ho, hs.val hx, hs.val hy]
  simp [go_sem, eqGuard, binOp, Op.shift, show min (Int.toNat 1) IntKind.i64.bits = 1 from rfl]
end
theorem bEj (x n : Int) (hn : 0 < n) : ∃ k : Nat, x % n = k ∧ (k : Int) < n :=
 ⟨(x % n).toNat, by have := Int.emod_nonneg x (b := n) (by omega); omega, by have := Int.emod_nonneg x (b := n) (by omega); have := Int.emod_lt_of_pos x (b := n) hn; omega⟩
theorem bEl (x n : Int) (k : Nat) (hn : 0 < n) (hn2 : n ≤ 4611686018427387904) (hk : x % n = k) (s : Sto) : aL Tryz.prog 14 [.c (.val (.int .i64 x)), .c (.val (.int .i64 n))] [] s fun r s' => r = nI k ∧ s' = s := by
 have h := aNz x n hn hn2 s
 rw [hk] at h
 exact h
end
end Go.Proofs.YteiefdnbdjnoiaaGreatDoor
