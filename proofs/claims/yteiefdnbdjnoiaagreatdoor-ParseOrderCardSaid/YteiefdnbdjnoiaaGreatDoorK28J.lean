import Derived.Test.YteiefdnbdjnoiaaGreatDoorCards
import Derived.Test.YteiefdnbdjnoiaaGreatDoorTie
import Derived.KernelRfl
import Derived.ProofKit
import Derived.OpenShut
import Derived.Carry
import Derived.Deep.DeepHandedRow
import Derived.LaidMore
import Derived.Lib.LaidTab
import Derived.Shelf.Vars
import Derived.Test.YteiefdnbdjnoiaaGreatDoorK6J
import Derived.Test.YteiefdnbdjnoiaaGreatDoorK7J
import Derived.Lib.SlBytesConst
set_option linter.all false
set_option synthInstance.maxHeartbeats 1000000
set_option synthInstance.maxSize 1000000
set_option maxRecDepth 100000
namespace Go.Proofs.YteiefdnbdjnoiaaGreatDoor
open List (length_append length_cons length_nil mem_append mem_cons not_mem_nil append_assoc getElem_mem take_of_length_le)
section
open Go.ChangeShapes Go.WideShapes Go.ChangeAt Go.RowKit
theorem own : ownKnob Tryz.prog.godebug = none := by kernel_rfl
theorem laidOut : laidOutB Tryz.prog = true := by kernel_rfl
theorem aRc : Tryz.prog.globalNamed "lockorder/token.words" = some 0 := by kernel_rfl
theorem aA1 {H : Type} {enc : TypeId × Value → H} {P : Program} {w : World} {base : Nat} {sp : Nat → Bool} {held : Bool} {fuel : Nat} {t e : TypeId} {n : Nat} {cs : List Value} {zs : List (List UInt8)} {p : List MemPlace}
  (ht : P.underlying t = some (.array n e)) (he : P.underlying e = some .string) (hce : P.cellsOf e = 1) (hct : P.cellsOf t = n)
  (h : DataW.trod enc P w base sp held fuel t cs = some (.agg (zs.map fun z => .lit (.string z)), p)) : cs = zs.map fun z => Value.string (bytes z) := by
 cases fuel with
 | zero => simp [DataW.trod] at h
 | succ fuel =>
  simp only [DataW.trod, ht, hce, hct, Nat.mul_one] at h
  split at h
  ·rename_i hl
   obtain ⟨xs, hm, hx⟩ := Option.map_eq_some_iff.1 h
   have hxs : xs.map (·.1) = zs.map fun z => (DataW.lit (.string z) : DataW H) := by
    have := congrArg Prod.fst hx
    simpa using this
   have hxl : xs.length = n := by simpa using Lib.mapM_length hm
   have hzl : zs.length = n := by
    have := congrArg List.length hxs
    simp at this
    omega
   apply List.ext_getElem?
   intro i
   by_cases hi : i < n
   ·obtain ⟨b, hb, hf⟩ := Lib.mapM_at hm i i (by simp [hi])
    obtain ⟨z, hc, rfl, _⟩ := DataW.trod_string he hf
    have h1 : cs[i]? = some (.string z) := by
     have := congrArg (·[0]?) hc
     simpa [List.getElem?_take, List.getElem?_drop] using this
    have h2 : (xs.map (·.1))[i]? = some (DataW.lit (.string z.data.toList) : DataW H) := by simp [hb]
    rw [hxs] at h2
    simp only [List.getElem?_map, Option.map_eq_some_iff, DataW.lit.injEq, Lit.string.injEq] at h2
    obtain ⟨z', hz', he'⟩ := h2
    simp [h1, hz', bytes, he']
   ·rw [List.getElem?_eq_none (by omega), List.getElem?_eq_none (by simp; omega)]
  ·cases h
def aGj : List (List UInt8) := words.map fun b => b.data.toList
theorem aQe {W : World} (h : laidMetH Tryz.prog [("lockorder/token.words", Rows.laid_lockorder_token_words)] W) (hs : W.ShapedOpen Tryz.prog) : Env W := by
 obtain ⟨ps, ⟨g', t', cs, fuel, p, q, hg', ht', hvar, hd, _, _⟩, _⟩ := (show laidMet Tryz.prog [("lockorder/token.words", Rows.laid_lockorder_token_words)] W from h)
 obtain rfl := Option.some.inj (aRc.symm.trans hg')
 obtain rfl : t' = 198 := Option.some.inj (ht'.symm.trans (show (Tryz.prog.globals[0]?).map (·.type) = some 198 by kernel_rfl))
 have hc := aA1 (zs := aGj) (n := 11) (e := 9) Tryz.underlying198 Tryz.underlying9 (by kernel_rfl) (by kernel_rfl) hd
 refine ⟨fun j hj => ?_, ?_, ?_⟩
 ·have := World.var?_cell hg' hvar j
  rw [← Array.getElem?_toList, hc] at this
  rw [Nat.zero_add, this]
  have hj' : j < 11 := hj
  have : ∀ i, i < 11 → (aGj.map fun z => Value.string (bytes z))[i]? = some (.string (words.getD i ByteArray.empty)) := by
   intro i hi
   simp only [aGj, List.map_map]
   rw [List.getElem?_map, List.getElem?_eq_getElem (show i < words.length from hi)]
   simp [List.getD, show i < words.length from hi, bytes]
  simpa using this j hj'
 ·exact cell_of_shapedOpen_int (zero := #[.int .i64 0]) (t := 3) hs (of_decide_eq_true (by kernel_rfl)) (by kernel_rfl) rfl (by kernel_rfl) (by kernel_rfl) Tryz.underlying3
 ·obtain ⟨m, hm⟩ := cell_of_shapedOpen_int (zero := #[.int .i64 0]) (t := 3) (g := 1) hs (of_decide_eq_true (by kernel_rfl)) (by kernel_rfl) rfl (by kernel_rfl) (by kernel_rfl) Tryz.underlying3
  have := gV hm
  exact this
theorem sV {H : Type} {enc : TypeId × Value → H} {W W' : World} (hb : Below W.heap.size W W') :
  ∀ {ts : List TypeId} {vs : List Value} {ds : List (DataW H)} {ps : List MemPlace}, (∀ t ∈ ts, Tryz.prog.readableRec t = true ∧ t < Tryz.prog.types.size) → DataW.TrodAll enc Tryz.prog W 0 (fun _ => true) true ts vs ds ps → (∀ x ∈ ps, x.block < W.heap.size) →
   DataW.TrodAll enc Tryz.prog W' 0 (fun b => decide (b < W.heap.size)) true ts vs ds ps
 | [], _, _, _, _, h, _ => by
  obtain ⟨rfl, rfl, rfl⟩ := trodAll_nil h
  exact trodAll_mk0
 | t :: ts, _, _, _, hr, h, hlt => by
  obtain ⟨v, vs1, d, ds1, a, b, rfl, rfl, rfl, h1, h2⟩ := trodAll_cons h
  have ht := hr t (List.mem_cons_self ..)
  exact ⟨a, b, Below.trod laidOut ht.1 ht.2 h1 hb (fun x hx => hlt x (List.mem_append_left _ hx)),
   sV hb (fun u hu => hr u (List.mem_cons_of_mem _ hu)) h2 (fun x hx => hlt x (List.mem_append_right _ hx)), rfl⟩
theorem aMc {H : Type} {enc : TypeId × Value → H} {F : Func} {s : ChangeSpec} {W W' : World} {args : Array Value} {ds gs : List (DataW H)} {before : List MemPlace}
  (hW : DataW.Whole enc Tryz.prog F.params.toList s.vars false W args.toList ds gs before) (hv : s.vars = []) (hfn : s.fn H ds = { results := [.lit (.bool true)], args := ds })
  (hread : ∀ t ∈ F.params.toList, Tryz.prog.readableRec t = true ∧ t < Tryz.prog.types.size) (hres : F.resultTypes = #[4]) (hb : Below W.heap.size W W') :
  ∃ v, Ending.returned (.bool true) = .returned v ∧ s.post enc Tryz.prog F false true false false W args v W' := by
 refine ⟨_, rfl, ?_⟩
 have hlt : ∀ p ∈ before, p.block < W.heap.size := fun p hp => by simpa using hW.lt p hp
 have hW' := hW
 obtain ⟨p, q, hA, hV, rfl, hfz, hnd⟩ := hW
 rw [hv] at hV
 obtain ⟨rfl, rfl⟩ := trodVars_none hV
 simp only [List.append_nil] at hlt hW'
 refine ⟨ds, [], p, [], p, [], hW', ?_, ?_, ?_, ?_, fun h => by cases h⟩
 ·rw [hres, List.append_nil, hfn]
  exact trodAll_cons_mk (shut_bool Tryz.underlying4 true) trodAll_mk0
 ·rw [List.append_nil, hfn]
  exact sV hb hread hA hlt
 ·rw [List.append_nil, hfn, hv]; rfl
 ·exact hb.frame _
theorem aNi (os : Os) (args : Array Value) : laidMet Tryz.prog [("lockorder/token.words", Rows.laid_lockorder_token_words)] ((World.doorLaid Tryz.prog 60 os).forCall (fun _ _ => 0) ⟨#[], args, []⟩).memory :=
 laidMet_of_run' 8 (by kernel_rfl) (by kernel_rfl)
theorem aFm {W : World} {a : Addr} {u : Value} (h : W.cell? (a.add 0) = some u) : ∃ b off, a = ⟨b, off, none⟩ := by
 obtain ⟨b, off, sp⟩ := a
 cases sp with
 | none => exact ⟨b, off, rfl⟩
 | some k =>
  exfalso
  simp only [Addr.add, if_true] at h
  unfold World.cell? at h
  split at h
  ·simp at h
  ·cases h
end
section
open Go.ChangeShapes Go.WideShapes Go.ChangeAt Go.RowKit
theorem aHn {H : Type} {enc : TypeId × Value → H} {W : World} {base : Nat} {v : Value} {d : DataW H} {p : List MemPlace} (hval : Value.okWide Tryz.prog W .any base 22 v) (hd : DataW.Trod enc Tryz.prog W 0 (fun _ => true) true 22 v d p) :
  ∃ (s : List Int) (a : Option Addr) (cap : Nat), v = .slice a s.length cap ∧ s.length ≤ cap ∧ cap ≤ maxLen ∧ dD W v s.length (s.map (.int .i64)) := by
 obtain ⟨a, len, cap, rfl⟩ := okWide_slice Tryz.underlying22 hval
 obtain ⟨fuel, hf⟩ := hd
 rcases open_ints Tryz.underlying22 Tryz.underlying3 (by kernel_rfl) hf with ⟨hcs, hx⟩ | ⟨a', len', cap', zs, hcs, _, hl, hm, hz, hx, hcell, hwz⟩
 ·simp [Value.cells] at hcs
  obtain ⟨rfl, rfl, rfl⟩ := hcs
  exact ⟨[], none, 0, rfl, Nat.le_refl _, (by unfold maxLen; omega), dD.nil _⟩
 ·simp [Value.cells] at hcs
  obtain ⟨rfl, rfl, rfl⟩ := hcs
  simp only [if_true] at hz
  have hlen : (zs.take len).length = len := by rw [List.length_take]; omega
  refine ⟨zs.take len, some a', cap, by rw [hlen], by rw [hlen]; exact hl, hm, some a', cap, by rw [hlen], by rw [hlen]; exact hl, ?_⟩
  by_cases h0 : len = 0
  ·left; subst h0; rfl
  ·right
   obtain ⟨b, off, rfl⟩ := aFm (hcell 0 (by omega))
   refine ⟨b, off, rfl, fun j u hu => ?_⟩
   have hj : j < len := by
    rcases Nat.lt_or_ge j len with h | h
    ·exact h
    ·rw [List.getElem?_eq_none (by rw [List.length_map, hlen]; exact h)] at hu; cases hu
   have hc := hcell j (by omega)
   rw [add_plain] at hc
   rw [hc]
   simp only [List.getElem?_map, List.getElem?_take, if_pos hj, List.getElem?_eq_getElem (show j < zs.length by omega), Option.map_some] at hu
   rw [← hu]
   simp [List.getD, show j < zs.length by omega]
end
end Go.Proofs.YteiefdnbdjnoiaaGreatDoor
