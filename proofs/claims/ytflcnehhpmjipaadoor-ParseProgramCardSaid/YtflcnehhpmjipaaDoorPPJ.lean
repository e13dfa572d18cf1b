import Derived.Test.YtflcnehhpmjipaaDoorL1J
set_option linter.unusedVariables false
set_option linter.unusedSimpArgs false
namespace Go.Proofs.YtflcnehhpmjipaaDoor
open Go.RowKit
set_option maxRecDepth 100000 in
set_option maxHeartbeats 400000 in
theorem parseProgram_walk (s : List UInt8) (a : Option Addr) (cap : Nat) (w : World) (he : Env w) (hr : RowAt w (.slice a s.length cap) s.length (bcells s)) (hc : s.length ≤ cap) (hcm : cap ≤ 9223372036854775807) :
  Calls Tryd.prog 3 #[.slice a s.length cap] w fun e w' => e = .returned (.bool true) ∧ Below w.heap.size w w' := by
 have hr4 : RowAt w (.slice a (min (s.length : Int) 1000).toNat cap) (s.take 1000).length (bcells (s.take 1000)) := by
  obtain ⟨a', cap', h, _, hr⟩ := hr
  cases h
  refine ⟨a, cap, by rw [List.length_take]; congr 1; omega, by rw [List.length_take]; omega, ?_⟩
  rcases hr with h0 | ⟨b, off, ha, hr⟩
  ·left; simp only [bcells] at h0 ⊢; rw [List.map_eq_nil_iff] at h0 ⊢; rw [h0]; rfl
  ·right; refine ⟨b, off, ha, fun j u hu => hr j u ?_⟩
   simp only [bcells, List.map_take, List.getElem?_take] at hu
   split at hu
   ·exact hu
   ·cases hu
 have HR4 := Lib.hid hr4
 clear hr hr4
 go_enter Tryd.func3, Tryd.ntmps3
 go_wp2_with (first | (go_at_call 7; ((with_reducible refine (same_calls (s.take 1000) _ w he HR4.out (fun _ _ c h => by cases h; exact hcm)).mono ?_); rintro e w1 ⟨rfl, hb1⟩)) | (go_at_call 8; ((with_reducible refine (awake3_any _ (he.below hb1 he.size)).mono ?_); rintro e w2 ⟨rfl, hb2⟩)))
 go_ret
 exact ⟨rfl, hb1.trans (hb2.mono hb1.size)⟩
end Go.Proofs.YtflcnehhpmjipaaDoor
