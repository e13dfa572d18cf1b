/-
  Walks over the reference's sign. Conditions: the bytes lie in memory; sizes within Go's reach.
-/
import Derived.Test.YtecldppicmbecaaDoorRef2
namespace Go.Proofs.YtecldppicmbecaaDoor
open Go.RowKit

theorem has_pairs (w : World) (x : ByteArray) (q : Bool) (hq : (pairsB.any fun y => decide (y = x)) = q) :
    Calls Tryd.prog 34 #[.slice (some ⟨w.heap.size, 0, none⟩) 6 6, .string x] (w.alloc (Obj.cells #[Value.string ⟨#[60, 61]⟩, Value.string ⟨#[62, 61]⟩, Value.string ⟨#[61, 61]⟩, Value.string ⟨#[33, 61]⟩, Value.string ⟨#[38, 38]⟩, Value.string ⟨#[124, 124]⟩] 9)) fun e w' => e = .returned (.bool q) ∧ w.alloc (Obj.cells #[Value.string ⟨#[60, 61]⟩, Value.string ⟨#[62, 61]⟩, Value.string ⟨#[61, 61]⟩, Value.string ⟨#[33, 61]⟩, Value.string ⟨#[38, 38]⟩, Value.string ⟨#[124, 124]⟩] 9) = w' := by
  subst hq; exact has_any pairsB x _ _ (RowAt.new w (pairsB.map .string) 9 6) (by decide)
theorem has_singles (w : World) (x : ByteArray) (k : Nat) (hk : k = w.heap.size) (q : Bool) (hq : (singlesB.any fun y => decide (y = x)) = q) :
    Calls Tryd.prog 34 #[.slice (some ⟨k, 0, none⟩) 17 17, .string x] (w.alloc (Obj.cells #[Value.string ⟨#[40]⟩, Value.string ⟨#[41]⟩, Value.string ⟨#[123]⟩, Value.string ⟨#[125]⟩, Value.string ⟨#[91]⟩, Value.string ⟨#[93]⟩, Value.string ⟨#[44]⟩, Value.string ⟨#[59]⟩, Value.string ⟨#[61]⟩, Value.string ⟨#[43]⟩, Value.string ⟨#[45]⟩, Value.string ⟨#[42]⟩, Value.string ⟨#[47]⟩, Value.string ⟨#[37]⟩, Value.string ⟨#[60]⟩, Value.string ⟨#[62]⟩, Value.string ⟨#[33]⟩] 9)) fun e w' => e = .returned (.bool q) ∧ w.alloc (Obj.cells #[Value.string ⟨#[40]⟩, Value.string ⟨#[41]⟩, Value.string ⟨#[123]⟩, Value.string ⟨#[125]⟩, Value.string ⟨#[91]⟩, Value.string ⟨#[93]⟩, Value.string ⟨#[44]⟩, Value.string ⟨#[59]⟩, Value.string ⟨#[61]⟩, Value.string ⟨#[43]⟩, Value.string ⟨#[45]⟩, Value.string ⟨#[42]⟩, Value.string ⟨#[47]⟩, Value.string ⟨#[37]⟩, Value.string ⟨#[60]⟩, Value.string ⟨#[62]⟩, Value.string ⟨#[33]⟩] 9) = w' := by
  subst hq; exact has_any singlesB x _ _ (RowAt.new_at w (singlesB.map .string) 9 17 k hk) (by decide)
set_option maxRecDepth 100000 in
set_option maxHeartbeats 800000 in
theorem rsign_w2 (n k b off cap : Nat) (w : World) (x1 x2 : ByteArray) (hk : k < n) (hc : n ≤ cap) (hcm : cap ≤ 9223372036854775807) (hn : n ≤ 1000000) (hkc : ¬ cap = k) (g2 : (k : Int) + 1 < n) (hcv1 : ∀ O, (convert 22 9 (.slice (some ⟨b, off + k, none⟩) 2 (cap - k))).run Tryd.prog (w.alloc O) = .ok (.string x2) (w.alloc O)) (ha : (pairsB.any fun y => decide (y = x2)) = true) :
    Calls Tryd.prog 32 #[.slice (some ⟨b, off, none⟩) n cap, .int .i64 k] w fun e w' => e = .returned (.int .i64 2) ∧ Below w.heap.size w w' := by
  have HA := Lib.hid ha
  clear ha
  go_enter Tryd.func32, Tryd.ntmps32
  go_wp2_with (first | (go_at_call 34; ((with_reducible refine (has_pairs _ _ _ HA.out).mono ?_); rintro e w' ⟨rfl, rfl⟩)))
  go_ret
  exact ⟨rfl, by go_grown⟩
set_option maxRecDepth 100000 in
set_option maxHeartbeats 800000 in
theorem rsign_w1 (n k b off cap : Nat) (w : World) (x1 x2 : ByteArray) (hk : k < n) (hc : n ≤ cap) (hcm : cap ≤ 9223372036854775807) (hn : n ≤ 1000000) (hkc : ¬ cap = k) (q : Bool) (g2 : (k : Int) + 1 < n) (hcv1 : ∀ O, (convert 22 9 (.slice (some ⟨b, off + k, none⟩) 2 (cap - k))).run Tryd.prog (w.alloc O) = .ok (.string x2) (w.alloc O)) (hcv2 : ∀ O O', (convert 22 9 (.slice (some ⟨b, off + k, none⟩) 1 (cap - k))).run Tryd.prog ((w.alloc O).alloc O') = .ok (.string x1) ((w.alloc O).alloc O')) (ha : (pairsB.any fun y => decide (y = x2)) = false) (ha1 : (singlesB.any fun y => decide (y = x1)) = q) :
    Calls Tryd.prog 32 #[.slice (some ⟨b, off, none⟩) n cap, .int .i64 k] w fun e w' => e = .returned (.int .i64 (if q then 1 else 0)) ∧ Below w.heap.size w w' := by
  have HA := Lib.hid ha
  clear ha
  have HA1 := Lib.hid ha1
  clear ha1
  go_enter Tryd.func32, Tryd.ntmps32
  go_wp2_with (first | (go_at_call 34; ((with_reducible refine (has_pairs _ _ _ HA.out).mono ?_); rintro e w' ⟨rfl, rfl⟩)) | (go_at_call 34; ((with_reducible refine (has_singles _ _ _ (by simp) _ HA1.out).mono ?_); rintro e w' ⟨rfl, rfl⟩)))
  all_goals (go_ret; exact ⟨by simp [*], by go_grown⟩)
set_option maxRecDepth 100000 in
set_option maxHeartbeats 800000 in
theorem rsign_w0 (n k b off cap : Nat) (w : World) (x1 x2 : ByteArray) (hk : k < n) (hc : n ≤ cap) (hcm : cap ≤ 9223372036854775807) (hn : n ≤ 1000000) (hkc : ¬ cap = k) (q : Bool) (g2 : (n : Int) ≤ k + 1) (hcv3 : ∀ O, (convert 22 9 (.slice (some ⟨b, off + k, none⟩) 1 (cap - k))).run Tryd.prog (w.alloc O) = .ok (.string x1) (w.alloc O)) (ha1 : (singlesB.any fun y => decide (y = x1)) = q) :
    Calls Tryd.prog 32 #[.slice (some ⟨b, off, none⟩) n cap, .int .i64 k] w fun e w' => e = .returned (.int .i64 (if q then 1 else 0)) ∧ Below w.heap.size w w' := by
  have HA1 := Lib.hid ha1
  clear ha1
  go_enter Tryd.func32, Tryd.ntmps32
  go_wp2_with (first | (go_at_call 34; ((with_reducible refine (has_singles _ _ _ (by simp) _ HA1.out).mono ?_); rintro e w' ⟨rfl, rfl⟩)))
  all_goals (go_ret; exact ⟨by simp [*], by go_grown⟩)
theorem rsign_any (s : List UInt8) (k : Nat) (b off cap : Nat) (w : World) (hr : ∀ j u, (bcells s)[j]? = some u → w.cell? ⟨b, off + j, none⟩ = some u) (hc : s.length ≤ cap) (hcm : cap ≤ 9223372036854775807) (hs : s.length ≤ 1000000) (hk : k < s.length) :
    Calls Tryd.prog 32 #[.slice (some ⟨b, off, none⟩) s.length cap, .int .i64 k] w fun e w' => e = .returned (.int .i64 (signL (s.drop k))) ∧ Below w.heap.size w w' := by
  have hblt : b < w.heap.size := cell_lt (ByteRow.cell hr k hk)
  have hcv1 : k + 2 ≤ s.length → ∀ O, (convert 22 9 (.slice (some ⟨b, off + k, none⟩) 2 (cap - k))).run Tryd.prog (w.alloc O) = .ok (.string (bytes ((s.drop k).take 2))) (w.alloc O) := fun h O => conv_sub hr k 2 _ h _ (fun o => World.cell?_alloc_lt w O ⟨b, o, none⟩ hblt)
  have hcv2 : ∀ O O', (convert 22 9 (.slice (some ⟨b, off + k, none⟩) 1 (cap - k))).run Tryd.prog ((w.alloc O).alloc O') = .ok (.string (bytes ((s.drop k).take 1))) ((w.alloc O).alloc O') := fun O O' => conv_sub hr k 1 _ (by omega) _ (fun o => by rw [World.cell?_alloc_lt _ _ _ (by simp; omega), World.cell?_alloc_lt _ _ _ hblt])
  have hcv3 : ∀ O, (convert 22 9 (.slice (some ⟨b, off + k, none⟩) 1 (cap - k))).run Tryd.prog (w.alloc O) = .ok (.string (bytes ((s.drop k).take 1))) (w.alloc O) := fun O => conv_sub hr k 1 _ (by omega) _ (fun o => World.cell?_alloc_lt w O ⟨b, o, none⟩ hblt)
  have hd1 : (s.drop k).take 1 = [s[k]] := by rw [drop_cons s k hk]; rfl
  have one : ¬ (2 ≤ (s.drop k).length ∧ (s.drop k).take 2 ∈ pairsL) → signL (s.drop k) = if s[k] ∈ singlesL then 1 else 0 := by
    intro h
    rw [drop_cons s k hk] at h ⊢
    by_cases hm : s[k] ∈ singlesL
    · rw [if_pos hm, signL_one h hm]
    · rw [if_neg hm, signL_none h hm]
  have hany : (singlesB.any fun y => decide (y = bytes ((s.drop k).take 1))) = decide (s[k] ∈ singlesL) := by
    rw [hd1, show singlesB = (singlesL.map fun c => [c]).map bytes from rfl, any_bytes]
    simp
  by_cases h2 : k + 1 < s.length
  · have hany2 : (pairsB.any fun y => decide (y = bytes ((s.drop k).take 2))) = decide ((s.drop k).take 2 ∈ pairsL) := by
      rw [show pairsB = pairsL.map bytes from rfl, any_bytes]
    by_cases hm : (s.drop k).take 2 ∈ pairsL
    · rw [signL_two (l := s.drop k) (by rw [List.length_drop]; omega) hm]
      exact rsign_w2 s.length k b off cap w ⟨#[]⟩ _ hk hc hcm hs (by omega) (by omega) (hcv1 (by omega)) (by rw [hany2]; simpa using hm)
    · rw [one (fun h => hm h.2)]
      refine (rsign_w1 s.length k b off cap w _ _ hk hc hcm hs (by omega) _ (by omega) (hcv1 (by omega)) hcv2 (by rw [hany2]; simpa using hm) hany).mono fun e w' ⟨h, hb⟩ => ⟨?_, hb⟩
      rw [h]; refine ret_int ?_; by_cases hq : s[k] ∈ singlesL <;> simp [hq]
  · rw [one (fun h => by have := h.1; rw [List.length_drop] at this; omega)]
    refine (rsign_w0 s.length k b off cap w _ ⟨#[]⟩ hk hc hcm hs (by omega) _ (by omega) hcv3 hany).mono fun e w' ⟨h, hb⟩ => ⟨?_, hb⟩
    rw [h]; refine ret_int ?_; by_cases hq : s[k] ∈ singlesL <;> simp [hq]
end Go.Proofs.YtecldppicmbecaaDoor
