/-
  Walks over the reference's functions that read one token. Conditions: the bytes lie in memory; sizes within Go's reach.
-/
import Derived.Test.YtecldppicmbecaaDoorLex4
import Derived.Test.YtecldppicmbecaaDoorPlainLex2
namespace Go.Proofs.YtecldppicmbecaaDoor
open Go.RowKit

def bcells (s : List UInt8) : List Value := s.map fun c => .int .u8 c.toNat
theorem ByteRow.cell {w : World} {b off : Nat} {s : List UInt8} (h : ∀ j u, (bcells s)[j]? = some u → w.cell? ⟨b, off + j, none⟩ = some u) (k : Nat) (hk : k < s.length) : w.cell? ⟨b, off + k, none⟩ = some (.int .u8 s[k].toNat) :=
  h k _ (by simp [bcells, hk])

set_option maxHeartbeats 400000 in
theorem rletter_any (c : UInt8) (w : World) :
    Calls Tryd.prog 29 #[.int .u8 c.toNat] w fun e w' => e = .returned (.bool (isLet c)) ∧ w = w' := by
  unfold isLet
  generalize (c.toNat : Int) = n
  go_enter Tryd.func29, Tryd.ntmps29
  go_wp2
  all_goals (go_ret; refine ⟨ret_bool ?_, rfl⟩; simp; try omega)
set_option maxHeartbeats 400000 in
theorem rdigit_any (c : UInt8) (w : World) :
    Calls Tryd.prog 30 #[.int .u8 c.toNat] w fun e w' => e = .returned (.bool (isDig c)) ∧ w = w' := by
  unfold isDig
  generalize (c.toNat : Int) = n
  go_enter Tryd.func30, Tryd.ntmps30
  go_wp2
  all_goals (go_ret; refine ⟨ret_bool ?_, rfl⟩; simp; try omega)

theorem mem_drop_step (zs : List ByteArray) (x : ByteArray) (k : Nat) (hk : k < zs.length) (h : x ∈ zs ↔ x ∈ zs.drop k) : (zs[k] = x → x ∈ zs) ∧ (zs[k] ≠ x → (x ∈ zs ↔ x ∈ zs.drop (k + 1))) := by
  refine ⟨fun e => e ▸ List.getElem_mem hk, fun e => ?_⟩
  rw [h, List.drop_eq_getElem_cons hk, List.mem_cons]
  exact ⟨fun h => h.resolve_left (fun e' => e e'.symm), .inr⟩
set_option maxHeartbeats 400000 in
theorem has_any (zs : List ByteArray) (x : ByteArray) (v : Value) (w : World) (hv : RowAt w v zs.length (zs.map .string)) (hn : zs.length ≤ 9223372036854775807) :
    Calls Tryd.prog 34 #[v, .string x] w fun e w' => e = .returned (.bool (zs.any fun y => decide (y = x))) ∧ w = w' := by
  obtain ⟨a, cap, rfl, hc, hr⟩ := hv
  go_enter Tryd.func34, Tryd.ntmps34
  go_wp2_with fail
  go_loop [5] (fun v => ∃ k : Nat, k ≤ zs.length ∧ v = .int .i64 k ∧ (x ∈ zs ↔ x ∈ zs.drop k)) (fun v => zs.length - (intOf v).toNat)
  case atStart => exact ⟨0, by omega, rfl, by simp⟩
  case round =>
    obtain ⟨k, hk, rfl, hm⟩ := hrel
    have HM := Lib.hid hm
    clear hm
    by_cases hlt : k < zs.length
    · rcases hr with h0 | ⟨b, off, rfl, hr⟩
      · have : zs.length = 0 := by simpa using congrArg List.length h0
        omega
      · have hcell := hr k (.string zs[k]) (by simp [hlt])
        clear hr
        have hst := mem_drop_step zs x k hlt HM.out
        have HST := Lib.hid hst
        clear hst
        by_cases he : zs[k] = x
        · have hm := HST.out.1 he
          have HM2 := Lib.hid hm
          clear hm
          have hq := strEq_true he
          clear he
          go_wp2_with fail
          go_ret
          refine ⟨ret_bool ?_, rfl⟩
          simp [HM2.out]
        · have hq := strEq_false he
          have HE := Lib.hid he
          clear he
          go_wp2_with fail
          go_round
          case rel => exact ⟨k + 1, by omega, by go_num, HST.out.2 HE.out⟩
          case measure => simp [intOf]; omega
    · clear hr
      go_wp2_with fail
      go_ret
      refine ⟨ret_bool ?_, rfl⟩
      have : x ∉ zs := by rw [HM.out, List.drop_eq_nil_of_le (by omega)]; simp
      simp [this]

set_option maxHeartbeats 400000 in
theorem rreserved_any (s : ByteArray) (w : World) :
    Calls Tryd.prog 22 #[.string s] w fun e w' => e = .returned (.bool (reserved s)) ∧ Below w.heap.size w w' := by
  go_enter Tryd.func22, Tryd.ntmps22
  go_wp2_with (first | (go_at_call 34; refine (has_any words _ _ _ (RowAt.new w (words.map .string) 9 11) (by decide)).mono ?_; rintro e w' ⟨rfl, rfl⟩))
  go_ret
  exact ⟨rfl, by go_grown⟩
set_option maxHeartbeats 400000 in
theorem rskip_any (s : List UInt8) (k0 : Nat) (v : Value) (w : World) (hv : RowAt w v s.length (bcells s)) (hs : s.length ≤ 1000000) (hk : k0 ≤ s.length) :
    Calls Tryd.prog 28 #[v, .int .i64 k0] w fun e w' => e = .returned (.int .i64 (skipN s k0)) ∧ w = w' := by
  obtain ⟨a, cap, rfl, hc, hr⟩ := hv
  go_enter Tryd.func28, Tryd.ntmps28
  go_wp2_with fail
  go_loop [1] (fun v => ∃ k : Nat, k ≤ s.length ∧ v = .int .i64 k ∧ skipN s k = skipN s k0) (fun v => s.length - (intOf v).toNat)
  case atStart => exact ⟨k0, hk, rfl, rfl⟩
  case round =>
    obtain ⟨k, hk, rfl, hm⟩ := hrel
    have HM := Lib.hid hm
    clear hm
    by_cases hlt : k < s.length
    · rcases hr with h0 | ⟨b, off, rfl, hr⟩
      · have : s.length = 0 := by simpa [bcells] using congrArg List.length h0
        omega
      · have hcell := ByteRow.cell hr k hlt
        have HR := Lib.hid hr
        clear hr
        cases hsp : isSp s[k] with
        | true =>
          have hn := skipN_sp s k hlt hsp
          have HN := Lib.hid hn
          simp only [isSp, decide_eq_true_eq] at hsp
          clear hn
          rcases hsp with h | h | h | h
          · have e32 : ((s[k].toNat : Int) == 32) = true := by rw [h]; rfl
            clear h
            go_wp2_with fail
            go_round
            case rel => exact ⟨k + 1, by omega, by go_num, HN.out.trans HM.out⟩
            case measure => simp [intOf]; omega
          · have e32 : ((s[k].toNat : Int) == 32) = false := by rw [h]; rfl
            have e9 : ((s[k].toNat : Int) == 9) = true := by rw [h]; rfl
            clear h
            go_wp2_with fail
            go_round
            case rel => exact ⟨k + 1, by omega, by go_num, HN.out.trans HM.out⟩
            case measure => simp [intOf]; omega
          · have e32 : ((s[k].toNat : Int) == 32) = false := by rw [h]; rfl
            have e9 : ((s[k].toNat : Int) == 9) = false := by rw [h]; rfl
            have e10 : ((s[k].toNat : Int) == 10) = false := by rw [h]; rfl
            have e13 : ((s[k].toNat : Int) == 13) = true := by rw [h]; rfl
            clear h
            go_wp2_with fail
            go_round
            case rel => exact ⟨k + 1, by omega, by go_num, HN.out.trans HM.out⟩
            case measure => simp [intOf]; omega
          · have e32 : ((s[k].toNat : Int) == 32) = false := by rw [h]; rfl
            have e9 : ((s[k].toNat : Int) == 9) = false := by rw [h]; rfl
            have e10 : ((s[k].toNat : Int) == 10) = true := by rw [h]; rfl
            clear h
            go_wp2_with fail
            go_round
            case rel => exact ⟨k + 1, by omega, by go_num, HN.out.trans HM.out⟩
            case measure => simp [intOf]; omega
        | false =>
          have HP := Lib.hid hsp
          simp only [isSp, decide_eq_false_iff_not, not_or] at hsp
          have f1 : ((s[k].toNat : Int) == 32) = false := by rw [beq_eq_false_iff_ne]; exact hsp.1
          have f2 : ((s[k].toNat : Int) == 9) = false := by rw [beq_eq_false_iff_ne]; exact hsp.2.1
          have f3 : ((s[k].toNat : Int) == 13) = false := by rw [beq_eq_false_iff_ne]; exact hsp.2.2.1
          have f4 : ((s[k].toNat : Int) == 10) = false := by rw [beq_eq_false_iff_ne]; exact hsp.2.2.2
          clear hsp
          have stop : ¬ (∃ h2 : k + 1 < s.length, s[k] = 47 ∧ s[k + 1] = 47) → skipN s k0 = k := fun h => by rw [← HM.out]; exact skipN_stop s k hlt HP.out (not_com_of hlt h)
          have STOP := Lib.hid stop
          clear stop
          by_cases h1 : s.length ≤ k + 1
          · have g1 : (s.length : Int) ≤ k + 1 := by omega
            have hst := STOP.out (by rintro ⟨h, _⟩; omega)
            have HST := Lib.hid hst
            clear hst h1
            go_wp2_with fail
            go_ret
            exact ⟨ret_int (by rw [HST.out]), rfl⟩
          have g1 : (k : Int) + 1 < s.length := by omega
          have h1' : k + 1 < s.length := by omega
          clear h1
          by_cases h2 : s[k] = 47
          · have g2 := ((u8eq s[k] 47 47 rfl (by omega)).1 h2).1
            have hcell2 := ByteRow.cell HR.out (k + 1) h1'
            have hcell3 := hcell2
            rw [← Nat.add_assoc] at hcell3
            by_cases h3 : s[k + 1] = 47
            · have g3 := ((u8eq s[k + 1] 47 47 rfl (by omega)).1 h3).1
              have H2 := Lib.hid h2
              have H3 := Lib.hid h3
              clear h2 h3
              go_wp2_with fail
              go_hide hQ
              go_loop [1] (fun v => ∃ j : Nat, k ≤ j ∧ j ≤ s.length ∧ v = .int .i64 j ∧ (s.drop k).dropWhile (· != 10) = (s.drop j).dropWhile (· != 10)) (fun v => s.length - (intOf v).toNat)
              case atStart => exact ⟨k, by omega, by omega, rfl, rfl⟩
              case round =>
                obtain ⟨j, hkj, hj, rfl, hd⟩ := hrel
                have HD := Lib.hid hd
                clear hd hcell2 hcell3 hcell
                have fin : (s.drop k).dropWhile (· != 10) = s.drop j → skipN s j = skipN s k0 := fun h => (skipN_line s k j h1' H2.out H3.out h).trans HM.out
                have FIN := Lib.hid fin
                clear fin
                by_cases hje : j < s.length
                · have hcell := ByteRow.cell HR.out j hje
                  have hst := line_step s k j hje HD.out
                  have HST := Lib.hid hst
                  clear hst
                  by_cases h10 : s[j] = 10
                  · have e10 := ((u8eq s[j] 10 10 rfl (by omega)).1 h10).2
                    have hfin := FIN.out (HST.out.1 h10)
                    have hne : k ≠ j := by rintro rfl; rw [H2.out] at h10; exact absurd h10 (by decide)
                    have HF := Lib.hid hfin
                    clear hfin h10
                    go_wp2_with fail
                    subst hQ
                    go_wp2_with fail
                    go_round
                    case rel => exact ⟨j, by omega, rfl, HF.out⟩
                    case measure => simp [intOf]; omega
                  · have e10 := ((u8eq s[j] 10 10 rfl (by omega)).2 h10).2
                    have hnx := HST.out.2 h10
                    have HNX := Lib.hid hnx
                    clear hnx h10
                    go_wp2_with fail
                    go_round
                    case rel => exact ⟨j + 1, by omega, by omega, by go_num, HNX.out⟩
                    case measure => simp [intOf]; omega
                · have hfin := FIN.out (by rw [HD.out, List.drop_eq_nil_of_le (by omega)]; rfl)
                  have HF := Lib.hid hfin
                  clear hfin
                  go_wp2_with fail
                  subst hQ
                  go_wp2_with fail
                  go_round
                  case rel => exact ⟨j, by omega, rfl, HF.out⟩
                  case measure => simp [intOf]; omega
            · have g3 := ((u8eq s[k + 1] 47 47 rfl (by omega)).2 h3).1
              have hst := STOP.out (by rintro ⟨_, _, h⟩; exact h3 h)
              have HST := Lib.hid hst
              clear hst h2 h3
              go_wp2_with fail
              go_ret
              exact ⟨ret_int (by rw [HST.out]), rfl⟩
          · have g2 := ((u8eq s[k] 47 47 rfl (by omega)).2 h2).1
            have hst := STOP.out (by rintro ⟨_, h, _⟩; exact h2 h)
            have HST := Lib.hid hst
            clear hst h2
            go_wp2_with fail
            go_ret
            exact ⟨ret_int (by rw [HST.out]), rfl⟩
    · clear hr
      go_wp2_with fail
      go_ret
      exact ⟨ret_int (by rw [← HM.out, skipN_end _ _ (by omega)]; omega), rfl⟩
end Go.Proofs.YtecldppicmbecaaDoor
