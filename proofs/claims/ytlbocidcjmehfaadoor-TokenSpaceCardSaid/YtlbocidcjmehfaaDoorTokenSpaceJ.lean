import Derived.Test.YtlbocidcjmehfaaDoorA6J
import Derived.Test.YtlbocidcjmehfaaDoorMTextJ
import Derived.Test.YtlbocidcjmehfaaDoorGlJ
import Derived.Test.YtlbocidcjmehfaaDoorP1J
import Derived.Lib.AppendStr
import Derived.Deep.DeepCutAuto
import Derived.Deep.CutBlock
set_option linter.unusedVariables false
set_option linter.unusedSimpArgs false
namespace Go.Proofs.YtlbocidcjmehfaaDoor
open Go.ChangeShapes Go.WideShapes Go.ChangeAt Go.RowKit
theorem lexR_tok {w : World} {s : List UInt8} {v : Value} {p er : Int} {l : List Tok} (h : LexR w s v p er) (hl : lexL s = .ok l) : RowAt w v l.length (toksCells l) ∧ er = 0 := by
 rcases h with ⟨l', h1, h2, h3, h4, h5⟩ | ⟨a, b, h1, h2, h3, h4, h5⟩
 ·rw [hl] at h1; cases h1; exact ⟨h2, h4⟩
 ·rw [hl] at h1; cases h1
theorem bytes_list (l : List UInt8) : (bytes l).data.toList = l := by simp [bytes]
end Go.Proofs.YtlbocidcjmehfaaDoor
namespace Go.Proofs.YtlbocidcjmehfaaDoor
open Go.ChangeShapes Go.WideShapes Go.ChangeAt Go.RowKit
structure SepOk (sep : List UInt8) : Prop where
 head : ∀ r, blankHead (sep ++ r)
 skip : ∀ r, skipL (sep ++ r) = skipL r
def GTo (ts : List Tok) (bs : List UInt8) : Prop := ∀ us r, Glued us r → Glued (ts ++ us) (bs ++ r)
theorem GTo.nil : GTo [] [] := fun _ _ h => h
theorem GTo.step {ts : List Tok} {bs sep : List UInt8} {t : Tok} (h : GTo ts bs) (ht : Good t) (hs : SepOk sep) : GTo (ts ++ [t]) (bs ++ t.tx ++ sep) := fun us r hr => by
 have := h (t :: us) (t.tx ++ (sep ++ r)) (.cons ht (hs.head r) (hs.skip r) hr)
 simpa using this
theorem GTo.fin {ts : List Tok} {bs sep : List UInt8} (h : GTo ts bs) (hs : SepOk sep) : Glued ts (bs ++ sep) := by
 have := h [] sep (.nil (by have := hs.skip []; rw [List.append_nil] at this; rw [this, skipL_nil]))
 simpa using this
def sepL (z : Nat) : List UInt8 := if z = 0 then [32] else if z = 1 then [10] else if z = 2 then [9, 13, 32] else if z = 3 then [32, 47, 47, 32, 118, 97, 114, 32, 120, 32, 40, 10] else [32, 32, 47, 47, 10, 47, 47, 10]
theorem sepOk (z : Nat) : SepOk (sepL z) := by
 unfold sepL
 split
 ·exact ⟨fun r => .inr ⟨32, r, rfl, by decide⟩, fun r => skipL_sp (by decide)⟩
 split
 ·exact ⟨fun r => .inr ⟨10, r, rfl, by decide⟩, fun r => skipL_sp (by decide)⟩
 split
 ·refine ⟨fun r => .inr ⟨9, 13 :: 32 :: r, rfl, by decide⟩, fun r => ?_⟩
  show skipL (9 :: 13 :: 32 :: r) = _
  rw [skipL_sp (by decide), skipL_sp (by decide), skipL_sp (by decide)]
 split
 ·refine ⟨fun r => .inr ⟨32, _, rfl, by decide⟩, fun r => ?_⟩
  show skipL (32 :: 47 :: 47 :: 32 :: 118 :: 97 :: 114 :: 32 :: 120 :: 32 :: 40 :: 10 :: r) = _
  rw [skipL_sp (by decide), skipL_com, show List.dropWhile (· != 10) (32 :: 118 :: 97 :: 114 :: 32 :: 120 :: 32 :: 40 :: 10 :: r) = 10 :: r by simp [List.dropWhile], skipL_sp (by decide)]
 ·refine ⟨fun r => .inr ⟨32, _, rfl, by decide⟩, fun r => ?_⟩
  show skipL (32 :: 32 :: 47 :: 47 :: 10 :: 47 :: 47 :: 10 :: r) = _
  rw [skipL_sp (by decide), skipL_sp (by decide), skipL_com, show List.dropWhile (· != 10) (10 :: 47 :: 47 :: 10 :: r) = 10 :: 47 :: 47 :: 10 :: r by simp [List.dropWhile], skipL_sp (by decide), skipL_com, show List.dropWhile (· != 10) (10 :: r) = 10 :: r by simp [List.dropWhile], skipL_sp (by decide)]
theorem sepL_len (z : Nat) : (sepL z).length ≤ 12 := by
 unfold sepL
 (repeat' split) <;> decide
def sumL (ts : List Tok) : Nat := (ts.map fun t => t.tx.length).sum
theorem sumL_succ (ts : List Tok) (k : Nat) (h : k < ts.length) : sumL (ts.take (k + 1)) = sumL (ts.take k) + ts[k].tx.length := by
 unfold sumL
 rw [List.take_succ_eq_append_getElem h, List.map_append, List.sum_append]
 simp only [List.map_cons, List.map_nil, List.sum_cons, List.sum_nil, Nat.add_zero]
theorem sumL_take : ∀ (us : List Tok) k, sumL (us.take k) ≤ sumL us := by
 intro us
 unfold sumL
 induction us with
 | nil => intro k; simp
 | cons u us ih =>
  intro k
  cases k with
  | zero => simp
  | succ k => rw [List.take_succ_cons, List.map_cons, List.sum_cons, List.map_cons, List.sum_cons]; have := ih k; omega
theorem rlexS (s : ByteArray) (w : World) (hs : s.size < 9223372036854775808) (c : Nat) (hc : c = grownCap w s.size 0 5) (fr : Nat × Nat) :
  Calls Tryd.prog 19 #[.slice (some ⟨w.heap.size, 0, none⟩) s.size c] ((w.alloc (.cells (bytesRow s c) 5 fr)).drew)
   fun e w' => (∃ v pos er, e = .returned (.tuple #[v, .int .i64 pos, .int .i64 er]) ∧ LexR w' s.data.toList v pos er) ∧ Below w.heap.size w w' := by
 subst hc
 exact (rLex_any s.data.toList _ (w.drew.alloc _) (row_of_string w s _ _ (grownCap_le w _ _ hs).1 _) (fun _ _ c h => by cases h; exact (grownCap_le w _ _ hs).2)).mono fun e w' ⟨h, hb⟩ => ⟨h, Below.step (below_str w _) hb⟩
theorem u8Info : (Tryd.prog.info? 5).map (fun i => (i.zero, i.size, i.bytes)) = some (some (.int .u8 0), 1, 1) := by kernel_rfl
def tsR (l : List Int) (a : Option Addr) (cap S : Nat) (ts toks : List Tok) (W3 : World) (u v : Value) (w : World) : Prop :=
 ∃ (k : Nat) (bs : List UInt8), v = .int .i64 k ∧ k ≤ toks.length ∧ w.ownsRow W3.heap.size 5 1 u bs.length (bcells bs) ∧ SrcAt l a cap S w ∧ Keep [S] W3 w ∧ bs.length ≤ sumL (toks.take k) + 12 * k ∧ ((k ≤ ts.length ∧ GTo (ts.take k) bs) ∨ (k = ts.length + 1 ∧ Glued ts bs))
theorem tsR_step {ts toks : List Tok} {bs : List UInt8} {k : Nat} {e : Tok} (he : e.text = ⟨#[]⟩) (ht : toks = ts ++ [e]) (hk : k < toks.length) (hg : ∀ t, t ∈ ts → Good t) (z : Nat) (h : (k ≤ ts.length ∧ GTo (ts.take k) bs) ∨ (k = ts.length + 1 ∧ Glued ts bs)) :
  (k + 1 ≤ ts.length ∧ GTo (ts.take (k + 1)) (bs ++ toks[k].tx ++ sepL z)) ∨ (k + 1 = ts.length + 1 ∧ Glued ts (bs ++ toks[k].tx ++ sepL z)) := by
 subst ht
 simp at hk
 rcases h with ⟨h1, h2⟩ | ⟨h1, _⟩
 ·rcases Nat.lt_or_ge k ts.length with h3 | h3
  ·left
   refine ⟨h3, ?_⟩
   rw [List.getElem_append_left h3, List.take_succ_eq_append_getElem h3]
   exact h2.step (hg _ (List.getElem_mem h3)) (sepOk z)
  ·right
   obtain rfl : k = ts.length := by omega
   refine ⟨rfl, ?_⟩
   rw [List.getElem_append_right (Nat.le_refl _)]
   rw [List.take_length] at h2
   have : ([e][ts.length - ts.length]'(by simp)).tx = [] := by simp [Tok.tx, he]
   rw [this, List.append_nil]
   exact h2.fin (sepOk z)
 ·omega
theorem tsR_step2 {ts toks : List Tok} {bs X sp : List UInt8} {k : Nat} {e : Tok} (he : e.text = ⟨#[]⟩) (ht : toks = ts ++ [e]) (hk : k < toks.length) (hg : ∀ t, t ∈ ts → Good t) (z : Nat) (hX : toks[k].tx = X) (hs : sepL z = sp) (h : (k ≤ ts.length ∧ GTo (ts.take k) bs) ∨ (k = ts.length + 1 ∧ Glued ts bs)) :
  (k + 1 ≤ ts.length ∧ GTo (ts.take (k + 1)) (bs ++ X ++ sp)) ∨ (k + 1 = ts.length + 1 ∧ Glued ts (bs ++ X ++ sp)) := by
 subst hX; subst hs
 exact tsR_step he ht hk hg z h
theorem sum_step {toks : List Tok} {bs X sp : List UInt8} {k : Nat} (hk : k < toks.length) (hX : toks[k].tx = X) (hs : sp.length ≤ 12) (h : bs.length ≤ sumL (toks.take k) + 12 * k) : (bs ++ X ++ sp).length ≤ sumL (toks.take (k + 1)) + 12 * (k + 1) := by
 subst hX
 rw [List.length_append, List.length_append, sumL_succ toks k hk]; omega
set_option maxRecDepth 100000 in
set_option maxHeartbeats 8000000 in
theorem tokenSpace_walk (l by1 : List Int) (a a1 : Option Addr) (cap cap1 : Nat) (w : World) (he : Env w) (hr : RowAt w (.slice a l.length cap) l.length (l.map (.int .i64))) (hl : l.length ≤ 9223372036854775807)
  (hr1 : RowAt w (.slice a1 by1.length cap1) by1.length (by1.map (.int .i64))) (hl1 : by1.length ≤ 9223372036854775807) :
  Calls Tryd.prog 5 #[.slice a l.length cap, .slice a1 by1.length cap1] w fun e w' => e = .returned (.bool true) ∧ Below w.heap.size w w' := by
 obtain ⟨i0, hi, hz0, hz1, hz2⟩ := info_parts u8Info
 have HR := Lib.hid hr
 have HR1 := Lib.hid hr1
 have HE := Lib.hid he
 clear hr he hr1
 have hbs := bytes_of
 go_enter Tryd.func5, Tryd.ntmps5
 go_wp2_with fail
 refine (madeText_any l a cap _ HR.out hl).mono ?_
 intro e w1 hq
 obtain ⟨⟨p, rfl, hp⟩, hb1⟩ := hq
 have HB1 := Lib.hid hb1
 obtain ⟨T, hT⟩ : ∃ T, T = formatT p := ⟨_, rfl⟩
 have hTl : T.length ≤ 75000 := by rw [hT]; exact formatT_len hp
 obtain ⟨toks, htk⟩ : ∃ toks, lexL T = .ok toks := by
  have h1 := formatT_ok p
  rw [← hT] at h1
  cases h2 : lexL T with
  | ok l => exact ⟨l, rfl⟩
  | err a b => rw [h2] at h1; cases h1
 rw [← hT]
 obtain ⟨ts, hts, hg, hsum, hn⟩ : ∃ ts, toks = ts ++ [⟨5, ⟨#[]⟩, 0, T.length⟩] ∧ (∀ t, t ∈ ts → Good t) ∧ sumL ts ≤ 75000 ∧ ts.length ≤ 4000 := by
  have h := htk
  unfold lexL at h
  rw [if_neg (by omega)] at h
  obtain ⟨ts, rfl, hg, hs, hn⟩ := lexT_good T.length T 0 0 (by omega) (by omega) (by omega) _ h
  exact ⟨ts, rfl, hg, by unfold sumL; omega, by omega⟩
 have hsumT : sumL toks ≤ 75000 := by
  have e : sumL toks = sumL ts := by rw [hts]; unfold sumL; rw [List.map_append, List.sum_append]; rfl
  rw [e]; exact hsum
 have htl : toks.length = ts.length + 1 := by rw [hts]; simp
 obtain ⟨s, hs⟩ : ∃ s, s = bytes T := ⟨_, rfl⟩
 have hss : s.size ≤ 75000 := by rw [hs, bytes_size]; exact hTl
 have HS : Hid (s.data.toList = T) := Lib.hid (by rw [hs, bytes_list])
 rw [← hs]
 have HTK := Lib.hid htk
 have HTS := Lib.hid hts
 have HG := Lib.hid hg
 have HSUM : Hid (∀ k, sumL (toks.take k) ≤ 75000) := Lib.hid (fun k => Nat.le_trans (sumL_take toks k) hsumT)
 clear hp hb1 hT htk hts hg hs hTl hsum hsumT
 have hsz1 := HB1.out.size
 go_wp2_with fail
 refine (rlexS s w1 (by omega) _ rfl _).mono ?_
 intro e w2 hq
 obtain ⟨⟨v, p1, er, rfl, hR⟩, hb2⟩ := hq
 obtain ⟨hv, rfl⟩ := lexR_tok hR (by rw [HS.out]; exact HTK.out)
 have HV := Lib.hid hv
 have HB2 := Lib.hid (HB1.out.trans (hb2.mono hsz1))
 obtain ⟨xa, xc, rfl, _, _⟩ := hv
 clear hR hb2 hbs
 go_wp2_with fail
 refine (cut_any by1 a1 cap1 w2 (HR1.out.below HB2.out (Nat.le_refl _)) hl1 200 (by omega)).mono ?_
 intro e w3 hq
 obtain ⟨⟨c2, rfl, hrow⟩, rfl⟩ := hq
 have HRW := Lib.hid hrow
 obtain ⟨b2, hb2⟩ : ∃ b, b = by1.take 200 := ⟨_, rfl⟩
 have hbl : b2.length ≤ 200 := by rw [hb2, List.length_take]; omega
 rw [← hb2] at HRW ⊢
 clear hrow hb2
 go_wp2_with fail
 obtain ⟨S, hS⟩ : ∃ S, S = w2.heap.size := ⟨_, rfl⟩
 obtain ⟨W3, hW3⟩ : ∃ W, W = w2.alloc (.cells #[.slice a1 b2.length c2, .int .i64 0] 39) := ⟨_, rfl⟩
 have sa3 : SrcAt b2 a1 c2 S W3 := by rw [hW3, hS]; exact ⟨by go_simp, by go_simp, 0, by go_simp, Nat.zero_le _⟩
 have hk3 : Keep [] w2 W3 := by rw [hW3]; exact (Keep.refl _ _).alloc _
 have hs3 : W3.heap.size = S + 1 := by rw [hW3, hS]; simp
 rw [← hW3, ← hS]
 have HSS : Hid (S = w2.heap.size) := Lib.hid hS
 have HK3 := Lib.hid hk3
 have SA3 := Lib.hid sa3
 have HS3 := Lib.hid hs3
 have HRS : Hid (∀ w, Keep [S] W3 w → RowAt (hideL [S] w) (.slice a1 b2.length c2) b2.length (b2.map (.int .i64))) := Lib.hid (fun w hk => rowAt_early HRW.out ((hk3.mono (fun x hx => by simp at hx)).trans hk) (fun x hx => by simp at hx; omega) (fun x hx => by simp at hx; omega))
 clear hW3 hS sa3 hk3 hs3
 go_loopw [9, 10] (fun u v w => tsR b2 a1 c2 S ts toks W3 u v w) (fun _ v _ => toks.length - (intOf v).toNat)
 case atStart => exact ⟨0, [], rfl, Nat.zero_le _, ownsRow_nil _ _ _ _, SA3.out, Keep.refl _ _, by simp, .inl ⟨Nat.zero_le _, by simpa using GTo.nil⟩⟩
 case round =>
  obtain ⟨k, bs, rfl, hk, hown, sa, hkk, hbl2, hglue⟩ := hrel
  obtain ⟨w10, hw10⟩ : ∃ x, x = wr := ⟨_, rfl⟩
  subst hw10
  have HOWN := Lib.hid hown
  have SA := Lib.hid sa
  have HKK := Lib.hid hkk
  have HGL := Lib.hid hglue
  have hbb : bs.length ≤ 130000 := by have := HSUM.out k; omega
  have HBB2 := Lib.hid hbl2
  have hsz10 := hkk.size
  have HB10 : Hid (Below w.heap.size w w10) := Lib.hid (HB2.out.trans ((((HK3.out.mono (fun x hx => by simp at hx)).trans hkk : Keep [S] w2 w10)).below (B := w.heap.size) HB2.out.size (by intro x hx; have := HSS.out; have := HB2.out.size; simp at hx; omega)))
  clear hown sa hkk hglue hbl2 SA3
  by_cases hlt : k < toks.length
  ·have hli : (k : Int) < (toks.length : Int) := by omega
   obtain ⟨xa', xc', hxe, hxc, hxr⟩ := HV.out
   cases hxe
   rcases hxr with h0 | ⟨b, off, rfl, hxr⟩
   ·rw [toksCells_nil h0] at hlt; simp at hlt
   obtain ⟨d1, q2, d2, d3⟩ := tokRow hxr k hlt
   clear d1 d2 d3
   have hbl3 := cell_lt q2
   have hkw : Keep [S] w2 w10 := (HK3.out.mono (fun x hx => by simp at hx)).trans HKK.out
   rw [← hkw.cell (p := ⟨b, off + k * 4 + 1, none⟩) hbl3 (by have := HSS.out; simp at hbl3 ⊢; omega)] at q2
   obtain ⟨t, ht⟩ : ∃ t, t = toks[k].text := ⟨_, rfl⟩
   rw [← ht] at q2
   have HT := Lib.hid ht
   have HLT := Lib.hid hlt
   have htsz : t.size ≤ 75000 := by have := HSUM.out (k + 1); rw [sumL_succ toks k hlt] at this; have e : toks[k].tx.length = t.size := (by rw [ht]; rfl); omega
   have hsz3 : W3.heap.size ≤ w10.heap.size := hsz10
   clear hxr hbl3 hkw ht
   go_wp2_with (at_builtin; refine Lib.wpList_append_own_string _ rfl _ _ 23 9 rfl W3.heap.size 5 i0 Tryd.underlying23 Tryd.underlying9 hi hz0 hz1 hz2 u9 bs.length (bcells bs) rfl HOWN.out t rfl (by unfold maxLen; omega) (by omega) hsz3 ?_)
   intro u1 w11 hown1 hgr1 _
   have hgk := keep_of_grown hgr1
   have hSu : S ∉ ownB u9 := fun hm => by have := owns_lt HOWN.out (ownB_mem.1 hm); have := HS3.out; omega
   have hSu1 : S ∉ ownB u1 := fun hm => by have := owns_lt hown1 (ownB_mem.1 hm); have := HS3.out; omega
   have SA11 := Lib.hid (SA.out.keep hgk hSu)
   have KK11 := Lib.hid (HKK.out.grow hgk (fun x hx => owns_lt HOWN.out (ownB_mem.1 hx)))
   have HO1 := Lib.hid hown1
   clear hown1 hgr1 hgk q2
   go_wp2_with fail
   have ak : Keep [] w11 (w11.alloc (.cells #[.string ⟨#[32]⟩, .string ⟨#[10]⟩, .string ⟨#[9, 13, 32]⟩, .string ⟨#[32, 47, 47, 32, 118, 97, 114, 32, 120, 32, 40, 10]⟩, .string ⟨#[32, 32, 47, 47, 10, 47, 47, 10]⟩] 9)) := (Keep.refl _ _).alloc _
   have SA12 := Lib.hid (SA11.out.keep ak (by simp))
   have KK12 := Lib.hid (KK11.out.trans (ak.mono (fun x hx => by simp at hx)))
   have hseps : ∀ j, j < 5 → (w11.alloc (.cells #[.string ⟨#[32]⟩, .string ⟨#[10]⟩, .string ⟨#[9, 13, 32]⟩, .string ⟨#[32, 47, 47, 32, 118, 97, 114, 32, 120, 32, 40, 10]⟩, .string ⟨#[32, 32, 47, 47, 10, 47, 47, 10]⟩] 9)).cell? ⟨w11.heap.size, j, none⟩ = some (.string (bytes (sepL j))) := fun j hj => by
    match j, hj with
    | 0, _ => rw [show bytes (sepL 0) = ⟨#[32]⟩ from rfl]; go_simp
    | 1, _ => rw [show bytes (sepL 1) = ⟨#[10]⟩ from rfl]; go_simp
    | 2, _ => rw [show bytes (sepL 2) = ⟨#[9, 13, 32]⟩ from rfl]; go_simp
    | 3, _ => rw [show bytes (sepL 3) = ⟨#[32, 47, 47, 32, 118, 97, 114, 32, 120, 32, 40, 10]⟩ from rfl]; go_simp
    | 4, _ => rw [show bytes (sepL 4) = ⟨#[32, 32, 47, 47, 10, 47, 47, 10]⟩ from rfl]; go_simp
   have HSP := Lib.hid hseps
   have HAK := Lib.hid ak
   have hqs : w11.heap.size < (w11.alloc (.cells #[.string ⟨#[32]⟩, .string ⟨#[10]⟩, .string ⟨#[9, 13, 32]⟩, .string ⟨#[32, 47, 47, 32, 118, 97, 114, 32, 120, 32, 40, 10]⟩, .string ⟨#[32, 32, 47, 47, 10, 47, 47, 10]⟩] 9)).heap.size := by simp
   obtain ⟨Q5, hQ5⟩ : ∃ Q, Q = w11.heap.size := ⟨_, rfl⟩
   have hQS : Q5 ≠ S := by have := SA11.out.lt; omega
   rw [← hQ5] at HSP hqs ⊢
   clear hseps ak
   generalize w11.alloc (.cells #[.string ⟨#[32]⟩, .string ⟨#[10]⟩, .string ⟨#[9, 13, 32]⟩, .string ⟨#[32, 47, 47, 32, 118, 97, 114, 32, 120, 32, 40, 10]⟩, .string ⟨#[32, 32, 47, 47, 10, 47, 47, 10]⟩] 9) = w12 at SA12 KK12 HSP HAK hqs ⊢
   refine (next_at 5 b2 a1 c2 S w12 SA12.out (HRS.out _ KK12.out) (by omega) (by omega) (by omega)).mono ?_
   intro e w13 hq
   obtain ⟨z, rfl, z0, z1, sa13, hk13⟩ := NextAt.out hq
   have k5 : w13.cell? ⟨Q5, z.toNat, none⟩ = some (.string (bytes (sepL z.toNat))) := by rw [hk13.cell (p := ⟨Q5, z.toNat, none⟩) hqs (by simp; exact hQS)]; exact HSP.out z.toNat (by omega)
   obtain ⟨sp, hsp⟩ : ∃ sp, sp = bytes (sepL z.toNat) := ⟨_, rfl⟩
   rw [← hsp] at k5
   have hspz : sp.size ≤ 12 := by rw [hsp, bytes_size]; exact sepL_len _
   have HSPE := Lib.hid hsp
   have SA13 := Lib.hid sa13
   have KK13 := Lib.hid (KK12.out.trans hk13)
   have HO13 := Lib.hid (ownsRow_keepD (ownsRow_keepD HO1.out HAK.out (fun g hg hm => by simp at hm)) hk13 (fun g hg hm => by simp at hm; subst hm; exact hSu1 hg))
   have hsz13 : W3.heap.size ≤ w13.heap.size := KK13.out.size
   clear hq hk13 sa13 hsp hQ5 hqs
   go_wp2_with (at_builtin; refine Lib.wpList_append_own_string _ rfl _ _ 23 9 rfl W3.heap.size 5 i0 Tryd.underlying23 Tryd.underlying9 hi hz0 hz1 hz2 u1 (bs.length + t.size) (bcells bs ++ Lib.strCells t) rfl HO13.out sp rfl (by unfold maxLen; omega) (by omega) hsz13 ?_)
   intro u2 w14 hown2 hgr2 _
   have hgk := keep_of_grown hgr2
   have SA14 := Lib.hid (SA13.out.keep hgk hSu1)
   have KK14 := Lib.hid (KK13.out.grow hgk (fun x hx => owns_lt HO13.out (ownB_mem.1 hx)))
   have HO2 := Lib.hid hown2
   clear hown2 hgr2 hgk k5
   go_wp2_with fail
   go_roundw
   case rel =>
    have e1 : toks[k].tx = t.data.toList := by rw [HT.out]; rfl
    have e2 : (sepL z.toNat) = sp.data.toList := by rw [HSPE.out, bytes_list]
    refine ⟨k + 1, bs ++ t.data.toList ++ sp.data.toList, by go_num, by have := HLT.out; omega, ?_, SA14.out, KK14.out, sum_step HLT.out e1 hspz HBB2.out, tsR_step2 rfl HTS.out HLT.out HG.out z.toNat e1 e2 HGL.out⟩
    rw [List.length_append, List.length_append]
    have e3 : bcells (bs ++ t.data.toList ++ sp.data.toList) = bcells bs ++ Lib.strCells t ++ Lib.strCells sp := by simp [bcells, Lib.strCells]
    rw [e3, List.append_assoc]; exact HO2.out
   case measure => have := HLT.out; simp [intOf]; omega
  ·have hli : ¬ (k : Int) < (toks.length : Int) := by omega
   have hgl : Glued ts bs := by
    rcases HGL.out with ⟨h1, _⟩ | ⟨_, h2⟩
    ·omega
    ·exact h2
   obtain ⟨l2, hl2, hstr⟩ := relex hgl (by omega) (by omega)
   have hsm : SameT false toks (l2 ++ [⟨5, ⟨#[]⟩, 0, bs.length⟩]) := by rw [HTS.out]; exact same_of_strip hstr _ _
   obtain ⟨m2, hm2⟩ : ∃ m, m = l2 ++ [(⟨5, ⟨#[]⟩, 0, bs.length⟩ : Tok)] := ⟨_, rfl⟩
   rw [← hm2] at hl2 hsm
   have HL2 := Lib.hid hl2
   have HSM := Lib.hid hsm
   clear hsm hm2
   have HRB := Lib.hid (RowAt.of_owns HOWN.out)
   have hkw2 : Keep [S] w2 w10 := (HK3.out.mono (fun x hx => by simp at hx)).trans HKK.out
   have hbw2 : Below w2.heap.size w2 w10 := hkw2.below (Nat.le_refl _) (by intro x hx; have := HSS.out; simp at hx; omega)
   have HV10 := Lib.hid (HV.out.below hbw2 (Nat.le_refl _))
   clear hkw2 hbw2
   clear hgl hl2 hstr
   go_wp2_with fail
   refine (tLex_any bs u9 w10 (HE.out.below HB10.out HE.out.size) HRB.out).mono ?_
   intro e w15 hq
   obtain ⟨⟨y, p2, er, rfl, hR⟩, hb15⟩ := hq
   obtain ⟨hy, rfl⟩ := lexR_tok hR HL2.out
   have HY := Lib.hid hy
   have HB15 := Lib.hid (HB10.out.trans (hb15.mono HB10.out.size))
   have HV15 := Lib.hid (HV10.out.below hb15 (Nat.le_refl _))
   clear hR hy hb15
   go_wp2_with fail
   refine (sameTokens_any toks m2 false (.slice xa (ts.length + 1) xc) y w15 (by rw [← htl]; exact HV15.out) HY.out HSM.out (by omega)).mono ?_
   intro e w16 hq
   obtain ⟨rfl, hb16⟩ := hq
   have HB16 := Lib.hid (HB15.out.trans (hb16.mono HB15.out.size))
   clear hb16
   go_wp2_with fail
   refine (awake_any w16 (HE.out.below HB16.out HE.out.size)).mono ?_
   intro e w17 hq
   obtain ⟨rfl, hb17⟩ := hq
   have HB17 := Lib.hid (HB16.out.trans (hb17.mono HB16.out.size))
   clear hb17
   go_wp2_with fail
   go_ret
   exact ⟨rfl, HB17.out⟩
set_option maxRecDepth 100000 in
theorem tokenSpace_contract (H : Type) (enc : TypeId × Value → H) (W : World) (base : Nat) (args : Array Value) (ds gs : List (DataW H)) (before : List MemPlace)
  (hval : ∀ (j : Nat) t v, Tryd.f5.params[j]? = some t → args[j]? = some v → Value.okWide Tryd.prog W .any base t v)
  (hW : DataW.Whole enc Tryd.prog Tryd.f5.params.toList Rows.tokenSpaceSpec.vars false W args.toList ds gs before) (he : Env W) :
  Calls Tryd.prog 5 args W fun e W' => ∃ v, e = .returned v ∧ Rows.tokenSpaceSpec.post enc Tryd.prog Tryd.f5 false true false false W args v W' := by
 have hW' := hW
 obtain ⟨p, q, hA0, hV, rfl, hfz, hnd⟩ := hW
 have hA : DataW.TrodAll enc Tryd.prog W 0 (fun _ => true) true Tryd.f5.params.toList args.toList ds p := hA0
 rw [Tryd.params5] at hA hval
 obtain ⟨v0, vs0, d0, ds0, p0, q0, hargs, rfl, rfl, h0, r0⟩ := trodAll_cons hA
 obtain ⟨v1, vs1, d1, ds1, p1, q1, rfl, rfl, rfl, h1, r1⟩ := trodAll_cons r0
 obtain ⟨rfl, rfl, rfl⟩ := trodAll_nil r1
 obtain rfl : args = #[v0, v1] := by cases args; simp_all
 have walk : Calls Tryd.prog 5 #[v0, v1] W fun e w' => e = .returned (.bool true) ∧ Below W.heap.size W w' := by
  obtain ⟨l, a, cap, rfl, hc, hcm, hr⟩ := open_intsR (hval 0 22 v0 rfl rfl) h0
  obtain ⟨l1, a1, cap1, rfl, hc1, hcm1, hr1⟩ := open_intsR (hval 1 22 v1 rfl rfl) h1
  exact tokenSpace_walk l l1 a a1 cap cap1 W he hr (by unfold maxLen at hcm; omega) hr1 (by unfold maxLen at hcm1; omega)
 refine walk.mono fun e W' ⟨he, hb⟩ => ?_
 subst he
 exact law_post hW' rfl rfl (by rw [Tryd.params5]; intro t ht; simp at ht; subst ht; exact ⟨by kernel_rfl, of_decide_eq_true (by kernel_rfl)⟩) rfl hb
theorem tokenSpace_reads (os : Os) {H : Type} (enc : TypeId × Value → H) : ∃ places, DataW.whole enc Tryd.prog ((World.doorLaid Tryd.prog 60 os).forCall (fun _ _ => 0) ⟨#[], #[.slice none 0 0, .slice none 0 0], []⟩).memory Tryd.f5.params.toList Rows.tokenSpaceSpec.vars false (#[.slice none 0 0, .slice none 0 0] : Array Value).toList 8 = some ([.nil, .nil], [], places) :=
 ⟨[], by kernel_rfl⟩
set_option maxRecDepth 100000 in
theorem tokenSpace_lifted (os : Os) (started : os.Started) (H : Type) (enc : TypeId × Value → H) (F : Stop.Interp) :
  ReturnsInHanded {} Tryd.checked os 5 .any ((OpenSpec.ofChange Rows.tokenSpaceSpec).preRow enc Tryd.prog Tryd.f5 Rows.tokenSpaceRow.domain false Rows.tokenSpaceRow.laid) (((OpenSpec.ofChange Rows.tokenSpaceSpec).at F).post enc Tryd.prog Tryd.f5 false true false false) := by
 obtain ⟨places, hx⟩ := tokenSpace_reads os enc
 refine returnsInHanded_of_row (C := Tryd.checked) (s := OpenSpec.ofChange Rows.tokenSpaceSpec) own started (by kernel_rfl) Tryd.func5
  (witness_row_at (enc := enc) (C := Tryd.checked) false (World.doorLaid Tryd.prog 60 os) #[.slice none 0 0, .slice none 0 0] rfl (by kernel_rfl) (by kernel_rfl) (by kernel_rfl)
   (OpenSpec.preRow_of_cond 8 hx (by kernel_rfl) (fun k hk => by cases hk) (by kernel_rfl) (laid_met os _))) ?_
 intro W base args ds gs before hval hW _ _ _ hL hSh _
 exact tokenSpace_contract H enc W base args ds gs before hval hW (env_of hL hSh)
theorem tokenSpace_said : Rows.TokenSpaceSaid :=
 OpenClaim.holds_of_cond 5 Tryd.f5 rfl rfl rfl rfl rfl rfl rfl ⟨rfl, rfl, rfl, rfl, rfl⟩ rfl rfl rfl rfl rfl (by kernel_rfl) Tryd.func5 (by kernel_rfl)
  (of_decide_eq_true (by kernel_rfl)) (by unfold Func.isWrapper; first | (rw [if_pos (by decide +kernel)]; kernel_rfl) | (rw [if_neg (by decide +kernel)]; exact ⟨rfl, rfl⟩))
  (fun os started H enc _ F => by rw [OpenClaim.pre_eq_preRow]; exact tokenSpace_lifted os started H enc F)
theorem tokenSpace_plain (f : FuncId) (fn : Func) (hf : Tryd.pinned.checked.prog.funcNamed "lockorder/lockorderlaw01.TokenSpace" = some f) (hfn : Tryd.pinned.checked.prog.funcs[f]? = some fn) :
  false = Tryd.pinned.checked.prog.looks [] ∧ ∀ (j : Nat) t, fn.params[j]? = some t → Tryd.pinned.checked.prog.wantsStandIn t = false := by
 obtain rfl : f = 5 := Option.some.inj ((show Tryd.prog.funcNamed "lockorder/lockorderlaw01.TokenSpace" = some 5 by kernel_rfl).symm.trans hf) |>.symm
 obtain rfl : fn = Tryd.f5 := (Option.some.inj (Tryd.func5.symm.trans hfn)).symm
 refine ⟨by kernel_rfl, fun j t ht => ?_⟩
 rw [Tryd.params5] at ht
 have hm : t ∈ [22, 22] := by simpa using Array.mem_of_getElem? ht
 have hall : ([22, 22].all fun u => !Tryd.prog.wantsStandIn u) = true := by kernel_rfl
 exact (show Tryd.prog.wantsStandIn t = false by simpa using List.all_eq_true.1 hall t hm)
theorem tokenSpace_card : Rows.TokenSpaceCardSaid :=
 Claim7.holds_tied_plain_at .later [] _ _ _ _ tokenSpace_said (fun _ h => by cases h) (by kernel_rfl) (fun _ h => by cases h) tokenSpace_row_tie rfl ⟨rfl, rfl⟩ (by kernel_rfl) rfl tokenSpace_plain (by kernel_rfl)
#print axioms tokenSpace_card
end Go.Proofs.YtlbocidcjmehfaaDoor
