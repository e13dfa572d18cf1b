import Derived.Test.YtiimofjemiffgaaDoorC1J
import Derived.Test.YtiimofjemiffgaaDoorMExprJ
import Derived.Test.YtiimofjemiffgaaDoorMadeJ
import Derived.Test.YtiimofjemiffgaaDoorB4J
import Derived.Test.YtiimofjemiffgaaDoorPExpr3J
import Derived.Test.YtiimofjemiffgaaDoorROpJ
import Derived.Test.YtiimofjemiffgaaDoorE0J
import Derived.Test.YtiimofjemiffgaaDoorA4J
set_option linter.unusedVariables false
set_option linter.unusedSimpArgs false
namespace Go.Proofs.YtiimofjemiffgaaDoor
open Go.RowKit
set_option maxHeartbeats 1600000 in
theorem cut_any (l : List Int) (a : Option Addr) (cap : Nat) (w : World) (hr : RowAt w (.slice a l.length cap) l.length (l.map (.int .i64))) (hl : l.length ≤ 9223372036854775807) (n : Nat) (hn : n ≤ 1000) :
  Calls Tryd.prog 16 #[.slice a l.length cap, .int .i64 n] w fun e w' => (∃ c2, e = .returned (.slice a (l.take n).length c2) ∧ RowAt w (.slice a (l.take n).length c2) (l.take n).length ((l.take n).map (.int .i64))) ∧ w = w' := by
 have HR := Lib.hid hr
 obtain ⟨a', cap', he, hc, hr2⟩ := hr
 cases he
 by_cases hn2 : n < l.length
 ·have hg : (n : Int) < (l.length : Int) := by omega
  obtain ⟨b, off, rfl⟩ : ∃ b off, a = some ⟨b, off, none⟩ := by
   rcases hr2 with h0 | ⟨b, off, rfl, _⟩
   ·exfalso; have h1 := congrArg List.length h0; rw [List.length_map] at h1; simp only [List.length_nil] at h1; omega
   ·exact ⟨b, off, rfl⟩
  have HT : Hid ((l.take n).length = n) := Lib.hid (by rw [List.length_take]; omega)
  have hrow : RowAt w (.slice (some ⟨b, off, none⟩) (l.take n).length cap) (l.take n).length ((l.take n).map (.int .i64)) := by
   obtain ⟨a', cap', he, hc, hr2⟩ := HR.out
   cases he
   refine ⟨_, _, rfl, by rw [HT.out]; omega, .inr ⟨b, off, rfl, fun j u hj => ?_⟩⟩
   rcases hr2 with h0 | ⟨b', off', he2, hr3⟩
   ·exfalso; have h1 := congrArg List.length h0; rw [List.length_map] at h1; simp only [List.length_nil] at h1; omega
   ·cases he2
    refine hr3 j u ?_
    rw [List.map_take] at hj
    rw [List.getElem?_take] at hj
    split at hj
    ·exact hj
    ·cases hj
  have HROW := Lib.hid hrow
  clear hrow hr2
  have hnc : n ≤ cap := by omega
  go_enter Tryd.func16, Tryd.ntmps16
  go_wp2_with fail
  go_ret
  exact ⟨⟨cap, by rw [HT.out]; rfl, HROW.out⟩, rfl⟩
 ·have hg : (l.length : Int) ≤ (n : Int) := by omega
  have HT : Hid (l.take n = l) := Lib.hid (List.take_of_length_le (by omega))
  clear hr2
  go_enter Tryd.func16, Tryd.ntmps16
  go_wp2_with fail
  go_ret
  exact ⟨⟨cap, by rw [HT.out]; rfl, by rw [HT.out]; exact HR.out⟩, rfl⟩
theorem RowAt.cap {w : World} {a : Option Addr} {n m cap : Nat} {cells : List Value} (h : RowAt w (.slice a n cap) m cells) : m ≤ cap := by
 obtain ⟨a', cap', he, hc, _⟩ := h
 cases he; exact hc
end Go.Proofs.YtiimofjemiffgaaDoor
namespace Go.Proofs.YtiimofjemiffgaaDoor
open Go.RowKit
theorem Toks.regE {l : List Tok} (h : Toks l) : Reg l := fun k hk => by
 rw [tokAt_lt hk]
 obtain ⟨h1, h2, _⟩ := h.reg _ (List.getElem_mem hk)
 exact ⟨h1, h2⟩
def names3 : List ByteArray := [bytes [97], bytes [98], bytes [120, 49]]
theorem names3_ok : ∀ x, x ∈ names3 → nameB x = true := by decide
def MadeOk (H : List Nat) (w : World) (e : Ending) (w' : World) : Prop :=
 (∃ (x : AExpr) (a : Option Addr) (cap : Nat), e = .returned (.agg #[.int .i64 x.op, .int .i64 x.num, .string x.name, .slice a x.args.length cap]) ∧ MExpr names3 5 x ∧ ExprRep (hideL H w') x [.int .i64 x.op, .int .i64 x.num, .string x.name, .slice a x.args.length cap]) ∧ Below w.heap.size w w'
theorem row_take {W : World} {a : Option Addr} {cap : Nat} {l : List Int} (h : RowAt W (.slice a l.length cap) l.length (l.map (.int .i64))) (n c2 : Nat) (hc : (l.take n).length ≤ c2) : RowAt W (.slice a (l.take n).length c2) (l.take n).length ((l.take n).map (.int .i64)) := by
 obtain ⟨a', cap', he, hc', hr⟩ := h
 cases he
 refine ⟨a, c2, rfl, hc, ?_⟩
 rcases hr with h0 | ⟨b, off, rfl, hr⟩
 ·left
  have : l = [] := by simpa using h0
  subst this; simp
 ·right
  refine ⟨b, off, rfl, fun j u hj => hr j u ?_⟩
  rw [List.map_take, List.getElem?_take] at hj
  split at hj
  ·exact hj
  ·cases hj
set_option maxRecDepth 100000 in
set_option maxHeartbeats 3200000 in
theorem madeExpr_any (H : List Nat) (l : List Int) (a : Option Addr) (cap : Nat) (w : World) (hH : ∀ x, x ∈ H → x < w.heap.size) (hr : RowAt (hideL H w) (.slice a l.length cap) l.length (l.map (.int .i64))) (hl : l.length ≤ 9223372036854775807) :
  Calls Tryd.prog 19 #[.slice a l.length cap] w (MadeOk H w) := by
 have HR := Lib.hid hr
 have HH := Lib.hid hH
 clear hr hH
 go_enter Tryd.func19, Tryd.ntmps19
 go_wp2_with fail
 have hb0 := (Below.refl w.heap.size w).alloc (Nat.le_refl _) (.cells #[.int .i64 0, .int .i64 0, .string ⟨#[]⟩, .slice none 0 0] 34)
 have hr0 : RowAt (w.alloc (.cells #[.int .i64 0, .int .i64 0, .string ⟨#[]⟩, .slice none 0 0] 34)) (.slice a l.length cap) l.length (l.map (.int .i64)) := (HR.out.mono unhide).below hb0 (Nat.le_refl _)
 refine (cut_any l a cap _ hr0 hl 100 (by omega)).mono ?_
 rintro e w2 ⟨⟨c2, rfl, hr2⟩, rfl⟩
 have hrt := row_take HR.out 100 c2 (by obtain ⟨_, _, h1, h2, _⟩ := hr2; cases h1; exact h2)
 have ht : (l.take 100).length ≤ 100 := by rw [List.length_take]; omega
 generalize l.take 100 = L2 at hrt ht ⊢
 have bx := Lib.hid (box4_new w (.int .i64 0) (.int .i64 0) (.string ⟨#[]⟩) (.slice none 0 0) 34)
 have hz : (w.alloc (.cells #[.int .i64 0, .int .i64 0, .string ⟨#[]⟩, .slice none 0 0] 34)).heap.size = w.heap.size + 1 := by simp
 have HRT := Lib.hid hrt
 have HB0 := Lib.hid hb0
 clear hr2 hr0 hrt hb0
 go_wp2_with fail
 generalize w.alloc (.cells #[.int .i64 0, .int .i64 0, .string ⟨#[]⟩, .slice none 0 0] 34) = w1 at bx hz HB0 ⊢
 obtain ⟨R, hR⟩ : ∃ R, R = w.heap.size := ⟨_, rfl⟩
 rw [← hR] at bx hz ⊢
 have HRR := Lib.hid hR
 have hb1 := (Below.refl w1.heap.size w1).alloc (Nat.le_refl _) (.cells #[.slice a L2.length c2, .int .i64 0] 42)
 have hb2 := ((Below.refl w1.heap.size w1).alloc (Nat.le_refl _) (.cells #[.slice a L2.length c2, .int .i64 0] 42)).alloc (by simp) (.cells #[.string ⟨#[97]⟩, .string ⟨#[98]⟩, .string ⟨#[120, 49]⟩] 9)
 have hsrc : Src ((R + 1) :: R :: H) (R + 1) ((w1.alloc (.cells #[.slice a L2.length c2, .int .i64 0] 42)).alloc (.cells #[.string ⟨#[97]⟩, .string ⟨#[98]⟩, .string ⟨#[120, 49]⟩] 9)) := by
  rw [← hz]
  refine ⟨by simp, by simp; omega, by go_simp, L2, a, c2, 0, by go_simp, ?_, by go_simp, by omega, by omega⟩
  refine HRT.out.mono fun p u hu => ?_
  obtain ⟨h1, h2⟩ := hideL_cell hu
  have h3 := cell_lt h1
  rw [hideL_cell_ne _ _ _ (by simp only [List.mem_cons, not_or]; exact ⟨by omega, by omega, h2⟩)]
  exact cell_step (cell_step h1 HB0.out) hb2
 have hnm : RowAt (hideL [R + 1] ((w1.alloc (.cells #[.slice a L2.length c2, .int .i64 0] 42)).alloc (.cells #[.string ⟨#[97]⟩, .string ⟨#[98]⟩, .string ⟨#[120, 49]⟩] 9))) (.slice (some ⟨R + 1 + 1, 0, none⟩) 3 3) names3.length (names3.map .string) := by
  refine ⟨_, _, rfl, by decide, .inr ⟨R + 1 + 1, 0, rfl, fun j u hj => ?_⟩⟩
  rw [hideL_cell_ne _ _ _ (by simp)]
  have := World.cell?_alloc_mark (w1.alloc (.cells #[.slice a L2.length c2, .int .i64 0] 42)) #[.string ⟨#[97]⟩, .string ⟨#[98]⟩, .string ⟨#[120, 49]⟩] 9 (0, 0) j
  simp only [World.size_alloc, hz] at this
  rw [Nat.zero_add, this]
  simpa [names3, bytes] using hj
 have hbz : (w1.alloc (.cells #[.slice a L2.length c2, .int .i64 0] 42)).heap.size = R + 1 + 1 := by simp [hz]
 have hbz3 : ((w1.alloc (.cells #[.slice a L2.length c2, .int .i64 0] 42)).alloc (.cells #[.string ⟨#[97]⟩, .string ⟨#[98]⟩, .string ⟨#[120, 49]⟩] 9)).heap.size = R + 3 := by simp [hz]
 have HSRC := Lib.hid hsrc
 have HNM := Lib.hid hnm
 have HB2 := Lib.hid hb2
 have HZZ := Lib.hid hbz3
 have bx2 := Lib.hid (bx.out.keep (Keep.of_below (H := []) hb2) (by simp))
 clear hsrc hnm hb1 hb2 bx hbz3 hR
 (try rw [hbz])
 generalize (w1.alloc (.cells #[.slice a L2.length c2, .int .i64 0] 42)).alloc (.cells #[.string ⟨#[97]⟩, .string ⟨#[98]⟩, .string ⟨#[120, 49]⟩] 9) = w2 at HSRC HNM HB2 HZZ bx2 ⊢
 have HHH : Hid (∀ x, x ∈ (R + 1) :: R :: H → x < w2.heap.size) := Lib.hid (by
  intro x hx
  have := HZZ.out
  simp only [List.mem_cons] at hx
  rcases hx with rfl | rfl | hx
  ·omega
  ·omega
  ·have := HH.out x hx; have := HRR.out; omega)
 refine (next_src 5 ((R + 1) :: R :: H) (R + 1) w2 HSRC.out (by omega) (by omega)).mono ?_
 intro e w3 hq
 obtain ⟨r, rfl, hr0, hr5, hs3, hk3⟩ := Src.next hq
 obtain ⟨k, rfl⟩ : ∃ k : Nat, r = k := ⟨r.toNat, by omega⟩
 have hk5 : k < 5 := by omega
 have HS3 := Lib.hid hs3
 have HK3 := Lib.hid hk3
 have bx3 := Lib.hid (bx2.out.keep hk3 (by simp))
 have HN3 := Lib.hid (HNM.out.below (hk3.hide) (Nat.le_refl _))
 clear hq hs3 hk3 hr0 hr5 bx2
 go_wp2_with fail
 rw [show (1 : Int) + (k : Int) = ((1 + k : Nat) : Int) by omega]
 refine (mexpr_any (1 + k) (by omega) names3 (by decide) ((R + 1) :: R :: H) [R + 1] (R + 1) (.slice (some ⟨R + 1 + 1, 0, none⟩) 3 3) w3 HS3.out (by simp) (fun x hx => Nat.lt_of_lt_of_le (HHH.out x hx) HK3.out.size) HN3.out).mono ?_
 rintro e w4 ⟨⟨x, xa, xc, rfl, hm, xr⟩, _, hk4⟩
 have HM := Lib.hid (hm.mono (d' := 5) (by omega))
 have HXR := Lib.hid xr
 have HK4 := Lib.hid (HK3.out.trans hk4)
 have bx4 := bx3.out.keep hk4 (by simp)
 have BX4 := Lib.hid bx4
 unfold Box4 at bx4
 clear hm xr hk4 bx3
 go_wp2_with fail
 have bz := box4_put BX4.out (.int .i64 x.op) (.int .i64 x.num) (.string x.name) (.slice xa x.args.length xc)
 unfold Box4 at bz
 refine bodyPost_ret (v := .agg #[.int .i64 x.op, .int .i64 x.num, .string x.name, .slice xa x.args.length xc]) (by simp [results, Tryd.results19, go_sem, bz]) rfl ?_
 have hkR := keep4 R w4 (.int .i64 x.op) (.int .i64 x.num) (.string x.name) (.slice xa x.args.length xc)
 refine ⟨⟨x, xa, xc, rfl, HM.out, ?_⟩, ?_⟩
 ·have h1 := ExprRep.below ((hkR.mono (H' := (R + 1) :: R :: H) (by intro y hy; simp at hy; subst hy; simp)).hide) _ HXR.out
  exact ExprRep.mono (fun _ _ h => hideL_sub (fun y hy => List.mem_cons_of_mem _ (List.mem_cons_of_mem _ hy)) h) _ h1
 ·have h0 := HRR.out
  have hs1 := HB0.out.size
  have hs2 := HB2.out.size
  have b1 := Below.step HB0.out HB2.out
  have b2 := HK4.out.below (B := w.heap.size) b1.size (by intro y hy; simp at hy; omega)
  have b3 := hkR.below (B := w.heap.size) (Nat.le_trans b1.size b2.size) (by intro y hy; simp at hy; omega)
  exact (b1.trans b2).trans b3
theorem formatE_fine (e : AExpr) (cs : List Value) (w : World) (hf : e.fine) (hv : validExpr e = true) (hr : ExprRep w e cs) :
  Calls Tryd.prog 18 #[.agg cs.toArray] w fun r w' => r = .returned (.string (bytes (exprText e))) ∧ Below w.heap.size w w' := by
 have HV := Lib.hid (fun w' (hb : Below w.heap.size w w') => validExpr_any e cs w' hf.1 (tame_small e hf.2.1) (ExprRep.below hb _ hr))
 have HT := Lib.hid (fun w' (hb : Below w.heap.size w w') => text_fine e cs w' hf (ExprRep.below hb _ hr))
 rw [hv] at HV
 obtain ⟨op, num, name, args⟩ := e
 obtain ⟨v, rfl, hl⟩ := exprRep_iff.1 hr
 clear hl hr hf hv
 go_enter Tryd.func18, Tryd.ntmps18
 go_wp2_with fail
 have hA := (Below.refl w.heap.size w).alloc (Nat.le_refl _) (.cells #[.int .i64 op, .int .i64 num, .string name, v] 34)
 refine (HV.out _ hA).mono ?_
 rintro e w1 ⟨rfl, hb1⟩
 have hb := Below.step hA hb1
 have bx := (box4_new w (.int .i64 op) (.int .i64 num) (.string name) v 34).keep (Keep.of_below (H := []) hb1) (by simp)
 have HB := Lib.hid hb
 unfold Box4 at bx
 clear hA hb1 hb
 go_wp2_with fail
 refine (HT.out _ HB.out).mono ?_
 rintro e w2 ⟨rfl, hb2⟩
 go_wp2_with fail
 go_ret
 exact ⟨rfl, Below.step HB.out hb2⟩
end Go.Proofs.YtiimofjemiffgaaDoor
namespace Go.Proofs.YtiimofjemiffgaaDoor
open Go.RowKit
theorem int_at {w : World} {a : Option Addr} {n cap : Nat} {l : List Int} {i : Nat} (h : RowAt w (.slice a n cap) n (l.map (.int .i64))) (hi : i < l.length) : ∃ b off, a = some ⟨b, off, none⟩ ∧ w.cell? ⟨b, off + i, none⟩ = some (.int .i64 l[i]) := by
 obtain ⟨a', cap', he, hc, hr⟩ := h
 cases he
 rcases hr with h0 | ⟨b, off, rfl, hr⟩
 ·exfalso; have := congrArg List.length h0; rw [List.length_map] at this; simp only [List.length_nil] at this; omega
 ·exact ⟨b, off, rfl, hr i _ (by simp [hi])⟩
theorem byte_at {w : World} {a : Option Addr} {n cap : Nat} {l : List UInt8} {i : Nat} (h : RowAt w (.slice a n cap) n (bcells l)) (hi : i < l.length) : ∃ b off, a = some ⟨b, off, none⟩ ∧ w.cell? ⟨b, off + i, none⟩ = some (.int .u8 l[i].toNat) := by
 obtain ⟨a', cap', he, hc, hr⟩ := h
 cases he
 rcases hr with h0 | ⟨b, off, rfl, hr⟩
 ·exfalso; have := congrArg List.length h0; unfold bcells at this; rw [List.length_map] at this; simp only [List.length_nil] at this; omega
 ·exact ⟨b, off, rfl, hr i _ (by simp [bcells, hi])⟩
structure BytesAt (Q : Nat) (bs : List UInt8) (w : World) : Prop where
 cell : ∀ j (h : j < bs.length), w.cell? ⟨Q, j, none⟩ = some (.int .u8 bs[j].toNat)
 free : ∀ j, j < bs.length → w.frozen? ⟨Q, j, none⟩ = false
theorem BytesAt.set {Q : Nat} {bs : List UInt8} {w : World} (h : BytesAt Q bs w) (j : Nat) (hj : j < bs.length) (x : UInt8) : BytesAt Q (bs.set j x) (w.setCell ⟨Q, j, none⟩ (.int .u8 x.toNat)) := by
 refine ⟨fun i hi => ?_, fun i hi => ?_⟩
 ·rw [List.length_set] at hi
  have h1 := h.cell i hi
  have h2 := h.cell j hj
  by_cases he : i = j
  ·subst he
   rw [List.getElem_set_self]
   go_simp
  ·rw [List.getElem_set_ne (Ne.symm he)]
   have he2 : ¬ (j = i) := fun h => he h.symm
   go_simp
 ·rw [List.length_set] at hi
  have h1 := h.free i hi
  go_simp
theorem BytesAt.row {Q : Nat} {bs : List UInt8} {w : World} (h : BytesAt Q bs w) (c : Nat) (hc : bs.length ≤ c) : RowAt w (.slice (some ⟨Q, 0, none⟩) bs.length c) bs.length (bcells bs) :=
 ⟨_, _, rfl, hc, .inr ⟨Q, 0, rfl, fun j u hj => by
  have hjl : j < bs.length := by have := (List.getElem?_eq_some_iff.1 hj).1; simpa [bcells] using this
  rw [Nat.zero_add, h.cell j hjl]
  simp [bcells, hjl] at hj
  rw [hj]⟩⟩
theorem BytesAt.start (w : World) (s : ByteArray) (c : Nat) (T : TypeId) (n : Nat) (hn : s.size ≤ n) (m : Nat) : BytesAt w.heap.size s.data.toList ((w.alloc (.cells (bytesRow s c) T (n, m))).drew) := by
 have hlen : s.data.toList.length = s.size := rfl
 refine ⟨fun j hj => ?_, fun j hj => ?_⟩
 ·show (w.alloc (.cells (bytesRow s c) T (n, m))).cell? ⟨w.heap.size, j, none⟩ = _
  rw [World.cell?_alloc_mark]
  unfold bytesRow
  rw [Array.getElem?_append_left (by simpa using hj)]
  simp
  exact ⟨_, Array.getElem?_eq_getElem (by simpa using hj), rfl⟩
 ·show (w.alloc (.cells (bytesRow s c) T (n, m))).frozen? ⟨w.heap.size, j, none⟩ = false
  have : (w.alloc (.cells (bytesRow s c) T (n, m))).heap[w.heap.size]? = some (.cells (bytesRow s c) T (n, m)) := heap_alloc_new w _
  unfold World.frozen?
  simp only [this]
  simp; omega
end Go.Proofs.YtiimofjemiffgaaDoor
