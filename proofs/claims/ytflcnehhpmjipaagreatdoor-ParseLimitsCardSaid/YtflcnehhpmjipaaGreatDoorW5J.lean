import Derived.Test.YtflcnehhpmjipaaGreatDoorW4J
import Derived.Test.YtflcnehhpmjipaaGreatDoorA5J
import Derived.Test.YtflcnehhpmjipaaGreatDoorA4J
import Derived.Test.YtflcnehhpmjipaaGreatDoorA3J
import Derived.KernelRfl
import Derived.Lib.SlBytesConst
import Derived.Test.YtflcnehhpmjipaaGreatDoorA6J
import Derived.Test.YtflcnehhpmjipaaGreatDoorE0J
set_option linter.unusedVariables false
set_option linter.unusedSimpArgs false
namespace Go.Proofs.YtflcnehhpmjipaaGreatDoor
open Go.RowKit
abbrev srcA (s : List UInt8) : List AC := s.map fun c => .val (.int .u8 c.toNat)
def LexA (s : List UInt8) (t : AT) : Prop :=
 (∃ l, lexL s = .ok l ∧ t = .tup [.c (.sl l.length (l.flatMap encT)), .c (.val (.int .i64 (s.length : Int))), .c (.val (.int .i64 ((0 : Nat) : Int)))] ∧ l.length ≤ 4001) ∨ (∃ p e : Nat, lexL s = .err p e ∧ t = .tup [.c (.val (.slice none 0 0)), .c (.val (.int .i64 (p : Int))), .c (.val (.int .i64 (e : Int)))] ∧ e ≠ 0)
theorem owns_hid {N : List Nat} {w : World} {base : Nat} {e : TypeId} {size : Nat} {v : Value} {n : Nat} {xs : List Value} (h : w.ownsRow base e size v n xs) (hN : ∀ x, x ∈ N → x < base) : RowAt (hideL N w) v n xs := by
 obtain ⟨h1, h2⟩ := h
 have h9 := RowAt.of_owns (⟨h1, h2⟩ : w.ownsRow base e size v n xs)
 rcases h2 with ⟨rfl, rfl⟩ | ⟨g, cap, cur, rfl, hg, -⟩
 ·obtain rfl : xs = [] := List.eq_nil_of_length_eq_zero (by simpa using h1)
  exact .nil _
 ·obtain ⟨a, c, he, hc, hr⟩ := h9
  refine ⟨a, c, he, hc, ?_⟩
  rcases hr with h0 | ⟨b, off, rfl, hr⟩
  ·exact .inl h0
  ·cases he
   refine .inr ⟨g, 0, rfl, fun j v hj => ?_⟩
   rw [hideL_cell_ne]
   ·exact hr j v hj
   ·intro hm; have h9 : g < base := hN g hm; omega
theorem encT_map (l : List Tok) : l.flatMap encT = (toksCells l).map .val := by
 induction l with
 | nil => rfl
 | cons t l ih => rw [List.flatMap_cons, ih]; unfold toksCells; rw [List.flatMap_cons, List.map_append]; rfl
theorem toks_one (l : List Tok) : ∀ u, u ∈ toksCells l → u.oneCell' = true := by
 intro u hu
 unfold toksCells at hu
 obtain ⟨t, _, h⟩ := List.mem_flatMap.1 hu
 unfold Tok.cells at h
 simp only [List.mem_cons, List.not_mem_nil, or_false] at h
 rcases h with rfl | rfl | rfl | rfl <;> rfl
theorem bytes_rep {w : World} {v : Value} {n : Nat} {s : List UInt8} (h : RepT w (.c (.sl n (srcA s))) v) : RowAt w v n (bcells s) ∧ ∀ a k c, v = .slice a k c → c ≤ 9223372036854775807 := by
 cases h with
 | c _ _ h => cases h with
  | sl _ _ us _ hr hl hh hcap =>
   refine ⟨?_, hcap⟩
   have : us = bcells s := by
    refine List.ext_getElem (by rw [hl]; simp [srcA, bcells]) fun i h1 h2 => ?_
    have h3 := hh i (by rw [← hl]; exact h1) h1
    generalize hx : (srcA s)[i]'(by rw [← hl]; exact h1) = x at h3
    unfold srcA at hx
    rw [List.getElem_map] at hx
    subst hx
    have hi : i < s.length := by simpa [bcells] using h2
    have h4 : us[i] = .int .u8 s[i].toNat := by
     generalize us[i] = u at h3
     cases h3; rfl
    rw [h4]; simp [bcells]
   rw [← this]; exact hr
theorem lexf_c {F : FuncId} {bs : List UInt8} {s : Sto} (W : World → Prop) (hW : ∀ w, Mem s w → W w) (hF : ∀ v w, W w → RowAt w v bs.length (bcells bs) → (∀ a k c, v = .slice a k c → c ≤ 9223372036854775807) → Calls Tryz.prog F #[v] w fun e w' => (∃ v pos er, e = .returned (.tuple #[v, .int .i64 pos, .int .i64 er]) ∧ LexF w' w.heap.size bs v pos er) ∧ Below w.heap.size w w') :
  ACall Tryz.prog F [.c (.sl bs.length (srcA bs))] [] s fun t s' => LexA bs t ∧ s' = s := by
 intro vs w hm _ hl hr
 obtain ⟨v, rfl⟩ : ∃ v, vs = [v] := by
  cases vs with
  | nil => cases hl
  | cons v vs => cases vs with
   | nil => exact ⟨v, rfl⟩
   | cons _ _ => simp at hl
 obtain ⟨hv, hcap⟩ := bytes_rep (hr 0 (by simp) (by simp))
 refine (hF v w (hW w hm) (hv.mono fun a u h => (hideL_cell h).1) hcap).mono fun e w' ⟨⟨v', pos, er, he, hf⟩, hb⟩ => ?_
 have hk : Keep [] w w' := Keep.of_below hb
 have hu : Up2 (hideL s.bl w) (hideL s.bl w') := up_keep hk (fun _ h => by cases h) (fun b h => .inl h)
 obtain ⟨m1, m2⟩ := hm.up hu (fun b hb' => hk.block b (hm.lt b hb') (by simp))
 have hm' : Mem s w' := ⟨hm.nodup, fun b hb' => Nat.lt_of_lt_of_le (hm.lt b hb') hk.size, m1, m2⟩
 have t3 : ∀ (x : AT) (p e2 : Int), RepT (hideL s.bl w') x v' → RepT (hideL s.bl w') (.tup [x, .c (.val (.int .i64 p)), .c (.val (.int .i64 e2))]) (.tuple #[v', .int .i64 p, .int .i64 e2]) := fun x p e2 hx => by
  refine .tup _ [v', .int .i64 p, .int .i64 e2] rfl fun i h h' => ?_
  match i, h, h' with
  | 0, _, _ => exact hx
  | 1, _, _ => exact .c _ _ (.val _ rfl)
  | 2, _, _ => exact .c _ _ (.val _ rfl)
 subst he
 rcases hf with ⟨l, h1, h2, rfl, rfl, h3⟩ | ⟨p, e2, h1, rfl, rfl, rfl, h2⟩
 ·refine ⟨_, _, s, rfl, ⟨.inl ⟨l, h1, rfl, h3⟩, rfl⟩, t3 _ _ _ (.c _ _ (.sl _ _ (toksCells l) _ (owns_hid h2 hm.lt) ?_ ?_ ?_)), hm', hk, fun b hb => .inl hb⟩
  ·rw [encT_map]; simp
  ·rw [encT_map]; exact (repL_vals _ _ (toks_one l)).at_
  ·exact owns_cap h2
 ·exact ⟨_, _, s, rfl, ⟨.inr ⟨p, e2, h1, rfl, h2⟩, rfl⟩, t3 _ _ _ (.c _ _ (.val _ rfl)), hm', hk, fun b hb => .inl hb⟩
theorem rLex_c (bs : List UInt8) (s : Sto) : ACall Tryz.prog 19 [.c (.sl bs.length (srcA bs))] [] s fun t s' => LexA bs t ∧ s' = s :=
 lexf_c (fun _ => True) (fun _ _ => trivial) fun v w _ hv hc => rLex_own bs v w hv hc
end Go.Proofs.YtflcnehhpmjipaaGreatDoor
namespace Go.Proofs.YtflcnehhpmjipaaGreatDoor
open Go.RowKit
abbrev srcF (bs : List UInt8) (m : Int) : AT := .fact (.fact (.c (.sl bs.length (srcA bs))) 0 0 (words.map fun x => .val (.string x))) 1 0 [.val (.int .i64 m)]
theorem wk_fact {t : AT} {b o : Nat} {cs : List AC} : Wk (.fact t b o cs) t := fun w v h => by cases h with | fact _ _ _ _ us _ h _ _ => exact h
theorem wk_src {bs : List UInt8} {m : Int} : Wk (srcF bs m) (.c (.sl bs.length (srcA bs))) := fun w v h => wk_fact w v (wk_fact w v h)
theorem vals_of {w : World} {us vs : List Value} (h : RepL w (vs.map .val) us) : us = vs := by
 refine List.ext_getElem (by have := h.len; simpa using this) fun i h1 h2 => ?_
 have h3 := h.at_ i (by simpa using h2) h1
 generalize hx : (vs.map AC.val)[i]'(by simpa using h2) = x at h3
 rw [List.getElem_map] at hx
 subst hx
 generalize us[i] = u at h3
 cases h3; rfl
theorem src_env {bl : List Nat} {w : World} {bs : List UInt8} {m : Int} {v : Value} (h : RepT (hideL bl w) (srcF bs m) v) : Env w := by
 cases h with
 | fact _ _ _ _ us2 _ h hm hma =>
  cases h with
  | fact _ _ _ _ us _ _ hw hwa =>
   obtain rfl : us2 = [.int .i64 m] := vals_of (vs := [.int .i64 m]) hm
   obtain rfl : us = words.map .string := vals_of (vs := words.map .string) (by rw [List.map_map]; exact hw)
   have h1 : ∀ j, j < words.length → w.cell? ⟨0, 0 + j, none⟩ = some (.string (words.getD j ByteArray.empty)) := fun j hj => by
    refine (hideL_cell (hwa j _ ?_)).1
    rw [List.getElem?_map, List.getElem?_eq_getElem hj]; simp [List.getD, hj]
   have h2 : w.cell? ⟨1, 0, none⟩ = some (.int .i64 m) := (hideL_cell (hma 0 _ rfl)).1
   refine ⟨h1, ⟨m, h2⟩, ?_⟩
   have e1 := cell_lt (h1 0 (by decide))
   have e2 := cell_lt h2
   exact Nat.succ_le_of_lt (Nat.max_lt.2 ⟨e1, e2⟩)
theorem lexf_g {F : FuncId} {bs : List UInt8} {s : Sto} {t0 : AT} (hF : ∀ v w, RepT (hideL s.bl w) t0 v → Calls Tryz.prog F #[v] w fun e w' => (∃ v pos er, e = .returned (.tuple #[v, .int .i64 pos, .int .i64 er]) ∧ LexF w' w.heap.size bs v pos er) ∧ Below w.heap.size w w') :
  ACall Tryz.prog F [t0] [] s fun t s' => LexA bs t ∧ s' = s := by
 intro vs w hm _ hl hr
 obtain ⟨v, rfl⟩ : ∃ v, vs = [v] := by
  cases vs with
  | nil => cases hl
  | cons v vs => cases vs with
   | nil => exact ⟨v, rfl⟩
   | cons _ _ => simp at hl
 refine (hF v w (hr 0 (by simp) (by simp))).mono fun e w' ⟨⟨v', pos, er, he, hf⟩, hb⟩ => ?_
 have hk : Keep [] w w' := Keep.of_below hb
 have hu : Up2 (hideL s.bl w) (hideL s.bl w') := up_keep hk (fun _ h => by cases h) (fun b h => .inl h)
 obtain ⟨m1, m2⟩ := hm.up hu (fun b hb' => hk.block b (hm.lt b hb') (by simp))
 have hm' : Mem s w' := ⟨hm.nodup, fun b hb' => Nat.lt_of_lt_of_le (hm.lt b hb') hk.size, m1, m2⟩
 have t3 : ∀ (x : AT) (p e2 : Int), RepT (hideL s.bl w') x v' → RepT (hideL s.bl w') (.tup [x, .c (.val (.int .i64 p)), .c (.val (.int .i64 e2))]) (.tuple #[v', .int .i64 p, .int .i64 e2]) := fun x p e2 hx => by
  refine .tup _ [v', .int .i64 p, .int .i64 e2] rfl fun i h h' => ?_
  match i, h, h' with
  | 0, _, _ => exact hx
  | 1, _, _ => exact .c _ _ (.val _ rfl)
  | 2, _, _ => exact .c _ _ (.val _ rfl)
 subst he
 rcases hf with ⟨l, h1, h2, rfl, rfl, h3⟩ | ⟨p, e2, h1, rfl, rfl, rfl, h2⟩
 ·refine ⟨_, _, s, rfl, ⟨.inl ⟨l, h1, rfl, h3⟩, rfl⟩, t3 _ _ _ (.c _ _ (.sl _ _ (toksCells l) _ (owns_hid h2 hm.lt) ?_ ?_ ?_)), hm', hk, fun b hb => .inl hb⟩
  ·rw [encT_map]; simp
  ·rw [encT_map]; exact (repL_vals _ _ (toks_one l)).at_
  ·exact owns_cap h2
 ·exact ⟨_, _, s, rfl, ⟨.inr ⟨p, e2, h1, rfl, h2⟩, rfl⟩, t3 _ _ _ (.c _ _ (.val _ rfl)), hm', hk, fun b hb => .inl hb⟩
theorem tLex_c (bs : List UInt8) (m : Int) (s : Sto) : ACall Tryz.prog 35 [srcF bs m] [] s fun t s' => LexA bs t ∧ s' = s :=
 lexf_g fun v w h => Lex_own bs v w (src_env h) ((bytes_rep (wk_src _ _ h)).1.mono fun a u h => (hideL_cell h).1)
section
variable {P : Program} {U T : List Nat} {o : Oper} {n d : Nat} {ts : List (Nat × AT)} {s : Sto} {K : AS → Prop}
theorem wcallT {F : FuncId} {ars : Array Operand} {tys : Array TypeId} {us : List AT} (T' : List Nat) {QQ : AT → Sto → Prop} (ho : o.op = .call { callee := .value (.func F), args := ars, argTypes := tys }) (hd : o.dst = some d) (hn : d < n)
  (hcf : ∀ args w, (callFunc F args).run P w = .ok (.enter F args) w) (has : ars.toList.map (evA ⟨n, T, s, ts⟩) = us.map some) (hc : ACall P F us T' s QQ) (hT : ∀ b, b ∈ T' → b ∈ T) (hTb : ∀ b, b ∈ T' → b ∈ s.bl) (hU : s.bl.Nodup → ∀ b, b ∈ T' → b ∈ U)
  (h : ∀ r s', QQ r s' → ∃ T2, (s'.bl.Nodup → ∀ b, b ∈ T2 → b ∈ s'.bl ∧ (b ∈ s.bl → b ∈ T)) ∧ K ⟨n, T2 ++ T, s', (d, r) :: ts⟩) : AO P U o ⟨n, T, s, ts⟩ K := by
 intro a w hs KK QQ' hK
 obtain ⟨h1, h2⟩ := evs_reps hs has
 unfold Oper.wp
 rw [show (execOp a.eval o).run P w = .ok (.enter F (ars.toList.map a.eval).toArray) w from by
  simp only [execOp, ho, resolve, Deferred.ofValue, Act.eval, Sem.run_bind, Sem.run_pure, Result.andThen_ok, invoke]
  rw [hcf]
  congr 2
  rw [← Array.toList_inj]; simp, Oper.upon_enter]
 refine (hc _ w hs.mem hTb h1 h2).mono ?_
 rintro en w' ⟨r, v, s', rfl, hq, hr, hm, hk, hb⟩
 dsimp only
 rw [hd]
 obtain ⟨T2, ht, hK2⟩ := h r s' hq
 have s1 := hs.step (T2 ++ T) (hk.mono hTb) hm hb
 refine hK _ _ _ hK2 (s1.put hn hr) ⟨hk.mono hTb, hk.mono hT, hb, fun b hb2 => ?_⟩ (hk.mono (hU hs.mem.nodup))
 rcases List.mem_append.1 hb2 with hb2 | hb2
 ·obtain ⟨e1, e2⟩ := ht hm.nodup b hb2
  exact (hb b e1).imp e2 id
 ·exact .inl hb2
theorem rows_back {bx bx' : List Box} {rs rs' rw : List ORow} {b : Nat} (hb : bx'.map Box.b = bx.map Box.b) (hn : (⟨bx', rs' ++ rw⟩ : Sto).bl.Nodup) (h1 : b ∈ rs'.flatMap fun r => rowB r.v) (h2 : b ∈ (⟨bx, rs ++ rw⟩ : Sto).bl) : b ∈ rs.flatMap fun r => rowB r.v := by
 unfold Sto.bl at hn h2
 simp only [List.flatMap_append, List.mem_append] at h2
 simp only [List.flatMap_append] at hn
 rw [hb] at hn
 rcases h2 with h | h | h
 ·exact absurd rfl ((List.nodup_append.1 hn).2.2 b h b (List.mem_append_left _ h1))
 ·exact h
 ·exact absurd rfl ((List.nodup_append.1 (List.nodup_append.1 hn).2.1).2.2 b h1 b h)
end
end Go.Proofs.YtflcnehhpmjipaaGreatDoor
namespace Go.Proofs.YtflcnehhpmjipaaGreatDoor
open Go.RowKit
section
variable {P : Program} {U T : List Nat} {o : Oper} {n d : Nat} {ts : List (Nat × AT)} {s : Sto} {K : AS → Prop} {st : AS}
theorem ay_min {x y : Operand} {tys : Array TypeId} {m k : Int} (r : Int) (ho : o.op = .call { callee := .builtin .min, args := #[x, y], argTypes := tys }) (hx : evA st x = some (.c (.val (.int .i64 m)))) (hy : evA st y = some (.c (.val (.int .i64 k)))) (hr : min m k = r) : AY P U o st (.c (.val (.int .i64 r))) :=
 ay_vals rfl fun a w hs w' => by
  subst hr
  simp only [execOp, ho, resolve, List.map_toArray, List.map_cons, List.map_nil, hs.val hx, hs.val hy]
  simp [go_sem, invoke, builtin]
theorem part_rep {w : World} {a : Option Addr} {k cap z l h : Nat} {cs : List AC} (hr : Rep w (.sl k cs) (.slice a k cap)) (h1 : l ≤ h) (h2 : h ≤ k) : Rep w (.sl (h - l) ((cs.drop (l * z)).take ((h - l) * z))) (.slice (if cap = l then a else a.map (·.add (l * z))) (h - l) (cap - l)) := by
 cases hr with
 | sl _ _ us _ hra hl hh hcap =>
  obtain ⟨a', cap', he, hc, hcell⟩ := hra
  cases he
  have hR : RepL w cs us := ⟨hl, hh⟩
  have hR2 := (hR.drop (l * z)).take ((h - l) * z)
  refine .sl _ _ ((us.drop (l * z)).take ((h - l) * z)) _ ⟨_, _, rfl, by omega, ?_⟩ hR2.len hR2.at_ (fun _ _ _ h9 => by cases h9; have := hcap _ _ _ rfl; omega)
  rcases hcell with h0 | ⟨b, off, rfl, hcell⟩
  ·left; subst h0; simp
  ·by_cases hcl : cap = l
   ·left
    have : h - l = 0 := by omega
    rw [this]; simp
   ·right
    rw [if_neg hcl]
    refine ⟨b, off + l * z, by simp [add_addr], fun j u hj => ?_⟩
    rw [List.getElem?_take] at hj
    split at hj
    ·rw [List.getElem?_drop] at hj; rw [Nat.add_assoc]; exact hcell _ _ hj
    ·cases hj
theorem sl_form {w : World} {k : Nat} {cs : List AC} {v : Value} (h : RepT w (.c (.sl k cs)) v) : ∃ a cap, v = .slice a k cap ∧ k ≤ cap ∧ Rep w (.sl k cs) (.slice a k cap) := by
 cases h with
 | c _ _ h => cases h with
  | sl _ _ us _ hr hl hh hc => obtain ⟨a, cap, rfl, hk, hx⟩ := hr; exact ⟨a, cap, rfl, hk, .sl _ _ us _ ⟨a, cap, rfl, hk, hx⟩ hl hh hc⟩
theorem ay_slice_h {t e : TypeId} {x y' : Operand} {k h z : Nat} {k2 : IntKind} {j : Int} {cs r : List AC} (ho : o.op = .slice t x none (some y') none) (hx : evA st x = some (.c (.sl k cs))) (hy' : evA st y' = some (.c (.val (.int k2 j)))) (hj : j = h) (h2 : h ≤ k)
  (ht : P.underlying t = some (.slice (P.elem t))) (he : P.elem t = e) (hz : ∀ w, (sizeOf e).run P w = .ok z w) (hr : cs.take (h * z) = r) : AY P U o st (.c (.sl h r)) := by
 intro a w hs _
 have hv := hs.ev hx
 generalize hxe : a.eval x = v at hv
 obtain ⟨p, cap, rfl, hk, hrep⟩ := sl_form hv
 subst hr; subst hj; subst he
 have h9 := part_rep (z := z) (l := 0) hrep (Nat.zero_le _) h2
 simp only [Nat.zero_mul, List.drop_zero, Nat.sub_zero] at h9
 refine ⟨_, .c _ _ h9, fun w' _ => ?_⟩
 simp only [execOp, ho, hxe, hs.val hy', Option.map_some, Option.map_none]
 rw [Sem.run_bind, run_sliceAt_slice (h := ht), run_slice_h (ht := ht) (h0 := Int.natCast_nonneg h) (h2 := Int.ofNat_le.2 (Nat.le_trans h2 hk)), hz]
 simp [Result.andThen, go_sem, sliced]
theorem wbytes {E E' e : TypeId} {x : Operand} {b : ByteArray} (ho : o.op = .convert E E' x) (hd : o.dst = some d) (hn : d < n) (hx : evA ⟨n, T, s, ts⟩ x = some (.c (.val (.string b)))) (hE : P.underlying E = some .string) (hE' : P.underlying E' = some (.slice e)) (he : P.underlying e = some (.int .u8)) (hb : b.size < 9223372036854775808) {N : Nat} {cs : List AC} (hN : b.size = N) (hcs : srcA b.data.toList = cs)
  (h : K ⟨n, T, s, (d, .c (.sl N cs)) :: ts⟩) : AO P U o ⟨n, T, s, ts⟩ K := by
 subst hN; subst hcs
 intro a w hs KK QQ hK
 obtain ⟨C, hC⟩ : ∃ C, C = grownCap w b.size 0 e := ⟨_, rfl⟩
 obtain ⟨g1, g2⟩ := grownCap_le w b.size e hb
 have hrun : (execOp a.eval o).run P w = .ok (.value (.slice (some ⟨w.heap.size, 0, none⟩) b.size C)) (w.drew.alloc (.cells (bytesRow b C) e ((bytesRow b C).size, (bytesRow b C).size + 1))) := by
  subst hC
  simp only [execOp, ho, Sem.run_bind, hs.val hx]
  rw [run_bytes_of_string w E E' e b hE hE' he]; rfl
 rw [← hC] at g1 g2
 clear hC
 unfold Oper.wp
 rw [hrun, Oper.upon_value, hd]
 have hrow := row_of_string w b C e g1 ((bytesRow b C).size, (bytesRow b C).size + 1)
 generalize hw1 : w.drew.alloc (.cells (bytesRow b C) e ((bytesRow b C).size, (bytesRow b C).size + 1)) = w1 at hrow
 have hk : Keep [] w w1 := by rw [← hw1]; exact (Keep.refl _ _).drew.alloc _
 have hsz : w1.heap.size = w.heap.size + 1 := by rw [← hw1]; show (w.heap.push _).size = _; simp
 have hub : Up2 (hideL s.bl w) (hideL s.bl w1) := up_keep hk (fun _ h => by cases h) (fun b h => .inl h)
 obtain ⟨m1, m2⟩ := hs.mem.up hub (fun b hb => hk.block b (hs.mem.lt b hb) (by simp))
 have hm : Mem s w1 := ⟨hs.mem.nodup, fun b hb => Nat.lt_of_lt_of_le (hs.mem.lt b hb) hk.size, m1, m2⟩
 have s1 := hs.step (w1 := w1) T (hk.mono (by simp)) hm (fun b hb => .inl hb)
 have hrep : RepT (hideL s.bl w1) (.c (.sl b.size (srcA b.data.toList))) (.slice (some ⟨w.heap.size, 0, none⟩) b.size C) := by
  have hne : w.heap.size ∉ s.bl := fun hm => by have : w.heap.size < w.heap.size := hs.mem.lt _ hm; omega
  have hR := repL_vals (hideL s.bl w1) (bcells b.data.toList) (fun u hu => by obtain ⟨c, _, rfl⟩ := List.mem_map.1 hu; rfl)
  have e1 : (bcells b.data.toList).map AC.val = srcA b.data.toList := by simp [bcells, srcA]
  rw [e1] at hR
  refine .c _ _ (.sl _ _ (bcells b.data.toList) _ ?_ hR.len hR.at_ (fun _ _ _ h => by cases h; exact g2))
  obtain ⟨a', c', he', hc', hr'⟩ := hrow
  cases he'
  refine ⟨_, _, rfl, g1, ?_⟩
  rcases hr' with h0 | ⟨b', off, hb', hr'⟩
  ·exact .inl h0
  ·cases hb'
   exact .inr ⟨_, _, rfl, fun j u hu => by rw [hideL_cell_ne _ _ _ hne]; exact hr' j u hu⟩
 exact hK _ _ _ h (s1.put hn hrep) ⟨hk.mono (by simp), hk.mono (by simp), fun b hb => .inl hb, fun b hb => .inl hb⟩ (hk.mono (by simp))
abbrev envF (t : AT) (m : Int) : AT := .fact (.fact t 0 0 (words.map fun x => .val (.string x))) 1 0 [.val (.int .i64 m)]
theorem rep_env {w : World} {t u : AT} {m : Int} {v0 v : Value} (h0 : RepT w (envF t m) v0) (h : RepT w u v) : RepT w (envF u m) v := by
 cases h0 with
 | fact _ _ _ _ us2 _ h0 hm hma => cases h0 with
  | fact _ _ _ _ us _ _ hw hwa => exact .fact _ _ _ _ us2 _ (.fact _ _ _ _ us _ h hw hwa) hm hma
theorem wcallE {F : FuncId} {ars : Array Operand} {tys : Array TypeId} {t0 u : AT} {us : List AT} {m : Int} (i0 : Nat) (T' : List Nat) {QQ : AT → Sto → Prop} (ho : o.op = .call { callee := .value (.func F), args := ars, argTypes := tys }) (hd : o.dst = some d) (hn : d < n)
  (hcf : ∀ args w, (callFunc F args).run P w = .ok (.enter F args) w) (hl : look ts i0 = some (envF t0 m)) (has : ars.toList.map (evA ⟨n, T, s, ts⟩) = (u :: us).map some) (hc : ACall P F (envF u m :: us) T' s QQ) (hT : ∀ b, b ∈ T' → b ∈ T) (hTb : ∀ b, b ∈ T' → b ∈ s.bl) (hU : s.bl.Nodup → ∀ b, b ∈ T' → b ∈ U)
  (h : ∀ r s', QQ r s' → K ⟨n, T, s', (d, r) :: ts⟩) : AO P U o ⟨n, T, s, ts⟩ K := by
 intro a w hs KK QQ' hK
 obtain ⟨h1, h2⟩ := evs_reps hs has
 obtain ⟨v0, -, hv0⟩ := hs.tm i0 _ hl
 refine call_core (st := ⟨n, T, s, ts⟩) (ts := envF u m :: us) hs hd hn h1 (fun i hi hi' => ?_) ?_ hc hT hTb hU h KK QQ' hK
 ·match i, hi with
  | 0, hi => exact rep_env hv0 (h2 0 (by simp) hi')
  | i + 1, hi => exact h2 (i + 1) (by simpa using hi) hi'
 ·simp only [execOp, ho, resolve, Deferred.ofValue, Act.eval, Sem.run_bind, Sem.run_pure, Result.andThen_ok, invoke]
  rw [hcf]
  congr 2
  rw [← Array.toList_inj]; simp
theorem fact_env {bl : List Nat} {w : World} {t : AT} {m : Int} {v : Value} (h : RepT (hideL bl w) (envF t m) v) : Env w := by
 cases h with
 | fact _ _ _ _ us2 _ h hm hma =>
  cases h with
  | fact _ _ _ _ us _ _ hw hwa =>
   obtain rfl : us2 = [.int .i64 m] := vals_of (vs := [.int .i64 m]) hm
   obtain rfl : us = words.map .string := vals_of (vs := words.map .string) (by rw [List.map_map]; exact hw)
   have h1 : ∀ j, j < words.length → w.cell? ⟨0, 0 + j, none⟩ = some (.string (words.getD j ByteArray.empty)) := fun j hj => by
    refine (hideL_cell (hwa j _ ?_)).1
    rw [List.getElem?_map, List.getElem?_eq_getElem hj]; simp [List.getD, hj]
   have h2 : w.cell? ⟨1, 0, none⟩ = some (.int .i64 m) := (hideL_cell (hma 0 _ rfl)).1
   refine ⟨h1, ⟨m, h2⟩, ?_⟩
   have e1 := cell_lt (h1 0 (by decide))
   have e2 := cell_lt h2
   exact Nat.succ_le_of_lt (Nat.max_lt.2 ⟨e1, e2⟩)
theorem below_sto {s : Sto} {w w' : World} (hm : Mem s w) (hb : Below w.heap.size w w') : Keep [] w w' ∧ Mem s w' := by
 have hk : Keep [] w w' := Keep.of_below hb
 have hu : Up2 (hideL s.bl w) (hideL s.bl w') := up_keep hk (fun _ h => by cases h) (fun b h => .inl h)
 obtain ⟨m1, m2⟩ := hm.up hu (fun b hb' => hk.block b (hm.lt b hb') (by simp))
 exact ⟨hk, hm.nodup, fun b hb' => Nat.lt_of_lt_of_le (hm.lt b hb') hk.size, m1, m2⟩
theorem wcallA {F : FuncId} {t0 : AT} {m : Int} (i0 : Nat) (ho : o.op = .call { callee := .value (.func F), args := #[], argTypes := #[] }) (hd : o.dst = some d) (hn : d < n)
  (hcf : ∀ args w, (callFunc F args).run P w = .ok (.enter F args) w) (hl : look ts i0 = some (envF t0 m)) (hc : ∀ w, Env w → Calls P F #[] w fun e w' => e = .returned (.bool true) ∧ Below w.heap.size w w')
  (h : K ⟨n, T, s, (d, .c (.val (.bool true))) :: ts⟩) : AO P U o ⟨n, T, s, ts⟩ K := by
 intro a w hs KK QQ' hK
 obtain ⟨v0, -, hv0⟩ := hs.tm i0 _ hl
 unfold Oper.wp
 rw [show (execOp a.eval o).run P w = .ok (.enter F #[]) w from by
  simp only [execOp, ho, resolve, Deferred.ofValue, Act.eval, Sem.run_bind, Sem.run_pure, Result.andThen_ok, invoke]
  rw [hcf]; simp, Oper.upon_enter]
 refine (hc w (fact_env hv0)).mono ?_
 rintro en w' ⟨rfl, hb⟩
 dsimp only
 rw [hd]
 obtain ⟨hk, hm⟩ := below_sto hs.mem hb
 have s1 := hs.step (st := ⟨n, T, s, ts⟩) T (hk.mono (by simp)) hm (fun b hb => .inl hb)
 exact hK _ _ _ h (s1.put hn (.c _ _ (.val _ rfl))) ⟨hk.mono (by simp), hk.mono (by simp), fun b hb => .inl hb, fun b hb => .inl hb⟩ (hk.mono (by simp))
theorem pure_c {F : FuncId} {ts : List AT} {us : List Value} {u : Value} (h1 : u.oneCell' = true) (hts : ts = us.map fun u => .c (.val u)) (h : ∀ w, Calls P F us.toArray w fun e w' => e = .returned u ∧ w = w') (s : Sto) : ACall P F ts [] s fun r s' => r = .c (.val u) ∧ s' = s := by
 intro vs w hm _ hl hr
 subst hts
 obtain rfl : vs = us := by
  refine List.ext_getElem (by simpa using hl) fun i h1 h2 => ?_
  have h3 := hr i (by simpa using h2) h1
  simp only [List.getElem_map] at h3
  exact h3.val
 exact (h w).mono fun e w' ⟨h2, h3⟩ => by subst h3; exact ⟨_, _, s, h2, ⟨rfl, rfl⟩, .c _ _ (.val _ h1), hm, Keep.refl _ _, fun b hb => .inl hb⟩
theorem rep_ints {w : World} {l : List Int} {a : Option Addr} {cap : Nat} (h : RowAt w (.slice a l.length cap) l.length (l.map (.int .i64))) (hc : cap ≤ 9223372036854775807) : RepT (hideL [] w) (.c (.sl l.length (l.map fun i => .val (.int .i64 i)))) (.slice a l.length cap) := by
 have hid : ∀ a : Addr, (hideL [] w).cell? a = w.cell? a := fun a => hideL_cell_ne _ _ _ (by simp)
 have hR := repL_vals (hideL [] w) (l.map (.int .i64)) (fun u hu => by obtain ⟨c, _, rfl⟩ := List.mem_map.1 hu; rfl)
 rw [List.map_map] at hR
 exact .c _ _ (.sl _ _ _ _ (h.mono fun a u h => by rw [hid]; exact h) hR.len hR.at_ (fun _ _ _ h => by cases h; exact hc))
theorem rep_law_env {w : World} {t : AT} {v : Value} (he : Env w) (h : RepT (hideL [] w) t v) : ∃ m, RepT (hideL [] w) (envF t m) v := by
 obtain ⟨m, hm⟩ := he.maxLen
 have hid : ∀ a : Addr, (hideL [] w).cell? a = w.cell? a := fun a => hideL_cell_ne _ _ _ (by simp)
 refine ⟨m, .fact _ _ _ _ [.int .i64 m] _ (.fact _ _ _ _ (words.map .string) _ h ?_ ?_) ?_ ?_⟩
 ·have h9 := repL_vals (hideL [] w) (words.map .string) (fun u hu => by obtain ⟨c, _, rfl⟩ := List.mem_map.1 hu; rfl)
  rw [List.map_map] at h9; exact h9
 ·intro j u hj
  rw [hid]
  have hjl : j < words.length := by have := (List.getElem?_eq_some_iff.1 hj).1; simpa using this
  rw [he.words j hjl]
  rw [List.getElem?_map, List.getElem?_eq_getElem hjl] at hj
  simp at hj; subst hj
  simp [List.getD, hjl]
 ·exact repL_vals _ [.int .i64 m] (fun u hu => by simp at hu; subst hu; rfl)
 ·intro j u hj
  rw [hid]
  match j, hj with
  | 0, hj => simp at hj; subst hj; exact hm
  | j + 1, hj => simp at hj
theorem law_calls {F : FuncId} {ts : List AT} {vs : List Value} {w : World} (h : ACall P F ts [] ⟨[], []⟩ fun r s' => r = .c (.val (.bool true)) ∧ s' = ⟨[], []⟩) (hl : vs.length = ts.length) (hv : ∀ i (h : i < ts.length) (h' : i < vs.length), RepT (hideL [] w) ts[i] vs[i]) : Calls P F vs.toArray w fun e w' => e = .returned (.bool true) ∧ Below w.heap.size w w' := by
 have hm : Mem ⟨[], []⟩ w := ⟨List.nodup_nil, (fun b hb => absurd hb (by simp [Sto.bl])), (fun x hx => absurd hx (by simp)), (fun x hx => absurd hx (by simp))⟩
 refine (h vs w hm (fun b hb => absurd hb (by simp)) hl hv).mono fun e w' ⟨r, v', s', h1, ⟨h2, h3⟩, h4, h5, h6, h7⟩ => ?_
 subst h2; subst h3
 cases h4 with
 | c _ _ h4 => cases h4; exact ⟨h1, ⟨h6.os, h6.tape, h6.output, h6.size, fun k hk => h6.block k hk (by simp)⟩⟩
end
end Go.Proofs.YtflcnehhpmjipaaGreatDoor
namespace Go.Proofs.YtflcnehhpmjipaaGreatDoor
open Go.RowKit
theorem within_c (x n : Int) (hn : 0 < n) (hn2 : n ≤ 4611686018427387904) (s : Sto) : ACall Tryz.prog 12 [.c (.val (.int .i64 x)), .c (.val (.int .i64 n))] [] s fun r s' => r = .c (.val (.int .i64 (x % n))) ∧ s' = s :=
 pure_c rfl rfl (us := [.int .i64 x, .int .i64 n]) (fun w => within_any x n w hn hn2) s
theorem within_lt (x : Int) (n : Nat) (hn : 0 < n) : ∃ k : Nat, x % (n : Int) = k ∧ k < n := by
 have h1 := Int.emod_nonneg x (b := n) (by omega)
 have h2 := Int.emod_lt_of_pos x (b := n) (by omega)
 exact ⟨(x % (n : Int)).toNat, by omega, by omega⟩
theorem cmp_t {p : Prop} [Decidable p] (h : p) : some (decide p) = some true := by rw [decide_eq_true h]
theorem cmp_f {p : Prop} [Decidable p] (h : ¬ p) : some (decide p) = some false := by rw [decide_eq_false h]
end Go.Proofs.YtflcnehhpmjipaaGreatDoor
