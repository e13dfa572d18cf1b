import Derived.Test.YtlbocidcjmehfaaDoorPgWJ
import Derived.Test.YtlbocidcjmehfaaDoorB9J
import Derived.Test.YtlbocidcjmehfaaDoorC4J
set_option linter.unusedVariables false
set_option linter.unusedSimpArgs false
namespace Go.Proofs.YtlbocidcjmehfaaDoor
open Go.RowKit
theorem formatT_len {p : AProg} (h : MProg p) : (formatT p).length ≤ 75000 := by
 unfold formatT
 split
 ·exact h.facts.len
 ·simp
theorem madeText_any (l : List Int) (a : Option Addr) (cap : Nat) (w : World) (hr : RowAt w (.slice a l.length cap) l.length (l.map (.int .i64))) (hl : l.length ≤ 9223372036854775807) :
  Calls Tryd.prog 11 #[.slice a l.length cap] w fun e w' => (∃ p : AProg, e = .returned (.string (bytes (formatT p))) ∧ MProg p) ∧ Below w.heap.size w w' := by
 have HR := Lib.hid hr
 clear hr
 go_enter Tryd.func11, Tryd.ntmps11
 go_wp2_with fail
 refine (program_made l a cap w HR.out hl).mono ?_
 intro e w1 hq
 obtain ⟨p, vg, vm, vf, rfl, hp, hrep, hb1⟩ := hq
 have HP := Lib.hid hp
 have HREP := Lib.hid hrep
 have HB1 := Lib.hid hb1
 clear hp hrep hb1
 go_wp2_with fail
 refine (format_any p [vg, vm, vf] w1 HP.out.facts.fine HP.out.facts.right HREP.out).mono ?_
 intro e w2 hq
 obtain ⟨rfl, hb2⟩ := hq
 have HB2 := Lib.hid hb2
 clear hb2
 go_wp2_with fail
 go_ret
 exact ⟨⟨p, rfl, HP.out⟩, HB1.out.trans (HB2.out.mono HB1.out.size)⟩
end Go.Proofs.YtlbocidcjmehfaaDoor
