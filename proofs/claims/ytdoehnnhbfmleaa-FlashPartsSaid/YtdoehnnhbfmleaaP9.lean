/- FlashParts: the row: for every memory in the world's heap the function returns true, and leaves its arguments as they were. -/
import Derived.Test.YtdoehnnhbfmleaaRows
import Derived.Test.YtdoehnnhbfmleaaOp
import Derived.Test.YtdoehnnhbfmleaaIn
import Derived.Test.YtdoehnnhbfmleaaG9
import Derived.WalkKit
import Derived.ProofKit
import Derived.OpenShut
import Derived.ShutString
import Derived.ChangeOld
import Derived.Below
import Derived.Lib.SmallJoins
namespace Go.Proofs.Ytdoehnnhbfmleaa.flashPartsDone
open Go.ChangeShapes Go.WideShapes Go.ChangeAt Go.RowKit Go.Joins
set_option linter.unusedVariables false

theorem own : ownKnob Try.prog.godebug = none := by kernel_rfl
theorem laidOut : laidOutB Try.prog = true := by kernel_rfl
theorem cells24 : Try.prog.cellsOf 24 = 2 := by kernel_rfl

theorem and_of {a b : Bool} (h1 : a = true) (h2 : b = true) : (a && b) = true := by rw [h1, h2]; rfl

theorem liftedEq : (Rows.flashPartsRow.lifted == Try.pinned.checked.prog.liftsFinal) = true := by rw [liftsFinal_pin]; kernel_rfl
theorem makeEq : (Try.pinned.checked.prog.make == some Rows.flashPartsRow.make) = true := by rw [make_pin]; kernel_rfl

set_option maxRecDepth 100000 in
set_option maxHeartbeats 8000000 in
theorem closed : joinedFacts Try.pinned.checked.prog 9 Try.f9 Rows.flashPartsSpec Rows.flashPartsRow = true := by
  unfold joinedFacts
  repeat' with_reducible refine and_of ?_ ?_
  all_goals first
    | with_reducible exact mayEnter_pin
    | with_reducible exact liftedEq
    | with_reducible exact makeEq
    | as_aux_lemma => kernel_rfl

theorem hname : Try.pinned.checked.prog.funcNamed Rows.flashPartsRow.func = some 9 := by kernel_rfl
theorem hinst : Try.f9.isInstance Try.pinned.checked.prog Rows.flashPartsRow.origin Rows.flashPartsRow.targs := of_decide_eq_true (by kernel_rfl)
theorem hwrap : Func.isWrapper Try.pinned.checked.prog Try.f9 Rows.flashPartsRow.wrapper Rows.flashPartsRow.mainSum := by
  unfold Func.isWrapper
  rw [if_neg (of_decide_eq_false (by kernel_rfl))]
  exact ⟨rfl, rfl⟩

set_option maxRecDepth 100000 in
theorem lifted (os : Os) (started : os.Started) (H : Type) (enc : TypeId × Value → H) :
    ReturnsInHanded {} Try.checked os 9 .any (Rows.flashPartsSpec.pre6 enc Try.prog Try.f9 Rows.flashPartsRow.domain false) (Rows.flashPartsSpec.post enc Try.prog Try.f9 false true false false) := by
  refine returnsInHanded_of_change (C := Try.checked) own started (by kernel_rfl) Try.func9
    (ChangeSpec.witness6 (enc := enc) (C := Try.checked) false ⟨#[], #[.agg #[.int .i64 0, .slice none 0 0], .int .i64 0, .slice none 0 0, .int .u16 0], []⟩ 8 (by kernel_rfl) (by kernel_rfl) (by kernel_rfl) (by kernel_rfl)) ?_
  intro W base args ds gs before hval0 hW hcnd _
  have hval : ∀ (j : Nat) t v, Try.f9.params[j]? = some t → args[j]? = some v → Value.okWide Try.prog W .any base t v := hval0
  have hW' := hW
  obtain ⟨p, q, hA0, hV, rfl, hfz, hnd⟩ := hW
  have hA : DataW.TrodAll enc Try.prog W 0 (fun _ => true) true Try.f9.params.toList args.toList ds p := hA0
  rw [Try.params9] at hA hval
  obtain ⟨v0, vs0, d0, ds0, p0, q0, hargs, rfl, rfl, h0, r0⟩ := trodAll_cons hA
  obtain ⟨v1, vs1, d1, ds1, p1, q1, rfl, rfl, rfl, h1, r1⟩ := trodAll_cons r0
  obtain ⟨v2, vs2, d2, ds2, p2, q2, rfl, rfl, rfl, h2, r2⟩ := trodAll_cons r1
  obtain ⟨v3, vs3, d3, ds3, p3, q3, rfl, rfl, rfl, h3, r3⟩ := trodAll_cons r2
  obtain ⟨rfl, rfl, rfl⟩ := trodAll_nil r3
  obtain rfl : args = #[v0, v1, v2, v3] := by cases args; simp_all
  obtain ⟨rfl, rfl⟩ := trodVars_none hV
  have k0 := h0
  have lt0 : ∀ x ∈ p0, x.block < W.heap.size := by obtain ⟨m, hm⟩ := k0; exact DataW.trod_lt m _ _ _ hm
  obtain ⟨f0, A0, c0, rfl, hs0⟩ : ∃ (f : Fl) (A : Option Addr) (c : Nat), v0 = .agg #[.int .i64 f.sector, .slice A f.bytes.length c] ∧ isSlice kU8 (fun _ => True) W (.slice A f.bytes.length c) f.bytes := by
    obtain ⟨c0, c1, y0, y1, m, rfl, _, _, hy0, hy1⟩ := open_agg2 Try.underlying24 (by kernel_rfl) cells24 (hval 0 24 v0 rfl rfl) h0
    obtain ⟨s, e0, _, _⟩ := DataW.trod_int Try.underlying3 hy0
    obtain ⟨A, xs, c, rfl, hs⟩ := bytes_of_trod (fun _ => rfl) hy1
    simp at e0
    subst e0
    exact ⟨⟨s, xs⟩, A, c, rfl, hs⟩
  obtain ⟨a1, rfl, rfl, rfl, w1⟩ := open_int Try.underlying3 (hval 1 3 v1 rfl rfl) h1
  have k2 := h2
  have lt2 : ∀ x ∈ p2, x.block < W.heap.size := by obtain ⟨m, hm⟩ := k2; exact DataW.trod_lt m _ _ _ hm
  obtain ⟨A2, xs2, c2, rfl, hs2⟩ : ∃ (a : Option Addr) (xs : List UInt8) (c : Nat), v2 = .slice a xs.length c ∧ isSlice kU8 (fun _ => True) W (.slice a xs.length c) xs := by
    obtain ⟨a, l, c, rfl⟩ := okWide_slice Try.underlying22 (hval 2 22 v2 rfl rfl)
    obtain ⟨fuel, hf⟩ := h2
    exact bytes_of_trod (fun _ => rfl) hf
  obtain ⟨a3, rfl, rfl, rfl, w3⟩ := open_int Try.underlying40 (hval 3 40 v3 rfl rfl) h3
  clear hA0 hval0
  refine (fparts_any (fun _ => True) f0 A0 c0 a1 xs2 A2 c2 a3 W hs0 hs2 (by have := bounds_u16 w3; omega)).mono fun e W' ⟨he, bel⟩ => ?_
  subst he
  exact ⟨_, rfl, _, _, _, [], _, [], hW', trodAll_mk1 (shut_bool Try.underlying4 _), (trodAll_cons_mk (Below.trod laidOut (by kernel_rfl) (of_decide_eq_true (by kernel_rfl)) k0 bel lt0) (trodAll_cons_mk (shut_int Try.underlying3 w1) (trodAll_cons_mk (Below.trod laidOut (by kernel_rfl) (of_decide_eq_true (by kernel_rfl)) k2 bel lt2) (trodAll_cons_mk (shut_int Try.underlying40 w3) trodAll_mk0)))), rfl, bel.frame _, fun h => by cases h⟩

theorem over : Rows.flashPartsRow.holds Try.pinned (OpenSpec.ofChange Rows.flashPartsSpec) :=
  OpenClaim.holds_of_wide 9 Try.f9 rfl rfl rfl rfl rfl rfl rfl ⟨rfl, rfl, rfl, rfl, rfl⟩ rfl rfl rfl rfl rfl hname Try.func9 closed
    hinst hwrap (fun os started H enc _ => lifted os started H enc)

theorem proved : Rows.FlashPartsSaid := over
#print axioms proved
end Go.Proofs.Ytdoehnnhbfmleaa.flashPartsDone
