/- FlashErased: the row: for every memory in the world's heap the function returns true, and leaves its arguments as they were. -/
import Derived.Test.YtdoehnnhbfmleaaRows
import Derived.Test.YtdoehnnhbfmleaaOp
import Derived.Test.YtdoehnnhbfmleaaIn
import Derived.Test.YtdoehnnhbfmleaaG5
import Derived.WalkKit
import Derived.ProofKit
import Derived.OpenShut
import Derived.ShutString
import Derived.ChangeOld
import Derived.Below
import Derived.Lib.SmallJoins
namespace Go.Proofs.Ytdoehnnhbfmleaa.flashErasedDone
open Go.ChangeShapes Go.WideShapes Go.ChangeAt Go.RowKit Go.Joins
set_option linter.unusedVariables false

theorem own : ownKnob Try.prog.godebug = none := by kernel_rfl
theorem laidOut : laidOutB Try.prog = true := by kernel_rfl
theorem cells24 : Try.prog.cellsOf 24 = 2 := by kernel_rfl

theorem and_of {a b : Bool} (h1 : a = true) (h2 : b = true) : (a && b) = true := by rw [h1, h2]; rfl

theorem liftedEq : (Rows.flashErasedRow.lifted == Try.pinned.checked.prog.liftsFinal) = true := by rw [liftsFinal_pin]; kernel_rfl
theorem makeEq : (Try.pinned.checked.prog.make == some Rows.flashErasedRow.make) = true := by rw [make_pin]; kernel_rfl

set_option maxRecDepth 100000 in
set_option maxHeartbeats 8000000 in
theorem closed : joinedFacts Try.pinned.checked.prog 5 Try.f5 Rows.flashErasedSpec Rows.flashErasedRow = true := by
  unfold joinedFacts
  repeat' with_reducible refine and_of ?_ ?_
  all_goals first
    | with_reducible exact mayEnter_pin
    | with_reducible exact liftedEq
    | with_reducible exact makeEq
    | as_aux_lemma => kernel_rfl

theorem hname : Try.pinned.checked.prog.funcNamed Rows.flashErasedRow.func = some 5 := by kernel_rfl
theorem hinst : Try.f5.isInstance Try.pinned.checked.prog Rows.flashErasedRow.origin Rows.flashErasedRow.targs := of_decide_eq_true (by kernel_rfl)
theorem hwrap : Func.isWrapper Try.pinned.checked.prog Try.f5 Rows.flashErasedRow.wrapper Rows.flashErasedRow.mainSum := by
  unfold Func.isWrapper
  rw [if_neg (of_decide_eq_false (by kernel_rfl))]
  exact ⟨rfl, rfl⟩

set_option maxRecDepth 100000 in
theorem lifted (os : Os) (started : os.Started) (H : Type) (enc : TypeId × Value → H) :
    ReturnsInHanded {} Try.checked os 5 .any (Rows.flashErasedSpec.pre6 enc Try.prog Try.f5 Rows.flashErasedRow.domain false) (Rows.flashErasedSpec.post enc Try.prog Try.f5 false true false false) := by
  refine returnsInHanded_of_change (C := Try.checked) own started (by kernel_rfl) Try.func5
    (ChangeSpec.witness6 (enc := enc) (C := Try.checked) false ⟨#[], #[.int .u8 0, .int .u8 0, .int .u16 0, .slice none 0 0], []⟩ 8 (by kernel_rfl) (by kernel_rfl) (by kernel_rfl) (by kernel_rfl)) ?_
  intro W base args ds gs before hval0 hW hcnd _
  have hval : ∀ (j : Nat) t v, Try.f5.params[j]? = some t → args[j]? = some v → Value.okWide Try.prog W .any base t v := hval0
  have hW' := hW
  obtain ⟨p, q, hA0, hV, rfl, hfz, hnd⟩ := hW
  have hA : DataW.TrodAll enc Try.prog W 0 (fun _ => true) true Try.f5.params.toList args.toList ds p := hA0
  rw [Try.params5] at hA hval
  obtain ⟨v0, vs0, d0, ds0, p0, q0, hargs, rfl, rfl, h0, r0⟩ := trodAll_cons hA
  obtain ⟨v1, vs1, d1, ds1, p1, q1, rfl, rfl, rfl, h1, r1⟩ := trodAll_cons r0
  obtain ⟨v2, vs2, d2, ds2, p2, q2, rfl, rfl, rfl, h2, r2⟩ := trodAll_cons r1
  obtain ⟨v3, vs3, d3, ds3, p3, q3, rfl, rfl, rfl, h3, r3⟩ := trodAll_cons r2
  obtain ⟨rfl, rfl, rfl⟩ := trodAll_nil r3
  obtain rfl : args = #[v0, v1, v2, v3] := by cases args; simp_all
  obtain ⟨rfl, rfl⟩ := trodVars_none hV
  obtain ⟨a0, rfl, rfl, rfl, w0⟩ := open_int Try.underlying5 (hval 0 5 v0 rfl rfl) h0
  obtain ⟨a1, rfl, rfl, rfl, w1⟩ := open_int Try.underlying5 (hval 1 5 v1 rfl rfl) h1
  obtain ⟨a2, rfl, rfl, rfl, w2⟩ := open_int Try.underlying40 (hval 2 40 v2 rfl rfl) h2
  have k3 := h3
  have lt3 : ∀ x ∈ p3, x.block < W.heap.size := by obtain ⟨m, hm⟩ := k3; exact DataW.trod_lt m _ _ _ hm
  obtain ⟨A3, xs3, c3, rfl, hs3⟩ : ∃ (a : Option Addr) (xs : List UInt8) (c : Nat), v3 = .slice a xs.length c ∧ isSlice kU8 (fun _ => True) W (.slice a xs.length c) xs := by
    obtain ⟨a, l, c, rfl⟩ := okWide_slice Try.underlying22 (hval 3 22 v3 rfl rfl)
    obtain ⟨fuel, hf⟩ := h3
    exact bytes_of_trod (fun _ => rfl) hf
  clear hA0 hval0
  refine (ferased_any (fun _ => True) a0 a1 a2 xs3 A3 c3 W (by have := bounds_u8 w0; omega) (by have := bounds_u8 w1; omega) (by have := bounds_u16 w2; omega) hs3).mono fun e W' ⟨he, bel⟩ => ?_
  subst he
  exact ⟨_, rfl, _, _, _, [], _, [], hW', trodAll_mk1 (shut_bool Try.underlying4 _), (trodAll_cons_mk (shut_int Try.underlying5 w0) (trodAll_cons_mk (shut_int Try.underlying5 w1) (trodAll_cons_mk (shut_int Try.underlying40 w2) (trodAll_cons_mk (Below.trod laidOut (by kernel_rfl) (of_decide_eq_true (by kernel_rfl)) k3 bel lt3) trodAll_mk0)))), rfl, bel.frame _, fun h => by cases h⟩

theorem over : Rows.flashErasedRow.holds Try.pinned (OpenSpec.ofChange Rows.flashErasedSpec) :=
  OpenClaim.holds_of_wide 5 Try.f5 rfl rfl rfl rfl rfl rfl rfl ⟨rfl, rfl, rfl, rfl, rfl⟩ rfl rfl rfl rfl rfl hname Try.func5 closed
    hinst hwrap (fun os started H enc _ => lifted os started H enc)

theorem proved : Rows.FlashErasedSaid := over
#print axioms proved
end Go.Proofs.Ytdoehnnhbfmleaa.flashErasedDone
