/- The words of the dump's head, and the closed facts that read them. -/
import Derived.Test.YtdoehnnhbfmleaaRows
import Derived.ProofKit
namespace Go.Proofs.Ytdoehnnhbfmleaa
open Go

theorem words_cons : ∀ (a r : List Char), (∀ c ∈ a, c ≠ Char.ofNat 32) → wordsSigns (a ++ Char.ofNat 32 :: r) = a :: wordsSigns r
  | [], r, _ => by simp [wordsSigns]
  | c :: a, r, h => by
    have hc : c ≠ Char.ofNat 32 := h c (List.mem_cons_self)
    have ih := words_cons a r (fun x hx => h x (List.mem_cons_of_mem _ hx))
    rw [List.cons_append, wordsSigns.eq_3]
    · rw [ih]
    · exact hc

theorem strip_none : ∀ (os : List String) (w : List Char) (r : List (List Char)), (os.all fun o => !(w == o.toList)) = true → stripLifts os (w :: r) = ([], w :: r)
  | [], _, _, _ => rfl
  | o :: os, w, r, h => by
    rw [List.all_cons, Bool.and_eq_true] at h
    have h1 : ¬ (w == o.toList) = true := by
      intro e
      have := h.1
      rw [e] at this
      cases this
    rw [stripLifts, if_neg h1, strip_none os w r h.2]

theorem strip_cut (r : List (List Char)) : stripLifts liftWords ("cut".toList :: r) = ([], "cut".toList :: r) := strip_none _ _ _ (by kernel_rfl)

theorem behind_of {P : Program} {S : List Char} {r : List (List Char)} (hS : isSumSigns S = true) (hw : wordsSigns P.initOrder.toList = "harness".toList :: S :: "cut".toList :: r) : behindMainWord (wordsSigns P.initOrder.toList) = "cut".toList :: r := by
  rw [hw, behindMainWord, hS, beq_self_eq_true, Bool.true_or, Bool.true_and, if_pos rfl]

theorem mayEnter_of {P : Program} {r : List (List Char)} (hb : behindMainWord (wordsSigns P.initOrder.toList) = "cut".toList :: r) (h1 : P.laysLater = false) (h2 : P.bearsReflect = false) (h3 : P.doorFits [] = true) : P.mayEnter = true := by
  unfold Program.mayEnter
  rw [hb]
  simp only [strip_cut, h1, h2, h3, List.head?_cons, beq_self_eq_true, Bool.not_false, Bool.or_true, Bool.and_true, List.contains_nil]

theorem headLifts_of {P : Program} {r : List (List Char)} (hb : behindMainWord (wordsSigns P.initOrder.toList) = "cut".toList :: r) : P.headLifts = [] := by
  unfold Program.headLifts
  rw [hb, strip_cut]
  simp only [List.head?_cons, beq_self_eq_true, if_true]

theorem cut_ne (s : String) (h : ("cut".toList == s.toList) = false) : (some "cut".toList == some s.toList) = false := by
  rw [Option.some_beq_some]
  exact h

theorem liftsFinal_of {P : Program} {r : List (List Char)} (hb : behindMainWord (wordsSigns P.initOrder.toList) = "cut".toList :: r) : P.liftsFinal = false := by
  unfold Program.liftsFinal
  rw [hb, headLifts_of hb]
  simp only [List.head?_cons, cut_ne "carried" (by kernel_rfl), Bool.false_and, Bool.false_or, List.contains_nil]

theorem make_of {P : Program} {r : List (List Char)} (hb : behindMainWord (wordsSigns P.initOrder.toList) = "cut".toList :: r) : P.make = some .cut := by
  unfold Program.make
  rw [hb]
  have h1 : ("cut".toList == "gc".toList || "cut".toList == "spec".toList) = false := by kernel_rfl
  simp only [h1, beq_self_eq_true, Bool.true_or, if_true, Bool.false_eq_true, if_false]

def restSigns : List Char := [
  Char.ofNat 97, Char.ofNat 116, Char.ofNat 32, Char.ofNat 115, Char.ofNat 108, Char.ofNat 111, Char.ofNat 116, Char.ofNat 109, Char.ofNat 101, Char.ofNat 115, Char.ofNat 104, Char.ofNat 47,
  Char.ofNat 115, Char.ofNat 108, Char.ofNat 111, Char.ofNat 116, Char.ofNat 109, Char.ofNat 101, Char.ofNat 115, Char.ofNat 104, Char.ofNat 108, Char.ofNat 97, Char.ofNat 119, Char.ofNat 50,
  Char.ofNat 51, Char.ofNat 46, Char.ofNat 70, Char.ofNat 108, Char.ofNat 97, Char.ofNat 115, Char.ofNat 104, Char.ofNat 77, Char.ofNat 97, Char.ofNat 116, Char.ofNat 99, Char.ofNat 104,
  Char.ofNat 101, Char.ofNat 115, Char.ofNat 82, Char.ofNat 101, Char.ofNat 102, Char.ofNat 101, Char.ofNat 114, Char.ofNat 101, Char.ofNat 110, Char.ofNat 99, Char.ofNat 101, Char.ofNat 32,
  Char.ofNat 115, Char.ofNat 108, Char.ofNat 111, Char.ofNat 116, Char.ofNat 109, Char.ofNat 101, Char.ofNat 115, Char.ofNat 104, Char.ofNat 47, Char.ofNat 115, Char.ofNat 108, Char.ofNat 111,
  Char.ofNat 116, Char.ofNat 109, Char.ofNat 101, Char.ofNat 115, Char.ofNat 104, Char.ofNat 108, Char.ofNat 97, Char.ofNat 119, Char.ofNat 50, Char.ofNat 51, Char.ofNat 46, Char.ofNat 70,
  Char.ofNat 108, Char.ofNat 97, Char.ofNat 115, Char.ofNat 104, Char.ofNat 83, Char.ofNat 116, Char.ofNat 101, Char.ofNat 112, Char.ofNat 115, Char.ofNat 32, Char.ofNat 115, Char.ofNat 108,
  Char.ofNat 111, Char.ofNat 116, Char.ofNat 109, Char.ofNat 101, Char.ofNat 115, Char.ofNat 104, Char.ofNat 47, Char.ofNat 115, Char.ofNat 108, Char.ofNat 111, Char.ofNat 116, Char.ofNat 109,
  Char.ofNat 101, Char.ofNat 115, Char.ofNat 104, Char.ofNat 108, Char.ofNat 97, Char.ofNat 119, Char.ofNat 50, Char.ofNat 51, Char.ofNat 46, Char.ofNat 70, Char.ofNat 108, Char.ofNat 97,
  Char.ofNat 115, Char.ofNat 104, Char.ofNat 69, Char.ofNat 114, Char.ofNat 97, Char.ofNat 115, Char.ofNat 101, Char.ofNat 100, Char.ofNat 32, Char.ofNat 115, Char.ofNat 108, Char.ofNat 111,
  Char.ofNat 116, Char.ofNat 109, Char.ofNat 101, Char.ofNat 115, Char.ofNat 104, Char.ofNat 47, Char.ofNat 115, Char.ofNat 108, Char.ofNat 111, Char.ofNat 116, Char.ofNat 109, Char.ofNat 101,
  Char.ofNat 115, Char.ofNat 104, Char.ofNat 108, Char.ofNat 97, Char.ofNat 119, Char.ofNat 50, Char.ofNat 51, Char.ofNat 46, Char.ofNat 70, Char.ofNat 108, Char.ofNat 97, Char.ofNat 115,
  Char.ofNat 104, Char.ofNat 65, Char.ofNat 103, Char.ofNat 97, Char.ofNat 105, Char.ofNat 110, Char.ofNat 32, Char.ofNat 115, Char.ofNat 108, Char.ofNat 111, Char.ofNat 116, Char.ofNat 109,
  Char.ofNat 101, Char.ofNat 115, Char.ofNat 104, Char.ofNat 47, Char.ofNat 115, Char.ofNat 108, Char.ofNat 111, Char.ofNat 116, Char.ofNat 109, Char.ofNat 101, Char.ofNat 115, Char.ofNat 104,
  Char.ofNat 108, Char.ofNat 97, Char.ofNat 119, Char.ofNat 50, Char.ofNat 51, Char.ofNat 46, Char.ofNat 70, Char.ofNat 108, Char.ofNat 97, Char.ofNat 115, Char.ofNat 104, Char.ofNat 79,
  Char.ofNat 114, Char.ofNat 100, Char.ofNat 101, Char.ofNat 114, Char.ofNat 32, Char.ofNat 115, Char.ofNat 108, Char.ofNat 111, Char.ofNat 116, Char.ofNat 109, Char.ofNat 101, Char.ofNat 115,
  Char.ofNat 104, Char.ofNat 47, Char.ofNat 115, Char.ofNat 108, Char.ofNat 111, Char.ofNat 116, Char.ofNat 109, Char.ofNat 101, Char.ofNat 115, Char.ofNat 104, Char.ofNat 108, Char.ofNat 97,
  Char.ofNat 119, Char.ofNat 50, Char.ofNat 51, Char.ofNat 46, Char.ofNat 70, Char.ofNat 108, Char.ofNat 97, Char.ofNat 115, Char.ofNat 104, Char.ofNat 69, Char.ofNat 114, Char.ofNat 97,
  Char.ofNat 115, Char.ofNat 105, Char.ofNat 110, Char.ofNat 103, Char.ofNat 32, Char.ofNat 115, Char.ofNat 108, Char.ofNat 111, Char.ofNat 116, Char.ofNat 109, Char.ofNat 101, Char.ofNat 115,
  Char.ofNat 104, Char.ofNat 47, Char.ofNat 115, Char.ofNat 108, Char.ofNat 111, Char.ofNat 116, Char.ofNat 109, Char.ofNat 101, Char.ofNat 115, Char.ofNat 104, Char.ofNat 108, Char.ofNat 97,
  Char.ofNat 119, Char.ofNat 50, Char.ofNat 51, Char.ofNat 46, Char.ofNat 70, Char.ofNat 108, Char.ofNat 97, Char.ofNat 115, Char.ofNat 104, Char.ofNat 80, Char.ofNat 97, Char.ofNat 114,
  Char.ofNat 116, Char.ofNat 115, Char.ofNat 32, Char.ofNat 115, Char.ofNat 108, Char.ofNat 111, Char.ofNat 116, Char.ofNat 109, Char.ofNat 101, Char.ofNat 115, Char.ofNat 104, Char.ofNat 47,
  Char.ofNat 115, Char.ofNat 108, Char.ofNat 111, Char.ofNat 116, Char.ofNat 109, Char.ofNat 101, Char.ofNat 115, Char.ofNat 104, Char.ofNat 108, Char.ofNat 97, Char.ofNat 119, Char.ofNat 50,
  Char.ofNat 52, Char.ofNat 46, Char.ofNat 74, Char.ofNat 111, Char.ofNat 117, Char.ofNat 114, Char.ofNat 110, Char.ofNat 97, Char.ofNat 108, Char.ofNat 77, Char.ofNat 97, Char.ofNat 116,
  Char.ofNat 99, Char.ofNat 104, Char.ofNat 101, Char.ofNat 115, Char.ofNat 82, Char.ofNat 101, Char.ofNat 102, Char.ofNat 101, Char.ofNat 114, Char.ofNat 101, Char.ofNat 110, Char.ofNat 99,
  Char.ofNat 101, Char.ofNat 32, Char.ofNat 115, Char.ofNat 108, Char.ofNat 111, Char.ofNat 116, Char.ofNat 109, Char.ofNat 101, Char.ofNat 115, Char.ofNat 104, Char.ofNat 47, Char.ofNat 115,
  Char.ofNat 108, Char.ofNat 111, Char.ofNat 116, Char.ofNat 109, Char.ofNat 101, Char.ofNat 115, Char.ofNat 104, Char.ofNat 108, Char.ofNat 97, Char.ofNat 119, Char.ofNat 50, Char.ofNat 52,
  Char.ofNat 46, Char.ofNat 74, Char.ofNat 111, Char.ofNat 117, Char.ofNat 114, Char.ofNat 110, Char.ofNat 97, Char.ofNat 108, Char.ofNat 84, Char.ofNat 111, Char.ofNat 114, Char.ofNat 110,
  Char.ofNat 32, Char.ofNat 115, Char.ofNat 108, Char.ofNat 111, Char.ofNat 116, Char.ofNat 109, Char.ofNat 101, Char.ofNat 115, Char.ofNat 104, Char.ofNat 47, Char.ofNat 115, Char.ofNat 108,
  Char.ofNat 111, Char.ofNat 116, Char.ofNat 109, Char.ofNat 101, Char.ofNat 115, Char.ofNat 104, Char.ofNat 108, Char.ofNat 97, Char.ofNat 119, Char.ofNat 50, Char.ofNat 52, Char.ofNat 46,
  Char.ofNat 74, Char.ofNat 111, Char.ofNat 117, Char.ofNat 114, Char.ofNat 110, Char.ofNat 97, Char.ofNat 108, Char.ofNat 83, Char.ofNat 101, Char.ofNat 113, Char.ofNat 117, Char.ofNat 101,
  Char.ofNat 110, Char.ofNat 99, Char.ofNat 101, Char.ofNat 32, Char.ofNat 115, Char.ofNat 108, Char.ofNat 111, Char.ofNat 116, Char.ofNat 109, Char.ofNat 101, Char.ofNat 115, Char.ofNat 104,
  Char.ofNat 47, Char.ofNat 115, Char.ofNat 108, Char.ofNat 111, Char.ofNat 116, Char.ofNat 109, Char.ofNat 101, Char.ofNat 115, Char.ofNat 104, Char.ofNat 108, Char.ofNat 97, Char.ofNat 119,
  Char.ofNat 50, Char.ofNat 52, Char.ofNat 46, Char.ofNat 74, Char.ofNat 111, Char.ofNat 117, Char.ofNat 114, Char.ofNat 110, Char.ofNat 97, Char.ofNat 108, Char.ofNat 65, Char.ofNat 103,
  Char.ofNat 97, Char.ofNat 105, Char.ofNat 110, Char.ofNat 32, Char.ofNat 115, Char.ofNat 108, Char.ofNat 111, Char.ofNat 116, Char.ofNat 109, Char.ofNat 101, Char.ofNat 115, Char.ofNat 104,
  Char.ofNat 47, Char.ofNat 115, Char.ofNat 108, Char.ofNat 111, Char.ofNat 116, Char.ofNat 109, Char.ofNat 101, Char.ofNat 115, Char.ofNat 104, Char.ofNat 108, Char.ofNat 97, Char.ofNat 119,
  Char.ofNat 50, Char.ofNat 52, Char.ofNat 46, Char.ofNat 74, Char.ofNat 111, Char.ofNat 117, Char.ofNat 114, Char.ofNat 110, Char.ofNat 97, Char.ofNat 108, Char.ofNat 82, Char.ofNat 101,
  Char.ofNat 119, Char.ofNat 114, Char.ofNat 105, Char.ofNat 116, Char.ofNat 101, Char.ofNat 115, Char.ofNat 32, Char.ofNat 115, Char.ofNat 108, Char.ofNat 111, Char.ofNat 116, Char.ofNat 109,
  Char.ofNat 101, Char.ofNat 115, Char.ofNat 104, Char.ofNat 47, Char.ofNat 115, Char.ofNat 108, Char.ofNat 111, Char.ofNat 116, Char.ofNat 109, Char.ofNat 101, Char.ofNat 115, Char.ofNat 104,
  Char.ofNat 108, Char.ofNat 97, Char.ofNat 119, Char.ofNat 50, Char.ofNat 52, Char.ofNat 46, Char.ofNat 74, Char.ofNat 111, Char.ofNat 117, Char.ofNat 114, Char.ofNat 110, Char.ofNat 97,
  Char.ofNat 108, Char.ofNat 82, Char.ofNat 111, Char.ofNat 111, Char.ofNat 109, Char.ofNat 32, Char.ofNat 115, Char.ofNat 108, Char.ofNat 111, Char.ofNat 116, Char.ofNat 109, Char.ofNat 101,
  Char.ofNat 115, Char.ofNat 104, Char.ofNat 47, Char.ofNat 115, Char.ofNat 108, Char.ofNat 111, Char.ofNat 116, Char.ofNat 109, Char.ofNat 101, Char.ofNat 115, Char.ofNat 104, Char.ofNat 108,
  Char.ofNat 97, Char.ofNat 119, Char.ofNat 50, Char.ofNat 52, Char.ofNat 46, Char.ofNat 74, Char.ofNat 111, Char.ofNat 117, Char.ofNat 114, Char.ofNat 110, Char.ofNat 97, Char.ofNat 108,
  Char.ofNat 68, Char.ofNat 97, Char.ofNat 109, Char.ofNat 97, Char.ofNat 103, Char.ofNat 101, Char.ofNat 32, Char.ofNat 115, Char.ofNat 108, Char.ofNat 111, Char.ofNat 116, Char.ofNat 109,
  Char.ofNat 101, Char.ofNat 115, Char.ofNat 104, Char.ofNat 47, Char.ofNat 115, Char.ofNat 108, Char.ofNat 111, Char.ofNat 116, Char.ofNat 109, Char.ofNat 101, Char.ofNat 115, Char.ofNat 104,
  Char.ofNat 108, Char.ofNat 97, Char.ofNat 119, Char.ofNat 51, Char.ofNat 56, Char.ofNat 46, Char.ofNat 66, Char.ofNat 111, Char.ofNat 111, Char.ofNat 116, Char.ofNat 77, Char.ofNat 97,
  Char.ofNat 116, Char.ofNat 99, Char.ofNat 104, Char.ofNat 101, Char.ofNat 115, Char.ofNat 82, Char.ofNat 101, Char.ofNat 102, Char.ofNat 101, Char.ofNat 114, Char.ofNat 101, Char.ofNat 110,
  Char.ofNat 99, Char.ofNat 101, Char.ofNat 32, Char.ofNat 115, Char.ofNat 108, Char.ofNat 111, Char.ofNat 116, Char.ofNat 109, Char.ofNat 101, Char.ofNat 115, Char.ofNat 104, Char.ofNat 47,
  Char.ofNat 115, Char.ofNat 108, Char.ofNat 111, Char.ofNat 116, Char.ofNat 109, Char.ofNat 101, Char.ofNat 115, Char.ofNat 104, Char.ofNat 108, Char.ofNat 97, Char.ofNat 119, Char.ofNat 51,
  Char.ofNat 56, Char.ofNat 46, Char.ofNat 66, Char.ofNat 111, Char.ofNat 111, Char.ofNat 116, Char.ofNat 79, Char.ofNat 108, Char.ofNat 100, Char.ofNat 79, Char.ofNat 114, Char.ofNat 78,
  Char.ofNat 101, Char.ofNat 119, Char.ofNat 32, Char.ofNat 115, Char.ofNat 108, Char.ofNat 111, Char.ofNat 116, Char.ofNat 109, Char.ofNat 101, Char.ofNat 115, Char.ofNat 104, Char.ofNat 47,
  Char.ofNat 115, Char.ofNat 108, Char.ofNat 111, Char.ofNat 116, Char.ofNat 109, Char.ofNat 101, Char.ofNat 115, Char.ofNat 104, Char.ofNat 108, Char.ofNat 97, Char.ofNat 119, Char.ofNat 51,
  Char.ofNat 56, Char.ofNat 46, Char.ofNat 66, Char.ofNat 111, Char.ofNat 111, Char.ofNat 116, Char.ofNat 83, Char.ofNat 116, Char.ofNat 97, Char.ofNat 114, Char.ofNat 116, Char.ofNat 105,
  Char.ofNat 110, Char.ofNat 103, Char.ofNat 32, Char.ofNat 115, Char.ofNat 108, Char.ofNat 111, Char.ofNat 116, Char.ofNat 109, Char.ofNat 101, Char.ofNat 115, Char.ofNat 104, Char.ofNat 47,
  Char.ofNat 115, Char.ofNat 108, Char.ofNat 111, Char.ofNat 116, Char.ofNat 109, Char.ofNat 101, Char.ofNat 115, Char.ofNat 104, Char.ofNat 108, Char.ofNat 97, Char.ofNat 119, Char.ofNat 51,
  Char.ofNat 56, Char.ofNat 46, Char.ofNat 66, Char.ofNat 111, Char.ofNat 111, Char.ofNat 116, Char.ofNat 65, Char.ofNat 103, Char.ofNat 97, Char.ofNat 105, Char.ofNat 110, Char.ofNat 32,
  Char.ofNat 115, Char.ofNat 108, Char.ofNat 111, Char.ofNat 116, Char.ofNat 109, Char.ofNat 101, Char.ofNat 115, Char.ofNat 104, Char.ofNat 47, Char.ofNat 115, Char.ofNat 108, Char.ofNat 111,
  Char.ofNat 116, Char.ofNat 109, Char.ofNat 101, Char.ofNat 115, Char.ofNat 104, Char.ofNat 108, Char.ofNat 97, Char.ofNat 119, Char.ofNat 51, Char.ofNat 56, Char.ofNat 46, Char.ofNat 66,
  Char.ofNat 111, Char.ofNat 111, Char.ofNat 116, Char.ofNat 77, Char.ofNat 97, Char.ofNat 114, Char.ofNat 107, Char.ofNat 115, Char.ofNat 32, Char.ofNat 115, Char.ofNat 108, Char.ofNat 111,
  Char.ofNat 116, Char.ofNat 109, Char.ofNat 101, Char.ofNat 115, Char.ofNat 104, Char.ofNat 47, Char.ofNat 115, Char.ofNat 108, Char.ofNat 111, Char.ofNat 116, Char.ofNat 109, Char.ofNat 101,
  Char.ofNat 115, Char.ofNat 104, Char.ofNat 108, Char.ofNat 97, Char.ofNat 119, Char.ofNat 51, Char.ofNat 56, Char.ofNat 46, Char.ofNat 66, Char.ofNat 111, Char.ofNat 111, Char.ofNat 116,
  Char.ofNat 68, Char.ofNat 97, Char.ofNat 109, Char.ofNat 97, Char.ofNat 103, Char.ofNat 101, Char.ofNat 32, Char.ofNat 115, Char.ofNat 108, Char.ofNat 111, Char.ofNat 116, Char.ofNat 109,
  Char.ofNat 101, Char.ofNat 115, Char.ofNat 104, Char.ofNat 47, Char.ofNat 115, Char.ofNat 108, Char.ofNat 111, Char.ofNat 116, Char.ofNat 109, Char.ofNat 101, Char.ofNat 115, Char.ofNat 104,
  Char.ofNat 108, Char.ofNat 97, Char.ofNat 119, Char.ofNat 51, Char.ofNat 56, Char.ofNat 46, Char.ofNat 66, Char.ofNat 111, Char.ofNat 111, Char.ofNat 116, Char.ofNat 82, Char.ofNat 101,
  Char.ofNat 115, Char.ofNat 116, Char.ofNat 32, Char.ofNat 115, Char.ofNat 108, Char.ofNat 111, Char.ofNat 116, Char.ofNat 109, Char.ofNat 101, Char.ofNat 115, Char.ofNat 104, Char.ofNat 47,
  Char.ofNat 115, Char.ofNat 108, Char.ofNat 111, Char.ofNat 116, Char.ofNat 109, Char.ofNat 101, Char.ofNat 115, Char.ofNat 104, Char.ofNat 108, Char.ofNat 97, Char.ofNat 119, Char.ofNat 50,
  Char.ofNat 53, Char.ofNat 46, Char.ofNat 67, Char.ofNat 117, Char.ofNat 115, Char.ofNat 116, Char.ofNat 111, Char.ofNat 100, Char.ofNat 121, Char.ofNat 84, Char.ofNat 111, Char.ofNat 114,
  Char.ofNat 110, Char.ofNat 32, Char.ofNat 115, Char.ofNat 108, Char.ofNat 111, Char.ofNat 116, Char.ofNat 109, Char.ofNat 101, Char.ofNat 115, Char.ofNat 104, Char.ofNat 47, Char.ofNat 115,
  Char.ofNat 108, Char.ofNat 111, Char.ofNat 116, Char.ofNat 109, Char.ofNat 101, Char.ofNat 115, Char.ofNat 104, Char.ofNat 108, Char.ofNat 97, Char.ofNat 119, Char.ofNat 50, Char.ofNat 53,
  Char.ofNat 46, Char.ofNat 67, Char.ofNat 117, Char.ofNat 115, Char.ofNat 116, Char.ofNat 111, Char.ofNat 100, Char.ofNat 121, Char.ofNat 83, Char.ofNat 101, Char.ofNat 113, Char.ofNat 117,
  Char.ofNat 101, Char.ofNat 110, Char.ofNat 99, Char.ofNat 101, Char.ofNat 32, Char.ofNat 115, Char.ofNat 108, Char.ofNat 111, Char.ofNat 116, Char.ofNat 109, Char.ofNat 101, Char.ofNat 115,
  Char.ofNat 104, Char.ofNat 47, Char.ofNat 115, Char.ofNat 108, Char.ofNat 111, Char.ofNat 116, Char.ofNat 109, Char.ofNat 101, Char.ofNat 115, Char.ofNat 104, Char.ofNat 108, Char.ofNat 97,
  Char.ofNat 119, Char.ofNat 50, Char.ofNat 53, Char.ofNat 46, Char.ofNat 67, Char.ofNat 117, Char.ofNat 115, Char.ofNat 116, Char.ofNat 111, Char.ofNat 100, Char.ofNat 121, Char.ofNat 78,
  Char.ofNat 117, Char.ofNat 109, Char.ofNat 98, Char.ofNat 101, Char.ofNat 114, Char.ofNat 115, Char.ofNat 32, Char.ofNat 115, Char.ofNat 108, Char.ofNat 111, Char.ofNat 116, Char.ofNat 109,
  Char.ofNat 101, Char.ofNat 115, Char.ofNat 104, Char.ofNat 47, Char.ofNat 115, Char.ofNat 108, Char.ofNat 111, Char.ofNat 116, Char.ofNat 109, Char.ofNat 101, Char.ofNat 115, Char.ofNat 104,
  Char.ofNat 108, Char.ofNat 97, Char.ofNat 119, Char.ofNat 50, Char.ofNat 53, Char.ofNat 46, Char.ofNat 67, Char.ofNat 117, Char.ofNat 115, Char.ofNat 116, Char.ofNat 111, Char.ofNat 100,
  Char.ofNat 121, Char.ofNat 79, Char.ofNat 116, Char.ofNat 104, Char.ofNat 101, Char.ofNat 114, Char.ofNat 115]

theorem head_is : Try.prog.initOrder = String.ofList ("harness".toList ++ Char.ofNat 32 :: ("6be5086fe1791eeff00e7cfcedb2ed13a946f04c450994d9310a3700715f42f9".toList ++ Char.ofNat 32 :: ("cut".toList ++ Char.ofNat 32 :: restSigns))) := by kernel_rfl

theorem head_words : wordsSigns Try.prog.initOrder.toList = "harness".toList :: "6be5086fe1791eeff00e7cfcedb2ed13a946f04c450994d9310a3700715f42f9".toList :: "cut".toList :: wordsSigns restSigns := by
  rw [head_is, String.toList_ofList, words_cons _ _ (of_decide_eq_true (by kernel_rfl)), words_cons _ _ (of_decide_eq_true (by kernel_rfl)), words_cons _ _ (of_decide_eq_true (by kernel_rfl))]

theorem behind_try : behindMainWord (wordsSigns Try.prog.initOrder.toList) = "cut".toList :: wordsSigns restSigns := behind_of (by kernel_rfl) head_words
theorem mayEnter_try : Try.prog.mayEnter = true := mayEnter_of behind_try (by kernel_rfl) (by kernel_rfl) (by kernel_rfl)
theorem liftsFinal_try : Try.prog.liftsFinal = false := liftsFinal_of behind_try
theorem make_try : Try.prog.make = some .cut := make_of behind_try
theorem mayEnter_pin : Try.pinned.checked.prog.mayEnter = true := mayEnter_try
theorem liftsFinal_pin : Try.pinned.checked.prog.liftsFinal = false := liftsFinal_try
theorem make_pin : Try.pinned.checked.prog.make = some .cut := make_try
end Go.Proofs.Ytdoehnnhbfmleaa
