/- The arguments of the statements about flash memories: opened. -/
import Derived.Test.YtdoehnnhbfmleaaF2
import Derived.ProofKit
import Derived.OpenShut
import Derived.Lib.SmallJoins
namespace Go.Proofs.Ytdoehnnhbfmleaa
open Go Go.RowKit Go.ChangeShapes Go.WideShapes Go.ChangeAt Go.Joins
set_option linter.unusedVariables false

theorem toByte {z : Int} (h : (Lit.int .u8 z).wf = true) : Value.int .u8 z = encB (UInt8.ofNat z.toNat) := by
  have hb := bounds_u8 h
  unfold encB
  congr 1
  have : (UInt8.ofNat z.toNat).toNat = z.toNat := by
    rw [UInt8.toNat_ofNat']
    omega
  rw [this]
  omega

theorem bytes_of_trod {H : Type} {enc : TypeId × Value → H} {w : World} {base : Nat} {spare : Nat → Bool} {held : Bool} {fuel : Nat} {v : Value} {x : DataW H × List MemPlace} (hsp : ∀ k, spare k = true)
    (hf : DataW.trod enc Try.prog w base spare held fuel 22 [v] = some x) : ∃ (a : Option Addr) (xs : List UInt8) (c : Nat), v = .slice a xs.length c ∧ isSlice kU8 (fun _ => True) w (.slice a xs.length c) xs := by
  rcases open_ints Try.underlying22 Try.underlying5 (by kernel_rfl) hf with ⟨hcs, _⟩ | ⟨a, l, c, zs, hcs, _, hl, hm, hz, _, hcell, hwz⟩
  · simp at hcs
    subst hcs
    exact ⟨none, [], 0, rfl, isSlice.nil _ _ _ _ _⟩
  · simp at hcs
    subst hcs
    rw [hsp, if_pos rfl] at hz
    obtain ⟨xs, hxs⟩ : ∃ xs : List UInt8, xs = (zs.take l).map fun z => UInt8.ofNat z.toNat := ⟨_, rfl⟩
    have hlen : xs.length = l := by rw [hxs]; simp; omega
    refine ⟨some a, xs, c, by rw [hlen], some a, c, xs.map (fun x => [encB x]), rfl, by omega, ?_, reads_bytes _ _ _⟩
    rw [flatten_bytes]
    have hget : ∀ (j : Nat) (u : Value), (xs.map encB)[j]? = some u → w.cell? (a.add j) = some u := by
      intro j u hu
      rw [hxs, List.map_map, List.getElem?_map, List.getElem?_take] at hu
      split at hu
      · rename_i hjl
        have hj : j < zs.length := by omega
        have hc := hcell j hj
        rw [hc]
        rw [List.getElem?_eq_getElem hj] at hu
        simp only [Option.map_some, Function.comp] at hu
        rw [← hu, ← toByte (hwz _ (List.getElem_mem hj))]
        simp [List.getD, List.getElem?_eq_getElem hj]
      · simp at hu
    cases hx : xs with
    | nil => exact .inl rfl
    | cons x0 xs0 =>
      right
      obtain ⟨b, o, spot⟩ := a
      have h0 := hget 0 (encB x0) (by rw [hx]; rfl)
      have hspot : spot = none := by simpa [Addr.add] using World.cell?_spot h0
      subst hspot
      refine ⟨b, o, rfl, trivial, fun j u hu => ?_⟩
      have := hget j u (by rw [hx]; exact hu)
      rw [show (⟨b, o, none⟩ : Addr).add j = ⟨b, o + j, none⟩ from by unfold Addr.add; split <;> simp_all] at this
      exact this
end Go.Proofs.Ytdoehnnhbfmleaa
