/- Parts of slices. -/
import Derived.Test.YtdoehnnhbfmleaaL4
namespace Go.Proofs.Ytdoehnnhbfmleaa
open Go Go.RowKit Go.Shelf

theorem isSlice.take {α : Type} {d : Kind α} {ok : Ok} {W : World} {A : Option Addr} {n c : Nat} {xs : List α} (h : isSlice d ok W (.slice A n c) xs) (k : Nat) (hk : k ≤ xs.length) : isSlice d ok W (.slice A k c) (xs.take k) := by
  obtain ⟨A', c', css, hv, hc, hr, hd⟩ := h
  cases hv
  have hl : (xs.take k).length = k := by simp; omega
  refine ⟨A, c, css.take k, by rw [hl], by rw [hl]; omega, ?_, hd.take k⟩
  rcases hr with hr | ⟨b, o, hA, hb, hcell⟩
  · left
    rw [← flatten_take hd.lens, hr]
    simp
  · right
    refine ⟨b, o, hA, hb, fun j u hu => hcell j u ?_⟩
    rw [← flatten_take hd.lens, List.getElem?_take] at hu
    split at hu
    · exact hu
    · cases hu

theorem isSlice.drop {α : Type} {d : Kind α} {ok : Ok} {W : World} {b o n c : Nat} {xs : List α} (h : isSlice d ok W (.slice (some ⟨b, o, none⟩) n c) xs) (k c' : Nat) (hc' : xs.length - k ≤ c') : isSlice d ok W (.slice (some ⟨b, o + k * d.sz, none⟩) (xs.length - k) c') (xs.drop k) := by
  obtain ⟨A', c1, css, hv, hc, hr, hd⟩ := h
  cases hv
  have hl : (xs.drop k).length = xs.length - k := by simp
  refine ⟨_, c', css.drop k, by rw [hl], by rw [hl]; exact hc', ?_, hd.drop k⟩
  rcases hr with hr | ⟨b', o', hA, hb, hcell⟩
  · left
    rw [← flatten_drop hd.lens, hr]
    simp
  · right
    cases hA
    refine ⟨b, o + k * d.sz, rfl, hb, fun j u hu => ?_⟩
    rw [← flatten_drop hd.lens, List.getElem?_drop] at hu
    have := hcell _ u hu
    rwa [← Nat.add_assoc] at this

/-- A slice from an index on, as the walk spells it. -/
theorem isSlice.tailOf {α : Type} {d : Kind α} {ok : Ok} {W : World} {A : Option Addr} {n c : Nat} {xs : List α} (h : isSlice d ok W (.slice A n c) xs) (hsz : 0 < d.sz) (k m : Nat) (hk : k ≤ xs.length) (hm : m = k * d.sz) :
    isSlice d ok W (.slice (if c = k then A else Option.map (fun x => x.add m) A) (xs.length - k) (c - k)) (xs.drop k) := by
  obtain ⟨A', c', hv, hc⟩ := h.form
  cases hv
  by_cases h0 : xs.length = k
  · rw [h0, Nat.sub_self, List.drop_of_length_le (by omega)]
    exact isSlice.nil _ _ _ _ _
  · obtain ⟨b, o, rfl, _⟩ := h.open hsz (by omega)
    rw [if_neg (by omega)]
    have := h.drop k (c - k) (by omega)
    rw [← hm] at this
    simp only [Option.map_some]
    rw [show (⟨b, o, none⟩ : Addr).add m = ⟨b, o + m, none⟩ from by unfold Addr.add; split <;> simp_all]
    exact this
end Go.Proofs.Ytdoehnnhbfmleaa
