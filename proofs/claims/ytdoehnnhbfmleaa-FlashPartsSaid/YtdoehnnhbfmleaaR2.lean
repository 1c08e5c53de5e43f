/- The reference of package flash: lists of memories that grow. -/
import Derived.Test.YtdoehnnhbfmleaaR1
namespace Go.Proofs.Ytdoehnnhbfmleaa
open Go Go.RowKit Go.Shelf

/-- What the elements of a growing list may hang on. -/
def okL (N : Nat) (ok0 : Ok) (v : Value) : Ok := fun k => (ok0 k ∧ k < N) ∨ (N ≤ k ∧ some k ≠ v.ownBlock)

/-- A list of memories that the call owns. -/
structure Grow (N : Nat) (ok0 : Ok) (W : World) (A : Option Addr) (c : Nat) (l : List Fl) : Prop where
  own : isOwn kFlash 24 (okL N ok0 (.slice A l.length c)) N W (.slice A l.length c) l
  le : N ≤ W.heap.size

theorem Grow.agree {N : Nat} {ok0 : Ok} {W W' : World} {A : Option Addr} {c : Nat} {l : List Fl} (h : Grow N ok0 W A c l) (hb : Below W.heap.size W W') : Grow N ok0 W' A c l :=
  ⟨h.own.agree (Agree.below hb) (fun k hk => hb.block k (h.own.lt k hk).2), Nat.le_trans h.le hb.size⟩

theorem Grow.slice {N : Nat} {ok0 : Ok} {W : World} {A : Option Addr} {c : Nat} {l : List Fl} (h : Grow N ok0 W A c l) : isSlice kFlash (fun k => (ok0 k ∧ k < N) ∨ N ≤ k) W (.slice A l.length c) l :=
  h.own.slice (fun k hk => by rcases hk with hk | hk; exact .inl hk; exact .inr hk.1) (fun k hk => .inr (h.own.lt k hk).1)

theorem Grow.get {N : Nat} {ok0 : Ok} {W : World} {A : Option Addr} {c : Nat} {l : List Fl} (h : Grow N ok0 W A c l) (j : Nat) (hj : j < l.length) :
    ∃ g o A2 c2, A = some ⟨g, o, none⟩ ∧ N ≤ g ∧ g < W.heap.size ∧ W.cell? ⟨g, o + j * 2, none⟩ = some (.int .i64 l[j].sector) ∧ W.cell? ⟨g, o + j * 2 + 1, none⟩ = some (.slice A2 l[j].bytes.length c2) ∧ isSlice kU8 (okL N ok0 (.slice A l.length c)) W (.slice A2 l[j].bytes.length c2) l[j].bytes := by
  obtain ⟨A', c', css, hv, hc, hr, hd⟩ := h.own.row
  cases hv
  have hl := hd.lens
  have hj' : j < css.length := by rw [hd.1]; exact hj
  obtain ⟨d1, d2, hcs, h1, v, h2, hs⟩ := hd.2 j _ _ (List.getElem?_eq_getElem hj) (List.getElem?_eq_getElem hj')
  obtain ⟨A2, c2', rfl, _⟩ := hs.form
  subst h2
  rw [show d1 = [.int .i64 l[j].sector] from h1] at hcs
  have f0 := flatten_get hl j 0 _ (List.getElem?_eq_getElem hj') (by decide)
  have f1 := flatten_get hl j 1 _ (List.getElem?_eq_getElem hj') (by decide)
  rw [hcs] at f0 f1
  rcases hr with hr | ⟨g, o, rfl, hg, hcell⟩
  · rw [hr] at f0; simp at f0
  · have hlt := h.own.lt g hg.symm
    refine ⟨g, o, A2, c2', rfl, hlt.1, hlt.2, hcell _ _ f0, ?_, hs⟩
    have := hcell _ _ f1
    rw [← Nat.add_assoc] at this
    exact this

theorem Grow.off {N : Nat} {ok0 : Ok} {W : World} {g o c : Nat} {l : List Fl} (h : Grow N ok0 W (some ⟨g, o, none⟩) c l) : o = 0 := by
  obtain ⟨css, ho, hd⟩ := h.own
  rcases ho.2 with ⟨h, _⟩ | ⟨g', cap, cur, h, _⟩
  · cases h
  · cases h; rfl

/-- What is asked at the append of one memory more. -/
structure SnocOk (N : Nat) (ok0 : Ok) (W W1 : World) (A : Option Addr) (c : Nat) (l : List Fl) (x : Fl) (A2 : Option Addr) (c2 n m : Nat) : Prop where
  own : isOwn kFlash 24 (fun k => okL N ok0 (.slice A n c) k ∧ k ≤ W1.heap.size) N (W1.alloc (.cells #[.int .i64 x.sector, .slice A2 m c2] 24)) (.slice A n c) l
  src : isSlice kFlash (fun k => okL N ok0 (.slice A n c) k ∧ k ≤ W1.heap.size) (W1.alloc (.cells #[.int .i64 x.sector, .slice A2 m c2] 24)) (.slice (some ⟨W1.heap.size, 0, none⟩) 1 1) [x]
  ne : ∀ k, (Value.slice A n c).ownBlock = some k → ¬ (okL N ok0 (.slice A n c) k ∧ k ≤ W1.heap.size)
  base : N ≤ (W1.alloc (.cells #[.int .i64 x.sector, .slice A2 m c2] 24)).heap.size
  fin : ∀ A' c' w', isOwn kFlash 24 (fun k => okL N ok0 (.slice A n c) k ∧ k ≤ W1.heap.size) N w' (.slice A' (l ++ [x]).length c') (l ++ [x]) → (W1.alloc (.cells #[.int .i64 x.sector, .slice A2 m c2] 24)).grownBy w' (Value.slice A n c).ownBlock →
    (∀ k, (Value.slice A' (l ++ [x]).length c').ownBlock = some k → (Value.slice A n c).ownBlock = some k ∨ (W1.alloc (.cells #[.int .i64 x.sector, .slice A2 m c2] 24)).heap.size ≤ k) → Grow N ok0 w' A' c' (l ++ [x]) ∧ Below N W w' ∧ W1.heap.size ≤ w'.heap.size

theorem one_flash {ok : Ok} {W1 : World} {x : Fl} {A2 : Option Addr} {c2 : Nat} (hx : isSlice kU8 ok W1 (.slice A2 x.bytes.length c2) x.bytes) (h : ok W1.heap.size) :
    isSlice kFlash ok (W1.alloc (.cells #[.int .i64 x.sector, .slice A2 x.bytes.length c2] 24)) (.slice (some ⟨W1.heap.size, 0, none⟩) 1 1) [x] := by
  refine isSlice.of_cells (css := [[.int .i64 x.sector, .slice A2 x.bytes.length c2]]) (xs := [x]) (ok := ok) h (Nat.le_refl _) ?_ ?_
  · refine ⟨rfl, fun j y cs hy hcs => ?_⟩
    cases j with
    | zero =>
      simp only [List.getElem?_cons_zero, Option.some.injEq] at hy hcs
      subst hy; subst hcs
      exact flash_cells (hx.agree (Agree.alloc _ _ _))
    | succ j => simp at hy
  · intro j u hu
    have := World.news_of_block (World.alloc_heap_new W1 (.cells #[.int .i64 x.sector, .slice A2 x.bytes.length c2] 24)) j u (by simpa using hu)
    rw [show (⟨W1.heap.size, 0, none⟩ : Addr).add j = ⟨W1.heap.size, 0 + j, none⟩ from by unfold Addr.add; split <;> simp_all] at this
    exact this

theorem Grow.snoc {N : Nat} {ok0 : Ok} {W W1 : World} {A : Option Addr} {c : Nat} {l : List Fl} (h : Grow N ok0 W A c l) (hb : Below W.heap.size W W1) (x : Fl) (A2 : Option Addr) (c2 : Nat)
    (n m : Nat) (hn : l.length = n) (hm : x.bytes.length = m) (hx : isSlice kU8 (fun k => W.heap.size ≤ k) W1 (.slice A2 m c2) x.bytes) : SnocOk N ok0 W W1 A c l x A2 c2 n m := by
  subst hn; subst hm
  have hlt := h.own.lt
  have hle := h.le
  have hs := hb.size
  have hne : ∀ k, W.heap.size ≤ k → some k ≠ (Value.slice A l.length c).ownBlock := fun k hk e => by
    have := (hlt k e.symm).2
    omega
  refine ⟨?_, ?_, fun k hk hn => ?_, by simp; omega, fun A' c' w' ho hg hob => ⟨⟨?_, ?_⟩, ?_, ?_⟩⟩
  · exact ((h.own.bound.mono (fun k hk => ⟨hk.1, by omega⟩)).agree (Agree.below hb) (fun k hk => hb.block k (hlt k hk).2)).agree (Agree.alloc _ _ _) (fun k hk => Below.heap_alloc _ _ _ (by have := (hlt k hk).2; omega))
  · exact one_flash (hx.bound.mono (fun k hk => ⟨.inr ⟨by omega, hne k hk.1⟩, by omega⟩)) ⟨.inr ⟨by omega, hne _ hs⟩, Nat.le_refl _⟩
  · rcases hn.1 with h1 | h1
    · have := (hlt k hk).1; omega
    · exact h1.2 hk.symm
  · refine ho.mono (fun k hk => ?_)
    rcases hk.1 with h1 | h1
    · exact .inl h1
    · refine .inr ⟨h1.1, fun e => ?_⟩
      rcases hob k e.symm with h2 | h2
      · exact h1.2 h2.symm
      · simp at h2; omega
  · have := hg.size; simp at this; omega
  · exact ((hb.mono hle).alloc (by omega) _).grown hg (by simp; omega) (fun k hk => (hlt k hk).1)
  · have := hg.size; simp at this; omega

/-- The list of one memory. -/
theorem Grow.one (ok0 : Ok) (N : Nat) {W : World} {x : Fl} {A2 : Option Addr} {c2 : Nat} (hx : isSlice kU8 (fun k => ok0 k ∧ k < N) W (.slice A2 x.bytes.length c2) x.bytes) (hN : N ≤ W.heap.size) :
    Grow N ok0 (W.alloc (.cells #[.int .i64 x.sector, .slice A2 x.bytes.length c2] 24)) (some ⟨W.heap.size, 0, none⟩) 1 [x] := by
  refine ⟨⟨[[.int .i64 x.sector, .slice A2 x.bytes.length c2]], ⟨rfl, .inr ⟨W.heap.size, 1, #[.int .i64 x.sector, .slice A2 x.bytes.length c2], rfl, hN, World.alloc_heap_new _ _, Nat.le_refl _, by unfold maxLen; omega, rfl, rfl⟩⟩, rfl, ?_⟩, by simp; omega⟩
  intro j y cs hy hcs
  cases j with
  | zero =>
    simp only [List.getElem?_cons_zero, Option.some.injEq] at hy hcs
    subst hy; subst hcs
    exact flash_cells ((hx.mono (fun k hk => Or.inl hk)).agree (Agree.alloc _ _ _))
  | succ j => simp at hy
end Go.Proofs.Ytdoehnnhbfmleaa
