/- The reference: With. -/
import Derived.Test.YtdoehnnhbfmleaaF4
import Derived.Test.YtdoehnnhbfmleaaR0
namespace Go.Proofs.Ytdoehnnhbfmleaa
open Go Go.RowKit Go.Shelf

/-- a byte of a row of one's own, and what storing there makes of the row. -/
theorem own_store {ok : Ok} {base : Nat} {W : World} {A : Option Addr} {n c : Nat} {bs : List UInt8} (h : isOwn kU8 5 ok base W (.slice A n c) bs) (i : Nat) (hi : i < bs.length) :
    n = bs.length ∧ ∃ g cur, A = some ⟨g, 0, none⟩ ∧ base ≤ g ∧ W.heap[g]? = some (.cells cur 5 (0, 0)) ∧ i < cur.size ∧ W.cell? ⟨g, i, none⟩ = some (.int .u8 (bs[i]).toNat) ∧ W.frozen? ⟨g, i, none⟩ = false ∧
      ∀ b : UInt8, isOwn kU8 5 ok base (W.setCell ⟨g, i, none⟩ (.int .u8 b.toNat)) (.slice A n c) (bs.set i b) := by
  obtain ⟨css, ho, hd⟩ := h
  have hcss := reads_bytes_eq hd
  subst hcss
  rw [flatten_bytes] at ho
  rcases ho.2 with ⟨hv, hn⟩ | ⟨g, cap, cur, hv, hg, hh, hnc, hcm, hcs, htake⟩
  · omega
  · cases hv
    have hlen : ((cur.toList.take (bs.length * kU8.sz))).length = bs.length := by rw [htake]; simp
    simp only [kU8, Kind.scalar, Nat.mul_one] at htake hlen
    have hsz : bs.length ≤ cur.size := by simp at hlen; omega
    have hget : cur[i]? = some (encB bs[i]) := by
      have := congrArg (fun l : List Value => l[i]?) htake
      simp only [List.getElem?_take, if_pos hi] at this
      simpa [hi] using this
    refine ⟨rfl, g, cur, rfl, hg, hh, by omega, ?_, by simp [World.frozen?, hh], fun b => ⟨(bs.set i b).map fun x => [encB x], ?_, reads_bytes _ _ _⟩⟩
    · rw [cell_of_row W g i cur 5 (0, 0) hh, hget]; rfl
    · have := (ho.stored i (.int .u8 b.toNat)).1
      rw [flatten_bytes, List.length_set, ← encB_set]
      exact this

set_option maxRecDepth 100000 in
set_option maxHeartbeats 1000000 in
theorem with_any (ok : Ok) (s : Int) (bs : List UInt8) (A : Option Addr) (n c : Nat) (i : Nat) (b : UInt8) (w : World) (hf : isSlice kU8 ok w (.slice A n c) bs) (hi : i < bs.length) (hl : bs.length ≤ 16384) :
    Calls Try.prog 90 #[.agg #[.int .i64 s, .slice A n c], .int .i64 i, .int .u8 b.toNat] w fun e w' => ∃ A' c', e = .returned (.agg #[.int .i64 s, .slice A' bs.length c']) ∧ isSlice kU8 (fun k => w.heap.size ≤ k) w' (.slice A' bs.length c') (bs.set i b) ∧ Below w.heap.size w w' := by
  have hmix : Try.prog.follows .mixedOrders = true := by kernel_rfl
  go_enter Try.func90, Try.ntmps90
  go_wp2
  have hb0 : Below w.heap.size w ((w.alloc (.cells #[.int .i64 s, .slice A n c] 24)).alloc (.cells #[.int .i64 0, .slice none 0 0] 24)) :=
    ((Below.refl _ w).alloc (Nat.le_refl _) _).alloc (by simp) _
  have q0 : ((w.alloc (.cells #[.int .i64 s, .slice A n c] 24)).alloc (.cells #[.int .i64 0, .slice none 0 0] 24)).heap[w.heap.size]? = some (.cells #[.int .i64 s, .slice A n c] 24 (0, 0)) := by
    rw [Below.heap_alloc _ _ _ (by simp)]; exact World.alloc_heap_new w _
  have q1 : ((w.alloc (.cells #[.int .i64 s, .slice A n c] 24)).alloc (.cells #[.int .i64 0, .slice none 0 0] 24)).heap[w.heap.size + 1]? = some (.cells #[.int .i64 0, .slice none 0 0] 24 (0, 0)) := by
    have := World.alloc_heap_new (w.alloc (.cells #[.int .i64 s, .slice A n c] 24)) (.cells #[.int .i64 0, .slice none 0 0] 24)
    rwa [World.size_alloc] at this
  have hsz : w.heap.size + 2 ≤ ((w.alloc (.cells #[.int .i64 s, .slice A n c] 24)).alloc (.cells #[.int .i64 0, .slice none 0 0] 24)).heap.size := by simp
  have hf0 : isSlice kU8 (fun k => ok k ∧ k < w.heap.size) ((w.alloc (.cells #[.int .i64 s, .slice A n c] 24)).alloc (.cells #[.int .i64 0, .slice none 0 0] 24)) (.slice A n c) bs := hf.bound.agree (Agree.below hb0)
  generalize ((w.alloc (.cells #[.int .i64 s, .slice A n c] 24)).alloc (.cells #[.int .i64 0, .slice none 0 0] 24)) = W at *
  have k2 : W.cell? ⟨w.heap.size, 0, none⟩ = some (.int .i64 s) := by simp [World.cell?, q0]
  have k3 : W.cell? ⟨w.heap.size, 1, none⟩ = some (.slice A n c) := by simp [World.cell?, q0]
  have kS : ∀ W' : World, Below W.heap.size W W' → W'.cell? ⟨w.heap.size, 0, none⟩ = some (.int .i64 s) ∧ W'.cell? ⟨w.heap.size, 1, none⟩ = some (.slice A n c) :=
    fun W' hb => ⟨(hb.cell (p := ⟨w.heap.size, 0, none⟩) (by show w.heap.size < _; omega)).trans k2, (hb.cell (p := ⟨w.heap.size, 1, none⟩) (by show w.heap.size < _; omega)).trans k3⟩
  have b1 : ∀ o, Below W.heap.size W (W.drew.alloc o) := fun o => (Below.refl _ W).drew.alloc (Nat.le_refl _) _
  have b2 : ∀ o o', Below W.heap.size W ((W.drew.alloc o).alloc o') := fun o o' => ((Below.refl _ W).drew.alloc (Nat.le_refl _) _).alloc (by simp) _
  have src : ∀ W', Below W.heap.size W W' → isSlice kU8 (fun k => k < W.heap.size) W' (.slice A n c) bs := fun W' hb => (hf0.bound.mono (fun k hk => hk.2)).agree ((Agree.below (ok := fun k => k < W.heap.size) hb))
  have o1 : isOwn kU8 5 (fun k => k < W.heap.size) W.heap.size (W.drew.alloc (.cells #[] 5)) (.slice (some ⟨W.heap.size, 0, none⟩) 0 0) [] := own_empty _ (Nat.le_refl _) (World.alloc_heap_new W.drew _)
  have o2 : ∀ o, isOwn kU8 5 (fun k => k < W.heap.size) W.heap.size ((W.drew.alloc (.cells #[] 5)).alloc o) (.slice (some ⟨W.heap.size, 0, none⟩) 0 0) [] := fun o => own_empty _ (Nat.le_refl _) (by rw [Below.heap_alloc _ _ _ (by simp)]; exact World.alloc_heap_new W.drew _)
  have o3 : ∀ o, isOwn kU8 5 (fun k => k < W.heap.size) W.heap.size ((W.drew.alloc o).alloc (.cells #[] 5)) (.slice (some ⟨W.heap.size + 1, 0, none⟩) 0 0) [] := fun o => own_empty _ (by omega) (by have := World.alloc_heap_new (W.drew.alloc o) (.cells #[] 5); rwa [World.size_alloc] at this)
  have c1 : ∀ k, (Value.slice (some ⟨W.heap.size, 0, none⟩) 0 0).ownBlock = some k → ¬ k < W.heap.size := by intro k hk; simp [Value.ownBlock] at hk; omega
  have c11 : ∀ k, (Value.slice (some ⟨W.heap.size + 1, 0, none⟩) 0 0).ownBlock = some k → ¬ k < W.heap.size := by intro k hk; simp [Value.ownBlock] at hk; omega
  have c2 : ([] : List UInt8).length + bs.length ≤ maxLen := by simp only [List.length_nil]; unfold maxLen; omega
  have c3 : (([] : List UInt8).length + bs.length) * 1 ≤ 140737488355328 := by simp only [List.length_nil]; omega
  have c4 : ∀ o, W.heap.size ≤ (W.drew.alloc o).heap.size := fun o => (b1 o).size
  have c5 : ∀ o o', W.heap.size ≤ ((W.drew.alloc o).alloc o').heap.size := fun o o' => (b2 o o').size
  have d1 : ∀ (W1 w' : World) (v : Value), Below W.heap.size W W1 → W1.grownBy w' v.ownBlock → (∀ k, v.ownBlock = some k → ¬ k < W.heap.size) → Below W.heap.size W w' := fun W1 w' v hb hg hk => hb.grown hg hb.size (fun k e => by have := hk k e; omega)
  have e2 : ∀ o o', ((W.alloc o).alloc o').drew.heap[W.heap.size + 1]? = some o' := fun o o' => by
    have := World.alloc_heap_new (W.alloc o) o'
    rw [World.size_alloc] at this; exact this
  have e3 : ∀ o o', ((W.alloc o).alloc o').drew.heap[W.heap.size]? = some o := fun o o' => by
    show ((W.alloc o).alloc o').heap[W.heap.size]? = some o
    rw [Below.heap_alloc _ _ _ (by simp)]; exact World.alloc_heap_new W _
  have e4 : ∀ o o', W.heap.size + 1 < ((W.alloc o).alloc o').drew.heap.size := fun o o' => by simp
  have e5 : ∀ o o', W.heap.size < ((W.alloc o).alloc o').drew.heap.size := fun o o' => by simp; omega
  rename_i Q K hK
  have key : ∀ (x10 : Value) (A' : Option Addr) (c' p : Nat) (W1 : World), W.heap.size ≤ p → W1.heap[p]? = some (.cells #[.int .i64 s, .slice A' bs.length c'] 24 (0, 0)) → isOwn kU8 5 (fun k => k < W.heap.size) W.heap.size W1 (.slice A' bs.length c') bs → Below W.heap.size W W1 →
      K (⟨#[Value.agg #[Value.int IntKind.i64 s, Value.slice A n c], Value.int IntKind.i64 ↑i, Value.int IntKind.u8 ↑b.toNat, Value.pointer (some { block := w.heap.size, off := 0 }), undef, undef, Value.pointer (some { block := w.heap.size + 1, off := 0 }), Value.pointer (some { block := p, off := 0 }), Value.pointer (some { block := w.heap.size, off := 0 }), Value.int IntKind.i64 s, x10, Value.pointer (some { block := w.heap.size, off := 1 }), Value.slice A n c, Value.slice A' bs.length c', Value.agg #[Value.int IntKind.i64 s, Value.slice A' bs.length c'], undef, undef, undef, undef, undef, undef], []⟩ : Act) W1 := by
    intro x10 A' c' p W1 hp hx ho hb
    obtain ⟨_, g, cur, rfl, hg, hgh, hcur, g1, g2, g3⟩ := own_store ho i hi
    have hgp : p ≠ g := by rintro rfl; rw [hx] at hgh; cases hgh
    have x1 : W1.cell? ⟨p, 0, none⟩ = some (.int .i64 s) := by simp [World.cell?, hx]
    have x2 : W1.cell? ⟨p, 1, none⟩ = some (.slice (some ⟨g, 0, none⟩) bs.length c') := by simp [World.cell?, hx]
    have hr : W1.heap[w.heap.size + 1]? = some (.cells #[.int .i64 0, .slice none 0 0] 24 (0, 0)) := (hb.block _ (by omega)).trans q1
    have hW2 : (W1.setCell ⟨g, i, none⟩ (.int .u8 b.toNat)).heap[p]? = some (.cells #[.int .i64 s, .slice (some ⟨g, 0, none⟩) bs.length c'] 24 (0, 0)) := (Below.heap_setCell _ _ _ _ hgp).trans hx
    have hW3 : (W1.setCell ⟨g, i, none⟩ (.int .u8 b.toNat)).heap[w.heap.size + 1]? = some (.cells #[.int .i64 0, .slice none 0 0] 24 (0, 0)) := (Below.heap_setCell _ _ _ _ (by dsimp only; omega)).trans hr
    have y1 : (W1.setCell ⟨g, i, none⟩ (.int .u8 b.toNat)).cell? ⟨p, 0, none⟩ = some (.int .i64 s) := by simp [World.cell?, hW2]
    have y2 : (W1.setCell ⟨g, i, none⟩ (.int .u8 b.toNat)).cell? ⟨p, 1, none⟩ = some (.slice (some ⟨g, 0, none⟩) bs.length c') := by simp [World.cell?, hW2]
    have z1 : (W1.setCell ⟨g, i, none⟩ (.int .u8 b.toNat)).cell? ⟨w.heap.size + 1, 0, none⟩ = some (.int .i64 0) := by simp [World.cell?, hW3]
    have z2 : (W1.setCell ⟨g, i, none⟩ (.int .u8 b.toNat)).cell? ⟨w.heap.size + 1, 1, none⟩ = some (.slice none 0 0) := by simp [World.cell?, hW3]
    have z3 : (W1.setCell ⟨g, i, none⟩ (.int .u8 b.toNat)).frozen? ⟨w.heap.size + 1, 0, none⟩ = false := by simp [World.frozen?, hW3]
    have z4 : (W1.setCell ⟨g, i, none⟩ (.int .u8 b.toNat)).frozen? ⟨w.heap.size + 1, 1, none⟩ = false := by simp [World.frozen?, hW3]
    have hown := g3 b
    have hb2 : Below w.heap.size w (W1.setCell ⟨g, i, none⟩ (.int .u8 b.toNat)) := (hb0.trans (hb.mono (by omega))).setCell (by dsimp only; omega) _
    apply hK
    clear hK
    go_wp2
    have hW4 : (((W1.setCell ⟨g, i, none⟩ (.int .u8 b.toNat)).setCell ⟨w.heap.size + 1, 0, none⟩ (.int .i64 s)).setCell ⟨w.heap.size + 1, 1, none⟩ (.slice (some ⟨g, 0, none⟩) bs.length c')).heap[w.heap.size + 1]? = some (.cells #[.int .i64 s, .slice (some ⟨g, 0, none⟩) bs.length c'] 24 (0, 0)) :=
      heap_setCell_same _ _ 1 _ _ _ (heap_setCell_same _ _ 0 _ _ _ hW3)
    refine bodyPost_ret_by (results_cell_row rfl _ _ (w.heap.size + 1) 24 #[.int .i64 s, .slice (some ⟨g, 0, none⟩) bs.length c'] (0, 0) _ rfl hW4 Try.underlying24 rfl (by kernel_rfl)) rfl ?_
    refine ⟨_, _, rfl, ?_, (hb2.setCell (by dsimp only; omega) _).setCell (by dsimp only; omega) _⟩
    have hs : isSlice kU8 (fun k => k = g) (W1.setCell ⟨g, i, none⟩ (.int .u8 b.toNat)) (.slice (some ⟨g, 0, none⟩) bs.length c') (bs.set i b) := hown.slice_flat flat_u8 (fun k hk => by simp [Value.ownBlock] at hk; exact hk.symm)
    exact ((hs.agree (Agree.setCell _ _ (by dsimp only; omega))).agree (Agree.setCell _ _ (by dsimp only; omega))).mono (fun k hk => by omega)
  go_region_held3 (fun W' => W'.cell? ⟨w.heap.size, 0, none⟩ = some (.int .i64 s) ∧ W'.cell? ⟨w.heap.size, 1, none⟩ = some (.slice A n c))
    (first | exact kS _ (Below.refl _ _).drew | exact kS _ (b1 _) | exact kS _ (b2 _ _) | exact kS _ hbw | exact kS _ (hbw.alloc hbw.size _) | exact kS _ ((hbw.setCell (by dsimp only; omega) _).setCell (by dsimp only; omega) _))
    (first
    | (refine step_append_K rfl _ _ rfl elem22 (fun k => k < W.heap.size) W.heap.size (.slice (some ⟨W.heap.size, 0, none⟩) 0 0) (.slice A n c) [] bs rfl rfl o1 (src _ (b1 _)) c1 c2 c3 (c4 _) ?_; intro A' c' w' ho hg hob; have hbw := d1 _ _ _ (b1 _) hg c1; simp only [List.nil_append] at ho hob ⊢)
    | (refine step_append_K rfl _ _ rfl elem22 (fun k => k < W.heap.size) W.heap.size (.slice (some ⟨W.heap.size, 0, none⟩) 0 0) (.slice A n c) [] bs rfl rfl (o2 _) (src _ (b2 _ _)) c1 c2 c3 (c5 _ _) ?_; intro A' c' w' ho hg hob; have hbw := d1 _ _ _ (b2 _ _) hg c1; have f0 : w'.heap[W.heap.size + 1]? = some (.cells #[.int .i64 0, .slice none 0 0] 24 (0, 0)) := (hg.block _ (e4 _ _) (by simp [Value.ownBlock])).trans (e2 _ _); have f1 : w'.cell? ⟨W.heap.size + 1, 0, none⟩ = some (.int .i64 0) := (by simp [World.cell?, f0]); have f2 : w'.cell? ⟨W.heap.size + 1, 1, none⟩ = some (.slice none 0 0) := (by simp [World.cell?, f0]); have f3 : w'.frozen? ⟨W.heap.size + 1, 0, none⟩ = false := (by simp [World.frozen?, f0]); have f4 : w'.frozen? ⟨W.heap.size + 1, 1, none⟩ = false := (by simp [World.frozen?, f0]); simp only [List.nil_append] at ho hob ⊢)
    | (refine step_append_K rfl _ _ rfl elem22 (fun k => k < W.heap.size) W.heap.size (.slice (some ⟨W.heap.size + 1, 0, none⟩) 0 0) (.slice A n c) [] bs rfl rfl (o3 _) (src _ (b2 _ _)) c11 c2 c3 (c5 _ _) ?_; intro A' c' w' ho hg hob; have hbw := d1 _ _ _ (b2 _ _) hg c11; have f0 : w'.heap[W.heap.size]? = some (.cells #[.int .i64 0, .slice none 0 0] 24 (0, 0)) := (hg.block _ (e5 _ _) (by simp [Value.ownBlock])).trans (e3 _ _); have f1 : w'.cell? ⟨W.heap.size, 0, none⟩ = some (.int .i64 0) := (by simp [World.cell?, f0]); have f2 : w'.cell? ⟨W.heap.size, 1, none⟩ = some (.slice none 0 0) := (by simp [World.cell?, f0]); have f3 : w'.frozen? ⟨W.heap.size, 0, none⟩ = false := (by simp [World.frozen?, f0]); have f4 : w'.frozen? ⟨W.heap.size, 1, none⟩ = false := (by simp [World.frozen?, f0]); simp only [List.nil_append] at ho hob ⊢))
  · refine key _ A' c' w'.heap.size _ hbw.size (World.alloc_heap_new _ _) ?_ (hbw.alloc hbw.size _)
    exact ho.agree (Agree.alloc _ _ _) (fun k hk => Below.heap_alloc _ _ _ (ho.lt k hk).2)
  · refine key _ A' c' (W.heap.size + 1) _ (by omega) (heap_setCell_same _ _ 1 _ _ _ (heap_setCell_same _ _ 0 _ _ _ f0)) ?_ ((hbw.setCell (by dsimp only; omega) _).setCell (by dsimp only; omega) _)
    refine ho.agree ((Agree.setCell _ _ (by dsimp only; omega)).trans (Agree.setCell _ _ (by dsimp only; omega))) (fun k hk => ?_)
    have : k ≠ W.heap.size + 1 := by
      rintro rfl
      obtain ⟨cur, hc⟩ := ho.typed _ hk
      rw [f0] at hc; cases hc
    rw [Below.heap_setCell _ _ _ _ this, Below.heap_setCell _ _ _ _ this]
  · refine key _ A' c' W.heap.size _ (by omega) (heap_setCell_same _ _ 1 _ _ _ (heap_setCell_same _ _ 0 _ _ _ f0)) ?_ ((hbw.setCell (by dsimp only; omega) _).setCell (by dsimp only; omega) _)
    refine ho.agree ((Agree.setCell _ _ (by dsimp only; omega)).trans (Agree.setCell _ _ (by dsimp only; omega))) (fun k hk => ?_)
    have : k ≠ W.heap.size := by
      rintro rfl
      obtain ⟨cur, hc⟩ := ho.typed _ hk
      rw [f0] at hc; cases hc
    rw [Below.heap_setCell _ _ _ _ this, Below.heap_setCell _ _ _ _ this]
end Go.Proofs.Ytdoehnnhbfmleaa
