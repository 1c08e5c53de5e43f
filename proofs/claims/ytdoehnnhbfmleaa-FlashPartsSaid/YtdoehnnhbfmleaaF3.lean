/-
  Package flash: what 'collect' makes of an iterator.
-/
import Derived.Test.YtdoehnnhbfmleaaF2
namespace Go.Proofs.Ytdoehnnhbfmleaa
open Go Go.RowKit Go.Shelf
attribute [local go_sem] Oper.semAt_some

theorem elem30 : ElemOf Try.prog 30 24 (.agg #[.int .i64 0, .slice none 0 0]) kFlash.sz 32 where
  ty := Try.underlying30
  info := by
    have h : (Try.prog.info? 24).map (fun i => (i.zero, i.size, i.bytes)) = some (some (.agg #[.int .i64 0, .slice none 0 0]), 2, 32) := by kernel_rfl
    obtain ⟨i0, hi, hz0, hz1, hz2⟩ := info_parts h
    exact ⟨i0, hi, hz0, hz1, hz2⟩
  zs := rfl
  pos := by decide

def flRow (n : Nat) : Array Value := madeCells #[.int .i64 0, .slice none 0 0] (n * 2)
theorem make_flashes (n : Nat) (hn : n ≤ 1000000) (W : World) : (Instr.makeSlice 30 (.int .i64 0) (.int .i64 n)).run Try.prog W = .ok (.slice (some ⟨W.heap.size, 0, none⟩) 0 n) (W.alloc (.cells (flRow n) 24)) := by
  obtain ⟨i0, hi, hz0, hz1, hz2⟩ := elem30.info
  have := run_make (P := Try.prog) W 30 24 i0 _ Try.underlying30 hi hz0 .i64 .i64 0 n (by omega) (by omega) (by rw [hz2]; omega) (by omega)
  rw [hz1] at this
  simpa [flRow, Value.cells, kFlash, Kind.iso, Kind.pair, kI64, kBytes, Kind.slice, Kind.scalar] using this

/-- A memory that lies in two cells. -/
theorem flash_cells {ok : Ok} {W : World} {f : Fl} {A : Option Addr} {c : Nat} (h : isSlice kU8 ok W (.slice A f.bytes.length c) f.bytes) : kFlash.rd ok W f [.int .i64 f.sector, .slice A f.bytes.length c] :=
  ⟨[.int .i64 f.sector], [.slice A f.bytes.length c], rfl, rfl, _, rfl, h⟩

/-- What lies in memory when i memories have been collected. -/
structure ColSt (w : World) (S m : Nat) (ys : List Fl) (i : Nat) (A : Option Addr) (c : Nat) (W : World) : Prop where
  box : W.heap[w.heap.size + 1]? = some (.cells #[.slice A i c] 30 (0, 0))
  own : isOwn kFlash 24 (fun k => S + 2 + m ≤ k ∧ some k ≠ (Value.slice A i c).ownBlock) w.heap.size W (.slice A i c) ys
  priv : ∀ g, (Value.slice A i c).ownBlock = some g → ¬ (S ≤ g ∧ g < S + (2 + m))
  bel : Below w.heap.size w W

theorem ColSt.stab {w : World} {m : Nat} {ys : List Fl} {i : Nat} {A : Option Addr} {c : Nat} {W W' : World} (h : ColSt w (w.heap.size + 2) m ys i A c W) (ha : Away (w.heap.size + 2) (2 + m) W W') : ColSt w (w.heap.size + 2) m ys i A c W' where
  box := (ha.block _ (Array.getElem?_eq_some_iff.1 h.box).1 (by omega)).trans h.box
  own := h.own.agree ⟨ha.size, fun k hk hlt => ha.block k hlt (by omega)⟩ (fun k hk => ha.block k (h.own.lt k hk).2 (h.priv k hk))
  priv := h.priv
  bel := h.bel.trans (ha.below (by omega) h.bel.size)

set_option maxRecDepth 100000 in
set_option maxHeartbeats 1000000 in
theorem collect_any (gf : Nat) (lb : Array Value) (xs : List Fl) (n₀ m : Nat) (many : Nat) (hmn : many ≤ 1000000) (hxs : xs.length ≤ 1000000) (w : World) (hn₀ : n₀ ≤ w.heap.size)
    (heg : ∀ args w, (callFunc gf args).run Try.prog w = .ok (.enter gf args) w) (hseq : SeqP Try.prog gf lb xs FlY (fun go => ∀ i, go i = true) n₀ m w) :
    Calls Try.prog 88 #[.func (.func gf) #[] lb, .int .i64 many] w fun e w' => ∃ A c, e = .returned (.slice A xs.length c) ∧ isSlice kFlash (fun k => w.heap.size ≤ k) w' (.slice A xs.length c) xs ∧ Below w.heap.size w w' := by
  refine (callsIn_wide (n := 0)).1 ?_
  have hmk := make_flashes many hmn
  refine callsIn_of_wp_marks Try.func88 rfl trivial ?_
  simp only [Try.ntmps88, List.size_toArray, List.length_cons, List.length_nil, Nat.reduceAdd, Nat.reduceSub, Array.replicate_succ, Array.replicate_zero, List.push_toArray, List.append_toArray, List.nil_append, List.cons_append]
  gi_wp2
  clear hmk
  have hb0 : Below w.heap.size w ((w.alloc (.cells (flRow many) 24)).alloc (.cells #[.slice (some ⟨w.heap.size, 0, none⟩) 0 many] 30)) := ((Below.refl _ w).alloc (Nat.le_refl _) _).alloc (by simp) _
  have hbox0 : ((w.alloc (.cells (flRow many) 24)).alloc (.cells #[.slice (some ⟨w.heap.size, 0, none⟩) 0 many] 30)).heap[w.heap.size + 1]? = some (.cells #[.slice (some ⟨w.heap.size, 0, none⟩) 0 many] 30 (0, 0)) := by
    have := World.alloc_heap_new (w.alloc (.cells (flRow many) 24)) (.cells #[.slice (some ⟨w.heap.size, 0, none⟩) 0 many] 30)
    rwa [World.size_alloc] at this
  have hown0 : ((w.alloc (.cells (flRow many) 24)).alloc (.cells #[.slice (some ⟨w.heap.size, 0, none⟩) 0 many] 30)).ownsRow w.heap.size 24 kFlash.sz (.slice (some ⟨w.heap.size, 0, none⟩) 0 many) 0 [] :=
    (World.ownsRow_made (base := w.heap.size) (e := 24) (size := kFlash.sz) w (flRow many) many (Nat.le_refl _) (by unfold maxLen; omega) (by simp [flRow, size_madeCells, kFlash, Kind.iso, Kind.pair, kI64, kBytes, Kind.slice, Kind.scalar])).alloc _
  have hsz : ((w.alloc (.cells (flRow many) 24)).alloc (.cells #[.slice (some ⟨w.heap.size, 0, none⟩) 0 many] 30)).heap.size = w.heap.size + 2 := by simp
  have hseq' := hseq.later hn₀ hb0
  generalize ((w.alloc (.cells (flRow many) 24)).alloc (.cells #[.slice (some ⟨w.heap.size, 0, none⟩) 0 many] 30)) = ws at *
  refine wpIn_rangeFunc_P (gf := gf) (lb := lb) rfl heg hseq' (by omega) (fun _ _ _ _ ⟨v, h, _⟩ => by rw [h]; rfl) (fun _ => true) (fun _ => rfl)
    (fun i W => i ≤ xs.length ∧ ∃ A c, ColSt w (w.heap.size + 2) m (xs.take i) i A c W) (fun _ _ _ => False) ?hI (fun _ _ _ _ h _ => h) ?h0
    (fun i x a' W => i ≤ xs.length ∧ ∃ A c, ColSt w (w.heap.size + 2) m (xs.take i) i A c W ∧ ∃ Bx A2 c2, a' = (⟨#[Value.func (Fn.func gf) #[] lb, Value.int IntKind.i64 ↑many, undef, undef, Value.slice none 0 0, Value.pointer (some ⟨w.heap.size + 1, 0, none⟩), Value.pointer (some ⟨Bx, 0, none⟩), Value.int IntKind.i64 ↑many, Value.slice (some ⟨w.heap.size, 0, none⟩) 0 many, Value.func (Fn.func gf) #[] lb, Value.agg #[.int .i64 x.sector, .slice A2 x.bytes.length c2], undef, undef, undef, undef, undef], []⟩ : Act) ∧
      W.heap[Bx]? = some (.cells #[.int .i64 x.sector, .slice A2 x.bytes.length c2] 24 (0, 0)) ∧ w.heap.size + 2 + 2 + m ≤ Bx ∧ isSlice kU8 (fun k => w.heap.size + 2 + 2 + m ≤ k ∧ some k ≠ (Value.slice A i c).ownBlock) W (.slice A2 x.bytes.length c2) x.bytes) ?hAx ?hassign ?hbody ?hdone ?hstop
  case hI =>
    rw [hsz]
    rintro i W W' ⟨hi, A, c, h⟩ ha
    exact ⟨hi, A, c, h.stab ha⟩
  case h0 => 
    refine ⟨Nat.zero_le _, _, _, hbox0, ⟨[], hown0, Reads.nil _ _ _⟩, ?_, hb0⟩
    intro g hg
    simp [Value.ownBlock] at hg
    omega
  case hAx =>
    rw [hsz]
    rintro i x a' W W' ⟨hi, A, c, h, Bx, A2, c2, ha', hb, hB, hs⟩ ha
    exact ⟨hi, A, c, h.stab ha, Bx, A2, c2, ha', (ha.block _ (Array.getElem?_eq_some_iff.1 hb).1 (by omega)).trans hb, hB, hs.agree ⟨ha.size, fun k hk hlt => ha.block k hlt (by omega)⟩⟩
  case hassign =>
    rw [hsz]
    rintro l i x vs W0 W K hL ha ⟨hi, A, c, h0⟩ hx ⟨v, rfl, A2, c2, rfl, hs⟩ hK
    have h := h0.stab ha
    have hsW := ha.size
    have hlt := hs
    gi_wp2
    refine hK _ _ (Keep.alloc _ _ (by omega) (by omega)) ⟨hi, A, c, h.stab (Away.alloc _ _), W.heap.size, A2, c2, rfl, World.alloc_heap_new _ _, by omega, ?_⟩
    refine (hs.mono (fun k hk => ⟨by omega, fun e => ?_⟩)).agree (Agree.alloc _ _ _)
    have := (h0.own.lt k e.symm).2
    omega
  case hbody =>
    rw [hsz]
    rintro l i x a' W rfl ⟨r, hr⟩ ⟨hi, A, c, h, Bx, A2, c2, rfl, hb, hB, hs⟩ hx
    have hix : i < xs.length := (List.getElem?_eq_some_iff.1 hx).1
    obtain ⟨ys, hys⟩ : ∃ ys, xs.take i = ys := ⟨_, rfl⟩
    have hyl : ys.length = i := by rw [← hys, List.length_take]; omega
    have hys1 : xs.take (i + 1) = ys ++ [x] := by rw [← hys, List.take_succ_eq_append_getElem hix]; congr 2; exact (List.getElem?_eq_some_iff.1 hx).2
    rw [hys] at h
    have c1 : W.cell? ⟨w.heap.size + 1, 0, none⟩ = some (.slice A i c) := by simp [World.cell?, h.box]
    have c2' : W.cell? ⟨Bx, 0, none⟩ = some (.int .i64 x.sector) := by simp [World.cell?, hb]
    have c3 : W.cell? ⟨Bx, 1, none⟩ = some (.slice A2 x.bytes.length c2) := by simp [World.cell?, hb]
    have hlB : w.heap.size + 1 < W.heap.size := (Array.getElem?_eq_some_iff.1 h.box).1
    have c4 : (W.alloc (.cells #[.int .i64 x.sector, .slice A2 x.bytes.length c2] 24)).cell? ⟨w.heap.size + 1, 0, none⟩ = some (.slice A i c) := by
      rw [World.cell?_alloc_past _ _ _ hlB]; exact c1
    have hlX : Bx < W.heap.size := (Array.getElem?_eq_some_iff.1 hb).1
    have hgB : ∀ k, (Value.slice A i c).ownBlock = some k → k ≠ w.heap.size + 1 := by
      rintro k hk rfl
      obtain ⟨cur, hc⟩ := h.own.typed _ hk
      rw [h.box] at hc
      cases hc
    have hown : isOwn kFlash 24 (fun k => (w.heap.size + 2 + 2 + m ≤ k ∧ some k ≠ (Value.slice A i c).ownBlock) ∧ k ≤ W.heap.size) w.heap.size (W.alloc (.cells #[.int .i64 x.sector, .slice A2 x.bytes.length c2] 24)) (.slice A i c) ys :=
      (h.own.bound.mono (fun k hk => ⟨hk.1, by omega⟩)).agree (Agree.alloc _ _ _) (fun k hk => Below.heap_alloc _ _ _ (h.own.lt k hk).2)
    have hsrc : isSlice kFlash (fun k => (w.heap.size + 2 + 2 + m ≤ k ∧ some k ≠ (Value.slice A i c).ownBlock) ∧ k ≤ W.heap.size) (W.alloc (.cells #[.int .i64 x.sector, .slice A2 x.bytes.length c2] 24)) (.slice (some ⟨W.heap.size, 0, none⟩) 1 1) [x] := by
      refine isSlice.of_cells (css := [[.int .i64 x.sector, .slice A2 x.bytes.length c2]]) (xs := [x]) (ok := fun k => (w.heap.size + 2 + 2 + m ≤ k ∧ some k ≠ (Value.slice A i c).ownBlock) ∧ k ≤ W.heap.size) ⟨⟨by omega, fun e => by have := (h.own.lt _ e.symm).2; omega⟩, Nat.le_refl _⟩ (Nat.le_refl _) ?_ ?_
      · refine ⟨rfl, fun j y cs hy hcs => ?_⟩
        cases j with
        | zero =>
          simp only [List.getElem?_cons_zero, Option.some.injEq] at hy hcs
          subst hy; subst hcs
          exact flash_cells ((hs.bound.mono (fun k hk => ⟨hk.1, by omega⟩)).agree (Agree.alloc _ _ _))
        | succ j => simp at hy
      · intro j u hu
        have := World.news_of_block (World.alloc_heap_new W (.cells #[.int .i64 x.sector, .slice A2 x.bytes.length c2] 24)) j u (by simpa using hu)
        rw [show (⟨W.heap.size, 0, none⟩ : Addr).add j = ⟨W.heap.size, 0 + j, none⟩ from by unfold Addr.add; split <;> simp_all] at this
        exact this
    have d1 : ∀ k, (Value.slice A i c).ownBlock = some k → ¬ ((w.heap.size + 2 + 2 + m ≤ k ∧ some k ≠ (Value.slice A i c).ownBlock) ∧ k ≤ W.heap.size) := fun k hk hn => hn.1.2 hk.symm
    have d2 : ys.length + [x].length ≤ maxLen := by simp only [List.length_singleton]; unfold maxLen; omega
    have d3 : (ys.length + [x].length) * 32 ≤ 140737488355328 := by simp only [List.length_singleton]; omega
    have d4 : w.heap.size ≤ (W.alloc (.cells #[.int .i64 x.sector, .slice A2 x.bytes.length c2] 24)).heap.size := by simp; omega
    gi_wp2_with (gi_at_builtin; refine wpListIn_append_K rfl _ _ rfl elem30 _ w.heap.size (.slice A i c) (.slice (some ⟨W.heap.size, 0, none⟩) 1 1) ys [x] rfl rfl hown hsrc d1 d2 d3 d4 ?_; intro A' c' w' ho hg hob; have e0 : w'.heap[w.heap.size + 1]? = some (.cells #[.slice A i c] 30 (0, 0)) := (hg.block _ (by simp; omega) (fun e => hgB _ e.symm rfl)).trans ((Below.heap_alloc _ _ _ hlB).trans h.box); have e1 : w'.cell? ⟨w.heap.size + 1, 0, none⟩ = some (.slice A i c) := hg.cell c4 (fun e => hgB _ e.symm rfl); have e2 : w'.frozen? ⟨w.heap.size + 1, 0, none⟩ = false := by simp [World.frozen?, e0])
    rw [List.length_append, hyl] at ho hob
    simp only [List.length_singleton] at ho hob
    have hws : W.heap.size ≤ w'.heap.size := by have := hg.size; simp at this; omega
    refine ⟨rfl, ?_, by omega, A', c', ?_, ?_, ?_, ?_⟩
    · refine ((Keep.alloc W _ (by omega) (by omega)).trans (Keep.of_grownBy hg (by simp; omega) (by simp; omega) ?_)).trans (Keep.setCell _ _ (by show n₀ ≤ w.heap.size + 1; omega) (by show ¬ (w.heap.size + 2 ≤ w.heap.size + 1 ∧ _); omega))
      intro k hk
      have := (h.own.lt k hk).1
      have := h.priv k hk
      omega
    · simp only [World.setCell, Array.getElem?_modify, if_true, e0, Option.map_some]
      rfl
    · rw [hys1]
      refine (ho.bound.mono ?_).agree (Agree.setCell _ _ ?_) ?_
      · rintro k ⟨⟨⟨hk1, hk2⟩, hk3⟩, hk4⟩
        refine ⟨hk1, fun e => ?_⟩
        rcases hob k e.symm with h1 | h1
        · exact hk2 h1.symm
        · simp at h1; omega
      · rintro ⟨hk, _⟩
        have : w.heap.size + 2 + 2 + m ≤ w.heap.size + 1 := hk
        omega
      · intro k hk
        refine Below.heap_setCell _ _ _ _ ?_
        rintro rfl
        obtain ⟨cur, hc⟩ := ho.typed _ hk
        rw [show (⟨w.heap.size + 1, 0, none⟩ : Addr).block = w.heap.size + 1 from rfl, e0] at hc
        cases hc
    · intro g hg'
      rcases hob g hg' with h1 | h1
      · exact h.priv g h1
      · simp at h1; omega
    · exact ((h.bel.alloc h.bel.size _).grown hg (by have := h.bel.size; simp; omega) (fun k hk => (h.own.lt k hk).1)).setCell (p := ⟨w.heap.size + 1, 0, none⟩) (by show w.heap.size ≤ w.heap.size + 1; omega) _
  case hdone =>
    rw [hsz]
    rintro W _ ⟨_, A, c, h⟩ hK
    rw [List.take_length] at h
    have c1 : W.cell? ⟨w.heap.size + 1, 0, none⟩ = some (.slice A xs.length c) := by simp [World.cell?, h.box]
    gi_wp2
    refine ⟨by simp, .inl ⟨_, _, rfl, run_takeDeferred hK, ?_⟩⟩
    have h' := h.stab (Away.putObj W (.deferred none) (Nat.le_refl _) (by omega))
    exact ⟨_, results_tmp rfl _ _ _, A, c, rfl, h'.own.slice (fun k hk => by omega) (fun k hk => (h'.own.lt k hk).1), h'.bel⟩
  case hstop =>
    rintro c i W _ _ _ h _
    exact h.elim

end Go.Proofs.Ytdoehnnhbfmleaa
