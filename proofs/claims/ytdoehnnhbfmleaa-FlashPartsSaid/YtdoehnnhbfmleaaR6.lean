/- The reference of package flash: New. -/
import Derived.Test.YtdoehnnhbfmleaaR4
import Derived.Laws.ResultCell
namespace Go.Proofs.Ytdoehnnhbfmleaa
open Go Go.RowKit Go.Shelf

/-- A memory that is new, and the number of an error. -/
def NRes (w : World) (f : Fl) (err : Int) (e : Ending) (w' : World) : Prop :=
  ∃ A c, e = .returned (.tuple #[.agg #[.int .i64 f.sector, .slice A f.bytes.length c], .int .i64 err]) ∧ isSlice kU8 (fun k => w.heap.size ≤ k) w' (.slice A f.bytes.length c) f.bytes ∧ Below w.heap.size w w'

theorem info24 : (Try.prog.info? 24).map (·.size) = some 2 := by kernel_rfl

/-- Results that lie in a cell of memories and a temporary. -/
theorem results_flash {fn : Func} {p u : Tmp} (h : fn.results = #[.cell p 24, .tmp u]) (tmps : Array Value) (w : World) (g : Nat) (a b : Value) (fr : Nat × Nat) (hp : tmps.getD p undef = .pointer (some ⟨g, 0, none⟩)) (hg : w.heap[g]? = some (.cells #[a, b] 24 fr)) :
    (results fn tmps).run Try.prog w = .ok (.tuple #[.agg #[a, b], tmps.getD u undef]) w := by
  rw [results_cell_tmp h, hp]
  simp only [asAddr, Sem.run_pure, Result.andThen_ok]
  rw [run_loadVar_row w g 24 24 #[a, b] fr _ hg Try.underlying24 rfl info24]
  rfl

theorem isOwn.flat {α : Type} {d : Kind α} (hd : d.Flat) {e : TypeId} {ok : Ok} (ok' : Ok) {base : Nat} {W : World} {v : Value} {xs : List α} (h : isOwn d e ok base W v xs) : isOwn d e ok' base W v xs := by
  obtain ⟨css, ho, hr⟩ := h
  exact ⟨css, ho, hr.flat hd _ _⟩

set_option maxRecDepth 100000 in
set_option maxHeartbeats 1000000 in
theorem rnew_bad (s q : Int) (w : World) (h : s < 1 ∨ (1 ≤ s ∧ (1024 < s ∨ (s ≤ 1024 ∧ (q < 1 ∨ (1 ≤ q ∧ 16384 / s < q)))))) : Calls Try.prog 30 #[.int .i64 s, .int .i64 q] w (NRes w ⟨0, []⟩ 1) := by
  have fin : ∀ tmps : Array Value, tmps.getD 4 undef = .pointer (some ⟨w.heap.size, 0, none⟩) → tmps.getD 5 undef = .int .i64 1 → bodyPost Try.prog Try.f30 (NRes w ⟨0, []⟩ 1) .ret (⟨tmps, []⟩ : Act) (w.alloc (.cells #[.int .i64 0, .slice none 0 0] 24)) := by
    intro tmps h4 h5
    refine bodyPost_ret_by (results_flash rfl _ _ w.heap.size (.int .i64 0) (.slice none 0 0) (0, 0) h4 (World.alloc_heap_new _ _)) rfl ?_
    rw [h5]
    exact ⟨none, 0, rfl, isSlice.nil _ _ _ _ _, (Below.refl _ w).alloc (Nat.le_refl _) _⟩
  rcases h with h | ⟨h1, h | ⟨h2, h | ⟨h3, h⟩⟩⟩
  · have e1 : decide (s < 1) = true := by simp [h]
    go_enter Try.func30, Try.ntmps30
    go_wp2
    exact fin _ rfl rfl
  · have e1 : decide (s < 1) = false := by simp; omega
    have e2 : decide (1024 < s) = true := by simp; omega
    go_enter Try.func30, Try.ntmps30
    go_wp2
    exact fin _ rfl rfl
  · have e1 : decide (s < 1) = false := by simp; omega
    have e2 : decide (1024 < s) = false := by simp; omega
    have e3 : decide (q < 1) = true := by simp; omega
    go_enter Try.func30, Try.ntmps30
    go_wp2
    exact fin _ rfl rfl
  · have e1 : decide (s < 1) = false := by simp; omega
    have e2 : decide (1024 < s) = false := by simp; omega
    have e3 : decide (q < 1) = false := by simp; omega
    have hq : wrap64 (16384 / s) = 16384 / s := by
      have d1 : 0 ≤ (16384 : Int) / s := Int.ediv_nonneg (by omega) (by omega)
      have d2 : (16384 : Int) / s ≤ 16384 := Int.ediv_le_self _ (by omega)
      unfold wrap64; omega
    go_enter Try.func30, Try.ntmps30
    go_wp2
    exact fin _ rfl rfl

theorem replicate_snoc (i : Nat) (x : UInt8) : List.replicate i x ++ [x] = List.replicate (i + 1) x := by
  rw [List.replicate_succ']

set_option maxRecDepth 100000 in
set_option maxHeartbeats 1000000 in
theorem rnew_ok (s q : Nat) (w : World) (h1 : 1 ≤ s) (h2 : s ≤ 1024) (h3 : 1 ≤ q) (h4 : (q : Int) ≤ 16384 / (s : Int)) (hm : s * q ≤ 16384) : Calls Try.prog 30 #[.int .i64 s, .int .i64 q] w (NRes w ⟨s, List.replicate (s * q) 255⟩ 0) := by
  have e1 : decide ((s : Int) < 1) = false := by simp; omega
  have e2 : decide ((1024 : Int) < (s : Int)) = false := by simp; omega
  have e3 : decide ((q : Int) < 1) = false := by simp; omega
  have hq : wrap64 (16384 / (s : Int)) = 16384 / (s : Int) := by
    have d1 : 0 ≤ (16384 : Int) / (s : Int) := Int.ediv_nonneg (by omega) (by omega)
    have d2 : (16384 : Int) / (s : Int) ≤ 16384 := Int.ediv_le_self _ (by omega)
    unfold wrap64; omega
  have hmul : IntKind.i64.wrap ((s : Int) * (q : Int)) = ((s * q : Nat) : Int) := by
    rw [← Int.natCast_mul]; exact IntWalk.i64_in _ (by omega)
  have hmul2 : wrap64 ((s : Int) * (q : Int)) = ((s * q : Nat) : Int) := by
    rw [← Int.natCast_mul]; unfold wrap64; omega
  generalize s * q = m at *
  go_enter Try.func30, Try.ntmps30
  go_wp2
  have hb0 : Below w.heap.size w ((w.alloc (.cells #[.int .i64 0, .slice none 0 0] 24)).alloc (.cells #[.int .i64 s, .slice none 0 0] 24)) :=
    ((Below.refl _ w).alloc (Nat.le_refl _) _).alloc (by simp) _
  have q0 : ((w.alloc (.cells #[.int .i64 0, .slice none 0 0] 24)).alloc (.cells #[.int .i64 s, .slice none 0 0] 24)).heap[w.heap.size]? = some (.cells #[.int .i64 0, .slice none 0 0] 24 (0, 0)) := by
    rw [Below.heap_alloc _ _ _ (by simp)]; exact World.alloc_heap_new w _
  have q1 : ((w.alloc (.cells #[.int .i64 0, .slice none 0 0] 24)).alloc (.cells #[.int .i64 s, .slice none 0 0] 24)).heap[w.heap.size + 1]? = some (.cells #[.int .i64 s, .slice none 0 0] 24 (0, 0)) := by
    have := World.alloc_heap_new (w.alloc (.cells #[.int .i64 0, .slice none 0 0] 24)) (.cells #[.int .i64 s, .slice none 0 0] 24)
    rwa [World.size_alloc] at this
  generalize ((w.alloc (.cells #[.int .i64 0, .slice none 0 0] 24)).alloc (.cells #[.int .i64 s, .slice none 0 0] 24)) = W0 at *
  go_loopw [7] (fun iv wr => ∃ (i : Nat) (A : Option Addr) (c : Nat), i ≤ m ∧ iv = .int .i64 i ∧ wr.heap[w.heap.size + 1]? = some (.cells #[.int .i64 s, .slice A i c] 24 (0, 0)) ∧ wr.heap[w.heap.size]? = some (.cells #[.int .i64 0, .slice none 0 0] 24 (0, 0)) ∧ isOwn kU8 5 (fun _ => False) (w.heap.size + 2) wr (.slice A i c) (List.replicate i 255) ∧ Below w.heap.size w wr) (fun iv _ => m - (intOf iv).toNat)
  case atStart => exact ⟨0, none, 0, Nat.zero_le _, rfl, q1, q0, isOwn.nil _ _ _ _ _, hb0⟩
  case round =>
    obtain ⟨i, A, c, hi, rfl, x1, x0, ho, hb⟩ := hrel
    clear q0 q1 hb0
    have hl1 : w.heap.size + 1 < wr.heap.size := (Array.getElem?_eq_some_iff.1 x1).1
    have y1 : wr.cell? ⟨w.heap.size + 1, 0, none⟩ = some (.int .i64 s) := by simp [World.cell?, x1]
    have y2 : wr.cell? ⟨w.heap.size + 1, 1, none⟩ = some (.slice A i c) := by simp [World.cell?, x1]
    by_cases hlt : i < m
    · have hown : isOwn kU8 5 (fun k => k = wr.heap.size) (w.heap.size + 2) (wr.alloc (.cells #[.int .u8 255] 5)) (.slice A i c) (List.replicate i 255) :=
        (ho.agree (Agree.alloc _ _ _) (fun k hk => Below.heap_alloc _ _ _ (ho.lt k hk).2)).flat flat_u8 _
      have hsrc : isSlice kU8 (fun k => k = wr.heap.size) (wr.alloc (.cells #[.int .u8 255] 5)) (.slice (some ⟨wr.heap.size, 0, none⟩) 1 1) [255] :=
        isSlice.of_cells (xs := [255]) rfl (Nat.le_refl _) (reads_bytes _ _ [255]) (fun j u hu => by
          rw [flatten_bytes] at hu
          have hcb := World.alloc_heap_new wr (.cells #[.int .u8 255] 5)
          rw [cell_of_row _ _ _ _ _ _ hcb, ← hu]
          simp [encB])
      have d1 : ∀ k, (Value.slice A i c).ownBlock = some k → ¬ k = wr.heap.size := fun k hk => by have := (ho.lt k hk).2; omega
      have d2 : (List.replicate i (255 : UInt8)).length + [(255 : UInt8)].length ≤ maxLen := by simp; unfold maxLen; omega
      have d3 : ((List.replicate i (255 : UInt8)).length + [(255 : UInt8)].length) * 1 ≤ 140737488355328 := by simp; omega
      have d4 : w.heap.size + 2 ≤ (wr.alloc (.cells #[.int .u8 255] 5)).heap.size := by simp; omega
      have d5 : ∀ k, (Value.slice A i c).ownBlock = some k → w.heap.size + 2 ≤ k := fun k hk => (ho.lt k hk).1
      go_wp2_with (at_builtin; refine wpList_append_K rfl _ _ rfl elem22 _ (w.heap.size + 2) (.slice A i c) (.slice (some ⟨wr.heap.size, 0, none⟩) 1 1) (List.replicate i 255) [255] rfl rfl hown hsrc d1 d2 d3 d4 ?_; intro A' c' w' ho' hg hob; have e0 : w'.heap[w.heap.size + 1]? = some (.cells #[.int .i64 s, .slice A i c] 24 (0, 0)) := (hg.block _ (by simp; omega) (fun e => by have := d5 _ e.symm; omega)).trans ((Below.heap_alloc _ _ _ hl1).trans x1); have e1 : w'.cell? ⟨w.heap.size + 1, 1, none⟩ = some (.slice A i c) := (by simp [World.cell?, e0]); have e2 : w'.frozen? ⟨w.heap.size + 1, 1, none⟩ = false := (by simp [World.frozen?, e0]))
      go_roundw
      case rel =>
        rw [replicate_snoc] at ho' hob
        simp only [List.length_replicate] at ho' hob
        refine ⟨i + 1, A', c', by omega, by go_num, ?_, ?_, ?_, ?_⟩
        · exact heap_setCell_same _ _ 1 _ _ _ e0
        · rw [Below.heap_setCell _ _ _ _ (by dsimp only; omega)]
          exact (hg.block _ (by simp; omega) (fun e => by have := d5 _ e.symm; omega)).trans ((Below.heap_alloc _ _ _ (by omega)).trans x0)
        · refine (ho'.flat flat_u8 (fun _ => False)).agree (Agree.setCell _ _ (fun h => h)) (fun k hk => Below.heap_setCell _ _ _ _ ?_)
          have := (ho'.lt k hk).1
          dsimp only
          omega
        · exact ((hb.alloc hb.size _).grown hg (by simp; have := hb.size; omega) (fun k hk => by have := d5 _ hk; omega)).setCell (by dsimp only; omega) _
      case measure => simp [intOf]; omega
    · have hie : i = m := by omega
      subst hie
      have y3 : wr.cell? ⟨w.heap.size, 0, none⟩ = some (.int .i64 0) := by simp [World.cell?, x0]
      have y4 : wr.cell? ⟨w.heap.size, 1, none⟩ = some (.slice none 0 0) := by simp [World.cell?, x0]
      have y5 : wr.frozen? ⟨w.heap.size, 0, none⟩ = false := by simp [World.frozen?, x0]
      have y6 : wr.frozen? ⟨w.heap.size, 1, none⟩ = false := by simp [World.frozen?, x0]
      go_wp2
      refine bodyPost_ret_by (results_flash rfl _ _ w.heap.size (.int .i64 s) (.slice A i c) (0, 0) rfl ?_) rfl ?_
      · exact heap_setCell_same _ _ 1 _ _ _ (heap_setCell_same _ _ 0 _ _ _ x0)
      · refine ⟨A, c, by simp, ?_, (hb.setCell (by dsimp only; omega) _).setCell (by dsimp only; omega) _⟩
        have hs : isSlice kU8 (fun k => w.heap.size + 2 ≤ k) wr (.slice A i c) (List.replicate i 255) := ho.slice_flat flat_u8 (fun k hk => (ho.lt k hk).1)
        have hs2 := ((hs.agree (Agree.setCell (p := ⟨w.heap.size, 0, none⟩) _ (.int .i64 s) (by dsimp only; omega))).agree (Agree.setCell (p := ⟨w.heap.size, 1, none⟩) _ (.slice A i c) (by dsimp only; omega))).mono (ok' := fun k => w.heap.size ≤ k) (fun k hk => by omega)
        simpa using hs2

/-- New of the reference. -/
theorem rnew_any (s q : Int) (w : World) : Calls Try.prog 30 #[.int .i64 s, .int .i64 q] w (NRes w (new s q).1 (new s q).2) := by
  unfold new
  by_cases h : s < 1 ∨ 1024 < s ∨ q < 1 ∨ 16384 / s < q
  · rw [if_pos h]
    exact rnew_bad s q w (by omega)
  · rw [if_neg h]
    obtain ⟨a, rfl⟩ := Int.eq_ofNat_of_zero_le (a := s) (by omega)
    obtain ⟨b, rfl⟩ := Int.eq_ofNat_of_zero_le (a := q) (by omega)
    have hm : a * b ≤ 16384 := by
      have h4 : (b : Int) ≤ 16384 / (a : Int) := by omega
      have := (Int.le_ediv_iff_mul_le (by omega)).1 h4
      rw [← Int.natCast_mul, Nat.mul_comm] at this
      omega
    have e : ((a : Int) * (b : Int)).toNat = a * b := by rw [← Int.natCast_mul]; rfl
    rw [e]
    exact rnew_ok a b w (by omega) (by omega) (by omega) (by omega) hm
end Go.Proofs.Ytdoehnnhbfmleaa
