/- The laws of package flash: last, and the head of all of them. -/
import Derived.Test.YtdoehnnhbfmleaaF6
import Derived.Test.YtdoehnnhbfmleaaR5
namespace Go.Proofs.Ytdoehnnhbfmleaa
open Go Go.RowKit Go.Shelf

set_option maxRecDepth 100000 in
set_option maxHeartbeats 1000000 in
theorem last_ok (ok : Ok) (l : List Fl) (A : Option Addr) (c many : Nat) (x : Fl) (w : World) (hl : isSlice kFlash ok w (.slice A l.length c) l) (hm : l.length = many + 1) (hx : l[many]? = some x) (hle : many ≤ 1000000) :
    Calls Try.prog 41 #[.slice A l.length c, .int .i64 0, .int .i64 ((many : Int) + 1)] w fun e w' => ∃ A' c', e = .returned (.tuple #[.agg #[.int .i64 x.sector, .slice A' x.bytes.length c'], .bool true]) ∧ isSlice kU8 ok w' (.slice A' x.bytes.length c') x.bytes ∧ Below w.heap.size w w' := by
  obtain ⟨hlt, hx'⟩ := List.getElem?_eq_some_iff.1 hx
  have hb0 : Below w.heap.size w (w.alloc (.cells #[.int .i64 0, .slice none 0 0] 24)) := (Below.refl _ w).alloc (Nat.le_refl _) _
  have x0 := World.alloc_heap_new w (.cells #[.int .i64 0, .slice none 0 0] 24)
  obtain ⟨g, o, A2, c2, rfl, hg, p1, p2, p3⟩ := slice_get (hl.bound.agree (Agree.below hb0)) many hlt
  rw [hx'] at p1 p2 p3
  rw [hm] at *
  generalize hW : (w.alloc (.cells #[.int .i64 0, .slice none 0 0] 24)) = W at *
  have y3 : W.cell? ⟨w.heap.size, 0, none⟩ = some (.int .i64 0) := by simp [World.cell?, x0]
  have y4 : W.cell? ⟨w.heap.size, 1, none⟩ = some (.slice none 0 0) := by simp [World.cell?, x0]
  have y5 : W.frozen? ⟨w.heap.size, 0, none⟩ = false := by simp [World.frozen?, x0]
  have y6 : W.frozen? ⟨w.heap.size, 1, none⟩ = false := by simp [World.frozen?, x0]
  have l1 : IntKind.i64.wrap ((many : Int) + 1 - 1) = (many : Int) := by rw [show (many : Int) + 1 - 1 = many from by omega]; exact IntWalk.i64_in _ (by omega)
  have l2 : (many : Int) + 1 - 1 = many := by omega
  clear hx hx' hl
  go_enter Try.func41, Try.ntmps41
  go_wp2
  refine bodyPost_ret_by (results_flash rfl _ _ w.heap.size (.int .i64 x.sector) (.slice A2 x.bytes.length c2) (0, 0) rfl ?_) rfl ?_
  · exact heap_setCell_same _ _ 1 _ _ _ (heap_setCell_same _ _ 0 _ _ _ x0)
  · refine ⟨A2, c2, rfl, ?_, (hb0.setCell (by dsimp only; omega) _).setCell (by dsimp only; omega) _⟩
    exact ((p3.agree (Agree.setCell (p := ⟨w.heap.size, 0, none⟩) _ (.int .i64 x.sector) (by dsimp only; omega))).agree (Agree.setCell (p := ⟨w.heap.size, 1, none⟩) _ (.slice A2 x.bytes.length c2) (by dsimp only; omega))).mono (fun k hk => hk.1)

/-- A row of bytes, known whole. -/
theorem row_slice {W : World} {g : Nat} (xs : List UInt8) (hg : W.heap[g]? = some (.cells (xs.map encB).toArray 5 (0, 0))) : isSlice kU8 (fun k => k = g) W (.slice (some ⟨g, 0, none⟩) xs.length xs.length) xs :=
  isSlice.of_cells rfl (Nat.le_refl _) (reads_bytes _ _ xs) (fun j u hu => by
    rw [flatten_bytes] at hu
    rw [cell_of_row _ _ _ _ _ _ hg, ← hu]
    simp)

/-- A memory in a block of its own. -/
structure BoxAt (W : World) (p : Nat) (s : Int) (v : Value) : Prop where
  at0 : W.cell? ⟨p, 0, none⟩ = some (.int .i64 s)
  at1 : W.cell? ⟨p, 1, none⟩ = some v
  lt : p < W.heap.size
theorem BoxAt.new (w : World) (s : Int) (v : Value) : BoxAt (w.alloc (.cells #[.int .i64 s, v] 24)) w.heap.size s v := by
  have := World.alloc_heap_new w (.cells #[.int .i64 s, v] 24)
  exact ⟨cell_of_row _ _ _ _ _ _ this, cell_of_row _ _ _ _ _ _ this, by simp⟩
theorem BoxAt.below {W W' : World} {p : Nat} {s : Int} {v : Value} (h : BoxAt W p s v) (hb : Below W.heap.size W W') : BoxAt W' p s v :=
  ⟨(hb.cell (p := ⟨p, 0, none⟩) h.lt).trans h.at0, (hb.cell (p := ⟨p, 1, none⟩) h.lt).trans h.at1, Nat.lt_of_lt_of_le h.lt hb.size⟩

set_option maxRecDepth 100000 in
set_option maxHeartbeats 1000000 in
/-- 'want' -/
theorem want_any (ok : Ok) (bs xs : List UInt8) (A A2 : Option Addr) (c c2 : Nat) (w : World) (hf : isSlice kU8 ok w (.slice A bs.length c) bs) (hg : isSlice kU8 ok w (.slice A2 xs.length c2) xs) (hl : bs.length ≤ 1000000) :
    Calls Try.prog 85 #[.agg #[.int .i64 2, .slice A bs.length c], .slice A2 xs.length c2] w fun e w' => e = .returned (.bool (decide (bs = xs))) ∧ Below w.heap.size w w' := by
  have hb0 : Below w.heap.size w (w.alloc (.cells #[.int .i64 2, .slice A bs.length c] 24)) := (Below.refl _ w).alloc (Nat.le_refl _) _
  have HS := same_any ok ⟨2, bs⟩ ⟨2, xs⟩ A A2 c c2 _ (hf.agree (Agree.below hb0)) (hg.agree (Agree.below hb0)) hl
  have he : decide ((⟨2, bs⟩ : Fl) = ⟨2, xs⟩) = decide (bs = xs) := by simp
  rw [he] at HS
  generalize decide (bs = xs) = bb at *
  go_enter Try.func85, Try.ntmps85
  go_wp2_with (go_at_call 31; refine HS.mono ?_; rintro e w' ⟨rfl, hb⟩)
  go_ret
  exact ⟨rfl, hb0.trans (hb.mono hb0.size)⟩
end Go.Proofs.Ytdoehnnhbfmleaa
