/- The laws of package flash: last where there is an error, done. -/
import Derived.Test.YtdoehnnhbfmleaaL1
import Derived.Test.YtdoehnnhbfmleaaU
namespace Go.Proofs.Ytdoehnnhbfmleaa
open Go Go.RowKit Go.Shelf

set_option maxRecDepth 100000 in
set_option maxHeartbeats 1000000 in
theorem last_bad (A : Option Addr) (n c : Nat) (e many : Int) (w : World) (he : e ≠ 0) :
    Calls Try.prog 41 #[.slice A n c, .int .i64 e, .int .i64 many] w fun r w' => r = .returned (.tuple #[.agg #[.int .i64 0, .slice none 0 0], .bool false]) ∧ Below w.heap.size w w' := by
  have hb0 : Below w.heap.size w (w.alloc (.cells #[.int .i64 0, .slice none 0 0] 24)) := (Below.refl _ w).alloc (Nat.le_refl _) _
  have x0 := World.alloc_heap_new w (.cells #[.int .i64 0, .slice none 0 0] 24)
  generalize hW : (w.alloc (.cells #[.int .i64 0, .slice none 0 0] 24)) = W at *
  have y3 : W.cell? ⟨w.heap.size, 0, none⟩ = some (.int .i64 0) := by simp [World.cell?, x0]
  have y4 : W.cell? ⟨w.heap.size, 1, none⟩ = some (.slice none 0 0) := by simp [World.cell?, x0]
  have y5 : W.frozen? ⟨w.heap.size, 0, none⟩ = false := by simp [World.frozen?, x0]
  have y6 : W.frozen? ⟨w.heap.size, 1, none⟩ = false := by simp [World.frozen?, x0]
  go_enter Try.func41, Try.ntmps41
  go_wp2
  refine bodyPost_ret_by (results_flash rfl _ _ w.heap.size (.int .i64 0) (.slice none 0 0) (0, 0) rfl ?_) rfl ?_
  · exact heap_setCell_same _ _ 1 _ _ _ (heap_setCell_same _ _ 0 _ _ _ x0)
  · exact ⟨rfl, (hb0.setCell (by dsimp only; omega) _).setCell (by dsimp only; omega) _⟩

set_option maxRecDepth 100000 in
set_option maxHeartbeats 1000000 in
theorem done_any (ok : Ok) (f : Fl) (A : Option Addr) (c : Nat) (s : Int) (data : List UInt8) (A2 : Option Addr) (c2 : Nat) (w : World) (hf : isSlice kU8 ok w (.slice A f.bytes.length c) f.bytes) (hd : isSlice kU8 ok w (.slice A2 data.length c2) data) (hl : data.length ≤ 1000000) :
    Calls Try.prog 40 #[.agg #[.int .i64 f.sector, .slice A f.bytes.length c], .int .i64 s, .slice A2 data.length c2] w fun e w' => ∃ A' c', e = .returned (.tuple #[.agg #[.int .i64 (doneF f s data).1.sector, .slice A' (doneF f s data).1.bytes.length c'], .bool (doneF f s data).2]) ∧ isSlice kU8 (fun _ => True) w' (.slice A' (doneF f s data).1.bytes.length c') (doneF f s data).1.bytes ∧ Below w.heap.size w w' := by
  have X0 := BoxAt.new w f.sector (.slice A f.bytes.length c)
  have hb : Below w.heap.size w (w.alloc (.cells #[.int .i64 f.sector, .slice A f.bytes.length c] 24)) := (Below.refl _ w).alloc (Nat.le_refl _) _
  replace hf := hf.agree (Agree.below hb)
  replace hd := hd.agree (Agree.below hb)
  generalize hW : (w.alloc (.cells #[.int .i64 f.sector, .slice A f.bytes.length c] 24)) = W1 at *
  have X1 := World.alloc_heap_new W1 (.cells #[.int .i64 0, .slice none 0 0] 24)
  have hn : Below W1.heap.size W1 (W1.alloc (.cells #[.int .i64 0, .slice none 0 0] 24)) := (Below.refl _ W1).alloc (Nat.le_refl _) _
  replace X0 := X0.below hn
  replace hf := hf.agree (Agree.below hn)
  replace hd := hd.agree (Agree.below hn)
  have hs1 : w.heap.size ≤ W1.heap.size := hb.size
  have hlt : W1.heap.size < (W1.alloc (.cells #[.int .i64 0, .slice none 0 0] 24)).heap.size := by simp
  replace hb := hb.trans (hn.mono hb.size)
  clear hn
  have X0a := X0.at0
  have X0b := X0.at1
  have X0c := X0.lt
  generalize hW2 : (W1.alloc (.cells #[.int .i64 0, .slice none 0 0] 24)) = W2 at *
  have H3 := program_any ok f A c s data A2 c2 W2 hf hd
  have hme : IntKind.i64.wrap ((data.length : Int) + 1) = (data.length : Int) + 1 := IntWalk.i64_in _ (by omega)
  rcases program_cases f s data with ⟨e, he, hp⟩ | ⟨hv, h0, h1, hp⟩
  · have he' : e ≠ 0 := by omega
    have hdn : doneF f s data = (⟨0, []⟩, false) := by
      unfold doneF
      rw [hp, if_neg he']
    rw [hp] at H3
    rw [hdn]
    clear hdn hp hf hd X0
    go_enter Try.func40, Try.ntmps40
    go_wp2_with fail
    refine H3.mono ?_
    rintro e' W3 ⟨A5, c5, rfl, hs5, hn⟩
    clear X0a X0b X0c H3 hs5
    replace X1 := (hn.block _ hlt).trans X1
    have hl3 := Nat.lt_of_lt_of_le hlt hn.size
    replace hb := hb.trans (hn.mono hb.size)
    clear hn
    go_wp2_with fail
    refine (last_bad A5 0 c5 e _ W3 he').mono ?_
    rintro e' W4 ⟨rfl, hn⟩
    replace X1 := (hn.block _ hl3).trans X1
    replace hb := hb.trans (hn.mono hb.size)
    clear hn hl3
    have y3 : W4.cell? ⟨W1.heap.size, 0, none⟩ = some (.int .i64 0) := by simp [World.cell?, X1]
    have y4 : W4.cell? ⟨W1.heap.size, 1, none⟩ = some (.slice none 0 0) := by simp [World.cell?, X1]
    have y5 : W4.frozen? ⟨W1.heap.size, 0, none⟩ = false := by simp [World.frozen?, X1]
    have y6 : W4.frozen? ⟨W1.heap.size, 1, none⟩ = false := by simp [World.frozen?, X1]
    go_wp2
    refine bodyPost_ret_by (results_flash rfl _ _ W1.heap.size (.int .i64 0) (.slice none 0 0) (0, 0) rfl ?_) rfl ?_
    · exact heap_setCell_same _ _ 1 _ _ _ (heap_setCell_same _ _ 0 _ _ _ X1)
    · exact ⟨none, 0, rfl, isSlice.nil _ _ _ _ _, (hb.setCell (by dsimp only; omega) _).setCell (by dsimp only; omega) _⟩
  · have hdn : doneF f s data = (⟨f.sector, upd f.bytes s.toNat data.length (andWith data)⟩, true) := done_fits hv h0 h1
    rw [hp] at H3
    rw [hdn]
    have hpk : (steps f s.toNat data.length (andWith data)).length = data.length + 1 ∧ (steps f s.toNat data.length (andWith data))[data.length]? = some ⟨f.sector, upd f.bytes s.toNat data.length (andWith data)⟩ := ⟨steps_length .., steps_last ..⟩
    generalize steps f s.toNat data.length (andWith data) = l at *
    generalize (⟨f.sector, upd f.bytes s.toNat data.length (andWith data)⟩ : Fl) = x at *
    clear hdn hp hf hd X0
    simp only at H3 ⊢
    go_enter Try.func40, Try.ntmps40
    go_wp2_with fail
    refine H3.mono ?_
    rintro e' W3 ⟨A5, c5, rfl, hs5, hn⟩
    have HL := last_ok _ l A5 c5 data.length x W3 hs5 hpk.1 hpk.2 hl
    rw [hpk.1] at HL
    clear X0a X0b X0c H3
    replace X1 := (hn.block _ hlt).trans X1
    have hl3 := Nat.lt_of_lt_of_le hlt hn.size
    replace hb := hb.trans (hn.mono hb.size)
    clear hn
    go_wp2_with fail
    refine HL.mono ?_
    rintro e' W4 ⟨A6, c6, rfl, hs6, hn⟩
    clear HL hs5
    replace X1 := (hn.block _ hl3).trans X1
    replace hb := hb.trans (hn.mono hb.size)
    replace hs6 := hs6.mono (ok' := fun k => k ≠ W1.heap.size) (fun k hk => by omega)
    clear hn
    have y3 : W4.cell? ⟨W1.heap.size, 0, none⟩ = some (.int .i64 0) := by simp [World.cell?, X1]
    have y4 : W4.cell? ⟨W1.heap.size, 1, none⟩ = some (.slice none 0 0) := by simp [World.cell?, X1]
    have y5 : W4.frozen? ⟨W1.heap.size, 0, none⟩ = false := by simp [World.frozen?, X1]
    have y6 : W4.frozen? ⟨W1.heap.size, 1, none⟩ = false := by simp [World.frozen?, X1]
    go_wp2
    refine bodyPost_ret_by (results_flash rfl _ _ W1.heap.size (.int .i64 x.sector) (.slice A6 x.bytes.length c6) (0, 0) rfl ?_) rfl ?_
    · exact heap_setCell_same _ _ 1 _ _ _ (heap_setCell_same _ _ 0 _ _ _ X1)
    · refine ⟨A6, c6, rfl, ?_, (hb.setCell (by dsimp only; omega) _).setCell (by dsimp only; omega) _⟩
      exact ((hs6.agree (Agree.setCell (p := ⟨W1.heap.size, 0, none⟩) _ (.int .i64 x.sector) (by dsimp only; omega))).agree (Agree.setCell (p := ⟨W1.heap.size, 1, none⟩) _ (.slice A6 x.bytes.length c6) (by dsimp only; omega))).mono (fun _ _ => trivial)
end Go.Proofs.Ytdoehnnhbfmleaa
