/- The laws of package flash: their head. -/
import Derived.Test.YtdoehnnhbfmleaaL1
namespace Go.Proofs.Ytdoehnnhbfmleaa
open Go Go.RowKit Go.Shelf

set_option maxRecDepth 100000 in
set_option maxHeartbeats 4000000 in
theorem head_any (w : World) : Calls Try.prog 28 #[] w fun e w' => e = .returned (.bool true) ∧ Below w.heap.size w w' := by
  go_enter Try.func28, Try.ntmps28
  go_wp2_with fail
  refine (new_any 2 2 w).mono ?_
  rintro e w1 ⟨A1, c1, rfl, hs1, hb⟩
  simp only [show new 2 2 = (⟨2, [255, 255, 255, 255]⟩, 0) from by decide] at hs1 ⊢
  replace hs1 : isSlice kU8 (fun _ => True) w1 (.slice A1 4 c1) [255, 255, 255, 255] := hs1.mono (fun _ _ => trivial)
  go_wp2_with fail
  have hn : Below w1.heap.size w1 ((w1.alloc (.cells #[.int .i64 2, .slice A1 4 c1] 24)).alloc (.cells #[.int .u8 240, .int .u8 15] 5)) := ((Below.refl _ w1).alloc (Nat.le_refl _) _).alloc (by simp) _
  have X1 : BoxAt ((w1.alloc (.cells #[.int .i64 2, .slice A1 4 c1] 24)).alloc (.cells #[.int .u8 240, .int .u8 15] 5)) w1.heap.size 2 (.slice A1 4 c1) := (BoxAt.new w1 _ _).below ((Below.refl _ _).alloc (Nat.le_refl _) _)
  have D1 : isSlice kU8 (fun _ => True) ((w1.alloc (.cells #[.int .i64 2, .slice A1 4 c1] 24)).alloc (.cells #[.int .u8 240, .int .u8 15] 5)) (.slice (some ⟨w1.heap.size + 1, 0, none⟩) 2 2) [240, 15] := by
    have h := (row_slice [240, 15] (World.alloc_heap_new (w1.alloc (.cells #[.int .i64 2, .slice A1 4 c1] 24)) (.cells #[.int .u8 240, .int .u8 15] 5))).mono (ok' := fun _ => True) (fun _ _ => trivial)
    rw [World.size_alloc] at h
    exact h
  generalize hW : ((w1.alloc (.cells #[.int .i64 2, .slice A1 4 c1] 24)).alloc (.cells #[.int .u8 240, .int .u8 15] 5)) = w2 at *
  clear hW
  replace hs1 := hs1.agree (Agree.below hn)
  replace hb := hb.trans (hn.mono hb.size)
  clear hn
  have CC : Calls Try.prog 32 #[.agg #[.int .i64 2, .slice A1 4 c1], .int .i64 1, .slice (some ⟨w1.heap.size + 1, 0, none⟩) 2 2] w2 (LRes w2 [⟨2, [255, 255, 255, 255]⟩, ⟨2, [255, 240, 255, 255]⟩, ⟨2, [255, 240, 15, 255]⟩] 0) := by
    have h := program_any (fun _ => True) ⟨2, [255, 255, 255, 255]⟩ A1 c1 1 [240, 15] _ _ w2 hs1 D1
    rw [show program ⟨2, [255, 255, 255, 255]⟩ 1 [240, 15] = ([⟨2, [255, 255, 255, 255]⟩, ⟨2, [255, 240, 255, 255]⟩, ⟨2, [255, 240, 15, 255]⟩], 0) from by decide] at h
    exact h
  refine CC.mono ?_
  clear CC
  rintro e w3 ⟨A3, c3, rfl, hl3, hn⟩
  replace hl3 : isSlice kFlash (fun _ => True) w3 (.slice A3 3 c3) [⟨2, [255, 255, 255, 255]⟩, ⟨2, [255, 240, 255, 255]⟩, ⟨2, [255, 240, 15, 255]⟩] := hl3.mono (fun _ _ => trivial)
  replace hs1 := hs1.agree (Agree.below hn)
  replace X1 := X1.below hn
  replace hb := hb.trans (hn.mono hb.size)
  clear hn
  have X1a := X1.at0
  have X1b := X1.at1
  have X1c := X1.lt
  go_wp2_with fail
  clear X1a X1b X1c
  clear D1
  have CC : Calls Try.prog 41 #[.slice A3 3 c3, .int .i64 0, .int .i64 3] w3 (fun e w' => ∃ A' c', e = .returned (.tuple #[.agg #[.int .i64 2, .slice A' 4 c'], .bool true]) ∧ isSlice kU8 (fun _ => True) w' (.slice A' 4 c') [255, 240, 15, 255] ∧ Below w3.heap.size w3 w') :=
    last_ok (fun _ => True) [⟨2, [255, 255, 255, 255]⟩, ⟨2, [255, 240, 255, 255]⟩, ⟨2, [255, 240, 15, 255]⟩] A3 c3 2 ⟨2, [255, 240, 15, 255]⟩ w3 hl3 rfl rfl (by omega)
  refine CC.mono ?_
  clear CC
  rintro e w4 ⟨A4, c4, rfl, hs4, hn⟩
  replace hs1 := hs1.agree (Agree.below hn)
  replace X1 := X1.below hn
  replace hb := hb.trans (hn.mono hb.size)
  clear hn
  have X1a := X1.at0
  have X1b := X1.at1
  have X1c := X1.lt
  go_wp2_with fail
  clear X1a X1b X1c
  clear hl3
  have hn : Below w4.heap.size w4 ((w4.alloc (.cells #[.int .i64 2, .slice A4 4 c4] 24)).alloc (.cells #[.int .u8 51] 5)) := ((Below.refl _ w4).alloc (Nat.le_refl _) _).alloc (by simp) _
  have X5 : BoxAt ((w4.alloc (.cells #[.int .i64 2, .slice A4 4 c4] 24)).alloc (.cells #[.int .u8 51] 5)) w4.heap.size 2 (.slice A4 4 c4) := (BoxAt.new w4 _ _).below ((Below.refl _ _).alloc (Nat.le_refl _) _)
  have D2 : isSlice kU8 (fun _ => True) ((w4.alloc (.cells #[.int .i64 2, .slice A4 4 c4] 24)).alloc (.cells #[.int .u8 51] 5)) (.slice (some ⟨w4.heap.size + 1, 0, none⟩) 1 1) [51] := by
    have h := (row_slice [51] (World.alloc_heap_new (w4.alloc (.cells #[.int .i64 2, .slice A4 4 c4] 24)) (.cells #[.int .u8 51] 5))).mono (ok' := fun _ => True) (fun _ _ => trivial)
    rw [World.size_alloc] at h
    exact h
  generalize hW : ((w4.alloc (.cells #[.int .i64 2, .slice A4 4 c4] 24)).alloc (.cells #[.int .u8 51] 5)) = w5 at *
  clear hW
  replace hs1 := hs1.agree (Agree.below hn)
  replace hs4 := hs4.agree (Agree.below hn)
  replace X1 := X1.below hn
  replace hb := hb.trans (hn.mono hb.size)
  clear hn
  have CC : Calls Try.prog 32 #[.agg #[.int .i64 2, .slice A4 4 c4], .int .i64 1, .slice (some ⟨w4.heap.size + 1, 0, none⟩) 1 1] w5 (LRes w5 [⟨2, [255, 240, 15, 255]⟩, ⟨2, [255, 48, 15, 255]⟩] 0) := by
    have h := program_any (fun _ => True) ⟨2, [255, 240, 15, 255]⟩ A4 c4 1 [51] _ _ w5 hs4 D2
    rw [show program ⟨2, [255, 240, 15, 255]⟩ 1 [51] = ([⟨2, [255, 240, 15, 255]⟩, ⟨2, [255, 48, 15, 255]⟩], 0) from by decide] at h
    exact h
  refine CC.mono ?_
  clear CC
  rintro e w6 ⟨A5, c5, rfl, hl5, hn⟩
  replace hl5 : isSlice kFlash (fun _ => True) w6 (.slice A5 2 c5) [⟨2, [255, 240, 15, 255]⟩, ⟨2, [255, 48, 15, 255]⟩] := hl5.mono (fun _ _ => trivial)
  replace hs1 := hs1.agree (Agree.below hn)
  replace hs4 := hs4.agree (Agree.below hn)
  replace X1 := X1.below hn
  replace X5 := X5.below hn
  replace hb := hb.trans (hn.mono hb.size)
  clear hn
  have X1a := X1.at0
  have X1b := X1.at1
  have X1c := X1.lt
  have X5a := X5.at0
  have X5b := X5.at1
  have X5c := X5.lt
  go_wp2_with fail
  clear X1a X1b X1c
  clear X5a X5b X5c
  clear D2
  have CC : Calls Try.prog 41 #[.slice A5 2 c5, .int .i64 0, .int .i64 2] w6 (fun e w' => ∃ A' c', e = .returned (.tuple #[.agg #[.int .i64 2, .slice A' 4 c'], .bool true]) ∧ isSlice kU8 (fun _ => True) w' (.slice A' 4 c') [255, 48, 15, 255] ∧ Below w6.heap.size w6 w') :=
    last_ok (fun _ => True) [⟨2, [255, 240, 15, 255]⟩, ⟨2, [255, 48, 15, 255]⟩] A5 c5 1 ⟨2, [255, 48, 15, 255]⟩ w6 hl5 rfl rfl (by omega)
  refine CC.mono ?_
  clear CC
  rintro e w7 ⟨A6, c6, rfl, hs6, hn⟩
  replace hs1 := hs1.agree (Agree.below hn)
  replace hs4 := hs4.agree (Agree.below hn)
  replace X1 := X1.below hn
  replace X5 := X5.below hn
  replace hb := hb.trans (hn.mono hb.size)
  clear hn
  have X1a := X1.at0
  have X1b := X1.at1
  have X1c := X1.lt
  have X5a := X5.at0
  have X5b := X5.at1
  have X5c := X5.lt
  go_wp2_with fail
  clear X1a X1b X1c
  clear X5a X5b X5c
  clear hl5
  have hn : Below w7.heap.size w7 (w7.alloc (.cells #[.int .i64 2, .slice A6 4 c6] 24)) := (Below.refl _ w7).alloc (Nat.le_refl _) _
  have X9 : BoxAt (w7.alloc (.cells #[.int .i64 2, .slice A6 4 c6] 24)) w7.heap.size 2 (.slice A6 4 c6) := BoxAt.new _ _ _
  generalize hW : (w7.alloc (.cells #[.int .i64 2, .slice A6 4 c6] 24)) = w8 at *
  clear hW
  replace hs1 := hs1.agree (Agree.below hn)
  replace hs4 := hs4.agree (Agree.below hn)
  replace hs6 := hs6.agree (Agree.below hn)
  replace X1 := X1.below hn
  replace X5 := X5.below hn
  replace hb := hb.trans (hn.mono hb.size)
  clear hn
  have CC : Calls Try.prog 34 #[.agg #[.int .i64 2, .slice A6 4 c6], .int .i64 0] w8 (LRes w8 [⟨2, [255, 48, 15, 255]⟩, ⟨2, [255, 48, 15, 255]⟩, ⟨2, [255, 255, 15, 255]⟩] 0) := by
    have h := erase_any (fun _ => True) ⟨2, [255, 48, 15, 255]⟩ A6 c6 0 w8 hs6
    rw [show erase ⟨2, [255, 48, 15, 255]⟩ 0 = ([⟨2, [255, 48, 15, 255]⟩, ⟨2, [255, 48, 15, 255]⟩, ⟨2, [255, 255, 15, 255]⟩], 0) from by decide] at h
    exact h
  refine CC.mono ?_
  clear CC
  rintro e w9 ⟨A7, c7, rfl, hl7, hn⟩
  replace hl7 : isSlice kFlash (fun _ => True) w9 (.slice A7 3 c7) [⟨2, [255, 48, 15, 255]⟩, ⟨2, [255, 48, 15, 255]⟩, ⟨2, [255, 255, 15, 255]⟩] := hl7.mono (fun _ _ => trivial)
  replace hs1 := hs1.agree (Agree.below hn)
  replace hs4 := hs4.agree (Agree.below hn)
  replace hs6 := hs6.agree (Agree.below hn)
  replace X1 := X1.below hn
  replace X5 := X5.below hn
  replace X9 := X9.below hn
  replace hb := hb.trans (hn.mono hb.size)
  clear hn
  have X1a := X1.at0
  have X1b := X1.at1
  have X1c := X1.lt
  have X5a := X5.at0
  have X5b := X5.at1
  have X5c := X5.lt
  have X9a := X9.at0
  have X9b := X9.at1
  have X9c := X9.lt
  go_wp2_with fail
  clear X1a X1b X1c
  clear X5a X5b X5c
  clear X9a X9b X9c
  have CC : Calls Try.prog 41 #[.slice A7 3 c7, .int .i64 0, .int .i64 3] w9 (fun e w' => ∃ A' c', e = .returned (.tuple #[.agg #[.int .i64 2, .slice A' 4 c'], .bool true]) ∧ isSlice kU8 (fun _ => True) w' (.slice A' 4 c') [255, 255, 15, 255] ∧ Below w9.heap.size w9 w') :=
    last_ok (fun _ => True) [⟨2, [255, 48, 15, 255]⟩, ⟨2, [255, 48, 15, 255]⟩, ⟨2, [255, 255, 15, 255]⟩] A7 c7 2 ⟨2, [255, 255, 15, 255]⟩ w9 hl7 rfl rfl (by omega)
  refine CC.mono ?_
  clear CC
  rintro e w10 ⟨A8, c8, rfl, hs8, hn⟩
  replace hs1 := hs1.agree (Agree.below hn)
  replace hs4 := hs4.agree (Agree.below hn)
  replace hs6 := hs6.agree (Agree.below hn)
  replace X1 := X1.below hn
  replace X5 := X5.below hn
  replace X9 := X9.below hn
  replace hb := hb.trans (hn.mono hb.size)
  clear hn
  have X1a := X1.at0
  have X1b := X1.at1
  have X1c := X1.lt
  have X5a := X5.at0
  have X5b := X5.at1
  have X5c := X5.lt
  have X9a := X9.at0
  have X9b := X9.at1
  have X9c := X9.lt
  go_wp2_with fail
  clear X1a X1b X1c
  clear X5a X5b X5c
  clear X9a X9b X9c
  clear hl7
  have hn : Below w10.heap.size w10 ((w10.alloc (.cells #[.int .i64 2, .slice A8 4 c8] 24)).alloc (.cells #[.int .u8 1, .int .u8 2] 5)) := ((Below.refl _ w10).alloc (Nat.le_refl _) _).alloc (by simp) _
  have X13 : BoxAt ((w10.alloc (.cells #[.int .i64 2, .slice A8 4 c8] 24)).alloc (.cells #[.int .u8 1, .int .u8 2] 5)) w10.heap.size 2 (.slice A8 4 c8) := (BoxAt.new w10 _ _).below ((Below.refl _ _).alloc (Nat.le_refl _) _)
  have D3 : isSlice kU8 (fun _ => True) ((w10.alloc (.cells #[.int .i64 2, .slice A8 4 c8] 24)).alloc (.cells #[.int .u8 1, .int .u8 2] 5)) (.slice (some ⟨w10.heap.size + 1, 0, none⟩) 2 2) [1, 2] := by
    have h := (row_slice [1, 2] (World.alloc_heap_new (w10.alloc (.cells #[.int .i64 2, .slice A8 4 c8] 24)) (.cells #[.int .u8 1, .int .u8 2] 5))).mono (ok' := fun _ => True) (fun _ _ => trivial)
    rw [World.size_alloc] at h
    exact h
  generalize hW : ((w10.alloc (.cells #[.int .i64 2, .slice A8 4 c8] 24)).alloc (.cells #[.int .u8 1, .int .u8 2] 5)) = w11 at *
  clear hW
  replace hs1 := hs1.agree (Agree.below hn)
  replace hs4 := hs4.agree (Agree.below hn)
  replace hs6 := hs6.agree (Agree.below hn)
  replace hs8 := hs8.agree (Agree.below hn)
  replace X1 := X1.below hn
  replace X5 := X5.below hn
  replace X9 := X9.below hn
  replace hb := hb.trans (hn.mono hb.size)
  clear hn
  have CC : Calls Try.prog 32 #[.agg #[.int .i64 2, .slice A1 4 c1], .int .i64 3, .slice (some ⟨w10.heap.size + 1, 0, none⟩) 2 2] w11 (LRes w11 [] 3) := by
    have h := program_any (fun _ => True) ⟨2, [255, 255, 255, 255]⟩ A1 c1 3 [1, 2] _ _ w11 hs1 D3
    rw [show program ⟨2, [255, 255, 255, 255]⟩ 3 [1, 2] = ([], 3) from by decide] at h
    exact h
  refine CC.mono ?_
  clear CC
  rintro e w12 ⟨A9, c9, rfl, hl9, hn⟩
  replace hl9 : isSlice kFlash (fun _ => True) w12 (.slice A9 0 c9) [] := hl9.mono (fun _ _ => trivial)
  replace hs1 := hs1.agree (Agree.below hn)
  replace hs4 := hs4.agree (Agree.below hn)
  replace hs6 := hs6.agree (Agree.below hn)
  replace hs8 := hs8.agree (Agree.below hn)
  replace X1 := X1.below hn
  replace X5 := X5.below hn
  replace X9 := X9.below hn
  replace X13 := X13.below hn
  replace hb := hb.trans (hn.mono hb.size)
  clear hn
  have X1a := X1.at0
  have X1b := X1.at1
  have X1c := X1.lt
  have X5a := X5.at0
  have X5b := X5.at1
  have X5c := X5.lt
  have X9a := X9.at0
  have X9b := X9.at1
  have X9c := X9.lt
  have X13a := X13.at0
  have X13b := X13.at1
  have X13c := X13.lt
  go_wp2_with fail
  clear X1a X1b X1c
  clear X5a X5b X5c
  clear X9a X9b X9c
  clear X13a X13b X13c
  clear D3
  have CC : Calls Try.prog 34 #[.agg #[.int .i64 2, .slice A1 4 c1], .int .i64 2] w12 (LRes w12 [] 1) := by
    have h := erase_any (fun _ => True) ⟨2, [255, 255, 255, 255]⟩ A1 c1 2 w12 hs1
    rw [show erase ⟨2, [255, 255, 255, 255]⟩ 2 = ([], 1) from by decide] at h
    exact h
  refine CC.mono ?_
  clear CC
  rintro e w13 ⟨A10, c10, rfl, hl10, hn⟩
  replace hl10 : isSlice kFlash (fun _ => True) w13 (.slice A10 0 c10) [] := hl10.mono (fun _ _ => trivial)
  replace hs1 := hs1.agree (Agree.below hn)
  replace hs4 := hs4.agree (Agree.below hn)
  replace hs6 := hs6.agree (Agree.below hn)
  replace hs8 := hs8.agree (Agree.below hn)
  replace X1 := X1.below hn
  replace X5 := X5.below hn
  replace X9 := X9.below hn
  replace X13 := X13.below hn
  replace hb := hb.trans (hn.mono hb.size)
  clear hn
  have X1a := X1.at0
  have X1b := X1.at1
  have X1c := X1.lt
  have X5a := X5.at0
  have X5b := X5.at1
  have X5c := X5.lt
  have X9a := X9.at0
  have X9b := X9.at1
  have X9c := X9.lt
  have X13a := X13.at0
  have X13b := X13.at1
  have X13c := X13.lt
  go_wp2_with fail
  clear X1a X1b X1c
  clear X5a X5b X5c
  clear X9a X9b X9c
  clear X13a X13b X13c
  have CC : Calls Try.prog 36 #[.agg #[.int .i64 2, .slice A1 4 c1]] w13 (fun e w' => e = .returned (.bool true) ∧ Below w13.heap.size w13 w') :=
    (valid_any ⟨2, [255, 255, 255, 255]⟩ A1 c1 w13).mono (fun e w' h => ⟨by rw [h.1, show valid ⟨2, [255, 255, 255, 255]⟩ = true from by decide], by rw [h.2]; exact (Below.refl _ _).alloc (Nat.le_refl _) _⟩)
  refine CC.mono ?_
  clear CC
  rintro e w14 ⟨rfl, hn⟩
  replace hs1 := hs1.agree (Agree.below hn)
  replace hs4 := hs4.agree (Agree.below hn)
  replace hs6 := hs6.agree (Agree.below hn)
  replace hs8 := hs8.agree (Agree.below hn)
  replace X1 := X1.below hn
  replace X5 := X5.below hn
  replace X9 := X9.below hn
  replace X13 := X13.below hn
  replace hb := hb.trans (hn.mono hb.size)
  clear hn
  have X1a := X1.at0
  have X1b := X1.at1
  have X1c := X1.lt
  have X5a := X5.at0
  have X5b := X5.at1
  have X5c := X5.lt
  have X9a := X9.at0
  have X9b := X9.at1
  have X9c := X9.lt
  have X13a := X13.at0
  have X13b := X13.at1
  have X13c := X13.lt
  go_wp2_with fail
  clear X1a X1b X1c
  clear X5a X5b X5c
  clear X9a X9b X9c
  clear X13a X13b X13c
  have CC : Calls Try.prog 36 #[.agg #[.int .i64 0, .slice none 0 0]] w14 (fun e w' => e = .returned (.bool false) ∧ Below w14.heap.size w14 w') :=
    (valid_any ⟨0, []⟩ none 0 w14).mono (fun e w' h => ⟨by rw [h.1, show valid ⟨0, []⟩ = false from by decide], by rw [h.2]; exact (Below.refl _ _).alloc (Nat.le_refl _) _⟩)
  refine CC.mono ?_
  clear CC
  rintro e w15 ⟨rfl, hn⟩
  replace hs1 := hs1.agree (Agree.below hn)
  replace hs4 := hs4.agree (Agree.below hn)
  replace hs6 := hs6.agree (Agree.below hn)
  replace hs8 := hs8.agree (Agree.below hn)
  replace X1 := X1.below hn
  replace X5 := X5.below hn
  replace X9 := X9.below hn
  replace X13 := X13.below hn
  replace hb := hb.trans (hn.mono hb.size)
  clear hn
  have X1a := X1.at0
  have X1b := X1.at1
  have X1c := X1.lt
  have X5a := X5.at0
  have X5b := X5.at1
  have X5c := X5.lt
  have X9a := X9.at0
  have X9b := X9.at1
  have X9c := X9.lt
  have X13a := X13.at0
  have X13b := X13.at1
  have X13c := X13.lt
  go_wp2_with fail
  clear X1a X1b X1c
  clear X5a X5b X5c
  clear X9a X9b X9c
  clear X13a X13b X13c
  have hn : Below w15.heap.size w15 (w15.alloc (.cells #[.int .u8 255, .int .u8 255, .int .u8 255, .int .u8 255] 5)) := (Below.refl _ w15).alloc (Nat.le_refl _) _
  have D4 : isSlice kU8 (fun _ => True) (w15.alloc (.cells #[.int .u8 255, .int .u8 255, .int .u8 255, .int .u8 255] 5)) (.slice (some ⟨w15.heap.size, 0, none⟩) 4 4) [255, 255, 255, 255] := (row_slice [255, 255, 255, 255] (World.alloc_heap_new w15 (.cells #[.int .u8 255, .int .u8 255, .int .u8 255, .int .u8 255] 5))).mono (fun _ _ => trivial)
  generalize hW : (w15.alloc (.cells #[.int .u8 255, .int .u8 255, .int .u8 255, .int .u8 255] 5)) = w16 at *
  clear hW
  replace hs1 := hs1.agree (Agree.below hn)
  replace hs4 := hs4.agree (Agree.below hn)
  replace hs6 := hs6.agree (Agree.below hn)
  replace hs8 := hs8.agree (Agree.below hn)
  replace X1 := X1.below hn
  replace X5 := X5.below hn
  replace X9 := X9.below hn
  replace X13 := X13.below hn
  replace hb := hb.trans (hn.mono hb.size)
  clear hn
  have CC : Calls Try.prog 85 #[.agg #[.int .i64 2, .slice A1 4 c1], .slice (some ⟨w15.heap.size, 0, none⟩) 4 4] w16 (fun e w' => e = .returned (.bool true) ∧ Below w16.heap.size w16 w') := by
    have h := want_any (fun _ => True) [255, 255, 255, 255] [255, 255, 255, 255] A1 _ c1 _ w16 hs1 D4 (by decide)
    rw [show decide (([255, 255, 255, 255] : List UInt8) = [255, 255, 255, 255]) = true from by decide] at h
    exact h
  clear D4
  refine CC.mono ?_
  clear CC
  rintro e w17 ⟨rfl, hn⟩
  replace hs1 := hs1.agree (Agree.below hn)
  replace hs4 := hs4.agree (Agree.below hn)
  replace hs6 := hs6.agree (Agree.below hn)
  replace hs8 := hs8.agree (Agree.below hn)
  replace X1 := X1.below hn
  replace X5 := X5.below hn
  replace X9 := X9.below hn
  replace X13 := X13.below hn
  replace hb := hb.trans (hn.mono hb.size)
  clear hn
  have X1a := X1.at0
  have X1b := X1.at1
  have X1c := X1.lt
  have X5a := X5.at0
  have X5b := X5.at1
  have X5c := X5.lt
  have X9a := X9.at0
  have X9b := X9.at1
  have X9c := X9.lt
  have X13a := X13.at0
  have X13b := X13.at1
  have X13c := X13.lt
  go_wp2_with fail
  clear X1a X1b X1c
  clear X5a X5b X5c
  clear X9a X9b X9c
  clear X13a X13b X13c
  have hn : Below w17.heap.size w17 (w17.alloc (.cells #[.int .u8 255, .int .u8 240, .int .u8 15, .int .u8 255] 5)) := (Below.refl _ w17).alloc (Nat.le_refl _) _
  have D4 : isSlice kU8 (fun _ => True) (w17.alloc (.cells #[.int .u8 255, .int .u8 240, .int .u8 15, .int .u8 255] 5)) (.slice (some ⟨w17.heap.size, 0, none⟩) 4 4) [255, 240, 15, 255] := (row_slice [255, 240, 15, 255] (World.alloc_heap_new w17 (.cells #[.int .u8 255, .int .u8 240, .int .u8 15, .int .u8 255] 5))).mono (fun _ _ => trivial)
  generalize hW : (w17.alloc (.cells #[.int .u8 255, .int .u8 240, .int .u8 15, .int .u8 255] 5)) = w18 at *
  clear hW
  replace hs1 := hs1.agree (Agree.below hn)
  replace hs4 := hs4.agree (Agree.below hn)
  replace hs6 := hs6.agree (Agree.below hn)
  replace hs8 := hs8.agree (Agree.below hn)
  replace X1 := X1.below hn
  replace X5 := X5.below hn
  replace X9 := X9.below hn
  replace X13 := X13.below hn
  replace hb := hb.trans (hn.mono hb.size)
  clear hn
  have CC : Calls Try.prog 85 #[.agg #[.int .i64 2, .slice A4 4 c4], .slice (some ⟨w17.heap.size, 0, none⟩) 4 4] w18 (fun e w' => e = .returned (.bool true) ∧ Below w18.heap.size w18 w') := by
    have h := want_any (fun _ => True) [255, 240, 15, 255] [255, 240, 15, 255] A4 _ c4 _ w18 hs4 D4 (by decide)
    rw [show decide (([255, 240, 15, 255] : List UInt8) = [255, 240, 15, 255]) = true from by decide] at h
    exact h
  clear D4
  refine CC.mono ?_
  clear CC
  rintro e w19 ⟨rfl, hn⟩
  replace hs1 := hs1.agree (Agree.below hn)
  replace hs4 := hs4.agree (Agree.below hn)
  replace hs6 := hs6.agree (Agree.below hn)
  replace hs8 := hs8.agree (Agree.below hn)
  replace X1 := X1.below hn
  replace X5 := X5.below hn
  replace X9 := X9.below hn
  replace X13 := X13.below hn
  replace hb := hb.trans (hn.mono hb.size)
  clear hn
  have X1a := X1.at0
  have X1b := X1.at1
  have X1c := X1.lt
  have X5a := X5.at0
  have X5b := X5.at1
  have X5c := X5.lt
  have X9a := X9.at0
  have X9b := X9.at1
  have X9c := X9.lt
  have X13a := X13.at0
  have X13b := X13.at1
  have X13c := X13.lt
  go_wp2_with fail
  clear X1a X1b X1c
  clear X5a X5b X5c
  clear X9a X9b X9c
  clear X13a X13b X13c
  have hn : Below w19.heap.size w19 (w19.alloc (.cells #[.int .u8 255, .int .u8 48, .int .u8 15, .int .u8 255] 5)) := (Below.refl _ w19).alloc (Nat.le_refl _) _
  have D4 : isSlice kU8 (fun _ => True) (w19.alloc (.cells #[.int .u8 255, .int .u8 48, .int .u8 15, .int .u8 255] 5)) (.slice (some ⟨w19.heap.size, 0, none⟩) 4 4) [255, 48, 15, 255] := (row_slice [255, 48, 15, 255] (World.alloc_heap_new w19 (.cells #[.int .u8 255, .int .u8 48, .int .u8 15, .int .u8 255] 5))).mono (fun _ _ => trivial)
  generalize hW : (w19.alloc (.cells #[.int .u8 255, .int .u8 48, .int .u8 15, .int .u8 255] 5)) = w20 at *
  clear hW
  replace hs1 := hs1.agree (Agree.below hn)
  replace hs4 := hs4.agree (Agree.below hn)
  replace hs6 := hs6.agree (Agree.below hn)
  replace hs8 := hs8.agree (Agree.below hn)
  replace X1 := X1.below hn
  replace X5 := X5.below hn
  replace X9 := X9.below hn
  replace X13 := X13.below hn
  replace hb := hb.trans (hn.mono hb.size)
  clear hn
  have CC : Calls Try.prog 85 #[.agg #[.int .i64 2, .slice A6 4 c6], .slice (some ⟨w19.heap.size, 0, none⟩) 4 4] w20 (fun e w' => e = .returned (.bool true) ∧ Below w20.heap.size w20 w') := by
    have h := want_any (fun _ => True) [255, 48, 15, 255] [255, 48, 15, 255] A6 _ c6 _ w20 hs6 D4 (by decide)
    rw [show decide (([255, 48, 15, 255] : List UInt8) = [255, 48, 15, 255]) = true from by decide] at h
    exact h
  clear D4
  refine CC.mono ?_
  clear CC
  rintro e w21 ⟨rfl, hn⟩
  replace hs1 := hs1.agree (Agree.below hn)
  replace hs4 := hs4.agree (Agree.below hn)
  replace hs6 := hs6.agree (Agree.below hn)
  replace hs8 := hs8.agree (Agree.below hn)
  replace X1 := X1.below hn
  replace X5 := X5.below hn
  replace X9 := X9.below hn
  replace X13 := X13.below hn
  replace hb := hb.trans (hn.mono hb.size)
  clear hn
  have X1a := X1.at0
  have X1b := X1.at1
  have X1c := X1.lt
  have X5a := X5.at0
  have X5b := X5.at1
  have X5c := X5.lt
  have X9a := X9.at0
  have X9b := X9.at1
  have X9c := X9.lt
  have X13a := X13.at0
  have X13b := X13.at1
  have X13c := X13.lt
  go_wp2_with fail
  clear X1a X1b X1c
  clear X5a X5b X5c
  clear X9a X9b X9c
  clear X13a X13b X13c
  have hn : Below w21.heap.size w21 (w21.alloc (.cells #[.int .u8 255, .int .u8 255, .int .u8 15, .int .u8 255] 5)) := (Below.refl _ w21).alloc (Nat.le_refl _) _
  have D4 : isSlice kU8 (fun _ => True) (w21.alloc (.cells #[.int .u8 255, .int .u8 255, .int .u8 15, .int .u8 255] 5)) (.slice (some ⟨w21.heap.size, 0, none⟩) 4 4) [255, 255, 15, 255] := (row_slice [255, 255, 15, 255] (World.alloc_heap_new w21 (.cells #[.int .u8 255, .int .u8 255, .int .u8 15, .int .u8 255] 5))).mono (fun _ _ => trivial)
  generalize hW : (w21.alloc (.cells #[.int .u8 255, .int .u8 255, .int .u8 15, .int .u8 255] 5)) = w22 at *
  clear hW
  replace hs1 := hs1.agree (Agree.below hn)
  replace hs4 := hs4.agree (Agree.below hn)
  replace hs6 := hs6.agree (Agree.below hn)
  replace hs8 := hs8.agree (Agree.below hn)
  replace X1 := X1.below hn
  replace X5 := X5.below hn
  replace X9 := X9.below hn
  replace X13 := X13.below hn
  replace hb := hb.trans (hn.mono hb.size)
  clear hn
  have CC : Calls Try.prog 85 #[.agg #[.int .i64 2, .slice A8 4 c8], .slice (some ⟨w21.heap.size, 0, none⟩) 4 4] w22 (fun e w' => e = .returned (.bool true) ∧ Below w22.heap.size w22 w') := by
    have h := want_any (fun _ => True) [255, 255, 15, 255] [255, 255, 15, 255] A8 _ c8 _ w22 hs8 D4 (by decide)
    rw [show decide (([255, 255, 15, 255] : List UInt8) = [255, 255, 15, 255]) = true from by decide] at h
    exact h
  clear D4
  refine CC.mono ?_
  clear CC
  rintro e w23 ⟨rfl, hn⟩
  replace hs1 := hs1.agree (Agree.below hn)
  replace hs4 := hs4.agree (Agree.below hn)
  replace hs6 := hs6.agree (Agree.below hn)
  replace hs8 := hs8.agree (Agree.below hn)
  replace X1 := X1.below hn
  replace X5 := X5.below hn
  replace X9 := X9.below hn
  replace X13 := X13.below hn
  replace hb := hb.trans (hn.mono hb.size)
  clear hn
  have X1a := X1.at0
  have X1b := X1.at1
  have X1c := X1.lt
  have X5a := X5.at0
  have X5b := X5.at1
  have X5c := X5.lt
  have X9a := X9.at0
  have X9b := X9.at1
  have X9c := X9.lt
  have X13a := X13.at0
  have X13b := X13.at1
  have X13c := X13.lt
  go_wp2_with fail
  clear X1a X1b X1c
  clear X5a X5b X5c
  clear X9a X9b X9c
  clear X13a X13b X13c
  go_ret
  exact ⟨rfl, hb⟩
end Go.Proofs.Ytdoehnnhbfmleaa
