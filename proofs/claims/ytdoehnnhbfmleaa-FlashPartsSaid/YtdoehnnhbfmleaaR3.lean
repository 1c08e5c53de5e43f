/- The reference of package flash: Program and Erase. -/
import Derived.Test.YtdoehnnhbfmleaaR2
namespace Go.Proofs.Ytdoehnnhbfmleaa
open Go Go.RowKit Go.Shelf

/-- A list of memories, the first one perhaps the caller's, and the number of an error. -/
def RRes (ok0 : Ok) (w : World) (l : List Fl) (err : Int) (e : Ending) (w' : World) : Prop :=
  ∃ A c, e = .returned (.tuple #[.slice A l.length c, .int .i64 err]) ∧ isSlice kFlash (fun k => (ok0 k ∧ k < w.heap.size) ∨ w.heap.size ≤ k) w' (.slice A l.length c) l ∧ Below w.heap.size w w'

theorem RRes.none (ok0 : Ok) (w w' : World) (err : Int) (hb : Below w.heap.size w w') : RRes ok0 w [] err (.returned (.tuple #[.slice none 0 0, .int .i64 err])) w' := ⟨Option.none, 0, rfl, isSlice.nil _ _ _ _ _, hb⟩

theorem steps_succ (f : Fl) (s i : Nat) (g : Nat → UInt8 → UInt8) : steps f s (i + 1) g = steps f s i g ++ [⟨f.sector, upd f.bytes s (i + 1) g⟩] := by
  simp [steps, List.range_succ]
theorem steps_zero (f : Fl) (s : Nat) (g : Nat → UInt8 → UInt8) : steps f s 0 g = [f] := by
  simp [steps, upd_zero]

set_option maxRecDepth 100000 in
set_option maxHeartbeats 1000000 in
theorem rprogram_bad (ok : Ok) (f : Fl) (A : Option Addr) (c : Nat) (at_ : Int) (n : Nat) (A2 : Option Addr) (c2 : Nat) (w : World) (hbad : valid f = false ∨ (valid f = true ∧ at_ < 0)) :
    Calls Try.prog 33 #[.agg #[.int .i64 f.sector, .slice A f.bytes.length c], .int .i64 at_, .slice A2 n c2] w (RRes ok w [] 1) := by
  rcases hbad with hv | ⟨hv, h0⟩
  · go_enter Try.func33, Try.ntmps33
    go_wp2_with (go_at_call 37; refine (rvalid_any _ _ _ _).mono ?_; rintro e w' ⟨rfl, rfl⟩; rw [hv])
    go_ret2
    exact RRes.none _ _ _ _ (((Below.refl _ w).alloc (Nat.le_refl _) _).alloc (by simp) _)
  · have h1 : decide (at_ < 0) = true := by simp [h0]
    go_enter Try.func33, Try.ntmps33
    go_wp2_with (go_at_call 37; refine (rvalid_any _ _ _ _).mono ?_; rintro e w' ⟨rfl, rfl⟩; rw [hv])
    go_ret2
    exact RRes.none _ _ _ _ (((Below.refl _ w).alloc (Nat.le_refl _) _).alloc (by simp) _)

set_option maxRecDepth 100000 in
set_option maxHeartbeats 1000000 in
theorem rprogram_range (ok : Ok) (f : Fl) (A : Option Addr) (c : Nat) (at_ : Int) (n : Nat) (A2 : Option Addr) (c2 : Nat) (w : World) (hv : valid f = true) (h0 : 0 ≤ at_) (hl : f.bytes.length ≤ 16384) (hr : (f.bytes.length : Int) < at_ ∨ ((at_ ≤ f.bytes.length) ∧ (f.bytes.length : Int) - at_ < n)) :
    Calls Try.prog 33 #[.agg #[.int .i64 f.sector, .slice A f.bytes.length c], .int .i64 at_, .slice A2 n c2] w (RRes ok w [] 3) := by
  have h1 : decide (at_ < 0) = false := by simp; omega
  rcases hr with hr | ⟨hle, hr⟩
  · go_enter Try.func33, Try.ntmps33
    go_wp2_with (go_at_call 37; refine (rvalid_any _ _ _ _).mono ?_; rintro e w' ⟨rfl, rfl⟩; rw [hv])
    go_ret2
    exact RRes.none _ _ _ _ (((Below.refl _ w).alloc (Nat.le_refl _) _).alloc (by simp) _)
  · go_enter Try.func33, Try.ntmps33
    go_wp2_with (go_at_call 37; refine (rvalid_any _ _ _ _).mono ?_; rintro e w' ⟨rfl, rfl⟩; rw [hv])
    go_ret2
    exact RRes.none _ _ _ _ (((Below.refl _ w).alloc (Nat.le_refl _) _).alloc (by simp) _)

set_option maxRecDepth 100000 in
set_option maxHeartbeats 1000000 in
theorem rprogram_ok (ok : Ok) (f : Fl) (A : Option Addr) (c : Nat) (at_ : Nat) (data : List UInt8) (A2 : Option Addr) (c2 : Nat) (w : World) (hf : isSlice kU8 ok w (.slice A f.bytes.length c) f.bytes) (hd : isSlice kU8 ok w (.slice A2 data.length c2) data)
    (hv : valid f = true) (hfit : at_ + data.length ≤ f.bytes.length) (hl : f.bytes.length ≤ 16384) :
    Calls Try.prog 33 #[.agg #[.int .i64 f.sector, .slice A f.bytes.length c], .int .i64 at_, .slice A2 data.length c2] w (RRes ok w (steps f at_ data.length (andWith data)) 0) := by
  go_enter Try.func33, Try.ntmps33
  go_wp2_with (go_at_call 37; refine (rvalid_any _ _ _ _).mono ?_; rintro e w' ⟨rfl, rfl⟩; rw [hv])
  have hb0 : Below w.heap.size w ((w.alloc (.cells #[.int .i64 f.sector, .slice A f.bytes.length c] 24)).alloc (.cells #[.int .i64 f.sector, .slice A f.bytes.length c] 24)) :=
    ((Below.refl _ w).alloc (Nat.le_refl _) _).alloc (by simp) _
  have hG0 : Grow w.heap.size ok (((w.alloc (.cells #[.int .i64 f.sector, .slice A f.bytes.length c] 24)).alloc (.cells #[.int .i64 f.sector, .slice A f.bytes.length c] 24)).alloc (.cells #[.int .i64 f.sector, .slice A f.bytes.length c] 24)) (some ⟨w.heap.size + 2, 0, none⟩) 1 [f] := by
    have := Grow.one ok w.heap.size (hf.bound.agree (Agree.below hb0)) (by simp; omega)
    simpa using this
  have hbl0 := hb0.alloc hb0.size (.cells #[.int .i64 f.sector, .slice A f.bytes.length c] 24)
  generalize (((w.alloc (.cells #[.int .i64 f.sector, .slice A f.bytes.length c] 24)).alloc (.cells #[.int .i64 f.sector, .slice A f.bytes.length c] 24)).alloc (.cells #[.int .i64 f.sector, .slice A f.bytes.length c] 24)) = W0 at *
  go_loopw [8, 9] (fun v iv wr => ∃ (i : Nat) (A' : Option Addr) (c' : Nat), i ≤ data.length ∧ iv = .int .i64 i ∧ v = .slice A' (i + 1) c' ∧ Grow w.heap.size ok wr A' c' (steps f at_ i (andWith data)) ∧ Below w.heap.size w wr) (fun _ iv _ => data.length - (intOf iv).toNat)
  case atStart => exact ⟨0, _, _, Nat.zero_le _, rfl, rfl, by rw [steps_zero]; exact hG0, hbl0⟩
  case round =>
    obtain ⟨i, A', c', hi, rfl, rfl, hG, hbl⟩ := hrel
    clear hG0 hbl0 hb0
    by_cases hlt : i < data.length
    · obtain ⟨g, o, A3, c3, rfl, hgN, hgl, p1, p2, p3⟩ := hG.get i (by simp)
      simp only [steps_get, steps_length] at p1 p2 p3
      obtain ⟨cur, hcur⟩ : ∃ cur, upd f.bytes at_ i (andWith data) = cur := ⟨_, rfl⟩
      have hcl : cur.length = f.bytes.length := by rw [← hcur]; exact upd_length ..
      have hbnd : at_ + i < cur.length := by omega
      have hnext : upd f.bytes at_ (i + 1) (andWith data) = cur.set (at_ + i) (cur[at_ + i] &&& data[i]) := by
        rw [upd_succ _ _ _ _ (by omega)]
        subst hcur
        rw [upd_at _ _ _ _ (by omega)]
        simp [andWith, hlt]
      rw [hcur, hcl] at p2 p3
      rw [← hcl] at p3
      obtain ⟨g3, o3, rfl, hg3N, hg3, q3⟩ := bytes_open (xs := cur) (n := cur.length) p3 (by omega)
      have hd' := hd.bound.agree (Agree.below hbl)
      obtain ⟨gd, od, rfl, hgdN, hgd, qd⟩ := bytes_open hd' (by omega)
      have q3i := q3 (at_ + i) hbnd
      have qdi := qd i hlt
      clear q3 qd
      have l1 : IntKind.i64.wrap ((at_ : Int) + (i : Int)) = (at_ : Int) + i := IntWalk.i64_in _ (by omega)
      have l2 : 0 ≤ (at_ : Int) + i := by omega
      have l3 : (at_ : Int) + i < (f.bytes.length : Int) := by omega
      have l4 : ((at_ : Int) + i).toNat = at_ + i := by omega
      have hand := u8_and_nat (cur[at_ + i]).toNat (data[i]).toNat (UInt8.toNat_lt _) (UInt8.toNat_lt _)
      have b1 : Below wr.heap.size wr (wr.alloc (.cells #[.int .i64 f.sector, .slice (some ⟨g3, o3, none⟩) f.bytes.length c3] 24)) := (Below.refl _ wr).alloc (Nat.le_refl _) _
      have x0 : (wr.alloc (.cells #[.int .i64 f.sector, .slice (some ⟨g3, o3, none⟩) f.bytes.length c3] 24)).heap[wr.heap.size]? = some (.cells #[.int .i64 f.sector, .slice (some ⟨g3, o3, none⟩) f.bytes.length c3] 24 (0, 0)) := World.alloc_heap_new _ _
      have x1 := (b1.cell (p := ⟨g3, o3 + (at_ + i), none⟩) hg3).trans q3i
      have x2 := (b1.cell (p := ⟨gd, od + i, none⟩) hgd).trans qdi
      have hcb : isSlice kU8 (fun k => k < wr.heap.size) (wr.alloc (.cells #[.int .i64 f.sector, .slice (some ⟨g3, o3, none⟩) f.bytes.length c3] 24)) (.slice (some ⟨g3, o3, none⟩) f.bytes.length c3) cur := by
        have p3' : isSlice kU8 (fun k => k < wr.heap.size) wr (.slice (some ⟨g3, o3, none⟩) f.bytes.length c3) cur := by rw [← hcl]; exact p3.bounded (fun k _ hk => hk)
        exact p3'.agree (Agree.below b1)
      go_wp2
      have hN : Grow w.heap.size ok (wr.alloc (.cells #[.int .i64 f.sector, .slice (some ⟨g3, o3, none⟩) f.bytes.length c3] 24)) (some ⟨g, o, none⟩) c' (steps f at_ i (andWith data)) := hG.agree b1
      generalize (wr.alloc (.cells #[.int .i64 f.sector, .slice (some ⟨g3, o3, none⟩) f.bytes.length c3] 24)) = W at *
      have HW : Calls Try.prog 90 #[.agg #[.int .i64 f.sector, .slice (some ⟨g3, o3, none⟩) f.bytes.length c3], .int .i64 ((at_ : Int) + (i : Int)), .int .u8 ((cur[at_ + i].toNat &&& data[i].toNat : Nat) : Int)] W.drew
          fun e w' => ∃ A' c', e = .returned (.agg #[.int .i64 f.sector, .slice A' f.bytes.length c']) ∧ isSlice kU8 (fun k => W.heap.size ≤ k) w' (.slice A' f.bytes.length c') (upd f.bytes at_ (i + 1) (andWith data)) ∧ Below W.heap.size W w' := by
        have := with_any (fun k => k < wr.heap.size) f.sector cur (some ⟨g3, o3, none⟩) f.bytes.length c3 (at_ + i) (cur[at_ + i] &&& data[i]) W.drew (hcb.agree (Agree.drew _ _)) hbnd (by omega)
        rw [hcl, UInt8.toNat_and, Int.natCast_add] at this
        rw [hnext]
        exact this.mono (fun e w' ⟨A', c', h1, h2, h3⟩ => ⟨A', c', h1, h2, (Below.refl _ W).drew.trans h3⟩)
      have hsn := fun W1 (hb : Below W.heap.size W W1) A2 c2 => hN.snoc hb (⟨f.sector, upd f.bytes at_ (i + 1) (andWith data)⟩ : Fl) A2 c2 (i + 1) f.bytes.length (steps_length ..) (upd_length ..)
      have y1 : W.cell? ⟨wr.heap.size, 0, none⟩ = some (.int .i64 f.sector) := by simp [World.cell?, x0]
      have y2 : W.cell? ⟨wr.heap.size, 1, none⟩ = some (.slice (some ⟨g3, o3, none⟩) f.bytes.length c3) := by simp [World.cell?, x0]
      have hblW : Below w.heap.size w W := hbl.trans (b1.mono hbl.size)
      have hNle : w.heap.size ≤ W.heap.size := hblW.size
      have hwl : wr.heap.size < W.heap.size := (Array.getElem?_eq_some_iff.1 x0).1
      have kS : ∀ W' : World, Below W.heap.size W W' → W'.cell? ⟨wr.heap.size, 0, none⟩ = some (.int .i64 f.sector) ∧ W'.cell? ⟨wr.heap.size, 1, none⟩ = some (.slice (some ⟨g3, o3, none⟩) f.bytes.length c3) ∧ W'.cell? ⟨g3, o3 + (at_ + i), none⟩ = some (.int .u8 (cur[at_ + i]).toNat) ∧ W'.cell? ⟨gd, od + i, none⟩ = some (.int .u8 (data[i]).toNat) :=
        fun W' hb => ⟨(hb.cell (p := ⟨wr.heap.size, 0, none⟩) hwl).trans y1, (hb.cell (p := ⟨wr.heap.size, 1, none⟩) hwl).trans y2, (hb.cell (p := ⟨g3, o3 + (at_ + i), none⟩) (by show g3 < _; omega)).trans x1, (hb.cell (p := ⟨gd, od + i, none⟩) (by show gd < _; omega)).trans x2⟩
      have m1 : (steps f at_ i (andWith data)).length + [(⟨f.sector, upd f.bytes at_ (i + 1) (andWith data)⟩ : Fl)].length ≤ maxLen := by simp; unfold maxLen; omega
      have m2 : ((steps f at_ i (andWith data)).length + [(⟨f.sector, upd f.bytes at_ (i + 1) (andWith data)⟩ : Fl)].length) * 32 ≤ 140737488355328 := by simp; omega
      have n1 : wr.heap.size ≠ g := by omega
      have n2 : g3 ≠ g := by
        rcases hg3N with h1 | h1
        · omega
        · exact fun e => h1.2 (by rw [e]; rfl)
      have n3 : gd ≠ g := by have := hgdN.2; omega
      have kT : ∀ W' W'' : World, Below W.heap.size W W' → W'.grownBy W'' (some g) → W''.cell? ⟨wr.heap.size, 0, none⟩ = some (.int .i64 f.sector) ∧ W''.cell? ⟨wr.heap.size, 1, none⟩ = some (.slice (some ⟨g3, o3, none⟩) f.bytes.length c3) ∧ W''.cell? ⟨g3, o3 + (at_ + i), none⟩ = some (.int .u8 (cur[at_ + i]).toNat) ∧ W''.cell? ⟨gd, od + i, none⟩ = some (.int .u8 (data[i]).toNat) := fun W' W'' hb hg => by
        obtain ⟨k1, k2, k3, k4⟩ := kS W' hb
        exact ⟨hg.cell k1 (fun e => n1 (by simpa using e)), hg.cell k2 (fun e => n1 (by simpa using e)), hg.cell k3 (fun e => n2 (by simpa using e)), hg.cell k4 (fun e => n3 (by simpa using e))⟩
      clear hnext hG p1 p2 p3 q3i qdi hd hd' hf hbl hcb x0 x1 x2
      rename_i Q K hK
      go_region_held3 (fun W' => W'.cell? ⟨wr.heap.size, 0, none⟩ = some (.int .i64 f.sector) ∧ W'.cell? ⟨wr.heap.size, 1, none⟩ = some (.slice (some ⟨g3, o3, none⟩) f.bytes.length c3) ∧ W'.cell? ⟨g3, o3 + (at_ + i), none⟩ = some (.int .u8 (cur[at_ + i]).toNat) ∧ W'.cell? ⟨gd, od + i, none⟩ = some (.int .u8 (data[i]).toNat))
        (first | exact kS _ (Below.refl _ _).drew | exact kS _ hbw | exact kS _ (hbw.alloc hbw.size _) | exact kT _ _ (hbw.alloc hbw.size _) hg5)
        (first
        | (go_at_call 90; refine HW.mono ?_; rintro e w' ⟨A4, c4, rfl, hs4, hbw⟩)
        | (refine step_append_K rfl _ _ rfl elem30 _ w.heap.size (.slice (some ⟨g, o, none⟩) (i + 1) c') (.slice (some ⟨_, 0, none⟩) 1 1) (steps f at_ i (andWith data)) [(⟨f.sector, upd f.bytes at_ (i + 1) (andWith data)⟩ : Fl)] rfl rfl (hsn _ hbw _ _ hs4).own (hsn _ hbw _ _ hs4).src (hsn _ hbw _ _ hs4).ne m1 m2 (hsn _ hbw _ _ hs4).base ?_; intro A5 c5 w5 ho5 hg5 hob5))
      obtain ⟨hG5, hb5, _⟩ := (hsn _ hbw _ _ hs4).fin _ _ _ ho5 hg5 hob5
      clear hsn HW kS kT ho5 hg5 hob5
      rw [← steps_succ] at hG5
      simp only [Exit.inBlock, Exit.then]
      apply hK
      clear hK
      go_wp2
      go_roundw
      case rel => exact ⟨i + 1, A5, c5, by omega, by go_num, rfl, hG5, hblW.trans hb5⟩
      case measure => simp [intOf]; omega
    · have hie : i = data.length := by omega
      subst hie
      go_wp2
      go_ret2
      exact ⟨A', c', by simp, hG.slice, hbl⟩

/-- Program. -/
theorem rprogram_any (ok : Ok) (f : Fl) (A : Option Addr) (c : Nat) (at_ : Int) (data : List UInt8) (A2 : Option Addr) (c2 : Nat) (w : World) (hf : isSlice kU8 ok w (.slice A f.bytes.length c) f.bytes) (hd : isSlice kU8 ok w (.slice A2 data.length c2) data) :
    Calls Try.prog 33 #[.agg #[.int .i64 f.sector, .slice A f.bytes.length c], .int .i64 at_, .slice A2 data.length c2] w (RRes ok w (program f at_ data).1 (program f at_ data).2) := by
  unfold program
  by_cases h1 : valid f = false ∨ at_ < 0
  · rw [if_pos h1]
    refine rprogram_bad ok f A c at_ _ A2 c2 w ?_
    cases hv : valid f with
    | false => exact .inl rfl
    | true => exact .inr ⟨rfl, by rcases h1 with h | h; · rw [hv] at h; cases h
                                  · exact h⟩
  · rw [if_neg h1]
    have hv : valid f = true := by cases hv : valid f with
      | false => exact absurd (.inl hv) h1
      | true => rfl
    have h0 : 0 ≤ at_ := by
      by_cases h : at_ < 0
      · exact absurd (.inr h) h1
      · omega
    have hl := (valid_len hv).1
    by_cases h2 : (f.bytes.length : Int) < at_ ∨ (f.bytes.length : Int) - at_ < data.length
    · rw [if_pos h2]
      exact rprogram_range ok f A c at_ _ A2 c2 w hv h0 hl (by omega)
    · rw [if_neg h2]
      obtain ⟨n, rfl⟩ := Int.eq_ofNat_of_zero_le h0
      exact rprogram_ok ok f A c n data A2 c2 w hf hd hv (by omega) hl

set_option maxRecDepth 100000 in
set_option maxHeartbeats 1000000 in
theorem rerase_bad (ok : Ok) (f : Fl) (A : Option Addr) (c : Nat) (sec : Int) (w : World) (hbad : valid f = false ∨ (valid f = true ∧ (sec < 0 ∨ 0 ≤ sec ∧ (f.bytes.length : Int) / f.sector ≤ sec))) :
    Calls Try.prog 35 #[.agg #[.int .i64 f.sector, .slice A f.bytes.length c], .int .i64 sec] w (RRes ok w [] 1) := by
  rcases hbad with hv | ⟨hv, h0 | ⟨h0, h1⟩⟩
  · go_enter Try.func35, Try.ntmps35
    go_wp2_with (go_at_call 37; refine (rvalid_any _ _ _ _).mono ?_; rintro e w' ⟨rfl, rfl⟩; rw [hv])
    go_ret2
    exact RRes.none _ _ _ _ (((Below.refl _ w).alloc (Nat.le_refl _) _).alloc (by simp) _)
  · have h1 : decide (sec < 0) = true := by simp [h0]
    go_enter Try.func35, Try.ntmps35
    go_wp2_with (go_at_call 37; refine (rvalid_any _ _ _ _).mono ?_; rintro e w' ⟨rfl, rfl⟩; rw [hv])
    go_ret2
    exact RRes.none _ _ _ _ (((Below.refl _ w).alloc (Nat.le_refl _) _).alloc (by simp) _)
  · have h2 : decide (sec < 0) = false := by simp; omega
    obtain ⟨v1, v2, v3, v4, v5⟩ := valid_len hv
    have hq : wrap64 ((f.bytes.length : Int) / f.sector) = (f.bytes.length : Int) / f.sector := by
      have d1 : 0 ≤ (f.bytes.length : Int) / f.sector := Int.ediv_nonneg (by omega) (by omega)
      have d2 : (f.bytes.length : Int) / f.sector ≤ 16384 := Int.le_trans (Int.ediv_le_self _ (by omega)) (by omega)
      unfold wrap64; omega
    go_enter Try.func35, Try.ntmps35
    go_wp2_with (go_at_call 37; refine (rvalid_any _ _ _ _).mono ?_; rintro e w' ⟨rfl, rfl⟩; rw [hv])
    go_ret2
    exact RRes.none _ _ _ _ (((Below.refl _ w).alloc (Nat.le_refl _) _).alloc (by simp) _)


end Go.Proofs.Ytdoehnnhbfmleaa
