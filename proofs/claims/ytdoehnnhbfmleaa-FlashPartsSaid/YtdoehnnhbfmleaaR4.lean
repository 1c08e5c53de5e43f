/- The reference of package flash: Erase. -/
import Derived.Test.YtdoehnnhbfmleaaR3
namespace Go.Proofs.Ytdoehnnhbfmleaa
open Go Go.RowKit Go.Shelf

set_option maxRecDepth 100000 in
set_option maxHeartbeats 1000000 in
theorem rerase_ok (ok : Ok) (m : Nat) (bs : List UInt8) (A : Option Addr) (c : Nat) (q : Nat) (w : World) (hf : isSlice kU8 ok w (.slice A bs.length c) bs)
    (hv : valid ⟨m, bs⟩ = true) (hs : (q : Int) < (bs.length : Int) / (m : Int)) (hpm : q * m + m ≤ bs.length) :
    Calls Try.prog 35 #[.agg #[.int .i64 m, .slice A bs.length c], .int .i64 q] w (RRes ok w (steps ⟨m, bs⟩ (q * m) m toFF) 0) := by
  obtain ⟨v1, v2, v3, v4, v5⟩ := valid_len hv
  simp only at v1 v2 v3 v4
  obtain ⟨d1, d2⟩ := sectors_bd v2 v1
  have hq : wrap64 ((bs.length : Int) / (m : Int)) = (bs.length : Int) / (m : Int) := by unfold wrap64; omega
  have hm1 : IntKind.i64.wrap ((q : Int) * (m : Int)) = (q : Int) * (m : Int) := by
    rw [← Int.natCast_mul]; exact IntWalk.i64_in _ (by omega)
  have h2 : decide ((q : Int) < 0) = false := by simp
  clear v5
  have VA := fun (W : World) => rvalid_any ⟨m, bs⟩ A c W
  rw [hv] at VA
  clear hv
  go_enter Try.func35, Try.ntmps35
  go_wp2_with (go_at_call 37; refine (VA _).mono ?_; rintro e w' ⟨rfl, rfl⟩)
  clear VA
  have hb0 : Below w.heap.size w ((w.alloc (.cells #[.int .i64 m, .slice A bs.length c] 24)).alloc (.cells #[.int .i64 m, .slice A bs.length c] 24)) :=
    ((Below.refl _ w).alloc (Nat.le_refl _) _).alloc (by simp) _
  have hG0 : Grow (w.heap.size + 1) (fun k => ok k ∧ k < w.heap.size) (((w.alloc (.cells #[.int .i64 m, .slice A bs.length c] 24)).alloc (.cells #[.int .i64 m, .slice A bs.length c] 24)).alloc (.cells #[.int .i64 m, .slice A bs.length c] 24)) (some ⟨w.heap.size + 2, 0, none⟩) 1 [⟨m, bs⟩] := by
    have := Grow.one (x := ⟨m, bs⟩) (fun k => ok k ∧ k < w.heap.size) (w.heap.size + 1) ((hf.bound.mono (fun k hk => ⟨hk, by omega⟩)).agree (Agree.below hb0)) (by simp)
    simpa using this
  have q0 : (((w.alloc (.cells #[.int .i64 m, .slice A bs.length c] 24)).alloc (.cells #[.int .i64 m, .slice A bs.length c] 24)).alloc (.cells #[.int .i64 m, .slice A bs.length c] 24)).heap[w.heap.size]? = some (.cells #[.int .i64 m, .slice A bs.length c] 24 (0, 0)) := by
    rw [Below.heap_alloc _ _ _ (by simp; omega), Below.heap_alloc _ _ _ (by simp)]; exact World.alloc_heap_new w _
  have hbl0 := hb0.alloc hb0.size (.cells #[.int .i64 m, .slice A bs.length c] 24)
  generalize (((w.alloc (.cells #[.int .i64 m, .slice A bs.length c] 24)).alloc (.cells #[.int .i64 m, .slice A bs.length c] 24)).alloc (.cells #[.int .i64 m, .slice A bs.length c] 24)) = W0 at *
  go_loopw [6, 7] (fun v iv wr => ∃ (i : Nat) (A' : Option Addr) (c' : Nat), i ≤ m ∧ iv = .int .i64 i ∧ v = .slice A' (i + 1) c' ∧ Grow (w.heap.size + 1) (fun k => ok k ∧ k < w.heap.size) wr A' c' (steps ⟨m, bs⟩ (q * m) i toFF) ∧ Below w.heap.size w wr ∧ wr.heap[w.heap.size]? = some (.cells #[.int .i64 m, .slice A bs.length c] 24 (0, 0))) (fun _ iv _ => m - (intOf iv).toNat)
  case atStart => exact ⟨0, _, _, Nat.zero_le _, rfl, rfl, by rw [steps_zero]; exact hG0, hbl0, q0⟩
  case round =>
    obtain ⟨i, A', c', hi, rfl, rfl, hG, hbl, hbox⟩ := hrel
    clear hG0 hbl0 hb0 q0
    have k2 : wr.cell? ⟨w.heap.size, 0, none⟩ = some (.int .i64 m) := by simp [World.cell?, hbox]
    by_cases hlt : i < m
    · obtain ⟨g, o, A3, c3, rfl, hgN, hgl, p1, p2, p3⟩ := hG.get i (by simp)
      simp only [steps_get, steps_length] at p1 p2 p3
      obtain ⟨cur, hcur⟩ : ∃ cur, upd bs (q * m) i toFF = cur := ⟨_, rfl⟩
      have hcl : cur.length = bs.length := by rw [← hcur]; exact upd_length ..
      have hbnd : q * m + i < cur.length := by omega
      have hnext : upd bs (q * m) (i + 1) toFF = cur.set (q * m + i) 255 := by
        rw [upd_succ _ _ _ _ (by omega)]
        subst hcur
        rfl
      rw [hcur, hcl] at p2 p3
      obtain rfl := hG.off
      rw [Nat.zero_add] at p1 p2
      have l1 : IntKind.i64.wrap ((q : Int) * (m : Int) + (i : Int)) = (q : Int) * (m : Int) + i := by rw [← Int.natCast_mul]; exact IntWalk.i64_in _ (by omega)
      have hne0 : w.heap.size ≠ g := by omega
      have hwl : w.heap.size < wr.heap.size := (Array.getElem?_eq_some_iff.1 hbox).1
      have HW : Calls Try.prog 90 #[.agg #[.int .i64 m, .slice A3 bs.length c3], .int .i64 ((q : Int) * (m : Int) + (i : Int)), .int .u8 255] wr.drew
          fun e w' => ∃ A' c', e = .returned (.agg #[.int .i64 m, .slice A' bs.length c']) ∧ isSlice kU8 (fun k => wr.heap.size ≤ k) w' (.slice A' bs.length c') (upd bs (q * m) (i + 1) toFF) ∧ Below wr.heap.size wr w' := by
        have := with_any _ m cur A3 bs.length c3 (q * m + i) 255 wr.drew (p3.agree (Agree.drew _ _)) hbnd (by omega)
        rw [hcl, Int.natCast_add, Int.natCast_mul] at this
        rw [hnext]
        exact this.mono (fun e w' ⟨A', c', h1, h2, h3⟩ => ⟨A', c', h1, h2, (Below.refl _ wr).drew.trans h3⟩)
      have hsn := fun W1 (hb : Below wr.heap.size wr W1) A2 c2 => hG.snoc hb (⟨m, upd bs (q * m) (i + 1) toFF⟩ : Fl) A2 c2 (i + 1) bs.length (steps_length ..) (upd_length ..)
      have kS : ∀ W' : World, Below wr.heap.size wr W' → W'.cell? ⟨w.heap.size, 0, none⟩ = some (.int .i64 m) ∧ W'.cell? ⟨g, i * 2, none⟩ = some (.int .i64 m) ∧ W'.cell? ⟨g, i * 2 + 1, none⟩ = some (.slice A3 bs.length c3) :=
        fun W' hb => ⟨(hb.cell (p := ⟨w.heap.size, 0, none⟩) hwl).trans k2, (hb.cell (p := ⟨g, i * 2, none⟩) hgl).trans p1, (hb.cell (p := ⟨g, i * 2 + 1, none⟩) hgl).trans p2⟩
      have m1 : (steps ⟨m, bs⟩ (q * m) i toFF).length + [(⟨m, upd bs (q * m) (i + 1) toFF⟩ : Fl)].length ≤ maxLen := by simp; unfold maxLen; omega
      have m2 : ((steps ⟨m, bs⟩ (q * m) i toFF).length + [(⟨m, upd bs (q * m) (i + 1) toFF⟩ : Fl)].length) * 32 ≤ 140737488355328 := by simp; omega
      have kT : ∀ W' W'' : World, Below wr.heap.size wr W' → W'.grownBy W'' (some g) → (∀ g' o', some (⟨g, 0, none⟩ : Addr) = some ⟨g', o', none⟩ → ∀ j u, j < (i + 1) * kFlash.sz → W'.cell? ⟨g', j, none⟩ = some u → W''.cell? ⟨g', j, none⟩ = some u) → W''.cell? ⟨w.heap.size, 0, none⟩ = some (.int .i64 m) ∧ W''.cell? ⟨g, i * 2, none⟩ = some (.int .i64 m) ∧ W''.cell? ⟨g, i * 2 + 1, none⟩ = some (.slice A3 bs.length c3) := fun W' W'' hb hg hk => by
        obtain ⟨k1, k2, k3⟩ := kS W' hb
        have e2 : kFlash.sz = 2 := rfl
        exact ⟨hg.cell k1 (fun e => hne0 (by simpa using e)), hk g 0 rfl _ _ (by rw [e2]; omega) k2, hk g 0 rfl _ _ (by rw [e2]; omega) k3⟩
      clear hnext hG p1 p2 p3 hf
      have r1 : (0 : Int) ≤ (i : Int) := by omega
      have r2 : (i : Int) < ((i + 1 : Nat) : Int) := by omega
      have r3 : (i : Int) < (i : Int) + 1 := by omega
      go_wp2
      rename_i Q K hK
      go_region_held3 (fun W' => W'.cell? ⟨w.heap.size, 0, none⟩ = some (.int .i64 m) ∧ W'.cell? ⟨g, i * 2, none⟩ = some (.int .i64 m) ∧ W'.cell? ⟨g, i * 2 + 1, none⟩ = some (.slice A3 bs.length c3))
        (first | exact kS _ (Below.refl _ _).drew | exact kS _ hbw | exact kS _ (hbw.alloc hbw.size _) | exact kT _ _ (hbw.alloc hbw.size _) hg5 hk5)
        (first
        | (go_at_call 90; refine HW.mono ?_; rintro e w' ⟨A4, c4, rfl, hs4, hbw⟩)
        | (refine step_append_keeps rfl _ _ rfl elem30 _ (w.heap.size + 1) (some ⟨g, 0, none⟩) c' (.slice (some ⟨_, 0, none⟩) 1 1) (steps ⟨m, bs⟩ (q * m) i toFF) [(⟨m, upd bs (q * m) (i + 1) toFF⟩ : Fl)] (i + 1) (steps_length ..) rfl rfl (hsn _ hbw _ _ hs4).own (hsn _ hbw _ _ hs4).src (hsn _ hbw _ _ hs4).ne m1 m2 (hsn _ hbw _ _ hs4).base ?_; intro A5 c5 w5 ho5 hg5 hob5 hk5))
      obtain ⟨hG5, hb5, _⟩ := (hsn _ hbw _ _ hs4).fin _ _ _ ho5 hg5 hob5
      have hbox5 : w5.heap[w.heap.size]? = some (.cells #[.int .i64 m, .slice A bs.length c] 24 (0, 0)) := (hb5.block _ (by omega)).trans hbox
      clear hsn HW kS kT ho5 hg5 hob5 hk5
      rw [← steps_succ ⟨m, bs⟩] at hG5
      simp only [Exit.inBlock, Exit.then]
      apply hK
      clear hK
      go_wp2
      go_roundw
      case rel => exact ⟨i + 1, A5, c5, by omega, by go_num, rfl, hG5, hbl.trans (hb5.mono (by omega)), hbox5⟩
      case measure => simp [intOf]; omega
    · have hie : i = m := by omega
      subst hie
      clear hm1
      go_wp2
      go_ret2
      exact ⟨A', c', by simp, hG.slice.mono (fun k hk => by rcases hk with h | h; exact .inl h.1; exact .inr (by omega)), hbl⟩

/-- Erase. -/
theorem rerase_any (ok : Ok) (f : Fl) (A : Option Addr) (c : Nat) (sec : Int) (w : World) (hf : isSlice kU8 ok w (.slice A f.bytes.length c) f.bytes) :
    Calls Try.prog 35 #[.agg #[.int .i64 f.sector, .slice A f.bytes.length c], .int .i64 sec] w (RRes ok w (erase f sec).1 (erase f sec).2) := by
  unfold erase
  by_cases h1 : valid f = false ∨ sec < 0 ∨ (f.bytes.length : Int) / f.sector ≤ sec
  · rw [if_pos h1]
    refine rerase_bad ok f A c sec w ?_
    cases hv : valid f with
    | false => exact .inl rfl
    | true =>
      refine .inr ⟨rfl, ?_⟩
      rcases h1 with h | h | h
      · rw [hv] at h; cases h
      · exact .inl h
      · by_cases h0 : sec < 0
        · exact .inl h0
        · exact .inr ⟨by omega, h⟩
  · rw [if_neg h1]
    have hv : valid f = true := by cases hv : valid f with
      | false => exact absurd (.inl hv) h1
      | true => rfl
    have h0 : 0 ≤ sec := by
      by_cases h : sec < 0
      · exact absurd (.inr (.inl h)) h1
      · omega
    have hs : sec < (f.bytes.length : Int) / f.sector := by
      by_cases h : (f.bytes.length : Int) / f.sector ≤ sec
      · exact absurd (.inr (.inr h)) h1
      · omega
    obtain ⟨v1, v2, v3, v4, v5⟩ := valid_len hv
    have hmul : (sec + 1) * f.sector ≤ f.bytes.length := by
      have e1 : (sec + 1) * f.sector ≤ (f.bytes.length : Int) / f.sector * f.sector := Int.mul_le_mul_of_nonneg_right (by omega) (by omega)
      have e2 := Int.ediv_mul_le (f.bytes.length : Int) (b := f.sector) (by omega)
      omega
    obtain ⟨s, bs⟩ := f
    simp only at *
    obtain ⟨q, rfl⟩ := Int.eq_ofNat_of_zero_le h0
    obtain ⟨m, rfl⟩ := Int.eq_ofNat_of_zero_le (a := s) (by omega)
    rw [Int.add_mul, Int.one_mul, ← Int.natCast_mul] at hmul
    have e3 : ((q : Int) * (m : Int)).toNat = q * m := by rw [← Int.natCast_mul]; rfl
    rw [e3]
    exact rerase_ok ok m bs A c q w hf hv hs (by omega)


end Go.Proofs.Ytdoehnnhbfmleaa
