/- The reference of package flash: Same, SameList. -/
import Derived.Test.YtdoehnnhbfmleaaR4
namespace Go.Proofs.Ytdoehnnhbfmleaa
open Go Go.RowKit Go.Shelf

/-- An element of a list of memories. -/
theorem slice_get {ok : Ok} {W : World} {A : Option Addr} {n c : Nat} {l : List Fl} (h : isSlice kFlash ok W (.slice A n c) l) (j : Nat) (hj : j < l.length) :
    ∃ g o A2 c2, A = some ⟨g, o, none⟩ ∧ g < W.heap.size ∧ W.cell? ⟨g, o + j * 2, none⟩ = some (.int .i64 l[j].sector) ∧ W.cell? ⟨g, o + j * 2 + 1, none⟩ = some (.slice A2 l[j].bytes.length c2) ∧ isSlice kU8 ok W (.slice A2 l[j].bytes.length c2) l[j].bytes := by
  obtain ⟨g, o, hA, _, hlt, hc⟩ := h.open (by decide) (by omega)
  obtain ⟨cs, hcs, hcell⟩ := hc j hj
  obtain ⟨c1, c2, rfl, h1, v, h2, hs⟩ := hcs
  obtain ⟨A2, c2', rfl, _⟩ := hs.form
  subst h2
  rw [show c1 = [.int .i64 l[j].sector] from h1] at hcell
  refine ⟨g, o, A2, c2', hA, hlt, ?_, ?_, hs⟩
  · have := hcell 0 _ rfl
    simpa [kFlash, Kind.iso, Kind.pair, kI64, kBytes, Kind.slice, Kind.scalar] using this
  · have := hcell 1 _ rfl
    simpa [kFlash, Kind.iso, Kind.pair, kI64, kBytes, Kind.slice, Kind.scalar, Nat.add_assoc] using this

set_option maxRecDepth 100000 in
set_option maxHeartbeats 1000000 in
theorem same_any (ok : Ok) (f g : Fl) (A A2 : Option Addr) (c c2 : Nat) (w : World) (hf : isSlice kU8 ok w (.slice A f.bytes.length c) f.bytes) (hg : isSlice kU8 ok w (.slice A2 g.bytes.length c2) g.bytes) (hl : f.bytes.length ≤ 1000000) :
    Calls Try.prog 31 #[.agg #[.int .i64 f.sector, .slice A f.bytes.length c], .agg #[.int .i64 g.sector, .slice A2 g.bytes.length c2]] w fun e w' => e = .returned (.bool (decide (f = g))) ∧ Below w.heap.size w w' := by
  obtain ⟨s1, b1⟩ := f
  obtain ⟨s2, b2⟩ := g
  simp only at *
  have hbl : Below w.heap.size w ((w.alloc (.cells #[.int .i64 s1, .slice A b1.length c] 24)).alloc (.cells #[.int .i64 s2, .slice A2 b2.length c2] 24)) :=
    ((Below.refl _ w).alloc (Nat.le_refl _) _).alloc (by simp) _
  by_cases hs : s1 = s2
  · subst hs
    by_cases hn : b1.length = b2.length
    · rw [← hn] at hg ⊢ hbl
      have hn' := hn.symm
      clear hn
      have hf' := hf.agree (Agree.below hbl)
      have hg' := hg.agree (Agree.below hbl)
      go_enter Try.func31, Try.ntmps31
      go_wp2
      have q0 : ((w.alloc (.cells #[.int .i64 s1, .slice A b1.length c] 24)).alloc (.cells #[.int .i64 s1, .slice A2 b1.length c2] 24)).heap[w.heap.size]? = some (.cells #[.int .i64 s1, .slice A b1.length c] 24 (0, 0)) := by
        rw [Below.heap_alloc _ _ _ (by simp)]; exact World.alloc_heap_new w _
      have q1 : ((w.alloc (.cells #[.int .i64 s1, .slice A b1.length c] 24)).alloc (.cells #[.int .i64 s1, .slice A2 b1.length c2] 24)).heap[w.heap.size + 1]? = some (.cells #[.int .i64 s1, .slice A2 b1.length c2] 24 (0, 0)) := by
        have := World.alloc_heap_new (w.alloc (.cells #[.int .i64 s1, .slice A b1.length c] 24)) (.cells #[.int .i64 s1, .slice A2 b1.length c2] 24)
        rwa [World.size_alloc] at this
      generalize ((w.alloc (.cells #[.int .i64 s1, .slice A b1.length c] 24)).alloc (.cells #[.int .i64 s1, .slice A2 b1.length c2] 24)) = W0 at *
      go_loopw [5] (fun iv wr => ∃ (i : Nat), i ≤ b1.length ∧ iv = .int .i64 i ∧ b1.take i = b2.take i ∧ wr.heap = W0.heap ∧ Below W0.heap.size W0 wr) (fun iv _ => b1.length - (intOf iv).toNat)
      case atStart => exact ⟨0, Nat.zero_le _, rfl, rfl, rfl, Below.refl _ _⟩
      case round =>
        obtain ⟨i, hi, rfl, he, hh, hb⟩ := hrel
        have k1 : wr.cell? ⟨w.heap.size, 1, none⟩ = some (.slice A b1.length c) := by simp [World.cell?, hh, q0]
        have k2 : wr.cell? ⟨w.heap.size + 1, 1, none⟩ = some (.slice A2 b1.length c2) := by simp [World.cell?, hh, q1]
        by_cases hlt : i < b1.length
        · have hlt2 : i < b2.length := by omega
          obtain ⟨g1, o1, rfl, _, hg1, p1⟩ := bytes_open (hf'.agree (Agree.below hb)) (by omega)
          obtain ⟨g2, o2, rfl, _, hg2, p2⟩ := bytes_open (hg'.agree (Agree.below hb)) (by omega)
          have x1 := p1 i hlt
          have x2 := p2 i hlt2
          clear p1 p2
          have r1 : (0 : Int) ≤ (i : Int) := by omega
          have r2 : (i : Int) < (b1.length : Int) := by omega
          clear q0 q1
          go_wp2
          rename_i Q K hK
          go_region_held3 (fun W' => W'.cell? ⟨w.heap.size, 1, none⟩ = some (.slice (some ⟨g1, o1, none⟩) b1.length c) ∧ W'.cell? ⟨w.heap.size + 1, 1, none⟩ = some (.slice (some ⟨g2, o2, none⟩) b1.length c2) ∧ W'.cell? ⟨g1, o1 + i, none⟩ = some (.int .u8 (b1[i]).toNat) ∧ W'.cell? ⟨g2, o2 + i, none⟩ = some (.int .u8 (b2[i]).toNat))
            (exact ⟨k1, k2, x1, x2⟩) (fail)
          simp only [Exit.then]
          apply hK
          clear hK
          by_cases hbe : b1[i] = b2[i]
          · have hbn : ((b1[i]).toNat : Int) = ((b2[i]).toNat : Int) := by rw [hbe]
            go_wp2
            go_roundw
            case rel =>
              refine ⟨i + 1, by omega, by go_num, ?_, hh, hb.trans (Below.refl _ wr).drew⟩
              rw [List.take_succ_eq_append_getElem hlt, List.take_succ_eq_append_getElem hlt2, he, hbe]
            case measure => simp [intOf]; omega
          · have hbn : ((b1[i]).toNat : Int) ≠ ((b2[i]).toNat : Int) := by
              intro e
              exact hbe (UInt8.toNat_inj.1 (by omega))
            go_wp2
            go_ret
            refine ⟨?_, (hbl.trans (hb.mono hbl.size)).drew⟩
            rw [decide_eq_false (fun e => by simp only [Fl.mk.injEq, true_and] at e; subst e; exact hbe rfl)]
            rfl
        · have hie : i = b1.length := by omega
          subst hie
          go_wp2
          go_ret
          refine ⟨?_, hbl.trans (hb.mono hbl.size)⟩
          rw [List.take_of_length_le (Nat.le_refl _), List.take_of_length_le (by omega)] at he
          subst he
          simp
    · have hne : (b1.length : Int) ≠ (b2.length : Int) := by omega
      go_enter Try.func31, Try.ntmps31
      go_wp2
      go_ret
      refine ⟨?_, hbl⟩
      rw [decide_eq_false (fun e => by simp only [Fl.mk.injEq, true_and] at e; exact hn (by rw [e]))]
      rfl
  · go_enter Try.func31, Try.ntmps31
    go_wp2
    go_ret
    refine ⟨?_, hbl⟩
    rw [decide_eq_false (fun e => by simp only [Fl.mk.injEq] at e; exact hs e.1)]
    rfl

set_option maxRecDepth 100000 in
set_option maxHeartbeats 1000000 in
theorem samelist_any (ok : Ok) (l m : List Fl) (A A2 : Option Addr) (c c2 : Nat) (w : World) (hf : isSlice kFlash ok w (.slice A l.length c) l) (hg : isSlice kFlash ok w (.slice A2 m.length c2) m) (hl : l.length ≤ 1000000) (hlb : ∀ x ∈ l, x.bytes.length ≤ 1000000) :
    Calls Try.prog 38 #[.slice A l.length c, .slice A2 m.length c2] w fun e w' => e = .returned (.bool (decide (l = m))) ∧ Below w.heap.size w w' := by
  by_cases hn : l.length = m.length
  · rw [← hn] at hg ⊢
    have hn' := hn.symm
    clear hn
    go_enter Try.func38, Try.ntmps38
    go_wp2
    go_loopw [5] (fun iv wr => ∃ (i : Nat), i ≤ l.length ∧ iv = .int .i64 i ∧ l.take i = m.take i ∧ Below w.heap.size w wr) (fun iv _ => l.length - (intOf iv).toNat)
    case atStart => exact ⟨0, Nat.zero_le _, rfl, rfl, Below.refl _ _⟩
    case round =>
      obtain ⟨i, hi, rfl, he, hb⟩ := hrel
      by_cases hlt : i < l.length
      · have hlt2 : i < m.length := by omega
        obtain ⟨g1, o1, A3, c3, rfl, hg1, p1, p2, p3⟩ := slice_get (hf.agree (Agree.below hb)) i hlt
        obtain ⟨g2, o2, A4, c4, rfl, hg2, p4, p5, p6⟩ := slice_get (hg.agree (Agree.below hb)) i hlt2
        have r1 : (0 : Int) ≤ (i : Int) := by omega
        have r2 : (i : Int) < (l.length : Int) := by omega
        have HS := same_any ok l[i] m[i] A3 A4 c3 c4 wr.drew (p3.agree (Agree.drew _ _)) (p6.agree (Agree.drew _ _)) (hlb _ (List.getElem_mem _))
        generalize hx : l[i] = x at *
        generalize hy : m[i] = y at *
        obtain ⟨bb, hbb⟩ : ∃ bb, decide (x = y) = bb := ⟨_, rfl⟩
        rw [hbb] at HS
        have kS : ∀ W' : World, Below wr.heap.size wr W' → W'.cell? ⟨g1, o1 + i * 2, none⟩ = some (.int .i64 x.sector) ∧ W'.cell? ⟨g1, o1 + i * 2 + 1, none⟩ = some (.slice A3 x.bytes.length c3) ∧ W'.cell? ⟨g2, o2 + i * 2, none⟩ = some (.int .i64 y.sector) ∧ W'.cell? ⟨g2, o2 + i * 2 + 1, none⟩ = some (.slice A4 y.bytes.length c4) :=
          fun W' hb => ⟨(hb.cell (p := ⟨g1, o1 + i * 2, none⟩) hg1).trans p1, (hb.cell (p := ⟨g1, o1 + i * 2 + 1, none⟩) hg1).trans p2, (hb.cell (p := ⟨g2, o2 + i * 2, none⟩) hg2).trans p4, (hb.cell (p := ⟨g2, o2 + i * 2 + 1, none⟩) hg2).trans p5⟩
        clear p3 p6 hf hg
        go_wp2
        rename_i Q K hK
        go_region_held3 (fun W' => W'.cell? ⟨g1, o1 + i * 2, none⟩ = some (.int .i64 x.sector) ∧ W'.cell? ⟨g1, o1 + i * 2 + 1, none⟩ = some (.slice A3 x.bytes.length c3) ∧ W'.cell? ⟨g2, o2 + i * 2, none⟩ = some (.int .i64 y.sector) ∧ W'.cell? ⟨g2, o2 + i * 2 + 1, none⟩ = some (.slice A4 y.bytes.length c4))
          (first | exact kS _ (Below.refl _ _).drew | exact kS _ ((Below.refl _ _).drew.trans hb2))
          ((go_at_call 31; refine HS.mono ?_; rintro e w2 ⟨rfl, hb2⟩))
        simp only [Exit.then]
        apply hK
        clear hK HS kS
        have hb3 : Below w.heap.size w w2 := hb.trans (((Below.refl _ wr).drew.trans hb2).mono hb.size)
        cases bb with
        | true =>
          have hbe : x = y := of_decide_eq_true hbb
          clear hbb
          have hfin : l.take (i + 1) = m.take (i + 1) := by rw [List.take_succ_eq_append_getElem hlt, List.take_succ_eq_append_getElem hlt2, he, hx, hy, hbe]
          clear hbe hx hy he
          go_wp2
          go_roundw
          case rel => exact ⟨i + 1, by omega, by go_num, hfin, hb3⟩
          case measure => simp [intOf]; omega
        | false =>
          have hbe : ¬ l = m := by
            intro e
            subst e
            exact of_decide_eq_false hbb (hx.symm.trans hy)
          clear hbb hx hy he
          go_wp2
          go_ret
          refine ⟨?_, hb3⟩
          rw [decide_eq_false hbe]
          rfl
      · have hie : i = l.length := by omega
        subst hie
        go_wp2
        go_ret
        refine ⟨?_, hb⟩
        rw [List.take_of_length_le (Nat.le_refl _), List.take_of_length_le (by omega)] at he
        subst he
        simp
  · have hne : (l.length : Int) ≠ (m.length : Int) := by omega
    go_enter Try.func38, Try.ntmps38
    go_wp2
    go_ret
    refine ⟨?_, Below.refl _ _⟩
    rw [decide_eq_false (fun e => hn (by rw [e]))]
    rfl
end Go.Proofs.Ytdoehnnhbfmleaa
