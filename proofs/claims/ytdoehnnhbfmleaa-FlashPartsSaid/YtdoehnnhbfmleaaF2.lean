/-
  The iterator of package flash: it hands over the memory and then those after each step.
-/
import Derived.Test.YtdoehnnhbfmleaaF1
import Derived.Test.YtdoehnnhbfmleaaK
import Derived.RangeFuncBound
import Derived.Shelf.Abstract
import Derived.Shelf.RegionOpen
import Derived.OwnWalkIn
import Derived.TacticsInMore
import Derived.LoopNIn
import Derived.LoopIn
import Derived.StillTailTactics
namespace Go.Proofs.Ytdoehnnhbfmleaa
open Go Go.RowKit Go.Shelf
attribute [local go_sem] Oper.semAt_some

def kFlash : Kind Fl := (kI64.pair kBytes).iso (fun f => (f.sector, f.bytes))
def isFlash (ok : Ok) (W : World) (v : Value) (f : Fl) : Prop := ∃ A c, v = .agg #[.int .i64 f.sector, .slice A f.bytes.length c] ∧ isSlice kU8 ok W (.slice A f.bytes.length c) f.bytes

def zeroRow (n : Nat) : Array Value := ((List.replicate n (0 : UInt8)).map encB).toArray
theorem madeCells_zero (n : Nat) : madeCells #[.int .u8 0] n = zeroRow n := by
  apply Array.ext
  · simp [zeroRow, size_madeCells]
  · intro i h1 h2
    simp [madeCells, zeroRow, encB, Nat.mod_one]
theorem make_bytes (n : Nat) (hn : n ≤ 140737488355328) (W : World) : (Instr.makeSlice 22 (.int .i64 n) (.int .i64 n)).run Try.prog W = .ok (.slice (some ⟨W.heap.size, 0, none⟩) n n) (W.alloc (.cells (zeroRow n) 5)) := by
  have h : (Try.prog.info? 5).map (fun i => (i.zero, i.size, i.bytes)) = some (some (.int .u8 0), 1, 1) := by kernel_rfl
  obtain ⟨i0, hi, hz0, hz1, hz2⟩ := info_parts h
  have := run_make (P := Try.prog) W 22 5 i0 (.int .u8 0) Try.underlying22 hi hz0 .i64 .i64 n n (by omega) (Int.le_refl _) (by rw [hz2]; omega) (by omega)
  rw [hz1] at this
  simpa [Value.cells, madeCells_zero] using this

/-- What the iterator's own blocks hold. -/
structure ItSt (nx nb : Nat) (sec : Int) (cur : List UInt8) (W : World) : Prop where
  x : W.heap[nx]? = some (.cells #[.int .i64 sec, .slice (some ⟨nb, 0, none⟩) cur.length cur.length] 24 (0, 0))
  b : W.heap[nb]? = some (.cells (cur.map encB).toArray 5 (0, 0))

theorem ItSt.slice {nx nb : Nat} {sec : Int} {cur : List UInt8} {W : World} (h : ItSt nx nb sec cur W) : isSlice kU8 (fun k => k = nb) W (.slice (some ⟨nb, 0, none⟩) cur.length cur.length) cur :=
  isSlice.of_cells rfl (Nat.le_refl _) (reads_bytes _ _ cur) (fun j u hu => by
    rw [flatten_bytes] at hu
    simp [World.cell?, h.b, ← hu])

theorem encB_set (cur : List UInt8) (j : Nat) (b : UInt8) : (cur.map encB).set j (.int .u8 b.toNat) = (cur.set j b).map encB := by
  rw [List.map_set]; rfl
theorem ItSt.store {nx nb : Nat} {sec : Int} {cur : List UInt8} {W : World} (h : ItSt nx nb sec cur W) (hne : nx ≠ nb) (j : Nat) (b : UInt8) : ItSt nx nb sec (cur.set j b) (W.setCell ⟨nb, j, none⟩ (.int .u8 b.toNat)) where
  x := by
    rw [Below.heap_setCell _ _ _ _ hne, h.x]
    simp
  b := by
    simp only [World.setCell, Array.getElem?_modify, if_true, h.b, Option.map_some]
    simp [encB_set]
theorem ItSt.fill {nx nb : Nat} {sec : Int} {cur : List UInt8} {W : World} (h : ItSt nx nb sec cur W) (hne : nx ≠ nb) (cur' : List UInt8) (hl : cur'.length = cur.length) : ItSt nx nb sec cur' (W.setRow nb (cur'.map encB).toArray) where
  x := by
    rw [setRow_other _ _ _ _ hne, h.x, hl]
  b := setRow_heap _ _ _ _ _ _ h.b
theorem ItSt.keep {n₀ S nx nb : Nat} {sec : Int} {cur : List UInt8} {W W' : World} (h : ItSt nx nb sec cur W) (hx : S ≤ nx ∧ nx < S + 2) (hb : S ≤ nb ∧ nb < S + 2) (k : Keep n₀ S 2 W W') : ItSt nx nb sec cur W' where
  x := (k.priv _ hx.1 hx.2).trans h.x
  b := (k.priv _ hb.1 hb.2).trans h.b
theorem ItSt.below {nx nb : Nat} {sec : Int} {cur : List UInt8} {W W' : World} (h : ItSt nx nb sec cur W) (k : Below W.heap.size W W') : ItSt nx nb sec cur W' where
  x := (k.block _ (Array.getElem?_eq_some_iff.1 h.x).1).trans h.x
  b := (k.block _ (Array.getElem?_eq_some_iff.1 h.b).1).trans h.b
theorem Away.setRow {S m : Nat} (W : World) {g : Nat} (cs : Array Value) (h1 : S ≤ g) (h2 : g < S + m) : Away S m W (W.setRow g cs) :=
  ⟨rfl, rfl, rfl, by simp [World.setRow], fun k _ hn => setRow_other _ _ _ _ (fun e => hn (by omega))⟩

structure Given (n₀ bf bm bg ba : Nat) (sec : Int) (v0 : Value) (s many gB : Nat) (lbB : Array Value) (W : World) : Prop where
  fx : W.cell? ⟨bf, 0, none⟩ = some (.int .i64 sec)
  fb : W.cell? ⟨bf, 1, none⟩ = some v0
  m : W.cell? ⟨bm, 0, none⟩ = some (.int .i64 many)
  g : W.cell? ⟨bg, 0, none⟩ = some (.func (.func gB) #[] lbB)
  a : W.cell? ⟨ba, 0, none⟩ = some (.int .i64 s)
  lf : bf < n₀
  lm : bm < n₀
  lg : bg < n₀
  la : ba < n₀

theorem Given.below {n₀ bf bm bg ba : Nat} {sec : Int} {v0 : Value} {s many gB : Nat} {lbB : Array Value} {W W' : World} (h : Given n₀ bf bm bg ba sec v0 s many gB lbB W) (hb : Below n₀ W W') : Given n₀ bf bm bg ba sec v0 s many gB lbB W' :=
  ⟨(hb.cell (p := ⟨bf, 0, none⟩) h.lf).trans h.fx, (hb.cell (p := ⟨bf, 1, none⟩) h.lf).trans h.fb, (hb.cell (p := ⟨bm, 0, none⟩) h.lm).trans h.m, (hb.cell (p := ⟨bg, 0, none⟩) h.lg).trans h.g, (hb.cell (p := ⟨ba, 0, none⟩) h.la).trans h.a, h.lf, h.lm, h.lg, h.la⟩

set_option maxRecDepth 100000 in
set_option maxHeartbeats 1000000 in
theorem it_loop (n₀ bf bm bg ba : Nat) (sec : Int) (v0 : Value) (s many gB : Nat) (lbB : Array Value) (g : Nat → UInt8 → UInt8) (bs : List UInt8) (hl : bs.length ≤ 16384) (hsm : s + many ≤ bs.length)
   (w : World) (hG : Given n₀ bf bm bg ba sec v0 s many gB lbB w)
   (heg : ∀ args w, (callFunc gB args).run Try.prog w = .ok (.enter gB args) w)
   (hB : ∀ (i : Nat) (old : UInt8) (W' : World), i < many → Below n₀ w W' → Calls Try.prog gB (#[.int .i64 i, .int .u8 old.toNat] ++ lbB) W' (fun e w' => e = .returned (.int .u8 (g i old).toNat) ∧ W' = w'))
   (l S : Nat) (hS : n₀ ≤ S) (go : Nat → Bool) (hgo : ∀ i, go i = true) (J : Nat → World → Prop) (hJ : ∀ i, Stab S 2 (J i))
   (hY : ∀ (i : Nat) (x : Fl) (vs : Array Value) (W0 W1 : World), J i W0 → S + 2 ≤ W0.heap.size → Away S 2 W0 W1 → (∀ j, j < i → go j = true) → (steps ⟨sec, bs⟩ s many g)[i]? = some x → (∃ v, vs = #[v] ∧ isFlash (fun k => W0.heap.size ≤ k) W1 v x) → YieldAt Fence.wide 0 Try.prog l vs W1 fun e W' => e = .returned (.bool (go i)) ∧ J (i + 1) W' ∧ Keep n₀ S 2 W1 W')
   (A : Option Addr) (c : Nat) (hv0 : v0 = .slice A bs.length c) (ok : Ok) (hok : ∀ k, ok k → k < n₀) (h0 : isSlice kU8 ok w (.slice A bs.length c) bs)
   (W : World) (hW1 : S ≤ W.heap.size) (hW2 : W.heap.size ≤ S) (hbW : Below n₀ w W) (hJ0 : J 0 W) :
    CallsIn Fence.wide 0 Try.prog 135 #[.func (.yield l) #[] #[], .pointer (some ⟨bf, 0, none⟩), .pointer (some ⟨bm, 0, none⟩), .pointer (some ⟨bg, 0, none⟩), .pointer (some ⟨ba, 0, none⟩)] W fun e W' => (∃ v, e = .returned v) ∧ ∃ k, Ran go (many + 1) k ∧ J k W' := by
  subst hv0
  have HG := hG.below hbW
  have h1 := HG.fx
  have h2 := HG.fb
  have hlf := hG.lf
  have g1 : ∀ o, (W.alloc o).cell? ⟨bf, 0, none⟩ = some (.int .i64 sec) := fun o => by rw [World.cell?_alloc_past _ _ _ (cell_lt h1)]; exact h1
  have g2 : ∀ o, (W.alloc o).cell? ⟨bf, 1, none⟩ = some (.slice A bs.length c) := fun o => by rw [World.cell?_alloc_past _ _ _ (cell_lt h1)]; exact h2
  have g11 : ∀ o o', ((W.alloc o).alloc o').cell? ⟨bf, 0, none⟩ = some (.int .i64 sec) := fun o o' => by rw [World.cell?_alloc_past _ _ _ (by have := cell_lt h1; simp at this ⊢; omega)]; exact g1 o
  have g22 : ∀ o o', ((W.alloc o).alloc o').cell? ⟨bf, 1, none⟩ = some (.slice A bs.length c) := fun o o' => by rw [World.cell?_alloc_past _ _ _ (by have := cell_lt h1; simp at this ⊢; omega)]; exact g2 o
  have hmk := make_bytes bs.length (by omega)
  have hmix : Try.prog.follows .mixedOrders = true := by kernel_rfl
  refine callsIn_of_wp Try.func135 rfl trivial ?_ rfl
  simp only [Try.ntmps135, List.size_toArray, List.length_cons, List.length_nil, Nat.reduceAdd, Nat.reduceSub, Array.replicate_succ, Array.replicate_zero, List.push_toArray, List.append_toArray, List.nil_append, List.cons_append]
  gi_wp2
  rename_i Q' K hK
  have key : ∀ (nx nb : Nat) (W1 : World), S ≤ nx ∧ nx < S + 2 → S ≤ nb ∧ nb < S + 2 → nx ≠ nb → ItSt nx nb sec (List.replicate bs.length 0) W1 → Below n₀ w W1 → J 0 W1 → K (⟨#[Value.func (Fn.yield l) #[] #[], Value.pointer (some ⟨bf, 0, none⟩), Value.pointer (some ⟨bm, 0, none⟩), Value.pointer (some ⟨bg, 0, none⟩), Value.pointer (some ⟨ba, 0, none⟩), undef, Value.pointer (some ⟨nx, 0, none⟩), undef, Value.pointer (some ⟨bf, 0, none⟩), Value.int IntKind.i64 sec, Value.pointer (some ⟨bf, 1, none⟩), Value.slice A bs.length c, Value.int IntKind.i64 ↑bs.length, Value.slice (some ⟨nb, 0, none⟩) bs.length bs.length, Value.agg #[Value.int IntKind.i64 sec, Value.slice (some ⟨nb, 0, none⟩) bs.length bs.length], undef, undef, undef, undef, undef, undef, undef, undef, undef, undef, undef, undef, undef, undef, undef, undef, undef, undef, undef, undef, undef, undef, undef, undef, undef, undef, undef, undef, undef, undef, undef, undef, undef, undef, undef, undef], []⟩ : Act) W1.drew := by
    clear hmk g1 g2 g11 g22 h1 h2
    intro nx nb W1 hnx hnb hne hst hbl hj0
    have q2 : W1.cell? ⟨nx, 1, none⟩ = some (.slice (some ⟨nb, 0, none⟩) bs.length bs.length) := by simp [World.cell?, hst.x]
    have q3 := (hG.below hbl).fb
    have hcp := run_copy_bytes (P := Try.prog) (ty := 3) W1.drew elem22 (g := nb) (o := 0) (dl := bs.length) (dc := bs.length) (cur := List.replicate bs.length 0) (xs := bs) (ok := ok) (xv := .slice A bs.length c) hst.b (by simp) ((h0.agree (Agree.of_below hbl (fun k hk _ => hok k hk))).agree (Agree.drew _ _))
    rw [Nat.min_self, spliceB_all _ _ (by simp)] at hcp
    apply hK
    clear hK
    gi_wp2
    gi_loopw [7] (fun v wr => ∃ i : Nat, i ≤ many ∧ v = .int .i64 i ∧ (∀ j, j < i → go j = true) ∧ J i wr ∧ ItSt nx nb sec (upd bs s i g) wr ∧ Below n₀ w wr) (fun v _ => many - (intOf v).toNat)
    case atStart =>
      refine ⟨0, Nat.zero_le _, rfl, fun j hj => absurd hj (Nat.not_lt_zero _), hJ 0 _ _ hj0 ((Away.drew W1).trans (Away.setRow _ _ hnb.1 hnb.2)), ?_, (hbl.trans (Below.refl _ _).drew).trans (below_setRow (Below.refl _ _) (by omega) _)⟩
      rw [upd_zero]
      exact (hst.below (Below.refl _ _).drew).fill hne bs (by simp)
    case round =>
      obtain ⟨i, hi, rfl, hall, hj, hs, hbl⟩ := hrel
      clear hcp q2 q3
      have hcl : (upd bs s i g).length = bs.length := upd_length ..
      have hul := hs.slice
      rw [hcl] at hul
      have r1 : wr.cell? ⟨nx, 0, none⟩ = some (.int .i64 sec) := by simp [World.cell?, hs.x]
      have r2 : wr.cell? ⟨nx, 1, none⟩ = some (.slice (some ⟨nb, 0, none⟩) bs.length bs.length) := by simp [World.cell?, hs.x]
      have hnxl : nx < wr.heap.size := (Array.getElem?_eq_some_iff.1 hs.x).1
      have hsz : S + 2 ≤ wr.heap.size := by
        have e1 := (Array.getElem?_eq_some_iff.1 hs.b).1
        omega
      have CL : CallsIn Fence.wide 0 Try.prog 111 #[.slice (some ⟨nb, 0, none⟩) bs.length bs.length] wr.drew fun e w' => ∃ A' c', e = .returned (.slice A' bs.length c') ∧ isSlice kU8 (fun k => wr.heap.size ≤ k) w' (.slice A' bs.length c') (upd bs s i g) ∧ Below wr.heap.size wr.drew w' := by
        have := callsIn_wide (n := 0).2 (clone_any _ _ _ _ _ wr.drew (hul.agree (Agree.drew _ _)) (by omega))
        rw [hcl] at this
        exact this
      have hget : (steps ⟨sec, bs⟩ s many g)[i]? = some ⟨sec, upd bs s i g⟩ := by
        rw [List.getElem?_eq_getElem (by simp; omega), steps_get]
      gi_wp2
      rename_i Q2 K2 hK2 K3 hK3
      have key2 : ∀ (x25 x26 : Value) (W3 : World), J (i + 1) W3 → ItSt nx nb sec (upd bs s i g) W3 → Below n₀ w W3 → K3 (⟨#[Value.func (Fn.yield l) #[] #[], Value.pointer (some ⟨bf, 0, none⟩), Value.pointer (some ⟨bm, 0, none⟩), Value.pointer (some ⟨bg, 0, none⟩), Value.pointer (some ⟨ba, 0, none⟩), undef, Value.pointer (some ⟨nx, 0, none⟩), Value.int IntKind.i64 ↑i, Value.pointer (some ⟨bf, 0, none⟩), Value.int IntKind.i64 sec, Value.pointer (some ⟨bf, 1, none⟩), Value.slice A bs.length c, Value.int IntKind.i64 ↑bs.length, Value.slice (some ⟨nb, 0, none⟩) bs.length bs.length, Value.agg #[Value.int IntKind.i64 sec, Value.slice (some ⟨nb, 0, none⟩) bs.length bs.length], Value.pointer (some ⟨nx, 1, none⟩), Value.slice (some ⟨nb, 0, none⟩) bs.length bs.length, Value.pointer (some ⟨bf, 1, none⟩), Value.slice A bs.length c, Value.int IntKind.i64 ↑bs.length, Value.func (Fn.yield l) #[] #[], Value.pointer (some ⟨nx, 0, none⟩), Value.int IntKind.i64 sec, Value.pointer (some ⟨nx, 1, none⟩), Value.slice (some ⟨nb, 0, none⟩) bs.length bs.length, x25, x26, Value.bool true, Value.bool true, Value.int IntKind.i64 ↑i, Value.int IntKind.i64 ↑many, Value.bool (decide (i < many)), Value.bool (decide (i < many)), u33, u34, u35, u36, u37, u38, u39, u40, u41, u42, u43, u44, u45, u46, u47, u48, u49, u50], []⟩ : Act) W3 := by
        clear CL r1 r2 hul hj hs hget
        intro x25 x26 W3 hj3 hs3 hb3
        have HG3 := hG.below hb3
        have r1 := HG3.g
        have r2 := HG3.a
        have r3 : W3.cell? ⟨nx, 1, none⟩ = some (.slice (some ⟨nb, 0, none⟩) bs.length bs.length) := by simp [World.cell?, hs3.x]
        apply hK3
        clear hK3
        by_cases hlt : i < many
        · have hlt' : s + i < (upd bs s i g).length := by rw [hcl]; omega
          have r4 : W3.cell? ⟨nb, s + i, none⟩ = some (.int .u8 ((upd bs s i g)[s + i]).toNat) := by
            simp only [World.cell?, hs3.b]
            simp [encB, List.getElem?_eq_getElem hlt']
          have r5 : W3.frozen? ⟨nb, s + i, none⟩ = false := by simp [World.frozen?, hs3.b]
          have CB := (hB i ((upd bs s i g)[s + i]) W3.drew hlt (hb3.trans (Below.refl _ _).drew)).mono (R' := fun e w'' => e = .returned (.int .u8 (g i ((upd bs s i g)[s + i])).toNat) ∧ w'' = W3.drew) (fun e w' h => ⟨h.1, h.2.symm⟩)
          have q1 : IntKind.i64.wrap ((s : Int) + (i : Int)) = (s : Int) + i := IntWalk.i64_in _ (by omega)
          have q2 : 0 ≤ (s : Int) + i := by omega
          have q3 : (s : Int) + i < (bs.length : Int) := by omega
          have q4 : ((s : Int) + i).toNat = s + i := by omega
          gi_wp2
          refine wpIn_wide.2 ?_
          refine wp_region_still_tail 15 hmix (by kernel_rfl) ?_
          simp only [List.take_succ_cons, List.take_zero, List.drop_succ_cons, List.drop_zero]
          change wpStill _ _ W3.drew (fun a' => wpList _ _ _ _ a' W3.drew) _ _
          repeat still_step
          still_call CB
          repeat still_step
          refine wpStill_nil ?_
          clear CB
          go_wp2
          gi_wp2
          go_roundw
          case rel =>
            refine ⟨i + 1, by omega, by go_num, fun j hj => hgo j, hJ _ _ _ hj3 ((Away.drew W3).trans (Away.setCell _ _ hnb.1 hnb.2)), ?_, (hb3.trans (Below.refl _ _).drew).trans ((Below.refl _ _).setCell (p := ⟨nb, s + i, none⟩) (by show n₀ ≤ nb; omega) _)⟩
            rw [upd_succ _ _ _ _ (by omega), ← upd_at bs s i g (by omega)]
            exact (hs3.below (Below.refl _ _).drew).store hne _ _
          case measure => simp [intOf]; omega
        · gi_wp2
          go_end0
          refine ⟨⟨_, rfl⟩, i + 1, ⟨by omega, fun j _ => hgo j, fun h => absurd h (by omega)⟩, hj3⟩
      clear hK3
      gi_region_with_o (first
        | (refine ⟨trivial, rfl, ?_⟩; gi_at_call 111; refine CL.mono ?_; rintro e w1 ⟨A', c', rfl, hc1, hb1⟩; have r3 : w1.cell? ⟨nx, 0, none⟩ = some (.int .i64 sec) := (hb1.cell (p := ⟨nx, 0, none⟩) hnxl).trans r1; obtain ⟨fn, tmps, assign, body, hy, hR⟩ := hY i ⟨sec, upd bs s i g⟩ #[.agg #[.int .i64 sec, .slice A' bs.length c']] wr w1 hj hsz ((Away.drew wr).trans (Away.of_below hb1 _ _)) hall hget ⟨_, rfl, A', c', by rw [hcl], by rw [hcl]; exact hc1⟩; rw [hgo i] at hR)
        | (refine ⟨rfl, ?_⟩; refine hR.mono ?_; clear hy hR; rintro e W3 ⟨rfl, hj3, hk3⟩; have hbl3 : Below n₀ w W3 := hbl.trans (((Below.refl n₀ wr).drew.trans (hb1.mono (by omega))).trans ⟨hk3.os, hk3.tape, hk3.output, hk3.size, hk3.low⟩); have r4 : W3.cell? ⟨bm, 0, none⟩ = some (.int .i64 many) := (hG.below hbl3).m))
      all_goals clear CL
      all_goals go_simp
      all_goals refine key2 _ _ _ hj3 ?_ hbl3
      all_goals exact ((hs.below (Below.refl _ _).drew).below hb1).keep hnx hnb hk3
  gi_region
  all_goals simp only [Exit.then]
  · refine key (W.heap.size + 1) W.heap.size _ (by omega) (by omega) (by omega) ⟨?_, ?_⟩ ?_ ?_
    · simp only [List.length_replicate]
      have := World.alloc_heap_new (W.alloc (.cells (zeroRow bs.length) 5)) (.cells #[.int .i64 sec, .slice (some ⟨W.heap.size, 0, none⟩) bs.length bs.length] 24)
      rwa [World.size_alloc] at this
    · rw [Below.heap_alloc _ _ _ (by simp)]
      exact World.alloc_heap_new W _
    · exact hbW.trans (((Below.refl n₀ W).alloc (by omega) _).alloc (by simp; omega) _)
    · exact hJ 0 _ _ hJ0 ((Away.alloc _ _).trans (Away.alloc _ _))
  · refine key W.heap.size (W.heap.size + 1) _ (by omega) (by omega) (by omega) ⟨?_, ?_⟩ ?_ ?_
    · simp only [List.length_replicate]
      rw [Below.heap_alloc _ _ _ (by simp)]
      exact World.alloc_heap_new W _
    · have := World.alloc_heap_new (W.alloc (.cells #[.int .i64 sec, .slice (some ⟨W.heap.size + 1, 0, none⟩) bs.length bs.length] 24)) (.cells (zeroRow bs.length) 5)
      rwa [World.size_alloc] at this
    · exact hbW.trans (((Below.refl n₀ W).alloc (by omega) _).alloc (by simp; omega) _)
    · exact hJ 0 _ _ hJ0 ((Away.alloc _ _).trans (Away.alloc _ _))

/-- What the iterator hands to yield. -/
def FlY (N : Nat) (x : Fl) (vs : Array Value) (W : World) : Prop := ∃ v, vs = #[v] ∧ isFlash (fun k => N ≤ k) W v x

theorem it_seq (n₀ bf bm bg ba : Nat) (sec : Int) (s many gB : Nat) (lbB : Array Value) (g : Nat → UInt8 → UInt8) (bs : List UInt8) (hl : bs.length ≤ 16384) (hsm : s + many ≤ bs.length)
   (A : Option Addr) (c : Nat) (w : World) (hG : Given n₀ bf bm bg ba sec (.slice A bs.length c) s many gB lbB w)
   (heg : ∀ args w, (callFunc gB args).run Try.prog w = .ok (.enter gB args) w)
   (hB : ∀ (i : Nat) (old : UInt8) (W' : World), i < many → Below n₀ w W' → Calls Try.prog gB (#[.int .i64 i, .int .u8 old.toNat] ++ lbB) W' (fun e w' => e = .returned (.int .u8 (g i old).toNat) ∧ W' = w'))
   (ok : Ok) (hok : ∀ k, ok k → k < n₀) (h0 : isSlice kU8 ok w (.slice A bs.length c) bs) (hn₀ : n₀ ≤ w.heap.size) :
    SeqP Try.prog 135 #[.pointer (some ⟨bf, 0, none⟩), .pointer (some ⟨bm, 0, none⟩), .pointer (some ⟨bg, 0, none⟩), .pointer (some ⟨ba, 0, none⟩)] (steps ⟨sec, bs⟩ s many g) FlY (fun go => ∀ i, go i = true) n₀ 2 w := by
  intro l go J W hgo hW hn hJ hY hJ0
  have := it_loop n₀ bf bm bg ba sec _ s many gB lbB g bs hl hsm w hG heg hB l W.heap.size (by have := hW.size; omega) go hgo J hJ
    (fun i x vs W0 W1 h1 h2 h3 h4 h5 h6 => hY i x vs W0 W1 h1 h2 h3 h4 h5 h6) A c rfl ok hok h0 W (Nat.le_refl _) (Nat.le_refl _) (hW.mono hn) hJ0
  rw [steps_length]
  exact this

end Go.Proofs.Ytdoehnnhbfmleaa
