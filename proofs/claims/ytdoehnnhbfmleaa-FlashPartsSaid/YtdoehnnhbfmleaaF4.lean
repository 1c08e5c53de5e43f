/-
  Package flash: Valid, Program and Erase.
-/
import Derived.Test.YtdoehnnhbfmleaaF3
import Derived.Deep.RegionWith
import Derived.Deep.RegionHeld3
import Derived.BigGuardPart
namespace Go.Proofs.Ytdoehnnhbfmleaa
open Go Go.RowKit Go.Shelf

/-- A memory as a value. -/
def flV (f : Fl) (A : Option Addr) (c : Nat) : Value := .agg #[.int .i64 f.sector, .slice A f.bytes.length c]

theorem valid_eq (f : Fl) : valid f = decide (1 ≤ f.sector ∧ f.sector ≤ 1024 ∧ f.sector ≤ (f.bytes.length : Int) ∧ (f.bytes.length : Int) ≤ 16384 ∧ (f.bytes.length : Int) % f.sector = 0) := rfl

set_option maxHeartbeats 400000 in
theorem valid_any (f : Fl) (A : Option Addr) (c : Nat) (w : World) :
    Calls Try.prog 36 #[.agg #[.int .i64 f.sector, .slice A f.bytes.length c]] w fun e w' => e = .returned (.bool (valid f)) ∧ w' = w.alloc (.cells #[.int .i64 f.sector, .slice A f.bytes.length c] 24) := by
  rw [valid_eq]
  obtain ⟨s, b⟩ := f
  obtain ⟨n, hn⟩ : ∃ n, n = b.length := ⟨_, rfl⟩
  simp only [← hn]
  clear hn
  go_enter Try.func36, Try.ntmps36
  go_wp2
  all_goals go_ret
  all_goals refine ⟨?_, rfl⟩
  all_goals simp
  all_goals first | omega | (rw [Bool.eq_iff_iff]; simp)

set_option maxHeartbeats 400000 in
theorem rvalid_any (f : Fl) (A : Option Addr) (c : Nat) (w : World) :
    Calls Try.prog 37 #[.agg #[.int .i64 f.sector, .slice A f.bytes.length c]] w fun e w' => e = .returned (.bool (valid f)) ∧ w' = w.alloc (.cells #[.int .i64 f.sector, .slice A f.bytes.length c] 24) := by
  rw [valid_eq]
  obtain ⟨s, b⟩ := f
  obtain ⟨n, hn⟩ : ∃ n, n = b.length := ⟨_, rfl⟩
  simp only [← hn]
  clear hn
  go_enter Try.func37, Try.ntmps37
  go_wp2
  all_goals go_ret
  all_goals refine ⟨?_, rfl⟩
  all_goals simp
  all_goals first | omega | (rw [Bool.eq_iff_iff]; simp; omega)

/-- A list of memories, all new, and the number of an error. -/
def LRes (w : World) (l : List Fl) (err : Int) (e : Ending) (w' : World) : Prop :=
  ∃ A c, e = .returned (.tuple #[.slice A l.length c, .int .i64 err]) ∧ isSlice kFlash (fun k => w.heap.size ≤ k) w' (.slice A l.length c) l ∧ Below w.heap.size w w'

theorem LRes.none (w w' : World) (err : Int) (hb : Below w.heap.size w w') : LRes w [] err (.returned (.tuple #[.slice none 0 0, .int .i64 err])) w' := ⟨Option.none, 0, rfl, isSlice.nil _ _ _ _ _, hb⟩

/-- The four boxes of 'steps', and what 'collect' makes of them. -/
theorem collect_steps (ok : Ok) (f : Fl) (A : Option Addr) (c : Nat) (s many gB : Nat) (lbB : Array Value) (g : Nat → UInt8 → UInt8) (W : World) (hf : isSlice kU8 ok W (.slice A f.bytes.length c) f.bytes) (hl : f.bytes.length ≤ 16384) (hfit : s + many ≤ f.bytes.length)
    (heg : ∀ args w, (callFunc gB args).run Try.prog w = .ok (.enter gB args) w)
    (hB : ∀ (i : Nat) (old : UInt8) (W' : World), i < many → Below W.heap.size W W' → Calls Try.prog gB (#[.int .i64 i, .int .u8 old.toNat] ++ lbB) W' (fun e w' => e = .returned (.int .u8 (g i old).toNat) ∧ W' = w')) :
    Calls Try.prog 88 #[.func (.func 135) #[] #[.pointer (some ⟨W.heap.size, 0, none⟩), .pointer (some ⟨W.heap.size + 2, 0, none⟩), .pointer (some ⟨W.heap.size + 3, 0, none⟩), .pointer (some ⟨W.heap.size + 1, 0, none⟩)], .int .i64 (many + 1)]
      ((((W.alloc (.cells #[.int .i64 f.sector, .slice A f.bytes.length c] 24)).alloc (.cells #[.int .i64 s] 3)).alloc (.cells #[.int .i64 many] 3)).alloc (.cells #[.func (.func gB) #[] lbB] 102)).drew
      fun e w' => ∃ A' c', e = .returned (.slice A' (steps f s many g).length c') ∧ isSlice kFlash (fun k => W.heap.size ≤ k) w' (.slice A' (steps f s many g).length c') (steps f s many g) ∧ Below W.heap.size W w' := by
  have hb1 : Below W.heap.size W ((((W.alloc (.cells #[.int .i64 f.sector, .slice A f.bytes.length c] 24)).alloc (.cells #[.int .i64 s] 3)).alloc (.cells #[.int .i64 many] 3)).alloc (.cells #[.func (.func gB) #[] lbB] 102)).drew :=
    (((((Below.refl _ W).alloc (Nat.le_refl _) _).alloc (by simp) _).alloc (by simp; omega) _).alloc (by simp; omega) _).drew
  have hsz : ((((W.alloc (.cells #[.int .i64 f.sector, .slice A f.bytes.length c] 24)).alloc (.cells #[.int .i64 s] 3)).alloc (.cells #[.int .i64 many] 3)).alloc (.cells #[.func (.func gB) #[] lbB] 102)).drew.heap.size = W.heap.size + 4 := by simp
  have hG : Given (W.heap.size + 4) W.heap.size (W.heap.size + 2) (W.heap.size + 3) (W.heap.size + 1) f.sector (.slice A f.bytes.length c) s many gB lbB ((((W.alloc (.cells #[.int .i64 f.sector, .slice A f.bytes.length c] 24)).alloc (.cells #[.int .i64 s] 3)).alloc (.cells #[.int .i64 many] 3)).alloc (.cells #[.func (.func gB) #[] lbB] 102)).drew :=
    ⟨by simp only [World.cell?, heap_drew_get, heap_alloc_get, World.size_alloc, Nat.add_assoc, Nat.reduceAdd]; simp, by simp only [World.cell?, heap_drew_get, heap_alloc_get, World.size_alloc, Nat.add_assoc, Nat.reduceAdd]; simp, by simp only [World.cell?, heap_drew_get, heap_alloc_get, World.size_alloc, Nat.add_assoc, Nat.reduceAdd]; simp, by simp only [World.cell?, heap_drew_get, heap_alloc_get, World.size_alloc, Nat.add_assoc, Nat.reduceAdd]; simp, by simp only [World.cell?, heap_drew_get, heap_alloc_get, World.size_alloc, Nat.add_assoc, Nat.reduceAdd]; simp, by omega, by omega, by omega, by omega⟩
  generalize ((((W.alloc (.cells #[.int .i64 f.sector, .slice A f.bytes.length c] 24)).alloc (.cells #[.int .i64 s] 3)).alloc (.cells #[.int .i64 many] 3)).alloc (.cells #[.func (.func gB) #[] lbB] 102)).drew = W1 at *
  have hseq := it_seq (W.heap.size + 4) W.heap.size (W.heap.size + 2) (W.heap.size + 3) (W.heap.size + 1) f.sector s many gB lbB g f.bytes hl hfit A c W1 hG heg
    (fun i old W' hi hb => hB i old W' hi (hb1.trans (hb.mono (by omega)))) (fun k => ok k ∧ k < W.heap.size) (fun k hk => by omega) (hf.bound.agree (Agree.below hb1)) (by omega)
  have hc := collect_any 135 _ (steps ⟨f.sector, f.bytes⟩ s many g) (W.heap.size + 4) 2 (many + 1) (by omega) (by simp; omega) W1 (by omega) (enters_of Try.func135 (by kernel_rfl) rfl) hseq
  refine hc.mono ?_
  rintro e w' ⟨A', c', rfl, hs, hb⟩
  exact ⟨A', c', rfl, hs.mono (fun k hk => by omega), hb1.trans (hb.mono (by omega))⟩

set_option maxRecDepth 100000 in
set_option maxHeartbeats 1000000 in
theorem program_ok (ok : Ok) (f : Fl) (A : Option Addr) (c : Nat) (at_ : Nat) (data : List UInt8) (A2 : Option Addr) (c2 : Nat) (w : World) (hf : isSlice kU8 ok w (.slice A f.bytes.length c) f.bytes) (hd : isSlice kU8 ok w (.slice A2 data.length c2) data)
    (hv : valid f = true) (hfit : at_ + data.length ≤ f.bytes.length) (hl : f.bytes.length ≤ 16384) :
    Calls Try.prog 32 #[.agg #[.int .i64 f.sector, .slice A f.bytes.length c], .int .i64 at_, .slice A2 data.length c2] w (LRes w (steps f at_ data.length (andWith data)) 0) := by
  have hmf : ∀ (fn : Fn) (first cap : Array Value) (w : World), (Instr.makeFunc fn first cap).run Try.prog w = .ok (.func fn first cap) w := fun _ _ _ _ => rfl
  go_enter Try.func32, Try.ntmps32
  go_wp2_with (go_at_call 36; refine (valid_any _ _ _ _).mono ?_; rintro e w' ⟨rfl, rfl⟩; rw [hv])
  have hb0 : Below w.heap.size w (((w.alloc (.cells #[.int .i64 f.sector, .slice A f.bytes.length c] 24)).alloc (.cells #[.slice A2 data.length c2] 22)).alloc (.cells #[.int .i64 f.sector, .slice A f.bytes.length c] 24)) :=
    (((Below.refl _ w).alloc (Nat.le_refl _) _).alloc (by simp) _).alloc (by simp; omega) _
  have q0 : (((w.alloc (.cells #[.int .i64 f.sector, .slice A f.bytes.length c] 24)).alloc (.cells #[.slice A2 data.length c2] 22)).alloc (.cells #[.int .i64 f.sector, .slice A f.bytes.length c] 24)).heap[w.heap.size]? = some (.cells #[.int .i64 f.sector, .slice A f.bytes.length c] 24 (0, 0)) := by
    rw [Below.heap_alloc _ _ _ (by simp; omega), Below.heap_alloc _ _ _ (by simp)]; exact World.alloc_heap_new w _
  have q1 : (((w.alloc (.cells #[.int .i64 f.sector, .slice A f.bytes.length c] 24)).alloc (.cells #[.slice A2 data.length c2] 22)).alloc (.cells #[.int .i64 f.sector, .slice A f.bytes.length c] 24)).heap[w.heap.size + 1]? = some (.cells #[.slice A2 data.length c2] 22 (0, 0)) := by
    rw [Below.heap_alloc _ _ _ (by simp)]
    have := World.alloc_heap_new (w.alloc (.cells #[.int .i64 f.sector, .slice A f.bytes.length c] 24)) (.cells #[.slice A2 data.length c2] 22)
    rwa [World.size_alloc] at this
  generalize (((w.alloc (.cells #[.int .i64 f.sector, .slice A f.bytes.length c] 24)).alloc (.cells #[.slice A2 data.length c2] 22)).alloc (.cells #[.int .i64 f.sector, .slice A f.bytes.length c] 24)) = W at *
  have hlt : w.heap.size + 1 < W.heap.size := (Array.getElem?_eq_some_iff.1 q1).1
  have HC := collect_steps (fun k => ok k ∧ k < w.heap.size) f A c at_ data.length 87 #[.pointer (some ⟨w.heap.size + 1, 0, none⟩)] (andWith data) W (hf.bound.agree (Agree.below hb0)) hl hfit (enters_of Try.func87 (by kernel_rfl) rfl) (by
    intro i old W' hi hb
    have e1 : W'.cell? ⟨w.heap.size + 1, 0, none⟩ = some (.slice A2 data.length c2) := by
      rw [hb.cell (p := ⟨w.heap.size + 1, 0, none⟩) hlt]; simp [World.cell?, q1]
    have e2 : andWith data i old = old &&& data[i] := by simp [andWith, List.getElem?_eq_getElem hi]
    rw [e2]
    exact and_any _ _ _ _ _ data i old W' hi (by omega) e1 ((hd.bound.agree (Agree.below hb0)).bound.agree (Agree.below hb)))
  have k0 : W.cell? ⟨w.heap.size + 1, 0, none⟩ = some (.slice A2 data.length c2) := by simp [World.cell?, q1]
  have k2 : W.cell? ⟨w.heap.size, 0, none⟩ = some (.int .i64 f.sector) := by simp [World.cell?, q0]
  have k3 : W.cell? ⟨w.heap.size, 1, none⟩ = some (.slice A f.bytes.length c) := by simp [World.cell?, q0]
  have k4 : IntKind.i64.wrap ((data.length : Int) + 1) = (data.length : Int) + 1 := IntWalk.i64_in _ (by omega)
  have kS : ∀ W' : World, Below W.heap.size W W' → W'.cell? ⟨w.heap.size, 0, none⟩ = some (.int .i64 f.sector) ∧ W'.cell? ⟨w.heap.size, 1, none⟩ = some (.slice A f.bytes.length c) ∧ W'.cell? ⟨w.heap.size + 1, 0, none⟩ = some (.slice A2 data.length c2) :=
    fun W' hb => ⟨(hb.cell (p := ⟨w.heap.size, 0, none⟩) (by show w.heap.size < _; omega)).trans k2, (hb.cell (p := ⟨w.heap.size, 1, none⟩) (by show w.heap.size < _; omega)).trans k3, (hb.cell (p := ⟨w.heap.size + 1, 0, none⟩) hlt).trans k0⟩
  have hb4 : ∀ o1 o2 o3 o4, Below W.heap.size W ((((W.alloc o1).alloc o2).alloc o3).alloc o4).drew := fun o1 o2 o3 o4 => (((((Below.refl _ W).alloc (Nat.le_refl _) _).alloc (by simp) _).alloc (by simp; omega) _).alloc (by simp; omega) _).drew
  go_region_held3 (fun W' => W'.cell? ⟨w.heap.size, 0, none⟩ = some (.int .i64 f.sector) ∧ W'.cell? ⟨w.heap.size, 1, none⟩ = some (.slice A f.bytes.length c) ∧ W'.cell? ⟨w.heap.size + 1, 0, none⟩ = some (.slice A2 data.length c2))
    (first | exact kS _ (Below.refl _ _).drew | exact kS _ (hb4 _ _ _ _) | exact kS _ hb)
    (first
    | (go_at_call 89; refine (steps_any _ _ _ _ _ ⟨_, _, rfl⟩ ⟨_, _, _, rfl⟩).mono ?_; rintro e w' ⟨rfl, rfl⟩)
    | (go_at_call 88; refine HC.mono ?_; rintro e w' ⟨A', c', rfl, hs, hb⟩))
  go_wp2
  go_ret2
  exact ⟨A', c', by simp, hs.mono (fun k hk => by have := hb0.size; omega), hb0.trans (hb.mono hb0.size)⟩

set_option maxRecDepth 100000 in
set_option maxHeartbeats 1000000 in
theorem program_bad (f : Fl) (A : Option Addr) (c : Nat) (at_ : Int) (n : Nat) (A2 : Option Addr) (c2 : Nat) (w : World) (hbad : valid f = false ∨ (valid f = true ∧ at_ < 0)) :
    Calls Try.prog 32 #[.agg #[.int .i64 f.sector, .slice A f.bytes.length c], .int .i64 at_, .slice A2 n c2] w (LRes w [] 1) := by
  rcases hbad with hv | ⟨hv, h0⟩
  · go_enter Try.func32, Try.ntmps32
    go_wp2_with (go_at_call 36; refine (valid_any _ _ _ _).mono ?_; rintro e w' ⟨rfl, rfl⟩; rw [hv])
    go_ret2
    exact LRes.none _ _ _ ((((Below.refl _ w).alloc (Nat.le_refl _) _).alloc (by simp) _).alloc (by simp; omega) _)
  · have h1 : decide (at_ < 0) = true := by simp [h0]
    go_enter Try.func32, Try.ntmps32
    go_wp2_with (go_at_call 36; refine (valid_any _ _ _ _).mono ?_; rintro e w' ⟨rfl, rfl⟩; rw [hv])
    go_ret2
    exact LRes.none _ _ _ ((((Below.refl _ w).alloc (Nat.le_refl _) _).alloc (by simp) _).alloc (by simp; omega) _)

set_option maxRecDepth 100000 in
set_option maxHeartbeats 1000000 in
theorem program_range (f : Fl) (A : Option Addr) (c : Nat) (at_ : Int) (n : Nat) (A2 : Option Addr) (c2 : Nat) (w : World) (hv : valid f = true) (h0 : 0 ≤ at_) (hl : f.bytes.length ≤ 16384) (hr : (f.bytes.length : Int) < at_ ∨ ((at_ ≤ f.bytes.length) ∧ (f.bytes.length : Int) - at_ < n)) :
    Calls Try.prog 32 #[.agg #[.int .i64 f.sector, .slice A f.bytes.length c], .int .i64 at_, .slice A2 n c2] w (LRes w [] 3) := by
  have h1 : decide (at_ < 0) = false := by simp; omega
  rcases hr with hr | ⟨hle, hr⟩
  · go_enter Try.func32, Try.ntmps32
    go_wp2_with (go_at_call 36; refine (valid_any _ _ _ _).mono ?_; rintro e w' ⟨rfl, rfl⟩; rw [hv])
    go_ret2
    exact LRes.none _ _ _ ((((Below.refl _ w).alloc (Nat.le_refl _) _).alloc (by simp) _).alloc (by simp; omega) _)
  · go_enter Try.func32, Try.ntmps32
    go_wp2_with (go_at_call 36; refine (valid_any _ _ _ _).mono ?_; rintro e w' ⟨rfl, rfl⟩; rw [hv])
    go_ret2
    exact LRes.none _ _ _ ((((Below.refl _ w).alloc (Nat.le_refl _) _).alloc (by simp) _).alloc (by simp; omega) _)

theorem valid_len {f : Fl} (h : valid f = true) : f.bytes.length ≤ 16384 ∧ 1 ≤ f.sector ∧ f.sector ≤ 1024 ∧ f.sector ≤ f.bytes.length ∧ (f.bytes.length : Int) % f.sector = 0 := by
  simp [valid] at h
  omega

/-- Program. -/
theorem program_any (ok : Ok) (f : Fl) (A : Option Addr) (c : Nat) (at_ : Int) (data : List UInt8) (A2 : Option Addr) (c2 : Nat) (w : World) (hf : isSlice kU8 ok w (.slice A f.bytes.length c) f.bytes) (hd : isSlice kU8 ok w (.slice A2 data.length c2) data) :
    Calls Try.prog 32 #[.agg #[.int .i64 f.sector, .slice A f.bytes.length c], .int .i64 at_, .slice A2 data.length c2] w (LRes w (program f at_ data).1 (program f at_ data).2) := by
  unfold program
  by_cases h1 : valid f = false ∨ at_ < 0
  · rw [if_pos h1]
    refine program_bad f A c at_ _ A2 c2 w ?_
    cases hv : valid f with
    | false => exact .inl rfl
    | true => exact .inr ⟨rfl, by rcases h1 with h | h; · rw [hv] at h; cases h
                                  · exact h⟩
  · rw [if_neg h1]
    have hv : valid f = true := by cases hv : valid f with
      | false => exact absurd (.inl hv) h1
      | true => rfl
    have h0 : 0 ≤ at_ := by
      by_cases h : at_ < 0
      · exact absurd (.inr h) h1
      · omega
    have hl := (valid_len hv).1
    by_cases h2 : (f.bytes.length : Int) < at_ ∨ (f.bytes.length : Int) - at_ < data.length
    · rw [if_pos h2]
      exact program_range f A c at_ _ A2 c2 w hv h0 hl (by omega)
    · rw [if_neg h2]
      obtain ⟨n, rfl⟩ := Int.eq_ofNat_of_zero_le h0
      exact program_ok ok f A c n data A2 c2 w hf hd hv (by omega) hl

set_option maxRecDepth 100000 in
set_option maxHeartbeats 1000000 in
theorem erase_bad (f : Fl) (A : Option Addr) (c : Nat) (sec : Int) (w : World) (hbad : valid f = false ∨ (valid f = true ∧ (sec < 0 ∨ 0 ≤ sec ∧ (f.bytes.length : Int) / f.sector ≤ sec))) :
    Calls Try.prog 34 #[.agg #[.int .i64 f.sector, .slice A f.bytes.length c], .int .i64 sec] w (LRes w [] 1) := by
  rcases hbad with hv | ⟨hv, h0 | ⟨h0, h1⟩⟩
  · go_enter Try.func34, Try.ntmps34
    go_wp2_with (go_at_call 36; refine (valid_any _ _ _ _).mono ?_; rintro e w' ⟨rfl, rfl⟩; rw [hv])
    go_ret2
    exact LRes.none _ _ _ (((Below.refl _ w).alloc (Nat.le_refl _) _).alloc (by simp) _)
  · have h1 : decide (sec < 0) = true := by simp [h0]
    go_enter Try.func34, Try.ntmps34
    go_wp2_with (go_at_call 36; refine (valid_any _ _ _ _).mono ?_; rintro e w' ⟨rfl, rfl⟩; rw [hv])
    go_ret2
    exact LRes.none _ _ _ (((Below.refl _ w).alloc (Nat.le_refl _) _).alloc (by simp) _)
  · have h2 : decide (sec < 0) = false := by simp; omega
    obtain ⟨v1, v2, v3, v4, v5⟩ := valid_len hv
    have hq : wrap64 ((f.bytes.length : Int) / f.sector) = (f.bytes.length : Int) / f.sector := by
      have d1 : 0 ≤ (f.bytes.length : Int) / f.sector := Int.ediv_nonneg (by omega) (by omega)
      have d2 : (f.bytes.length : Int) / f.sector ≤ 16384 := Int.le_trans (Int.ediv_le_self _ (by omega)) (by omega)
      unfold wrap64; omega
    go_enter Try.func34, Try.ntmps34
    go_wp2_with (go_at_call 36; refine (valid_any _ _ _ _).mono ?_; rintro e w' ⟨rfl, rfl⟩; rw [hv])
    go_ret2
    exact LRes.none _ _ _ (((Below.refl _ w).alloc (Nat.le_refl _) _).alloc (by simp) _)

theorem sectors_bd {n : Nat} {s : Int} (h1 : 1 ≤ s) (hn : n ≤ 16384) : 0 ≤ (n : Int) / s ∧ (n : Int) / s ≤ 16384 :=
  ⟨Int.ediv_nonneg (by omega) (by omega), Int.le_trans (Int.ediv_le_self _ (by omega)) (by omega)⟩

set_option maxRecDepth 100000 in
set_option maxHeartbeats 1000000 in
theorem erase_ok (ok : Ok) (m : Nat) (bs : List UInt8) (A : Option Addr) (c : Nat) (q : Nat) (w : World) (hf : isSlice kU8 ok w (.slice A bs.length c) bs)
    (hv : valid ⟨m, bs⟩ = true) (hs : (q : Int) < (bs.length : Int) / (m : Int)) (hpm : q * m + m ≤ bs.length) :
    Calls Try.prog 34 #[.agg #[.int .i64 m, .slice A bs.length c], .int .i64 q] w (LRes w (steps ⟨m, bs⟩ (q * m) m toFF) 0) := by
  obtain ⟨v1, v2, v3, v4, v5⟩ := valid_len hv
  simp only at v1 v2 v3 v4
  obtain ⟨d1, d2⟩ := sectors_bd v2 v1
  have hq : wrap64 ((bs.length : Int) / (m : Int)) = (bs.length : Int) / (m : Int) := by unfold wrap64; omega
  have hm1 : IntKind.i64.wrap ((q : Int) * (m : Int)) = (q : Int) * (m : Int) := by
    rw [← Int.natCast_mul]; exact IntWalk.i64_in _ (by omega)
  have k4 : IntKind.i64.wrap ((m : Int) + 1) = (m : Int) + 1 := IntWalk.i64_in _ (by omega)
  have h2 : decide ((q : Int) < 0) = false := by simp
  clear v5
  have VA := fun (W : World) => valid_any ⟨m, bs⟩ A c W
  rw [hv] at VA
  clear hv
  go_enter Try.func34, Try.ntmps34
  go_wp2_with (go_at_call 36; refine (VA _).mono ?_; rintro e w' ⟨rfl, rfl⟩)
  clear VA
  have hb0 : Below w.heap.size w ((w.alloc (.cells #[.int .i64 m, .slice A bs.length c] 24)).alloc (.cells #[.int .i64 m, .slice A bs.length c] 24)) :=
    ((Below.refl _ w).alloc (Nat.le_refl _) _).alloc (by simp) _
  have q0 : ((w.alloc (.cells #[.int .i64 m, .slice A bs.length c] 24)).alloc (.cells #[.int .i64 m, .slice A bs.length c] 24)).heap[w.heap.size]? = some (.cells #[.int .i64 m, .slice A bs.length c] 24 (0, 0)) := by
    rw [Below.heap_alloc _ _ _ (by simp)]; exact World.alloc_heap_new w _
  generalize ((w.alloc (.cells #[.int .i64 m, .slice A bs.length c] 24)).alloc (.cells #[.int .i64 m, .slice A bs.length c] 24)) = W at *
  have hlt : w.heap.size < W.heap.size := (Array.getElem?_eq_some_iff.1 q0).1
  have HC := collect_steps (fun k => ok k ∧ k < w.heap.size) ⟨m, bs⟩ A c (q * m) m 91 #[] toFF W (hf.bound.agree (Agree.below hb0)) v1 hpm (enters_of Try.func91 (by kernel_rfl) rfl) (fun i old W' hi hb => ff_any i old.toNat W')
  rw [Int.natCast_mul] at HC
  have k2 : W.cell? ⟨w.heap.size, 0, none⟩ = some (.int .i64 m) := by simp [World.cell?, q0]
  have k3 : W.cell? ⟨w.heap.size, 1, none⟩ = some (.slice A bs.length c) := by simp [World.cell?, q0]
  have kS : ∀ W' : World, Below W.heap.size W W' → W'.cell? ⟨w.heap.size, 0, none⟩ = some (.int .i64 m) ∧ W'.cell? ⟨w.heap.size, 1, none⟩ = some (.slice A bs.length c) :=
    fun W' hb => ⟨(hb.cell (p := ⟨w.heap.size, 0, none⟩) hlt).trans k2, (hb.cell (p := ⟨w.heap.size, 1, none⟩) hlt).trans k3⟩
  have hb4 : ∀ o1 o2 o3 o4, Below W.heap.size W ((((W.alloc o1).alloc o2).alloc o3).alloc o4).drew := fun o1 o2 o3 o4 => (((((Below.refl _ W).alloc (Nat.le_refl _) _).alloc (by simp) _).alloc (by simp; omega) _).alloc (by simp; omega) _).drew
  go_region_held3 (fun W' => W'.cell? ⟨w.heap.size, 0, none⟩ = some (.int .i64 m) ∧ W'.cell? ⟨w.heap.size, 1, none⟩ = some (.slice A bs.length c))
    (first | exact kS _ (Below.refl _ _).drew | exact kS _ (hb4 _ _ _ _) | exact kS _ hb)
    (first
    | (go_at_call 89; refine (steps_any _ _ _ _ _ ⟨_, _, rfl⟩ ⟨_, _, _, rfl⟩).mono ?_; rintro e w' ⟨rfl, rfl⟩)
    | (go_at_call 88; refine HC.mono ?_; rintro e w' ⟨A', c', rfl, hs, hb⟩))
  go_wp2
  go_ret2
  exact ⟨A', c', by simp, hs.mono (fun k hk => by have := hb0.size; omega), hb0.trans (hb.mono hb0.size)⟩

/-- Erase. -/
theorem erase_any (ok : Ok) (f : Fl) (A : Option Addr) (c : Nat) (sec : Int) (w : World) (hf : isSlice kU8 ok w (.slice A f.bytes.length c) f.bytes) :
    Calls Try.prog 34 #[.agg #[.int .i64 f.sector, .slice A f.bytes.length c], .int .i64 sec] w (LRes w (erase f sec).1 (erase f sec).2) := by
  unfold erase
  by_cases h1 : valid f = false ∨ sec < 0 ∨ (f.bytes.length : Int) / f.sector ≤ sec
  · rw [if_pos h1]
    refine erase_bad f A c sec w ?_
    cases hv : valid f with
    | false => exact .inl rfl
    | true =>
      refine .inr ⟨rfl, ?_⟩
      rcases h1 with h | h | h
      · rw [hv] at h; cases h
      · exact .inl h
      · by_cases h0 : sec < 0
        · exact .inl h0
        · exact .inr ⟨by omega, h⟩
  · rw [if_neg h1]
    have hv : valid f = true := by cases hv : valid f with
      | false => exact absurd (.inl hv) h1
      | true => rfl
    have h0 : 0 ≤ sec := by
      by_cases h : sec < 0
      · exact absurd (.inr (.inl h)) h1
      · omega
    have hs : sec < (f.bytes.length : Int) / f.sector := by
      by_cases h : (f.bytes.length : Int) / f.sector ≤ sec
      · exact absurd (.inr (.inr h)) h1
      · omega
    obtain ⟨v1, v2, v3, v4, v5⟩ := valid_len hv
    have hmul : (sec + 1) * f.sector ≤ f.bytes.length := by
      have e1 : (sec + 1) * f.sector ≤ (f.bytes.length : Int) / f.sector * f.sector := Int.mul_le_mul_of_nonneg_right (by omega) (by omega)
      have e2 := Int.ediv_mul_le (f.bytes.length : Int) (b := f.sector) (by omega)
      omega
    obtain ⟨s, bs⟩ := f
    simp only at *
    obtain ⟨q, rfl⟩ := Int.eq_ofNat_of_zero_le h0
    obtain ⟨m, rfl⟩ := Int.eq_ofNat_of_zero_le (a := s) (by omega)
    rw [Int.add_mul, Int.one_mul, ← Int.natCast_mul] at hmul
    have e3 : ((q : Int) * (m : Int)).toNat = q * m := by rw [← Int.natCast_mul]; rfl
    rw [e3]
    exact erase_ok ok m bs A c q w hf hv hs (by omega)

end Go.Proofs.Ytdoehnnhbfmleaa
