/-
  A range over a function whose iterator keeps state of its own in new blocks: one law for the loop, an interval of blocks that the body leaves alone.
-/
import Derived.RangeFuncNested
import Derived.RangeFuncLeaves
import Derived.RangeFuncCalls
import Derived.RangeFuncBound
import Derived.Below
namespace Go.Proofs.Ytdoehnnhbfmleaa
open Go Go.RowKit

/-- Nothing has turned but blocks of the interval [S, S + m) and what is new. -/
structure Away (S m : Nat) (W W' : World) : Prop where
  os : W'.os = W.os
  tape : W'.tape = W.tape
  output : W'.output = W.output
  size : W.heap.size ≤ W'.heap.size
  block : ∀ k, k < W.heap.size → ¬ (S ≤ k ∧ k < S + m) → W'.heap[k]? = W.heap[k]?

/-- What lies below n₀, and the interval [S, S + m), stay. -/
structure Keep (n₀ S m : Nat) (W W' : World) : Prop where
  os : W'.os = W.os
  tape : W'.tape = W.tape
  output : W'.output = W.output
  size : W.heap.size ≤ W'.heap.size
  low : ∀ k, k < n₀ → W'.heap[k]? = W.heap[k]?
  priv : ∀ k, S ≤ k → k < S + m → W'.heap[k]? = W.heap[k]?

theorem Away.refl (S m : Nat) (W : World) : Away S m W W := ⟨rfl, rfl, rfl, Nat.le_refl _, fun _ _ _ => rfl⟩
theorem Away.trans {S m : Nat} {A B C : World} (h : Away S m A B) (k : Away S m B C) : Away S m A C :=
  ⟨k.os.trans h.os, k.tape.trans h.tape, k.output.trans h.output, Nat.le_trans h.size k.size, fun i hi hn => (k.block i (Nat.lt_of_lt_of_le hi h.size) hn).trans (h.block i hi hn)⟩
theorem Away.putObj {S m : Nat} (W : World) {l : Nat} (o : Obj) (h1 : S ≤ l) (h2 : l < S + m) : Away S m W (W.putObj l o) :=
  ⟨rfl, rfl, rfl, by simp, fun k _ hn => World.putObj_heap_other (fun e => hn (by omega))⟩
theorem Away.alloc {S m : Nat} (W : World) (o : Obj) : Away S m W (W.alloc o) :=
  ⟨rfl, rfl, rfl, by simp, fun k hk _ => Below.heap_alloc _ _ _ hk⟩
theorem Away.drew {S m : Nat} (W : World) : Away S m W W.drew := ⟨rfl, rfl, rfl, Nat.le_refl _, fun _ _ _ => rfl⟩
theorem Away.setCell {S m : Nat} (W : World) {p : Addr} (u : Value) (h1 : S ≤ p.block) (h2 : p.block < S + m) : Away S m W (W.setCell p u) :=
  ⟨rfl, rfl, rfl, by simp [World.setCell], fun k _ hn => Below.heap_setCell _ _ _ _ (fun e => hn (by omega))⟩
theorem Away.wider {S m S' m' : Nat} {W W' : World} (h : Away S m W W') (h1 : S' ≤ S) (h2 : S + m ≤ S' + m') : Away S' m' W W' :=
  ⟨h.os, h.tape, h.output, h.size, fun k hk hn => h.block k hk (fun e => hn (by omega))⟩
theorem Away.below {S m B : Nat} {W W' : World} (h : Away S m W W') (hB : B ≤ S) (hW : B ≤ W.heap.size) : Below B W W' :=
  ⟨h.os, h.tape, h.output, h.size, fun k hk => h.block k (by omega) (by omega)⟩
theorem Away.of_below {W W' : World} (h : Below W.heap.size W W') (S m : Nat) : Away S m W W' :=
  ⟨h.os, h.tape, h.output, h.size, fun k hk _ => h.block k hk⟩

theorem Keep.refl (n₀ S m : Nat) (W : World) : Keep n₀ S m W W := ⟨rfl, rfl, rfl, Nat.le_refl _, fun _ _ => rfl, fun _ _ _ => rfl⟩
theorem Keep.trans {n₀ S m : Nat} {A B C : World} (h : Keep n₀ S m A B) (k : Keep n₀ S m B C) : Keep n₀ S m A C :=
  ⟨k.os.trans h.os, k.tape.trans h.tape, k.output.trans h.output, Nat.le_trans h.size k.size, fun i hi => (k.low i hi).trans (h.low i hi), fun i h1 h2 => (k.priv i h1 h2).trans (h.priv i h1 h2)⟩
theorem Keep.putObj {n₀ S m : Nat} (W : World) {l : Nat} (o : Obj) (h0 : n₀ ≤ l) (h1 : ¬ (S ≤ l ∧ l < S + m)) : Keep n₀ S m W (W.putObj l o) :=
  ⟨rfl, rfl, rfl, by simp, fun k hk => World.putObj_heap_other (by omega), fun k hk hk' => World.putObj_heap_other (fun e => h1 (by omega))⟩
theorem Keep.alloc {n₀ S m : Nat} (W : World) (o : Obj) (h0 : n₀ ≤ W.heap.size) (h1 : S + m ≤ W.heap.size) : Keep n₀ S m W (W.alloc o) :=
  ⟨rfl, rfl, rfl, by simp, fun k hk => Below.heap_alloc _ _ _ (by omega), fun k _ hk => Below.heap_alloc _ _ _ (by omega)⟩
theorem Keep.drew {n₀ S m : Nat} (W : World) : Keep n₀ S m W W.drew := ⟨rfl, rfl, rfl, Nat.le_refl _, fun _ _ => rfl, fun _ _ _ => rfl⟩
theorem Keep.setCell {n₀ S m : Nat} (W : World) {p : Addr} (u : Value) (h0 : n₀ ≤ p.block) (h1 : ¬ (S ≤ p.block ∧ p.block < S + m)) : Keep n₀ S m W (W.setCell p u) :=
  ⟨rfl, rfl, rfl, by simp [World.setCell], fun k hk => Below.heap_setCell _ _ _ _ (by omega), fun k hk hk' => Below.heap_setCell _ _ _ _ (fun e => h1 (by omega))⟩
theorem Keep.of_below {n₀ S m : Nat} {W W' : World} (h : Below W.heap.size W W') (h0 : n₀ ≤ W.heap.size) (h1 : S + m ≤ W.heap.size) : Keep n₀ S m W W' :=
  ⟨h.os, h.tape, h.output, h.size, fun k hk => h.block k (by omega), fun k _ hk => h.block k (by omega)⟩
theorem Keep.of_grownBy {n₀ S m : Nat} {W W' : World} {row : Option Nat} (h : W.grownBy W' row) (h0 : n₀ ≤ W.heap.size) (h1 : S + m ≤ W.heap.size) (hr : ∀ r, row = some r → n₀ ≤ r ∧ ¬ (S ≤ r ∧ r < S + m)) : Keep n₀ S m W W' :=
  ⟨h.os, h.tape, h.output, h.size, fun k hk => h.block k (by omega) (fun e => by have := (hr k e.symm).1; omega), fun k hk hk' => h.block k (by omega) (fun e => (hr k e.symm).2 ⟨hk, hk'⟩)⟩
theorem Keep.narrow {n₀ n₁ S m S' m' : Nat} {W W' : World} (h : Keep n₀ S m W W') (h0 : n₁ ≤ n₀) (h1 : S ≤ S') (h2 : S' + m' ≤ S + m) : Keep n₁ S' m' W W' :=
  ⟨h.os, h.tape, h.output, h.size, fun k hk => h.low k (by omega), fun k h1' h2' => h.priv k (by omega) (by omega)⟩

def Stab (S m : Nat) (I : World → Prop) : Prop := ∀ W W', I W → Away S m W W' → I W'

/-- k rounds have been run of a loop over n elements: 'go i' says whether round i lets the loop go on. -/
structure Ran (go : Nat → Bool) (n k : Nat) : Prop where
  le : k ≤ n
  on : ∀ i, i + 1 < k → go i = true
  stop : k < n → 0 < k ∧ go (k - 1) = false

/-- An iterator (function g, with what it has captured): it hands over xs, element by element; its own state lies in m blocks from S on, S the heap's size when it is called. -/
def SeqP {α : Type} (P : Program) (g : Nat) (lb : Array Value) (xs : List α) (Y : Nat → α → Array Value → World → Prop) (G : (Nat → Bool) → Prop) (n₀ m : Nat) (w : World) : Prop :=
  ∀ (l : Nat) (go : Nat → Bool) (J : Nat → World → Prop) (W : World), G go → Below w.heap.size w W → n₀ ≤ w.heap.size → (∀ i, Stab W.heap.size m (J i)) →
    (∀ i x vs W0 W1, J i W0 → W.heap.size + m ≤ W0.heap.size → Away W.heap.size m W0 W1 → (∀ j, j < i → go j = true) → xs[i]? = some x → Y W0.heap.size x vs W1 → YieldAt Fence.wide 0 P l vs W1 fun e W' => e = .returned (.bool (go i)) ∧ J (i + 1) W' ∧ Keep n₀ W.heap.size m W1 W') →
    J 0 W →
    CallsIn Fence.wide 0 P g (#[.func (.yield l) #[] #[]] ++ lb) W fun e W' => (∃ v, e = .returned v) ∧ ∃ k, Ran go xs.length k ∧ J k W'

theorem SeqP.later {α : Type} {P : Program} {g : Nat} {lb : Array Value} {xs : List α} {Y : Nat → α → Array Value → World → Prop} {G : (Nat → Bool) → Prop} {n₀ m : Nat} {w w' : World}
    (h : SeqP P g lb xs Y G n₀ m w) (hn : n₀ ≤ w.heap.size) (hb : Below w.heap.size w w') : SeqP P g lb xs Y G n₀ m w' :=
  fun l go J W hG hW _ hJ hY h0 => h l go J W hG (hb.trans (hW.mono hb.size)) hn hJ hY h0

/-- How the body of a round may be left. -/
def roundOut (n₀ S m : Nat) (go : Nat → Bool) (I : Nat → World → Prop) (Ix : Code → Nat → World → Prop) (i : Nat) (W : World) : Exit → Act → World → Prop
  | .normal, _, W' => go i = true ∧ Keep n₀ S m W W' ∧ I (i + 1) W'
  | .ret, _, W' => go i = false ∧ Keep n₀ S m W W' ∧ Ix .ret (i + 1) W'
  | .exit id, _, W' => go i = false ∧ Keep n₀ S m W W' ∧ Ix (.exit id) (i + 1) W'
  | .goto t, _, W' => go i = false ∧ Keep n₀ S m W W' ∧ Ix (.goto t) (i + 1) W'
  | .panic _, _, _ => False
  | .outgrown, _, _ => False

variable {P : Program}

/-- **The loop's law.** -/
theorem wpIn_rangeFunc_P {α : Type} {g : Operand} {ps : Array Tmp} {assign body : Code} {Q : Exit → Act → World → Prop} {a : Act} {w : World}
    {gf : Nat} {lb : Array Value} (hg : a.eval g = .func (.func gf) #[] lb) (eg : ∀ args w, (callFunc gf args).run P w = .ok (.enter gf args) w)
    {xs : List α} {Y : Nat → α → Array Value → World → Prop} {G : (Nat → Bool) → Prop} {n₀ m : Nat} (hseq : SeqP P gf lb xs Y G n₀ m w) (hn₀ : n₀ ≤ w.heap.size)
    (hps : ∀ S x vs W, Y S x vs W → vs.size = ps.size)
    (go : Nat → Bool) (hG : G go) (I : Nat → World → Prop) (Ix : Code → Nat → World → Prop) (hI : ∀ i, Stab w.heap.size (2 + m) (I i)) (hIx : ∀ c i, Stab w.heap.size (2 + m) (Ix c i)) (h0 : I 0 w)
    (Ax : Nat → α → Act → World → Prop) (hAx : ∀ i x a', Stab w.heap.size (2 + m) (Ax i x a'))
    (hassign : ∀ (l i : Nat) (x : α) (vs : Array Value) (W0 W : World) (K : Act → World → Prop), w.heap.size + 2 + m ≤ W0.heap.size → Away w.heap.size (2 + m) W0 W → I i W0 → xs[i]? = some x → Y W0.heap.size x vs W →
      (∀ a' W', Keep n₀ w.heap.size (2 + m) W W' → Ax i x a' W' → K a' W') →
      assign.wpIn (Fence.wide.inRound l) 0 P (Exit.then K (fun _ _ _ => False)) { tmps := (ps.zip vs).foldl (fun t (p, v) => t.setIfInBounds p v) a.tmps, defers := [] } W)
    (hbody : ∀ (l i : Nat) (x : α) (a' : Act) (W : World), l = w.heap.size + 1 → (∃ r, W.heap[l]? = some (.loop r)) → Ax i x a' W → xs[i]? = some x →
      body.wpIn (Fence.wide.inRound l) 0 P (roundOut n₀ w.heap.size (2 + m) go I Ix i W) a' W)
    (hdone : ∀ (W : World), (∀ i, i < xs.length → go i = true) → I xs.length W → W.heap[w.heap.size]? = some (.deferred (some [])) → Q .normal { a with defers := { target := .collected w.heap.size, args := #[] } :: a.defers } W)
    (hstop : ∀ (c : Code) (i : Nat) (W : World), i < xs.length → (∀ j, j < i → go j = true) → go i = false → Ix c (i + 1) W → W.heap[w.heap.size]? = some (.deferred (some [])) → c.wpIn Fence.wide 0 P Q { a with defers := { target := .collected w.heap.size, args := #[] } :: a.defers } W) :
    (Code.rangeFunc g ps assign body).wpIn Fence.wide 0 P Q a w := by
  refine wpIn_rangeFunc ?_
  intro fn hfn
  obtain ⟨rec, hrec⟩ : ∃ rec : LoopState → Option Code → Loop, rec = fun st pe => { state := st, pending := pe, fn, tmps := a.tmps, params := ps, assign, body, defers := w.heap.size } := ⟨_, rfl⟩
  obtain ⟨W1, hW1⟩ : ∃ W1, (w.alloc (.deferred (some []))).alloc (.loop (rec .ready none)) = W1 := ⟨_, rfl⟩
  have hsz1 : W1.heap.size = w.heap.size + 2 := by rw [← hW1]; simp
  have hL1 : W1.heap[w.heap.size + 1]? = some (.loop (rec .ready none)) := by
    rw [← hW1]; have := World.alloc_heap_new (w.alloc (.deferred (some []))) (.loop (rec .ready none)); rwa [World.size_alloc] at this
  have hK1 : W1.heap[w.heap.size]? = some (.deferred (some [])) := by
    rw [← hW1]; exact (Below.heap_alloc _ _ _ (by simp)).trans (World.alloc_heap_new w _)
  have hA1 : Away w.heap.size (2 + m) w W1 := by rw [← hW1]; exact (Away.alloc _ _).trans (Away.alloc _ _)
  have hI1 : I 0 W1 := hI 0 _ _ h0 hA1
  have hb1 : Below w.heap.size w W1 := by
    rw [← hW1]; exact ((Below.refl _ w).alloc (Nat.le_refl _) _).alloc (by simp) _
  refine ⟨w.heap.size + 1, [{ target := .collected w.heap.size, args := #[] }], W1, { target := .fn (.func gf) lb, args := #[.func (.yield (w.heap.size + 1)) #[] #[]] }, W1, gf,
    #[.func (.yield (w.heap.size + 1)) #[] #[]] ++ lb, W1, ?_, ?_, ?_, ?_, fun h => by simp [Fence.wide] at h, ?_⟩
  · rw [← hW1, hrec]; exact run_enterLoop_outer _ _ _ _ _
  · simp only [resolve, hg]
    simp [go_sem]
  · intro f' _; trivial
  · simp [invoke, go_sem, eg]
  · have hJs : ∀ i, Stab W1.heap.size m (fun W => W.heap[w.heap.size]? = some (.deferred (some [])) ∧ ((∀ j, j < i → go j = true) ∧ I i W ∧ W.heap[w.heap.size + 1]? = some (.loop (rec .ready none)) ∨
        0 < i ∧ go (i - 1) = false ∧ ∃ c, Ix c i W ∧ W.heap[w.heap.size + 1]? = some (.loop (rec .done (some c))))) := by
      rintro i A B ⟨hk, h⟩ hab
      have e2 := (Array.getElem?_eq_some_iff.1 hk).1
      refine ⟨(hab.block _ e2 (by omega)).trans hk, ?_⟩
      rcases h with ⟨hgo, hi, hl⟩ | ⟨h0, hgo, c, hi, hl⟩
      · have e1 := (Array.getElem?_eq_some_iff.1 hl).1
        exact .inl ⟨hgo, hI i _ _ hi (hab.wider (by omega) (by omega)), (hab.block _ e1 (by omega)).trans hl⟩
      · have e1 := (Array.getElem?_eq_some_iff.1 hl).1
        exact .inr ⟨h0, hgo, c, hIx c i _ _ hi (hab.wider (by omega) (by omega)), (hab.block _ e1 (by omega)).trans hl⟩
    refine (hseq (w.heap.size + 1) go _ W1 hG hb1 hn₀ hJs ?_ ⟨hK1, .inl ⟨fun j hj => absurd hj (Nat.not_lt_zero _), hI1, hL1⟩⟩).mono ?_
    · rintro i x vs W0 W hJ0 hsz0 haw hall hx hY
      have hJW := hJs i _ _ hJ0 haw
      obtain ⟨hk, hJ⟩ := hJW
      rw [hsz1] at haw hsz0 ⊢
      have hI0 : I i W0 := by
        obtain ⟨_, ⟨_, h1, h2⟩ | ⟨h0, hgo, _⟩⟩ := hJ0
        · exact h1
        · rw [hall (i - 1) (by omega)] at hgo; cases hgo
      have hJ' : I i W ∧ W.heap[w.heap.size + 1]? = some (.loop (rec .ready none)) := by
        rcases hJ with ⟨_, h1, h2⟩ | ⟨h0, hgo, _⟩
        · exact ⟨h1, h2⟩
        · rw [hall (i - 1) (by omega)] at hgo; cases hgo
      obtain ⟨hi, hl⟩ := hJ'
      have hlt : w.heap.size + 1 < W.heap.size := (Array.getElem?_eq_some_iff.1 hl).1
      have hy := run_yield (P := P) (args := vs) hl (by rw [hrec]; exact hps _ _ _ _ hY)
      rw [hrec] at hy
      refine ⟨fn, _, assign, body, hy, roundIn_of_wpIn hfn (hassign _ i x vs W0 W _ (by omega) (haw.wider (by omega) (by omega)) hI0 hx hY ?_)⟩
      clear hy
      intro a' Wa hka hax
      have hl' := (hka.priv _ (by omega) (by omega)).trans hl
      have hk' := (hka.priv _ (by omega) (by omega)).trans hk
      have hlt' : w.heap.size + 1 < Wa.heap.size := (Array.getElem?_eq_some_iff.1 hl').1
      refine ⟨_, run_beginRound hl' (by rw [hrec]), ?_⟩
      have hl2 : (Wa.putObj (w.heap.size + 1) (.loop { rec .ready none with state := .busy })).heap[w.heap.size + 1]? = some (.loop { rec .ready none with state := .busy }) := World.putObj_heap_same hlt'
      have hk2 : (Wa.putObj (w.heap.size + 1) (.loop { rec .ready none with state := .busy })).heap[w.heap.size]? = some (.deferred (some [])) := (World.putObj_heap_other (by omega)).trans hk'
      have hw2 : Keep n₀ (w.heap.size + 2) m Wa (Wa.putObj (w.heap.size + 1) (.loop { rec .ready none with state := .busy })) := Keep.putObj _ _ (by omega) (by omega)
      refine wpIn_mono (hbody _ i x a' _ rfl ⟨_, hl2⟩ (hAx _ _ _ _ _ hax (Away.putObj _ _ (by omega) (by omega))) hx) ?_
      have fin : ∀ (jump : Option Code) (W3 : World), Keep n₀ w.heap.size (2 + m) (Wa.putObj (w.heap.size + 1) (.loop { rec .ready none with state := .busy })) W3 →
          (Instr.endRound (w.heap.size + 1) jump).run P W3 = .ok (.bool jump.isNone) (W3.putObj (w.heap.size + 1) (.loop (rec (if jump.isNone then .ready else .done) jump))) ∧
          (W3.putObj (w.heap.size + 1) (.loop (rec (if jump.isNone then .ready else .done) jump))).heap[w.heap.size + 1]? = some (.loop (rec (if jump.isNone then .ready else .done) jump)) ∧
          (W3.putObj (w.heap.size + 1) (.loop (rec (if jump.isNone then .ready else .done) jump))).heap[w.heap.size]? = some (.deferred (some [])) ∧
          Keep n₀ (w.heap.size + 2) m W (W3.putObj (w.heap.size + 1) (.loop (rec (if jump.isNone then .ready else .done) jump))) := fun jump W3 hk3 => by
        have hl3 := (hk3.priv _ (by omega) (by omega)).trans hl2
        have := run_endRound (P := P) jump hl3
        rw [hrec] at this ⊢
        exact ⟨this, World.putObj_heap_same (Array.getElem?_eq_some_iff.1 hl3).1, (World.putObj_heap_other (by omega)).trans ((hk3.priv _ (by omega) (by omega)).trans hk2),
          (hka.narrow (Nat.le_refl _) (by omega) (by omega)).trans (((by rw [hrec] at hw2; exact hw2 : Keep n₀ (w.heap.size + 2) m Wa _).trans (by rw [hrec] at hk3; exact hk3.narrow (Nat.le_refl _) (by omega) (by omega))).trans (Keep.putObj _ _ (by omega) (by omega)))⟩
      rintro e a3 W3 hp
      cases e with
      | normal =>
        obtain ⟨hgo, hk3, hi3⟩ := hp
        obtain ⟨hr, hl4, hk4, hkk⟩ := fin none W3 hk3
        refine ⟨_, _, hr, by rw [hgo]; rfl, ⟨hk4, .inl ⟨fun j hj => ?_, hI _ _ _ hi3 (Away.putObj _ _ (by omega) (by omega)), hl4⟩⟩, hkk⟩
        by_cases e : j = i
        · rw [e]; exact hgo
        · exact hall j (by omega)
      | ret =>
        obtain ⟨hgo, hk3, hi3⟩ := hp
        obtain ⟨hr, hl4, hk4, hkk⟩ := fin (some .ret) W3 hk3
        exact ⟨_, _, hr, by rw [hgo]; rfl, ⟨hk4, .inr ⟨by omega, hgo, .ret, hIx _ _ _ _ hi3 (Away.putObj _ _ (by omega) (by omega)), hl4⟩⟩, hkk⟩
      | exit id =>
        obtain ⟨hgo, hk3, hi3⟩ := hp
        obtain ⟨hr, hl4, hk4, hkk⟩ := fin (some (.exit id)) W3 hk3
        exact ⟨_, _, hr, by rw [hgo]; rfl, ⟨hk4, .inr ⟨by omega, hgo, .exit id, hIx _ _ _ _ hi3 (Away.putObj _ _ (by omega) (by omega)), hl4⟩⟩, hkk⟩
      | goto t =>
        obtain ⟨hgo, hk3, hi3⟩ := hp
        obtain ⟨hr, hl4, hk4, hkk⟩ := fin (some (.goto t)) W3 hk3
        exact ⟨_, _, hr, by rw [hgo]; rfl, ⟨hk4, .inr ⟨by omega, hgo, .goto t, hIx _ _ _ _ hi3 (Away.putObj _ _ (by omega) (by omega)), hl4⟩⟩, hkk⟩
      | panic ch => exact hp.elim
      | outgrown => exact hp.elim
    · rintro e W2 ⟨⟨v, rfl⟩, k, hran, hk, (⟨hgo, hi, hl⟩ | ⟨h0, hgo, c, hi, hl⟩)⟩
      · have hkn : k = xs.length := by
          by_cases hlt : k < xs.length
          · obtain ⟨h0, h1⟩ := hran.stop hlt
            rw [hgo (k - 1) (by omega)] at h1
            cases h1
          · have := hran.le
            omega
        subst hkn
        exact ⟨none, _, by have := run_endLoop (P := P) hl (by rw [hrec]; simp); rw [hrec] at this; exact this, hdone _ hgo (hI _ _ _ hi (Away.putObj _ _ (by omega) (by omega))) ((World.putObj_heap_other (by omega)).trans hk)⟩
      · obtain ⟨k, rfl⟩ : ∃ m, k = m + 1 := ⟨k - 1, by omega⟩
        exact ⟨some c, _, by have := run_endLoop (P := P) hl (by rw [hrec]; simp); rw [hrec] at this; exact this, hstop c k _ (by have := hran.le; omega) (fun j hj => hran.on j (by omega)) hgo (hIx _ _ _ _ hi (Away.putObj _ _ (by omega) (by omega))) ((World.putObj_heap_other (by omega)).trans hk)⟩

end Go.Proofs.Ytdoehnnhbfmleaa
