/-
  What a value reads as, with the blocks on which its reading hangs: kinds of values, slices, rows of one's own.
-/
import Derived.Below
import Derived.Laws.AppendOwn
import Derived.WalkKit
namespace Go.Proofs.Ytdoehnnhbfmleaa
open Go Go.RowKit

abbrev Ok := Nat → Prop

/-- The blocks that are ok stay. -/
def Agree (ok : Ok) (W W' : World) : Prop := W.heap.size ≤ W'.heap.size ∧ ∀ k, ok k → k < W.heap.size → W'.heap[k]? = W.heap[k]?

theorem Agree.refl (ok : Ok) (W : World) : Agree ok W W := ⟨Nat.le_refl _, fun _ _ _ => rfl⟩
theorem Agree.trans {ok : Ok} {A B C : World} (h : Agree ok A B) (k : Agree ok B C) : Agree ok A C :=
  ⟨Nat.le_trans h.1 k.1, fun i hi hlt => (k.2 i hi (Nat.lt_of_lt_of_le hlt h.1)).trans (h.2 i hi hlt)⟩
theorem Agree.mono {ok ok' : Ok} {A B : World} (h : Agree ok A B) (hm : ∀ k, ok' k → k < A.heap.size → ok k) : Agree ok' A B := ⟨h.1, fun k hk hlt => h.2 k (hm k hk hlt) hlt⟩
theorem Agree.of_below {ok : Ok} {W W' : World} {B : Nat} (h : Below B W W') (hB : ∀ k, ok k → k < W.heap.size → k < B) : Agree ok W W' := ⟨h.size, fun k hk hlt => h.block k (hB k hk hlt)⟩
theorem Agree.below {ok : Ok} {W W' : World} (h : Below W.heap.size W W') : Agree ok W W' := ⟨h.size, fun k _ hlt => h.block k hlt⟩
theorem Agree.alloc (ok : Ok) (W : World) (o : Obj) : Agree ok W (W.alloc o) := ⟨by simp, fun k _ hk => Below.heap_alloc _ _ _ hk⟩
theorem Agree.drew (ok : Ok) (W : World) : Agree ok W W.drew := ⟨Nat.le_refl _, fun _ _ _ => rfl⟩
theorem Agree.setCell {ok : Ok} (W : World) {p : Addr} (u : Value) (h : ¬ ok p.block) : Agree ok W (W.setCell p u) :=
  ⟨by simp [World.setCell], fun k hk _ => Below.heap_setCell _ _ _ _ (fun e => h (e ▸ hk))⟩
theorem Agree.grownBy {ok : Ok} {W W' : World} {row : Option Nat} (h : W.grownBy W' row) (hr : ∀ k, row = some k → ¬ ok k) : Agree ok W W' :=
  ⟨h.size, fun k hk hlt => h.block k hlt (fun e => hr k e.symm hk)⟩

/-- A block of a world with one block more. -/
theorem heap_alloc_get (W : World) (o : Obj) (k : Nat) : (W.alloc o).heap[k]? = if k = W.heap.size then some o else W.heap[k]? := by
  show (W.heap.push o)[k]? = _
  rw [Array.getElem?_push]
theorem heap_drew_get (W : World) (k : Nat) : W.drew.heap[k]? = W.heap[k]? := rfl

/-- A row of cells at an address; an empty one lies anywhere. -/
def RowAt (ok : Ok) (W : World) (A : Option Addr) (cs : List Value) : Prop :=
  cs = [] ∨ ∃ b o, A = some ⟨b, o, none⟩ ∧ ok b ∧ ∀ (j : Nat) (u : Value), cs[j]? = some u → W.cell? ⟨b, o + j, none⟩ = some u

theorem cell_lt {W : World} {a : Addr} {u : Value} (h : W.cell? a = some u) : a.block < W.heap.size := World.block_lt_of_cell? W a h

theorem RowAt.agree {ok : Ok} {W W' : World} {A : Option Addr} {cs : List Value} (ha : Agree ok W W') (h : RowAt ok W A cs) : RowAt ok W' A cs := by
  rcases h with h | ⟨b, o, hA, hb, hc⟩
  · exact .inl h
  · exact .inr ⟨b, o, hA, hb, fun j u hu => (World.cell?_of_block (w := W) (ha.2 b hb (cell_lt (hc j u hu)))).trans (hc j u hu)⟩
theorem RowAt.mono {ok ok' : Ok} {W : World} {A : Option Addr} {cs : List Value} (hm : ∀ k, ok k → ok' k) (h : RowAt ok W A cs) : RowAt ok' W A cs := by
  rcases h with h | ⟨b, o, hA, hb, hc⟩
  · exact .inl h
  · exact .inr ⟨b, o, hA, hm b hb, hc⟩
theorem RowAt.bound {ok : Ok} {W : World} {A : Option Addr} {cs : List Value} (h : RowAt ok W A cs) : RowAt (fun k => ok k ∧ k < W.heap.size) W A cs := by
  rcases h with h | ⟨b, o, hA, hb, hc⟩
  · exact .inl h
  · cases cs with
    | nil => exact .inl rfl
    | cons c cs => exact .inr ⟨b, o, hA, ⟨hb, cell_lt (hc 0 c rfl)⟩, hc⟩

/-- A kind of values: how many cells they fill, and what cells read as which value. -/
structure Kind (α : Type) where
  sz : Nat
  rd : Ok → World → α → List Value → Prop
  len : ∀ {ok W x cs}, rd ok W x cs → cs.length = sz
  one : ∀ {ok W x cs}, rd ok W x cs → ∀ u ∈ cs, u.oneCell' = true
  agree : ∀ {ok W W' x cs}, Agree ok W W' → rd ok W x cs → rd ok W' x cs
  mono : ∀ {ok ok' W x cs}, (∀ k, ok k → ok' k) → rd ok W x cs → rd ok' W x cs
  bound : ∀ {ok W x cs}, rd ok W x cs → rd (fun k => ok k ∧ k < W.heap.size) W x cs

/-- Element by element. -/
def Reads {α : Type} (d : Kind α) (ok : Ok) (W : World) (css : List (List Value)) (xs : List α) : Prop :=
  css.length = xs.length ∧ ∀ (i : Nat) (x : α) (cs : List Value), xs[i]? = some x → css[i]? = some cs → d.rd ok W x cs

section
variable {α : Type} {d : Kind α} {ok ok' : Ok} {W W' : World} {css : List (List Value)} {xs : List α}
theorem Reads.agree (ha : Agree ok W W') (h : Reads d ok W css xs) : Reads d ok W' css xs := ⟨h.1, fun i x cs hx hc => d.agree ha (h.2 i x cs hx hc)⟩
theorem Reads.mono (hm : ∀ k, ok k → ok' k) (h : Reads d ok W css xs) : Reads d ok' W css xs := ⟨h.1, fun i x cs hx hc => d.mono hm (h.2 i x cs hx hc)⟩
theorem Reads.bound (h : Reads d ok W css xs) : Reads d (fun k => ok k ∧ k < W.heap.size) W css xs := ⟨h.1, fun i x cs hx hc => d.bound (h.2 i x cs hx hc)⟩
theorem Reads.nil (d : Kind α) (ok : Ok) (W : World) : Reads d ok W [] [] := ⟨rfl, fun i x cs hx => by simp at hx⟩
theorem Reads.snoc {x : α} {cs : List Value} (h : Reads d ok W css xs) (hx : d.rd ok W x cs) : Reads d ok W (css ++ [cs]) (xs ++ [x]) := by
  refine ⟨by simp [h.1], fun i y ds hy hd => ?_⟩
  by_cases hi : i < xs.length
  · rw [List.getElem?_append_left hi] at hy
    rw [List.getElem?_append_left (by rw [h.1]; exact hi)] at hd
    exact h.2 i y ds hy hd
  · rw [List.getElem?_append_right (by omega)] at hy
    rw [List.getElem?_append_right (by rw [h.1]; omega), h.1] at hd
    cases hk : i - xs.length with
    | zero => rw [hk] at hy hd; simp at hy hd; subst hy; subst hd; exact hx
    | succ k => rw [hk] at hy; simp at hy
theorem Reads.append {css' : List (List Value)} {xs' : List α} (h : Reads d ok W css xs) (h' : Reads d ok W css' xs') : Reads d ok W (css ++ css') (xs ++ xs') := by
  refine ⟨by simp [h.1, h'.1], fun i y ds hy hd => ?_⟩
  by_cases hi : i < xs.length
  · rw [List.getElem?_append_left hi] at hy
    rw [List.getElem?_append_left (by rw [h.1]; exact hi)] at hd
    exact h.2 i y ds hy hd
  · rw [List.getElem?_append_right (by omega)] at hy
    rw [List.getElem?_append_right (by rw [h.1]; omega), h.1] at hd
    exact h'.2 _ y ds hy hd
theorem Reads.drop (n : Nat) (h : Reads d ok W css xs) : Reads d ok W (css.drop n) (xs.drop n) :=
  ⟨by simp [h.1], fun i y ds hy hd => by rw [List.getElem?_drop] at hy hd; exact h.2 _ y ds hy hd⟩
theorem Reads.take (n : Nat) (h : Reads d ok W css xs) : Reads d ok W (css.take n) (xs.take n) := by
  refine ⟨by simp [h.1], fun i y ds hy hd => ?_⟩
  rw [List.getElem?_take] at hy hd
  split at hy
  · rename_i hi; rw [if_pos hi] at hd; exact h.2 _ y ds hy hd
  · cases hy
theorem Reads.set {x : α} {cs : List Value} (n : Nat) (h : Reads d ok W css xs) (hx : d.rd ok W x cs) : Reads d ok W (css.set n cs) (xs.set n x) := by
  refine ⟨by simp [h.1], fun i y ds hy hd => ?_⟩
  rw [List.getElem?_set] at hy hd
  by_cases hn : n = i
  · subst hn
    rw [if_pos rfl] at hy hd
    split at hy
    · split at hd
      · cases hy; cases hd; exact hx
      · cases hd
    · cases hy
  · rw [if_neg hn] at hy hd
    exact h.2 i y ds hy hd
theorem Reads.lens (h : Reads d ok W css xs) : ∀ cs ∈ css, cs.length = d.sz := by
  intro cs hcs
  obtain ⟨i, hi⟩ := List.getElem?_of_mem hcs
  have hlt : i < css.length := (List.getElem?_eq_some_iff.1 hi).1
  exact d.len (h.2 i (xs[i]'(by rw [← h.1]; exact hlt)) cs (List.getElem?_eq_getElem _) hi)
theorem Reads.ones (h : Reads d ok W css xs) : ∀ u ∈ css.flatten, u.oneCell' = true := by
  intro u hu
  obtain ⟨cs, hcs, hu⟩ := List.mem_flatten.1 hu
  obtain ⟨i, hi⟩ := List.getElem?_of_mem hcs
  have hlt : i < css.length := (List.getElem?_eq_some_iff.1 hi).1
  exact d.one (h.2 i (xs[i]'(by rw [← h.1]; exact hlt)) cs (List.getElem?_eq_getElem _) hi) u hu
end

theorem flatten_length {css : List (List Value)} {sz : Nat} (h : ∀ cs ∈ css, cs.length = sz) : css.flatten.length = css.length * sz := by
  induction css with
  | nil => simp
  | cons c css ih =>
    simp only [List.flatten_cons, List.length_append, List.length_cons]
    rw [ih (fun cs hc => h cs (List.mem_cons_of_mem _ hc)), h c (List.mem_cons_self), Nat.add_mul]
    omega

theorem flatten_get {css : List (List Value)} {sz : Nat} (h : ∀ cs ∈ css, cs.length = sz) : ∀ (i j : Nat) (cs : List Value), css[i]? = some cs → j < sz → css.flatten[i * sz + j]? = cs[j]? := by
  induction css with
  | nil => intro i j cs hc; simp at hc
  | cons c css ih =>
    intro i j cs hc hj
    have hcl := h c (List.mem_cons_self)
    cases i with
    | zero =>
      simp only [List.getElem?_cons_zero, Option.some.injEq] at hc
      subst hc
      simp only [Nat.zero_mul, Nat.zero_add, List.flatten_cons]
      rw [List.getElem?_append_left (by omega)]
    | succ i =>
      simp only [List.getElem?_cons_succ] at hc
      simp only [List.flatten_cons]
      rw [List.getElem?_append_right (by rw [hcl, Nat.add_mul]; omega), hcl, ← ih (fun cs hc => h cs (List.mem_cons_of_mem _ hc)) i j cs hc hj]
      congr 1
      rw [Nat.add_mul]
      omega

theorem flatten_drop {css : List (List Value)} {sz : Nat} (h : ∀ cs ∈ css, cs.length = sz) (n : Nat) : css.flatten.drop (n * sz) = (css.drop n).flatten := by
  induction n generalizing css with
  | zero => simp
  | succ n ih =>
    cases css with
    | nil => simp
    | cons c css =>
      have hcl := h c (List.mem_cons_self)
      simp only [List.flatten_cons, List.drop_succ_cons]
      rw [← ih (fun cs hc => h cs (List.mem_cons_of_mem _ hc)), Nat.add_mul, List.drop_append, hcl]
      rw [List.drop_of_length_le (by rw [hcl]; omega)]
      simp

theorem flatten_take {css : List (List Value)} {sz : Nat} (h : ∀ cs ∈ css, cs.length = sz) (n : Nat) : css.flatten.take (n * sz) = (css.take n).flatten := by
  induction n generalizing css with
  | zero => simp
  | succ n ih =>
    cases css with
    | nil => simp
    | cons c css =>
      have hcl := h c (List.mem_cons_self)
      simp only [List.flatten_cons, List.take_succ_cons]
      rw [← ih (fun cs hc => h cs (List.mem_cons_of_mem _ hc)), Nat.add_mul, List.take_append, hcl]
      rw [List.take_of_length_le (by rw [hcl]; omega)]
      congr 2
      omega

/-- A slice that reads as a list. -/
def isSlice {α : Type} (d : Kind α) (ok : Ok) (W : World) (v : Value) (xs : List α) : Prop :=
  ∃ A c css, v = .slice A xs.length c ∧ xs.length ≤ c ∧ RowAt ok W A css.flatten ∧ Reads d ok W css xs

section
variable {α : Type} {d : Kind α} {ok ok' : Ok} {W W' : World} {v : Value} {xs : List α}
theorem isSlice.agree (ha : Agree ok W W') (h : isSlice d ok W v xs) : isSlice d ok W' v xs := by
  obtain ⟨A, c, css, hv, hc, hr, hd⟩ := h
  exact ⟨A, c, css, hv, hc, hr.agree ha, hd.agree ha⟩
theorem isSlice.mono (hm : ∀ k, ok k → ok' k) (h : isSlice d ok W v xs) : isSlice d ok' W v xs := by
  obtain ⟨A, c, css, hv, hc, hr, hd⟩ := h
  exact ⟨A, c, css, hv, hc, hr.mono hm, hd.mono hm⟩
theorem isSlice.bound (h : isSlice d ok W v xs) : isSlice d (fun k => ok k ∧ k < W.heap.size) W v xs := by
  obtain ⟨A, c, css, hv, hc, hr, hd⟩ := h
  exact ⟨A, c, css, hv, hc, hr.bound, hd.bound⟩
theorem isSlice.nil (d : Kind α) (ok : Ok) (W : World) (A : Option Addr) (c : Nat) : isSlice d ok W (.slice A 0 c) [] := ⟨A, c, [], rfl, Nat.zero_le _, .inl rfl, Reads.nil d ok W⟩
theorem isSlice.form (h : isSlice d ok W v xs) : ∃ A c, v = .slice A xs.length c ∧ xs.length ≤ c := by
  obtain ⟨A, c, css, hv, hc, hr, hd⟩ := h
  exact ⟨A, c, hv, hc⟩
theorem isSlice.bounded (h : isSlice d ok W v xs) (hm : ∀ k, ok k → k < W.heap.size → ok' k) : isSlice d ok' W v xs := h.bound.mono (fun k hk => hm k hk.1 hk.2)
end

def Kind.scalar {α : Type} (enc : α → Value) (h1 : ∀ x, (enc x).oneCell' = true) : Kind α where
  sz := 1
  rd := fun _ _ x cs => cs = [enc x]
  len := fun h => by rw [h]; rfl
  one := fun h u hu => by rw [h] at hu; rw [List.mem_singleton.1 hu]; exact h1 _
  agree := fun _ h => h
  mono := fun _ h => h
  bound := fun h => h

def Kind.slice {α : Type} (d : Kind α) : Kind (List α) where
  sz := 1
  rd := fun ok W xs cs => ∃ v, cs = [v] ∧ isSlice d ok W v xs
  len := fun ⟨v, h, _⟩ => by rw [h]; rfl
  one := fun ⟨v, h, hs⟩ u hu => by rw [h] at hu; rw [List.mem_singleton.1 hu]; obtain ⟨A, c, rfl, _⟩ := hs.form; rfl
  agree := fun ha ⟨v, h, hs⟩ => ⟨v, h, hs.agree ha⟩
  mono := fun hm ⟨v, h, hs⟩ => ⟨v, h, hs.mono hm⟩
  bound := fun ⟨v, h, hs⟩ => ⟨v, h, hs.bound⟩

def Kind.pair {α β : Type} (a : Kind α) (b : Kind β) : Kind (α × β) where
  sz := a.sz + b.sz
  rd := fun ok W x cs => ∃ c1 c2, cs = c1 ++ c2 ∧ a.rd ok W x.1 c1 ∧ b.rd ok W x.2 c2
  len := fun ⟨c1, c2, h, h1, h2⟩ => by rw [h, List.length_append, a.len h1, b.len h2]
  one := fun ⟨c1, c2, h, h1, h2⟩ u hu => by
    rw [h] at hu
    rcases List.mem_append.1 hu with hu | hu
    · exact a.one h1 u hu
    · exact b.one h2 u hu
  agree := fun ha ⟨c1, c2, h, h1, h2⟩ => ⟨c1, c2, h, a.agree ha h1, b.agree ha h2⟩
  mono := fun hm ⟨c1, c2, h, h1, h2⟩ => ⟨c1, c2, h, a.mono hm h1, b.mono hm h2⟩
  bound := fun ⟨c1, c2, h, h1, h2⟩ => ⟨c1, c2, h, a.bound h1, b.bound h2⟩

def Kind.iso {α β : Type} (d : Kind α) (f : β → α) : Kind β where
  sz := d.sz
  rd := fun ok W x cs => d.rd ok W (f x) cs
  len := d.len
  one := d.one
  agree := d.agree
  mono := d.mono
  bound := d.bound

def kI64 : Kind Int := Kind.scalar (Value.int .i64) (fun _ => rfl)
def encB (x : UInt8) : Value := .int .u8 x.toNat
def kU8 : Kind UInt8 := Kind.scalar encB (fun _ => rfl)
def kBytes : Kind (List UInt8) := kU8.slice

/-- Opening a slice at an element: where the cells of element i lie. -/
theorem isSlice.open {α : Type} {d : Kind α} {ok : Ok} {W : World} {A : Option Addr} {n c : Nat} {xs : List α} (h : isSlice d ok W (.slice A n c) xs) (hsz : 0 < d.sz) (hx : 0 < xs.length) :
    ∃ b o, A = some ⟨b, o, none⟩ ∧ ok b ∧ b < W.heap.size ∧ ∀ (i : Nat) (hi : i < xs.length), ∃ cs, d.rd ok W xs[i] cs ∧ ∀ (j : Nat) (u : Value), cs[j]? = some u → W.cell? ⟨b, o + (i * d.sz + j), none⟩ = some u := by
  obtain ⟨A', c', css, hv, hc, hr, hd⟩ := h
  cases hv
  have hl := hd.lens
  have hfl := flatten_length hl
  have hpos : 0 < css.flatten.length := by rw [hfl, hd.1]; exact Nat.mul_pos hx hsz
  rcases hr with hr | ⟨b, o, hA, hb, hcell⟩
  · rw [hr] at hpos; simp at hpos
  · refine ⟨b, o, hA, hb, cell_lt (hcell 0 _ (List.getElem?_eq_getElem hpos)), fun i hi => ?_⟩
    have hi' : i < css.length := by rw [hd.1]; exact hi
    refine ⟨css[i], hd.2 i _ _ (List.getElem?_eq_getElem hi) (List.getElem?_eq_getElem hi'), fun j u hu => ?_⟩
    have hcl : css[i].length = d.sz := hl _ (List.getElem_mem hi')
    have hj : j < d.sz := by rw [← hcl]; exact (List.getElem?_eq_some_iff.1 hu).1
    exact hcell _ u ((flatten_get hl i j _ (List.getElem?_eq_getElem hi') hj).trans hu)

theorem bytes_open {ok : Ok} {W : World} {A : Option Addr} {n c : Nat} {xs : List UInt8} (h : isSlice kU8 ok W (.slice A n c) xs) (hx : 0 < xs.length) :
    ∃ b o, A = some ⟨b, o, none⟩ ∧ ok b ∧ b < W.heap.size ∧ ∀ (i : Nat) (hi : i < xs.length), W.cell? ⟨b, o + i, none⟩ = some (.int .u8 xs[i].toNat) := by
  obtain ⟨b, o, hA, hb, hlt, hc⟩ := h.open (by decide) hx
  refine ⟨b, o, hA, hb, hlt, fun i hi => ?_⟩
  obtain ⟨cs, hcs, hu⟩ := hc i hi
  have := hu 0 (encB xs[i]) (by rw [show cs = [encB xs[i]] from hcs]; rfl)
  simpa [kU8, Kind.scalar, encB] using this

/-- Out of the cells of a block. -/
theorem isSlice.of_cells {α : Type} {d : Kind α} {ok : Ok} {W : World} {b o c : Nat} {css : List (List Value)} {xs : List α} (hb : ok b) (hc : xs.length ≤ c) (hd : Reads d ok W css xs)
    (hcell : ∀ (j : Nat) (u : Value), css.flatten[j]? = some u → W.cell? ⟨b, o + j, none⟩ = some u) : isSlice d ok W (.slice (some ⟨b, o, none⟩) xs.length c) xs :=
  ⟨_, c, css, rfl, hc, .inr ⟨b, o, rfl, hb, hcell⟩, hd⟩

theorem reads_bytes (ok : Ok) (W : World) (xs : List UInt8) : Reads kU8 ok W (xs.map fun x => [encB x]) xs := by
  refine ⟨by simp, fun i x cs hx hc => ?_⟩
  rw [List.getElem?_map, hx] at hc
  simp at hc
  exact hc.symm
theorem flatten_bytes (xs : List UInt8) : (xs.map fun x => [encB x]).flatten = xs.map encB := by
  induction xs with
  | nil => rfl
  | cons x xs ih => simp [ih]
theorem reads_bytes_eq {ok : Ok} {W : World} {css : List (List Value)} {xs : List UInt8} (h : Reads kU8 ok W css xs) : css = xs.map fun x => [encB x] := by
  apply List.ext_getElem?
  intro i
  rw [List.getElem?_map]
  cases hx : xs[i]? with
  | none =>
    have : css[i]? = none := by rw [List.getElem?_eq_none_iff] at hx ⊢; rw [h.1]; exact hx
    rw [this]; rfl
  | some x =>
    have hlt : i < css.length := by rw [h.1]; exact (List.getElem?_eq_some_iff.1 hx).1
    have := h.2 i x css[i] hx (List.getElem?_eq_getElem hlt)
    rw [List.getElem?_eq_getElem hlt]
    simp only [Option.map_some, Option.some.injEq]
    exact this

/-- A slice that is cut. -/
theorem isSlice.cut {α : Type} {d : Kind α} {ok : Ok} {W : World} {b o n c : Nat} {xs : List α} (h : isSlice d ok W (.slice (some ⟨b, o, none⟩) n c) xs) (lo hi c' : Nat) (h1 : lo ≤ hi) (h2 : hi ≤ xs.length) (h3 : hi - lo ≤ c') :
    isSlice d ok W (.slice (some ⟨b, o + lo * d.sz, none⟩) (hi - lo) c') ((xs.take hi).drop lo) := by
  obtain ⟨A', c'', css, hv, hc, hr, hd⟩ := h
  cases hv
  have hl := hd.lens
  have hlen : ((xs.take hi).drop lo).length = hi - lo := by simp; omega
  refine ⟨_, c', (css.take hi).drop lo, by rw [hlen], by rw [hlen]; exact h3, ?_, (hd.take hi).drop lo⟩
  rcases hr with hr | ⟨b', o', hA, hb, hcell⟩
  · left
    have : css.flatten.length = 0 := by rw [hr]; rfl
    rw [← flatten_drop (fun cs hcs => hl cs (List.mem_of_mem_take hcs)), ← flatten_take hl]
    rw [hr]; simp
  · cases hA
    right
    refine ⟨_, _, rfl, hb, fun j u hu => ?_⟩
    rw [← flatten_drop (fun cs hcs => hl cs (List.mem_of_mem_take hcs)), ← flatten_take hl, List.getElem?_drop, List.getElem?_take] at hu
    split at hu
    · have := hcell _ u hu
      rw [← Nat.add_assoc] at this
      exact this
    · cases hu

/-- A row of one's own: its shell may be written and appended to; what its elements lead to is only read. -/
def isOwn {α : Type} (d : Kind α) (e : TypeId) (ok : Ok) (base : Nat) (W : World) (v : Value) (xs : List α) : Prop :=
  ∃ css, W.ownsRow base e d.sz v xs.length css.flatten ∧ Reads d ok W css xs

theorem isOwn.nil {α : Type} (d : Kind α) (e : TypeId) (ok : Ok) (base : Nat) (W : World) : isOwn d e ok base W (.slice none 0 0) [] := ⟨[], World.ownsRow_nil _ _ _ _, Reads.nil _ _ _⟩
theorem isOwn.mono {α : Type} {d : Kind α} {e : TypeId} {ok ok' : Ok} {base : Nat} {W : World} {v : Value} {xs : List α} (hm : ∀ k, ok k → ok' k) (h : isOwn d e ok base W v xs) : isOwn d e ok' base W v xs := by
  obtain ⟨css, ho, hd⟩ := h
  exact ⟨css, ho, hd.mono hm⟩
theorem isOwn.bound {α : Type} {d : Kind α} {e : TypeId} {ok : Ok} {base : Nat} {W : World} {v : Value} {xs : List α} (h : isOwn d e ok base W v xs) : isOwn d e (fun k => ok k ∧ k < W.heap.size) base W v xs := by
  obtain ⟨css, ho, hd⟩ := h
  exact ⟨css, ho, hd.bound⟩

/-- The own row's cells. -/
theorem isOwn.row {α : Type} {d : Kind α} {e : TypeId} {ok : Ok} {base : Nat} {W : World} {v : Value} {xs : List α} (h : isOwn d e ok base W v xs) :
    ∃ A c css, v = .slice A xs.length c ∧ xs.length ≤ c ∧ RowAt (fun k => some k = v.ownBlock) W A css.flatten ∧ Reads d ok W css xs := by
  obtain ⟨css, ho, hd⟩ := h
  rcases ho.2 with ⟨rfl, hn⟩ | ⟨g, cap, cur, rfl, hg, hh, hnc, hcm, hcs, htake⟩
  · refine ⟨none, 0, css, by rw [hn], by omega, ?_, hd⟩
    left
    have := ho.1
    rw [hn] at this
    exact List.eq_nil_of_length_eq_zero (by simpa using this)
  · refine ⟨_, cap, css, rfl, hnc, .inr ⟨g, 0, rfl, rfl, fun j u hu => ?_⟩, hd⟩
    have := ho.cells (g := g) rfl j u hu
    rw [show (⟨g, 0, none⟩ : Addr).add j = ⟨g, 0 + j, none⟩ from by unfold Addr.add; split <;> simp_all] at this
    exact this

theorem isOwn.slice {α : Type} {d : Kind α} {e : TypeId} {ok ok' : Ok} {base : Nat} {W : World} {v : Value} {xs : List α} (h : isOwn d e ok base W v xs) (h1 : ∀ k, ok k → ok' k) (h2 : ∀ k, v.ownBlock = some k → ok' k) : isSlice d ok' W v xs := by
  obtain ⟨A, c, css, hv, hc, hr, hd⟩ := h.row
  exact ⟨A, c, css, hv, hc, hr.mono (fun k hk => h2 k hk.symm), hd.mono h1⟩

theorem isOwn.agree {α : Type} {d : Kind α} {e : TypeId} {ok : Ok} {base : Nat} {W W' : World} {v : Value} {xs : List α} (h : isOwn d e ok base W v xs) (ha : Agree ok W W') (hb : ∀ k, v.ownBlock = some k → W'.heap[k]? = W.heap[k]?) : isOwn d e ok base W' v xs := by
  obtain ⟨css, ho, hd⟩ := h
  refine ⟨css, ⟨ho.1, ?_⟩, hd.agree ha⟩
  rcases ho.2 with h | ⟨g, cap, cur, rfl, hg, hh, r⟩
  · exact .inl h
  · exact .inr ⟨g, cap, cur, rfl, hg, (hb g rfl).trans hh, r⟩

theorem isOwn.lt {α : Type} {d : Kind α} {e : TypeId} {ok : Ok} {base : Nat} {W : World} {v : Value} {xs : List α} (h : isOwn d e ok base W v xs) : ∀ k, v.ownBlock = some k → base ≤ k ∧ k < W.heap.size := by
  obtain ⟨css, ho, hd⟩ := h
  exact ho.lt

theorem isOwn.typed {α : Type} {d : Kind α} {e : TypeId} {ok : Ok} {base : Nat} {W : World} {v : Value} {xs : List α} (h : isOwn d e ok base W v xs) : ∀ k, v.ownBlock = some k → ∃ cur, W.heap[k]? = some (.cells cur e (0, 0)) := by
  obtain ⟨css, ho, hd⟩ := h
  intro k hk
  rcases ho.2 with ⟨rfl, _⟩ | ⟨g, cap, cur, rfl, hg, hh, r⟩
  · simp [Value.ownBlock] at hk
  · simp [Value.ownBlock] at hk
    subst hk
    exact ⟨cur, hh⟩
theorem isOwn.weaken {α : Type} {d : Kind α} {e : TypeId} {ok : Ok} {base base' : Nat} {W : World} {v : Value} {xs : List α} (h : isOwn d e ok base W v xs) (hb : base' ≤ base) : isOwn d e ok base' W v xs := by
  obtain ⟨css, ho, hd⟩ := h
  refine ⟨css, ⟨ho.1, ?_⟩, hd⟩
  rcases ho.2 with h | ⟨g, cap, cur, rfl, hg, r⟩
  · exact .inl h
  · exact .inr ⟨g, cap, cur, rfl, by omega, r⟩

/-- A kind whose values lie in their cells alone. -/
def Kind.Flat {α : Type} (d : Kind α) : Prop := ∀ (ok ok' : Ok) (W W' : World) (x : α) (cs : List Value), d.rd ok W x cs → d.rd ok' W' x cs
theorem flat_scalar {α : Type} (enc : α → Value) (h1 : ∀ x, (enc x).oneCell' = true) : (Kind.scalar enc h1).Flat := fun _ _ _ _ _ _ h => h
theorem flat_u8 : kU8.Flat := flat_scalar _ _
theorem flat_i64 : kI64.Flat := flat_scalar _ _
theorem flat_pair {α β : Type} {a : Kind α} {b : Kind β} (ha : a.Flat) (hb : b.Flat) : (a.pair b).Flat :=
  fun ok ok' W W' _ _ ⟨c1, c2, h, h1, h2⟩ => ⟨c1, c2, h, ha ok ok' W W' _ _ h1, hb ok ok' W W' _ _ h2⟩
theorem flat_iso {α β : Type} {d : Kind α} (f : β → α) (hd : d.Flat) : (d.iso f).Flat := fun ok ok' W W' x cs h => hd ok ok' W W' (f x) cs h
theorem Reads.flat {α : Type} {d : Kind α} (hd : d.Flat) {ok : Ok} (ok' : Ok) {W : World} (W' : World) {css : List (List Value)} {xs : List α} (h : Reads d ok W css xs) : Reads d ok' W' css xs :=
  ⟨h.1, fun i x cs hx hc => hd ok ok' W W' x cs (h.2 i x cs hx hc)⟩
/-- A row of flat elements that the call owns reads from its own block alone. -/
theorem isOwn.slice_flat {α : Type} {d : Kind α} (hd : d.Flat) {e : TypeId} {ok ok' : Ok} {base : Nat} {W : World} {v : Value} {xs : List α} (h : isOwn d e ok base W v xs) (h2 : ∀ k, v.ownBlock = some k → ok' k) : isSlice d ok' W v xs := by
  obtain ⟨A, c, css, hv, hc, hr, hx⟩ := h.row
  exact ⟨A, c, css, hv, hc, hr.mono (fun k hk => h2 k hk.symm), hx.flat hd _ _⟩

end Go.Proofs.Ytdoehnnhbfmleaa
