/- Flash memories as plain data. -/
namespace Go.Proofs.Ytdoehnnhbfmleaa

/-- A memory: the sector's size and the bytes. -/
structure Fl where
  sector : Int
  bytes : List UInt8
deriving DecidableEq

def valid (f : Fl) : Bool :=
  decide (1 ≤ f.sector ∧ f.sector ≤ 1024 ∧ f.sector ≤ (f.bytes.length : Int) ∧ (f.bytes.length : Int) ≤ 16384 ∧ (f.bytes.length : Int) % f.sector = 0)

/-- the bytes after k steps of turning byte s + i by g i. -/
def upd (bs : List UInt8) (s k : Nat) (g : Nat → UInt8 → UInt8) : List UInt8 :=
  bs.mapIdx fun j b => if s ≤ j ∧ j < s + k then g (j - s) b else b

@[simp] theorem upd_length (bs : List UInt8) (s k : Nat) (g : Nat → UInt8 → UInt8) : (upd bs s k g).length = bs.length := by simp [upd]

theorem upd_getElem? (bs : List UInt8) (s k : Nat) (g : Nat → UInt8 → UInt8) (j : Nat) :
    (upd bs s k g)[j]? = bs[j]?.map fun b => if s ≤ j ∧ j < s + k then g (j - s) b else b := by
  simp [upd]

theorem upd_zero (bs : List UInt8) (s : Nat) (g : Nat → UInt8 → UInt8) : upd bs s 0 g = bs := by
  apply List.ext_getElem?
  intro j
  rw [upd_getElem?]
  cases h : bs[j]? with
  | none => rfl
  | some b => simp; intro h1 h2; omega

theorem upd_succ (bs : List UInt8) (s k : Nat) (g : Nat → UInt8 → UInt8) (h : s + k < bs.length) :
    upd bs s (k + 1) g = (upd bs s k g).set (s + k) (g k (bs[s + k])) := by
  apply List.ext_getElem?
  intro j
  rw [List.getElem?_set, upd_getElem?, upd_getElem?]
  by_cases hj : s + k = j
  · subst hj
    have : (upd bs s k g).length = bs.length := upd_length ..
    simp [h, this]
  · rw [if_neg hj]
    congr 1
    funext b
    by_cases h1 : s ≤ j ∧ j < s + k
    · rw [if_pos h1, if_pos (by omega)]
    · rw [if_neg h1, if_neg (by omega)]

theorem upd_at (bs : List UInt8) (s k : Nat) (g : Nat → UInt8 → UInt8) (h : s + k < bs.length) : (upd bs s k g)[s + k]'(by simpa using h) = bs[s + k] := by
  have := upd_getElem? bs s k g (s + k)
  rw [List.getElem?_eq_getElem (by simpa using h), List.getElem?_eq_getElem h] at this
  simp at this
  exact this

/-- the memories of n steps, the first one among them. -/
def steps (f : Fl) (s n : Nat) (g : Nat → UInt8 → UInt8) : List Fl := (List.range (n + 1)).map fun i => ⟨f.sector, upd f.bytes s i g⟩

@[simp] theorem steps_length (f : Fl) (s n : Nat) (g : Nat → UInt8 → UInt8) : (steps f s n g).length = n + 1 := by simp [steps]
theorem steps_get (f : Fl) (s n : Nat) (g : Nat → UInt8 → UInt8) (i : Nat) (h : i < (steps f s n g).length) : (steps f s n g)[i] = ⟨f.sector, upd f.bytes s i g⟩ := by simp [steps]

def andWith (data : List UInt8) (i : Nat) (b : UInt8) : UInt8 := b &&& data.getD i 255
def toFF (_ : Nat) (_ : UInt8) : UInt8 := 255

/-- what Program returns: the memories and the number of the error. -/
def program (f : Fl) (s : Int) (data : List UInt8) : List Fl × Int :=
  if valid f = false ∨ s < 0 then ([], 1)
  else if (f.bytes.length : Int) < s ∨ (f.bytes.length : Int) - s < data.length then ([], 3)
  else (steps f s.toNat data.length (andWith data), 0)

def erase (f : Fl) (sector : Int) : List Fl × Int :=
  if valid f = false ∨ sector < 0 ∨ (f.bytes.length : Int) / f.sector ≤ sector then ([], 1)
  else (steps f (sector * f.sector).toNat f.sector.toNat toFF, 0)

def new (sector sectors : Int) : Fl × Int :=
  if sector < 1 ∨ 1024 < sector ∨ sectors < 1 ∨ 16384 / sector < sectors then (⟨0, []⟩, 1)
  else (⟨sector, List.replicate (sector * sectors).toNat 255⟩, 0)

end Go.Proofs.Ytdoehnnhbfmleaa
