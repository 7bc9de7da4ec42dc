/- Plain facts on numbers as bytes, the highest first. No program in sight. -/
import Derived.KernelRfl
namespace Go.Gl

/-- n bytes of a number, the highest first. -/
def be : Nat → Nat → List UInt8
  | 0, _ => []
  | n + 1, x => UInt8.ofNat (x / 256 ^ n) :: be n x

/-- What bytes say as a number, the highest first. -/
def num (xs : List UInt8) : Nat := xs.foldl (fun a c => a * 256 + c.toNat) 0

theorem be_length (n x : Nat) : (be n x).length = n := by
  induction n with
  | zero => rfl
  | succ n ih => simp [be, ih]

theorem num_snoc (xs : List UInt8) (c : UInt8) : num (xs ++ [c]) = num xs * 256 + c.toNat := by simp [num]

theorem num_lt (xs : List UInt8) : num xs < 256 ^ xs.length := by
  suffices h : ∀ ys : List UInt8, num ys.reverse < 256 ^ ys.length by
    have := h xs.reverse
    simpa using this
  intro ys
  induction ys with
  | nil => simp [num]
  | cons c ys ih =>
    rw [List.reverse_cons, num_snoc, List.length_cons, Nat.pow_succ]
    have := c.toNat_lt
    omega

theorem foldl_num (xs : List UInt8) (a : Nat) : xs.foldl (fun a c => a * 256 + c.toNat) a = a * 256 ^ xs.length + num xs := by
  induction xs generalizing a with
  | nil => simp [num]
  | cons c xs ih =>
    rw [num, List.foldl_cons, List.foldl_cons, List.length_cons, ih, ih (0 * 256 + c.toNat), Nat.pow_succ, Nat.zero_mul, Nat.zero_add, Nat.add_mul, Nat.mul_comm (256 ^ xs.length) 256, ← Nat.mul_assoc, Nat.add_assoc]

theorem num_cons (c : UInt8) (xs : List UInt8) : num (c :: xs) = c.toNat * 256 ^ xs.length + num xs := by
  rw [num, List.foldl_cons, foldl_num]
  simp

theorem num_be (n x : Nat) : num (be n x) = x % 256 ^ n := by
  induction n with
  | zero => simp [be, num, Nat.mod_one]
  | succ n ih =>
    rw [be, num_cons, be_length, ih, UInt8.toNat_ofNat']
    have h := Nat.mod_mul (x := x) (a := 256 ^ n) (b := 256)
    rw [Nat.pow_succ 256 n, h, show (2 ^ 8 : Nat) = 256 from rfl, Nat.mul_comm (256 ^ n)]
    omega

theorem be_num (xs : List UInt8) : be xs.length (num xs) = xs := by
  suffices h : ∀ (xs : List UInt8) (q : Nat), be xs.length (q * 256 ^ xs.length + num xs) = xs by simpa using h xs 0
  intro xs
  induction xs with
  | nil => intro q; rfl
  | cons c xs ih =>
    intro q
    have hl := num_lt xs
    have hp : 0 < 256 ^ xs.length := Nat.pow_pos (by decide)
    rw [List.length_cons, be, num_cons]
    have e : q * 256 ^ (xs.length + 1) + (c.toNat * 256 ^ xs.length + num xs) = (q * 256 + c.toNat) * 256 ^ xs.length + num xs := by
      rw [Nat.pow_succ, Nat.add_mul, Nat.mul_assoc, Nat.mul_comm (256 ^ xs.length) 256]; omega
    rw [e, ih]
    congr 1
    rw [Nat.mul_comm, Nat.mul_add_div hp, Nat.div_eq_of_lt hl, Nat.add_zero]
    apply UInt8.toNat_inj.1
    rw [UInt8.toNat_ofNat']
    have := c.toNat_lt
    omega

theorem num_be8 (x : Nat) (h : x < 18446744073709551616) : num (be 8 x) = x := by
  rw [num_be]
  exact Nat.mod_eq_of_lt (by simpa using h)

theorem be_inj {n x y : Nat} (hx : x < 256 ^ n) (hy : y < 256 ^ n) (h : be n x = be n y) : x = y := by
  have := congrArg num h
  rw [num_be, num_be, Nat.mod_eq_of_lt hx, Nat.mod_eq_of_lt hy] at this
  exact this

/-- The byte of a number that stands i places above the last one. -/
def b8 (x i : Nat) : Int := ((x / 256 ^ i % 256 : Nat) : Int)
theorem b8_range (x i : Nat) : 0 ≤ b8 x i ∧ b8 x i < 256 := by unfold b8; omega
theorem be_get (n x i : Nat) (h : i < n) : ((be n x)[i]?).map (fun c => ((c.toNat : Nat) : Int)) = some (b8 x (n - 1 - i)) := by
  induction n generalizing i with
  | zero => omega
  | succ n ih =>
    rcases i with _ | i
    · simp only [be, List.getElem?_cons_zero, Option.map_some, UInt8.toNat_ofNat', b8]
      simp
    · simp only [be, List.getElem?_cons_succ]
      rw [ih i (by omega)]
      congr 2
      omega

end Go.Gl
