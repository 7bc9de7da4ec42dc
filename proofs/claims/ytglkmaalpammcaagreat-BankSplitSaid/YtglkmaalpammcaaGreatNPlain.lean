/- Digits of a number to a base, the lowest first; noughts at the top struck. Plain. -/
import Derived.KernelRfl
namespace Go.Gl
def dval (B : Nat) : List Nat → Nat
  | [] => 0
  | d :: ds => d + B * dval B ds
def strip : List Nat → List Nat
  | [] => []
  | d :: ds => if d = 0 ∧ strip ds = [] then [] else d :: strip ds
theorem strip_strip (ds : List Nat) : strip (strip ds) = strip ds := by
  induction ds with
  | nil => rfl
  | cons d ds ih =>
    by_cases h : d = 0 ∧ strip ds = []
    · rw [strip, if_pos h]; rfl
    · rw [strip, if_neg h, strip, ih, if_neg h]
theorem strip_length_le (ds : List Nat) : (strip ds).length ≤ ds.length := by
  induction ds with
  | nil => exact Nat.le_refl _
  | cons d ds ih =>
    unfold strip
    split
    · simp
    · simp only [List.length_cons]
      omega
theorem dval_strip (B : Nat) (ds : List Nat) : dval B (strip ds) = dval B ds := by
  induction ds with
  | nil => rfl
  | cons d ds ih =>
    unfold strip
    split
    · rename_i h
      have := ih
      rw [h.2] at this
      simp only [dval] at this ⊢
      rw [h.1, ← this]
      rfl
    · simp only [dval, ih]
theorem strip_mem {ds : List Nat} {x : Nat} (h : x ∈ strip ds) : x ∈ ds := by
  induction ds with
  | nil => exact h
  | cons d ds ih =>
    unfold strip at h
    split at h
    · cases h
    · rcases List.mem_cons.1 h with h | h
      · exact h ▸ List.mem_cons_self
      · exact List.mem_cons_of_mem _ (ih h)
theorem strip_zero {ds : List Nat} (h : ∀ x ∈ ds, x = 0) : strip ds = [] := by
  induction ds with
  | nil => rfl
  | cons d ds ih =>
    unfold strip
    rw [if_pos ⟨h d List.mem_cons_self, ih (fun x hx => h x (List.mem_cons_of_mem _ hx))⟩]
theorem dval_pos {B : Nat} (hB : 0 < B) {ds : List Nat} (h : strip ds ≠ []) : 0 < dval B ds := by
  induction ds with
  | nil => exact absurd rfl h
  | cons d ds ih =>
    unfold strip at h
    simp only [dval]
    by_cases hd : d = 0
    · have : strip ds ≠ [] := fun e => h (by rw [if_pos ⟨hd, e⟩])
      have := Nat.mul_pos hB (ih this)
      omega
    · omega
theorem digits_inj {B : Nat} (hB : 1 < B) : ∀ (ds es : List Nat), (∀ x ∈ ds, x < B) → (∀ x ∈ es, x < B) → strip ds = ds → strip es = es → dval B ds = dval B es → ds = es := by
  intro ds
  induction ds with
  | nil =>
    intro es _ _ _ h4 h5
    rcases es with _ | ⟨e, es⟩
    · rfl
    · exfalso
      have := dval_pos (B := B) (by omega) (ds := e :: es) (by rw [h4]; simp)
      simp only [dval] at h5 this
      omega
  | cons d ds ih =>
    intro es h1 h2 h3 h4 h5
    rcases es with _ | ⟨e, es⟩
    · exfalso
      have := dval_pos (B := B) (by omega) (ds := d :: ds) (by rw [h3]; simp)
      simp only [dval] at h5 this
      omega
    · have hd := h1 d List.mem_cons_self
      have he := h2 e List.mem_cons_self
      simp only [dval] at h5
      have e1 : d = e := by
        have := congrArg (· % B) h5
        simpa [Nat.add_mul_mod_self_left, Nat.mod_eq_of_lt hd, Nat.mod_eq_of_lt he] using this
      subst e1
      have e2 : dval B ds = dval B es := Nat.eq_of_mul_eq_mul_left (by omega) (Nat.add_left_cancel h5)
      have n1 : strip ds = ds := by
        unfold strip at h3
        split at h3
        · cases h3
        · exact (List.cons.inj h3).2
      have n2 : strip es = es := by
        unfold strip at h4
        split at h4
        · cases h4
        · exact (List.cons.inj h4).2
      rw [ih es (fun x hx => h1 x (List.mem_cons_of_mem _ hx)) (fun x hx => h2 x (List.mem_cons_of_mem _ hx)) n1 n2 e2]
theorem strip_inj {B : Nat} (hB : 1 < B) {ds es : List Nat} (h1 : ∀ x ∈ ds, x < B) (h2 : ∀ x ∈ es, x < B) (h : dval B ds = dval B es) : strip ds = strip es :=
  digits_inj hB _ _ (fun x hx => h1 x (strip_mem hx)) (fun x hx => h2 x (strip_mem hx)) (strip_strip _) (strip_strip _) (by rw [dval_strip, dval_strip, h])
theorem dval_append (B : Nat) (ds es : List Nat) : dval B (ds ++ es) = dval B ds + B ^ ds.length * dval B es := by
  induction ds with
  | nil => simp [dval]
  | cons d ds ih =>
    simp only [List.cons_append, dval, ih, List.length_cons, Nat.pow_succ, Nat.mul_add]
    rw [← Nat.mul_assoc, Nat.mul_comm B (B ^ ds.length), Nat.add_assoc]
theorem dval_lt {B : Nat} {ds : List Nat} (h : ∀ x ∈ ds, x < B) : dval B ds < B ^ ds.length := by
  induction ds with
  | nil => simp [dval]
  | cons d ds ih =>
    have h1 := h d List.mem_cons_self
    have h2 := ih (fun x hx => h x (List.mem_cons_of_mem _ hx))
    simp only [dval, List.length_cons, Nat.pow_succ]
    have h3 : B * (dval B ds + 1) ≤ B * B ^ ds.length := Nat.mul_le_mul_left _ h2
    rw [Nat.mul_add, Nat.mul_one] at h3
    rw [Nat.mul_comm (B ^ ds.length)]
    omega
def ldig (B : Nat) : Nat → Nat → List Nat
  | 0, _ => []
  | n + 1, x => x % B :: ldig B n (x / B)
theorem ldig_length (B n x : Nat) : (ldig B n x).length = n := by
  induction n generalizing x with
  | zero => rfl
  | succ n ih => simp [ldig, ih]
theorem ldig_lt {B : Nat} (hB : 0 < B) (n x : Nat) : ∀ d ∈ ldig B n x, d < B := by
  induction n generalizing x with
  | zero => intro d hd; cases hd
  | succ n ih =>
    intro d hd
    rcases List.mem_cons.1 hd with hd | hd
    · exact hd ▸ Nat.mod_lt _ hB
    · exact ih _ d hd
theorem dval_ldig {B : Nat} (n x : Nat) : dval B (ldig B n x) = x % B ^ n := by
  induction n generalizing x with
  | zero => simp [ldig, dval, Nat.mod_one]
  | succ n ih =>
    rw [ldig, dval, ih, Nat.pow_succ, Nat.mul_comm (B ^ n) B, Nat.mod_mul]
theorem ldig_get (B n x i : Nat) (h : i < n) : (ldig B n x)[i]? = some (x / B ^ i % B) := by
  induction n generalizing x i with
  | zero => omega
  | succ n ih =>
    rcases i with _ | i
    · simp [ldig]
    · rw [ldig, List.getElem?_cons_succ, ih _ _ (by omega), Nat.pow_succ, Nat.mul_comm (B ^ i) B, Nat.div_div_eq_div_mul]
def dig (B x : Nat) : List Nat := strip (ldig B x x)
theorem lt_pow_self {B : Nat} (hB : 1 < B) (x : Nat) : x < B ^ x := Nat.lt_pow_self hB
theorem dval_dig {B : Nat} (hB : 1 < B) (x : Nat) : dval B (dig B x) = x := by
  unfold dig
  rw [dval_strip, dval_ldig, Nat.mod_eq_of_lt (lt_pow_self hB x)]
theorem dig_lt {B : Nat} (hB : 1 < B) (x : Nat) : ∀ d ∈ dig B x, d < B := fun d hd => ldig_lt (by omega) _ _ d (strip_mem hd)
theorem strip_dig {B : Nat} (hB : 1 < B) {ds : List Nat} (h : ∀ x ∈ ds, x < B) : strip ds = dig B (dval B ds) := by
  rw [show dig B (dval B ds) = strip (dig B (dval B ds)) from (strip_strip _).symm]
  exact strip_inj hB h (dig_lt hB _) (dval_dig hB _).symm
theorem dig_ldig {B : Nat} (hB : 1 < B) {n x : Nat} (h : x < B ^ n) : dig B x = strip (ldig B n x) := by
  rw [strip_dig hB (ldig_lt (by omega) n x), dval_ldig, Nat.mod_eq_of_lt h]
theorem strip_last {ds : List Nat} {d : Nat} (h : d ≠ 0) : strip (ds ++ [d]) = ds ++ [d] := by
  induction ds with
  | nil => simp [strip, h]
  | cons e ds ih =>
    rw [List.cons_append, strip, ih, if_neg (by simp)]
end Go.Gl
