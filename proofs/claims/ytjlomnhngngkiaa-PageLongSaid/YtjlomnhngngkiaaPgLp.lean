/- PageLong, plain: a map told by a table of 600 numbers. -/
import Derived.Test.YtjlomnhngngkiaaZA
namespace Go.Proofs.Ytjlomnhngngkiaa
open Go.Gl
set_option linter.unusedVariables false

/-- the key of a number -/
def kb (k : Nat) : List UInt8 := [UInt8.ofNat (k / 256), UInt8.ofNat k]
theorem kb_less {a b : Nat} (ha : a < 65536) (hb : b < 65536) : lessB (kb a) (kb b) = decide (a < b) := by
  unfold kb
  simp only [lessB, ← UInt8.toNat_inj, UInt8.toNat_ofNat']
  split
  · split
    · rename_i h1 h2
      have : a = b := by omega
      subst this
      simp
    · rename_i h1 h2
      simp only [decide_eq_decide]
      omega
  · rename_i h1
    simp only [decide_eq_decide]
    omega
theorem kb_inj {a b : Nat} (ha : a < 65536) (hb : b < 65536) (h : kb a = kb b) : a = b := by
  have h1 := kb_less ha hb
  have h2 := kb_less hb ha
  rw [h, lessB_irr] at h1
  rw [h, lessB_irr] at h2
  simp at h1 h2
  omega

def ent1 (th : List Nat) (k : Nat) : Option Ent := if th.getD k 0 = 0 then none else some (kb k, [UInt8.ofNat (th.getD k 0 - 1)])
def seg (th : List Nat) (a n : Nat) : List Ent := (List.range' a n).filterMap (ent1 th)
theorem seg_app (th : List Nat) (a n m : Nat) : seg th a (n + m) = seg th a n ++ seg th (a + n) m := by
  unfold seg
  rw [← List.range'_append_1, List.filterMap_append]
theorem seg_one (th : List Nat) (a : Nat) : seg th a 1 = (ent1 th a).toList := by
  unfold seg
  simp only [List.range'_one, List.filterMap_cons, List.filterMap_nil]
  cases ent1 th a <;> rfl
theorem seg_mem {th : List Nat} {a n : Nat} {e : Ent} (h : e ∈ seg th a n) : ∃ k, a ≤ k ∧ k < a + n ∧ e.1 = kb k := by
  unfold seg at h
  obtain ⟨k, hk, he⟩ := List.mem_filterMap.1 h
  rw [List.mem_range'_1] at hk
  refine ⟨k, hk.1, hk.2, ?_⟩
  unfold ent1 at he
  split at he
  · cases he
  · cases he; rfl
theorem fm_congr {α β : Type} {f g : α → Option β} : ∀ {l : List α}, (∀ x ∈ l, f x = g x) → l.filterMap f = l.filterMap g
  | [], _ => rfl
  | a :: l, h => by rw [List.filterMap_cons, List.filterMap_cons, h a (List.mem_cons_self ..), fm_congr (fun x hx => h x (List.mem_cons_of_mem _ hx))]
theorem seg_congr {th th' : List Nat} {a n : Nat} (h : ∀ k, a ≤ k → k < a + n → th.getD k 0 = th'.getD k 0) : seg th a n = seg th' a n := by
  unfold seg
  refine fm_congr (fun k hk => ?_)
  rw [List.mem_range'_1] at hk
  unfold ent1
  rw [h k hk.1 hk.2]
def tb (th : List Nat) : List Ent := seg th 0 600
theorem tb_split (th : List Nat) {k : Nat} (hk : k < 600) : tb th = seg th 0 k ++ ((ent1 th k).toList ++ seg th (k + 1) (599 - k)) := by
  unfold tb
  have e : 600 = k + (1 + (599 - k)) := by omega
  rw [e, seg_app, seg_app, seg_one, Nat.zero_add]
theorem ent1_key {th : List Nat} {k : Nat} {e : Ent} (h : e ∈ (ent1 th k).toList) : e.1 = kb k := by
  unfold ent1 at h
  split at h
  · simp at h
  · simp at h; rw [h]
theorem tb_below (th : List Nat) {k : Nat} (hk : k < 600) : (tb th).filter (fun e => lessB e.1 (kb k)) = seg th 0 k := by
  rw [tb_split th hk, List.filter_append, List.filter_append, filter_all (l := seg th 0 k) (fun e he => by
    obtain ⟨j, h1, h2, h3⟩ := seg_mem he
    rw [h3, kb_less (by omega) (by omega)]; simp; omega),
    filter_none (l := (ent1 th k).toList) (fun e he => by rw [ent1_key he, lessB_irr]),
    filter_none (l := seg th (k + 1) (599 - k)) (fun e he => by
      obtain ⟨j, h1, h2, h3⟩ := seg_mem he
      rw [h3, kb_less (by omega) (by omega)]; simp; omega)]
  simp
theorem tb_above (th : List Nat) {k : Nat} (hk : k < 600) : (tb th).filter (fun e => lessB (kb k) e.1) = seg th (k + 1) (599 - k) := by
  rw [tb_split th hk, List.filter_append, List.filter_append, filter_none (l := seg th 0 k) (fun e he => by
    obtain ⟨j, h1, h2, h3⟩ := seg_mem he
    rw [h3, kb_less (by omega) (by omega)]; simp; omega),
    filter_none (l := (ent1 th k).toList) (fun e he => by rw [ent1_key he, lessB_irr]),
    filter_all (l := seg th (k + 1) (599 - k)) (fun e he => by
      obtain ⟨j, h1, h2, h3⟩ := seg_mem he
      rw [h3, kb_less (by omega) (by omega)]; simp; omega)]
  simp
theorem set_getD {th : List Nat} {k x : Nat} (hk : k < th.length) (j : Nat) : (th.set k x).getD j 0 = if j = k then x else th.getD j 0 := by
  simp only [List.getD_eq_getElem?_getD, List.getElem?_set]
  split
  · rename_i h; subst h; simp
  · rename_i h; rw [if_neg (fun e => h e.symm)]
theorem tb_set {th : List Nat} {k x : Nat} (hk : k < 600) (hl : th.length = 600) : tb (th.set k x) = seg th 0 k ++ ((if x = 0 then [] else [(kb k, [UInt8.ofNat (x - 1)])]) ++ seg th (k + 1) (599 - k)) := by
  rw [tb_split _ hk]
  have h1 : seg (th.set k x) 0 k = seg th 0 k := seg_congr (fun j _ hj => by rw [set_getD (by omega), if_neg (by omega)])
  have h2 : seg (th.set k x) (k + 1) (599 - k) = seg th (k + 1) (599 - k) := seg_congr (fun j hj _ => by rw [set_getD (by omega), if_neg (by omega)])
  rw [h1, h2]
  congr 2
  unfold ent1
  rw [set_getD (by omega), if_pos rfl]
  split <;> rfl
theorem tb_ins {th : List Nat} {k x : Nat} (hk : k < 600) (hl : th.length = 600) : insL (tb th) (kb k) [UInt8.ofNat x] = tb (th.set k (x + 1)) := by
  unfold insL
  rw [tb_below th hk, tb_above th hk, tb_set hk hl, if_neg (by omega)]
  rfl
theorem tb_del {th : List Nat} {k : Nat} (hk : k < 600) (hl : th.length = 600) : delL (tb th) (kb k) = tb (th.set k 0) := by
  unfold delL
  rw [tb_below th hk, tb_above th hk, tb_set hk hl, if_pos rfl]
  rfl
theorem tb_there {ps : Pgs} (ok : PgOk ps) {th : List Nat} (hf : ps.flatten = tb th) {k : Nat} (hk : k < 600) : (findP ps (kb k)).2.2 = decide (th.getD k 0 ≠ 0) := by
  rw [Bool.eq_iff_iff, there_iff ok, hf, decide_eq_true_iff]
  constructor
  · rintro ⟨e, he, hek⟩
    unfold tb seg at he
    obtain ⟨j, hj, hje⟩ := List.mem_filterMap.1 he
    rw [List.mem_range'_1] at hj
    unfold ent1 at hje
    split at hje
    · cases hje
    · rename_i h0
      cases hje
      have := kb_inj (by omega) (by omega) hek
      rw [← this]
      exact h0
  · intro h
    rw [tb_split th hk]
    refine ⟨(kb k, [UInt8.ofNat (th.getD k 0 - 1)]), ?_, rfl⟩
    unfold ent1
    rw [if_neg h]
    simp
/-- the entry of a number is at its place -/
theorem seg_succ (th : List Nat) (k : Nat) : seg th 0 (k + 1) = seg th 0 k ++ (ent1 th k).toList := by
  rw [seg_app, seg_one, Nat.zero_add]
theorem tb_at {th : List Nat} {k : Nat} (hk : k < 600) (h : th.getD k 0 ≠ 0) : (tb th)[(seg th 0 k).length]? = some (kb k, [UInt8.ofNat (th.getD k 0 - 1)]) := by
  rw [tb_split th hk]
  unfold ent1
  rw [if_neg h]
  simp

end Go.Proofs.Ytjlomnhngngkiaa
