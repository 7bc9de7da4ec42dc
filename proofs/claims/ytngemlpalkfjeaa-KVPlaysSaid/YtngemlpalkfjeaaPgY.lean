/- The pages, plain: what a walk gives is what lies between its bounds. -/
import Derived.Test.YtngemlpalkfjeaaZB
import Derived.Test.YtngemlpalkfjeaaPgQ
import Derived.Test.YtngemlpalkfjeaaPgB
namespace Go.Proofs.Ytngemlpalkfjeaa
open Go.Gl
set_option linter.unusedVariables false
theorem ents_rest (R : List PV) (p i : Nat) : ents (rest R p i) = ((pgs R).drop p).flatten.drop i := by
  unfold rest ents pgs
  rw [List.map_drop, List.map_flatMap, List.flatMap_def, List.map_drop]
  rfl
theorem ents_ris {R : List PV} (ok : PgOk (pgs R)) (xs : List UInt8) : ents (risL R xs) = (pgs R).flatten.filter (fun e => !lessB e.1 xs) := by
  unfold risL
  rw [ents_rest]
  by_cases hne : pgs R = []
  · rw [hne]; simp
  obtain ⟨A, l, C, i, h⟩ := lies ok hne xs
  rw [h.fst, h.snd, h.flat]
  rw [List.filter_append, filter_none (l := A.flatten ++ l.take i) (fun e he => by rcases List.mem_append.1 he with he | he; rw [h.lo e he]; rfl; rw [h.plo e he]; rfl), List.nil_append,
    filter_all (l := l.drop i ++ C.flatten) (fun e he => by rcases List.mem_append.1 he with he | he; rw [h.phi e he]; rfl; rw [lessB_asym (h.hi e he)]; rfl)]
  rw [h.eq, List.append_assoc A, List.drop_left' rfl, List.flatten_append, List.flatten_singleton, List.drop_append_of_le_length h.il]
theorem ents_tw (p : Ent → Bool) : ∀ L : List EV, ents (L.takeWhile (fun e => p (e.k, e.v))) = (ents L).takeWhile p
  | [] => rfl
  | e :: L => by
    have ih := ents_tw p L
    unfold ents at ih ⊢
    rw [List.takeWhile_cons, List.map_cons, List.takeWhile_cons]
    cases hp : p (e.k, e.v) with
    | true => rw [show p e.ent = true from hp]; simp only [if_true]; rw [List.map_cons, ih]
    | false => rw [show p e.ent = false from hp]; rfl
def btw (xs ts : List UInt8) (e : Ent) : Bool := !lessB e.1 xs && (ts.isEmpty || lessB e.1 ts)
theorem ents_wk {R : List PV} (ok : PgOk (pgs R)) (xs ts : List UInt8) : ents (wkL R xs ts) = (pgs R).flatten.filter (btw xs ts) := by
  have h1 : wkL R xs ts = (risL R xs).takeWhile (fun e => (fun x : Ent => ts.isEmpty || lessB x.1 ts) (e.k, e.v)) := rfl
  rw [h1, ents_tw (fun x : Ent => ts.isEmpty || lessB x.1 ts), ents_ris ok]
  have hr : Ris ((pgs R).flatten.filter (fun e => !lessB e.1 xs)) := List.Pairwise.filter _ ok.ris
  have h2 : ((pgs R).flatten.filter (fun e => !lessB e.1 xs)).takeWhile (fun x => ts.isEmpty || lessB x.1 ts) = ((pgs R).flatten.filter (fun e => !lessB e.1 xs)).filter (fun x => ts.isEmpty || lessB x.1 ts) := by
    cases ts with
    | nil =>
      simp only [List.isEmpty_nil, Bool.true_or]
      rw [List.filter_eq_self.2 (fun _ _ => rfl)]
      generalize List.filter _ _ = l
      induction l with
      | nil => rfl
      | cons a l ih => rw [List.takeWhile_cons_of_pos rfl, ih]
    | cons a b =>
      simp only [List.isEmpty_cons, Bool.false_or]
      exact (hr.split _).1
  rw [h2, List.filter_filter]
  congr 1
  funext e
  exact Bool.and_comm _ _
theorem ents_wk_all {R : List PV} (ok : PgOk (pgs R)) : ents (wkL R [] []) = (pgs R).flatten := by
  rw [ents_wk ok]
  refine filter_all (fun e _ => ?_)
  have : lessB e.1 [] = false := by cases e.1 <;> rfl
  unfold btw
  rw [this]
  rfl
theorem wk_len {R : List PV} (ok : PgOk (pgs R)) (xs ts : List UInt8) : (wkL R xs ts).length ≤ cnt (pgs R) := by
  have := congrArg List.length (ents_wk ok xs ts)
  rw [ents_length] at this
  rw [this]
  exact List.length_filter_le _ _
end Go.Proofs.Ytngemlpalkfjeaa
