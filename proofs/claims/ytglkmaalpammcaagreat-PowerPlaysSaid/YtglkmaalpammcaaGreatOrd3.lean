/- A drawn region told in a tree of orders: wherever two operations may come up next, both ways are told. -/
import Derived.Test.YtglkmaalpammcaaGreatZC
namespace Go.Gl
open Go.RowKit
set_option linter.unusedVariables false
inductive OT where
 | leaf (l:List (Nat × Bool))
 | split (l:List (Nat × Bool)) (i j:Nat) (t1 t2:OT)
def OT.len:OT→Nat
 | .leaf l=>l.length
 | .split l _ _ t1 _=>(t1.len+1)+l.length
def OT.ok (ops:Array Oper) (T:List Nat):OT→Array Bool→Bool
 | .leaf l,L=>mX .any ops T l L
 | .split l i j t1 t2,L=>vN ops T l L && (Region.ready .any ops (lists l L) == [i,j]) && (!T.contains i && !T.contains j) && (t1.len == t2.len) && t1.ok ops T ((lists l L).setIfInBounds i true) && t2.ok ops T ((lists l L).setIfInBounds j true)
section
variable {P:Program}{ops:Array Oper}{Q Q':Exit→Act→World→Prop}{S:World→Prop}{T:List Nat}
def yF (X Y:Act→World→Prop):Exit→Act→World→Prop
 | .normal,a,w=>X a w∧Y a w
 | _,_,_=>False
def pF (P:Program) (ops:Array Oper) (Q:Exit→Act→World→Prop) (T:List Nat) (S:World→Prop):OT→List (Nat × Bool)→Act→World→Prop
 | .leaf l,h,a,w=>dG P ops (Calm Q) T S (h ++ l) a w
 | .split l i j t1 t2,h,a,w=>dG P ops (Calm (yF (pF P ops Q T S t1 [(i,false)]) (pF P ops Q T S t2 [(j,false)]))) T S (h ++ l) a w
theorem Gm {t:OT}{k:Nat}{a:Act}{w:World} (hk:T.contains k=false) (h:pF P ops Q T S t [(k,false)] a w):wpOp P ops (Calm Q) k (fun a' w'=>S w'∧pF P ops Q T S t [] a' w') a w:=by
  cases t with
  | leaf l =>
    have h1:wpOp P ops (Calm Q) k (fun a' w'=>(T.contains k=false→S w')∧jP P ops (Calm Q) T S l a' w') a w:=h.out
    exact wpOp_mono (fun a' w' x=>⟨x.1 hk,⟨x.2⟩⟩) h1
  | split l i j t1 t2 =>
    have h1:wpOp P ops (Calm (yF (pF P ops Q T S t1 [(i,false)]) (pF P ops Q T S t2 [(j,false)]))) k (fun a' w'=>(T.contains k=false→S w')∧jP P ops (Calm (yF (pF P ops Q T S t1 [(i,false)]) (pF P ops Q T S t2 [(j,false)]))) T S l a' w') a w:=h.out
    exact wpOp_mono (fun a' w' x=>⟨x.1 hk,⟨x.2⟩⟩) (AB (Q:=Q) h1)
theorem Fv (hs:Region.noSelect ops=true):∀ (t:OT) (L:Array Bool) (a:Act) (w:World),t.ok ops T L=true→jh .any ops L→L.size=ops.size→ST T S L w→pF P ops Q T S t [] a w→jZ P .any ops (Calm Q) T S t.len L a w:=by
  intro t
  induction t with
  | leaf l =>
    intro L a w hok hcl hsz hS h
    exact pW hs Calm.dead l _ _ _ hok hcl hsz hS h.out
  | split l i j t1 t2 ih1 ih2 =>
    intro L a w hok hcl hsz hS h
    simp only [OT.ok,Bool.and_eq_true] at hok
    obtain⟨⟨⟨⟨⟨o1,o2⟩,o3⟩,o4⟩,o5⟩,o6⟩:=hok
    have o2':=eq_of_beq o2
    have o4':=eq_of_beq o4
    refine wK hs _ l _ _ _ o1 hcl hsz hS h.out (fun a w hcl hsz hS hw=>?_)
    refine⟨fun h0=>(by rw [o2'] at h0;cases h0),fun k hk=>?_⟩
    have hk2:=hk
    rw [o2'] at hk2
    have hfin:∀ (t':OT),(∀ (L:Array Bool) (a:Act) (w:World),t'.ok ops T L=true→jh .any ops L→L.size=ops.size→ST T S L w→pF P ops Q T S t' [] a w→jZ P .any ops (Calm Q) T S t'.len L a w)→t'.len=t1.len→T.contains k=false→t'.ok ops T ((lists l L).setIfInBounds k true)=true→pF P ops Q T S t' [(k,false)] a w →
        wpOp P ops (Calm Q) k (fun a' w'=>ST T S ((lists l L).setIfInBounds k true) w'∧jZ P .any ops (Calm Q) T S t1.len ((lists l L).setIfInBounds k true) a' w') a w:=by
      intro t' ih hl' hT ok' hw'
      refine wpOp_mono (fun a' w' h'=>?_) (Gm hT hw')
      have hS':ST T S ((lists l L).setIfInBounds k true) w':=fun _=>h'.1
      refine⟨hS',?_⟩
      rw [← hl']
      exact ih _ _ _ ok' (hcl.set hk) (by simpa using hsz) hS' h'.2
    rcases List.mem_cons.1 hk2 with rfl | hk3
    · exact hfin t1 ih1 rfl (by simpa using o3.1) o5 hw.1
    · obtain rfl:=List.mem_singleton.1 hk3
      exact hfin t2 ih2 o4'.symm (by simpa using o3.2) o6 hw.2
theorem rw_ot {a:Act}{w:World} (t:OT) (T:List Nat) (hm:P.follows .mixedOrders=true) (hs:Region.noSelect ops=true) (hl:t.len=ops.size) (ok:t.ok ops T (Array.replicate ops.size false)=true)
  (hS:S w.drew) (h:pF P ops Q T S t [] a w.drew):RW P ops true Q a w:=by
 refine⟨⟨hm,nH (T:=T) (S:=S) _ _ _ _ ?_⟩⟩
 have:=Fv hs t _ _ _ ok (fun j oj hj hl'=>?_) (by simp) (fun _=>hS) h
 ·rw [hl] at this
  exact this
 ·simp at hl'
  exact absurd hl' (by
   rcases Nat.lt_or_ge j ops.size with h' | h'
   ·simp [h']
   ·simp [h'])
theorem wM {k:Nat}{l:List (Nat × Bool)}{a:Act}{w:World} (h:dG P ops (Calm Q) T S ((k,false) :: l) a w):pF P ops Q T S (.leaf l) [(k,false)] a w:=h
theorem CV {l:List (Nat × Bool)}{i j:Nat}{t1 t2:OT}{a:Act}{w:World} (h:dG P ops (Calm (yF (pF P ops Q T S t1 [(i,false)]) (pF P ops Q T S t2 [(j,false)]))) T S l a w):pF P ops Q T S (.split l i j t1 t2) [] a w:=h
theorem Gv {X Y:Act→World→Prop}{a:Act}{w:World} (h1:X a w) (h2:Y a w):dG P ops (Calm (yF X Y)) T S [] a w:=⟨⟨h1,h2⟩⟩
end
end Go.Gl
