/- gleanlaw12: source, owner, time; a script's entries begin. -/
import Derived.Test.YtglkmaalpammcaaGreatZE
import Derived.Test.YtglkmaalpammcaaGreatQuW
import Derived.Test.YtglkmaalpammcaaGreatQuN
namespace Go.Proofs.YtglkmaalpammcaaGreat
open Go.Gl Go.RowKit
set_option linter.unusedVariables false
set_option maxRecDepth 100000
theorem Rz {s:dn}{j:Nat}{u:Value} (h:s.us[j]?=some u):s.cells[3+j]?=some u:=by
 match j,h with
 | 0,h=>exact h
 | 1,h=>exact h
 | 2,h=>exact h
 | 3,h=>exact h
 | 4,h=>exact h
 | 5,h=>exact h
 | n+6,h=>simp [dn.us] at h
theorem RI {s:dn}{j:Nat}{u:Value} (h:s.ms[j]?=some u):s.cells[9+j]?=some u:=by
 match j,h with
 | 0,h=>exact h
 | 1,h=>exact h
 | 2,h=>exact h
 | 3,h=>exact h
 | 4,h=>exact h
 | 5,h=>exact h
 | 6,h=>exact h
 | n+7,h=>simp [dn.ms] at h
theorem st_at {w:World}{g o:Nat}{s:dn} (hc:∀ j,j<16→w.cell? ⟨g,o+j,none⟩=some (s.cell j)) {j:Nat}{u:Value} (h:s.cells[j]?=some u):w.cell? ⟨g,o+j,none⟩=some u:=by
 have hj:j<16:=by
  rcases Nat.lt_or_ge j 16 with x | x
  ·exact x
  ·rw [List.getElem?_eq_none (by show 16≤j;exact x)] at h;cases h
 rw [hc j hj]
 unfold dn.cell
 rw [List.getD,h]
 rfl
structure yF (w0 w:World) (g o:Nat) (s:dn):Prop where
 ok:dn.Ok w0 s
 c:∀ j u,s.cells[j]?=some u→w.cell? ⟨g,o+j,none⟩=some u
 lt:g<w0.heap.size
theorem yF.keep {w0 w w':World}{g o:Nat}{s:dn} (h:yF w0 w g o s) (m:ae ai w0 w') (m0:ae ai w0 w):yF w0 w' g o s :=
 ⟨h.ok,fun j u hu=>by rw [m.cellAt h.lt (fun x=>x),← m0.cellAt h.lt (fun x=>x)];exact h.c j u hu,h.lt⟩
theorem st_of {w0 w:World}{g off n i:Nat}{a:Option Addr}{ss:List dn} (G:n=0∨∃ g off,a=some ⟨g,off,none⟩∧g<w0.heap.size∧∀ i (hi:i<ss.length),(∀ j,j<16→w0.cell? ⟨g,off+i*16+j,none⟩=some (ss[i].cell j))∧dn.Ok w0 ss[i]) (ha:a=some ⟨g,off,none⟩) (m:ae ai w0 w) (hl:ss.length=n) (hi:i<ss.length):yF w0 w g (off+i*16) ss[i]:=by
 obtain⟨g',off',h1,h2,h3,h4,h5⟩:=Om G m hl hi
 rw [ha] at h1
 cases h1
 exact⟨h5,fun j u hu=>st_at h4 hu,h3⟩
theorem yF.u {w0 w:World}{g o:Nat}{s:dn} (h:yF w0 w g o s):∀ j u,s.us[j]?=some u→w.cell? ⟨g,o+3+j,none⟩=some u:=fun j u hu=>by rw [Nat.add_assoc];exact h.c _ u (Rz hu)
theorem yF.m {w0 w:World}{g o:Nat}{s:dn} (h:yF w0 w g o s):∀ j u,s.ms[j]?=some u→w.cell? ⟨g,o+9+j,none⟩=some u:=fun j u hu=>by rw [Nat.add_assoc];exact h.c _ u (RI hu)
section
variable {w0 w:World}{sg n p:Nat}{F:List aN}{Q:Nat→Prop}{s:dn}
end
def dn.agg (s:dn):Value := .agg #[.int .i64 s.what,.int .i64 s.kind,.int .u64 ((s.n:Nat):Int),.int .u64 ((s.u0:Nat):Int),.int .u64 ((s.u1:Nat):Int),.int .u64 ((s.u2:Nat):Int),.int .u64 ((s.u3:Nat):Int),.int .u64 ((s.u4:Nat):Int),.int .u64 ((s.u5:Nat):Int),.int .u64 ((s.m0:Nat):Int),.int .u64 ((s.m1:Nat):Int),.int .u64 ((s.m2:Nat):Int),.int .u64 ((s.m3:Nat):Int),.int .u64 ((s.m4:Nat):Int),.int .u64 ((s.m5:Nat):Int),s.sv]
theorem tmod2 (z:Int) (h1 : -9223372036854775808≤z) (h2:z≤9223372036854775807):IntKind.i64.wrap (Int.tmod z 2)=Int.tmod z 2:=by
 have h3 : -2<Int.tmod z 2:=by
  have:=Int.lt_tmod_of_pos z (b:=2) (by omega)
  omega
 have h4:Int.tmod z 2<2:=Int.tmod_lt_of_pos z (by omega)
 simp only [IntKind.wrap,IntKind.signed,IntKind.bits]
 simp
 omega
end Go.Proofs.YtglkmaalpammcaaGreat
