/- Parts of the proof, one behind the other: RecG, BkP, QuO0, Qu0, SepI, EKnown, Thr, ThrR, RecF, BEq, RecH, RqAccount, Bk0, BkG, BkM. -/
import Derived.Test.YtglkmaalpammcaaGreatZD
import Derived.Test.YtglkmaalpammcaaGreatZB
import Derived.Test.YtglkmaalpammcaaGreatZA
import Derived.StillTailTactics
import Derived.Deep.RegionHeld3
import Derived.Lib.BufferRead
set_option maxHeartbeats 64000000
set_option linter.unusedSimpArgs false
set_option linter.unusedVariables false
set_option maxRecDepth 100000
namespace Go.Proofs.YtglkmaalpammcaaGreat
open Go.Gl Go.RowKit
def vk (k:Nat):dW:=⟨k,0,[]⟩
def bU (ks:List Nat) (xs:List UInt8):List dW × Nat :=
 if (dG ks (xs,0)).2=([],0) then ((dG ks (xs,0)).1,0) else (ks.map vk,80)
theorem yh (s:bT):uN s.1 s.2=0↔s=([],0):=by
 obtain⟨xs,e⟩:=s
 unfold uN
 constructor
 ·intro h
  by_cases h0:e=0∧xs.length≠0
  ·rw [if_pos h0] at h
   omega
  ·rw [if_neg h0] at h
   simp only at h
   subst h
   have:xs=[]:=List.eq_nil_of_length_eq_zero (by omega)
   rw [this]
 ·intro h
  cases h
  simp
theorem kL {ks:List Nat}{xs:List UInt8}{fs:List dW} (h:dG ks (xs,0)=(fs,([],0))):bU ks xs=(fs,0):=by
 unfold bU
 rw [h,if_pos rfl]
theorem oG {ks:List Nat}{xs:List UInt8}{fs:List dW}{s:bT} (h:dG ks (xs,0)=(fs,s)) (hs:s≠([],0)):bU ks xs=(ks.map vk,80):=by
 unfold bU
 rw [h,if_neg hs]
theorem lF {ks:List Nat}{xs:List UInt8}{fs:List dW} (h:dG ks (xs,0)=(fs,([],0))):bD fs=xs:=by
 have:=Gy ks xs (by rw [h])
 rw [h] at this
 simpa using this.symm
theorem tN (fs:List dW) (h:∀ f∈fs,f.Ok) {ks:List Nat} (hk:fs.map (·.k)=ks):bU ks (bD fs)=(fs.map dW.norm,0):=by
 subst hk
 have:=EM fs h []
 rw [List.append_nil] at this
 exact kL this
theorem oD {ks:List Nat}{xs:List UInt8}{fs:List dW}{e:Nat} (hk:∀ k∈ks,k≤2) (h:bU ks xs=(fs,e)):(∀ f∈fs,f.Ok)∧fs.map (·.k)=ks:=by
 unfold bU at h
 split at h <;> cases h
 ·exact nZ ks _ hk
 ·constructor
  ·intro f hf
   obtain⟨k,hk',rfl⟩:=List.mem_map.1 hf
   exact⟨hk k hk',by simp [vk],by simp [vk],fun x hx=>by cases hx⟩
  ·rw [List.map_map]
   exact List.map_id _
theorem FI (p:bT):(gu p).length≤255:=by
 unfold gu
 split
 ·rename_i h
  have h1:(gV p).length≤255:=by
   unfold gV
   rw [List.length_take]
   have:bV 1 p<256:=by have:=ql 1 p.1 p.2;simpa [bV] using this
   omega
  have h2:=nz (gV p)
  have h3:256 ^ (gV p).length≤256 ^ 255:=Nat.pow_le_pow_right (by omega) h1
  have h4:256 ^ 255≤18446744073709551616 ^ 255:=Nat.pow_le_pow_left (by omega) 255
  have e:=zu (B:=18446744073709551616) (n:=255) (x:=num (gV p)) (by omega) (Nat.lt_of_lt_of_le h2 (Nat.le_trans h3 h4))
  rw [e]
  exact Nat.le_trans (je _) (Nat.le_of_eq (oO _ _ _))
 ·simp
theorem Py (k:Nat) (s:bT):(jG k s).1.ls.length≤255:=by
 unfold jG
 split
 ·simp
 split
 ·simp
 ·exact FI s
theorem Bz (ks:List Nat) (s:bT):∀ f∈(dG ks s).1,f.ls.length≤255:=by
  induction ks generalizing s with
  | nil=>exact fun f hf=>by cases hf
  | cons k ks ih =>
    intro f hf
    rcases List.mem_cons.1 hf with rfl | hf
    · exact Py k s
    · exact ih _ f hf
theorem GX {ks:List Nat}{xs:List UInt8}{fs:List dW}{e:Nat} (h:bU ks xs=(fs,e)):∀ f∈fs,f.ls.length≤255:=by
 unfold bU at h
 split at h <;> cases h
 ·exact Bz _ _
 ·intro f hf
  obtain⟨k,hk',rfl⟩:=List.mem_map.1 hf
  simp [vk]
end Go.Proofs.YtglkmaalpammcaaGreat
namespace Go.Proofs.YtglkmaalpammcaaGreat
open Go.Gl Go.RowKit
def two (xs:List UInt8):Nat × Nat:=match (bU [0,0] xs).1 with
 | [a,b]=>(a.n,b.n)
 | _=>(0,0)
theorem Am {xs:List UInt8}{a b e:Nat} (h:bU [0,0] xs=([⟨0,a,[]⟩,⟨0,b,[]⟩],e)):two xs=(a,b):=by unfold two;rw [h]
def iV (a b:Nat):List UInt8:=bD [⟨0,a,[]⟩,⟨0,b,[]⟩]
theorem jX {F:List aN} (h:dN F) (k v:List UInt8):dN (bZ F k v):=by
 unfold bZ
 split
 ·exact zW h k v
 ·exact h
theorem F5 (n:Int) (a b:Nat):((dU n a b).getD []).length≤64:=by
  unfold dU
  cases hf:dK n.toNat with
  | none=>simp
  | some f =>
    simp only
    split
    · simp only [Option.getD_some]
      unfold dR fQ
      simp only [List.length_append,List.length_singleton]
      have h1:(if f.a=true then be 8 (dX f a) else []).length≤8:=by split <;> simp [aX]
      have h2:(if f.mid.toNat=0 then ([]:List UInt8) else [f.mid]).length≤1:=by split <;> simp
      have h3:(if f.b=true then be 8 b else []).length≤8:=by split <;> simp [aX]
      omega
    · simp
theorem Ac (xs:List UInt8):(two xs).1≤18446744073709551615∧(two xs).2≤18446744073709551615:=by
 obtain⟨⟨fs,e⟩,hr⟩:∃ q,bU [0,0] xs=q:=⟨_,rfl⟩
 have h:=(oD (by simp) hr).1
 unfold two
 rw [hr]
 simp only
 split
 ·rename_i a b
  exact⟨(h a (by simp)).n,(h b (by simp)).n⟩
 ·exact⟨by omega,by omega⟩
def aP (sg:Nat) (F:List aN) (n p:Nat):FP:=fun w S D=>∃ m q,m≤n∧q≤p∧KV w sg F [] m q S D
theorem aS {sg:Nat}{F:List aN}{n p:Nat}:dC (aP sg F n p):=⟨fun⟨_,_,_,_,h⟩=>⟨KV.lt h |>.1,KV.lt h |>.2.1⟩,fun⟨m,q,a,b,h⟩ mm x y=>⟨m,q,a,b,KV.keep h mm x y⟩⟩
theorem aP.more {sg:Nat}{F:List aN}{n p n' p':Nat}{w:World}{S D:Nat→Prop} (h:aP sg F n p w S D) (hn:n≤n') (hp:p≤p'):aP sg F n' p' w S D:=by
 obtain⟨m,q,a,b,h⟩:=h
 exact⟨m,q,by omega,by omega,h⟩
theorem GS.any {prog:Program}{f:FuncId}{args:Array Value}{w:World}{Q:Nat→Prop}{r:Value}{ι:Type}{P P':ι→FP}{R R':FP} (h:∀ i,GS prog f args w (P i) Q r (P' i)) (h1:∀ S D,R w S D→∃ i,P i w S D) (h2:∀ w' S D i,P' i w' S D→(∀ S D,R w S D→True)→R' w' S D):GS prog f args w R Q r R':=GS.of fun S D p hQ=>by
 obtain⟨i,hi⟩:=h1 S D p
 refine (h i S D hi hQ).mono ?_
 rintro e w' ⟨v,P1,N,rfl,⟨rfl,rfl,_⟩,S',D',p',m,s,d,_⟩
 exact⟨rfl,S',D',h2 _ _ _ i p' (fun _ _ _=>trivial),m,s,d⟩
section
variable {w:World}{sg g n p:Nat}{F:List aN}{Q:Nat→Prop}
theorem ji {q u:Value}{ks vs:List UInt8} (hq:Rd w q ks) (hu:Rd w u vs) (oq:Off (fun k=>¬ Q k) q ks) (ou:Off (fun k=>¬ Q k) u vs) (hn:n≤1000000000000) (hp:p≤100000):GS Tryz.prog 74 #[.pointer (some ⟨sg,0,none⟩),q,u] w (aP sg F n p) Q (.int .i64 (fO ks vs:Nat)) (aP sg (bZ F ks vs) (n+1) (p+2)):=GS.of fun S D ⟨m,q',hm,hq',kv⟩ hQ=>by
 refine (Oq hq hu oq ou (n:=m) (p:=q') (by omega) (by omega) S D kv hQ).mono ?_
 rintro e w' ⟨v,P1,N,rfl,⟨rfl,rfl,_⟩,S',D',p',m',s,d,_⟩
 exact⟨rfl,S',D',⟨_,_,by omega,by omega,p'⟩,m',s,d⟩
theorem nH {q:Value}{ks:List UInt8} (hq:Rd w q ks) (oq:Off (fun k=>¬ Q k) q ks) (lk:ks.length≤1000000) (hn:n≤1000000000000) (hp:p≤100000):GS Tryz.prog 145 #[.pointer (some ⟨sg,0,none⟩),q] w (aP sg F n p) Q (.bool (dB F ks).isSome) (aP sg (eY F ks) (n+1) (p+2)):=GS.of fun S D ⟨m,q',hm,hq',kv⟩ hQ=>by
 refine (Px hq oq lk (n:=m) (p:=q') (by omega) (by omega) S D kv hQ).mono ?_
 rintro e w' ⟨v,P1,N,rfl,⟨rfl,rfl,_⟩,S',D',p',m',s,d,_⟩
 exact⟨rfl,S',D',⟨_,_,by omega,by omega,p'⟩,m',s,d⟩
theorem uX {q:Value}{ks:List UInt8} (hq:Rd w q ks) (oq:Off (fun k=>¬ Q k) q ks) (hn:n≤1000000000000) (hp:p≤100000):GO Tryz.prog 93 #[.pointer (some ⟨sg,0,none⟩),q] w (aP sg F n p) Q (fun v => .tuple #[v,.bool (dB F ks).isSome]) ((dB F ks).getD []) (aP sg F (n+1) p):=fun S D ⟨m,q',hm,hq',kv⟩ hQ=>by
 refine (Pg hq oq (n:=m) (p:=q') (by omega) (by omega) S D kv hQ).mono ?_
 rintro e w' ⟨v,P1,N,rfl,⟨v',rfl,o,rfl,rfl⟩,S',D',p',rest⟩
 exact⟨_,_,_,rfl,⟨v',rfl,o,rfl,rfl⟩,S',D',⟨_,_,by omega,hq',p'⟩,rest⟩
end
end Go.Proofs.YtglkmaalpammcaaGreat
namespace Go.Proofs.YtglkmaalpammcaaGreat
open Go.Gl Go.RowKit
theorem Kq {o:Oper}{a:Act}{k:IntKind}{t e:TypeId}{x y:Operand}{g off n c s:Nat}{i:Int}{b:World} (p:Nat) (ho:o.op = .indexAddr t x y) (hx:a.eval x = .slice (some ⟨g,off,none⟩) n c) (hy:a.eval y = .int k i)
  (hu:Tryz.prog.underlying t=some (.slice e)) (hs:(Tryz.prog.info? e).map (·.size)=some s) (h0:0≤i) (h1:i<n) (hp:off+i.toNat*s=p):(execOp a.eval o).run Tryz.prog b = .ok (.value (.pointer (some ⟨g,p,none⟩))) b:=by
 subst hp
 unfold execOp
 simp [ho,hx,hy,Instr.indexAt,run_underlying hu,asIntOf,h0,h1,Go.Gl.run_sizeOf hs,Addr.add_mid]
theorem run_sub64 {t:TypeId}{j:Nat} (b:World) (h:j≤18446744073709551614):(binOp .sub t (.int .u64 (((j+1:Nat):Nat):Int)) (.int .u64 1)).run Tryz.prog b = .ok (.int .u64 ((j:Nat):Int)) b:=by
 have e:IntKind.u64.wrap (j:Int)=(j:Int):=by
  simp [IntKind.wrap,IntKind.signed,IntKind.bits]
  omega
 simp [binOp,go_sem,e]
theorem qo10 {w:World}{sg g off n ca i:Nat}{c0 c1 c2 c3 c4 c5 rv:Value}{X:World→Prop} (hi:i<n) (hn:n≤1000000) (hx:∀ j u,([c0,c1,c2,c3,c4,c5]:List Value)[j]?=some u→w.cell? ⟨g,off+i*16+3+j,none⟩=some u) (hC:Calls Tryz.prog 35 #[.pointer (some ⟨sg,0,none⟩),.agg #[c0,c1,c2,c3,c4,c5]] w fun e w'=>e = .returned rv∧X w') {x1 x2 x5 x6 x7 x8 x9 x10 x11 x12 x13 x14 x15 x16 x17 x18 x19 x20 x21 x22 x23 x24 x25 x26 x27 x28 x29 x30 x31 x32 x33 x34 x35 x36 x37 x38 x39 x40 x41 x42 x43 x44 x45 x46 x47 x48 x49 x50 x51 x52 x53 x54 x55 x56 x57 x58 x59 x60 x61 x62 x63 x64 x65 x66 x67 x68 x69 x70 x71 x72 x73 x74 x75 x76 x77 x78 x79 x80 x81 x82 x83 x84 x85 x86 x87 x88 x89 x90 x91 x92 x93 x94 x95 x96 x97 x98 x99 x100 x101 x102 x103 x104 x105 x106 x107 x108 x109 x110 x111 x112 x113 x114 x115 x116 x117 x118 x119 x120 x121 x122 x123 x124 x125 x126 x127 x128 x129 x130 x131 x132 x133 x134 x135 x136 x137 x138 x139 x140 x141 x142 x143 x144 x145 x146 x147 x148 x149 x150 x151 x152 x153 x154 x155 x156 x157 x158 x159 x160 x161 x162 x163 x164 x165 x166 x167 x168 x169 x170 x171 x172 x173:Value}{df:List Deferred}{Q:Exit→Act→World→Prop}
  (hK:∀ (y33 y34 y35 y36 y37 y38 y39:Value)  (w':World),X w'→Q .normal ⟨#[.slice (some ⟨g,off,none⟩) n ca,x1,x2,.pointer (some ⟨sg,0,none⟩),.int .i64 ((i:Nat):Int),x5,x6,x7,x8,x9,x10,x11,x12,x13,x14,x15,x16,x17,x18,x19,x20,x21,x22,x23,x24,x25,x26,x27,x28,x29,x30,x31,x32,y33,y34,y35,y36,y37,y38,y39,x40,x41,x42,x43,x44,x45,x46,x47,x48,x49,x50,x51,x52,x53,x54,x55,x56,x57,x58,x59,x60,x61,x62,x63,x64,x65,x66,x67,x68,x69,x70,x71,x72,x73,x74,x75,x76,x77,x78,x79,x80,x81,x82,x83,x84,x85,x86,x87,x88,x89,x90,x91,x92,x93,x94,x95,x96,x97,x98,x99,x100,x101,x102,x103,x104,x105,x106,x107,x108,x109,x110,x111,x112,x113,x114,x115,x116,x117,x118,x119,x120,x121,x122,x123,x124,x125,x126,x127,x128,x129,x130,x131,x132,x133,x134,x135,x136,x137,x138,x139,x140,x141,x142,x143,x144,x145,x146,x147,x148,x149,x150,x151,x152,x153,x154,x155,x156,x157,x158,x159,x160,x161,x162,x163,x164,x165,x166,x167,x168,x169,x170,x171,x172,x173],df⟩ w'):RW Tryz.prog (aG 10 Tryz.f6) false Q ⟨#[.slice (some ⟨g,off,none⟩) n ca,x1,x2,.pointer (some ⟨sg,0,none⟩),.int .i64 ((i:Nat):Int),x5,x6,x7,x8,x9,x10,x11,x12,x13,x14,x15,x16,x17,x18,x19,x20,x21,x22,x23,x24,x25,x26,x27,x28,x29,x30,x31,x32,x33,x34,x35,x36,x37,x38,x39,x40,x41,x42,x43,x44,x45,x46,x47,x48,x49,x50,x51,x52,x53,x54,x55,x56,x57,x58,x59,x60,x61,x62,x63,x64,x65,x66,x67,x68,x69,x70,x71,x72,x73,x74,x75,x76,x77,x78,x79,x80,x81,x82,x83,x84,x85,x86,x87,x88,x89,x90,x91,x92,x93,x94,x95,x96,x97,x98,x99,x100,x101,x102,x103,x104,x105,x106,x107,x108,x109,x110,x111,x112,x113,x114,x115,x116,x117,x118,x119,x120,x121,x122,x123,x124,x125,x126,x127,x128,x129,x130,x131,x132,x133,x134,x135,x136,x137,x138,x139,x140,x141,x142,x143,x144,x145,x146,x147,x148,x149,x150,x151,x152,x153,x154,x155,x156,x157,x158,x159,x160,x161,x162,x163,x164,x165,x166,x167,x168,x169,x170,x171,x172,x173],df⟩ w:=by
 have HQ:=lh hK
 clear hK
 have QX:=hx
 clear hx
 refine bn [(0,false),(1,false),(2,false),(3,false),(4,false),(5,false),(6,false)] (by kernel_rfl) ?_
 refine aB [0,1,2] [.pointer (some ⟨sg,0,none⟩),.slice (some ⟨g,off,none⟩) n ca,.int .i64 ((i:Nat):Int)] (rest:=[(3,false),(4,false),(5,false),(6,false)]) (by kernel_rfl) (by kernel_rfl) (by kernel_rfl) (.inr trivial) ?_
 refine aJ (.pointer (some ⟨g,off+i*16,none⟩)) _ (some 36) (ki (by kernel_rfl)) (bI (s:=16) (e:=79) (g:=g) (off:=off) (n:=n) (c:=ca) (i:=((i:Nat):Int)) (x:=(.tmp 34)) (y:=(.tmp 35)) (off+i*16) (by kernel_rfl) (by kernel_rfl) (by kernel_rfl) Tryz.underlying69 (by kernel_rfl) (by omega) (by omega) (by omega)) (fun _=>trivial) ?_
 refine aB [4] [.pointer (some ⟨g,off+i*16+3,none⟩)] (rest:=[(5,false),(6,false)]) (by kernel_rfl) (by kernel_rfl) (by kernel_rfl) (.inr trivial) ?_
 refine aJ (.agg #[c0,c1,c2,c3,c4,c5]) _ (some 38) (ki (by kernel_rfl)) (aA (x:=(.tmp 37)) (by kernel_rfl) (by kernel_rfl) (bG [c0,c1,c2,c3,c4,c5] ((fun _=>QX) (trivial)) Tryz.underlying73 rfl (by kernel_rfl))) (fun _=>trivial) ?_
 refine aj (some 39) (ki (by kernel_rfl)) hC (fun _=>by kernel_rfl) ?_
 rintro r w7 ⟨rfl,hx⟩
 refine⟨_,rfl,fun _=>trivial,?_⟩
 exact az (aO (K:=Q .normal) (by kernel_rfl) (HQ.out (.pointer (some ⟨sg,0,none⟩)) (.slice (some ⟨g,off,none⟩) n ca) (.int .i64 ((i:Nat):Int)) (.pointer (some ⟨g,off+i*16,none⟩)) (.pointer (some ⟨g,off+i*16+3,none⟩)) (.agg #[c0,c1,c2,c3,c4,c5]) (rv) w7 hx))
theorem qo11 {w:World}{sg g off n ca i:Nat}{c0 c1 c2 c3 c4 c5 c6 rv:Value}{X:World→Prop} (hi:i<n) (hn:n≤1000000) (hx:∀ j u,([c0,c1,c2,c3,c4,c5,c6]:List Value)[j]?=some u→w.cell? ⟨g,off+i*16+9+j,none⟩=some u) (hC:Calls Tryz.prog 36 #[.pointer (some ⟨sg,0,none⟩),.agg #[c0,c1,c2,c3,c4,c5,c6]] w fun e w'=>e = .returned rv∧X w') {x1 x2 x5 x6 x7 x8 x9 x10 x11 x12 x13 x14 x15 x16 x17 x18 x19 x20 x21 x22 x23 x24 x25 x26 x27 x28 x29 x30 x31 x32 x33 x34 x35 x36 x37 x38 x39 x40 x41 x42 x43 x44 x45 x46 x47 x48 x49 x50 x51 x52 x53 x54 x55 x56 x57 x58 x59 x60 x61 x62 x63 x64 x65 x66 x67 x68 x69 x70 x71 x72 x73 x74 x75 x76 x77 x78 x79 x80 x81 x82 x83 x84 x85 x86 x87 x88 x89 x90 x91 x92 x93 x94 x95 x96 x97 x98 x99 x100 x101 x102 x103 x104 x105 x106 x107 x108 x109 x110 x111 x112 x113 x114 x115 x116 x117 x118 x119 x120 x121 x122 x123 x124 x125 x126 x127 x128 x129 x130 x131 x132 x133 x134 x135 x136 x137 x138 x139 x140 x141 x142 x143 x144 x145 x146 x147 x148 x149 x150 x151 x152 x153 x154 x155 x156 x157 x158 x159 x160 x161 x162 x163 x164 x165 x166 x167 x168 x169 x170 x171 x172 x173:Value}{df:List Deferred}{Q:Exit→Act→World→Prop}
  (hK:∀ (y40 y41 y42 y43 y44 y45 y46:Value)  (w':World),X w'→Q .normal ⟨#[.slice (some ⟨g,off,none⟩) n ca,x1,x2,.pointer (some ⟨sg,0,none⟩),.int .i64 ((i:Nat):Int),x5,x6,x7,x8,x9,x10,x11,x12,x13,x14,x15,x16,x17,x18,x19,x20,x21,x22,x23,x24,x25,x26,x27,x28,x29,x30,x31,x32,x33,x34,x35,x36,x37,x38,x39,y40,y41,y42,y43,y44,y45,y46,x47,x48,x49,x50,x51,x52,x53,x54,x55,x56,x57,x58,x59,x60,x61,x62,x63,x64,x65,x66,x67,x68,x69,x70,x71,x72,x73,x74,x75,x76,x77,x78,x79,x80,x81,x82,x83,x84,x85,x86,x87,x88,x89,x90,x91,x92,x93,x94,x95,x96,x97,x98,x99,x100,x101,x102,x103,x104,x105,x106,x107,x108,x109,x110,x111,x112,x113,x114,x115,x116,x117,x118,x119,x120,x121,x122,x123,x124,x125,x126,x127,x128,x129,x130,x131,x132,x133,x134,x135,x136,x137,x138,x139,x140,x141,x142,x143,x144,x145,x146,x147,x148,x149,x150,x151,x152,x153,x154,x155,x156,x157,x158,x159,x160,x161,x162,x163,x164,x165,x166,x167,x168,x169,x170,x171,x172,x173],df⟩ w'):RW Tryz.prog (aG 11 Tryz.f6) false Q ⟨#[.slice (some ⟨g,off,none⟩) n ca,x1,x2,.pointer (some ⟨sg,0,none⟩),.int .i64 ((i:Nat):Int),x5,x6,x7,x8,x9,x10,x11,x12,x13,x14,x15,x16,x17,x18,x19,x20,x21,x22,x23,x24,x25,x26,x27,x28,x29,x30,x31,x32,x33,x34,x35,x36,x37,x38,x39,x40,x41,x42,x43,x44,x45,x46,x47,x48,x49,x50,x51,x52,x53,x54,x55,x56,x57,x58,x59,x60,x61,x62,x63,x64,x65,x66,x67,x68,x69,x70,x71,x72,x73,x74,x75,x76,x77,x78,x79,x80,x81,x82,x83,x84,x85,x86,x87,x88,x89,x90,x91,x92,x93,x94,x95,x96,x97,x98,x99,x100,x101,x102,x103,x104,x105,x106,x107,x108,x109,x110,x111,x112,x113,x114,x115,x116,x117,x118,x119,x120,x121,x122,x123,x124,x125,x126,x127,x128,x129,x130,x131,x132,x133,x134,x135,x136,x137,x138,x139,x140,x141,x142,x143,x144,x145,x146,x147,x148,x149,x150,x151,x152,x153,x154,x155,x156,x157,x158,x159,x160,x161,x162,x163,x164,x165,x166,x167,x168,x169,x170,x171,x172,x173],df⟩ w:=by
 have HQ:=lh hK
 clear hK
 have QX:=hx
 clear hx
 refine bn [(0,false),(1,false),(2,false),(3,false),(4,false),(5,false),(6,false)] (by kernel_rfl) ?_
 refine aB [0,1,2] [.pointer (some ⟨sg,0,none⟩),.slice (some ⟨g,off,none⟩) n ca,.int .i64 ((i:Nat):Int)] (rest:=[(3,false),(4,false),(5,false),(6,false)]) (by kernel_rfl) (by kernel_rfl) (by kernel_rfl) (.inr trivial) ?_
 refine aJ (.pointer (some ⟨g,off+i*16,none⟩)) _ (some 43) (ki (by kernel_rfl)) (bI (s:=16) (e:=79) (g:=g) (off:=off) (n:=n) (c:=ca) (i:=((i:Nat):Int)) (x:=(.tmp 41)) (y:=(.tmp 42)) (off+i*16) (by kernel_rfl) (by kernel_rfl) (by kernel_rfl) Tryz.underlying69 (by kernel_rfl) (by omega) (by omega) (by omega)) (fun _=>trivial) ?_
 refine aB [4] [.pointer (some ⟨g,off+i*16+9,none⟩)] (rest:=[(5,false),(6,false)]) (by kernel_rfl) (by kernel_rfl) (by kernel_rfl) (.inr trivial) ?_
 refine aJ (.agg #[c0,c1,c2,c3,c4,c5,c6]) _ (some 45) (ki (by kernel_rfl)) (aA (x:=(.tmp 44)) (by kernel_rfl) (by kernel_rfl) (bG [c0,c1,c2,c3,c4,c5,c6] ((fun _=>QX) (trivial)) Tryz.underlying77 rfl (by kernel_rfl))) (fun _=>trivial) ?_
 refine aj (some 46) (ki (by kernel_rfl)) hC (fun _=>by kernel_rfl) ?_
 rintro r w7 ⟨rfl,hx⟩
 refine⟨_,rfl,fun _=>trivial,?_⟩
 exact az (aO (K:=Q .normal) (by kernel_rfl) (HQ.out (.pointer (some ⟨sg,0,none⟩)) (.slice (some ⟨g,off,none⟩) n ca) (.int .i64 ((i:Nat):Int)) (.pointer (some ⟨g,off+i*16,none⟩)) (.pointer (some ⟨g,off+i*16+9,none⟩)) (.agg #[c0,c1,c2,c3,c4,c5,c6]) (rv) w7 hx))
theorem qo16 {w:World}{g off n ca h offh m cb i a b ta tb:Nat} (hi:i+1<m) (hn:m≤1000000) (h1:∀ b',ae ai w b'→b'.cell? ⟨h,offh+i*2,none⟩=some (.int .u64 ((a:Nat):Int))) (h2:∀ b',ae ai w b'→b'.cell? ⟨h,offh+(i+1)*2,none⟩=some (.int .u64 ((b:Nat):Int))) (pq:∀ b',ae ai w b'→Calls Tryz.prog 38 #[.slice (some ⟨g,off,none⟩) n ca,.int .u64 ((a:Nat):Int)] b' fun e w'=>e = .returned (.int .u64 ((ta:Nat):Int))∧ae ai w w') (oZ:∀ b',ae ai w b'→Calls Tryz.prog 38 #[.slice (some ⟨g,off,none⟩) n ca,.int .u64 ((b:Nat):Int)] b' fun e w'=>e = .returned (.int .u64 ((tb:Nat):Int))∧ae ai w w') {x1 x2 x3 x4 x7 x8 x9 x10 x11 x12 x13 x14 x15 x16 x17 x18 x19 x20 x21 x22 x23 x24 x25 x26 x27 x28 x29 x30 x31 x32 x33 x34 x35 x36 x37 x38 x39 x40 x41 x42 x43 x44 x45 x46 x47 x48 x49 x50 x51 x52 x53 x54 x55 x56 x57 x58 x59 x60 x61 x62 x63 x64 x65 x66 x67 x68 x69 x70 x71 x72 x73 x74 x75 x76 x77 x78 x79 x80 x81 x82 x83 x84 x85 x86 x87 x88 x89 x90 x91 x92 x93 x94 x95 x96 x97 x98 x99 x100 x101 x102 x103 x104 x105 x106 x107 x108 x109 x110 x111 x112 x113 x114 x115 x116 x117 x118 x119 x120 x121 x122 x123 x124 x125 x126 x127 x128 x129 x130 x131 x132 x133 x134 x135 x136 x137 x138 x139 x140 x141 x142 x143 x144 x145 x146 x147 x148 x149 x150 x151 x152 x153 x154 x155 x156 x157 x158 x159 x160 x161 x162 x163 x164 x165 x166 x167 x168 x169 x170 x171 x172 x173:Value}{df:List Deferred}{Q:Exit→Act→World→Prop}
  (hK:∀ (y55 y56 y57 y58 y59 y60 y61 y62 y63 y64 y65 y66 y67 y68 y69:Value)  (w':World),ae ai w w'→Q .normal ⟨#[.slice (some ⟨g,off,none⟩) n ca,x1,x2,x3,x4,.slice (some ⟨h,offh,none⟩) m cb,.int .i64 (((i+1):Nat):Int),.int .u64 ((ta:Nat):Int),.int .u64 ((tb:Nat):Int),x9,x10,x11,x12,x13,x14,x15,x16,x17,x18,x19,x20,x21,x22,x23,x24,x25,x26,x27,x28,x29,x30,x31,x32,x33,x34,x35,x36,x37,x38,x39,x40,x41,x42,x43,x44,x45,x46,x47,x48,x49,x50,x51,x52,x53,x54,y55,y56,y57,y58,y59,y60,y61,y62,y63,y64,y65,y66,y67,y68,y69,x70,x71,x72,x73,x74,x75,x76,x77,x78,x79,x80,x81,x82,x83,x84,x85,x86,x87,x88,x89,x90,x91,x92,x93,x94,x95,x96,x97,x98,x99,x100,x101,x102,x103,x104,x105,x106,x107,x108,x109,x110,x111,x112,x113,x114,x115,x116,x117,x118,x119,x120,x121,x122,x123,x124,x125,x126,x127,x128,x129,x130,x131,x132,x133,x134,x135,x136,x137,x138,x139,x140,x141,x142,x143,x144,x145,x146,x147,x148,x149,x150,x151,x152,x153,x154,x155,x156,x157,x158,x159,x160,x161,x162,x163,x164,x165,x166,x167,x168,x169,x170,x171,x172,x173],df⟩ w'):RW Tryz.prog (aG 16 Tryz.f6) true Q ⟨#[.slice (some ⟨g,off,none⟩) n ca,x1,x2,x3,x4,.slice (some ⟨h,offh,none⟩) m cb,.int .i64 (((i+1):Nat):Int),x7,x8,x9,x10,x11,x12,x13,x14,x15,x16,x17,x18,x19,x20,x21,x22,x23,x24,x25,x26,x27,x28,x29,x30,x31,x32,x33,x34,x35,x36,x37,x38,x39,x40,x41,x42,x43,x44,x45,x46,x47,x48,x49,x50,x51,x52,x53,x54,x55,x56,x57,x58,x59,x60,x61,x62,x63,x64,x65,x66,x67,x68,x69,x70,x71,x72,x73,x74,x75,x76,x77,x78,x79,x80,x81,x82,x83,x84,x85,x86,x87,x88,x89,x90,x91,x92,x93,x94,x95,x96,x97,x98,x99,x100,x101,x102,x103,x104,x105,x106,x107,x108,x109,x110,x111,x112,x113,x114,x115,x116,x117,x118,x119,x120,x121,x122,x123,x124,x125,x126,x127,x128,x129,x130,x131,x132,x133,x134,x135,x136,x137,x138,x139,x140,x141,x142,x143,x144,x145,x146,x147,x148,x149,x150,x151,x152,x153,x154,x155,x156,x157,x158,x159,x160,x161,x162,x163,x164,x165,x166,x167,x168,x169,x170,x171,x172,x173],df⟩ w:=by
 have HQ:=lh hK
 clear hK
 have Q1:=lh h1
 have Q2:=lh h2
 have D1:=lh pq
 have D2:=lh oZ
 clear h1 h2 pq oZ
 have MR:=lh ((ae.refl ai w).drew)
 refine dQ (S:=fun b'=>ae ai w b') [(0,true),(1,true),(2,true),(3,true),(4,true),(5,true),(6,true),(8,true),(9,true),(10,true),(11,true),(12,true),(13,true),(7,false),(14,false),(15,true),(16,true)] [] [(0,1,36028797018963968),(0,32,72057594037927936),(0,64,144115188075855872),(4,144115188075855872,288230376151711744),(10,360287970189639680,576460752303423488),(16,576460752303423488,1152921504606846976),(32,1152921504606846976,2305843009213693952),(65,2341871806232657920,4611686018427387904),(0,1,9223372036854775808),(0,32,18446744073709551616),(0,64,36893488147419103232),(1536,55340232221128654848,73786976294838206464),(2048,73786976294838206464,147573952589676412928),(4096,147573952589676412928,295147905179352825856),(8576,304371277216207601664,590295810358705651712),(16639,4611686018427387904,128),(65535,590295810358705651712,256)] (by kernel_rfl) (by kernel_rfl) (by kernel_rfl) (by kernel_rfl) (by kernel_rfl) MR.out ?_
 refine ah [0,1,2] [.slice (some ⟨g,off,none⟩) n ca,.slice (some ⟨h,offh,none⟩) m cb,.int .i64 (((i+1):Nat):Int)] (rest:=[(3,true),(4,true),(5,true),(6,true),(8,true),(9,true),(10,true),(11,true),(12,true),(13,true),(7,false),(14,false),(15,true),(16,true)]) (by kernel_rfl) (by kernel_rfl) (fun _=>by kernel_rfl) ?_
 refine ag (.int .i64 ((i:Nat):Int)) (some 58) (ki (by kernel_rfl)) (fun bb hb=>aV (t:=3) (t':=3) (xv := .int .i64 (((i+1):Nat):Int)) (yv := .int .i64 1) (x:=(.tmp 57)) (y:=(.const (.int .i64 1))) (by kernel_rfl) (by kernel_rfl) (by kernel_rfl) (fun _=>by kernel_rfl) (nD _ (by omega) (by omega) (by omega))) ?_
 refine ag (.pointer (some ⟨h,offh+i*2,none⟩)) (some 59) (ki (by kernel_rfl)) (fun bb hb=>bI (s:=2) (e:=86) (g:=h) (off:=offh) (n:=m) (c:=cb) (i:=((i:Nat):Int)) (x:=(.tmp 56)) (y:=(.tmp 58)) (offh+i*2) (by kernel_rfl) (by kernel_rfl) (by kernel_rfl) Tryz.underlying82 (by kernel_rfl) (by omega) (by omega) (by omega)) ?_
 refine ah [5] [.pointer (some ⟨h,offh+i*2,none⟩)] (rest:=[(6,true),(8,true),(9,true),(10,true),(11,true),(12,true),(13,true),(7,false),(14,false),(15,true),(16,true)]) (by kernel_rfl) (by kernel_rfl) (fun _=>by kernel_rfl) ?_
 refine ag (.int .u64 ((a:Nat):Int)) (some 61) (ki (by kernel_rfl)) (fun bb hb=>aA (x:=(.tmp 60)) (by kernel_rfl) (by kernel_rfl) (aK (Q1.out _ hb) Tryz.underlying22 rfl)) ?_
 refine ah [8,9,10] [.slice (some ⟨g,off,none⟩) n ca,.slice (some ⟨h,offh,none⟩) m cb,.int .i64 (((i+1):Nat):Int)] (rest:=[(11,true),(12,true),(13,true),(7,false),(14,false),(15,true),(16,true)]) (by kernel_rfl) (by kernel_rfl) (fun _=>by kernel_rfl) ?_
 refine ag (.pointer (some ⟨h,offh+(i+1)*2,none⟩)) (some 66) (ki (by kernel_rfl)) (fun bb hb=>bI (s:=2) (e:=86) (g:=h) (off:=offh) (n:=m) (c:=cb) (i:=(((i+1):Nat):Int)) (x:=(.tmp 64)) (y:=(.tmp 65)) (offh+(i+1)*2) (by kernel_rfl) (by kernel_rfl) (by kernel_rfl) Tryz.underlying82 (by kernel_rfl) (by omega) (by omega) (by omega)) ?_
 refine ah [12] [.pointer (some ⟨h,offh+(i+1)*2,none⟩)] (rest:=[(13,true),(7,false),(14,false),(15,true),(16,true)]) (by kernel_rfl) (by kernel_rfl) (fun _=>by kernel_rfl) ?_
 refine ag (.int .u64 ((b:Nat):Int)) (some 68) (ki (by kernel_rfl)) (fun bb hb=>aA (x:=(.tmp 67)) (by kernel_rfl) (by kernel_rfl) (aK (Q2.out _ hb) Tryz.underlying22 rfl)) ?_
 refine aj (some 62) (ki (by kernel_rfl)) (D1.out _ MR.out) (fun _=>by kernel_rfl) ?_
 rintro r w70 ⟨rfl,hm70⟩
 replace MR:=lh hm70
 refine⟨_,rfl,fun _=>MR.out,?_⟩
 refine aj (some 69) (ki (by kernel_rfl)) (D2.out _ MR.out) (fun _=>by kernel_rfl) ?_
 rintro r w71 ⟨rfl,hm71⟩
 replace MR:=lh hm71
 refine⟨_,rfl,fun _=>MR.out,?_⟩
 refine ah [15,16] [.int .u64 ((ta:Nat):Int),.int .u64 ((tb:Nat):Int)] (rest:=[]) (by kernel_rfl) (by kernel_rfl) (fun _=>by kernel_rfl) ?_
 exact az (aO (K:=Q .normal) (by kernel_rfl) (HQ.out (.slice (some ⟨g,off,none⟩) n ca) (.slice (some ⟨h,offh,none⟩) m cb) (.int .i64 (((i+1):Nat):Int)) (.int .i64 ((i:Nat):Int)) (.pointer (some ⟨h,offh+i*2,none⟩)) (.pointer (some ⟨h,offh+i*2,none⟩)) (.int .u64 ((a:Nat):Int)) (.int .u64 ((ta:Nat):Int)) (.slice (some ⟨g,off,none⟩) n ca) (.slice (some ⟨h,offh,none⟩) m cb) (.int .i64 (((i+1):Nat):Int)) (.pointer (some ⟨h,offh+(i+1)*2,none⟩)) (.pointer (some ⟨h,offh+(i+1)*2,none⟩)) (.int .u64 ((b:Nat):Int)) (.int .u64 ((tb:Nat):Int)) _ MR.out))
theorem qo17l {w:World}{h offh m cb i a b ta tb:Nat} (hi:i+1<m) (hn:m≤1000000) (h1:∀ b',ae ai w b'→b'.cell? ⟨h,offh+i*2,none⟩=some (.int .u64 ((a:Nat):Int))) (h2:∀ b',ae ai w b'→b'.cell? ⟨h,offh+(i+1)*2,none⟩=some (.int .u64 ((b:Nat):Int))) (ht:ta<tb) {x0 x1 x2 x3 x4 x9 x10 x11 x12 x13 x14 x15 x16 x17 x18 x19 x20 x21 x22 x23 x24 x25 x26 x27 x28 x29 x30 x31 x32 x33 x34 x35 x36 x37 x38 x39 x40 x41 x42 x43 x44 x45 x46 x47 x48 x49 x50 x51 x52 x53 x54 x55 x56 x57 x58 x59 x60 x61 x62 x63 x64 x65 x66 x67 x68 x69 x70 x71 x72 x73 x74 x75 x76 x77 x78 x79 x80 x81 x82 x83 x84 x85 x86 x87 x88 x89 x90 x91 x92 x93 x94 x95 x96 x97 x98 x99 x100 x101 x102 x103 x104 x105 x106 x107 x108 x109 x110 x111 x112 x113 x114 x115 x116 x117 x118 x119 x120 x121 x122 x123 x124 x125 x126 x127 x128 x129 x130 x131 x132 x133 x134 x135 x136 x137 x138 x139 x140 x141 x142 x143 x144 x145 x146 x147 x148 x149 x150 x151 x152 x153 x154 x155 x156 x157 x158 x159 x160 x161 x162 x163 x164 x165 x166 x167 x168 x169 x170 x171 x172 x173:Value}{df:List Deferred}{Q:Exit→Act→World→Prop}
  (hK:∀ (y70 y71 y72 y73 y74 y75 y76 y77 y78 y79 y80 y81 y82 y83 y84 y85 y86 y87 y88 y89 y90:Value)  (w':World),ae ai w w'→Q .normal ⟨#[x0,x1,x2,x3,x4,.slice (some ⟨h,offh,none⟩) m cb,.int .i64 (((i+1):Nat):Int),.int .u64 ((ta:Nat):Int),.int .u64 ((tb:Nat):Int),x9,x10,x11,x12,x13,x14,x15,x16,x17,x18,x19,x20,x21,x22,x23,x24,x25,x26,x27,x28,x29,x30,x31,x32,x33,x34,x35,x36,x37,x38,x39,x40,x41,x42,x43,x44,x45,x46,x47,x48,x49,x50,x51,x52,x53,x54,x55,x56,x57,x58,x59,x60,x61,x62,x63,x64,x65,x66,x67,x68,x69,y70,y71,y72,y73,y74,y75,y76,y77,y78,y79,y80,y81,y82,y83,y84,y85,y86,y87,y88,y89,y90,.bool false,x92,x93,x94,x95,x96,x97,x98,x99,x100,x101,x102,x103,x104,x105,x106,x107,x108,x109,x110,x111,x112,x113,x114,x115,x116,x117,x118,x119,x120,x121,x122,x123,x124,x125,x126,x127,x128,x129,x130,x131,x132,x133,x134,x135,x136,x137,x138,x139,x140,x141,x142,x143,x144,x145,x146,x147,x148,x149,x150,x151,x152,x153,x154,x155,x156,x157,x158,x159,x160,x161,x162,x163,x164,x165,x166,x167,x168,x169,x170,x171,x172,x173],df⟩ w'):RW Tryz.prog (aG 17 Tryz.f6) true Q ⟨#[x0,x1,x2,x3,x4,.slice (some ⟨h,offh,none⟩) m cb,.int .i64 (((i+1):Nat):Int),.int .u64 ((ta:Nat):Int),.int .u64 ((tb:Nat):Int),x9,x10,x11,x12,x13,x14,x15,x16,x17,x18,x19,x20,x21,x22,x23,x24,x25,x26,x27,x28,x29,x30,x31,x32,x33,x34,x35,x36,x37,x38,x39,x40,x41,x42,x43,x44,x45,x46,x47,x48,x49,x50,x51,x52,x53,x54,x55,x56,x57,x58,x59,x60,x61,x62,x63,x64,x65,x66,x67,x68,x69,x70,x71,x72,x73,x74,x75,x76,x77,x78,x79,x80,x81,x82,x83,x84,x85,x86,x87,x88,x89,x90,x91,x92,x93,x94,x95,x96,x97,x98,x99,x100,x101,x102,x103,x104,x105,x106,x107,x108,x109,x110,x111,x112,x113,x114,x115,x116,x117,x118,x119,x120,x121,x122,x123,x124,x125,x126,x127,x128,x129,x130,x131,x132,x133,x134,x135,x136,x137,x138,x139,x140,x141,x142,x143,x144,x145,x146,x147,x148,x149,x150,x151,x152,x153,x154,x155,x156,x157,x158,x159,x160,x161,x162,x163,x164,x165,x166,x167,x168,x169,x170,x171,x172,x173],df⟩ w:=by
 have HQ:=lh hK
 clear hK
 have Q1:=lh h1
 have Q2:=lh h2
 clear h1 h2
 have MR:=lh ((ae.refl ai w).drew)
 refine dQ (S:=fun b'=>ae ai w b') [(0,true),(1,true),(2,true),(3,true),(4,true),(5,true),(6,true),(7,true),(8,true),(9,true),(10,true),(11,true),(12,true),(13,true),(14,true),(15,true),(16,true),(17,true),(18,true),(19,true),(20,true),(21,true)] [] [(0,128,1180591620717411303424),(0,256,2361183241434822606848),(3,3541774862152233910272,4722366482869645213696),(4,4722366482869645213696,9444732965739290427392),(8,9444732965739290427520,18889465931478580854784),(8,9444732965739290427648,37778931862957161709568),(56,66113130760175032991744,75557863725914323419136),(72,85002596691653613846528,151115727451828646838272),(128,151115727451828646838304,302231454903657293676544),(128,151115727451828646838336,604462909807314587353088),(640,755578637259143234191360,1208925819614629174706176),(1408,1662273001970115115220992,2417851639229258349412352),(2176,2568967366681086996250624,4835703278458516698824704),(4224,4986819005910345345662976,9671406556917033397649408),(128,151115727451828646838304,19342813113834066795298816),(128,151115727451828646838336,38685626227668133590597632),(49280,58179555068954029032734720,77371252455336267181195264),(65664,77522368182788095828033536,154742504910672534362390528),(131200,154893620638124363009228800,309485009821345068724781056),(270464,319307532105713930769268736,618970019642690137449562112),(524424,619130580103107705386827776,1237940039285380274899124224),(1048584,1237949484018346014189551616,2475880078570760549798248448)] (by kernel_rfl) (by kernel_rfl) (by kernel_rfl) (by kernel_rfl) (by kernel_rfl) MR.out ?_
 refine ah [0,1] [.int .u64 ((ta:Nat):Int),.int .u64 ((tb:Nat):Int)] (rest:=[(2,true),(3,true),(4,true),(5,true),(6,true),(7,true),(8,true),(9,true),(10,true),(11,true),(12,true),(13,true),(14,true),(15,true),(16,true),(17,true),(18,true),(19,true),(20,true),(21,true)]) (by kernel_rfl) (by kernel_rfl) (fun _=>by kernel_rfl) ?_
 refine ag (.bool false) (some 72) (ki (by kernel_rfl)) (fun bb hb=>aV (t:=22) (t':=22) (xv := .int .u64 ((ta:Nat):Int)) (yv := .int .u64 ((tb:Nat):Int)) (x:=(.tmp 70)) (y:=(.tmp 71)) (by kernel_rfl) (by kernel_rfl) (by kernel_rfl) (fun _=>by kernel_rfl) (kC _ (decide_eq_false (by omega)))) ?_
 refine ah [3,4,5] [.bool false,.int .u64 ((ta:Nat):Int),.int .u64 ((tb:Nat):Int)] (rest:=[(6,true),(7,true),(8,true),(9,true),(10,true),(11,true),(12,true),(13,true),(14,true),(15,true),(16,true),(17,true),(18,true),(19,true),(20,true),(21,true)]) (by kernel_rfl) (by kernel_rfl) (fun _=>by kernel_rfl) ?_
 refine ag (.bool false) (some 76) (ki (by kernel_rfl)) (fun bb hb=>aV (t:=22) (t':=22) (xv := .int .u64 ((ta:Nat):Int)) (yv := .int .u64 ((tb:Nat):Int)) (x:=(.tmp 74)) (y:=(.tmp 75)) (by kernel_rfl) (by kernel_rfl) (by kernel_rfl) (fun _=>by kernel_rfl) (fF _ (decide_eq_false (by omega)))) ?_
 refine ah [7,8,9,10,11,12,13,14,15,16,17,18,19,20,21] [.bool false,undef,undef,undef,undef,undef,undef,undef,undef,undef,undef,undef,undef,.bool false,.bool false] (rest:=[]) (by kernel_rfl) (by kernel_rfl) (fun _=>by kernel_rfl) ?_
 exact az (aO (K:=Q .normal) (by kernel_rfl) (HQ.out (.int .u64 ((ta:Nat):Int)) (.int .u64 ((tb:Nat):Int)) (.bool false) (.bool false) (.int .u64 ((ta:Nat):Int)) (.int .u64 ((tb:Nat):Int)) (.bool false) (.bool false) (undef) (undef) (undef) (undef) (undef) (undef) (undef) (undef) (undef) (undef) (undef) (undef) (.bool false) _ MR.out))
theorem qo17e {w:World}{h offh m cb i a b ta tb:Nat} (hi:i+1<m) (hn:m≤1000000) (h1:∀ b',ae ai w b'→b'.cell? ⟨h,offh+i*2,none⟩=some (.int .u64 ((a:Nat):Int))) (h2:∀ b',ae ai w b'→b'.cell? ⟨h,offh+(i+1)*2,none⟩=some (.int .u64 ((b:Nat):Int))) (ht:ta=tb∧a<b) {x0 x1 x2 x3 x4 x9 x10 x11 x12 x13 x14 x15 x16 x17 x18 x19 x20 x21 x22 x23 x24 x25 x26 x27 x28 x29 x30 x31 x32 x33 x34 x35 x36 x37 x38 x39 x40 x41 x42 x43 x44 x45 x46 x47 x48 x49 x50 x51 x52 x53 x54 x55 x56 x57 x58 x59 x60 x61 x62 x63 x64 x65 x66 x67 x68 x69 x70 x71 x72 x73 x74 x75 x76 x77 x78 x79 x80 x81 x82 x83 x84 x85 x86 x87 x88 x89 x90 x91 x92 x93 x94 x95 x96 x97 x98 x99 x100 x101 x102 x103 x104 x105 x106 x107 x108 x109 x110 x111 x112 x113 x114 x115 x116 x117 x118 x119 x120 x121 x122 x123 x124 x125 x126 x127 x128 x129 x130 x131 x132 x133 x134 x135 x136 x137 x138 x139 x140 x141 x142 x143 x144 x145 x146 x147 x148 x149 x150 x151 x152 x153 x154 x155 x156 x157 x158 x159 x160 x161 x162 x163 x164 x165 x166 x167 x168 x169 x170 x171 x172 x173:Value}{df:List Deferred}{Q:Exit→Act→World→Prop}
  (hK:∀ (y70 y71 y72 y73 y74 y75 y76 y77 y78 y79 y80 y81 y82 y83 y84 y85 y86 y87 y88 y89 y90:Value)  (w':World),ae ai w w'→Q .normal ⟨#[x0,x1,x2,x3,x4,.slice (some ⟨h,offh,none⟩) m cb,.int .i64 (((i+1):Nat):Int),.int .u64 ((ta:Nat):Int),.int .u64 ((tb:Nat):Int),x9,x10,x11,x12,x13,x14,x15,x16,x17,x18,x19,x20,x21,x22,x23,x24,x25,x26,x27,x28,x29,x30,x31,x32,x33,x34,x35,x36,x37,x38,x39,x40,x41,x42,x43,x44,x45,x46,x47,x48,x49,x50,x51,x52,x53,x54,x55,x56,x57,x58,x59,x60,x61,x62,x63,x64,x65,x66,x67,x68,x69,y70,y71,y72,y73,y74,y75,y76,y77,y78,y79,y80,y81,y82,y83,y84,y85,y86,y87,y88,y89,y90,.bool false,x92,x93,x94,x95,x96,x97,x98,x99,x100,x101,x102,x103,x104,x105,x106,x107,x108,x109,x110,x111,x112,x113,x114,x115,x116,x117,x118,x119,x120,x121,x122,x123,x124,x125,x126,x127,x128,x129,x130,x131,x132,x133,x134,x135,x136,x137,x138,x139,x140,x141,x142,x143,x144,x145,x146,x147,x148,x149,x150,x151,x152,x153,x154,x155,x156,x157,x158,x159,x160,x161,x162,x163,x164,x165,x166,x167,x168,x169,x170,x171,x172,x173],df⟩ w'):RW Tryz.prog (aG 17 Tryz.f6) true Q ⟨#[x0,x1,x2,x3,x4,.slice (some ⟨h,offh,none⟩) m cb,.int .i64 (((i+1):Nat):Int),.int .u64 ((ta:Nat):Int),.int .u64 ((tb:Nat):Int),x9,x10,x11,x12,x13,x14,x15,x16,x17,x18,x19,x20,x21,x22,x23,x24,x25,x26,x27,x28,x29,x30,x31,x32,x33,x34,x35,x36,x37,x38,x39,x40,x41,x42,x43,x44,x45,x46,x47,x48,x49,x50,x51,x52,x53,x54,x55,x56,x57,x58,x59,x60,x61,x62,x63,x64,x65,x66,x67,x68,x69,x70,x71,x72,x73,x74,x75,x76,x77,x78,x79,x80,x81,x82,x83,x84,x85,x86,x87,x88,x89,x90,x91,x92,x93,x94,x95,x96,x97,x98,x99,x100,x101,x102,x103,x104,x105,x106,x107,x108,x109,x110,x111,x112,x113,x114,x115,x116,x117,x118,x119,x120,x121,x122,x123,x124,x125,x126,x127,x128,x129,x130,x131,x132,x133,x134,x135,x136,x137,x138,x139,x140,x141,x142,x143,x144,x145,x146,x147,x148,x149,x150,x151,x152,x153,x154,x155,x156,x157,x158,x159,x160,x161,x162,x163,x164,x165,x166,x167,x168,x169,x170,x171,x172,x173],df⟩ w:=by
 have HQ:=lh hK
 clear hK
 obtain⟨ht1,ht2⟩:=ht
 have Q1:=lh h1
 have Q2:=lh h2
 clear h1 h2
 have MR:=lh ((ae.refl ai w).drew)
 refine dQ (S:=fun b'=>ae ai w b') [(0,true),(1,true),(2,true),(3,true),(4,true),(5,true),(6,true),(7,true),(8,true),(9,true),(10,true),(11,true),(12,true),(13,true),(14,true),(15,true),(16,true),(17,true),(18,true),(19,true),(20,true),(21,true)] [] [(0,128,1180591620717411303424),(0,256,2361183241434822606848),(3,3541774862152233910272,4722366482869645213696),(4,4722366482869645213696,9444732965739290427392),(8,9444732965739290427520,18889465931478580854784),(8,9444732965739290427648,37778931862957161709568),(56,66113130760175032991744,75557863725914323419136),(72,85002596691653613846528,151115727451828646838272),(128,151115727451828646838304,302231454903657293676544),(128,151115727451828646838336,604462909807314587353088),(640,755578637259143234191360,1208925819614629174706176),(1408,1662273001970115115220992,2417851639229258349412352),(2176,2568967366681086996250624,4835703278458516698824704),(4224,4986819005910345345662976,9671406556917033397649408),(128,151115727451828646838304,19342813113834066795298816),(128,151115727451828646838336,38685626227668133590597632),(49280,58179555068954029032734720,77371252455336267181195264),(65664,77522368182788095828033536,154742504910672534362390528),(131200,154893620638124363009228800,309485009821345068724781056),(270464,319307532105713930769268736,618970019642690137449562112),(524424,619130580103107705386827776,1237940039285380274899124224),(1048584,1237949484018346014189551616,2475880078570760549798248448)] (by kernel_rfl) (by kernel_rfl) (by kernel_rfl) (by kernel_rfl) (by kernel_rfl) MR.out ?_
 refine ah [0,1] [.int .u64 ((ta:Nat):Int),.int .u64 ((tb:Nat):Int)] (rest:=[(2,true),(3,true),(4,true),(5,true),(6,true),(7,true),(8,true),(9,true),(10,true),(11,true),(12,true),(13,true),(14,true),(15,true),(16,true),(17,true),(18,true),(19,true),(20,true),(21,true)]) (by kernel_rfl) (by kernel_rfl) (fun _=>by kernel_rfl) ?_
 refine ag (.bool false) (some 72) (ki (by kernel_rfl)) (fun bb hb=>aV (t:=22) (t':=22) (xv := .int .u64 ((ta:Nat):Int)) (yv := .int .u64 ((tb:Nat):Int)) (x:=(.tmp 70)) (y:=(.tmp 71)) (by kernel_rfl) (by kernel_rfl) (by kernel_rfl) (fun _=>by kernel_rfl) (kC _ (decide_eq_false (by omega)))) ?_
 refine ah [3,4,5] [.bool false,.int .u64 ((ta:Nat):Int),.int .u64 ((tb:Nat):Int)] (rest:=[(6,true),(7,true),(8,true),(9,true),(10,true),(11,true),(12,true),(13,true),(14,true),(15,true),(16,true),(17,true),(18,true),(19,true),(20,true),(21,true)]) (by kernel_rfl) (by kernel_rfl) (fun _=>by kernel_rfl) ?_
 refine ag (.bool true) (some 76) (ki (by kernel_rfl)) (fun bb hb=>aV (t:=22) (t':=22) (xv := .int .u64 ((ta:Nat):Int)) (yv := .int .u64 ((tb:Nat):Int)) (x:=(.tmp 74)) (y:=(.tmp 75)) (by kernel_rfl) (by kernel_rfl) (by kernel_rfl) (fun _=>by kernel_rfl) (fF _ (decide_eq_true (by omega)))) ?_
 refine ah [7,8,9] [.bool true,.slice (some ⟨h,offh,none⟩) m cb,.int .i64 (((i+1):Nat):Int)] (rest:=[(10,true),(11,true),(12,true),(13,true),(14,true),(15,true),(16,true),(17,true),(18,true),(19,true),(20,true),(21,true)]) (by kernel_rfl) (by kernel_rfl) (fun _=>by kernel_rfl) ?_
 refine ag (.int .i64 ((i:Nat):Int)) (some 80) (ki (by kernel_rfl)) (fun bb hb=>aV (t:=3) (t':=3) (xv := .int .i64 (((i+1):Nat):Int)) (yv := .int .i64 1) (x:=(.tmp 79)) (y:=(.const (.int .i64 1))) (by kernel_rfl) (by kernel_rfl) (by kernel_rfl) (fun _=>by kernel_rfl) (nD _ (by omega) (by omega) (by omega))) ?_
 refine ag (.pointer (some ⟨h,offh+i*2,none⟩)) (some 81) (ki (by kernel_rfl)) (fun bb hb=>bI (s:=2) (e:=86) (g:=h) (off:=offh) (n:=m) (c:=cb) (i:=((i:Nat):Int)) (x:=(.tmp 78)) (y:=(.tmp 80)) (offh+i*2) (by kernel_rfl) (by kernel_rfl) (by kernel_rfl) Tryz.underlying82 (by kernel_rfl) (by omega) (by omega) (by omega)) ?_
 refine ah [12] [.pointer (some ⟨h,offh+i*2,none⟩)] (rest:=[(13,true),(14,true),(15,true),(16,true),(17,true),(18,true),(19,true),(20,true),(21,true)]) (by kernel_rfl) (by kernel_rfl) (fun _=>by kernel_rfl) ?_
 refine ag (.int .u64 ((a:Nat):Int)) (some 83) (ki (by kernel_rfl)) (fun bb hb=>aA (x:=(.tmp 82)) (by kernel_rfl) (by kernel_rfl) (aK (Q1.out _ hb) Tryz.underlying22 rfl)) ?_
 refine ah [14,15] [.slice (some ⟨h,offh,none⟩) m cb,.int .i64 (((i+1):Nat):Int)] (rest:=[(16,true),(17,true),(18,true),(19,true),(20,true),(21,true)]) (by kernel_rfl) (by kernel_rfl) (fun _=>by kernel_rfl) ?_
 refine ag (.pointer (some ⟨h,offh+(i+1)*2,none⟩)) (some 86) (ki (by kernel_rfl)) (fun bb hb=>bI (s:=2) (e:=86) (g:=h) (off:=offh) (n:=m) (c:=cb) (i:=(((i+1):Nat):Int)) (x:=(.tmp 84)) (y:=(.tmp 85)) (offh+(i+1)*2) (by kernel_rfl) (by kernel_rfl) (by kernel_rfl) Tryz.underlying82 (by kernel_rfl) (by omega) (by omega) (by omega)) ?_
 refine ah [17] [.pointer (some ⟨h,offh+(i+1)*2,none⟩)] (rest:=[(18,true),(19,true),(20,true),(21,true)]) (by kernel_rfl) (by kernel_rfl) (fun _=>by kernel_rfl) ?_
 refine ag (.int .u64 ((b:Nat):Int)) (some 88) (ki (by kernel_rfl)) (fun bb hb=>aA (x:=(.tmp 87)) (by kernel_rfl) (by kernel_rfl) (aK (Q2.out _ hb) Tryz.underlying22 rfl)) ?_
 refine ag (.bool false) (some 89) (ki (by kernel_rfl)) (fun bb hb=>aV (t:=22) (t':=22) (xv := .int .u64 ((a:Nat):Int)) (yv := .int .u64 ((b:Nat):Int)) (x:=(.tmp 83)) (y:=(.tmp 88)) (by kernel_rfl) (by kernel_rfl) (by kernel_rfl) (fun _=>by kernel_rfl) (ku _ (decide_eq_false (by omega)))) ?_
 refine ah [20,21] [.bool false,.bool false] (rest:=[]) (by kernel_rfl) (by kernel_rfl) (fun _=>by kernel_rfl) ?_
 exact az (aO (K:=Q .normal) (by kernel_rfl) (HQ.out (.int .u64 ((ta:Nat):Int)) (.int .u64 ((tb:Nat):Int)) (.bool false) (.bool false) (.int .u64 ((ta:Nat):Int)) (.int .u64 ((tb:Nat):Int)) (.bool true) (.bool true) (.slice (some ⟨h,offh,none⟩) m cb) (.int .i64 (((i+1):Nat):Int)) (.int .i64 ((i:Nat):Int)) (.pointer (some ⟨h,offh+i*2,none⟩)) (.pointer (some ⟨h,offh+i*2,none⟩)) (.int .u64 ((a:Nat):Int)) (.slice (some ⟨h,offh,none⟩) m cb) (.int .i64 (((i+1):Nat):Int)) (.pointer (some ⟨h,offh+(i+1)*2,none⟩)) (.pointer (some ⟨h,offh+(i+1)*2,none⟩)) (.int .u64 ((b:Nat):Int)) (.bool false) (.bool false) _ MR.out))
theorem qo22 {w:World}{sg g off n ca i a:Nat}{c0 c1 c2 c3 c4 c5 c6 c7 c8 c9 c10 c11 c12 c13 c14 c15:Value}{X:World→Prop}{Y:Value→World→Prop} (hi:i<n) (hn:n≤1000000) (hx:∀ j u,([c0,c1,c2,c3,c4,c5,c6,c7,c8,c9,c10,c11,c12,c13,c14,c15]:List Value)[j]?=some u→w.cell? ⟨g,off+i*16+j,none⟩=some u) (hC:Calls Tryz.prog 40 #[.agg #[c0,c1,c2,c3,c4,c5,c6,c7,c8,c9,c10,c11,c12,c13,c14,c15]] w fun e w'=>e = .returned (.int .u64 ((a:Nat):Int))∧X w') (hD:∀ w',X w'→Calls Tryz.prog 39 #[.pointer (some ⟨sg,0,none⟩),.int .u64 ((a:Nat):Int)] w' fun e w''=>∃ v,e = .returned v∧Y v w'') {x1 x2 x4 x5 x6 x7 x8 x10 x11 x12 x13 x14 x15 x16 x17 x18 x19 x20 x21 x22 x23 x24 x25 x26 x27 x28 x29 x30 x31 x32 x33 x34 x35 x36 x37 x38 x39 x40 x41 x42 x43 x44 x45 x46 x47 x48 x49 x50 x51 x52 x53 x54 x55 x56 x57 x58 x59 x60 x61 x62 x63 x64 x65 x66 x67 x68 x69 x70 x71 x72 x73 x74 x75 x76 x77 x78 x79 x80 x81 x82 x83 x84 x85 x86 x87 x88 x89 x90 x91 x92 x93 x94 x95 x96 x97 x98 x99 x100 x101 x102 x103 x104 x105 x106 x107 x108 x109 x110 x111 x112 x113 x114 x115 x116 x117 x118 x119 x120 x121 x122 x123 x124 x125 x126 x127 x128 x129 x130 x131 x132 x133 x134 x135 x136 x137 x138 x139 x140 x141 x142 x143 x144 x145 x146 x147 x148 x149 x150 x151 x152 x153 x154 x155 x156 x157 x158 x159 x160 x161 x162 x163 x164 x165 x166 x167 x168 x169 x170 x171 x172 x173:Value}{df:List Deferred}{Q:Exit→Act→World→Prop}
  (hK:∀ (y98 y99 y100 y101 y102 y103 y104:Value) (v8:Value) (w':World),Y v8 w'→Q .normal ⟨#[.slice (some ⟨g,off,none⟩) n ca,x1,x2,.pointer (some ⟨sg,0,none⟩),x4,x5,x6,x7,x8,.int .i64 ((i:Nat):Int),v8,x11,x12,x13,x14,x15,x16,x17,x18,x19,x20,x21,x22,x23,x24,x25,x26,x27,x28,x29,x30,x31,x32,x33,x34,x35,x36,x37,x38,x39,x40,x41,x42,x43,x44,x45,x46,x47,x48,x49,x50,x51,x52,x53,x54,x55,x56,x57,x58,x59,x60,x61,x62,x63,x64,x65,x66,x67,x68,x69,x70,x71,x72,x73,x74,x75,x76,x77,x78,x79,x80,x81,x82,x83,x84,x85,x86,x87,x88,x89,x90,x91,x92,x93,x94,x95,x96,x97,y98,y99,y100,y101,y102,y103,y104,x105,x106,x107,x108,x109,x110,x111,x112,x113,x114,x115,x116,x117,x118,x119,x120,x121,x122,x123,x124,x125,x126,x127,x128,x129,x130,x131,x132,x133,x134,x135,x136,x137,x138,x139,x140,x141,x142,x143,x144,x145,x146,x147,x148,x149,x150,x151,x152,x153,x154,x155,x156,x157,x158,x159,x160,x161,x162,x163,x164,x165,x166,x167,x168,x169,x170,x171,x172,x173],df⟩ w'):RW Tryz.prog (aG 22 Tryz.f6) false Q ⟨#[.slice (some ⟨g,off,none⟩) n ca,x1,x2,.pointer (some ⟨sg,0,none⟩),x4,x5,x6,x7,x8,.int .i64 ((i:Nat):Int),x10,x11,x12,x13,x14,x15,x16,x17,x18,x19,x20,x21,x22,x23,x24,x25,x26,x27,x28,x29,x30,x31,x32,x33,x34,x35,x36,x37,x38,x39,x40,x41,x42,x43,x44,x45,x46,x47,x48,x49,x50,x51,x52,x53,x54,x55,x56,x57,x58,x59,x60,x61,x62,x63,x64,x65,x66,x67,x68,x69,x70,x71,x72,x73,x74,x75,x76,x77,x78,x79,x80,x81,x82,x83,x84,x85,x86,x87,x88,x89,x90,x91,x92,x93,x94,x95,x96,x97,x98,x99,x100,x101,x102,x103,x104,x105,x106,x107,x108,x109,x110,x111,x112,x113,x114,x115,x116,x117,x118,x119,x120,x121,x122,x123,x124,x125,x126,x127,x128,x129,x130,x131,x132,x133,x134,x135,x136,x137,x138,x139,x140,x141,x142,x143,x144,x145,x146,x147,x148,x149,x150,x151,x152,x153,x154,x155,x156,x157,x158,x159,x160,x161,x162,x163,x164,x165,x166,x167,x168,x169,x170,x171,x172,x173],df⟩ w:=by
 have HQ:=lh hK
 clear hK
 have QX:=hx
 clear hx
 refine bn [(0,false),(1,false),(2,false),(3,false),(4,false),(5,false),(6,false),(7,false)] (by kernel_rfl) ?_
 refine aB [0,1,2] [.pointer (some ⟨sg,0,none⟩),.slice (some ⟨g,off,none⟩) n ca,.int .i64 ((i:Nat):Int)] (rest:=[(3,false),(4,false),(5,false),(6,false),(7,false)]) (by kernel_rfl) (by kernel_rfl) (by kernel_rfl) (.inr trivial) ?_
 refine aJ (.pointer (some ⟨g,off+i*16,none⟩)) _ (some 101) (ki (by kernel_rfl)) (bI (s:=16) (e:=79) (g:=g) (off:=off) (n:=n) (c:=ca) (i:=((i:Nat):Int)) (x:=(.tmp 99)) (y:=(.tmp 100)) (off+i*16) (by kernel_rfl) (by kernel_rfl) (by kernel_rfl) Tryz.underlying69 (by kernel_rfl) (by omega) (by omega) (by omega)) (fun _=>trivial) ?_
 refine aJ (.agg #[c0,c1,c2,c3,c4,c5,c6,c7,c8,c9,c10,c11,c12,c13,c14,c15]) _ (some 102) (ki (by kernel_rfl)) (aA (x:=(.tmp 101)) (by kernel_rfl) (by kernel_rfl) (bG [c0,c1,c2,c3,c4,c5,c6,c7,c8,c9,c10,c11,c12,c13,c14,c15] ((fun _=>QX) (trivial)) Tryz.underlying79 rfl (by kernel_rfl))) (fun _=>trivial) ?_
 refine aj (some 103) (ki (by kernel_rfl)) hC (fun _=>by kernel_rfl) ?_
 rintro r w7 ⟨rfl,hx⟩
 refine⟨_,rfl,fun _=>trivial,?_⟩
 refine aj (some 104) (ki (by kernel_rfl)) (hD _ hx) (fun _=>by kernel_rfl) ?_
 rintro r w8 ⟨v8,rfl,hy⟩
 refine⟨_,rfl,fun _=>trivial,?_⟩
 refine aB [7] [v8] (rest:=[]) (by kernel_rfl) (by kernel_rfl) (by kernel_rfl) (.inr trivial) ?_
 exact az (aO (K:=Q .normal) (by kernel_rfl) (HQ.out (.pointer (some ⟨sg,0,none⟩)) (.slice (some ⟨g,off,none⟩) n ca) (.int .i64 ((i:Nat):Int)) (.pointer (some ⟨g,off+i*16,none⟩)) (.agg #[c0,c1,c2,c3,c4,c5,c6,c7,c8,c9,c10,c11,c12,c13,c14,c15]) (.int .u64 ((a:Nat):Int)) (v8) v8 w8 hy))
theorem qo27n {w:World}{g off n ca i k sk si ok oi:Nat}{c0 c1 c2 c3 c4 c5 c6 c7 c8 c9 c10 c11 c12 c13 c14 c15 d0 d1 d2 d3 d4 d5 d6 d7 d8 d9 d10 d11 d12 d13 d14 d15:Value}{B2:Bool} (hi:i<n) (hk:k<n) (hn:n≤1000000) (h1:∀ b',ae ai w b'→∀ j u,([c0,c1,c2,c3,c4,c5,c6,c7,c8,c9,c10,c11,c12,c13,c14,c15]:List Value)[j]?=some u→b'.cell? ⟨g,off+k*16+j,none⟩=some u) (h2:∀ b',ae ai w b'→∀ j u,([d0,d1,d2,d3,d4,d5,d6,d7,d8,d9,d10,d11,d12,d13,d14,d15]:List Value)[j]?=some u→b'.cell? ⟨g,off+i*16+j,none⟩=some u) (hs:¬ sk=si) (pq:∀ b',ae ai w b'→Calls Tryz.prog 40 #[.agg #[c0,c1,c2,c3,c4,c5,c6,c7,c8,c9,c10,c11,c12,c13,c14,c15]] b' fun e w'=>e = .returned (.int .u64 ((sk:Nat):Int))∧ae ai w w') (oZ:∀ b',ae ai w b'→Calls Tryz.prog 40 #[.agg #[d0,d1,d2,d3,d4,d5,d6,d7,d8,d9,d10,d11,d12,d13,d14,d15]] b' fun e w'=>e = .returned (.int .u64 ((si:Nat):Int))∧ae ai w w')    {x1 x2 x3 x4 x5 x6 x7 x8 x10 x11 x13 x14 x15 x16 x17 x18 x19 x20 x21 x22 x23 x24 x25 x26 x27 x28 x29 x30 x31 x32 x33 x34 x35 x36 x37 x38 x39 x40 x41 x42 x43 x44 x45 x46 x47 x48 x49 x50 x51 x52 x53 x54 x55 x56 x57 x58 x59 x60 x61 x62 x63 x64 x65 x66 x67 x68 x69 x70 x71 x72 x73 x74 x75 x76 x77 x78 x79 x80 x81 x82 x83 x84 x85 x86 x87 x88 x89 x90 x91 x92 x93 x94 x95 x96 x97 x98 x99 x100 x101 x102 x103 x104 x105 x106 x107 x108 x109 x110 x111 x112 x113 x114 x115 x116 x117 x118 x119 x120 x121 x122 x123 x124 x125 x126 x127 x128 x129 x130 x131 x132 x133 x134 x135 x136 x137 x138 x139 x140 x141 x142 x143 x144 x145 x146 x147 x148 x149 x150 x151 x152 x153 x154 x155 x156 x157 x158 x159 x160 x161 x162 x163 x164 x165 x166 x167 x168 x169 x170 x171 x172 x173:Value}{df:List Deferred}{Q:Exit→Act→World→Prop}
  (hK:∀ (y111 y112 y113 y114 y115 y116 y117 y118 y119 y120 y121 y122 y123 y124 y125 y126 y127 y128 y129 y130 y131 y132 y133:Value)  (w':World),ae ai w w'→Q .normal ⟨#[.slice (some ⟨g,off,none⟩) n ca,x1,x2,x3,x4,x5,x6,x7,x8,.int .i64 ((i:Nat):Int),x10,x11,.int .i64 ((k:Nat):Int),x13,x14,x15,x16,x17,x18,x19,x20,x21,x22,x23,x24,x25,x26,x27,x28,x29,x30,x31,x32,x33,x34,x35,x36,x37,x38,x39,x40,x41,x42,x43,x44,x45,x46,x47,x48,x49,x50,x51,x52,x53,x54,x55,x56,x57,x58,x59,x60,x61,x62,x63,x64,x65,x66,x67,x68,x69,x70,x71,x72,x73,x74,x75,x76,x77,x78,x79,x80,x81,x82,x83,x84,x85,x86,x87,x88,x89,x90,x91,x92,x93,x94,x95,x96,x97,x98,x99,x100,x101,x102,x103,x104,x105,x106,x107,x108,x109,x110,y111,y112,y113,y114,y115,y116,y117,y118,y119,y120,y121,y122,y123,y124,y125,y126,y127,y128,y129,y130,y131,y132,y133,.bool false,x135,x136,x137,x138,x139,x140,x141,x142,x143,x144,x145,x146,x147,x148,x149,x150,x151,x152,x153,x154,x155,x156,x157,x158,x159,x160,x161,x162,x163,x164,x165,x166,x167,x168,x169,x170,x171,x172,x173],df⟩ w'):RW Tryz.prog (aG 27 Tryz.f6) true Q ⟨#[.slice (some ⟨g,off,none⟩) n ca,x1,x2,x3,x4,x5,x6,x7,x8,.int .i64 ((i:Nat):Int),x10,x11,.int .i64 ((k:Nat):Int),x13,x14,x15,x16,x17,x18,x19,x20,x21,x22,x23,x24,x25,x26,x27,x28,x29,x30,x31,x32,x33,x34,x35,x36,x37,x38,x39,x40,x41,x42,x43,x44,x45,x46,x47,x48,x49,x50,x51,x52,x53,x54,x55,x56,x57,x58,x59,x60,x61,x62,x63,x64,x65,x66,x67,x68,x69,x70,x71,x72,x73,x74,x75,x76,x77,x78,x79,x80,x81,x82,x83,x84,x85,x86,x87,x88,x89,x90,x91,x92,x93,x94,x95,x96,x97,x98,x99,x100,x101,x102,x103,x104,x105,x106,x107,x108,x109,x110,x111,x112,x113,x114,x115,x116,x117,x118,x119,x120,x121,x122,x123,x124,x125,x126,x127,x128,x129,x130,x131,x132,x133,x134,x135,x136,x137,x138,x139,x140,x141,x142,x143,x144,x145,x146,x147,x148,x149,x150,x151,x152,x153,x154,x155,x156,x157,x158,x159,x160,x161,x162,x163,x164,x165,x166,x167,x168,x169,x170,x171,x172,x173],df⟩ w:=by
 have HQ:=lh hK
 clear hK
 have Q1:=lh h1
 have Q2:=lh h2
 have D1:=lh pq
 have D2:=lh oZ
 clear h1 h2 pq oZ
 have MR:=lh ((ae.refl ai w).drew)
 refine dQ (S:=fun b'=>ae ai w b') [(0,true),(1,true),(2,true),(3,true),(5,true),(6,true),(7,true),(8,true),(4,false),(9,false),(10,true),(11,true),(12,true),(13,true),(14,true),(15,true),(17,true),(18,true),(19,true),(20,true),(16,false),(21,false),(22,true),(23,true)] [] [(0,1,2596148429267413814265248164610048),(0,4096,5192296858534827628530496329220096),(3,7788445287802241442795744493830144,10384593717069655257060992658440192),(4,10384593717069655257060992658440192,20769187434139310514121985316880384),(8,20769187434139310514121985316880384,41538374868278621028243970633760768),(0,1,83076749736557242056487941267521536),(0,512,166153499473114484112975882535043072),(96,249230249209671726169463823802564608,332306998946228968225951765070086144),(128,332306998946228968225951765070086144,664613997892457936451903530140172288),(272,664613997892457936451903530140172288,1329227995784915872903807060280344576),(528,1370766370653194493932051030914105344,2658455991569831745807614120560689152),(1536,2658455991569831745807614120560689152,5316911983139663491615228241121378304),(2048,5316911983139663491615228241121378305,10633823966279326983230456482242756608),(2048,5316911983139663491615228241121382400,21267647932558653966460912964485513216),(14336,37218383881977644441306597687849648128,42535295865117307932921825928971026432),(18432,47852207848256971424537054170092404736,85070591730234615865843651857942052864),(34816,90387503713374279357458880099063431168,170141183460469231731687303715884105728),(2048,5316911983139663491615228241121378305,340282366920938463463374607431768211456),(2048,5316911983139663491615228241121378816,680564733841876926926749214863536422912),(395264,1026164012745955053881739050536426012672,1361129467683753853853498429727072845824),(526336,1366446379666893517345113657968194224128,2722258935367507707706996859454145691648),(1116160,2727575847350647371198612087695267069952,5444517870735015415413993718908291383296),(2164736,5619975966178624310637296250865296867328,10889035741470030830827987437816582766592),(4196352,10894352653453170494319602666057704144896,21778071482940061661655974875633165533184)] (by kernel_rfl) (by kernel_rfl) (by kernel_rfl) (by kernel_rfl) (by kernel_rfl) MR.out ?_
 refine ah [0,1] [.slice (some ⟨g,off,none⟩) n ca,.int .i64 ((k:Nat):Int)] (rest:=[(2,true),(3,true),(5,true),(6,true),(7,true),(8,true),(4,false),(9,false),(10,true),(11,true),(12,true),(13,true),(14,true),(15,true),(17,true),(18,true),(19,true),(20,true),(16,false),(21,false),(22,true),(23,true)]) (by kernel_rfl) (by kernel_rfl) (fun _=>by kernel_rfl) ?_
 refine ag (.pointer (some ⟨g,off+k*16,none⟩)) (some 113) (ki (by kernel_rfl)) (fun bb hb=>bI (s:=16) (e:=79) (g:=g) (off:=off) (n:=n) (c:=ca) (i:=((k:Nat):Int)) (x:=(.tmp 111)) (y:=(.tmp 112)) (off+k*16) (by kernel_rfl) (by kernel_rfl) (by kernel_rfl) Tryz.underlying69 (by kernel_rfl) (by omega) (by omega) (by omega)) ?_
 refine ag (.agg #[c0,c1,c2,c3,c4,c5,c6,c7,c8,c9,c10,c11,c12,c13,c14,c15]) (some 114) (ki (by kernel_rfl)) (fun bb hb=>aA (x:=(.tmp 113)) (by kernel_rfl) (by kernel_rfl) (bG [c0,c1,c2,c3,c4,c5,c6,c7,c8,c9,c10,c11,c12,c13,c14,c15] (Q1.out _ hb) Tryz.underlying79 rfl (by kernel_rfl))) ?_
 refine ah [5,6] [.slice (some ⟨g,off,none⟩) n ca,.int .i64 ((i:Nat):Int)] (rest:=[(7,true),(8,true),(4,false),(9,false),(10,true),(11,true),(12,true),(13,true),(14,true),(15,true),(17,true),(18,true),(19,true),(20,true),(16,false),(21,false),(22,true),(23,true)]) (by kernel_rfl) (by kernel_rfl) (fun _=>by kernel_rfl) ?_
 refine ag (.pointer (some ⟨g,off+i*16,none⟩)) (some 118) (ki (by kernel_rfl)) (fun bb hb=>bI (s:=16) (e:=79) (g:=g) (off:=off) (n:=n) (c:=ca) (i:=((i:Nat):Int)) (x:=(.tmp 116)) (y:=(.tmp 117)) (off+i*16) (by kernel_rfl) (by kernel_rfl) (by kernel_rfl) Tryz.underlying69 (by kernel_rfl) (by omega) (by omega) (by omega)) ?_
 refine ag (.agg #[d0,d1,d2,d3,d4,d5,d6,d7,d8,d9,d10,d11,d12,d13,d14,d15]) (some 119) (ki (by kernel_rfl)) (fun bb hb=>aA (x:=(.tmp 118)) (by kernel_rfl) (by kernel_rfl) (bG [d0,d1,d2,d3,d4,d5,d6,d7,d8,d9,d10,d11,d12,d13,d14,d15] (Q2.out _ hb) Tryz.underlying79 rfl (by kernel_rfl))) ?_
 refine aj (some 115) (ki (by kernel_rfl)) (D1.out _ MR.out) (fun _=>by kernel_rfl) ?_
 rintro r w70 ⟨rfl,hm70⟩
 replace MR:=lh hm70
 refine⟨_,rfl,fun _=>MR.out,?_⟩
 refine aj (some 120) (ki (by kernel_rfl)) (D2.out _ MR.out) (fun _=>by kernel_rfl) ?_
 rintro r w71 ⟨rfl,hm71⟩
 replace MR:=lh hm71
 refine⟨_,rfl,fun _=>MR.out,?_⟩
 refine ag (.bool false) (some 121) (ki (by kernel_rfl)) (fun bb hb=>aV (t:=22) (t':=22) (xv := .int .u64 ((sk:Nat):Int)) (yv := .int .u64 ((si:Nat):Int)) (x:=(.tmp 115)) (y:=(.tmp 120)) (by kernel_rfl) (by kernel_rfl) (by kernel_rfl) (fun _=>by kernel_rfl) (fF _ (decide_eq_false (by omega)))) ?_
 refine ah [11,12,13,14,15,17,18,19,20] [.bool false,undef,undef,undef,undef,undef,undef,undef,undef] (rest:=[(16,false),(21,false),(22,true),(23,true)]) (by kernel_rfl) (by kernel_rfl) (fun _=>by kernel_rfl) ?_
 refine gY (some 127) (ki (by kernel_rfl)) (fun _=>MR.out) ?_
 refine gY (some 132) (ki (by kernel_rfl)) (fun _=>MR.out) ?_
 refine ah [22,23] [undef,.bool false] (rest:=[]) (by kernel_rfl) (by kernel_rfl) (fun _=>by kernel_rfl) ?_
 exact az (aO (K:=Q .normal) (by kernel_rfl) (HQ.out (.slice (some ⟨g,off,none⟩) n ca) (.int .i64 ((k:Nat):Int)) (.pointer (some ⟨g,off+k*16,none⟩)) (.agg #[c0,c1,c2,c3,c4,c5,c6,c7,c8,c9,c10,c11,c12,c13,c14,c15]) (.int .u64 ((sk:Nat):Int)) (.slice (some ⟨g,off,none⟩) n ca) (.int .i64 ((i:Nat):Int)) (.pointer (some ⟨g,off+i*16,none⟩)) (.agg #[d0,d1,d2,d3,d4,d5,d6,d7,d8,d9,d10,d11,d12,d13,d14,d15]) (.int .u64 ((si:Nat):Int)) (.bool false) (.bool false) (undef) (undef) (undef) (undef) (undef) (undef) (undef) (undef) (undef) (undef) (undef) _ MR.out))
theorem KU {w:World}{g off n ca i k sk si ok oi:Nat}{c0 c1 c2 c3 c4 c5 c6 c7 c8 c9 c10 c11 c12 c13 c14 c15 d0 d1 d2 d3 d4 d5 d6 d7 d8 d9 d10 d11 d12 d13 d14 d15:Value}{B2:Bool} (hi:i<n) (hk:k<n) (hn:n≤1000000) (h1:∀ b',ae ai w b'→∀ j u,([c0,c1,c2,c3,c4,c5,c6,c7,c8,c9,c10,c11,c12,c13,c14,c15]:List Value)[j]?=some u→b'.cell? ⟨g,off+k*16+j,none⟩=some u) (h2:∀ b',ae ai w b'→∀ j u,([d0,d1,d2,d3,d4,d5,d6,d7,d8,d9,d10,d11,d12,d13,d14,d15]:List Value)[j]?=some u→b'.cell? ⟨g,off+i*16+j,none⟩=some u) (hs:sk=si) (pq:∀ b',ae ai w b'→Calls Tryz.prog 40 #[.agg #[c0,c1,c2,c3,c4,c5,c6,c7,c8,c9,c10,c11,c12,c13,c14,c15]] b' fun e w'=>e = .returned (.int .u64 ((sk:Nat):Int))∧ae ai w w') (oZ:∀ b',ae ai w b'→Calls Tryz.prog 40 #[.agg #[d0,d1,d2,d3,d4,d5,d6,d7,d8,d9,d10,d11,d12,d13,d14,d15]] b' fun e w'=>e = .returned (.int .u64 ((si:Nat):Int))∧ae ai w w') (zn:∀ b',ae ai w b'→Calls Tryz.prog 41 #[.agg #[c0,c1,c2,c3,c4,c5,c6,c7,c8,c9,c10,c11,c12,c13,c14,c15]] b' fun e w'=>e = .returned (.int .u64 ((ok:Nat):Int))∧ae ai w w') (kc4:∀ b',ae ai w b'→Calls Tryz.prog 41 #[.agg #[d0,d1,d2,d3,d4,d5,d6,d7,d8,d9,d10,d11,d12,d13,d14,d15]] b' fun e w'=>e = .returned (.int .u64 ((oi:Nat):Int))∧ae ai w w') (hB:decide (((ok:Nat):Int)=((oi:Nat):Int))=B2) {x1 x2 x3 x4 x5 x6 x7 x8 x10 x11 x13 x14 x15 x16 x17 x18 x19 x20 x21 x22 x23 x24 x25 x26 x27 x28 x29 x30 x31 x32 x33 x34 x35 x36 x37 x38 x39 x40 x41 x42 x43 x44 x45 x46 x47 x48 x49 x50 x51 x52 x53 x54 x55 x56 x57 x58 x59 x60 x61 x62 x63 x64 x65 x66 x67 x68 x69 x70 x71 x72 x73 x74 x75 x76 x77 x78 x79 x80 x81 x82 x83 x84 x85 x86 x87 x88 x89 x90 x91 x92 x93 x94 x95 x96 x97 x98 x99 x100 x101 x102 x103 x104 x105 x106 x107 x108 x109 x110 x111 x112 x113 x114 x115 x116 x117 x118 x119 x120 x121 x122 x123 x124 x125 x126 x127 x128 x129 x130 x131 x132 x133 x134 x135 x136 x137 x138 x139 x140 x141 x142 x143 x144 x145 x146 x147 x148 x149 x150 x151 x152 x153 x154 x155 x156 x157 x158 x159 x160 x161 x162 x163 x164 x165 x166 x167 x168 x169 x170 x171 x172 x173:Value}{df:List Deferred}{Q:Exit→Act→World→Prop}
  (hK:∀ (y111 y112 y113 y114 y115 y116 y117 y118 y119 y120 y121 y122 y123 y124 y125 y126 y127 y128 y129 y130 y131 y132 y133:Value)  (w':World),ae ai w w'→Q .normal ⟨#[.slice (some ⟨g,off,none⟩) n ca,x1,x2,x3,x4,x5,x6,x7,x8,.int .i64 ((i:Nat):Int),x10,x11,.int .i64 ((k:Nat):Int),x13,x14,x15,x16,x17,x18,x19,x20,x21,x22,x23,x24,x25,x26,x27,x28,x29,x30,x31,x32,x33,x34,x35,x36,x37,x38,x39,x40,x41,x42,x43,x44,x45,x46,x47,x48,x49,x50,x51,x52,x53,x54,x55,x56,x57,x58,x59,x60,x61,x62,x63,x64,x65,x66,x67,x68,x69,x70,x71,x72,x73,x74,x75,x76,x77,x78,x79,x80,x81,x82,x83,x84,x85,x86,x87,x88,x89,x90,x91,x92,x93,x94,x95,x96,x97,x98,x99,x100,x101,x102,x103,x104,x105,x106,x107,x108,x109,x110,y111,y112,y113,y114,y115,y116,y117,y118,y119,y120,y121,y122,y123,y124,y125,y126,y127,y128,y129,y130,y131,y132,y133,.bool B2,x135,x136,x137,x138,x139,x140,x141,x142,x143,x144,x145,x146,x147,x148,x149,x150,x151,x152,x153,x154,x155,x156,x157,x158,x159,x160,x161,x162,x163,x164,x165,x166,x167,x168,x169,x170,x171,x172,x173],df⟩ w'):RW Tryz.prog (aG 27 Tryz.f6) true Q ⟨#[.slice (some ⟨g,off,none⟩) n ca,x1,x2,x3,x4,x5,x6,x7,x8,.int .i64 ((i:Nat):Int),x10,x11,.int .i64 ((k:Nat):Int),x13,x14,x15,x16,x17,x18,x19,x20,x21,x22,x23,x24,x25,x26,x27,x28,x29,x30,x31,x32,x33,x34,x35,x36,x37,x38,x39,x40,x41,x42,x43,x44,x45,x46,x47,x48,x49,x50,x51,x52,x53,x54,x55,x56,x57,x58,x59,x60,x61,x62,x63,x64,x65,x66,x67,x68,x69,x70,x71,x72,x73,x74,x75,x76,x77,x78,x79,x80,x81,x82,x83,x84,x85,x86,x87,x88,x89,x90,x91,x92,x93,x94,x95,x96,x97,x98,x99,x100,x101,x102,x103,x104,x105,x106,x107,x108,x109,x110,x111,x112,x113,x114,x115,x116,x117,x118,x119,x120,x121,x122,x123,x124,x125,x126,x127,x128,x129,x130,x131,x132,x133,x134,x135,x136,x137,x138,x139,x140,x141,x142,x143,x144,x145,x146,x147,x148,x149,x150,x151,x152,x153,x154,x155,x156,x157,x158,x159,x160,x161,x162,x163,x164,x165,x166,x167,x168,x169,x170,x171,x172,x173],df⟩ w:=by
 have HQ:=lh hK
 clear hK
 have Q1:=lh h1
 have Q2:=lh h2
 have D1:=lh pq
 have D2:=lh oZ
 have D3:=lh zn
 have D4:=lh kc4
 clear h1 h2 pq oZ zn kc4
 have MR:=lh ((ae.refl ai w).drew)
 refine dQ (S:=fun b'=>ae ai w b') [(0,true),(1,true),(2,true),(3,true),(5,true),(6,true),(7,true),(8,true),(4,false),(9,false),(10,true),(11,true),(12,true),(13,true),(14,true),(15,true),(17,true),(18,true),(19,true),(20,true),(16,false),(21,false),(22,true),(23,true)] [] [(0,1,2596148429267413814265248164610048),(0,4096,5192296858534827628530496329220096),(3,7788445287802241442795744493830144,10384593717069655257060992658440192),(4,10384593717069655257060992658440192,20769187434139310514121985316880384),(8,20769187434139310514121985316880384,41538374868278621028243970633760768),(0,1,83076749736557242056487941267521536),(0,512,166153499473114484112975882535043072),(96,249230249209671726169463823802564608,332306998946228968225951765070086144),(128,332306998946228968225951765070086144,664613997892457936451903530140172288),(272,664613997892457936451903530140172288,1329227995784915872903807060280344576),(528,1370766370653194493932051030914105344,2658455991569831745807614120560689152),(1536,2658455991569831745807614120560689152,5316911983139663491615228241121378304),(2048,5316911983139663491615228241121378305,10633823966279326983230456482242756608),(2048,5316911983139663491615228241121382400,21267647932558653966460912964485513216),(14336,37218383881977644441306597687849648128,42535295865117307932921825928971026432),(18432,47852207848256971424537054170092404736,85070591730234615865843651857942052864),(34816,90387503713374279357458880099063431168,170141183460469231731687303715884105728),(2048,5316911983139663491615228241121378305,340282366920938463463374607431768211456),(2048,5316911983139663491615228241121378816,680564733841876926926749214863536422912),(395264,1026164012745955053881739050536426012672,1361129467683753853853498429727072845824),(526336,1366446379666893517345113657968194224128,2722258935367507707706996859454145691648),(1116160,2727575847350647371198612087695267069952,5444517870735015415413993718908291383296),(2164736,5619975966178624310637296250865296867328,10889035741470030830827987437816582766592),(4196352,10894352653453170494319602666057704144896,21778071482940061661655974875633165533184)] (by kernel_rfl) (by kernel_rfl) (by kernel_rfl) (by kernel_rfl) (by kernel_rfl) MR.out ?_
 refine ah [0,1] [.slice (some ⟨g,off,none⟩) n ca,.int .i64 ((k:Nat):Int)] (rest:=[(2,true),(3,true),(5,true),(6,true),(7,true),(8,true),(4,false),(9,false),(10,true),(11,true),(12,true),(13,true),(14,true),(15,true),(17,true),(18,true),(19,true),(20,true),(16,false),(21,false),(22,true),(23,true)]) (by kernel_rfl) (by kernel_rfl) (fun _=>by kernel_rfl) ?_
 refine ag (.pointer (some ⟨g,off+k*16,none⟩)) (some 113) (ki (by kernel_rfl)) (fun bb hb=>bI (s:=16) (e:=79) (g:=g) (off:=off) (n:=n) (c:=ca) (i:=((k:Nat):Int)) (x:=(.tmp 111)) (y:=(.tmp 112)) (off+k*16) (by kernel_rfl) (by kernel_rfl) (by kernel_rfl) Tryz.underlying69 (by kernel_rfl) (by omega) (by omega) (by omega)) ?_
 refine ag (.agg #[c0,c1,c2,c3,c4,c5,c6,c7,c8,c9,c10,c11,c12,c13,c14,c15]) (some 114) (ki (by kernel_rfl)) (fun bb hb=>aA (x:=(.tmp 113)) (by kernel_rfl) (by kernel_rfl) (bG [c0,c1,c2,c3,c4,c5,c6,c7,c8,c9,c10,c11,c12,c13,c14,c15] (Q1.out _ hb) Tryz.underlying79 rfl (by kernel_rfl))) ?_
 refine ah [5,6] [.slice (some ⟨g,off,none⟩) n ca,.int .i64 ((i:Nat):Int)] (rest:=[(7,true),(8,true),(4,false),(9,false),(10,true),(11,true),(12,true),(13,true),(14,true),(15,true),(17,true),(18,true),(19,true),(20,true),(16,false),(21,false),(22,true),(23,true)]) (by kernel_rfl) (by kernel_rfl) (fun _=>by kernel_rfl) ?_
 refine ag (.pointer (some ⟨g,off+i*16,none⟩)) (some 118) (ki (by kernel_rfl)) (fun bb hb=>bI (s:=16) (e:=79) (g:=g) (off:=off) (n:=n) (c:=ca) (i:=((i:Nat):Int)) (x:=(.tmp 116)) (y:=(.tmp 117)) (off+i*16) (by kernel_rfl) (by kernel_rfl) (by kernel_rfl) Tryz.underlying69 (by kernel_rfl) (by omega) (by omega) (by omega)) ?_
 refine ag (.agg #[d0,d1,d2,d3,d4,d5,d6,d7,d8,d9,d10,d11,d12,d13,d14,d15]) (some 119) (ki (by kernel_rfl)) (fun bb hb=>aA (x:=(.tmp 118)) (by kernel_rfl) (by kernel_rfl) (bG [d0,d1,d2,d3,d4,d5,d6,d7,d8,d9,d10,d11,d12,d13,d14,d15] (Q2.out _ hb) Tryz.underlying79 rfl (by kernel_rfl))) ?_
 refine aj (some 115) (ki (by kernel_rfl)) (D1.out _ MR.out) (fun _=>by kernel_rfl) ?_
 rintro r w70 ⟨rfl,hm70⟩
 replace MR:=lh hm70
 refine⟨_,rfl,fun _=>MR.out,?_⟩
 refine aj (some 120) (ki (by kernel_rfl)) (D2.out _ MR.out) (fun _=>by kernel_rfl) ?_
 rintro r w71 ⟨rfl,hm71⟩
 replace MR:=lh hm71
 refine⟨_,rfl,fun _=>MR.out,?_⟩
 refine ag (.bool true) (some 121) (ki (by kernel_rfl)) (fun bb hb=>aV (t:=22) (t':=22) (xv := .int .u64 ((sk:Nat):Int)) (yv := .int .u64 ((si:Nat):Int)) (x:=(.tmp 115)) (y:=(.tmp 120)) (by kernel_rfl) (by kernel_rfl) (by kernel_rfl) (fun _=>by kernel_rfl) (fF _ (decide_eq_true (by omega)))) ?_
 refine ah [11,12,13] [.bool true,.slice (some ⟨g,off,none⟩) n ca,.int .i64 ((k:Nat):Int)] (rest:=[(14,true),(15,true),(17,true),(18,true),(19,true),(20,true),(16,false),(21,false),(22,true),(23,true)]) (by kernel_rfl) (by kernel_rfl) (fun _=>by kernel_rfl) ?_
 refine ag (.pointer (some ⟨g,off+k*16,none⟩)) (some 125) (ki (by kernel_rfl)) (fun bb hb=>bI (s:=16) (e:=79) (g:=g) (off:=off) (n:=n) (c:=ca) (i:=((k:Nat):Int)) (x:=(.tmp 123)) (y:=(.tmp 124)) (off+k*16) (by kernel_rfl) (by kernel_rfl) (by kernel_rfl) Tryz.underlying69 (by kernel_rfl) (by omega) (by omega) (by omega)) ?_
 refine ag (.agg #[c0,c1,c2,c3,c4,c5,c6,c7,c8,c9,c10,c11,c12,c13,c14,c15]) (some 126) (ki (by kernel_rfl)) (fun bb hb=>aA (x:=(.tmp 125)) (by kernel_rfl) (by kernel_rfl) (bG [c0,c1,c2,c3,c4,c5,c6,c7,c8,c9,c10,c11,c12,c13,c14,c15] (Q1.out _ hb) Tryz.underlying79 rfl (by kernel_rfl))) ?_
 refine ah [17,18] [.slice (some ⟨g,off,none⟩) n ca,.int .i64 ((i:Nat):Int)] (rest:=[(19,true),(20,true),(16,false),(21,false),(22,true),(23,true)]) (by kernel_rfl) (by kernel_rfl) (fun _=>by kernel_rfl) ?_
 refine ag (.pointer (some ⟨g,off+i*16,none⟩)) (some 130) (ki (by kernel_rfl)) (fun bb hb=>bI (s:=16) (e:=79) (g:=g) (off:=off) (n:=n) (c:=ca) (i:=((i:Nat):Int)) (x:=(.tmp 128)) (y:=(.tmp 129)) (off+i*16) (by kernel_rfl) (by kernel_rfl) (by kernel_rfl) Tryz.underlying69 (by kernel_rfl) (by omega) (by omega) (by omega)) ?_
 refine ag (.agg #[d0,d1,d2,d3,d4,d5,d6,d7,d8,d9,d10,d11,d12,d13,d14,d15]) (some 131) (ki (by kernel_rfl)) (fun bb hb=>aA (x:=(.tmp 130)) (by kernel_rfl) (by kernel_rfl) (bG [d0,d1,d2,d3,d4,d5,d6,d7,d8,d9,d10,d11,d12,d13,d14,d15] (Q2.out _ hb) Tryz.underlying79 rfl (by kernel_rfl))) ?_
 refine aj (some 127) (ki (by kernel_rfl)) (D3.out _ MR.out) (fun _=>by kernel_rfl) ?_
 rintro r w72 ⟨rfl,hm72⟩
 replace MR:=lh hm72
 refine⟨_,rfl,fun _=>MR.out,?_⟩
 refine aj (some 132) (ki (by kernel_rfl)) (D4.out _ MR.out) (fun _=>by kernel_rfl) ?_
 rintro r w73 ⟨rfl,hm73⟩
 replace MR:=lh hm73
 refine⟨_,rfl,fun _=>MR.out,?_⟩
 refine ag (.bool B2) (some 133) (ki (by kernel_rfl)) (fun bb hb=>aV (t:=22) (t':=22) (xv := .int .u64 ((ok:Nat):Int)) (yv := .int .u64 ((oi:Nat):Int)) (x:=(.tmp 127)) (y:=(.tmp 132)) (by kernel_rfl) (by kernel_rfl) (by kernel_rfl) (fun _=>by kernel_rfl) (fF _ hB)) ?_
 refine ah [23] [.bool B2] (rest:=[]) (by kernel_rfl) (by kernel_rfl) (fun _=>by kernel_rfl) ?_
 exact az (aO (K:=Q .normal) (by kernel_rfl) (HQ.out (.slice (some ⟨g,off,none⟩) n ca) (.int .i64 ((k:Nat):Int)) (.pointer (some ⟨g,off+k*16,none⟩)) (.agg #[c0,c1,c2,c3,c4,c5,c6,c7,c8,c9,c10,c11,c12,c13,c14,c15]) (.int .u64 ((sk:Nat):Int)) (.slice (some ⟨g,off,none⟩) n ca) (.int .i64 ((i:Nat):Int)) (.pointer (some ⟨g,off+i*16,none⟩)) (.agg #[d0,d1,d2,d3,d4,d5,d6,d7,d8,d9,d10,d11,d12,d13,d14,d15]) (.int .u64 ((si:Nat):Int)) (.bool true) (.bool true) (.slice (some ⟨g,off,none⟩) n ca) (.int .i64 ((k:Nat):Int)) (.pointer (some ⟨g,off+k*16,none⟩)) (.agg #[c0,c1,c2,c3,c4,c5,c6,c7,c8,c9,c10,c11,c12,c13,c14,c15]) (.int .u64 ((ok:Nat):Int)) (.slice (some ⟨g,off,none⟩) n ca) (.int .i64 ((i:Nat):Int)) (.pointer (some ⟨g,off+i*16,none⟩)) (.agg #[d0,d1,d2,d3,d4,d5,d6,d7,d8,d9,d10,d11,d12,d13,d14,d15]) (.int .u64 ((oi:Nat):Int)) (.bool B2) _ MR.out))
theorem qo32 {w:World}{h offh m cb i a b:Nat} (hi:i+1<m) (hn:m≤1000000) (h1:∀ b',ae ai w b'→b'.cell? ⟨h,offh+i*2,none⟩=some (.int .u64 ((a:Nat):Int))) (h2:∀ b',ae ai w b'→b'.cell? ⟨h,offh+(i+1)*2,none⟩=some (.int .u64 ((b:Nat):Int))) (ht:a<b) {x0 x1 x2 x3 x4 x5 x6 x7 x8 x9 x11 x12 x14 x15 x16 x17 x18 x19 x20 x21 x22 x23 x24 x25 x26 x27 x28 x29 x30 x31 x32 x33 x34 x35 x36 x37 x38 x39 x40 x41 x42 x43 x44 x45 x46 x47 x48 x49 x50 x51 x52 x53 x54 x55 x56 x57 x58 x59 x60 x61 x62 x63 x64 x65 x66 x67 x68 x69 x70 x71 x72 x73 x74 x75 x76 x77 x78 x79 x80 x81 x82 x83 x84 x85 x86 x87 x88 x89 x90 x91 x92 x93 x94 x95 x96 x97 x98 x99 x100 x101 x102 x103 x104 x105 x106 x107 x108 x109 x110 x111 x112 x113 x114 x115 x116 x117 x118 x119 x120 x121 x122 x123 x124 x125 x126 x127 x128 x129 x130 x131 x132 x133 x134 x135 x136 x137 x138 x139 x140 x141 x142 x143 x144 x145 x146 x147 x148 x149 x150 x151 x152 x153 x154 x155 x156 x157 x158 x159 x160 x161 x162 x163 x164 x165 x166 x167 x168 x169 x170 x171 x172 x173:Value}{df:List Deferred}{Q:Exit→Act→World→Prop}
  (hK:∀ (y143 y144 y145 y146 y147 y148 y149 y150 y151 y152 y153:Value)  (w':World),ae ai w w'→Q .normal ⟨#[x0,x1,x2,x3,x4,x5,x6,x7,x8,x9,.slice (some ⟨h,offh,none⟩) m cb,x11,x12,.int .i64 (((i+1):Nat):Int),x14,x15,x16,x17,x18,x19,x20,x21,x22,x23,x24,x25,x26,x27,x28,x29,x30,x31,x32,x33,x34,x35,x36,x37,x38,x39,x40,x41,x42,x43,x44,x45,x46,x47,x48,x49,x50,x51,x52,x53,x54,x55,x56,x57,x58,x59,x60,x61,x62,x63,x64,x65,x66,x67,x68,x69,x70,x71,x72,x73,x74,x75,x76,x77,x78,x79,x80,x81,x82,x83,x84,x85,x86,x87,x88,x89,x90,x91,x92,x93,x94,x95,x96,x97,x98,x99,x100,x101,x102,x103,x104,x105,x106,x107,x108,x109,x110,x111,x112,x113,x114,x115,x116,x117,x118,x119,x120,x121,x122,x123,x124,x125,x126,x127,x128,x129,x130,x131,x132,x133,x134,x135,x136,x137,x138,x139,x140,x141,x142,y143,y144,y145,y146,y147,y148,y149,y150,y151,y152,y153,.bool false,x155,x156,x157,x158,x159,x160,x161,x162,x163,x164,x165,x166,x167,x168,x169,x170,x171,x172,x173],df⟩ w'):RW Tryz.prog (aG 32 Tryz.f6) true Q ⟨#[x0,x1,x2,x3,x4,x5,x6,x7,x8,x9,.slice (some ⟨h,offh,none⟩) m cb,x11,x12,.int .i64 (((i+1):Nat):Int),x14,x15,x16,x17,x18,x19,x20,x21,x22,x23,x24,x25,x26,x27,x28,x29,x30,x31,x32,x33,x34,x35,x36,x37,x38,x39,x40,x41,x42,x43,x44,x45,x46,x47,x48,x49,x50,x51,x52,x53,x54,x55,x56,x57,x58,x59,x60,x61,x62,x63,x64,x65,x66,x67,x68,x69,x70,x71,x72,x73,x74,x75,x76,x77,x78,x79,x80,x81,x82,x83,x84,x85,x86,x87,x88,x89,x90,x91,x92,x93,x94,x95,x96,x97,x98,x99,x100,x101,x102,x103,x104,x105,x106,x107,x108,x109,x110,x111,x112,x113,x114,x115,x116,x117,x118,x119,x120,x121,x122,x123,x124,x125,x126,x127,x128,x129,x130,x131,x132,x133,x134,x135,x136,x137,x138,x139,x140,x141,x142,x143,x144,x145,x146,x147,x148,x149,x150,x151,x152,x153,x154,x155,x156,x157,x158,x159,x160,x161,x162,x163,x164,x165,x166,x167,x168,x169,x170,x171,x172,x173],df⟩ w:=by
 have HQ:=lh hK
 clear hK
 have Q1:=lh h1
 have Q2:=lh h2
 clear h1 h2
 have MR:=lh ((ae.refl ai w).drew)
 refine dQ (S:=fun b'=>ae ai w b') [(0,true),(1,true),(2,true),(3,true),(4,true),(5,true),(6,true),(7,true),(8,true),(9,true),(10,true),(11,true)] [] [(0,1024,11150372599265311570767859136324180752990208),(0,8192,22300745198530623141535718272648361505980416),(2,22300745198530623141535718272648361505980416,44601490397061246283071436545296723011960832),(5,55751862996326557853839295681620903764951040,89202980794122492566142873090593446023921664),(8,89202980794122492566142873090593446023921664,178405961588244985132285746181186892047843328),(16,178405961588244985132285746181186892047843328,356811923176489970264571492362373784095686656),(0,1024,713623846352979940529142984724747568191373312),(0,8192,1427247692705959881058285969449495136382746624),(192,2140871539058939821587428954174242704574119936,2854495385411919762116571938898990272765493248),(256,2854495385411919762116571938898990272765493248,5708990770823839524233143877797980545530986496),(512,5708990770823839524233143877797980545530986496,11417981541647679048466287755595961091061972992),(1056,11774793464824169018730859247958334875157659648,22835963083295358096932575511191922182123945984)] (by kernel_rfl) (by kernel_rfl) (by kernel_rfl) (by kernel_rfl) (by kernel_rfl) MR.out ?_
 refine ah [0,1] [.slice (some ⟨h,offh,none⟩) m cb,.int .i64 (((i+1):Nat):Int)] (rest:=[(2,true),(3,true),(4,true),(5,true),(6,true),(7,true),(8,true),(9,true),(10,true),(11,true)]) (by kernel_rfl) (by kernel_rfl) (fun _=>by kernel_rfl) ?_
 refine ag (.int .i64 ((i:Nat):Int)) (some 145) (ki (by kernel_rfl)) (fun bb hb=>aV (t:=3) (t':=3) (xv := .int .i64 (((i+1):Nat):Int)) (yv := .int .i64 1) (x:=(.tmp 144)) (y:=(.const (.int .i64 1))) (by kernel_rfl) (by kernel_rfl) (by kernel_rfl) (fun _=>by kernel_rfl) (nD _ (by omega) (by omega) (by omega))) ?_
 refine ag (.pointer (some ⟨h,offh+i*2,none⟩)) (some 146) (ki (by kernel_rfl)) (fun bb hb=>bI (s:=2) (e:=86) (g:=h) (off:=offh) (n:=m) (c:=cb) (i:=((i:Nat):Int)) (x:=(.tmp 143)) (y:=(.tmp 145)) (offh+i*2) (by kernel_rfl) (by kernel_rfl) (by kernel_rfl) Tryz.underlying82 (by kernel_rfl) (by omega) (by omega) (by omega)) ?_
 refine ah [4] [.pointer (some ⟨h,offh+i*2,none⟩)] (rest:=[(5,true),(6,true),(7,true),(8,true),(9,true),(10,true),(11,true)]) (by kernel_rfl) (by kernel_rfl) (fun _=>by kernel_rfl) ?_
 refine ag (.int .u64 ((a:Nat):Int)) (some 148) (ki (by kernel_rfl)) (fun bb hb=>aA (x:=(.tmp 147)) (by kernel_rfl) (by kernel_rfl) (aK (Q1.out _ hb) Tryz.underlying22 rfl)) ?_
 refine ah [6,7] [.slice (some ⟨h,offh,none⟩) m cb,.int .i64 (((i+1):Nat):Int)] (rest:=[(8,true),(9,true),(10,true),(11,true)]) (by kernel_rfl) (by kernel_rfl) (fun _=>by kernel_rfl) ?_
 refine ag (.pointer (some ⟨h,offh+(i+1)*2,none⟩)) (some 151) (ki (by kernel_rfl)) (fun bb hb=>bI (s:=2) (e:=86) (g:=h) (off:=offh) (n:=m) (c:=cb) (i:=(((i+1):Nat):Int)) (x:=(.tmp 149)) (y:=(.tmp 150)) (offh+(i+1)*2) (by kernel_rfl) (by kernel_rfl) (by kernel_rfl) Tryz.underlying82 (by kernel_rfl) (by omega) (by omega) (by omega)) ?_
 refine ah [9] [.pointer (some ⟨h,offh+(i+1)*2,none⟩)] (rest:=[(10,true),(11,true)]) (by kernel_rfl) (by kernel_rfl) (fun _=>by kernel_rfl) ?_
 refine ag (.int .u64 ((b:Nat):Int)) (some 153) (ki (by kernel_rfl)) (fun bb hb=>aA (x:=(.tmp 152)) (by kernel_rfl) (by kernel_rfl) (aK (Q2.out _ hb) Tryz.underlying22 rfl)) ?_
 refine ag (.bool false) (some 154) (ki (by kernel_rfl)) (fun bb hb=>aV (t:=22) (t':=22) (xv := .int .u64 ((a:Nat):Int)) (yv := .int .u64 ((b:Nat):Int)) (x:=(.tmp 148)) (y:=(.tmp 153)) (by kernel_rfl) (by kernel_rfl) (by kernel_rfl) (fun _=>by kernel_rfl) (ku _ (decide_eq_false (by omega)))) ?_
 exact az (aO (K:=Q .normal) (by kernel_rfl) (HQ.out (.slice (some ⟨h,offh,none⟩) m cb) (.int .i64 (((i+1):Nat):Int)) (.int .i64 ((i:Nat):Int)) (.pointer (some ⟨h,offh+i*2,none⟩)) (.pointer (some ⟨h,offh+i*2,none⟩)) (.int .u64 ((a:Nat):Int)) (.slice (some ⟨h,offh,none⟩) m cb) (.int .i64 (((i+1):Nat):Int)) (.pointer (some ⟨h,offh+(i+1)*2,none⟩)) (.pointer (some ⟨h,offh+(i+1)*2,none⟩)) (.int .u64 ((b:Nat):Int)) _ MR.out))
theorem qo34 {w:World}{sg g off n ca i o1 s1 c:Nat}{c0 c1 c2 c3 c4 c5 c6 c7 c8 c9 c10 c11 c12 c13 c14 c15:Value}{S X0 X:World→Prop} (h0:X0 w.drew) (hS:∀ b',X0 b'→S b') (hi:i<n) (hn:n≤1000000) (h1:∀ b',S b'→∀ j u,([c0,c1,c2,c3,c4,c5,c6,c7,c8,c9,c10,c11,c12,c13,c14,c15]:List Value)[j]?=some u→b'.cell? ⟨g,off+i*16+j,none⟩=some u) (pq:∀ b',X0 b'→Calls Tryz.prog 41 #[.agg #[c0,c1,c2,c3,c4,c5,c6,c7,c8,c9,c10,c11,c12,c13,c14,c15]] b' fun e w'=>e = .returned (.int .u64 ((o1:Nat):Int))∧X0 w') (oZ:∀ b',X0 b'→Calls Tryz.prog 40 #[.agg #[c0,c1,c2,c3,c4,c5,c6,c7,c8,c9,c10,c11,c12,c13,c14,c15]] b' fun e w'=>e = .returned (.int .u64 ((s1:Nat):Int))∧X0 w') (zn:∀ b',X0 b'→Calls Tryz.prog 42 #[.pointer (some ⟨sg,0,none⟩),.int .u64 ((o1:Nat):Int),.int .u64 ((s1:Nat):Int)] b' fun e w'=>e = .returned (.int .u64 ((c:Nat):Int))∧S w'∧X w') {x1 x2 x4 x5 x6 x7 x8 x10 x12 x13 x14 x15 x16 x17 x18 x19 x20 x21 x22 x23 x24 x25 x26 x27 x28 x29 x30 x31 x32 x33 x34 x35 x36 x37 x38 x39 x40 x41 x42 x43 x44 x45 x46 x47 x48 x49 x50 x51 x52 x53 x54 x55 x56 x57 x58 x59 x60 x61 x62 x63 x64 x65 x66 x67 x68 x69 x70 x71 x72 x73 x74 x75 x76 x77 x78 x79 x80 x81 x82 x83 x84 x85 x86 x87 x88 x89 x90 x91 x92 x93 x94 x95 x96 x97 x98 x99 x100 x101 x102 x103 x104 x105 x106 x107 x108 x109 x110 x111 x112 x113 x114 x115 x116 x117 x118 x119 x120 x121 x122 x123 x124 x125 x126 x127 x128 x129 x130 x131 x132 x133 x134 x135 x136 x137 x138 x139 x140 x141 x142 x143 x144 x145 x146 x147 x148 x149 x150 x151 x152 x153 x154 x155 x156 x157 x158 x159 x160 x161 x162 x163 x164 x165 x166 x167 x168 x169 x170 x171 x172 x173:Value}{df:List Deferred}{Q:Exit→Act→World→Prop}
  (hK:∀ (y155 y156 y157 y158 y159 y160 y161 y162 y163 y164 y165 y166 y167:Value)  (w':World),X w'→Q .normal ⟨#[.slice (some ⟨g,off,none⟩) n ca,x1,x2,.pointer (some ⟨sg,0,none⟩),x4,x5,x6,x7,x8,.int .i64 ((i:Nat):Int),x10,.int .u64 ((c:Nat):Int),x12,x13,x14,x15,x16,x17,x18,x19,x20,x21,x22,x23,x24,x25,x26,x27,x28,x29,x30,x31,x32,x33,x34,x35,x36,x37,x38,x39,x40,x41,x42,x43,x44,x45,x46,x47,x48,x49,x50,x51,x52,x53,x54,x55,x56,x57,x58,x59,x60,x61,x62,x63,x64,x65,x66,x67,x68,x69,x70,x71,x72,x73,x74,x75,x76,x77,x78,x79,x80,x81,x82,x83,x84,x85,x86,x87,x88,x89,x90,x91,x92,x93,x94,x95,x96,x97,x98,x99,x100,x101,x102,x103,x104,x105,x106,x107,x108,x109,x110,x111,x112,x113,x114,x115,x116,x117,x118,x119,x120,x121,x122,x123,x124,x125,x126,x127,x128,x129,x130,x131,x132,x133,x134,x135,x136,x137,x138,x139,x140,x141,x142,x143,x144,x145,x146,x147,x148,x149,x150,x151,x152,x153,x154,y155,y156,y157,y158,y159,y160,y161,y162,y163,y164,y165,y166,y167,.bool false,x169,x170,x171,x172,x173],df⟩ w'):RW Tryz.prog (aG 34 Tryz.f6) true Q ⟨#[.slice (some ⟨g,off,none⟩) n ca,x1,x2,.pointer (some ⟨sg,0,none⟩),x4,x5,x6,x7,x8,.int .i64 ((i:Nat):Int),x10,.int .u64 ((c:Nat):Int),x12,x13,x14,x15,x16,x17,x18,x19,x20,x21,x22,x23,x24,x25,x26,x27,x28,x29,x30,x31,x32,x33,x34,x35,x36,x37,x38,x39,x40,x41,x42,x43,x44,x45,x46,x47,x48,x49,x50,x51,x52,x53,x54,x55,x56,x57,x58,x59,x60,x61,x62,x63,x64,x65,x66,x67,x68,x69,x70,x71,x72,x73,x74,x75,x76,x77,x78,x79,x80,x81,x82,x83,x84,x85,x86,x87,x88,x89,x90,x91,x92,x93,x94,x95,x96,x97,x98,x99,x100,x101,x102,x103,x104,x105,x106,x107,x108,x109,x110,x111,x112,x113,x114,x115,x116,x117,x118,x119,x120,x121,x122,x123,x124,x125,x126,x127,x128,x129,x130,x131,x132,x133,x134,x135,x136,x137,x138,x139,x140,x141,x142,x143,x144,x145,x146,x147,x148,x149,x150,x151,x152,x153,x154,x155,x156,x157,x158,x159,x160,x161,x162,x163,x164,x165,x166,x167,x168,x169,x170,x171,x172,x173],df⟩ w:=by
 have HQ:=lh hK
 clear hK
 have Q1:=lh h1
 have D1:=lh pq
 have D2:=lh oZ
 have D3:=lh zn
 have HS:=lh hS
 clear h1 pq oZ zn hS
 have MR:=lh h0
 refine dQ (S:=S) [(0,true),(1,true),(2,true),(3,true),(4,true),(6,true),(7,true),(8,true),(9,true),(12,true),(5,false),(10,false),(11,false),(13,true)] [] [(0,8,45671926166590716193865151022383844364247891968),(0,1,91343852333181432387730302044767688728495783936),(0,512,182687704666362864775460604089535377456991567872),(6,274031556999544297163190906134303066185487351808,365375409332725729550921208179070754913983135744),(8,365375409332725729550921208179070754913983135744,730750818665451459101842416358141509827966271488),(16,730750818665451459101842416358141509827966271488,1461501637330902918203684832716283019655932542976),(0,1,2923003274661805836407369665432566039311865085952),(0,512,5846006549323611672814739330865132078623730171904),(192,8769009823985417509222108996297698117935595257856,11692013098647223345629478661730264157247460343808),(256,11692013098647223345629478661730264157247460343808,23384026197294446691258957323460528314494920687616),(544,23384026197294446691258957323460528314494920687616,46768052394588893382517914646921056628989841375232),(1057,48275225958086387016915464630659723493010021810176,93536104789177786765035829293842113257979682750464),(0,2048,187072209578355573530071658587684226515959365500928),(6144,280608314367533360295107487881526339773939048251392,374144419156711147060143317175368453031918731001856)] (by kernel_rfl) (by kernel_rfl) (by kernel_rfl) (by kernel_rfl) (by kernel_rfl) (HS.out _ MR.out) ?_
 refine ah [0,1,2] [.pointer (some ⟨sg,0,none⟩),.slice (some ⟨g,off,none⟩) n ca,.int .i64 ((i:Nat):Int)] (rest:=[(3,true),(4,true),(6,true),(7,true),(8,true),(9,true),(12,true),(5,false),(10,false),(11,false),(13,true)]) (by kernel_rfl) (by kernel_rfl) (fun _=>by kernel_rfl) ?_
 refine ag (.pointer (some ⟨g,off+i*16,none⟩)) (some 158) (ki (by kernel_rfl)) (fun bb hb=>bI (s:=16) (e:=79) (g:=g) (off:=off) (n:=n) (c:=ca) (i:=((i:Nat):Int)) (x:=(.tmp 156)) (y:=(.tmp 157)) (off+i*16) (by kernel_rfl) (by kernel_rfl) (by kernel_rfl) Tryz.underlying69 (by kernel_rfl) (by omega) (by omega) (by omega)) ?_
 refine ag (.agg #[c0,c1,c2,c3,c4,c5,c6,c7,c8,c9,c10,c11,c12,c13,c14,c15]) (some 159) (ki (by kernel_rfl)) (fun bb hb=>aA (x:=(.tmp 158)) (by kernel_rfl) (by kernel_rfl) (bG [c0,c1,c2,c3,c4,c5,c6,c7,c8,c9,c10,c11,c12,c13,c14,c15] (Q1.out _ hb) Tryz.underlying79 rfl (by kernel_rfl))) ?_
 refine ah [6,7] [.slice (some ⟨g,off,none⟩) n ca,.int .i64 ((i:Nat):Int)] (rest:=[(8,true),(9,true),(12,true),(5,false),(10,false),(11,false),(13,true)]) (by kernel_rfl) (by kernel_rfl) (fun _=>by kernel_rfl) ?_
 refine ag (.pointer (some ⟨g,off+i*16,none⟩)) (some 163) (ki (by kernel_rfl)) (fun bb hb=>bI (s:=16) (e:=79) (g:=g) (off:=off) (n:=n) (c:=ca) (i:=((i:Nat):Int)) (x:=(.tmp 161)) (y:=(.tmp 162)) (off+i*16) (by kernel_rfl) (by kernel_rfl) (by kernel_rfl) Tryz.underlying69 (by kernel_rfl) (by omega) (by omega) (by omega)) ?_
 refine ag (.agg #[c0,c1,c2,c3,c4,c5,c6,c7,c8,c9,c10,c11,c12,c13,c14,c15]) (some 164) (ki (by kernel_rfl)) (fun bb hb=>aA (x:=(.tmp 163)) (by kernel_rfl) (by kernel_rfl) (bG [c0,c1,c2,c3,c4,c5,c6,c7,c8,c9,c10,c11,c12,c13,c14,c15] (Q1.out _ hb) Tryz.underlying79 rfl (by kernel_rfl))) ?_
 refine ah [12] [.int .u64 ((c:Nat):Int)] (rest:=[(5,false),(10,false),(11,false),(13,true)]) (by kernel_rfl) (by kernel_rfl) (fun _=>by kernel_rfl) ?_
 refine aj (some 160) (ki (by kernel_rfl)) (D1.out _ MR.out) (fun _=>by kernel_rfl) ?_
 rintro r w70 ⟨rfl,hm70⟩
 replace MR:=lh hm70
 refine⟨_,rfl,fun _=>HS.out _ MR.out,?_⟩
 refine aj (some 165) (ki (by kernel_rfl)) (D2.out _ MR.out) (fun _=>by kernel_rfl) ?_
 rintro r w71 ⟨rfl,hm71⟩
 replace MR:=lh hm71
 refine⟨_,rfl,fun _=>HS.out _ MR.out,?_⟩
 refine aj (some 166) (ki (by kernel_rfl)) (D3.out _ MR.out) (fun _=>by kernel_rfl) ?_
 rintro r w8 ⟨rfl,h8,hX8⟩
 refine⟨_,rfl,fun _=>h8,?_⟩
 refine ag (.bool false) (some 168) (ki (by kernel_rfl)) (fun bb hb=>aV (t:=22) (t':=22) (xv := .int .u64 ((c:Nat):Int)) (yv := .int .u64 ((c:Nat):Int)) (x:=(.tmp 166)) (y:=(.tmp 167)) (by kernel_rfl) (by kernel_rfl) (by kernel_rfl) (fun _=>by kernel_rfl) (Lu _ (by simp))) ?_
 exact az (aO (K:=Q .normal) (by kernel_rfl) (HQ.out (.pointer (some ⟨sg,0,none⟩)) (.slice (some ⟨g,off,none⟩) n ca) (.int .i64 ((i:Nat):Int)) (.pointer (some ⟨g,off+i*16,none⟩)) (.agg #[c0,c1,c2,c3,c4,c5,c6,c7,c8,c9,c10,c11,c12,c13,c14,c15]) (.int .u64 ((o1:Nat):Int)) (.slice (some ⟨g,off,none⟩) n ca) (.int .i64 ((i:Nat):Int)) (.pointer (some ⟨g,off+i*16,none⟩)) (.agg #[c0,c1,c2,c3,c4,c5,c6,c7,c8,c9,c10,c11,c12,c13,c14,c15]) (.int .u64 ((s1:Nat):Int)) (.int .u64 ((c:Nat):Int)) (.int .u64 ((c:Nat):Int)) _ hX8))
theorem qtm3 {w:World}{g off n ca j:Nat}{z0 z1 z2 z3 z4 z5 z6 z7 z8 z9 z10 z11 z12 z13 z14:Int}{z15:Option Addr}{zl zc:Nat} (hj:j<n) (hn:n≤1000000) (hx:∀ j' u,([.int .i64 z0,.int .i64 z1,.int .u64 z2,.int .u64 z3,.int .u64 z4,.int .u64 z5,.int .u64 z6,.int .u64 z7,.int .u64 z8,.int .u64 z9,.int .u64 z10,.int .u64 z11,.int .u64 z12,.int .u64 z13,.int .u64 z14,.slice z15 zl zc]:List Value)[j']?=some u→w.cell? ⟨g,off+j*16+j',none⟩=some u) {x2 x3 x4 x5 x6 x7 x8 x9 x10 x11 x12 x13 x14 x15 x16 x17 x18 x19 x20 x21 x22 x23 x24 x25 x26 x27 x28 x29:Value}{df:List Deferred}{Q:Exit→Act→World→Prop}
  (hK:∀ (y15 y16 y17 y18 y19:Value) (bq:Nat) (w':World),w.heap.size≤bq→w'.heap[bq]?=some (.cells #[.int .i64 z0,.int .i64 z1,.int .u64 z2,.int .u64 z3,.int .u64 z4,.int .u64 z5,.int .u64 z6,.int .u64 z7,.int .u64 z8,.int .u64 z9,.int .u64 z10,.int .u64 z11,.int .u64 z12,.int .u64 z13,.int .u64 z14,.slice z15 zl zc] 79 (0,0))→ae ai w w'→Q .normal ⟨#[.slice (some ⟨g,off,none⟩) n ca,.int .u64 (((j+1):Nat):Int),x2,x3,x4,.pointer (some ⟨bq,0,none⟩),x6,x7,x8,x9,x10,x11,x12,x13,x14,y15,y16,y17,y18,y19,x20,x21,x22,x23,x24,x25,x26,x27,x28,x29],df⟩ w'):RW Tryz.prog (aG 3 Tryz.f38) false Q ⟨#[.slice (some ⟨g,off,none⟩) n ca,.int .u64 (((j+1):Nat):Int),x2,x3,x4,x5,x6,x7,x8,x9,x10,x11,x12,x13,x14,x15,x16,x17,x18,x19,x20,x21,x22,x23,x24,x25,x26,x27,x28,x29],df⟩ w:=by
 have HQ:=lh hK
 clear hK
 have QX:=hx
 clear hx
 refine bn [(0,false),(1,false),(2,false),(3,false),(4,false),(5,false),(6,false)] (by kernel_rfl) ?_
 refine aB [0,1] [.slice (some ⟨g,off,none⟩) n ca,.int .u64 (((j+1):Nat):Int)] (rest:=[(2,false),(3,false),(4,false),(5,false),(6,false)]) (by kernel_rfl) (by kernel_rfl) (by kernel_rfl) (.inr trivial) ?_
 refine aJ (.int .u64 ((j:Nat):Int)) _ (some 17) (ki (by kernel_rfl)) (aV (t:=22) (t':=22) (xv := .int .u64 (((j+1):Nat):Int)) (yv := .int .u64 1) (x:=(.tmp 16)) (y:=(.const (.int .u64 1))) (by kernel_rfl) (by kernel_rfl) (by kernel_rfl) (fun _=>by kernel_rfl) (run_sub64 _ (by omega))) (fun _=>trivial) ?_
 refine aJ (.pointer (some ⟨g,off+j*16,none⟩)) _ (some 18) (ki (by kernel_rfl)) (Kq (k := .u64) (s:=16) (e:=79) (g:=g) (off:=off) (n:=n) (c:=ca) (i:=((j:Nat):Int)) (x:=(.tmp 15)) (y:=(.tmp 17)) (off+j*16) (by kernel_rfl) (by kernel_rfl) (by kernel_rfl) Tryz.underlying69 (by kernel_rfl) (by omega) (by omega) (by omega)) (fun _=>trivial) ?_
 refine aJ (.agg #[.int .i64 z0,.int .i64 z1,.int .u64 z2,.int .u64 z3,.int .u64 z4,.int .u64 z5,.int .u64 z6,.int .u64 z7,.int .u64 z8,.int .u64 z9,.int .u64 z10,.int .u64 z11,.int .u64 z12,.int .u64 z13,.int .u64 z14,.slice z15 zl zc]) _ (some 19) (ki (by kernel_rfl)) (aA (x:=(.tmp 18)) (by kernel_rfl) (by kernel_rfl) (bG [.int .i64 z0,.int .i64 z1,.int .u64 z2,.int .u64 z3,.int .u64 z4,.int .u64 z5,.int .u64 z6,.int .u64 z7,.int .u64 z8,.int .u64 z9,.int .u64 z10,.int .u64 z11,.int .u64 z12,.int .u64 z13,.int .u64 z14,.slice z15 zl zc] ((fun _=>QX) (trivial)) Tryz.underlying79 rfl (by kernel_rfl))) (fun _=>trivial) ?_
 refine dm (.cells #[.int .i64 0,.int .i64 0,.int .u64 0,.int .u64 0,.int .u64 0,.int .u64 0,.int .u64 0,.int .u64 0,.int .u64 0,.int .u64 0,.int .u64 0,.int .u64 0,.int .u64 0,.int .u64 0,.int .u64 0,.slice none 0 0] 79) (some 5) (ki (by kernel_rfl)) (by kernel_rfl) ?_
 intro k1 w_k1 hk_k1 hO_k1 hm_k1 hl_k1
 refine⟨fun _=>trivial,?_⟩
 refine jh (off:=0) (ty:=79) (x:=(.tmp 5)) (y:=(.tmp 19)) (cells:=#[.int .i64 z0,.int .i64 z1,.int .u64 z2,.int .u64 z3,.int .u64 z4,.int .u64 z5,.int .u64 z6,.int .u64 z7,.int .u64 z8,.int .u64 z9,.int .u64 z10,.int .u64 z11,.int .u64 z12,.int .u64 z13,.int .u64 z14,.slice z15 zl zc]) #[.int .i64 z0,.int .i64 z1,.int .u64 z2,.int .u64 z3,.int .u64 z4,.int .u64 z5,.int .u64 z6,.int .u64 z7,.int .u64 z8,.int .u64 z9,.int .u64 z10,.int .u64 z11,.int .u64 z12,.int .u64 z13,.int .u64 z14,.slice z15 zl zc] none (ki (by kernel_rfl)) (by kernel_rfl) (by kernel_rfl) (by kernel_rfl) hO_k1 (by kernel_rfl) (by kernel_rfl) (by kernel_rfl) (by first | kernel_rfl | exact H1) ?_
 intro w9 hO9 hm9 hs9
 refine⟨fun _=>trivial,?_⟩
 have hM:=hm_k1.trans hm9 (U:=ai) (fun _ _ x=>x) (fun i hi e=>by omega)
 exact az (aO (K:=Q .normal) (by kernel_rfl) (HQ.out (.slice (some ⟨g,off,none⟩) n ca) (.int .u64 (((j+1):Nat):Int)) (.int .u64 ((j:Nat):Int)) (.pointer (some ⟨g,off+j*16,none⟩)) (.agg #[.int .i64 z0,.int .i64 z1,.int .u64 z2,.int .u64 z3,.int .u64 z4,.int .u64 z5,.int .u64 z6,.int .u64 z7,.int .u64 z8,.int .u64 z9,.int .u64 z10,.int .u64 z11,.int .u64 z12,.int .u64 z13,.int .u64 z14,.slice z15 zl zc]) k1 w9 (Nat.le_of_eq hk_k1.symm) hO9 hM))
end Go.Proofs.YtglkmaalpammcaaGreat
namespace Go.Proofs.YtglkmaalpammcaaGreat
open Go.Gl Go.RowKit
theorem qnx4 {w:World}{sg ab h m:Nat}{X:World→Value→Prop}{Y:World→Value→Value→Prop}{Z:World→Prop} (ha:w.heap[ab]?=some (.cells #[.int .u64 ((h:Nat):Int),.int .u64 ((m:Nat):Int)] 95 (0,0))) (C1:∀ b',ae ai w b'→Calls Tryz.prog 116 #[.int .i64 2,.int .u64 0,.int .u64 0] b' fun e w'=>∃ f,e = .returned f∧X w' f) (C2:∀ b' f,X b' f→Calls Tryz.prog 107 #[.agg #[.int .u64 ((h:Nat):Int),.int .u64 ((m:Nat):Int)]] b' fun e w'=>∃ v,e = .returned v∧Y w' f v) (C3:∀ b' f v,Y b' f v→Calls Tryz.prog 74 #[.pointer (some ⟨sg,0,none⟩),f,v] b' fun e w'=>∃ r,e = .returned r∧Z w') (h1:∀ w' f,X w' f→ae ai w w') (h2:∀ w' f v,Y w' f v→ae ai w w') {x1 x2 x3 x4 x6 x7 x8 x9 x10 x11 x12 x13 x14 x15 x16 x17 x18 x19 x20 x21 x22 x23 x24 x25 x26 x27 x28 x29:Value}{df:List Deferred}{Q:Exit→Act→World→Prop}
  (hK:∀ (y22 y23 y24 y25 y26:Value)  (w':World),Z w'→Q .normal ⟨#[.pointer (some ⟨sg,0,none⟩),x1,x2,x3,x4,.pointer (some ⟨ab,0,none⟩),x6,x7,x8,x9,x10,x11,x12,x13,x14,x15,x16,x17,x18,x19,x20,x21,y22,y23,y24,y25,y26,x27,x28,x29],df⟩ w'):RW Tryz.prog (aG 4 Tryz.f181) true Q ⟨#[.pointer (some ⟨sg,0,none⟩),x1,x2,x3,x4,.pointer (some ⟨ab,0,none⟩),x6,x7,x8,x9,x10,x11,x12,x13,x14,x15,x16,x17,x18,x19,x20,x21,x22,x23,x24,x25,x26,x27,x28,x29],df⟩ w:=by
 have HQ:=lh hK
 clear hK
 have D1:=lh C1
 have D2:=lh C2
 have D3:=lh C3
 have H1:=lh h1
 have H2:=lh h2
 clear C1 C2 C3 h1 h2
 have QA:=lh (fun b' (hm:ae ai w b')=>show ∀ j u,[Value.int .u64 ((h:Nat):Int),.int .u64 ((m:Nat):Int)][j]?=some u→b'.cell? ⟨ab,0+j,none⟩=some u from fun j u hj=>by rw [Nat.zero_add];exact (af (hm.heap ha (fun x=>x)) j).trans (by rw [← hj];exact List.getElem?_toArray))
 have MR:=lh ((ae.refl ai w).drew)
 refine dI (S:=fun b'=>ae ai w b') [(0,true),(2,true),(1,false),(3,false),(4,false)] [4] (by kernel_rfl) (by kernel_rfl) (by kernel_rfl) (by kernel_rfl) MR.out ?_
 refine ah [0] [.pointer (some ⟨sg,0,none⟩)] (rest:=[(2,true),(1,false),(3,false),(4,false)]) (by kernel_rfl) (by kernel_rfl) (fun _=>by kernel_rfl) ?_
 refine ag (.agg #[.int .u64 ((h:Nat):Int),.int .u64 ((m:Nat):Int)]) (some 24) (ki (by kernel_rfl)) (fun bb hb=>aA (x:=(.tmp 5)) (by kernel_rfl) (by kernel_rfl) (bG [.int .u64 ((h:Nat):Int),.int .u64 ((m:Nat):Int)] (QA.out _ hb) Tryz.underlying95 rfl (by kernel_rfl))) ?_
 refine aj (some 23) (ki (by kernel_rfl)) (D1.out _ MR.out) (fun _=>by kernel_rfl) ?_
 rintro r w7 ⟨f7,rfl,h7⟩
 replace MR:=lh (H1.out _ _ h7)
 refine⟨_,rfl,fun _=>MR.out,?_⟩
 refine aj (some 25) (ki (by kernel_rfl)) (D2.out _ _ h7) (fun _=>by kernel_rfl) ?_
 rintro r w8 ⟨v8,rfl,h8⟩
 replace MR:=lh (H2.out _ _ _ h8)
 refine⟨_,rfl,fun _=>MR.out,?_⟩
 refine aj (some 26) (ki (by kernel_rfl)) (D3.out _ _ _ h8) (fun _=>by kernel_rfl) ?_
 rintro r w9 ⟨v9,rfl,h9⟩
 refine⟨_,rfl,(fun h=>by cases h),?_⟩
 exact az (aO (K:=Q .normal) (by kernel_rfl) (HQ.out (.pointer (some ⟨sg,0,none⟩)) (f7) (.agg #[.int .u64 ((h:Nat):Int),.int .u64 ((m:Nat):Int)]) (v8) (v9) w9 h9))
theorem qbU3 {w:World}{sg tb xb id n0 n1 n2 n3 n4 n5:Nat}{X:World→Value→Prop}{Y:World→Value→Value→Prop}{Z:World→Prop} (hk:∀ b',ae ai w b'→b'.cell? ⟨tb,0,none⟩=some (.int .i64 12)) (hf:∀ b',ae ai w b'→b'.cell? ⟨tb,1,none⟩=some (.func (.func 184) #[] #[])) (hx:w.heap[xb]?=some (.cells #[.int .u64 n0,.int .u64 n1,.int .u64 n2,.int .u64 n3,.int .u64 n4,.int .u64 n5] 73 (0,0))) (C1:∀ b',ae ai w b'→Calls Tryz.prog 116 #[.int .i64 12,.int .u64 ((id:Nat):Int),.int .u64 0] b' fun e w'=>∃ f,e = .returned f∧X w' f) (C2:∀ b' f,X b' f→Calls Tryz.prog 184 #[.agg #[.int .u64 n0,.int .u64 n1,.int .u64 n2,.int .u64 n3,.int .u64 n4,.int .u64 n5]] b' fun e w'=>∃ v,e = .returned v∧Y w' f v) (C3:∀ b' f v,Y b' f v→Calls Tryz.prog 74 #[.pointer (some ⟨sg,0,none⟩),f,v] b' fun e w'=>∃ r,e = .returned r∧Z w') (h1:∀ w' f,X w' f→ae ai w w') (h2:∀ w' f v,Y w' f v→ae ai w w') {x1 x2 x3 x6 x8 x9 x10 x11 x12 x13 x14 x15 x16 x17 x18 x19 x20 x21 x22 x23 x24 x25 x26 x27 x28 x29 x30 x31 x32 x33 x34 x35 x36 x37 x38 x39 x40 x41 x42 x43 x44 x45 x46 x47 x48 x49 x50 x51 x52 x53 x54 x55 x56 x57 x58:Value}{df:List Deferred}{Q:Exit→Act→World→Prop}
  (hK:∀ (y21 y22 y23 y24 y25 y26 y27 y28 y29 y30:Value)  (w':World),Z w'→Q .normal ⟨#[.pointer (some ⟨sg,0,none⟩),x1,x2,x3,.pointer (some ⟨tb,0,none⟩),.pointer (some ⟨xb,0,none⟩),x6,.int .u64 ((id:Nat):Int),x8,x9,x10,x11,x12,x13,x14,x15,x16,x17,x18,x19,x20,y21,y22,y23,y24,y25,y26,y27,y28,y29,y30,x31,x32,x33,x34,x35,x36,x37,x38,x39,x40,x41,x42,x43,x44,x45,x46,x47,x48,x49,x50,x51,x52,x53,x54,x55,x56,x57,x58],df⟩ w'):RW Tryz.prog (aG 3 Tryz.f108) true Q ⟨#[.pointer (some ⟨sg,0,none⟩),x1,x2,x3,.pointer (some ⟨tb,0,none⟩),.pointer (some ⟨xb,0,none⟩),x6,.int .u64 ((id:Nat):Int),x8,x9,x10,x11,x12,x13,x14,x15,x16,x17,x18,x19,x20,x21,x22,x23,x24,x25,x26,x27,x28,x29,x30,x31,x32,x33,x34,x35,x36,x37,x38,x39,x40,x41,x42,x43,x44,x45,x46,x47,x48,x49,x50,x51,x52,x53,x54,x55,x56,x57,x58],df⟩ w:=by
 have HQ:=lh hK
 clear hK
 have D1:=lh C1
 have D2:=lh C2
 have D3:=lh C3
 have H1:=lh h1
 have H2:=lh h2
 clear C1 C2 C3 h1 h2
 have QK:=lh hk
 have QF:=lh hf
 have QX:=lh (fun b' (hm:ae ai w b')=>show ∀ j u,[Value.int .u64 n0,.int .u64 n1,.int .u64 n2,.int .u64 n3,.int .u64 n4,.int .u64 n5][j]?=some u→b'.cell? ⟨xb,0+j,none⟩=some u from fun j u hj=>by rw [Nat.zero_add];exact (af (hm.heap hx (fun x=>x)) j).trans (by rw [← hj];exact List.getElem?_toArray))
 have MR:=lh ((ae.refl ai w).drew)
 refine dI (S:=fun b'=>ae ai w b') [(0,true),(1,true),(2,true),(3,true),(5,true),(6,true),(7,true),(4,false),(8,false),(9,false)] [9] (by kernel_rfl) (by kernel_rfl) (by kernel_rfl) (by kernel_rfl) MR.out ?_
 refine ah [0,1] [.pointer (some ⟨sg,0,none⟩),.pointer (some ⟨tb,0,none⟩)] (rest:=[(2,true),(3,true),(5,true),(6,true),(7,true),(4,false),(8,false),(9,false)]) (by kernel_rfl) (by kernel_rfl) (fun _=>by kernel_rfl) ?_
 refine ag (.int .i64 12) (some 23) (ki (by kernel_rfl)) (fun bb hb=>aA (x:=(.tmp 22)) (by kernel_rfl) (by kernel_rfl) (aK (QK.out _ hb) Tryz.underlying3 rfl)) ?_
 refine ah [3,5] [.int .u64 ((id:Nat):Int),.pointer (some ⟨tb,1,none⟩)] (rest:=[(6,true),(7,true),(4,false),(8,false),(9,false)]) (by kernel_rfl) (by kernel_rfl) (fun _=>by kernel_rfl) ?_
 refine ag (.func (.func 184) #[] #[]) (some 27) (ki (by kernel_rfl)) (fun bb hb=>aA (x:=(.tmp 26)) (by kernel_rfl) (by kernel_rfl) (aK (QF.out _ hb) Tryz.underlying175 rfl)) ?_
 refine ag (.agg #[.int .u64 n0,.int .u64 n1,.int .u64 n2,.int .u64 n3,.int .u64 n4,.int .u64 n5]) (some 28) (ki (by kernel_rfl)) (fun bb hb=>aA (x:=(.tmp 5)) (by kernel_rfl) (by kernel_rfl) (bG [.int .u64 n0,.int .u64 n1,.int .u64 n2,.int .u64 n3,.int .u64 n4,.int .u64 n5] (QX.out _ hb) Tryz.underlying73 rfl (by kernel_rfl))) ?_
 refine aj (some 25) (ki (by kernel_rfl)) (D1.out _ MR.out) (fun _=>by kernel_rfl) ?_
 rintro r w7 ⟨f7,rfl,h7⟩
 replace MR:=lh (H1.out _ _ h7)
 refine⟨_,rfl,fun _=>MR.out,?_⟩
 refine aj (some 29) (ki (by kernel_rfl)) (D2.out _ _ h7) (fun _=>by kernel_rfl) ?_
 rintro r w8 ⟨v8,rfl,h8⟩
 replace MR:=lh (H2.out _ _ _ h8)
 refine⟨_,rfl,fun _=>MR.out,?_⟩
 refine aj (some 30) (ki (by kernel_rfl)) (D3.out _ _ _ h8) (fun _=>by kernel_rfl) ?_
 rintro r w9 ⟨v9,rfl,h9⟩
 refine⟨_,rfl,(fun h=>by cases h),?_⟩
 exact az (aO (K:=Q .normal) (by kernel_rfl) (HQ.out (.pointer (some ⟨sg,0,none⟩)) (.pointer (some ⟨tb,0,none⟩)) (.int .i64 12) (.int .u64 ((id:Nat):Int)) (f7) (.pointer (some ⟨tb,1,none⟩)) (.func (.func 184) #[] #[]) (.agg #[.int .u64 n0,.int .u64 n1,.int .u64 n2,.int .u64 n3,.int .u64 n4,.int .u64 n5]) (v8) (v9) w9 h9))
theorem qbU4 {w:World}{sg tb id d:Nat}{X:World→Value→Prop}{Y:World→Value→Value→Prop}{Z:World→Prop} (hk:∀ b',ae ai w b'→b'.cell? ⟨tb,0,none⟩=some (.int .i64 12)) (C1:∀ b',ae ai w b'→Calls Tryz.prog 116 #[.int .i64 14,.int .u64 ((d:Nat):Int),.int .u64 ((id:Nat):Int)] b' fun e w'=>∃ f,e = .returned f∧X w' f) (C2:∀ b' f,X b' f→Calls Tryz.prog 182 #[.int .u64 12] b' fun e w'=>∃ v,e = .returned v∧Y w' f v) (C3:∀ b' f v,Y b' f v→Calls Tryz.prog 74 #[.pointer (some ⟨sg,0,none⟩),f,v] b' fun e w'=>∃ r,e = .returned r∧Z w') (h1:∀ w' f,X w' f→ae ai w w') (h2:∀ w' f v,Y w' f v→ae ai w w') {x1 x2 x3 x5 x6 x8 x9 x11 x12 x13 x14 x15 x16 x17 x18 x19 x20 x21 x22 x23 x24 x25 x26 x27 x28 x29 x30 x31 x32 x33 x34 x35 x36 x37 x38 x39 x40 x41 x42 x43 x44 x45 x46 x47 x48 x49 x50 x51 x52 x53 x54 x55 x56 x57 x58:Value}{df:List Deferred}{Q:Exit→Act→World→Prop}
  (hK:∀ (y31 y32 y33 y34 y35 y36 y37 y38 y39:Value)  (w':World),Z w'→Q .normal ⟨#[.pointer (some ⟨sg,0,none⟩),x1,x2,x3,.pointer (some ⟨tb,0,none⟩),x5,x6,.int .u64 ((id:Nat):Int),x8,x9,.int .u64 ((d:Nat):Int),x11,x12,x13,x14,x15,x16,x17,x18,x19,x20,x21,x22,x23,x24,x25,x26,x27,x28,x29,x30,y31,y32,y33,y34,y35,y36,y37,y38,y39,x40,x41,x42,x43,x44,x45,x46,x47,x48,x49,x50,x51,x52,x53,x54,x55,x56,x57,x58],df⟩ w'):RW Tryz.prog (aG 4 Tryz.f108) true Q ⟨#[.pointer (some ⟨sg,0,none⟩),x1,x2,x3,.pointer (some ⟨tb,0,none⟩),x5,x6,.int .u64 ((id:Nat):Int),x8,x9,.int .u64 ((d:Nat):Int),x11,x12,x13,x14,x15,x16,x17,x18,x19,x20,x21,x22,x23,x24,x25,x26,x27,x28,x29,x30,x31,x32,x33,x34,x35,x36,x37,x38,x39,x40,x41,x42,x43,x44,x45,x46,x47,x48,x49,x50,x51,x52,x53,x54,x55,x56,x57,x58],df⟩ w:=by
 have HQ:=lh hK
 clear hK
 have D1:=lh C1
 have D2:=lh C2
 have D3:=lh C3
 have H1:=lh h1
 have H2:=lh h2
 clear C1 C2 C3 h1 h2
 have QK:=lh hk
 have MR:=lh ((ae.refl ai w).drew)
 refine dI (S:=fun b'=>ae ai w b') [(0,true),(1,true),(2,true),(4,true),(5,true),(6,true),(3,false),(7,false),(8,false)] [8] (by kernel_rfl) (by kernel_rfl) (by kernel_rfl) (by kernel_rfl) MR.out ?_
 refine ah [0,1,2,4] [.pointer (some ⟨sg,0,none⟩),.int .u64 ((d:Nat):Int),.int .u64 ((id:Nat):Int),.pointer (some ⟨tb,0,none⟩)] (rest:=[(5,true),(6,true),(3,false),(7,false),(8,false)]) (by kernel_rfl) (by kernel_rfl) (fun _=>by kernel_rfl) ?_
 refine ag (.int .i64 12) (some 36) (ki (by kernel_rfl)) (fun bb hb=>aA (x:=(.tmp 35)) (by kernel_rfl) (by kernel_rfl) (aK (QK.out _ hb) Tryz.underlying3 rfl)) ?_
 refine ah [6] [.int .u64 12] (rest:=[(3,false),(7,false),(8,false)]) (by kernel_rfl) (by kernel_rfl) (fun _=>by kernel_rfl) ?_
 refine aj (some 34) (ki (by kernel_rfl)) (D1.out _ MR.out) (fun _=>by kernel_rfl) ?_
 rintro r w7 ⟨f7,rfl,h7⟩
 replace MR:=lh (H1.out _ _ h7)
 refine⟨_,rfl,fun _=>MR.out,?_⟩
 refine aj (some 38) (ki (by kernel_rfl)) (D2.out _ _ h7) (fun _=>by kernel_rfl) ?_
 rintro r w8 ⟨v8,rfl,h8⟩
 replace MR:=lh (H2.out _ _ _ h8)
 refine⟨_,rfl,fun _=>MR.out,?_⟩
 refine aj (some 39) (ki (by kernel_rfl)) (D3.out _ _ _ h8) (fun _=>by kernel_rfl) ?_
 rintro r w9 ⟨v9,rfl,h9⟩
 refine⟨_,rfl,(fun h=>by cases h),?_⟩
 exact az (aO (K:=Q .normal) (by kernel_rfl) (HQ.out (.pointer (some ⟨sg,0,none⟩)) (.int .u64 ((d:Nat):Int)) (.int .u64 ((id:Nat):Int)) (f7) (.pointer (some ⟨tb,0,none⟩)) (.int .i64 12) (.int .u64 12) (v8) (v9) w9 h9))
theorem qbU5 {w:World}{sg tb id d:Nat}{X:World→Value→Prop}{Y:World→Value→Value→Prop}{Z:World→Prop} (hk:∀ b',ae ai w b'→b'.cell? ⟨tb,0,none⟩=some (.int .i64 12)) (C1:∀ b',ae ai w b'→Calls Tryz.prog 116 #[.int .i64 15,.int .u64 ((d:Nat):Int),.int .u64 ((id:Nat):Int)] b' fun e w'=>∃ f,e = .returned f∧X w' f) (C2:∀ b' f,X b' f→Calls Tryz.prog 182 #[.int .u64 12] b' fun e w'=>∃ v,e = .returned v∧Y w' f v) (C3:∀ b' f v,Y b' f v→Calls Tryz.prog 74 #[.pointer (some ⟨sg,0,none⟩),f,v] b' fun e w'=>∃ r,e = .returned r∧Z w') (h1:∀ w' f,X w' f→ae ai w w') (h2:∀ w' f v,Y w' f v→ae ai w w') {x1 x2 x3 x5 x6 x8 x10 x11 x12 x13 x14 x15 x16 x17 x18 x19 x20 x21 x22 x23 x24 x25 x26 x27 x28 x29 x30 x31 x32 x33 x34 x35 x36 x37 x38 x39 x40 x41 x42 x43 x44 x45 x46 x47 x48 x49 x50 x51 x52 x53 x54 x55 x56 x57 x58:Value}{df:List Deferred}{Q:Exit→Act→World→Prop}
  (hK:∀ (y40 y41 y42 y43 y44 y45 y46 y47 y48:Value)  (w':World),Z w'→Q .normal ⟨#[.pointer (some ⟨sg,0,none⟩),x1,x2,x3,.pointer (some ⟨tb,0,none⟩),x5,x6,.int .u64 ((id:Nat):Int),x8,.int .u64 ((d:Nat):Int),x10,x11,x12,x13,x14,x15,x16,x17,x18,x19,x20,x21,x22,x23,x24,x25,x26,x27,x28,x29,x30,x31,x32,x33,x34,x35,x36,x37,x38,x39,y40,y41,y42,y43,y44,y45,y46,y47,y48,x49,x50,x51,x52,x53,x54,x55,x56,x57,x58],df⟩ w'):RW Tryz.prog (aG 5 Tryz.f108) true Q ⟨#[.pointer (some ⟨sg,0,none⟩),x1,x2,x3,.pointer (some ⟨tb,0,none⟩),x5,x6,.int .u64 ((id:Nat):Int),x8,.int .u64 ((d:Nat):Int),x10,x11,x12,x13,x14,x15,x16,x17,x18,x19,x20,x21,x22,x23,x24,x25,x26,x27,x28,x29,x30,x31,x32,x33,x34,x35,x36,x37,x38,x39,x40,x41,x42,x43,x44,x45,x46,x47,x48,x49,x50,x51,x52,x53,x54,x55,x56,x57,x58],df⟩ w:=by
 have HQ:=lh hK
 clear hK
 have D1:=lh C1
 have D2:=lh C2
 have D3:=lh C3
 have H1:=lh h1
 have H2:=lh h2
 clear C1 C2 C3 h1 h2
 have QK:=lh hk
 have MR:=lh ((ae.refl ai w).drew)
 refine dI (S:=fun b'=>ae ai w b') [(0,true),(1,true),(2,true),(4,true),(5,true),(6,true),(3,false),(7,false),(8,false)] [8] (by kernel_rfl) (by kernel_rfl) (by kernel_rfl) (by kernel_rfl) MR.out ?_
 refine ah [0,1,2,4] [.pointer (some ⟨sg,0,none⟩),.int .u64 ((d:Nat):Int),.int .u64 ((id:Nat):Int),.pointer (some ⟨tb,0,none⟩)] (rest:=[(5,true),(6,true),(3,false),(7,false),(8,false)]) (by kernel_rfl) (by kernel_rfl) (fun _=>by kernel_rfl) ?_
 refine ag (.int .i64 12) (some 45) (ki (by kernel_rfl)) (fun bb hb=>aA (x:=(.tmp 44)) (by kernel_rfl) (by kernel_rfl) (aK (QK.out _ hb) Tryz.underlying3 rfl)) ?_
 refine ah [6] [.int .u64 12] (rest:=[(3,false),(7,false),(8,false)]) (by kernel_rfl) (by kernel_rfl) (fun _=>by kernel_rfl) ?_
 refine aj (some 43) (ki (by kernel_rfl)) (D1.out _ MR.out) (fun _=>by kernel_rfl) ?_
 rintro r w7 ⟨f7,rfl,h7⟩
 replace MR:=lh (H1.out _ _ h7)
 refine⟨_,rfl,fun _=>MR.out,?_⟩
 refine aj (some 47) (ki (by kernel_rfl)) (D2.out _ _ h7) (fun _=>by kernel_rfl) ?_
 rintro r w8 ⟨v8,rfl,h8⟩
 replace MR:=lh (H2.out _ _ _ h8)
 refine⟨_,rfl,fun _=>MR.out,?_⟩
 refine aj (some 48) (ki (by kernel_rfl)) (D3.out _ _ _ h8) (fun _=>by kernel_rfl) ?_
 rintro r w9 ⟨v9,rfl,h9⟩
 refine⟨_,rfl,(fun h=>by cases h),?_⟩
 exact az (aO (K:=Q .normal) (by kernel_rfl) (HQ.out (.pointer (some ⟨sg,0,none⟩)) (.int .u64 ((d:Nat):Int)) (.int .u64 ((id:Nat):Int)) (f7) (.pointer (some ⟨tb,0,none⟩)) (.int .i64 12) (.int .u64 12) (v8) (v9) w9 h9))
theorem qbM3 {w:World}{sg tb xb id n0 n1 n2 n3 n4 n5:Nat}{u6:Value}{X:World→Value→Prop}{Y:World→Value→Value→Prop}{Z:World→Prop} (hk:∀ b',ae ai w b'→b'.cell? ⟨tb,0,none⟩=some (.int .i64 13)) (hf:∀ b',ae ai w b'→b'.cell? ⟨tb,1,none⟩=some (.func (.func 187) #[] #[])) (hx:w.heap[xb]?=some (.cells #[.int .u64 n0,.int .u64 n1,.int .u64 n2,.int .u64 n3,.int .u64 n4,.int .u64 n5,u6] 77 (0,0))) (C1:∀ b',ae ai w b'→Calls Tryz.prog 116 #[.int .i64 13,.int .u64 ((id:Nat):Int),.int .u64 0] b' fun e w'=>∃ f,e = .returned f∧X w' f) (C2:∀ b' f,X b' f→Calls Tryz.prog 187 #[.agg #[.int .u64 n0,.int .u64 n1,.int .u64 n2,.int .u64 n3,.int .u64 n4,.int .u64 n5,u6]] b' fun e w'=>∃ v,e = .returned v∧Y w' f v) (C3:∀ b' f v,Y b' f v→Calls Tryz.prog 74 #[.pointer (some ⟨sg,0,none⟩),f,v] b' fun e w'=>∃ r,e = .returned r∧Z w') (h1:∀ w' f,X w' f→ae ai w w') (h2:∀ w' f v,Y w' f v→ae ai w w') {x1 x2 x3 x6 x8 x9 x10 x11 x12 x13 x14 x15 x16 x17 x18 x19 x20 x21 x22 x23 x24 x25 x26 x27 x28 x29 x30 x31 x32 x33 x34 x35 x36 x37 x38 x39 x40 x41 x42 x43 x44 x45 x46 x47 x48 x49 x50 x51 x52 x53 x54 x55 x56 x57 x58:Value}{df:List Deferred}{Q:Exit→Act→World→Prop}
  (hK:∀ (y21 y22 y23 y24 y25 y26 y27 y28 y29 y30:Value)  (w':World),Z w'→Q .normal ⟨#[.pointer (some ⟨sg,0,none⟩),x1,x2,x3,.pointer (some ⟨tb,0,none⟩),.pointer (some ⟨xb,0,none⟩),x6,.int .u64 ((id:Nat):Int),x8,x9,x10,x11,x12,x13,x14,x15,x16,x17,x18,x19,x20,y21,y22,y23,y24,y25,y26,y27,y28,y29,y30,x31,x32,x33,x34,x35,x36,x37,x38,x39,x40,x41,x42,x43,x44,x45,x46,x47,x48,x49,x50,x51,x52,x53,x54,x55,x56,x57,x58],df⟩ w'):RW Tryz.prog (aG 3 Tryz.f110) true Q ⟨#[.pointer (some ⟨sg,0,none⟩),x1,x2,x3,.pointer (some ⟨tb,0,none⟩),.pointer (some ⟨xb,0,none⟩),x6,.int .u64 ((id:Nat):Int),x8,x9,x10,x11,x12,x13,x14,x15,x16,x17,x18,x19,x20,x21,x22,x23,x24,x25,x26,x27,x28,x29,x30,x31,x32,x33,x34,x35,x36,x37,x38,x39,x40,x41,x42,x43,x44,x45,x46,x47,x48,x49,x50,x51,x52,x53,x54,x55,x56,x57,x58],df⟩ w:=by
 have HQ:=lh hK
 clear hK
 have D1:=lh C1
 have D2:=lh C2
 have D3:=lh C3
 have H1:=lh h1
 have H2:=lh h2
 clear C1 C2 C3 h1 h2
 have QK:=lh hk
 have QF:=lh hf
 have QX:=lh (fun b' (hm:ae ai w b')=>show ∀ j u,[Value.int .u64 n0,.int .u64 n1,.int .u64 n2,.int .u64 n3,.int .u64 n4,.int .u64 n5,u6][j]?=some u→b'.cell? ⟨xb,0+j,none⟩=some u from fun j u hj=>by rw [Nat.zero_add];exact (af (hm.heap hx (fun x=>x)) j).trans (by rw [← hj];exact List.getElem?_toArray))
 have MR:=lh ((ae.refl ai w).drew)
 refine dI (S:=fun b'=>ae ai w b') [(0,true),(1,true),(2,true),(3,true),(5,true),(6,true),(7,true),(4,false),(8,false),(9,false)] [9] (by kernel_rfl) (by kernel_rfl) (by kernel_rfl) (by kernel_rfl) MR.out ?_
 refine ah [0,1] [.pointer (some ⟨sg,0,none⟩),.pointer (some ⟨tb,0,none⟩)] (rest:=[(2,true),(3,true),(5,true),(6,true),(7,true),(4,false),(8,false),(9,false)]) (by kernel_rfl) (by kernel_rfl) (fun _=>by kernel_rfl) ?_
 refine ag (.int .i64 13) (some 23) (ki (by kernel_rfl)) (fun bb hb=>aA (x:=(.tmp 22)) (by kernel_rfl) (by kernel_rfl) (aK (QK.out _ hb) Tryz.underlying3 rfl)) ?_
 refine ah [3,5] [.int .u64 ((id:Nat):Int),.pointer (some ⟨tb,1,none⟩)] (rest:=[(6,true),(7,true),(4,false),(8,false),(9,false)]) (by kernel_rfl) (by kernel_rfl) (fun _=>by kernel_rfl) ?_
 refine ag (.func (.func 187) #[] #[]) (some 27) (ki (by kernel_rfl)) (fun bb hb=>aA (x:=(.tmp 26)) (by kernel_rfl) (by kernel_rfl) (aK (QF.out _ hb) Tryz.underlying182 rfl)) ?_
 refine ag (.agg #[.int .u64 n0,.int .u64 n1,.int .u64 n2,.int .u64 n3,.int .u64 n4,.int .u64 n5,u6]) (some 28) (ki (by kernel_rfl)) (fun bb hb=>aA (x:=(.tmp 5)) (by kernel_rfl) (by kernel_rfl) (bG [.int .u64 n0,.int .u64 n1,.int .u64 n2,.int .u64 n3,.int .u64 n4,.int .u64 n5,u6] (QX.out _ hb) Tryz.underlying77 rfl (by kernel_rfl))) ?_
 refine aj (some 25) (ki (by kernel_rfl)) (D1.out _ MR.out) (fun _=>by kernel_rfl) ?_
 rintro r w7 ⟨f7,rfl,h7⟩
 replace MR:=lh (H1.out _ _ h7)
 refine⟨_,rfl,fun _=>MR.out,?_⟩
 refine aj (some 29) (ki (by kernel_rfl)) (D2.out _ _ h7) (fun _=>by kernel_rfl) ?_
 rintro r w8 ⟨v8,rfl,h8⟩
 replace MR:=lh (H2.out _ _ _ h8)
 refine⟨_,rfl,fun _=>MR.out,?_⟩
 refine aj (some 30) (ki (by kernel_rfl)) (D3.out _ _ _ h8) (fun _=>by kernel_rfl) ?_
 rintro r w9 ⟨v9,rfl,h9⟩
 refine⟨_,rfl,(fun h=>by cases h),?_⟩
 exact az (aO (K:=Q .normal) (by kernel_rfl) (HQ.out (.pointer (some ⟨sg,0,none⟩)) (.pointer (some ⟨tb,0,none⟩)) (.int .i64 13) (.int .u64 ((id:Nat):Int)) (f7) (.pointer (some ⟨tb,1,none⟩)) (.func (.func 187) #[] #[]) (.agg #[.int .u64 n0,.int .u64 n1,.int .u64 n2,.int .u64 n3,.int .u64 n4,.int .u64 n5,u6]) (v8) (v9) w9 h9))
theorem qbM4 {w:World}{sg tb id d:Nat}{X:World→Value→Prop}{Y:World→Value→Value→Prop}{Z:World→Prop} (hk:∀ b',ae ai w b'→b'.cell? ⟨tb,0,none⟩=some (.int .i64 13)) (C1:∀ b',ae ai w b'→Calls Tryz.prog 116 #[.int .i64 14,.int .u64 ((d:Nat):Int),.int .u64 ((id:Nat):Int)] b' fun e w'=>∃ f,e = .returned f∧X w' f) (C2:∀ b' f,X b' f→Calls Tryz.prog 182 #[.int .u64 13] b' fun e w'=>∃ v,e = .returned v∧Y w' f v) (C3:∀ b' f v,Y b' f v→Calls Tryz.prog 74 #[.pointer (some ⟨sg,0,none⟩),f,v] b' fun e w'=>∃ r,e = .returned r∧Z w') (h1:∀ w' f,X w' f→ae ai w w') (h2:∀ w' f v,Y w' f v→ae ai w w') {x1 x2 x3 x5 x6 x8 x9 x11 x12 x13 x14 x15 x16 x17 x18 x19 x20 x21 x22 x23 x24 x25 x26 x27 x28 x29 x30 x31 x32 x33 x34 x35 x36 x37 x38 x39 x40 x41 x42 x43 x44 x45 x46 x47 x48 x49 x50 x51 x52 x53 x54 x55 x56 x57 x58:Value}{df:List Deferred}{Q:Exit→Act→World→Prop}
  (hK:∀ (y31 y32 y33 y34 y35 y36 y37 y38 y39:Value)  (w':World),Z w'→Q .normal ⟨#[.pointer (some ⟨sg,0,none⟩),x1,x2,x3,.pointer (some ⟨tb,0,none⟩),x5,x6,.int .u64 ((id:Nat):Int),x8,x9,.int .u64 ((d:Nat):Int),x11,x12,x13,x14,x15,x16,x17,x18,x19,x20,x21,x22,x23,x24,x25,x26,x27,x28,x29,x30,y31,y32,y33,y34,y35,y36,y37,y38,y39,x40,x41,x42,x43,x44,x45,x46,x47,x48,x49,x50,x51,x52,x53,x54,x55,x56,x57,x58],df⟩ w'):RW Tryz.prog (aG 4 Tryz.f110) true Q ⟨#[.pointer (some ⟨sg,0,none⟩),x1,x2,x3,.pointer (some ⟨tb,0,none⟩),x5,x6,.int .u64 ((id:Nat):Int),x8,x9,.int .u64 ((d:Nat):Int),x11,x12,x13,x14,x15,x16,x17,x18,x19,x20,x21,x22,x23,x24,x25,x26,x27,x28,x29,x30,x31,x32,x33,x34,x35,x36,x37,x38,x39,x40,x41,x42,x43,x44,x45,x46,x47,x48,x49,x50,x51,x52,x53,x54,x55,x56,x57,x58],df⟩ w:=by
 have HQ:=lh hK
 clear hK
 have D1:=lh C1
 have D2:=lh C2
 have D3:=lh C3
 have H1:=lh h1
 have H2:=lh h2
 clear C1 C2 C3 h1 h2
 have QK:=lh hk
 have MR:=lh ((ae.refl ai w).drew)
 refine dI (S:=fun b'=>ae ai w b') [(0,true),(1,true),(2,true),(4,true),(5,true),(6,true),(3,false),(7,false),(8,false)] [8] (by kernel_rfl) (by kernel_rfl) (by kernel_rfl) (by kernel_rfl) MR.out ?_
 refine ah [0,1,2,4] [.pointer (some ⟨sg,0,none⟩),.int .u64 ((d:Nat):Int),.int .u64 ((id:Nat):Int),.pointer (some ⟨tb,0,none⟩)] (rest:=[(5,true),(6,true),(3,false),(7,false),(8,false)]) (by kernel_rfl) (by kernel_rfl) (fun _=>by kernel_rfl) ?_
 refine ag (.int .i64 13) (some 36) (ki (by kernel_rfl)) (fun bb hb=>aA (x:=(.tmp 35)) (by kernel_rfl) (by kernel_rfl) (aK (QK.out _ hb) Tryz.underlying3 rfl)) ?_
 refine ah [6] [.int .u64 13] (rest:=[(3,false),(7,false),(8,false)]) (by kernel_rfl) (by kernel_rfl) (fun _=>by kernel_rfl) ?_
 refine aj (some 34) (ki (by kernel_rfl)) (D1.out _ MR.out) (fun _=>by kernel_rfl) ?_
 rintro r w7 ⟨f7,rfl,h7⟩
 replace MR:=lh (H1.out _ _ h7)
 refine⟨_,rfl,fun _=>MR.out,?_⟩
 refine aj (some 38) (ki (by kernel_rfl)) (D2.out _ _ h7) (fun _=>by kernel_rfl) ?_
 rintro r w8 ⟨v8,rfl,h8⟩
 replace MR:=lh (H2.out _ _ _ h8)
 refine⟨_,rfl,fun _=>MR.out,?_⟩
 refine aj (some 39) (ki (by kernel_rfl)) (D3.out _ _ _ h8) (fun _=>by kernel_rfl) ?_
 rintro r w9 ⟨v9,rfl,h9⟩
 refine⟨_,rfl,(fun h=>by cases h),?_⟩
 exact az (aO (K:=Q .normal) (by kernel_rfl) (HQ.out (.pointer (some ⟨sg,0,none⟩)) (.int .u64 ((d:Nat):Int)) (.int .u64 ((id:Nat):Int)) (f7) (.pointer (some ⟨tb,0,none⟩)) (.int .i64 13) (.int .u64 13) (v8) (v9) w9 h9))
theorem qbM5 {w:World}{sg tb id d:Nat}{X:World→Value→Prop}{Y:World→Value→Value→Prop}{Z:World→Prop} (hk:∀ b',ae ai w b'→b'.cell? ⟨tb,0,none⟩=some (.int .i64 13)) (C1:∀ b',ae ai w b'→Calls Tryz.prog 116 #[.int .i64 15,.int .u64 ((d:Nat):Int),.int .u64 ((id:Nat):Int)] b' fun e w'=>∃ f,e = .returned f∧X w' f) (C2:∀ b' f,X b' f→Calls Tryz.prog 182 #[.int .u64 13] b' fun e w'=>∃ v,e = .returned v∧Y w' f v) (C3:∀ b' f v,Y b' f v→Calls Tryz.prog 74 #[.pointer (some ⟨sg,0,none⟩),f,v] b' fun e w'=>∃ r,e = .returned r∧Z w') (h1:∀ w' f,X w' f→ae ai w w') (h2:∀ w' f v,Y w' f v→ae ai w w') {x1 x2 x3 x5 x6 x8 x10 x11 x12 x13 x14 x15 x16 x17 x18 x19 x20 x21 x22 x23 x24 x25 x26 x27 x28 x29 x30 x31 x32 x33 x34 x35 x36 x37 x38 x39 x40 x41 x42 x43 x44 x45 x46 x47 x48 x49 x50 x51 x52 x53 x54 x55 x56 x57 x58:Value}{df:List Deferred}{Q:Exit→Act→World→Prop}
  (hK:∀ (y40 y41 y42 y43 y44 y45 y46 y47 y48:Value)  (w':World),Z w'→Q .normal ⟨#[.pointer (some ⟨sg,0,none⟩),x1,x2,x3,.pointer (some ⟨tb,0,none⟩),x5,x6,.int .u64 ((id:Nat):Int),x8,.int .u64 ((d:Nat):Int),x10,x11,x12,x13,x14,x15,x16,x17,x18,x19,x20,x21,x22,x23,x24,x25,x26,x27,x28,x29,x30,x31,x32,x33,x34,x35,x36,x37,x38,x39,y40,y41,y42,y43,y44,y45,y46,y47,y48,x49,x50,x51,x52,x53,x54,x55,x56,x57,x58],df⟩ w'):RW Tryz.prog (aG 5 Tryz.f110) true Q ⟨#[.pointer (some ⟨sg,0,none⟩),x1,x2,x3,.pointer (some ⟨tb,0,none⟩),x5,x6,.int .u64 ((id:Nat):Int),x8,.int .u64 ((d:Nat):Int),x10,x11,x12,x13,x14,x15,x16,x17,x18,x19,x20,x21,x22,x23,x24,x25,x26,x27,x28,x29,x30,x31,x32,x33,x34,x35,x36,x37,x38,x39,x40,x41,x42,x43,x44,x45,x46,x47,x48,x49,x50,x51,x52,x53,x54,x55,x56,x57,x58],df⟩ w:=by
 have HQ:=lh hK
 clear hK
 have D1:=lh C1
 have D2:=lh C2
 have D3:=lh C3
 have H1:=lh h1
 have H2:=lh h2
 clear C1 C2 C3 h1 h2
 have QK:=lh hk
 have MR:=lh ((ae.refl ai w).drew)
 refine dI (S:=fun b'=>ae ai w b') [(0,true),(1,true),(2,true),(4,true),(5,true),(6,true),(3,false),(7,false),(8,false)] [8] (by kernel_rfl) (by kernel_rfl) (by kernel_rfl) (by kernel_rfl) MR.out ?_
 refine ah [0,1,2,4] [.pointer (some ⟨sg,0,none⟩),.int .u64 ((d:Nat):Int),.int .u64 ((id:Nat):Int),.pointer (some ⟨tb,0,none⟩)] (rest:=[(5,true),(6,true),(3,false),(7,false),(8,false)]) (by kernel_rfl) (by kernel_rfl) (fun _=>by kernel_rfl) ?_
 refine ag (.int .i64 13) (some 45) (ki (by kernel_rfl)) (fun bb hb=>aA (x:=(.tmp 44)) (by kernel_rfl) (by kernel_rfl) (aK (QK.out _ hb) Tryz.underlying3 rfl)) ?_
 refine ah [6] [.int .u64 13] (rest:=[(3,false),(7,false),(8,false)]) (by kernel_rfl) (by kernel_rfl) (fun _=>by kernel_rfl) ?_
 refine aj (some 43) (ki (by kernel_rfl)) (D1.out _ MR.out) (fun _=>by kernel_rfl) ?_
 rintro r w7 ⟨f7,rfl,h7⟩
 replace MR:=lh (H1.out _ _ h7)
 refine⟨_,rfl,fun _=>MR.out,?_⟩
 refine aj (some 47) (ki (by kernel_rfl)) (D2.out _ _ h7) (fun _=>by kernel_rfl) ?_
 rintro r w8 ⟨v8,rfl,h8⟩
 replace MR:=lh (H2.out _ _ _ h8)
 refine⟨_,rfl,fun _=>MR.out,?_⟩
 refine aj (some 48) (ki (by kernel_rfl)) (D3.out _ _ _ h8) (fun _=>by kernel_rfl) ?_
 rintro r w9 ⟨v9,rfl,h9⟩
 refine⟨_,rfl,(fun h=>by cases h),?_⟩
 exact az (aO (K:=Q .normal) (by kernel_rfl) (HQ.out (.pointer (some ⟨sg,0,none⟩)) (.int .u64 ((d:Nat):Int)) (.int .u64 ((id:Nat):Int)) (f7) (.pointer (some ⟨tb,0,none⟩)) (.int .i64 13) (.int .u64 13) (v8) (v9) w9 h9))
theorem qunb1 {w:World}{sv rv:Value}{sg xb n0 n1 n2 n3 n4 n5:Nat}{Z:World→Prop} (hx:w.heap[xb]?=some (.cells #[.int .u64 n0,.int .u64 n1,.int .u64 n2,.int .u64 n3,.int .u64 n4,.int .u64 n5] 73 (0,0))) (C1:∀ b',ae ai w b'→Calls Tryz.prog 109 #[] b' fun e w'=>e = .returned sv∧ae ai w w') (C2:∀ b',ae ai w b'→Calls Tryz.prog 108 #[.pointer (some ⟨sg,0,none⟩),sv,.agg #[.int .u64 n0,.int .u64 n1,.int .u64 n2,.int .u64 n3,.int .u64 n4,.int .u64 n5]] b' fun e w'=>e = .returned rv∧Z w') {x1 x2 x4 x5 x6 x7 x8:Value}{df:List Deferred}{Q:Exit→Act→World→Prop}
  (hK:∀ (y5 y6 y7 y8:Value)  (w':World),Z w'→Q .normal ⟨#[.pointer (some ⟨sg,0,none⟩),x1,x2,.pointer (some ⟨xb,0,none⟩),rv,y5,y6,y7,y8],df⟩ w'):RW Tryz.prog (aG 1 Tryz.f35) true Q ⟨#[.pointer (some ⟨sg,0,none⟩),x1,x2,.pointer (some ⟨xb,0,none⟩),x4,x5,x6,x7,x8],df⟩ w:=by
 have HQ:=lh hK
 clear hK
 have D1:=lh C1
 have D2:=lh C2
 clear C1 C2
 have QX:=lh (fun b' (hm:ae ai w b')=>show ∀ j u,[Value.int .u64 n0,.int .u64 n1,.int .u64 n2,.int .u64 n3,.int .u64 n4,.int .u64 n5][j]?=some u→b'.cell? ⟨xb,0+j,none⟩=some u from fun j u hj=>by rw [Nat.zero_add];exact (af (hm.heap hx (fun x=>x)) j).trans (by rw [← hj];exact List.getElem?_toArray))
 have MR:=lh ((ae.refl ai w).drew)
 refine dI (S:=fun b'=>ae ai w b') [(0,true),(2,true),(1,false),(3,false),(4,false)] [3,4] (by kernel_rfl) (by kernel_rfl) (by kernel_rfl) (by kernel_rfl) MR.out ?_
 refine ah [0] [.pointer (some ⟨sg,0,none⟩)] (rest:=[(2,true),(1,false),(3,false),(4,false)]) (by kernel_rfl) (by kernel_rfl) (fun _=>by kernel_rfl) ?_
 refine ag (.agg #[.int .u64 n0,.int .u64 n1,.int .u64 n2,.int .u64 n3,.int .u64 n4,.int .u64 n5]) (some 7) (ki (by kernel_rfl)) (fun bb hb=>aA (x:=(.tmp 3)) (by kernel_rfl) (by kernel_rfl) (bG [.int .u64 n0,.int .u64 n1,.int .u64 n2,.int .u64 n3,.int .u64 n4,.int .u64 n5] (QX.out _ hb) Tryz.underlying73 rfl (by kernel_rfl))) ?_
 refine aj (some 6) (ki (by kernel_rfl)) (D1.out _ MR.out) (fun _=>by kernel_rfl) ?_
 rintro r w7 ⟨rfl,h7⟩
 replace MR:=lh h7
 refine⟨_,rfl,fun _=>MR.out,?_⟩
 refine aj (some 8) (ki (by kernel_rfl)) (D2.out _ MR.out) (fun _=>by kernel_rfl) ?_
 rintro r w8 ⟨rfl,h8⟩
 refine⟨_,rfl,(fun h=>by cases h),?_⟩
 refine aB [4] [rv] (rest:=[]) (by kernel_rfl) (by kernel_rfl) (by kernel_rfl) (.inl (by kernel_rfl)) ?_
 exact az (aO (K:=Q .normal) (by kernel_rfl) (HQ.out (.pointer (some ⟨sg,0,none⟩)) (sv) (.agg #[.int .u64 n0,.int .u64 n1,.int .u64 n2,.int .u64 n3,.int .u64 n4,.int .u64 n5]) (rv) w8 h8))
theorem qdrU {w:World}{sv rv:Value}{sg eb id:Nat}{Z:World→Prop} (hk:∀ b',ae ai w b'→b'.cell? ⟨eb,0,none⟩=some (.int .u64 ((id:Nat):Int))) (C1:∀ b',ae ai w b'→Calls Tryz.prog 109 #[] b' fun e w'=>e = .returned sv∧ae ai w w') (C2:∀ b',ae ai w b'→Calls Tryz.prog 132 #[.pointer (some ⟨sg,0,none⟩),sv,.int .u64 ((id:Nat):Int)] b' fun e w'=>e = .returned rv∧Z w') {x1 x2 x4 x5 x6 x7 x8 x9 x10 x11 x12 x13 x14 x15 x16 x17 x18 x19 x20:Value}{df:List Deferred}{Q:Exit→Act→World→Prop}
  (hK:∀ (y9 y10 y11 y12 y13:Value)  (w':World),Z w'→Q .normal ⟨#[.pointer (some ⟨sg,0,none⟩),x1,x2,.pointer (some ⟨eb,0,none⟩),rv,x5,x6,x7,x8,y9,y10,y11,y12,y13,x14,x15,x16,x17,x18,x19,x20],df⟩ w'):RW Tryz.prog (aG 3 Tryz.f52) true Q ⟨#[.pointer (some ⟨sg,0,none⟩),x1,x2,.pointer (some ⟨eb,0,none⟩),x4,x5,x6,x7,x8,x9,x10,x11,x12,x13,x14,x15,x16,x17,x18,x19,x20],df⟩ w:=by
 have HQ:=lh hK
 clear hK
 have D1:=lh C1
 have D2:=lh C2
 clear C1 C2
 have QK:=lh hk
 have MR:=lh ((ae.refl ai w).drew)
 refine dI (S:=fun b'=>ae ai w b') [(0,true),(2,true),(3,true),(1,false),(4,false),(5,false)] [4,5] (by kernel_rfl) (by kernel_rfl) (by kernel_rfl) (by kernel_rfl) MR.out ?_
 refine ah [0,2] [.pointer (some ⟨sg,0,none⟩),.pointer (some ⟨eb,0,none⟩)] (rest:=[(3,true),(1,false),(4,false),(5,false)]) (by kernel_rfl) (by kernel_rfl) (fun _=>by kernel_rfl) ?_
 refine ag (.int .u64 ((id:Nat):Int)) (some 12) (ki (by kernel_rfl)) (fun bb hb=>aA (x:=(.tmp 11)) (by kernel_rfl) (by kernel_rfl) (aK (QK.out _ hb) Tryz.underlying22 rfl)) ?_
 refine aj (some 10) (ki (by kernel_rfl)) (D1.out _ MR.out) (fun _=>by kernel_rfl) ?_
 rintro r w7 ⟨rfl,h7⟩
 replace MR:=lh h7
 refine⟨_,rfl,fun _=>MR.out,?_⟩
 refine aj (some 13) (ki (by kernel_rfl)) (D2.out _ MR.out) (fun _=>by kernel_rfl) ?_
 rintro r w8 ⟨rfl,h8⟩
 refine⟨_,rfl,(fun h=>by cases h),?_⟩
 refine aB [5] [rv] (rest:=[]) (by kernel_rfl) (by kernel_rfl) (by kernel_rfl) (.inl (by kernel_rfl)) ?_
 exact az (aO (K:=Q .normal) (by kernel_rfl) (HQ.out (.pointer (some ⟨sg,0,none⟩)) (sv) (.pointer (some ⟨eb,0,none⟩)) (.int .u64 ((id:Nat):Int)) (rv) w8 h8))
theorem qtU4 {w:World}{sg tb xb id n0 n1 n2 n3 n4 n5:Nat}{X:World→Value→Prop}{Y:World→Value→Value→Prop}{Z:World→Prop} (hk:∀ b',ae ai w b'→b'.cell? ⟨tb,0,none⟩=some (.int .i64 12)) (hf:∀ b',ae ai w b'→b'.cell? ⟨tb,1,none⟩=some (.func (.func 184) #[] #[])) (hx:w.heap[xb]?=some (.cells #[.int .u64 n0,.int .u64 n1,.int .u64 n2,.int .u64 n3,.int .u64 n4,.int .u64 n5] 73 (0,0))) (C1:∀ b',ae ai w b'→Calls Tryz.prog 116 #[.int .i64 12,.int .u64 ((id:Nat):Int),.int .u64 0] b' fun e w'=>∃ f,e = .returned f∧X w' f) (C2:∀ b' f,X b' f→Calls Tryz.prog 184 #[.agg #[.int .u64 n0,.int .u64 n1,.int .u64 n2,.int .u64 n3,.int .u64 n4,.int .u64 n5]] b' fun e w'=>∃ v,e = .returned v∧Y w' f v) (C3:∀ b' f v,Y b' f v→Calls Tryz.prog 74 #[.pointer (some ⟨sg,0,none⟩),f,v] b' fun e w'=>∃ r,e = .returned r∧Z w') (h1:∀ w' f,X w' f→ae ai w w') (h2:∀ w' f v,Y w' f v→ae ai w w') {x1 x3 x4 x6 x7 x8 x10 x11 x12 x13 x14 x15 x16 x17 x18 x19 x20 x21 x22 x23 x24 x25 x26 x27 x28 x29 x30 x31:Value}{df:List Deferred}{Q:Exit→Act→World→Prop}
  (hK:∀ (y21 y22 y23 y24 y25 y26 y27 y28 y29 y30:Value)  (w':World),Z w'→Q .normal ⟨#[.pointer (some ⟨sg,0,none⟩),x1,.int .u64 ((id:Nat):Int),x3,x4,.pointer (some ⟨tb,0,none⟩),x6,x7,x8,.pointer (some ⟨xb,0,none⟩),x10,x11,x12,x13,x14,x15,x16,x17,x18,x19,x20,y21,y22,y23,y24,y25,y26,y27,y28,y29,y30,x31],df⟩ w'):RW Tryz.prog (aG 4 Tryz.f126) true Q ⟨#[.pointer (some ⟨sg,0,none⟩),x1,.int .u64 ((id:Nat):Int),x3,x4,.pointer (some ⟨tb,0,none⟩),x6,x7,x8,.pointer (some ⟨xb,0,none⟩),x10,x11,x12,x13,x14,x15,x16,x17,x18,x19,x20,x21,x22,x23,x24,x25,x26,x27,x28,x29,x30,x31],df⟩ w:=by
 have HQ:=lh hK
 clear hK
 have D1:=lh C1
 have D2:=lh C2
 have D3:=lh C3
 have H1:=lh h1
 have H2:=lh h2
 clear C1 C2 C3 h1 h2
 have QK:=lh hk
 have QF:=lh hf
 have QX:=lh (fun b' (hm:ae ai w b')=>show ∀ j u,[Value.int .u64 n0,.int .u64 n1,.int .u64 n2,.int .u64 n3,.int .u64 n4,.int .u64 n5][j]?=some u→b'.cell? ⟨xb,0+j,none⟩=some u from fun j u hj=>by rw [Nat.zero_add];exact (af (hm.heap hx (fun x=>x)) j).trans (by rw [← hj];exact List.getElem?_toArray))
 have MR:=lh ((ae.refl ai w).drew)
 refine dI (S:=fun b'=>ae ai w b') [(0,true),(1,true),(2,true),(3,true),(5,true),(6,true),(7,true),(4,false),(8,false),(9,false)] [9] (by kernel_rfl) (by kernel_rfl) (by kernel_rfl) (by kernel_rfl) MR.out ?_
 refine ah [0,1] [.pointer (some ⟨sg,0,none⟩),.pointer (some ⟨tb,0,none⟩)] (rest:=[(2,true),(3,true),(5,true),(6,true),(7,true),(4,false),(8,false),(9,false)]) (by kernel_rfl) (by kernel_rfl) (fun _=>by kernel_rfl) ?_
 refine ag (.int .i64 12) (some 23) (ki (by kernel_rfl)) (fun bb hb=>aA (x:=(.tmp 22)) (by kernel_rfl) (by kernel_rfl) (aK (QK.out _ hb) Tryz.underlying3 rfl)) ?_
 refine ah [3,5] [.int .u64 ((id:Nat):Int),.pointer (some ⟨tb,1,none⟩)] (rest:=[(6,true),(7,true),(4,false),(8,false),(9,false)]) (by kernel_rfl) (by kernel_rfl) (fun _=>by kernel_rfl) ?_
 refine ag (.func (.func 184) #[] #[]) (some 27) (ki (by kernel_rfl)) (fun bb hb=>aA (x:=(.tmp 26)) (by kernel_rfl) (by kernel_rfl) (aK (QF.out _ hb) Tryz.underlying175 rfl)) ?_
 refine ag (.agg #[.int .u64 n0,.int .u64 n1,.int .u64 n2,.int .u64 n3,.int .u64 n4,.int .u64 n5]) (some 28) (ki (by kernel_rfl)) (fun bb hb=>aA (x:=(.tmp 9)) (by kernel_rfl) (by kernel_rfl) (bG [.int .u64 n0,.int .u64 n1,.int .u64 n2,.int .u64 n3,.int .u64 n4,.int .u64 n5] (QX.out _ hb) Tryz.underlying73 rfl (by kernel_rfl))) ?_
 refine aj (some 25) (ki (by kernel_rfl)) (D1.out _ MR.out) (fun _=>by kernel_rfl) ?_
 rintro r w7 ⟨f7,rfl,h7⟩
 replace MR:=lh (H1.out _ _ h7)
 refine⟨_,rfl,fun _=>MR.out,?_⟩
 refine aj (some 29) (ki (by kernel_rfl)) (D2.out _ _ h7) (fun _=>by kernel_rfl) ?_
 rintro r w8 ⟨v8,rfl,h8⟩
 replace MR:=lh (H2.out _ _ _ h8)
 refine⟨_,rfl,fun _=>MR.out,?_⟩
 refine aj (some 30) (ki (by kernel_rfl)) (D3.out _ _ _ h8) (fun _=>by kernel_rfl) ?_
 rintro r w9 ⟨v9,rfl,h9⟩
 refine⟨_,rfl,(fun h=>by cases h),?_⟩
 exact az (aO (K:=Q .normal) (by kernel_rfl) (HQ.out (.pointer (some ⟨sg,0,none⟩)) (.pointer (some ⟨tb,0,none⟩)) (.int .i64 12) (.int .u64 ((id:Nat):Int)) (f7) (.pointer (some ⟨tb,1,none⟩)) (.func (.func 184) #[] #[]) (.agg #[.int .u64 n0,.int .u64 n1,.int .u64 n2,.int .u64 n3,.int .u64 n4,.int .u64 n5]) (v8) (v9) w9 h9))
theorem qmov1 {w:World}{sv rv:Value}{sg xb n0 n1 n2 n3 n4 n5:Nat}{u6:Value}{Z:World→Prop} (hx:w.heap[xb]?=some (.cells #[.int .u64 n0,.int .u64 n1,.int .u64 n2,.int .u64 n3,.int .u64 n4,.int .u64 n5,u6] 77 (0,0))) (C1:∀ b',ae ai w b'→Calls Tryz.prog 111 #[] b' fun e w'=>e = .returned sv∧ae ai w w') (C2:∀ b',ae ai w b'→Calls Tryz.prog 110 #[.pointer (some ⟨sg,0,none⟩),sv,.agg #[.int .u64 n0,.int .u64 n1,.int .u64 n2,.int .u64 n3,.int .u64 n4,.int .u64 n5,u6]] b' fun e w'=>e = .returned rv∧Z w') {x1 x2 x4 x5 x6 x7 x8:Value}{df:List Deferred}{Q:Exit→Act→World→Prop}
  (hK:∀ (y5 y6 y7 y8:Value)  (w':World),Z w'→Q .normal ⟨#[.pointer (some ⟨sg,0,none⟩),x1,x2,.pointer (some ⟨xb,0,none⟩),rv,y5,y6,y7,y8],df⟩ w'):RW Tryz.prog (aG 1 Tryz.f36) true Q ⟨#[.pointer (some ⟨sg,0,none⟩),x1,x2,.pointer (some ⟨xb,0,none⟩),x4,x5,x6,x7,x8],df⟩ w:=by
 have HQ:=lh hK
 clear hK
 have D1:=lh C1
 have D2:=lh C2
 clear C1 C2
 have QX:=lh (fun b' (hm:ae ai w b')=>show ∀ j u,[Value.int .u64 n0,.int .u64 n1,.int .u64 n2,.int .u64 n3,.int .u64 n4,.int .u64 n5,u6][j]?=some u→b'.cell? ⟨xb,0+j,none⟩=some u from fun j u hj=>by rw [Nat.zero_add];exact (af (hm.heap hx (fun x=>x)) j).trans (by rw [← hj];exact List.getElem?_toArray))
 have MR:=lh ((ae.refl ai w).drew)
 refine dI (S:=fun b'=>ae ai w b') [(0,true),(2,true),(1,false),(3,false),(4,false)] [3,4] (by kernel_rfl) (by kernel_rfl) (by kernel_rfl) (by kernel_rfl) MR.out ?_
 refine ah [0] [.pointer (some ⟨sg,0,none⟩)] (rest:=[(2,true),(1,false),(3,false),(4,false)]) (by kernel_rfl) (by kernel_rfl) (fun _=>by kernel_rfl) ?_
 refine ag (.agg #[.int .u64 n0,.int .u64 n1,.int .u64 n2,.int .u64 n3,.int .u64 n4,.int .u64 n5,u6]) (some 7) (ki (by kernel_rfl)) (fun bb hb=>aA (x:=(.tmp 3)) (by kernel_rfl) (by kernel_rfl) (bG [.int .u64 n0,.int .u64 n1,.int .u64 n2,.int .u64 n3,.int .u64 n4,.int .u64 n5,u6] (QX.out _ hb) Tryz.underlying77 rfl (by kernel_rfl))) ?_
 refine aj (some 6) (ki (by kernel_rfl)) (D1.out _ MR.out) (fun _=>by kernel_rfl) ?_
 rintro r w7 ⟨rfl,h7⟩
 replace MR:=lh h7
 refine⟨_,rfl,fun _=>MR.out,?_⟩
 refine aj (some 8) (ki (by kernel_rfl)) (D2.out _ MR.out) (fun _=>by kernel_rfl) ?_
 rintro r w8 ⟨rfl,h8⟩
 refine⟨_,rfl,(fun h=>by cases h),?_⟩
 refine aB [4] [rv] (rest:=[]) (by kernel_rfl) (by kernel_rfl) (by kernel_rfl) (.inl (by kernel_rfl)) ?_
 exact az (aO (K:=Q .normal) (by kernel_rfl) (HQ.out (.pointer (some ⟨sg,0,none⟩)) (sv) (.agg #[.int .u64 n0,.int .u64 n1,.int .u64 n2,.int .u64 n3,.int .u64 n4,.int .u64 n5,u6]) (rv) w8 h8))
theorem qdrM {w:World}{sv rv:Value}{sg eb id:Nat}{Z:World→Prop} (hk:∀ b',ae ai w b'→b'.cell? ⟨eb,0,none⟩=some (.int .u64 ((id:Nat):Int))) (C1:∀ b',ae ai w b'→Calls Tryz.prog 111 #[] b' fun e w'=>e = .returned sv∧ae ai w w') (C2:∀ b',ae ai w b'→Calls Tryz.prog 133 #[.pointer (some ⟨sg,0,none⟩),sv,.int .u64 ((id:Nat):Int)] b' fun e w'=>e = .returned rv∧Z w') {x1 x2 x4 x5 x6 x7 x8 x9 x10 x11 x12 x13 x14 x15 x16 x17 x18 x19 x20:Value}{df:List Deferred}{Q:Exit→Act→World→Prop}
  (hK:∀ (y16 y17 y18 y19 y20:Value)  (w':World),Z w'→Q .normal ⟨#[.pointer (some ⟨sg,0,none⟩),x1,x2,.pointer (some ⟨eb,0,none⟩),rv,x5,x6,x7,x8,x9,x10,x11,x12,x13,x14,x15,y16,y17,y18,y19,y20],df⟩ w'):RW Tryz.prog (aG 5 Tryz.f52) true Q ⟨#[.pointer (some ⟨sg,0,none⟩),x1,x2,.pointer (some ⟨eb,0,none⟩),x4,x5,x6,x7,x8,x9,x10,x11,x12,x13,x14,x15,x16,x17,x18,x19,x20],df⟩ w:=by
 have HQ:=lh hK
 clear hK
 have D1:=lh C1
 have D2:=lh C2
 clear C1 C2
 have QK:=lh hk
 have MR:=lh ((ae.refl ai w).drew)
 refine dI (S:=fun b'=>ae ai w b') [(0,true),(2,true),(3,true),(1,false),(4,false),(5,false)] [4,5] (by kernel_rfl) (by kernel_rfl) (by kernel_rfl) (by kernel_rfl) MR.out ?_
 refine ah [0,2] [.pointer (some ⟨sg,0,none⟩),.pointer (some ⟨eb,0,none⟩)] (rest:=[(3,true),(1,false),(4,false),(5,false)]) (by kernel_rfl) (by kernel_rfl) (fun _=>by kernel_rfl) ?_
 refine ag (.int .u64 ((id:Nat):Int)) (some 19) (ki (by kernel_rfl)) (fun bb hb=>aA (x:=(.tmp 18)) (by kernel_rfl) (by kernel_rfl) (aK (QK.out _ hb) Tryz.underlying22 rfl)) ?_
 refine aj (some 17) (ki (by kernel_rfl)) (D1.out _ MR.out) (fun _=>by kernel_rfl) ?_
 rintro r w7 ⟨rfl,h7⟩
 replace MR:=lh h7
 refine⟨_,rfl,fun _=>MR.out,?_⟩
 refine aj (some 20) (ki (by kernel_rfl)) (D2.out _ MR.out) (fun _=>by kernel_rfl) ?_
 rintro r w8 ⟨rfl,h8⟩
 refine⟨_,rfl,(fun h=>by cases h),?_⟩
 refine aB [5] [rv] (rest:=[]) (by kernel_rfl) (by kernel_rfl) (by kernel_rfl) (.inl (by kernel_rfl)) ?_
 exact az (aO (K:=Q .normal) (by kernel_rfl) (HQ.out (.pointer (some ⟨sg,0,none⟩)) (sv) (.pointer (some ⟨eb,0,none⟩)) (.int .u64 ((id:Nat):Int)) (rv) w8 h8))
theorem qtM4 {w:World}{sg tb xb id n0 n1 n2 n3 n4 n5:Nat}{u6:Value}{X:World→Value→Prop}{Y:World→Value→Value→Prop}{Z:World→Prop} (hk:∀ b',ae ai w b'→b'.cell? ⟨tb,0,none⟩=some (.int .i64 13)) (hf:∀ b',ae ai w b'→b'.cell? ⟨tb,1,none⟩=some (.func (.func 187) #[] #[])) (hx:w.heap[xb]?=some (.cells #[.int .u64 n0,.int .u64 n1,.int .u64 n2,.int .u64 n3,.int .u64 n4,.int .u64 n5,u6] 77 (0,0))) (C1:∀ b',ae ai w b'→Calls Tryz.prog 116 #[.int .i64 13,.int .u64 ((id:Nat):Int),.int .u64 0] b' fun e w'=>∃ f,e = .returned f∧X w' f) (C2:∀ b' f,X b' f→Calls Tryz.prog 187 #[.agg #[.int .u64 n0,.int .u64 n1,.int .u64 n2,.int .u64 n3,.int .u64 n4,.int .u64 n5,u6]] b' fun e w'=>∃ v,e = .returned v∧Y w' f v) (C3:∀ b' f v,Y b' f v→Calls Tryz.prog 74 #[.pointer (some ⟨sg,0,none⟩),f,v] b' fun e w'=>∃ r,e = .returned r∧Z w') (h1:∀ w' f,X w' f→ae ai w w') (h2:∀ w' f v,Y w' f v→ae ai w w') {x1 x3 x4 x6 x7 x8 x10 x11 x12 x13 x14 x15 x16 x17 x18 x19 x20 x21 x22 x23 x24 x25 x26 x27 x28 x29 x30 x31:Value}{df:List Deferred}{Q:Exit→Act→World→Prop}
  (hK:∀ (y21 y22 y23 y24 y25 y26 y27 y28 y29 y30:Value)  (w':World),Z w'→Q .normal ⟨#[.pointer (some ⟨sg,0,none⟩),x1,.int .u64 ((id:Nat):Int),x3,x4,.pointer (some ⟨tb,0,none⟩),x6,x7,x8,.pointer (some ⟨xb,0,none⟩),x10,x11,x12,x13,x14,x15,x16,x17,x18,x19,x20,y21,y22,y23,y24,y25,y26,y27,y28,y29,y30,x31],df⟩ w'):RW Tryz.prog (aG 4 Tryz.f129) true Q ⟨#[.pointer (some ⟨sg,0,none⟩),x1,.int .u64 ((id:Nat):Int),x3,x4,.pointer (some ⟨tb,0,none⟩),x6,x7,x8,.pointer (some ⟨xb,0,none⟩),x10,x11,x12,x13,x14,x15,x16,x17,x18,x19,x20,x21,x22,x23,x24,x25,x26,x27,x28,x29,x30,x31],df⟩ w:=by
 have HQ:=lh hK
 clear hK
 have D1:=lh C1
 have D2:=lh C2
 have D3:=lh C3
 have H1:=lh h1
 have H2:=lh h2
 clear C1 C2 C3 h1 h2
 have QK:=lh hk
 have QF:=lh hf
 have QX:=lh (fun b' (hm:ae ai w b')=>show ∀ j u,[Value.int .u64 n0,.int .u64 n1,.int .u64 n2,.int .u64 n3,.int .u64 n4,.int .u64 n5,u6][j]?=some u→b'.cell? ⟨xb,0+j,none⟩=some u from fun j u hj=>by rw [Nat.zero_add];exact (af (hm.heap hx (fun x=>x)) j).trans (by rw [← hj];exact List.getElem?_toArray))
 have MR:=lh ((ae.refl ai w).drew)
 refine dI (S:=fun b'=>ae ai w b') [(0,true),(1,true),(2,true),(3,true),(5,true),(6,true),(7,true),(4,false),(8,false),(9,false)] [9] (by kernel_rfl) (by kernel_rfl) (by kernel_rfl) (by kernel_rfl) MR.out ?_
 refine ah [0,1] [.pointer (some ⟨sg,0,none⟩),.pointer (some ⟨tb,0,none⟩)] (rest:=[(2,true),(3,true),(5,true),(6,true),(7,true),(4,false),(8,false),(9,false)]) (by kernel_rfl) (by kernel_rfl) (fun _=>by kernel_rfl) ?_
 refine ag (.int .i64 13) (some 23) (ki (by kernel_rfl)) (fun bb hb=>aA (x:=(.tmp 22)) (by kernel_rfl) (by kernel_rfl) (aK (QK.out _ hb) Tryz.underlying3 rfl)) ?_
 refine ah [3,5] [.int .u64 ((id:Nat):Int),.pointer (some ⟨tb,1,none⟩)] (rest:=[(6,true),(7,true),(4,false),(8,false),(9,false)]) (by kernel_rfl) (by kernel_rfl) (fun _=>by kernel_rfl) ?_
 refine ag (.func (.func 187) #[] #[]) (some 27) (ki (by kernel_rfl)) (fun bb hb=>aA (x:=(.tmp 26)) (by kernel_rfl) (by kernel_rfl) (aK (QF.out _ hb) Tryz.underlying182 rfl)) ?_
 refine ag (.agg #[.int .u64 n0,.int .u64 n1,.int .u64 n2,.int .u64 n3,.int .u64 n4,.int .u64 n5,u6]) (some 28) (ki (by kernel_rfl)) (fun bb hb=>aA (x:=(.tmp 9)) (by kernel_rfl) (by kernel_rfl) (bG [.int .u64 n0,.int .u64 n1,.int .u64 n2,.int .u64 n3,.int .u64 n4,.int .u64 n5,u6] (QX.out _ hb) Tryz.underlying77 rfl (by kernel_rfl))) ?_
 refine aj (some 25) (ki (by kernel_rfl)) (D1.out _ MR.out) (fun _=>by kernel_rfl) ?_
 rintro r w7 ⟨f7,rfl,h7⟩
 replace MR:=lh (H1.out _ _ h7)
 refine⟨_,rfl,fun _=>MR.out,?_⟩
 refine aj (some 29) (ki (by kernel_rfl)) (D2.out _ _ h7) (fun _=>by kernel_rfl) ?_
 rintro r w8 ⟨v8,rfl,h8⟩
 replace MR:=lh (H2.out _ _ _ h8)
 refine⟨_,rfl,fun _=>MR.out,?_⟩
 refine aj (some 30) (ki (by kernel_rfl)) (D3.out _ _ _ h8) (fun _=>by kernel_rfl) ?_
 rintro r w9 ⟨v9,rfl,h9⟩
 refine⟨_,rfl,(fun h=>by cases h),?_⟩
 exact az (aO (K:=Q .normal) (by kernel_rfl) (HQ.out (.pointer (some ⟨sg,0,none⟩)) (.pointer (some ⟨tb,0,none⟩)) (.int .i64 13) (.int .u64 ((id:Nat):Int)) (f7) (.pointer (some ⟨tb,1,none⟩)) (.func (.func 187) #[] #[]) (.agg #[.int .u64 n0,.int .u64 n1,.int .u64 n2,.int .u64 n3,.int .u64 n4,.int .u64 n5,u6]) (v8) (v9) w9 h9))
theorem qofU {w:World}{xb n0 n1 n2 n3 n4 n5:Nat} (hc0:∀ b',ae ai w b'→b'.cell? ⟨xb,0,none⟩=some (.int .u64 n0)) (hc1:∀ b',ae ai w b'→b'.cell? ⟨xb,1,none⟩=some (.int .u64 n1)) (hc3:∀ b',ae ai w b'→b'.cell? ⟨xb,3,none⟩=some (.int .u64 n3)) {x0 x2 x3 x4 x5 x6 x7 x8 x9 x10:Value}{df:List Deferred}{Q:Exit→Act→World→Prop}
  (hK:∀ (y5 y6 y7 y8 y9 y10:Value)  (w':World),ae ai w w'→Q .normal ⟨#[x0,.pointer (some ⟨xb,0,none⟩),.int .u64 n0,.int .u64 n1,.int .u64 n3,y5,y6,y7,y8,y9,y10],df⟩ w'):RW Tryz.prog (aG 1 Tryz.f186) true Q ⟨#[x0,.pointer (some ⟨xb,0,none⟩),x2,x3,x4,x5,x6,x7,x8,x9,x10],df⟩ w:=by
 have HQ:=lh hK
 clear hK
 have QC0:=lh hc0
 have QC1:=lh hc1
 have QC3:=lh hc3
 have MR:=lh ((ae.refl ai w).drew)
 refine dQ (S:=fun b'=>ae ai w b') [(0,true),(1,true),(2,true),(3,true),(4,true),(5,true),(6,true),(7,true),(8,true)] [] [(0,2,32),(1,32,64),(0,2,128),(4,128,256),(0,2,512),(16,512,1024),(3,64,4),(79,256,8),(255,1024,16)] (by kernel_rfl) (by kernel_rfl) (by kernel_rfl) (by kernel_rfl) (by kernel_rfl) MR.out ?_
 refine ah [0] [.pointer (some ⟨xb,0,none⟩)] (rest:=[(1,true),(2,true),(3,true),(4,true),(5,true),(6,true),(7,true),(8,true)]) (by kernel_rfl) (by kernel_rfl) (fun _=>by kernel_rfl) ?_
 refine ag (.int .u64 n0) (some 6) (ki (by kernel_rfl)) (fun bb hb=>aA (x:=(.tmp 5)) (by kernel_rfl) (by kernel_rfl) (aK (QC0.out _ hb) Tryz.underlying22 rfl)) ?_
 refine ah [2] [.pointer (some ⟨xb,1,none⟩)] (rest:=[(3,true),(4,true),(5,true),(6,true),(7,true),(8,true)]) (by kernel_rfl) (by kernel_rfl) (fun _=>by kernel_rfl) ?_
 refine ag (.int .u64 n1) (some 8) (ki (by kernel_rfl)) (fun bb hb=>aA (x:=(.tmp 7)) (by kernel_rfl) (by kernel_rfl) (aK (QC1.out _ hb) Tryz.underlying22 rfl)) ?_
 refine ah [4] [.pointer (some ⟨xb,3,none⟩)] (rest:=[(5,true),(6,true),(7,true),(8,true)]) (by kernel_rfl) (by kernel_rfl) (fun _=>by kernel_rfl) ?_
 refine ag (.int .u64 n3) (some 10) (ki (by kernel_rfl)) (fun bb hb=>aA (x:=(.tmp 9)) (by kernel_rfl) (by kernel_rfl) (aK (QC3.out _ hb) Tryz.underlying22 rfl)) ?_
 refine ah [6,7,8] [.int .u64 n0,.int .u64 n1,.int .u64 n3] (rest:=[]) (by kernel_rfl) (by kernel_rfl) (fun _=>by kernel_rfl) ?_
 exact az (aO (K:=Q .normal) (by kernel_rfl) (HQ.out (.pointer (some ⟨xb,0,none⟩)) (.int .u64 n0) (.pointer (some ⟨xb,1,none⟩)) (.int .u64 n1) (.pointer (some ⟨xb,3,none⟩)) (.int .u64 n3) _ MR.out))
theorem qofM {w:World}{xb n0 n1 n2 n3 n4 n5:Nat} (hc0:∀ b',ae ai w b'→b'.cell? ⟨xb,0,none⟩=some (.int .u64 n0)) (hc1:∀ b',ae ai w b'→b'.cell? ⟨xb,1,none⟩=some (.int .u64 n1)) (hc4:∀ b',ae ai w b'→b'.cell? ⟨xb,4,none⟩=some (.int .u64 n4)) {x0 x2 x3 x4 x5 x6 x7 x8 x9 x10:Value}{df:List Deferred}{Q:Exit→Act→World→Prop}
  (hK:∀ (y5 y6 y7 y8 y9 y10:Value)  (w':World),ae ai w w'→Q .normal ⟨#[x0,.pointer (some ⟨xb,0,none⟩),.int .u64 n0,.int .u64 n1,.int .u64 n4,y5,y6,y7,y8,y9,y10],df⟩ w'):RW Tryz.prog (aG 1 Tryz.f189) true Q ⟨#[x0,.pointer (some ⟨xb,0,none⟩),x2,x3,x4,x5,x6,x7,x8,x9,x10],df⟩ w:=by
 have HQ:=lh hK
 clear hK
 have QC0:=lh hc0
 have QC1:=lh hc1
 have QC4:=lh hc4
 have MR:=lh ((ae.refl ai w).drew)
 refine dQ (S:=fun b'=>ae ai w b') [(0,true),(1,true),(2,true),(3,true),(4,true),(5,true),(6,true),(7,true),(8,true)] [] [(0,2,32),(1,32,64),(0,2,128),(4,128,256),(0,2,512),(16,512,1024),(3,64,4),(79,256,8),(255,1024,16)] (by kernel_rfl) (by kernel_rfl) (by kernel_rfl) (by kernel_rfl) (by kernel_rfl) MR.out ?_
 refine ah [0] [.pointer (some ⟨xb,0,none⟩)] (rest:=[(1,true),(2,true),(3,true),(4,true),(5,true),(6,true),(7,true),(8,true)]) (by kernel_rfl) (by kernel_rfl) (fun _=>by kernel_rfl) ?_
 refine ag (.int .u64 n0) (some 6) (ki (by kernel_rfl)) (fun bb hb=>aA (x:=(.tmp 5)) (by kernel_rfl) (by kernel_rfl) (aK (QC0.out _ hb) Tryz.underlying22 rfl)) ?_
 refine ah [2] [.pointer (some ⟨xb,1,none⟩)] (rest:=[(3,true),(4,true),(5,true),(6,true),(7,true),(8,true)]) (by kernel_rfl) (by kernel_rfl) (fun _=>by kernel_rfl) ?_
 refine ag (.int .u64 n1) (some 8) (ki (by kernel_rfl)) (fun bb hb=>aA (x:=(.tmp 7)) (by kernel_rfl) (by kernel_rfl) (aK (QC1.out _ hb) Tryz.underlying22 rfl)) ?_
 refine ah [4] [.pointer (some ⟨xb,4,none⟩)] (rest:=[(5,true),(6,true),(7,true),(8,true)]) (by kernel_rfl) (by kernel_rfl) (fun _=>by kernel_rfl) ?_
 refine ag (.int .u64 n4) (some 10) (ki (by kernel_rfl)) (fun bb hb=>aA (x:=(.tmp 9)) (by kernel_rfl) (by kernel_rfl) (aK (QC4.out _ hb) Tryz.underlying22 rfl)) ?_
 refine ah [6,7,8] [.int .u64 n0,.int .u64 n1,.int .u64 n4] (rest:=[]) (by kernel_rfl) (by kernel_rfl) (fun _=>by kernel_rfl) ?_
 exact az (aO (K:=Q .normal) (by kernel_rfl) (HQ.out (.pointer (some ⟨xb,0,none⟩)) (.int .u64 n0) (.pointer (some ⟨xb,1,none⟩)) (.int .u64 n1) (.pointer (some ⟨xb,4,none⟩)) (.int .u64 n4) _ MR.out))
end Go.Proofs.YtglkmaalpammcaaGreat
namespace Go.Gl
def GI (w:World) (S0 D0:Nat→Prop) (w':World) (P:FP) (N:Nat→Prop):Prop:=∃ S D,P w' S D∧ae S0 w w'∧(∀ k,S k→S0 k∨w.heap.size≤k)∧(∀ k,D k→D0 k∨w.heap.size≤k)∧(∀ k,N k→w.heap.size≤k∧k<w'.heap.size∧¬ S k∧¬ D k)
def Out (w:World) (S0 N:Nat→Prop) (k:Nat):Prop:=N k∨(k<w.heap.size∧¬ S0 k)
section
variable {prog:Program}{f:FuncId}{args:Array Value}{w w1 w2:World}{S0 D0 N N':Nat→Prop}{P P':FP}{r:Value}
theorem GI.start (p:P w S0 D0):GI w S0 D0 w P (fun _=>False):=⟨S0,D0,p,ae.refl _ _,fun _ => .inl,fun _ => .inl,fun _ x=>x.elim⟩
theorem GI.mods (h:GI w S0 D0 w1 P N):ae S0 w w1:=by obtain⟨_,_,_,m,_⟩:=h;exact m
theorem GI.keep0 (h:GI w S0 D0 w1 P N) (f:dC P) (m:ae ai w1 w2):GI w S0 D0 w2 P N:=by
 obtain⟨S,D,p,m0,s,d,n⟩:=h
 exact⟨S,D,f.keep p m (fun _ _ x=>x) (fun _ _ x=>x),m0.then0 m,s,d,fun k hk=>⟨(n k hk).1,Nat.lt_of_lt_of_le (n k hk).2.1 m.size,(n k hk).2.2⟩⟩
theorem GI.grow (h:GI w S0 D0 w1 P N) (f:dC P) (m:ae ai w1 w2) (hn:∀ k,N' k→N k∨(w1.heap.size≤k∧k<w2.heap.size)):GI w S0 D0 w2 P N':=by
 obtain⟨S,D,p,m0,s,d,n⟩:=h
 have l:=f.lt p
 refine⟨S,D,f.keep p m (fun _ _ x=>x) (fun _ _ x=>x),m0.then0 m,s,d,fun k hk=>?_⟩
 rcases hn k hk with x | ⟨x,y⟩
 ·exact⟨(n k x).1,Nat.lt_of_lt_of_le (n k x).2.1 m.size,(n k x).2.2⟩
 ·exact⟨by have:=m0.size;omega,y,fun z=>by have:=l.1 k z;omega,fun z=>by have:=l.2 k z;omega⟩
theorem GI.turn {T:Nat→Prop} (h:GI w S0 D0 w1 P N) (f:dC P) (m:ae T w1 w2) (ht:∀ k,T k→N k):GI w S0 D0 w2 P N:=by
 obtain⟨S,D,p,m0,s,d,n⟩:=h
 exact⟨S,D,f.keep p m (fun k hk x=>(n k (ht k x)).2.2.1 hk) (fun k hk x=>(n k (ht k x)).2.2.2 hk),m0.trans m (fun _ _ x=>x) (fun k hk x=>by have:=(n k (ht k x)).1;omega),s,d,fun k hk=>⟨(n k hk).1,Nat.lt_of_lt_of_le (n k hk).2.1 m.size,(n k hk).2.2⟩⟩
theorem GI.own (h:GI w S0 D0 w1 P N) (f:dC P) (m:ae ai w1 w2) {v:Value}{xs:List UInt8} (o:Own w2 v xs) (fr:aF w1 v):GI w S0 D0 w2 P (fun k=>N k∨bY v k):=h.grow f m (fun k hk=>hk.imp id (fun x=>⟨fr k x,o.lt k x⟩))
theorem GI.less (h:GI w S0 D0 w1 P N) (hn:∀ k,N' k→N k):GI w S0 D0 w1 P N':=by
 obtain⟨S,D,p,m0,s,d,n⟩:=h
 exact⟨S,D,p,m0,s,d,fun k hk=>n k (hn k hk)⟩
theorem GI.call {R:World→Value→FP→(Nat→Prop)→Prop} (h:GI w S0 D0 w1 P N) (c:GC prog f args w1 P (Out w S0 N) R):Calls prog f args w1 fun e w'=>∃ v P' N',e = .returned v∧R w' v P' N'∧GI w S0 D0 w' P' (fun k=>N k∨N' k)∧(∀ k,N' k→w1.heap.size≤k)∧ae (fun k=>¬ Out w S0 N k) w1 w':=by
 obtain⟨S,D,p,m0,s,d,n⟩:=h
 have hq:∀ k,Out w S0 N k→¬ S k:=fun k hk x=>by
  rcases hk with hk | ⟨h1,h2⟩
  ·exact (n k hk).2.2.1 x
  ·rcases s k x with y | y
   ·exact h2 y
   ·omega
 refine (c S D p hq).mono ?_
 rintro e w' ⟨v,P',N',rfl,hR,S',D',p',m,s1,d1,n1⟩
 have hs:=m0.size
 refine⟨v,P',N',rfl,hR,⟨S',D',p',m0.trans m (fun _ _ x=>x) (fun k hk x=>(s k x).elim id (fun y=>by omega)),fun k hk=>(s1 k hk).elim (s k) (fun y => .inr (by omega)),fun k hk=>(d1 k hk).elim (d k) (fun y => .inr (by omega)),fun k hk=>?_⟩,fun k hk=>(n1 k hk).1,m.mono (fun k _ hk x=>hq k x hk)⟩
 rcases hk with hk | hk
 ·have q:=n k hk
  refine⟨q.1,Nat.lt_of_lt_of_le q.2.1 m.size,fun x=>?_,fun x=>?_⟩
  ·rcases s1 k x with y | y
   ·exact q.2.2.1 y
   ·omega
  ·rcases d1 k x with y | y
   ·exact q.2.2.2 y
   ·omega
 ·exact⟨by have:=(n1 k hk).1;omega,(n1 k hk).2⟩
theorem GI.calls (h:GI w S0 D0 w1 P N) (c:GS prog f args w1 P (Out w S0 N) r P'):Calls prog f args w1 fun e w'=>e = .returned r∧GI w S0 D0 w' P' N∧ae (fun k=>¬ Out w S0 N k) w1 w':=by
 refine (GI.call h c).mono ?_
 rintro e w' ⟨v,P1,N1,rfl,⟨rfl,rfl,_⟩,g,_,m⟩
 exact⟨rfl,g.less (fun k hk => .inl hk),m⟩
theorem GI.callo {mk:Value→Value}{xs:List UInt8} (h:GI w S0 D0 w1 P N) (c:GO prog f args w1 P (Out w S0 N) mk xs P'):Calls prog f args w1 fun e w'=>∃ v',e = .returned (mk v')∧Own w' v' xs∧aF w1 v'∧GI w S0 D0 w' P' (fun k=>N k∨bY v' k)∧ae (fun k=>¬ Out w S0 N k) w1 w':=by
 refine (GI.call h c).mono ?_
 rintro e w' ⟨v,P1,N1,rfl,⟨v',rfl,o,rfl,rfl⟩,g,hN,m⟩
 exact⟨v',rfl,o,hN,g,m⟩
def gW (w:World) (S D:Nat→Prop) (w':World) (P':FP):Prop:=∃ S' D',P' w' S' D'∧ae S w w'∧(∀ k,S' k→S k∨w.heap.size≤k)∧(∀ k,D' k→D k∨w.heap.size≤k)
theorem GI.done (h:GI w S0 D0 w1 P N):gW w S0 D0 w1 P:=by
 obtain⟨S,D,p,m0,s,d,n⟩:=h
 exact⟨S,D,p,m0,s,d⟩
theorem GS.walk {Q:Nat→Prop} (h:∀ S D,P w S D→(∀ k,Q k→¬ S k)→Calls prog f args w fun e w'=>e = .returned r∧gW w S D w' P'):GS prog f args w P Q r P':=GS.of h
end
end Go.Gl
namespace Go.Proofs.YtglkmaalpammcaaGreat
open Go.Gl Go.RowKit
def KW (w:World) (g:Nat) (xs:List UInt8) (wx:World):Prop:=∃ v,Wr wx g v xs 0∧(∀ k,v.ownBlock=some k→w.heap.size≤k)∧ae ai w wx∧w.heap.size≤g
theorem KW.start (w wx:World) (hm:ae ai w wx):KW w wx.heap.size [] (wx.alloc (.cells #[.slice none 0 0,.int .i64 0] 311)) :=
 ⟨.slice none 0 0,⟨aC _ _,Gl.Own.nil _,by simp [Value.ownBlock]⟩,fun k hk=>by simp [Value.ownBlock] at hk,hm.alloc _,hm.size⟩
theorem KW.step {w wx wy:World}{g:Nat}{xs ys:List UInt8}{v v':Value} (hf:∀ k,v.ownBlock=some k→w.heap.size≤k) (hm:ae ai w wx) (hg:w.heap.size≤g) (h:cZ wx g v ys 0 wy v'):KW w g ys wy:=by
 refine⟨v',h.wr,?_,hm.trans h.mods (fun _ _ x=>x) (fun i hi x=>?_),hg⟩
 ·intro k hk
  rcases h.blk with hb | hb
  ·exact hf k (hb▸hk)
  ·exact Nat.le_trans hm.size (hb k hk)
 ·rcases x with x | x
  ·omega
  ·exact absurd hi (Nat.not_lt.2 (hf i x))
theorem KW.then0 {w wx wy:World}{g:Nat}{xs:List UInt8} (h:KW w g xs wx) (hm:ae ai wx wy):KW w g xs wy:=by
 obtain⟨v,h1,h2,h3,h4⟩:=h
 exact⟨v,h1.then0 hm,h2,h3.then0 hm,h4⟩
theorem KW.mods {w wx:World}{g:Nat}{xs:List UInt8} (h:KW w g xs wx):ae ai w wx:=by
 obtain⟨v,h1,h2,h3,h4⟩:=h
 exact h3
theorem KW.u8 {w wx:World}{g:Nat}{xs:List UInt8} (h:KW w g xs wx) (x:Nat) (hx:x≤255) (hl:xs.length≤1000) :
  Calls Tryz.prog 309 #[.pointer (some ⟨g,0,none⟩),.int .u8 x] wx fun r w'=>r = .returned (.tuple #[])∧KW w g (xs ++ be 1 x) w':=by
 obtain⟨v,h1,h2,h3,h4⟩:=h
 exact (Dv x h1 hx (by omega)).mono fun r w' ⟨hr,v',hs⟩=>⟨hr,KW.step (xs:=xs) h2 h3 h4 hs⟩
theorem KW.u64 {w wx:World}{g:Nat}{xs:List UInt8} (h:KW w g xs wx) (x:Nat) (hx:x≤18446744073709551615) (hl:xs.length≤1000) :
  Calls Tryz.prog 258 #[.pointer (some ⟨g,0,none⟩),.int .u64 x] wx fun r w'=>r = .returned (.tuple #[])∧KW w g (xs ++ be 8 x) w':=by
 obtain⟨v,h1,h2,h3,h4⟩:=h
 exact (zI x h1 hx (by omega)).mono fun r w' ⟨hr,v',hs⟩=>⟨hr,KW.step (xs:=xs) h2 h3 h4 hs⟩
theorem KW.out {w wx:World}{g:Nat}{xs:List UInt8} (h:KW w g xs wx) (hl:xs.length≤1000) :
  Calls Tryz.prog 219 #[.pointer (some ⟨g,0,none⟩)] wx fun r w'=>∃ u,r = .returned (.tuple #[u,.int .i64 0])∧Gl.Own w' u xs∧ae ai w w'∧aF w u:=by
 obtain⟨v,h1,h2,h3,h4⟩:=h
 refine (jW h1 (by omega)).mono ?_
 rintro r w' ⟨u,rfl,ho,hm,hf⟩
 exact⟨u,rfl,ho,h3.then0 hm,hf.of h3.size⟩
end Go.Proofs.YtglkmaalpammcaaGreat
namespace Go.Proofs.YtglkmaalpammcaaGreat
open Go.Gl Go.RowKit
def iK (ls:List Nat):List Nat:=if fB (bC 18446744073709551616 ls)≤255 then ls else []
theorem BJ (ls:List Nat):bC 18446744073709551616 (iK ls)=iL (bC 18446744073709551616 ls):=by
 unfold iK iL
 split
 ·rfl
 ·rfl
theorem Eu {ls:List Nat} (h:dn ls):dn (iK ls):=by
 unfold iK
 split
 ·exact h
 ·exact fun x hx=>by cases hx
theorem Fb (ls:List Nat):(iK ls).length≤ls.length:=by
 unfold iK
 split
 ·exact Nat.le_refl _
 ·simp
theorem wO (e:Int) (xs:List UInt8) (N:Nat):(pW e xs N).length≤xs.length+256:=by
 unfold pW
 split
 ·rename_i h
  have:=CQ e xs (iZ N)
  have h2:(iZ N).length=1+fB N:=by rw [iZ,List.length_append,aX,gm]
  omega
 ·omega
theorem short_any {w:World}{u:Value}{ls:List Nat} (hu:RN w u ls) (hL:dn ls) (hl:ls.length≤1000000) :
  Calls Tryz.prog 292 #[.agg #[u]] w fun r w'=>∃ u',r = .returned (.agg #[u'])∧RN w' u' (iK ls)∧ae ai w w':=by
 obtain⟨a,c,rfl,_⟩:=bF.form hu
 have HU:=lh hu
 have HL:=lh hL
 clear hu hL
 have h1:=bz (bz (aC w (.cells #[.slice a ls.length c] 75)) (.cells #[.slice none 0 0] 75)) (.cells #[.slice none 0 0,.int .i64 0] 311)
 have h2:=bz (aC (w.alloc (.cells #[.slice a ls.length c] 75)) (.cells #[.slice none 0 0] 75)) (.cells #[.slice none 0 0,.int .i64 0] 311)
 have h3:=aC ((w.alloc (.cells #[.slice a ls.length c] 75)).alloc (.cells #[.slice none 0 0] 75)) (.cells #[.slice none 0 0,.int .i64 0] 311)
 have hm:=((((ae.refl ai w).alloc (.cells #[.slice a ls.length c] 75)).alloc (.cells #[.slice none 0 0] 75)).alloc (.cells #[.slice none 0 0,.int .i64 0] 311))
 simp only [World.size_alloc] at h2 h3
 have K:=lh (And.intro h1 (And.intro h2 (And.intro h3 hm)))
 clear h1 h2 h3 hm
 go_enter Tryz.func292,Tryz.ntmps292
 go_wp2_with fail
 generalize World.alloc (World.alloc (World.alloc w _) _) _=wx at *
 have hW:Wr wx (w.heap.size+1+1) (.slice none 0 0) [] 0:=⟨K.out.2.2.1,Gl.Own.nil _,by simp [Value.ownBlock]⟩
 refine (zK hW (HU.out.keep K.out.2.2.2 (fun _ _ x=>x)) HL.out hl (by simp)).mono ?_
 rintro r w1 ⟨rfl,v1,hs⟩
 generalize hN:bC 18446744073709551616 ls=N at *
 have HN:=lh hN
 have hS:∀ k,k<w.heap.size+1+1→¬ WS (w.heap.size+1+1) (.slice none 0 0) k:=fun k hk x=>by
  rcases x with x | x
  ·omega
  ·simp [Value.ownBlock] at x
 have c1:=af (hs.mods.heap K.out.1 (hS _ (by omega))) 0
 have g2:=hs.mods.heap K.out.2.1 (hS _ (by omega))
 have M1:=lh (show ae ai w w1 from K.out.2.2.2.trans hs.mods (fun _ _ x=>x) (fun i hi x=>hS i (by omega) x))
 have HW1:=lh hs.wr
 have HG2:=lh g2
 clear hs hS hW K hN g2
 by_cases hb:fB N≤255
 ·have e1:oz 0 N=0:=if_pos hb
  have e2:iK ls=ls:=by unfold iK;rw [HN.out,if_pos hb]
  have E2:=lh e2
  rw [e1] at HW1
  clear e1 e2
  go_wp2_with fail
  refine (jW HW1.out (by have:=wO 0 [] N;simp at this;omega)).mono ?_
  rintro r w2 ⟨ub,rfl,ou,mu,fu⟩
  obtain⟨ua,uc,rfl,_⟩:=ou.rd.form
  have hlt:=lt_of_heap HG2.out
  have hsz:=M1.out.size
  have c2:=(mu.cellAt (by omega) (fun x=>x) 0).trans c1
  have d2:=af (mu.heap HG2.out (fun x=>x))
  have f2:=aY (mu.heap HG2.out (fun x=>x))
  have M2:=lh (M1.out.then0 mu)
  have HG3:=lh (mu.heap HG2.out (fun x=>x))
  clear ou mu fu c1
  go_wp2
  have d3:=af (heap_set HG3.out 0 (.slice a ls.length c))
  simp at d3
  refine bodyPost_ret (by simp [results,Tryz.results292,go_sem,d3];try rfl) rfl ?_
  refine⟨_,rfl,?_,?_⟩
  ·rw [E2.out]
   exact HU.out.keep (M2.out.setCell (.inr (by simp)) _) (fun _ _ x=>x)
  ·exact M2.out.setCell (.inr (by simp)) _
 ·have e1:oz 0 N=42:=by unfold oz;rw [if_neg hb];rfl
  have e2:iK ls=[]:=by unfold iK;rw [HN.out,if_neg hb]
  have E2:=lh e2
  rw [e1] at HW1
  clear e1 e2
  go_wp2_with fail
  refine (jW HW1.out (by have:=wO 0 [] N;simp at this;omega)).mono ?_
  rintro r w2 ⟨ub,rfl,ou,mu,fu⟩
  obtain⟨ua,uc,rfl,_⟩:=ou.rd.form
  have hlt:=lt_of_heap HG2.out
  have hsz:=M1.out.size
  have d2:=af (mu.heap HG2.out (fun x=>x))
  have f2:=aY (mu.heap HG2.out (fun x=>x))
  have M2:=lh (M1.out.then0 mu)
  have HG3:=lh (mu.heap HG2.out (fun x=>x))
  clear ou mu fu c1
  go_wp2
  have d3:=af (heap_set HG3.out 0 (.slice none 0 0))
  simp at d3
  refine bodyPost_ret (by simp [results,Tryz.results292,go_sem,d3];try rfl) rfl ?_
  refine⟨_,rfl,?_,?_⟩
  ·rw [E2.out]
   exact bF.nil _ _
  ·exact M2.out.setCell (.inr (by simp)) _
def ptr (B:Nat) (o:Nat):Value := .pointer (some ⟨B,o,none⟩)
structure TW (w:World) (g B:Nat) (v:Value) (cur:Array Value) (T:TypeId) (sl:Value) (os:List Nat):Prop where
 wr:∃ xs,Wr w g v xs 0
 box:w.heap[B]?=some (.cells cur T (0,0))
 ne:¬ WS g v B
 rd:bF (ptr B) w sl os
 sb:∀ k,sl.ownBlock=some k→k<w.heap.size∧¬ WS g v k
theorem OE (xs ys:List UInt8):jU 0 xs ys=xs ++ ys:=if_pos rfl
theorem yN {w:World}{g:Nat}{v:Value}{xs:List UInt8}{e:Int} (h:Wr w g v xs e) {k:Nat} (hk:WS g v k):k<w.heap.size:=by
 rcases hk with rfl | hk
 ·exact h.lt
 ·exact h.own.lt k hk
theorem PI {w:World}{g B:Nat}{v:Value}{xs:List UInt8}{cur:Array Value}{T:TypeId}{sl:Value}{os ns:List Nat} (h:Wr w g v xs 0) (ht:TW w g B v cur T sl os) (hn:ns.length=os.length) (hc:∀ (i o x:Nat),os[i]?=some o→ns[i]?=some x→cur[o]?=some (.int .u64 x)) (hu:dn ns) (hl:xs.length+8*ns.length≤100000000) :
  Calls Tryz.prog 220 #[.agg #[.pointer (some ⟨g,0,none⟩),.pointer none],sl] w fun r w'=>r = .returned (.tuple #[])∧∃ v',cZ w g v (xs ++ ns.flatMap (be 8)) 0 w' v':=by
 obtain⟨a,c,rfl,hlm⟩:=bF.form ht.rd
 have HT:=lh ht
 have HC:=lh hc
 have HU:=lh hu
 have b0:=aC w (.cells #[.pointer (some ⟨g,0,none⟩),.pointer none] 314)
 have m0:=lh ((ae.refl ai w).alloc (.cells #[.pointer (some ⟨g,0,none⟩),.pointer none] 314))
 have W0:=lh (show ∃ v',cZ (w.alloc (.cells #[.pointer (some ⟨g,0,none⟩),.pointer none] 314)) g v (xs ++ (ns.take 0).flatMap (be 8)) 0 (w.alloc (.cells #[.pointer (some ⟨g,0,none⟩),.pointer none] 314)) v' from
  ⟨v,by simpa using cZ.refl (h.then0 m0.out)⟩)
 have hsz0:=lh (show w.heap.size<(w.alloc (.cells #[.pointer (some ⟨g,0,none⟩),.pointer none] 314)).heap.size from by simp)
 have hws:=fun k (hk:WS g v k)=>yN h hk
 have HB0:=lh (show (w.alloc (.cells #[.pointer (some ⟨g,0,none⟩),.pointer none] 314)).heap[w.heap.size]?=_ from b0)
 have HW:=lh hws
 have HLN:=lh hn
 obtain⟨n,hos⟩:∃ n,os.length=n:=⟨_,rfl⟩
 have HO:=lh hos
 unfold maxLen at hlm
 rw [hos] at hlm ⊢
 clear ht hc hu b0 hws h hn hos
 go_enter Tryz.func220,Tryz.ntmps220
 go_wp2
 generalize World.alloc w _=w0 at *
 go_loopw [8] (fun i wr=>∃ k:Nat,k≤n∧i = .int .i64 k∧Hid (∃ v',cZ w0 g v (xs ++ (ns.take k).flatMap (be 8)) 0 wr v'∧wr.heap[w.heap.size]?=some (.cells #[.pointer (some ⟨g,0,none⟩),.pointer none] 314 (0,0)))) (fun i _=>n - (intOf i).toNat)
 case atStart =>
  obtain⟨v',h⟩:=W0.out
  exact⟨0,Nat.zero_le _,rfl,lh ⟨v',h,HB0.out⟩⟩
 case round =>
  clear W0 HB0
  obtain⟨k,hk,rfl,hR⟩:=hrel
  obtain⟨v1,r1,r2⟩:=hR.out
  have R:=lh r1
  have c0:=af r2 0
  have c1:=af r2 1
  have HB:=lh r2
  clear hR r1 r2
  by_cases hlt:k<n
  ·have lk:k<os.length:=by rw [HO.out];exact hlt
   have lx:k<ns.length:=by rw [HLN.out];exact lk
   have hx:=HU.out _ (List.getElem_mem lx)
   have hcc:=HC.out k os[k] ns[k] (List.getElem?_eq_getElem lk) (List.getElem?_eq_getElem lx)
   obtain⟨g1,off,hsl,hsc⟩:∃ g1 off,a=some ⟨g1,off,none⟩∧w.cell? ⟨g1,off+k,none⟩=some (ptr B os[k]):=by
    rcases bF.open HT.out.rd with ⟨_,h0⟩ | ⟨g1,off,cap,hv,_,_,_,h5⟩
    ·rw [h0] at lk;simp at lk
    ·cases hv
     exact⟨g1,off,rfl,h5 k lk⟩
   subst hsl
   obtain⟨hg1,hg2⟩:=HT.out.sb g1 rfl
   have M1:=lh (m0.out.trans R.out.mods (U:=WS g v) (fun _ _ x=>x.elim) (fun _ _ x=>x))
   have d0:=(M1.out.cellAt hg1 hg2 (off+k)).trans hsc
   have d1:=(af (M1.out.heap HT.out.box HT.out.ne) os[k]).trans hcc
   have HN1:=lh (show (ns.take (k+1)).flatMap (be 8)=(ns.take k).flatMap (be 8) ++ be 8 ns[k] from by rw [List.take_succ_eq_append_getElem lx,List.flatMap_append];simp)
   have hlk:(xs ++ (ns.take k).flatMap (be 8)).length≤100000000:=by
    have:∀ l:List Nat,(l.flatMap (be 8)).length=8*l.length:=by
     intro l
     induction l with
     | nil=>rfl
     | cons x l ih=>rw [List.flatMap_cons,List.length_append,ih,aX,List.length_cons];omega
    rw [List.length_append,this,List.length_take]
    omega
   generalize os[k]=o at *
   generalize ns[k]=x at *
   clear hsc hcc hg1 hg2
   unfold ptr at d0
   go_wp2
   go_still_tail 5,(by kernel_rfl)
   change wpList _ _ _ _ _ wr.drew
   go_wp2_with fail
   refine (zI x R.out.wr.drew hx (by omega)).mono ?_
   rintro r w5 ⟨rfl,v2,s2⟩
   have hb2:=s2.mods.heap (show wr.drew.heap[w.heap.size]?=_ from HB.out) (fun y=>by
    rcases y with y | y
    ·have:=HW.out g (.inl rfl);omega
    ·rcases R.out.blk with hb | hb
     ·have:=HW.out _ (.inr (hb▸y));omega
     ·have:=hb _ y;have:=hsz0.out;omega)
   have S2:=R.out.trans (s2.from ((ae.refl ai wr).drew))
   rw [OE,List.append_assoc,← HN1.out] at S2
   have R2:=lh (And.intro S2 hb2)
   clear s2 hb2 S2 R HB d0 d1 c0 c1
   go_wp2
   go_roundw
   case rel=>exact⟨k+1,by omega,by go_num,lh ⟨v2,R2.out⟩⟩
   case measure=>simp [intOf];omega
  ·have e:ns.take k=ns:=List.take_of_length_le (by rw [HLN.out,HO.out];omega)
   have hr:=R.out.from m0.out
   rw [e] at hr
   have R2:=lh hr
   clear R hr HB c0 c1
   go_wp2
   go_end0
   exact⟨rfl,v1,R2.out⟩
theorem RN.keepW {S:Nat→Prop}{w w':World}{u:Value}{ls:List Nat} (h:RN w u ls) (hm:ae S w w') (ha:ls=[]∨∀ k,u.ownBlock=some k→¬ S k):RN w' u ls:=by
 rcases ha with rfl | ha
 ·refine⟨rfl,?_⟩
  rcases h.2 with h2 | ⟨g,off,cap,hv,h1,h2,hg,h3⟩
  ·exact .inl h2
  ·exact .inr ⟨g,off,cap,hv,h1,h2,.inl rfl,fun j u hj=>by simp at hj⟩
 ·exact bF.keep h hm ha
def jo (ls:List Nat):List UInt8:=iZ (iL (bC 18446744073709551616 ls))
theorem ul (ls:List Nat):(jo ls).length≤256:=by
 have:=jJ (bC 18446744073709551616 ls)
 unfold jo
 rw [iZ,List.length_append,aX,gm]
 omega
theorem OQ {w:World}{g B:Nat}{v:Value}{xs:List UInt8}{cur:Array Value}{T:TypeId}{sl:Value}{os:List Nat}{us:List Value}{ns:List (List Nat)} (h:Wr w g v xs 0) (ht:TW w g B v cur T sl os) (hn:ns.length=os.length) (hun:us.length=os.length) (hc:∀ (i o:Nat) (u:Value) (ls:List Nat),os[i]?=some o→us[i]?=some u→ns[i]?=some ls→cur[o]?=some u∧RN w u ls∧dn ls∧ls.length≤1000000∧(ls=[]∨∀ k,u.ownBlock=some k→¬ WS g v k)) (hl:xs.length+256*ns.length≤100000000) :
  Calls Tryz.prog 270 #[.agg #[.pointer (some ⟨g,0,none⟩),.pointer none],sl] w fun r w'=>r = .returned (.tuple #[])∧∃ v',cZ w g v (xs ++ ns.flatMap jo) 0 w' v':=by
 obtain⟨a,c,rfl,hlm⟩:=bF.form ht.rd
 have HT:=lh ht
 have HC:=lh hc
 have HUN:=lh hun
 have b0:=aC w (.cells #[.pointer (some ⟨g,0,none⟩),.pointer none] 314)
 have m0:=lh ((ae.refl ai w).alloc (.cells #[.pointer (some ⟨g,0,none⟩),.pointer none] 314))
 have W0:=lh (show ∃ v',cZ (w.alloc (.cells #[.pointer (some ⟨g,0,none⟩),.pointer none] 314)) g v (xs ++ (ns.take 0).flatMap jo) 0 (w.alloc (.cells #[.pointer (some ⟨g,0,none⟩),.pointer none] 314)) v' from
  ⟨v,by simpa using cZ.refl (h.then0 m0.out)⟩)
 have hsz0:=lh (show w.heap.size<(w.alloc (.cells #[.pointer (some ⟨g,0,none⟩),.pointer none] 314)).heap.size from by simp)
 have hws:=fun k (hk:WS g v k)=>yN h hk
 have HB0:=lh (show (w.alloc (.cells #[.pointer (some ⟨g,0,none⟩),.pointer none] 314)).heap[w.heap.size]?=_ from b0)
 have HW:=lh hws
 have HLN:=lh hn
 obtain⟨n,hos⟩:∃ n,os.length=n:=⟨_,rfl⟩
 have HO:=lh hos
 unfold maxLen at hlm
 rw [hos] at hlm ⊢
 clear ht hc hun b0 hws h hn hos
 go_enter Tryz.func270,Tryz.ntmps270
 go_wp2
 generalize World.alloc w _=w0 at *
 go_loopw [8] (fun i wr=>∃ k:Nat,k≤n∧i = .int .i64 k∧Hid (∃ v',cZ w0 g v (xs ++ (ns.take k).flatMap jo) 0 wr v'∧wr.heap[w.heap.size]?=some (.cells #[.pointer (some ⟨g,0,none⟩),.pointer none] 314 (0,0)))) (fun i _=>n - (intOf i).toNat)
 case atStart =>
  obtain⟨v',h⟩:=W0.out
  exact⟨0,Nat.zero_le _,rfl,lh ⟨v',h,HB0.out⟩⟩
 case round =>
  clear W0 HB0
  obtain⟨k,hk,rfl,hR⟩:=hrel
  obtain⟨v1,r1,r2⟩:=hR.out
  have R:=lh r1
  have c0:=af r2 0
  have c1:=af r2 1
  have HB:=lh r2
  clear hR r1 r2
  by_cases hlt:k<n
  ·have lk:k<os.length:=by rw [HO.out];exact hlt
   have lx:k<ns.length:=by rw [HLN.out];exact lk
   have lu:k<us.length:=by rw [HUN.out];exact lk
   obtain⟨hcc,hru,hlu,hll,hap⟩:=HC.out k os[k] us[k] ns[k] (List.getElem?_eq_getElem lk) (List.getElem?_eq_getElem lu) (List.getElem?_eq_getElem lx)
   obtain⟨g1,off,hsl,hsc⟩:∃ g1 off,a=some ⟨g1,off,none⟩∧w.cell? ⟨g1,off+k,none⟩=some (ptr B os[k]):=by
    rcases bF.open HT.out.rd with ⟨_,h0⟩ | ⟨g1,off,cap,hv,_,_,_,h5⟩
    ·rw [h0] at lk;simp at lk
    ·cases hv
     exact⟨g1,off,rfl,h5 k lk⟩
   subst hsl
   obtain⟨hg1,hg2⟩:=HT.out.sb g1 rfl
   have M1:=lh (m0.out.trans R.out.mods (U:=WS g v) (fun _ _ x=>x.elim) (fun _ _ x=>x))
   have d0:=(M1.out.cellAt hg1 hg2 (off+k)).trans hsc
   have d1:=(af (M1.out.heap HT.out.box HT.out.ne) os[k]).trans hcc
   have HN1:=lh (show (ns.take (k+1)).flatMap jo=(ns.take k).flatMap jo ++ jo ns[k] from by rw [List.take_succ_eq_append_getElem lx,List.flatMap_append];simp)
   have hlk:(xs ++ (ns.take k).flatMap jo).length≤100000000:=by
    have:∀ l:List (List Nat),(l.flatMap jo).length≤256*l.length:=by
     intro l
     induction l with
     | nil=>simp
     | cons x l ih=>rw [List.flatMap_cons,List.length_append,List.length_cons];have:=ul x;omega
    have h1:=this (ns.take k)
    rw [List.length_take] at h1
    rw [List.length_append]
    omega
   generalize os[k]=o at *
   generalize ns[k]=x at *
   generalize us[k]=u at *
   clear hsc hcc hg1 hg2
   unfold ptr at d0
   have HRU:=lh (RN.keepW hru M1.out hap)
   obtain⟨ua,uc,rfl,_⟩:=bF.form hru
   have HSH:=lh (fun (wy:World) (hm:ae ai wr wy)=>short_any (bF.keep HRU.out hm (fun _ _ y=>y)) hlu hll)
   have HB1:=lh (fun (wy:World) (hm:ae ai wr wy)=>(show wy.heap[w.heap.size]?=_ from hm.heap HB.out (fun y=>y)))
   have HDC:=lh (fun (wy:World) (u':Value) (hm:ae ai wr wy) (hu':RN wy u' (iK x))=>zK (R.out.wr.then0 hm) hu' (Eu hlu) (by have:=Fb x;omega) (by omega))
   clear hru hap hll hlu HRU
   go_wp2
   go_region_with (first
    | (go_at_call 292;refine (HSH.out _ ?_).mono ?_;(next=>(repeat' (first | exact ae.refl _ _ | refine ae.drew ?_ | refine ae.drewN ?_ _)));rintro r w5 ⟨u',rfl,hu',m5⟩;obtain⟨sa,sc,rfl,_⟩:=bF.form hu';have M5:ae ai wr w5:=ae.trans (S:=ai) (T:=ai) (by repeat' (first | exact ae.refl _ _ | refine ae.drew ?_ | refine ae.drewN ?_ _)) m5 (fun _ _ y=>y) (fun _ _ y=>y);have c0:=af (HB1.out _ M5) 0)
    | (go_at_call 291;refine (HDC.out _ _ (ae.trans (S:=ai) (T:=ai) M5 ?_ (fun _ _ y=>y) (fun _ _ y=>y)) (bF.keep hu' (S:=ai) ?_ (fun _ _ y=>y))).mono ?_;(next=>(repeat' (first | exact ae.refl _ _ | refine ae.drew ?_ | refine ae.drewN ?_ _)));(next=>(repeat' (first | exact ae.refl _ _ | refine ae.drew ?_ | refine ae.drewN ?_ _)));rintro r w6 ⟨rfl,v2,s2⟩))
   all_goals
    have M6:ae ai wr _:=M5
    rw [BJ,show pW 0 (xs ++ (ns.take k).flatMap jo) (iL (bC 18446744073709551616 x))=(xs ++ (ns.take k).flatMap jo) ++ jo x from (if_pos (jJ _)).trans (if_pos rfl),show oz 0 (iL (bC 18446744073709551616 x))=0 from if_pos (jJ _)] at s2
    have s3:=s2.from (ae.trans (S:=ai) (T:=ai) M5 (by repeat' (first | exact ae.refl _ _ | refine ae.drew ?_ | refine ae.drewN ?_ _)) (fun _ _ y=>y) (fun _ _ y=>y))
    have hb2:=s3.mods.heap HB.out (fun y=>by
     rcases y with y | y
     ·have:=HW.out g (.inl rfl);omega
     ·rcases R.out.blk with hb | hb
      ·have:=HW.out _ (.inr (hb▸y));omega
      ·have:=hb _ y;have:=hsz0.out;omega)
    have S2:=R.out.trans s3
    rw [List.append_assoc,← HN1.out] at S2
    have R2:=lh (And.intro S2 hb2)
    clear s2 s3 hb2 S2 R HB c0 c1 M5 M6 HSH HB1 HDC hu' m5
    go_wp2
    go_roundw
    case rel=>exact⟨k+1,by omega,by go_num,lh ⟨v2,R2.out⟩⟩
    case measure=>simp [intOf];omega
  ·have e:ns.take k=ns:=List.take_of_length_le (by rw [HLN.out,HO.out];omega)
   have hr:=R.out.from m0.out
   rw [e] at hr
   have R2:=lh hr
   clear R hr HB c0 c1
   go_wp2
   go_end0
   exact⟨rfl,v1,R2.out⟩
end Go.Proofs.YtglkmaalpammcaaGreat
namespace Go.Proofs.YtglkmaalpammcaaGreat
open Go.Gl Go.RowKit
structure TR (g B:Nat) (T:TypeId) (v:Value) (s:bT) (cur:Array Value) (wx:World):Prop where
 rr:Rr wx g v s.1 s.2
 box:wx.heap[B]?=some (.cells cur T (0,0))
 ne:B≠g
 nb:v.ownBlock≠some B
def iC (w:World) (g B:Nat) (T:TypeId) (v:Value) (s:bT) (cur:Array Value) (wx:World):Prop :=
 ∃ v',TR g B T v' s cur wx∧ae (fun k=>k=g∨k=B) w wx∧∀ k,v'.ownBlock=some k→v.ownBlock=some k
theorem iC.refl {w:World}{g B:Nat}{T:TypeId}{v:Value}{s:bT}{cur:Array Value} (h:TR g B T v s cur w):iC w g B T v s cur w:=⟨v,h,ae.refl _ _,fun _ x=>x⟩
theorem iC.trans {w w1 w2:World}{g B:Nat}{T:TypeId}{v v1:Value}{s t:bT}{cur cur2:Array Value} (h:ae (fun k=>k=g∨k=B) w w1) (hv:∀ k,v1.ownBlock=some k→v.ownBlock=some k) (k:iC w1 g B T v1 t cur2 w2):iC w g B T v t cur2 w2:=by
 obtain⟨v2,k1,k2,k3⟩:=k
 exact⟨v2,k1,h.trans k2 (fun _ _ x=>x) (fun _ _ x=>x),fun i hi=>hv i (k3 i hi)⟩
theorem TR.alloc {w:World}{g B:Nat}{T:TypeId}{v:Value}{s:bT}{cur:Array Value} (h:TR g B T v s cur w) (o:Obj):TR g B T v s cur (w.alloc o) :=
 ⟨h.rr.keep ((ae.refl ai w).alloc o) (fun x=>x) (fun _ _ x=>x),bz h.box o,h.ne,h.nb⟩
theorem TR.step {w wy:World}{g B:Nat}{T:TypeId}{v v':Value}{s t:bT}{cur:Array Value} (h:TR g B T v s cur w) (k:fK w g v t.1 t.2 wy v'):TR g B T v' t cur wy :=
 ⟨k.rr,k.mods.heap h.box h.ne,h.ne,fun e=>h.nb (k.blk _ e)⟩
theorem TR.set {w:World}{g B:Nat}{T:TypeId}{v:Value}{s:bT}{cur:Array Value} (h:TR g B T v s cur w) (o:Nat) (u:Value):TR g B T v s (cur.setIfInBounds o u) (w.setCell ⟨B,o,none⟩ u) :=
 ⟨h.rr.keep (ae.one w B o u) (fun e=>h.ne e.symm) (fun k hk e=>h.nb (by rw [hk,e])),heap_set h.box o u,h.ne,h.nb⟩
def setAt:Array Value→List Nat→List Value→Array Value
 | cur,o :: os,u :: us=>setAt (cur.setIfInBounds o u) os us
 | cur,_,_=>cur
theorem vS (os:List Nat):∀ (cur:Array Value) (us:List Value),(setAt cur os us).size=cur.size:=by
  induction os with
  | nil=>intro cur us;rfl
  | cons o os ih =>
    intro cur us
    cases us with
    | nil=>rfl
    | cons u us=>exact (ih _ _).trans (Array.size_setIfInBounds ..)
theorem wI (os:List Nat) (o:Nat) (u:Value):∀ (cur:Array Value) (us:List Value),us.length=os.length→setAt cur (os ++ [o]) (us ++ [u])=(setAt cur os us).setIfInBounds o u:=by
  induction os with
  | nil =>
    intro cur us h
    obtain rfl:=List.eq_nil_of_length_eq_zero h
    rfl
  | cons p os ih =>
    intro cur us h
    cases us with
    | nil=>simp at h
    | cons x us=>exact ih _ _ (by simpa using h)
def tC:Nat→bT→bT
 | 0,s=>s
 | k+1,s=>est 8 (tC k s)
def ru:Nat→bT→List Nat
 | 0,_=>[]
 | k+1,s=>ru k s ++ [bV 8 (tC k s)]
theorem Fp (k:Nat) (s:bT):(ru k s).length=k:=by
 induction k with
 | zero=>rfl
 | succ k ih=>rw [ru,List.length_append,ih];rfl
def uv (x:Nat):Value := .int .u64 x
def dst:Nat→bT→bT
 | 0,s=>s
 | k+1,s=>iE (dst k s)
def wF:Nat→bT→List (List Nat)
 | 0,_=>[]
 | k+1,s=>wF k s ++ [gu (dst k s)]
theorem Jr (s:bT):(iE s).1.length≤s.1.length:=by
 unfold iE
 split
 ·split
  ·split
   ·exact Nat.le_refl _
   ·simp
  ·exact Nat.le_refl _
 ·exact Nat.le_refl _
theorem MG (n:Nat) (s:bT):(est n s).1.length≤s.1.length:=by
 simp only [est,lI]
 split
 ·split
  ·simp
  ·exact Nat.le_refl _
 ·exact Nat.le_refl _
theorem DZ (k:Nat) (s:bT):(dst k s).1.length≤s.1.length:=by
 induction k with
 | zero=>exact Nat.le_refl _
 | succ k ih=>exact Nat.le_trans (Jr _) ih
theorem wP (k:Nat) (s:bT):(tC k s).1.length≤s.1.length:=by
 induction k with
 | zero=>exact Nat.le_refl _
 | succ k ih=>exact Nat.le_trans (MG 8 _) ih
theorem Pq {w:World}{g B:Nat}{T:TypeId}{v:Value}{s:bT}{cur:Array Value}{sl:Value}{os:List Nat} (h:TR g B T v s cur w) (hp:bF (ptr B) w sl os) (sb:∀ k,sl.ownBlock=some k→k<w.heap.size∧¬ (k=g∨k=B)) (hc:∀ (i o:Nat),os[i]?=some o→o<cur.size) :
  Calls Tryz.prog 220 #[.agg #[.pointer none,.pointer (some ⟨g,0,none⟩)],sl] w fun r w'=>r = .returned (.tuple #[])∧iC w g B T v (tC os.length s) (setAt cur os ((ru os.length s).map uv)) w':=by
 obtain⟨a,c,rfl,hlm⟩:=bF.form hp
 have HP:=lh hp
 have HSB:=lh sb
 have HC:=lh hc
 have b0:=aC w (.cells #[.pointer none,.pointer (some ⟨g,0,none⟩)] 314)
 have m0:=lh ((ae.refl ai w).alloc (.cells #[.pointer none,.pointer (some ⟨g,0,none⟩)] 314))
 have W0:=lh (iC.refl (h.alloc (.cells #[.pointer none,.pointer (some ⟨g,0,none⟩)] 314)))
 have HL:=lh (And.intro h.rr.lt (lt_of_heap h.box))
 have HB0:=lh b0
 obtain⟨n,hos⟩:∃ n,os.length=n:=⟨_,rfl⟩
 have HO:=lh hos
 unfold maxLen at hlm
 rw [hos] at hlm ⊢
 clear hp sb hc b0 hos h
 go_enter Tryz.func220,Tryz.ntmps220
 go_wp2
 generalize World.alloc w _=w0 at *
 go_loopw [8] (fun i wr=>∃ k:Nat,k≤n∧i = .int .i64 k∧Hid (iC w0 g B T v (tC k s) (setAt cur (os.take k) ((ru k s).map uv)) wr∧wr.heap[w.heap.size]?=some (.cells #[.pointer none,.pointer (some ⟨g,0,none⟩)] 314 (0,0)))) (fun i _=>n - (intOf i).toNat)
 case atStart=>exact⟨0,Nat.zero_le _,rfl,lh ⟨W0.out,HB0.out⟩⟩
 case round =>
  clear W0 HB0
  obtain⟨k,hk,rfl,hR⟩:=hrel
  obtain⟨⟨v1,r1,rm,rb⟩,r2⟩:=hR.out
  have c0:=af r2 0
  have c1:=af r2 1
  have HB:=lh r2
  have RM:=lh (And.intro rm rb)
  clear hR r2
  by_cases hlt:k<n
  ·have lk:k<os.length:=by rw [HO.out];exact hlt
   have lo:=HC.out k os[k] (List.getElem?_eq_getElem lk)
   obtain⟨g1,off,hsl,hsc⟩:∃ g1 off,a=some ⟨g1,off,none⟩∧w.cell? ⟨g1,off+k,none⟩=some (ptr B os[k]):=by
    rcases bF.open HP.out with ⟨_,h0⟩ | ⟨g1,off,cap,hv,_,_,_,h5⟩
    ·rw [h0] at lk;simp at lk
    ·cases hv
     exact⟨g1,off,rfl,h5 k lk⟩
   subst hsl
   obtain⟨hg1,hg2⟩:=HSB.out g1 rfl
   have M1:=lh (m0.out.trans RM.out.1 (U:=fun k=>k=g∨k=B) (fun _ _ x=>x.elim) (fun _ _ x=>x))
   have d0:=(M1.out.cellAt hg1 hg2 (off+k)).trans hsc
   have HN1:=lh (show setAt cur (os.take (k+1)) ((ru (k+1) s).map uv)=(setAt cur (os.take k) ((ru k s).map uv)).setIfInBounds os[k] (uv (bV 8 (tC k s))) from by
    rw [List.take_succ_eq_append_getElem lk,ru,List.map_append]
    exact wI _ _ _ _ _ (by rw [List.length_map,Fp,List.length_take];omega))
   have HS1:=lh (show tC (k+1) s=est 8 (tC k s) from rfl)
   have hcs:(setAt cur (os.take k) ((ru k s).map uv)).size=cur.size:=vS _ _ _
   generalize setAt cur (os.take k) ((ru k s).map uv)=ca at *
   generalize tC k s=sa at *
   generalize os[k]=o at *
   obtain⟨old,hold⟩:∃ old,ca[o]?=some old:=⟨_,Array.getElem?_eq_getElem (by omega)⟩
   clear hsc hg1 hg2
   unfold ptr at d0
   have R1:=lh r1
   clear r1 rm rb lo hcs
   go_wp2_with fail
   refine (IG R1.out.rr).mono ?_
   rintro r w5 ⟨rfl,v2,s2⟩
   have hw:=HL.out
   have hw2:=RM.out.1.size
   have hw3:=m0.out.size
   have hb2:=lh (s2.mods.heap HB.out (by omega))
   have t2:=R1.out.step (t:=est 8 sa) s2
   have d1:=(af t2.box o).trans hold
   have f1:=aY t2.box o
   have T2:=lh t2
   have S2:=lh s2
   clear t2 s2 hw hw2 hw3 c0 c1
   go_wp2
   go_roundw
   case rel =>
    refine⟨k+1,by omega,by go_num,lh ⟨⟨v2,?_,?_,?_⟩,?_⟩⟩
    ·rw [HN1.out,HS1.out]
     exact T2.out.set o _
    ·exact (RM.out.1.trans S2.out.mods (fun _ _ x=>x) (fun _ _ x => .inl x)).setCell (.inl (.inr rfl)) _
    ·exact fun i hi=>RM.out.2 i (S2.out.blk i hi)
    ·have hw:=HL.out
     exact (dP (by simp only;omega) _).trans hb2.out
   case measure=>simp [intOf];omega
  ·have e:os.take k=os:=List.take_of_length_le (by rw [HO.out];omega)
   obtain rfl:k=n:=by omega
   rw [e] at r1
   have R2:=lh (And.intro r1 (And.intro (m0.out.trans RM.out.1 (U:=fun k=>k=g∨k=B) (fun _ _ x=>x.elim) (fun _ _ x=>x)) RM.out.2))
   clear r1 HB rm rb
   go_wp2
   go_end0
   exact⟨rfl,v1,R2.out⟩
def rdW (w:World) (us:List Value) (ns:List (List Nat)):Prop:=us.length=ns.length∧∀ (i:Nat) (u:Value) (ls:List Nat),us[i]?=some u→ns[i]?=some ls→RN w u ls
theorem rdW.snoc {w:World}{us:List Value}{ns:List (List Nat)}{u:Value}{ls:List Nat} (h:rdW w us ns) (k:RN w u ls):rdW w (us ++ [u]) (ns ++ [ls]):=by
 refine⟨by rw [List.length_append,List.length_append,h.1];rfl,fun i x l hx hl=>?_⟩
 by_cases hi:i<us.length
 ·rw [List.getElem?_append_left hi] at hx
  rw [List.getElem?_append_left (by rw [← h.1];exact hi)] at hl
  exact h.2 i x l hx hl
 ·rw [List.getElem?_append_right (by omega)] at hx
  rw [List.getElem?_append_right (by rw [← h.1];omega)] at hl
  rw [← h.1] at hl
  rcases Nat.eq_zero_or_pos (i - us.length) with h0 | h0
  ·rw [h0] at hx hl
   cases hx
   cases hl
   exact k
  ·rw [List.getElem?_eq_none (by simp;omega)] at hx
   cases hx
def RDs (w0 w':World) (us:List Value) (ns:List (List Nat)):Prop:=rdW w' us ns∧∀ u∈us,aF w0 u
theorem RDs.keep {w0 w1 w2:World}{S:Nat→Prop}{us:List Value}{ns:List (List Nat)} (h:RDs w0 w1 us ns) (hm:ae S w1 w2) (hs:∀ k,S k→k<w0.heap.size):RDs w0 w2 us ns :=
  ⟨⟨h.1.1, fun i u ls hu hl => bF.keep (h.1.2 i u ls hu hl) hm (fun k hk hS => by
    have:=h.2 u (List.mem_of_getElem? hu) k hk
    have:=hs k hS
    omega)⟩,h.2⟩
theorem PK {w:World}{g B:Nat}{T:TypeId}{v:Value}{s:bT}{cur:Array Value}{sl:Value}{os:List Nat} (h:TR g B T v s cur w) (hp:bF (ptr B) w sl os) (sb:∀ k,sl.ownBlock=some k→k<w.heap.size∧¬ (k=g∨k=B)) (hc:∀ (i o:Nat),os[i]?=some o→o<cur.size) (hll:s.1.length≤10000000000) :
  Calls Tryz.prog 270 #[.agg #[.pointer none,.pointer (some ⟨g,0,none⟩)],sl] w fun r w'=>r = .returned (.tuple #[])∧∃ us,iC w g B T v (dst os.length s) (setAt cur os us) w'∧RDs w w' us (wF os.length s):=by
 obtain⟨a,c,rfl,hlm⟩:=bF.form hp
 have HP:=lh hp
 have HSB:=lh sb
 have HC:=lh hc
 have b0:=aC w (.cells #[.pointer none,.pointer (some ⟨g,0,none⟩)] 314)
 have m0:=lh ((ae.refl ai w).alloc (.cells #[.pointer none,.pointer (some ⟨g,0,none⟩)] 314))
 have W0:=lh (iC.refl (h.alloc (.cells #[.pointer none,.pointer (some ⟨g,0,none⟩)] 314)))
 have HL:=lh (And.intro h.rr.lt (lt_of_heap h.box))
 have HB0:=lh b0
 obtain⟨n,hos⟩:∃ n,os.length=n:=⟨_,rfl⟩
 have HO:=lh hos
 unfold maxLen at hlm
 rw [hos] at hlm ⊢
 clear hp sb hc b0 hos h
 go_enter Tryz.func270,Tryz.ntmps270
 go_wp2
 generalize World.alloc w _=w0 at *
 go_loopw [8] (fun i wr=>∃ k:Nat,k≤n∧i = .int .i64 k∧Hid (∃ us,us.length=k∧iC w0 g B T v (dst k s) (setAt cur (os.take k) us) wr∧RDs w0 wr us (wF k s)∧wr.heap[w.heap.size]?=some (.cells #[.pointer none,.pointer (some ⟨g,0,none⟩)] 314 (0,0)))) (fun i _=>n - (intOf i).toNat)
 case atStart=>exact⟨0,Nat.zero_le _,rfl,lh ⟨[],rfl,W0.out,⟨⟨rfl,fun _ _ _ x=>by simp at x⟩,fun _ x=>by cases x⟩,HB0.out⟩⟩
 case round =>
  clear W0 HB0
  obtain⟨k,hk,rfl,hR⟩:=hrel
  obtain⟨us,hus,⟨v1,r1,rm,rb⟩,hds,r2⟩:=hR.out
  have c0:=af r2 0
  have c1:=af r2 1
  have HB:=lh r2
  have RM:=lh (And.intro rm rb)
  have DS:=lh (And.intro hus hds)
  clear hR r2 hus hds
  by_cases hlt:k<n
  ·have lk:k<os.length:=by rw [HO.out];exact hlt
   have lo:=HC.out k os[k] (List.getElem?_eq_getElem lk)
   obtain⟨g1,off,hsl,hsc⟩:∃ g1 off,a=some ⟨g1,off,none⟩∧w.cell? ⟨g1,off+k,none⟩=some (ptr B os[k]):=by
    rcases bF.open HP.out with ⟨_,h0⟩ | ⟨g1,off,cap,hv,_,_,_,h5⟩
    ·rw [h0] at lk;simp at lk
    ·cases hv
     exact⟨g1,off,rfl,h5 k lk⟩
   subst hsl
   obtain⟨hg1,hg2⟩:=HSB.out g1 rfl
   have M1:=lh (m0.out.trans RM.out.1 (U:=fun k=>k=g∨k=B) (fun _ _ x=>x.elim) (fun _ _ x=>x))
   have d0:=(M1.out.cellAt hg1 hg2 (off+k)).trans hsc
   have HN1:=lh (fun u:Value=>show setAt cur (os.take (k+1)) (us ++ [u])=(setAt cur (os.take k) us).setIfInBounds os[k] u from by
    rw [List.take_succ_eq_append_getElem lk]
    exact wI _ _ _ _ _ (by rw [DS.out.1,List.length_take];omega))
   have HS1:=lh (show dst (k+1) s=iE (dst k s) from rfl)
   have HD1:=lh (show wF (k+1) s=wF k s ++ [gu (dst k s)] from rfl)
   have hcs:(setAt cur (os.take k) us).size=cur.size:=vS _ _ _
   have hsl:=Nat.le_trans (DZ k s) hll
   generalize setAt cur (os.take k) us=ca at *
   generalize dst k s=sa at *
   generalize wF k s=da at *
   generalize os[k]=o at *
   obtain⟨old,hold⟩:∃ old,ca[o]?=some old:=⟨_,Array.getElem?_eq_getElem (by omega)⟩
   clear hsc hg1 hg2
   unfold ptr at d0
   have R1:=lh r1
   clear r1 rm rb lo hcs
   go_wp2_with fail
   refine (Ku R1.out.rr hsl).mono ?_
   rintro r w5 ⟨u,v2,rfl,hn,hf,s2⟩
   obtain⟨ua,uc,rfl,_⟩:=bF.form hn
   have hw:=HL.out
   have hw2:=RM.out.1.size
   have hw3:=m0.out.size
   have hb2:=lh (s2.mods.heap HB.out (by omega))
   have t2:=R1.out.step (t:=iE sa) s2
   have d1:=(af t2.box o).trans hold
   have f1:=aY t2.box o
   have T2:=lh t2
   have S2:=lh s2
   have HF:=lh (And.intro hn hf)
   clear t2 s2 hw hw2 hw3 c0 c1 hn hf
   go_wp2
   go_roundw
   case rel =>
    have hw:=HL.out
    have hw2:=RM.out.1.size
    have hw3:=m0.out.size
    refine⟨k+1,by omega,by go_num,lh ⟨us ++ [.slice ua (gu sa).length uc],by rw [List.length_append,DS.out.1];rfl,⟨v2,?_,?_,?_⟩,?_,?_⟩⟩
    ·rw [HN1.out,HS1.out]
     exact T2.out.set o _
    ·exact (RM.out.1.trans S2.out.mods (fun _ _ x=>x) (fun _ _ x => .inl x)).setCell (.inl (.inr rfl)) _
    ·exact fun i hi=>RM.out.2 i (S2.out.blk i hi)
    ·rw [HD1.out]
     have hq:=(DS.out.2.keep S2.out.mods (fun k hk=>by omega)).keep (ae.one w5 B o (.slice ua (gu sa).length uc)) (fun k hk=>by omega)
     refine⟨hq.1.snoc (bF.keep HF.out.1 (ae.one w5 B o _) (fun k hk e=>by have:=HF.out.2 k hk;omega)),fun x hx=>?_⟩
     rcases List.mem_append.1 hx with hx | hx
     ·exact hq.2 x hx
     ·obtain rfl:=List.mem_singleton.1 hx
      exact HF.out.2.of (by omega)
    ·have hw:=HL.out
     exact (dP (by simp only;omega) _).trans hb2.out
   case measure=>simp [intOf];omega
  ·have e:os.take k=os:=List.take_of_length_le (by rw [HO.out];omega)
   obtain rfl:k=n:=by omega
   rw [e] at r1
   have R2:=lh (And.intro r1 (And.intro (m0.out.trans RM.out.1 (U:=fun k=>k=g∨k=B) (fun _ _ x=>x.elim) (fun _ _ x=>x)) RM.out.2))
   clear r1 HB rm rb
   go_wp2
   go_end0
   exact⟨rfl,us,⟨v1,R2.out⟩,DS.out.2.1,fun u hu=>(DS.out.2.2 u hu).of m0.out.size⟩
end Go.Proofs.YtglkmaalpammcaaGreat
namespace Go.Proofs.YtglkmaalpammcaaGreat
open Go.Gl Go.RowKit
structure zG (w:World) (g B:Nat) (v0:Value) (cur:Array Value) (T:TypeId):Prop where
 wr:∃ xs,Wr w g v0 xs 0
 box:w.heap[B]?=some (.cells cur T (0,0))
 ne:¬ WS g v0 B
structure WF (w:World) (g tb:Nat) (v0:Value) (xs:List UInt8) (wx:World):Prop where
 st:∃ v',cZ w g v0 xs 0 wx v'∧¬ WS g v' tb
 tbx:wx.heap[tb]?=some (.cells #[.pointer (some ⟨g,0,none⟩),.pointer none] 314 (0,0))
 new:w.heap.size≤tb
theorem cZ.ws {w wx:World}{g:Nat}{v0 v1:Value}{xs ys:List UInt8} (h:cZ w g v0 xs 0 wx v1) {k:Nat} (hk:WS g v1 k):WS g v0 k∨w.heap.size≤k:=by
 rcases hk with rfl | hk
 ·exact .inl (.inl rfl)
 ·rcases h.blk with hb | hb
  ·exact .inl (.inr (hb▸hk))
  ·exact .inr (hb k hk)
def DV (w:World) (g:Nat) (v:Value) (u:Value) (ls:List Nat):Prop:=RN w u ls∧dn ls∧ls.length≤1000000∧(ls=[]∨∀ k,u.ownBlock=some k→¬ WS g v k)
theorem DV.keep {w wx wy:World}{g:Nat}{v0 v1 u:Value}{ls:List Nat}{xs:List UInt8} (h:DV w g v0 u ls) (hs:cZ w g v0 xs 0 wx v1) (hm:ae ai wx wy):DV wy g v1 u ls:=by
 obtain⟨h1,h2,h3,h4⟩:=h
 refine⟨RN.keepW h1 (hs.mods.then0 hm) h4,h2,h3,?_⟩
 rcases Nat.eq_zero_or_pos ls.length with h0 | h0
 ·exact .inl (List.eq_nil_of_length_eq_zero h0)
 ·refine h4.imp id (fun h4 k hk hw=>?_)
  have:=bF.ltn h1 (by omega) k hk
  rcases hs.ws (ys:=xs) hw with hw | hw
  ·exact h4 k hk hw
  ·omega
variable {w wx wy:World}{g B tb:Nat}{v0:Value}{xs:List UInt8}{cur:Array Value}{T:TypeId}
theorem WF.start (h:Wr w g v0 xs 0):WF w g w.heap.size v0 xs (w.alloc (.cells #[.pointer (some ⟨g,0,none⟩),.pointer none] 314)) :=
 ⟨⟨v0,⟨h.then0 ((ae.refl ai w).alloc _),(ae.refl _ w).alloc _,.inl rfl⟩,fun x=>by have:=yN h x;omega⟩,aC _ _,Nat.le_refl _⟩
theorem WF.c (h:WF w g tb v0 xs wx) (o:Nat):wx.cell? ⟨tb,o,none⟩=(#[.pointer (some ⟨g,0,none⟩),.pointer none]:Array Value)[o]?:=af h.tbx o
theorem WF.lt (h:WF w g tb v0 xs wx):tb<wx.heap.size:=lt_of_heap h.tbx
theorem sD {wy:World}{k n:Nat}{os:List Nat}{e:TypeId}{B:Nat}{cs:Array Value} (hk:wy.heap[k]?=some (.cells cs e (0,0))) (hc:cs=(os.map (ptr B)).toArray) (hn:os.length=n) (hm:n≤1000):bF (ptr B) wy (.slice (some ⟨k,0,none⟩) n n) os:=by
 subst hc
 exact vI hn (Nat.le_refl _) (by unfold maxLen;omega) (.inr (lt_of_heap hk)) (fun i hi=>by rw [af hk];simp [hi])
theorem WF.at (h:WF w g tb v0 xs wx) (hm:ae ai wx wy):∃ v1,cZ w g v0 xs 0 wy v1∧cZ w g v0 xs 0 wx v1∧∀ ys w' v2,cZ wy g v1 ys 0 w' v2→WF w g tb v0 ys w':=by
 obtain⟨⟨v1,h1,h4⟩,h2,h3⟩:=h
 have hy:cZ w g v0 xs 0 wy v1:=⟨h1.wr.then0 hm,h1.mods.then0 hm,h1.blk⟩
 refine⟨v1,hy,h1,fun ys w' v2 s=>⟨⟨v2,hy.trans s,fun x=>?_⟩,s.mods.heap (hm.heap h2 (fun x=>x)) h4,h3⟩⟩
 rcases x with x | x
 ·exact h4 (.inl x)
 ·rcases s.blk with hb | hb
  ·exact h4 (.inr (hb▸x))
  ·have:=hb _ x
   have:=lt_of_heap h2
   have:=hm.size
   omega
theorem WF.tw (h:WF w g tb v0 xs wx) (b:zG w g B v0 cur T) (hm:ae ai wx wy) {k n:Nat}{os:List Nat} (hk:wx.heap.size≤k) (hkl:k<wy.heap.size) (hp:bF (ptr B) wy (.slice (some ⟨k,0,none⟩) n n) os) :
  ∃ v1,Wr wy g v1 xs 0∧cZ w g v0 xs 0 wx v1∧TW wy g B v1 cur T (.slice (some ⟨k,0,none⟩) n n) os∧∀ ys w' v2,cZ wy g v1 ys 0 w' v2→WF w g tb v0 ys w':=by
 obtain⟨v1,hy,hx,hn⟩:=h.at hm
 have hB:=lt_of_heap b.box
 refine⟨v1,hy.wr,hx,⟨⟨xs,hy.wr⟩,hy.mods.heap b.box b.ne,fun x=>?_,hp,fun i hi=>?_⟩,hn⟩
 ·rcases hy.ws (ys:=xs) x with x | x
  ·exact b.ne x
  ·omega
 ·obtain rfl:k=i:=by simpa [Value.ownBlock] using hi
  exact⟨hkl,fun x=>by have:=yN hx.wr x;omega⟩
theorem WF.nums (h:WF w g tb v0 xs wx) (b:zG w g B v0 cur T) (hm:ae ai wx wy) {k n:Nat} (os ns:List Nat) (hk:wx.heap.size≤k) {e:TypeId}{cs:Array Value} (hkc:wy.heap[k]?=some (.cells cs e (0,0))) (hcs:cs=(os.map (ptr B)).toArray) (hon:os.length=n) (hn:n≤1000) (hnl:ns.length=os.length)
  (hc:∀ (i o x:Nat),os[i]?=some o→ns[i]?=some x→cur[o]?=some (.int .u64 x)) (hu:dn ns) (hl:xs.length≤50000000) :
  Calls Tryz.prog 220 #[.agg #[.pointer (some ⟨g,0,none⟩),.pointer none],.slice (some ⟨k,0,none⟩) n n] wy fun r w'=>r = .returned (.tuple #[])∧WF w g tb v0 (xs ++ ns.flatMap (be 8)) w':=by
 obtain⟨v1,s1,_,t1,hnx⟩:=h.tw b hm hk (lt_of_heap hkc) (sD hkc hcs hon hn)
 refine (PI s1 t1 hnl hc hu (by omega)).mono ?_
 rintro r w' ⟨rfl,v2,s2⟩
 exact⟨rfl,hnx _ _ _ s2⟩
theorem WF.decs (h:WF w g tb v0 xs wx) (b:zG w g B v0 cur T) (hm:ae ai wx wy) {k n:Nat} (os:List Nat) (us:List Value) (ns:List (List Nat)) (hk:wx.heap.size≤k) {e:TypeId}{cs:Array Value} (hkc:wy.heap[k]?=some (.cells cs e (0,0))) (hcs:cs=(os.map (ptr B)).toArray) (hon:os.length=n) (hn:n≤1000) (hnl:ns.length=os.length) (hul:us.length=os.length)
  (hc:∀ (i o:Nat) (u:Value) (ls:List Nat),os[i]?=some o→us[i]?=some u→ns[i]?=some ls→cur[o]?=some u∧DV w g v0 u ls) (hl:xs.length≤50000000) :
  Calls Tryz.prog 270 #[.agg #[.pointer (some ⟨g,0,none⟩),.pointer none],.slice (some ⟨k,0,none⟩) n n] wy fun r w'=>r = .returned (.tuple #[])∧WF w g tb v0 (xs ++ ns.flatMap jo) w':=by
 obtain⟨v1,s1,sx,t1,hnx⟩:=h.tw b hm hk (lt_of_heap hkc) (sD hkc hcs hon hn)
 refine (OQ s1 t1 hnl hul (fun i o u ls h1 h2 h3=>?_) (by omega)).mono ?_
 ·obtain⟨h4,h5⟩:=hc i o u ls h1 h2 h3
  exact⟨h4,h5.keep sx hm⟩
 ·rintro r w' ⟨rfl,v2,s2⟩
  exact⟨rfl,hnx _ _ _ s2⟩
structure RF (w:World) (g B tb:Nat) (T:TypeId) (v0:Value) (s:bT) (cur:Array Value) (ds:List (Value × List Nat)) (wx:World):Prop where
 st:iC w g B T v0 s cur wx
 tbx:wx.heap[tb]?=some (.cells #[.pointer none,.pointer (some ⟨g,0,none⟩)] 314 (0,0))
 new:w.heap.size≤tb
 gB:g<w.heap.size∧B<w.heap.size
 ds:∀ p∈ds,RN wx p.1 p.2∧aF w p.1
variable {s:bT}{ds:List (Value × List Nat)}
theorem RF.start {v:Value} (h:TR g B T v s cur w):RF w g B w.heap.size T v s cur [] (w.alloc (.cells #[.pointer none,.pointer (some ⟨g,0,none⟩)] 314)) :=
 ⟨⟨v,h.alloc _,(ae.refl _ w).alloc _,fun _ x=>x⟩,aC _ _,Nat.le_refl _,⟨h.rr.lt,lt_of_heap h.box⟩,fun p hp=>by cases hp⟩
theorem RF.c (h:RF w g B tb T v0 s cur ds wx) (o:Nat):wx.cell? ⟨tb,o,none⟩=(#[.pointer none,.pointer (some ⟨g,0,none⟩)]:Array Value)[o]?:=af h.tbx o
theorem RF.lt (h:RF w g B tb T v0 s cur ds wx):tb<wx.heap.size:=lt_of_heap h.tbx
theorem RF.at (h:RF w g B tb T v0 s cur ds wx) (hm:ae ai wx wy):∃ v1,TR g B T v1 s cur wy∧∀ s' cur' w',iC wy g B T v1 s' cur' w'→RF w g B tb T v0 s' cur' ds w':=by
 obtain⟨⟨v1,h1,h2,h3⟩,h4,h5,h6,h7⟩:=h
 have hy:TR g B T v1 s cur wy:=⟨h1.rr.keep hm (fun x=>x) (fun _ _ x=>x),hm.heap h1.box (fun x=>x),h1.ne,h1.nb⟩
 refine⟨v1,hy,fun s' cur' w' k=>?_⟩
 obtain⟨v2,k1,k2,k3⟩:=k
 have hz:=(h2.then0 hm).size
 refine⟨⟨v2,k1,(h2.then0 hm).trans k2 (fun _ _ x=>x) (fun _ _ x=>x),fun i hi=>h3 i (k3 i hi)⟩,k2.heap (hm.heap h4 (fun x=>x)) (by omega),h5,h6,fun p hp=>?_⟩
 obtain⟨q1,q2⟩:=h7 p hp
 exact⟨bF.keep (bF.keep q1 hm (fun _ _ x=>x)) k2 (fun i hi=>by have:=q2 i hi;omega),q2⟩
theorem RF.sb (h:RF w g B tb T v0 s cur ds wx) (hm:ae ai wx wy) {k n:Nat} (hk:wx.heap.size≤k) (hkl:k<wy.heap.size):∀ i,(Value.slice (some ⟨k,0,none⟩) n n).ownBlock=some i→i<wy.heap.size∧¬ (i=g∨i=B):=by
 intro i hi
 obtain rfl:k=i:=by simpa [Value.ownBlock] using hi
 obtain⟨v1,h1,h2,h3⟩:=h.st
 have:=h2.size
 have:=h.gB
 exact⟨hkl,by omega⟩
theorem RF.nums (h:RF w g B tb T v0 s cur ds wx) (hm:ae ai wx wy) {k n:Nat} (os:List Nat) (hk:wx.heap.size≤k) {e:TypeId}{cs:Array Value} (hkc:wy.heap[k]?=some (.cells cs e (0,0))) (hcs:cs=(os.map (ptr B)).toArray) (hon:os.length=n) (hn:n≤1000)
  (hc:∀ (i o:Nat),os[i]?=some o→o<cur.size) :
  Calls Tryz.prog 220 #[.agg #[.pointer none,.pointer (some ⟨g,0,none⟩)],.slice (some ⟨k,0,none⟩) n n] wy fun r w'=>r = .returned (.tuple #[])∧RF w g B tb T v0 (tC n s) (setAt cur os ((ru n s).map uv)) ds w':=by
 obtain⟨v1,h1,hnx⟩:=h.at hm
 refine (Pq h1 (sD hkc hcs hon hn) (h.sb hm hk (lt_of_heap hkc)) hc).mono ?_
 rintro r w' ⟨rfl,t⟩
 subst hon
 exact⟨rfl,hnx _ _ _ t⟩
theorem RF.decs (h:RF w g B tb T v0 s cur ds wx) (hm:ae ai wx wy) {k n:Nat} (os:List Nat) (hk:wx.heap.size≤k) {e:TypeId}{cs:Array Value} (hkc:wy.heap[k]?=some (.cells cs e (0,0))) (hcs:cs=(os.map (ptr B)).toArray) (hon:os.length=n) (hn:n≤1000)
  (hc:∀ (i o:Nat),os[i]?=some o→o<cur.size) (hll:s.1.length≤10000000000) :
  Calls Tryz.prog 270 #[.agg #[.pointer none,.pointer (some ⟨g,0,none⟩)],.slice (some ⟨k,0,none⟩) n n] wy fun r w'=>r = .returned (.tuple #[])∧∃ us,us.length=n∧RF w g B tb T v0 (dst n s) (setAt cur os us) (ds ++ us.zip (wF n s)) w':=by
 obtain⟨v1,h1,hnx⟩:=h.at hm
 have hz:w.heap.size≤wy.heap.size:=by
  obtain⟨_,_,h2,_⟩:=h.st
  exact (h2.then0 hm).size
 refine (PK h1 (sD hkc hcs hon hn) (h.sb hm hk (lt_of_heap hkc)) hc hll).mono ?_
 rintro r w' ⟨rfl,us,t,hd⟩
 subst hon
 have hq:=hnx _ _ _ t
 have hdl:(wF os.length s).length=os.length:=by
  generalize os.length=m
  induction m with
  | zero=>rfl
  | succ m ih=>rw [wF,List.length_append,ih];rfl
 refine⟨rfl,us,hd.1.1.trans hdl,⟨hq.st,hq.tbx,hq.new,hq.gB,fun p hp=>?_⟩⟩
 rcases List.mem_append.1 hp with hp | hp
 ·exact hq.ds p hp
 ·obtain⟨i,hi,rfl⟩:=List.getElem_of_mem hp
  rw [List.getElem_zip]
  simp at hi
  exact⟨hd.1.2 i _ _ (List.getElem?_eq_getElem (by omega)) (List.getElem?_eq_getElem (by omega)),(hd.2 _ (List.getElem_mem _)).of hz⟩
theorem yR (n:Nat):dW.lay ⟨0,n,[]⟩=be 8 n:=rfl
theorem yQ (b:Bool):dW.lay ⟨1,if b then 1 else 0,[]⟩=be 1 (if b then 1 else 0):=by cases b <;> rfl
theorem yP (l:List Nat):dW.lay ⟨2,0,l⟩=jo l:=rfl
theorem kw {a b:World}{tb:Nat}{p q:Value} (hm:ae ai a b) (h1:a.cell? ⟨tb,0,none⟩=some p) (h2:a.cell? ⟨tb,1,none⟩=some q) (h3:tb<a.heap.size):b.cell? ⟨tb,0,none⟩=some p∧b.cell? ⟨tb,1,none⟩=some q∧tb<b.heap.size :=
 ⟨(hm.cellAt h3 (fun x=>x) 0).trans h1,(hm.cellAt h3 (fun x=>x) 1).trans h2,hm.size_of h3⟩
theorem WF.tS (h:WF w g tb v0 xs wx):wx.cell? ⟨tb,0,none⟩=some (.pointer (some ⟨g,0,none⟩))∧wx.cell? ⟨tb,1,none⟩=some (.pointer none)∧tb<wx.heap.size:=⟨h.c 0,h.c 1,h.lt⟩
theorem RF.tS (h:RF w g B tb T v0 s cur ds wx):wx.cell? ⟨tb,0,none⟩=some (.pointer none)∧wx.cell? ⟨tb,1,none⟩=some (.pointer (some ⟨g,0,none⟩))∧tb<wx.heap.size:=⟨h.c 0,h.c 1,h.lt⟩
def allU (cur:Array Value):List Nat→List Nat→Prop
 | o :: os,x :: xs=>cur[o]?=some (.int .u64 x)∧allU cur os xs
 | _,_=>True
theorem nM {cur:Array Value}:∀ (os ns:List Nat),allU cur os ns→∀ (i o x:Nat),os[i]?=some o→ns[i]?=some x→cur[o]?=some (.int .u64 x)
  | [],_,_,i,o,x,h,_=>by simp at h
  | _ :: _,[],_,i,o,x,_,h=>by simp at h
  | o' :: os, x' :: ns, h, 0, o, x, h1, h2 => by
    cases h1
    cases h2
    exact h.1
  | o' :: os,x' :: ns,h,i+1,o,x,h1,h2=>nM os ns h.2 i o x h1 h2
def allD (w:World) (g:Nat) (v0:Value) (cur:Array Value):List Nat→List Value→List (List Nat)→Prop
 | o :: os,u :: us,l :: ls=>(cur[o]?=some u∧DV w g v0 u l)∧allD w g v0 cur os us ls
 | _,_,_=>True
theorem Bf {w:World}{g:Nat}{v0:Value}{cur:Array Value}:∀ (os:List Nat) (us:List Value) (ns:List (List Nat)),allD w g v0 cur os us ns→∀ (i o:Nat) (u:Value) (l:List Nat),os[i]?=some o→us[i]?=some u→ns[i]?=some l→cur[o]?=some u∧DV w g v0 u l
  | [],_,_,_,i,o,u,l,h,_,_=>by simp at h
  | _ :: _,[],_,_,i,o,u,l,_,h,_=>by simp at h
  | _ :: _,_ :: _,[],_,i,o,u,l,_,_,h=>by simp at h
  | o' :: os, x' :: us, l' :: ns, h, 0, o, u, l, h1, h2, h3 => by
    cases h1
    cases h2
    cases h3
    exact h.1
  | o' :: os,x' :: us,l' :: ns,h,i+1,o,u,l,h1,h2,h3=>Bf os us ns h.2 i o u l h1 h2 h3
theorem nG {n:Nat}{os:List Nat} (h:os.all (fun o=>decide (o<n))=true):∀ (i o:Nat),os[i]?=some o→o<n:=fun i o ho=>by
 have:=List.all_eq_true.1 h o (List.mem_of_getElem? ho)
 simpa using this
theorem JK (xs:List UInt8) (ns:List Nat) (h:ns.length≤100):(xs ++ ns.flatMap (be 8)).length≤xs.length+1000:=by
 have:∀ l:List Nat,(l.flatMap (be 8)).length=8*l.length:=by
  intro l
  induction l with
  | nil=>rfl
  | cons x l ih=>rw [List.flatMap_cons,List.length_append,ih,aX,List.length_cons];omega
 rw [List.length_append,this]
 omega
theorem lenD (xs:List UInt8) (ns:List (List Nat)) (h:ns.length≤3):(xs ++ ns.flatMap jo).length≤xs.length+1000:=by
 have:∀ l:List (List Nat),(l.flatMap jo).length≤256*l.length:=by
  intro l
  induction l with
  | nil=>simp
  | cons x l ih=>rw [List.flatMap_cons,List.length_append,List.length_cons];have:=ul x;omega
 have:=this ns
 rw [List.length_append]
 omega
end Go.Proofs.YtglkmaalpammcaaGreat
namespace Go.Proofs.YtglkmaalpammcaaGreat
open Go.Gl Go.RowKit
theorem Rd.str {w:World}{v:Value}{xs:List UInt8} (h:Rd w v xs):(convert 91 9 v).run Tryz.prog w = .ok (.string ⟨xs.toArray⟩) w:=by
 rcases h.open with ⟨h0,rfl⟩ | ⟨g,off,cap,rfl,h1,h2,_,h3⟩
 ·rcases h0 with rfl | ⟨g,off,s,rfl⟩
  ·exact Lib.run_convert_nil_bytes w 91 9 5 0 Tryz.underlying91 Tryz.underlying5 Tryz.underlying9
  ·exact run_convert_bytes_back w 91 9 5 ⟨g,off,some s⟩ 0 [] Tryz.underlying91 Tryz.underlying5 Tryz.underlying9 (fun j hj=>by simp at hj)
 ·refine run_convert_bytes_back w 91 9 5 _ cap xs Tryz.underlying91 Tryz.underlying5 Tryz.underlying9 (fun j hj=>?_)
  rw [show (⟨g,off,none⟩:Addr).add j=⟨g,off+j,none⟩ from Addr.add_lit ..]
  exact h3 j hj
theorem Pn (xs ys:List UInt8):(xs == ys)=decide (xs=ys):=by
 by_cases h:xs=ys <;> simp [h]
theorem yu {x y:Value}{xs ys:List UInt8}{w:World} (hx:Rd w x xs) (hy:Rd w y ys) :
  Calls Tryz.prog 211 #[x,y] w fun e w'=>e = .returned (.bool (decide (xs=ys)))∧Quiet w w':=by
 have k1:=Rd.str hx
 have k2:=Rd.str hy
 go_enter Tryz.func211,Tryz.ntmps211
 go_wp2
 go_ret
 exact⟨qm (Pn xs ys),Quiet.refl _⟩
end Go.Proofs.YtglkmaalpammcaaGreat
namespace Go.Proofs.YtglkmaalpammcaaGreat
open Go.Gl Go.RowKit
theorem ni:dn []:=fun x hx=>by cases hx
theorem dA {n:Nat}{l:List Nat} (h:n≤18446744073709551615) (k:dn l):dn (n :: l):=fun x hx=>by
 rcases List.mem_cons.1 hx with rfl | hx
 ·exact h
 ·exact k x hx
theorem sG (w:World) (cs:Array Value) (T:TypeId) (wx:World) (hx:wx=((w.alloc (.cells cs T)).alloc (.cells #[.slice none 0 0,.int .i64 0] 311)).alloc (.cells #[.pointer (some ⟨w.heap.size+1,0,none⟩),.pointer none] 314)) :
  Wr wx (w.heap.size+1) (.slice none 0 0) [] 0∧wx.heap[w.heap.size]?=some (.cells cs T (0,0))∧¬ WS (w.heap.size+1) (.slice none 0 0) w.heap.size∧wx.heap[w.heap.size+1+1]?=some (.cells #[.pointer (some ⟨w.heap.size+1,0,none⟩),.pointer none] 314 (0,0))∧ae ai w wx∧wx.heap.size=w.heap.size+3∧¬ WS (w.heap.size+1) (.slice none 0 0) (w.heap.size+1+1):=by
 subst hx
 have h0:=bz (bz (aC w (.cells cs T)) (.cells #[.slice none 0 0,.int .i64 0] 311)) (.cells #[.pointer (some ⟨w.heap.size+1,0,none⟩),.pointer none] 314)
 have h1:=bz (aC (w.alloc (.cells cs T)) (.cells #[.slice none 0 0,.int .i64 0] 311)) (.cells #[.pointer (some ⟨w.heap.size+1,0,none⟩),.pointer none] 314)
 have h2:=aC ((w.alloc (.cells cs T)).alloc (.cells #[.slice none 0 0,.int .i64 0] 311)) (.cells #[.pointer (some ⟨w.heap.size+1,0,none⟩),.pointer none] 314)
 simp only [World.size_alloc] at h1 h2
 refine⟨⟨h1,Gl.Own.nil _,by simp [Value.ownBlock]⟩,h0,?_,h2,(((ae.refl ai w).alloc _).alloc _).alloc _,by simp,?_⟩
 ·intro x
  rcases x with x | x
  ·omega
  ·simp [Value.ownBlock] at x
 ·intro x
  rcases x with x | x
  ·omega
  ·simp [Value.ownBlock] at x
theorem vW {n m i:Nat} (x:WS m (.slice none 0 0) i) (hi:i<n) (hm:n<m:=by omega):False:=by
 rcases x with x | x
 ·omega
 ·simp [Value.ownBlock] at x
theorem ae.undrew {S:Nat→Prop}{a b:World} (h:ae S a.drew b):ae S a b:=⟨h.os,h.tape,h.output,h.size,h.block⟩
theorem jF (w:World) (cs:Array Value) (T:TypeId) (wx:World) (hx:wx=w.alloc (.cells cs T)):wx.heap[w.heap.size]?=some (.cells cs T (0,0))∧ae ai w wx∧wx.heap.size=w.heap.size+1:=by
 subst hx
 exact⟨aC _ _,(ae.refl _ _).alloc _,by simp⟩
theorem dZ {a b:World}{k:Nat}{o:Obj} (hm:ae ai a b) (h:a.heap[k]?=some o):b.heap[k]?=some o:=hm.heap h (fun x=>x)
theorem fD {a b:World}{k:Nat}{u:Value} (hm:ae ai a b) (h:a.cell? ⟨k,0,none⟩=some u) (hk:k<a.heap.size):b.cell? ⟨k,0,none⟩=some u:=(hm.cellAt hk (fun x=>x) 0).trans h
structure GY (w:World) (g:Nat) (bs:List (Nat × Obj)) (wx:World):Prop where
 blk:∀ p∈bs,p.1≠g∧wx.heap[p.1]?=some p.2
 mods:ae ai w wx
 new:w.heap.size≤g
theorem GY.step {w wx wy:World}{g:Nat}{bs:List (Nat × Obj)} (h:GY w g bs wx) (hm:ae (fun i=>i=g) wx wy):GY w g bs wy :=
 ⟨fun p hp=>⟨(h.blk p hp).1,hm.heap (h.blk p hp).2 (h.blk p hp).1⟩,h.mods.trans hm (fun _ _ x=>x) (fun i hi x=>by have:=h.new;omega),h.new⟩
theorem GY.get {w wx:World}{g:Nat}{bs:List (Nat × Obj)} (h:GY w g bs wx) (i:Nat) {p:Nat × Obj} (hi:bs[i]?=some p):wx.heap[p.1]?=some p.2:=(h.blk p (List.mem_of_getElem? hi)).2
theorem xu (w:World) (z:Array Value) (T:TypeId) (wx:World) (hx:wx=((w.alloc (.cells z T)).alloc (.cells z T)).alloc (.cells z T)) :
  wx.heap[w.heap.size]?=some (.cells z T (0,0))∧wx.heap[w.heap.size+1]?=some (.cells z T (0,0))∧wx.heap[w.heap.size+1+1]?=some (.cells z T (0,0))∧ae ai w wx∧wx.heap.size=w.heap.size+3:=by
 subst hx
 have h0:=bz (bz (aC w (.cells z T)) (.cells z T)) (.cells z T)
 have h1:=bz (aC (w.alloc (.cells z T)) (.cells z T)) (.cells z T)
 have h2:=aC ((w.alloc (.cells z T)).alloc (.cells z T)) (.cells z T)
 simp only [World.size_alloc] at h1 h2
 exact⟨h0,h1,h2,(((ae.refl ai w).alloc _).alloc _).alloc _,by simp⟩
theorem zq {w:World}{k j B:Nat}{x y:Obj} (h1:w.heap[k]?=some x) (h2:w.heap[j]?=some y) (hk:k≠B:=by omega) (hj:j≠B:=by omega):∀ p∈[(k,x),(j,y)],w.heap[p.1]?=some p.2∧p.1≠B:=by
 intro p hp
 rcases List.mem_cons.1 hp with rfl | hp
 ·exact⟨h1,hk⟩
 ·obtain rfl:=List.mem_singleton.1 hp
  exact⟨h2,hj⟩
theorem uS {w:World}{g:Nat}{v:Value} (h:Rr w g v [] 0):Calls Tryz.prog 229 #[.pointer (some ⟨g,0,none⟩)] w fun r w'=>r = .returned (.int .i64 0)∧ae (fun i=>i=g) w w' :=
 (Df h).mono fun r w' ⟨h1,v',h2⟩=>⟨h1,h2.mods⟩
theorem vU {w:World}{g:Nat}{v:Value}{s:bT} (h:Rr w g v s.1 s.2) (hs:s≠([],0)):Calls Tryz.prog 229 #[.pointer (some ⟨g,0,none⟩)] w fun r w'=>∃ e:Int,r = .returned (.int .i64 e)∧(e == 0)=false∧(e != 0)=true∧ae (fun i=>i=g) w w' :=
 (Df h).mono fun r w' ⟨h1,v',h2⟩=>⟨_,h1,beq_false_of_ne (fun e=>hs ((yh s).1 e)),bne_iff_ne.2 (fun e=>hs ((yh s).1 e)),h2.mods⟩
theorem oL {w:World}{x y:Value}{xs ys:List UInt8} (h:xs=ys) (hx:Rd w x xs) (hy:Rd w y ys):Calls Tryz.prog 211 #[x,y] w fun r w'=>r = .returned (.bool true)∧ae ai w w' :=
 (yu hx hy).mono fun r w' ⟨h1,h2⟩=>⟨by rw [h1,decide_eq_true h],h2.mods _⟩
theorem sV {w w3 w4:World}{g:Nat}{v:Value}{xs:List UInt8}{T:TypeId}{z:Array Value}{B:Nat}{es:List (Nat × Obj)} (hb:w3.heap[B]?=some (.cells z T (0,0))) (he:∀ p∈es,w3.heap[p.1]?=some p.2∧p.1≠B) (hm:ae ai w w3) (hr:Rr w4 g v xs 0) (m4:ae ai w3 w4) (hg:w3.heap.size≤g) (hf:aF w3 v) (wx:World) (hx:wx=w4.alloc (.cells #[.pointer none,.pointer (some ⟨g,0,none⟩)] 314)) :
  TR g B T v (xs,0) z wx∧ae ai w wx∧∀ s cur wy,iC wx g B T v s cur wy→(∃ v',Rr wy g v' s.1 s.2)∧ae (fun k=>k=g∨k=B) wx wy∧(w.heap.size≤B→GY w g ((B,.cells cur T (0,0)) :: (w4.heap.size,.cells #[.pointer none,.pointer (some ⟨g,0,none⟩)] 314 (0,0)) :: es) wy):=by
 subst hx
 have hB:=lt_of_heap hb
 have ml:=(ae.refl ai w4).alloc (.cells #[.pointer none,.pointer (some ⟨g,0,none⟩)] 314)
 have m5:=(hm.then0 m4).then0 ml
 have hgl:=hr.lt
 have z4:=m4.size
 refine⟨⟨hr.keep ml (fun x=>x) (fun _ _ x=>x),dZ ml (dZ m4 hb),by omega,fun e=>by have:=hf _ e;omega⟩,m5,fun s cur wy ht=>?_⟩
 obtain⟨v',t1,t2,t3⟩:=ht
 refine⟨⟨v',t1.rr⟩,t2,fun hw=>⟨fun p hp=>?_,m5.trans t2 (fun _ _ x=>x) (fun i hi x=>by have:=hm.size;omega),by have:=hm.size;omega⟩⟩
 rcases List.mem_cons.1 hp with rfl | hp
 ·exact⟨t1.ne,t1.box⟩
 rcases List.mem_cons.1 hp with rfl | hp
 ·exact⟨by simp only;omega,t2.heap (aC _ _) (by omega)⟩
 ·obtain⟨e1,e2⟩:=he p hp
  have:=lt_of_heap e1
  exact⟨by omega,t2.heap (dZ ml (dZ m4 e1)) (by omega)⟩
theorem JF (w:World) (z:Array Value) (T:TypeId) (wx:World) (hx:wx=w.alloc (.cells z T)):wx.heap[w.heap.size]?=some (.cells z T (0,0))∧ae ai w wx∧wx.heap.size=w.heap.size+1:=jF w z T wx hx
theorem no_es {w:World}{B:Nat}:∀ p∈([]:List (Nat × Obj)),w.heap[p.1]?=some p.2∧p.1≠B:=fun p hp=>by cases hp
structure DN (w:World) (u:Value) (l:List Nat):Prop where
 rn:RN w u l
 lim:dn l
 len:l.length≤1000000
theorem DN.keep {w wx:World}{u:Value}{l:List Nat} (h:DN w u l) (hm:ae ai w wx):DN wx u l:=⟨h.rn.keep hm (fun _ _ x=>x),h.lim,h.len⟩
theorem DN.dv {w wx:World}{u:Value}{l:List Nat}{g:Nat} (h:DN w u l) (hm:ae ai w wx) (hg:w.heap.size≤g):DV wx g (.slice none 0 0) u l:=by
 refine⟨h.rn.keep hm (fun _ _ x=>x),h.lim,h.len,?_⟩
 rcases Nat.eq_zero_or_pos l.length with h0 | h0
 ·exact .inl (List.eq_nil_of_length_eq_zero h0)
 ·refine .inr (fun k hk x=>?_)
  have:=bF.ltn h.rn (by omega) k hk
  rcases x with x | x
  ·omega
  ·simp [Value.ownBlock] at x
theorem PH {w w6 wy:World}{u:Value}{l:List Nat}{g:Nat} (h:RN w6 u l) (hf:aF w u) (hg:g<w.heap.size) (hm:ae (fun i=>i=g) w6 wy):RN wy u l :=
 bF.keep h hm (fun k hk e=>by have:=hf k hk;omega)
theorem dW.lay_len (f:dW):f.lay.length≤256:=by
 unfold dW.lay
 split
 ·rw [aX];omega
 split
 ·rw [aX];omega
 ·exact ul f.ls
theorem mW (fs:List dW):(bD fs).length≤256*fs.length:=by
  induction fs with
  | nil=>simp [bD]
  | cons f fs ih =>
    have:=f.lay_len
    unfold bD at ih ⊢
    rw [List.flatMap_cons,List.length_append,List.length_cons]
    omega
theorem Gh {w w10 wy:World}{u:Value}{l:List Nat}{r:Nat} (h:RN w10 u l) (hf:aF w u) (hr:r<w.heap.size) (hm:ae (fun i=>i=r) w10 wy):RN wy u l :=
 bF.keep h hm (fun k hk e=>by have:=hf k hk;omega)
theorem Gg (w:World):aF w (.slice none 0 0):=fun k hk=>by simp [Value.ownBlock] at hk
end Go.Proofs.YtglkmaalpammcaaGreat
namespace Go.Proofs.YtglkmaalpammcaaGreat
open Go.Gl Go.RowKit
end Go.Proofs.YtglkmaalpammcaaGreat
namespace Go.Proofs.YtglkmaalpammcaaGreat
open Go.Gl Go.RowKit
end Go.Proofs.YtglkmaalpammcaaGreat
namespace Go.Proofs.YtglkmaalpammcaaGreat
open Go.Gl Go.RowKit
def aU (n:Nat):Prop:=n≤18446744073709551615
theorem bW {w:World}{S0 N:Nat→Prop}{v:Value}{xs:List UInt8} (h:∀ k,bY v k→N k):Off (fun k=>¬ Out w S0 N k) v xs:=fun _ i hi x=>x (.inl (h i hi))
section
variable {w:World}{sg n p:Nat}{F:List aN}{Q:Nat→Prop}
end
end Go.Proofs.YtglkmaalpammcaaGreat
namespace Go.Proofs.YtglkmaalpammcaaGreat
open Go.Gl Go.RowKit
theorem wrap_u64 (x:Int):IntKind.u64.wrap x=x % 18446744073709551616:=by
 simp [IntKind.wrap,IntKind.signed,IntKind.bits]
section
variable {w:World}{sg n p:Nat}{F:List aN}{Q:Nat→Prop}
end
end Go.Proofs.YtglkmaalpammcaaGreat
