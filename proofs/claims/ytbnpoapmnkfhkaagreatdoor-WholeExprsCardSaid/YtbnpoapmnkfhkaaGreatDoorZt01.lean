import Derived.Test.YtbnpoapmnkfhkaaGreatDoorZt00
import Derived.Test.YtbnpoapmnkfhkaaGreatDoorRows
import Derived.WalkKit
import Derived.Deep.QuietTactic
import Derived.BigQuiet
import Derived.StillTailTactics
import Derived.WalkLawsBesides
import Derived.WalkSpells
import Derived.Outline
import Derived.Handy
import Derived.PlainAid
import Derived.Deep.RegionWith
import Derived.Lib.Hide
set_option maxHeartbeats 1000000
set_option linter.unusedVariables false
set_option linter.unusedSimpArgs false
namespace Go.Proofs.YtbnpoapmnkfhkaaGreatDoor
open Go renaming Value → Z, World → Y, TypeId → V, Program → κ
open Option renaming some → W, none → O
open List renaming getElem?_eq_some_iff → U, takeWhile_cons → J, take_of_length_le → G, getElem?_eq_none_iff → D, getElem?_eq_getElem → Ω, take_succ_eq_append_getElem → Ψ, length_drop → Φ, mem_range → Γ, append_assoc → χ, length_take → σ, all_eq_true → ρ, length_eq_zero_iff → π, drop_eq_nil_of_le → μ, length_append → ε, ne_nil_of_mem → Qa, append_inj' → Qd, map_toArray → Qe, any_eq_true → Qf, length_map → Qj, mem_cons → Ql, map_cons → Qm, map_nil → Qq, range → Qs
open Go.Value renaming slice → T, int → Qc, ownBlock → Qk
open Nat renaming le_refl → N, lt_of_lt_of_le → ω, strongRecOn → ν, add_mul → ι, eq_zero_or_pos → δ, eq_or_lt_of_le → β, le_trans → Qb, lt_of_not_le → Qg, add_assoc → Qn
open Go.Region renaming ready → I, sinkB → ξ, Mode → θ, waitsFor_spec → η, wanted → ζ, waitsFor → Qh, noSelect → Qi, binds → Qr
open Go.Proofs.YtbnpoapmnkfhkaaGreatDoor renaming zc → C
open Bool renaming and_eq_true → Ξ
open Go.Builtin renaming append_ → Θ, firstCells → γ, lenOf → Qo
open Go.Lib renaming hid → Δ
open Go.Obj renaming cells → ψ
open Go.Value.slice renaming injEq → φ
open Option.some renaming injEq → τ
open Go.RowKit
def Blk (w:Y) (b:Nat) (c:Array Z) (t:V):Prop:=w.heap[b]? =W (ψ c t (0,0))
theorem Blk.cell {w:Y} {b:Nat} {c:Array Z} {t:V} (h:Blk w b c t) (i:Nat):w.cell? ⟨b,i,O⟩=c[i]? :=by
 unfold Blk at h;simp [World.cell?,h]
theorem Blk.froz {w:Y} {b:Nat} {c:Array Z} {t:V} (h:Blk w b c t) (i:Nat):w.frozen? ⟨b,i,O⟩=false:=by
 unfold Blk at h;simp [World.frozen?,h]
theorem Blk.lt {w:Y} {b:Nat} {c:Array Z} {t:V} (h:Blk w b c t):b < w.heap.size:=by
 unfold Blk at h;exact (Array.getElem?_eq_some_iff.1 h).1
theorem Blk.new (w:Y) (c:Array Z) (t:V):Blk (w.alloc (ψ c t)) w.heap.size c t:=by
 unfold Blk World.alloc;simp
theorem Blk.new' (w:Y) (c:Array Z) (t:V) (b:Nat) (hb:b=w.heap.size):Blk (w.alloc (ψ c t)) b c t:=by
 subst hb;exact Blk.new w c t
theorem Blk.alloc {w:Y} {b:Nat} {c:Array Z} {t:V} (h:Blk w b c t) (o:Obj):Blk (w.alloc o) b c t:=by
 have hl:=h.lt;unfold Blk at *;rw [Below.heap_alloc _ _ _ hl];exact h
theorem Blk.drew {w:Y} {b:Nat} {c:Array Z} {t:V} (h:Blk w b c t):Blk w.drew b c t:=h
theorem Blk.drewN {w:Y} {b:Nat} {c:Array Z} {t:V} (h:Blk w b c t) (n:Nat):Blk (w.drewN n) b c t:=h
theorem Blk.set {w:Y} {b:Nat} {c:Array Z} {t:V} (h:Blk w b c t) (i:Nat) (v:Z):Blk (w.setCell ⟨b,i,O⟩ v) b (c.setIfInBounds i v) t:=by
 unfold Blk at *;simp [World.setCell,Array.getElem?_modify,h]
theorem Blk.other {w:Y} {b:Nat} {c:Array Z} {t:V} (h:Blk w b c t) (a:Addr) (v:Z) (hne:b≠a.block):Blk (w.setCell a v) b c t:=by
 unfold Blk at *;rw [Below.heap_setCell _ _ _ _ hne];exact h
structure Mod (S:List Nat) (w w':Y):Prop where
 os:w'.os=w.os
 tape:w'.tape=w.tape
 output:w'.output=w.output
 size:w.heap.size≤w'.heap.size
 block:∀k,k < w.heap.size→k∉S→w'.heap[k]? =w.heap[k]?
theorem Mod.refl (S:List Nat) (w:Y):Mod S w w:=⟨rfl,rfl,rfl,N _,fun _ _ _=>rfl⟩
theorem Mod.mono {S S':List Nat} {w w':Y} (h:Mod S w w') (hs:∀k,k < w.heap.size→k∈S→k∈S'):Mod S' w w':=
 ⟨h.os,h.tape,h.output,h.size,fun k hk hn=>h.block k hk (fun hm=>hn (hs k hk hm))⟩
theorem Mod.trans {S S':List Nat} {a b c:Y} (h:Mod S a b) (k:Mod S' b c) (hs:∀i,i < a.heap.size→i∈S'→i∈S):Mod S a c:=
 ⟨k.os.trans h.os,k.tape.trans h.tape,k.output.trans h.output,Qb h.size k.size,
  fun i hi hn=>(k.block i (ω hi h.size) (fun hm=>hn (hs i hi hm))).trans (h.block i hi hn)⟩
theorem Mod.trans' {S:List Nat} {a b c:Y} (h:Mod S a b) (k:Mod S b c):Mod S a c:=h.trans k (fun _ _ hm=>hm)
theorem Mod.drew {S:List Nat} {a w:Y} (h:Mod S a w):Mod S a w.drew:=⟨h.os,h.tape,h.output,h.size,h.block⟩
theorem Mod.drewN {S:List Nat} {a w:Y} (h:Mod S a w) (n:Nat):Mod S a (w.drewN n):=⟨h.os,h.tape,h.output,h.size,h.block⟩
theorem Mod.alloc {S:List Nat} {a w:Y} (h:Mod S a w) (o:Obj):Mod S a (w.alloc o):=
 ⟨h.os,h.tape,h.output,by have:=h.size;simp;omega,fun k hk hn=>(Below.heap_alloc _ _ _ (ω hk h.size)).trans (h.block k hk hn)⟩
theorem Mod.setCell {S:List Nat} {a w:Y} (h:Mod S a w) (p:Addr) (u:Z) (hp:p.block < a.heap.size→p.block∈S):Mod S a (w.setCell p u):=
 ⟨h.os,h.tape,h.output,by have:=h.size;simp [World.setCell];omega,
  fun k hk hn=>(Below.heap_setCell _ _ _ _ (fun e=>hn (by rw [e];exact hp (by rw [←e];exact hk)))).trans (h.block k hk hn)⟩
theorem Mod.grown {S:List Nat} {a w w':Y} {row:Option Nat} (h:Mod S a w) (hg:w.grownBy w' row) (hr:∀k,row=W k→k < a.heap.size→k∈S):Mod S a w':=
 ⟨hg.os.trans h.os,hg.tape.trans h.tape,hg.output.trans h.output,Qb h.size hg.size,
  fun k hk hn=>(hg.block k (ω hk h.size) (fun e=>hn (hr k e.symm hk))).trans (h.block k hk hn)⟩
theorem Mod.grownBy {S:List Nat} {w w':Y} (h:Mod S w w') (row:Option Nat) (hs:∀k∈S,row=W k):w.grownBy w' row:=
 ⟨h.os,h.tape,h.output,h.size,fun k hk hn=>h.block k hk (fun hm=>hn (hs k hm).symm)⟩
theorem yK7 {S:List Nat} {w w':Y} (h:Mod S w w':=by (repeat (first | exact Mod.refl _ _ | apply Mod.drew | apply Mod.drewN | apply Mod.alloc | refine Mod.setCell ?_ _ _ (by first | simp | (simp;omega))))):Mod S w w':=h
theorem Mod.below {S:List Nat} {w w':Y} (h:Mod S w w') (B:Nat) (hB:B≤w.heap.size) (hs:∀k∈S,B≤k):Below B w w':=
 ⟨h.os,h.tape,h.output,h.size,fun k hk=>h.block k (C) (fun hm=>by have:=hs k hm;omega)⟩
theorem Mod.cell {S:List Nat} {w w':Y} (h:Mod S w w') {a:Addr} (ha:a.block < w.heap.size) (hn:a.block∉S):w'.cell? a=w.cell? a:=
 World.cell?_of_block (h.block _ ha hn)
theorem Mod.froz {S:List Nat} {w w':Y} (h:Mod S w w') {a:Addr} (ha:a.block < w.heap.size) (hn:a.block∉S):w'.frozen? a=w.frozen? a:=
 World.frozen?_of_block (h.block _ ha hn)
theorem Blk.mod {S:List Nat} {w w':Y} {b:Nat} {c:Array Z} {t:V} (h:Blk w b c t) (m:Mod S w w') (hn:b∉S):Blk w' b c t:=by
 have hl:=h.lt;unfold Blk at *;rw [m.block b hl hn];exact h
def Row (w:Y) (g:Nat) (t:V) (n:Nat) (f:Nat→Z):Prop:=∃A,Blk w g A t∧A.size=n∧∀i,i < n→A[i]? =W (f i)
theorem Row.cell {w:Y} {g:Nat} {t:V} {n:Nat} {f:Nat→Z} (h:Row w g t n f) (i:Nat) (hi:i < n):w.cell? ⟨g,i,O⟩=W (f i):=by
 obtain ⟨A,hb,hs,hf⟩:=h;rw [hb.cell];exact hf i hi
theorem Row.froz {w:Y} {g:Nat} {t:V} {n:Nat} {f:Nat→Z} (h:Row w g t n f) (i:Nat):w.frozen? ⟨g,i,O⟩=false:=by
 obtain ⟨A,hb,_⟩:=h;exact hb.froz i
theorem Row.lt {w:Y} {g:Nat} {t:V} {n:Nat} {f:Nat→Z} (h:Row w g t n f):g < w.heap.size:=by
 obtain ⟨A,hb,_⟩:=h;exact hb.lt
theorem Row.mod {S:List Nat} {w w':Y} {g:Nat} {t:V} {n:Nat} {f:Nat→Z} (h:Row w g t n f) (m:Mod S w w') (hn:g∉S):Row w' g t n f:=by
 obtain ⟨A,hb,hs,hf⟩:=h;exact ⟨A,hb.mod m hn,hs,hf⟩
theorem Row.set {w:Y} {g:Nat} {t:V} {n:Nat} {f:Nat→Z} (h:Row w g t n f) (i:Nat) (v:Z):Row (w.setCell ⟨g,i,O⟩ v) g t n (fun j=>if j=i then v else f j):=by
 obtain ⟨A,hb,hs,hf⟩:=h;refine ⟨_,hb.set i v,by simpa using hs,fun j hj=>?_⟩;by_cases e:j=i
 ·subst e;simp [hs,hj]
 ·have e':¬i=j:=fun x=>e x.symm
  simp [Array.getElem?_setIfInBounds,e,e',hf j hj]
theorem Row.congr {w:Y} {g:Nat} {t:V} {n:Nat} {f f':Nat→Z} (h:Row w g t n f) (e:∀i,i < n→f i=f' i):Row w g t n f':=by
 obtain ⟨A,hb,hs,hf⟩:=h;exact ⟨A,hb,hs,fun i hi=>by rw [hf i hi,e i hi]⟩
theorem Row.made (w:Y) (n:Nat) (z:Z) (t:V) (g:Nat) (hg:g=w.heap.size):Row (w.alloc (ψ (madeCells #[z] n) t)) g t n (fun _=>z):=
 ⟨_,Blk.new' _ _ _ _ hg,size_madeCells _ _,fun i hi=>by simp [madeCells,hi,Nat.mod_one]⟩
def Keep (X:List Nat) (w w':Y):Prop:=∀k∈X,w'.heap[k]? =w.heap[k]?
theorem Keep.refl (X:List Nat) (w:Y):Keep X w w:=fun _ _=>rfl
theorem Keep.trans {X:List Nat} {a b c:Y} (h:Keep X a b) (k:Keep X b c):Keep X a c:=fun i hi=>(k i hi).trans (h i hi)
theorem Blk.keep {X:List Nat} {w w':Y} {b:Nat} {c:Array Z} {t:V} (h:Blk w b c t) (m:Keep X w w') (hb:b∈X):Blk w' b c t:=by
 unfold Blk at *;rw [m b hb];exact h
theorem Row.keep {X:List Nat} {w w':Y} {g:Nat} {t:V} {n:Nat} {f:Nat→Z} (h:Row w g t n f) (m:Keep X w w') (hb:g∈X):Row w' g t n f:=by
 obtain ⟨A,hb',r⟩:=h;exact ⟨A,hb'.keep m hb,r⟩
theorem Mod.keep {S X:List Nat} {w w':Y} (m:Mod S w w') (h:∀k∈X,k < w.heap.size∧k∉S):Keep X w w':=fun k hk=>m.block k (h k hk).1 (h k hk).2
def IntRow (k:IntKind) (w:Y) (a:Option Addr) (len cap:Nat) (z:Nat→Int):Prop:=
 len≤cap∧∀i,i < len→∃b off,a=W ⟨b,off,O⟩∧b < w.heap.size∧w.cell? ⟨b,off+i,O⟩=W (.int k (z i))∧(Lit.int k (z i)).wf=true
def Recs (w:Y) (a:Option Addr) (len cap:Nat) (ks:List IntKind) (z:Nat→Nat→Int):Prop:=
 len≤cap∧∀i,i < len→∃b off,a=W ⟨b,off,O⟩∧b < w.heap.size∧∀j k,ks[j]? =W k→w.cell? ⟨b,off+i *ks.length+j,O⟩=W (.int k (z i j))∧(Lit.int k (z i j)).wf=true
inductive Ex where
 | con (b:Bool)
 | var (v:Nat)
 | not (x:Ex)
 | bin (op:Nat) (a b:Ex)
 | bnd (each:Bool) (l:List Nat) (x:Ex)
structure Tk where
 k:Nat
 n:Nat
 at_:Nat
def Xg (k:Nat):Nat:=if k=61 then 1 else if k=62 then 2 else if k=94 then 3 else if k=124 then 4 else if k=38 then 5 else 0
mutual
inductive Un:List Tk→Ex→Prop
 | con (t:Tk):t.k=48∨t.k=49→Un [t] (.con (decide (t.k=49)))
 | var (t:Tk):t.k=118→Un [t] (.var t.n)
 | not (t:Tk) {ts:List Tk} {x:Ex}:t.k=33→Un ts x→Un (t::ts) (.not x)
 | par (t:Tk) {ts:List Tk} (t':Tk) {x:Ex}:t.k=40→t'.k=41→Fl 1 ts x→Un (t::(ts++[t'])) x
 | bnd (t:Tk) (v:Tk) (vs:List Tk) (d:Tk) {ts:List Tk} {x:Ex}:t.k=115∨t.k=101→v.k=118→(∀u∈vs,u.k=118)→d.k=46→Un ts x→
  Un (t::v::(vs++d::ts)) (.bnd (decide (t.k=101)) (v.n::vs.map Tk.n) x)
inductive Fl:Nat→List Tk→Ex→Prop
 | unit {ts:List Tk} {x:Ex}:Un ts x→Fl 6 ts x
 | up {r:Nat} {ts:List Tk} {x:Ex}:r < 6→0 < r→Fl (r+1) ts x→Fl r ts x
 | left {r:Nat} {ts1 ts2:List Tk} {t:Tk} {a b:Ex}:0 < r→r < 6→r≠2→Xg t.k=r→Fl r ts1 a→Fl (r+1) ts2 b→Fl r (ts1++t::ts2) (.bin t.k a b)
 | right {ts1 ts2:List Tk} {t:Tk} {a b:Ex}:t.k=62→Fl 3 ts1 a→Fl 2 ts2 b→Fl 2 (ts1++t::ts2) (.bin t.k a b)
end
theorem Fl.le {r:Nat} {ts:List Tk} {x:Ex} (h:Fl r ts x):r≤6:=by
 cases h with
 | unit=>omega
 | up a b c=>omega
 | left a b c=>omega
 | right a b c=>omega
theorem Fl.down {x:Ex} {ts:List Tk}:∀d q,Fl (q+d) ts x→0 < q→Fl q ts x:=by
 intro d
 induction d with
 | zero=>intro q h _;exact h
 | succ d ih=>
  intro q h h0;have:=h.le;exact .up (C) h0 (ih (q+1) (by rw [show q+1+d=q+(d+1) from C];exact h) (C))
def za5:List Nat→List Nat
 | []=>[]
 | b::l=>if b=33 then za5 l else b::l
def Xn (st:Nat) (S:List Nat):List Tk→Prop
 | []=>False
 | t::ts=>
  if st=0 then
   if t.k=33∨t.k=40 then Xn 0 (t.k::S) ts
   else if t.k=115∨t.k=101 then Xn 2 (33::S) ts
   else if t.k=48∨t.k=49∨t.k=118 then Xn 1 (za5 S) ts else False
  else if st=2 then if t.k=118 then Xn 3 S ts else False
  else if st=3 then if t.k=118 then Xn 3 S ts else if t.k=46 then Xn 0 S ts else False
  else if t.k=38∨t.k=124∨t.k=94∨t.k=62∨t.k=61 then Xn 0 S ts
  else if t.k=41∧S≠[] then Xn 1 (za5 S.tail) ts
  else t.k=122∧S=[]
theorem acc0 (S:List Nat) (t:Tk) (ts:List Tk):Xn 0 S (t::ts)=if t.k=33∨t.k=40 then Xn 0 (t.k::S) ts
 else if t.k=115∨t.k=101 then Xn 2 (33::S) ts
 else if t.k=48∨t.k=49∨t.k=118 then Xn 1 (za5 S) ts else False:=rfl
theorem acc1 (S:List Nat) (t:Tk) (ts:List Tk):Xn 1 S (t::ts)=if t.k=38∨t.k=124∨t.k=94∨t.k=62∨t.k=61 then Xn 0 S ts
 else if t.k=41∧S≠[] then Xn 1 (za5 S.tail) ts
 else (t.k=122∧S=[]):=rfl
theorem acc2 (S:List Nat) (t:Tk) (ts:List Tk):Xn 2 S (t::ts)=if t.k=118 then Xn 3 S ts else False:=rfl
theorem yL5 (S:List Nat) (t:Tk) (ts:List Tk):Xn 3 S (t::ts)=if t.k=118 then Xn 3 S ts else if t.k=46 then Xn 0 S ts else False:=rfl
theorem zP1 (S:List Nat):za5 (za5 S)=za5 S:=by
 induction S with
 | nil=>rfl
 | cons b l ih=>
  by_cases e:b=33
  ·simp [za5,e,ih]
  ·simp [za5,e]
inductive Flat:List Tk→Prop
 | one {ts:List Tk} {x:Ex}:Un ts x→Flat ts
 | more {ts1 ts2:List Tk} {t:Tk} {x:Ex}:Un ts1 x→0 < Xg t.k→Flat ts2→Flat (ts1++t::ts2)
inductive FlR (r:Nat):Nat→List Tk→Prop
 | one {ts:List Tk} {x:Ex}:Un ts x→FlR r 0 ts
 | more {n:Nat} {ts1 ts2:List Tk} {t:Tk} {x:Ex}:Un ts1 x→r≤Xg t.k→0 < Xg t.k→FlR r n ts2→FlR r (n+1) (ts1++t::ts2)
theorem Flat.flR {ts:List Tk} (h:Flat ts):∃n,FlR 1 n ts:=by
 induction h with
 | one u=>exact ⟨0,.one u⟩
 | more u hr _ ih=>obtain ⟨n,h⟩:=ih;exact ⟨n+1,.more u hr hr h⟩
theorem yu9 (k:Nat):Xg k≤5:=by
 unfold Xg;repeat' split
 all_goals omega
theorem FlR.app {r n m:Nat} {ts1 ts2:List Tk} {t:Tk} (h:FlR r n ts1) (hr:r≤Xg t.k) (h0:0 < Xg t.k) (k:FlR r m ts2):FlR r (n+m+1) (ts1++t::ts2):=by
 induction h with
 | one u=>rw [show 0+m+1=m+1 from C];exact .more u hr h0 k
 | more u hr' h0' _ ih=>rw [χ,List.cons_append,show ∀n:Nat,n+1+m+1=(n+m+1)+1 from C];exact .more u hr' h0' ih
theorem FlR.first {r n:Nat} {ts:List Tk} (h:FlR r n ts):FlR (r+1) n ts∨∃ts1 t ts2 n1 n2,ts=ts1++t::ts2∧Xg t.k=r∧0 < r∧FlR (r+1) n1 ts1∧FlR r n2 ts2∧n1+n2 < n:=by
 induction h with
 | one u=>exact .inl (.one u)
 | @more n ts1 ts2 t x u hr h0 k ih=>
  by_cases e:Xg t.k=r
  ·exact .inr ⟨ts1,t,ts2,0,n,rfl,e,C,.one u,k,C⟩
  ·rcases ih with ih | ⟨a,s,b,n1,n2,rfl,e1,e0,h1,h2,hn⟩
   ·exact .inl (.more u (C) h0 ih)
   ·exact .inr ⟨ts1++t::a,s,b,n1+1,n2,ze,e1,e0,.more u (C) h0 h1,h2,C⟩
theorem FlR.last {r n:Nat} {ts:List Tk} (h:FlR r n ts):FlR (r+1) n ts∨∃ts1 t ts2 n1 n2,ts=ts1++t::ts2∧Xg t.k=r∧0 < r∧FlR r n1 ts1∧FlR (r+1) n2 ts2∧n1+n2 < n:=by
 induction h with
 | one u=>exact .inl (.one u)
 | @more n ts1 ts2 t x u hr h0 k ih=>
  rcases ih with ih | ⟨a,s,b,n1,n2,rfl,e1,e0,h1,h2,hn⟩
  ·by_cases e:Xg t.k=r
   ·exact .inr ⟨ts1,t,ts2,0,n,rfl,e,C,.one u,ih,C⟩
   ·exact .inl (.more u (C) h0 ih)
  ·exact .inr ⟨ts1++t::a,s,b,n1+1,n2,ze,e1,e0,.more u hr h0 h1,h2,C⟩
theorem zC0 {k:Nat} (h:Xg k=2):k=62:=by
 unfold Xg at h;repeat' split at h
 all_goals first | assumption | omega
theorem FlR.fl:∀d r,r+d=6→0 < r→∀n ts,FlR r n ts→∃x,Fl r ts x:=by
 intro d
 induction d with
 | zero=>
  intro r hr h0 n ts h;obtain rfl:r=6:=C;cases h with
  | one u=>exact ⟨_,.unit u⟩
  | more u hr' _ _=>exact absurd hr' (by have:=yu9;rename_i t _ _ _;have:=this t.k;omega)
 | succ d ih=>
  intro r hr h0 n
  induction n using ν with
  | ind n ihn=>
   intro ts h;by_cases e:r=2
   ·subst e;rcases h.first with h | ⟨ts1,t,ts2,n1,n2,rfl,e1,e0,h1,h2,hn⟩
    ·obtain ⟨x,hx⟩:=ih 3 (C) (C) _ _ h;exact ⟨x,.up (C) (C) hx⟩
    ·obtain ⟨a,ha⟩:=ih 3 (C) (C) _ _ h1;obtain ⟨b,hb⟩:=ihn n2 (C) _ h2;exact ⟨_,.right (zC0 e1) ha hb⟩
   ·rcases h.last with h | ⟨ts1,t,ts2,n1,n2,rfl,e1,e0,h1,h2,hn⟩
    ·obtain ⟨x,hx⟩:=ih (r+1) (C) (C) _ _ h;exact ⟨x,.up (C) (C) hx⟩
    ·obtain ⟨b,hb⟩:=ih (r+1) (C) (C) _ _ h2;obtain ⟨a,ha⟩:=ihn n1 (C) _ h1;exact ⟨_,.left (C) (C) e e1 ha hb⟩
theorem Flat.fl {ts:List Tk} (h:Flat ts):∃x,Fl 1 ts x:=by
 obtain ⟨n,h⟩:=h.flR;exact FlR.fl 5 1 rfl (C) n ts h
theorem yl3 {S:List Nat}:∀{ts:List Tk},Xn 3 S ts→∃vs d rest,ts=vs++d::rest∧(∀u∈vs,u.k=118)∧d.k=46∧Xn 0 S rest:=by
 intro ts
 induction ts with
 | nil=>intro h;exact absurd h (yF)
 | cons t ts ih=>
  intro h;rw [yL5] at h;split at h
  ·rename_i e
   obtain ⟨vs,d,rest,rfl,hv,hd,hr⟩:=ih h
   exact ⟨t::vs,d,rest,rfl,(by
    intro u hu;simp at hu;rcases hu with rfl | hu
    ·exact e
    ·exact hv u hu),hd,hr⟩
  ·split at h
   ·rename_i _ e;exact ⟨[],t,ts,rfl,ze,e,h⟩
   ·exact h.elim
theorem zE9:∀n,∀ts:List Tk,ts.length≤n→∀S,(Xn 0 S ts→∃us x rest,Un us x∧ts=us++rest∧us≠[]∧Xn 1 (za5 S) rest)∧
 (Xn 1 (za5 S) ts→ts=[]∨(∃z rest,ts=z::rest∧z.k=122∧za5 S=[])∨(∃t rest,ts=t::rest∧t.k=41∧za5 S≠[]∧Xn 1 (za5 (za5 S).tail) rest)∨
  ∃t us rest,0 < Xg t.k∧Flat us∧ts=t::(us++rest)∧((∃z r,rest=z::r∧z.k=122∧za5 S=[])∨∃c r,rest=c::r∧c.k=41∧za5 S≠[]∧Xn 1 (za5 (za5 S).tail) r)):=by
 intro n
 induction n with
 | zero=>
  intro ts hl S;obtain rfl:ts=[]:=π.1 (C);exact ⟨fun h=>absurd h (yF),fun h=>.inl rfl⟩
 | succ n ih=>
  intro ts hl S;cases ts with
  | nil=>exact ⟨fun h=>absurd h (yF),fun h=>.inl rfl⟩
  | cons t ts=>
   have hl':ts.length≤n:=yd;constructor
   ·intro h;rw [acc0] at h;split at h
    ·rename_i e
     rcases e with e | e
     ·rw [e] at h;obtain ⟨us,x,rest,hu,rfl,hne,hr⟩:=(ih ts hl' _).1 h;exact ⟨t::us,_,rest,.not t e hu,rfl,ze,by simpa [za5] using hr⟩
     ·rw [e] at h;obtain ⟨us,x,rest,hu,rfl,hne,hr⟩:=(ih ts hl' _).1 h;have hp:za5 (40::S)=40::S:=by simp [za5]
      have hlr:rest.length≤n:=qW;have key:=(ih rest hlr (40::S)).2 hr;rw [hp] at key;rcases key with rfl | ⟨z,r,rfl,hz,hS⟩ | ⟨c,r,rfl,hc,_,ha⟩ | ⟨o,us2,r2,ho,hf,rfl,key⟩
      ·exact absurd hr (yF)
      ·cases hS
      ·obtain ⟨y,hy⟩:=(Flat.one hu).fl;exact ⟨t::(us++[c]),y,r,.par t c e hc hy,ze,ze,by simpa using ha⟩
      ·rcases key with ⟨z,r,rfl,hz,hS⟩ | ⟨c,r,rfl,hc,_,ha⟩
       ·cases hS
       ·obtain ⟨y,hy⟩:=(Flat.more hu ho hf).fl;exact ⟨t::((us++o::us2)++[c]),y,r,.par t c e hc hy,ze,ze,by simpa using ha⟩
    ·split at h
     ·rename_i _ e
      cases ts with
      | nil=>exact absurd h (yF)
      | cons v ts=>
       rw [acc2] at h;split at h
       ·rename_i ev
        obtain ⟨vs,d,rest,rfl,hv,hd,hr⟩:=yl3 h;have hlr:rest.length≤n:=qW;obtain ⟨us,x,rest,hu,rfl,hne,hr⟩:=(ih rest hlr _).1 hr;exact ⟨t::v::(vs++d::us),_,rest,.bnd t v vs d e ev hv hd hu,ze,ze,by simpa [za5] using hr⟩
       ·exact h.elim
     ·split at h
      ·rename_i _ _ e
       by_cases e':t.k=118
       ·exact ⟨[t],_,ts,.var t e',rfl,ze,h⟩
       ·exact ⟨[t],_,ts,.con t (C),rfl,ze,h⟩
      ·exact h.elim
   ·intro h;rw [acc1] at h;split at h
    ·rename_i e
     have hk:0 < Xg t.k:=by
      rcases e with e | e | e | e | e<;>rw [e]<;>decide
     obtain ⟨us,x,rest,hu,rfl,hne,hr⟩:=(ih ts hl' _).1 h;rw [zP1] at hr;have hlr:rest.length≤n:=qW;rcases (ih rest hlr S).2 hr with rfl | ⟨z,r,rfl,hz,hS⟩ | ⟨c,r,rfl,hc,hS,ha⟩ | ⟨o,us2,r2,ho,hf,rfl,key⟩
     ·exact absurd hr (yF)
     ·exact .inr (.inr (.inr ⟨t,us,_,hk,.one hu,rfl,.inl ⟨z,r,rfl,hz,hS⟩⟩))
     ·exact .inr (.inr (.inr ⟨t,us,_,hk,.one hu,rfl,.inr ⟨c,r,rfl,hc,hS,ha⟩⟩))
     ·exact .inr (.inr (.inr ⟨t,us++o::us2,r2,hk,.more hu ho hf,ze,key⟩))
    ·split at h
     ·rename_i _ e
      exact .inr (.inr (.inl ⟨t,ts,rfl,e.1,e.2,h⟩))
     ·exact .inr (.inl ⟨t,ts,rfl,h.1,h.2⟩)
theorem yp3 {ts:List Tk} {z:Tk} (hz:∀t∈ts,t.k≠122) (h:Xn 0 [] (ts++[z])):z.k=122∧∃x,Fl 1 ts x:=by
 obtain ⟨us,x,rest,hu,e,hne,hr⟩:=(zE9 _ _ (N _) []).1 h
 have fin:∀(A:List Tk) (y:Tk) (r:List Tk),ts++[z]=A++y::r→y.k=122→A=ts∧z=y:=by
  intro A y r e hy;by_cases hr:r=[]
  ·subst hr;have:=Qd e rfl;exact ⟨this.1.symm,by simpa using this.2⟩
  ·exfalso
   have hm:y∈ts:=by
    obtain ⟨r',q,rfl⟩:∃r' q,r=r'++[q]:=⟨r.dropLast,r.getLast hr,(List.dropLast_concat_getLast hr).symm⟩;have e2:ts++[z]=(A++y::r')++[q]:=by rw [e];simp
    have:=(Qd e2 rfl).1;rw [this];simp
   exact hz y hm hy
 rcases (zE9 _ _ (N _) []).2 hr with rfl | ⟨y,r,rfl,hy,_⟩ | ⟨c,r,_,_,hS,_⟩ | ⟨o,us2,r2,ho,hf,rfl,key⟩
 ·exact absurd hr (yF)
 ·obtain ⟨rfl,rfl⟩:=fin _ _ _ e hy;exact ⟨hy,(Flat.one hu).fl⟩
 ·exact absurd rfl hS
 ·rcases key with ⟨y,r,rfl,hy,_⟩ | ⟨c,r,rfl,hc,hS,_⟩
  ·obtain ⟨rfl,rfl⟩:=fin (us++o::us2) y r (by rw [e];simp) hy;exact ⟨hy,(Flat.more hu ho hf).fl⟩
  ·exact absurd rfl hS
def zm7 (c:Nat):Bool:=(decide (97≤c) && decide (c≤122)) || (decide (65≤c) && decide (c≤90)) || (decide (48≤c) && decide (c≤57))
def zN2:List Nat:=[33,38,124,94,62,61,40,41,46]
def YQ (w:List Nat):Nat × Nat:=
 if w=[48] then (48,0) else if w=[49] then (49,0) else if w=[115,111,109,101] then (115,0) else if w=[101,97,99,104] then (101,0) else
 match w with
 | [a,b]=>if a=120∧48≤b∧b≤57 then (118,b - 48) else (98,0)
 | [a,b,c]=>if a=120∧b=49∧48≤c∧c≤53 then (118,10+(c - 48)) else (98,0)
 | _=>(98,0)
theorem zg5 (w:List Nat):(YQ w).1=48∨(YQ w).1=49∨(YQ w).1=115∨(YQ w).1=101∨(YQ w).1=98∨((YQ w).1=118∧(YQ w).2 < 16):=by
 unfold YQ
 repeat' split
 all_goals simp
 all_goals omega
def za0 (c:Nat):Nat:=if c∈zN2 then c else 98
theorem zp2 (c:Nat):za0 c≠122∧za0 c≠118∧za0 c≠48∧za0 c≠49∧za0 c≠115∧za0 c≠101:=by
 unfold za0 zN2;split
 ·rename_i h;simp at h;omega
 ·omega
def YK (t:List Nat) (at_:Nat):Nat:=at_+((t.drop at_).takeWhile (fun c=>c==32)).length
def za8 (t:List Nat) (s:Nat):Nat:=s+((t.drop s).takeWhile zm7).length
def XC (t:List Nat) (s:Nat):List Nat:=(t.drop s).takeWhile zm7
def YL (t:List Nat) (at_:Nat):Tk × Nat:=
 match t[YK t at_]? with
 | none=>(⟨122,0,YK t at_⟩,YK t at_)
 | some c=>if zm7 c then (⟨(YQ (XC t (YK t at_))).1,(YQ (XC t (YK t at_))).2,YK t at_⟩,za8 t (YK t at_)) else (⟨za0 c,0,YK t at_⟩,YK t at_+1)
theorem zu6 {α:Type} (p:α→Bool) (l:List α):(l.takeWhile p).length≤l.length:=by
 induction l with
 | nil=>simp
 | cons a l ih=>rw [J];split<;>simp<;>omega
theorem zh6 {t:List Nat} {a:Nat} (h:a≤t.length):a≤YK t a∧YK t a≤t.length:=by
 have:=zu6 (fun c=>c==32) (t.drop a);unfold YK;rw [Φ] at this;omega
theorem XO {t:List Nat} {a:Nat} (h:a≤t.length):a≤za8 t a∧za8 t a≤t.length:=by
 have:=zu6 zm7 (t.drop a);unfold za8;rw [Φ] at this;omega
theorem zf2 {t:List Nat} {a c:Nat} (h:t[a]? =W c):t.drop a=c::t.drop (a+1):=by
 obtain ⟨hl,e⟩:=U.1 h;rw [List.drop_eq_getElem_cons hl,e]
theorem zi5 {t:List Nat} {a:Nat} (h:t[a]? =W 32):YK t a=YK t (a+1):=by
 unfold YK;rw [zf2 h,J];simp;omega
theorem zb8 {t:List Nat} {a:Nat} (h:t[a]? ≠W 32):YK t a=a:=by
 unfold YK;cases e:t[a]? with
 | none=>rw [μ (D.1 e)];simp
 | some c=>
  rw [zf2 e,J,if_neg (by rw [e] at h;simpa using h)];simp
theorem Xo {t:List Nat} {a c:Nat} (h:t[a]? =W c) (hc:zm7 c=true):za8 t a=za8 t (a+1):=by
 unfold za8;rw [zf2 h,J,if_pos hc];simp;omega
theorem zh0 {t:List Nat} {a:Nat} (h:∀c,t[a]? =W c→zm7 c=false):za8 t a=a:=by
 unfold za8;cases e:t[a]? with
 | none=>rw [μ (D.1 e)];simp
 | some c=>rw [zf2 e,J,if_neg (by rw [h c e];simp)];simp
theorem zM1 (t:List Nat) (s:Nat):(XC t s).length=za8 t s - s:=by unfold XC za8;omega
theorem zY6 (t:List Nat) (s:Nat):XC t s=(t.drop s).take (za8 t s - s):=by
 rw [←zM1];unfold XC
 induction t.drop s with
 | nil=>rfl
 | cons a l ih=>
  rw [J];split
  ·simp;exact ih
  ·simp
theorem zc4 {t:List Nat} {a:Nat} (h:a≤t.length):a≤(YL t a).2∧(YL t a).2≤t.length∧((YL t a).1.k≠122→a < (YL t a).2):=by
 have hb:=zh6 h;have hl:=XO hb.2;unfold YL;cases e:t[YK t a]? with
 | none=>simp;omega
 | some c=>
  have hlt:=(U.1 e).1;simp only;split
  ·rename_i hc
   refine ⟨zj,zj,fun _=>?_⟩;have:=Xo e hc;have h1:=XO (t:=t) (a:=YK t a+1) hlt;simp;omega
  ·exact ⟨zj,zj,fun _=>zj⟩
theorem ya2 {t:List Nat} {a:Nat} (h:(YL t a).1.k=122):(YL t a).2=(YL t a).1.at_∧t.length≤(YL t a).2:=by
 unfold YL at *;cases e:t[YK t a]? with
 | none=>simp;exact D.1 e
 | some c=>
  rw [e] at h;simp only at h;split at h
  ·have:=zg5 (XC t (YK t a));simp only at h;omega
  ·exact absurd h (zp2 c).1
def zj0 (t:List Nat) (a:Nat):List Tk:=
 if h:(YL t a).1.k=122∨t.length < a then [(YL t a).1] else (YL t a).1::zj0 t (YL t a).2
 termination_by t.length - a
 decreasing_by
  have h':¬(YL t a).1.k=122∧¬t.length < a:=⟨fun q=>h (.inl q),fun q=>h (.inr q)⟩;have:=zc4 (t:=t) (a:=a) (C);have:=this.2.2 h'.1;omega
theorem XG {t:List Nat} {a:Nat} (h:(YL t a).1.k=122):zj0 t a=[(YL t a).1]:=by
 rw [zj0,dif_pos (.inl h)]
theorem XL {t:List Nat} {a:Nat} (ha:a≤t.length) (h:(YL t a).1.k≠122):zj0 t a=(YL t a).1::zj0 t (YL t a).2:=by
 rw [zj0,dif_neg (C)]
theorem zS3 {t:List Nat} {a:Nat} (ha:a≤t.length):∃R,zj0 t a=(YL t a).1::R∧((YL t a).1.k=122∧R=[]∨(YL t a).1.k≠122∧R=zj0 t (YL t a).2):=by
 by_cases h:(YL t a).1.k=122
 ·exact ⟨[],XG h,.inl ⟨h,rfl⟩⟩
 ·exact ⟨_,XL ha h,.inr ⟨h,rfl⟩⟩
theorem zI5 {t:List Nat} {a:Nat} (h:t[a]? =W 32):zj0 t a=zj0 t (a+1):=by
 have hl:=(U.1 h).1;have e:YL t a=YL t (a+1):=by unfold YL;rw [zi5 h]
 by_cases q:(YL t a).1.k=122
 ·rw [XG q,XG (a:=a+1) (by rw [←e];exact q),e]
 ·rw [XL (a:=a) (C) q,XL (a:=a+1) (C) (by rw [←e];exact q),e]
theorem zU5 {t:List Nat} {a:Nat} (ha:a≤t.length):∃R z,zj0 t a=R++[z]∧z.k=122∧∀u∈R,u.k≠122:=by
 obtain ⟨d,hd⟩:∃d,t.length - a=d:=⟨_,rfl⟩
 induction d using ν generalizing a with
 | ind d ih=>
  by_cases h:(YL t a).1.k=122
  ·exact ⟨[],_,XG h,h,ze⟩
  ·have hl:=zc4 ha;obtain ⟨R,z,e,hz,hR⟩:=ih _ (by have:=hl.2.2 h;omega) hl.2.1 rfl;refine ⟨(YL t a).1::R,z,by rw [XL ha h,e];rfl,hz,fun u hu=>?_⟩;rcases Ql.1 hu with rfl | hu
   ·exact h
   ·exact hR u hu
theorem zY1 (t:List Nat) (a:Nat):(YL t a).1.n < 16:=by
 unfold YL;cases t[YK t a]? with
 | none=>simp
 | some c=>
  simp only;split
  ·have:=zg5 (XC t (YK t a));simp only
   have h:∀w,(YQ w).2 < 16:=fun w=>by
    unfold YQ
    repeat' split
    all_goals simp
    all_goals omega
   exact h _
  ·simp
theorem yI5 {t:List Nat} {a:Nat} (ha:a≤t.length):∀u∈zj0 t a,u.n < 16:=by
 obtain ⟨d,hd⟩:∃d,t.length - a=d:=⟨_,rfl⟩
 induction d using ν generalizing a with
 | ind d ih=>
  intro u hu;by_cases h:(YL t a).1.k=122
  ·rw [XG h] at hu;simp at hu;subst hu;exact zY1 t a
  ·have hl:=zc4 ha;rw [XL ha h] at hu;rcases Ql.1 hu with rfl | hu
   ·exact zY1 t a
   ·exact ih _ (by have:=hl.2.2 h;omega) hl.2.1 rfl u hu
open Go.RowKit
def Sl (w:Y) (E size:Nat) (v:Z) (n:Nat) (xs:List Z) (F:List Nat):Prop:=
 xs.length=n *size∧
 ((v=T O 0 0∧n=0∧F=[])∨
  ∃g cap cur,v=T (W ⟨g,0,O⟩) n cap∧F=[g]∧Blk w g cur E∧n≤cap∧cap≤maxLen∧cur.size=cap *size∧cur.toList.take (n *size)=xs)
section
variable {w:Y} {E size:Nat} {v:Z} {n:Nat} {xs:List Z} {F:List Nat}
theorem Sl.nil (w:Y) (E size:Nat):Sl w E size (T O 0 0) 0 [] []:=⟨ze,.inl ⟨rfl,rfl,rfl⟩⟩
theorem Sl.own (h:Sl w E size v n xs F):w.ownsRow 0 E size v n xs:=by
 refine ⟨h.1,?_⟩;rcases h.2 with ⟨a,b,_⟩ | ⟨g,cap,cur,a,_,hb,r⟩
 ·exact .inl ⟨a,b⟩
 ·exact .inr ⟨g,cap,cur,a,Nat.zero_le _,hb,r⟩
theorem Sl.ownBlock (h:Sl w E size v n xs F):∀k,v.ownBlock=W k→k∈F:=by
 intro k hk;rcases h.2 with ⟨a,_,_⟩ | ⟨g,cap,cur,a,b,_⟩
 ·subst a;simp [Qk] at hk
 ·subst a;subst b;simp [Qk] at hk;simp [hk]
theorem Sl.lt (h:Sl w E size v n xs F):∀k∈F,k < w.heap.size:=by
 intro k hk;rcases h.2 with ⟨_,_,c⟩ | ⟨g,cap,cur,_,b,hb,_⟩
 ·subst c;simp at hk
 ·subst b;simp at hk;subst hk;exact hb.lt
theorem Sl.mod {S:List Nat} {w':Y} (h:Sl w E size v n xs F) (m:Mod S w w') (hd:∀k∈F,k∉S):Sl w' E size v n xs F:=by
 refine ⟨h.1,?_⟩;rcases h.2 with a | ⟨g,cap,cur,a,b,hb,r⟩
 ·exact .inl a
 ·exact .inr ⟨g,cap,cur,a,b,hb.mod m (hd g (by simp [b])),r⟩
theorem Sl.keep {w':Y} (h:Sl w E size v n xs F) (m:Keep F w w'):Sl w' E size v n xs F:=by
 refine ⟨h.1,?_⟩;rcases h.2 with a | ⟨g,cap,cur,a,b,hb,r⟩
 ·exact .inl a
 ·exact .inr ⟨g,cap,cur,a,b,hb.keep m (by simp [b]),r⟩
theorem Sl.shape (h:Sl w E size v n xs F):∃a cap,v=T a n cap∧n≤cap:=by
 rcases h.2 with ⟨a,b,_⟩ | ⟨g,cap,cur,a,_,_,c,_⟩
 ·exact ⟨O,0,by rw [a,b],C⟩
 ·exact ⟨_,cap,a,c⟩
theorem Sl.pos (h:Sl w E size v n xs F) (hn:0 < n):∃g cap,v=T (W ⟨g,0,O⟩) n cap∧F=[g]∧n≤cap:=by
 rcases h.2 with ⟨a,b,_⟩ | ⟨g,cap,cur,a,b,_,c,_⟩
 ·omega
 ·exact ⟨g,cap,a,b,c⟩
theorem wY {p:Prop} (h:p:=by
 rcases h.2 with ⟨a,_,_⟩ | ⟨g',cap',cur,a,b,_⟩
 ·simp at a
 ·simp only [φ,τ,Addr.mk.injEq,and_true,true_and] at a
  rw [b,a.1]):p:=h
theorem Sl.at {g cap:Nat} (h:Sl w E size (T (W ⟨g,0,O⟩) n cap) n xs F) (j:Nat) (hj:j < n *size):w.cell? ⟨g,j,O⟩=xs[j]? ∧w.frozen? ⟨g,j,O⟩=false∧F=[g]:=by
 have h1:=h.own;refine ⟨h1.cellAt j hj,h1.frozenAt j,?_⟩;exact wY
theorem Sl.block {g cap:Nat} (h:Sl w E size (T (W ⟨g,0,O⟩) n cap) n xs F):F=[g]:=by
 exact wY
theorem Sl.set {g cap:Nat} (h:Sl w E size (T (W ⟨g,0,O⟩) n cap) n xs F) (j:Nat) (u:Z):Sl (w.setCell ⟨g,j,O⟩ u) E size (T (W ⟨g,0,O⟩) n cap) n (xs.set j u) F:=by
 refine ⟨by simpa using h.1,?_⟩;rcases h.2 with ⟨a,_,_⟩ | ⟨g',cap',cur,a,b,hb,c1,c2,c3,c4⟩
 ·simp at a
 ·simp only [φ,τ,Addr.mk.injEq,and_true,true_and] at a;obtain ⟨rfl,rfl⟩:=a;exact .inr ⟨g,cap,_,rfl,b,hb.set j u,c1,c2,by simpa using c3,by rw [Array.toList_setIfInBounds,←c4,List.take_set]⟩
theorem Sl.take {g cap:Nat} (h:Sl w E size (T (W ⟨g,0,O⟩) n cap) n xs F) (k:Nat) (hk:k≤n):Sl w E size (T (W ⟨g,0,O⟩) k cap) k (xs.take (k *size)) F:=by
 have hks:k *size≤n *size:=Nat.mul_le_mul_right _ hk;refine ⟨by rw [σ,h.1];omega,?_⟩;rcases h.2 with ⟨a,_,_⟩ | ⟨g',cap',cur,a,b,hb,c1,c2,c3,c4⟩
 ·simp at a
 ·simp only [φ,τ,Addr.mk.injEq,and_true,true_and] at a;obtain ⟨rfl,rfl⟩:=a;exact .inr ⟨g,cap,cur,rfl,b,hb,C,c2,c3,by rw [←c4,List.take_take];congr 1;omega⟩
theorem Sl.made (w:Y) (E size n:Nat) (z:Array Z) (hm:n≤maxLen):Sl (w.alloc (ψ (madeCells z (n *size)) E)) E size (T (W ⟨w.heap.size,0,O⟩) n n) n (madeCells z (n *size)).toList [w.heap.size]:=
 ⟨by simp [size_madeCells],.inr ⟨_,n,_,rfl,rfl,Blk.new _ _ _,N _,hm,size_madeCells _ _,by rw [G];simp [size_madeCells]⟩⟩
theorem Sl.lit (w:Y) (E size n:Nat) (cs:Array Z) (hm:n≤maxLen) (hs:cs.size=n *size):Sl (w.alloc (.cells cs E)) E size (.slice (W ⟨w.heap.size,0,O⟩) n n) n cs.toList [w.heap.size]:=
 ⟨by simpa using hs,.inr ⟨_,n,_,rfl,rfl,Blk.new _ _ _,N _,hm,hs,by rw [G];simp [hs]⟩⟩
end
theorem wX {p:Prop} (h:p:=by
 rcases h2.2 with ⟨hv,_⟩ | ⟨g',cap',cur',hv,_,hg',r⟩
 ·simp at hv
 ·refine ⟨_,w',[g'],hr,⟨h2.1,.inr ⟨g',cap',cur',hv,rfl,hg',r⟩⟩,(Mod.refl _ _).grown h3 (fun k hk _=>yP),fun k hk=>?_⟩;simp at hv;simp at hk;subst hk
  exact .inl (by simp [hv.1])):p:=h
theorem zf1 {P:κ} (w:Y) (t ty e:V) (i:TypeInfo) (z:Z) (size bytes:Nat) (ht:P.underlying t=W (.slice e)) (hi:P.info? e=W i) (hz:i.zero=W z)
 (hsize:i.size=size) (hby:i.bytes=bytes) (hzs:z.cells.size=size) (hsz:0 < size)
 (v:Z) (n:Nat) (xs:List Z) (F:List Nat) (hown:Sl w e size v n xs F)
 (a:Addr) (m c:Nat) (news:List Z) (hm:0 < m) (hl:news.length=m *size) (hnews:∀j u,news[j]? =W u→w.cell? (a.add j)=W u) (h1:∀u∈news,u.oneCell'=true)
 (h63:n+m≤maxLen) (hbytes:(n+m) *bytes≤140737488355328):
 ∃v' w' F',(Θ #[t,t] ty #[v,T (W a) m c]).run P w=.ok v' w'∧Sl w' e size v' (n+m) (xs++news) F'∧Mod F w w'∧(∀k∈F',k∈F∨w.heap.size≤k):=by
 rcases hown.2 with ⟨rfl,rfl,rfl⟩ | ⟨g,cap,cur,rfl,rfl,hg,hnc,hcm,hcs,htake⟩
 ·obtain ⟨v',w',hr,h2,h3,h4⟩:=run_append_own (P:=P) w w.heap.size t ty e i z size bytes ht hi hz hsize hby hzs hsz _ 0 xs (by
   refine ⟨hown.1,.inl ⟨rfl,rfl⟩⟩) a m c news hl hnews h1 h63 hbytes (N _)
  rcases h2.2 with ⟨hv,hn⟩ | ⟨g,cap,cur,hv,hb,hg,r⟩
  ·omega
  ·refine ⟨v',w',[g],hr,⟨h2.1,.inr ⟨g,cap,cur,hv,rfl,hg,r⟩⟩,(Mod.refl _ _).grown h3 (fun k hk=>qX),fun k hk=>?_⟩;simp at hk;subst hk;exact .inr hb
 ·by_cases hroom:n+m≤cap
  ·obtain ⟨w',hr,h2,h3⟩:=run_append_fits (P:=P) w 0 t ty e i size ht hi hsize g n cap xs hown.own a m c news hl hnews h1 hroom;exact wX
  ·have holds:∀j u,xs[j]? =W u→w.cell? ((⟨g,0,O⟩:Addr).add j)=W u:=hown.own.cells (g:=g) rfl;have hsmall:n+m≤9223372036854775807:=by simp only [maxLen] at h63;omega
   subst hsize;subst hby;have hlen:(xs++news).length=(n+m) *i.size:=by rw [ε,hown.1,hl,ι]
   have hr:=run_append_grow (P:=P) w t ty e i z ht hi hz ⟨g,0,O⟩ n cap xs hown.1 holds a m c news hl hnews (C) (C) (growslice_fits (C) hbytes);refine ⟨_,_,[w.heap.size],hr,⟨hlen,.inr ⟨w.heap.size,_,_,rfl,rfl,heap_alloc_new w.drew _,grownCap_ge w (n+m) cap e,grownCap_le_maxLen w (n+m) cap e h63,?_,?_⟩⟩,((Mod.refl _ _).drew).alloc _,fun k hk=>jM⟩
   ·have hge:=grownCap_ge w (n+m) cap e;simp only [Array.size_append,List.size_toArray,size_zeroCells,hzs,hown.1,hl,←ι]
    congr 1
    omega
   ·simp only [Array.toList_append,χ];rw [←χ,←hlen];exact List.take_left
theorem zi3 {P:κ} (w:Y) {o:Oper} {a:Act} {K:Act→Y→Prop} {Q:Exit→Act→Y→Prop} (s x:Operand) (t:V)
 (ho:o.op=.call { callee:=.builtin .append,args:=#[s,x],argTypes:=#[t,t] })
 (e:V) (i:TypeInfo) (z:Z) (size bytes:Nat) (ht:P.underlying t=W (.slice e)) (hi:P.info? e=W i) (hz:i.zero=W z)
 (hsize:i.size=size) (hby:i.bytes=bytes) (hzs:z.cells.size=size) (hsz:0 < size)
 (v:Z) (n:Nat) (xs:List Z) (F:List Nat) (hs:a.eval s=v) (hown:Sl w e size v n xs F)
 (ad:Addr) (m c:Nat) (news:List Z) (hm:0 < m) (hx:a.eval x=T (W ad) m c) (hl:news.length=m *size) (hnews:∀j u,news[j]? =W u→w.cell? (ad.add j)=W u) (h1:∀u∈news,u.oneCell'=true)
 (h63:n+m≤maxLen) (hbytes:(n+m) *bytes≤140737488355328)
 (h:∀v' w' F',Sl w' e size v' (n+m) (xs++news) F'→Mod F w w'→(∀k∈F',k∈F∨w.heap.size≤k)→K (a.put o.dst v') w'):o.wp P a w K Q:=by
 obtain ⟨v',w',F',hr,h2,h3,h4⟩:=zf1 (P:=P) w t o.type e i z size bytes ht hi hz hsize hby hzs hsz v n xs F hown ad m c news hm hl hnews h1 h63 hbytes;unfold Oper.wp execOp;simp only [ho,resolve,invoke,builtin,Sem.run_bind,Sem.run_pure,Result.andThen_ok,Qe,Qm,Qq,hs,hx,hr];exact h v' w' F' h2 h3 h4
theorem YF {P:κ} (w:Y) {ops:Array Oper} {rest:List Oper} {o:Oper} {a:Act} {Q:Exit→Act→Y→Prop} (hgd:o.guard=O) (s x:Operand) (t:V)
 (ho:o.op=.call { callee:=.builtin .append,args:=#[s,x],argTypes:=#[t,t] })
 (e:V) (i:TypeInfo) (z:Z) (size bytes:Nat) (ht:P.underlying t=W (.slice e)) (hi:P.info? e=W i) (hz:i.zero=W z)
 (hsize:i.size=size) (hby:i.bytes=bytes) (hzs:z.cells.size=size) (hsz:0 < size)
 (v:Z) (n:Nat) (xs:List Z) (F:List Nat) (hs:a.eval s=v) (hown:Sl w e size v n xs F)
 (ad:Addr) (m c:Nat) (news:List Z) (hm:0 < m) (hx:a.eval x=T (W ad) m c) (hl:news.length=m *size) (hnews:∀j u,news[j]? =W u→w.cell? (ad.add j)=W u) (h1:∀u∈news,u.oneCell'=true)
 (h63:n+m≤maxLen) (hbytes:(n+m) *bytes≤140737488355328)
 (h:∀v' w' F',Sl w' e size v' (n+m) (xs++news) F'→Mod F w w'→(∀k∈F',k∈F∨w.heap.size≤k)→wpList P ops Q rest (a.put o.dst v') w'):wpList P ops Q (o::rest) a w:=
 wpList_plain hgd fun _ hK=>zi3 w s x t ho e i z size bytes ht hi hz hsize hby hzs hsz v n xs F hs hown ad m c news hm hx hl hnews h1 h63 hbytes fun v' w' F' h2 h3 h4=>hK _ _ (h v' w' F' h2 h3 h4)
theorem XT {P:κ} {ops:Array Oper} {o:Oper} {a:Act} {w:Y} {K:Act→Y→Prop} {Q:Exit→Act→Y→Prop} {E:Prop}
 (hg:o.guard=O) (s x:Operand) (t:V) (hop:o.op=Op.call { callee:=Callee.builtin Builtin.append,args:=#[s,x],argTypes:=#[t,t] })
 (e:V) (i:TypeInfo) (z:Z) (size bytes:Nat) (ht:P.underlying t=W (.slice e)) (hi:P.info? e=W i) (hz:i.zero=W z)
 (hsize:i.size=size) (hby:i.bytes=bytes) (hzs:z.cells.size=size) (hsz:0 < size)
 (v:Z) (n:Nat) (xs:List Z) (F:List Nat) (hs:a.eval s=v) (hown:Sl w e size v n xs F)
 (ad:Addr) (m c:Nat) (news:List Z) (hm:0 < m) (hx:a.eval x=T (W ad) m c) (hl:news.length=m *size) (hnews:∀j u,news[j]? =W u→w.cell? (ad.add j)=W u) (h1:∀u∈news,u.oneCell'=true)
 (h63:n+m≤maxLen) (hbytes:(n+m) *bytes≤140737488355328)
 (h:∀v' w' F',Sl w' e size v' (n+m) (xs++news) F'→Mod F w w'→(∀k∈F',k∈F∨w.heap.size≤k)→K (a.put o.dst v') w'):
 if ζ o (yielded ops a.tmps)=true then Oper.wp P o a w K Q else E:=by
 have hw:ζ o (yielded ops a.tmps)=true:=by simp [ζ,hg]
 rw [if_pos hw];exact zi3 w s x t hop e i z size bytes ht hi hz hsize hby hzs hsz v n xs F hs hown ad m c news hm hx hl hnews h1 h63 hbytes h
def zj4 {α:Type} (f:α→List Z) (L:List α):List Z:=L.flatMap f
section
variable {α:Type} {f:α→List Z} {m:Nat} (hf:∀a,(f a).length=m)
include hf
theorem ze9 (L:List α) (i j:Nat) (hi:i < L.length) (hj:j < m):(zj4 f L)[i *m+j]? =(f L[i])[j]? :=by
 induction L generalizing i with
 | nil=>simp at hi
 | cons a L ih=>
  unfold zj4 at *;rw [List.flatMap_cons];cases i with
  | zero=>
   simp only [Nat.zero_mul,Nat.zero_add,List.getElem_cons_zero];rw [List.getElem?_append_left (by rw [hf];exact hj)]
  | succ i=>
   have hi':i < L.length:=by simpa using hi
   rw [List.getElem?_append_right (by rw [hf,ι];omega),hf];have e:(i+1) *m+j - m=i *m+j:=by rw [ι];omega
   rw [e];simpa using ih i hi'
end
theorem zd9 {α:Type} (f:α→List Z) (L L':List α):zj4 f (L++L')=zj4 f L++zj4 f L':=by simp [zj4]
theorem zE0 (w:Y) (cs:List Z) (t:V):∀j u,cs[j]? =W u→(w.alloc (ψ cs.toArray t)).cell? ((⟨w.heap.size,0,O⟩:Addr).add j)=W u:=by
 intro j u hu;have e:((⟨w.heap.size,0,O⟩:Addr).add j)=⟨w.heap.size,j,O⟩:=qY;rw [e,World.cell?_alloc_new];simpa using hu
theorem yA2 (w:Y) (cs:List Z) (t:V) (g:Nat) (hg:g=w.heap.size):∀j u,cs[j]? =W u→(w.alloc (ψ cs.toArray t)).cell? ((⟨g,0,O⟩:Addr).add j)=W u:=by
 subst hg;exact zE0 w cs t
theorem zO8 (w:Y) (cs:List Z) (t:V) (g:Nat) (hg:g=w.heap.size):∀j u,cs[j]? =W u→(w.alloc (ψ cs.toArray t)).drew.cell? ((⟨g,0,O⟩:Addr).add j)=W u:=by
 subst hg;exact zE0 w cs t
open Go.RowKit
def Rv (w:Y) (v:Z) (l:List Z) (F:List Nat):Prop:=
 ∃A cap,v=T A l.length cap∧l.length≤cap∧(0 < l.length→∃b off,A=W ⟨b,off,O⟩∧b∈F∧∀i c,l[i]? =W c→w.cell? ⟨b,off+i,O⟩=W c)
theorem Rv.keep {w w':Y} {v:Z} {l:List Z} {F:List Nat} (h:Rv w v l F) (m:Keep F w w'):Rv w' v l F:=by
 obtain ⟨A,cap,e,hc,hr⟩:=h;refine ⟨A,cap,e,hc,fun h0=>?_⟩;obtain ⟨b,off,e1,hb,hcell⟩:=hr h0;exact ⟨b,off,e1,hb,fun i c hi=>(World.cell?_of_block (m b hb)).trans (hcell i c hi)⟩
theorem Rv.lt {w:Y} {v:Z} {l:List Z} {F:List Nat} (h:Rv w v l F):∃F',Rv w v l F'∧∀k∈F',k < w.heap.size∧k∈F:=by
 obtain ⟨A,cap,e,hc,hr⟩:=h;rcases δ l.length with h0 | h0
 ·exact ⟨[],⟨A,cap,e,hc,fun h=>C⟩,ze⟩
 ·obtain ⟨b,off,e1,hb,hcell⟩:=hr h0;refine ⟨[b],⟨A,cap,e,hc,fun _=>⟨b,off,e1,ze,hcell⟩⟩,fun k hk=>?_⟩;simp at hk;subst hk;exact ⟨World.block_lt_of_cell? w _ (hcell 0 l[0] (Ω h0)),hb⟩
theorem Rv.mod {S:List Nat} {w w':Y} {v:Z} {l:List Z} {F:List Nat} (h:Rv w v l F) (m:Mod S w w') (hd:∀k∈F,k∉S):Rv w' v l F:=by
 obtain ⟨F',h',hF⟩:=h.lt;have h2:=h'.keep (m.keep (X:=F') (fun k hk=>⟨(hF k hk).1,hd k (hF k hk).2⟩));obtain ⟨A,cap,e,hc,hr⟩:=h2;refine ⟨A,cap,e,hc,fun h0=>?_⟩;obtain ⟨b,off,e1,hb,hcell⟩:=hr h0;exact ⟨b,off,e1,(hF b hb).2,hcell⟩
theorem Rv.drewN {w:Y} {v:Z} {l:List Z} {F:List Nat} (h:Rv w v l F) (n:Nat):Rv (w.drewN n) v l F:=h
theorem Rv.nil (w:Y):Rv w (T O 0 0) [] []:=⟨O,0,rfl,N _,fun h=>absurd h (ze)⟩
theorem Rv.of_sl {w:Y} {v:Z} {l:List Z} {n:Nat} {F:List Nat} {E:Nat} (h:Sl w E 1 v n l F) (hn:n=l.length):Rv w v l F:=by
 subst hn;rcases h.2 with ⟨rfl,h0,rfl⟩ | ⟨g,cap,cur,rfl,rfl,hb,hc,_,_,_⟩
 ·rw [π.1 h0];exact Rv.nil w
 ·refine ⟨_,cap,rfl,hc,fun h0=>⟨g,0,rfl,ze,fun i c hi=>?_⟩⟩;have hil:i < l.length:=(U.1 hi).1;have:=(h.at i (C)).1;rw [hi] at this;simpa using this
theorem Rv.shape {w:Y} {v:Z} {l:List Z} {F:List Nat} (h:Rv w v l F):∃A cap,v=T A l.length cap∧l.length≤cap:=by
 obtain ⟨A,cap,e,hc,_⟩:=h;exact ⟨A,cap,e,hc⟩
theorem Rv.at {w:Y} {A:Option Addr} {n cap:Nat} {l:List Z} {F:List Nat} (h:Rv w (T A n cap) l F) (i:Nat) (hi:i < l.length):
 ∃b off,A=W ⟨b,off,O⟩∧w.cell? ⟨b,off+i,O⟩=W l[i]:=by
 obtain ⟨A',cap',e,_,hr⟩:=h;simp at e;obtain ⟨rfl,rfl,rfl⟩:=e;obtain ⟨b,off,e1,hb,hcell⟩:=hr (C);exact ⟨b,off,e1,hcell i _ (Ω hi)⟩
theorem Rv.addr {w:Y} {A:Option Addr} {n cap:Nat} {l:List Z} {F:List Nat} (h:Rv w (T A n cap) l F) (h0:0 < l.length):
 ∃b off,A=W ⟨b,off,O⟩∧b∈F∧∀i,(hi:i < l.length)→w.cell? ⟨b,off+i,O⟩=W l[i]:=by
 obtain ⟨A',cap',e,_,hr⟩:=h;simp at e;obtain ⟨rfl,rfl,rfl⟩:=e;obtain ⟨b,off,e1,hb,hcell⟩:=hr h0;exact ⟨b,off,e1,hb,fun i hi=>hcell i _ (Ω hi)⟩
theorem Rv.len {w:Y} {A:Option Addr} {n cap:Nat} {l:List Z} {F:List Nat} (h:Rv w (T A n cap) l F):n=l.length∧n≤cap:=by
 obtain ⟨A',cap',e,hc,_⟩:=h;simp at e;exact ⟨e.2.1,C⟩
theorem Rv.drop {w:Y} {A:Option Addr} {n cap:Nat} {l:List Z} {F:List Nat} (h:Rv w (T A n cap) l F) (k:Nat) (hk:k≤n) (A':Option Addr)
 (hA:k < n→A'=A.map (·.add k)):Rv w (T A' (n - k) (cap - k)) (l.drop k) F:=by
 obtain ⟨hn,hc⟩:=h.len;subst hn;refine ⟨A',cap - k,by rw [Φ],yp,fun h0=>?_⟩;rw [Φ] at h0;obtain ⟨b,off,rfl,hb,hcell⟩:=h.addr (C);refine ⟨b,off+k,?_,hb,fun i c hi=>?_⟩
 ·rw [hA (C)];simp [Addr.add]
 ·rw [List.getElem?_drop] at hi;have hil:=(U.1 hi);rw [Qn,hcell (k+i) hil.1,hil.2]
theorem Rv.take {w:Y} {A:Option Addr} {n cap:Nat} {l:List Z} {F:List Nat} (h:Rv w (T A n cap) l F) (k:Nat) (hk:k≤n):Rv w (T A k cap) (l.take k) F:=by
 obtain ⟨hn,hc⟩:=h.len;subst hn;refine ⟨A,cap,by rw [σ];congr 1;omega,zW,fun h0=>?_⟩;rw [σ] at h0;obtain ⟨b,off,rfl,hb,hcell⟩:=h.addr (C);refine ⟨b,off,rfl,hb,fun i c hi=>?_⟩;rw [List.getElem?_take] at hi;split at hi
 ·have hil:=(U.1 hi);rw [hcell i hil.1,hil.2]
 ·simp at hi
theorem Rv.src {w:Y} {A:Option Addr} {n cap:Nat} {l:List Z} {F:List Nat} (h:Rv w (T A n cap) l F):0 < n→∃a,A=W a∧∀j u,l[j]? =W u→w.cell? (a.add j)=W u:=by
 intro h0;obtain ⟨hn,hc⟩:=h.len;obtain ⟨b,off,rfl,hb,hcell⟩:=h.addr (C);refine ⟨_,rfl,fun j u hu=>?_⟩;have hj:=U.1 hu;have e:((⟨b,off,O⟩:Addr).add j)=⟨b,off+j,O⟩:=qY;rw [e,hcell j hj.1,hj.2]
theorem zn6 {P:κ} (w:Y) (t ty e:V) (i:TypeInfo) (z:Z) (size bytes:Nat) (ht:P.underlying t=W (.slice e)) (hi:P.info? e=W i) (hz:i.zero=W z)
 (hsize:i.size=size) (hby:i.bytes=bytes) (hzs:z.cells.size=size) (hsz:0 < size)
 (v:Z) (n:Nat) (xs:List Z) (F:List Nat) (hown:Sl w e size v n xs F)
 (A:Option Addr) (m c:Nat) (news:List Z) (hl:news.length=m *size) (hnews:0 < m→∃a,A=W a∧∀j u,news[j]? =W u→w.cell? (a.add j)=W u) (h1:∀u∈news,u.oneCell'=true)
 (h63:n+m≤maxLen) (hbytes:(n+m) *bytes≤140737488355328):
 ∃v' w' F',(Θ #[t,t] ty #[v,T A m c]).run P w=.ok v' w'∧Sl w' e size v' (n+m) (xs++news) F'∧Mod F w w'∧(∀k∈F',k∈F∨w.heap.size≤k):=by
 rcases δ m with h0 | h0
 ·subst h0;have hn:news=[]:=List.eq_nil_of_length_eq_zero (by simpa using hl);subst hn;have hc0:∀(a:Addr) (j:Nat) (u:Z),([]:List Z)[j]? =W u→w.cell? (a.add j)=W u:=by intro a j u hu;simp at hu
  rcases A with _ | a
  ·refine ⟨v,w,F,?_,by simpa using hown,Mod.refl _ _,fun k hk=>.inl hk⟩;rcases hown.2 with ⟨rfl,rfl,_⟩ | ⟨g,cap,cur,rfl,_,_,hnc,_⟩
   ·simp [Θ,run_underlying ht,sizeOf,typeInfo,hi,Qo,γ]
   ·simp [Θ,run_underlying ht,sizeOf,typeInfo,hi,Qo,γ,hnc,storeCells]
  ·rcases hown.2 with ⟨rfl,rfl,rfl⟩ | ⟨g,cap,cur,rfl,rfl,hg,hnc,hcm,hcs,htake⟩
   ·obtain ⟨v',w',hr,h2,h3,h4⟩:=run_append_own (P:=P) w w.heap.size t ty e i z size bytes ht hi hz hsize hby hzs hsz _ 0 xs ⟨hown.1,.inl ⟨rfl,rfl⟩⟩ a 0 c [] hl (hc0 a) h1 h63 hbytes (N _);have hv:=h4.2 ⟨rfl,rfl⟩;subst hv;exact ⟨_,w',[],hr,⟨h2.1,.inl ⟨rfl,rfl,rfl⟩⟩,(Mod.refl _ _).grown h3 (fun k hk=>qX),ze⟩
   ·obtain ⟨w',hr,h2,h3⟩:=run_append_fits (P:=P) w 0 t ty e i size ht hi hsize g n cap xs hown.own a 0 c [] hl (hc0 a) h1 hnc;exact wX
 ·obtain ⟨a,rfl,hn⟩:=hnews h0;exact zf1 w t ty e i z size bytes ht hi hz hsize hby hzs hsz v n xs F hown a m c news h0 hl hn h1 h63 hbytes
theorem Xq {P:κ} (w:Y) {ops:Array Oper} {rest:List Oper} {o:Oper} {a:Act} {Q:Exit→Act→Y→Prop} (hgd:o.guard=O) (s x:Operand) (t:V)
 (ho:o.op=.call { callee:=.builtin .append,args:=#[s,x],argTypes:=#[t,t] })
 (e:V) (i:TypeInfo) (z:Z) (size bytes:Nat) (ht:P.underlying t=W (.slice e)) (hi:P.info? e=W i) (hz:i.zero=W z)
 (hsize:i.size=size) (hby:i.bytes=bytes) (hzs:z.cells.size=size) (hsz:0 < size)
 (v:Z) (n:Nat) (xs:List Z) (F:List Nat) (hs:a.eval s=v) (hown:Sl w e size v n xs F)
 (A:Option Addr) (m c:Nat) (news:List Z) (hx:a.eval x=T A m c) (hl:news.length=m *size) (hnews:0 < m→∃a,A=W a∧∀j u,news[j]? =W u→w.cell? (a.add j)=W u) (h1:∀u∈news,u.oneCell'=true)
 (h63:n+m≤maxLen) (hbytes:(n+m) *bytes≤140737488355328)
 (h:∀v' w' F',Sl w' e size v' (n+m) (xs++news) F'→Mod F w w'→(∀k∈F',k∈F∨w.heap.size≤k)→wpList P ops Q rest (a.put o.dst v') w'):wpList P ops Q (o::rest) a w:=by
 refine wpList_plain hgd fun K hK=>?_
 obtain ⟨v',w',F',hr,h2,h3,h4⟩:=zn6 (P:=P) w t o.type e i z size bytes ht hi hz hsize hby hzs hsz v n xs F hown A m c news hl hnews h1 h63 hbytes;unfold Oper.wp execOp;simp only [ho,resolve,invoke,builtin,Sem.run_bind,Sem.run_pure,Result.andThen_ok,Qe,Qm,Qq,hs,hx,hr];exact hK _ _ (h v' w' F' h2 h3 h4)
def NewV (E:Nat) (w:Y) (xs:List Z) (w':Y) (v':Z):Prop:=∃F',Sl w' E 1 v' xs.length xs F'∧Mod [] w w'∧∀k∈F',w.heap.size≤k
section
variable {E:Nat}
theorem NewV.rv {w w':Y} {l:List Z} {v':Z} (h:NewV E w l w' v'):∃F,Rv w' v' l F∧∀k∈F,w.heap.size≤k:=by
 obtain ⟨F,hs,_,hf⟩:=h;exact ⟨F,Rv.of_sl hs rfl,hf⟩
theorem NewV.mod {w w':Y} {l:List Z} {v':Z} (h:NewV E w l w' v'):Mod [] w w':=by
 obtain ⟨F,_,hm,_⟩:=h;exact hm
theorem NewV.shape {w w':Y} {l:List Z} {v':Z} (h:NewV E w l w' v'):∃A cap,v'=T A l.length cap:=by
 obtain ⟨F,hs,_,_⟩:=h;obtain ⟨A,cap,e,_⟩:=hs.shape;exact ⟨A,cap,e⟩
theorem NewV.after {w0 w w':Y} {l:List Z} {v':Z} (h:NewV E w l w' v') (m:Mod [] w0 w):NewV E w0 l w' v':=by
 obtain ⟨F,hs,hm,hf⟩:=h;exact ⟨F,hs,m.trans hm (ze),fun k hk=>Qb m.size (hf k hk)⟩
theorem NewV.later {w w1 w2:Y} {l:List Z} {v:Z} (h:NewV E w l w1 v) (m:Mod [] w1 w2):NewV E w l w2 v:=by
 obtain ⟨F,hs,hm,hf⟩:=h;exact ⟨F,hs.mod m (ze),hm.trans m (ze),hf⟩
theorem NewV.nil (E:Nat) {w w':Y} (m:Mod [] w w'):NewV E w [] w' (T O 0 0):=⟨[],Sl.nil _ _ _,m,ze⟩
theorem NewV.of_empty {w w1:Y} {l:List Z} {n:Nat} {v':Z} {F':List Nat} (hs1:Sl w1 E 1 v' (0+n) ([]++l) F') (hn:l.length=n) (hm1:Mod [w.heap.size] (w.alloc (ψ #[] E)) w1)
 (hf1:∀k∈F',k∈[w.heap.size]∨(w.alloc (ψ #[] E)).heap.size≤k):NewV E w l w1 v':=by
 refine ⟨F',by rw [hn];simpa using hs1,Mod.trans (S':=[w.heap.size]) ((Mod.refl [] _).alloc _) hm1 (yQ),fun k hk=>?_⟩;rcases hf1 k hk with h1 | h1
 ·simp at h1;omega
 ·simp at h1;omega
theorem NewV.app {w w1 w0 w2:Y} {l l2:List Z} {n m:Nat} {v':Z} {F F':List Nat} (hm:Mod [] w w1) (hf:∀k∈F,w.heap.size≤k) (hn:l.length=n) (hm2:l2.length=m) (m0:Mod [] w1 w0)
 (hs:Sl w2 E 1 v' (n+m) (l++l2) F') (hm1:Mod F w0 w2) (hf1:∀k∈F',k∈F∨w0.heap.size≤k):NewV E w (l++l2) w2 v':=by
 refine ⟨F',?_,(hm.trans m0 (ze)).trans hm1 (fun i hi hx=>by have:=hf i hx;omega),fun k hk=>?_⟩
 ·rw [ε,hn,hm2];exact hs
 ·rcases hf1 k hk with h | h
  ·exact hf k h
  ·have:=hm.size;have:=m0.size;omega
end
open Go
section
variable {P:κ} {ops:Array Oper} {md:θ} {w:Y}
def zG9 (md:θ) (ops:Array Oper) (n:Nat):Bool:=
 (Qs ops.size).all fun t=>decide (t≤n) || (Qs t).any fun j=>decide (n≤j) && Qh md ops t j
def zk3 (md:θ) (ops:Array Oper) (goal:Array Bool):Nat→Nat→Array Bool→Bool
 | 0,_,listed=>listed==goal
 | f+1,k,listed=>(I md ops listed).contains k && Region.free md ops listed k && zk3 md ops goal f (k+1) (listed.setIfInBounds k true)
def yn5 (md:θ) (ops:Array Oper) (goal:Array Bool) (n g:Nat):Bool:=
 Qi ops && decide (n < ops.size) && decide (n+g=ops.size) && ξ md ops n && zG9 md ops n && zk3 md ops goal n 0 (Array.replicate ops.size false)
theorem zm5 {listed:Array Bool} {t:Nat} (h:t∈I md ops listed):∃o,ops[t]? =W o∧∀e∈o.after,Qr md e=true→listed.getD e.on false=true:=
 let ⟨_,o,ho,ha⟩:=mem_ready.1 h
 ⟨o,ho,ha⟩
theorem zv5 {listed:Array Bool} {t i:Nat} (hw:Qh md ops t i=true) (hu:listed.getD i true=false):t∉I md ops listed:=fun hr=>by
 obtain ⟨o,ho,ha⟩:=zm5 hr;obtain ⟨o',ho',e,he,hb,rfl⟩:=η hw;rw [ho] at ho';cases ho';have:=ha e he hb;rw [getD_both hu] at this;cases this
theorem zp3 {n:Nat} (hs:ξ md ops n=true) (ht:zG9 md ops n=true) {listed:Array Bool} (inv:HeadInv md ops n listed) (hn:n < ops.size):
 ∀d i,n - i≤d→i < n→listed.getD i true=false→∀t,n≤t→t∉I md ops listed:=by
 intro d
 induction d with
 | zero=>intro i hd hi;omega
 | succ d ih=>
  intro i hd hi hu t hnt;rcases β hnt with rfl | hlt
  ·have h1:=ρ.1 hs i (Γ.2 hi);obtain ⟨j,hj,hj2⟩:=Qf.1 h1;simp only [Ξ,decide_eq_true_eq] at hj2;have hjn:=Γ.1 hj;rcases β (Nat.le_of_lt_succ hjn) with rfl | hjlt
   ·exact zv5 hj2.2 hu
   ·cases hl:listed.getD j false with
    | true=>
     obtain ⟨o,ho,e,he,hb,rfl⟩:=η hj2.2;have:=inv.closed j o ho hl e he hb;rw [getD_both hu] at this;cases this
    | false=>exact ih j (C) hjlt (getD_in (by rw [inv.size];omega) hl) _ (N _)
  ·intro hr;have htl:t < ops.size:=by obtain ⟨o,ho,_⟩:=zm5 hr;exact (Array.getElem?_eq_some_iff.1 ho).1
   have h1:=ρ.1 ht t (Γ.2 htl);simp only [Bool.or_eq_true,decide_eq_true_eq] at h1;rcases h1 with h1 | h1
   ·omega
   ·obtain ⟨j,hj,hj2⟩:=Qf.1 h1;simp only [Ξ,decide_eq_true_eq] at hj2;have hjt:=Γ.1 hj;exact zv5 hj2.2 (inv.tail j hj2.1 (C)) hr
theorem zI2 {n i:Nat} {oi:Oper} {v:Z} {L:Array Bool→Act→Prop} (hi:ops[i]? =W oi) (hsel:∀(j:Nat) (o:Oper) cs b,ops[j]? =W o→o.op≠ .select cs b)
 (hs:ξ md ops n=true) (ht:zG9 md ops n=true) (hn:n < ops.size) (hin:i < n) (hdone:∀listed a,L listed a→∀j∈I md ops listed,n≤j):
 ∀(f:Nat) (listed:Array Bool) (a:Act),HeadInv md ops n listed→(∀j oj,ops[j]? =W oj→j≠i→listed.getD j true=false→(∀e∈oj.after,Qr md e=true→e.on≠i)→oi.apart ops oj=true)→
  i∈I md ops listed→YieldsAt P ops w oi v a→wpAnyL P md ops w n L f (listed.setIfInBounds i true) (a.put oi.dst v)→wpAnyL P md ops w n L (f+1) listed a:=by
 intro f
 induction f with
 | zero=>
  intro listed a inv _ hr hy H;refine ⟨Qa hr,fun j hj=>?_⟩;have hjn:j < n:=Qg fun h=>zp3 hs ht inv hn _ i (N _) hin (mem_ready.1 hr).1 j h hj
  by_cases e:j=i
  ·cases e;exact ⟨hjn,hy.stOp hi H⟩
  ·exact absurd (hdone _ _ H j (ready_mono hj e)) (C)
 | succ f ih=>
  intro listed a inv free hr hy H;have hu:=(mem_ready.1 hr).1;refine ⟨Qa hr,fun j hj=>?_⟩;have hjn:j < n:=Qg fun h=>zp3 hs ht inv hn _ i (N _) hin hu j h hj
  refine ⟨hjn,?_⟩;by_cases e:j=i
  ·cases e;exact hy.stOp hi H
  ·obtain ⟨oj,hoj,hall⟩:=zm5 hj
   have ha:oi.apart ops oj=true:=free j oj hoj e (mem_ready.1 hj).1 fun x hx hb q=>by
    have:=hall x hx hb;rw [q,getD_both hu] at this;cases this
   refine stOp_mono (fun a' h3=>ih (listed.setIfInBounds j true) a' (inv.set hj hjn) (fun k ok hk hki hku hno=>free k ok hk hki ?_ hno) (ready_mono hr (Ne.symm e)) h3.1 ?_)
    (stOp_put hoj ha (fun cs b=>hsel i oi cs b hi) (fun cs b=>hsel j oj cs b hoj) hy (H.2 j (ready_mono hj e)).2)
   ·by_cases q:j=k
    ·cases q;exact (mem_ready.1 hj).1
    ·rwa [getD_set_ne true q] at hku
   ·rw [Array.setIfInBounds_comm _ _ e];exact h3.2
theorem zF6 {n:Nat} {goal:Array Bool} {Lq:Act→Prop} (hsel:Qi ops=true) (hs:ξ md ops n=true) (ht:zG9 md ops n=true) (hn:n < ops.size)
 (hgoal:∀j∈I md ops goal,n≤j):
 ∀(l:List Oper) (k:Nat) (listed:Array Bool) (a:Act),(∀j,j < l.length→l[j]? =ops[k+j]?)→k+l.length=n→HeadInv md ops n listed→zk3 md ops goal l.length k listed=true→wpStill P ops w Lq l a→
 wpAnyL P md ops w n (fun listed' a'=>listed'=goal∧Lq a') l.length listed a
 | [],_,_,_,_,_,_,hB,h=>⟨by simpa [zk3] using hB,h⟩
 | o::l,k,listed,a,hl,hk,inv,hB,h=>by
  have h0:ops[k]? =W o:=by simpa using (hl 0 (ze)).symm
  simp only [List.length_cons,zk3,Ξ] at hB hk;have hr:k∈I md ops listed:=by simpa using hB.1.1
  have hst:stOp P ops w k (wpStill P ops w Lq l) a:=by unfold stOp;simp only [h0];exact h
  obtain ⟨v,hy,hK⟩:=yieldsAt_of_stOp h0 hst
  exact zI2 h0 (Region.noSelect_spec hsel) hs ht hn (C) (fun listed' a' hL=>by rw [hL.1];exact hgoal) l.length listed a inv (Region.free_spec h0 hB.1.2) hr hy
   (zF6 hsel hs ht hn hgoal l (k+1) _ _ (fun j hj=>by have:=hl (j+1) (zj);simpa [Qn,Nat.add_comm 1 j] using this) (C) (inv.set hr (C)) hB.2 hK)
theorem YW {id:Nat} {Q:Exit→Act→Y→Prop} {a:Act} {w:Y} {l:List Oper} (n g:Nat) (goal:Array Bool) (hm:P.follows .mixedOrders=true) (hB:yn5 .any l.toArray goal n g=true)
 (hgoal:(I .any l.toArray goal).all (fun j=>decide (n≤j))=true)
 (h:wpStill P l.toArray w.drew (fun a'=>wpAny P .any l.toArray Q g goal a' w.drew) (l.take n) a):(Code.region id l.toArray true).wp P Q a w:=by
 simp only [yn5,Ξ,decide_eq_true_eq] at hB;obtain ⟨⟨⟨⟨⟨hsel,hn⟩,hg⟩,hs⟩,ht⟩,hlex⟩:=hB;have hn':n < l.length:=by simpa using hn
 have htl:(l.take n).length=n:=zj
 have inv0:HeadInv .any l.toArray n (Array.replicate l.toArray.size false):=
  ⟨ze,fun j oj _ hl=>(by rw [getD_replicate_false] at hl;cases hl),fun t _ ht=>getD_in (by simpa using ht) (getD_replicate_false _ _)⟩
 have H:=zF6 (md:=.any) (w:=w.drew) hsel hs ht hn (fun j hj=>by simpa using ρ.1 hgoal j hj) (l.take n) 0 _ a (fun j hj=>by
  have hj':j < n:=by rw [htl] at hj;exact hj
  simp [hj']) (by simpa using htl) inv0 (by rw [htl];exact hlex) h
 refine wp_region_any hm ?_;have:=wpAny_of_head (Q':=Q) (g:=g) (fun listed a' hL=>by rw [hL.1];exact hL.2) _ _ _ H;rw [htl,hg] at this;exact this
end
open Go.RowKit
def ei (x:Nat):Z:=Qc .i64 (x:Int)
def eb (b:Bool):Z:=.bool b
theorem yp5 (l:List Nat):∀u∈l.map ei,u.oneCell'=true:=by
 intro u hu;obtain ⟨x,_,rfl⟩:=List.mem_map.1 hu;rfl
theorem Tryz.info3:(Tryz.prog.info? 3).map (fun i=>(i.zero,i.size,i.bytes))=W (W (Qc .i64 0),1,8):=by kernel_rfl
theorem Tryz.infoB:(Tryz.prog.info? 4).map (fun i=>(i.zero,i.size,i.bytes))=W (W (.bool false),1,1):=by kernel_rfl
def pw (k:Nat):Int:=((2 ^ k:Nat):Int)
theorem yC1 (k:Nat):2 *pw k=pw (k+1):=by unfold pw;rw [Nat.pow_succ];omega
theorem zU8 (k:Nat):1≤pw k:=by unfold pw;have:=Nat.two_pow_pos k;omega
theorem yr7 {k n:Nat} (h:k≤n):pw k≤pw n:=by unfold pw;have:=Nat.pow_le_pow_right (n:=2) (C) h;omega
theorem zx6 (n:Nat) (h:n≤40) (w:Y):Calls Tryz.prog 22 #[Qc .i64 n] w fun e w'=>e=.returned (Qc .i64 (2 ^ n:Nat))∧w'=w:=by
 show Calls _ _ _ _ fun e w'=>e=.returned (Qc .i64 (pw n))∧w'=w
 have h':(n:Int)≤40:=C;go_in;go_wp2
 go_loop [3,4] (fun s i=>∃k:Nat,k≤n∧i=Qc .i64 k∧s=Qc .i64 (pw k)) (fun _ i=>n - (intOf i).toNat)
 case atStart=>exact ⟨0,C,rfl,rfl⟩
 case round=>
  obtain ⟨k,hk,rfl,rfl⟩:=hrel;have P1:=zU8 k;have P2:pw k≤pw 40:=yr7 (C);have P3:pw 40=1099511627776:=rfl;have PS:=Δ (yC1 k);rw [P3] at P2;clear P3;by_cases hlt:k < n
  ·generalize pw k=x at *;go_wp2
   go_round
   case rel=>exact ⟨k+1,C,by go_num,by rw [PS.out]⟩
   case measure=>simp [intOf];omega
  ·obtain rfl:k=n:=C;clear PS;go_wp2;go_ret;exact ⟨rfl,rfl⟩
theorem yC8 (x v:Nat):(x:Int) / pw v % 2=((x / 2 ^ v % 2:Nat):Int):=by unfold pw;omega
def zj8 (x v:Nat):Nat:=x / 2 ^ v % 2
theorem zr6 (x v:Nat) (hx:x≤1099511627776) (hv:v≤40) (w:Y):Calls Tryz.prog 41 #[Qc .i64 x,Qc .i64 v] w fun e w'=>e=.returned (Qc .i64 (zj8 x v:Nat))∧w'=w:=by
 have SZ:=Δ (zx6 v hv w);have PD:=Δ (yC8 x v);have P1:=zU8 v;have P2:pw v≤pw 40:=yr7 hv;have P3:pw 40=1099511627776:=rfl;rw [P3] at P2;clear P3;have hx':(x:Int)≤1099511627776:=C;have hd1:0≤(x:Int) / pw v:=Int.ediv_nonneg (C) (C)
 have hd2:(x:Int) / pw v≤1099511627776:=by
  have:=Int.ediv_le_self (a:=(x:Int)) (pw v) (C);omega
 go_in;go_wp2_with fail;refine SZ.out.mono ?_;rintro e w' ⟨rfl,rfl⟩;change Hid ((x:Int) / pw v % 2=(zj8 x v:Nat)) at PD;show _;have e1:((2 ^ v:Nat):Int)=pw v:=rfl;rw [e1];clear e1 hx;go_wp2_with fail;go_ret;exact ⟨rfl,rfl⟩
theorem yc6 {w:Y} {va vb:Z} {la lb:List Bool} {Fa Fb:List Nat} (ha:Rv w va (la.map eb) Fa) (hb:Rv w vb (lb.map eb) Fb) (h1:la.length≤1048576) (h2:lb.length≤1048576):
 Calls Tryz.prog 14 #[va,vb] w fun e w'=>e=.returned (.bool (decide (la=lb)))∧Mod [] w w':=by
 obtain ⟨A,ca,rfl,hca⟩:=ha.shape;obtain ⟨B,cb,rfl,hcb⟩:=hb.shape;have HA:=Δ ha;have HB:=Δ hb;simp only [Qj] at HA HB hca hcb ⊢;clear ha hb;obtain ⟨n,hn⟩:∃n,la.length=n:=⟨_,rfl⟩;obtain ⟨m,hm⟩:∃m,lb.length=m:=⟨_,rfl⟩;rw [hn] at HA hca h1 ⊢;rw [hm] at HB hcb h2 ⊢;have HN:=Δ hn;have HM:=Δ hm;clear hn hm;by_cases hnm:n=m
 ·subst hnm;go_in;go_wp2_with fail
  go_loopw [5] (fun i wr=>∃k:Nat,k≤n∧i=Qc .i64 k∧Hid (la.take k=lb.take k)∧Mod [] w wr) (fun i _=>n - (intOf i).toNat)
  case atStart=>exact ⟨0,C,rfl,yR,zg⟩
  case round=>
   obtain ⟨k,hk,rfl,HT,hm⟩:=hrel;have M:=Δ hm;by_cases hlt:k < n
   ·have hlt':(k:Int) < n:=C;have hk1:k < la.length:=zQ;have hk2:k < lb.length:=by rw [HM.out];exact hlt
    obtain ⟨b1,o1,rfl,d1⟩:=(HA.out.mod hm (ze)).at k (qZ);obtain ⟨b2,o2,rfl,d2⟩:=(HB.out.mod hm (ze)).at k (by rw [Qj];exact hk2);rw [List.getElem_map] at d1 d2;have TA:Hid (la.take (k+1)=la.take k++[la[k]]):=Ψ hk1;have TB:Hid (lb.take (k+1)=lb.take k++[lb[k]]):=Ψ hk2;have NE:Hid (la[k]≠lb[k]→la≠lb):=fun h e=>h (by subst e;rfl)
    unfold eb at d1 d2;generalize la[k]=x at *;generalize lb[k]=y at *;clear hm hk1 hk2;by_cases hxy:x=y
    ·subst hxy;have hb1:(!(x==x))=false:=ze;go_wp2_with fail
     go_quiet (fail)
     go_wp2_with fail;go_roundw
     case rel=>exact ⟨k+1,C,by go_num,by show _=_;rw [TA.out,TB.out,HT.out],jN⟩
     case measure=>simp [intOf];omega
    ·have hb1:(!(x==y))=true:=by simpa using hxy
     have NE2:=Δ (NE.out hxy);clear hxy;go_wp2_with fail
     go_quiet (fail)
     go_wp2_with fail;go_ret;exact ⟨by rw [decide_eq_false NE2.out];rfl,jN⟩
   ·obtain rfl:k=n:=C
    have E:Hid (la=lb):=by
     have h:=HT.out;rw [G (by rw [HN.out];exact N _),G (by rw [HM.out];exact N _)] at h;exact h
    clear hm;go_wp2_with fail;go_ret;exact ⟨by rw [decide_eq_true E.out];rfl,M.out⟩
 ·have hne:((n:Int) != (m:Int))=true:=zj;have E:Hid (la≠lb):=fun e=>hnm (by rw [←HN.out,←HM.out,e])
  go_in;go_wp2_with fail;go_ret;exact ⟨by rw [decide_eq_false E.out];rfl,Mod.refl _ _⟩
end Go.Proofs.YtbnpoapmnkfhkaaGreatDoor
