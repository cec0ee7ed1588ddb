/- Mq01: Common · Sl · Rv · Ra · Rb · Rc · N · Nb · H -/
import Derived.Test.YtlafpknoiihaaaaGreatDoorRows
import Derived.WalkKit
import Derived.Deep.QuietTactic
import Derived.BigQuiet
import Derived.StillTailTactics
import Derived.WalkLawsBesides
import Derived.WalkSpells
import Derived.Outline
import Derived.Handy
import Derived.PlainAid
import Derived.Deep.RegionWith
import Derived.Lib.Hide
set_option maxHeartbeats 1000000
set_option maxRecDepth 100000
set_option linter.unusedVariables false
set_option linter.unusedSimpArgs false
namespace Go.Proofs.YtlafpknoiihaaaaGreatDoor
open Go.RowKit
def Blk (w:World) (b:Nat) (c:Array Value) (t:TypeId):Prop:=w.heap[b]? =some (.cells c t (0,0))
theorem Blk.cell {w:World} {b:Nat} {c:Array Value} {t:TypeId} (h:Blk w b c t) (i:Nat):w.cell? ⟨b,i,none⟩=c[i]? :=by
 unfold Blk at h;simp [World.cell?,h]
theorem Blk.froz {w:World} {b:Nat} {c:Array Value} {t:TypeId} (h:Blk w b c t) (i:Nat):w.frozen? ⟨b,i,none⟩=false:=by
 unfold Blk at h;simp [World.frozen?,h]
theorem Blk.lt {w:World} {b:Nat} {c:Array Value} {t:TypeId} (h:Blk w b c t):b < w.heap.size:=by
 unfold Blk at h;exact (Array.getElem?_eq_some_iff.1 h).1
theorem Blk.new (w:World) (c:Array Value) (t:TypeId):Blk (w.alloc (.cells c t)) w.heap.size c t:=by
 unfold Blk World.alloc;simp
theorem Blk.new' (w:World) (c:Array Value) (t:TypeId) (b:Nat) (hb:b=w.heap.size):Blk (w.alloc (.cells c t)) b c t:=by
 subst hb;exact Blk.new w c t
theorem Blk.alloc {w:World} {b:Nat} {c:Array Value} {t:TypeId} (h:Blk w b c t) (o:Obj):Blk (w.alloc o) b c t:=by
 have hl:=h.lt
 unfold Blk at *;rw [Below.heap_alloc _ _ _ hl];exact h
theorem Blk.drew {w:World} {b:Nat} {c:Array Value} {t:TypeId} (h:Blk w b c t):Blk w.drew b c t:=h
theorem Blk.drewN {w:World} {b:Nat} {c:Array Value} {t:TypeId} (h:Blk w b c t) (n:Nat):Blk (w.drewN n) b c t:=h
theorem Blk.set {w:World} {b:Nat} {c:Array Value} {t:TypeId} (h:Blk w b c t) (i:Nat) (v:Value):Blk (w.setCell ⟨b,i,none⟩ v) b (c.setIfInBounds i v) t:=by
 unfold Blk at *;simp [World.setCell,Array.getElem?_modify,h]
theorem Blk.other {w:World} {b:Nat} {c:Array Value} {t:TypeId} (h:Blk w b c t) (a:Addr) (v:Value) (hne:b≠a.block):Blk (w.setCell a v) b c t:=by
 unfold Blk at *;rw [Below.heap_setCell _ _ _ _ hne];exact h
structure Mod (S:List Nat) (w w':World):Prop where
 os:w'.os=w.os
 tape:w'.tape=w.tape
 output:w'.output=w.output
 size:w.heap.size≤w'.heap.size
 block:∀k,k < w.heap.size→k∉S→w'.heap[k]? =w.heap[k]?
theorem Mod.refl (S:List Nat) (w:World):Mod S w w:=⟨rfl,rfl,rfl,Nat.le_refl _,fun _ _ _=>rfl⟩
theorem Mod.mono {S S':List Nat} {w w':World} (h:Mod S w w') (hs:∀k,k < w.heap.size→k∈S→k∈S'):Mod S' w w':=
 ⟨h.os,h.tape,h.output,h.size,fun k hk hn=>h.block k hk (fun hm=>hn (hs k hk hm))⟩
theorem Mod.trans {S S':List Nat} {a b c:World} (h:Mod S a b) (k:Mod S' b c) (hs:∀i,i < a.heap.size→i∈S'→i∈S):Mod S a c:=
 ⟨k.os.trans h.os,k.tape.trans h.tape,k.output.trans h.output,Nat.le_trans h.size k.size,
  fun i hi hn=>(k.block i (Nat.lt_of_lt_of_le hi h.size) (fun hm=>hn (hs i hi hm))).trans (h.block i hi hn)⟩
theorem Mod.trans' {S:List Nat} {a b c:World} (h:Mod S a b) (k:Mod S b c):Mod S a c:=h.trans k (fun _ _ hm=>hm)
theorem Mod.drew {S:List Nat} {a w:World} (h:Mod S a w):Mod S a w.drew:=⟨h.os,h.tape,h.output,h.size,h.block⟩
theorem Mod.drewN {S:List Nat} {a w:World} (h:Mod S a w) (n:Nat):Mod S a (w.drewN n):=⟨h.os,h.tape,h.output,h.size,h.block⟩
theorem Mod.alloc {S:List Nat} {a w:World} (h:Mod S a w) (o:Obj):Mod S a (w.alloc o):=
 ⟨h.os,h.tape,h.output,by have:=h.size;simp;omega,fun k hk hn=>(Below.heap_alloc _ _ _ (Nat.lt_of_lt_of_le hk h.size)).trans (h.block k hk hn)⟩
theorem Mod.setCell {S:List Nat} {a w:World} (h:Mod S a w) (p:Addr) (u:Value) (hp:p.block < a.heap.size→p.block∈S):Mod S a (w.setCell p u):=
 ⟨h.os,h.tape,h.output,by have:=h.size;simp [World.setCell];omega,
  fun k hk hn=>(Below.heap_setCell _ _ _ _ (fun e=>hn (by rw [e];exact hp (by rw [←e];exact hk)))).trans (h.block k hk hn)⟩
theorem Mod.grown {S:List Nat} {a w w':World} {row:Option Nat} (h:Mod S a w) (hg:w.grownBy w' row) (hr:∀k,row=some k→k < a.heap.size→k∈S):Mod S a w':=
 ⟨hg.os.trans h.os,hg.tape.trans h.tape,hg.output.trans h.output,Nat.le_trans h.size hg.size,
  fun k hk hn=>(hg.block k (Nat.lt_of_lt_of_le hk h.size) (fun e=>hn (hr k e.symm hk))).trans (h.block k hk hn)⟩
theorem Mod.grownBy {S:List Nat} {w w':World} (h:Mod S w w') (row:Option Nat) (hs:∀k∈S,row=some k):w.grownBy w' row:=
 ⟨h.os,h.tape,h.output,h.size,fun k hk hn=>h.block k hk (fun hm=>hn (hs k hm).symm)⟩
theorem mods {S:List Nat} {w w':World} (h:Mod S w w':=by (repeat (first | exact Mod.refl _ _ | apply Mod.drew | apply Mod.drewN | apply Mod.alloc | refine Mod.setCell ?_ _ _ (by first | simp | (simp;omega))))):Mod S w w':=h
theorem Mod.below {S:List Nat} {w w':World} (h:Mod S w w') (B:Nat) (hB:B≤w.heap.size) (hs:∀k∈S,B≤k):Below B w w':=
 ⟨h.os,h.tape,h.output,h.size,fun k hk=>h.block k (by omega) (fun hm=>by have:=hs k hm;omega)⟩
theorem Mod.cell {S:List Nat} {w w':World} (h:Mod S w w') {a:Addr} (ha:a.block < w.heap.size) (hn:a.block∉S):w'.cell? a=w.cell? a:=
 World.cell?_of_block (h.block _ ha hn)
theorem Mod.froz {S:List Nat} {w w':World} (h:Mod S w w') {a:Addr} (ha:a.block < w.heap.size) (hn:a.block∉S):w'.frozen? a=w.frozen? a:=
 World.frozen?_of_block (h.block _ ha hn)
theorem Blk.mod {S:List Nat} {w w':World} {b:Nat} {c:Array Value} {t:TypeId} (h:Blk w b c t) (m:Mod S w w') (hn:b∉S):Blk w' b c t:=by
 have hl:=h.lt
 unfold Blk at *;rw [m.block b hl hn];exact h
def Row (w:World) (g:Nat) (t:TypeId) (n:Nat) (f:Nat→Value):Prop:=∃A,Blk w g A t∧A.size=n∧∀i,i < n→A[i]? =some (f i)
theorem Row.cell {w:World} {g:Nat} {t:TypeId} {n:Nat} {f:Nat→Value} (h:Row w g t n f) (i:Nat) (hi:i < n):w.cell? ⟨g,i,none⟩=some (f i):=by
 obtain ⟨A,hb,hs,hf⟩:=h;rw [hb.cell];exact hf i hi
theorem Row.froz {w:World} {g:Nat} {t:TypeId} {n:Nat} {f:Nat→Value} (h:Row w g t n f) (i:Nat):w.frozen? ⟨g,i,none⟩=false:=by
 obtain ⟨A,hb,_⟩:=h;exact hb.froz i
theorem Row.lt {w:World} {g:Nat} {t:TypeId} {n:Nat} {f:Nat→Value} (h:Row w g t n f):g < w.heap.size:=by
 obtain ⟨A,hb,_⟩:=h;exact hb.lt
theorem Row.mod {S:List Nat} {w w':World} {g:Nat} {t:TypeId} {n:Nat} {f:Nat→Value} (h:Row w g t n f) (m:Mod S w w') (hn:g∉S):Row w' g t n f:=by
 obtain ⟨A,hb,hs,hf⟩:=h;exact ⟨A,hb.mod m hn,hs,hf⟩
theorem Row.set {w:World} {g:Nat} {t:TypeId} {n:Nat} {f:Nat→Value} (h:Row w g t n f) (i:Nat) (v:Value):Row (w.setCell ⟨g,i,none⟩ v) g t n (fun j=>if j=i then v else f j):=by
 obtain ⟨A,hb,hs,hf⟩:=h
 refine ⟨_,hb.set i v,by simpa using hs,fun j hj=>?_⟩
 by_cases e:j=i
 ·subst e;simp [hs,hj]
 ·have e':¬i=j:=fun x=>e x.symm
  simp [Array.getElem?_setIfInBounds,e,e',hf j hj]
theorem Row.congr {w:World} {g:Nat} {t:TypeId} {n:Nat} {f f':Nat→Value} (h:Row w g t n f) (e:∀i,i < n→f i=f' i):Row w g t n f':=by
 obtain ⟨A,hb,hs,hf⟩:=h;exact ⟨A,hb,hs,fun i hi=>by rw [hf i hi,e i hi]⟩
theorem Row.made (w:World) (n:Nat) (z:Value) (t:TypeId) (g:Nat) (hg:g=w.heap.size):Row (w.alloc (.cells (madeCells #[z] n) t)) g t n (fun _=>z):=
 ⟨_,Blk.new' _ _ _ _ hg,size_madeCells _ _,fun i hi=>by simp [madeCells,hi,Nat.mod_one]⟩
def Keep (X:List Nat) (w w':World):Prop:=∀k∈X,w'.heap[k]? =w.heap[k]?
theorem Keep.refl (X:List Nat) (w:World):Keep X w w:=fun _ _=>rfl
theorem Keep.trans {X:List Nat} {a b c:World} (h:Keep X a b) (k:Keep X b c):Keep X a c:=fun i hi=>(k i hi).trans (h i hi)
theorem Blk.keep {X:List Nat} {w w':World} {b:Nat} {c:Array Value} {t:TypeId} (h:Blk w b c t) (m:Keep X w w') (hb:b∈X):Blk w' b c t:=by
 unfold Blk at *;rw [m b hb];exact h
theorem Row.keep {X:List Nat} {w w':World} {g:Nat} {t:TypeId} {n:Nat} {f:Nat→Value} (h:Row w g t n f) (m:Keep X w w') (hb:g∈X):Row w' g t n f:=by
 obtain ⟨A,hb',r⟩:=h;exact ⟨A,hb'.keep m hb,r⟩
theorem Mod.keep {S X:List Nat} {w w':World} (m:Mod S w w') (h:∀k∈X,k < w.heap.size∧k∉S):Keep X w w':=fun k hk=>m.block k (h k hk).1 (h k hk).2
def IntRow (k:IntKind) (w:World) (a:Option Addr) (len cap:Nat) (z:Nat→Int):Prop:=
 len≤cap∧∀i,i < len→∃b off,a=some ⟨b,off,none⟩∧b < w.heap.size∧w.cell? ⟨b,off+i,none⟩=some (.int k (z i))∧(Lit.int k (z i)).wf=true
def Recs (w:World) (a:Option Addr) (len cap:Nat) (ks:List IntKind) (z:Nat→Nat→Int):Prop:=
 len≤cap∧∀i,i < len→∃b off,a=some ⟨b,off,none⟩∧b < w.heap.size∧∀j k,ks[j]? =some k→w.cell? ⟨b,off+i *ks.length+j,none⟩=some (.int k (z i j))∧(Lit.int k (z i j)).wf=true
open Go.RowKit
def Sl (w:World) (E size:Nat) (v:Value) (n:Nat) (xs:List Value) (F:List Nat):Prop:=
 xs.length=n *size∧
 ((v=.slice none 0 0∧n=0∧F=[])∨
  ∃g cap cur,v=.slice (some ⟨g,0,none⟩) n cap∧F=[g]∧Blk w g cur E∧n≤cap∧cap≤maxLen∧cur.size=cap *size∧cur.toList.take (n *size)=xs)
section
variable {w:World} {E size:Nat} {v:Value} {n:Nat} {xs:List Value} {F:List Nat}
theorem Sl.nil (w:World) (E size:Nat):Sl w E size (.slice none 0 0) 0 [] []:=⟨by simp,.inl ⟨rfl,rfl,rfl⟩⟩
theorem Sl.own (h:Sl w E size v n xs F):w.ownsRow 0 E size v n xs:=by
 refine ⟨h.1,?_⟩
 rcases h.2 with ⟨a,b,_⟩ | ⟨g,cap,cur,a,_,hb,r⟩
 ·exact .inl ⟨a,b⟩
 ·exact .inr ⟨g,cap,cur,a,Nat.zero_le _,hb,r⟩
theorem Sl.ownBlock (h:Sl w E size v n xs F):∀k,v.ownBlock=some k→k∈F:=by
 intro k hk
 rcases h.2 with ⟨a,_,_⟩ | ⟨g,cap,cur,a,b,_⟩
 ·subst a;simp [Value.ownBlock] at hk
 ·subst a;subst b;simp [Value.ownBlock] at hk;simp [hk]
theorem Sl.lt (h:Sl w E size v n xs F):∀k∈F,k < w.heap.size:=by
 intro k hk
 rcases h.2 with ⟨_,_,c⟩ | ⟨g,cap,cur,_,b,hb,_⟩
 ·subst c;simp at hk
 ·subst b;simp at hk;subst hk;exact hb.lt
theorem Sl.mod {S:List Nat} {w':World} (h:Sl w E size v n xs F) (m:Mod S w w') (hd:∀k∈F,k∉S):Sl w' E size v n xs F:=by
 refine ⟨h.1,?_⟩
 rcases h.2 with a | ⟨g,cap,cur,a,b,hb,r⟩
 ·exact .inl a
 ·exact .inr ⟨g,cap,cur,a,b,hb.mod m (hd g (by simp [b])),r⟩
theorem Sl.keep {w':World} (h:Sl w E size v n xs F) (m:Keep F w w'):Sl w' E size v n xs F:=by
 refine ⟨h.1,?_⟩
 rcases h.2 with a | ⟨g,cap,cur,a,b,hb,r⟩
 ·exact .inl a
 ·exact .inr ⟨g,cap,cur,a,b,hb.keep m (by simp [b]),r⟩
theorem Sl.shape (h:Sl w E size v n xs F):∃a cap,v=.slice a n cap∧n≤cap:=by
 rcases h.2 with ⟨a,b,_⟩ | ⟨g,cap,cur,a,_,_,c,_⟩
 ·exact ⟨none,0,by rw [a,b],by omega⟩
 ·exact ⟨_,cap,a,c⟩
theorem Sl.pos (h:Sl w E size v n xs F) (hn:0 < n):∃g cap,v=.slice (some ⟨g,0,none⟩) n cap∧F=[g]∧n≤cap:=by
 rcases h.2 with ⟨a,b,_⟩ | ⟨g,cap,cur,a,b,_,c,_⟩
 ·omega
 ·exact ⟨g,cap,a,b,c⟩
theorem Sl.at {g cap:Nat} (h:Sl w E size (.slice (some ⟨g,0,none⟩) n cap) n xs F) (j:Nat) (hj:j < n *size):w.cell? ⟨g,j,none⟩=xs[j]? ∧w.frozen? ⟨g,j,none⟩=false∧F=[g]:=by
 have h1:=h.own
 refine ⟨h1.cellAt j hj,h1.frozenAt j,?_⟩
 rcases h.2 with ⟨a,_,_⟩ | ⟨g',cap',cur,a,b,_⟩
 ·simp at a
 ·simp only [Value.slice.injEq,Option.some.injEq,Addr.mk.injEq,and_true,true_and] at a
  rw [b,a.1]
theorem Sl.block {g cap:Nat} (h:Sl w E size (.slice (some ⟨g,0,none⟩) n cap) n xs F):F=[g]:=by
 rcases h.2 with ⟨a,_,_⟩ | ⟨g',cap',cur,a,b,_⟩
 ·simp at a
 ·simp only [Value.slice.injEq,Option.some.injEq,Addr.mk.injEq,and_true,true_and] at a
  rw [b,a.1]
theorem Sl.set {g cap:Nat} (h:Sl w E size (.slice (some ⟨g,0,none⟩) n cap) n xs F) (j:Nat) (u:Value):Sl (w.setCell ⟨g,j,none⟩ u) E size (.slice (some ⟨g,0,none⟩) n cap) n (xs.set j u) F:=by
 refine ⟨by simpa using h.1,?_⟩
 rcases h.2 with ⟨a,_,_⟩ | ⟨g',cap',cur,a,b,hb,c1,c2,c3,c4⟩
 ·simp at a
 ·simp only [Value.slice.injEq,Option.some.injEq,Addr.mk.injEq,and_true,true_and] at a
  obtain ⟨rfl,rfl⟩:=a
  exact .inr ⟨g,cap,_,rfl,b,hb.set j u,c1,c2,by simpa using c3,by rw [Array.toList_setIfInBounds,←c4,List.take_set]⟩
theorem Sl.take {g cap:Nat} (h:Sl w E size (.slice (some ⟨g,0,none⟩) n cap) n xs F) (k:Nat) (hk:k≤n):Sl w E size (.slice (some ⟨g,0,none⟩) k cap) k (xs.take (k *size)) F:=by
 have hks:k *size≤n *size:=Nat.mul_le_mul_right _ hk
 refine ⟨by rw [List.length_take,h.1];omega,?_⟩
 rcases h.2 with ⟨a,_,_⟩ | ⟨g',cap',cur,a,b,hb,c1,c2,c3,c4⟩
 ·simp at a
 ·simp only [Value.slice.injEq,Option.some.injEq,Addr.mk.injEq,and_true,true_and] at a
  obtain ⟨rfl,rfl⟩:=a
  exact .inr ⟨g,cap,cur,rfl,b,hb,by omega,c2,c3,by rw [←c4,List.take_take];congr 1;omega⟩
theorem Sl.made (w:World) (E size n:Nat) (z:Array Value) (hm:n≤maxLen):Sl (w.alloc (.cells (madeCells z (n *size)) E)) E size (.slice (some ⟨w.heap.size,0,none⟩) n n) n (madeCells z (n *size)).toList [w.heap.size]:=
 ⟨by simp [size_madeCells],.inr ⟨_,n,_,rfl,rfl,Blk.new _ _ _,Nat.le_refl _,hm,size_madeCells _ _,by rw [List.take_of_length_le];simp [size_madeCells]⟩⟩
theorem Sl.lit (w:World) (E size n:Nat) (cs:Array Value) (hm:n≤maxLen) (hs:cs.size=n *size):Sl (w.alloc (.cells cs E)) E size (.slice (some ⟨w.heap.size,0,none⟩) n n) n cs.toList [w.heap.size]:=
 ⟨by simpa using hs,.inr ⟨_,n,_,rfl,rfl,Blk.new _ _ _,Nat.le_refl _,hm,hs,by rw [List.take_of_length_le];simp [hs]⟩⟩
end
theorem run_append_sl {P:Program} (w:World) (t ty e:TypeId) (i:TypeInfo) (z:Value) (size bytes:Nat) (ht:P.underlying t=some (.slice e)) (hi:P.info? e=some i) (hz:i.zero=some z)
 (hsize:i.size=size) (hby:i.bytes=bytes) (hzs:z.cells.size=size) (hsz:0 < size)
 (v:Value) (n:Nat) (xs:List Value) (F:List Nat) (hown:Sl w e size v n xs F)
 (a:Addr) (m c:Nat) (news:List Value) (hm:0 < m) (hl:news.length=m *size) (hnews:∀j u,news[j]? =some u→w.cell? (a.add j)=some u) (h1:∀u∈news,u.oneCell'=true)
 (h63:n+m≤maxLen) (hbytes:(n+m) *bytes≤140737488355328):
 ∃v' w' F',(Builtin.append_ #[t,t] ty #[v,.slice (some a) m c]).run P w=.ok v' w'∧Sl w' e size v' (n+m) (xs++news) F'∧Mod F w w'∧(∀k∈F',k∈F∨w.heap.size≤k):=by
 rcases hown.2 with ⟨rfl,rfl,rfl⟩ | ⟨g,cap,cur,rfl,rfl,hg,hnc,hcm,hcs,htake⟩
 ·obtain ⟨v',w',hr,h2,h3,h4⟩:=run_append_own (P:=P) w w.heap.size t ty e i z size bytes ht hi hz hsize hby hzs hsz _ 0 xs (by
   refine ⟨hown.1,.inl ⟨rfl,rfl⟩⟩) a m c news hl hnews h1 h63 hbytes (Nat.le_refl _)
  rcases h2.2 with ⟨hv,hn⟩ | ⟨g,cap,cur,hv,hb,hg,r⟩
  ·omega
  ·refine ⟨v',w',[g],hr,⟨h2.1,.inr ⟨g,cap,cur,hv,rfl,hg,r⟩⟩,(Mod.refl _ _).grown h3 (fun k hk=>by simp [Value.ownBlock] at hk),fun k hk=>?_⟩
   simp at hk;subst hk;exact .inr hb
 ·by_cases hroom:n+m≤cap
  ·obtain ⟨w',hr,h2,h3⟩:=run_append_fits (P:=P) w 0 t ty e i size ht hi hsize g n cap xs hown.own a m c news hl hnews h1 hroom
   rcases h2.2 with ⟨hv,_⟩ | ⟨g',cap',cur',hv,_,hg',r⟩
   ·simp at hv
   ·refine ⟨_,w',[g'],hr,⟨h2.1,.inr ⟨g',cap',cur',hv,rfl,hg',r⟩⟩,(Mod.refl _ _).grown h3 (fun k hk _=>by simp at hk;simp [hk]),fun k hk=>?_⟩
    simp at hv
    simp at hk
    subst hk
    exact .inl (by simp [hv.1])
  ·have holds:∀j u,xs[j]? =some u→w.cell? ((⟨g,0,none⟩:Addr).add j)=some u:=hown.own.cells (g:=g) rfl
   have hsmall:n+m≤9223372036854775807:=by simp only [maxLen] at h63;omega
   subst hsize
   subst hby
   have hlen:(xs++news).length=(n+m) *i.size:=by rw [List.length_append,hown.1,hl,Nat.add_mul]
   have hr:=run_append_grow (P:=P) w t ty e i z ht hi hz ⟨g,0,none⟩ n cap xs hown.1 holds a m c news hl hnews (by omega) (by omega) (growslice_fits (by omega) hbytes)
   refine ⟨_,_,[w.heap.size],hr,⟨hlen,.inr ⟨w.heap.size,_,_,rfl,rfl,heap_alloc_new w.drew _,grownCap_ge w (n+m) cap e,grownCap_le_maxLen w (n+m) cap e h63,?_,?_⟩⟩,((Mod.refl _ _).drew).alloc _,fun k hk=>by simp at hk;subst hk;exact .inr (Nat.le_refl _)⟩
   ·have hge:=grownCap_ge w (n+m) cap e
    simp only [Array.size_append,List.size_toArray,size_zeroCells,hzs,hown.1,hl,←Nat.add_mul]
    congr 1
    omega
   ·simp only [Array.toList_append,List.append_assoc]
    rw [←List.append_assoc,←hlen]
    exact List.take_left
theorem wp_append_sl {P:Program} (w:World) {o:Oper} {a:Act} {K:Act→World→Prop} {Q:Exit→Act→World→Prop} (s x:Operand) (t:TypeId)
 (ho:o.op=.call { callee:=.builtin .append,args:=#[s,x],argTypes:=#[t,t] })
 (e:TypeId) (i:TypeInfo) (z:Value) (size bytes:Nat) (ht:P.underlying t=some (.slice e)) (hi:P.info? e=some i) (hz:i.zero=some z)
 (hsize:i.size=size) (hby:i.bytes=bytes) (hzs:z.cells.size=size) (hsz:0 < size)
 (v:Value) (n:Nat) (xs:List Value) (F:List Nat) (hs:a.eval s=v) (hown:Sl w e size v n xs F)
 (ad:Addr) (m c:Nat) (news:List Value) (hm:0 < m) (hx:a.eval x=.slice (some ad) m c) (hl:news.length=m *size) (hnews:∀j u,news[j]? =some u→w.cell? (ad.add j)=some u) (h1:∀u∈news,u.oneCell'=true)
 (h63:n+m≤maxLen) (hbytes:(n+m) *bytes≤140737488355328)
 (h:∀v' w' F',Sl w' e size v' (n+m) (xs++news) F'→Mod F w w'→(∀k∈F',k∈F∨w.heap.size≤k)→K (a.put o.dst v') w'):o.wp P a w K Q:=by
 obtain ⟨v',w',F',hr,h2,h3,h4⟩:=run_append_sl (P:=P) w t o.type e i z size bytes ht hi hz hsize hby hzs hsz v n xs F hown ad m c news hm hl hnews h1 h63 hbytes
 unfold Oper.wp execOp
 simp only [ho,resolve,invoke,builtin,Sem.run_bind,Sem.run_pure,Result.andThen_ok,List.map_toArray,List.map_cons,List.map_nil,hs,hx,hr]
 exact h v' w' F' h2 h3 h4
theorem wpList_append_sl {P:Program} (w:World) {ops:Array Oper} {rest:List Oper} {o:Oper} {a:Act} {Q:Exit→Act→World→Prop} (hgd:o.guard=none) (s x:Operand) (t:TypeId)
 (ho:o.op=.call { callee:=.builtin .append,args:=#[s,x],argTypes:=#[t,t] })
 (e:TypeId) (i:TypeInfo) (z:Value) (size bytes:Nat) (ht:P.underlying t=some (.slice e)) (hi:P.info? e=some i) (hz:i.zero=some z)
 (hsize:i.size=size) (hby:i.bytes=bytes) (hzs:z.cells.size=size) (hsz:0 < size)
 (v:Value) (n:Nat) (xs:List Value) (F:List Nat) (hs:a.eval s=v) (hown:Sl w e size v n xs F)
 (ad:Addr) (m c:Nat) (news:List Value) (hm:0 < m) (hx:a.eval x=.slice (some ad) m c) (hl:news.length=m *size) (hnews:∀j u,news[j]? =some u→w.cell? (ad.add j)=some u) (h1:∀u∈news,u.oneCell'=true)
 (h63:n+m≤maxLen) (hbytes:(n+m) *bytes≤140737488355328)
 (h:∀v' w' F',Sl w' e size v' (n+m) (xs++news) F'→Mod F w w'→(∀k∈F',k∈F∨w.heap.size≤k)→wpList P ops Q rest (a.put o.dst v') w'):wpList P ops Q (o::rest) a w:=
 wpList_plain hgd fun _ hK=>wp_append_sl w s x t ho e i z size bytes ht hi hz hsize hby hzs hsz v n xs F hs hown ad m c news hm hx hl hnews h1 h63 hbytes fun v' w' F' h2 h3 h4=>hK _ _ (h v' w' F' h2 h3 h4)
theorem step_append_sl {P:Program} {ops:Array Oper} {o:Oper} {a:Act} {w:World} {K:Act→World→Prop} {Q:Exit→Act→World→Prop} {E:Prop}
 (hg:o.guard=none) (s x:Operand) (t:TypeId) (hop:o.op=Op.call { callee:=Callee.builtin Builtin.append,args:=#[s,x],argTypes:=#[t,t] })
 (e:TypeId) (i:TypeInfo) (z:Value) (size bytes:Nat) (ht:P.underlying t=some (.slice e)) (hi:P.info? e=some i) (hz:i.zero=some z)
 (hsize:i.size=size) (hby:i.bytes=bytes) (hzs:z.cells.size=size) (hsz:0 < size)
 (v:Value) (n:Nat) (xs:List Value) (F:List Nat) (hs:a.eval s=v) (hown:Sl w e size v n xs F)
 (ad:Addr) (m c:Nat) (news:List Value) (hm:0 < m) (hx:a.eval x=.slice (some ad) m c) (hl:news.length=m *size) (hnews:∀j u,news[j]? =some u→w.cell? (ad.add j)=some u) (h1:∀u∈news,u.oneCell'=true)
 (h63:n+m≤maxLen) (hbytes:(n+m) *bytes≤140737488355328)
 (h:∀v' w' F',Sl w' e size v' (n+m) (xs++news) F'→Mod F w w'→(∀k∈F',k∈F∨w.heap.size≤k)→K (a.put o.dst v') w'):
 if Region.wanted o (yielded ops a.tmps)=true then Oper.wp P o a w K Q else E:=by
 have hw:Region.wanted o (yielded ops a.tmps)=true:=by simp [Region.wanted,hg]
 rw [if_pos hw]
 exact wp_append_sl w s x t hop e i z size bytes ht hi hz hsize hby hzs hsz v n xs F hs hown ad m c news hm hx hl hnews h1 h63 hbytes h
def recs {α:Type} (f:α→List Value) (L:List α):List Value:=L.flatMap f
section
variable {α:Type} {f:α→List Value} {m:Nat} (hf:∀a,(f a).length=m)
include hf
theorem recs_get (L:List α) (i j:Nat) (hi:i < L.length) (hj:j < m):(recs f L)[i *m+j]? =(f L[i])[j]? :=by
 induction L generalizing i with
 | nil=>simp at hi
 | cons a L ih=>
  unfold recs at *
  rw [List.flatMap_cons]
  cases i with
  | zero=>
   simp only [Nat.zero_mul,Nat.zero_add,List.getElem_cons_zero]
   rw [List.getElem?_append_left (by rw [hf];exact hj)]
  | succ i=>
   have hi':i < L.length:=by simpa using hi
   rw [List.getElem?_append_right (by rw [hf,Nat.add_mul];omega),hf]
   have e:(i+1) *m+j - m=i *m+j:=by rw [Nat.add_mul];omega
   rw [e]
   simpa using ih i hi'
end
theorem recs_append {α:Type} (f:α→List Value) (L L':List α):recs f (L++L')=recs f L++recs f L':=by simp [recs]
theorem list_new (w:World) (cs:List Value) (t:TypeId):∀j u,cs[j]? =some u→(w.alloc (.cells cs.toArray t)).cell? ((⟨w.heap.size,0,none⟩:Addr).add j)=some u:=by
 intro j u hu
 have e:((⟨w.heap.size,0,none⟩:Addr).add j)=⟨w.heap.size,j,none⟩:=by unfold Addr.add;split<;>simp_all
 rw [e,World.cell?_alloc_new]
 simpa using hu
theorem list_new_at (w:World) (cs:List Value) (t:TypeId) (g:Nat) (hg:g=w.heap.size):∀j u,cs[j]? =some u→(w.alloc (.cells cs.toArray t)).cell? ((⟨g,0,none⟩:Addr).add j)=some u:=by
 subst hg;exact list_new w cs t
theorem list_new_at_drew (w:World) (cs:List Value) (t:TypeId) (g:Nat) (hg:g=w.heap.size):∀j u,cs[j]? =some u→(w.alloc (.cells cs.toArray t)).drew.cell? ((⟨g,0,none⟩:Addr).add j)=some u:=by
 subst hg;exact list_new w cs t
open Go.RowKit
def Rv (w:World) (v:Value) (l:List Value) (F:List Nat):Prop:=
 ∃A cap,v=.slice A l.length cap∧l.length≤cap∧(0 < l.length→∃b off,A=some ⟨b,off,none⟩∧b∈F∧∀i c,l[i]? =some c→w.cell? ⟨b,off+i,none⟩=some c)
theorem Rv.keep {w w':World} {v:Value} {l:List Value} {F:List Nat} (h:Rv w v l F) (m:Keep F w w'):Rv w' v l F:=by
 obtain ⟨A,cap,e,hc,hr⟩:=h
 refine ⟨A,cap,e,hc,fun h0=>?_⟩
 obtain ⟨b,off,e1,hb,hcell⟩:=hr h0
 exact ⟨b,off,e1,hb,fun i c hi=>(World.cell?_of_block (m b hb)).trans (hcell i c hi)⟩
theorem Rv.lt {w:World} {v:Value} {l:List Value} {F:List Nat} (h:Rv w v l F):∃F',Rv w v l F'∧∀k∈F',k < w.heap.size∧k∈F:=by
 obtain ⟨A,cap,e,hc,hr⟩:=h
 rcases Nat.eq_zero_or_pos l.length with h0 | h0
 ·exact ⟨[],⟨A,cap,e,hc,fun h=>by omega⟩,by simp⟩
 ·obtain ⟨b,off,e1,hb,hcell⟩:=hr h0
  refine ⟨[b],⟨A,cap,e,hc,fun _=>⟨b,off,e1,by simp,hcell⟩⟩,fun k hk=>?_⟩
  simp at hk;subst hk
  exact ⟨World.block_lt_of_cell? w _ (hcell 0 l[0] (List.getElem?_eq_getElem h0)),hb⟩
theorem Rv.mod {S:List Nat} {w w':World} {v:Value} {l:List Value} {F:List Nat} (h:Rv w v l F) (m:Mod S w w') (hd:∀k∈F,k∉S):Rv w' v l F:=by
 obtain ⟨F',h',hF⟩:=h.lt
 have h2:=h'.keep (m.keep (X:=F') (fun k hk=>⟨(hF k hk).1,hd k (hF k hk).2⟩))
 obtain ⟨A,cap,e,hc,hr⟩:=h2
 refine ⟨A,cap,e,hc,fun h0=>?_⟩
 obtain ⟨b,off,e1,hb,hcell⟩:=hr h0
 exact ⟨b,off,e1,(hF b hb).2,hcell⟩
theorem Rv.drewN {w:World} {v:Value} {l:List Value} {F:List Nat} (h:Rv w v l F) (n:Nat):Rv (w.drewN n) v l F:=h
theorem Rv.nil (w:World):Rv w (.slice none 0 0) [] []:=⟨none,0,rfl,Nat.le_refl _,fun h=>absurd h (by simp)⟩
theorem Rv.of_sl {w:World} {v:Value} {l:List Value} {n:Nat} {F:List Nat} {E:Nat} (h:Sl w E 1 v n l F) (hn:n=l.length):Rv w v l F:=by
 subst hn
 rcases h.2 with ⟨rfl,h0,rfl⟩ | ⟨g,cap,cur,rfl,rfl,hb,hc,_,_,_⟩
 ·rw [List.length_eq_zero_iff.1 h0];exact Rv.nil w
 ·refine ⟨_,cap,rfl,hc,fun h0=>⟨g,0,rfl,by simp,fun i c hi=>?_⟩⟩
  have hil:i < l.length:=(List.getElem?_eq_some_iff.1 hi).1
  have:=(h.at i (by omega)).1
  rw [hi] at this
  simpa using this
theorem Rv.shape {w:World} {v:Value} {l:List Value} {F:List Nat} (h:Rv w v l F):∃A cap,v=.slice A l.length cap∧l.length≤cap:=by
 obtain ⟨A,cap,e,hc,_⟩:=h;exact ⟨A,cap,e,hc⟩
theorem Rv.at {w:World} {A:Option Addr} {n cap:Nat} {l:List Value} {F:List Nat} (h:Rv w (.slice A n cap) l F) (i:Nat) (hi:i < l.length):
 ∃b off,A=some ⟨b,off,none⟩∧w.cell? ⟨b,off+i,none⟩=some l[i]:=by
 obtain ⟨A',cap',e,_,hr⟩:=h
 simp at e
 obtain ⟨rfl,rfl,rfl⟩:=e
 obtain ⟨b,off,e1,hb,hcell⟩:=hr (by omega)
 exact ⟨b,off,e1,hcell i _ (List.getElem?_eq_getElem hi)⟩
theorem Rv.addr {w:World} {A:Option Addr} {n cap:Nat} {l:List Value} {F:List Nat} (h:Rv w (.slice A n cap) l F) (h0:0 < l.length):
 ∃b off,A=some ⟨b,off,none⟩∧b∈F∧∀i,(hi:i < l.length)→w.cell? ⟨b,off+i,none⟩=some l[i]:=by
 obtain ⟨A',cap',e,_,hr⟩:=h
 simp at e
 obtain ⟨rfl,rfl,rfl⟩:=e
 obtain ⟨b,off,e1,hb,hcell⟩:=hr h0
 exact ⟨b,off,e1,hb,fun i hi=>hcell i _ (List.getElem?_eq_getElem hi)⟩
theorem Rv.len {w:World} {A:Option Addr} {n cap:Nat} {l:List Value} {F:List Nat} (h:Rv w (.slice A n cap) l F):n=l.length∧n≤cap:=by
 obtain ⟨A',cap',e,hc,_⟩:=h
 simp at e
 exact ⟨e.2.1,by omega⟩
theorem Rv.drop {w:World} {A:Option Addr} {n cap:Nat} {l:List Value} {F:List Nat} (h:Rv w (.slice A n cap) l F) (k:Nat) (hk:k≤n) (A':Option Addr)
 (hA:k < n→A'=A.map (·.add k)):Rv w (.slice A' (n - k) (cap - k)) (l.drop k) F:=by
 obtain ⟨hn,hc⟩:=h.len
 subst hn
 refine ⟨A',cap - k,by rw [List.length_drop],by rw [List.length_drop];omega,fun h0=>?_⟩
 rw [List.length_drop] at h0
 obtain ⟨b,off,rfl,hb,hcell⟩:=h.addr (by omega)
 refine ⟨b,off+k,?_,hb,fun i c hi=>?_⟩
 ·rw [hA (by omega)];simp [Addr.add]
 ·rw [List.getElem?_drop] at hi
  have hil:=(List.getElem?_eq_some_iff.1 hi)
  rw [Nat.add_assoc,hcell (k+i) hil.1,hil.2]
theorem Rv.take {w:World} {A:Option Addr} {n cap:Nat} {l:List Value} {F:List Nat} (h:Rv w (.slice A n cap) l F) (k:Nat) (hk:k≤n):Rv w (.slice A k cap) (l.take k) F:=by
 obtain ⟨hn,hc⟩:=h.len
 subst hn
 refine ⟨A,cap,by rw [List.length_take];congr 1;omega,by rw [List.length_take];omega,fun h0=>?_⟩
 rw [List.length_take] at h0
 obtain ⟨b,off,rfl,hb,hcell⟩:=h.addr (by omega)
 refine ⟨b,off,rfl,hb,fun i c hi=>?_⟩
 rw [List.getElem?_take] at hi
 split at hi
 ·have hil:=(List.getElem?_eq_some_iff.1 hi)
  rw [hcell i hil.1,hil.2]
 ·simp at hi
theorem Rv.src {w:World} {A:Option Addr} {n cap:Nat} {l:List Value} {F:List Nat} (h:Rv w (.slice A n cap) l F):0 < n→∃a,A=some a∧∀j u,l[j]? =some u→w.cell? (a.add j)=some u:=by
 intro h0
 obtain ⟨hn,hc⟩:=h.len
 obtain ⟨b,off,rfl,hb,hcell⟩:=h.addr (by omega)
 refine ⟨_,rfl,fun j u hu=>?_⟩
 have hj:=List.getElem?_eq_some_iff.1 hu
 have e:((⟨b,off,none⟩:Addr).add j)=⟨b,off+j,none⟩:=by unfold Addr.add;split<;>simp_all
 rw [e,hcell j hj.1,hj.2]
theorem run_append_slz {P:Program} (w:World) (t ty e:TypeId) (i:TypeInfo) (z:Value) (size bytes:Nat) (ht:P.underlying t=some (.slice e)) (hi:P.info? e=some i) (hz:i.zero=some z)
 (hsize:i.size=size) (hby:i.bytes=bytes) (hzs:z.cells.size=size) (hsz:0 < size)
 (v:Value) (n:Nat) (xs:List Value) (F:List Nat) (hown:Sl w e size v n xs F)
 (A:Option Addr) (m c:Nat) (news:List Value) (hl:news.length=m *size) (hnews:0 < m→∃a,A=some a∧∀j u,news[j]? =some u→w.cell? (a.add j)=some u) (h1:∀u∈news,u.oneCell'=true)
 (h63:n+m≤maxLen) (hbytes:(n+m) *bytes≤140737488355328):
 ∃v' w' F',(Builtin.append_ #[t,t] ty #[v,.slice A m c]).run P w=.ok v' w'∧Sl w' e size v' (n+m) (xs++news) F'∧Mod F w w'∧(∀k∈F',k∈F∨w.heap.size≤k):=by
 rcases Nat.eq_zero_or_pos m with h0 | h0
 ·subst h0
  have hn:news=[]:=List.eq_nil_of_length_eq_zero (by simpa using hl)
  subst hn
  have hc0:∀(a:Addr) (j:Nat) (u:Value),([]:List Value)[j]? =some u→w.cell? (a.add j)=some u:=by intro a j u hu;simp at hu
  rcases A with _ | a
  ·refine ⟨v,w,F,?_,by simpa using hown,Mod.refl _ _,fun k hk=>.inl hk⟩
   rcases hown.2 with ⟨rfl,rfl,_⟩ | ⟨g,cap,cur,rfl,_,_,hnc,_⟩
   ·simp [Builtin.append_,run_underlying ht,sizeOf,typeInfo,hi,Builtin.lenOf,Builtin.firstCells]
   ·simp [Builtin.append_,run_underlying ht,sizeOf,typeInfo,hi,Builtin.lenOf,Builtin.firstCells,hnc,storeCells]
  ·rcases hown.2 with ⟨rfl,rfl,rfl⟩ | ⟨g,cap,cur,rfl,rfl,hg,hnc,hcm,hcs,htake⟩
   ·obtain ⟨v',w',hr,h2,h3,h4⟩:=run_append_own (P:=P) w w.heap.size t ty e i z size bytes ht hi hz hsize hby hzs hsz _ 0 xs ⟨hown.1,.inl ⟨rfl,rfl⟩⟩ a 0 c [] hl (hc0 a) h1 h63 hbytes (Nat.le_refl _)
    have hv:=h4.2 ⟨rfl,rfl⟩
    subst hv
    exact ⟨_,w',[],hr,⟨h2.1,.inl ⟨rfl,rfl,rfl⟩⟩,(Mod.refl _ _).grown h3 (fun k hk=>by simp [Value.ownBlock] at hk),by simp⟩
   ·obtain ⟨w',hr,h2,h3⟩:=run_append_fits (P:=P) w 0 t ty e i size ht hi hsize g n cap xs hown.own a 0 c [] hl (hc0 a) h1 hnc
    rcases h2.2 with ⟨hv,_⟩ | ⟨g',cap',cur',hv,_,hg',r⟩
    ·simp at hv
    ·refine ⟨_,w',[g'],hr,⟨h2.1,.inr ⟨g',cap',cur',hv,rfl,hg',r⟩⟩,(Mod.refl _ _).grown h3 (fun k hk _=>by simp at hk;simp [hk]),fun k hk=>?_⟩
     simp at hv
     simp at hk
     subst hk
     exact .inl (by simp [hv.1])
 ·obtain ⟨a,rfl,hn⟩:=hnews h0
  exact run_append_sl w t ty e i z size bytes ht hi hz hsize hby hzs hsz v n xs F hown a m c news h0 hl hn h1 h63 hbytes
theorem wpList_append_slz {P:Program} (w:World) {ops:Array Oper} {rest:List Oper} {o:Oper} {a:Act} {Q:Exit→Act→World→Prop} (hgd:o.guard=none) (s x:Operand) (t:TypeId)
 (ho:o.op=.call { callee:=.builtin .append,args:=#[s,x],argTypes:=#[t,t] })
 (e:TypeId) (i:TypeInfo) (z:Value) (size bytes:Nat) (ht:P.underlying t=some (.slice e)) (hi:P.info? e=some i) (hz:i.zero=some z)
 (hsize:i.size=size) (hby:i.bytes=bytes) (hzs:z.cells.size=size) (hsz:0 < size)
 (v:Value) (n:Nat) (xs:List Value) (F:List Nat) (hs:a.eval s=v) (hown:Sl w e size v n xs F)
 (A:Option Addr) (m c:Nat) (news:List Value) (hx:a.eval x=.slice A m c) (hl:news.length=m *size) (hnews:0 < m→∃a,A=some a∧∀j u,news[j]? =some u→w.cell? (a.add j)=some u) (h1:∀u∈news,u.oneCell'=true)
 (h63:n+m≤maxLen) (hbytes:(n+m) *bytes≤140737488355328)
 (h:∀v' w' F',Sl w' e size v' (n+m) (xs++news) F'→Mod F w w'→(∀k∈F',k∈F∨w.heap.size≤k)→wpList P ops Q rest (a.put o.dst v') w'):wpList P ops Q (o::rest) a w:=by
 refine wpList_plain hgd fun K hK=>?_
 obtain ⟨v',w',F',hr,h2,h3,h4⟩:=run_append_slz (P:=P) w t o.type e i z size bytes ht hi hz hsize hby hzs hsz v n xs F hown A m c news hl hnews h1 h63 hbytes
 unfold Oper.wp execOp
 simp only [ho,resolve,invoke,builtin,Sem.run_bind,Sem.run_pure,Result.andThen_ok,List.map_toArray,List.map_cons,List.map_nil,hs,hx,hr]
 exact hK _ _ (h v' w' F' h2 h3 h4)
def NewV (E:Nat) (w:World) (xs:List Value) (w':World) (v':Value):Prop:=∃F',Sl w' E 1 v' xs.length xs F'∧Mod [] w w'∧∀k∈F',w.heap.size≤k
section
variable {E:Nat}
theorem NewV.rv {w w':World} {l:List Value} {v':Value} (h:NewV E w l w' v'):∃F,Rv w' v' l F∧∀k∈F,w.heap.size≤k:=by
 obtain ⟨F,hs,_,hf⟩:=h;exact ⟨F,Rv.of_sl hs rfl,hf⟩
theorem NewV.mod {w w':World} {l:List Value} {v':Value} (h:NewV E w l w' v'):Mod [] w w':=by
 obtain ⟨F,_,hm,_⟩:=h;exact hm
theorem NewV.shape {w w':World} {l:List Value} {v':Value} (h:NewV E w l w' v'):∃A cap,v'=.slice A l.length cap:=by
 obtain ⟨F,hs,_,_⟩:=h;obtain ⟨A,cap,e,_⟩:=hs.shape;exact ⟨A,cap,e⟩
theorem NewV.after {w0 w w':World} {l:List Value} {v':Value} (h:NewV E w l w' v') (m:Mod [] w0 w):NewV E w0 l w' v':=by
 obtain ⟨F,hs,hm,hf⟩:=h;exact ⟨F,hs,m.trans hm (by simp),fun k hk=>Nat.le_trans m.size (hf k hk)⟩
theorem NewV.later {w w1 w2:World} {l:List Value} {v:Value} (h:NewV E w l w1 v) (m:Mod [] w1 w2):NewV E w l w2 v:=by
 obtain ⟨F,hs,hm,hf⟩:=h;exact ⟨F,hs.mod m (by simp),hm.trans m (by simp),hf⟩
theorem NewV.nil (E:Nat) {w w':World} (m:Mod [] w w'):NewV E w [] w' (.slice none 0 0):=⟨[],Sl.nil _ _ _,m,by simp⟩
theorem NewV.of_empty {w w1:World} {l:List Value} {n:Nat} {v':Value} {F':List Nat} (hs1:Sl w1 E 1 v' (0+n) ([]++l) F') (hn:l.length=n) (hm1:Mod [w.heap.size] (w.alloc (.cells #[] E)) w1)
 (hf1:∀k∈F',k∈[w.heap.size]∨(w.alloc (.cells #[] E)).heap.size≤k):NewV E w l w1 v':=by
 refine ⟨F',by rw [hn];simpa using hs1,Mod.trans (S':=[w.heap.size]) ((Mod.refl [] _).alloc _) hm1 (by intro i hi hm;simp at hm;omega),fun k hk=>?_⟩
 rcases hf1 k hk with h1 | h1
 ·simp at h1;omega
 ·simp at h1;omega
theorem NewV.app {w w1 w0 w2:World} {l l2:List Value} {n m:Nat} {v':Value} {F F':List Nat} (hm:Mod [] w w1) (hf:∀k∈F,w.heap.size≤k) (hn:l.length=n) (hm2:l2.length=m) (m0:Mod [] w1 w0)
 (hs:Sl w2 E 1 v' (n+m) (l++l2) F') (hm1:Mod F w0 w2) (hf1:∀k∈F',k∈F∨w0.heap.size≤k):NewV E w (l++l2) w2 v':=by
 refine ⟨F',?_,(hm.trans m0 (by simp)).trans hm1 (fun i hi hx=>by have:=hf i hx;omega),fun k hk=>?_⟩
 ·rw [List.length_append,hn,hm2];exact hs
 ·rcases hf1 k hk with h | h
  ·exact hf k h
  ·have:=hm.size;have:=m0.size;omega
end
open Go.RowKit
def ei (x:Nat):Value:=.int .i64 (x:Int)
def eb (b:Bool):Value:=.bool b
theorem ei_one (l:List Nat):∀u∈l.map ei,u.oneCell'=true:=by
 intro u hu
 obtain ⟨x,_,rfl⟩:=List.mem_map.1 hu
 rfl
theorem Tryz.info3:(Tryz.prog.info? 3).map (fun i=>(i.zero,i.size,i.bytes))=some (some (.int .i64 0),1,8):=by kernel_rfl
theorem Tryz.infoB:(Tryz.prog.info? 4).map (fun i=>(i.zero,i.size,i.bytes))=some (some (.bool false),1,1):=by kernel_rfl
def pw (k:Nat):Int:=((2 ^ k:Nat):Int)
theorem pw_succ (k:Nat):2 *pw k=pw (k+1):=by unfold pw;rw [Nat.pow_succ];omega
theorem pw_pos (k:Nat):1≤pw k:=by unfold pw;have:=Nat.two_pow_pos k;omega
theorem pw_le {k n:Nat} (h:k≤n):pw k≤pw n:=by unfold pw;have:=Nat.pow_le_pow_right (n:=2) (by omega) h;omega
theorem size_c (n:Nat) (h:n≤40) (w:World):Calls Tryz.prog 9 #[.int .i64 n] w fun e w'=>e=.returned (.int .i64 (2 ^ n:Nat))∧w'=w:=by
 show Calls _ _ _ _ fun e w'=>e=.returned (.int .i64 (pw n))∧w'=w
 have h':(n:Int)≤40:=by omega
 go_enter Tryz.func9,Tryz.ntmps9
 go_wp2
 go_loop [3,4] (fun s i=>∃k:Nat,k≤n∧i=.int .i64 k∧s=.int .i64 (pw k)) (fun _ i=>n - (intOf i).toNat)
 case atStart=>exact ⟨0,by omega,rfl,rfl⟩
 case round=>
  obtain ⟨k,hk,rfl,rfl⟩:=hrel
  have P1:=pw_pos k
  have P2:pw k≤pw 40:=pw_le (by omega)
  have P3:pw 40=1099511627776:=rfl
  have PS:=Lib.hid (pw_succ k)
  rw [P3] at P2
  clear P3
  by_cases hlt:k < n
  ·generalize pw k=x at *
   go_wp2
   go_round
   case rel=>exact ⟨k+1,by omega,by go_num,by rw [PS.out]⟩
   case measure=>simp [intOf];omega
  ·obtain rfl:k=n:=by omega
   clear PS
   go_wp2
   go_ret
   exact ⟨rfl,rfl⟩
theorem pw_div (x v:Nat):(x:Int) / pw v % 2=((x / 2 ^ v % 2:Nat):Int):=by unfold pw;omega
def valN (x v:Nat):Nat:=x / 2 ^ v % 2
theorem value_c (x v:Nat) (hx:x≤1099511627776) (hv:v≤40) (w:World):Calls Tryz.prog 39 #[.int .i64 x,.int .i64 v] w fun e w'=>e=.returned (.int .i64 (valN x v:Nat))∧w'=w:=by
 have SZ:=Lib.hid (size_c v hv w)
 have PD:=Lib.hid (pw_div x v)
 have P1:=pw_pos v
 have P2:pw v≤pw 40:=pw_le hv
 have P3:pw 40=1099511627776:=rfl
 rw [P3] at P2
 clear P3
 have hx':(x:Int)≤1099511627776:=by omega
 have hd1:0≤(x:Int) / pw v:=Int.ediv_nonneg (by omega) (by omega)
 have hd2:(x:Int) / pw v≤1099511627776:=by
  have:=Int.ediv_le_self (a:=(x:Int)) (pw v) (by omega);omega
 go_enter Tryz.func39,Tryz.ntmps39
 go_wp2_with fail
 refine SZ.out.mono ?_
 rintro e w' ⟨rfl,rfl⟩
 change Hid ((x:Int) / pw v % 2=(valN x v:Nat)) at PD
 show _
 have e1:((2 ^ v:Nat):Int)=pw v:=rfl
 rw [e1]
 clear e1 hx
 go_wp2_with fail
 go_ret
 exact ⟨rfl,rfl⟩
open Go.RowKit
theorem madeInts (w:World) (n:Nat) (hn:n≤100000):(Instr.makeSlice 28 (.int .i64 n) (.int .i64 n)).run Tryz.prog w=.ok (.slice (some ⟨w.heap.size,0,none⟩) n n) (w.alloc (.cells (madeCells #[.int .i64 0] n) 3)):=by
 obtain ⟨i0,hi,hz0,hz1,hz2⟩:=info_parts Tryz.info3
 have:=run_make (P:=Tryz.prog) w 28 3 i0 _ Tryz.underlying28 hi hz0 .i64 .i64 n n (by omega) (by omega) (by rw [hz2];omega) (by omega)
 simpa [hz1,Value.cells] using this
theorem madeBools (w:World) (n:Nat) (hn:n≤100000):(Instr.makeSlice 26 (.int .i64 n) (.int .i64 n)).run Tryz.prog w=.ok (.slice (some ⟨w.heap.size,0,none⟩) n n) (w.alloc (.cells (madeCells #[.bool false] n) 4)):=by
 obtain ⟨i0,hi,hz0,hz1,hz2⟩:=info_parts Tryz.infoB
 have:=run_make (P:=Tryz.prog) w 26 4 i0 _ Tryz.underlying26 hi hz0 .i64 .i64 n n (by omega) (by omega) (by rw [hz2];omega) (by omega)
 simpa [hz1,Value.cells] using this
theorem madeOne (z:Value) (n:Nat):(madeCells #[z] n).toList=List.replicate n z:=by
 apply List.ext_getElem?
 intro i
 by_cases h:i < n
 ·simp [madeCells,h,Nat.mod_one]
 ·simp [madeCells,h]
theorem Sl.made1 (w:World) (E n:Nat) (z:Value) (hm:n≤maxLen) (g:Nat) (hg:g=w.heap.size):Sl (w.alloc (.cells (madeCells #[z] n) E)) E 1 (.slice (some ⟨g,0,none⟩) n n) n (List.replicate n z) [g]:=by
 subst hg
 have:=Sl.made w E 1 n #[z] hm
 rw [Nat.mul_one,madeOne] at this
 exact this
def B64:Nat:=18446744073709551616
def bitsN (n a:Nat):List Bool:=(List.range (2 ^ n)).map fun x=>a.testBit x
theorem bitsN_len (n a:Nat):(bitsN n a).length=2 ^ n:=by simp [bitsN]
theorem mod2 (a:Nat):(((a:Nat):Int) % 2==1)=a.testBit 0:=by
 rw [Nat.testBit_zero]
 by_cases h:a % 2=1
 ·have:((a:Int) % 2)=1:=by omega
  simp [h,this]
 ·have:¬((a:Int) % 2)=1:=by omega
  simp [h,this]
theorem bits_c (n a:Nat) (hn:n≤6) (ha:a < B64) (w:World):Calls Tryz.prog 5 #[.int .i64 n,.int .u64 a] w fun e w'=>∃v,e=.returned v∧NewV 4 w ((bitsN n a).map eb) w' v:=by
 have SZ:=Lib.hid (size_c n (by omega))
 have HA:=Lib.hid ha
 clear ha
 have h64:2 ^ n≤64:=by have:=Nat.pow_le_pow_right (n:=2) (by omega) hn;simpa using this
 obtain ⟨N,hN⟩:∃N,2 ^ n=N:=⟨_,rfl⟩
 rw [hN] at SZ h64
 have HN:=Lib.hid hN
 clear hN
 have hmk:=fun w=>madeBools w N (by omega)
 obtain ⟨g,hg⟩:∃g,w.heap.size=g:=⟨_,rfl⟩
 go_enter Tryz.func5,Tryz.ntmps5
 go_wp2_with fail
 refine (SZ.out _).mono ?_
 rintro e w' ⟨rfl,rfl⟩
 go_wp2_with fail
 have HG:=Lib.hid hg
 have S0:=Lib.hid (Sl.made1 w' 4 N (.bool false) (by unfold maxLen;omega) g hg.symm)
 have M0:Hid (Mod [] w' (w'.alloc (.cells (madeCells #[.bool false] N) 4))):=(Mod.refl _ _).alloc _
 clear hmk SZ hg
 generalize w'.alloc (.cells (madeCells #[.bool false] N) 4)=w0 at *
 go_loopw [6,1] (fun i x wr=>∃k:Nat,∃xs:List Bool,k≤N∧i=.int .i64 k∧x=.int .u64 ((a / 2 ^ k:Nat):Int)∧xs.length=N∧(∀j,j < k→xs[j]? =some (a.testBit j))∧Sl wr 4 1 (.slice (some ⟨g,0,none⟩) N N) N (xs.map eb) [g]∧Mod [] w' wr) (fun i _ _=>N - (intOf i).toNat)
 case atStart=>exact ⟨0,List.replicate N false,by omega,rfl,by simp,by simp,by omega,by simpa [eb] using S0.out,M0.out⟩
 case round=>
  obtain ⟨k,xs,hk,rfl,rfl,hxl,hxs,hs,hm⟩:=hrel
  have HXL:=Lib.hid hxl
  have HXS:=Lib.hid hxs
  have HS:=Lib.hid hs
  have HM:=Lib.hid hm
  clear hxl hxs hs hm S0 M0
  by_cases hlt:k < N
  ·have hlt':(k:Int) < N:=by omega
   have E1:Hid (((a / 2 ^ k:Nat):Int) / 2=((a / 2 ^ (k+1):Nat):Int)):=by
    show _=_
    rw [Nat.pow_succ,←Nat.div_div_eq_div_mul];omega
   have E3:Hid (IntKind.u64.wrap (((a / 2 ^ k:Nat):Int) / 2)=((a / 2 ^ (k+1):Nat):Int)):=by
    show _=_
    have h1:=HA.out
    have h2:a / 2 ^ k≤a:=Nat.div_le_self _ _
    unfold B64 at h1
    have h3:=E1.out
    generalize a / 2 ^ k=y at *
    generalize a / 2 ^ (k+1)=z at *
    rw [IntWalk.u64_in _ (by omega)];exact h3
   have E2:Hid ((((a / 2 ^ k:Nat):Int) % 2==1)=a.testBit k):=by
    show _=_
    rw [mod2,Nat.testBit_div_two_pow];simp
   obtain ⟨d1,d2,-⟩:=HS.out.at k (by omega)
   rw [List.getElem?_map,List.getElem?_eq_getElem (by rw [HXL.out];exact hlt)] at d1
   simp only [Option.map_some,eb] at d1
   generalize (a / 2 ^ k:Nat)=y at *
   go_wp2_with fail
   go_roundw
   case rel=>
    refine ⟨k+1,xs.set k (a.testBit k),by omega,by go_num,by rw [E3.out],by simp [HXL.out],?_,?_,?_⟩
    ·intro j hj
     rw [List.getElem?_set]
     by_cases q:k=j
     ·subst q;simp [HXL.out,hlt]
     ·rw [if_neg q];exact HXS.out j (by omega)
    ·have:=HS.out.set k (.bool (a.testBit k))
     rw [List.map_set]
     rw [E2.out]
     exact this
    ·exact HM.out.setCell _ _ (by have:=HG.out;simp;omega)
   case measure=>simp [intOf];omega
  ·obtain rfl:k=N:=by omega
   go_wp2_with fail
   go_ret
   have e:xs=bitsN n a:=by
    apply List.ext_getElem?
    intro j
    by_cases q:j < k
    ·rw [HXS.out j q];unfold bitsN;rw [List.getElem?_map,List.getElem?_range (by rw [HN.out];exact q)];rfl
    ·rw [List.getElem?_eq_none (by rw [HXL.out];omega),List.getElem?_eq_none (by rw [bitsN_len,HN.out];omega)]
   subst e
   refine ⟨_,rfl,[g],?_,HM.out,by intro k hk;simp at hk;subst hk;rw [HG.out];omega⟩
   have:=HS.out
   rw [List.length_map,bitsN_len,HN.out]
   exact this
def valB:List Bool→Nat
 | []=>0
 | b::l=>b.toNat+2 *valB l
theorem valB_lt (l:List Bool):valB l < 2 ^ l.length:=by
 induction l with
 | nil=>simp [valB]
 | cons b l ih=>simp only [valB,List.length_cons,Nat.pow_succ];cases b<;>simp<;>omega
theorem valB_bit (l:List Bool) (i:Nat):(valB l).testBit i=l.getD i false:=by
 induction l generalizing i with
 | nil=>simp [valB]
 | cons b l ih=>
  cases i with
  | zero=>simp [valB,Nat.testBit_zero];cases b<;>simp<;>omega
  | succ i=>
   rw [Nat.testBit_succ]
   have:(b.toNat+2 *valB l) / 2=valB l:=by cases b<;>simp<;>omega
   rw [valB,this,ih];simp
theorem of05_c (n:Nat) {w:World} {v:Value} {t:List Bool} {F:List Nat} (h:Rv w v (t.map eb) F) (h0:0 < t.length) (h32:t.length≤32):
 Calls Tryz.prog 11 #[.int .i64 n,v] w fun e w'=>∃g,e=.returned (.agg #[.int .i64 n,.slice (some ⟨g,0,none⟩) 1 1])∧w'.cell? ⟨g,0,none⟩=some (.int .u64 (valB t:Nat))∧w.heap.size≤g∧Mod [] w w':=by
 obtain ⟨A,cap,rfl,hc⟩:=h.shape
 have H:=Lib.hid h
 simp only [List.length_map] at H hc ⊢
 clear h
 obtain ⟨N,hN⟩:∃N,t.length=N:=⟨_,rfl⟩
 rw [hN] at H hc h0 h32 ⊢
 have HN:=Lib.hid hN
 clear hN
 have hmk:∀w,(Instr.makeSlice 23 (.int .i64 1) (.int .i64 1)).run Tryz.prog w=.ok (.slice (some ⟨w.heap.size,0,none⟩) 1 1) (w.alloc (.cells #[.int .u64 0] 22)):=fun _=>by kernel_rfl
 have hq:((N:Int)+63) / 64=1:=by omega
 obtain ⟨g0,hg⟩:∃g,w.heap.size=g:=⟨_,rfl⟩
 go_enter Tryz.func11,Tryz.ntmps11
 go_wp2_with fail
 have B0:=Blk.new' (w.alloc (.cells #[.int .i64 0,.slice none 0 0] 39)) #[.int .u64 0] 22 (g0+1) (by simp [hg])
 have C0:=(Blk.new' w #[.int .i64 0,.slice none 0 0] 39 g0 hg.symm).alloc (.cells #[.int .u64 0] 22)
 have M0:Hid (Mod [] w ((w.alloc (.cells #[.int .i64 0,.slice none 0 0] 39)).alloc (.cells #[.int .u64 0] 22))):=((Mod.refl _ _).alloc _).alloc _
 generalize (w.alloc (.cells #[.int .i64 0,.slice none 0 0] 39)).alloc (.cells #[.int .u64 0] 22)=w0 at *
 have B0:=Lib.hid B0
 have C0:=Lib.hid C0
 have HG:=Lib.hid hg
 clear hmk hq hg
 go_loopw [6] (fun i wr=>∃k:Nat,k≤N∧i=.int .i64 ((k:Int) - 1)∧Blk wr (g0+1) #[.int .u64 (valB (t.drop k):Nat)] 22∧Blk wr g0 #[.int .i64 0,.slice none 0 0] 39∧Mod [] w wr) (fun i _=>(intOf i+1).toNat)
 case atStart=>exact ⟨N,by omega,rfl,by rw [List.drop_of_length_le (by rw [HN.out];omega)];exact B0.out,C0.out,M0.out⟩
 case round=>
  obtain ⟨k,hk,rfl,hb,hcb,hm⟩:=hrel
  clear B0 C0 M0
  have HB:=Lib.hid hb
  have HC:=Lib.hid hcb
  have HM:=Lib.hid hm
  have e1:=hb.cell 0
  have f1:=hb.froz 0
  simp only [List.getElem?_toArray,List.getElem?_cons_zero] at e1
  have hlen:(t.drop k).length≤32:=by rw [List.length_drop,HN.out];omega
  have hv:valB (t.drop k) < 4294967296:=Nat.lt_of_lt_of_le (valB_lt _) (by have:=Nat.pow_le_pow_right (n:=2) (by omega) hlen;simpa using this)
  have hv':(valB (t.drop k):Int)≤4294967295:=by omega
  clear hlen hv
  by_cases hlt:0 < k
  ·obtain ⟨j,rfl⟩:∃j,k=j+1:=⟨k - 1,by omega⟩
   have hj:j < t.length:=by rw [HN.out];omega
   obtain ⟨b1,o1,rfl,d1⟩:=(H.out.mod hm (by simp)).at j (by rw [List.length_map];exact hj)
   rw [List.getElem_map] at d1
   have DR:Hid (valB (t.drop j)=(t[j]).toNat+2 *valB (t.drop (j+1))):=by show _=_;rw [List.drop_eq_getElem_cons hj,valB]
   have hb1:b1 < wr.heap.size:=World.block_lt_of_cell? wr _ d1
   have hj0:(((j+1:Nat):Int) - 1)=(j:Int):=by omega
   simp only [hj0]
   have hq:(j:Int) / 64=0:=by omega
   have hj1:(j:Int) < N:=by omega
   unfold eb at d1
   generalize t[j]=x at *
   generalize valB (t.drop (j+1))=y at *
   have HQ:b1=g0+1→False:=by
    rintro rfl;rw [show o1+j=o1+j from rfl] at d1
    have:=hb.cell (o1+j)
    rw [d1] at this
    rcases Nat.eq_zero_or_pos (o1+j) with q | q
    ·rw [q] at this;simp at this
    ·rw [Array.getElem?_eq_none (by simp;omega)] at this;simp at this
   have hne:¬b1=g0+1:=HQ
   clear hb hcb hm HQ hj hb1
   have st:∀(u1 u2:Value),Mod [] w ((wr.setCell ⟨g0+1,0,none⟩ u1).setCell ⟨g0+1,0,none⟩ u2)∧Mod [] w (wr.setCell ⟨g0+1,0,none⟩ u1):=fun u1 u2=>⟨(HM.out.setCell _ _ (by have:=HG.out;simp;omega)).setCell _ _ (by have:=HG.out;simp;omega),HM.out.setCell _ _ (by have:=HG.out;simp;omega)⟩
   have ST:=Lib.hid st
   clear st
   cases x with
   | true=>
    go_wp2_with fail
    go_roundw
    case rel=>
     refine ⟨j,by omega,by first | rfl | go_num,?_,?_,(ST.out _ _).1⟩
     ·rw [DR.out]
      have e:((true.toNat+2 *y:Nat):Int)=2 *(y:Int)+1:=by simp;omega
      rw [e]
      simpa using (HB.out.set 0 (.int .u64 (2 *(y:Int)))).set 0 (.int .u64 (2 *(y:Int)+1))
     ·exact (HC.out.other _ _ (by simp)).other _ _ (by simp)
    case measure=>simp [intOf]
   | false=>
    go_wp2_with fail
    go_roundw
    case rel=>
     refine ⟨j,by omega,by first | rfl | go_num,?_,?_,(ST.out _ (.int .u64 0)).2⟩
     ·rw [DR.out]
      have e:((false.toNat+2 *y:Nat):Int)=2 *(y:Int):=by simp
      rw [e]
      simpa using (HB.out.set 0 (.int .u64 (2 *(y:Int))))
     ·exact (HC.out.other _ _ (by simp))
    case measure=>simp [intOf]
  ·obtain rfl:k=0:=by omega
   rw [List.drop_zero] at HB hb e1 hv'
   obtain ⟨c0,c1⟩:wr.cell? ⟨g0,0,none⟩=some (.int .i64 0)∧wr.cell? ⟨g0,1,none⟩=some (.slice none 0 0):=by
    constructor<;>(rw [hcb.cell];rfl)
   have f0:=hcb.froz 0
   have f2:=hcb.froz 1
   clear hb hcb hm
   go_wp2_with fail
   refine bodyPost_ret (v:=.agg #[.int .i64 n,.slice (some ⟨g0+1,0,none⟩) 1 1]) (by simp [results,Tryz.results11,go_sem,c0,c1,f0,f2]) rfl ?_
   refine ⟨g0+1,rfl,?_,by have:=HG.out;omega,?_⟩
   ·have:=((HB.out.other ⟨g0,0,none⟩ (.int .i64 n) (by simp)).other ⟨g0,1,none⟩ (.slice (some ⟨g0+1,0,none⟩) 1 1) (by simp)).cell 0
    simpa using this
   ·exact (HM.out.setCell _ _ (by have:=HG.out;simp;omega)).setCell _ _ (by have:=HG.out;simp;omega)
open Go.RowKit
theorem self02_c (n:Nat) (hn:n≤100) (w:World):Calls Tryz.prog 6 #[.int .i64 n] w fun e w'=>∃v,e=.returned v∧NewV 3 w ((List.range n).map ei) w' v:=by
 obtain ⟨i0,hi,hz0,hz1,hz2⟩:=info_parts Tryz.info3
 have hn':(n:Int)≤100:=by omega
 go_enter Tryz.func6,Tryz.ntmps6
 go_wp2_with fail
 go_loopw [3,4] (fun o i wr=>∃k:Nat,k≤n∧i=.int .i64 k∧Hid (NewV 3 w ((List.range k).map ei) wr o)) (fun _ i _=>n - (intOf i).toNat)
 case atStart=>exact ⟨0,by omega,rfl,NewV.nil _ (by exact mods)⟩
 case round=>
  obtain ⟨k,hk,rfl,HN⟩:=hrel
  by_cases hlt:k < n
  ·have hlt':(k:Int) < n:=by omega
   obtain ⟨Fo,so,mo,fo⟩:=HN.out
   obtain ⟨Ao,capo,rfl,hcapo⟩:=so.shape
   have e0:((List.range k).map ei).length=k:=by simp
   rw [e0] at so hcapo HN ⊢
   have SO:=Lib.hid so
   have MO:=Lib.hid mo
   have FO:=Lib.hid fo
   have LO:=Lib.hid e0
   clear so mo fo hcapo e0
   go_wp2_with (at_builtin;refine wpList_append_sl _ rfl _ _ 28 rfl 3 i0 (.int .i64 0) 1 8 Tryz.underlying28 hi hz0 hz1 hz2 rfl (by decide) _ k ((List.range k).map ei) Fo rfl (SO.out.mod (S:=[]) (by exact mods) (by simp)) ⟨_,0,none⟩ 1 1 [ei k] (by decide) rfl rfl (by intro j u hu;exact list_new_at _ _ _ _ (by simp) j u hu) (by intro u hu;simp at hu;subst hu;rfl) (by unfold maxLen;omega) (by omega) ?_;intro v5 w5 F5 hs5 hm5 hf5;have N5:=Lib.hid (NewV.app (l:=(List.range k).map ei) (l2:=[ei k]) MO.out FO.out LO.out rfl (by exact mods) hs5 hm5 hf5);obtain ⟨a5,cap5,rfl,_⟩:=hs5.shape;clear hs5 hm5 hf5)
   go_wp2_with fail
   go_roundw
   case rel=>exact ⟨k+1,by omega,by go_num,by have:=N5.out;show NewV _ _ _ _ _;rw [List.range_succ,List.map_append];exact this⟩
   case measure=>simp [intOf];omega
  ·obtain rfl:k=n:=by omega
   go_wp2_with fail
   go_ret
   exact ⟨_,rfl,HN.out⟩
open Go.RowKit
theorem isForm_c (f:Nat) (h1:1≤f) (h5:f≤5) (w:World):Calls Tryz.prog 56 #[.int .u8 f] w fun e w'=>e=.returned (.bool true)∧w'=w:=by
 have h1':(1:Int)≤f:=by omega
 have h5':(f:Int)≤5:=by omega
 go_enter Tryz.func56,Tryz.ntmps56
 go_wp2
 go_ret
 exact ⟨rfl,rfl⟩
theorem nodeMay_c (n:Nat) (h:n≤16) (w:World):Calls Tryz.prog 115 #[.int .i64 n] w fun e w'=>e=.returned (.bool true)∧w'=w:=by
 have h1':(0:Int)≤n:=by omega
 have h5':(n:Int)≤16:=by omega
 go_enter Tryz.func115,Tryz.ntmps115
 go_wp2
 go_ret
 exact ⟨rfl,rfl⟩
theorem chained_c (f:Nat) (b:Bool) (h:decide (f=3∨f=4)=b) (w:World):Calls Tryz.prog 191 #[.int .u8 f] w fun e w'=>e=.returned (.bool b)∧w'=w:=by
 by_cases h3:f=3
 ·subst h3
  go_enter Tryz.func191,Tryz.ntmps191
  go_wp2
  go_ret
  exact ⟨by rw [←h];rfl,rfl⟩
 ·have h3':((f:Int)==3)=false:=by rw [beq_eq_false_iff_ne];omega
  have HB:Hid (((f:Int)==4)=b):=by
   show _=_
   rw [←h]
   by_cases h4:f=4
   ·rw [decide_eq_true (.inr h4),beq_iff_eq];omega
   ·rw [decide_eq_false (by omega),beq_eq_false_iff_ne];omega
  clear h
  have h3n:¬(f:Int)=3:=by omega
  clear h3
  go_enter Tryz.func191,Tryz.ntmps191
  go_wp2
  go_ret
  refine ⟨?_,rfl⟩
  rw [←HB.out];rfl
structure Ed where
 t:Nat
 a:Nat
 deriving DecidableEq
def edv (e:Ed):Value:=.agg #[.int .u8 e.t,.int .u32 e.a]
def PlainE (f:Nat) (e:Ed) (l n:Nat):Prop:=(f≠5∨e.a=0→e.t=0)∧(f=5→e.a≠0→l≤e.t∧e.t≤n)
theorem plain_c (f:Nat) (h1:1≤f) (h5:f≤5) (e:Ed) (l n:Nat) (hl:l≤n) (hn:n≤16) (h:PlainE f e l n) (w:World):
 Calls Tryz.prog 99 #[.int .u8 f,edv e,.int .i64 l,.int .i64 n] w fun e' w'=>e'=.returned (.bool true)∧Mod [] w w':=by
 obtain ⟨t,a⟩:=e
 obtain ⟨p1,p2⟩:=h
 simp only at p1 p2
 have IF:=Lib.hid (isForm_c f h1 h5)
 have MY:=Lib.hid (nodeMay_c n hn)
 have hl':(l:Int)≤n:=by omega
 unfold edv
 by_cases q:f≠5∨a=0
 ·obtain rfl:=p1 q
  clear p1 p2
  by_cases q5:f=5
  ·subst q5
   obtain rfl:a=0:=by omega
   clear q
   go_enter Tryz.func99,Tryz.ntmps99
   go_wp2_with fail
   refine (IF.out _).mono ?_
   rintro e w1 ⟨rfl,rfl⟩
   go_wp2_with fail
   refine (MY.out _).mono ?_
   rintro e w1 ⟨rfl,rfl⟩
   go_wp2_with fail
   go_ret
   exact ⟨rfl,by exact mods⟩
  ·have h5':((f:Int) != 5)=true:=by rw [bne_iff_ne];omega
   have h5n:¬(f:Int)=5:=by omega
   clear q
   go_enter Tryz.func99,Tryz.ntmps99
   go_wp2_with fail
   refine (IF.out _).mono ?_
   rintro e w1 ⟨rfl,rfl⟩
   go_wp2_with fail
   refine (MY.out _).mono ?_
   rintro e w1 ⟨rfl,rfl⟩
   go_wp2_with fail
   go_ret
   exact ⟨rfl,by exact mods⟩
 ·obtain rfl:f=5:=by omega
  have ha:((a:Int)==0)=false:=by rw [beq_eq_false_iff_ne];omega
  have ha0:¬(a:Int)=0:=by omega
  obtain ⟨p3,p4⟩:=p2 rfl (by omega)
  have p3':(l:Int)≤t:=by omega
  have p4':(t:Int)≤n:=by omega
  have ht:(t:Int)≤16:=by omega
  clear p1 p2 q
  go_enter Tryz.func99,Tryz.ntmps99
  go_wp2_with fail
  refine (IF.out _).mono ?_
  rintro e w1 ⟨rfl,rfl⟩
  go_wp2_with fail
  refine (MY.out _).mono ?_
  rintro e w1 ⟨rfl,rfl⟩
  go_wp2_with fail
  go_ret
  exact ⟨rfl,by exact mods⟩
open Go.RowKit
def oneE (f n:Nat):Ed:=if f=5 then ⟨n,1⟩ else ⟨0,1⟩
theorem one_c (f:Nat) (h1:1≤f) (h5:f≤5) (n:Nat) (hn:n≤16) (w:World):
 Calls Tryz.prog 88 #[.int .u8 f,.int .i64 n] w fun e' w'=>e'=.returned (edv (oneE f n))∧Mod [] w w':=by
 have IF:=Lib.hid (isForm_c f h1 h5)
 have MY:=Lib.hid (nodeMay_c n hn)
 have hn':(n:Int)≤255:=by omega
 unfold edv oneE
 by_cases q5:f=5
 ·subst q5
  go_enter Tryz.func88,Tryz.ntmps88
  go_wp2_with fail
  refine (IF.out _).mono ?_
  rintro e w1 ⟨rfl,rfl⟩
  go_wp2_with fail
  refine (MY.out _).mono ?_
  rintro e w1 ⟨rfl,rfl⟩
  go_wp2_with fail
  go_returns
  exact ⟨rfl,by exact mods⟩
 ·have h5':((f:Int)==5)=false:=by rw [beq_eq_false_iff_ne];omega
  have h5n:¬(f:Int)=5:=by omega
  rw [if_neg q5]
  go_enter Tryz.func88,Tryz.ntmps88
  go_wp2_with fail
  refine (IF.out _).mono ?_
  rintro e w1 ⟨rfl,rfl⟩
  go_wp2_with fail
  refine (MY.out _).mono ?_
  rintro e w1 ⟨rfl,rfl⟩
  go_wp2_with fail
  go_returns
  exact ⟨rfl,by exact mods⟩
structure Rc where
 f:Nat
 top:Nat
 bot:Nat
 lo:Ed
 hi:Ed
 deriving DecidableEq
def rcv (r:Rc):Value:=.agg #[.int .u8 r.f,.int .u8 r.top,.int .u8 r.bot,.int .u8 r.lo.t,.int .u32 r.lo.a,.int .u8 r.hi.t,.int .u32 r.hi.a]
structure RightR (r:Rc) (n:Nat):Prop where
 f1:1≤r.f
 f5:r.f≤5
 tb:r.top≤r.bot
 bn:r.bot < n
 n16:n≤16
 ch:r.top=r.bot∨r.f=3∨r.f=4
 lo:PlainE r.f r.lo (r.bot+1) n
 hi:PlainE r.f r.hi (r.bot+1) n
 z:r.f=2∨r.f=4→r.hi.a≠0
 b:r.f≠2→r.f≠4→r.lo≠r.hi
theorem Blk.cells7 {w:World} {g:Nat} {a b c d e f h:Value} {t:TypeId} (B:Blk w g #[a,b,c,d,e,f,h] t):
 w.cell? ⟨g,0,none⟩=some a∧w.cell? ⟨g,1,none⟩=some b∧w.cell? ⟨g,2,none⟩=some c∧w.cell? ⟨g,3,none⟩=some d∧w.cell? ⟨g,4,none⟩=some e∧w.cell? ⟨g,5,none⟩=some f∧w.cell? ⟨g,6,none⟩=some h:=by
 refine ⟨?_,?_,?_,?_,?_,?_,?_⟩<;>(rw [B.cell];rfl)
theorem right_c (r:Rc) (n:Nat) (h:RightR r n) (w:World):
 Calls Tryz.prog 176 #[rcv r,.int .i64 n] w fun e' w'=>e'=.returned (.bool true)∧Mod [] w w':=by
 obtain ⟨f,top,bot,⟨lt,la⟩,⟨ht,ha⟩⟩:=r
 obtain ⟨f1,f5,tb,bn,n16,ch,lo,hi,z,b⟩:=h
 simp only at f1 f5 tb bn ch lo hi z b
 have IF:=Lib.hid (isForm_c f f1 f5)
 have MY:=Lib.hid (nodeMay_c n n16)
 have PL:=Lib.hid (plain_c f f1 f5 ⟨lt,la⟩ (bot+1) n (by omega) n16 lo)
 have PH:=Lib.hid (plain_c f f1 f5 ⟨ht,ha⟩ (bot+1) n (by omega) n16 hi)
 have tb':(top:Int)≤bot:=by omega
 have bn':(bot:Int) < n:=by omega
 have n16':(n:Int)≤16:=by omega
 clear lo hi
 unfold rcv
 unfold edv at PL PH
 simp only at PL PH ⊢
 rcases Decidable.em (f=2) with q2 | q2
 ·subst q2
  have hz2:=z (by omega)
  have ha0:((ha:Int) != 0)=true:=by rw [bne_iff_ne];omega
  have ha1:¬(ha:Int)=0:=by omega
  have htb:top=bot:=by omega
  clear b z ch
  subst htb
  obtain ⟨g,hg⟩:∃g,w.heap.size=g:=⟨_,rfl⟩
  have BB:Hid (Blk (w.alloc (.cells #[.int .u8 (2:Nat),.int .u8 top,.int .u8 top,.int .u8 lt,.int .u32 la,.int .u8 ht,.int .u32 ha] 108)) g #[.int .u8 (2:Nat),.int .u8 top,.int .u8 top,.int .u8 lt,.int .u32 la,.int .u8 ht,.int .u32 ha] 108):=Blk.new' _ _ _ _ hg.symm
  have MM:Hid (Mod [] w (w.alloc (.cells #[.int .u8 (2:Nat),.int .u8 top,.int .u8 top,.int .u8 lt,.int .u32 la,.int .u8 ht,.int .u32 ha] 108))):=(Mod.refl _ _).alloc _
  go_enter Tryz.func176,Tryz.ntmps176
  go_wp2_with fail
  go_quiet (fail)
  go_wp2_with fail
  refine (IF.out _).mono ?_
  rintro e w1 ⟨rfl,rfl⟩
  go_wp2_with fail
  refine (MY.out _).mono ?_
  rintro e w1 ⟨rfl,rfl⟩
  go_wp2_with fail
  refine (PL.out _).mono ?_
  rintro e w2 ⟨rfl,m2⟩
  replace BB:=Lib.hid ((BB.out.drewN _).mod m2 (by simp))
  replace MM:=Lib.hid ((MM.out.drewN _).trans' m2)
  obtain ⟨c0,c1,c2,c3,c4,c5,c6⟩:=BB.out.cells7
  clear m2
  go_wp2_with fail
  refine (PH.out _).mono ?_
  rintro e w3 ⟨rfl,m3⟩
  clear c0 c1 c2 c3 c4 c5 c6
  replace BB:=Lib.hid (BB.out.mod m3 (by simp))
  replace MM:=Lib.hid (MM.out.trans' m3)
  obtain ⟨c0,c1,c2,c3,c4,c5,c6⟩:=BB.out.cells7
  clear m3
  go_wp2_with fail
  go_ret
  exact ⟨rfl,MM.out⟩
 rcases Decidable.em (f=4) with q4 | q4
 ·subst q4
  have hz2:=z (by omega)
  have ha0:((ha:Int) != 0)=true:=by rw [bne_iff_ne];omega
  have ha1:¬(ha:Int)=0:=by omega
  clear b z ch q2
  by_cases htb:top=bot
  ·skip
   subst htb
   obtain ⟨g,hg⟩:∃g,w.heap.size=g:=⟨_,rfl⟩
   have BB:Hid (Blk (w.alloc (.cells #[.int .u8 (4:Nat),.int .u8 top,.int .u8 top,.int .u8 lt,.int .u32 la,.int .u8 ht,.int .u32 ha] 108)) g #[.int .u8 (4:Nat),.int .u8 top,.int .u8 top,.int .u8 lt,.int .u32 la,.int .u8 ht,.int .u32 ha] 108):=Blk.new' _ _ _ _ hg.symm
   have MM:Hid (Mod [] w (w.alloc (.cells #[.int .u8 (4:Nat),.int .u8 top,.int .u8 top,.int .u8 lt,.int .u32 la,.int .u8 ht,.int .u32 ha] 108))):=(Mod.refl _ _).alloc _
   go_enter Tryz.func176,Tryz.ntmps176
   go_wp2_with fail
   go_quiet (fail)
   go_wp2_with fail
   refine (IF.out _).mono ?_
   rintro e w1 ⟨rfl,rfl⟩
   go_wp2_with fail
   refine (MY.out _).mono ?_
   rintro e w1 ⟨rfl,rfl⟩
   go_wp2_with fail
   refine (PL.out _).mono ?_
   rintro e w2 ⟨rfl,m2⟩
   replace BB:=Lib.hid ((BB.out.drewN _).mod m2 (by simp))
   replace MM:=Lib.hid ((MM.out.drewN _).trans' m2)
   obtain ⟨c0,c1,c2,c3,c4,c5,c6⟩:=BB.out.cells7
   clear m2
   go_wp2_with fail
   refine (PH.out _).mono ?_
   rintro e w3 ⟨rfl,m3⟩
   clear c0 c1 c2 c3 c4 c5 c6
   replace BB:=Lib.hid (BB.out.mod m3 (by simp))
   replace MM:=Lib.hid (MM.out.trans' m3)
   obtain ⟨c0,c1,c2,c3,c4,c5,c6⟩:=BB.out.cells7
   clear m3
   go_wp2_with fail
   go_ret
   exact ⟨rfl,MM.out⟩
  ·skip
   have CH:=Lib.hid (chained_c 4 true (decide_eq_true (by omega)))
   have htb1:((top:Int) != bot)=true:=by rw [bne_iff_ne];omega
   have htb2:¬(top:Int)=bot:=by omega
   clear htb
   obtain ⟨g,hg⟩:∃g,w.heap.size=g:=⟨_,rfl⟩
   have BB:Hid (Blk (w.alloc (.cells #[.int .u8 (4:Nat),.int .u8 top,.int .u8 bot,.int .u8 lt,.int .u32 la,.int .u8 ht,.int .u32 ha] 108)) g #[.int .u8 (4:Nat),.int .u8 top,.int .u8 bot,.int .u8 lt,.int .u32 la,.int .u8 ht,.int .u32 ha] 108):=Blk.new' _ _ _ _ hg.symm
   have MM:Hid (Mod [] w (w.alloc (.cells #[.int .u8 (4:Nat),.int .u8 top,.int .u8 bot,.int .u8 lt,.int .u32 la,.int .u8 ht,.int .u32 ha] 108))):=(Mod.refl _ _).alloc _
   go_enter Tryz.func176,Tryz.ntmps176
   go_wp2_with fail
   go_quiet (fail)
   go_wp2_with fail
   refine (IF.out _).mono ?_
   rintro e w1 ⟨rfl,rfl⟩
   go_wp2_with fail
   refine (MY.out _).mono ?_
   rintro e w1 ⟨rfl,rfl⟩
   go_wp2_with fail
   refine (CH.out _).mono ?_
   rintro e w1 ⟨rfl,rfl⟩
   go_wp2_with fail
   refine (PL.out _).mono ?_
   rintro e w2 ⟨rfl,m2⟩
   replace BB:=Lib.hid ((BB.out.drewN _).mod m2 (by simp))
   replace MM:=Lib.hid ((MM.out.drewN _).trans' m2)
   obtain ⟨c0,c1,c2,c3,c4,c5,c6⟩:=BB.out.cells7
   clear m2
   go_wp2_with fail
   refine (PH.out _).mono ?_
   rintro e w3 ⟨rfl,m3⟩
   clear c0 c1 c2 c3 c4 c5 c6
   replace BB:=Lib.hid (BB.out.mod m3 (by simp))
   replace MM:=Lib.hid (MM.out.trans' m3)
   obtain ⟨c0,c1,c2,c3,c4,c5,c6⟩:=BB.out.cells7
   clear m3
   go_wp2_with fail
   go_ret
   exact ⟨rfl,MM.out⟩
 have hb:=b q2 q4
 have hf2:((f:Int)==2)=false:=by rw [beq_eq_false_iff_ne];omega
 have hf4:((f:Int)==4)=false:=by rw [beq_eq_false_iff_ne];omega
 have hf2':¬(f:Int)=2:=by omega
 have hf4':¬(f:Int)=4:=by omega
 clear b z
 by_cases hlt:lt=ht
 ·subst hlt
  have hla:¬la=ha:=fun e=>hb (by rw [e])
  have hla1:((la:Int)==ha)=false:=by rw [beq_eq_false_iff_ne];omega
  have hla2:¬(la:Int)=ha:=by omega
  clear hb hla
  by_cases htb:top=bot
  ·skip
   subst htb
   obtain ⟨g,hg⟩:∃g,w.heap.size=g:=⟨_,rfl⟩
   have BB:Hid (Blk (w.alloc (.cells #[.int .u8 f,.int .u8 top,.int .u8 top,.int .u8 lt,.int .u32 la,.int .u8 lt,.int .u32 ha] 108)) g #[.int .u8 f,.int .u8 top,.int .u8 top,.int .u8 lt,.int .u32 la,.int .u8 lt,.int .u32 ha] 108):=Blk.new' _ _ _ _ hg.symm
   have MM:Hid (Mod [] w (w.alloc (.cells #[.int .u8 f,.int .u8 top,.int .u8 top,.int .u8 lt,.int .u32 la,.int .u8 lt,.int .u32 ha] 108))):=(Mod.refl _ _).alloc _
   go_enter Tryz.func176,Tryz.ntmps176
   go_wp2_with fail
   go_quiet (fail)
   go_wp2_with fail
   refine (IF.out _).mono ?_
   rintro e w1 ⟨rfl,rfl⟩
   go_wp2_with fail
   refine (MY.out _).mono ?_
   rintro e w1 ⟨rfl,rfl⟩
   go_wp2_with fail
   refine (PL.out _).mono ?_
   rintro e w2 ⟨rfl,m2⟩
   replace BB:=Lib.hid ((BB.out.drewN _).mod m2 (by simp))
   replace MM:=Lib.hid ((MM.out.drewN _).trans' m2)
   obtain ⟨c0,c1,c2,c3,c4,c5,c6⟩:=BB.out.cells7
   clear m2
   go_wp2_with fail
   refine (PH.out _).mono ?_
   rintro e w3 ⟨rfl,m3⟩
   clear c0 c1 c2 c3 c4 c5 c6
   replace BB:=Lib.hid (BB.out.mod m3 (by simp))
   replace MM:=Lib.hid (MM.out.trans' m3)
   obtain ⟨c0,c1,c2,c3,c4,c5,c6⟩:=BB.out.cells7
   clear m3
   go_wp2_with fail
   go_ret
   exact ⟨rfl,MM.out⟩
  ·skip
   have CH:=Lib.hid (chained_c f true (decide_eq_true (by omega)))
   have htb1:((top:Int) != bot)=true:=by rw [bne_iff_ne];omega
   have htb2:¬(top:Int)=bot:=by omega
   clear htb
   obtain ⟨g,hg⟩:∃g,w.heap.size=g:=⟨_,rfl⟩
   have BB:Hid (Blk (w.alloc (.cells #[.int .u8 f,.int .u8 top,.int .u8 bot,.int .u8 lt,.int .u32 la,.int .u8 lt,.int .u32 ha] 108)) g #[.int .u8 f,.int .u8 top,.int .u8 bot,.int .u8 lt,.int .u32 la,.int .u8 lt,.int .u32 ha] 108):=Blk.new' _ _ _ _ hg.symm
   have MM:Hid (Mod [] w (w.alloc (.cells #[.int .u8 f,.int .u8 top,.int .u8 bot,.int .u8 lt,.int .u32 la,.int .u8 lt,.int .u32 ha] 108))):=(Mod.refl _ _).alloc _
   go_enter Tryz.func176,Tryz.ntmps176
   go_wp2_with fail
   go_quiet (fail)
   go_wp2_with fail
   refine (IF.out _).mono ?_
   rintro e w1 ⟨rfl,rfl⟩
   go_wp2_with fail
   refine (MY.out _).mono ?_
   rintro e w1 ⟨rfl,rfl⟩
   go_wp2_with fail
   refine (CH.out _).mono ?_
   rintro e w1 ⟨rfl,rfl⟩
   go_wp2_with fail
   refine (PL.out _).mono ?_
   rintro e w2 ⟨rfl,m2⟩
   replace BB:=Lib.hid ((BB.out.drewN _).mod m2 (by simp))
   replace MM:=Lib.hid ((MM.out.drewN _).trans' m2)
   obtain ⟨c0,c1,c2,c3,c4,c5,c6⟩:=BB.out.cells7
   clear m2
   go_wp2_with fail
   refine (PH.out _).mono ?_
   rintro e w3 ⟨rfl,m3⟩
   clear c0 c1 c2 c3 c4 c5 c6
   replace BB:=Lib.hid (BB.out.mod m3 (by simp))
   replace MM:=Lib.hid (MM.out.trans' m3)
   obtain ⟨c0,c1,c2,c3,c4,c5,c6⟩:=BB.out.cells7
   clear m3
   go_wp2_with fail
   go_ret
   exact ⟨rfl,MM.out⟩
 ·have hlt1:((lt:Int)==ht)=false:=by rw [beq_eq_false_iff_ne];omega
  have hlt2:¬(lt:Int)=ht:=by omega
  clear hb hlt
  by_cases htb:top=bot
  ·skip
   subst htb
   obtain ⟨g,hg⟩:∃g,w.heap.size=g:=⟨_,rfl⟩
   have BB:Hid (Blk (w.alloc (.cells #[.int .u8 f,.int .u8 top,.int .u8 top,.int .u8 lt,.int .u32 la,.int .u8 ht,.int .u32 ha] 108)) g #[.int .u8 f,.int .u8 top,.int .u8 top,.int .u8 lt,.int .u32 la,.int .u8 ht,.int .u32 ha] 108):=Blk.new' _ _ _ _ hg.symm
   have MM:Hid (Mod [] w (w.alloc (.cells #[.int .u8 f,.int .u8 top,.int .u8 top,.int .u8 lt,.int .u32 la,.int .u8 ht,.int .u32 ha] 108))):=(Mod.refl _ _).alloc _
   go_enter Tryz.func176,Tryz.ntmps176
   go_wp2_with fail
   go_quiet (fail)
   go_wp2_with fail
   refine (IF.out _).mono ?_
   rintro e w1 ⟨rfl,rfl⟩
   go_wp2_with fail
   refine (MY.out _).mono ?_
   rintro e w1 ⟨rfl,rfl⟩
   go_wp2_with fail
   refine (PL.out _).mono ?_
   rintro e w2 ⟨rfl,m2⟩
   replace BB:=Lib.hid ((BB.out.drewN _).mod m2 (by simp))
   replace MM:=Lib.hid ((MM.out.drewN _).trans' m2)
   obtain ⟨c0,c1,c2,c3,c4,c5,c6⟩:=BB.out.cells7
   clear m2
   go_wp2_with fail
   refine (PH.out _).mono ?_
   rintro e w3 ⟨rfl,m3⟩
   clear c0 c1 c2 c3 c4 c5 c6
   replace BB:=Lib.hid (BB.out.mod m3 (by simp))
   replace MM:=Lib.hid (MM.out.trans' m3)
   obtain ⟨c0,c1,c2,c3,c4,c5,c6⟩:=BB.out.cells7
   clear m3
   go_wp2_with fail
   go_ret
   exact ⟨rfl,MM.out⟩
  ·skip
   have CH:=Lib.hid (chained_c f true (decide_eq_true (by omega)))
   have htb1:((top:Int) != bot)=true:=by rw [bne_iff_ne];omega
   have htb2:¬(top:Int)=bot:=by omega
   clear htb
   obtain ⟨g,hg⟩:∃g,w.heap.size=g:=⟨_,rfl⟩
   have BB:Hid (Blk (w.alloc (.cells #[.int .u8 f,.int .u8 top,.int .u8 bot,.int .u8 lt,.int .u32 la,.int .u8 ht,.int .u32 ha] 108)) g #[.int .u8 f,.int .u8 top,.int .u8 bot,.int .u8 lt,.int .u32 la,.int .u8 ht,.int .u32 ha] 108):=Blk.new' _ _ _ _ hg.symm
   have MM:Hid (Mod [] w (w.alloc (.cells #[.int .u8 f,.int .u8 top,.int .u8 bot,.int .u8 lt,.int .u32 la,.int .u8 ht,.int .u32 ha] 108))):=(Mod.refl _ _).alloc _
   go_enter Tryz.func176,Tryz.ntmps176
   go_wp2_with fail
   go_quiet (fail)
   go_wp2_with fail
   refine (IF.out _).mono ?_
   rintro e w1 ⟨rfl,rfl⟩
   go_wp2_with fail
   refine (MY.out _).mono ?_
   rintro e w1 ⟨rfl,rfl⟩
   go_wp2_with fail
   refine (CH.out _).mono ?_
   rintro e w1 ⟨rfl,rfl⟩
   go_wp2_with fail
   refine (PL.out _).mono ?_
   rintro e w2 ⟨rfl,m2⟩
   replace BB:=Lib.hid ((BB.out.drewN _).mod m2 (by simp))
   replace MM:=Lib.hid ((MM.out.drewN _).trans' m2)
   obtain ⟨c0,c1,c2,c3,c4,c5,c6⟩:=BB.out.cells7
   clear m2
   go_wp2_with fail
   refine (PH.out _).mono ?_
   rintro e w3 ⟨rfl,m3⟩
   clear c0 c1 c2 c3 c4 c5 c6
   replace BB:=Lib.hid (BB.out.mod m3 (by simp))
   replace MM:=Lib.hid (MM.out.trans' m3)
   obtain ⟨c0,c1,c2,c3,c4,c5,c6⟩:=BB.out.cells7
   clear m3
   go_wp2_with fail
   go_ret
   exact ⟨rfl,MM.out⟩
open Go.RowKit
def mixv (h p:Int):Int:=
 bits .xor .u64 (IntKind.u64.wrap (bits .xor .u64 h p *11400714819323198485)) (IntKind.u64.wrap (bits .xor .u64 h p *11400714819323198485) / 536870912)
theorem mix_c (h p:Int) (w:World):Calls Tryz.prog 243 #[.int .u64 h,.int .u64 p] w fun e w'=>e=.returned (.int .u64 (mixv h p))∧w'=w:=by
 go_enter Tryz.func243,Tryz.ntmps243
 go_wp2
 go_ret
 exact ⟨rfl,rfl⟩
theorem mixv_range (h p:Int):0≤mixv h p∧mixv h p < 18446744073709551616:=by
 unfold mixv bits
 generalize (BitVec.toNat _:Nat)=x
 unfold IntKind.wrap
 simp [IntKind.signed,IntKind.bits]
 omega
def part1 (f t b:Nat):Int:=bits .or .u64 (bits .or .u64 (IntKind.u64.wrap (IntKind.u64.wrap (f:Int) *281474976710656)) (IntKind.u64.wrap (IntKind.u64.wrap (t:Int) *1099511627776))) (IntKind.u64.wrap (IntKind.u64.wrap (b:Int) *4294967296))
def part2 (t a:Nat):Int:=bits .or .u64 (IntKind.u64.wrap (IntKind.u64.wrap (t:Int) *4294967296)) (IntKind.u64.wrap (a:Int))
def hsh (r:Rc):Int:=mixv (mixv (mixv 1 (part1 r.f r.top r.bot)) (part2 r.lo.t r.lo.a)) (part2 r.hi.t r.hi.a)
theorem hash_c (r:Rc) (w:World):Calls Tryz.prog 242 #[rcv r] w fun e w'=>e=.returned (.int .u64 (hsh r))∧Mod [] w w':=by
 obtain ⟨f,t,b,⟨lt,la⟩,⟨ht,ha⟩⟩:=r
 have MX:=Lib.hid mix_c
 unfold rcv hsh
 simp only
 generalize hm:mixv (mixv (mixv 1 (part1 f t b)) (part2 lt la)) (part2 ht ha)=m
 have HM:=Lib.hid hm
 unfold part1 part2 at HM
 clear hm
 go_enter Tryz.func242,Tryz.ntmps242
 go_wp2_with fail
 refine (MX.out _ _ _).mono ?_
 rintro e w1 ⟨rfl,rfl⟩
 generalize hx1:mixv 1 _=x1
 rw [hx1] at HM
 clear hx1
 go_wp2_with fail
 refine (MX.out _ _ _).mono ?_
 rintro e w1 ⟨rfl,rfl⟩
 generalize hx2:mixv x1 _=x2
 rw [hx2] at HM
 clear hx2
 go_wp2_with fail
 refine (MX.out _ _ _).mono ?_
 rintro e w1 ⟨rfl,rfl⟩
 go_wp2_with fail
 go_ret
 exact ⟨by rw [←HM.out];rfl,by exact mods⟩
end Go.Proofs.YtlafpknoiihaaaaGreatDoor
