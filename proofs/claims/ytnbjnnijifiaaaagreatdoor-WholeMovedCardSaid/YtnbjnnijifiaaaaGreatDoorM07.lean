/- M07: Pa · Pb · Bf · Bg · Bo · Pl · Px · Pv -/
import Derived.Test.YtnbjnnijifiaaaaGreatDoorM05
import Derived.Test.YtnbjnnijifiaaaaGreatDoorM06
import Derived.Deep.RegionHeld3
set_option maxRecDepth 100000
set_option maxHeartbeats 4000000
set_option linter.unusedVariables false
set_option linter.unusedSimpArgs false
namespace Go.Proofs.YtnbjnnijifiaaaaGreatDoor
inductive Tr where
 | leaf (b:Bool)
 | node (top bot tl:Nat) (lo:Tr) (th:Nat) (hi:Tr)
 deriving DecidableEq
inductive Rep (L:List Rc) (f:Nat):Nat→Tr→Prop
 | zero:Rep L f 0 (.leaf false)
 | one:Rep L f 1 (.leaf true)
 | node {id:Nat} {r:Rc} {a b:Tr}:recAt L id=some r→r.f=f→Rep L f r.lo.a a→Rep L f r.hi.a b→Rep L f id (.node r.top r.bot r.lo.t a r.hi.t b)
theorem Rep.grow {L:List Rc} {f a:Nat} {T:Tr} (h:Rep L f a T) (L2:List Rc):Rep (L++L2) f a T:=by
 induction h with
 | zero=>exact .zero
 | one=>exact .one
 | node h1 h2 _ _ ih1 ih2=>exact .node (recAt_append h1 L2) h2 ih1 ih2
theorem Rep.inv {L:List Rc} {f a t b tl th:Nat} {x y:Tr} (h:Rep L f a (.node t b tl x th y)):
 ∃r,recAt L a=some r∧r.f=f∧r.top=t∧r.bot=b∧r.lo.t=tl∧r.hi.t=th∧Rep L f r.lo.a x∧Rep L f r.hi.a y:=by
 generalize hT:Tr.node t b tl x th y=T at h
 cases h with
 | zero=>cases hT
 | one=>cases hT
 | node h1 h2 h3 h4=>cases hT;exact ⟨_,h1,h2,rfl,rfl,rfl,rfl,h3,h4⟩
theorem Rep.invl {L:List Rc} {f a:Nat} {b:Bool} (h:Rep L f a (.leaf b)):a=if b then 1 else 0:=by
 generalize hT:Tr.leaf b=T at h
 cases h with
 | zero=>cases hT;rfl
 | one=>cases hT;rfl
 | node h1 h2 h3 h4=>cases hT
theorem Rep.two {L:List Rc} {f a t b tl th:Nat} {x y:Tr} (h:Rep L f a (.node t b tl x th y)):2≤a:=by
 obtain ⟨r,h1,_⟩:=h.inv
 exact (recAt_lt h1).1
theorem Rc.ext' {r s:Rc} (h1:r.f=s.f) (h2:r.top=s.top) (h3:r.bot=s.bot) (h4:r.lo.t=s.lo.t) (h5:r.lo.a=s.lo.a) (h6:r.hi.t=s.hi.t) (h7:r.hi.a=s.hi.a):r=s:=by
 obtain ⟨f,t,b,⟨lt,la⟩,⟨ht,ha⟩⟩:=r
 obtain ⟨f',t',b',⟨lt',la'⟩,⟨ht',ha'⟩⟩:=s
 simp_all
theorem recAt_inj {L:List Rc} (hn:L.Nodup) {i j:Nat} {r:Rc} (h:recAt L i=some r) (k:recAt L j=some r):i=j:=by
 obtain ⟨a1,a2,a3⟩:=recAt_lt h
 obtain ⟨b1,b2,b3⟩:=recAt_lt k
 have:=(List.getElem?_inj (by omega) hn).1 (a3.trans b3.symm)
 omega
theorem Rep.inj {L:List Rc} {f:Nat} (hn:L.Nodup):∀{T:Tr} {a a':Nat},Rep L f a T→Rep L f a' T→a=a':=by
 intro T
 induction T with
 | leaf b=>intro a a' h h';rw [h.invl,h'.invl]
 | node t b tl x th y ihx ihy=>
  intro a a' h h'
  obtain ⟨r,h1,h2,h3,h4,h5,h6,h7,h8⟩:=h.inv
  obtain ⟨s,k1,k2,k3,k4,k5,k6,k7,k8⟩:=h'.inv
  have e:r=s:=Rc.ext' (h2.trans k2.symm) (h3.trans k3.symm) (h4.trans k4.symm) (h5.trans k5.symm) (ihx h7 k7) (h6.trans k6.symm) (ihy h8 k8)
  subst e
  exact recAt_inj hn h1 k1
theorem Rep.fun_ {L:List Rc} {f a:Nat} {T:Tr} (h:Rep L f a T):∀{T':Tr},Rep L f a T'→T=T':=by
 induction h with
 | zero=>
  intro T' h'
  cases h' with
  | zero=>rfl
  | node h1=>have:=recAt_lt h1;omega
 | one=>
  intro T' h'
  cases h' with
  | one=>rfl
  | node h1=>have:=recAt_lt h1;omega
 | node h1 h2 h3 h4 ih1 ih2=>
  intro T' h'
  cases h' with
  | zero=>have:=recAt_lt h1;omega
  | one=>have:=recAt_lt h1;omega
  | node k1 k2 k3 k4=>
   rw [h1] at k1
   cases k1
   rw [ih1 k3,ih2 k4]
structure RepE (L:List Rc) (f:Nat) (e:Ed) (x:Nat × Tr):Prop where
 t:e.t=x.1
 a:Rep L f e.a x.2
theorem RepE.grow {L:List Rc} {f:Nat} {e:Ed} {x:Nat × Tr} (h:RepE L f e x) (L2:List Rc):RepE (L++L2) f e x:=⟨h.t,h.a.grow L2⟩
theorem RepE.eq_iff {L:List Rc} {f:Nat} (hn:L.Nodup) {e e':Ed} {x x':Nat × Tr} (h:RepE L f e x) (h':RepE L f e' x'):e=e'↔x=x':=by
 constructor
 ·rintro rfl
  exact Prod.ext (h.t.symm.trans h'.t) (h.a.fun_ h'.a)
 ·rintro rfl
  obtain ⟨t,a⟩:=e
  obtain ⟨t',a'⟩:=e'
  have h1:=h.t.trans h'.t.symm
  have h2:=Rep.inj hn h.a h'.a
  simp only at h1 h2
  rw [h1,h2]
theorem RepE.zero_iff {L:List Rc} {f:Nat} {e:Ed} {x:Nat × Tr} (h:RepE L f e x):e.a=0↔x.2=.leaf false:=by
 have ha:=h.a
 constructor
 ·intro h0
  rw [h0] at ha
  exact (Rep.zero.fun_ ha).symm
 ·intro h0
  rw [h0] at ha
  simpa using ha.invl
def nodeE (f l:Nat) (lo hi:Nat × Tr):Tr:=
 match lo.2 with
 | .node t b tl x th y=>
  if f=3∧t=l+1∧(th,y)=hi then .node l b tl x hi.1 hi.2
  else if f=4∧lo=hi∧t=l+1 then .node l b tl x th y else .node l l lo.1 lo.2 hi.1 hi.2
 | .leaf _=>.node l l lo.1 lo.2 hi.1 hi.2
def mkE (f l:Nat) (lo hi:Nat × Tr):Nat × Tr:=
 if f=2∨f=4 then (if hi.2=.leaf false then lo else (0,nodeE f l lo hi))
 else if lo=hi then lo else if f=5∧hi.2=.leaf false∧lo.1=l+1 then (l,lo.2) else (if f=5 then l else 0,nodeE f l lo hi)
theorem fnd_nodup {L:List Rc} (h:L.Nodup) (r:Rc):(fnd L r).1.Nodup:=by
 unfold fnd
 split
 ·exact h
 ·rename_i hr
  rw [List.nodup_append]
  exact ⟨h,by simp,by intro a ha b hb;simp at hb;subst hb;rintro rfl;exact hr ha⟩
theorem rep_node {L:List Rc} (hn:L.Nodup) {f l:Nat} {lo hi:Ed} {x y:Nat × Tr} (hx:RepE L f lo x) (hy:RepE L f hi y):
 Rep (fnd L (recP L f l lo hi)).1 f (fnd L (recP L f l lo hi)).2 (nodeE f l x y):=by
 have hid:=fnd_at L (recP L f l lo hi)
 obtain ⟨L2,hL2⟩:=fnd_grow L (recP L f l lo hi)
 have base:recP L f l lo hi=⟨f,l,l,lo,hi⟩→Rep (fnd L (recP L f l lo hi)).1 f (fnd L (recP L f l lo hi)).2 (.node l l x.1 x.2 y.1 y.2):=by
  intro e
  rw [e] at hid hL2 ⊢
  have h:=Rep.node (L:=(fnd L ⟨f,l,l,lo,hi⟩).1) (f:=f) hid rfl (a:=x.2) (b:=y.2) (by rw [hL2];exact hx.a.grow _) (by rw [hL2];exact hy.a.grow _)
  rw [←hx.t,←hy.t];exact h
 obtain ⟨xt,xT⟩:=x
 cases xT with
 | leaf b=>
  unfold nodeE
  simp only
  refine base ?_
  have:=hx.a.invl
  unfold recP
  have e:recAt L lo.a=none:=by
   unfold recAt;rw [if_neg];rw [this];split<;>omega
  rw [e]
 | node t b tl u th v=>
  obtain ⟨r,h1,h2,h3,h4,h5,h6,h7,h8⟩:=Rep.inv hx.a
  have ehi:r.hi=hi↔(th,v)=y:=RepE.eq_iff hn ⟨h6,h8⟩ hy
  have elo:lo=hi↔(xt,Tr.node t b tl u th v)=y:=RepE.eq_iff hn hx hy
  unfold nodeE
  simp only
  unfold recP at hid hL2 base ⊢
  rw [h1] at hid hL2 base ⊢
  simp only at hid hL2 base ⊢
  by_cases c1:f=3∧r.top=l+1∧r.hi=hi
  ·rw [if_pos c1] at hid hL2 ⊢
   have n1:f=3∧t=l+1∧(th,v)=y:=⟨c1.1,h3▸c1.2.1,ehi.1 c1.2.2⟩
   rw [if_pos n1]
   obtain ⟨rfl,-,-⟩:=c1
   have h:=Rep.node (L:=(fnd L ⟨3,l,r.bot,r.lo,hi⟩).1) (f:=3) hid rfl (a:=u) (b:=y.2) (by rw [hL2];exact h7.grow _) (by rw [hL2];exact hy.a.grow _)
   simp only [h4,h5,hy.t] at h ⊢
   exact h
  ·rw [if_neg c1] at hid hL2 base ⊢
   have n1:¬(f=3∧t=l+1∧(th,v)=y):=fun c=>c1 ⟨c.1,h3.trans c.2.1,ehi.2 c.2.2⟩
   rw [if_neg n1]
   by_cases c2:f=4∧lo=hi∧r.top=l+1
   ·rw [if_pos c2] at hid hL2 ⊢
    have n2:f=4∧(xt,Tr.node t b tl u th v)=y∧t=l+1:=⟨c2.1,elo.1 c2.2.1,h3▸c2.2.2⟩
    rw [if_pos n2]
    obtain ⟨rfl,-,-⟩:=c2
    have h:=Rep.node (L:=(fnd L ⟨4,l,r.bot,r.lo,r.hi⟩).1) (f:=4) hid rfl (a:=u) (b:=v) (by rw [hL2];exact h7.grow _) (by rw [hL2];exact h8.grow _)
    simp only [h4,h5,h6] at h ⊢
    exact h
   ·rw [if_neg c2] at hid hL2 base ⊢
    have n2:¬(f=4∧(xt,Tr.node t b tl u th v)=y∧t=l+1):=fun c=>c2 ⟨c.1,elo.2 c.2.1,h3.trans c.2.2⟩
    rw [if_neg n2]
    exact base rfl
theorem mk_rep {L:List Rc} (hn:L.Nodup) {f l:Nat} {lo hi:Ed} {x y:Nat × Tr} (hx:RepE L f lo x) (hy:RepE L f hi y):
 RepE (mkP L f l lo hi).1 f (mkP L f l lo hi).2 (mkE f l x y)∧(mkP L f l lo hi).1.Nodup:=by
 have hz:=hy.zero_iff
 have he:=RepE.eq_iff hn hx hy
 have hnode:=rep_node (l:=l) hn hx hy
 have hnd:=fnd_nodup hn (recP L f l lo hi)
 unfold mkP shortP mkE
 by_cases c1:f=2∨f=4
 ·rw [if_pos c1,if_pos c1]
  have h5:¬f=5:=by omega
  by_cases c2:hi.a=0
  ·rw [if_pos c2,if_pos (hz.1 c2)];exact ⟨hx,hn⟩
  ·have c2':¬y.2=.leaf false:=fun c=>c2 (hz.2 c)
   rw [if_neg c2,if_neg c2',if_neg h5]
   exact ⟨⟨rfl,hnode⟩,hnd⟩
 ·rw [if_neg c1,if_neg c1]
  by_cases c2:lo=hi
  ·rw [if_pos c2,if_pos (he.1 c2)];exact ⟨hx,hn⟩
  ·have c2':¬x=y:=fun c=>c2 (he.2 c)
   rw [if_neg c2,if_neg c2']
   by_cases c3:f=5∧hi.a=0∧lo.t=l+1
   ·have c3':f=5∧y.2=.leaf false∧x.1=l+1:=⟨c3.1,hz.1 c3.2.1,hx.t▸c3.2.2⟩
    rw [if_pos c3,if_pos c3'];exact ⟨⟨rfl,hx.a⟩,hn⟩
   ·have c3':¬(f=5∧y.2=.leaf false∧x.1=l+1):=fun c=>c3 ⟨c.1,hz.2 c.2.1,hx.t.trans c.2.2⟩
    rw [if_neg c3,if_neg c3']
    exact ⟨⟨rfl,hnode⟩,hnd⟩
def leafE (f n:Nat) (b:Bool):Nat × Tr:=(if f=5∧b=true then n else 0,.leaf b)
def buildE (f n:Nat):Nat→Nat→List Bool→Nat × Tr
 | 0,_,t=>leafE f n (t.headD false)
 | k+1,l,t=>mkE f l (buildE f n k (l+1) (t.take (2 ^ k))) (buildE f n k (l+1) (t.drop (2 ^ k)))
def tsz:Tr→Nat
 | .leaf _=>1
 | .node _ _ _ x _ y=>1+tsz x+tsz y
def nds:Tr→List Tr
 | .leaf _=>[]
 | .node t b tl x th y=>.node t b tl x th y::(nds x++nds y)
def dis {α:Type} [DecidableEq α]:List α→List α→List α
 | out,[]=>out
 | out,x::l=>dis (if x∈out then out else out++[x]) l
theorem dis_mem {α:Type} [DecidableEq α] {x:α}:∀(l out:List α),x∈dis out l↔x∈out∨x∈l:=by
 intro l
 induction l with
 | nil=>intro out;simp [dis]
 | cons y l ih=>
  intro out
  rw [dis,ih]
  by_cases h:y∈out
  ·rw [if_pos h];simp;constructor
   ·rintro (h | h);exact .inl h;exact .inr (.inr h)
   ·rintro (h | rfl | h);exact .inl h;exact .inl ‹_›;exact .inr h
  ·rw [if_neg h];simp [or_assoc]
theorem dis_nodup {α:Type} [DecidableEq α]:∀(l out:List α),out.Nodup→(dis out l).Nodup:=by
 intro l
 induction l with
 | nil=>intro out h;exact h
 | cons y l ih=>
  intro out h
  rw [dis]
  refine ih _ ?_
  split
  ·exact h
  ·rename_i hy
   rw [List.nodup_append]
   exact ⟨h,by simp,by intro a ha b hb;simp at hb;subst hb;rintro rfl;exact hy ha⟩
theorem nodup_le {α:Type} [DecidableEq α]:∀{l m:List α},l.Nodup→(∀x∈l,x∈m)→l.length≤m.length:=by
 intro l
 induction l with
 | nil=>intro m _ _;simp
 | cons a l ih=>
  intro m hn hs
  rw [List.nodup_cons] at hn
  have ham:=hs a (by simp)
  have h1:=ih (m:=m.erase a) hn.2 (fun x hx=>by
   have:x≠a:=fun e=>hn.1 (e▸hx)
   exact (List.mem_erase_of_ne this).2 (hs x (by simp [hx])))
  have h2:=List.length_erase_of_mem ham
  have h3:=List.length_pos_of_mem ham
  simp only [List.length_cons]
  omega
theorem nodup_le_rel {α β:Type} [DecidableEq α] [DecidableEq β] (R:α→β→Prop) (hinj:∀a a' b,R a b→R a' b→a=a'):∀{l:List α} {m:List β},l.Nodup→(∀x∈l,∃y∈m,R x y)→l.length≤m.length:=by
 intro l
 induction l with
 | nil=>intro m _ _;simp
 | cons a l ih=>
  intro m hn hs
  rw [List.nodup_cons] at hn
  obtain ⟨y,hy,hr⟩:=hs a (by simp)
  have h1:=ih (m:=m.erase y) hn.2 (fun x hx=>by
   obtain ⟨z,hz,hrz⟩:=hs x (by simp [hx])
   refine ⟨z,(List.mem_erase_of_ne ?_).2 hz,hrz⟩
   rintro rfl
   exact hn.1 (hinj _ _ _ hr hrz▸hx))
  have h2:=List.length_erase_of_mem hy
  have h3:=List.length_pos_of_mem hy
  simp only [List.length_cons]
  omega
theorem nodup_len_rel {α β:Type} [DecidableEq α] [DecidableEq β] (R:α→β→Prop) (hinj:∀a a' b,R a b→R a' b→a=a') (hfun:∀a b b',R a b→R a b'→b=b') {l:List α} {m:List β} (hl:l.Nodup) (hm:m.Nodup)
 (h1:∀x∈l,∃y∈m,R x y) (h2:∀y∈m,∃x∈l,R x y):l.length=m.length:=
 Nat.le_antisymm (nodup_le_rel R hinj hl h1) (nodup_le_rel (fun b a=>R a b) (fun b b' a h k=>hfun a b b' h k) hm h2)
theorem Rep.ge {L:List Rc} {f a:Nat} {T:Tr} (h:Rep L f a T):(∃b,T=.leaf b∧a < 2)∨2≤a∧a < L.length+2:=by
 cases h with
 | zero=>exact .inl ⟨_,rfl,by omega⟩
 | one=>exact .inl ⟨_,rfl,by omega⟩
 | node h1=>have:=recAt_lt h1;exact .inr ⟨this.1,this.2.1⟩
def idsOf (L:List Rc) (f:Nat) (T:Tr) (id:Nat):Prop:=∃S,S∈nds T∧Rep L f id S
theorem nds_node {S T:Tr} (h:S∈nds T):∃t b tl x th y,S=.node t b tl x th y:=by
 induction T with
 | leaf b=>simp [nds] at h
 | node t b tl x th y ihx ihy=>
  simp [nds] at h
  rcases h with rfl | h | h
  ·exact ⟨_,_,_,_,_,_,rfl⟩
  ·exact ihx h
  ·exact ihy h
theorem nds_trans {S T U:Tr} (h:S∈nds T) (k:T∈nds U):S∈nds U:=by
 induction U with
 | leaf b=>simp [nds] at k
 | node t b tl x th y ihx ihy=>
  simp [nds] at k
  rcases k with rfl | k | k
  ·exact h
  ·simp [nds,ihx k]
  ·simp [nds,ihy k]
theorem nds_size {S T:Tr} (h:S∈nds T):tsz S≤tsz T:=by
 induction T with
 | leaf b=>simp [nds] at h
 | node t b tl x th y ihx ihy=>
  simp [nds] at h
  rcases h with rfl | h | h
  ·exact Nat.le_refl _
  ·have:=ihx h;simp [tsz];omega
  ·have:=ihy h;simp [tsz];omega
theorem Rep.sub {L:List Rc} {f a:Nat} {T:Tr} (h:Rep L f a T):∀S∈nds T,∃id,Rep L f id S:=by
 induction h with
 | zero=>simp [nds]
 | one=>simp [nds]
 | @node id r x y h1 h2 h3 h4 ih1 ih2=>
  intro S hS
  simp [nds] at hS
  rcases hS with rfl | hS | hS
  ·exact ⟨id,.node h1 h2 h3 h4⟩
  ·exact ih1 S hS
  ·exact ih2 S hS
theorem ids_len {L:List Rc} (hn:L.Nodup) {f a:Nat} {T:Tr} (h:Rep L f a T) {l:List Nat} (hl:l.Nodup) (hm:∀id,id∈l↔idsOf L f T id):l.length=(dis [] (nds T)).length:=by
 refine nodup_len_rel (fun id S=>Rep L f id S) (fun a a' b h k=>Rep.inj hn h k) (fun a b b' h k=>Rep.fun_ h k) hl (dis_nodup _ _ (by simp)) ?_ ?_
 ·intro id hid
  obtain ⟨S,hS,hr⟩:=(hm id).1 hid
  exact ⟨S,by rw [dis_mem];exact .inr hS,hr⟩
 ·intro S hS
  rw [dis_mem] at hS
  have hS':S∈nds T:=by simpa using hS
  obtain ⟨id,hid⟩:=h.sub S hS'
  exact ⟨id,(hm id).2 ⟨S,hS',hid⟩,hid⟩
def Cl (L:List Rc) (f:Nat) (V:Nat→Prop) (m:Nat):Prop:=∀id S,V id→Rep L f id S→tsz S < m→∀j,idsOf L f S j→V j
theorem idsOf_node {L:List Rc} {f id:Nat} {t b tl th:Nat} {x y:Tr} (hn:L.Nodup) (h:Rep L f id (.node t b tl x th y)) (j:Nat):
 idsOf L f (.node t b tl x th y) j↔j=id∨idsOf L f x j∨idsOf L f y j:=by
 constructor
 ·rintro ⟨S,hS,hr⟩
  simp [nds] at hS
  rcases hS with rfl | hS | hS
  ·exact .inl (Rep.inj hn hr h)
  ·exact .inr (.inl ⟨S,hS,hr⟩)
  ·exact .inr (.inr ⟨S,hS,hr⟩)
 ·rintro (rfl | ⟨S,hS,hr⟩ | ⟨S,hS,hr⟩)
  ·exact ⟨_,by simp [nds],h⟩
  ·exact ⟨S,by simp [nds,hS],hr⟩
  ·exact ⟨S,by simp [nds,hS],hr⟩
theorem idsOf_leaf {L:List Rc} {f:Nat} {b:Bool} (j:Nat):¬idsOf L f (.leaf b) j:=by
 rintro ⟨S,hS,_⟩;simp [nds] at hS
theorem idsOf_in {L:List Rc} {f:Nat} {S T:Tr} {id j:Nat} (h:idsOf L f T id) (hr:Rep L f id S) (hj:idsOf L f S j):idsOf L f T j:=by
 obtain ⟨U,hU,hrU⟩:=h
 have e:=hrU.fun_ hr
 subst e
 obtain ⟨W,hW,hrW⟩:=hj
 exact ⟨W,nds_trans hW hU,hrW⟩
theorem Cl.skip {L:List Rc} {f:Nat} {V:Nat→Prop} {m id:Nat} {T:Tr} (h:Cl L f V m) (hr:Rep L f id T) (hv:V id) (hm:tsz T < m) (j:Nat):V j↔V j∨idsOf L f T j:=
 ⟨.inl,fun h'=>h'.elim (fun x=>x) (h id T hv hr hm j)⟩
theorem Cl.add {L:List Rc} {f:Nat} {V:Nat→Prop} {m id:Nat} {T:Tr} (h:Cl L f V m) (hr:Rep L f id T) (hm:tsz T < m):Cl L f (fun j=>V j∨j=id) (tsz T):=by
 intro i S hi hS hlt j hj
 rcases hi with hi | rfl
 ·exact .inl (h i S hi hS (by omega) j hj)
 ·have:=hS.fun_ hr;subst this;omega
theorem Cl.union {L:List Rc} {f:Nat} {V:Nat→Prop} {m:Nat} {T:Tr} (h:Cl L f V m):Cl L f (fun j=>V j∨idsOf L f T j) m:=by
 intro i S hi hS hlt j hj
 rcases hi with hi | hi
 ·exact .inl (h i S hi hS hlt j hj)
 ·exact .inr (idsOf_in hi hS hj)
theorem Cl.congr {L:List Rc} {f:Nat} {V V':Nat→Prop} {m:Nat} (h:Cl L f V m) (e:∀j,V j↔V' j):Cl L f V' m:=
 fun i S hi hS hlt j hj=>(e j).1 (h i S ((e i).2 hi) hS hlt j hj)
open Go.RowKit
structure BSt (w:World) (bb b bo n f g cap W:Nat) (p q Fo:List Nat):Prop where
 bb:Blk w bb #[.pointer (some ⟨b,0,none⟩),.pointer (some ⟨bo,0,none⟩),.int .u8 f,.int .i64 n,.slice (some ⟨g,0,none⟩) 1 cap] 76
 word:w.cell? ⟨g,0,none⟩=some (.int .u64 W)
 ord:IsOrd w bo p q Fo
theorem IsOrd.lt {w:World} {b:Nat} {p q:List Nat} {F:List Nat} (h:IsOrd w b p q F):∀k∈F,k < w.heap.size:=by
 obtain ⟨vp,vq,Fp,Fq,h1,h2,h3,rfl,r⟩:=h
 intro k hk
 simp at hk
 rcases hk with rfl | hk | hk
 ·exact h1.lt
 ·exact h2.lt k hk
 ·exact h3.lt k hk
theorem BSt.mod {S:List Nat} {w w':World} {bb b bo n f g cap W:Nat} {p q Fo:List Nat} (h:BSt w bb b bo n f g cap W p q Fo) (m:Mod S w w') (hd:∀k∈bb::g::Fo,k∉S):BSt w' bb b bo n f g cap W p q Fo:=
 ⟨h.bb.mod m (hd bb (by simp)),(m.cell (a:=⟨g,0,none⟩) (World.block_lt_of_cell? w _ h.word) (hd g (by simp))).trans h.word,h.ord.mod m (fun k hk=>hd k (by simp [hk]))⟩
theorem BSt.lt {w:World} {bb b bo n f g cap W:Nat} {p q Fo:List Nat} (h:BSt w bb b bo n f g cap W p q Fo):∀k∈bb::g::Fo,k < w.heap.size:=by
 intro k hk
 simp at hk
 rcases hk with rfl | rfl | hk
 ·exact h.bb.lt
 ·exact World.block_lt_of_cell? w _ h.word
 ·exact h.ord.lt k hk
theorem Blk.cells5 {w:World} {g:Nat} {a b c d e:Value} {t:TypeId} (B:Blk w g #[a,b,c,d,e] t):
 w.cell? ⟨g,0,none⟩=some a∧w.cell? ⟨g,1,none⟩=some b∧w.cell? ⟨g,2,none⟩=some c∧w.cell? ⟨g,3,none⟩=some d∧w.cell? ⟨g,4,none⟩=some e:=by
 refine ⟨?_,?_,?_,?_,?_⟩<;>(rw [B.cell];rfl)
def tabL (W:Nat) (p:List Nat):Nat→Nat→Nat→List Bool
 | 0,_,x=>[W.testBit x]
 | k+1,l,x=>tabL W p k (l+1) x++tabL W p k (l+1) (x ||| 2 ^ p.getD l 0)
theorem tabL_len (W:Nat) (p:List Nat):∀k l x,(tabL W p k l x).length=2 ^ k:=by
 intro k
 induction k with
 | zero=>intro l x;rfl
 | succ k ih=>intro l x;rw [tabL,List.length_append,ih,ih,Nat.pow_succ];omega
def FromP (w:World) (b n room:Nat) (L:List Rc) (F:List Nat) (f l k:Nat) (x:Nat × Tr) (e:Ending) (w':World):Prop:=
 ∃ed L2 F',e=.returned (.tuple #[edv ed,.int .u8 0])∧IsSt w' b n (L++L2) room F'∧Mod F w w'∧(∀k∈F',k∈F∨w.heap.size≤k)∧Good (L++L2) n∧(L++L2).Nodup∧LeadsP (L++L2) f ed l n∧RepE (L++L2) f ed x∧L2.length+1≤2 ^ k
theorem or_pow {x v:Nat} (hx:x < 4294967296) (hv:v < 32):bits .or .i64 (x:Int) (2 ^ v)=((x ||| 2 ^ v:Nat):Int):=by
 have h2:(2:Nat) ^ v < 4294967296:=by
  have:=Nat.pow_lt_pow_right (a:=2) (by omega) hv;simpa using this
 have h3:x ||| 2 ^ v < 2 ^ 32:=Nat.or_lt_two_pow (by simpa using hx) (by simpa using h2)
 have e:(BitVec.ofInt 64 (x:Int) ||| BitVec.ofInt 64 (2 ^ v)).toNat=x ||| 2 ^ v:=by
  have e1:BitVec.ofInt 64 (x:Int)=BitVec.ofNat 64 x:=BitVec.ofInt_natCast ..
  have e0:((2:Int) ^ v)=((2 ^ v:Nat):Int):=by simp
  have e2:BitVec.ofInt 64 (2 ^ v)=BitVec.ofNat 64 (2 ^ v):=by rw [e0];exact BitVec.ofInt_natCast ..
  rw [e1,e2,BitVec.toNat_or,BitVec.toNat_ofNat,BitVec.toNat_ofNat,Nat.mod_eq_of_lt (by omega),Nat.mod_eq_of_lt (by omega)]
 show IntKind.i64.wrap ((BitVec.ofInt 64 (x:Int) ||| BitVec.ofInt 64 (2 ^ v)).toNat:Int)=_
 rw [e,IntWalk.i64_in _ (by omega)]
theorem or_pow' {x v:Nat} (hx:x < 4294967296) (hv:v < 32):bits .or .i64 (x:Int) (wrap64 (2 ^ v))=((x ||| 2 ^ v:Nat):Int):=by
 have h2:(2:Nat) ^ v < 4294967296:=by
  have:=Nat.pow_lt_pow_right (a:=2) (by omega) hv;simpa using this
 have e0:((2:Int) ^ v)=((2 ^ v:Nat):Int):=by simp
 have e1:wrap64 (2 ^ v)=2 ^ v:=by
  rw [e0]
  generalize 2 ^ v=z at *
  exact IntWalk.wrap64_in _ ⟨by omega,by omega⟩
 rw [e1];exact or_pow hx hv
theorem lead_leaf {L:List Rc} {f n:Nat} (b:Bool):LeadsP L f (if b then oneE f n else ⟨0,0⟩) n n∧RepE L f (if b then oneE f n else ⟨0,0⟩) (leafE f n b):=by
 cases b with
 | false=>exact ⟨⟨⟨fun _=>rfl,fun _ h=>absurd rfl h⟩,.inl (by simp)⟩,⟨by simp [leafE],.zero⟩⟩
 | true=>
  unfold oneE leafE
  by_cases h5:f=5
  ·simp only [h5,if_true,and_self]
   exact ⟨⟨⟨fun h=>by simp at h,fun _ _=>⟨Nat.le_refl _,Nat.le_refl _⟩⟩,.inl (by simp)⟩,⟨rfl,.one⟩⟩
  ·simp only [h5,if_false,if_true,false_and]
   exact ⟨⟨⟨fun _=>rfl,fun h=>absurd h h5⟩,.inl (by simp)⟩,⟨rfl,.one⟩⟩
theorem from_zero {w:World} {bb b bo n f g cap W:Nat} {p q Fo:List Nat} (hB:BSt w bb b bo n f g cap W p q Fo) {L:List Rc} {room:Nat} {F:List Nat} (hS:IsSt w b n L room F) (hd:∀k∈bb::g::Fo,k∉F)
 (h1:1≤f) (h5:f≤5) (hn:n≤5) (hW:W < 2 ^ (2 ^ n)) (hG:Good L n) (hnd:L.Nodup) (x:Nat) (hx:x < 2 ^ n):
 Calls Tryz.prog 27 #[.pointer (some ⟨bb,0,none⟩),.int .i64 n,.int .i64 x] w (FromP w b n room L F f n 0 (leafE f n (W.testBit x))):=by
 have FIN:Hid (∀w',Mod [] w w'→FromP w b n room L F f n 0 (leafE f n (W.testBit x)) (.returned (.tuple #[edv (if W.testBit x then oneE f n else ⟨0,0⟩),.int .u8 0])) w'):=fun w' m=>by
  have hl:=lead_leaf (L:=L) (f:=f) (n:=n) (W.testBit x)
  exact ⟨_,[],F,rfl,by rw [List.append_nil];exact hS.mod m (by simp),m.mono (by simp),fun k hk=>.inl hk,by rw [List.append_nil];exact hG,by rw [List.append_nil];exact hnd,by rw [List.append_nil];exact hl.1,by rw [List.append_nil];exact hl.2,by simp⟩
 have VA:Hid (∀W',Mod [] w W'→Calls Tryz.prog 26 #[.pointer (some ⟨b,0,none⟩)] W' fun e w'=>e=.returned (.int .i64 n)∧w'=W'):=fun W' m=>by
  obtain ⟨ba,bi,Fa,c0,_⟩:=(hS.mod m (by simp)).own
  exact stVars_c b n W' c0
 have HA:Hid (∀W',Mod [] w W'→Calls Tryz.prog 63 #[.agg #[.int .i64 n,.slice (some ⟨g,0,none⟩) 1 cap],.int .i64 x] W' fun e w'=>e=.returned (.bool (W.testBit x))∧Mod [] W' w'):=fun W' m=>setHas_c n W g cap x hn hW hx W' (hB.mod m (by simp)).word
 have ON:Hid (∀W',Calls Tryz.prog 64 #[.int .u8 f,.int .i64 n] W' fun e' w'=>e'=.returned (edv (oneE f n))∧Mod [] W' w'):=fun W'=>one_c f h1 h5 n (by omega) W'
 have hbb:=hB.bb
 have hbl:=hbb.lt
 clear hW hx hS hB hG hnd hd
 generalize W.testBit x=tb at *
 obtain ⟨gk,hgk⟩:∃gk,w.heap.size=gk:=⟨_,rfl⟩
 have hbk:bb < gk:=by omega
 have hne:¬bb=gk:=by omega
 have hne2:¬gk=bb:=by omega
 have HBB:=Lib.hid hbb
 obtain ⟨k0,k1,k2,k3,k4⟩:=hbb.cells5
 clear hbb
 go_enter Tryz.func27,Tryz.ntmps27
 go_wp2_with fail
 refine (VA.out _ (by exact mods)).mono ?_
 rintro e w1 ⟨rfl,rfl⟩
 go_wp2_with fail
 refine (HA.out _ (by exact mods)).mono ?_
 rintro e w2 ⟨rfl,m2⟩
 have M2:=Lib.hid (Mod.trans' (show Mod [] w _ from by exact mods) m2)
 have BR:=(Blk.new' w _ _ gk hgk.symm).mod m2 (by simp)
 obtain ⟨k0,k1,k2,k3,k4⟩:=(HBB.out.mod M2.out (by simp)).cells5
 have BRH:=Lib.hid BR
 cases tb with
 | true=>
  simp only [if_true] at FIN
  generalize oneE f n=oe at *
  obtain ⟨ot,oa⟩:=oe
  unfold edv at ON FIN
  simp only at ON FIN
  clear m2 VA HA BR
  go_wp2_with fail
  refine (ON.out _).mono ?_
  rintro e w3 ⟨rfl,m3⟩
  have M3:=Lib.hid (Mod.trans' M2.out m3)
  have BR:=BRH.out.mod m3 (by simp)
  obtain ⟨e0,e1⟩:=BR.cells2
  obtain ⟨f0,f1,-⟩:=BR.frozs
  have BR:=Lib.hid BR
  clear m3 ON k0 k1 k2 k3 k4
  go_wp2_with fail
  have BX:=set2_blk BR.out ⟨ot,oa⟩
  obtain ⟨g0,g1⟩:=BX.cells2
  have MX:=Lib.hid (set2_mod M3.out gk ⟨ot,oa⟩ (by omega))
  change bodyPost _ _ _ _ _ (set2 w3 gk ⟨ot,oa⟩)
  generalize set2 w3 gk ⟨ot,oa⟩=X at *
  clear e0 e1 f0 f1 BX
  simp only at g0 g1
  refine bodyPost_ret (by simp [results,Tryz.results27,g0,g1,go_sem];try rfl) rfl ?_
  exact FIN.out _ MX.out
 | false=>
  simp only [Bool.false_eq_true,if_false] at FIN
  unfold edv at FIN
  simp only at FIN
  obtain ⟨e0,e1⟩:=BR.cells2
  obtain ⟨f0,f1,-⟩:=BR.frozs
  clear m2 VA HA BR ON k0 k1 k2 k3 k4
  go_wp2_with fail
  have BX:=set2_blk BRH.out ⟨0,0⟩
  obtain ⟨g0,g1⟩:=BX.cells2
  have MX:=Lib.hid (set2_mod M2.out gk ⟨0,0⟩ (by omega))
  change bodyPost _ _ _ _ _ (set2 w2 gk ⟨0,0⟩)
  generalize set2 w2 gk ⟨0,0⟩=X at *
  clear e0 e1 f0 f1 BX
  simp only at g0 g1
  refine bodyPost_ret (by simp [results,Tryz.results27,g0,g1,go_sem];try rfl) rfl ?_
  exact FIN.out _ MX.out
open Go.RowKit
def FromC (bb b bo n f g cap W:Nat) (p q Fo:List Nat) (room k l:Nat):Prop:=
 ∀(w:World) (L:List Rc) (F:List Nat) (x:Nat),BSt w bb b bo n f g cap W p q Fo→IsSt w b n L room F→(∀k∈bb::g::Fo,k∉F)→Good L n→L.Nodup→L.length+2 ^ k≤room→L.length+2 ^ k≤100000→x < 2 ^ n→
  Calls Tryz.prog 27 #[.pointer (some ⟨bb,0,none⟩),.int .i64 l,.int .i64 x] w (FromP w b n room L F f l k (buildE f n k l (tabL W p k l x)))
theorem from_succ {bb b bo n f g cap W:Nat} {p q Fo:List Nat} {room k l:Nat} (hlk:l+(k+1)=n) (h1:1≤f) (h5:f≤5) (hn:n≤5) (hp:p.length=n) (hpv:∀v∈p,v < n) (hrm:room≤1048576)
 (ih:FromC bb b bo n f g cap W p q Fo room k (l+1)):FromC bb b bo n f g cap W p q Fo room (k+1) l:=by
 intro w L F x hB hS hd hG hnd hr1 hr2 hx
 have hF:=hS.lt
 have hpk:2 ^ (k+1)=2 ^ k+2 ^ k:=by rw [Nat.pow_succ];omega
 have hpk0:=Nat.two_pow_pos k
 have hl:l < p.length:=by omega
 obtain ⟨v,hv⟩:∃v,p[l]=v:=⟨_,rfl⟩
 have hvn:v < n:=by rw [←hv];exact hpv _ (List.getElem_mem _)
 have hgd:p.getD l 0=v:=by rw [List.getD_eq_getElem?_getD,List.getElem?_eq_getElem hl];exact hv
 have hx32:2 ^ n≤32:=by have:=Nat.pow_le_pow_right (n:=2) (by omega) hn;simpa using this
 have hx2:x ||| 2 ^ v < 2 ^ n:=Nat.or_lt_two_pow hx (Nat.pow_lt_pow_right (by omega) hvn)
 have OR:=Lib.hid (or_pow' (x:=x) (v:=v) (by omega) (by omega))
 have eT:buildE f n (k+1) l (tabL W p (k+1) l x)=mkE f l (buildE f n k (l+1) (tabL W p k (l+1) x)) (buildE f n k (l+1) (tabL W p k (l+1) (x ||| 2 ^ v))):=by
  rw [buildE,tabL,hgd]
  rw [List.take_append_of_le_length (by rw [tabL_len];exact Nat.le_refl _),List.drop_append_of_le_length (by rw [tabL_len];exact Nat.le_refl _),List.take_of_length_le (by rw [tabL_len];exact Nat.le_refl _),List.drop_of_length_le (by rw [tabL_len];exact Nat.le_refl _)]
  simp
 rw [eT]
 have FR1:Hid (∀W',Mod [] w W'→Calls Tryz.prog 27 #[.pointer (some ⟨bb,0,none⟩),.int .i64 ((l:Int)+1),.int .i64 x] W' (FromP W' b n room L F f (l+1) k (buildE f n k (l+1) (tabL W p k (l+1) x)))):=fun W' m=>by
  have:=ih W' L F x (hB.mod m (by simp)) (hS.mod m (by simp)) hd hG hnd (by omega) (by omega) hx
  simpa using this
 have FR2:Hid (∀(W':World) (L':List Rc) (F':List Nat),BSt W' bb b bo n f g cap W p q Fo→IsSt W' b n L' room F'→(∀k∈bb::g::Fo,k∉F')→Good L' n→L'.Nodup→L'.length+2 ^ k≤room→L'.length+2 ^ k≤100000→
  Calls Tryz.prog 27 #[.pointer (some ⟨bb,0,none⟩),.int .i64 ((l:Int)+1),.int .i64 ((x ||| 2 ^ v:Nat):Int)] W' (FromP W' b n room L' F' f (l+1) k (buildE f n k (l+1) (tabL W p k (l+1) (x ||| 2 ^ v))))):=fun W' L' F' a1 a2 a3 a4 a5 a6 a7=>by
  have:=ih W' L' F' (x ||| 2 ^ v) a1 a2 a3 a4 a5 a6 a7 hx2
  simpa using this
 have VA:Hid (∀W',Mod [] w W'→Calls Tryz.prog 26 #[.pointer (some ⟨b,0,none⟩)] W' fun e w'=>e=.returned (.int .i64 n)∧w'=W'):=fun W' m=>by
  obtain ⟨ba,bi,Fa,c0,_⟩:=(hS.mod m (by simp)).own
  exact stVars_c b n W' c0
 have OV:Hid (∀(W':World),BSt W' bb b bo n f g cap W p q Fo→Calls Tryz.prog 65 #[.pointer (some ⟨bo,0,none⟩),.int .i64 l] W' fun e w'=>e=.returned (.int .i64 v)∧w'=W'):=fun W' hB'=>by
  have:=ordVar_c hB'.ord (by omega) l hl
  rw [hv] at this;exact this
 have HD:=Lib.hid hd
 have HF:=Lib.hid hF
 have HB:=Lib.hid hB
 have HBL:=Lib.hid hB.lt
 have hbl:=hB.bb.lt
 have hbF:bb∉F:=hd bb (by simp)
 have hr1':Hid (L.length+2 ^ (k+1)≤room∧L.length+2 ^ (k+1)≤100000∧2 ^ (k+1)=2 ^ k+2 ^ k):=⟨hr1,hr2,hpk⟩
 obtain ⟨k0,k1,k2,k3,k4⟩:=hB.bb.cells5
 have hln:((l:Int)==(n:Int))=false:=by rw [beq_eq_false_iff_ne];omega
 have hl5:(l:Int) < 5:=by omega
 have hv5:(v:Int) < 5:=by omega
 have hv0:(0:Int)≤v:=by omega
 obtain ⟨gk,hgk⟩:∃gk,w.heap.size=gk:=⟨_,rfl⟩
 have hbk:bb < gk:=by omega
 have hgF:gk∉F:=fun h=>by have:=hF _ h;omega
 have hne:¬bb=gk:=by omega
 have hne2:¬gk=bb:=by omega
 clear eT hv hgd hx hx2 hx32 hpv hd hF hS hB hG hnd hr1 hr2 hpk hpk0 hl ih hp
 generalize buildE f n k (l+1) (tabL W p k (l+1) x)=X1 at *
 generalize buildE f n k (l+1) (tabL W p k (l+1) (x ||| 2 ^ v))=X2 at *
 generalize x ||| 2 ^ v=y at *
 go_enter Tryz.func27,Tryz.ntmps27
 go_wp2_with fail
 refine (VA.out _ (by exact mods)).mono ?_
 rintro e w1 ⟨rfl,rfl⟩
 go_wp2_with fail
 refine (FR1.out _ (by exact mods)).mono ?_
 rintro e w2 ⟨⟨t1,a1⟩,L2,F2,rfl,s2,m2,f2,g2,nd2,le2,re2,len2⟩
 have M2:=Lib.hid (Mod.trans ((Mod.refl F w).alloc (.cells #[.int .u8 0,.int .u32 0] 39)) m2 (by intro i _ h;exact h))
 have BR:=Lib.hid ((Blk.new' w _ _ gk hgk.symm).mod m2 hgF)
 have B2:=Lib.hid (HB.out.mod M2.out HD.out)
 obtain ⟨k0,k1,k2,k3,k4⟩:=B2.out.bb.cells5
 have K2:=Lib.hid (And.intro s2 (And.intro f2 (And.intro g2 (And.intro nd2 (And.intro le2 (And.intro re2 len2))))))
 have hsz2:gk < w2.heap.size:=by have:=m2.size;simp at this;omega
 obtain ⟨gl,hgl⟩:∃gl,w2.heap.size=gl:=⟨_,rfl⟩
 have hb2:bb < gl:=by omega
 have hne3:¬bb=gl:=by omega
 have hne4:¬gl=bb:=by omega
 have HGK:=Lib.hid hgk
 clear s2 f2 g2 nd2 le2 re2 len2 m2 FR1 VA hgk
 unfold edv
 go_wp2_with fail
 refine (OV.out _ (B2.out.mod (S:=[]) (by exact mods) (by simp))).mono ?_
 rintro e w3 ⟨rfl,rfl⟩
 have hF2:∀i,i < w.heap.size→i∈F2→i∈F:=fun i hi h=>(K2.out.2.1 i h).elim (fun h=>h) (fun h=>by simp at h;omega)
 have hd2:∀k∈bb::g::Fo,k∉F2:=fun k hk h=>HD.out k hk (hF2 k (HBL.out k hk) h)
 have HF2:=Lib.hid hF2
 have HD2:=Lib.hid hd2
 clear hF2 hd2
 go_wp2_with fail
 rw [OR.out]
 have bd1:(L++L2).length+2 ^ k≤room:=by
  have h1:=K2.out.2.2.2.2.2.2
  have h2:=hr1'.out
  rw [List.length_append];omega
 have bd2:(L++L2).length+2 ^ k≤100000:=by
  have h1:=K2.out.2.2.2.2.2.2
  have h2:=hr1'.out
  rw [List.length_append];omega
 refine (FR2.out _ (L++L2) F2 (B2.out.mod (S:=[]) (by exact mods) (by simp)) (K2.out.1.mod (S:=[]) (by exact mods) (by simp)) HD2.out K2.out.2.2.1 K2.out.2.2.2.1 bd1 bd2).mono ?_
 clear bd1 bd2
 rintro e w5 ⟨⟨t2,a2⟩,L3,F3,rfl,s5,m5,f5,g5,nd5,le5,re5,len5⟩
 have lt2:=K2.out.1.lt
 have hglF2:gl∉F2:=fun h=>by have:=lt2 _ h;omega
 have hgkF2:gk∉F2:=fun h=>(K2.out.2.1 _ h).elim hgF (fun h=>by have:=HGK.out;simp at h;omega)
 have hsz5:gl < w5.heap.size:=by have:=m5.size;simp at this;omega
 have M5:=Lib.hid (M2.out.trans (((Mod.refl F2 w2).alloc (.cells #[.int .u8 t1,.int .u32 a1] 39)).trans' m5) HF2.out)
 have BR5:=Lib.hid ((BR.out.alloc (.cells #[.int .u8 t1,.int .u32 a1] 39)).mod m5 hgkF2)
 have BL5:=Lib.hid ((Blk.new' w2 #[.int .u8 t1,.int .u32 a1] 39 gl hgl.symm).mod m5 hglF2)
 have B5:=Lib.hid (HB.out.mod M5.out HD.out)
 have hF3:∀i,i∈F3→i∈F∨(w.heap.size≤i∧i≠gk∧i≠gl):=fun i h=>by
  rcases f5 i h with h | h
  ·rcases K2.out.2.1 i h with h2 | h2
   ·exact .inl h2
   ·have:=HGK.out;simp at h2;exact .inr ⟨by omega,by omega,by rintro rfl;exact hglF2 h⟩
  ·have:=HGK.out;simp at h;exact .inr ⟨by omega,by omega,by omega⟩
 have hbF3:bb∉F3:=fun h=>(hF3 _ h).elim hbF (fun h=>by omega)
 have hgkF3:gk∉F3:=fun h=>(hF3 _ h).elim hgF (fun h=>h.2.1 rfl)
 have hglF3:gl∉F3:=fun h=>(hF3 _ h).elim (fun h=>by have:=HF.out _ h;have:=HGK.out;omega) (fun h=>h.2.2 rfl)
 have HF3:=Lib.hid hF3
 have K5:=Lib.hid (And.intro s5 (And.intro f5 (And.intro g5 (And.intro nd5 (And.intro le5 (And.intro re5 len5))))))
 have le2':=K2.out.2.2.2.2.1
 have MK:Hid (∀W',Mod [] w5 W'→_):=fun W' m=>canonMake_c f h1 h5 (K5.out.1.mod m (by simp)) (by have h1:=K2.out.2.2.2.2.2.2;have h2:=hr1'.out;have h3:=len5;simp only [List.length_append];omega) (by have h1:=K2.out.2.2.2.2.2.2;have h2:=hr1'.out;have h3:=len5;simp only [List.length_append];omega) hrm (by omega) g5 l (by omega) ⟨t1,a1⟩ ⟨t2,a2⟩ (le2'.grow L3) le5
 have MR:=Lib.hid (mk_rep (f:=f) (l:=l) nd5 (K2.out.2.2.2.2.2.1.grow L3) re5)
 have MG:=Lib.hid (mkP_good g5 h1 h5 (show l < n by omega) (by omega) (le2'.grow L3) le5)
 obtain ⟨k0,k1,k2,k3,k4⟩:=B5.out.bb.cells5
 obtain ⟨p0,p1⟩:=BL5.out.cells2
 obtain ⟨gh,hgh⟩:∃gh,w5.heap.size=gh:=⟨_,rfl⟩
 have hne5:¬bb=gh:=by omega
 have hne6:¬gh=bb:=by omega
 have hne7:¬gl=gh:=by omega
 have hne8:¬gh=gl:=by omega
 have hb5:bb < gh:=by omega
 have hl5':gl < gh:=by omega
 have hk5:gk < gh:=by omega
 have hghF3:gh∉F3:=fun h=>by have:=s5.lt _ h;omega
 clear s5 f5 g5 nd5 le5 re5 len5 m5 lt2 le2' hF3 FR2 OV OR B2
 generalize hP:mkP ((L++L2)++L3) f l ⟨t1,a1⟩ ⟨t2,a2⟩=P at *
 obtain ⟨L4,rt,ra⟩:=P
 unfold edv at *
 simp only at MK MR MG
 have HP:=Lib.hid hP
 clear hP
 go_wp2_with fail
 have MQ:Hid (Mod [] w5 (w5.alloc (.cells #[.int .u8 t2,.int .u32 a2] 39))):=(Mod.refl _ _).alloc _
 have BH:=(Blk.new' w5 #[.int .u8 t2,.int .u32 a2] 39 gh hgh.symm)
 generalize w5.alloc (.cells #[.int .u8 t2,.int .u32 a2] 39)=wq at *
 have k0:=(MQ.out.cell (a:=⟨bb,0,none⟩) (by simp;omega) (by simp)).trans k0
 have k2:=(MQ.out.cell (a:=⟨bb,2,none⟩) (by simp;omega) (by simp)).trans k2
 have p0:=(MQ.out.cell (a:=⟨gl,0,none⟩) hsz5 (by simp)).trans p0
 have p1:=(MQ.out.cell (a:=⟨gl,1,none⟩) hsz5 (by simp)).trans p1
 obtain ⟨q0,q1⟩:=BH.cells2
 have zz:=MQ.out.size
 have hbw:bb < wq.heap.size:=by omega
 have hlw:gl < wq.heap.size:=by omega
 have hhw:=BH.lt
 have BRQ:=Lib.hid (BR5.out.mod MQ.out (by simp))
 clear BH zz
 have gn1:¬bb=gk:=by omega
 have gn2:¬gk=bb:=by omega
 have gn3:¬gl=gk:=by omega
 have gn4:¬gk=gl:=by omega
 have gn5:¬gh=gk:=by omega
 have gn6:¬gk=gh:=by omega
 clear hne hne2 hne3 hne4 hln hl5 hv5 hv0 hgh hgl hb2 hbk
 go_region_held3 (fun w'=>w'.cell? ⟨bb,0,none⟩=some (.pointer (some ⟨b,0,none⟩))∧w'.cell? ⟨bb,2,none⟩=some (.int .u8 f)∧w'.cell? ⟨gl,0,none⟩=some (.int .u8 t1)∧w'.cell? ⟨gl,1,none⟩=some (.int .u32 a1)∧w'.cell? ⟨gh,0,none⟩=some (.int .u8 t2)∧w'.cell? ⟨gh,1,none⟩=some (.int .u32 a2)) (go_keep) (first | (go_at_call 66;refine (MK.out _ (MQ.out.trans' (show Mod [] wq _ from by exact mods))).mono ?_;rintro e' w6 ⟨rfl,F4,s6,m_w6,f6⟩;have M_w6:=Mod.trans' (show Mod _ wq _ from by exact mods) m_w6;have k0:=(M_w6.cell (a:=⟨bb,0,none⟩) hbw (by first | assumption | (simp;done))).trans k0;have k2:=(M_w6.cell (a:=⟨bb,2,none⟩) hbw (by first | assumption | (simp;done))).trans k2;have p0:=(M_w6.cell (a:=⟨gl,0,none⟩) hlw (by first | assumption | (simp;done))).trans p0;have p1:=(M_w6.cell (a:=⟨gl,1,none⟩) hlw (by first | assumption | (simp;done))).trans p1;have q0:=(M_w6.cell (a:=⟨gh,0,none⟩) hhw (by first | assumption | (simp;done))).trans q0;have q1:=(M_w6.cell (a:=⟨gh,1,none⟩) hhw (by first | assumption | (simp;done))).trans q1;have hbw:=Nat.lt_of_lt_of_le hbw M_w6.size;have hlw:=Nat.lt_of_lt_of_le hlw M_w6.size;have hhw:=Nat.lt_of_lt_of_le hhw M_w6.size;have BRW:=BRQ.out.mod M_w6 hgkF3;obtain ⟨e0,e1⟩:=BRW.cells2;obtain ⟨g0,g1,-⟩:=BRW.frozs;replace BRW:=Lib.hid BRW))
 have BX:=set2_blk BRW.out ⟨rt,ra⟩
 obtain ⟨c0,c1⟩:=BX.cells2
 have MS:=Lib.hid (set2_mod (Mod.refl [gk] w6) gk ⟨rt,ra⟩ (fun _=>by simp))
 have S6:=Lib.hid s6
 have F6:=Lib.hid f6
 have M6:=Lib.hid (M5.out.trans ((MQ.out.mono (S':=F3) (by simp)).trans' M_w6) (fun i hi h=>(HF3.out i h).elim (fun h=>h) (fun h=>by omega)))
 have SZ:Hid (w.heap.size≤wq.heap.size):=by
  have h1:=M5.out.size
  have h2:=MQ.out.size
  show _≤_
  omega
 change Exit.then _ _ _ _ (set2 w6 gk ⟨rt,ra⟩)
 generalize set2 w6 gk ⟨rt,ra⟩=X at *
 clear e0 e1 g0 g1 BX s6 f6 m_w6 M_w6 k0 k2 p0 p1 q0 q1 BRW BRQ
 simp only at c0 c1
 go_wp2_with fail
 refine bodyPost_ret (by simp [results,Tryz.results27,c0,c1,go_sem];try rfl) rfl ?_
 obtain ⟨hG4,hle4,⟨L5,rfl⟩,hlen4⟩:=MG.out
 have hF4:∀k∈F4,k≠gk∧(k∈F∨w.heap.size≤k):=fun k hk=>by
  rcases F6.out k hk with h | h
  ·refine ⟨by rintro rfl;exact hgkF3 h,?_⟩
   exact (HF3.out k h).imp (fun h=>h) (fun h=>h.1)
  ·have h1:=SZ.out
   have h2:=MQ.out.size
   simp at h
   exact ⟨by omega,.inr (by omega)⟩
 have e2:L++L2++L3++L5=L++(L2++L3++L5):=by simp
 refine ⟨⟨rt,ra⟩,L2++L3++L5,F4,rfl,?_,?_,fun k hk=>(hF4 k hk).2,?_,?_,?_,?_,?_⟩
 ·rw [←e2];exact S6.out.mod MS.out (fun k hk=>by simp;exact (hF4 k hk).1)
 ·exact M6.out.trans MS.out (fun i hi h=>by have:=HGK.out;simp at h;omega)
 ·rw [←e2];exact hG4
 ·rw [←e2];exact MR.out.2
 ·rw [←e2];exact hle4
 ·rw [←e2];exact MR.out.1
 ·have h1:=K2.out.2.2.2.2.2.2
  have h2:=K5.out.2.2.2.2.2.2
  have h3:=hr1'.out.2.2
  simp only [List.length_append] at hlen4 ⊢
  omega
theorem from_c {bb b bo n f g cap W:Nat} {p q Fo:List Nat} {room:Nat} (h1:1≤f) (h5:f≤5) (hn:n≤5) (hp:p.length=n) (hpv:∀v∈p,v < n) (hrm:room≤1048576) (hW:W < 2 ^ (2 ^ n)):
 ∀k l,l+k=n→FromC bb b bo n f g cap W p q Fo room k l:=by
 intro k
 induction k with
 | zero=>
  intro l hl
  obtain rfl:l=n:=by omega
  intro w L F x hB hS hd hG hnd hr1 hr2 hx
  exact from_zero hB hS hd h1 h5 hn hW hG hnd x hx
 | succ k ih=>
  intro l hl
  exact from_succ hl h1 h5 hn hp hpv hrm (ih (l+1) (by omega))
open Go.RowKit
theorem buildMay_c (n f b bo:Nat) (h1:1≤f) (h5:f≤5) (w:World) (VA:Hid (Calls Tryz.prog 26 #[.pointer (some ⟨b,0,none⟩)] w fun e w'=>e=.returned (.int .i64 n)∧w'=w))
 (VO:Hid (Calls Tryz.prog 34 #[.pointer (some ⟨bo,0,none⟩)] w fun e w'=>e=.returned (.int .i64 n)∧w'=w)):
 Calls Tryz.prog 24 #[.pointer (some ⟨b,0,none⟩),.pointer (some ⟨bo,0,none⟩),.int .u8 f] w fun e w'=>e=.returned (.int .u8 0)∧w'=w:=by
 have IF:=Lib.hid (isForm_c f h1 h5 w)
 go_enter Tryz.func24,Tryz.ntmps24
 go_wp2_with fail
 refine VA.out.mono ?_
 rintro e w1 ⟨rfl,rfl⟩
 go_wp2_with fail
 refine VO.out.mono ?_
 rintro e w1 ⟨rfl,rfl⟩
 go_wp2_with fail
 refine IF.out.mono ?_
 rintro e w1 ⟨rfl,rfl⟩
 go_wp2_with fail
 go_ret
 exact ⟨rfl,rfl⟩
def OfP (w:World) (b n room:Nat) (F:List Nat) (L:List Rc) (f:Nat) (x:Nat × Tr) (e:Ending) (w':World):Prop:=
 ∃ed L2 F',e=.returned (.tuple #[edv ed,.int .u8 0])∧IsSt w' b n (L++L2) room F'∧Mod F w w'∧(∀k∈F',k∈F∨w.heap.size≤k)∧Good (L++L2) n∧(L++L2).Nodup∧LeadsP (L++L2) f ed 0 n∧RepE (L++L2) f ed x∧L2.length+1≤2 ^ n
theorem buildOf_c {w:World} {b bo n f g cap W room:Nat} {p q Fo F:List Nat} {L:List Rc} (hS:IsSt w b n L room F) (hO:IsOrd w bo p q Fo) (c0:w.cell? ⟨g,0,none⟩=some (.int .u64 W)) (hd:∀k∈g::Fo,k∉F)
 (h1:1≤f) (h5:f≤5) (hn:n≤5) (hp:p.length=n) (hpv:∀v∈p,v < n) (hrm:room≤1048576) (hW:W < 2 ^ (2 ^ n)) (hG:Good L n) (hnd:L.Nodup) (hr1:L.length+2 ^ n≤room) (hr2:L.length+2 ^ n≤100000):
 Calls Tryz.prog 9 #[.pointer (some ⟨b,0,none⟩),.pointer (some ⟨bo,0,none⟩),.int .u8 f,.agg #[.int .i64 n,.slice (some ⟨g,0,none⟩) 1 cap]] w (OfP w b n room F L f (buildE f n n 0 (tabL W p n 0 0))):=by
 have hgl:=World.block_lt_of_cell? w _ c0
 have hF:=hS.lt
 have hFo:=hO.lt
 simp only at hgl
 have VA:Hid (∀W',Mod [] w W'→Calls Tryz.prog 26 #[.pointer (some ⟨b,0,none⟩)] W' fun e w'=>e=.returned (.int .i64 n)∧w'=W'):=fun W' m=>by
  obtain ⟨ba,bi,Fa,c0,_⟩:=(hS.mod m (by simp)).own
  exact stVars_c b n W' c0
 have VO:Hid (∀W',Mod [] w W'→Calls Tryz.prog 34 #[.pointer (some ⟨bo,0,none⟩)] W' fun e w'=>e=.returned (.int .i64 n)∧w'=W'):=fun W' m=>by
  have:=ordVars_c (hO.mod m (by simp));rw [hp] at this;exact this
 have MY:Hid (∀W',Mod [] w W'→_):=fun W' m=>buildMay_c n f b bo h1 h5 W' (VA.out W' m) (VO.out W' m)
 have RT:Hid (∀W',Mod [] w W'→_):=fun W' m=>setRight_c n W g cap hn hW W' ((m.cell (a:=⟨g,0,none⟩) hgl (by simp)).trans c0)
 have FR:Hid (∀(W':World) (bb:Nat),Mod [] w W'→Blk W' bb #[.pointer (some ⟨b,0,none⟩),.pointer (some ⟨bo,0,none⟩),.int .u8 f,.int .i64 n,.slice (some ⟨g,0,none⟩) 1 cap] 76→w.heap.size≤bb→
  Calls Tryz.prog 27 #[.pointer (some ⟨bb,0,none⟩),.int .i64 0,.int .i64 0] W' (FromP W' b n room L F f 0 n (buildE f n n 0 (tabL W p n 0 0)))):=fun W' bb m hbb hge=>by
  have:=from_c (bb:=bb) (b:=b) (bo:=bo) (g:=g) (cap:=cap) (q:=q) (Fo:=Fo) h1 h5 hn hp hpv hrm hW n 0 (by omega) W' L F 0 ⟨hbb,(m.cell (a:=⟨g,0,none⟩) hgl (by simp)).trans c0,hO.mod m (by simp)⟩ (hS.mod m (by simp)) (by
   intro k hk
   rcases List.mem_cons.1 hk with rfl | hk
   ·intro h;have:=hF _ h;omega
   ·exact hd k hk) hG hnd hr1 hr2 (Nat.two_pow_pos n)
  simpa using this
 have HF:=Lib.hid hF
 obtain ⟨gk,hgk⟩:∃gk,w.heap.size=gk:=⟨_,rfl⟩
 clear hd hpv hW hG hnd hr1 hr2 hp hS hO hF hFo
 generalize buildE f n n 0 (tabL W p n 0 0)=X1 at *
 go_enter Tryz.func9,Tryz.ntmps9
 go_wp2_with fail
 refine (MY.out _ (by exact mods)).mono ?_
 rintro e w1 ⟨rfl,rfl⟩
 go_wp2_with fail
 have V2:Hid (∀W',Mod [] w W'→Calls Tryz.prog 26 #[.pointer (some ⟨b,0,none⟩)] W' fun e w'=>e=.returned (.int .i64 n)∧Mod [] W' w'):=fun W' m=>(VA.out W' m).mono (by rintro e w' ⟨rfl,rfl⟩;exact ⟨rfl,Mod.refl _ _⟩)
 have B0:=(Blk.new' w #[.int .i64 n,.slice (some ⟨g,0,none⟩) 1 cap] 29 gk hgk.symm).alloc (.cells #[.int .u8 0,.int .u32 0] 39)
 have B1:=Blk.new' (w.alloc (.cells #[.int .i64 n,.slice (some ⟨g,0,none⟩) 1 cap] 29)) #[.int .u8 0,.int .u32 0] 39 (gk+1) (by simp [hgk])
 have M0:Hid (Mod [] w ((w.alloc (.cells #[.int .i64 n,.slice (some ⟨g,0,none⟩) 1 cap] 29)).alloc (.cells #[.int .u8 0,.int .u32 0] 39))):=by exact mods
 have HGK:=Lib.hid hgk
 generalize (w.alloc (.cells #[.int .i64 n,.slice (some ⟨g,0,none⟩) 1 cap] 29)).alloc (.cells #[.int .u8 0,.int .u32 0] 39)=w0 at *
 obtain ⟨q0,q1⟩:=B0.cells2
 have hk:=B0.lt
 have hk1:=B1.lt
 have B1:=Lib.hid B1
 clear B0 MY VA VO hgk c0
 go_region_held3 (fun w'=>w'.cell? ⟨gk,0,none⟩=some (.int .i64 n)∧w'.cell? ⟨gk,1,none⟩=some (.slice (some ⟨g,0,none⟩) 1 cap)) (go_keep) (first | (go_at_call 25;refine (RT.out _ (M0.out.trans' (show Mod [] w0 _ from by exact mods))).mono ?_;rintro e' wa ⟨rfl,m_wa⟩;have M_wa:=Mod.trans' (show Mod _ w0 _ from by exact mods) m_wa;have q0:=(M_wa.cell (a:=⟨gk,0,none⟩) hk (by first | assumption | (simp;done))).trans q0;have q1:=(M_wa.cell (a:=⟨gk,1,none⟩) hk (by first | assumption | (simp;done))).trans q1;have hk:=Nat.lt_of_lt_of_le hk M_wa.size) | (go_at_call 26;refine (V2.out _ (M0.out.trans' (M_wa.trans' (show Mod [] wa _ from by exact mods)))).mono ?_;rintro e' wb ⟨rfl,m_wb⟩;have M_wb:=Mod.trans' (show Mod _ wa _ from by exact mods) m_wb;have q0:=(M_wb.cell (a:=⟨gk,0,none⟩) hk (by first | assumption | (simp;done))).trans q0;have q1:=(M_wb.cell (a:=⟨gk,1,none⟩) hk (by first | assumption | (simp;done))).trans q1;have hk:=Nat.lt_of_lt_of_le hk M_wb.size))
 have M1:=Lib.hid (M0.out.trans' (M_wa.trans' M_wb))
 have B2:=Lib.hid (B1.out.mod (M_wa.trans' M_wb) (by simp))
 clear m_wa m_wb M_wa M_wb RT V2 B1 M0
 obtain ⟨gb,hgb⟩:∃gb,wb.heap.size=gb:=⟨_,rfl⟩
 have hkb:gk < gb:=by omega
 have hne1:¬gk=gb:=by omega
 have hne2:¬gb=gk:=by omega
 go_wp2_with fail
 refine (FR.out _ gb (M1.out.trans' (show Mod [] wb _ from by exact mods)) (Blk.new' wb _ _ gb hgb.symm) (by have:=M1.out.size;omega)).mono ?_
 rintro e w5 ⟨⟨t2,a2⟩,L2,F2,rfl,s5,m5,f5,g5,nd5,le5,re5,len5⟩
 have hgF:gk+1∉F:=fun h=>by have:=HF.out _ h;have:=HGK.out;omega
 have B5:=Lib.hid (((B2.out).alloc (.cells #[.pointer (some ⟨b,0,none⟩),.pointer (some ⟨bo,0,none⟩),.int .u8 f,.int .i64 n,.slice (some ⟨g,0,none⟩) 1 cap] 76)).mod m5 hgF)
 have M5:=Lib.hid (((M1.out.trans' (show Mod [] wb (wb.alloc (.cells #[.pointer (some ⟨b,0,none⟩),.pointer (some ⟨bo,0,none⟩),.int .u8 f,.int .i64 n,.slice (some ⟨g,0,none⟩) 1 cap] 76)) from by exact mods)).mono (S':=F) (by simp)).trans' m5)
 have SZ:Hid (w.heap.size≤wb.heap.size∧gk+1 < wb.heap.size):=⟨M1.out.size,B2.out.lt⟩
 have K5:=Lib.hid (And.intro s5 (And.intro f5 (And.intro g5 (And.intro nd5 (And.intro le5 (And.intro re5 len5))))))
 obtain ⟨e0,e1⟩:=B5.out.cells2
 obtain ⟨f0,f1,-⟩:=B5.out.frozs
 clear s5 f5 g5 nd5 le5 re5 len5 m5 FR q0 q1
 unfold edv
 go_wp2_with fail
 have BX:=set2_blk B5.out ⟨t2,a2⟩
 obtain ⟨c0,c1⟩:=BX.cells2
 have MS:=Lib.hid (set2_mod (Mod.refl [gk+1] w5) (gk+1) ⟨t2,a2⟩ (fun _=>by simp))
 change bodyPost _ _ _ _ _ (set2 w5 (gk+1) ⟨t2,a2⟩)
 generalize set2 w5 (gk+1) ⟨t2,a2⟩=X at *
 clear e0 e1 f0 f1 BX
 simp only at c0 c1
 refine bodyPost_ret (by simp [results,Tryz.results9,c0,c1,go_sem];try rfl) rfl ?_
 obtain ⟨s5,f5,g5,nd5,le5,re5,len5⟩:=K5.out
 have hF2:∀k∈F2,k≠gk+1∧(k∈F∨w.heap.size≤k):=fun k hk=>by
  have h1:=SZ.out
  rcases f5 k hk with h | h
  ·exact ⟨by rintro rfl;exact hgF h,.inl h⟩
  ·simp at h;exact ⟨by omega,.inr (by omega)⟩
 exact ⟨⟨t2,a2⟩,L2,F2,rfl,s5.mod MS.out (fun k hk=>by simp;exact (hF2 k hk).1),M5.out.trans MS.out (fun i hi h=>by have:=HGK.out;simp at h;omega),fun k hk=>(hF2 k hk).2,g5,nd5,le5,re5,len5⟩
def GeT (l:Nat):Tr→Prop
 | .leaf _=>True
 | .node t b _ _ _ _=>l≤t∧t≤b
theorem GeT.le {l m:Nat} {T:Tr} (h:GeT m T) (hl:l≤m):GeT l T:=by
 cases T with
 | leaf b=>trivial
 | node t b tl x th y=>exact ⟨Nat.le_trans hl h.1,h.2⟩
def VE (f l:Nat) (x:Nat × Tr):Prop:=
 if f=5 then x=(0,.leaf false)∨(x.2≠ .leaf false∧l≤x.1∧GeT x.1 x.2) else x.1=0∧GeT l x.2
def vw (f l:Nat) (x:Nat × Tr):(Nat × Tr) × (Nat × Tr):=
 if f=5∧¬x.1=l∨x.2=.leaf false then (x,x) else
 match x.2 with
 | .leaf b=>if f=5 then ((l+1,.leaf b),(0,.leaf false)) else if f=2∨f=4 then (x,(0,.leaf false)) else (x,x)
 | .node t b tl u th v=>
  if t=l then (if b=l then ((tl,u),(th,v)) else if f=3 then ((0,.node (l+1) b tl u th v),(th,v)) else ((0,.node (l+1) b tl u th v),(0,.node (l+1) b tl u th v)))
  else if f=5 then ((l+1,x.2),(0,.leaf false)) else if f=2∨f=4 then (x,(0,.leaf false)) else (x,x)
theorem nodeE_form (f l:Nat) (x y:Nat × Tr):(∃t b tl u th v,x.2=.node t b tl u th v∧f=3∧t=l+1∧(th,v)=y∧nodeE f l x y=.node l b tl u y.1 y.2)∨
 (∃t b tl u th v,x.2=.node t b tl u th v∧f=4∧x=y∧t=l+1∧nodeE f l x y=.node l b tl u th v)∨nodeE f l x y=.node l l x.1 x.2 y.1 y.2:=by
 unfold nodeE
 cases hx:x.2 with
 | leaf b=>exact .inr (.inr rfl)
 | node t b tl u th v=>
  simp only
  split
  ·rename_i h;exact .inl ⟨t,b,tl,u,th,v,rfl,h.1,h.2.1,h.2.2,rfl⟩
  ·split
   ·rename_i h;exact .inr (.inl ⟨t,b,tl,u,th,v,rfl,h.1,h.2.1,h.2.2,rfl⟩)
   ·exact .inr (.inr rfl)
theorem VE.mk {f l:Nat} {x y:Nat × Tr} (hx:VE f (l+1) x) (hy:VE f (l+1) y):VE f l (mkE f l x y):=by
 by_cases h5:f=5
 ·subst h5
  unfold VE at hx hy ⊢
  simp only [if_true] at hx hy ⊢
  unfold mkE
  simp only [show ¬((5:Nat)=2∨(5:Nat)=4) by omega,if_false,true_and,if_true]
  by_cases hxy:x=y
  ·rw [if_pos hxy]
   rcases hx with h | h
   ·exact .inl h
   ·exact .inr ⟨h.1,by omega,h.2.2⟩
  ·rw [if_neg hxy]
   by_cases hz:y.2=.leaf false∧x.1=l+1
   ·rw [if_pos hz]
    rcases hx with h | h
    ·rw [h] at hz;simp at hz
    ·exact .inr ⟨h.1,Nat.le_refl _,h.2.2.le (by simp;omega)⟩
   ·rw [if_neg hz]
    rcases nodeE_form 5 l x y with ⟨_,_,_,_,_,_,_,h,_⟩ | ⟨_,_,_,_,_,_,_,h,_⟩ | h
    ·omega
    ·omega
    ·refine .inr ⟨by rw [h];simp,Nat.le_refl _,?_⟩
     rw [h];exact ⟨Nat.le_refl _,Nat.le_refl _⟩
 ·unfold VE at hx hy ⊢
  simp only [h5,if_false] at hx hy ⊢
  unfold mkE
  simp only [h5,false_and,if_false]
  have hn:(0:Nat)=0∧GeT l (nodeE f l x y):=by
   refine ⟨rfl,?_⟩
   rcases nodeE_form f l x y with ⟨t,b,tl,u,th,v,h1,_,h2,_,h⟩ | ⟨t,b,tl,u,th,v,h1,_,_,h2,h⟩ | h
   ·rw [h]
    have:=hx.2
    rw [h1] at this
    exact ⟨Nat.le_refl _,Nat.le_trans (by have:=this.1;omega) this.2⟩
   ·rw [h]
    have:=hx.2
    rw [h1] at this
    exact ⟨Nat.le_refl _,Nat.le_trans (by have:=this.1;omega) this.2⟩
   ·rw [h];exact ⟨Nat.le_refl _,Nat.le_refl _⟩
  have hxl:x.1=0∧GeT l x.2:=⟨hx.1,hx.2.le (by omega)⟩
  split
  ·split
   ·exact hxl
   ·exact hn
  ·split
   ·exact hxl
   ·exact hn
theorem vw_mk {f l:Nat} {x y:Nat × Tr} (h1:1≤f) (h5':f≤5) (hx:VE f (l+1) x) (hy:VE f (l+1) y):vw f l (mkE f l x y)=(x,y):=by
 by_cases h5:f=5
 ·subst h5
  unfold VE at hx hy
  simp only [if_true] at hx hy
  unfold mkE
  simp only [show ¬((5:Nat)=2∨(5:Nat)=4) by omega,if_false,true_and,if_true]
  by_cases hxy:x=y
  ·subst hxy
   rw [if_pos rfl]
   unfold vw
   rw [if_pos]
   rcases hx with h | h
   ·right;rw [h]
   ·left;exact ⟨rfl,by omega⟩
  ·rw [if_neg hxy]
   by_cases hz:y.2=.leaf false∧x.1=l+1
   ·rw [if_pos hz]
    have hy':y=(0,.leaf false):=by
     rcases hy with h | h
     ·exact h
     ·exact absurd hz.1 h.1
    rcases hx with h | h
    ·rw [h] at hz;simp at hz
    ·unfold vw
     rw [if_neg (by simp;exact h.1)]
     obtain ⟨xt,xT⟩:=x
     simp only at hz h ⊢
     cases xT with
     | leaf b=>simp [hz.2,hy']
     | node t b tl u th v=>
      have:=h.2.2.1
      simp only
      rw [if_neg (by omega)]
      simp [hz.2,hy']
   ·rw [if_neg hz]
    rcases nodeE_form 5 l x y with ⟨_,_,_,_,_,_,_,h,_⟩ | ⟨_,_,_,_,_,_,_,h,_⟩ | h
    ·omega
    ·omega
    ·rw [h]
     unfold vw
     rw [if_neg (by simp)]
     simp
 ·unfold VE at hx hy
  simp only [h5,if_false] at hx hy
  have hns:∀T,¬T=Tr.leaf false→¬(f=5∧¬(0,T).1=l∨(0,T).2=Tr.leaf false):=fun T h=>by simp [h5,h]
  have hn:(hm:(f=2∨f=4)→¬y.2=.leaf false)→vw f l (0,nodeE f l x y)=(x,y):=by
   intro hm
   rcases nodeE_form f l x y with ⟨t,b,tl,u,th,v,e1,e0,e2,e3,h⟩ | ⟨t,b,tl,u,th,v,e1,e0,e3,e2,h⟩ | h
   ·rw [h]
    unfold vw
    rw [if_neg (by simp [h5])]
    have:=hx.2
    rw [e1] at this
    have hb:¬b=l:=by have h7:=this.1;have h8:=this.2;omega
    simp only [if_true,if_neg hb,if_pos e0]
    obtain ⟨xt,xT⟩:=x
    simp only at e1 hx
    subst e1 e2
    rw [←e3]
    simp [hx.1]
   ·rw [h]
    unfold vw
    rw [if_neg (by simp [h5])]
    have:=hx.2
    rw [e1] at this
    have hb:¬b=l:=by have h7:=this.1;have h8:=this.2;omega
    simp only [if_true,if_neg hb,if_neg (show ¬f=3 by omega)]
    rw [←e3]
    obtain ⟨xt,xT⟩:=x
    simp only at e1 hx
    subst e1 e2
    simp [hx.1]
   ·rw [h]
    unfold vw
    rw [if_neg (by simp [h5])]
    simp
  have hxx:∀z,z=(if f=2∨f=4 then ((0,.leaf false):Nat × Tr) else x)→vw f l x=(x,z):=by
   rintro z rfl
   unfold vw
   obtain ⟨xt,xT⟩:=x
   simp only at hx
   cases xT with
   | leaf b=>
    cases b with
    | false=>simp [hx.1]
    | true=>simp [h5];split<;>rfl
   | node t b tl u th v=>
    have:=hx.2.1
    rw [if_neg (by simp [h5])]
    simp only [if_neg (show ¬t=l by omega),h5,if_false]
    split<;>rfl
  unfold mkE
  simp only [h5,false_and,if_false]
  split
  ·rename_i h24
   split
   ·rename_i hz
    refine hxx _ ?_
    rw [if_pos h24]
    exact Prod.ext hy.1 hz
   ·rename_i hz
    exact hn fun _=>hz
  ·rename_i h24
   split
   ·rename_i hxy
    refine hxx _ ?_
    rw [if_neg h24,hxy]
   ·exact hn fun h=>absurd h h24
theorem leafE_VE (f n:Nat) (b:Bool):VE f n (leafE f n b):=by
 unfold VE leafE
 by_cases h5:f=5
 ·cases b<;>simp [h5,GeT]
 ·simp [h5,GeT]
theorem build_VE (f n:Nat):∀(k l:Nat) (t:List Bool),l+k=n→VE f l (buildE f n k l t):=by
 intro k
 induction k with
 | zero=>intro l t h;simp at h;subst h;exact leafE_VE _ _ _
 | succ k ih=>intro l t h;exact VE.mk (ih _ _ (by omega)) (ih _ _ (by omega))
theorem build_vw {f n:Nat} (h1:1≤f) (h5:f≤5) (k l:Nat) (t:List Bool) (h:l+(k+1)=n):vw f l (buildE f n (k+1) l t)=(buildE f n k (l+1) (t.take (2 ^ k)),buildE f n k (l+1) (t.drop (2 ^ k))):=
 vw_mk h1 h5 (build_VE _ _ _ _ _ (by omega)) (build_VE _ _ _ _ _ (by omega))
theorem build_inj {f n:Nat} (h1:1≤f) (h5:f≤5):∀(k l:Nat) (t u:List Bool),l+k=n→t.length=2 ^ k→u.length=2 ^ k→buildE f n k l t=buildE f n k l u→t=u:=by
 intro k
 induction k with
 | zero=>
  intro l t u h ht hu e
  obtain ⟨a,rfl⟩:=List.length_eq_one_iff.1 ht
  obtain ⟨b,rfl⟩:=List.length_eq_one_iff.1 hu
  have:=congrArg Prod.snd e
  simp [buildE,leafE] at this
  rw [this]
 | succ k ih=>
  intro l t u h ht hu e
  have e2:=congrArg (vw f l) e
  rw [build_vw h1 h5 k l t h,build_vw h1 h5 k l u h] at e2
  have e3:=ih (l+1) _ _ (by omega) (by rw [List.length_take,ht,Nat.pow_succ];omega) (by rw [List.length_take,hu,Nat.pow_succ];omega) (congrArg Prod.fst e2)
  have e4:=ih (l+1) _ _ (by omega) (by rw [List.length_drop,ht,Nat.pow_succ];omega) (by rw [List.length_drop,hu,Nat.pow_succ];omega) (congrArg Prod.snd e2)
  rw [←List.take_append_drop (2 ^ k) t,e3,e4,List.take_append_drop]
theorem VE.zero {f l:Nat} {x:Nat × Tr} (h:VE f l x) (hz:x.2=.leaf false):x=(0,.leaf false):=by
 unfold VE at h
 split at h
 ·rcases h with h | h
  ·exact h
  ·exact absurd hz h.1
 ·exact Prod.ext h.1 hz
theorem build_none {f n:Nat}:∀(k l:Nat) (t:List Bool),true∉t→buildE f n k l t=(0,.leaf false):=by
 intro k
 induction k with
 | zero=>
  intro l t h
  have:t.headD false=false:=by
   cases t with
   | nil=>rfl
   | cons a t=>simp at h ⊢;exact h.1
  rw [buildE,leafE,this]
  simp
 | succ k ih=>
  intro l t h
  rw [buildE,ih _ _ (fun hm=>h (List.mem_of_mem_take hm)),ih _ _ (fun hm=>h (List.mem_of_mem_drop hm))]
  unfold mkE
  simp
theorem build_zero {f n:Nat} (h1:1≤f) (h5:f≤5) (k l:Nat) (t:List Bool) (h:l+k=n) (ht:t.length=2 ^ k):(buildE f n k l t).2=.leaf false↔true∉t:=by
 constructor
 ·intro e
  have e2:=(build_VE f n k l t h).zero e
  have e3:=build_none (f:=f) (n:=n) k l (List.replicate (2 ^ k) false) (by simp)
  rw [build_inj h1 h5 k l t _ h ht (by simp) (e2.trans e3.symm)]
  simp
 ·intro e;rw [build_none k l t e]
def RgN (f:Nat):Tr→Prop
 | .leaf _=>True
 | .node t b tl x th y=>
  (f=3→∀(t' b' tl':Nat) (u:Tr) (th':Nat) (v:Tr),x=.node t' b' tl' u th' v→¬(t'=b+1∧(th',v)=(th,y)))∧
  (f=4→∀(t' b' tl':Nat) (u:Tr) (th':Nat) (v:Tr),x=.node t' b' tl' u th' v→¬(t'=b+1∧(tl,x)=(th,y)))∧
  (f=5→¬(y=.leaf false∧tl=t+1))
def RgT (f:Nat) (T:Tr):Prop:=∀S∈nds T,RgN f S
theorem RgT.sub {f t b tl th:Nat} {x y:Tr} (h:RgT f (.node t b tl x th y)):RgT f x∧RgT f y:=
 ⟨fun S hS=>h S (by simp [nds,hS]),fun S hS=>h S (by simp [nds,hS])⟩
theorem RgT.node {f t b tl th:Nat} {x y:Tr} (h:RgN f (.node t b tl x th y)) (hx:RgT f x) (hy:RgT f y):RgT f (.node t b tl x th y):=by
 intro S hS
 simp [nds] at hS
 rcases hS with rfl | hS | hS
 ·exact h
 ·exact hx S hS
 ·exact hy S hS
theorem RgT.mk {f l:Nat} {x y:Nat × Tr} (hx:RgT f x.2) (hy:RgT f y.2):RgT f (mkE f l x y).2:=by
 have main:(f=5→¬(y.2=.leaf false∧x.1=l+1))→RgT f (nodeE f l x y):=by
  intro h5
  obtain ⟨xt,xT⟩:=x
  simp only at hx h5
  cases xT with
  | leaf b=>
   show RgT f (.node l l xt (.leaf b) y.1 y.2)
   exact RgT.node ⟨(fun _ _ _ _ _ _ _ h=>by cases h),(fun _ _ _ _ _ _ _ h=>by cases h),h5⟩ hx hy
  | node t b tl u th v=>
   have hN:=hx _ (by simp [nds]:Tr.node t b tl u th v∈nds (Tr.node t b tl u th v))
   unfold nodeE
   simp only
   by_cases c3:f=3∧t=l+1∧(th,v)=y
   ·rw [if_pos c3]
    obtain ⟨rfl,rfl,rfl⟩:=c3
    exact RgT.node ⟨fun h t' b' tl' w th' z e=>hN.1 h t' b' tl' w th' z e,fun h=>by omega,fun h=>by omega⟩ hx.sub.1 hy
   ·rw [if_neg c3]
    by_cases c4:f=4∧(xt,Tr.node t b tl u th v)=y∧t=l+1
    ·rw [if_pos c4]
     obtain ⟨rfl,rfl,rfl⟩:=c4
     exact RgT.node ⟨fun h=>by omega,fun h t' b' tl' w th' z e=>hN.2.1 h t' b' tl' w th' z e,fun h=>by omega⟩ hx.sub.1 hx.sub.2
    ·rw [if_neg c4]
     refine RgT.node ⟨fun h t' b' tl' w th' z e=>?_,fun h t' b' tl' w th' z e=>?_,h5⟩ hx hy
     ·cases e
      rintro ⟨e1,e2⟩
      exact c3 ⟨h,e1,e2⟩
     ·cases e
      rintro ⟨e1,e2⟩
      exact c4 ⟨h,e2,e1⟩
 unfold mkE
 split
 ·rename_i h
  split
  ·exact hx
  ·exact main (fun h5=>by omega)
 ·split
  ·exact hx
  ·split
   ·exact hx
   ·rename_i h
    exact main (fun h5 q=>h ⟨h5,q⟩)
theorem RgT.build (f n:Nat):∀(k l:Nat) (t:List Bool),RgT f (buildE f n k l t).2:=by
 intro k
 induction k with
 | zero=>intro l t S hS;simp [buildE,leafE,nds] at hS
 | succ k ih=>intro l t;rw [buildE];exact RgT.mk (ih _ _) (ih _ _)
def pastV (f l:Nat) (e:Ed):Ed × Ed:=if f=5 then (⟨l+1,e.a⟩,⟨0,0⟩) else if f=2∨f=4 then (e,⟨0,0⟩) else (e,e)
def viewP (L:List Rc) (f l:Nat) (e:Ed):List Rc × (Ed × Ed):=
 if f=5∧(e.a=0∨l < e.t) then (L,(e,e)) else
 match recAt L e.a with
 | some r=>
  if l < r.top then (L,pastV f l e)
  else if r.top=r.bot then (L,(r.lo,r.hi))
  else ((fnd L { r with top:=r.top+1 }).1,(⟨0,(fnd L { r with top:=r.top+1 }).2⟩,if f=3 then r.hi else ⟨0,(fnd L { r with top:=r.top+1 }).2⟩))
 | none=>(L,pastV f l e)
structure ViewOk (L:List Rc) (f l n:Nat) (x:Nat × Tr) (r:List Rc × (Ed × Ed)):Prop where
 lo:RepE r.1 f r.2.1 (vw f l x).1
 hi:RepE r.1 f r.2.2 (vw f l x).2
 llo:LeadsP r.1 f r.2.1 (l+1) n
 lhi:LeadsP r.1 f r.2.2 (l+1) n
 good:Good r.1 n
 nodup:r.1.Nodup
 grown:∃L2,r.1=L++L2∧L2.length≤1
theorem leads_nil (L:List Rc) (f l n:Nat):LeadsP L f ⟨0,0⟩ l n:=⟨⟨fun _=>rfl,fun _ h=>absurd rfl h⟩,.inl (by simp)⟩
theorem viewP_ok {L:List Rc} {f l n:Nat} (hG:Good L n) (hnd:L.Nodup) (h1:1≤f) (h5:f≤5) (hl:l < n) {e:Ed} {x:Nat × Tr} (hP:LeadsP L f e l n) (hR:RepE L f e x) (hV:VE f l x):ViewOk L f l n x (viewP L f l e):=by
 obtain ⟨tag,T⟩:=x
 obtain ⟨t,a⟩:=e
 have ht:t=tag:=hR.t
 subst ht
 have hra:=hR.a
 simp only at hra
 have same:∀p q:Ed,∀y:(Nat × Tr) × (Nat × Tr),vw f l (t,T)=y→RepE L f p y.1→RepE L f q y.2→LeadsP L f p (l+1) n→LeadsP L f q (l+1) n→ViewOk L f l n (t,T) (L,(p,q)):=fun p q y hy a1 a2 a3 a4=>by
  subst hy
  exact ⟨a1,a2,a3,a4,hG,hnd,[],by simp,by simp⟩
 by_cases f5:f=5
 ·subst f5
  unfold VE at hV
  simp only [if_true] at hV
  by_cases h0:a=0
  ·subst h0
   obtain rfl:T=.leaf false:=Rep.fun_ hra .zero
   obtain rfl:t=0:=by
    rcases hV with hV | hV
    ·simpa using hV
    ·exact absurd rfl hV.1
   unfold viewP
   rw [if_pos ⟨rfl,.inl rfl⟩]
   exact same _ _ ((0,.leaf false),(0,.leaf false)) (by unfold vw;rw [if_pos (.inr rfl)]) hR hR (leads_nil _ _ _ _) (leads_nil _ _ _ _)
  ·have hz:T≠ .leaf false:=by
    rintro rfl
    have:=hra.invl
    simp at this;exact h0 this
   have hV2:l≤t∧GeT t T:=by
    rcases hV with hV | hV
    ·simp at hV;exact absurd hV.2 hz
    ·exact hV.2
   have tn:t≤n:=(hP.plain.2 rfl h0).2
   by_cases hlt:l < t
   ·unfold viewP
    rw [if_pos ⟨rfl,.inr hlt⟩]
    have hq:LeadsP L 5 ⟨t,a⟩ (l+1) n:=by
     refine ⟨⟨fun h=>absurd h (by simp [h0]),fun _ _=>⟨hlt,tn⟩⟩,hP.at_.imp id ?_⟩
     rintro ⟨r,q1,q2,q3,q4,q5⟩
     exact ⟨r,q1,q2,by simp only at q4;omega,q4,q5⟩
    exact same _ _ ((t,T),(t,T)) (by unfold vw;rw [if_pos (.inl ⟨rfl,by simp;omega⟩)]) hR hR hq hq
   ·obtain rfl:t=l:=by omega
    unfold viewP
    rw [if_neg (by simp [h0])]
    have hpast:∀(hq:LeadsP L 5 ⟨t+1,a⟩ (t+1) n),vw 5 t (t,T)=((t+1,T),(0,.leaf false))→ViewOk L 5 t n (t,T) (L,pastV 5 t ⟨t,a⟩):=fun hq hv=>
     same ⟨t+1,a⟩ ⟨0,0⟩ _ hv ⟨rfl,hra⟩ ⟨rfl,.zero⟩ hq (leads_nil _ _ _ _)
    cases hra with
    | zero=>exact absurd rfl h0
    | one=>
     have hn:recAt L 1=none:=by unfold recAt;simp
     simp only [hn]
     exact hpast ⟨⟨fun h=>absurd h (by simp),fun _ _=>⟨Nat.le_refl _,hl⟩⟩,.inl (by simp)⟩ (by unfold vw;simp)
    | @node _ r A B hr hrf hA hB=>
     have hg:=hG a r hr
     have htb:r.top=r.bot:=by rcases hg.right.ch with h | h | h<;>omega
     simp only [hr]
     have glo:=hg.lo
     have ghi:=hg.hi
     rw [hrf] at glo ghi
     have hge:=hV2.2.1
     by_cases hlt2:t < r.top
     ·rw [if_pos hlt2]
      refine hpast ⟨⟨fun h=>absurd h (by simp [h0]),fun _ _=>⟨Nat.le_refl _,hl⟩⟩,.inr ⟨r,hr,hrf,hlt2,hlt2,?_⟩⟩ ?_
      ·have:=hg.right.bn;have:=hg.right.n16;omega
      ·unfold vw
       rw [if_neg (by simp)]
       simp only
       rw [if_neg (by omega),if_pos trivial]
     ·rw [if_neg hlt2,if_pos htb]
      have e:r.top=t:=by omega
      refine same _ _ ((r.lo.t,A),(r.hi.t,B)) ?_ ⟨rfl,hA⟩ ⟨rfl,hB⟩ (by rw [show t+1=r.bot+1 by omega];exact glo) (by rw [show t+1=r.bot+1 by omega];exact ghi)
      unfold vw
      rw [if_neg (by simp)]
      simp only
      rw [if_pos e,if_pos (by omega)]
 ·unfold VE at hV
  simp only [f5,if_false] at hV
  obtain ⟨hV0,hV1⟩:=hV
  subst hV0
  unfold viewP
  rw [if_neg (by simp [f5])]
  have hpast:∀(hq:LeadsP L f ⟨0,a⟩ (l+1) n),vw f l (0,T)=(if f=2∨f=4 then ((0,T),(0,.leaf false)) else ((0,T),(0,T)))→ViewOk L f l n (0,T) (L,pastV f l ⟨0,a⟩):=fun hq hv=>by
   unfold pastV
   rw [if_neg f5]
   by_cases f24:f=2∨f=4
   ·rw [if_pos f24] at hv ⊢
    exact same _ _ _ hv hR ⟨rfl,.zero⟩ hq (leads_nil _ _ _ _)
   ·rw [if_neg f24] at hv ⊢
    exact same _ _ _ hv hR hR hq hq
  cases hra with
  | zero=>
   have hn:recAt L 0=none:=by unfold recAt;simp
   simp only [hn]
   refine hpast (leads_nil _ _ _ _) ?_
   unfold vw
   rw [if_pos (.inr rfl)]
   simp
  | one=>
   have hn:recAt L 1=none:=by unfold recAt;simp
   simp only [hn]
   refine hpast ⟨⟨fun _=>rfl,fun h=>absurd h f5⟩,.inl (by simp)⟩ ?_
   unfold vw
   rw [if_neg (by simp [f5])]
   simp only
   rw [if_neg f5]
  | @node _ r A B hr hrf hA hB=>
   have hg:=hG a r hr
   simp only [hr]
   have glo:=hg.lo
   have ghi:=hg.hi
   rw [hrf] at glo ghi
   have hge:=hV1.1
   have b16:r.top≤16∧r.bot≤15:=by have:=hg.right.bn;have:=hg.right.n16;have:=hg.right.tb;omega
   by_cases hlt2:l < r.top
   ·rw [if_pos hlt2]
    refine hpast ⟨⟨fun _=>rfl,fun h=>absurd h f5⟩,.inr ⟨r,hr,hrf,hlt2,Nat.zero_le _,b16.1⟩⟩ ?_
    unfold vw
    rw [if_neg (by simp [f5])]
    simp only
    rw [if_neg (by omega),if_neg f5]
   ·rw [if_neg hlt2]
    have e:r.top=l:=by omega
    by_cases htb:r.top=r.bot
    ·rw [if_pos htb]
     refine same _ _ ((r.lo.t,A),(r.hi.t,B)) ?_ ⟨rfl,hA⟩ ⟨rfl,hB⟩ (by rw [show l+1=r.bot+1 by omega];exact glo) (by rw [show l+1=r.bot+1 by omega];exact ghi)
     unfold vw
     rw [if_neg (by simp [f5])]
     simp only
     rw [if_pos e,if_pos (by omega)]
    ·rw [if_neg htb]
     have hge2:=hg.right.tb
     have f34:r.f=3∨r.f=4:=by rcases hg.right.ch with h | h | h<;>omega
     have gr:GoodR L n { r with top:=r.top+1 }:=⟨⟨hg.right.f1,hg.right.f5,by simp only;omega,hg.right.bn,hg.right.n16,.inr f34,hg.right.lo,hg.right.hi,hg.right.z,hg.right.b⟩,hg.lo,hg.hi⟩
     have hid:=fnd_at L { r with top:=r.top+1 }
     obtain ⟨L2,hL2⟩:=fnd_grow L { r with top:=r.top+1 }
     have good2:=hG.fnd gr
     have nd2:=fnd_nodup hnd { r with top:=r.top+1 }
     have hlen:L2.length≤1:=by
      have:(fnd L { r with top:=r.top+1 }).1.length≤L.length+1:=by unfold fnd;split<;>simp
      rw [hL2,List.length_append] at this;omega
     generalize hf:fnd L { r with top:=r.top+1 }=q at *
     have rep:Rep q.1 f q.2 (.node (l+1) r.bot r.lo.t A r.hi.t B):=by
      have:=Rep.node (L:=q.1) (f:=f) hid hrf (a:=A) (b:=B) (by rw [hL2];exact hA.grow _) (by rw [hL2];exact hB.grow _)
      simp only at this
      rw [e] at this
      exact this
     have lead:LeadsP q.1 f ⟨0,q.2⟩ (l+1) n:=⟨⟨fun _=>rfl,fun h=>absurd h f5⟩,.inr ⟨_,hid,hrf,by simp only;omega,Nat.zero_le _,by simp only;omega⟩⟩
     have leadhi:LeadsP q.1 f r.hi (l+1) n:=by
      rw [hL2]
      refine LeadsP.grow ⟨?_,ghi.at_.imp id (fun ⟨r2,q1,q2,q3,q4⟩=>⟨r2,q1,q2,by omega,q4⟩)⟩ L2
      exact ⟨fun _=>ghi.plain.1 (.inl f5),fun h=>absurd h f5⟩
     have hv:vw f l (0,.node r.top r.bot r.lo.t A r.hi.t B)=if f=3 then ((0,.node (l+1) r.bot r.lo.t A r.hi.t B),(r.hi.t,B)) else ((0,.node (l+1) r.bot r.lo.t A r.hi.t B),(0,.node (l+1) r.bot r.lo.t A r.hi.t B)):=by
      unfold vw
      rw [if_neg (by simp [f5])]
      simp only
      rw [if_pos e,if_neg (by omega)]
     have hB2:Rep q.1 f r.hi.a B:=by rw [hL2];exact hB.grow _
     by_cases f3:f=3
     ·rw [if_pos f3] at hv ⊢
      exact ⟨by rw [hv];exact ⟨rfl,rep⟩,by rw [hv];exact ⟨rfl,hB2⟩,lead,leadhi,good2,nd2,L2,hL2,hlen⟩
     ·rw [if_neg f3] at hv ⊢
      exact ⟨by rw [hv];exact ⟨rfl,rep⟩,by rw [hv];exact ⟨rfl,rep⟩,lead,lead,good2,nd2,L2,hL2,hlen⟩
end Go.Proofs.YtnbjnnijifiaaaaGreatDoor
