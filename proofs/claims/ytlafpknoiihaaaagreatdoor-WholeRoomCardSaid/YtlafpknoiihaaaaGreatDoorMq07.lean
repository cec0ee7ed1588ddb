/- Mq07: Pa · Pb · Bf · Of · Pl · Ps · Sa · Og · Pv -/
import Derived.Test.YtlafpknoiihaaaaGreatDoorMq05
import Derived.Test.YtlafpknoiihaaaaGreatDoorMq06
import Derived.Deep.RegionHeld3
import Derived.Test.YtlafpknoiihaaaaGreatDoorMq01
set_option maxRecDepth 100000
set_option maxHeartbeats 2000000
set_option linter.unusedVariables false
set_option linter.unusedSimpArgs false
namespace Go.Proofs.YtlafpknoiihaaaaGreatDoor
inductive Tr where
 | leaf (b:Bool)
 | node (top bot tl:Nat) (lo:Tr) (th:Nat) (hi:Tr)
 deriving DecidableEq
inductive Rep (L:List Rc) (f:Nat):Nat→Tr→Prop
 | zero:Rep L f 0 (.leaf false)
 | one:Rep L f 1 (.leaf true)
 | node {id:Nat} {r:Rc} {a b:Tr}:recAt L id=some r→r.f=f→Rep L f r.lo.a a→Rep L f r.hi.a b→Rep L f id (.node r.top r.bot r.lo.t a r.hi.t b)
theorem Rep.grow {L:List Rc} {f a:Nat} {T:Tr} (h:Rep L f a T) (L2:List Rc):Rep (L++L2) f a T:=by
 induction h with
 | zero=>exact .zero
 | one=>exact .one
 | node h1 h2 _ _ ih1 ih2=>exact .node (recAt_append h1 L2) h2 ih1 ih2
theorem Rep.inv {L:List Rc} {f a t b tl th:Nat} {x y:Tr} (h:Rep L f a (.node t b tl x th y)):
 ∃r,recAt L a=some r∧r.f=f∧r.top=t∧r.bot=b∧r.lo.t=tl∧r.hi.t=th∧Rep L f r.lo.a x∧Rep L f r.hi.a y:=by
 generalize hT:Tr.node t b tl x th y=T at h
 cases h with
 | zero=>cases hT
 | one=>cases hT
 | node h1 h2 h3 h4=>cases hT;exact ⟨_,h1,h2,rfl,rfl,rfl,rfl,h3,h4⟩
theorem Rep.invl {L:List Rc} {f a:Nat} {b:Bool} (h:Rep L f a (.leaf b)):a=if b then 1 else 0:=by
 generalize hT:Tr.leaf b=T at h
 cases h with
 | zero=>cases hT;rfl
 | one=>cases hT;rfl
 | node h1 h2 h3 h4=>cases hT
theorem Rep.two {L:List Rc} {f a t b tl th:Nat} {x y:Tr} (h:Rep L f a (.node t b tl x th y)):2≤a:=by
 obtain ⟨r,h1,_⟩:=h.inv
 exact (recAt_lt h1).1
theorem Rc.ext' {r s:Rc} (h1:r.f=s.f) (h2:r.top=s.top) (h3:r.bot=s.bot) (h4:r.lo.t=s.lo.t) (h5:r.lo.a=s.lo.a) (h6:r.hi.t=s.hi.t) (h7:r.hi.a=s.hi.a):r=s:=by
 obtain ⟨f,t,b,⟨lt,la⟩,⟨ht,ha⟩⟩:=r
 obtain ⟨f',t',b',⟨lt',la'⟩,⟨ht',ha'⟩⟩:=s
 simp_all
theorem recAt_inj {L:List Rc} (hn:L.Nodup) {i j:Nat} {r:Rc} (h:recAt L i=some r) (k:recAt L j=some r):i=j:=by
 obtain ⟨a1,a2,a3⟩:=recAt_lt h
 obtain ⟨b1,b2,b3⟩:=recAt_lt k
 have:=(List.getElem?_inj (by omega) hn).1 (a3.trans b3.symm)
 omega
theorem Rep.inj {L:List Rc} {f:Nat} (hn:L.Nodup):∀{T:Tr} {a a':Nat},Rep L f a T→Rep L f a' T→a=a':=by
 intro T
 induction T with
 | leaf b=>intro a a' h h';rw [h.invl,h'.invl]
 | node t b tl x th y ihx ihy=>
  intro a a' h h'
  obtain ⟨r,h1,h2,h3,h4,h5,h6,h7,h8⟩:=h.inv
  obtain ⟨s,k1,k2,k3,k4,k5,k6,k7,k8⟩:=h'.inv
  have e:r=s:=Rc.ext' (h2.trans k2.symm) (h3.trans k3.symm) (h4.trans k4.symm) (h5.trans k5.symm) (ihx h7 k7) (h6.trans k6.symm) (ihy h8 k8)
  subst e
  exact recAt_inj hn h1 k1
theorem Rep.fun_ {L:List Rc} {f a:Nat} {T:Tr} (h:Rep L f a T):∀{T':Tr},Rep L f a T'→T=T':=by
 induction h with
 | zero=>
  intro T' h'
  cases h' with
  | zero=>rfl
  | node h1=>have:=recAt_lt h1;omega
 | one=>
  intro T' h'
  cases h' with
  | one=>rfl
  | node h1=>have:=recAt_lt h1;omega
 | node h1 h2 h3 h4 ih1 ih2=>
  intro T' h'
  cases h' with
  | zero=>have:=recAt_lt h1;omega
  | one=>have:=recAt_lt h1;omega
  | node k1 k2 k3 k4=>
   rw [h1] at k1
   cases k1
   rw [ih1 k3,ih2 k4]
structure RepE (L:List Rc) (f:Nat) (e:Ed) (x:Nat × Tr):Prop where
 t:e.t=x.1
 a:Rep L f e.a x.2
theorem RepE.grow {L:List Rc} {f:Nat} {e:Ed} {x:Nat × Tr} (h:RepE L f e x) (L2:List Rc):RepE (L++L2) f e x:=⟨h.t,h.a.grow L2⟩
theorem RepE.eq_iff {L:List Rc} {f:Nat} (hn:L.Nodup) {e e':Ed} {x x':Nat × Tr} (h:RepE L f e x) (h':RepE L f e' x'):e=e'↔x=x':=by
 constructor
 ·rintro rfl
  exact Prod.ext (h.t.symm.trans h'.t) (h.a.fun_ h'.a)
 ·rintro rfl
  obtain ⟨t,a⟩:=e
  obtain ⟨t',a'⟩:=e'
  have h1:=h.t.trans h'.t.symm
  have h2:=Rep.inj hn h.a h'.a
  simp only at h1 h2
  rw [h1,h2]
theorem RepE.zero_iff {L:List Rc} {f:Nat} {e:Ed} {x:Nat × Tr} (h:RepE L f e x):e.a=0↔x.2=.leaf false:=by
 have ha:=h.a
 constructor
 ·intro h0
  rw [h0] at ha
  exact (Rep.zero.fun_ ha).symm
 ·intro h0
  rw [h0] at ha
  simpa using ha.invl
def nodeE (f l:Nat) (lo hi:Nat × Tr):Tr:=
 match lo.2 with
 | .node t b tl x th y=>
  if f=3∧t=l+1∧(th,y)=hi then .node l b tl x hi.1 hi.2
  else if f=4∧lo=hi∧t=l+1 then .node l b tl x th y else .node l l lo.1 lo.2 hi.1 hi.2
 | .leaf _=>.node l l lo.1 lo.2 hi.1 hi.2
def mkE (f l:Nat) (lo hi:Nat × Tr):Nat × Tr:=
 if f=2∨f=4 then (if hi.2=.leaf false then lo else (0,nodeE f l lo hi))
 else if lo=hi then lo else if f=5∧hi.2=.leaf false∧lo.1=l+1 then (l,lo.2) else (if f=5 then l else 0,nodeE f l lo hi)
theorem fnd_nodup {L:List Rc} (h:L.Nodup) (r:Rc):(fnd L r).1.Nodup:=by
 unfold fnd
 split
 ·exact h
 ·rename_i hr
  rw [List.nodup_append]
  exact ⟨h,by simp,by intro a ha b hb;simp at hb;subst hb;rintro rfl;exact hr ha⟩
theorem rep_node {L:List Rc} (hn:L.Nodup) {f l:Nat} {lo hi:Ed} {x y:Nat × Tr} (hx:RepE L f lo x) (hy:RepE L f hi y):
 Rep (fnd L (recP L f l lo hi)).1 f (fnd L (recP L f l lo hi)).2 (nodeE f l x y):=by
 have hid:=fnd_at L (recP L f l lo hi)
 obtain ⟨L2,hL2⟩:=fnd_grow L (recP L f l lo hi)
 have base:recP L f l lo hi=⟨f,l,l,lo,hi⟩→Rep (fnd L (recP L f l lo hi)).1 f (fnd L (recP L f l lo hi)).2 (.node l l x.1 x.2 y.1 y.2):=by
  intro e
  rw [e] at hid hL2 ⊢
  have h:=Rep.node (L:=(fnd L ⟨f,l,l,lo,hi⟩).1) (f:=f) hid rfl (a:=x.2) (b:=y.2) (by rw [hL2];exact hx.a.grow _) (by rw [hL2];exact hy.a.grow _)
  rw [←hx.t,←hy.t];exact h
 obtain ⟨xt,xT⟩:=x
 cases xT with
 | leaf b=>
  unfold nodeE
  simp only
  refine base ?_
  have:=hx.a.invl
  unfold recP
  have e:recAt L lo.a=none:=by
   unfold recAt;rw [if_neg];rw [this];split<;>omega
  rw [e]
 | node t b tl u th v=>
  obtain ⟨r,h1,h2,h3,h4,h5,h6,h7,h8⟩:=Rep.inv hx.a
  have ehi:r.hi=hi↔(th,v)=y:=RepE.eq_iff hn ⟨h6,h8⟩ hy
  have elo:lo=hi↔(xt,Tr.node t b tl u th v)=y:=RepE.eq_iff hn hx hy
  unfold nodeE
  simp only
  unfold recP at hid hL2 base ⊢
  rw [h1] at hid hL2 base ⊢
  simp only at hid hL2 base ⊢
  by_cases c1:f=3∧r.top=l+1∧r.hi=hi
  ·rw [if_pos c1] at hid hL2 ⊢
   have n1:f=3∧t=l+1∧(th,v)=y:=⟨c1.1,h3▸c1.2.1,ehi.1 c1.2.2⟩
   rw [if_pos n1]
   obtain ⟨rfl,-,-⟩:=c1
   have h:=Rep.node (L:=(fnd L ⟨3,l,r.bot,r.lo,hi⟩).1) (f:=3) hid rfl (a:=u) (b:=y.2) (by rw [hL2];exact h7.grow _) (by rw [hL2];exact hy.a.grow _)
   simp only [h4,h5,hy.t] at h ⊢
   exact h
  ·rw [if_neg c1] at hid hL2 base ⊢
   have n1:¬(f=3∧t=l+1∧(th,v)=y):=fun c=>c1 ⟨c.1,h3.trans c.2.1,ehi.2 c.2.2⟩
   rw [if_neg n1]
   by_cases c2:f=4∧lo=hi∧r.top=l+1
   ·rw [if_pos c2] at hid hL2 ⊢
    have n2:f=4∧(xt,Tr.node t b tl u th v)=y∧t=l+1:=⟨c2.1,elo.1 c2.2.1,h3▸c2.2.2⟩
    rw [if_pos n2]
    obtain ⟨rfl,-,-⟩:=c2
    have h:=Rep.node (L:=(fnd L ⟨4,l,r.bot,r.lo,r.hi⟩).1) (f:=4) hid rfl (a:=u) (b:=v) (by rw [hL2];exact h7.grow _) (by rw [hL2];exact h8.grow _)
    simp only [h4,h5,h6] at h ⊢
    exact h
   ·rw [if_neg c2] at hid hL2 base ⊢
    have n2:¬(f=4∧(xt,Tr.node t b tl u th v)=y∧t=l+1):=fun c=>c2 ⟨c.1,elo.2 c.2.1,h3.trans c.2.2⟩
    rw [if_neg n2]
    exact base rfl
theorem mk_rep {L:List Rc} (hn:L.Nodup) {f l:Nat} {lo hi:Ed} {x y:Nat × Tr} (hx:RepE L f lo x) (hy:RepE L f hi y):
 RepE (mkP L f l lo hi).1 f (mkP L f l lo hi).2 (mkE f l x y)∧(mkP L f l lo hi).1.Nodup:=by
 have hz:=hy.zero_iff
 have he:=RepE.eq_iff hn hx hy
 have hnode:=rep_node (l:=l) hn hx hy
 have hnd:=fnd_nodup hn (recP L f l lo hi)
 unfold mkP shortP mkE
 by_cases c1:f=2∨f=4
 ·rw [if_pos c1,if_pos c1]
  have h5:¬f=5:=by omega
  by_cases c2:hi.a=0
  ·rw [if_pos c2,if_pos (hz.1 c2)];exact ⟨hx,hn⟩
  ·have c2':¬y.2=.leaf false:=fun c=>c2 (hz.2 c)
   rw [if_neg c2,if_neg c2',if_neg h5]
   exact ⟨⟨rfl,hnode⟩,hnd⟩
 ·rw [if_neg c1,if_neg c1]
  by_cases c2:lo=hi
  ·rw [if_pos c2,if_pos (he.1 c2)];exact ⟨hx,hn⟩
  ·have c2':¬x=y:=fun c=>c2 (he.2 c)
   rw [if_neg c2,if_neg c2']
   by_cases c3:f=5∧hi.a=0∧lo.t=l+1
   ·have c3':f=5∧y.2=.leaf false∧x.1=l+1:=⟨c3.1,hz.1 c3.2.1,hx.t▸c3.2.2⟩
    rw [if_pos c3,if_pos c3'];exact ⟨⟨rfl,hx.a⟩,hn⟩
   ·have c3':¬(f=5∧y.2=.leaf false∧x.1=l+1):=fun c=>c3 ⟨c.1,hz.2 c.2.1,hx.t.trans c.2.2⟩
    rw [if_neg c3,if_neg c3']
    exact ⟨⟨rfl,hnode⟩,hnd⟩
def leafE (f n:Nat) (b:Bool):Nat × Tr:=(if f=5∧b=true then n else 0,.leaf b)
def buildE (f n:Nat):Nat→Nat→List Bool→Nat × Tr
 | 0,_,t=>leafE f n (t.headD false)
 | k+1,l,t=>mkE f l (buildE f n k (l+1) (t.take (2 ^ k))) (buildE f n k (l+1) (t.drop (2 ^ k)))
def tsz:Tr→Nat
 | .leaf _=>1
 | .node _ _ _ x _ y=>1+tsz x+tsz y
def nds:Tr→List Tr
 | .leaf _=>[]
 | .node t b tl x th y=>.node t b tl x th y::(nds x++nds y)
def dis {α:Type} [DecidableEq α]:List α→List α→List α
 | out,[]=>out
 | out,x::l=>dis (if x∈out then out else out++[x]) l
theorem dis_mem {α:Type} [DecidableEq α] {x:α}:∀(l out:List α),x∈dis out l↔x∈out∨x∈l:=by
 intro l
 induction l with
 | nil=>intro out;simp [dis]
 | cons y l ih=>
  intro out
  rw [dis,ih]
  by_cases h:y∈out
  ·rw [if_pos h];simp;constructor
   ·rintro (h | h);exact .inl h;exact .inr (.inr h)
   ·rintro (h | rfl | h);exact .inl h;exact .inl ‹_›;exact .inr h
  ·rw [if_neg h];simp [or_assoc]
theorem dis_nodup {α:Type} [DecidableEq α]:∀(l out:List α),out.Nodup→(dis out l).Nodup:=by
 intro l
 induction l with
 | nil=>intro out h;exact h
 | cons y l ih=>
  intro out h
  rw [dis]
  refine ih _ ?_
  split
  ·exact h
  ·rename_i hy
   rw [List.nodup_append]
   exact ⟨h,by simp,by intro a ha b hb;simp at hb;subst hb;rintro rfl;exact hy ha⟩
theorem nodup_le {α:Type} [DecidableEq α]:∀{l m:List α},l.Nodup→(∀x∈l,x∈m)→l.length≤m.length:=by
 intro l
 induction l with
 | nil=>intro m _ _;simp
 | cons a l ih=>
  intro m hn hs
  rw [List.nodup_cons] at hn
  have ham:=hs a (by simp)
  have h1:=ih (m:=m.erase a) hn.2 (fun x hx=>by
   have:x≠a:=fun e=>hn.1 (e▸hx)
   exact (List.mem_erase_of_ne this).2 (hs x (by simp [hx])))
  have h2:=List.length_erase_of_mem ham
  have h3:=List.length_pos_of_mem ham
  simp only [List.length_cons]
  omega
theorem nodup_le_rel {α β:Type} [DecidableEq α] [DecidableEq β] (R:α→β→Prop) (hinj:∀a a' b,R a b→R a' b→a=a'):∀{l:List α} {m:List β},l.Nodup→(∀x∈l,∃y∈m,R x y)→l.length≤m.length:=by
 intro l
 induction l with
 | nil=>intro m _ _;simp
 | cons a l ih=>
  intro m hn hs
  rw [List.nodup_cons] at hn
  obtain ⟨y,hy,hr⟩:=hs a (by simp)
  have h1:=ih (m:=m.erase y) hn.2 (fun x hx=>by
   obtain ⟨z,hz,hrz⟩:=hs x (by simp [hx])
   refine ⟨z,(List.mem_erase_of_ne ?_).2 hz,hrz⟩
   rintro rfl
   exact hn.1 (hinj _ _ _ hr hrz▸hx))
  have h2:=List.length_erase_of_mem hy
  have h3:=List.length_pos_of_mem hy
  simp only [List.length_cons]
  omega
theorem nodup_len_rel {α β:Type} [DecidableEq α] [DecidableEq β] (R:α→β→Prop) (hinj:∀a a' b,R a b→R a' b→a=a') (hfun:∀a b b',R a b→R a b'→b=b') {l:List α} {m:List β} (hl:l.Nodup) (hm:m.Nodup)
 (h1:∀x∈l,∃y∈m,R x y) (h2:∀y∈m,∃x∈l,R x y):l.length=m.length:=
 Nat.le_antisymm (nodup_le_rel R hinj hl h1) (nodup_le_rel (fun b a=>R a b) (fun b b' a h k=>hfun a b b' h k) hm h2)
theorem Rep.ge {L:List Rc} {f a:Nat} {T:Tr} (h:Rep L f a T):(∃b,T=.leaf b∧a < 2)∨2≤a∧a < L.length+2:=by
 cases h with
 | zero=>exact .inl ⟨_,rfl,by omega⟩
 | one=>exact .inl ⟨_,rfl,by omega⟩
 | node h1=>have:=recAt_lt h1;exact .inr ⟨this.1,this.2.1⟩
def idsOf (L:List Rc) (f:Nat) (T:Tr) (id:Nat):Prop:=∃S,S∈nds T∧Rep L f id S
theorem nds_node {S T:Tr} (h:S∈nds T):∃t b tl x th y,S=.node t b tl x th y:=by
 induction T with
 | leaf b=>simp [nds] at h
 | node t b tl x th y ihx ihy=>
  simp [nds] at h
  rcases h with rfl | h | h
  ·exact ⟨_,_,_,_,_,_,rfl⟩
  ·exact ihx h
  ·exact ihy h
theorem nds_trans {S T U:Tr} (h:S∈nds T) (k:T∈nds U):S∈nds U:=by
 induction U with
 | leaf b=>simp [nds] at k
 | node t b tl x th y ihx ihy=>
  simp [nds] at k
  rcases k with rfl | k | k
  ·exact h
  ·simp [nds,ihx k]
  ·simp [nds,ihy k]
theorem Rep.sub {L:List Rc} {f a:Nat} {T:Tr} (h:Rep L f a T):∀S∈nds T,∃id,Rep L f id S:=by
 induction h with
 | zero=>simp [nds]
 | one=>simp [nds]
 | @node id r x y h1 h2 h3 h4 ih1 ih2=>
  intro S hS
  simp [nds] at hS
  rcases hS with rfl | hS | hS
  ·exact ⟨id,.node h1 h2 h3 h4⟩
  ·exact ih1 S hS
  ·exact ih2 S hS
theorem ids_len {L:List Rc} (hn:L.Nodup) {f a:Nat} {T:Tr} (h:Rep L f a T) {l:List Nat} (hl:l.Nodup) (hm:∀id,id∈l↔idsOf L f T id):l.length=(dis [] (nds T)).length:=by
 refine nodup_len_rel (fun id S=>Rep L f id S) (fun a a' b h k=>Rep.inj hn h k) (fun a b b' h k=>Rep.fun_ h k) hl (dis_nodup _ _ (by simp)) ?_ ?_
 ·intro id hid
  obtain ⟨S,hS,hr⟩:=(hm id).1 hid
  exact ⟨S,by rw [dis_mem];exact .inr hS,hr⟩
 ·intro S hS
  rw [dis_mem] at hS
  have hS':S∈nds T:=by simpa using hS
  obtain ⟨id,hid⟩:=h.sub S hS'
  exact ⟨id,(hm id).2 ⟨S,hS',hid⟩,hid⟩
def Cl (L:List Rc) (f:Nat) (V:Nat→Prop) (m:Nat):Prop:=∀id S,V id→Rep L f id S→tsz S < m→∀j,idsOf L f S j→V j
theorem idsOf_node {L:List Rc} {f id:Nat} {t b tl th:Nat} {x y:Tr} (hn:L.Nodup) (h:Rep L f id (.node t b tl x th y)) (j:Nat):
 idsOf L f (.node t b tl x th y) j↔j=id∨idsOf L f x j∨idsOf L f y j:=by
 constructor
 ·rintro ⟨S,hS,hr⟩
  simp [nds] at hS
  rcases hS with rfl | hS | hS
  ·exact .inl (Rep.inj hn hr h)
  ·exact .inr (.inl ⟨S,hS,hr⟩)
  ·exact .inr (.inr ⟨S,hS,hr⟩)
 ·rintro (rfl | ⟨S,hS,hr⟩ | ⟨S,hS,hr⟩)
  ·exact ⟨_,by simp [nds],h⟩
  ·exact ⟨S,by simp [nds,hS],hr⟩
  ·exact ⟨S,by simp [nds,hS],hr⟩
theorem idsOf_leaf {L:List Rc} {f:Nat} {b:Bool} (j:Nat):¬idsOf L f (.leaf b) j:=by
 rintro ⟨S,hS,_⟩;simp [nds] at hS
theorem idsOf_in {L:List Rc} {f:Nat} {S T:Tr} {id j:Nat} (h:idsOf L f T id) (hr:Rep L f id S) (hj:idsOf L f S j):idsOf L f T j:=by
 obtain ⟨U,hU,hrU⟩:=h
 have e:=hrU.fun_ hr
 subst e
 obtain ⟨W,hW,hrW⟩:=hj
 exact ⟨W,nds_trans hW hU,hrW⟩
theorem Cl.skip {L:List Rc} {f:Nat} {V:Nat→Prop} {m id:Nat} {T:Tr} (h:Cl L f V m) (hr:Rep L f id T) (hv:V id) (hm:tsz T < m) (j:Nat):V j↔V j∨idsOf L f T j:=
 ⟨.inl,fun h'=>h'.elim (fun x=>x) (h id T hv hr hm j)⟩
theorem Cl.add {L:List Rc} {f:Nat} {V:Nat→Prop} {m id:Nat} {T:Tr} (h:Cl L f V m) (hr:Rep L f id T) (hm:tsz T < m):Cl L f (fun j=>V j∨j=id) (tsz T):=by
 intro i S hi hS hlt j hj
 rcases hi with hi | rfl
 ·exact .inl (h i S hi hS (by omega) j hj)
 ·have:=hS.fun_ hr;subst this;omega
theorem Cl.union {L:List Rc} {f:Nat} {V:Nat→Prop} {m:Nat} {T:Tr} (h:Cl L f V m):Cl L f (fun j=>V j∨idsOf L f T j) m:=by
 intro i S hi hS hlt j hj
 rcases hi with hi | hi
 ·exact .inl (h i S hi hS hlt j hj)
 ·exact .inr (idsOf_in hi hS hj)
theorem Cl.congr {L:List Rc} {f:Nat} {V V':Nat→Prop} {m:Nat} (h:Cl L f V m) (e:∀j,V j↔V' j):Cl L f V' m:=
 fun i S hi hS hlt j hj=>(e j).1 (h i S ((e i).2 hi) hS hlt j hj)
open Go.RowKit
structure BSt (w:World) (bb b bo n f g cap W:Nat) (p q Fo:List Nat):Prop where
 bb:Blk w bb #[.pointer (some ⟨b,0,none⟩),.pointer (some ⟨bo,0,none⟩),.int .u8 f,.int .i64 n,.slice (some ⟨g,0,none⟩) 1 cap] 147
 word:w.cell? ⟨g,0,none⟩=some (.int .u64 W)
 ord:IsOrd w bo p q Fo
theorem IsOrd.lt {w:World} {b:Nat} {p q:List Nat} {F:List Nat} (h:IsOrd w b p q F):∀k∈F,k < w.heap.size:=by
 obtain ⟨vp,vq,Fp,Fq,h1,h2,h3,rfl,r⟩:=h
 intro k hk
 simp at hk
 rcases hk with rfl | hk | hk
 ·exact h1.lt
 ·exact h2.lt k hk
 ·exact h3.lt k hk
theorem BSt.mod {S:List Nat} {w w':World} {bb b bo n f g cap W:Nat} {p q Fo:List Nat} (h:BSt w bb b bo n f g cap W p q Fo) (m:Mod S w w') (hd:∀k∈bb::g::Fo,k∉S):BSt w' bb b bo n f g cap W p q Fo:=
 ⟨h.bb.mod m (hd bb (by simp)),(m.cell (a:=⟨g,0,none⟩) (World.block_lt_of_cell? w _ h.word) (hd g (by simp))).trans h.word,h.ord.mod m (fun k hk=>hd k (by simp [hk]))⟩
theorem BSt.lt {w:World} {bb b bo n f g cap W:Nat} {p q Fo:List Nat} (h:BSt w bb b bo n f g cap W p q Fo):∀k∈bb::g::Fo,k < w.heap.size:=by
 intro k hk
 simp at hk
 rcases hk with rfl | rfl | hk
 ·exact h.bb.lt
 ·exact World.block_lt_of_cell? w _ h.word
 ·exact h.ord.lt k hk
theorem Blk.cells5 {w:World} {g:Nat} {a b c d e:Value} {t:TypeId} (B:Blk w g #[a,b,c,d,e] t):
 w.cell? ⟨g,0,none⟩=some a∧w.cell? ⟨g,1,none⟩=some b∧w.cell? ⟨g,2,none⟩=some c∧w.cell? ⟨g,3,none⟩=some d∧w.cell? ⟨g,4,none⟩=some e:=by
 refine ⟨?_,?_,?_,?_,?_⟩<;>(rw [B.cell];rfl)
def tabL (W:Nat) (p:List Nat):Nat→Nat→Nat→List Bool
 | 0,_,x=>[W.testBit x]
 | k+1,l,x=>tabL W p k (l+1) x++tabL W p k (l+1) (x ||| 2 ^ p.getD l 0)
theorem tabL_len (W:Nat) (p:List Nat):∀k l x,(tabL W p k l x).length=2 ^ k:=by
 intro k
 induction k with
 | zero=>intro l x;rfl
 | succ k ih=>intro l x;rw [tabL,List.length_append,ih,ih,Nat.pow_succ];omega
def FromP (w:World) (b n room:Nat) (L:List Rc) (F:List Nat) (f l k:Nat) (x:Nat × Tr) (e:Ending) (w':World):Prop:=
 ∃ed L2 F',e=.returned (.tuple #[edv ed,.int .u8 0])∧IsSt w' b n (L++L2) room F'∧Mod F w w'∧(∀k∈F',k∈F∨w.heap.size≤k)∧Good (L++L2) n∧(L++L2).Nodup∧LeadsP (L++L2) f ed l n∧RepE (L++L2) f ed x∧L2.length+1≤2 ^ k
theorem or_pow {x v:Nat} (hx:x < 4294967296) (hv:v < 32):bits .or .i64 (x:Int) (2 ^ v)=((x ||| 2 ^ v:Nat):Int):=by
 have h2:(2:Nat) ^ v < 4294967296:=by
  have:=Nat.pow_lt_pow_right (a:=2) (by omega) hv;simpa using this
 have h3:x ||| 2 ^ v < 2 ^ 32:=Nat.or_lt_two_pow (by simpa using hx) (by simpa using h2)
 have e:(BitVec.ofInt 64 (x:Int) ||| BitVec.ofInt 64 (2 ^ v)).toNat=x ||| 2 ^ v:=by
  have e1:BitVec.ofInt 64 (x:Int)=BitVec.ofNat 64 x:=BitVec.ofInt_natCast ..
  have e0:((2:Int) ^ v)=((2 ^ v:Nat):Int):=by simp
  have e2:BitVec.ofInt 64 (2 ^ v)=BitVec.ofNat 64 (2 ^ v):=by rw [e0];exact BitVec.ofInt_natCast ..
  rw [e1,e2,BitVec.toNat_or,BitVec.toNat_ofNat,BitVec.toNat_ofNat,Nat.mod_eq_of_lt (by omega),Nat.mod_eq_of_lt (by omega)]
 show IntKind.i64.wrap ((BitVec.ofInt 64 (x:Int) ||| BitVec.ofInt 64 (2 ^ v)).toNat:Int)=_
 rw [e,IntWalk.i64_in _ (by omega)]
theorem or_pow' {x v:Nat} (hx:x < 4294967296) (hv:v < 32):bits .or .i64 (x:Int) (wrap64 (2 ^ v))=((x ||| 2 ^ v:Nat):Int):=by
 have h2:(2:Nat) ^ v < 4294967296:=by
  have:=Nat.pow_lt_pow_right (a:=2) (by omega) hv;simpa using this
 have e0:((2:Int) ^ v)=((2 ^ v:Nat):Int):=by simp
 have e1:wrap64 (2 ^ v)=2 ^ v:=by
  rw [e0]
  generalize 2 ^ v=z at *
  exact IntWalk.wrap64_in _ ⟨by omega,by omega⟩
 rw [e1];exact or_pow hx hv
theorem lead_leaf {L:List Rc} {f n:Nat} (b:Bool):LeadsP L f (if b then oneE f n else ⟨0,0⟩) n n∧RepE L f (if b then oneE f n else ⟨0,0⟩) (leafE f n b):=by
 cases b with
 | false=>exact ⟨⟨⟨fun _=>rfl,fun _ h=>absurd rfl h⟩,.inl (by simp)⟩,⟨by simp [leafE],.zero⟩⟩
 | true=>
  unfold oneE leafE
  by_cases h5:f=5
  ·simp only [h5,if_true,and_self]
   exact ⟨⟨⟨fun h=>by simp at h,fun _ _=>⟨Nat.le_refl _,Nat.le_refl _⟩⟩,.inl (by simp)⟩,⟨rfl,.one⟩⟩
  ·simp only [h5,if_false,if_true,false_and]
   exact ⟨⟨⟨fun _=>rfl,fun h=>absurd h h5⟩,.inl (by simp)⟩,⟨rfl,.one⟩⟩
theorem from_zero {w:World} {bb b bo n f g cap W:Nat} {p q Fo:List Nat} (hB:BSt w bb b bo n f g cap W p q Fo) {L:List Rc} {room:Nat} {F:List Nat} (hS:IsSt w b n L room F) (hd:∀k∈bb::g::Fo,k∉F)
 (h1:1≤f) (h5:f≤5) (hn:n≤5) (hW:W < 2 ^ (2 ^ n)) (hG:Good L n) (hnd:L.Nodup) (x:Nat) (hx:x < 2 ^ n):
 Calls Tryz.prog 60 #[.pointer (some ⟨bb,0,none⟩),.int .i64 n,.int .i64 x] w (FromP w b n room L F f n 0 (leafE f n (W.testBit x))):=by
 have FIN:Hid (∀w',Mod [] w w'→FromP w b n room L F f n 0 (leafE f n (W.testBit x)) (.returned (.tuple #[edv (if W.testBit x then oneE f n else ⟨0,0⟩),.int .u8 0])) w'):=fun w' m=>by
  have hl:=lead_leaf (L:=L) (f:=f) (n:=n) (W.testBit x)
  exact ⟨_,[],F,rfl,by rw [List.append_nil];exact hS.mod m (by simp),m.mono (by simp),fun k hk=>.inl hk,by rw [List.append_nil];exact hG,by rw [List.append_nil];exact hnd,by rw [List.append_nil];exact hl.1,by rw [List.append_nil];exact hl.2,by simp⟩
 have VA:Hid (∀W',Mod [] w W'→Calls Tryz.prog 59 #[.pointer (some ⟨b,0,none⟩)] W' fun e w'=>e=.returned (.int .i64 n)∧w'=W'):=fun W' m=>by
  obtain ⟨ba,bi,Fa,c0,_⟩:=(hS.mod m (by simp)).own
  exact stVars_c b n W' c0
 have HA:Hid (∀W',Mod [] w W'→Calls Tryz.prog 87 #[.agg #[.int .i64 n,.slice (some ⟨g,0,none⟩) 1 cap],.int .i64 x] W' fun e w'=>e=.returned (.bool (W.testBit x))∧Mod [] W' w'):=fun W' m=>setHas_c n W g cap x hn hW hx W' (hB.mod m (by simp)).word
 have ON:Hid (∀W',Calls Tryz.prog 88 #[.int .u8 f,.int .i64 n] W' fun e' w'=>e'=.returned (edv (oneE f n))∧Mod [] W' w'):=fun W'=>one_c f h1 h5 n (by omega) W'
 have hbb:=hB.bb
 have hbl:=hbb.lt
 clear hW hx hS hB hG hnd hd
 generalize W.testBit x=tb at *
 obtain ⟨gk,hgk⟩:∃gk,w.heap.size=gk:=⟨_,rfl⟩
 have hbk:bb < gk:=by omega
 have hne:¬bb=gk:=by omega
 have hne2:¬gk=bb:=by omega
 have HBB:=Lib.hid hbb
 obtain ⟨k0,k1,k2,k3,k4⟩:=hbb.cells5
 clear hbb
 go_enter Tryz.func60,Tryz.ntmps60
 go_wp2_with fail
 refine (VA.out _ (by exact mods)).mono ?_
 rintro e w1 ⟨rfl,rfl⟩
 go_wp2_with fail
 refine (HA.out _ (by exact mods)).mono ?_
 rintro e w2 ⟨rfl,m2⟩
 have M2:=Lib.hid (Mod.trans' (show Mod [] w _ from by exact mods) m2)
 have BR:=(Blk.new' w _ _ gk hgk.symm).mod m2 (by simp)
 obtain ⟨k0,k1,k2,k3,k4⟩:=(HBB.out.mod M2.out (by simp)).cells5
 have BRH:=Lib.hid BR
 cases tb with
 | true=>
  simp only [if_true] at FIN
  generalize oneE f n=oe at *
  obtain ⟨ot,oa⟩:=oe
  unfold edv at ON FIN
  simp only at ON FIN
  clear m2 VA HA BR
  go_wp2_with fail
  refine (ON.out _).mono ?_
  rintro e w3 ⟨rfl,m3⟩
  have M3:=Lib.hid (Mod.trans' M2.out m3)
  have BR:=BRH.out.mod m3 (by simp)
  obtain ⟨e0,e1⟩:=BR.cells2
  obtain ⟨f0,f1,-⟩:=BR.frozs
  have BR:=Lib.hid BR
  clear m3 ON k0 k1 k2 k3 k4
  go_wp2_with fail
  have BX:=set2_blk BR.out ⟨ot,oa⟩
  obtain ⟨g0,g1⟩:=BX.cells2
  have MX:=Lib.hid (set2_mod M3.out gk ⟨ot,oa⟩ (by omega))
  change bodyPost _ _ _ _ _ (set2 w3 gk ⟨ot,oa⟩)
  generalize set2 w3 gk ⟨ot,oa⟩=X at *
  clear e0 e1 f0 f1 BX
  simp only at g0 g1
  refine bodyPost_ret (by simp [results,Tryz.results60,g0,g1,go_sem];try rfl) rfl ?_
  exact FIN.out _ MX.out
 | false=>
  simp only [Bool.false_eq_true,if_false] at FIN
  unfold edv at FIN
  simp only at FIN
  obtain ⟨e0,e1⟩:=BR.cells2
  obtain ⟨f0,f1,-⟩:=BR.frozs
  clear m2 VA HA BR ON k0 k1 k2 k3 k4
  go_wp2_with fail
  have BX:=set2_blk BRH.out ⟨0,0⟩
  obtain ⟨g0,g1⟩:=BX.cells2
  have MX:=Lib.hid (set2_mod M2.out gk ⟨0,0⟩ (by omega))
  change bodyPost _ _ _ _ _ (set2 w2 gk ⟨0,0⟩)
  generalize set2 w2 gk ⟨0,0⟩=X at *
  clear e0 e1 f0 f1 BX
  simp only at g0 g1
  refine bodyPost_ret (by simp [results,Tryz.results60,g0,g1,go_sem];try rfl) rfl ?_
  exact FIN.out _ MX.out
open Go.RowKit
theorem cloneInts_c {w:World} {v:Value} {xs:List Value} {F:List Nat} (h:Rv w v xs F) (h1:∀u∈xs,u.oneCell'=true) (hl:xs.length≤100000):
 Calls Tryz.prog 82 #[v] w fun e w'=>∃v',e=.returned v'∧NewV 3 w xs w' v':=by
 obtain ⟨A,cap,rfl,hc⟩:=h.shape
 obtain ⟨i0,hi,hz0,hz1,hz2⟩:=info_parts Tryz.info3
 have H:=Lib.hid h
 have H1:=Lib.hid h1
 clear h h1
 generalize hn:xs.length=n at *
 have HN:=Lib.hid hn
 clear hn
 have heq:=fun (w:World) (a:Option Addr) (n c:Nat)=>Go.Lib.run_eql_slice_nil (P:=Tryz.prog) w 28 3 a n c 0 0 Tryz.underlying28
 cases A with
 | none=>
  have h0:Hid (xs=[]):=by
   have h1:=H.out.src
   rcases Nat.eq_zero_or_pos n with e | e
   ·exact List.eq_nil_of_length_eq_zero (by rw [HN.out,e])
   ·obtain ⟨a,e,_⟩:=h1 e;simp at e
  go_enter Tryz.func82,Tryz.ntmps82
  go_wp2_with fail
  go_ret
  refine ⟨_,rfl,?_⟩
  rw [h0.out];exact NewV.nil 3 (Mod.refl _ _)
 | some a=>
  go_enter Tryz.func82,Tryz.ntmps82
  go_wp2_with (at_builtin;refine wpList_append_slz _ rfl _ _ 28 rfl 3 i0 (.int .i64 0) 1 8 Tryz.underlying28 hi hz0 hz1 hz2 rfl (by decide) _ 0 [] [w.heap.size] rfl (Sl.lit w 3 1 0 #[] (by unfold maxLen;omega) rfl) (some a) n cap xs rfl (by rw [HN.out];omega) (H.out.mod (S:=[]) (by exact mods) (by simp)).src H1.out (by unfold maxLen;omega) (by omega) ?_;intro v' w1 F' hs1 hm1 hf1)
  go_ret
  exact ⟨_,rfl,NewV.of_empty hs1 HN.out hm1 hf1⟩
structure Perm (p:List Nat) (n:Nat):Prop where
 len:p.length=n
 lt:∀v∈p,v < n
 nd:p.Nodup
def maskL:List Nat→Nat
 | []=>0
 | x::l=>maskL l ||| 2 ^ x
theorem maskL_bit (l:List Nat) (i:Nat):(maskL l).testBit i=decide (i∈l):=by
 induction l with
 | nil=>simp [maskL]
 | cons x l ih=>
  rw [maskL,Nat.testBit_or,ih,Nat.testBit_two_pow]
  by_cases h:x=i
  ·subst h;simp
  ·have h':¬i=x:=fun e=>h e.symm
   simp [h,h']
theorem maskL_lt {l:List Nat} {n:Nat} (h:∀v∈l,v < n):maskL l < 2 ^ n:=by
 induction l with
 | nil=>exact Nat.two_pow_pos n
 | cons x l ih=>
  rw [maskL]
  exact Nat.or_lt_two_pow (ih fun v hv=>h v (by simp [hv])) (Nat.pow_lt_pow_right (by omega) (h x (by simp)))
theorem bit_one_i (m:Nat) (hm:m < 9223372036854775808):bits .and .i64 (m:Int) 1=((m % 2:Nat):Int):=by
 have e:(BitVec.ofInt 64 (m:Int) &&& BitVec.ofInt 64 1).toNat=m % 2:=by
  have e1:BitVec.ofInt 64 (m:Int)=BitVec.ofNat 64 m:=BitVec.ofInt_natCast ..
  have e2:BitVec.ofInt 64 1=BitVec.ofNat 64 1:=rfl
  rw [e1,e2,BitVec.toNat_and,BitVec.toNat_ofNat,BitVec.toNat_ofNat,Nat.mod_eq_of_lt (by omega)]
  exact Nat.and_one_is_mod m
 show IntKind.i64.wrap ((BitVec.ofInt 64 (m:Int) &&& BitVec.ofInt 64 1).toNat:Int)=_
 rw [e,IntWalk.i64_in _ (by omega)]
theorem bit_at_i (W x:Nat) (hW:W < 9223372036854775808):(bits .and .i64 ((W:Int) / 2 ^ x) 1==1)=W.testBit x:=by
 have e1:(W:Int) / 2 ^ x=((W / 2 ^ x:Nat):Int):=by
  rw [Int.natCast_ediv];simp
 rw [e1,bit_one_i _ (Nat.lt_of_le_of_lt (Nat.div_le_self _ _) hW)]
 have h:W.testBit x=decide (W / 2 ^ x % 2=1):=by
  rw [Nat.testBit_eq_decide_div_mod_eq]
 rw [h]
 by_cases q:W / 2 ^ x % 2=1
 ·rw [q];simp
 ·have:W / 2 ^ x % 2=0:=by omega
  rw [this];simp
theorem permRight_c {w:World} {v:Value} {p:List Nat} {n:Nat} {F:List Nat} (h:Rv w v (p.map ei) F) (hp:Perm p n) (hn:n≤16):
 Calls Tryz.prog 114 #[v] w fun e w'=>e=.returned (.bool true)∧w'=w:=by
 obtain ⟨A,cap,rfl,hc⟩:=h.shape
 have H:=Lib.hid h
 have HP:=Lib.hid hp
 simp only [List.length_map] at H hc ⊢
 rw [hp.len] at H hc ⊢
 clear h hp
 have hn':(n:Int)≤16:=by omega
 go_enter Tryz.func114,Tryz.ntmps114
 go_wp2_with fail
 go_loop [11,3] (fun i s=>∃k:Nat,k≤n∧i=.int .i64 k∧s=.int .i64 (maskL ((p.take k).reverse):Nat)) (fun i _=>n - (intOf i).toNat)
 case atStart=>exact ⟨0,by omega,rfl,rfl⟩
 case round=>
  obtain ⟨k,hk,rfl,rfl⟩:=hrel
  by_cases hlt:k < n
  ·have hlt':(k:Int) < n:=by omega
   have hk1:k < p.length:=by rw [HP.out.len];exact hlt
   obtain ⟨b1,o1,rfl,d1⟩:=H.out.at k (by rw [List.length_map];exact hk1)
   rw [List.getElem_map] at d1
   have hxn:p[k] < n:=HP.out.lt _ (List.getElem_mem _)
   have hml:maskL ((p.take k).reverse) < 2 ^ n:=maskL_lt (fun v hv=>HP.out.lt v (List.mem_of_mem_take (List.mem_reverse.1 hv)))
   have h16:2 ^ n≤65536:=by have:=Nat.pow_le_pow_right (n:=2) (by omega) hn;simpa using this
   have TA:Hid (maskL ((p.take (k+1)).reverse)=maskL ((p.take k).reverse) ||| 2 ^ p[k]):=by
    show _=_
    rw [List.take_succ_eq_append_getElem hk1,List.reverse_append];rfl
   have NB:(maskL ((p.take k).reverse)).testBit p[k]=false:=by
    rw [maskL_bit,decide_eq_false_iff_not]
    intro hm
    have hm:=List.mem_reverse.1 hm
    have hnd:=HP.out.nd
    rw [←List.take_append_drop k p,List.nodup_append] at hnd
    have hd:p[k]∈p.drop k:=List.mem_iff_getElem?.2 ⟨0,by rw [List.getElem?_drop];exact List.getElem?_eq_getElem hk1⟩
    exact hnd.2.2 _ hm _ hd rfl
   have BA:Hid ((bits .and .i64 ((maskL ((p.take k).reverse):Int) / 2 ^ p[k]) 1==1)=false):=by
    show _=_
    rw [bit_at_i _ _ (by omega)];exact NB
   have OR:=Lib.hid (or_pow' (x:=maskL ((p.take k).reverse)) (v:=p[k]) (by omega) (by omega))
   unfold ei at d1
   have hm32:(maskL ((p.take k).reverse):Int)≤65536:=by omega
   generalize p[k]=x at *
   generalize maskL ((p.take k).reverse)=s at *
   have hx0:(0:Int)≤x:=by omega
   have hx1:(x:Int) < n:=by omega
   have BA2:=BA.out
   clear hml h16 NB hk1
   go_wp2_with fail
   exact ⟨⟨k+1,by omega,by go_num,by rw [TA.out,OR.out]⟩,by simp [intOf];omega⟩
  ·obtain rfl:k=n:=by omega
   go_wp2_with fail
   go_ret
   exact ⟨rfl,rfl⟩
structure Inv (p q:List Nat):Prop where
 len:q.length=p.length
 at_:∀i,(h:i < p.length)→q[p[i]]? =some i
theorem inverse_c {w:World} {v:Value} {p:List Nat} {n:Nat} {F:List Nat} (h:Rv w v (p.map ei) F) (hp:Perm p n) (hn:n≤16):
 Calls Tryz.prog 81 #[v] w fun e w'=>∃v' q,e=.returned (.tuple #[v',.bool true])∧NewV 3 w (q.map ei) w' v'∧Inv p q:=by
 obtain ⟨A,cap,rfl,hc⟩:=h.shape
 have RT:=Lib.hid (permRight_c h hp hn)
 have H:=Lib.hid h
 have HP:=Lib.hid hp
 simp only [List.length_map] at H hc RT ⊢
 rw [hp.len] at H hc RT ⊢
 clear h hp
 have hn':(n:Int)≤16:=by omega
 have hmk:=fun w=>madeInts w n (by omega)
 obtain ⟨g,hg⟩:∃g,w.heap.size=g:=⟨_,rfl⟩
 go_enter Tryz.func81,Tryz.ntmps81
 go_wp2_with fail
 refine RT.out.mono ?_
 rintro e w' ⟨rfl,rfl⟩
 go_wp2_with fail
 have HG:=Lib.hid hg
 have S0:=Lib.hid (Sl.made1 w' 3 n (.int .i64 0) (by unfold maxLen;omega) g hg.symm)
 have M0:Hid (Mod [] w' (w'.alloc (.cells (madeCells #[.int .i64 0] n) 3))):=(Mod.refl _ _).alloc _
 clear hmk RT hg
 generalize w'.alloc (.cells (madeCells #[.int .i64 0] n) 3)=w0 at *
 go_loopw [15] (fun i wr=>∃k:Nat,∃xs:List Nat,k≤n∧i=.int .i64 k∧Hid (xs.length=n)∧Hid (∀j,(h:j < p.length)→j < k→xs[p[j]]? =some j)∧Hid (Sl wr 3 1 (.slice (some ⟨g,0,none⟩) n n) n (xs.map ei) [g])∧Hid (Mod [] w' wr)) (fun i _=>n - (intOf i).toNat)
 case atStart=>exact ⟨0,List.replicate n 0,by omega,rfl,by show _=_;simp,by intro j h hj;omega,by show Sl _ _ _ _ _ _ _;simpa [ei] using S0.out,M0⟩
 case round=>
  obtain ⟨k,xs,hk,rfl,HXL,HXS,HS,HM⟩:=hrel
  clear S0 M0
  by_cases hlt:k < n
  ·have hlt':(k:Int) < n:=by omega
   have hk1:k < p.length:=by rw [HP.out.len];exact hlt
   obtain ⟨b1,o1,rfl,d1⟩:=(H.out.mod HM.out (by simp)).at k (by rw [List.length_map];exact hk1)
   rw [List.getElem_map] at d1
   obtain ⟨x,hx⟩:∃x,p[k]=x:=⟨_,rfl⟩
   have hxn:x < n:=by rw [←hx];exact HP.out.lt _ (List.getElem_mem _)
   have HX:=Lib.hid hx
   rw [hx] at d1
   unfold ei at d1
   have hx0:(0:Int)≤x:=by omega
   have hx1:(x:Int) < n:=by omega
   obtain ⟨e1,e2,-⟩:=HS.out.at x (by omega)
   rw [List.getElem?_map,List.getElem?_eq_getElem (by rw [HXL.out];exact hxn)] at e1
   simp only [Option.map_some,ei] at e1
   have hbl:=World.block_lt_of_cell? wr _ d1
   clear hx
   go_wp2_with fail
   go_roundw
   case rel=>
    refine ⟨k+1,xs.set x k,by omega,by go_num,by show _=_;rw [List.length_set];exact HXL.out,?_,?_,?_⟩
    ·intro j hj hjk
     rw [List.getElem?_set]
     by_cases q:x=p[j]
     ·rw [if_pos q,if_pos (by rw [HXL.out];exact hxn)]
      have:k=j:=(List.getElem_inj (h₀:=hk1) (h₁:=hj) HP.out.nd).1 (HX.out.trans q)
      rw [this]
     ·rw [if_neg q]
      refine HXS.out j hj ?_
      rcases Nat.lt_or_ge j k with h | h
      ·exact h
      ·obtain rfl:j=k:=by omega
       exact absurd HX.out.symm q
    ·have:=HS.out.set x (ei k)
     show Sl _ _ _ _ _ _ _
     rw [List.map_set];exact this
    ·exact HM.out.setCell _ _ (by have:=HG.out;simp;omega)
   case measure=>simp [intOf];omega
  ·obtain rfl:k=n:=by omega
   go_wp2_with fail
   go_ret2
   refine ⟨_,xs,rfl,⟨[g],?_,HM.out,by intro q hq;simp at hq;subst hq;rw [HG.out];omega⟩,by rw [HXL.out,HP.out.len],fun i hi=>HXS.out i hi (by rw [←HP.out.len];exact hi)⟩
   rw [List.length_map,HXL.out]
   exact HS.out
def OrdP (w:World) (p:List Nat) (e:Ending) (w':World):Prop:=∃b q F,e=.returned (.tuple #[.pointer (some ⟨b,0,none⟩),.int .u8 0])∧IsOrd w' b p q F∧Inv p q∧Mod [] w w'∧∀k∈F,w.heap.size≤k
theorem orderOf_c {w:World} {v:Value} {p:List Nat} {n:Nat} {F:List Nat} (h:Rv w v (p.map ei) F) (hp:Perm p n) (hn:n≤16):
 Calls Tryz.prog 51 #[v] w (OrdP w p):=by
 have IN:=Lib.hid (inverse_c h hp hn)
 have CL:Hid (∀W,Mod [] w W→_):=fun W m=>cloneInts_c (h.mod m (by simp)) (ei_one p) (by rw [List.length_map,hp.len];omega)
 have HP:=Lib.hid hp
 clear h hp
 go_enter Tryz.func51,Tryz.ntmps51
 go_wp2_with fail
 refine IN.out.mono ?_
 rintro e w1 ⟨v1,q,rfl,n1,inv⟩
 obtain ⟨A1,cap1,rfl⟩:=n1.shape
 have N1:=Lib.hid n1
 have I1:=Lib.hid inv
 clear n1 inv IN
 go_wp2_with fail
 refine (CL.out _ (N1.out.mod.trans' (show Mod [] w1 _ from by exact mods))).mono ?_
 rintro e w2 ⟨v2,rfl,n2⟩
 obtain ⟨A2,cap2,rfl⟩:=n2.shape
 have N2:=Lib.hid n2
 clear n2 CL
 go_wp2_with fail
 obtain ⟨Fq,sq,mq,fq⟩:=N1.out
 obtain ⟨Fp,sp,mp,fp⟩:=N2.out
 have m12:Mod [] w1 w2:=mp
 have hA:∀k∈Fq,k < w1.heap.size:=fun k hk=>sq.lt k hk
 have hs:=mp.size
 go_ret2
 refine ⟨w2.heap.size,q,w2.heap.size::(Fp++Fq),rfl,⟨_,_,Fp,Fq,Blk.new _ _ _,?_,?_,rfl,?_,?_⟩,I1.out,?_,?_⟩
 ·simp only [List.length_map] at sp ⊢
  exact sp.mod ((Mod.refl [] w2).alloc _) (by simp)
 ·simp only [List.length_map] at sq ⊢
  exact (sq.mod m12 (by simp)).mod ((Mod.refl [] w2).alloc _) (by simp)
 ·intro h;have:=sp.lt _ h;omega
 ·intro h;have:=hA _ h;omega
 ·exact (mq.trans' m12).alloc _
 ·intro k hk
  have h1:=mq.size
  simp at hk
  rcases hk with rfl | hk | hk
  ·omega
  ·have:=fp k hk;omega
  ·exact fq k hk
def GeT (l:Nat):Tr→Prop
 | .leaf _=>True
 | .node t b _ _ _ _=>l≤t∧t≤b
theorem GeT.le {l m:Nat} {T:Tr} (h:GeT m T) (hl:l≤m):GeT l T:=by
 cases T with
 | leaf b=>trivial
 | node t b tl x th y=>exact ⟨Nat.le_trans hl h.1,h.2⟩
def VE (f l:Nat) (x:Nat × Tr):Prop:=
 if f=5 then x=(0,.leaf false)∨(x.2≠ .leaf false∧l≤x.1∧GeT x.1 x.2) else x.1=0∧GeT l x.2
def vw (f l:Nat) (x:Nat × Tr):(Nat × Tr) × (Nat × Tr):=
 if f=5∧¬x.1=l∨x.2=.leaf false then (x,x) else
 match x.2 with
 | .leaf b=>if f=5 then ((l+1,.leaf b),(0,.leaf false)) else if f=2∨f=4 then (x,(0,.leaf false)) else (x,x)
 | .node t b tl u th v=>
  if t=l then (if b=l then ((tl,u),(th,v)) else if f=3 then ((0,.node (l+1) b tl u th v),(th,v)) else ((0,.node (l+1) b tl u th v),(0,.node (l+1) b tl u th v)))
  else if f=5 then ((l+1,x.2),(0,.leaf false)) else if f=2∨f=4 then (x,(0,.leaf false)) else (x,x)
theorem nodeE_form (f l:Nat) (x y:Nat × Tr):(∃t b tl u th v,x.2=.node t b tl u th v∧f=3∧t=l+1∧(th,v)=y∧nodeE f l x y=.node l b tl u y.1 y.2)∨
 (∃t b tl u th v,x.2=.node t b tl u th v∧f=4∧x=y∧t=l+1∧nodeE f l x y=.node l b tl u th v)∨nodeE f l x y=.node l l x.1 x.2 y.1 y.2:=by
 unfold nodeE
 cases hx:x.2 with
 | leaf b=>exact .inr (.inr rfl)
 | node t b tl u th v=>
  simp only
  split
  ·rename_i h;exact .inl ⟨t,b,tl,u,th,v,rfl,h.1,h.2.1,h.2.2,rfl⟩
  ·split
   ·rename_i h;exact .inr (.inl ⟨t,b,tl,u,th,v,rfl,h.1,h.2.1,h.2.2,rfl⟩)
   ·exact .inr (.inr rfl)
theorem VE.mk {f l:Nat} {x y:Nat × Tr} (hx:VE f (l+1) x) (hy:VE f (l+1) y):VE f l (mkE f l x y):=by
 by_cases h5:f=5
 ·subst h5
  unfold VE at hx hy ⊢
  simp only [if_true] at hx hy ⊢
  unfold mkE
  simp only [show ¬((5:Nat)=2∨(5:Nat)=4) by omega,if_false,true_and,if_true]
  by_cases hxy:x=y
  ·rw [if_pos hxy]
   rcases hx with h | h
   ·exact .inl h
   ·exact .inr ⟨h.1,by omega,h.2.2⟩
  ·rw [if_neg hxy]
   by_cases hz:y.2=.leaf false∧x.1=l+1
   ·rw [if_pos hz]
    rcases hx with h | h
    ·rw [h] at hz;simp at hz
    ·exact .inr ⟨h.1,Nat.le_refl _,h.2.2.le (by simp;omega)⟩
   ·rw [if_neg hz]
    rcases nodeE_form 5 l x y with ⟨_,_,_,_,_,_,_,h,_⟩ | ⟨_,_,_,_,_,_,_,h,_⟩ | h
    ·omega
    ·omega
    ·refine .inr ⟨by rw [h];simp,Nat.le_refl _,?_⟩
     rw [h];exact ⟨Nat.le_refl _,Nat.le_refl _⟩
 ·unfold VE at hx hy ⊢
  simp only [h5,if_false] at hx hy ⊢
  unfold mkE
  simp only [h5,false_and,if_false]
  have hn:(0:Nat)=0∧GeT l (nodeE f l x y):=by
   refine ⟨rfl,?_⟩
   rcases nodeE_form f l x y with ⟨t,b,tl,u,th,v,h1,_,h2,_,h⟩ | ⟨t,b,tl,u,th,v,h1,_,_,h2,h⟩ | h
   ·rw [h]
    have:=hx.2
    rw [h1] at this
    exact ⟨Nat.le_refl _,Nat.le_trans (by have:=this.1;omega) this.2⟩
   ·rw [h]
    have:=hx.2
    rw [h1] at this
    exact ⟨Nat.le_refl _,Nat.le_trans (by have:=this.1;omega) this.2⟩
   ·rw [h];exact ⟨Nat.le_refl _,Nat.le_refl _⟩
  have hxl:x.1=0∧GeT l x.2:=⟨hx.1,hx.2.le (by omega)⟩
  split
  ·split
   ·exact hxl
   ·exact hn
  ·split
   ·exact hxl
   ·exact hn
theorem vw_mk {f l:Nat} {x y:Nat × Tr} (h1:1≤f) (h5':f≤5) (hx:VE f (l+1) x) (hy:VE f (l+1) y):vw f l (mkE f l x y)=(x,y):=by
 by_cases h5:f=5
 ·subst h5
  unfold VE at hx hy
  simp only [if_true] at hx hy
  unfold mkE
  simp only [show ¬((5:Nat)=2∨(5:Nat)=4) by omega,if_false,true_and,if_true]
  by_cases hxy:x=y
  ·subst hxy
   rw [if_pos rfl]
   unfold vw
   rw [if_pos]
   rcases hx with h | h
   ·right;rw [h]
   ·left;exact ⟨rfl,by omega⟩
  ·rw [if_neg hxy]
   by_cases hz:y.2=.leaf false∧x.1=l+1
   ·rw [if_pos hz]
    have hy':y=(0,.leaf false):=by
     rcases hy with h | h
     ·exact h
     ·exact absurd hz.1 h.1
    rcases hx with h | h
    ·rw [h] at hz;simp at hz
    ·unfold vw
     rw [if_neg (by simp;exact h.1)]
     obtain ⟨xt,xT⟩:=x
     simp only at hz h ⊢
     cases xT with
     | leaf b=>simp [hz.2,hy']
     | node t b tl u th v=>
      have:=h.2.2.1
      simp only
      rw [if_neg (by omega)]
      simp [hz.2,hy']
   ·rw [if_neg hz]
    rcases nodeE_form 5 l x y with ⟨_,_,_,_,_,_,_,h,_⟩ | ⟨_,_,_,_,_,_,_,h,_⟩ | h
    ·omega
    ·omega
    ·rw [h]
     unfold vw
     rw [if_neg (by simp)]
     simp
 ·unfold VE at hx hy
  simp only [h5,if_false] at hx hy
  have hns:∀T,¬T=Tr.leaf false→¬(f=5∧¬(0,T).1=l∨(0,T).2=Tr.leaf false):=fun T h=>by simp [h5,h]
  have hn:(hm:(f=2∨f=4)→¬y.2=.leaf false)→vw f l (0,nodeE f l x y)=(x,y):=by
   intro hm
   rcases nodeE_form f l x y with ⟨t,b,tl,u,th,v,e1,e0,e2,e3,h⟩ | ⟨t,b,tl,u,th,v,e1,e0,e3,e2,h⟩ | h
   ·rw [h]
    unfold vw
    rw [if_neg (by simp [h5])]
    have:=hx.2
    rw [e1] at this
    have hb:¬b=l:=by have h7:=this.1;have h8:=this.2;omega
    simp only [if_true,if_neg hb,if_pos e0]
    obtain ⟨xt,xT⟩:=x
    simp only at e1 hx
    subst e1 e2
    rw [←e3]
    simp [hx.1]
   ·rw [h]
    unfold vw
    rw [if_neg (by simp [h5])]
    have:=hx.2
    rw [e1] at this
    have hb:¬b=l:=by have h7:=this.1;have h8:=this.2;omega
    simp only [if_true,if_neg hb,if_neg (show ¬f=3 by omega)]
    rw [←e3]
    obtain ⟨xt,xT⟩:=x
    simp only at e1 hx
    subst e1 e2
    simp [hx.1]
   ·rw [h]
    unfold vw
    rw [if_neg (by simp [h5])]
    simp
  have hxx:∀z,z=(if f=2∨f=4 then ((0,.leaf false):Nat × Tr) else x)→vw f l x=(x,z):=by
   rintro z rfl
   unfold vw
   obtain ⟨xt,xT⟩:=x
   simp only at hx
   cases xT with
   | leaf b=>
    cases b with
    | false=>simp [hx.1]
    | true=>simp [h5];split<;>rfl
   | node t b tl u th v=>
    have:=hx.2.1
    rw [if_neg (by simp [h5])]
    simp only [if_neg (show ¬t=l by omega),h5,if_false]
    split<;>rfl
  unfold mkE
  simp only [h5,false_and,if_false]
  split
  ·rename_i h24
   split
   ·rename_i hz
    refine hxx _ ?_
    rw [if_pos h24]
    exact Prod.ext hy.1 hz
   ·rename_i hz
    exact hn fun _=>hz
  ·rename_i h24
   split
   ·rename_i hxy
    refine hxx _ ?_
    rw [if_neg h24,hxy]
   ·exact hn fun h=>absurd h h24
theorem leafE_VE (f n:Nat) (b:Bool):VE f n (leafE f n b):=by
 unfold VE leafE
 by_cases h5:f=5
 ·cases b<;>simp [h5,GeT]
 ·simp [h5,GeT]
theorem build_VE (f n:Nat):∀(k l:Nat) (t:List Bool),l+k=n→VE f l (buildE f n k l t):=by
 intro k
 induction k with
 | zero=>intro l t h;simp at h;subst h;exact leafE_VE _ _ _
 | succ k ih=>intro l t h;exact VE.mk (ih _ _ (by omega)) (ih _ _ (by omega))
theorem build_vw {f n:Nat} (h1:1≤f) (h5:f≤5) (k l:Nat) (t:List Bool) (h:l+(k+1)=n):vw f l (buildE f n (k+1) l t)=(buildE f n k (l+1) (t.take (2 ^ k)),buildE f n k (l+1) (t.drop (2 ^ k))):=
 vw_mk h1 h5 (build_VE _ _ _ _ _ (by omega)) (build_VE _ _ _ _ _ (by omega))
theorem build_inj {f n:Nat} (h1:1≤f) (h5:f≤5):∀(k l:Nat) (t u:List Bool),l+k=n→t.length=2 ^ k→u.length=2 ^ k→buildE f n k l t=buildE f n k l u→t=u:=by
 intro k
 induction k with
 | zero=>
  intro l t u h ht hu e
  obtain ⟨a,rfl⟩:=List.length_eq_one_iff.1 ht
  obtain ⟨b,rfl⟩:=List.length_eq_one_iff.1 hu
  have:=congrArg Prod.snd e
  simp [buildE,leafE] at this
  rw [this]
 | succ k ih=>
  intro l t u h ht hu e
  have e2:=congrArg (vw f l) e
  rw [build_vw h1 h5 k l t h,build_vw h1 h5 k l u h] at e2
  have e3:=ih (l+1) _ _ (by omega) (by rw [List.length_take,ht,Nat.pow_succ];omega) (by rw [List.length_take,hu,Nat.pow_succ];omega) (congrArg Prod.fst e2)
  have e4:=ih (l+1) _ _ (by omega) (by rw [List.length_drop,ht,Nat.pow_succ];omega) (by rw [List.length_drop,hu,Nat.pow_succ];omega) (congrArg Prod.snd e2)
  rw [←List.take_append_drop (2 ^ k) t,e3,e4,List.take_append_drop]
theorem VE.zero {f l:Nat} {x:Nat × Tr} (h:VE f l x) (hz:x.2=.leaf false):x=(0,.leaf false):=by
 unfold VE at h
 split at h
 ·rcases h with h | h
  ·exact h
  ·exact absurd hz h.1
 ·exact Prod.ext h.1 hz
theorem build_none {f n:Nat}:∀(k l:Nat) (t:List Bool),true∉t→buildE f n k l t=(0,.leaf false):=by
 intro k
 induction k with
 | zero=>
  intro l t h
  have:t.headD false=false:=by
   cases t with
   | nil=>rfl
   | cons a t=>simp at h ⊢;exact h.1
  rw [buildE,leafE,this]
  simp
 | succ k ih=>
  intro l t h
  rw [buildE,ih _ _ (fun hm=>h (List.mem_of_mem_take hm)),ih _ _ (fun hm=>h (List.mem_of_mem_drop hm))]
  unfold mkE
  simp
theorem build_zero {f n:Nat} (h1:1≤f) (h5:f≤5) (k l:Nat) (t:List Bool) (h:l+k=n) (ht:t.length=2 ^ k):(buildE f n k l t).2=.leaf false↔true∉t:=by
 constructor
 ·intro e
  have e2:=(build_VE f n k l t h).zero e
  have e3:=build_none (f:=f) (n:=n) k l (List.replicate (2 ^ k) false) (by simp)
  rw [build_inj h1 h5 k l t _ h ht (by simp) (e2.trans e3.symm)]
  simp
 ·intro e;rw [build_none k l t e]
def swapL (p:List Nat) (i:Nat):List Nat:=(p.set i (p.getD (i+1) 0)).set (i+1) (p.getD i 0)
theorem swapL_len (p:List Nat) (i:Nat):(swapL p i).length=p.length:=by simp [swapL]
open Go.RowKit
def sg (k a:Nat):Nat:=if a=k then k+1 else if a=k+1 then k else a
theorem sg_inj {k a b:Nat} (h:sg k a=sg k b):a=b:=by
 unfold sg at h
 repeat' split at h
 all_goals omega
theorem swapL_get {p:List Nat} {k:Nat} (h:k+1 < p.length) (a:Nat):(swapL p k)[a]? =p[sg k a]? :=by
 unfold swapL sg
 simp only [List.getD_eq_getElem?_getD]
 by_cases h1:a=k
 ·subst h1
  rw [if_pos rfl,List.getElem?_set_ne (by omega),List.getElem?_set_self (by omega),List.getElem?_eq_getElem h];rfl
 ·rw [if_neg h1]
  by_cases h2:a=k+1
  ·subst h2
   rw [if_pos rfl,List.getElem?_set_self (by simp;omega),List.getElem?_eq_getElem (by omega:k < p.length)];rfl
  ·rw [if_neg h2,List.getElem?_set_ne (by omega),List.getElem?_set_ne (by omega)]
theorem Perm.swap {p:List Nat} {n k:Nat} (h:Perm p n) (hk:k+1 < n):Perm (swapL p k) n:=by
 have hk':k+1 < p.length:=by rw [h.len];exact hk
 refine ⟨by rw [swapL_len,h.len],fun v hv=>?_,?_⟩
 ·obtain ⟨a,ha⟩:=List.mem_iff_getElem?.1 hv
  rw [swapL_get hk'] at ha
  exact h.lt v (List.mem_iff_getElem?.2 ⟨_,ha⟩)
 ·unfold List.Nodup
  rw [List.pairwise_iff_getElem]
  intro i j hi hj hij e
  have hi2:=swapL_get hk' i
  have hj2:=swapL_get hk' j
  rw [List.getElem?_eq_getElem hi] at hi2
  rw [List.getElem?_eq_getElem hj,←e,hi2] at hj2
  rw [swapL_len] at hi hj
  have si:sg k i < p.length:=by
   unfold sg;repeat' split
   all_goals omega
  have sj:sg k j < p.length:=by
   unfold sg;repeat' split
   all_goals omega
  rw [List.getElem?_eq_getElem si,List.getElem?_eq_getElem sj] at hj2
  have:=sg_inj ((List.getElem_inj (h₀:=si) (h₁:=sj) h.nd).1 (Option.some.inj hj2))
  omega
theorem sub_len {α:Type} [DecidableEq α]:∀(l m:List α),l.Nodup→(∀v∈l,v∈m)→l.length≤m.length
 | [],_,_,_=>by simp
 | x::l,m,hn,h=>by
  have hx:=h x (by simp)
  have hn2:=List.nodup_cons.1 hn
  have:=sub_len l (m.erase x) hn2.2 (fun v hv=>(List.mem_erase_of_ne (fun e=>hn2.1 (by rw [←e];exact hv))).2 (h v (by simp [hv])))
  rw [List.length_erase_of_mem hx] at this
  have:=List.length_pos_of_mem hx
  simp;omega
theorem Perm.mem {p:List Nat} {n x:Nat} (h:Perm p n) (hx:x < n):x∈p:=by
 by_cases hm:x∈p
 ·exact hm
 ·have:=sub_len (x::p) (List.range n) (List.nodup_cons.2 ⟨hm,h.nd⟩) (fun v hv=>by
   rcases List.mem_cons.1 hv with rfl | hv
   ·simpa using hx
   ·simpa using h.lt v hv)
  simp [h.len] at this
  omega
structure StpS (p q now l:List Nat) (n i:Nat):Prop where
 fold:now=l.foldl swapL p
 pm:Perm now n
 ok:∀s∈l,s+1 < n
 tk:now.take i=q.take i
 len:l.length≤i *n
structure StpI (p q now l:List Nat) (n i m:Nat):Prop where
 fold:now=l.foldl swapL p
 pm:Perm now n
 ok:∀s∈l,s+1 < n
 tk:now.take i=q.take i
 at_:now[m]? =q[i]?
 im:i≤m
 mn:m < n
 len:l.length+m≤i *n+n
theorem StpS.start {p q now l:List Nat} {n i m x:Nat} (h:StpS p q now l n i) (hq:Perm q n) (hi:i < n) (hx:q[i]? =some x) (hm:now[m]? =some x):StpI p q now l n i m:=by
 have hmn:m < n:=by rw [←h.pm.len];exact (List.getElem?_eq_some_iff.1 hm).1
 refine ⟨h.fold,h.pm,h.ok,h.tk,by rw [hm,hx],?_,hmn,by have:=h.len;omega⟩
 rcases Nat.lt_or_ge m i with hlt | hge
 ·exfalso
  have h1:(q.take i)[m]? =some x:=by rw [←h.tk,List.getElem?_take_of_lt hlt];exact hm
  rw [List.getElem?_take_of_lt hlt] at h1
  have hml:m < q.length:=by rw [hq.len];exact hmn
  have hil:i < q.length:=by rw [hq.len];exact hi
  rw [List.getElem?_eq_getElem hml] at h1
  rw [List.getElem?_eq_getElem hil] at hx
  have:=(List.getElem_inj (h₀:=hml) (h₁:=hil) hq.nd).1 (Option.some.inj (h1.trans hx.symm))
  omega
 ·exact hge
theorem StpI.step {p q now l:List Nat} {n i m:Nat} (h:StpI p q now l n i (m+1)) (hm:i≤m):StpI p q (swapL now m) (l++[m]) n i m:=by
 have hk:m+1 < now.length:=by rw [h.pm.len];exact h.mn
 refine ⟨by rw [List.foldl_append,←h.fold];rfl,h.pm.swap h.mn,?_,?_,?_,hm,by have:=h.mn;omega,by have:=h.len;simp;omega⟩
 ·intro s hs
  simp at hs
  rcases hs with hs | rfl
  ·exact h.ok s hs
  ·exact h.mn
 ·rw [←h.tk]
  apply List.ext_getElem?
  intro a
  rcases Nat.lt_or_ge a i with ha | ha
  ·rw [List.getElem?_take_of_lt ha,List.getElem?_take_of_lt ha,swapL_get hk]
   unfold sg
   rw [if_neg (by omega),if_neg (by omega)]
  ·rw [List.getElem?_take_eq_none ha,List.getElem?_take_eq_none ha]
 ·rw [←h.at_,swapL_get hk]
  unfold sg
  rw [if_pos rfl]
theorem StpI.stop {p q now l:List Nat} {n i:Nat} (h:StpI p q now l n i i) (hq:Perm q n):StpS p q now l n (i+1):=by
 have h1:i < now.length:=by rw [h.pm.len];exact h.mn
 have h2:i < q.length:=by rw [hq.len];exact h.mn
 refine ⟨h.fold,h.pm,h.ok,?_,by have:=h.len;rw [Nat.succ_mul];omega⟩
 rw [List.take_succ_eq_append_getElem h1,List.take_succ_eq_append_getElem h2,h.tk]
 have:=h.at_
 rw [List.getElem?_eq_getElem h1,List.getElem?_eq_getElem h2] at this
 rw [Option.some.inj this]
structure StpD (p q l:List Nat) (n:Nat):Prop where
 fold:l.foldl swapL p=q
 ok:∀s∈l,s+1 < n
 len:l.length≤n *n
theorem StpS.done {p q now l:List Nat} {n:Nat} (h:StpS p q now l n n) (hq:Perm q n):StpD p q l n:=by
 refine ⟨?_,h.ok,h.len⟩
 have:=h.tk
 rw [List.take_of_length_le (by rw [h.pm.len];exact Nat.le_refl _),List.take_of_length_le (by rw [hq.len];exact Nat.le_refl _)] at this
 rw [←h.fold];exact this
open Go.RowKit
def IsOrdD (w:World) (b:Nat) (p q:List Nat) (F:List Nat):Prop:=
 ∃vp vq Fp Fq,Blk w b #[vp,vq] 173∧Sl w 3 1 vp p.length (p.map ei) Fp∧Sl w 3 1 vq q.length (q.map ei) Fq∧F=b::(Fp++Fq)∧b∉Fp∧b∉Fq∧(∀k∈Fp,k∉Fq)
theorem IsOrdD.ord {w:World} {b:Nat} {p q F:List Nat} (h:IsOrdD w b p q F):IsOrd w b p q F:=by
 obtain ⟨vp,vq,Fp,Fq,h1,h2,h3,h4,h5,h6,-⟩:=h
 exact ⟨vp,vq,Fp,Fq,h1,h2,h3,h4,h5,h6⟩
theorem IsOrdD.mod {S:List Nat} {w w':World} {b:Nat} {p q:List Nat} {F:List Nat} (h:IsOrdD w b p q F) (m:Mod S w w') (hd:∀k∈F,k∉S):IsOrdD w' b p q F:=by
 obtain ⟨vp,vq,Fp,Fq,h1,h2,h3,rfl,r⟩:=h
 exact ⟨vp,vq,Fp,Fq,h1.mod m (hd b (by simp)),h2.mod m (fun k hk=>hd k (by simp [hk])),h3.mod m (fun k hk=>hd k (by simp [hk])),rfl,r⟩
theorem IsOrdD.lt {w:World} {b:Nat} {p q:List Nat} {F:List Nat} (h:IsOrdD w b p q F):∀k∈F,k < w.heap.size:=by
 obtain ⟨vp,vq,Fp,Fq,h1,h2,h3,rfl,r⟩:=h
 intro k hk
 simp at hk
 rcases hk with rfl | hk | hk
 ·exact h1.lt
 ·exact h2.lt k hk
 ·exact h3.lt k hk
theorem Inv.swap {p q:List Nat} {n k:Nat} (h:Inv p q) (hp:Perm p n) (hk:k+1 < n):Inv (swapL p k) ((q.set (p.getD k 0) (k+1)).set (p.getD (k+1) 0) k):=by
 have hkl:k+1 < p.length:=by rw [hp.len];exact hk
 have hk0:k < p.length:=by omega
 refine ⟨by simp [swapL_len,h.len],fun i hi=>?_⟩
 have g:=swapL_get hkl i
 rw [List.getElem?_eq_getElem hi] at g
 have hi':i < p.length:=by rw [swapL_len] at hi;exact hi
 simp only [List.getD_eq_getElem?_getD,List.getElem?_eq_getElem hkl,List.getElem?_eq_getElem hk0,Option.getD_some]
 have ql:∀j,(hj:j < p.length)→p[j] < q.length:=fun j hj=>by rw [h.len,hp.len];exact hp.lt _ (List.getElem_mem _)
 have inj:∀a b,(ha:a < p.length)→(hb:b < p.length)→p[a]=p[b]→a=b:=fun a b ha hb e=>(List.getElem_inj (h₀:=ha) (h₁:=hb) hp.nd).1 e
 unfold sg at g
 by_cases q1:i=k
 ·subst q1
  rw [if_pos rfl,List.getElem?_eq_getElem hkl] at g
  rw [Option.some.inj g,List.getElem?_set_self (by simp;exact ql _ hkl)]
 ·rw [if_neg q1] at g
  by_cases q2:i=k+1
  ·subst q2
   rw [if_pos rfl,List.getElem?_eq_getElem hk0] at g
   rw [Option.some.inj g,List.getElem?_set_ne (fun e=>by have:=inj _ _ hkl hk0 e;omega),List.getElem?_set_self (ql _ hk0)]
  ·rw [if_neg q2,List.getElem?_eq_getElem hi'] at g
   rw [Option.some.inj g,List.getElem?_set_ne (fun e=>q2 (inj _ _ hkl hi' e).symm),List.getElem?_set_ne (fun e=>q1 (inj _ _ hk0 hi' e).symm)]
   exact h.at_ i hi'
def pastV (f l:Nat) (e:Ed):Ed × Ed:=if f=5 then (⟨l+1,e.a⟩,⟨0,0⟩) else if f=2∨f=4 then (e,⟨0,0⟩) else (e,e)
def viewP (L:List Rc) (f l:Nat) (e:Ed):List Rc × (Ed × Ed):=
 if f=5∧(e.a=0∨l < e.t) then (L,(e,e)) else
 match recAt L e.a with
 | some r=>
  if l < r.top then (L,pastV f l e)
  else if r.top=r.bot then (L,(r.lo,r.hi))
  else ((fnd L { r with top:=r.top+1 }).1,(⟨0,(fnd L { r with top:=r.top+1 }).2⟩,if f=3 then r.hi else ⟨0,(fnd L { r with top:=r.top+1 }).2⟩))
 | none=>(L,pastV f l e)
structure ViewOk (L:List Rc) (f l n:Nat) (x:Nat × Tr) (r:List Rc × (Ed × Ed)):Prop where
 lo:RepE r.1 f r.2.1 (vw f l x).1
 hi:RepE r.1 f r.2.2 (vw f l x).2
 llo:LeadsP r.1 f r.2.1 (l+1) n
 lhi:LeadsP r.1 f r.2.2 (l+1) n
 good:Good r.1 n
 nodup:r.1.Nodup
 grown:∃L2,r.1=L++L2∧L2.length≤1
theorem leads_nil (L:List Rc) (f l n:Nat):LeadsP L f ⟨0,0⟩ l n:=⟨⟨fun _=>rfl,fun _ h=>absurd rfl h⟩,.inl (by simp)⟩
theorem viewP_ok {L:List Rc} {f l n:Nat} (hG:Good L n) (hnd:L.Nodup) (h1:1≤f) (h5:f≤5) (hl:l < n) {e:Ed} {x:Nat × Tr} (hP:LeadsP L f e l n) (hR:RepE L f e x) (hV:VE f l x):ViewOk L f l n x (viewP L f l e):=by
 obtain ⟨tag,T⟩:=x
 obtain ⟨t,a⟩:=e
 have ht:t=tag:=hR.t
 subst ht
 have hra:=hR.a
 simp only at hra
 have same:∀p q:Ed,∀y:(Nat × Tr) × (Nat × Tr),vw f l (t,T)=y→RepE L f p y.1→RepE L f q y.2→LeadsP L f p (l+1) n→LeadsP L f q (l+1) n→ViewOk L f l n (t,T) (L,(p,q)):=fun p q y hy a1 a2 a3 a4=>by
  subst hy
  exact ⟨a1,a2,a3,a4,hG,hnd,[],by simp,by simp⟩
 by_cases f5:f=5
 ·subst f5
  unfold VE at hV
  simp only [if_true] at hV
  by_cases h0:a=0
  ·subst h0
   obtain rfl:T=.leaf false:=Rep.fun_ hra .zero
   obtain rfl:t=0:=by
    rcases hV with hV | hV
    ·simpa using hV
    ·exact absurd rfl hV.1
   unfold viewP
   rw [if_pos ⟨rfl,.inl rfl⟩]
   exact same _ _ ((0,.leaf false),(0,.leaf false)) (by unfold vw;rw [if_pos (.inr rfl)]) hR hR (leads_nil _ _ _ _) (leads_nil _ _ _ _)
  ·have hz:T≠ .leaf false:=by
    rintro rfl
    have:=hra.invl
    simp at this;exact h0 this
   have hV2:l≤t∧GeT t T:=by
    rcases hV with hV | hV
    ·simp at hV;exact absurd hV.2 hz
    ·exact hV.2
   have tn:t≤n:=(hP.plain.2 rfl h0).2
   by_cases hlt:l < t
   ·unfold viewP
    rw [if_pos ⟨rfl,.inr hlt⟩]
    have hq:LeadsP L 5 ⟨t,a⟩ (l+1) n:=by
     refine ⟨⟨fun h=>absurd h (by simp [h0]),fun _ _=>⟨hlt,tn⟩⟩,hP.at_.imp id ?_⟩
     rintro ⟨r,q1,q2,q3,q4,q5⟩
     exact ⟨r,q1,q2,by simp only at q4;omega,q4,q5⟩
    exact same _ _ ((t,T),(t,T)) (by unfold vw;rw [if_pos (.inl ⟨rfl,by simp;omega⟩)]) hR hR hq hq
   ·obtain rfl:t=l:=by omega
    unfold viewP
    rw [if_neg (by simp [h0])]
    have hpast:∀(hq:LeadsP L 5 ⟨t+1,a⟩ (t+1) n),vw 5 t (t,T)=((t+1,T),(0,.leaf false))→ViewOk L 5 t n (t,T) (L,pastV 5 t ⟨t,a⟩):=fun hq hv=>
     same ⟨t+1,a⟩ ⟨0,0⟩ _ hv ⟨rfl,hra⟩ ⟨rfl,.zero⟩ hq (leads_nil _ _ _ _)
    cases hra with
    | zero=>exact absurd rfl h0
    | one=>
     have hn:recAt L 1=none:=by unfold recAt;simp
     simp only [hn]
     exact hpast ⟨⟨fun h=>absurd h (by simp),fun _ _=>⟨Nat.le_refl _,hl⟩⟩,.inl (by simp)⟩ (by unfold vw;simp)
    | @node _ r A B hr hrf hA hB=>
     have hg:=hG a r hr
     have htb:r.top=r.bot:=by rcases hg.right.ch with h | h | h<;>omega
     simp only [hr]
     have glo:=hg.lo
     have ghi:=hg.hi
     rw [hrf] at glo ghi
     have hge:=hV2.2.1
     by_cases hlt2:t < r.top
     ·rw [if_pos hlt2]
      refine hpast ⟨⟨fun h=>absurd h (by simp [h0]),fun _ _=>⟨Nat.le_refl _,hl⟩⟩,.inr ⟨r,hr,hrf,hlt2,hlt2,?_⟩⟩ ?_
      ·have:=hg.right.bn;have:=hg.right.n16;omega
      ·unfold vw
       rw [if_neg (by simp)]
       simp only
       rw [if_neg (by omega),if_pos trivial]
     ·rw [if_neg hlt2,if_pos htb]
      have e:r.top=t:=by omega
      refine same _ _ ((r.lo.t,A),(r.hi.t,B)) ?_ ⟨rfl,hA⟩ ⟨rfl,hB⟩ (by rw [show t+1=r.bot+1 by omega];exact glo) (by rw [show t+1=r.bot+1 by omega];exact ghi)
      unfold vw
      rw [if_neg (by simp)]
      simp only
      rw [if_pos e,if_pos (by omega)]
 ·unfold VE at hV
  simp only [f5,if_false] at hV
  obtain ⟨hV0,hV1⟩:=hV
  subst hV0
  unfold viewP
  rw [if_neg (by simp [f5])]
  have hpast:∀(hq:LeadsP L f ⟨0,a⟩ (l+1) n),vw f l (0,T)=(if f=2∨f=4 then ((0,T),(0,.leaf false)) else ((0,T),(0,T)))→ViewOk L f l n (0,T) (L,pastV f l ⟨0,a⟩):=fun hq hv=>by
   unfold pastV
   rw [if_neg f5]
   by_cases f24:f=2∨f=4
   ·rw [if_pos f24] at hv ⊢
    exact same _ _ _ hv hR ⟨rfl,.zero⟩ hq (leads_nil _ _ _ _)
   ·rw [if_neg f24] at hv ⊢
    exact same _ _ _ hv hR hR hq hq
  cases hra with
  | zero=>
   have hn:recAt L 0=none:=by unfold recAt;simp
   simp only [hn]
   refine hpast (leads_nil _ _ _ _) ?_
   unfold vw
   rw [if_pos (.inr rfl)]
   simp
  | one=>
   have hn:recAt L 1=none:=by unfold recAt;simp
   simp only [hn]
   refine hpast ⟨⟨fun _=>rfl,fun h=>absurd h f5⟩,.inl (by simp)⟩ ?_
   unfold vw
   rw [if_neg (by simp [f5])]
   simp only
   rw [if_neg f5]
  | @node _ r A B hr hrf hA hB=>
   have hg:=hG a r hr
   simp only [hr]
   have glo:=hg.lo
   have ghi:=hg.hi
   rw [hrf] at glo ghi
   have hge:=hV1.1
   have b16:r.top≤16∧r.bot≤15:=by have:=hg.right.bn;have:=hg.right.n16;have:=hg.right.tb;omega
   by_cases hlt2:l < r.top
   ·rw [if_pos hlt2]
    refine hpast ⟨⟨fun _=>rfl,fun h=>absurd h f5⟩,.inr ⟨r,hr,hrf,hlt2,Nat.zero_le _,b16.1⟩⟩ ?_
    unfold vw
    rw [if_neg (by simp [f5])]
    simp only
    rw [if_neg (by omega),if_neg f5]
   ·rw [if_neg hlt2]
    have e:r.top=l:=by omega
    by_cases htb:r.top=r.bot
    ·rw [if_pos htb]
     refine same _ _ ((r.lo.t,A),(r.hi.t,B)) ?_ ⟨rfl,hA⟩ ⟨rfl,hB⟩ (by rw [show l+1=r.bot+1 by omega];exact glo) (by rw [show l+1=r.bot+1 by omega];exact ghi)
     unfold vw
     rw [if_neg (by simp [f5])]
     simp only
     rw [if_pos e,if_pos (by omega)]
    ·rw [if_neg htb]
     have hge2:=hg.right.tb
     have f34:r.f=3∨r.f=4:=by rcases hg.right.ch with h | h | h<;>omega
     have gr:GoodR L n { r with top:=r.top+1 }:=⟨⟨hg.right.f1,hg.right.f5,by simp only;omega,hg.right.bn,hg.right.n16,.inr f34,hg.right.lo,hg.right.hi,hg.right.z,hg.right.b⟩,hg.lo,hg.hi⟩
     have hid:=fnd_at L { r with top:=r.top+1 }
     obtain ⟨L2,hL2⟩:=fnd_grow L { r with top:=r.top+1 }
     have good2:=hG.fnd gr
     have nd2:=fnd_nodup hnd { r with top:=r.top+1 }
     have hlen:L2.length≤1:=by
      have:(fnd L { r with top:=r.top+1 }).1.length≤L.length+1:=by unfold fnd;split<;>simp
      rw [hL2,List.length_append] at this;omega
     generalize hf:fnd L { r with top:=r.top+1 }=q at *
     have rep:Rep q.1 f q.2 (.node (l+1) r.bot r.lo.t A r.hi.t B):=by
      have:=Rep.node (L:=q.1) (f:=f) hid hrf (a:=A) (b:=B) (by rw [hL2];exact hA.grow _) (by rw [hL2];exact hB.grow _)
      simp only at this
      rw [e] at this
      exact this
     have lead:LeadsP q.1 f ⟨0,q.2⟩ (l+1) n:=⟨⟨fun _=>rfl,fun h=>absurd h f5⟩,.inr ⟨_,hid,hrf,by simp only;omega,Nat.zero_le _,by simp only;omega⟩⟩
     have leadhi:LeadsP q.1 f r.hi (l+1) n:=by
      rw [hL2]
      refine LeadsP.grow ⟨?_,ghi.at_.imp id (fun ⟨r2,q1,q2,q3,q4⟩=>⟨r2,q1,q2,by omega,q4⟩)⟩ L2
      exact ⟨fun _=>ghi.plain.1 (.inl f5),fun h=>absurd h f5⟩
     have hv:vw f l (0,.node r.top r.bot r.lo.t A r.hi.t B)=if f=3 then ((0,.node (l+1) r.bot r.lo.t A r.hi.t B),(r.hi.t,B)) else ((0,.node (l+1) r.bot r.lo.t A r.hi.t B),(0,.node (l+1) r.bot r.lo.t A r.hi.t B)):=by
      unfold vw
      rw [if_neg (by simp [f5])]
      simp only
      rw [if_pos e,if_neg (by omega)]
     have hB2:Rep q.1 f r.hi.a B:=by rw [hL2];exact hB.grow _
     by_cases f3:f=3
     ·rw [if_pos f3] at hv ⊢
      exact ⟨by rw [hv];exact ⟨rfl,rep⟩,by rw [hv];exact ⟨rfl,hB2⟩,lead,leadhi,good2,nd2,L2,hL2,hlen⟩
     ·rw [if_neg f3] at hv ⊢
      exact ⟨by rw [hv];exact ⟨rfl,rep⟩,by rw [hv];exact ⟨rfl,rep⟩,lead,lead,good2,nd2,L2,hL2,hlen⟩
end Go.Proofs.YtlafpknoiihaaaaGreatDoor
