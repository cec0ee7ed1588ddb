import Derived.Test.YtbnpoapmnkfhkaaGreatDoorZt11
import Derived.Deep.RegionHeld3
set_option maxRecDepth 100000
set_option maxHeartbeats 2000000
set_option linter.unusedVariables false
set_option linter.unusedSimpArgs false
namespace Go.Proofs.YtbnpoapmnkfhkaaGreatDoor
open List renaming getElem?_eq_getElem → o, getElem?_set_ne → O, take_succ_eq_append_getElem → N, getElem?_take_of_lt → M, getElem?_set_self → J, append_nil → Ω, length_map → Ψ, length_erase_of_mem → Φ, length_pos_of_mem → Δ, take_append_drop → Γ, mem_iff_getElem? → ω, getElem_inj → ψ, mem_erase_of_ne → τ, nodup_cons → ξ, getD_eq_getElem?_getD → μ, getElem?_take_eq_none → κ, nodup_append → ι, getElem_mem → η, length_eq_one_iff → ε, take_of_length_le → δ, mem_of_mem_take → Qa, length_append → Qc, length_cons → Qg, getElem_map → Qh, mem_reverse → Qi, length_take → Qj, length_drop → Qk, replicate → Ql
open Go.Lib renaming hid → Z
open BitVec renaming ofInt → Y, toNat_ofNat → Ξ, ofInt_natCast → ρ, ofNat → ζ
open Nat renaming le_refl → Q, pow_lt_pow_right → σ, pow_succ → ν, mod_eq_of_lt → θ, lt_or_ge → Qd, or_lt_two_pow → Qe, le_trans → Qn, zero_le → Qo
open Go renaming World → K, Calls → Qb
open Option.some renaming inj → I
open Go.Proofs.Tryz renaming prog → G, underlying22 → Qf
open Go.Ending renaming returned → E
open Go.Proofs.YtbnpoapmnkfhkaaGreatDoor renaming zc → D
open Option renaming some → C, none → φ
open Go.World renaming block_lt_of_cell? → Θ
open Go.Value renaming int → χ, pointer → γ, tuple → Qm
open Go.IntKind renaming i64 → π
inductive Tr where
 | leaf (b:Bool)
 | node (top bot tl:Nat) (lo:Tr) (th:Nat) (hi:Tr)
 deriving DecidableEq
inductive Rep (L:List Rc) (f:Nat):Nat→Tr→Prop
 | zero:Rep L f 0 (.leaf false)
 | one:Rep L f 1 (.leaf true)
 | node {id:Nat} {r:Rc} {a b:Tr}:YO L id=C r→r.f=f→Rep L f r.lo.a a→Rep L f r.hi.a b→Rep L f id (.node r.top r.bot r.lo.t a r.hi.t b)
theorem Rep.grow {L:List Rc} {f a:Nat} {T:Tr} (h:Rep L f a T) (L2:List Rc):Rep (L++L2) f a T:=by
 induction h with
 | zero=>exact .zero
 | one=>exact .one
 | node h1 h2 _ _ ih1 ih2=>exact .node (zb2 h1 L2) h2 ih1 ih2
theorem Rep.inv {L:List Rc} {f a t b tl th:Nat} {x y:Tr} (h:Rep L f a (.node t b tl x th y)):
 ∃r,YO L a=C r∧r.f=f∧r.top=t∧r.bot=b∧r.lo.t=tl∧r.hi.t=th∧Rep L f r.lo.a x∧Rep L f r.hi.a y:=by
 generalize hT:Tr.node t b tl x th y=T at h;cases h with
 | zero=>cases hT
 | one=>cases hT
 | node h1 h2 h3 h4=>cases hT;exact ⟨_,h1,h2,rfl,rfl,rfl,rfl,h3,h4⟩
theorem Rep.invl {L:List Rc} {f a:Nat} {b:Bool} (h:Rep L f a (.leaf b)):a=if b then 1 else 0:=by
 generalize hT:Tr.leaf b=T at h;cases h with
 | zero=>cases hT;rfl
 | one=>cases hT;rfl
 | node h1 h2 h3 h4=>cases hT
theorem Rep.two {L:List Rc} {f a t b tl th:Nat} {x y:Tr} (h:Rep L f a (.node t b tl x th y)):2≤a:=by
 obtain ⟨r,h1,_⟩:=h.inv;exact (YJ h1).1
theorem Rc.ext' {r s:Rc} (h1:r.f=s.f) (h2:r.top=s.top) (h3:r.bot=s.bot) (h4:r.lo.t=s.lo.t) (h5:r.lo.a=s.lo.a) (h6:r.hi.t=s.hi.t) (h7:r.hi.a=s.hi.a):r=s:=by
 obtain ⟨f,t,b,⟨lt,la⟩,⟨ht,ha⟩⟩:=r;obtain ⟨f',t',b',⟨lt',la'⟩,⟨ht',ha'⟩⟩:=s
 simp_all
theorem zR0 {L:List Rc} (hn:L.Nodup) {i j:Nat} {r:Rc} (h:YO L i=C r) (k:YO L j=C r):i=j:=by
 obtain ⟨a1,a2,a3⟩:=YJ h;obtain ⟨b1,b2,b3⟩:=YJ k;have:=(List.getElem?_inj (D) hn).1 (a3.trans b3.symm);omega
theorem Rep.inj {L:List Rc} {f:Nat} (hn:L.Nodup):∀{T:Tr} {a a':Nat},Rep L f a T→Rep L f a' T→a=a':=by
 intro T
 induction T with
 | leaf b=>intro a a' h h';rw [h.invl,h'.invl]
 | node t b tl x th y ihx ihy=>
  intro a a' h h';obtain ⟨r,h1,h2,h3,h4,h5,h6,h7,h8⟩:=h.inv;obtain ⟨s,k1,k2,k3,k4,k5,k6,k7,k8⟩:=h'.inv;have e:r=s:=Rc.ext' (h2.trans k2.symm) (h3.trans k3.symm) (h4.trans k4.symm) (h5.trans k5.symm) (ihx h7 k7) (h6.trans k6.symm) (ihy h8 k8);subst e;exact zR0 hn h1 k1
theorem Rep.fun_ {L:List Rc} {f a:Nat} {T:Tr} (h:Rep L f a T):∀{T':Tr},Rep L f a T'→T=T':=by
 induction h with
 | zero=>
  intro T' h';cases h' with
  | zero=>rfl
  | node h1=>have:=YJ h1;omega
 | one=>
  intro T' h';cases h' with
  | one=>rfl
  | node h1=>have:=YJ h1;omega
 | node h1 h2 h3 h4 ih1 ih2=>
  intro T' h';cases h' with
  | zero=>have:=YJ h1;omega
  | one=>have:=YJ h1;omega
  | node k1 k2 k3 k4=>
   rw [h1] at k1;cases k1;rw [ih1 k3,ih2 k4]
structure RepE (L:List Rc) (f:Nat) (e:Ed) (x:Nat × Tr):Prop where
 t:e.t=x.1
 a:Rep L f e.a x.2
theorem RepE.grow {L:List Rc} {f:Nat} {e:Ed} {x:Nat × Tr} (h:RepE L f e x) (L2:List Rc):RepE (L++L2) f e x:=⟨h.t,h.a.grow L2⟩
theorem RepE.eq_iff {L:List Rc} {f:Nat} (hn:L.Nodup) {e e':Ed} {x x':Nat × Tr} (h:RepE L f e x) (h':RepE L f e' x'):e=e'↔x=x':=by
 constructor
 ·rintro rfl;exact Prod.ext (h.t.symm.trans h'.t) (h.a.fun_ h'.a)
 ·rintro rfl;obtain ⟨t,a⟩:=e;obtain ⟨t',a'⟩:=e';have h1:=h.t.trans h'.t.symm;have h2:=Rep.inj hn h.a h'.a;simp only at h1 h2;rw [h1,h2]
theorem RepE.zero_iff {L:List Rc} {f:Nat} {e:Ed} {x:Nat × Tr} (h:RepE L f e x):e.a=0↔x.2=.leaf false:=by
 have ha:=h.a;constructor
 ·intro h0;rw [h0] at ha;exact (Rep.zero.fun_ ha).symm
 ·intro h0;rw [h0] at ha;simpa using ha.invl
def zb3 (f l:Nat) (lo hi:Nat × Tr):Tr:=
 match lo.2 with
 | .node t b tl x th y=>
  if f=3∧t=l+1∧(th,y)=hi then .node l b tl x hi.1 hi.2
  else if f=4∧lo=hi∧t=l+1 then .node l b tl x th y else .node l l lo.1 lo.2 hi.1 hi.2
 | .leaf _=>.node l l lo.1 lo.2 hi.1 hi.2
def mkE (f l:Nat) (lo hi:Nat × Tr):Nat × Tr:=
 if f=2∨f=4 then (if hi.2=.leaf false then lo else (0,zb3 f l lo hi))
 else if lo=hi then lo else if f=5∧hi.2=.leaf false∧lo.1=l+1 then (l,lo.2) else (if f=5 then l else 0,zb3 f l lo hi)
theorem zw0 {L:List Rc} (h:L.Nodup) (r:Rc):(fnd L r).1.Nodup:=by
 unfold fnd;split
 ·exact h
 ·rename_i hr
  rw [ι];exact ⟨h,ze,by intro a ha b hb;simp at hb;subst hb;rintro rfl;exact hr ha⟩
theorem yj3 {L:List Rc} (hn:L.Nodup) {f l:Nat} {lo hi:Ed} {x y:Nat × Tr} (hx:RepE L f lo x) (hy:RepE L f hi y):
 Rep (fnd L (za6 L f l lo hi)).1 f (fnd L (za6 L f l lo hi)).2 (zb3 f l x y):=by
 have hid:=zF3 L (za6 L f l lo hi);obtain ⟨L2,hL2⟩:=zq8 L (za6 L f l lo hi)
 have base:za6 L f l lo hi=⟨f,l,l,lo,hi⟩→Rep (fnd L (za6 L f l lo hi)).1 f (fnd L (za6 L f l lo hi)).2 (.node l l x.1 x.2 y.1 y.2):=by
  intro e;rw [e] at hid hL2 ⊢;have h:=Rep.node (L:=(fnd L ⟨f,l,l,lo,hi⟩).1) (f:=f) hid rfl (a:=x.2) (b:=y.2) (by rw [hL2];exact hx.a.grow _) (by rw [hL2];exact hy.a.grow _);rw [←hx.t,←hy.t];exact h
 obtain ⟨xt,xT⟩:=x;cases xT with
 | leaf b=>
  unfold zb3;simp only;refine base ?_;have:=hx.a.invl;unfold za6
  have e:YO L lo.a=φ:=by
   unfold YO;rw [if_neg];rw [this];split<;>omega
  rw [e]
 | node t b tl u th v=>
  obtain ⟨r,h1,h2,h3,h4,h5,h6,h7,h8⟩:=Rep.inv hx.a;have ehi:r.hi=hi↔(th,v)=y:=RepE.eq_iff hn ⟨h6,h8⟩ hy;have elo:lo=hi↔(xt,Tr.node t b tl u th v)=y:=RepE.eq_iff hn hx hy;unfold zb3;simp only;unfold za6 at hid hL2 base ⊢;rw [h1] at hid hL2 base ⊢;simp only at hid hL2 base ⊢;by_cases c1:f=3∧r.top=l+1∧r.hi=hi
  ·rw [if_pos c1] at hid hL2 ⊢;have n1:f=3∧t=l+1∧(th,v)=y:=⟨c1.1,h3▸c1.2.1,ehi.1 c1.2.2⟩;rw [if_pos n1];obtain ⟨rfl,-,-⟩:=c1;have h:=Rep.node (L:=(fnd L ⟨3,l,r.bot,r.lo,hi⟩).1) (f:=3) hid rfl (a:=u) (b:=y.2) (by rw [hL2];exact h7.grow _) (by rw [hL2];exact hy.a.grow _);simp only [h4,h5,hy.t] at h ⊢;exact h
  ·rw [if_neg c1] at hid hL2 base ⊢;have n1:¬(f=3∧t=l+1∧(th,v)=y):=fun c=>c1 ⟨c.1,h3.trans c.2.1,ehi.2 c.2.2⟩
   rw [if_neg n1];by_cases c2:f=4∧lo=hi∧r.top=l+1
   ·rw [if_pos c2] at hid hL2 ⊢;have n2:f=4∧(xt,Tr.node t b tl u th v)=y∧t=l+1:=⟨c2.1,elo.1 c2.2.1,h3▸c2.2.2⟩;rw [if_pos n2];obtain ⟨rfl,-,-⟩:=c2;have h:=Rep.node (L:=(fnd L ⟨4,l,r.bot,r.lo,r.hi⟩).1) (f:=4) hid rfl (a:=u) (b:=v) (by rw [hL2];exact h7.grow _) (by rw [hL2];exact h8.grow _);simp only [h4,h5,h6] at h ⊢;exact h
   ·rw [if_neg c2] at hid hL2 base ⊢;have n2:¬(f=4∧(xt,Tr.node t b tl u th v)=y∧t=l+1):=fun c=>c2 ⟨c.1,elo.2 c.2.1,h3.trans c.2.2⟩
    rw [if_neg n2];exact base rfl
theorem yo4 {L:List Rc} (hn:L.Nodup) {f l:Nat} {lo hi:Ed} {x y:Nat × Tr} (hx:RepE L f lo x) (hy:RepE L f hi y):
 RepE (mkP L f l lo hi).1 f (mkP L f l lo hi).2 (mkE f l x y)∧(mkP L f l lo hi).1.Nodup:=by
 have hz:=hy.zero_iff;have he:=RepE.eq_iff hn hx hy;have hnode:=yj3 (l:=l) hn hx hy;have hnd:=zw0 hn (za6 L f l lo hi);unfold mkP Xd mkE;by_cases c1:f=2∨f=4
 ·rw [if_pos c1,if_pos c1];have h5:¬f=5:=D;by_cases c2:hi.a=0
  ·rw [if_pos c2,if_pos (hz.1 c2)];exact ⟨hx,hn⟩
  ·have c2':¬y.2=.leaf false:=fun c=>c2 (hz.2 c)
   rw [if_neg c2,if_neg c2',if_neg h5];exact ⟨⟨rfl,hnode⟩,hnd⟩
 ·rw [if_neg c1,if_neg c1];by_cases c2:lo=hi
  ·rw [if_pos c2,if_pos (he.1 c2)];exact ⟨hx,hn⟩
  ·have c2':¬x=y:=fun c=>c2 (he.2 c)
   rw [if_neg c2,if_neg c2'];by_cases c3:f=5∧hi.a=0∧lo.t=l+1
   ·have c3':f=5∧y.2=.leaf false∧x.1=l+1:=⟨c3.1,hz.1 c3.2.1,hx.t▸c3.2.2⟩;rw [if_pos c3,if_pos c3'];exact ⟨⟨rfl,hx.a⟩,hn⟩
   ·have c3':¬(f=5∧y.2=.leaf false∧x.1=l+1):=fun c=>c3 ⟨c.1,hz.2 c.2.1,hx.t.trans c.2.2⟩
    rw [if_neg c3,if_neg c3'];exact ⟨⟨rfl,hnode⟩,hnd⟩
def XX (f n:Nat) (b:Bool):Nat × Tr:=(if f=5∧b=true then n else 0,.leaf b)
def YE (f n:Nat):Nat→Nat→List Bool→Nat × Tr
 | 0,_,t=>XX f n (t.headD false)
 | k+1,l,t=>mkE f l (YE f n k (l+1) (t.take (2 ^ k))) (YE f n k (l+1) (t.drop (2 ^ k)))
def tsz:Tr→Nat
 | .leaf _=>1
 | .node _ _ _ x _ y=>1+tsz x+tsz y
def nds:Tr→List Tr
 | .leaf _=>[]
 | .node t b tl x th y=>.node t b tl x th y::(nds x++nds y)
def dis {α:Type} [DecidableEq α]:List α→List α→List α
 | out,[]=>out
 | out,x::l=>dis (if x∈out then out else out++[x]) l
theorem zp9 {α:Type} [DecidableEq α] {x:α}:∀(l out:List α),x∈dis out l↔x∈out∨x∈l:=by
 intro l
 induction l with
 | nil=>intro out;simp [dis]
 | cons y l ih=>
  intro out;rw [dis,ih];by_cases h:y∈out
  ·rw [if_pos h];simp;constructor
   ·rintro (h | h);exact .inl h;exact .inr (.inr h)
   ·rintro (h | rfl | h);exact .inl h;exact .inl ‹_›;exact .inr h
  ·rw [if_neg h];simp [or_assoc]
theorem zl5 {α:Type} [DecidableEq α]:∀(l out:List α),out.Nodup→(dis out l).Nodup:=by
 intro l
 induction l with
 | nil=>intro out h;exact h
 | cons y l ih=>
  intro out h;rw [dis];refine ih _ ?_;split
  ·exact h
  ·rename_i hy
   rw [ι];exact ⟨h,ze,by intro a ha b hb;simp at hb;subst hb;rintro rfl;exact hy ha⟩
theorem yb6 {α:Type} [DecidableEq α]:∀{l m:List α},l.Nodup→(∀x∈l,x∈m)→l.length≤m.length:=by
 intro l
 induction l with
 | nil=>intro m _ _;simp
 | cons a l ih=>
  intro m hn hs;rw [ξ] at hn;have ham:=hs a (ze)
  have h1:=ih (m:=m.erase a) hn.2 (fun x hx=>by
   have:x≠a:=fun e=>hn.1 (e▸hx)
   exact (τ this).2 (hs x (by simp [hx])))
  have h2:=Φ ham;have h3:=Δ ham;simp only [Qg];omega
theorem XQ {α β:Type} [DecidableEq α] [DecidableEq β] (R:α→β→Prop) (hinj:∀a a' b,R a b→R a' b→a=a'):∀{l:List α} {m:List β},l.Nodup→(∀x∈l,∃y∈m,R x y)→l.length≤m.length:=by
 intro l
 induction l with
 | nil=>intro m _ _;simp
 | cons a l ih=>
  intro m hn hs;rw [ξ] at hn;obtain ⟨y,hy,hr⟩:=hs a (ze)
  have h1:=ih (m:=m.erase y) hn.2 (fun x hx=>by
   obtain ⟨z,hz,hrz⟩:=hs x (by simp [hx]);refine ⟨z,(τ ?_).2 hz,hrz⟩;rintro rfl
   exact hn.1 (hinj _ _ _ hr hrz▸hx))
  have h2:=Φ hy;have h3:=Δ hy;simp only [Qg];omega
theorem zt3 {α β:Type} [DecidableEq α] [DecidableEq β] (R:α→β→Prop) (hinj:∀a a' b,R a b→R a' b→a=a') (hfun:∀a b b',R a b→R a b'→b=b') {l:List α} {m:List β} (hl:l.Nodup) (hm:m.Nodup)
 (h1:∀x∈l,∃y∈m,R x y) (h2:∀y∈m,∃x∈l,R x y):l.length=m.length:=
 Nat.le_antisymm (XQ R hinj hl h1) (XQ (fun b a=>R a b) (fun b b' a h k=>hfun a b b' h k) hm h2)
theorem Rep.ge {L:List Rc} {f a:Nat} {T:Tr} (h:Rep L f a T):(∃b,T=.leaf b∧a < 2)∨2≤a∧a < L.length+2:=by
 cases h with
 | zero=>exact .inl ⟨_,rfl,D⟩
 | one=>exact .inl ⟨_,rfl,D⟩
 | node h1=>have:=YJ h1;exact .inr ⟨this.1,this.2.1⟩
def zf4 (L:List Rc) (f:Nat) (T:Tr) (id:Nat):Prop:=∃S,S∈nds T∧Rep L f id S
theorem yk5 {S T:Tr} (h:S∈nds T):∃t b tl x th y,S=.node t b tl x th y:=by
 induction T with
 | leaf b=>simp [nds] at h
 | node t b tl x th y ihx ihy=>
  simp [nds] at h;rcases h with rfl | h | h
  ·exact ⟨_,_,_,_,_,_,rfl⟩
  ·exact ihx h
  ·exact ihy h
theorem zT5 {S T U:Tr} (h:S∈nds T) (k:T∈nds U):S∈nds U:=by
 induction U with
 | leaf b=>simp [nds] at k
 | node t b tl x th y ihx ihy=>
  simp [nds] at k;rcases k with rfl | k | k
  ·exact h
  ·simp [nds,ihx k]
  ·simp [nds,ihy k]
theorem Rep.sub {L:List Rc} {f a:Nat} {T:Tr} (h:Rep L f a T):∀S∈nds T,∃id,Rep L f id S:=by
 induction h with
 | zero=>simp [nds]
 | one=>simp [nds]
 | @node id r x y h1 h2 h3 h4 ih1 ih2=>
  intro S hS;simp [nds] at hS;rcases hS with rfl | hS | hS
  ·exact ⟨id,.node h1 h2 h3 h4⟩
  ·exact ih1 S hS
  ·exact ih2 S hS
theorem yq0 {L:List Rc} (hn:L.Nodup) {f a:Nat} {T:Tr} (h:Rep L f a T) {l:List Nat} (hl:l.Nodup) (hm:∀id,id∈l↔zf4 L f T id):l.length=(dis [] (nds T)).length:=by
 refine zt3 (fun id S=>Rep L f id S) (fun a a' b h k=>Rep.inj hn h k) (fun a b b' h k=>Rep.fun_ h k) hl (zl5 _ _ (ze)) ?_ ?_
 ·intro id hid;obtain ⟨S,hS,hr⟩:=(hm id).1 hid;exact ⟨S,by rw [zp9];exact .inr hS,hr⟩
 ·intro S hS;rw [zp9] at hS;have hS':S∈nds T:=by simpa using hS
  obtain ⟨id,hid⟩:=h.sub S hS';exact ⟨id,(hm id).2 ⟨S,hS',hid⟩,hid⟩
def Cl (L:List Rc) (f:Nat) (V:Nat→Prop) (m:Nat):Prop:=∀id S,V id→Rep L f id S→tsz S < m→∀j,zf4 L f S j→V j
theorem zJ9 {L:List Rc} {f id:Nat} {t b tl th:Nat} {x y:Tr} (hn:L.Nodup) (h:Rep L f id (.node t b tl x th y)) (j:Nat):
 zf4 L f (.node t b tl x th y) j↔j=id∨zf4 L f x j∨zf4 L f y j:=by
 constructor
 ·rintro ⟨S,hS,hr⟩;simp [nds] at hS;rcases hS with rfl | hS | hS
  ·exact .inl (Rep.inj hn hr h)
  ·exact .inr (.inl ⟨S,hS,hr⟩)
  ·exact .inr (.inr ⟨S,hS,hr⟩)
 ·rintro (rfl | ⟨S,hS,hr⟩ | ⟨S,hS,hr⟩)
  ·exact ⟨_,by simp [nds],h⟩
  ·exact ⟨S,by simp [nds,hS],hr⟩
  ·exact ⟨S,by simp [nds,hS],hr⟩
theorem zL3 {L:List Rc} {f:Nat} {b:Bool} (j:Nat):¬zf4 L f (.leaf b) j:=by
 rintro ⟨S,hS,_⟩;simp [nds] at hS
theorem zD6 {L:List Rc} {f:Nat} {S T:Tr} {id j:Nat} (h:zf4 L f T id) (hr:Rep L f id S) (hj:zf4 L f S j):zf4 L f T j:=by
 obtain ⟨U,hU,hrU⟩:=h;have e:=hrU.fun_ hr;subst e;obtain ⟨W,hW,hrW⟩:=hj;exact ⟨W,zT5 hW hU,hrW⟩
theorem Cl.skip {L:List Rc} {f:Nat} {V:Nat→Prop} {m id:Nat} {T:Tr} (h:Cl L f V m) (hr:Rep L f id T) (hv:V id) (hm:tsz T < m) (j:Nat):V j↔V j∨zf4 L f T j:=
 ⟨.inl,fun h'=>h'.elim (fun x=>x) (h id T hv hr hm j)⟩
theorem Cl.add {L:List Rc} {f:Nat} {V:Nat→Prop} {m id:Nat} {T:Tr} (h:Cl L f V m) (hr:Rep L f id T) (hm:tsz T < m):Cl L f (fun j=>V j∨j=id) (tsz T):=by
 intro i S hi hS hlt j hj;rcases hi with hi | rfl
 ·exact .inl (h i S hi hS (D) j hj)
 ·have:=hS.fun_ hr;subst this;omega
theorem Cl.union {L:List Rc} {f:Nat} {V:Nat→Prop} {m:Nat} {T:Tr} (h:Cl L f V m):Cl L f (fun j=>V j∨zf4 L f T j) m:=by
 intro i S hi hS hlt j hj;rcases hi with hi | hi
 ·exact .inl (h i S hi hS hlt j hj)
 ·exact .inr (zD6 hi hS hj)
theorem Cl.congr {L:List Rc} {f:Nat} {V V':Nat→Prop} {m:Nat} (h:Cl L f V m) (e:∀j,V j↔V' j):Cl L f V' m:=
 fun i S hi hS hlt j hj=>(e j).1 (h i S ((e i).2 hi) hS hlt j hj)
open Go.RowKit
structure BSt (w:K) (bb b bo n f g cap W:Nat) (p q Fo:List Nat):Prop where
 bb:Blk w bb #[γ (C ⟨b,0,φ⟩),γ (C ⟨bo,0,φ⟩),χ .u8 f,χ π n,.slice (C ⟨g,0,φ⟩) 1 cap] 174
 word:w.cell? ⟨g,0,φ⟩=C (χ .u64 W)
 ord:IsOrd w bo p q Fo
theorem kU {p:Prop} (h:p:=by
 obtain ⟨vp,vq,Fp,Fq,h1,h2,h3,rfl,r⟩:=h;intro k hk;simp at hk;rcases hk with rfl | hk | hk
 ·exact h1.lt
 ·exact h2.lt k hk
 ·exact h3.lt k hk):p:=h
theorem IsOrd.lt {w:K} {b:Nat} {p q:List Nat} {F:List Nat} (h:IsOrd w b p q F):∀k∈F,k < w.heap.size:=by
 exact kU
theorem BSt.mod {S:List Nat} {w w':K} {bb b bo n f g cap W:Nat} {p q Fo:List Nat} (h:BSt w bb b bo n f g cap W p q Fo) (m:Mod S w w') (hd:∀k∈bb::g::Fo,k∉S):BSt w' bb b bo n f g cap W p q Fo:=
 ⟨h.bb.mod m (hd bb (ze)),(m.cell (a:=⟨g,0,φ⟩) (Θ w _ h.word) (hd g (ze))).trans h.word,h.ord.mod m (fun k hk=>hd k (zC))⟩
theorem BSt.lt {w:K} {bb b bo n f g cap W:Nat} {p q Fo:List Nat} (h:BSt w bb b bo n f g cap W p q Fo):∀k∈bb::g::Fo,k < w.heap.size:=by
 intro k hk;simp at hk;rcases hk with rfl | rfl | hk
 ·exact h.bb.lt
 ·exact Θ w _ h.word
 ·exact h.ord.lt k hk
theorem Blk.cells5 {w:K} {g:Nat} {a b c d e:Value} {t:TypeId} (B:Blk w g #[a,b,c,d,e] t):
 w.cell? ⟨g,0,φ⟩=C a∧w.cell? ⟨g,1,φ⟩=C b∧w.cell? ⟨g,2,φ⟩=C c∧w.cell? ⟨g,3,φ⟩=C d∧w.cell? ⟨g,4,φ⟩=C e:=by
 refine ⟨?_,?_,?_,?_,?_⟩<;>(rw [B.cell];rfl)
def Xz (W:Nat) (p:List Nat):Nat→Nat→Nat→List Bool
 | 0,_,x=>[W.testBit x]
 | k+1,l,x=>Xz W p k (l+1) x++Xz W p k (l+1) (x ||| 2 ^ p.getD l 0)
theorem Xl (W:Nat) (p:List Nat):∀k l x,(Xz W p k l x).length=2 ^ k:=by
 intro k
 induction k with
 | zero=>intro l x;rfl
 | succ k ih=>intro l x;rw [Xz,Qc,ih,ih,ν];omega
def zK2 (w:K) (b n room:Nat) (L:List Rc) (F:List Nat) (f l k:Nat) (x:Nat × Tr) (e:Ending) (w':K):Prop:=
 ∃ed L2 F',e=E (Qm #[edv ed,χ .u8 0])∧IsSt w' b n (L++L2) room F'∧Mod F w w'∧(∀k∈F',k∈F∨w.heap.size≤k)∧Good (L++L2) n∧(L++L2).Nodup∧LeadsP (L++L2) f ed l n∧RepE (L++L2) f ed x∧L2.length+1≤2 ^ k
theorem ym7 {x v:Nat} (hx:x < 4294967296) (hv:v < 32):bits .or π (x:Int) (2 ^ v)=((x ||| 2 ^ v:Nat):Int):=by
 have h2:(2:Nat) ^ v < 4294967296:=by
  have:=σ (a:=2) (D) hv;simpa using this
 have h3:x ||| 2 ^ v < 2 ^ 32:=Qe (yK) (by simpa using h2)
 have e:(Y 64 (x:Int) ||| Y 64 (2 ^ v)).toNat=x ||| 2 ^ v:=by
  have e1:Y 64 (x:Int)=ζ 64 x:=ρ ..;have e0:((2:Int) ^ v)=((2 ^ v:Nat):Int):=ze;have e2:Y 64 (2 ^ v)=ζ 64 (2 ^ v):=by rw [e0];exact ρ ..
  rw [e1,e2,BitVec.toNat_or,Ξ,Ξ,θ (D),θ (D)]
 show IntKind.i64.wrap ((Y 64 (x:Int) ||| Y 64 (2 ^ v)).toNat:Int)=_;rw [e,IntWalk.i64_in _ (D)]
theorem zX5 {x v:Nat} (hx:x < 4294967296) (hv:v < 32):bits .or π (x:Int) (wrap64 (2 ^ v))=((x ||| 2 ^ v:Nat):Int):=by
 have h2:(2:Nat) ^ v < 4294967296:=by
  have:=σ (a:=2) (D) hv;simpa using this
 have e0:((2:Int) ^ v)=((2 ^ v:Nat):Int):=ze
 have e1:wrap64 (2 ^ v)=2 ^ v:=by
  rw [e0];generalize 2 ^ v=z at *;exact IntWalk.wrap64_in _ ⟨D,D⟩
 rw [e1];exact ym7 hx hv
theorem zT2 {L:List Rc} {f n:Nat} (b:Bool):LeadsP L f (if b then zi1 f n else ⟨0,0⟩) n n∧RepE L f (if b then zi1 f n else ⟨0,0⟩) (XX f n b):=by
 cases b with
 | false=>exact ⟨⟨⟨fun _=>rfl,fun _ h=>absurd rfl h⟩,.inl (ze)⟩,⟨by simp [XX],.zero⟩⟩
 | true=>
  unfold zi1 XX;by_cases h5:f=5
  ·simp only [h5,if_true,and_self];exact ⟨⟨⟨fun h=>by simp at h,fun _ _=>⟨Q _,Q _⟩⟩,.inl (ze)⟩,⟨rfl,.one⟩⟩
  ·simp only [h5,if_false,if_true,false_and];exact ⟨⟨⟨fun _=>rfl,fun h=>absurd h h5⟩,.inl (ze)⟩,⟨rfl,.one⟩⟩
theorem kT {p:Prop} (h:p:=by
 clear e0 e1 f0 f1 BX;simp only at g0 g1;refine bodyPost_ret (by simp [results,Tryz.results68,g0,g1,go_sem];try rfl) rfl ?_
 exact FIN.out _ MX.out):p:=h
theorem zU9 {w:K} {bb b bo n f g cap W:Nat} {p q Fo:List Nat} (hB:BSt w bb b bo n f g cap W p q Fo) {L:List Rc} {room:Nat} {F:List Nat} (hS:IsSt w b n L room F) (hd:∀k∈bb::g::Fo,k∉F)
 (h1:1≤f) (h5:f≤5) (hn:n≤5) (hW:W < 2 ^ (2 ^ n)) (hG:Good L n) (hnd:L.Nodup) (x:Nat) (hx:x < 2 ^ n):
 Qb G 68 #[γ (C ⟨bb,0,φ⟩),χ π n,χ π x] w (zK2 w b n room L F f n 0 (XX f n (W.testBit x))):=by
 have FIN:Hid (∀w',Mod [] w w'→zK2 w b n room L F f n 0 (XX f n (W.testBit x)) (E (Qm #[edv (if W.testBit x then zi1 f n else ⟨0,0⟩),χ .u8 0])) w'):=fun w' m=>by
  have hl:=zT2 (L:=L) (f:=f) (n:=n) (W.testBit x);exact ⟨_,[],F,rfl,by rw [Ω];exact hS.mod m (ze),m.mono (ze),fun k hk=>.inl hk,by rw [Ω];exact hG,by rw [Ω];exact hnd,by rw [Ω];exact hl.1,by rw [Ω];exact hl.2,ze⟩
 have VA:Hid (∀W',Mod [] w W'→Qb G 67 #[γ (C ⟨b,0,φ⟩)] W' fun e w'=>e=E (χ π n)∧w'=W'):=fun W' m=>by
  obtain ⟨ba,bi,Fa,c0,_⟩:=(hS.mod m (ze)).own;exact YH b n W' c0
 have HA:Hid (∀W',Mod [] w W'→Qb G 107 #[.agg #[χ π n,.slice (C ⟨g,0,φ⟩) 1 cap],χ π x] W' fun e w'=>e=E (.bool (W.testBit x))∧Mod [] W' w'):=fun W' m=>ye6 n W g cap x hn hW hx W' (hB.mod m (ze)).word
 have ON:Hid (∀W',Qb G 108 #[χ .u8 f,χ π n] W' fun e' w'=>e'=E (edv (zi1 f n))∧Mod [] W' w'):=fun W'=>zU4 f h1 h5 n (D) W'
 have hbb:=hB.bb;have hbl:=hbb.lt;clear hW hx hS hB hG hnd hd;generalize W.testBit x=tb at *;obtain ⟨gk,hgk⟩:∃gk,w.heap.size=gk:=⟨_,rfl⟩;have hbk:bb < gk:=D;have hne:¬bb=gk:=D;have hne2:¬gk=bb:=D;have HBB:=Z hbb;obtain ⟨k0,k1,k2,k3,k4⟩:=hbb.cells5;clear hbb;go_in;go_wp2_with fail;refine (VA.out _ (zg)).mono ?_;rintro e w1 ⟨rfl,rfl⟩;go_wp2_with fail;refine (HA.out _ (zg)).mono ?_;rintro e w2 ⟨rfl,m2⟩;have M2:=Z (Mod.trans' (show Mod [] w _ from zg) m2);have BR:=(Blk.new' w _ _ gk hgk.symm).mod m2 (ze);obtain ⟨k0,k1,k2,k3,k4⟩:=(HBB.out.mod M2.out (ze)).cells5;have BRH:=Z BR;cases tb with
 | true=>
  simp only [if_true] at FIN;generalize zi1 f n=oe at *;obtain ⟨ot,oa⟩:=oe;unfold edv at ON FIN;simp only at ON FIN;clear m2 VA HA BR;go_wp2_with fail;refine (ON.out _).mono ?_;rintro e w3 ⟨rfl,m3⟩;have M3:=Z (Mod.trans' M2.out m3);have BR:=BRH.out.mod m3 (ze);obtain ⟨e0,e1⟩:=BR.cells2;obtain ⟨f0,f1,-⟩:=BR.frozs;have BR:=Z BR;clear m3 ON k0 k1 k2 k3 k4;go_wp2_with fail;have BX:=YC BR.out ⟨ot,oa⟩;obtain ⟨g0,g1⟩:=BX.cells2;have MX:=Z (YD M3.out gk ⟨ot,oa⟩ (D));change bodyPost _ _ _ _ _ (YM w3 gk ⟨ot,oa⟩);generalize YM w3 gk ⟨ot,oa⟩=X at *;exact kT
 | false=>
  simp only [Bool.false_eq_true,if_false] at FIN;unfold edv at FIN;simp only at FIN;obtain ⟨e0,e1⟩:=BR.cells2;obtain ⟨f0,f1,-⟩:=BR.frozs;clear m2 VA HA BR ON k0 k1 k2 k3 k4;go_wp2_with fail;have BX:=YC BRH.out ⟨0,0⟩;obtain ⟨g0,g1⟩:=BX.cells2;have MX:=Z (YD M2.out gk ⟨0,0⟩ (D));change bodyPost _ _ _ _ _ (YM w2 gk ⟨0,0⟩);generalize YM w2 gk ⟨0,0⟩=X at *;exact kT
open Go.RowKit
theorem ze4 {w:K} {v:Value} {xs:List Value} {F:List Nat} (h:Rv w v xs F) (h1:∀u∈xs,u.oneCell'=true) (hl:xs.length≤100000):
 Qb G 59 #[v] w fun e w'=>∃v',e=E v'∧NewV 3 w xs w' v':=by
 obtain ⟨A,cap,rfl,hc⟩:=h.shape;obtain ⟨i0,hi,hz0,hz1,hz2⟩:=info_parts Tryz.info3;have H:=Z h;have H1:=Z h1;clear h h1;generalize hn:xs.length=n at *;have HN:=Z hn;clear hn;have heq:=fun (w:K) (a:Option Addr) (n c:Nat)=>Go.Lib.run_eql_slice_nil (P:=G) w 22 3 a n c 0 0 Qf
 cases A with
 | none=>
  have h0:Hid (xs=[]):=by
   have h1:=H.out.src;rcases Nat.eq_zero_or_pos n with e | e
   ·exact List.eq_nil_of_length_eq_zero (by rw [HN.out,e])
   ·obtain ⟨a,e,_⟩:=h1 e;simp at e
  go_in;go_wp2_with fail;go_ret;refine ⟨_,rfl,?_⟩;rw [h0.out];exact NewV.nil 3 (Mod.refl _ _)
 | some a=>
  go_in;go_wp2_with (at_builtin;refine Xq _ rfl _ _ 22 rfl 3 i0 (.int π 0) 1 8 Qf hi hz0 hz1 hz2 rfl (zi) _ 0 [] [w.heap.size] rfl (Sl.lit w 3 1 0 #[] (zx) rfl) (C a) n cap xs rfl (xl) (H.out.mod (S:=[]) (zg) (ze)).src H1.out (zx) (D) ?_;intro v' w1 F' hs1 hm1 hf1);go_ret;exact ⟨_,rfl,NewV.of_empty hs1 HN.out hm1 hf1⟩
structure Perm (p:List Nat) (n:Nat):Prop where
 len:p.length=n
 lt:∀v∈p,v < n
 nd:p.Nodup
def ze0:List Nat→Nat
 | []=>0
 | x::l=>ze0 l ||| 2 ^ x
theorem zS0 (l:List Nat) (i:Nat):(ze0 l).testBit i=decide (i∈l):=by
 induction l with
 | nil=>simp [ze0]
 | cons x l ih=>
  rw [ze0,Nat.testBit_or,ih,Nat.testBit_two_pow];by_cases h:x=i
  ·subst h;simp
  ·have h':¬i=x:=fun e=>h e.symm
   simp [h,h']
theorem ym4 {l:List Nat} {n:Nat} (h:∀v∈l,v < n):ze0 l < 2 ^ n:=by
 induction l with
 | nil=>exact Nat.two_pow_pos n
 | cons x l ih=>
  rw [ze0];exact Qe (ih fun v hv=>h v (by simp [hv])) (σ (D) (h x (ze)))
theorem zf7 (m:Nat) (hm:m < 9223372036854775808):bits .and π (m:Int) 1=((m % 2:Nat):Int):=by
 have e:(Y 64 (m:Int) &&& Y 64 1).toNat=m % 2:=by
  have e1:Y 64 (m:Int)=ζ 64 m:=ρ ..;have e2:Y 64 1=ζ 64 1:=rfl;rw [e1,e2,BitVec.toNat_and,Ξ,Ξ,θ (D)];exact Nat.and_one_is_mod m
 show IntKind.i64.wrap ((Y 64 (m:Int) &&& Y 64 1).toNat:Int)=_;rw [e,IntWalk.i64_in _ (D)]
theorem ye0 (W x:Nat) (hW:W < 9223372036854775808):(bits .and π ((W:Int) / 2 ^ x) 1==1)=W.testBit x:=by
 have e1:(W:Int) / 2 ^ x=((W / 2 ^ x:Nat):Int):=by
  rw [Int.natCast_ediv];simp
 rw [e1,zf7 _ (Nat.lt_of_le_of_lt (Nat.div_le_self _ _) hW)]
 have h:W.testBit x=decide (W / 2 ^ x % 2=1):=by
  rw [Nat.testBit_eq_decide_div_mod_eq]
 rw [h];by_cases q:W / 2 ^ x % 2=1
 ·rw [q];simp
 ·have:W / 2 ^ x % 2=0:=D;rw [this];simp
theorem zz5 {w:K} {v:Value} {p:List Nat} {n:Nat} {F:List Nat} (h:Rv w v (p.map ei) F) (hp:Perm p n) (hn:n≤16):
 Qb G 97 #[v] w fun e w'=>e=E (.bool true)∧w'=w:=by
 obtain ⟨A,cap,rfl,hc⟩:=h.shape;have H:=Z h;have HP:=Z hp;simp only [Ψ] at H hc ⊢;rw [hp.len] at H hc ⊢;clear h hp;have hn':(n:Int)≤16:=D;go_in;go_wp2_with fail
 go_loop [11,3] (fun i s=>∃k:Nat,k≤n∧i=χ π k∧s=χ π (ze0 ((p.take k).reverse):Nat)) (fun i _=>n - (intOf i).toNat)
 case atStart=>exact ⟨0,D,rfl,rfl⟩
 case round=>
  obtain ⟨k,hk,rfl,rfl⟩:=hrel;by_cases hlt:k < n
  ·have hlt':(k:Int) < n:=D;have hk1:k < p.length:=by rw [HP.out.len];exact hlt
   obtain ⟨b1,o1,rfl,d1⟩:=H.out.at k (qZ);rw [Qh] at d1;have hxn:p[k] < n:=HP.out.lt _ (η _);have hml:ze0 ((p.take k).reverse) < 2 ^ n:=ym4 (fun v hv=>HP.out.lt v (Qa (Qi.1 hv)));have h16:2 ^ n≤65536:=xo
   have TA:Hid (ze0 ((p.take (k+1)).reverse)=ze0 ((p.take k).reverse) ||| 2 ^ p[k]):=by
    show _=_;rw [N hk1,List.reverse_append];rfl
   have NB:(ze0 ((p.take k).reverse)).testBit p[k]=false:=by
    rw [zS0,decide_eq_false_iff_not];intro hm;have hm:=Qi.1 hm;have hnd:=HP.out.nd;rw [←Γ k p,ι] at hnd;have hd:p[k]∈p.drop k:=ω.2 ⟨0,by rw [List.getElem?_drop];exact o hk1⟩;exact hnd.2.2 _ hm _ hd rfl
   have BA:Hid ((bits .and π ((ze0 ((p.take k).reverse):Int) / 2 ^ p[k]) 1==1)=false):=by
    show _=_;rw [ye0 _ _ (D)];exact NB
   have OR:=Z (zX5 (x:=ze0 ((p.take k).reverse)) (v:=p[k]) (D) (D));unfold ei at d1;have hm32:(ze0 ((p.take k).reverse):Int)≤65536:=D;generalize p[k]=x at *;generalize ze0 ((p.take k).reverse)=s at *;have hx0:(0:Int)≤x:=D;have hx1:(x:Int) < n:=D;have BA2:=BA.out;clear hml h16 NB hk1;go_wp2_with fail;exact ⟨⟨k+1,D,by go_num,by rw [TA.out,OR.out]⟩,zR⟩
  ·obtain rfl:k=n:=D;go_wp2_with fail;go_ret;exact ⟨rfl,rfl⟩
structure Inv (p q:List Nat):Prop where
 len:q.length=p.length
 at_:∀i,(h:i < p.length)→q[p[i]]? =C i
theorem zy6 {w:K} {v:Value} {p:List Nat} {n:Nat} {F:List Nat} (h:Rv w v (p.map ei) F) (hp:Perm p n) (hn:n≤16):
 Qb G 58 #[v] w fun e w'=>∃v' q,e=E (Qm #[v',.bool true])∧NewV 3 w (q.map ei) w' v'∧Inv p q:=by
 obtain ⟨A,cap,rfl,hc⟩:=h.shape;have RT:=Z (zz5 h hp hn);have H:=Z h;have HP:=Z hp;simp only [Ψ] at H hc RT ⊢;rw [hp.len] at H hc RT ⊢;clear h hp;have hn':(n:Int)≤16:=D;have hmk:=fun w=>zG2 w n (D)
 obtain ⟨g,hg⟩:∃g,w.heap.size=g:=⟨_,rfl⟩;go_in;go_wp2_with fail;refine RT.out.mono ?_;rintro e w' ⟨rfl,rfl⟩;go_wp2_with fail;have HG:=Z hg;have S0:=Z (Sl.made1 w' 3 n (χ π 0) (zx) g hg.symm);have M0:Hid (Mod [] w' (w'.alloc (.cells (madeCells #[χ π 0] n) 3))):=(Mod.refl _ _).alloc _;clear hmk RT hg;generalize w'.alloc (.cells (madeCells #[χ π 0] n) 3)=w0 at *
 go_loopw [15] (fun i wr=>∃k:Nat,∃xs:List Nat,k≤n∧i=χ π k∧Hid (xs.length=n)∧Hid (∀j,(h:j < p.length)→j < k→xs[p[j]]? =C j)∧Hid (Sl wr 3 1 (.slice (C ⟨g,0,φ⟩) n n) n (xs.map ei) [g])∧Hid (Mod [] w' wr)) (fun i _=>n - (intOf i).toNat)
 case atStart=>exact ⟨0,Ql n 0,D,rfl,yR,by intro j h hj;omega,by show Sl _ _ _ _ _ _ _;simpa [ei] using S0.out,M0⟩
 case round=>
  obtain ⟨k,xs,hk,rfl,HXL,HXS,HS,HM⟩:=hrel;clear S0 M0;by_cases hlt:k < n
  ·have hlt':(k:Int) < n:=D;have hk1:k < p.length:=by rw [HP.out.len];exact hlt
   obtain ⟨b1,o1,rfl,d1⟩:=(H.out.mod HM.out (ze)).at k (qZ);rw [Qh] at d1;obtain ⟨x,hx⟩:∃x,p[k]=x:=⟨_,rfl⟩;have hxn:x < n:=by rw [←hx];exact HP.out.lt _ (η _)
   have HX:=Z hx;rw [hx] at d1;unfold ei at d1;have hx0:(0:Int)≤x:=D;have hx1:(x:Int) < n:=D;obtain ⟨e1,e2,-⟩:=HS.out.at x (D);rw [List.getElem?_map,o (by rw [HXL.out];exact hxn)] at e1;simp only [Option.map_some,ei] at e1;have hbl:=Θ wr _ d1;clear hx;go_wp2_with fail;go_roundw
   case rel=>
    refine ⟨k+1,xs.set x k,D,by go_num,by show _=_;rw [List.length_set];exact HXL.out,?_,?_,?_⟩
    ·intro j hj hjk;rw [List.getElem?_set];by_cases q:x=p[j]
     ·rw [if_pos q,if_pos (by rw [HXL.out];exact hxn)];have:k=j:=(ψ (h₀:=hk1) (h₁:=hj) HP.out.nd).1 (HX.out.trans q);rw [this]
     ·rw [if_neg q];refine HXS.out j hj ?_;rcases Qd j k with h | h
      ·exact h
      ·obtain rfl:j=k:=D;exact absurd HX.out.symm q
    ·have:=HS.out.set x (ei k);show Sl _ _ _ _ _ _ _;rw [List.map_set];exact this
    ·exact HM.out.setCell _ _ (yq)
   case measure=>simp [intOf];omega
  ·obtain rfl:k=n:=D;go_wp2_with fail;go_ret2;refine ⟨_,xs,rfl,⟨[g],?_,HM.out,by intro q hq;simp at hq;subst hq;rw [HG.out];omega⟩,by rw [HXL.out,HP.out.len],fun i hi=>HXS.out i hi (by rw [←HP.out.len];exact hi)⟩;rw [Ψ,HXL.out];exact HS.out
def yN6 (w:K) (p:List Nat) (e:Ending) (w':K):Prop:=∃b q F,e=E (Qm #[γ (C ⟨b,0,φ⟩),χ .u8 0])∧IsOrd w' b p q F∧Inv p q∧Mod [] w w'∧∀k∈F,w.heap.size≤k
theorem kV {p:Prop} (h:p:=by
 intro k hk;have h1:=mq.size;simp at hk;rcases hk with rfl | hk | hk
 ·omega
 ·have:=fp k hk;omega
 ·exact fq k hk):p:=h
theorem kX {p:Prop} (h:p:=by
 simp only [Ψ] at sq ⊢
 exact (sq.mod m12 (ze)).mod ((Mod.refl [] w2).alloc _) (ze)):p:=h
theorem kY {p:Prop} (h:p:=by
 simp only [Ψ] at sp ⊢
 exact sp.mod ((Mod.refl [] w2).alloc _) (ze)):p:=h
theorem zx2 {w:K} {v:Value} {p:List Nat} {n:Nat} {F:List Nat} (h:Rv w v (p.map ei) F) (hp:Perm p n) (hn:n≤16):
 Qb G 25 #[v] w (yN6 w p):=by
 have IN:=Z (zy6 h hp hn);have CL:Hid (∀W,Mod [] w W→_):=fun W m=>ze4 (h.mod m (ze)) (yp5 p) (jX)
 have HP:=Z hp;clear h hp;go_in;go_wp2_with fail;refine IN.out.mono ?_;rintro e w1 ⟨v1,q,rfl,n1,inv⟩;obtain ⟨A1,cap1,rfl⟩:=n1.shape;have N1:=Z n1;have I1:=Z inv;clear n1 inv IN;go_wp2_with fail;refine (CL.out _ (N1.out.mod.trans' (show Mod [] w1 _ from zg))).mono ?_;rintro e w2 ⟨v2,rfl,n2⟩;obtain ⟨A2,cap2,rfl⟩:=n2.shape;have N2:=Z n2;clear n2 CL;go_wp2_with fail;obtain ⟨Fq,sq,mq,fq⟩:=N1.out;obtain ⟨Fp,sp,mp,fp⟩:=N2.out;have m12:Mod [] w1 w2:=mp;have hA:∀k∈Fq,k < w1.heap.size:=fun k hk=>sq.lt k hk
 have hs:=mp.size;go_ret2;refine ⟨w2.heap.size,q,w2.heap.size::(Fp++Fq),rfl,⟨_,_,Fp,Fq,Blk.new _ _ _,?_,?_,rfl,?_,?_⟩,I1.out,?_,?_⟩
 ·exact kY
 ·exact kX
 ·intro h;have:=sp.lt _ h;omega
 ·intro h;have:=hA _ h;omega
 ·exact (mq.trans' m12).alloc _
 ·exact kV
def GeT (l:Nat):Tr→Prop
 | .leaf _=>True
 | .node t b _ _ _ _=>l≤t∧t≤b
theorem GeT.le {l m:Nat} {T:Tr} (h:GeT m T) (hl:l≤m):GeT l T:=by
 cases T with
 | leaf b=>trivial
 | node t b tl x th y=>exact ⟨Qn hl h.1,h.2⟩
def VE (f l:Nat) (x:Nat × Tr):Prop:=
 if f=5 then x=(0,.leaf false)∨(x.2≠ .leaf false∧l≤x.1∧GeT x.1 x.2) else x.1=0∧GeT l x.2
def vw (f l:Nat) (x:Nat × Tr):(Nat × Tr) × (Nat × Tr):=
 if f=5∧¬x.1=l∨x.2=.leaf false then (x,x) else
 match x.2 with
 | .leaf b=>if f=5 then ((l+1,.leaf b),(0,.leaf false)) else if f=2∨f=4 then (x,(0,.leaf false)) else (x,x)
 | .node t b tl u th v=>
  if t=l then (if b=l then ((tl,u),(th,v)) else if f=3 then ((0,.node (l+1) b tl u th v),(th,v)) else ((0,.node (l+1) b tl u th v),(0,.node (l+1) b tl u th v)))
  else if f=5 then ((l+1,x.2),(0,.leaf false)) else if f=2∨f=4 then (x,(0,.leaf false)) else (x,x)
theorem Xf (f l:Nat) (x y:Nat × Tr):(∃t b tl u th v,x.2=.node t b tl u th v∧f=3∧t=l+1∧(th,v)=y∧zb3 f l x y=.node l b tl u y.1 y.2)∨
 (∃t b tl u th v,x.2=.node t b tl u th v∧f=4∧x=y∧t=l+1∧zb3 f l x y=.node l b tl u th v)∨zb3 f l x y=.node l l x.1 x.2 y.1 y.2:=by
 unfold zb3;cases hx:x.2 with
 | leaf b=>exact .inr (.inr rfl)
 | node t b tl u th v=>
  simp only;split
  ·rename_i h;exact .inl ⟨t,b,tl,u,th,v,rfl,h.1,h.2.1,h.2.2,rfl⟩
  ·split
   ·rename_i h;exact .inr (.inl ⟨t,b,tl,u,th,v,rfl,h.1,h.2.1,h.2.2,rfl⟩)
   ·exact .inr (.inr rfl)
theorem kW {p:Prop} (h:p:=by
 rw [h];have:=hx.2;rw [h1] at this
 exact ⟨Q _,Qn (by have:=this.1;omega) this.2⟩):p:=h
theorem VE.mk {f l:Nat} {x y:Nat × Tr} (hx:VE f (l+1) x) (hy:VE f (l+1) y):VE f l (mkE f l x y):=by
 by_cases h5:f=5
 ·subst h5;unfold VE at hx hy ⊢;simp only [if_true] at hx hy ⊢;unfold mkE;simp only [show ¬((5:Nat)=2∨(5:Nat)=4) from D,if_false,true_and,if_true];by_cases hxy:x=y
  ·rw [if_pos hxy];rcases hx with h | h
   ·exact .inl h
   ·exact .inr ⟨h.1,D,h.2.2⟩
  ·rw [if_neg hxy];by_cases hz:y.2=.leaf false∧x.1=l+1
   ·rw [if_pos hz];rcases hx with h | h
    ·rw [h] at hz;simp at hz
    ·exact .inr ⟨h.1,Q _,h.2.2.le (zj)⟩
   ·rw [if_neg hz];rcases Xf 5 l x y with ⟨_,_,_,_,_,_,_,h,_⟩ | ⟨_,_,_,_,_,_,_,h,_⟩ | h
    ·omega
    ·omega
    ·refine .inr ⟨by rw [h];simp,Q _,?_⟩;rw [h];exact ⟨Q _,Q _⟩
 ·unfold VE at hx hy ⊢;simp only [h5,if_false] at hx hy ⊢;unfold mkE;simp only [h5,false_and,if_false]
  have hn:(0:Nat)=0∧GeT l (zb3 f l x y):=by
   refine ⟨rfl,?_⟩;rcases Xf f l x y with ⟨t,b,tl,u,th,v,h1,_,h2,_,h⟩ | ⟨t,b,tl,u,th,v,h1,_,_,h2,h⟩ | h
   ·exact kW
   ·exact kW
   ·rw [h];exact ⟨Q _,Q _⟩
  have hxl:x.1=0∧GeT l x.2:=⟨hx.1,hx.2.le (D)⟩;split
  ·split
   ·exact hxl
   ·exact hn
  ·split
   ·exact hxl
   ·exact hn
theorem yE7 {f l:Nat} {x y:Nat × Tr} (h1:1≤f) (h5':f≤5) (hx:VE f (l+1) x) (hy:VE f (l+1) y):vw f l (mkE f l x y)=(x,y):=by
 by_cases h5:f=5
 ·subst h5;unfold VE at hx hy;simp only [if_true] at hx hy;unfold mkE;simp only [show ¬((5:Nat)=2∨(5:Nat)=4) from D,if_false,true_and,if_true];by_cases hxy:x=y
  ·subst hxy;rw [if_pos rfl];unfold vw;rw [if_pos];rcases hx with h | h
   ·right;rw [h]
   ·left;exact ⟨rfl,D⟩
  ·rw [if_neg hxy];by_cases hz:y.2=.leaf false∧x.1=l+1
   ·rw [if_pos hz]
    have hy':y=(0,.leaf false):=by
     rcases hy with h | h
     ·exact h
     ·exact absurd hz.1 h.1
    rcases hx with h | h
    ·rw [h] at hz;simp at hz
    ·unfold vw;rw [if_neg (by simp;exact h.1)];obtain ⟨xt,xT⟩:=x;simp only at hz h ⊢;cases xT with
     | leaf b=>simp [hz.2,hy']
     | node t b tl u th v=>
      have:=h.2.2.1;simp only;rw [if_neg (D)];simp [hz.2,hy']
   ·rw [if_neg hz];rcases Xf 5 l x y with ⟨_,_,_,_,_,_,_,h,_⟩ | ⟨_,_,_,_,_,_,_,h,_⟩ | h
    ·omega
    ·omega
    ·rw [h];unfold vw;rw [if_neg (ze)];simp
 ·unfold VE at hx hy;simp only [h5,if_false] at hx hy;have hns:∀T,¬T=Tr.leaf false→¬(f=5∧¬(0,T).1=l∨(0,T).2=Tr.leaf false):=fun T h=>by simp [h5,h]
  have hn:(hm:(f=2∨f=4)→¬y.2=.leaf false)→vw f l (0,zb3 f l x y)=(x,y):=by
   intro hm;rcases Xf f l x y with ⟨t,b,tl,u,th,v,e1,e0,e2,e3,h⟩ | ⟨t,b,tl,u,th,v,e1,e0,e3,e2,h⟩ | h
   ·rw [h];unfold vw;rw [if_neg (by simp [h5])];have:=hx.2;rw [e1] at this;have hb:¬b=l:=jY;simp only [if_true,if_neg hb,if_pos e0];obtain ⟨xt,xT⟩:=x;simp only at e1 hx;subst e1 e2;rw [←e3];simp [hx.1]
   ·rw [h];unfold vw;rw [if_neg (by simp [h5])];have:=hx.2;rw [e1] at this;have hb:¬b=l:=jY;simp only [if_true,if_neg hb,if_neg (show ¬f=3 from D)];rw [←e3];obtain ⟨xt,xT⟩:=x;simp only at e1 hx;subst e1 e2;simp [hx.1]
   ·rw [h];unfold vw;rw [if_neg (by simp [h5])];simp
  have hxx:∀z,z=(if f=2∨f=4 then ((0,.leaf false):Nat × Tr) else x)→vw f l x=(x,z):=by
   rintro z rfl;unfold vw;obtain ⟨xt,xT⟩:=x;simp only at hx;cases xT with
   | leaf b=>
    cases b with
    | false=>simp [hx.1]
    | true=>simp [h5];split<;>rfl
   | node t b tl u th v=>
    have:=hx.2.1;rw [if_neg (by simp [h5])];simp only [if_neg (show ¬t=l from D),h5,if_false];split<;>rfl
  unfold mkE;simp only [h5,false_and,if_false];split
  ·rename_i h24
   split
   ·rename_i hz
    refine hxx _ ?_;rw [if_pos h24];exact Prod.ext hy.1 hz
   ·rename_i hz
    exact hn fun _=>hz
  ·rename_i h24
   split
   ·rename_i hxy
    refine hxx _ ?_;rw [if_neg h24,hxy]
   ·exact hn fun h=>absurd h h24
theorem yh0 (f n:Nat) (b:Bool):VE f n (XX f n b):=by
 unfold VE XX;by_cases h5:f=5
 ·cases b<;>simp [h5,GeT]
 ·simp [h5,GeT]
theorem za2 (f n:Nat):∀(k l:Nat) (t:List Bool),l+k=n→VE f l (YE f n k l t):=by
 intro k
 induction k with
 | zero=>intro l t h;simp at h;subst h;exact yh0 _ _ _
 | succ k ih=>intro l t h;exact VE.mk (ih _ _ (D)) (ih _ _ (D))
theorem zt2 {f n:Nat} (h1:1≤f) (h5:f≤5) (k l:Nat) (t:List Bool) (h:l+(k+1)=n):vw f l (YE f n (k+1) l t)=(YE f n k (l+1) (t.take (2 ^ k)),YE f n k (l+1) (t.drop (2 ^ k))):=
 yE7 h1 h5 (za2 _ _ _ _ _ (D)) (za2 _ _ _ _ _ (D))
theorem zb9 {f n:Nat} (h1:1≤f) (h5:f≤5):∀(k l:Nat) (t u:List Bool),l+k=n→t.length=2 ^ k→u.length=2 ^ k→YE f n k l t=YE f n k l u→t=u:=by
 intro k
 induction k with
 | zero=>
  intro l t u h ht hu e;obtain ⟨a,rfl⟩:=ε.1 ht;obtain ⟨b,rfl⟩:=ε.1 hu;have:=congrArg Prod.snd e;simp [YE,XX] at this;rw [this]
 | succ k ih=>
  intro l t u h ht hu e;have e2:=congrArg (vw f l) e;rw [zt2 h1 h5 k l t h,zt2 h1 h5 k l u h] at e2;have e3:=ih (l+1) _ _ (D) (by rw [Qj,ht,ν];omega) (by rw [Qj,hu,ν];omega) (congrArg Prod.fst e2);have e4:=ih (l+1) _ _ (D) (by rw [Qk,ht,ν];omega) (by rw [Qk,hu,ν];omega) (congrArg Prod.snd e2);rw [←Γ (2 ^ k) t,e3,e4,Γ]
theorem VE.zero {f l:Nat} {x:Nat × Tr} (h:VE f l x) (hz:x.2=.leaf false):x=(0,.leaf false):=by
 unfold VE at h;split at h
 ·rcases h with h | h
  ·exact h
  ·exact absurd hz h.1
 ·exact Prod.ext h.1 hz
theorem zg4 {f n:Nat}:∀(k l:Nat) (t:List Bool),true∉t→YE f n k l t=(0,.leaf false):=by
 intro k
 induction k with
 | zero=>
  intro l t h
  have:t.headD false=false:=by
   cases t with
   | nil=>rfl
   | cons a t=>simp at h ⊢;exact h.1
  rw [YE,XX,this];simp
 | succ k ih=>
  intro l t h;rw [YE,ih _ _ (fun hm=>h (Qa hm)),ih _ _ (fun hm=>h (List.mem_of_mem_drop hm))];unfold mkE;simp
theorem zo3 {f n:Nat} (h1:1≤f) (h5:f≤5) (k l:Nat) (t:List Bool) (h:l+k=n) (ht:t.length=2 ^ k):(YE f n k l t).2=.leaf false↔true∉t:=by
 constructor
 ·intro e;have e2:=(za2 f n k l t h).zero e;have e3:=zg4 (f:=f) (n:=n) k l (Ql (2 ^ k) false) (ze);rw [zb9 h1 h5 k l t _ h ht (ze) (e2.trans e3.symm)];simp
 ·intro e;rw [zg4 k l t e]
def zn4 (p:List Nat) (i:Nat):List Nat:=(p.set i (p.getD (i+1) 0)).set (i+1) (p.getD i 0)
theorem zg3 (p:List Nat) (i:Nat):(zn4 p i).length=p.length:=by simp [zn4]
open Go.RowKit
def sg (k a:Nat):Nat:=if a=k then k+1 else if a=k+1 then k else a
theorem yC9 {k a b:Nat} (h:sg k a=sg k b):a=b:=by
 unfold sg at h
 repeat' split at h
 all_goals omega
theorem XV {p:List Nat} {k:Nat} (h:k+1 < p.length) (a:Nat):(zn4 p k)[a]? =p[sg k a]? :=by
 unfold zn4 sg;simp only [μ];by_cases h1:a=k
 ·subst h1;rw [if_pos rfl,O (D),J (D),o h];rfl
 ·rw [if_neg h1];by_cases h2:a=k+1
  ·subst h2;rw [if_pos rfl,J (zj),o (by omega:k < p.length)];rfl
  ·rw [if_neg h2,O (D),O (D)]
theorem Perm.swap {p:List Nat} {n k:Nat} (h:Perm p n) (hk:k+1 < n):Perm (zn4 p k) n:=by
 have hk':k+1 < p.length:=by rw [h.len];exact hk
 refine ⟨by rw [zg3,h.len],fun v hv=>?_,?_⟩
 ·obtain ⟨a,ha⟩:=ω.1 hv;rw [XV hk'] at ha;exact h.lt v (ω.2 ⟨_,ha⟩)
 ·unfold List.Nodup;rw [List.pairwise_iff_getElem];intro i j hi hj hij e;have hi2:=XV hk' i;have hj2:=XV hk' j;rw [o hi] at hi2;rw [o hj,←e,hi2] at hj2;rw [zg3] at hi hj
  have si:sg k i < p.length:=by
   unfold sg;repeat' split
   all_goals omega
  have sj:sg k j < p.length:=by
   unfold sg;repeat' split
   all_goals omega
  rw [o si,o sj] at hj2;have:=yC9 ((ψ (h₀:=si) (h₁:=sj) h.nd).1 (I hj2));omega
theorem zB1 {α:Type} [DecidableEq α]:∀(l m:List α),l.Nodup→(∀v∈l,v∈m)→l.length≤m.length
 | [],_,_,_=>ze
 | x::l,m,hn,h=>by
  have hx:=h x (ze);have hn2:=ξ.1 hn;have:=zB1 l (m.erase x) hn2.2 (fun v hv=>(τ (fun e=>hn2.1 (by rw [←e];exact hv))).2 (h v (by simp [hv])));rw [Φ hx] at this;have:=Δ hx;simp;omega
theorem Perm.mem {p:List Nat} {n x:Nat} (h:Perm p n) (hx:x < n):x∈p:=by
 by_cases hm:x∈p
 ·exact hm
 ·have:=zB1 (x::p) (List.range n) (ξ.2 ⟨hm,h.nd⟩) (fun v hv=>by
   rcases List.mem_cons.1 hv with rfl | hv
   ·simpa using hx
   ·simpa using h.lt v hv)
  simp [h.len] at this;omega
structure StpS (p q now l:List Nat) (n i:Nat):Prop where
 fold:now=l.foldl zn4 p
 pm:Perm now n
 ok:∀s∈l,s+1 < n
 tk:now.take i=q.take i
 len:l.length≤i *n
structure StpI (p q now l:List Nat) (n i m:Nat):Prop where
 fold:now=l.foldl zn4 p
 pm:Perm now n
 ok:∀s∈l,s+1 < n
 tk:now.take i=q.take i
 at_:now[m]? =q[i]?
 im:i≤m
 mn:m < n
 len:l.length+m≤i *n+n
theorem StpS.start {p q now l:List Nat} {n i m x:Nat} (h:StpS p q now l n i) (hq:Perm q n) (hi:i < n) (hx:q[i]? =C x) (hm:now[m]? =C x):StpI p q now l n i m:=by
 have hmn:m < n:=by rw [←h.pm.len];exact (List.getElem?_eq_some_iff.1 hm).1
 refine ⟨h.fold,h.pm,h.ok,h.tk,by rw [hm,hx],?_,hmn,by have:=h.len;omega⟩;rcases Qd m i with hlt | hge
 ·exfalso;have h1:(q.take i)[m]? =C x:=by rw [←h.tk,M hlt];exact hm
  rw [M hlt] at h1;have hml:m < q.length:=by rw [hq.len];exact hmn
  have hil:i < q.length:=by rw [hq.len];exact hi
  rw [o hml] at h1;rw [o hil] at hx;have:=(ψ (h₀:=hml) (h₁:=hil) hq.nd).1 (I (h1.trans hx.symm));omega
 ·exact hge
theorem StpI.step {p q now l:List Nat} {n i m:Nat} (h:StpI p q now l n i (m+1)) (hm:i≤m):StpI p q (zn4 now m) (l++[m]) n i m:=by
 have hk:m+1 < now.length:=by rw [h.pm.len];exact h.mn
 refine ⟨by rw [List.foldl_append,←h.fold];rfl,h.pm.swap h.mn,?_,?_,?_,hm,by have:=h.mn;omega,by have:=h.len;simp;omega⟩
 ·intro s hs;simp at hs;rcases hs with hs | rfl
  ·exact h.ok s hs
  ·exact h.mn
 ·rw [←h.tk];apply List.ext_getElem?;intro a;rcases Qd a i with ha | ha
  ·rw [M ha,M ha,XV hk];unfold sg;rw [if_neg (D),if_neg (D)]
  ·rw [κ ha,κ ha]
 ·rw [←h.at_,XV hk];unfold sg;rw [if_pos rfl]
theorem StpI.stop {p q now l:List Nat} {n i:Nat} (h:StpI p q now l n i i) (hq:Perm q n):StpS p q now l n (i+1):=by
 have h1:i < now.length:=by rw [h.pm.len];exact h.mn
 have h2:i < q.length:=by rw [hq.len];exact h.mn
 refine ⟨h.fold,h.pm,h.ok,?_,by have:=h.len;rw [Nat.succ_mul];omega⟩;rw [N h1,N h2,h.tk];have:=h.at_;rw [o h1,o h2] at this;rw [I this]
structure StpD (p q l:List Nat) (n:Nat):Prop where
 fold:l.foldl zn4 p=q
 ok:∀s∈l,s+1 < n
 len:l.length≤n *n
theorem StpS.done {p q now l:List Nat} {n:Nat} (h:StpS p q now l n n) (hq:Perm q n):StpD p q l n:=by
 refine ⟨?_,h.ok,h.len⟩;have:=h.tk;rw [δ (by rw [h.pm.len];exact Q _),δ (by rw [hq.len];exact Q _)] at this;rw [←h.fold];exact this
open Go.RowKit
def IsOrdD (w:K) (b:Nat) (p q:List Nat) (F:List Nat):Prop:=
 ∃vp vq Fp Fq,Blk w b #[vp,vq] 150∧Sl w 3 1 vp p.length (p.map ei) Fp∧Sl w 3 1 vq q.length (q.map ei) Fq∧F=b::(Fp++Fq)∧b∉Fp∧b∉Fq∧(∀k∈Fp,k∉Fq)
theorem IsOrdD.ord {w:K} {b:Nat} {p q F:List Nat} (h:IsOrdD w b p q F):IsOrd w b p q F:=by
 obtain ⟨vp,vq,Fp,Fq,h1,h2,h3,h4,h5,h6,-⟩:=h;exact ⟨vp,vq,Fp,Fq,h1,h2,h3,h4,h5,h6⟩
theorem IsOrdD.mod {S:List Nat} {w w':K} {b:Nat} {p q:List Nat} {F:List Nat} (h:IsOrdD w b p q F) (m:Mod S w w') (hd:∀k∈F,k∉S):IsOrdD w' b p q F:=by
 obtain ⟨vp,vq,Fp,Fq,h1,h2,h3,rfl,r⟩:=h;exact ⟨vp,vq,Fp,Fq,h1.mod m (hd b (ze)),h2.mod m (fun k hk=>hd k (zC)),h3.mod m (fun k hk=>hd k (zC)),rfl,r⟩
theorem IsOrdD.lt {w:K} {b:Nat} {p q:List Nat} {F:List Nat} (h:IsOrdD w b p q F):∀k∈F,k < w.heap.size:=by
 exact kU
def yD4 (w:K) (p:List Nat) (e:Ending) (w':K):Prop:=∃b q F,e=E (Qm #[γ (C ⟨b,0,φ⟩),χ .u8 0])∧IsOrdD w' b p q F∧Inv p q∧Mod [] w w'∧∀k∈F,w.heap.size≤k
theorem zK6 {w:K} {v:Value} {p:List Nat} {n:Nat} {F:List Nat} (h:Rv w v (p.map ei) F) (hp:Perm p n) (hn:n≤16):
 Qb G 25 #[v] w (yD4 w p):=by
 have IN:=Z (zy6 h hp hn);have CL:Hid (∀W,Mod [] w W→_):=fun W m=>ze4 (h.mod m (ze)) (yp5 p) (jX)
 have HP:=Z hp;clear h hp;go_in;go_wp2_with fail;refine IN.out.mono ?_;rintro e w1 ⟨v1,q,rfl,n1,inv⟩;obtain ⟨A1,cap1,rfl⟩:=n1.shape;have N1:=Z n1;have I1:=Z inv;clear n1 inv IN;go_wp2_with fail;refine (CL.out _ (N1.out.mod.trans' (show Mod [] w1 _ from zg))).mono ?_;rintro e w2 ⟨v2,rfl,n2⟩;obtain ⟨A2,cap2,rfl⟩:=n2.shape;have N2:=Z n2;clear n2 CL;go_wp2_with fail;obtain ⟨Fq,sq,mq,fq⟩:=N1.out;obtain ⟨Fp,sp,mp,fp⟩:=N2.out;have m12:Mod [] w1 w2:=mp;have hA:∀k∈Fq,k < w1.heap.size:=fun k hk=>sq.lt k hk
 have hs:=mp.size;go_ret2;refine ⟨w2.heap.size,q,w2.heap.size::(Fp++Fq),rfl,⟨_,_,Fp,Fq,Blk.new _ _ _,?_,?_,rfl,?_,?_,?_⟩,I1.out,?_,?_⟩
 ·exact kY
 ·exact kX
 ·intro h;have:=sp.lt _ h;omega
 ·intro h;have:=hA _ h;omega
 ·intro k h h';have:=hA _ h';have:=fp k h;omega
 ·exact (mq.trans' m12).alloc _
 ·exact kV
theorem Inv.swap {p q:List Nat} {n k:Nat} (h:Inv p q) (hp:Perm p n) (hk:k+1 < n):Inv (zn4 p k) ((q.set (p.getD k 0) (k+1)).set (p.getD (k+1) 0) k):=by
 have hkl:k+1 < p.length:=by rw [hp.len];exact hk
 have hk0:k < p.length:=D;refine ⟨by simp [zg3,h.len],fun i hi=>?_⟩;have g:=XV hkl i;rw [o hi] at g;have hi':i < p.length:=by rw [zg3] at hi;exact hi
 simp only [μ,o hkl,o hk0,Option.getD_some];have ql:∀j,(hj:j < p.length)→p[j] < q.length:=fun j hj=>by rw [h.len,hp.len];exact hp.lt _ (η _)
 have inj:∀a b,(ha:a < p.length)→(hb:b < p.length)→p[a]=p[b]→a=b:=fun a b ha hb e=>(ψ (h₀:=ha) (h₁:=hb) hp.nd).1 e
 unfold sg at g;by_cases q1:i=k
 ·subst q1;rw [if_pos rfl,o hkl] at g;rw [I g,J (by simp;exact ql _ hkl)]
 ·rw [if_neg q1] at g;by_cases q2:i=k+1
  ·subst q2;rw [if_pos rfl,o hk0] at g;rw [I g,O (fun e=>by have:=inj _ _ hkl hk0 e;omega),J (ql _ hk0)]
  ·rw [if_neg q2,o hi'] at g;rw [I g,O (fun e=>q2 (inj _ _ hkl hi' e).symm),O (fun e=>q1 (inj _ _ hk0 hi' e).symm)];exact h.at_ i hi'
def zD3 (f l:Nat) (e:Ed):Ed × Ed:=if f=5 then (⟨l+1,e.a⟩,⟨0,0⟩) else if f=2∨f=4 then (e,⟨0,0⟩) else (e,e)
def YG (L:List Rc) (f l:Nat) (e:Ed):List Rc × (Ed × Ed):=
 if f=5∧(e.a=0∨l < e.t) then (L,(e,e)) else
 match YO L e.a with
 | some r=>
  if l < r.top then (L,zD3 f l e)
  else if r.top=r.bot then (L,(r.lo,r.hi))
  else ((fnd L { r with top:=r.top+1 }).1,(⟨0,(fnd L { r with top:=r.top+1 }).2⟩,if f=3 then r.hi else ⟨0,(fnd L { r with top:=r.top+1 }).2⟩))
 | none=>(L,zD3 f l e)
structure ViewOk (L:List Rc) (f l n:Nat) (x:Nat × Tr) (r:List Rc × (Ed × Ed)):Prop where
 lo:RepE r.1 f r.2.1 (vw f l x).1
 hi:RepE r.1 f r.2.2 (vw f l x).2
 llo:LeadsP r.1 f r.2.1 (l+1) n
 lhi:LeadsP r.1 f r.2.2 (l+1) n
 good:Good r.1 n
 nodup:r.1.Nodup
 grown:∃L2,r.1=L++L2∧L2.length≤1
theorem zb6 (L:List Rc) (f l n:Nat):LeadsP L f ⟨0,0⟩ l n:=⟨⟨fun _=>rfl,fun _ h=>absurd rfl h⟩,.inl (ze)⟩
theorem yl5 {L:List Rc} {f l n:Nat} (hG:Good L n) (hnd:L.Nodup) (h1:1≤f) (h5:f≤5) (hl:l < n) {e:Ed} {x:Nat × Tr} (hP:LeadsP L f e l n) (hR:RepE L f e x) (hV:VE f l x):ViewOk L f l n x (YG L f l e):=by
 obtain ⟨tag,T⟩:=x;obtain ⟨t,a⟩:=e;have ht:t=tag:=hR.t;subst ht;have hra:=hR.a;simp only at hra
 have same:∀p q:Ed,∀y:(Nat × Tr) × (Nat × Tr),vw f l (t,T)=y→RepE L f p y.1→RepE L f q y.2→LeadsP L f p (l+1) n→LeadsP L f q (l+1) n→ViewOk L f l n (t,T) (L,(p,q)):=fun p q y hy a1 a2 a3 a4=>by
  subst hy;exact ⟨a1,a2,a3,a4,hG,hnd,[],ze,ze⟩
 by_cases f5:f=5
 ·subst f5;unfold VE at hV;simp only [if_true] at hV;by_cases h0:a=0
  ·subst h0;obtain rfl:T=.leaf false:=Rep.fun_ hra .zero
   obtain rfl:t=0:=by
    rcases hV with hV | hV
    ·simpa using hV
    ·exact absurd rfl hV.1
   unfold YG;rw [if_pos ⟨rfl,.inl rfl⟩];exact same _ _ ((0,.leaf false),(0,.leaf false)) (by unfold vw;rw [if_pos (.inr rfl)]) hR hR (zb6 _ _ _ _) (zb6 _ _ _ _)
  ·have hz:T≠ .leaf false:=by
    rintro rfl;have:=hra.invl;simp at this;exact h0 this
   have hV2:l≤t∧GeT t T:=by
    rcases hV with hV | hV
    ·simp at hV;exact absurd hV.2 hz
    ·exact hV.2
   have tn:t≤n:=(hP.plain.2 rfl h0).2;by_cases hlt:l < t
   ·unfold YG;rw [if_pos ⟨rfl,.inr hlt⟩]
    have hq:LeadsP L 5 ⟨t,a⟩ (l+1) n:=by
     refine ⟨⟨fun h=>absurd h (by simp [h0]),fun _ _=>⟨hlt,tn⟩⟩,hP.at_.imp id ?_⟩;rintro ⟨r,q1,q2,q3,q4,q5⟩;exact ⟨r,q1,q2,by simp only at q4;omega,q4,q5⟩
    exact same _ _ ((t,T),(t,T)) (by unfold vw;rw [if_pos (.inl ⟨rfl,zj⟩)]) hR hR hq hq
   ·obtain rfl:t=l:=D;unfold YG;rw [if_neg (by simp [h0])]
    have hpast:∀(hq:LeadsP L 5 ⟨t+1,a⟩ (t+1) n),vw 5 t (t,T)=((t+1,T),(0,.leaf false))→ViewOk L 5 t n (t,T) (L,zD3 5 t ⟨t,a⟩):=fun hq hv=>
     same ⟨t+1,a⟩ ⟨0,0⟩ _ hv ⟨rfl,hra⟩ ⟨rfl,.zero⟩ hq (zb6 _ _ _ _)
    cases hra with
    | zero=>exact absurd rfl h0
    | one=>
     have hn:YO L 1=φ:=xw;simp only [hn];exact hpast ⟨⟨fun h=>absurd h (ze),fun _ _=>⟨Q _,hl⟩⟩,.inl (ze)⟩ (by unfold vw;simp)
    | @node _ r A B hr hrf hA hB=>
     have hg:=hG a r hr;have htb:r.top=r.bot:=xx;simp only [hr];have glo:=hg.lo;have ghi:=hg.hi;rw [hrf] at glo ghi;have hge:=hV2.2.1;by_cases hlt2:t < r.top
     ·rw [if_pos hlt2];refine hpast ⟨⟨fun h=>absurd h (by simp [h0]),fun _ _=>⟨Q _,hl⟩⟩,.inr ⟨r,hr,hrf,hlt2,hlt2,?_⟩⟩ ?_
      ·have:=hg.right.bn;have:=hg.right.n16;omega
      ·unfold vw;rw [if_neg (ze)];simp only;rw [if_neg (D),if_pos trivial]
     ·rw [if_neg hlt2,if_pos htb];have e:r.top=t:=D;refine same _ _ ((r.lo.t,A),(r.hi.t,B)) ?_ ⟨rfl,hA⟩ ⟨rfl,hB⟩ (by rw [show t+1=r.bot+1 from D];exact glo) (by rw [show t+1=r.bot+1 from D];exact ghi);unfold vw;rw [if_neg (ze)];simp only;rw [if_pos e,if_pos (D)]
 ·unfold VE at hV;simp only [f5,if_false] at hV;obtain ⟨hV0,hV1⟩:=hV;subst hV0;unfold YG;rw [if_neg (xy)]
  have hpast:∀(hq:LeadsP L f ⟨0,a⟩ (l+1) n),vw f l (0,T)=(if f=2∨f=4 then ((0,T),(0,.leaf false)) else ((0,T),(0,T)))→ViewOk L f l n (0,T) (L,zD3 f l ⟨0,a⟩):=fun hq hv=>by
   unfold zD3;rw [if_neg f5];by_cases f24:f=2∨f=4
   ·rw [if_pos f24] at hv ⊢;exact same _ _ _ hv hR ⟨rfl,.zero⟩ hq (zb6 _ _ _ _)
   ·rw [if_neg f24] at hv ⊢;exact same _ _ _ hv hR hR hq hq
  cases hra with
  | zero=>
   have hn:YO L 0=φ:=xw;simp only [hn];refine hpast (zb6 _ _ _ _) ?_;unfold vw;rw [if_pos (.inr rfl)];simp
  | one=>
   have hn:YO L 1=φ:=xw;simp only [hn];refine hpast ⟨⟨fun _=>rfl,fun h=>absurd h f5⟩,.inl (ze)⟩ ?_;unfold vw;rw [if_neg (xy)];simp only;rw [if_neg f5]
  | @node _ r A B hr hrf hA hB=>
   have hg:=hG a r hr;simp only [hr];have glo:=hg.lo;have ghi:=hg.hi;rw [hrf] at glo ghi;have hge:=hV1.1;have b16:r.top≤16∧r.bot≤15:=by have:=hg.right.bn;have:=hg.right.n16;have:=hg.right.tb;omega
   by_cases hlt2:l < r.top
   ·rw [if_pos hlt2];refine hpast ⟨⟨fun _=>rfl,fun h=>absurd h f5⟩,.inr ⟨r,hr,hrf,hlt2,Qo _,b16.1⟩⟩ ?_;unfold vw;rw [if_neg (xy)];simp only;rw [if_neg (D),if_neg f5]
   ·rw [if_neg hlt2];have e:r.top=l:=D;by_cases htb:r.top=r.bot
    ·rw [if_pos htb];refine same _ _ ((r.lo.t,A),(r.hi.t,B)) ?_ ⟨rfl,hA⟩ ⟨rfl,hB⟩ (by rw [show l+1=r.bot+1 from D];exact glo) (by rw [show l+1=r.bot+1 from D];exact ghi);unfold vw;rw [if_neg (xy)];simp only;rw [if_pos e,if_pos (D)]
    ·rw [if_neg htb];have hge2:=hg.right.tb;have f34:r.f=3∨r.f=4:=xx;have gr:GoodR L n { r with top:=r.top+1 }:=⟨⟨hg.right.f1,hg.right.f5,zZ,hg.right.bn,hg.right.n16,.inr f34,hg.right.lo,hg.right.hi,hg.right.z,hg.right.b⟩,hg.lo,hg.hi⟩;have hid:=zF3 L { r with top:=r.top+1 };obtain ⟨L2,hL2⟩:=zq8 L { r with top:=r.top+1 };have zZ5:=hG.fnd gr;have nd2:=zw0 hnd { r with top:=r.top+1 }
     have hlen:L2.length≤1:=by
      have:(fnd L { r with top:=r.top+1 }).1.length≤L.length+1:=by unfold fnd;split<;>simp
      rw [hL2,Qc] at this;omega
     generalize hf:fnd L { r with top:=r.top+1 }=q at *
     have rep:Rep q.1 f q.2 (.node (l+1) r.bot r.lo.t A r.hi.t B):=by
      have:=Rep.node (L:=q.1) (f:=f) hid hrf (a:=A) (b:=B) (by rw [hL2];exact hA.grow _) (by rw [hL2];exact hB.grow _);simp only at this;rw [e] at this;exact this
     have lead:LeadsP q.1 f ⟨0,q.2⟩ (l+1) n:=⟨⟨fun _=>rfl,fun h=>absurd h f5⟩,.inr ⟨_,hid,hrf,zZ,Qo _,zZ⟩⟩
     have leadhi:LeadsP q.1 f r.hi (l+1) n:=by
      rw [hL2];refine LeadsP.grow ⟨?_,ghi.at_.imp id (fun ⟨r2,q1,q2,q3,q4⟩=>⟨r2,q1,q2,D,q4⟩)⟩ L2;exact ⟨fun _=>ghi.plain.1 (.inl f5),fun h=>absurd h f5⟩
     have hv:vw f l (0,.node r.top r.bot r.lo.t A r.hi.t B)=if f=3 then ((0,.node (l+1) r.bot r.lo.t A r.hi.t B),(r.hi.t,B)) else ((0,.node (l+1) r.bot r.lo.t A r.hi.t B),(0,.node (l+1) r.bot r.lo.t A r.hi.t B)):=by
      unfold vw;rw [if_neg (xy)];simp only;rw [if_pos e,if_neg (D)]
     have hB2:Rep q.1 f r.hi.a B:=by rw [hL2];exact hB.grow _
     by_cases f3:f=3
     ·rw [if_pos f3] at hv ⊢;exact ⟨jm,by rw [hv];exact ⟨rfl,hB2⟩,lead,leadhi,zZ5,nd2,L2,hL2,hlen⟩
     ·rw [if_neg f3] at hv ⊢;exact ⟨jm,jm,lead,lead,zZ5,nd2,L2,hL2,hlen⟩
end Go.Proofs.YtbnpoapmnkfhkaaGreatDoor
