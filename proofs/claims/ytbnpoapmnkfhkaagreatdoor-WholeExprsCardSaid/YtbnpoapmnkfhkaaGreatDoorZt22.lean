import Derived.Test.YtbnpoapmnkfhkaaGreatDoorZt20
import Derived.Laws.BitsAllLaws
import Derived.Deep.QuietTactic
import Derived.Deep.RegionHeld3
import Derived.Test.YtbnpoapmnkfhkaaGreatDoorZt15
import Derived.BigQuiet
set_option maxRecDepth 100000
set_option maxHeartbeats 4000000
set_option linter.unusedVariables false
set_option linter.unusedSimpArgs false
namespace Go.Proofs.YtbnpoapmnkfhkaaGreatDoor
open Go.Value renaming int → s, pointer → Θ, agg → Δ, slice → ι, tuple → θ
open Option renaming none → Z, some → U, map_some → μ
open Go.IntKind renaming u8 → Y, u32 → X, i64 → K, u64 → J
open Go.Lib renaming hid → R
open Nat renaming lt_of_le_of_lt → O, and_le_left → H, testBit_eq_decide_div_mod_eq → Ψ, mul_le_mul_right → Ξ, xor_lt_two_pow → Γ, two_pow_pos → φ, lt_of_lt_of_le → τ, succ_mul → σ, or_lt_two_pow → π, div_le_self → κ
open Go.Proofs.Tryz renaming prog → M, results299 → ν
open Go renaming World → L, Value → D, Calls → χ
open Go.Obj renaming cells → I
open Go.Proofs.YtbnpoapmnkfhkaaGreatDoor renaming zc → G, Mod → ψ
open Go.Ending renaming returned → E
open List renaming getElem?_eq_getElem → C, getElem?_cons_succ → B, getElem?_cons_zero → Ω, getElem?_toArray → Φ, getD_eq_getElem?_getD → ω, getElem?_map → ρ, getElem_mem → ξ
open Go.RowKit
theorem yE8 (h p:Int) (w:L):χ M 276 #[s J h,s J p] w fun e w'=>e=E (s J (zs4 h p))∧w'=w:=by
 go_in;go_wp2;go_ret;exact ⟨rfl,rfl⟩
theorem yz5 (t a:Nat) (w:L):χ M 277 #[Δ #[s Y t,s X a]] w fun e w'=>e=E (s J (zg9 t a))∧w'=w.alloc (I #[s Y t,s X a] 44):=by
 go_in;go_wp2;go_ret;exact ⟨rfl,rfl⟩
structure JbA where
 f:Nat
 op:Nat
 l:Nat
 a:Ed
 b:Ed
 c:Ed
 deriving DecidableEq
def JbA.cells (j:JbA):List D:=[s Y (j.f:Int),s Y (j.op:Int),s Y (j.l:Int),s Y (j.a.t:Int),s X (j.a.a:Int),s Y (j.b.t:Int),s X (j.b.a:Int),s Y (j.c.t:Int),s X (j.c.a:Int)]
theorem cells9 {w:L} {b:Nat} {t:TypeId} {c0 c1 c2 c3 c4 c5 c6 c7 c8:D} (h:Blk w b #[c0,c1,c2,c3,c4,c5,c6,c7,c8] t):
 w.cell? ⟨b,0,Z⟩=U c0∧w.cell? ⟨b,1,Z⟩=U c1∧w.cell? ⟨b,2,Z⟩=U c2∧w.cell? ⟨b,3,Z⟩=U c3∧w.cell? ⟨b,4,Z⟩=U c4∧w.cell? ⟨b,5,Z⟩=U c5∧w.cell? ⟨b,6,Z⟩=U c6∧w.cell? ⟨b,7,Z⟩=U c7∧w.cell? ⟨b,8,Z⟩=U c8:=
 ⟨h.cell 0,h.cell 1,h.cell 2,h.cell 3,h.cell 4,h.cell 5,h.cell 6,h.cell 7,h.cell 8⟩
theorem yA3 (f op l at_ aa bt ba ct ca:Nat) (w:L):χ M 275 #[Δ #[s Y f,s Y op,s Y l,s Y at_,s X aa,s Y bt,s X ba,s Y ct,s X ca]] w fun e w'=>∃h:Nat,e=E (s J h)∧h < 18446744073709551616∧ψ [] w w':=by
 have MX:=R yE8;have ED:=R yz5;obtain ⟨gk,hgk⟩:∃gk,w.heap.size=gk:=⟨_,rfl⟩;have BJ:=Blk.new' w #[s Y f,s Y op,s Y l,s Y at_,s X aa,s Y bt,s X ba,s Y ct,s X ca] 71 gk hgk.symm;have M0:Hid (ψ [] w (w.alloc (I #[s Y f,s Y op,s Y l,s Y at_,s X aa,s Y bt,s X ba,s Y ct,s X ca] 71))):=zg;go_in;go_wp2_with fail;obtain ⟨j0,j1,j2,j3,j4,j5,j6,j7,j8⟩:=cells9 BJ;have hj:=BJ.lt;clear BJ;generalize w.alloc (I #[s Y f,s Y op,s Y l,s Y at_,s X aa,s Y bt,s X ba,s Y ct,s X ca] 71)=w0 at *;refine (MX.out _ _ _).mono ?_;rintro e w1 ⟨rfl,hw⟩;subst hw;have JJ:Hid (gk < w1.heap.size∧w1.cell? ⟨gk,3,Z⟩=U (s Y at_)∧w1.cell? ⟨gk,4,Z⟩=U (s X aa)∧w1.cell? ⟨gk,5,Z⟩=U (s Y bt)∧w1.cell? ⟨gk,6,Z⟩=U (s X ba)∧w1.cell? ⟨gk,7,Z⟩=U (s Y ct)∧w1.cell? ⟨gk,8,Z⟩=U (s X ca)):=⟨hj,j3,j4,j5,j6,j7,j8⟩;have ED2:Hid (∀t a W,ψ [] w1 W→χ M 277 #[Δ #[s Y (t:Nat),s X (a:Nat)]] W fun e w'=>e=E (s J (zg9 t a))∧ψ [] w1 w'):=fun t a W m=>(ED.out t a W).mono (by rintro e w' ⟨rfl,rfl⟩;exact ⟨rfl,m.alloc _⟩)
 have JC:Hid (∀W,ψ [] w1 W→W.cell? ⟨gk,3,Z⟩=U (s Y at_)∧W.cell? ⟨gk,4,Z⟩=U (s X aa)∧W.cell? ⟨gk,5,Z⟩=U (s Y bt)∧W.cell? ⟨gk,6,Z⟩=U (s X ba)∧W.cell? ⟨gk,7,Z⟩=U (s Y ct)∧W.cell? ⟨gk,8,Z⟩=U (s X ca)):=fun W m=>by
  obtain ⟨h,k3,k4,k5,k6,k7,k8⟩:=JJ.out;exact ⟨(m.cell (a:=⟨gk,3,Z⟩) h (ze)).trans k3,(m.cell (a:=⟨gk,4,Z⟩) h (ze)).trans k4,(m.cell (a:=⟨gk,5,Z⟩) h (ze)).trans k5,(m.cell (a:=⟨gk,6,Z⟩) h (ze)).trans k6,(m.cell (a:=⟨gk,7,Z⟩) h (ze)).trans k7,(m.cell (a:=⟨gk,8,Z⟩) h (ze)).trans k8⟩
 generalize zs4 _ 1=hx;go_wp2_with fail
 go_region_held3 (fun w'=>ψ [] w1 w'∧w'.cell? ⟨gk,3,Z⟩=U (s Y at_)∧w'.cell? ⟨gk,4,Z⟩=U (s X aa)∧w'.cell? ⟨gk,5,Z⟩=U (s Y bt)∧w'.cell? ⟨gk,6,Z⟩=U (s X ba)∧w'.cell? ⟨gk,7,Z⟩=U (s Y ct)∧w'.cell? ⟨gk,8,Z⟩=U (s X ca)) (first | (refine ⟨yx,?_⟩;go_keep) | go_keep) (first | (go_at_call 277;refine (ED2.out _ _ _ (zy)).mono ?_;rintro e' w2 ⟨rfl,m2⟩;obtain ⟨k3,k4,k5,k6,k7,k8⟩:=JC.out w2 m2) | (go_at_call 276;refine (MX.out _ _ _).mono ?_;rintro e' w2 ⟨rfl,rfl⟩))
 all_goals
  go_wp2_with fail;go_ret;obtain ⟨r1,r2⟩:=zI8 (zs4 (zs4 hx (zg9 at_ aa)) (zg9 bt ba)) (zg9 ct ca);refine ⟨(zs4 (zs4 (zs4 hx (zg9 at_ aa)) (zg9 bt ba)) (zg9 ct ca)).toNat,?_,G,M0.out.trans' (jp)⟩;rw [Int.toNat_of_nonneg r1];rfl
open Go.RowKit
def TabP (ty m:Nat) (w:L) (g n:Nat) (P:List D→Prop):Prop:=
 ∃T,Blk w g T ty∧T.size=n *m∧∀i,i < n→∃e:List D,e.length=m∧P e∧∀j,j < m→T[i *m+j]? =e[j]?
theorem TabP.lt {ty m:Nat} {w:L} {g n:Nat} {P:List D→Prop} (h:TabP ty m w g n P):g < w.heap.size:=by obtain ⟨T,hb,_⟩:=h;exact hb.lt
theorem TabP.mod {S:List Nat} {ty m:Nat} {w w':L} {g n:Nat} {P:List D→Prop} (h:TabP ty m w g n P) (md:ψ S w w') (hn:g∉S):TabP ty m w' g n P:=by
 obtain ⟨T,hb,r⟩:=h;exact ⟨T,hb.mod md hn,r⟩
theorem TabP.imp {ty m:Nat} {w:L} {g n:Nat} {P Q:List D→Prop} (h:TabP ty m w g n P) (hq:∀e,P e→Q e):TabP ty m w g n Q:=by
 obtain ⟨T,hb,hs,r⟩:=h;exact ⟨T,hb,hs,fun i hi=>by obtain ⟨e,a,b,c⟩:=r i hi;exact ⟨e,a,hq e b,c⟩⟩
theorem TabP.at {ty m:Nat} {w:L} {g n:Nat} {P:List D→Prop} (h:TabP ty m w g n P) (i:Nat) (hi:i < n):∃e:List D,e.length=m∧P e∧∀j,j < m→w.cell? ⟨g,i *m+j,Z⟩=e[j]? ∧w.frozen? ⟨g,i *m+j,Z⟩=false:=by
 obtain ⟨T,hb,hs,r⟩:=h;obtain ⟨e,a,b,c⟩:=r i hi;exact ⟨e,a,b,fun j hj=>⟨by rw [hb.cell];exact c j hj,hb.froz _⟩⟩
def yK9 (w:L) (g:Nat):Nat→List D→L
 | _,[]=>w
 | o,v::l=>yK9 (w.setCell ⟨g,o,Z⟩ v) g (o+1) l
theorem yb4 {g:Nat} {ty:Nat}:∀(l:List D) (o:Nat) (w:L) (T:Array D),Blk w g T ty→∃T',Blk (yK9 w g o l) g T' ty∧T'.size=T.size∧∀k,T'[k]? =if o≤k∧k < o+l.length∧k < T.size then l[k - o]? else T[k]? :=by
 intro l
 induction l with
 | nil=>intro o w T h;exact ⟨T,h,rfl,fun k=>by rw [if_neg (zj)]⟩
 | cons v l ih=>
  intro o w T h;obtain ⟨T',hb,hs,hk⟩:=ih (o+1) _ _ (h.set o v);refine ⟨T',hb,by rw [hs];simp,fun k=>?_⟩;rw [hk];simp only [Array.size_setIfInBounds,List.length_cons];by_cases h1:o=k
  ·subst h1;rw [if_neg (G)];by_cases h2:o < T.size
   ·rw [if_pos ⟨Nat.le_refl _,G,h2⟩];simp [h2]
   ·rw [if_neg (G)];simp [h2];try omega
  ·rw [Array.getElem?_setIfInBounds_ne h1];by_cases h2:o+1≤k∧k < o+1+l.length∧k < T.size
   ·rw [if_pos h2,if_pos (G),show k - o=(k - (o+1))+1 from G,B]
   ·rw [if_neg h2,if_neg (G)]
theorem zG7 {g:Nat}:∀(l:List D) (o:Nat) (w:L),ψ [g] w (yK9 w g o l):=by
 intro l
 induction l with
 | nil=>intro o w;exact Mod.refl _ _
 | cons v l ih=>intro o w;exact ((Mod.refl [g] w).setCell ⟨g,o,Z⟩ v (ze)).trans' (ih _ _)
theorem TabP.store {ty m:Nat} {w:L} {g n:Nat} {P:List D→Prop} (h:TabP ty m w g n P) (q:Nat) (hq:q < n) (e:List D) (he:e.length=m) (hP:P e):TabP ty m (yK9 w g (q *m) e) g n P:=by
 obtain ⟨T,hb,hs,r⟩:=h;obtain ⟨T',hb',hs',hk⟩:=yb4 e (q *m) w T hb;refine ⟨T',hb',by rw [hs',hs],fun i hi=>?_⟩;have hqm:q *m+m≤n *m:=by rw [←σ];exact Ξ m hq
 have him:i *m+m≤n *m:=vG;by_cases hiq:i=q
 ·subst hiq;exact ⟨e,he,hP,fun j hj=>by rw [hk,if_pos (G),Nat.add_sub_cancel_left]⟩
 ·obtain ⟨e',a,b,c⟩:=r i hi;refine ⟨e',a,b,fun j hj=>?_⟩
  have:i *m+j < q *m∨q *m+m≤i *m+j:=by
   rcases Nat.lt_or_ge i q with h | h
   ·left;have:i *m+m≤q *m:=by rw [←σ];exact Ξ m h
    omega
   ·right;have:q *m+m≤i *m:=by rw [←σ];exact Ξ m (G)
    omega
  rw [hk,if_neg (G)];exact c j hj
def CHead (ty:Nat) (w:L) (b g n:Nat):Prop:=∃hi mi:Int,Blk w b #[ι (U ⟨g,0,Z⟩) n n,s K 1,s K hi,s K mi] ty
theorem CHead.lt {ty:Nat} {w:L} {b g n:Nat} (h:CHead ty w b g n):b < w.heap.size:=by obtain ⟨_,_,h⟩:=h;exact h.lt
theorem CHead.mod {S:List Nat} {ty:Nat} {w w':L} {b g n:Nat} (h:CHead ty w b g n) (m:ψ S w w') (hn:b∉S):CHead ty w' b g n:=by obtain ⟨x,y,h⟩:=h;exact ⟨x,y,h.mod m hn⟩
theorem yD9 (x j:Nat) (hx:x < 18446744073709551616) (hj:j≤20):bits .and J (x:Int) (((2 ^ j:Nat):Int) - 1)=((x % 2 ^ j:Nat):Int):=by
 have h2:2 ^ j≤2 ^ 20:=Nat.pow_le_pow_right (G) hj;have h3:1≤2 ^ j:=Nat.one_le_two_pow;have e:((2 ^ j:Nat):Int) - 1=((2 ^ j - 1:Nat):Int):=G;rw [e,u64_and_nat _ _ (G) (G),Nat.and_two_pow_sub_one_eq_mod]
theorem yE5 (f op l at_ aa bt ba ct ca:Nat) (b g j n:Nat) (hj:j≤20) (hn:n=2 ^ j) {w:L} (hb:CHead 153 w b g n):
 χ M 302 #[Θ (U ⟨b,0,Z⟩),Δ #[s Y f,s Y op,s Y l,s Y at_,s X aa,s Y bt,s X ba,s Y ct,s X ca]] w fun e w'=>∃q,q < n∧e=E (Θ (U ⟨g,q *12,Z⟩))∧ψ [] w w':=by
 obtain ⟨hi,mi,hb⟩:=hb;have c0:=hb.cell 0;simp at c0;have hbl:=hb.lt;have JH:=R (yA3 f op l at_ aa bt ba ct ca);have MK:=R (fun x hx=>yD9 x j hx hj);rw [←hn] at MK;have hn1:n≤1048576:=xp;have hn2:0 < n:=by rw [hn];exact φ j
 have hni:(1:Int)≤n:=G;have hnm:(n:Int)≤1048576:=G;have hw1:IntKind.u64.wrap ((n:Int) - 1)=(n:Int) - 1:=IntWalk.u64_in _ ⟨G,G⟩;have hw2:wrap64 ((n:Int) - 1)=(n:Int) - 1:=IntWalk.wrap64_in _ ⟨G,G⟩;have hw3:IntKind.i64.wrap ((n:Int) - 1)=(n:Int) - 1:=IntWalk.i64_in _ (G);obtain ⟨gk,hgk⟩:∃gk,w.heap.size=gk:=⟨_,rfl⟩;have BJ:=Blk.new' w #[s Y f,s Y op,s Y l,s Y at_,s X aa,s Y bt,s X ba,s Y ct,s X ca] 71 gk hgk.symm;have M0:Hid (ψ [] w (w.alloc (I #[s Y f,s Y op,s Y l,s Y at_,s X aa,s Y bt,s X ba,s Y ct,s X ca] 71))):=zg;have c0:=(M0.out.cell (a:=⟨b,0,Z⟩) hbl (ze)).trans c0;have hbl:=τ hbl M0.out.size;clear hb hn;go_in;go_wp2_with fail;obtain ⟨j0,j1,j2,j3,j4,j5,j6,j7,j8⟩:=cells9 BJ;have hjl:=BJ.lt;clear BJ;generalize w.alloc (I #[s Y f,s Y op,s Y l,s Y at_,s X aa,s Y bt,s X ba,s Y ct,s X ca] 71)=w0 at *
 have CC:Hid (∀W,ψ [] w0 W→W.cell? ⟨b,0,Z⟩=U (ι (U ⟨g,0,Z⟩) n n)∧W.cell? ⟨gk,0,Z⟩=U (s Y f)∧W.cell? ⟨gk,1,Z⟩=U (s Y op)∧W.cell? ⟨gk,2,Z⟩=U (s Y l)∧W.cell? ⟨gk,3,Z⟩=U (s Y at_)∧W.cell? ⟨gk,4,Z⟩=U (s X aa)∧W.cell? ⟨gk,5,Z⟩=U (s Y bt)∧W.cell? ⟨gk,6,Z⟩=U (s X ba)∧W.cell? ⟨gk,7,Z⟩=U (s Y ct)∧W.cell? ⟨gk,8,Z⟩=U (s X ca)):=fun W m=>
  ⟨(m.cell (a:=⟨b,0,Z⟩) hbl (ze)).trans c0,(m.cell (a:=⟨gk,0,Z⟩) hjl (ze)).trans j0,(m.cell (a:=⟨gk,1,Z⟩) hjl (ze)).trans j1,(m.cell (a:=⟨gk,2,Z⟩) hjl (ze)).trans j2,(m.cell (a:=⟨gk,3,Z⟩) hjl (ze)).trans j3,(m.cell (a:=⟨gk,4,Z⟩) hjl (ze)).trans j4,(m.cell (a:=⟨gk,5,Z⟩) hjl (ze)).trans j5,(m.cell (a:=⟨gk,6,Z⟩) hjl (ze)).trans j6,(m.cell (a:=⟨gk,7,Z⟩) hjl (ze)).trans j7,(m.cell (a:=⟨gk,8,Z⟩) hjl (ze)).trans j8⟩
 have JH2:Hid (∀W,ψ [] w0 W→χ M 275 #[Δ #[s Y f,s Y op,s Y l,s Y at_,s X aa,s Y bt,s X ba,s Y ct,s X ca]] W fun e w'=>∃h q:Nat,e=E (s J h)∧bits .and J (h:Int) ((n:Int) - 1)=(q:Int)∧(0:Int)≤q∧(q:Int) < n∧(q:Int)≤1048576∧ψ [] w0 w'):=fun W m=>(JH.out W).mono (by
  rintro e w' ⟨h,rfl,hl,m2⟩;have hq:=Nat.mod_lt h hn2
  exact ⟨h,h % n,rfl,MK.out h hl,G,G,G,m.trans' m2⟩)
 go_region_held3 (fun w'=>ψ [] w0 w'∧w'.cell? ⟨b,0,Z⟩=U (ι (U ⟨g,0,Z⟩) n n)∧w'.cell? ⟨gk,0,Z⟩=U (s Y f)∧w'.cell? ⟨gk,1,Z⟩=U (s Y op)∧w'.cell? ⟨gk,2,Z⟩=U (s Y l)∧w'.cell? ⟨gk,3,Z⟩=U (s Y at_)∧w'.cell? ⟨gk,4,Z⟩=U (s X aa)∧w'.cell? ⟨gk,5,Z⟩=U (s Y bt)∧w'.cell? ⟨gk,6,Z⟩=U (s X ba)∧w'.cell? ⟨gk,7,Z⟩=U (s Y ct)∧w'.cell? ⟨gk,8,Z⟩=U (s X ca)) (first | (refine ⟨yx,?_⟩;go_keep) | go_keep) (first | (go_at_call 275;refine (JH2.out _ (zy)).mono ?_;rintro e' w2 ⟨h,q,rfl,hmk,hq0,hq1,hq2,m2⟩;obtain ⟨c0,j0,j1,j2,j3,j4,j5,j6,j7,j8⟩:=CC.out w2 m2))
 all_goals
  go_wp2_with fail;go_ret;exact ⟨q,G,rfl,M0.out.trans' (jp)⟩
open Go.RowKit
theorem TabP.at12 {ty:Nat} {w':L} {g n:Nat} {P:List D→Prop} (h:TabP ty 12 w' g n P) (q:Nat) (hq:q < n):∃x0 x1 x2 x3 x4 x5 x6 x7 x8 x9 x10 x11:D,P [x0,x1,x2,x3,x4,x5,x6,x7,x8,x9,x10,x11]∧(w'.cell? ⟨g,q *12,Z⟩=U x0∧w'.cell? ⟨g,q *12+1,Z⟩=U x1∧w'.cell? ⟨g,q *12+2,Z⟩=U x2∧w'.cell? ⟨g,q *12+3,Z⟩=U x3∧w'.cell? ⟨g,q *12+4,Z⟩=U x4∧w'.cell? ⟨g,q *12+5,Z⟩=U x5∧w'.cell? ⟨g,q *12+6,Z⟩=U x6∧w'.cell? ⟨g,q *12+7,Z⟩=U x7∧w'.cell? ⟨g,q *12+8,Z⟩=U x8∧w'.cell? ⟨g,q *12+9,Z⟩=U x9∧w'.cell? ⟨g,q *12+10,Z⟩=U x10∧w'.cell? ⟨g,q *12+11,Z⟩=U x11)∧(w'.frozen? ⟨g,q *12,Z⟩=false∧w'.frozen? ⟨g,q *12+1,Z⟩=false∧w'.frozen? ⟨g,q *12+2,Z⟩=false∧w'.frozen? ⟨g,q *12+3,Z⟩=false∧w'.frozen? ⟨g,q *12+4,Z⟩=false∧w'.frozen? ⟨g,q *12+5,Z⟩=false∧w'.frozen? ⟨g,q *12+6,Z⟩=false∧w'.frozen? ⟨g,q *12+7,Z⟩=false∧w'.frozen? ⟨g,q *12+8,Z⟩=false∧w'.frozen? ⟨g,q *12+9,Z⟩=false∧w'.frozen? ⟨g,q *12+10,Z⟩=false∧w'.frozen? ⟨g,q *12+11,Z⟩=false):=by
 obtain ⟨e,he,hP,hc⟩:=h.at q hq
 match e,he with
 | [x0,x1,x2,x3,x4,x5,x6,x7,x8,x9,x10,x11],_=>
  exact ⟨x0,x1,x2,x3,x4,x5,x6,x7,x8,x9,x10,x11,hP,⟨(hc 0 (G)).1,(hc 1 (G)).1,(hc 2 (G)).1,(hc 3 (G)).1,(hc 4 (G)).1,(hc 5 (G)).1,(hc 6 (G)).1,(hc 7 (G)).1,(hc 8 (G)).1,(hc 9 (G)).1,(hc 10 (G)).1,(hc 11 (G)).1⟩,⟨(hc 0 (G)).2,(hc 1 (G)).2,(hc 2 (G)).2,(hc 3 (G)).2,(hc 4 (G)).2,(hc 5 (G)).2,(hc 6 (G)).2,(hc 7 (G)).2,(hc 8 (G)).2,(hc 9 (G)).2,(hc 10 (G)).2,(hc 11 (G)).2⟩⟩
theorem TabP.store12 {ty:Nat} {w:L} {g n o:Nat} {P:List D→Prop} {x0 x1 x2 x3 x4 x5 x6 x7 x8 x9 x10 x11:D} (h:TabP ty 12 w g n P) (q:Nat) (hq:q < n) (ho:o=q *12) (hP:P [x0,x1,x2,x3,x4,x5,x6,x7,x8,x9,x10,x11]):TabP ty 12 ((((((((((((w.setCell ⟨g,o,Z⟩ x0).setCell ⟨g,o+1,Z⟩ x1).setCell ⟨g,o+2,Z⟩ x2).setCell ⟨g,o+3,Z⟩ x3).setCell ⟨g,o+4,Z⟩ x4).setCell ⟨g,o+5,Z⟩ x5).setCell ⟨g,o+6,Z⟩ x6).setCell ⟨g,o+7,Z⟩ x7).setCell ⟨g,o+8,Z⟩ x8).setCell ⟨g,o+9,Z⟩ x9).setCell ⟨g,o+10,Z⟩ x10).setCell ⟨g,o+11,Z⟩ x11) g n P:=by
 subst ho;exact TabP.store h q hq [x0,x1,x2,x3,x4,x5,x6,x7,x8,x9,x10,x11] rfl hP
theorem yO2 (w:L) (g o:Nat) (x0 x1 x2 x3 x4 x5 x6 x7 x8 x9 x10 x11:D):ψ [g] w ((((((((((((w.setCell ⟨g,o,Z⟩ x0).setCell ⟨g,o+1,Z⟩ x1).setCell ⟨g,o+2,Z⟩ x2).setCell ⟨g,o+3,Z⟩ x3).setCell ⟨g,o+4,Z⟩ x4).setCell ⟨g,o+5,Z⟩ x5).setCell ⟨g,o+6,Z⟩ x6).setCell ⟨g,o+7,Z⟩ x7).setCell ⟨g,o+8,Z⟩ x8).setCell ⟨g,o+9,Z⟩ x9).setCell ⟨g,o+10,Z⟩ x10).setCell ⟨g,o+11,Z⟩ x11):=zG7 [x0,x1,x2,x3,x4,x5,x6,x7,x8,x9,x10,x11] o w
theorem yJ0 (f op l at_ aa bt ba ct ca vt va:Nat) (b g j n:Nat) (hj:j≤20) (hn:n=2 ^ j) {P:List D→Prop} {w:L} (hb:CHead 153 w b g n) (hT:TabP 390 12 w g n P) (hbg:b≠g)
 (hP:P [s Y f,s Y op,s Y l,s Y at_,s X aa,s Y bt,s X ba,s Y ct,s X ca,s Y vt,s X va,s K 1]):
 χ M 301 #[Θ (U ⟨b,0,Z⟩),Δ #[s Y f,s Y op,s Y l,s Y at_,s X aa,s Y bt,s X ba,s Y ct,s X ca],Δ #[s Y vt,s X va]] w fun e w'=>e=E (θ #[])∧TabP 390 12 w' g n P∧ψ [g] w w':=by
 have HB:=R hb;have HT:=R hT;have HPP:=R hP;have hgl:=hT.lt;have hbl:=hb.lt;have hbg':¬b=g:=hbg;have hgb':¬g=b:=fun e=>hbg e.symm
 obtain ⟨gk,hgk⟩:∃gk,w.heap.size=gk:=⟨_,rfl⟩;rw [hgk] at hgl hbl;have n1:¬gk=g:=G;have n2:¬g=gk:=G;have n3:¬gk+1=g:=G;have n4:¬g=gk+1:=G;have n5:¬b=gk:=G;have n6:¬gk=b:=G;have n7:¬b=gk+1:=G;have n8:¬gk+1=b:=G;have BJ:=(Blk.new' w #[s Y f,s Y op,s Y l,s Y at_,s X aa,s Y bt,s X ba,s Y ct,s X ca] 71 gk hgk.symm).alloc (I #[s Y vt,s X va] 44);have BE:=Blk.new' (w.alloc (I #[s Y f,s Y op,s Y l,s Y at_,s X aa,s Y bt,s X ba,s Y ct,s X ca] 71)) #[s Y vt,s X va] 44 (gk+1) (zk);have M0:Hid (ψ [] w ((w.alloc (I #[s Y f,s Y op,s Y l,s Y at_,s X aa,s Y bt,s X ba,s Y ct,s X ca] 71)).alloc (I #[s Y vt,s X va] 44))):=zg;clear hb hT hP hbg;go_in;go_wp2_with fail;obtain ⟨j0,j1,j2,j3,j4,j5,j6,j7,j8⟩:=cells9 BJ;obtain ⟨v0,v1⟩:=BE.cells2;have hjl:=BJ.lt;have hel:=BE.lt;clear BJ BE;generalize (w.alloc (I #[s Y f,s Y op,s Y l,s Y at_,s X aa,s Y bt,s X ba,s Y ct,s X ca] 71)).alloc (I #[s Y vt,s X va] 44)=w0 at *;have HB0:=R (HB.out.mod M0.out (ze));have HT0:=R (HT.out.mod M0.out (ze));have hbl0:=HB0.out.lt;have hgl0:=HT0.out.lt;have c1:w0.cell? ⟨b,1,Z⟩=U (s K 1):=vH
 have CC:Hid (∀W,ψ [] w0 W→W.cell? ⟨b,1,Z⟩=U (s K 1)∧W.cell? ⟨gk,0,Z⟩=U (s Y f)∧W.cell? ⟨gk,1,Z⟩=U (s Y op)∧W.cell? ⟨gk,2,Z⟩=U (s Y l)∧W.cell? ⟨gk,3,Z⟩=U (s Y at_)∧W.cell? ⟨gk,4,Z⟩=U (s X aa)∧W.cell? ⟨gk,5,Z⟩=U (s Y bt)∧W.cell? ⟨gk,6,Z⟩=U (s X ba)∧W.cell? ⟨gk,7,Z⟩=U (s Y ct)∧W.cell? ⟨gk,8,Z⟩=U (s X ca)∧W.cell? ⟨gk+1,0,Z⟩=U (s Y vt)∧W.cell? ⟨gk+1,1,Z⟩=U (s X va)):=fun W m=>
  ⟨(m.cell (a:=⟨b,1,Z⟩) hbl0 (ze)).trans c1,(m.cell (a:=⟨gk,0,Z⟩) hjl (ze)).trans j0,(m.cell (a:=⟨gk,1,Z⟩) hjl (ze)).trans j1,(m.cell (a:=⟨gk,2,Z⟩) hjl (ze)).trans j2,(m.cell (a:=⟨gk,3,Z⟩) hjl (ze)).trans j3,(m.cell (a:=⟨gk,4,Z⟩) hjl (ze)).trans j4,(m.cell (a:=⟨gk,5,Z⟩) hjl (ze)).trans j5,(m.cell (a:=⟨gk,6,Z⟩) hjl (ze)).trans j6,(m.cell (a:=⟨gk,7,Z⟩) hjl (ze)).trans j7,(m.cell (a:=⟨gk,8,Z⟩) hjl (ze)).trans j8,(m.cell (a:=⟨gk+1,0,Z⟩) hel (ze)).trans v0,(m.cell (a:=⟨gk+1,1,Z⟩) hel (ze)).trans v1⟩
 have AT2:Hid (∀W,ψ [] w0 W→χ M 302 #[Θ (U ⟨b,0,Z⟩),Δ #[s Y f,s Y op,s Y l,s Y at_,s X aa,s Y bt,s X ba,s Y ct,s X ca]] W fun e w'=>∃(o:Nat) (x0 x1 x2 x3 x4 x5 x6 x7 x8 x9 x10 x11:D),e=E (Θ (U ⟨g,o,Z⟩))∧Hid (∃q,q < n∧o=q *12)∧(w'.cell? ⟨g,o,Z⟩=U x0∧w'.cell? ⟨g,o+1,Z⟩=U x1∧w'.cell? ⟨g,o+2,Z⟩=U x2∧w'.cell? ⟨g,o+3,Z⟩=U x3∧w'.cell? ⟨g,o+4,Z⟩=U x4∧w'.cell? ⟨g,o+5,Z⟩=U x5∧w'.cell? ⟨g,o+6,Z⟩=U x6∧w'.cell? ⟨g,o+7,Z⟩=U x7∧w'.cell? ⟨g,o+8,Z⟩=U x8∧w'.cell? ⟨g,o+9,Z⟩=U x9∧w'.cell? ⟨g,o+10,Z⟩=U x10∧w'.cell? ⟨g,o+11,Z⟩=U x11)∧(w'.frozen? ⟨g,o,Z⟩=false∧w'.frozen? ⟨g,o+1,Z⟩=false∧w'.frozen? ⟨g,o+2,Z⟩=false∧w'.frozen? ⟨g,o+3,Z⟩=false∧w'.frozen? ⟨g,o+4,Z⟩=false∧w'.frozen? ⟨g,o+5,Z⟩=false∧w'.frozen? ⟨g,o+6,Z⟩=false∧w'.frozen? ⟨g,o+7,Z⟩=false∧w'.frozen? ⟨g,o+8,Z⟩=false∧w'.frozen? ⟨g,o+9,Z⟩=false∧w'.frozen? ⟨g,o+10,Z⟩=false∧w'.frozen? ⟨g,o+11,Z⟩=false)∧ψ [] w0 w'):=fun W m=>(yE5 f op l at_ aa bt ba ct ca b g j n hj hn (HB0.out.mod m (ze))).mono (by
  rintro e w' ⟨q,hq,rfl,m2⟩;obtain ⟨x0,x1,x2,x3,x4,x5,x6,x7,x8,x9,x10,x11,-,h1,h2⟩:=((HT0.out.mod m (ze)).mod m2 (ze)).at12 q hq
  exact ⟨q *12,x0,x1,x2,x3,x4,x5,x6,x7,x8,x9,x10,x11,rfl,⟨q,hq,rfl⟩,h1,h2,m.trans' m2⟩)
 go_region_held3 (fun w'=>w'.cell? ⟨b,1,Z⟩=U (s K 1)∧w'.cell? ⟨gk,0,Z⟩=U (s Y f)∧w'.cell? ⟨gk,1,Z⟩=U (s Y op)∧w'.cell? ⟨gk,2,Z⟩=U (s Y l)∧w'.cell? ⟨gk,3,Z⟩=U (s Y at_)∧w'.cell? ⟨gk,4,Z⟩=U (s X aa)∧w'.cell? ⟨gk,5,Z⟩=U (s Y bt)∧w'.cell? ⟨gk,6,Z⟩=U (s X ba)∧w'.cell? ⟨gk,7,Z⟩=U (s Y ct)∧w'.cell? ⟨gk,8,Z⟩=U (s X ca)∧w'.cell? ⟨gk+1,0,Z⟩=U (s Y vt)∧w'.cell? ⟨gk+1,1,Z⟩=U (s X va)) (go_keep) (first | (go_at_call 302;refine (AT2.out _ (zy)).mono ?_;rintro e' w2 ⟨o,x0,x1,x2,x3,x4,x5,x6,x7,x8,x9,x10,x11,rfl,HQ,⟨y0,y1,y2,y3,y4,y5,y6,y7,y8,y9,y10,y11⟩,⟨z0,z1,z2,z3,z4,z5,z6,z7,z8,z9,z10,z11⟩,m2⟩;obtain ⟨c1,j0,j1,j2,j3,j4,j5,j6,j7,j8,v0,v1⟩:=CC.out w2 m2))
 all_goals
  go_wp2_with fail
  go_end0
  obtain ⟨q,hq,ho⟩:=HQ.out;refine ⟨rfl,?_,?_⟩
  ·refine TabP.store12 (HT0.out.mod (S:=[]) ?_ (ze)) q hq ho HPP.out
   first | exact m2 | exact m2.drew | exact m2.drewN _
  ·refine ((M0.out.mono (S':=[g]) (ze)).trans' (Mod.mono (S:=[]) ?_ (ze))).trans' (yO2 _ _ _ _ _ _ _ _ _ _ _ _ _ _ _)
   first | exact m2 | exact m2.drew | exact m2.drewN _
open Go.RowKit
theorem yc0 (d:Nat) (a b:JbA) (w:L):(Op.equalIn (d+3) 71 (Δ a.cells.toArray) (Δ b.cells.toArray)).run M w=.ok (decide (a=b)) w:=by
 obtain ⟨af,ao,al,a1,a2,a3⟩:=a;obtain ⟨bf,bo,bl,b1,b2,b3⟩:=b;have u5:=Tryz.underlying5;have a5:=Tryz.isAgg5;have z5:=Tryz.sizeOf5;have u48:=Tryz.underlying41;have a48:=Tryz.isAgg41;have z48:=Tryz.sizeOf41;have a62:=Tryz.isAgg44;have z62:=Tryz.sizeOf44;have e1:=fun w=>Y4 d a1 b1 w
 have e2:=fun w=>Y4 d a2 b2 w
 have e3:=fun w=>Y4 d a3 b3 w
 have hS:Tryz.prog.underlying 71=U (.struct (Tryz.prog.fieldsOf 71)):=by kernel_rfl
 unfold JbA.cells;unfold edv at e1 e2 e3;obtain ⟨a1t,a1a⟩:=a1;obtain ⟨b1t,b1a⟩:=b1;obtain ⟨a2t,a2a⟩:=a2;obtain ⟨b2t,b2a⟩:=b2;obtain ⟨a3t,a3a⟩:=a3;obtain ⟨b3t,b3a⟩:=b3;simp only at e1 e2 e3 ⊢;generalize hd1:decide ((⟨a1t,a1a⟩:Ed)=⟨b1t,b1a⟩)=d1 at *;generalize hd2:decide ((⟨a2t,a2a⟩:Ed)=⟨b2t,b2a⟩)=d2 at *;generalize hd3:decide ((⟨a3t,a3a⟩:Ed)=⟨b3t,b3a⟩)=d3 at *
 have hd:decide ((⟨af,ao,al,⟨a1t,a1a⟩,⟨a2t,a2a⟩,⟨a3t,a3a⟩⟩:JbA)=⟨bf,bo,bl,⟨b1t,b1a⟩,⟨b2t,b2a⟩,⟨b3t,b3a⟩⟩)=(decide (af=bf) && (decide (ao=bo) && (decide (al=bl) && (d1 && (d2 && d3))))):=by
  rw [←hd1,←hd2,←hd3];simp [Bool.and_assoc]
 rw [hd];clear hd hd1 hd2 hd3;rw [run_equalIn_agg w (d+2) 71 _ _ hS (by kernel_rfl)];simp only [Program.fieldsOf,Tryz.underlying71];go_simp;by_cases h1:af=bf<;>by_cases h2:ao=bo<;>by_cases h3:al=bl<;>cases d1<;>cases d2<;>cases d3<;>simp [h1,h2,h3,Int.natCast_inj]
def EnA (V:JbA→Ed→Prop) (e:List D):Prop:=∃(j:JbA) (v:Ed) (ep:Nat),e=j.cells++[s Y (v.t:Int),s X (v.a:Int),s K (ep:Int)]∧(ep=0∨ep=1∧V j v)
theorem EnA.imp {V V':JbA→Ed→Prop} (h:∀j v,V j v→V' j v) {e:List D} (he:EnA V e):EnA V' e:=by
 obtain ⟨j,v,ep,r,q⟩:=he;exact ⟨j,v,ep,r,q.imp id fun ⟨a,b⟩=>⟨a,h _ _ b⟩⟩
def GetA (V:JbA→Ed→Prop) (j:JbA) (w:L) (b g n:Nat) (e:Ending) (w':L):Prop:=
 ∃(vt va:Nat) (ok:Bool),e=E (θ #[Δ #[s Y vt,s X va],.bool ok])∧(ok=true→V j ⟨vt,va⟩)∧CHead 153 w' b g n∧ψ [b] w w'
theorem ZL {p:Prop} (h:p:=by
 go_wp2_with fail
 have BX:Blk ((((w2.drewN nq).setCell ⟨b,3,Z⟩ (s K (wrap64 (mi+1)))).setCell ⟨gk+1,0,Z⟩ (s Y 0)).setCell ⟨gk+1,1,Z⟩ (s X 0)) (gk+1) #[(s Y 0),(s X 0)] 44:=by
  have:=(((BR2.out.drewN nq).other ⟨b,3,Z⟩ (s K (wrap64 (mi+1))) n8).set 0 (s Y 0)).set 1 (s X 0);simpa using this
 have HX:Blk ((((w2.drewN nq).setCell ⟨b,3,Z⟩ (s K (wrap64 (mi+1)))).setCell ⟨gk+1,0,Z⟩ (s Y 0)).setCell ⟨gk+1,1,Z⟩ (s X 0)) b #[ι (U ⟨g,0,Z⟩) n n,s K 1,s K hi,s K (wrap64 (mi+1))] 153:=by
  have:=(((HBB.out.drewN nq).set 3 (s K (wrap64 (mi+1)))).other ⟨gk+1,0,Z⟩ (s Y 0) n7).other ⟨gk+1,1,Z⟩ (s X 0) n7;simpa using this
 have MX:ψ [b,gk+1] w2 ((((w2.drewN nq).setCell ⟨b,3,Z⟩ (s K (wrap64 (mi+1)))).setCell ⟨gk+1,0,Z⟩ (s Y 0)).setCell ⟨gk+1,1,Z⟩ (s X 0)):=((((Mod.refl _ _).drewN nq).setCell _ _ (ze)).setCell _ _ (ze)).setCell _ _ (ze);obtain ⟨z0,z1⟩:=BX.cells2;generalize ((((w2.drewN nq).setCell ⟨b,3,Z⟩ (s K (wrap64 (mi+1)))).setCell ⟨gk+1,0,Z⟩ (s Y 0)).setCell ⟨gk+1,1,Z⟩ (s X 0))=wx at *;refine bodyPost_ret (v:=θ #[Δ #[(s Y 0),(s X 0)],.bool false]) (by simp [results,ν,go_sem,z0,z1];try rfl) rfl ?_
 exact ⟨0,0,false,rfl,(fun h=>zU),⟨hi,wrap64 (mi+1),HX⟩,(MW.out.mono (S':=[b]) (ze)).trans MX (yW)⟩):p:=h
theorem yG1 (f op l at_ aa bt ba ct ca:Nat) (b g j n:Nat) (hj:j≤20) (hn:n=2 ^ j) {V:JbA→Ed→Prop} {w:L} (hb:CHead 153 w b g n) (hT:TabP 390 12 w g n (EnA V)) (hbg:b≠g):
 χ M 299 #[Θ (U ⟨b,0,Z⟩),Δ #[s Y f,s Y op,s Y l,s Y at_,s X aa,s Y bt,s X ba,s Y ct,s X ca]] w (GetA V ⟨f,op,l,⟨at_,aa⟩,⟨bt,ba⟩,⟨ct,ca⟩⟩ w b g n):=by
 have HB:=R hb;have HT:=R hT;have hgl:=hT.lt;have hbl:=hb.lt;have EQ:=R (fun (x y:JbA) w=>yc0 9997 x y w);obtain ⟨gk,hgk⟩:∃gk,w.heap.size=gk:=⟨_,rfl⟩;have BJ:=R (((Blk.new' w #[s Y f,s Y op,s Y l,s Y at_,s X aa,s Y bt,s X ba,s Y ct,s X ca] 71 gk hgk.symm).alloc (I #[s Y 0,s X 0] 44)).alloc (I #[s Y 0,s X 0] 44));have BR:=R ((Blk.new' (w.alloc (I #[s Y f,s Y op,s Y l,s Y at_,s X aa,s Y bt,s X ba,s Y ct,s X ca] 71)) #[s Y 0,s X 0] 44 (gk+1) (zk)).alloc (I #[s Y 0,s X 0] 44));have BN:=R (Blk.new' ((w.alloc (I #[s Y f,s Y op,s Y l,s Y at_,s X aa,s Y bt,s X ba,s Y ct,s X ca] 71)).alloc (I #[s Y 0,s X 0] 44)) #[s Y 0,s X 0] 44 (gk+2) (zk));have M0:Hid (ψ [] w (((w.alloc (I #[s Y f,s Y op,s Y l,s Y at_,s X aa,s Y bt,s X ba,s Y ct,s X ca] 71)).alloc (I #[s Y 0,s X 0] 44)).alloc (I #[s Y 0,s X 0] 44))):=zg;have AT:=R (yE5 f op l at_ aa bt ba ct ca b g j n hj hn (HB.out.mod M0.out (ze)));have n5:¬b=gk:=G;have n6:¬gk=b:=G;have n7:¬b=gk+1:=G;have n8:¬gk+1=b:=G;have n9:¬b=gk+2:=G;have n10:¬gk+2=b:=G;have n11:¬b=g:=hbg;have n12:¬g=b:=fun e=>hbg e.symm
 have n13:¬g=gk+1:=G;have n14:¬gk+1=g:=G;clear hb hT hbg;go_in;go_wp2_with fail;refine AT.out.mono ?_;rintro e w2 ⟨q,hq,rfl,m2⟩;have HB2:=R ((HB.out.mod M0.out (ze)).mod m2 (ze));obtain ⟨x0,x1,x2,x3,x4,x5,x6,x7,x8,x9,x10,x11,⟨⟨f',op',l',⟨at',aa'⟩,⟨bt',ba'⟩,⟨ct',ca'⟩⟩,⟨vt,va⟩,ep,he,hv⟩,⟨y0,y1,y2,y3,y4,y5,y6,y7,y8,y9,y10,y11⟩,-⟩:=((HT.out.mod M0.out (ze)).mod m2 (ze)).at12 q hq;simp only [JbA.cells,List.cons_append,List.nil_append,List.cons.injEq,and_true] at he;obtain ⟨rfl,rfl,rfl,rfl,rfl,rfl,rfl,rfl,rfl,rfl,rfl,rfl⟩:=he;obtain ⟨j0,j1,j2,j3,j4,j5,j6,j7,j8⟩:=cells9 (BJ.out.mod m2 (ze));have BR2:=R (BR.out.mod m2 (ze));obtain ⟨r0,r1⟩:=BR2.out.cells2;obtain ⟨s0,s1,-⟩:=BR2.out.frozs;obtain ⟨k0,k1⟩:=(BN.out.mod m2 (ze)).cells2;have MW:=R (M0.out.trans' m2);obtain ⟨hi,mi,hbb⟩:=HB2.out;have HBB:=R hbb;have c1:=hbb.cell 1;have c2:=hbb.cell 2;have c3:=hbb.cell 3;have d2:=hbb.froz 2;have d3:=hbb.froz 3;simp only [Φ,Ω,B] at c1 c2 c3;have eq1:=fun w=>EQ.out ⟨f',op',l',⟨at',aa'⟩,⟨bt',ba'⟩,⟨ct',ca'⟩⟩ ⟨f,op,l,⟨at_,aa⟩,⟨bt,ba⟩,⟨ct,ca⟩⟩ w
 unfold JbA.cells at eq1;simp only at eq1;obtain ⟨o,ho⟩:∃o,q *12=o:=⟨_,rfl⟩;rw [ho] at y0 y1 y2 y3 y4 y5 y6 y7 y8 y9 y10 y11 ⊢;have hbl2:=hbb.lt;have hgl2:=World.block_lt_of_cell? w2 _ y0;have hrl2:=BR2.out.lt;clear m2 AT BJ BR BN M0 HB2 hbb ho;rcases hv with rfl | ⟨rfl,hv⟩
 ·go_wp2_with fail
  go_quiet (fail)
  exact ZL
 ·by_cases hjj:(⟨f',op',l',⟨at',aa'⟩,⟨bt',ba'⟩,⟨ct',ca'⟩⟩:JbA)=⟨f,op,l,⟨at_,aa⟩,⟨bt,ba⟩,⟨ct,ca⟩⟩
  ·rw [decide_eq_true hjj] at eq1;have HV:=R (hjj▸hv);clear hjj hv;go_wp2_with fail
   go_quiet (fail)
   go_wp2_with fail
   have BX:Blk ((((w2.drewN nq).setCell ⟨b,2,Z⟩ (s K (wrap64 (hi+1)))).setCell ⟨gk+1,0,Z⟩ (s Y vt)).setCell ⟨gk+1,1,Z⟩ (s X va)) (gk+1) #[(s Y vt),(s X va)] 44:=by
    have:=(((BR2.out.drewN nq).other ⟨b,2,Z⟩ (s K (wrap64 (hi+1))) n8).set 0 (s Y vt)).set 1 (s X va);simpa using this
   have HX:Blk ((((w2.drewN nq).setCell ⟨b,2,Z⟩ (s K (wrap64 (hi+1)))).setCell ⟨gk+1,0,Z⟩ (s Y vt)).setCell ⟨gk+1,1,Z⟩ (s X va)) b #[ι (U ⟨g,0,Z⟩) n n,s K 1,s K (wrap64 (hi+1)),s K mi] 153:=by
    have:=(((HBB.out.drewN nq).set 2 (s K (wrap64 (hi+1)))).other ⟨gk+1,0,Z⟩ (s Y vt) n7).other ⟨gk+1,1,Z⟩ (s X va) n7;simpa using this
   have MX:ψ [b,gk+1] w2 ((((w2.drewN nq).setCell ⟨b,2,Z⟩ (s K (wrap64 (hi+1)))).setCell ⟨gk+1,0,Z⟩ (s Y vt)).setCell ⟨gk+1,1,Z⟩ (s X va)):=((((Mod.refl _ _).drewN nq).setCell _ _ (ze)).setCell _ _ (ze)).setCell _ _ (ze);obtain ⟨z0,z1⟩:=BX.cells2;generalize ((((w2.drewN nq).setCell ⟨b,2,Z⟩ (s K (wrap64 (hi+1)))).setCell ⟨gk+1,0,Z⟩ (s Y vt)).setCell ⟨gk+1,1,Z⟩ (s X va))=wx at *;refine bodyPost_ret (v:=θ #[Δ #[(s Y vt),(s X va)],.bool true]) (by simp [results,ν,go_sem,z0,z1];try rfl) rfl ?_;exact ⟨vt,va,true,rfl,(fun _=>HV.out),⟨wrap64 (hi+1),mi,HX⟩,(MW.out.mono (S':=[b]) (ze)).trans MX (yW)⟩
  ·rw [decide_eq_false hjj] at eq1;clear hjj hv;go_wp2_with fail
   go_quiet (fail)
   exact ZL
open Go.RowKit
theorem zB3 {w:L} {b:Nat} {p q:List Nat} {F:List Nat} (h:IsOrd w b p q F) (hq:q.length≤16) (l:Nat) (hl:l < q.length):
 χ M 84 #[Θ (U ⟨b,0,Z⟩),s K l] w fun e w'=>e=E (s K (q[l]:Nat))∧w'=w:=by
 obtain ⟨vp,vq,Fp,Fq,h1,h2,h3,rfl,r⟩:=h;obtain ⟨g,cap,rfl,rfl,hcap⟩:=h3.pos (G);have c1:=h1.cell 1;simp only [Φ,Ω,B] at c1;have d0:=(h3.at l (G)).1;rw [ρ,C hl] at d0;simp only [μ] at d0;have AT:=R (yM6 (U ⟨g,0,Z⟩) g q.length cap l (q[l]:Nat) hl (G) w rfl d0);generalize (q[l]:Nat)=v at *;clear h1 h2 h3 d0;go_in;go_wp2_with fail;refine AT.out.mono ?_;rintro e w' ⟨rfl,rfl⟩;go_wp2_with fail;go_ret;exact ⟨rfl,rfl⟩
def zz0 (vars:Nat) (q:List Nat):Nat→Nat
 | 0=>0
 | k+1=>if vars.testBit k then zz0 vars q k ||| 2 ^ q.getD k 0 else zz0 vars q k
theorem zS2 {vars n:Nat} {q:List Nat} (hq:∀v∈q,v < n):∀k,k≤q.length→zz0 vars q k < 2 ^ n:=by
 intro k
 induction k with
 | zero=>intro _;exact φ n
 | succ k ih=>
  intro hk
  have hm:q.getD k 0 < n:=by
   rw [ω,C (G)];exact hq _ (ξ _)
  rw [zz0];split
  ·exact π (ih (G)) (Nat.pow_lt_pow_right (G) hm)
  ·exact ih (G)
theorem yk7 {vars:Nat} {q:List Nat} (i:Nat):∀k,((zz0 vars q k).testBit i=true↔∃v,v < k∧vars.testBit v=true∧q.getD v 0=i):=by
 intro k
 induction k with
 | zero=>simp [zz0]
 | succ k ih=>
  rw [zz0];split
  ·rename_i h
   rw [Nat.testBit_or,Nat.testBit_two_pow,Bool.or_eq_true,ih,decide_eq_true_eq];constructor
   ·rintro (⟨v,a,b,c⟩ | e)
    ·exact ⟨v,G,b,c⟩
    ·exact ⟨k,G,h,e⟩
   ·rintro ⟨v,a,b,c⟩;by_cases e:v=k
    ·subst e;exact .inr c
    ·exact .inl ⟨v,G,b,c⟩
  ·rename_i h
   rw [ih];constructor
   ·rintro ⟨v,a,b,c⟩;exact ⟨v,G,b,c⟩
   ·rintro ⟨v,a,b,c⟩;by_cases e:v=k
    ·subst e;exact absurd b h
    ·exact ⟨v,G,b,c⟩
theorem yf2 (x k:Nat) (hx:x < 65536):bits .and .u16 ((x:Int) / 2 ^ k) 1=if x.testBit k then 1 else 0:=by
 have e1:(x:Int) / 2 ^ k=((x / 2 ^ k:Nat):Int):=yk;have h1:x / 2 ^ k < 65536:=O (κ _ _) hx;rw [e1,show (1:Int)=((1:Nat):Int) from rfl,u16_and_nat _ _ h1 (G),Nat.and_one_is_mod,Ψ];by_cases q:x / 2 ^ k % 2=1
 ·simp [q]
 ·have:x / 2 ^ k % 2=0:=G;simp [this]
theorem zA3 {w:L} {b n:Nat} {p q:List Nat} {F:List Nat} (h:IsOrd w b p q F) (hp:p.length=n) (hq:q.length=n) (hn:n≤5) (hqv:∀v∈q,v < n) (x:Nat) (hx:x < 65536):
 χ M 338 #[Θ (U ⟨b,0,Z⟩),s .u16 x] w fun e w'=>e=E (s .u16 (zz0 x q n:Nat))∧w'=w:=by
 have VO:=R (Xh h);rw [hp] at VO;obtain ⟨vp,vq,Fp,Fq,h1,h2,h3,rfl,r⟩:=h;have c1:=h1.cell 1;simp only [Φ,Ω,B] at c1;obtain ⟨A,cap,rfl,hcap⟩:=h3.shape;have H3:=R h3;have B16:=R (fun k=>yf2 x k hx);have HQ:=R hq;have HV:=R hqv;rw [hq] at c1 H3 hcap;have hn':(n:Int)≤5:=G;clear h1 h2 h3 hq hqv hp;go_in;go_wp2_with fail;refine VO.out.mono ?_;rintro e w1 ⟨rfl,rfl⟩;go_wp2_with fail
 go_loopw [5,9] (fun a i wr=>∃(k y:Nat),i=s K k∧k≤n∧a=s .u16 y∧Hid (y=zz0 x q k)∧wr=w1) (fun _ i _=>n - (intOf i).toNat)
 case atStart=>exact ⟨0,0,rfl,G,rfl,rfl,rfl⟩
 case round=>
  obtain ⟨k,y,rfl,hk,rfl,hy,rfl⟩:=hrel;by_cases hlt:k < n
  ·have hlt':(k:Int) < n:=G;have hk0:(0:Int)≤k:=G;have hb:=B16.out k;cases hbit:x.testBit k with
   | false=>
    rw [hbit] at hb;simp only [Bool.false_eq_true,if_false] at hb;have HY:Hid (y=zz0 x q (k+1)):=by show _=_;rw [zz0,hbit,hy.out];rfl
    clear hbit;go_wp2_with fail;refine ⟨?_,zR⟩;exact ⟨k+1,y,ze,G,rfl,HY,trivial⟩
   | true=>
    rw [hbit] at hb;simp only [if_true] at hb;obtain ⟨g,cap',e1,hF,hc⟩:=Sl.pos H3.out (G);simp only [Value.slice.injEq] at e1;obtain ⟨rfl,-,rfl⟩:=e1;have hkq:k < q.length:=by rw [HQ.out];exact hlt
    have d0:=(Sl.at H3.out k (G)).1;rw [ρ,C hkq] at d0;simp only [μ] at d0;have hv:=HV.out _ (ξ hkq)
    have HY:Hid (zz0 x q (k+1)=y ||| 2 ^ q[k]):=by
     show _=_;rw [zz0,hbit,hy.out,ω,C hkq];rfl
    have hyl:y < 65536:=by
     rw [hy.out];exact τ (zS2 HV.out k (G)) (zF)
    clear hbit hF hc;generalize (q[k]:Nat)=v at *
    have ho:bits .or .u16 (y:Int) (IntKind.u16.wrap (2 ^ v))=((y ||| 2 ^ v:Nat):Int):=by
     have hp:2 ^ v < 65536:=vE
     have e:IntKind.u16.wrap (2 ^ v)=((2 ^ v:Nat):Int):=by
      rw [show ((2:Int) ^ v)=((2 ^ v:Nat):Int) from ze];clear B16 HQ HV hb d0;generalize 2 ^ v=pz at *;exact IntWalk.u16_in _ ⟨G,G⟩
     rw [e];exact u16_or_nat _ _ hyl hp
    have hv0:(0:Int)≤v:=G;generalize hz:y ||| 2 ^ v=z at *;have HZ:=R hz;clear hz hyl;go_wp2_with fail;refine ⟨?_,zR⟩;exact ⟨k+1,z,ze,G,by first | rfl | rw [ho],by show _=_;rw [HY.out],trivial⟩
  ·obtain rfl:k=n:=G;go_wp2_with fail;go_ret;exact ⟨by rw [hy.out];rfl,rfl⟩
open Go.RowKit
theorem yn9 (o a b:Nat) (ha:a < 18446744073709551616) (hb:b < 18446744073709551616):∀k,opN o a b k < 18446744073709551616:=by
 have hm:(18446744073709551616:Nat)=2 ^ 64:=rfl;have h1:18446744073709551615 < 2 ^ 64:=zi;intro k
 induction k with
 | zero=>exact φ 64
 | succ k ih=>
  rw [opN];split
  ·rw [hm] at *;refine π ih ?_;split
   ·exact O H (Γ h1 ha)
   ·split
    ·exact O Nat.and_le_right hb
    ·split
     ·exact O H ha
     ·exact O H ha
  ·exact ih
theorem bitI (o k:Nat) (ho:o≤15):bits .and K ((o:Int) / 2 ^ k) 1=if o.testBit k then 1 else 0:=by
 have e1:(o:Int) / 2 ^ k=((o / 2 ^ k:Nat):Int):=yk;have h1:o / 2 ^ k≤15:=Nat.le_trans (κ _ _) ho;rw [e1,zf7 _ (G),Ψ];by_cases q:o / 2 ^ k % 2=1
 ·simp [q]
 ·have:o / 2 ^ k % 2=0:=G;simp [this]
theorem yL0 (o a b:Nat) (ho:o≤15) (ha:a < 18446744073709551616) (hb:b < 18446744073709551616) (w:L):
 χ M 296 #[s K o,s J a,s J b] w fun e w'=>e=E (s J (opN o a b 4:Nat))∧w'=w:=by
 have X1:bits .xor J IntKind.u64.max (a:Int)=((18446744073709551615 ^^^ a:Nat):Int):=u64_xor_nat 18446744073709551615 a (zi) ha;have X2:bits .xor J IntKind.u64.max (b:Int)=((18446744073709551615 ^^^ b:Nat):Int):=u64_xor_nat 18446744073709551615 b (zi) hb;have l1:18446744073709551615 ^^^ a < 18446744073709551616:=Γ (n:=64) (zi) ha;have l2:18446744073709551615 ^^^ b < 18446744073709551616:=Γ (n:=64) (zi) hb;have Y0:=u64_and_nat _ _ l1 l2;have Y1:=u64_and_nat _ _ l1 hb;have Y2:=u64_and_nat _ _ ha l2;have Y3:=u64_and_nat _ _ ha hb;have OL:=R (yn9 o a b ha hb);have OS:Hid (∀k,opN o a b (k+1)=if o.testBit k then opN o a b k ||| (if k=0 then (18446744073709551615 ^^^ a) &&& (18446744073709551615 ^^^ b) else if k=1 then (18446744073709551615 ^^^ a) &&& b else if k=2 then a &&& (18446744073709551615 ^^^ b) else a &&& b) else opN o a b k):=fun k=>rfl
 have O0:Hid (opN o a b 0=0):=rfl;have BI:=R (fun k=>bitI o k ho);have B1:=O (H (n:=18446744073709551615 ^^^ a) (m:=18446744073709551615 ^^^ b)) l1;have B2:=O (H (n:=18446744073709551615 ^^^ a) (m:=b)) l1;have B3:=O (H (n:=a) (m:=18446744073709551615 ^^^ b)) ha;have B4:=O (H (n:=a) (m:=b)) ha;generalize hN:opN o a b=N at *;generalize 18446744073709551615 ^^^ a=a' at *;generalize 18446744073709551615 ^^^ b=b' at *;generalize a' &&& b'=p0 at *;generalize a' &&& b=p1 at *;generalize a &&& b'=p2 at *;generalize a &&& b=p3 at *;have HB:=R (And.intro B1 (And.intro B2 (And.intro B3 B4)));clear l1 l2 ha hb hN B1 B2 B3 B4;have IX0:∀w:L,(Instr.index 399 (Δ #[s J p0,s J p1,s J p2,s J p3]) (s K 0)).run M w=.ok (s J p0) w:=fun w=>by kernel_rfl
 have IX1:∀w:L,(Instr.index 399 (Δ #[s J p0,s J p1,s J p2,s J p3]) (s K 1)).run M w=.ok (s J p1) w:=fun w=>by kernel_rfl
 have IX2:∀w:L,(Instr.index 399 (Δ #[s J p0,s J p1,s J p2,s J p3]) (s K 2)).run M w=.ok (s J p2) w:=fun w=>by kernel_rfl
 have IX3:∀w:L,(Instr.index 399 (Δ #[s J p0,s J p1,s J p2,s J p3]) (s K 3)).run M w=.ok (s J p3) w:=fun w=>by kernel_rfl
 go_in;go_wp2_with fail
 go_loopw [7,27] (fun u i wr=>∃k y:Nat,i=s K k∧k≤4∧u=s J y∧Hid (y=N k)∧wr=w) (fun _ i _=>4 - (intOf i).toNat)
 case atStart=>exact ⟨0,0,rfl,G,rfl,O0.out.symm,rfl⟩
 case round=>
  obtain ⟨k,y,rfl,hk,rfl,hy,rfl⟩:=hrel;have hb:=BI.out k;have hs:=OS.out k;have hyl:y < 18446744073709551616:=by rw [hy.out];exact OL.out k
  cases hbit:o.testBit k with
  | false=>
   rw [hbit] at hb hs;simp only [Bool.false_eq_true,if_false] at hb hs;have HY:Hid (y=N (k+1)):=hy.out.trans hs.symm;clear hs hbit hyl;obtain rfl | rfl | rfl | rfl | rfl:k=0∨k=1∨k=2∨k=3∨k=4:=G
   case inr.inr.inr.inr=>
    go_wp2_with fail;go_ret;exact ⟨by rw [←hy.out];rfl,rfl⟩
   all_goals
    simp at hb;go_wp2_with fail;refine ⟨?_,zr⟩;exact ⟨_,y,rfl,zi,rfl,HY,trivial⟩
  | true=>
   rw [hbit] at hb hs;simp only [if_true] at hb hs;clear hbit;obtain rfl | rfl | rfl | rfl | rfl:k=0∨k=1∨k=2∨k=3∨k=4:=G
   case inr.inr.inr.inr=>
    clear hs hb hyl;go_wp2_with fail;go_ret;exact ⟨by rw [←hy.out];rfl,rfl⟩
   case inl=>
    replace hs:N 1=N 0 ||| p0:=hs;have ho:=u64_or_nat y p0 hyl HB.out.1;rw [hy.out] at ho;rw [←hs,←hy.out] at ho;clear hs hyl;simp at hb;go_wp2_with fail;refine ⟨?_,zr⟩;exact ⟨1,N 1,rfl,zi,rfl,rfl,trivial⟩
   case inr.inl=>
    replace hs:N 2=N 1 ||| p1:=hs;have ho:=u64_or_nat y p1 hyl HB.out.2.1;rw [hy.out] at ho;rw [←hs,←hy.out] at ho;clear hs hyl;simp at hb;go_wp2_with fail;refine ⟨?_,zr⟩;exact ⟨2,N 2,rfl,zi,rfl,rfl,trivial⟩
   case inr.inr.inl=>
    replace hs:N 3=N 2 ||| p2:=hs;have ho:=u64_or_nat y p2 hyl HB.out.2.2.1;rw [hy.out] at ho;rw [←hs,←hy.out] at ho;clear hs hyl;simp at hb;go_wp2_with fail;refine ⟨?_,zr⟩;exact ⟨3,N 3,rfl,zi,rfl,rfl,trivial⟩
   case inr.inr.inr.inl=>
    replace hs:N 4=N 3 ||| p3:=hs;have ho:=u64_or_nat y p3 hyl HB.out.2.2.2;rw [hy.out] at ho;rw [←hs,←hy.out] at ho;clear hs hyl;simp at hb;go_wp2_with fail;refine ⟨?_,zr⟩;exact ⟨4,N 4,rfl,zi,rfl,rfl,trivial⟩
end Go.Proofs.YtbnpoapmnkfhkaaGreatDoor
