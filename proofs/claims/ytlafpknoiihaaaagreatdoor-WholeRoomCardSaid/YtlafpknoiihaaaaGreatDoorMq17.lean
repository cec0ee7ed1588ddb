/- Mq17: C1 · C2 · C3 · C4 · J4 · Ja · Jd -/
import Derived.Test.YtlafpknoiihaaaaGreatDoorMq09
import Derived.Test.YtlafpknoiihaaaaGreatDoorMq14
import Derived.Test.YtlafpknoiihaaaaGreatDoorMq01
import Derived.Laws.BitsAllLaws
import Derived.Deep.QuietTactic
import Derived.Deep.RegionHeld3
import Derived.Test.YtlafpknoiihaaaaGreatDoorMq03
import Derived.Test.YtlafpknoiihaaaaGreatDoorMq02
import Derived.BigQuiet
import Derived.Test.YtlafpknoiihaaaaGreatDoorMq16
import Derived.Test.YtlafpknoiihaaaaGreatDoorMq15
import Derived.Laws.EntriesVeiled
import Derived.Deep.RegionLaw
set_option maxRecDepth 100000
set_option maxHeartbeats 4000000
set_option linter.unusedVariables false
set_option linter.unusedSimpArgs false
namespace Go.Proofs.YtlafpknoiihaaaaGreatDoor
open Go.RowKit
theorem amix_c (h p:Int) (w:World):Calls Tryz.prog 245 #[.int .u64 h,.int .u64 p] w fun e w'=>e=.returned (.int .u64 (mixv h p))∧w'=w:=by
 go_enter Tryz.func245,Tryz.ntmps245
 go_wp2
 go_ret
 exact ⟨rfl,rfl⟩
theorem aedge_c (t a:Nat) (w:World):Calls Tryz.prog 246 #[.agg #[.int .u8 t,.int .u32 a]] w fun e w'=>e=.returned (.int .u64 (part2 t a))∧w'=w.alloc (.cells #[.int .u8 t,.int .u32 a] 66):=by
 go_enter Tryz.func246,Tryz.ntmps246
 go_wp2
 go_ret
 exact ⟨rfl,rfl⟩
structure JbA where
 f:Nat
 op:Nat
 l:Nat
 a:Ed
 b:Ed
 c:Ed
 deriving DecidableEq
def JbA.cells (j:JbA):List Value:=[.int .u8 (j.f:Int),.int .u8 (j.op:Int),.int .u8 (j.l:Int),.int .u8 (j.a.t:Int),.int .u32 (j.a.a:Int),.int .u8 (j.b.t:Int),.int .u32 (j.b.a:Int),.int .u8 (j.c.t:Int),.int .u32 (j.c.a:Int)]
theorem cells9 {w:World} {b:Nat} {t:TypeId} {c0 c1 c2 c3 c4 c5 c6 c7 c8:Value} (h:Blk w b #[c0,c1,c2,c3,c4,c5,c6,c7,c8] t):
 w.cell? ⟨b,0,none⟩=some c0∧w.cell? ⟨b,1,none⟩=some c1∧w.cell? ⟨b,2,none⟩=some c2∧w.cell? ⟨b,3,none⟩=some c3∧w.cell? ⟨b,4,none⟩=some c4∧w.cell? ⟨b,5,none⟩=some c5∧w.cell? ⟨b,6,none⟩=some c6∧w.cell? ⟨b,7,none⟩=some c7∧w.cell? ⟨b,8,none⟩=some c8:=
 ⟨h.cell 0,h.cell 1,h.cell 2,h.cell 3,h.cell 4,h.cell 5,h.cell 6,h.cell 7,h.cell 8⟩
theorem jhash_c (f op l at_ aa bt ba ct ca:Nat) (w:World):Calls Tryz.prog 244 #[.agg #[.int .u8 f,.int .u8 op,.int .u8 l,.int .u8 at_,.int .u32 aa,.int .u8 bt,.int .u32 ba,.int .u8 ct,.int .u32 ca]] w fun e w'=>∃h:Nat,e=.returned (.int .u64 h)∧h < 18446744073709551616∧Mod [] w w':=by
 have MX:=Lib.hid amix_c
 have ED:=Lib.hid aedge_c
 obtain ⟨gk,hgk⟩:∃gk,w.heap.size=gk:=⟨_,rfl⟩
 have BJ:=Blk.new' w #[.int .u8 f,.int .u8 op,.int .u8 l,.int .u8 at_,.int .u32 aa,.int .u8 bt,.int .u32 ba,.int .u8 ct,.int .u32 ca] 122 gk hgk.symm
 have M0:Hid (Mod [] w (w.alloc (.cells #[.int .u8 f,.int .u8 op,.int .u8 l,.int .u8 at_,.int .u32 aa,.int .u8 bt,.int .u32 ba,.int .u8 ct,.int .u32 ca] 122))):=by exact mods
 go_enter Tryz.func244,Tryz.ntmps244
 go_wp2_with fail
 obtain ⟨j0,j1,j2,j3,j4,j5,j6,j7,j8⟩:=cells9 BJ
 have hj:=BJ.lt
 clear BJ
 generalize w.alloc (.cells #[.int .u8 f,.int .u8 op,.int .u8 l,.int .u8 at_,.int .u32 aa,.int .u8 bt,.int .u32 ba,.int .u8 ct,.int .u32 ca] 122)=w0 at *
 refine (MX.out _ _ _).mono ?_
 rintro e w1 ⟨rfl,hw⟩
 subst hw
 have JJ:Hid (gk < w1.heap.size∧w1.cell? ⟨gk,3,none⟩=some (.int .u8 at_)∧w1.cell? ⟨gk,4,none⟩=some (.int .u32 aa)∧w1.cell? ⟨gk,5,none⟩=some (.int .u8 bt)∧w1.cell? ⟨gk,6,none⟩=some (.int .u32 ba)∧w1.cell? ⟨gk,7,none⟩=some (.int .u8 ct)∧w1.cell? ⟨gk,8,none⟩=some (.int .u32 ca)):=⟨hj,j3,j4,j5,j6,j7,j8⟩
 have ED2:Hid (∀t a W,Mod [] w1 W→Calls Tryz.prog 246 #[.agg #[.int .u8 (t:Nat),.int .u32 (a:Nat)]] W fun e w'=>e=.returned (.int .u64 (part2 t a))∧Mod [] w1 w'):=fun t a W m=>(ED.out t a W).mono (by rintro e w' ⟨rfl,rfl⟩;exact ⟨rfl,m.alloc _⟩)
 have JC:Hid (∀W,Mod [] w1 W→W.cell? ⟨gk,3,none⟩=some (.int .u8 at_)∧W.cell? ⟨gk,4,none⟩=some (.int .u32 aa)∧W.cell? ⟨gk,5,none⟩=some (.int .u8 bt)∧W.cell? ⟨gk,6,none⟩=some (.int .u32 ba)∧W.cell? ⟨gk,7,none⟩=some (.int .u8 ct)∧W.cell? ⟨gk,8,none⟩=some (.int .u32 ca)):=fun W m=>by
  obtain ⟨h,k3,k4,k5,k6,k7,k8⟩:=JJ.out
  exact ⟨(m.cell (a:=⟨gk,3,none⟩) h (by simp)).trans k3,(m.cell (a:=⟨gk,4,none⟩) h (by simp)).trans k4,(m.cell (a:=⟨gk,5,none⟩) h (by simp)).trans k5,(m.cell (a:=⟨gk,6,none⟩) h (by simp)).trans k6,(m.cell (a:=⟨gk,7,none⟩) h (by simp)).trans k7,(m.cell (a:=⟨gk,8,none⟩) h (by simp)).trans k8⟩
 generalize mixv _ 1=hx
 go_wp2_with fail
 go_region_held3 (fun w'=>Mod [] w1 w'∧w'.cell? ⟨gk,3,none⟩=some (.int .u8 at_)∧w'.cell? ⟨gk,4,none⟩=some (.int .u32 aa)∧w'.cell? ⟨gk,5,none⟩=some (.int .u8 bt)∧w'.cell? ⟨gk,6,none⟩=some (.int .u32 ba)∧w'.cell? ⟨gk,7,none⟩=some (.int .u8 ct)∧w'.cell? ⟨gk,8,none⟩=some (.int .u32 ca)) (first | (refine ⟨by first | exact (Mod.refl _ _).drew | exact Mod.refl _ _ | assumption | exact Mod.drew (by assumption),?_⟩;go_keep) | go_keep) (first | (go_at_call 246;refine (ED2.out _ _ _ (by first | assumption | exact Mod.refl _ _ | exact Mod.drew (by assumption) | exact mods)).mono ?_;rintro e' w2 ⟨rfl,m2⟩;obtain ⟨k3,k4,k5,k6,k7,k8⟩:=JC.out w2 m2) | (go_at_call 245;refine (MX.out _ _ _).mono ?_;rintro e' w2 ⟨rfl,rfl⟩))
 all_goals
  go_wp2_with fail
  go_ret
  obtain ⟨r1,r2⟩:=mixv_range (mixv (mixv hx (part2 at_ aa)) (part2 bt ba)) (part2 ct ca)
  refine ⟨(mixv (mixv (mixv hx (part2 at_ aa)) (part2 bt ba)) (part2 ct ca)).toNat,?_,by omega,M0.out.trans' (by first | assumption | exact Mod.drew (by assumption) | exact Mod.drewN (by assumption) _)⟩
  rw [Int.toNat_of_nonneg r1]
  rfl
open Go.RowKit
def TabP (ty m:Nat) (w:World) (g n:Nat) (P:List Value→Prop):Prop:=
 ∃T,Blk w g T ty∧T.size=n *m∧∀i,i < n→∃e:List Value,e.length=m∧P e∧∀j,j < m→T[i *m+j]? =e[j]?
theorem TabP.lt {ty m:Nat} {w:World} {g n:Nat} {P:List Value→Prop} (h:TabP ty m w g n P):g < w.heap.size:=by obtain ⟨T,hb,_⟩:=h;exact hb.lt
theorem TabP.mod {S:List Nat} {ty m:Nat} {w w':World} {g n:Nat} {P:List Value→Prop} (h:TabP ty m w g n P) (md:Mod S w w') (hn:g∉S):TabP ty m w' g n P:=by
 obtain ⟨T,hb,r⟩:=h;exact ⟨T,hb.mod md hn,r⟩
theorem TabP.imp {ty m:Nat} {w:World} {g n:Nat} {P Q:List Value→Prop} (h:TabP ty m w g n P) (hq:∀e,P e→Q e):TabP ty m w g n Q:=by
 obtain ⟨T,hb,hs,r⟩:=h
 exact ⟨T,hb,hs,fun i hi=>by obtain ⟨e,a,b,c⟩:=r i hi;exact ⟨e,a,hq e b,c⟩⟩
theorem TabP.at {ty m:Nat} {w:World} {g n:Nat} {P:List Value→Prop} (h:TabP ty m w g n P) (i:Nat) (hi:i < n):∃e:List Value,e.length=m∧P e∧∀j,j < m→w.cell? ⟨g,i *m+j,none⟩=e[j]? ∧w.frozen? ⟨g,i *m+j,none⟩=false:=by
 obtain ⟨T,hb,hs,r⟩:=h
 obtain ⟨e,a,b,c⟩:=r i hi
 exact ⟨e,a,b,fun j hj=>⟨by rw [hb.cell];exact c j hj,hb.froz _⟩⟩
def setL (w:World) (g:Nat):Nat→List Value→World
 | _,[]=>w
 | o,v::l=>setL (w.setCell ⟨g,o,none⟩ v) g (o+1) l
theorem setL_blk {g:Nat} {ty:Nat}:∀(l:List Value) (o:Nat) (w:World) (T:Array Value),Blk w g T ty→∃T',Blk (setL w g o l) g T' ty∧T'.size=T.size∧∀k,T'[k]? =if o≤k∧k < o+l.length∧k < T.size then l[k - o]? else T[k]? :=by
 intro l
 induction l with
 | nil=>intro o w T h;exact ⟨T,h,rfl,fun k=>by rw [if_neg (by simp;omega)]⟩
 | cons v l ih=>
  intro o w T h
  obtain ⟨T',hb,hs,hk⟩:=ih (o+1) _ _ (h.set o v)
  refine ⟨T',hb,by rw [hs];simp,fun k=>?_⟩
  rw [hk]
  simp only [Array.size_setIfInBounds,List.length_cons]
  by_cases h1:o=k
  ·subst h1
   rw [if_neg (by omega)]
   by_cases h2:o < T.size
   ·rw [if_pos ⟨Nat.le_refl _,by omega,h2⟩];simp [h2]
   ·rw [if_neg (by omega)];simp [h2];try omega
  ·rw [Array.getElem?_setIfInBounds_ne h1]
   by_cases h2:o+1≤k∧k < o+1+l.length∧k < T.size
   ·rw [if_pos h2,if_pos (by omega),show k - o=(k - (o+1))+1 by omega,List.getElem?_cons_succ]
   ·rw [if_neg h2,if_neg (by omega)]
theorem setL_mod {g:Nat}:∀(l:List Value) (o:Nat) (w:World),Mod [g] w (setL w g o l):=by
 intro l
 induction l with
 | nil=>intro o w;exact Mod.refl _ _
 | cons v l ih=>intro o w;exact ((Mod.refl [g] w).setCell ⟨g,o,none⟩ v (by simp)).trans' (ih _ _)
theorem TabP.store {ty m:Nat} {w:World} {g n:Nat} {P:List Value→Prop} (h:TabP ty m w g n P) (q:Nat) (hq:q < n) (e:List Value) (he:e.length=m) (hP:P e):TabP ty m (setL w g (q *m) e) g n P:=by
 obtain ⟨T,hb,hs,r⟩:=h
 obtain ⟨T',hb',hs',hk⟩:=setL_blk e (q *m) w T hb
 refine ⟨T',hb',by rw [hs',hs],fun i hi=>?_⟩
 have hqm:q *m+m≤n *m:=by rw [←Nat.succ_mul];exact Nat.mul_le_mul_right m hq
 have him:i *m+m≤n *m:=by rw [←Nat.succ_mul];exact Nat.mul_le_mul_right m hi
 by_cases hiq:i=q
 ·subst hiq
  exact ⟨e,he,hP,fun j hj=>by rw [hk,if_pos (by omega),Nat.add_sub_cancel_left]⟩
 ·obtain ⟨e',a,b,c⟩:=r i hi
  refine ⟨e',a,b,fun j hj=>?_⟩
  have:i *m+j < q *m∨q *m+m≤i *m+j:=by
   rcases Nat.lt_or_ge i q with h | h
   ·left
    have:i *m+m≤q *m:=by rw [←Nat.succ_mul];exact Nat.mul_le_mul_right m h
    omega
   ·right
    have:q *m+m≤i *m:=by rw [←Nat.succ_mul];exact Nat.mul_le_mul_right m (by omega)
    omega
  rw [hk,if_neg (by omega)]
  exact c j hj
def CHead (ty:Nat) (w:World) (b g n:Nat):Prop:=∃hi mi:Int,Blk w b #[.slice (some ⟨g,0,none⟩) n n,.int .i64 1,.int .i64 hi,.int .i64 mi] ty
theorem CHead.lt {ty:Nat} {w:World} {b g n:Nat} (h:CHead ty w b g n):b < w.heap.size:=by obtain ⟨_,_,h⟩:=h;exact h.lt
theorem CHead.mod {S:List Nat} {ty:Nat} {w w':World} {b g n:Nat} (h:CHead ty w b g n) (m:Mod S w w') (hn:b∉S):CHead ty w' b g n:=by obtain ⟨x,y,h⟩:=h;exact ⟨x,y,h.mod m hn⟩
theorem maskN (x j:Nat) (hx:x < 18446744073709551616) (hj:j≤20):bits .and .u64 (x:Int) (((2 ^ j:Nat):Int) - 1)=((x % 2 ^ j:Nat):Int):=by
 have h2:2 ^ j≤2 ^ 20:=Nat.pow_le_pow_right (by omega) hj
 have h3:1≤2 ^ j:=Nat.one_le_two_pow
 have e:((2 ^ j:Nat):Int) - 1=((2 ^ j - 1:Nat):Int):=by omega
 rw [e,u64_and_nat _ _ (by omega) (by omega),Nat.and_two_pow_sub_one_eq_mod]
theorem atA_c (f op l at_ aa bt ba ct ca:Nat) (b g j n:Nat) (hj:j≤20) (hn:n=2 ^ j) {w:World} (hb:CHead 176 w b g n):
 Calls Tryz.prog 144 #[.pointer (some ⟨b,0,none⟩),.agg #[.int .u8 f,.int .u8 op,.int .u8 l,.int .u8 at_,.int .u32 aa,.int .u8 bt,.int .u32 ba,.int .u8 ct,.int .u32 ca]] w fun e w'=>∃q,q < n∧e=.returned (.pointer (some ⟨g,q *12,none⟩))∧Mod [] w w':=by
 obtain ⟨hi,mi,hb⟩:=hb
 have c0:=hb.cell 0
 simp at c0
 have hbl:=hb.lt
 have JH:=Lib.hid (jhash_c f op l at_ aa bt ba ct ca)
 have MK:=Lib.hid (fun x hx=>maskN x j hx hj)
 rw [←hn] at MK
 have hn1:n≤1048576:=by rw [hn];exact Nat.pow_le_pow_right (by omega) hj
 have hn2:0 < n:=by rw [hn];exact Nat.two_pow_pos j
 have hni:(1:Int)≤n:=by omega
 have hnm:(n:Int)≤1048576:=by omega
 have hw1:IntKind.u64.wrap ((n:Int) - 1)=(n:Int) - 1:=IntWalk.u64_in _ ⟨by omega,by omega⟩
 have hw2:wrap64 ((n:Int) - 1)=(n:Int) - 1:=IntWalk.wrap64_in _ ⟨by omega,by omega⟩
 have hw3:IntKind.i64.wrap ((n:Int) - 1)=(n:Int) - 1:=IntWalk.i64_in _ (by omega)
 obtain ⟨gk,hgk⟩:∃gk,w.heap.size=gk:=⟨_,rfl⟩
 have BJ:=Blk.new' w #[.int .u8 f,.int .u8 op,.int .u8 l,.int .u8 at_,.int .u32 aa,.int .u8 bt,.int .u32 ba,.int .u8 ct,.int .u32 ca] 122 gk hgk.symm
 have M0:Hid (Mod [] w (w.alloc (.cells #[.int .u8 f,.int .u8 op,.int .u8 l,.int .u8 at_,.int .u32 aa,.int .u8 bt,.int .u32 ba,.int .u8 ct,.int .u32 ca] 122))):=by exact mods
 have c0:=(M0.out.cell (a:=⟨b,0,none⟩) hbl (by simp)).trans c0
 have hbl:=Nat.lt_of_lt_of_le hbl M0.out.size
 clear hb hn
 go_enter Tryz.func144,Tryz.ntmps144
 go_wp2_with fail
 obtain ⟨j0,j1,j2,j3,j4,j5,j6,j7,j8⟩:=cells9 BJ
 have hjl:=BJ.lt
 clear BJ
 generalize w.alloc (.cells #[.int .u8 f,.int .u8 op,.int .u8 l,.int .u8 at_,.int .u32 aa,.int .u8 bt,.int .u32 ba,.int .u8 ct,.int .u32 ca] 122)=w0 at *
 have CC:Hid (∀W,Mod [] w0 W→W.cell? ⟨b,0,none⟩=some (.slice (some ⟨g,0,none⟩) n n)∧W.cell? ⟨gk,0,none⟩=some (.int .u8 f)∧W.cell? ⟨gk,1,none⟩=some (.int .u8 op)∧W.cell? ⟨gk,2,none⟩=some (.int .u8 l)∧W.cell? ⟨gk,3,none⟩=some (.int .u8 at_)∧W.cell? ⟨gk,4,none⟩=some (.int .u32 aa)∧W.cell? ⟨gk,5,none⟩=some (.int .u8 bt)∧W.cell? ⟨gk,6,none⟩=some (.int .u32 ba)∧W.cell? ⟨gk,7,none⟩=some (.int .u8 ct)∧W.cell? ⟨gk,8,none⟩=some (.int .u32 ca)):=fun W m=>
  ⟨(m.cell (a:=⟨b,0,none⟩) hbl (by simp)).trans c0,(m.cell (a:=⟨gk,0,none⟩) hjl (by simp)).trans j0,(m.cell (a:=⟨gk,1,none⟩) hjl (by simp)).trans j1,(m.cell (a:=⟨gk,2,none⟩) hjl (by simp)).trans j2,(m.cell (a:=⟨gk,3,none⟩) hjl (by simp)).trans j3,(m.cell (a:=⟨gk,4,none⟩) hjl (by simp)).trans j4,(m.cell (a:=⟨gk,5,none⟩) hjl (by simp)).trans j5,(m.cell (a:=⟨gk,6,none⟩) hjl (by simp)).trans j6,(m.cell (a:=⟨gk,7,none⟩) hjl (by simp)).trans j7,(m.cell (a:=⟨gk,8,none⟩) hjl (by simp)).trans j8⟩
 have JH2:Hid (∀W,Mod [] w0 W→Calls Tryz.prog 244 #[.agg #[.int .u8 f,.int .u8 op,.int .u8 l,.int .u8 at_,.int .u32 aa,.int .u8 bt,.int .u32 ba,.int .u8 ct,.int .u32 ca]] W fun e w'=>∃h q:Nat,e=.returned (.int .u64 h)∧bits .and .u64 (h:Int) ((n:Int) - 1)=(q:Int)∧(0:Int)≤q∧(q:Int) < n∧(q:Int)≤1048576∧Mod [] w0 w'):=fun W m=>(JH.out W).mono (by
  rintro e w' ⟨h,rfl,hl,m2⟩
  have hq:=Nat.mod_lt h hn2
  exact ⟨h,h % n,rfl,MK.out h hl,by omega,by omega,by omega,m.trans' m2⟩)
 go_region_held3 (fun w'=>Mod [] w0 w'∧w'.cell? ⟨b,0,none⟩=some (.slice (some ⟨g,0,none⟩) n n)∧w'.cell? ⟨gk,0,none⟩=some (.int .u8 f)∧w'.cell? ⟨gk,1,none⟩=some (.int .u8 op)∧w'.cell? ⟨gk,2,none⟩=some (.int .u8 l)∧w'.cell? ⟨gk,3,none⟩=some (.int .u8 at_)∧w'.cell? ⟨gk,4,none⟩=some (.int .u32 aa)∧w'.cell? ⟨gk,5,none⟩=some (.int .u8 bt)∧w'.cell? ⟨gk,6,none⟩=some (.int .u32 ba)∧w'.cell? ⟨gk,7,none⟩=some (.int .u8 ct)∧w'.cell? ⟨gk,8,none⟩=some (.int .u32 ca)) (first | (refine ⟨by first | exact (Mod.refl _ _).drew | exact Mod.refl _ _ | assumption | exact Mod.drew (by assumption),?_⟩;go_keep) | go_keep) (first | (go_at_call 244;refine (JH2.out _ (by first | assumption | exact Mod.refl _ _ | exact Mod.drew (by assumption) | exact mods)).mono ?_;rintro e' w2 ⟨h,q,rfl,hmk,hq0,hq1,hq2,m2⟩;obtain ⟨c0,j0,j1,j2,j3,j4,j5,j6,j7,j8⟩:=CC.out w2 m2))
 all_goals
  go_wp2_with fail
  go_ret
  exact ⟨q,by omega,rfl,M0.out.trans' (by first | assumption | exact Mod.drew (by assumption) | exact Mod.drewN (by assumption) _)⟩
open Go.RowKit
theorem TabP.at12 {ty:Nat} {w':World} {g n:Nat} {P:List Value→Prop} (h:TabP ty 12 w' g n P) (q:Nat) (hq:q < n):∃x0 x1 x2 x3 x4 x5 x6 x7 x8 x9 x10 x11:Value,P [x0,x1,x2,x3,x4,x5,x6,x7,x8,x9,x10,x11]∧(w'.cell? ⟨g,q *12,none⟩=some x0∧w'.cell? ⟨g,q *12+1,none⟩=some x1∧w'.cell? ⟨g,q *12+2,none⟩=some x2∧w'.cell? ⟨g,q *12+3,none⟩=some x3∧w'.cell? ⟨g,q *12+4,none⟩=some x4∧w'.cell? ⟨g,q *12+5,none⟩=some x5∧w'.cell? ⟨g,q *12+6,none⟩=some x6∧w'.cell? ⟨g,q *12+7,none⟩=some x7∧w'.cell? ⟨g,q *12+8,none⟩=some x8∧w'.cell? ⟨g,q *12+9,none⟩=some x9∧w'.cell? ⟨g,q *12+10,none⟩=some x10∧w'.cell? ⟨g,q *12+11,none⟩=some x11)∧(w'.frozen? ⟨g,q *12,none⟩=false∧w'.frozen? ⟨g,q *12+1,none⟩=false∧w'.frozen? ⟨g,q *12+2,none⟩=false∧w'.frozen? ⟨g,q *12+3,none⟩=false∧w'.frozen? ⟨g,q *12+4,none⟩=false∧w'.frozen? ⟨g,q *12+5,none⟩=false∧w'.frozen? ⟨g,q *12+6,none⟩=false∧w'.frozen? ⟨g,q *12+7,none⟩=false∧w'.frozen? ⟨g,q *12+8,none⟩=false∧w'.frozen? ⟨g,q *12+9,none⟩=false∧w'.frozen? ⟨g,q *12+10,none⟩=false∧w'.frozen? ⟨g,q *12+11,none⟩=false):=by
 obtain ⟨e,he,hP,hc⟩:=h.at q hq
 match e,he with
 | [x0,x1,x2,x3,x4,x5,x6,x7,x8,x9,x10,x11],_=>
  exact ⟨x0,x1,x2,x3,x4,x5,x6,x7,x8,x9,x10,x11,hP,⟨(hc 0 (by omega)).1,(hc 1 (by omega)).1,(hc 2 (by omega)).1,(hc 3 (by omega)).1,(hc 4 (by omega)).1,(hc 5 (by omega)).1,(hc 6 (by omega)).1,(hc 7 (by omega)).1,(hc 8 (by omega)).1,(hc 9 (by omega)).1,(hc 10 (by omega)).1,(hc 11 (by omega)).1⟩,⟨(hc 0 (by omega)).2,(hc 1 (by omega)).2,(hc 2 (by omega)).2,(hc 3 (by omega)).2,(hc 4 (by omega)).2,(hc 5 (by omega)).2,(hc 6 (by omega)).2,(hc 7 (by omega)).2,(hc 8 (by omega)).2,(hc 9 (by omega)).2,(hc 10 (by omega)).2,(hc 11 (by omega)).2⟩⟩
theorem TabP.store12 {ty:Nat} {w:World} {g n o:Nat} {P:List Value→Prop} {x0 x1 x2 x3 x4 x5 x6 x7 x8 x9 x10 x11:Value} (h:TabP ty 12 w g n P) (q:Nat) (hq:q < n) (ho:o=q *12) (hP:P [x0,x1,x2,x3,x4,x5,x6,x7,x8,x9,x10,x11]):TabP ty 12 ((((((((((((w.setCell ⟨g,o,none⟩ x0).setCell ⟨g,o+1,none⟩ x1).setCell ⟨g,o+2,none⟩ x2).setCell ⟨g,o+3,none⟩ x3).setCell ⟨g,o+4,none⟩ x4).setCell ⟨g,o+5,none⟩ x5).setCell ⟨g,o+6,none⟩ x6).setCell ⟨g,o+7,none⟩ x7).setCell ⟨g,o+8,none⟩ x8).setCell ⟨g,o+9,none⟩ x9).setCell ⟨g,o+10,none⟩ x10).setCell ⟨g,o+11,none⟩ x11) g n P:=by
 subst ho
 exact TabP.store h q hq [x0,x1,x2,x3,x4,x5,x6,x7,x8,x9,x10,x11] rfl hP
theorem mod12 (w:World) (g o:Nat) (x0 x1 x2 x3 x4 x5 x6 x7 x8 x9 x10 x11:Value):Mod [g] w ((((((((((((w.setCell ⟨g,o,none⟩ x0).setCell ⟨g,o+1,none⟩ x1).setCell ⟨g,o+2,none⟩ x2).setCell ⟨g,o+3,none⟩ x3).setCell ⟨g,o+4,none⟩ x4).setCell ⟨g,o+5,none⟩ x5).setCell ⟨g,o+6,none⟩ x6).setCell ⟨g,o+7,none⟩ x7).setCell ⟨g,o+8,none⟩ x8).setCell ⟨g,o+9,none⟩ x9).setCell ⟨g,o+10,none⟩ x10).setCell ⟨g,o+11,none⟩ x11):=setL_mod [x0,x1,x2,x3,x4,x5,x6,x7,x8,x9,x10,x11] o w
theorem putA_c (f op l at_ aa bt ba ct ca vt va:Nat) (b g j n:Nat) (hj:j≤20) (hn:n=2 ^ j) {P:List Value→Prop} {w:World} (hb:CHead 176 w b g n) (hT:TabP 239 12 w g n P) (hbg:b≠g)
 (hP:P [.int .u8 f,.int .u8 op,.int .u8 l,.int .u8 at_,.int .u32 aa,.int .u8 bt,.int .u32 ba,.int .u8 ct,.int .u32 ca,.int .u8 vt,.int .u32 va,.int .i64 1]):
 Calls Tryz.prog 124 #[.pointer (some ⟨b,0,none⟩),.agg #[.int .u8 f,.int .u8 op,.int .u8 l,.int .u8 at_,.int .u32 aa,.int .u8 bt,.int .u32 ba,.int .u8 ct,.int .u32 ca],.agg #[.int .u8 vt,.int .u32 va]] w fun e w'=>e=.returned (.tuple #[])∧TabP 239 12 w' g n P∧Mod [g] w w':=by
 have HB:=Lib.hid hb
 have HT:=Lib.hid hT
 have HPP:=Lib.hid hP
 have hgl:=hT.lt
 have hbl:=hb.lt
 have hbg':¬b=g:=hbg
 have hgb':¬g=b:=fun e=>hbg e.symm
 obtain ⟨gk,hgk⟩:∃gk,w.heap.size=gk:=⟨_,rfl⟩
 rw [hgk] at hgl hbl
 have n1:¬gk=g:=by omega
 have n2:¬g=gk:=by omega
 have n3:¬gk+1=g:=by omega
 have n4:¬g=gk+1:=by omega
 have n5:¬b=gk:=by omega
 have n6:¬gk=b:=by omega
 have n7:¬b=gk+1:=by omega
 have n8:¬gk+1=b:=by omega
 have BJ:=(Blk.new' w #[.int .u8 f,.int .u8 op,.int .u8 l,.int .u8 at_,.int .u32 aa,.int .u8 bt,.int .u32 ba,.int .u8 ct,.int .u32 ca] 122 gk hgk.symm).alloc (.cells #[.int .u8 vt,.int .u32 va] 66)
 have BE:=Blk.new' (w.alloc (.cells #[.int .u8 f,.int .u8 op,.int .u8 l,.int .u8 at_,.int .u32 aa,.int .u8 bt,.int .u32 ba,.int .u8 ct,.int .u32 ca] 122)) #[.int .u8 vt,.int .u32 va] 66 (gk+1) (by simp [hgk])
 have M0:Hid (Mod [] w ((w.alloc (.cells #[.int .u8 f,.int .u8 op,.int .u8 l,.int .u8 at_,.int .u32 aa,.int .u8 bt,.int .u32 ba,.int .u8 ct,.int .u32 ca] 122)).alloc (.cells #[.int .u8 vt,.int .u32 va] 66))):=by exact mods
 clear hb hT hP hbg
 go_enter Tryz.func124,Tryz.ntmps124
 go_wp2_with fail
 obtain ⟨j0,j1,j2,j3,j4,j5,j6,j7,j8⟩:=cells9 BJ
 obtain ⟨v0,v1⟩:=BE.cells2
 have hjl:=BJ.lt
 have hel:=BE.lt
 clear BJ BE
 generalize (w.alloc (.cells #[.int .u8 f,.int .u8 op,.int .u8 l,.int .u8 at_,.int .u32 aa,.int .u8 bt,.int .u32 ba,.int .u8 ct,.int .u32 ca] 122)).alloc (.cells #[.int .u8 vt,.int .u32 va] 66)=w0 at *
 have HB0:=Lib.hid (HB.out.mod M0.out (by simp))
 have HT0:=Lib.hid (HT.out.mod M0.out (by simp))
 have hbl0:=HB0.out.lt
 have hgl0:=HT0.out.lt
 have c1:w0.cell? ⟨b,1,none⟩=some (.int .i64 1):=by obtain ⟨hi,mi,h⟩:=HB0.out;exact h.cell 1
 have CC:Hid (∀W,Mod [] w0 W→W.cell? ⟨b,1,none⟩=some (.int .i64 1)∧W.cell? ⟨gk,0,none⟩=some (.int .u8 f)∧W.cell? ⟨gk,1,none⟩=some (.int .u8 op)∧W.cell? ⟨gk,2,none⟩=some (.int .u8 l)∧W.cell? ⟨gk,3,none⟩=some (.int .u8 at_)∧W.cell? ⟨gk,4,none⟩=some (.int .u32 aa)∧W.cell? ⟨gk,5,none⟩=some (.int .u8 bt)∧W.cell? ⟨gk,6,none⟩=some (.int .u32 ba)∧W.cell? ⟨gk,7,none⟩=some (.int .u8 ct)∧W.cell? ⟨gk,8,none⟩=some (.int .u32 ca)∧W.cell? ⟨gk+1,0,none⟩=some (.int .u8 vt)∧W.cell? ⟨gk+1,1,none⟩=some (.int .u32 va)):=fun W m=>
  ⟨(m.cell (a:=⟨b,1,none⟩) hbl0 (by simp)).trans c1,(m.cell (a:=⟨gk,0,none⟩) hjl (by simp)).trans j0,(m.cell (a:=⟨gk,1,none⟩) hjl (by simp)).trans j1,(m.cell (a:=⟨gk,2,none⟩) hjl (by simp)).trans j2,(m.cell (a:=⟨gk,3,none⟩) hjl (by simp)).trans j3,(m.cell (a:=⟨gk,4,none⟩) hjl (by simp)).trans j4,(m.cell (a:=⟨gk,5,none⟩) hjl (by simp)).trans j5,(m.cell (a:=⟨gk,6,none⟩) hjl (by simp)).trans j6,(m.cell (a:=⟨gk,7,none⟩) hjl (by simp)).trans j7,(m.cell (a:=⟨gk,8,none⟩) hjl (by simp)).trans j8,(m.cell (a:=⟨gk+1,0,none⟩) hel (by simp)).trans v0,(m.cell (a:=⟨gk+1,1,none⟩) hel (by simp)).trans v1⟩
 have AT2:Hid (∀W,Mod [] w0 W→Calls Tryz.prog 144 #[.pointer (some ⟨b,0,none⟩),.agg #[.int .u8 f,.int .u8 op,.int .u8 l,.int .u8 at_,.int .u32 aa,.int .u8 bt,.int .u32 ba,.int .u8 ct,.int .u32 ca]] W fun e w'=>∃(o:Nat) (x0 x1 x2 x3 x4 x5 x6 x7 x8 x9 x10 x11:Value),e=.returned (.pointer (some ⟨g,o,none⟩))∧Hid (∃q,q < n∧o=q *12)∧(w'.cell? ⟨g,o,none⟩=some x0∧w'.cell? ⟨g,o+1,none⟩=some x1∧w'.cell? ⟨g,o+2,none⟩=some x2∧w'.cell? ⟨g,o+3,none⟩=some x3∧w'.cell? ⟨g,o+4,none⟩=some x4∧w'.cell? ⟨g,o+5,none⟩=some x5∧w'.cell? ⟨g,o+6,none⟩=some x6∧w'.cell? ⟨g,o+7,none⟩=some x7∧w'.cell? ⟨g,o+8,none⟩=some x8∧w'.cell? ⟨g,o+9,none⟩=some x9∧w'.cell? ⟨g,o+10,none⟩=some x10∧w'.cell? ⟨g,o+11,none⟩=some x11)∧(w'.frozen? ⟨g,o,none⟩=false∧w'.frozen? ⟨g,o+1,none⟩=false∧w'.frozen? ⟨g,o+2,none⟩=false∧w'.frozen? ⟨g,o+3,none⟩=false∧w'.frozen? ⟨g,o+4,none⟩=false∧w'.frozen? ⟨g,o+5,none⟩=false∧w'.frozen? ⟨g,o+6,none⟩=false∧w'.frozen? ⟨g,o+7,none⟩=false∧w'.frozen? ⟨g,o+8,none⟩=false∧w'.frozen? ⟨g,o+9,none⟩=false∧w'.frozen? ⟨g,o+10,none⟩=false∧w'.frozen? ⟨g,o+11,none⟩=false)∧Mod [] w0 w'):=fun W m=>(atA_c f op l at_ aa bt ba ct ca b g j n hj hn (HB0.out.mod m (by simp))).mono (by
  rintro e w' ⟨q,hq,rfl,m2⟩
  obtain ⟨x0,x1,x2,x3,x4,x5,x6,x7,x8,x9,x10,x11,-,h1,h2⟩:=((HT0.out.mod m (by simp)).mod m2 (by simp)).at12 q hq
  exact ⟨q *12,x0,x1,x2,x3,x4,x5,x6,x7,x8,x9,x10,x11,rfl,⟨q,hq,rfl⟩,h1,h2,m.trans' m2⟩)
 go_region_held3 (fun w'=>w'.cell? ⟨b,1,none⟩=some (.int .i64 1)∧w'.cell? ⟨gk,0,none⟩=some (.int .u8 f)∧w'.cell? ⟨gk,1,none⟩=some (.int .u8 op)∧w'.cell? ⟨gk,2,none⟩=some (.int .u8 l)∧w'.cell? ⟨gk,3,none⟩=some (.int .u8 at_)∧w'.cell? ⟨gk,4,none⟩=some (.int .u32 aa)∧w'.cell? ⟨gk,5,none⟩=some (.int .u8 bt)∧w'.cell? ⟨gk,6,none⟩=some (.int .u32 ba)∧w'.cell? ⟨gk,7,none⟩=some (.int .u8 ct)∧w'.cell? ⟨gk,8,none⟩=some (.int .u32 ca)∧w'.cell? ⟨gk+1,0,none⟩=some (.int .u8 vt)∧w'.cell? ⟨gk+1,1,none⟩=some (.int .u32 va)) (go_keep) (first | (go_at_call 144;refine (AT2.out _ (by first | assumption | exact Mod.refl _ _ | exact Mod.drew (by assumption) | exact mods)).mono ?_;rintro e' w2 ⟨o,x0,x1,x2,x3,x4,x5,x6,x7,x8,x9,x10,x11,rfl,HQ,⟨y0,y1,y2,y3,y4,y5,y6,y7,y8,y9,y10,y11⟩,⟨z0,z1,z2,z3,z4,z5,z6,z7,z8,z9,z10,z11⟩,m2⟩;obtain ⟨c1,j0,j1,j2,j3,j4,j5,j6,j7,j8,v0,v1⟩:=CC.out w2 m2))
 all_goals
  go_wp2_with fail
  go_end0
  obtain ⟨q,hq,ho⟩:=HQ.out
  refine ⟨rfl,?_,?_⟩
  ·refine TabP.store12 (HT0.out.mod (S:=[]) ?_ (by simp)) q hq ho HPP.out
   first | exact m2 | exact m2.drew | exact m2.drewN _
  ·refine ((M0.out.mono (S':=[g]) (by simp)).trans' (Mod.mono (S:=[]) ?_ (by simp))).trans' (mod12 _ _ _ _ _ _ _ _ _ _ _ _ _ _ _)
   first | exact m2 | exact m2.drew | exact m2.drewN _
open Go.RowKit
theorem eqIn_job (d:Nat) (a b:JbA) (w:World):(Op.equalIn (d+3) 122 (.agg a.cells.toArray) (.agg b.cells.toArray)).run Tryz.prog w=.ok (decide (a=b)) w:=by
 obtain ⟨af,ao,al,a1,a2,a3⟩:=a
 obtain ⟨bf,bo,bl,b1,b2,b3⟩:=b
 have u5:=Tryz.underlying5
 have a5:=Tryz.isAgg5
 have z5:=Tryz.sizeOf5
 have u48:=Tryz.underlying25
 have a48:=Tryz.isAgg25
 have z48:=Tryz.sizeOf25
 have a62:=Tryz.isAgg66
 have z62:=Tryz.sizeOf66
 have e1:=fun w=>eqIn_ed d a1 b1 w
 have e2:=fun w=>eqIn_ed d a2 b2 w
 have e3:=fun w=>eqIn_ed d a3 b3 w
 have hS:Tryz.prog.underlying 122=some (.struct (Tryz.prog.fieldsOf 122)):=by kernel_rfl
 unfold JbA.cells
 unfold edv at e1 e2 e3
 obtain ⟨a1t,a1a⟩:=a1
 obtain ⟨b1t,b1a⟩:=b1
 obtain ⟨a2t,a2a⟩:=a2
 obtain ⟨b2t,b2a⟩:=b2
 obtain ⟨a3t,a3a⟩:=a3
 obtain ⟨b3t,b3a⟩:=b3
 simp only at e1 e2 e3 ⊢
 generalize hd1:decide ((⟨a1t,a1a⟩:Ed)=⟨b1t,b1a⟩)=d1 at *
 generalize hd2:decide ((⟨a2t,a2a⟩:Ed)=⟨b2t,b2a⟩)=d2 at *
 generalize hd3:decide ((⟨a3t,a3a⟩:Ed)=⟨b3t,b3a⟩)=d3 at *
 have hd:decide ((⟨af,ao,al,⟨a1t,a1a⟩,⟨a2t,a2a⟩,⟨a3t,a3a⟩⟩:JbA)=⟨bf,bo,bl,⟨b1t,b1a⟩,⟨b2t,b2a⟩,⟨b3t,b3a⟩⟩)=(decide (af=bf) && (decide (ao=bo) && (decide (al=bl) && (d1 && (d2 && d3))))):=by
  rw [←hd1,←hd2,←hd3]
  simp [Bool.and_assoc]
 rw [hd]
 clear hd hd1 hd2 hd3
 rw [run_equalIn_agg w (d+2) 122 _ _ hS (by kernel_rfl)]
 simp only [Program.fieldsOf,Tryz.underlying122]
 go_simp
 by_cases h1:af=bf<;>by_cases h2:ao=bo<;>by_cases h3:al=bl<;>cases d1<;>cases d2<;>cases d3<;>simp [h1,h2,h3,Int.natCast_inj]
def EnA (V:JbA→Ed→Prop) (e:List Value):Prop:=∃(j:JbA) (v:Ed) (ep:Nat),e=j.cells++[.int .u8 (v.t:Int),.int .u32 (v.a:Int),.int .i64 (ep:Int)]∧(ep=0∨ep=1∧V j v)
theorem EnA.imp {V V':JbA→Ed→Prop} (h:∀j v,V j v→V' j v) {e:List Value} (he:EnA V e):EnA V' e:=by
 obtain ⟨j,v,ep,r,q⟩:=he
 exact ⟨j,v,ep,r,q.imp id fun ⟨a,b⟩=>⟨a,h _ _ b⟩⟩
def GetA (V:JbA→Ed→Prop) (j:JbA) (w:World) (b g n:Nat) (e:Ending) (w':World):Prop:=
 ∃(vt va:Nat) (ok:Bool),e=.returned (.tuple #[.agg #[.int .u8 vt,.int .u32 va],.bool ok])∧(ok=true→V j ⟨vt,va⟩)∧CHead 176 w' b g n∧Mod [b] w w'
theorem getA_c (f op l at_ aa bt ba ct ca:Nat) (b g j n:Nat) (hj:j≤20) (hn:n=2 ^ j) {V:JbA→Ed→Prop} {w:World} (hb:CHead 176 w b g n) (hT:TabP 239 12 w g n (EnA V)) (hbg:b≠g):
 Calls Tryz.prog 122 #[.pointer (some ⟨b,0,none⟩),.agg #[.int .u8 f,.int .u8 op,.int .u8 l,.int .u8 at_,.int .u32 aa,.int .u8 bt,.int .u32 ba,.int .u8 ct,.int .u32 ca]] w (GetA V ⟨f,op,l,⟨at_,aa⟩,⟨bt,ba⟩,⟨ct,ca⟩⟩ w b g n):=by
 have HB:=Lib.hid hb
 have HT:=Lib.hid hT
 have hgl:=hT.lt
 have hbl:=hb.lt
 have EQ:=Lib.hid (fun (x y:JbA) w=>eqIn_job 9997 x y w)
 obtain ⟨gk,hgk⟩:∃gk,w.heap.size=gk:=⟨_,rfl⟩
 have BJ:=Lib.hid (((Blk.new' w #[.int .u8 f,.int .u8 op,.int .u8 l,.int .u8 at_,.int .u32 aa,.int .u8 bt,.int .u32 ba,.int .u8 ct,.int .u32 ca] 122 gk hgk.symm).alloc (.cells #[.int .u8 0,.int .u32 0] 66)).alloc (.cells #[.int .u8 0,.int .u32 0] 66))
 have BR:=Lib.hid ((Blk.new' (w.alloc (.cells #[.int .u8 f,.int .u8 op,.int .u8 l,.int .u8 at_,.int .u32 aa,.int .u8 bt,.int .u32 ba,.int .u8 ct,.int .u32 ca] 122)) #[.int .u8 0,.int .u32 0] 66 (gk+1) (by simp [hgk])).alloc (.cells #[.int .u8 0,.int .u32 0] 66))
 have BN:=Lib.hid (Blk.new' ((w.alloc (.cells #[.int .u8 f,.int .u8 op,.int .u8 l,.int .u8 at_,.int .u32 aa,.int .u8 bt,.int .u32 ba,.int .u8 ct,.int .u32 ca] 122)).alloc (.cells #[.int .u8 0,.int .u32 0] 66)) #[.int .u8 0,.int .u32 0] 66 (gk+2) (by simp [hgk]))
 have M0:Hid (Mod [] w (((w.alloc (.cells #[.int .u8 f,.int .u8 op,.int .u8 l,.int .u8 at_,.int .u32 aa,.int .u8 bt,.int .u32 ba,.int .u8 ct,.int .u32 ca] 122)).alloc (.cells #[.int .u8 0,.int .u32 0] 66)).alloc (.cells #[.int .u8 0,.int .u32 0] 66))):=by exact mods
 have AT:=Lib.hid (atA_c f op l at_ aa bt ba ct ca b g j n hj hn (HB.out.mod M0.out (by simp)))
 have n5:¬b=gk:=by omega
 have n6:¬gk=b:=by omega
 have n7:¬b=gk+1:=by omega
 have n8:¬gk+1=b:=by omega
 have n9:¬b=gk+2:=by omega
 have n10:¬gk+2=b:=by omega
 have n11:¬b=g:=hbg
 have n12:¬g=b:=fun e=>hbg e.symm
 have n13:¬g=gk+1:=by omega
 have n14:¬gk+1=g:=by omega
 clear hb hT hbg
 go_enter Tryz.func122,Tryz.ntmps122
 go_wp2_with fail
 refine AT.out.mono ?_
 rintro e w2 ⟨q,hq,rfl,m2⟩
 have HB2:=Lib.hid ((HB.out.mod M0.out (by simp)).mod m2 (by simp))
 obtain ⟨x0,x1,x2,x3,x4,x5,x6,x7,x8,x9,x10,x11,⟨⟨f',op',l',⟨at',aa'⟩,⟨bt',ba'⟩,⟨ct',ca'⟩⟩,⟨vt,va⟩,ep,he,hv⟩,⟨y0,y1,y2,y3,y4,y5,y6,y7,y8,y9,y10,y11⟩,-⟩:=((HT.out.mod M0.out (by simp)).mod m2 (by simp)).at12 q hq
 simp only [JbA.cells,List.cons_append,List.nil_append,List.cons.injEq,and_true] at he
 obtain ⟨rfl,rfl,rfl,rfl,rfl,rfl,rfl,rfl,rfl,rfl,rfl,rfl⟩:=he
 obtain ⟨j0,j1,j2,j3,j4,j5,j6,j7,j8⟩:=cells9 (BJ.out.mod m2 (by simp))
 have BR2:=Lib.hid (BR.out.mod m2 (by simp))
 obtain ⟨r0,r1⟩:=BR2.out.cells2
 obtain ⟨s0,s1,-⟩:=BR2.out.frozs
 obtain ⟨k0,k1⟩:=(BN.out.mod m2 (by simp)).cells2
 have MW:=Lib.hid (M0.out.trans' m2)
 obtain ⟨hi,mi,hbb⟩:=HB2.out
 have HBB:=Lib.hid hbb
 have c1:=hbb.cell 1
 have c2:=hbb.cell 2
 have c3:=hbb.cell 3
 have d2:=hbb.froz 2
 have d3:=hbb.froz 3
 simp only [List.getElem?_toArray,List.getElem?_cons_zero,List.getElem?_cons_succ] at c1 c2 c3
 have eq1:=fun w=>EQ.out ⟨f',op',l',⟨at',aa'⟩,⟨bt',ba'⟩,⟨ct',ca'⟩⟩ ⟨f,op,l,⟨at_,aa⟩,⟨bt,ba⟩,⟨ct,ca⟩⟩ w
 unfold JbA.cells at eq1
 simp only at eq1
 obtain ⟨o,ho⟩:∃o,q *12=o:=⟨_,rfl⟩
 rw [ho] at y0 y1 y2 y3 y4 y5 y6 y7 y8 y9 y10 y11 ⊢
 have hbl2:=hbb.lt
 have hgl2:=World.block_lt_of_cell? w2 _ y0
 have hrl2:=BR2.out.lt
 clear m2 AT BJ BR BN M0 HB2 hbb ho
 rcases hv with rfl | ⟨rfl,hv⟩
 ·go_wp2_with fail
  go_quiet (fail)
  go_wp2_with fail
  have BX:Blk ((((w2.drewN nq).setCell ⟨b,3,none⟩ (.int .i64 (wrap64 (mi+1)))).setCell ⟨gk+1,0,none⟩ (.int .u8 0)).setCell ⟨gk+1,1,none⟩ (.int .u32 0)) (gk+1) #[(.int .u8 0),(.int .u32 0)] 66:=by
   have:=(((BR2.out.drewN nq).other ⟨b,3,none⟩ (.int .i64 (wrap64 (mi+1))) n8).set 0 (.int .u8 0)).set 1 (.int .u32 0)
   simpa using this
  have HX:Blk ((((w2.drewN nq).setCell ⟨b,3,none⟩ (.int .i64 (wrap64 (mi+1)))).setCell ⟨gk+1,0,none⟩ (.int .u8 0)).setCell ⟨gk+1,1,none⟩ (.int .u32 0)) b #[.slice (some ⟨g,0,none⟩) n n,.int .i64 1,.int .i64 hi,.int .i64 (wrap64 (mi+1))] 176:=by
   have:=(((HBB.out.drewN nq).set 3 (.int .i64 (wrap64 (mi+1)))).other ⟨gk+1,0,none⟩ (.int .u8 0) n7).other ⟨gk+1,1,none⟩ (.int .u32 0) n7
   simpa using this
  have MX:Mod [b,gk+1] w2 ((((w2.drewN nq).setCell ⟨b,3,none⟩ (.int .i64 (wrap64 (mi+1)))).setCell ⟨gk+1,0,none⟩ (.int .u8 0)).setCell ⟨gk+1,1,none⟩ (.int .u32 0)):=((((Mod.refl _ _).drewN nq).setCell _ _ (by simp)).setCell _ _ (by simp)).setCell _ _ (by simp)
  obtain ⟨z0,z1⟩:=BX.cells2
  generalize ((((w2.drewN nq).setCell ⟨b,3,none⟩ (.int .i64 (wrap64 (mi+1)))).setCell ⟨gk+1,0,none⟩ (.int .u8 0)).setCell ⟨gk+1,1,none⟩ (.int .u32 0))=wx at *
  refine bodyPost_ret (v:=.tuple #[.agg #[(.int .u8 0),(.int .u32 0)],.bool false]) (by simp [results,Tryz.results122,go_sem,z0,z1];try rfl) rfl ?_
  exact ⟨0,0,false,rfl,(fun h=>by cases h),⟨hi,wrap64 (mi+1),HX⟩,(MW.out.mono (S':=[b]) (by simp)).trans MX (by intro k hk h;simp at h;rcases h with rfl | rfl<;>first | (exfalso;omega) | simp)⟩
 ·by_cases hjj:(⟨f',op',l',⟨at',aa'⟩,⟨bt',ba'⟩,⟨ct',ca'⟩⟩:JbA)=⟨f,op,l,⟨at_,aa⟩,⟨bt,ba⟩,⟨ct,ca⟩⟩
  ·rw [decide_eq_true hjj] at eq1
   have HV:=Lib.hid (hjj▸hv)
   clear hjj hv
   go_wp2_with fail
   go_quiet (fail)
   go_wp2_with fail
   have BX:Blk ((((w2.drewN nq).setCell ⟨b,2,none⟩ (.int .i64 (wrap64 (hi+1)))).setCell ⟨gk+1,0,none⟩ (.int .u8 vt)).setCell ⟨gk+1,1,none⟩ (.int .u32 va)) (gk+1) #[(.int .u8 vt),(.int .u32 va)] 66:=by
    have:=(((BR2.out.drewN nq).other ⟨b,2,none⟩ (.int .i64 (wrap64 (hi+1))) n8).set 0 (.int .u8 vt)).set 1 (.int .u32 va)
    simpa using this
   have HX:Blk ((((w2.drewN nq).setCell ⟨b,2,none⟩ (.int .i64 (wrap64 (hi+1)))).setCell ⟨gk+1,0,none⟩ (.int .u8 vt)).setCell ⟨gk+1,1,none⟩ (.int .u32 va)) b #[.slice (some ⟨g,0,none⟩) n n,.int .i64 1,.int .i64 (wrap64 (hi+1)),.int .i64 mi] 176:=by
    have:=(((HBB.out.drewN nq).set 2 (.int .i64 (wrap64 (hi+1)))).other ⟨gk+1,0,none⟩ (.int .u8 vt) n7).other ⟨gk+1,1,none⟩ (.int .u32 va) n7
    simpa using this
   have MX:Mod [b,gk+1] w2 ((((w2.drewN nq).setCell ⟨b,2,none⟩ (.int .i64 (wrap64 (hi+1)))).setCell ⟨gk+1,0,none⟩ (.int .u8 vt)).setCell ⟨gk+1,1,none⟩ (.int .u32 va)):=((((Mod.refl _ _).drewN nq).setCell _ _ (by simp)).setCell _ _ (by simp)).setCell _ _ (by simp)
   obtain ⟨z0,z1⟩:=BX.cells2
   generalize ((((w2.drewN nq).setCell ⟨b,2,none⟩ (.int .i64 (wrap64 (hi+1)))).setCell ⟨gk+1,0,none⟩ (.int .u8 vt)).setCell ⟨gk+1,1,none⟩ (.int .u32 va))=wx at *
   refine bodyPost_ret (v:=.tuple #[.agg #[(.int .u8 vt),(.int .u32 va)],.bool true]) (by simp [results,Tryz.results122,go_sem,z0,z1];try rfl) rfl ?_
   exact ⟨vt,va,true,rfl,(fun _=>HV.out),⟨wrap64 (hi+1),mi,HX⟩,(MW.out.mono (S':=[b]) (by simp)).trans MX (by intro k hk h;simp at h;rcases h with rfl | rfl<;>first | (exfalso;omega) | simp)⟩
  ·rw [decide_eq_false hjj] at eq1
   clear hjj hv
   go_wp2_with fail
   go_quiet (fail)
   go_wp2_with fail
   have BX:Blk ((((w2.drewN nq).setCell ⟨b,3,none⟩ (.int .i64 (wrap64 (mi+1)))).setCell ⟨gk+1,0,none⟩ (.int .u8 0)).setCell ⟨gk+1,1,none⟩ (.int .u32 0)) (gk+1) #[(.int .u8 0),(.int .u32 0)] 66:=by
    have:=(((BR2.out.drewN nq).other ⟨b,3,none⟩ (.int .i64 (wrap64 (mi+1))) n8).set 0 (.int .u8 0)).set 1 (.int .u32 0)
    simpa using this
   have HX:Blk ((((w2.drewN nq).setCell ⟨b,3,none⟩ (.int .i64 (wrap64 (mi+1)))).setCell ⟨gk+1,0,none⟩ (.int .u8 0)).setCell ⟨gk+1,1,none⟩ (.int .u32 0)) b #[.slice (some ⟨g,0,none⟩) n n,.int .i64 1,.int .i64 hi,.int .i64 (wrap64 (mi+1))] 176:=by
    have:=(((HBB.out.drewN nq).set 3 (.int .i64 (wrap64 (mi+1)))).other ⟨gk+1,0,none⟩ (.int .u8 0) n7).other ⟨gk+1,1,none⟩ (.int .u32 0) n7
    simpa using this
   have MX:Mod [b,gk+1] w2 ((((w2.drewN nq).setCell ⟨b,3,none⟩ (.int .i64 (wrap64 (mi+1)))).setCell ⟨gk+1,0,none⟩ (.int .u8 0)).setCell ⟨gk+1,1,none⟩ (.int .u32 0)):=((((Mod.refl _ _).drewN nq).setCell _ _ (by simp)).setCell _ _ (by simp)).setCell _ _ (by simp)
   obtain ⟨z0,z1⟩:=BX.cells2
   generalize ((((w2.drewN nq).setCell ⟨b,3,none⟩ (.int .i64 (wrap64 (mi+1)))).setCell ⟨gk+1,0,none⟩ (.int .u8 0)).setCell ⟨gk+1,1,none⟩ (.int .u32 0))=wx at *
   refine bodyPost_ret (v:=.tuple #[.agg #[(.int .u8 0),(.int .u32 0)],.bool false]) (by simp [results,Tryz.results122,go_sem,z0,z1];try rfl) rfl ?_
   exact ⟨0,0,false,rfl,(fun h=>by cases h),⟨hi,wrap64 (mi+1),HX⟩,(MW.out.mono (S':=[b]) (by simp)).trans MX (by intro k hk h;simp at h;rcases h with rfl | rfl<;>first | (exfalso;omega) | simp)⟩
open Go.RowKit
theorem Grow.cons {w w':World} {F F':List Nat} (h:Grow w w' F F') (x:Nat):Grow w w' (x::F) (x::F'):=
 ⟨h.mod.mono (fun k _ hk=>List.mem_cons_of_mem _ hk),fun k hk=>(List.mem_cons.1 hk).elim (fun e=>.inl (by simp [e])) (fun hk=>(h.own k hk).imp (List.mem_cons_of_mem _) id)⟩
theorem Grow.of_mods {w w':World} {F S:List Nat} (m:Mod S w w') (hS:∀k∈S,k∈F):Grow w w' F F:=⟨m.mono (fun k _ hk=>hS k hk),fun _ h=>.inl h⟩
def VA (L:List Rc) (n:Nat) (j:JbA) (v:Ed):Prop:=
 ∃k ta tb tc,1≤j.f∧j.f≤5∧EdT L j.f n k j.l j.a ta∧EdT L j.f n k j.l j.b tb∧EdT L j.f n k j.l j.c tc∧EdT L j.f n k j.l v (op3T j.op ta tb tc)
theorem VA.grow {L:List Rc} {n:Nat} {j:JbA} {v:Ed} (h:VA L n j v) (L2:List Rc):VA (L++L2) n j v:=by
 obtain ⟨k,ta,tb,tc,h1,h5,a,b,c,d⟩:=h
 exact ⟨k,ta,tb,tc,h1,h5,a.grow L2,b.grow L2,c.grow L2,d.grow L2⟩
theorem VA.told {L:List Rc} {n k:Nat} {j:JbA} {v:Ed} (h:VA L n j v) {ta tb tc:List Bool} (a:EdT L j.f n k j.l j.a ta) (b:EdT L j.f n k j.l j.b tb) (c:EdT L j.f n k j.l j.c tc):EdT L j.f n k j.l v (op3T j.op ta tb tc):=by
 obtain ⟨k',ta',tb',tc',h1,h5,a',b',c',d⟩:=h
 obtain ⟨rfl,rfl⟩:=a.fun_ h1 h5 a'
 obtain ⟨-,rfl⟩:=b.fun_ h1 h5 b'
 obtain ⟨-,rfl⟩:=c.fun_ h1 h5 c'
 exact d
structure EngA (w:World) (bs n room:Nat) (L:List Rc) (F:List Nat) (bo bc g:Nat):Prop where
 ops:Blk w bo #[.pointer (some ⟨bs,0,none⟩),.pointer (some ⟨bc,0,none⟩)] 124
 head:CHead 176 w bc g 4096
 tab:TabP 239 12 w g 4096 (EnA (VA L n))
 sto:Sto w bs n room L F
 no:bo∉F∧bc∉F∧g∉F
 ap:bo≠bc∧bo≠g∧bc≠g
theorem EngA.mod {S:List Nat} {w w':World} {bs n room:Nat} {L:List Rc} {F:List Nat} {bo bc g:Nat} (h:EngA w bs n room L F bo bc g) (m:Mod S w w') (hd:∀k∈bo::bc::g::F,k∉S):EngA w' bs n room L F bo bc g:=
 ⟨h.ops.mod m (hd _ (by simp)),h.head.mod m (hd _ (by simp)),h.tab.mod m (hd _ (by simp)),h.sto.mod m (fun k hk=>hd k (by simp [hk])),h.no,h.ap⟩
theorem EngA.mod0 {w w':World} {bs n room:Nat} {L:List Rc} {F:List Nat} {bo bc g:Nat} (h:EngA w bs n room L F bo bc g) (m:Mod [] w w'):EngA w' bs n room L F bo bc g:=h.mod m (by simp)
theorem EngA.lt {w:World} {bs n room:Nat} {L:List Rc} {F:List Nat} {bo bc g:Nat} (h:EngA w bs n room L F bo bc g):∀k∈bo::bc::g::F,k < w.heap.size:=by
 intro k hk
 simp at hk
 rcases hk with rfl | rfl | rfl | hk
 ·exact h.ops.lt
 ·exact h.head.lt
 ·exact h.tab.lt
 ·exact h.sto.st.lt k hk
theorem EngA.grown {w w':World} {bs n room:Nat} {L L2:List Rc} {F F':List Nat} {bo bc g:Nat} (h:EngA w bs n room L F bo bc g) (s:Sto w' bs n room (L++L2) F') (m:Grow w w' F F'):EngA w' bs n room (L++L2) F' bo bc g:=
 ⟨h.ops.mod m.mod h.no.1,h.head.mod m.mod h.no.2.1,(h.tab.mod m.mod h.no.2.2).imp fun e he=>he.imp fun j v q=>q.grow L2,s,⟨m.out h.ops.lt h.no.1,m.out h.head.lt h.no.2.1,m.out h.tab.lt h.no.2.2⟩,h.ap⟩
theorem EngA.got {w w':World} {bs n room:Nat} {L:List Rc} {F:List Nat} {bo bc g:Nat} (h:EngA w bs n room L F bo bc g) (c:CHead 176 w' bc g 4096) (m:Mod [bc] w w'):EngA w' bs n room L F bo bc g:=
 ⟨h.ops.mod m (by simpa using h.ap.1),c,h.tab.mod m (by simpa using h.ap.2.2.symm),h.sto.mod m (fun k hk q=>by simp at q;subst q;exact h.no.2.1 hk),h.no,h.ap⟩
theorem EngA.putt {w w':World} {bs n room:Nat} {L:List Rc} {F:List Nat} {bo bc g:Nat} (h:EngA w bs n room L F bo bc g) (c:TabP 239 12 w' g 4096 (EnA (VA L n))) (m:Mod [g] w w'):EngA w' bs n room L F bo bc g:=
 ⟨h.ops.mod m (by simpa using h.ap.2.1),h.head.mod m (by simpa using h.ap.2.2),c,h.sto.mod m (fun k hk q=>by simp at q;subst q;exact h.no.2.2 hk),h.no,h.ap⟩
def DoR (w:World) (bs n room:Nat) (L:List Rc) (F:List Nat) (bo bc g f k l:Nat) (t:List Bool) (lm cc:Nat) (r:Ending) (w':World):Prop:=
 ∃(et ea:Nat) (L2:List Rc) (F':List Nat),r=.returned (.tuple #[.agg #[.int .u8 et,.int .u32 ea],.int .u8 0])∧EngA w' bs n room (L++L2) F' bo bc g∧Grow w w' (bc::g::F) (bc::g::F')∧EdT (L++L2) f n k l ⟨et,ea⟩ t∧Rm n f lm room (L++L2) cc
def DoA (lm bs n room bo bc g f op k l:Nat):Prop:=
 ∀(w:World) (L:List Rc) (F:List Nat) (at_ aa bt ba ct ca:Nat) (ta tb tc:List Bool) (cc:Nat),EngA w bs n room L F bo bc g→Rm n f lm room L (budA (lm - l)+cc)→
  EdT L f n k l ⟨at_,aa⟩ ta→EdT L f n k l ⟨bt,ba⟩ tb→EdT L f n k l ⟨ct,ca⟩ tc→
  Calls Tryz.prog 91 #[.pointer (some ⟨bo,0,none⟩),.agg #[.int .u8 f,.int .u8 op,.int .u8 l,.int .u8 at_,.int .u32 aa,.int .u8 bt,.int .u32 ba,.int .u8 ct,.int .u32 ca]] w (DoR w bs n room L F bo bc g f k l (op3T op ta tb tc) lm cc)
def SplA (lm bs n room bo bc g f op k l:Nat):Prop:=
 ∀(w:World) (L:List Rc) (F:List Nat) (at_ aa bt ba ct ca:Nat) (ta tb tc:List Bool) (cc:Nat),EngA w bs n room L F bo bc g→Rm n f lm room L (budA (lm - l)+cc)→
  EdT L f n k l ⟨at_,aa⟩ ta→EdT L f n k l ⟨bt,ba⟩ tb→EdT L f n k l ⟨ct,ca⟩ tc→
  Calls Tryz.prog 123 #[.pointer (some ⟨bo,0,none⟩),.agg #[.int .u8 f,.int .u8 op,.int .u8 l,.int .u8 at_,.int .u32 aa,.int .u8 bt,.int .u32 ba,.int .u8 ct,.int .u32 ca]] w (DoR w bs n room L F bo bc g f k l (op3T op ta tb tc) lm cc)
theorem EdT.leaf {L:List Rc} {f n:Nat} {e:Ed} {t:List Bool} (h:EdT L f n 0 n e t) (h1:1≤f) (h5:f≤5):t=[decide (0 < e.a)]:=by
 have h0:=h.at0 h1 h5
 have hl:=h.len
 match t,hl with
 | [true],_=>
  have:e.a≠0:=fun q=>h0.1 q (by simp)
  simp;omega
 | [false],_=>
  have:=h0.2 (by simp)
  simp [this]
theorem EdT.bit (L:List Rc) {f n:Nat} (h1:1≤f) (h5:f≤5) (b:Bool):EdT L f n 0 n (if b then oneE f n else ⟨0,0⟩) [b]:=by
 cases b with
 | true=>exact EdT.one L h1 h5
 | false=>exact EdT.zero L (k:=0) (by omega)
theorem EdT.none {L:List Rc} {f n k l:Nat} {e:Ed} {t:List Bool} (h:EdT L f n k l e t) (h1:1≤f) (h5:f≤5) (h0:e.a=0):t=List.replicate (2 ^ k) false:=none_rep h.len ((h.at0 h1 h5).1 h0)
open Go.RowKit
structure EnP (w:World) (bs n:Nat) (bo bc g:Nat):Prop where
 ops:Blk w bo #[.pointer (some ⟨bs,0,none⟩),.pointer (some ⟨bc,0,none⟩)] 124
 head:CHead 176 w bc g 4096
 tab:TabP 239 12 w g 4096 (EnA (VA [] n))
 ap:bo≠bc∧bo≠g∧bc≠g
theorem EnP.mod {S:List Nat} {w w':World} {bs n bo bc g:Nat} (h:EnP w bs n bo bc g) (m:Mod S w w') (hd:∀k∈[bo,bc,g],k∉S):EnP w' bs n bo bc g:=
 ⟨h.ops.mod m (hd _ (by simp)),h.head.mod m (hd _ (by simp)),h.tab.mod m (hd _ (by simp)),h.ap⟩
structure MgE (w:World) (bm n room:Nat) (L:List Rc) (Fs p:List Nat) (H:List (Nat × Ed)) (bs bo bq:Nat) (F:List Nat) (ba bc g:Nat):Prop where
 m:Mng w bm n room L Fs p H bs bo bq F
 e:EngA w bs n room L Fs ba bc g
 c0:w.cell? ⟨bm,0,none⟩=some (.pointer (some ⟨ba,0,none⟩))
 ap:bm∉ba::bc::g::Fs∧bc∉F∧g∉F
section
variable {w w':World} {bm n room:Nat} {L L2:List Rc} {Fs Fs' p:List Nat} {H H':List (Nat × Ed)} {bs bo bq:Nat} {F:List Nat} {ba bc g:Nat}
theorem MgE.lt (h:MgE w bm n room L Fs p H bs bo bq F ba bc g):∀k∈bm::ba::bc::g::Fs,k < w.heap.size:=by
 intro k hk
 rcases List.mem_cons.1 hk with rfl | hk
 ·exact World.block_lt_of_cell? w _ h.c0
 ·exact h.e.lt k hk
theorem MgE.did (h:MgE w bm n room L Fs p H bs bo bq F ba bc g) (s:EngA w' bs n room (L++L2) Fs' ba bc g) (m:Grow w w' (bc::g::Fs) (bc::g::Fs')):MgE w' bm n room (L++L2) Fs' p H bs bo bq F ba bc g:=by
 have hbm:bm∉bc::g::Fs:=fun q=>h.ap.1 (List.mem_cons_of_mem _ q)
 have hlt:=h.lt
 refine ⟨?_,s,(m.mod.cell (a:=⟨bm,0,none⟩) (hlt bm (by simp)) hbm).trans h.c0,⟨fun q=>?_,h.ap.2⟩⟩
 ·obtain ⟨-,-,hF⟩:=h.m.own
  obtain ⟨b1,bg,vk,vq,vg,Fo,q,h1,h2,h3,h4,h5,h6,e,h7,h8⟩:=h.m.m
  have no:∀k∈F,k∉bc::g::Fs:=fun k hk q=>by
   rcases List.mem_cons.1 q with e | q
   ·exact h.ap.2.1 (e▸hk)
   rcases List.mem_cons.1 q with e | q
   ·exact h.ap.2.2 (e▸hk)
   exact h7 k q hk
  have no':∀k∈F,k∉bc::g::Fs':=fun k hk=>m.out (hF k hk) (no k hk)
  rw [e] at no no'
  refine ⟨⟨b1,bg,vk,vq,vg,Fo,q,h1.mod m.mod (no _ (by simp)),h2.mod m.mod (fun k hk=>no k (by simp [hk])),h3,h4.mod m.mod (no _ (by simp)),h5.mod m.mod (no _ (by simp)),h6.mod m.mod (no _ (by simp)),e,fun k hk hk2=>?_,h8⟩,s.sto.st⟩
  rw [e] at hk2
  exact no' k hk2 (List.mem_cons_of_mem _ (List.mem_cons_of_mem _ hk))
 ·rcases List.mem_cons.1 q with q | q
  ·exact h.ap.1 (by simp [q])
  ·exact m.out (hlt bm (by simp)) hbm q
theorem MgE.sto (h:MgE w bm n room L Fs p H bs bo bq F ba bc g) (s:Sto w' bs n room (L++L2) Fs') (m:Grow w w' Fs Fs'):MgE w' bm n room (L++L2) Fs' p H bs bo bq F ba bc g:=
 h.did (h.e.grown s m) ((m.cons g).cons bc)
theorem MgE.mods {S:List Nat} (h:MgE w bm n room L Fs p H bs bo bq F ba bc g) (m:Mod S w w') (h0:∀k∈S,k∉bm::ba::bc::g::Fs∧k∉F):MgE w' bm n room L Fs p H bs bo bq F ba bc g:=by
 have e':=h.e.mod m (fun k hk hS=>(h0 k hS).1 (List.mem_cons_of_mem _ hk))
 have hlt:=h.lt
 obtain ⟨b1,bg,vk,vq,vg,Fo,q,h1,h2,h3,h4,h5,h6,e,h7,h8⟩:=h.m.m
 have no:∀k∈bm::b1::bq::bg::Fo,k∉S:=fun k hk hS=>(h0 k hS).2 (e▸hk)
 exact ⟨⟨⟨b1,bg,vk,vq,vg,Fo,q,h1.mod m (no _ (by simp)),h2.mod m (fun k hk=>no k (by simp [hk])),h3,h4.mod m (no _ (by simp)),h5.mod m (no _ (by simp)),h6.mod m (no _ (by simp)),e,h7,h8⟩,e'.sto.st⟩,e',(m.cell (a:=⟨bm,0,none⟩) (hlt bm (by simp)) (no _ (by simp))).trans h.c0,h.ap⟩
theorem MgE.mod0 (h:MgE w bm n room L Fs p H bs bo bq F ba bc g) (m:Mod [] w w'):MgE w' bm n room L Fs p H bs bo bq F ba bc g:=h.mods m (by simp)
theorem MgE.flt (h:MgE w bm n room L Fs p H bs bo bq F ba bc g):∀k∈F,k < w.heap.size:=h.m.own.2.2
theorem MgE.book (h:MgE w bm n room L Fs p H bs bo bq F ba bc g) (m:Mod [bm] w w') (hm:∀q,Mgr w bm q H→Mgr w' bm q H'):MgE w' bm n room L Fs p H' bs bo bq F ba bc g:=by
 have hm':=h.m.book m hm
 have e':=h.e.mod m (fun k hk q=>by simp at q;subst q;exact h.ap.1 hk)
 refine ⟨hm',e',?_,h.ap⟩
 obtain ⟨b1,bg,vk,vq,vg,Fo,q,h1,-⟩:=h.m.m
 have c1:=h1.cell 0 (by omega)
 have c2:=(hm _ h1).cell 0 (by omega)
 rw [mgL_low _ _ _ (by omega)] at c1 c2
 rw [c2,←c1]
 exact h.c0
end
theorem tab_made {ty m:Nat} (n:Nat) (z:List Value) (hz:z.length=m) (h0:0 < m) {P:List Value→Prop} (hP:P z) (w:World) (gk:Nat) (hgk:w.heap.size=gk):TabP ty m (w.alloc (.cells (madeCells z.toArray (n *m)) ty)) gk n P:=by
 refine ⟨_,Blk.new' _ _ _ _ hgk.symm,size_madeCells _ _,fun i hi=>⟨z,hz,hP,fun j hj=>?_⟩⟩
 have h1:i *m+j < n *m:=by
  have:i *m+m≤n *m:=by rw [←Nat.succ_mul];exact Nat.mul_le_mul_right m hi
  omega
 have h2:(i *m+j) % m=j:=by rw [Nat.mul_comm,Nat.mul_add_mod,Nat.mod_eq_of_lt hj]
 simp [madeCells,h1,hz,h2]
 rw [List.getElem?_eq_getElem (by omega)]
 rfl
def NewC (hd ty m:Nat) (P:List Value→Prop) (w:World) (e:Ending) (w':World):Prop:=
 ∃b g,e=.returned (.tuple #[.pointer (some ⟨b,0,none⟩),.int .u8 0])∧CHead hd w' b g 4096∧TabP ty m w' g 4096 P∧Mod [] w w'∧w.heap.size≤b∧w.heap.size≤g∧b≠g
theorem cacheA_new (V:JbA→Ed→Prop) (w:World):Calls Tryz.prog 52 #[.int .i64 12] w (NewC 176 239 12 (EnA V) w):=by
 obtain ⟨i0,hi,hz0,hz1,hz2⟩:=info_parts Tryz.infoKapply
 obtain ⟨gk,hgk⟩:∃gk,w.heap.size=gk:=⟨_,rfl⟩
 have T0:=Lib.hid (tab_made (ty:=239) (m:=12) (P:=EnA V) 4096 [.int .u8 0,.int .u8 0,.int .u8 0,.int .u8 0,.int .u32 0,.int .u8 0,.int .u32 0,.int .u8 0,.int .u32 0,.int .u8 0,.int .u32 0,.int .i64 0] rfl (by decide) ⟨⟨0,0,0,⟨0,0⟩,⟨0,0⟩,⟨0,0⟩⟩,⟨0,0⟩,0,rfl,.inl rfl⟩ w gk hgk)
 have hmk:(Instr.makeSlice 174 (.int .i64 4096) (.int .i64 4096)).run Tryz.prog w=.ok (.slice (some ⟨gk,0,none⟩) 4096 4096) (w.alloc (.cells (madeCells #[.int .u8 0,.int .u8 0,.int .u8 0,.int .u8 0,.int .u32 0,.int .u8 0,.int .u32 0,.int .u8 0,.int .u32 0,.int .u8 0,.int .u32 0,.int .i64 0] (4096 *12)) 239)):=by
  rw [←hgk]
  have:=run_make (P:=Tryz.prog) w 174 239 i0 _ Tryz.underlying174 hi hz0 .i64 .i64 4096 4096 (by omega) (by omega) (by rw [hz2];omega) (by omega)
  simpa [hz1,Value.cells] using this
 clear hi hz0 hz1 hz2
 have hs:=shl_12
 have M1:Hid (Mod [] w (w.alloc (.cells (madeCells #[.int .u8 0,.int .u8 0,.int .u8 0,.int .u8 0,.int .u32 0,.int .u8 0,.int .u32 0,.int .u8 0,.int .u32 0,.int .u8 0,.int .u32 0,.int .i64 0] (4096 *12)) 239))):=(Mod.refl _ _).alloc _
 have hsz:(w.alloc (.cells (madeCells #[.int .u8 0,.int .u8 0,.int .u8 0,.int .u8 0,.int .u32 0,.int .u8 0,.int .u32 0,.int .u8 0,.int .u32 0,.int .u8 0,.int .u32 0,.int .i64 0] (4096 *12)) 239)).heap.size=gk+1:=by simp [hgk]
 generalize w.alloc (.cells (madeCells #[.int .u8 0,.int .u8 0,.int .u8 0,.int .u8 0,.int .u32 0,.int .u8 0,.int .u32 0,.int .u8 0,.int .u32 0,.int .u8 0,.int .u32 0,.int .i64 0] (4096 *12)) 239)=wx at *
 go_enter Tryz.func52,Tryz.ntmps52
 go_wp2_with fail
 go_ret2
 exact ⟨_,gk,rfl,⟨0,0,Blk.new' _ _ _ _ (by first | exact hsz.symm | rfl)⟩,T0.out.mod (S:=[]) (by exact mods) (by simp),M1.out.alloc _,by omega,by omega,by omega⟩
theorem applyNew12_c (bs n:Nat) (w:World):Calls Tryz.prog 25 #[.pointer (some ⟨bs,0,none⟩),.int .i64 12] w fun e w'=>∃bo bc g,e=.returned (.tuple #[.pointer (some ⟨bo,0,none⟩),.int .u8 0])∧EnP w' bs n bo bc g∧Mod [] w w'∧∀k∈[bo,bc,g],w.heap.size≤k:=by
 have CN:=Lib.hid (cacheA_new (VA [] n))
 go_enter Tryz.func25,Tryz.ntmps25
 go_wp2_with fail
 refine (CN.out _).mono ?_
 rintro e w1 ⟨b1,g1,rfl,c1,t1,m1,o1,o2,o3⟩
 have C1:=Lib.hid c1
 have T1:=Lib.hid t1
 have M1:=Lib.hid m1
 have hb1:=c1.lt
 have hg1:=t1.lt
 clear c1 t1 m1
 go_wp2_with fail
 go_ret2
 have hs:=M1.out.size
 refine ⟨w1.heap.size,b1,g1,rfl,⟨Blk.new _ _ _,C1.out.mod (S:=[]) (by exact mods) (by simp),T1.out.mod (S:=[]) (by exact mods) (by simp),⟨by omega,by omega,by omega⟩⟩,M1.out.alloc _,?_⟩
 intro k hk
 simp at hk
 omega
theorem managerNewE_c (n room:Nat) (hn:n≤16) (hr:room≤1048576) (w:World):Calls Tryz.prog 8 #[.int .i64 n,.int .i64 room] w fun e w'=>∃bm bs bo bq Fs F ba bc gc,e=.returned (.tuple #[.pointer (some ⟨bm,0,none⟩),.int .u8 0])∧MgE w' bm n room [] Fs (List.range n) [] bs bo bq F ba bc gc∧Mod [] w w'∧(∀k∈Fs,w.heap.size≤k)∧∀k∈bm::bc::gc::Fs,w.heap.size≤k:=by
 have SN:Hid (∀w,_):=stNew_c n room hn hr
 have ON:Hid (∀w,_):=orderNew_c n hn
 go_enter Tryz.func8,Tryz.ntmps8
 go_wp2_with fail
 refine (SN.out _).mono ?_
 rintro e w1 ⟨bs,Fs,rfl,s1,m1,f1⟩
 have F1:=Lib.hid f1
 clear f1
 go_wp2_with fail
 have S1:=Lib.hid s1
 have M1:=Lib.hid m1
 have SL:=Lib.hid s1.lt
 clear s1 m1 SN
 obtain ⟨bm,hbm⟩:∃bm,w1.heap.size=bm:=⟨_,rfl⟩
 rw [hbm]
 have BM:=Lib.hid (Mgr.fresh w1 bm hbm.symm (.pointer (some ⟨bs,0,none⟩)))
 have MA:Hid (Mod [] w1 (w1.alloc (.cells (Tryz.zeroCells71.setIfInBounds 3 (.pointer (some ⟨bs,0,none⟩))) 71))):=(Mod.refl _ _).alloc _
 have HBM:=Lib.hid hbm
 have hsz:(w1.alloc (.cells (Tryz.zeroCells71.setIfInBounds 3 (.pointer (some ⟨bs,0,none⟩))) 71)).heap.size=bm+1:=by simp [hbm]
 have HSZ:=Lib.hid hsz
 clear hbm hsz
 generalize w1.alloc (.cells (Tryz.zeroCells71.setIfInBounds 3 (.pointer (some ⟨bs,0,none⟩))) 71)=wA at *
 generalize Value.agg (Tryz.zeroCells71.setIfInBounds 3 (.pointer (some ⟨bs,0,none⟩)))=vA at *
 refine (ON.out _).mono ?_
 rintro e w2 ⟨bo,q,Fo,rfl,io,inv,m2,fo⟩
 have BM2:=BM.out.mod m2 (by simp)
 have c4:=BM2.cell 4 (by omega)
 have f4:=BM2.froz 4
 have IOR:=Lib.hid io
 have INV:=Lib.hid inv
 have FO:=Lib.hid fo
 have M2:=Lib.hid m2
 have hb2:=BM2.lt
 have B2:=Lib.hid BM2
 clear io inv fo m2 BM BM2
 go_wp2_with fail
 have B3:=Lib.hid (B2.out.ptr rfl 4 (by omega) (.pointer (some ⟨bo,0,none⟩)))
 have M3:Hid (Mod [bm] wA (w2.setCell ⟨bm,4,none⟩ (.pointer (some ⟨bo,0,none⟩)))):=(M2.out.mono (by simp)).setCell _ _ (by simp)
 have IO3:Hid (IsOrd (w2.setCell ⟨bm,4,none⟩ (.pointer (some ⟨bo,0,none⟩))) bo (List.range n) q Fo):=IOR.out.mod (S:=[bm]) ((Mod.refl _ _).setCell _ _ (by simp)) (fun k hk h=>by have h1:=FO.out k hk;have h2:=HSZ.out;simp at h;omega)
 have IOL:=Lib.hid IOR.out.lt
 have SZ3:Hid (w2.heap.size≤(w2.setCell ⟨bm,4,none⟩ (.pointer (some ⟨bo,0,none⟩))).heap.size):=by show _≤_;simp
 have hb3:bm < (w2.setCell ⟨bm,4,none⟩ (.pointer (some ⟨bo,0,none⟩))).heap.size:=by simpa using hb2
 clear c4 f4 hb2
 generalize w2.setCell ⟨bm,4,none⟩ (.pointer (some ⟨bo,0,none⟩))=w3 at *
 refine (applyNew12_c bs n w3).mono ?_
 rintro e w4 ⟨ba,bc,gc,rfl,ab,m4,ha0⟩
 have ha:=ha0 ba (by simp)
 have hac:=ha0 bc (by simp)
 have hag:=ha0 gc (by simp)
 have HAC:Hid (w3.heap.size≤bc∧w3.heap.size≤gc∧bc < w4.heap.size∧gc < w4.heap.size):=⟨hac,hag,ab.head.lt,ab.tab.lt⟩
 have hbc:¬bc=bm:=by omega
 have hgc:¬gc=bm:=by omega
 clear ha0 hac hag
 have AB:=Lib.hid ab
 have M4:=Lib.hid m4
 have HA:=Lib.hid ha
 have B4:=Lib.hid (B3.out.mod m4 (by simp))
 have c0:=B4.out.cell 0 (by omega)
 have f0:=B4.out.froz 0
 have hb4:=B4.out.lt
 have hbe:¬ba=bm:=by omega
 clear ab m4 ha B3 B2
 go_wp2_with fail
 have B5:=Lib.hid (B4.out.ptr rfl 0 (by omega) (.pointer (some ⟨ba,0,none⟩)))
 have M5:Hid (Mod [bm] w4 (w4.setCell ⟨bm,0,none⟩ (.pointer (some ⟨ba,0,none⟩)))):=(Mod.refl _ _).setCell _ _ (by simp)
 have SZ5:Hid ((w4.setCell ⟨bm,0,none⟩ (.pointer (some ⟨ba,0,none⟩))).heap.size=w4.heap.size):=by show _=_;simp
 have AB5:=Lib.hid (AB.out.mod M5.out (by simp [hbe,hbc,hgc]))
 have d0:(w4.setCell ⟨bm,0,none⟩ (.pointer (some ⟨ba,0,none⟩))).cell? ⟨bm,0,none⟩=some (.pointer (some ⟨ba,0,none⟩)):=B5.out.cell 0 (by omega)
 clear c0 f0 hb4
 generalize w4.setCell ⟨bm,0,none⟩ (.pointer (some ⟨ba,0,none⟩))=w5 at *
 refine (quantNew_c AB5.out.ops).mono ?_
 rintro e w6 ⟨bq,vq,rfl,qb,m6,hq⟩
 have QB:=Lib.hid qb
 have M6:=Lib.hid m6
 have HQ:=Lib.hid hq
 have AB6:=Lib.hid (AB5.out.mod m6 (by simp))
 have B6:=Lib.hid (B5.out.mod m6 (by simp))
 have c1:=B6.out.cell 1 (by omega)
 have f1:=B6.out.froz 1
 have e0:=B6.out.cell 0 (by omega)
 have hb6:=B6.out.lt
 have hqe:¬bq=bm:=by have:=B5.out.lt;omega
 replace e0:w6.cell? ⟨bm,0,none⟩=some (.pointer (some ⟨ba,0,none⟩)):=e0
 clear qb m6 hq B5 B4 d0 AB
 go_wp2_with fail
 have B7:=Lib.hid (B6.out.ptr rfl 1 (by omega) (.pointer (some ⟨bq,0,none⟩)))
 have M7:Hid (Mod [bm] w6 (w6.setCell ⟨bm,1,none⟩ (.pointer (some ⟨bq,0,none⟩)))):=(Mod.refl _ _).setCell _ _ (by simp)
 have SZ7:Hid ((w6.setCell ⟨bm,1,none⟩ (.pointer (some ⟨bq,0,none⟩))).heap.size=w6.heap.size):=by show _=_;simp
 have AB7:=Lib.hid (AB6.out.mod M7.out (by simp [hbe,hbc,hgc]))
 have QB7:=Lib.hid (QB.out.mod M7.out (by simp [hqe]))
 clear c1 f1 e0 hb6 AB6 QB
 generalize w6.setCell ⟨bm,1,none⟩ (.pointer (some ⟨bq,0,none⟩))=w7 at *
 refine (familyNew_c AB7.out.ops).mono ?_
 rintro e w8 ⟨bg,vg,rfl,gb,m8,hg⟩
 have GB:=Lib.hid gb
 have M8:=Lib.hid m8
 have HG:=Lib.hid hg
 have AB8:=Lib.hid (AB7.out.mod m8 (by simp))
 have QB8:=Lib.hid (QB7.out.mod m8 (by simp))
 have B8:=Lib.hid (B7.out.mod m8 (by simp))
 have c2:=B8.out.cell 2 (by omega)
 have f2:=B8.out.froz 2
 have hb8:=B8.out.lt
 have hge:¬bg=bm:=by have:=B7.out.lt;omega
 clear gb m8 hg B7 B6 AB7 QB7
 go_wp2_with fail
 go_ret2
 have B9:=B8.out.ptr rfl 2 (by omega) (.pointer (some ⟨bg,0,none⟩))
 have M9:Mod [bm] w8 (w8.setCell ⟨bm,2,none⟩ (.pointer (some ⟨bg,0,none⟩))):=(Mod.refl _ _).setCell _ _ (by simp)
 have MZ:Mod [bm] w3 (w8.setCell ⟨bm,2,none⟩ (.pointer (some ⟨bg,0,none⟩))):=
  ((((M4.out.mono (S':=[bm]) (by simp)).trans' (M5.out.trans' ((M6.out.mono (S':=[bm]) (by simp)).trans' (M7.out.trans' ((M8.out.mono (S':=[bm]) (by simp)).trans' M9)))))))
 have h1:=MA.out.size
 have h2:=HSZ.out
 have h3:=HBM.out
 have h4:=M2.out.size
 have h5:=SZ3.out
 have h6:=M4.out.size
 have h7:=M6.out.size
 have h8:=SZ5.out
 have h9:=SZ7.out
 have h10:=HA.out
 have h11:=HQ.out
 have h12:=HG.out
 have h13:=M1.out.size
 have hFo:∀k∈Fo,bm+1≤k∧k < w2.heap.size:=fun k hk=>⟨by have:=FO.out k hk;omega,IOL.out k hk⟩
 have hFs:∀k∈Fs,k < bm:=fun k hk=>by have:=SL.out k hk;omega
 have MM:Mod [bm] wA (w8.setCell ⟨bm,2,none⟩ (.pointer (some ⟨bg,0,none⟩))):=M3.out.trans' MZ
 have MW:Mod [] w (w8.setCell ⟨bm,2,none⟩ (.pointer (some ⟨bg,0,none⟩))):=(M1.out.trans' MA.out).trans MM (fun i hi hm=>by simp at hm;omega)
 have EP9:=AB8.out.mod M9 (by simp [hbe,hbc,hgc])
 have ST9:IsSt (w8.setCell ⟨bm,2,none⟩ (.pointer (some ⟨bg,0,none⟩))) bs n [] room Fs:=(S1.out.mod MA.out (by simp)).mod MM (fun k hk h=>by have:=hFs k hk;simp at h;omega)
 obtain ⟨hc1,hc2,hc3,hc4⟩:=HAC.out
 obtain ⟨ap1,ap2,ap3⟩:=EP9.ap
 have cc0:=B9.cell 0 (by omega)
 refine ⟨bm,bs,bo,bq,Fs,bm::ba::bq::bg::Fo,ba,bc,gc,rfl,⟨⟨⟨ba,bg,_,vq,vg,Fo,q,B9,IO3.out.mod MZ (fun k hk h=>by have:=hFo k hk;simp at h;omega),INV.out,EP9.ops,QB8.out.mod M9 (by simp [hqe]),GB.out.mod M9 (by simp [hge]),rfl,?_,fun h=>by have:=hFo _ h;omega,fun h=>hbe h.symm,fun h=>hqe h.symm,fun h=>hge h.symm⟩,ST9⟩,⟨EP9.ops,EP9.head,EP9.tab,⟨ST9,Good.nil n,List.nodup_nil⟩,⟨fun h=>?_,fun h=>?_,fun h=>?_⟩,EP9.ap⟩,cc0,⟨fun h=>?_,fun h=>?_,fun h=>?_⟩⟩,MW,F1.out,?_⟩
 ·intro k hk h
  have q1:=hFs k hk
  simp at h
  rcases h with h | h | h | h | h
  ·omega
  ·omega
  ·omega
  ·omega
  ·have:=hFo k h;omega
 ·have:=hFs _ h;omega
 ·have:=hFs _ h;omega
 ·have:=hFs _ h;omega
 ·simp at h
  rcases h with h | h | h | h
  ·omega
  ·omega
  ·omega
  ·have:=hFs _ h;omega
 ·simp at h
  rcases h with h | h | h | h | h
  ·omega
  ·omega
  ·omega
  ·omega
  ·have:=hFo _ h;omega
 ·simp at h
  rcases h with h | h | h | h | h
  ·omega
  ·omega
  ·omega
  ·omega
  ·have:=hFo _ h;omega
 ·intro k hk
  rcases List.mem_cons.1 hk with h | hk
  ·omega
  rcases List.mem_cons.1 hk with h | hk
  ·omega
  rcases List.mem_cons.1 hk with h | hk
  ·omega
  exact F1.out k hk
open Go.RowKit
def WkR (w:World) (bm n room:Nat) (L:List Rc) (Fs p:List Nat) (H:List (Nat × Ed)) (bs bo bq:Nat) (F:List Nat) (ba bc g f:Nat) (T:List Bool) (lm cc:Nat) (e:Ending) (w':World):Prop:=
 ∃(et ea:Nat) (L2:List Rc) (F':List Nat),e=.returned (.tuple #[.agg #[.int .u8 et,.int .u32 ea],.int .u8 0])∧MgE w' bm n room (L++L2) F' p H bs bo bq F ba bc g∧EdT (L++L2) f n n 0 ⟨et,ea⟩ T∧Rm n f lm room (L++L2) cc∧Grow w w' (bc::g::Fs) (bc::g::F')
def PtR (w:World) (bm n room:Nat) (L:List Rc) (Fs p:List Nat) (H:List (Nat × Ed)) (bs bo bq:Nat) (F:List Nat) (ba bc g f:Nat) (T:List Bool) (lm cc:Nat) (m:Int) (e:Ending) (w':World):Prop:=
 e=.returned (.tuple #[.int .i64 m,.int .u8 0])∧∃(ed:Ed) (L2:List Rc) (F':List Nat),MgE w' bm n room (L++L2) F' p (H++[(f,ed)]) bs bo bq F ba bc g∧EdT (L++L2) f n n 0 ed T∧Rm n f lm room (L++L2) cc∧Grow w w' (bm::bc::g::Fs) (bm::bc::g::F')
theorem twiceOf_c {w:World} {bm n room:Nat} {L:List Rc} {Fs p:List Nat} {H:List (Nat × Ed)} {bs bo bq:Nat} {F:List Nat} {ba bc g f:Nat} {T:List Bool} {lm cc:Nat} (caps:Array Value) (hE:MgE w bm n room L Fs p H bs bo bq F ba bc g)
 (WK:∀W,Mod [] w W→Calls Tryz.prog 29 caps W (WkR W bm n room L Fs p H bs bo bq F ba bc g f T lm cc)):
 Calls Tryz.prog 62 #[.pointer (some ⟨bm,0,none⟩),.func (.func 29) #[] caps] w (WkR w bm n room L Fs p H bs bo bq F ba bc g f T lm cc):=by
 have HW:=Lib.hid WK
 have HF:=Lib.hid hE.lt
 have HFL:=Lib.hid hE.flt
 obtain ⟨g4,hg4⟩:∃g,w.heap.size=g:=⟨_,rfl⟩
 clear WK hE
 go_enter Tryz.func62,Tryz.ntmps62
 go_wp2_with fail
 refine (HW.out _ (by exact mods)).mono ?_
 rintro e w1 ⟨t,a,L2,F',rfl,s1,e1,r1,m1⟩
 have N4:Hid (g4∉bc::g::Fs):=fun h=>by have:=HF.out _ (List.mem_cons_of_mem _ (List.mem_cons_of_mem _ h));omega
 have B4:=Lib.hid ((Blk.new' w #[.int .u8 0,.int .u32 0] 66 g4 hg4.symm).mod m1.mod N4.out)
 have NF:Hid (g4∉bc::g::F'):=m1.out (by simp;omega) N4.out
 obtain ⟨g6,hg6⟩:∃g,w1.heap.size=g:=⟨_,rfl⟩
 obtain ⟨p0,p1⟩:=B4.out.cells2
 obtain ⟨q0,q1,-⟩:=B4.out.frozs
 have h46:=B4.out.lt
 rw [hg6] at h46
 have n1:¬g4=g6:=by omega
 have n2:¬g6=g4:=by omega
 have S1:=Lib.hid s1
 have E1:=Lib.hid e1
 have R1:=Lib.hid r1
 have M1:Hid (Grow w w1 (bc::g::Fs) (bc::g::F')):=(Grow.of_mod ((Mod.refl [] w).alloc _)).trans m1
 have NA:Hid (g4∉bm::ba::bc::g::F'∧g4∉F):=⟨fun h=>by
  rcases List.mem_cons.1 h with e | h
  ·have:=HF.out bm (by simp);omega
  rcases List.mem_cons.1 h with e | h
  ·have:=HF.out ba (by simp);omega
  exact NF.out h,fun h=>by have:=HFL.out _ h;omega⟩
 clear s1 e1 r1 m1 HW
 go_wp2_with fail
 have BW:=((B4.out.set 0 (.int .u8 t)).set 1 (.int .u32 a)).alloc (.cells #[.int .u8 t,.int .u32 a] 66)
 simp only [List.setIfInBounds_toArray,List.set_cons_zero,List.set_cons_succ] at BW
 obtain ⟨z0,z1⟩:=BW.cells2
 have MW:Hid (Mod [g4] w1 (((w1.setCell ⟨g4,0,none⟩ (.int .u8 t)).setCell ⟨g4,1,none⟩ (.int .u32 a)).alloc (.cells #[.int .u8 t,.int .u32 a] 66))):=(((Mod.refl _ _).setCell _ _ (by simp)).setCell _ _ (by simp)).alloc _
 generalize ((w1.setCell ⟨g4,0,none⟩ (.int .u8 t)).setCell ⟨g4,1,none⟩ (.int .u32 a)).alloc (.cells #[.int .u8 t,.int .u32 a] 66)=w4 at *
 clear BW p0 p1 q0 q1
 refine bodyPost_ret (v:=.tuple #[.agg #[.int .u8 t,.int .u32 a],.int .u8 0]) (by simp [results,Tryz.results62,go_sem,z0,z1];try rfl) rfl ?_
 exact ⟨t,a,L2,F',rfl,S1.out.mods MW.out (by intro k hk;simp at hk;subst hk;exact NA.out),E1.out,R1.out,M1.out.write MW.out (by intro k hk;simp at hk;omega)⟩
theorem putOf_c {w:World} {bm n room:Nat} {L:List Rc} {Fs p:List Nat} {H:List (Nat × Ed)} {bs bo bq:Nat} {F:List Nat} {ba bc g f:Nat} {T:List Bool} {lm cc:Nat} (caps:Array Value) (hE:MgE w bm n room L Fs p H bs bo bq F ba bc g) (hH:H.length < 256) (hf:f≤255)
 (WK:∀W,Mod [] w W→Calls Tryz.prog 29 caps W (WkR W bm n room L Fs p H bs bo bq F ba bc g f T lm cc)):
 Calls Tryz.prog 33 #[.pointer (some ⟨bm,0,none⟩),.int .u8 f,.func (.func 29) #[] caps] w (PtR w bm n room L Fs p H bs bo bq F ba bc g f T lm cc ((H.length+1:Nat):Int)):=by
 have TW:=Lib.hid (twiceOf_c caps hE WK)
 obtain ⟨m,hm⟩:∃m,H.length+1=m:=⟨_,rfl⟩
 have HMM:=Lib.hid hm
 clear hE WK
 unfold PtR
 rw [hm]
 go_enter Tryz.func33,Tryz.ntmps33
 go_wp2_with fail
 refine TW.out.mono ?_
 rintro e w1 ⟨t,a,L2,F',rfl,s1,e1,r1,m1⟩
 have MG:=Lib.hid s1
 have E1:=Lib.hid e1
 have R1:=Lib.hid r1
 have M1:=Lib.hid m1
 clear s1 e1 r1 m1 TW
 have FR:Hid (∀W,Mod [] w1 W→Calls Tryz.prog 61 #[.pointer (some ⟨bm,0,none⟩)] W fun e w'=>e=.returned (.int .i64 m)∧w'=W):=fun W mm=>by
  obtain ⟨⟨q,hq⟩,-⟩:=(MG.out.mod0 mm).m.own
  have:=free_c hq hH
  rw [hm] at this
  exact this
 go_wp2_with fail
 refine (FR.out _ (by exact mods)).mono ?_
 rintro e w2 ⟨rfl,rfl⟩
 obtain ⟨g8,hg8⟩:∃g,w1.heap.size=g:=⟨_,rfl⟩
 rw [hg8]
 have B8:=(Blk.new' w1 #[.int .u8 t,.int .u32 a] 66 g8 hg8.symm)
 have M3:Hid (Mod [] w1 (w1.alloc (.cells #[.int .u8 t,.int .u32 a] 66))):=(Mod.refl _ _).alloc _
 have MG3:=Lib.hid (MG.out.mod0 M3.out)
 have hbm:bm < g8:=by rw [←hg8];exact MG.out.lt bm (by simp)
 clear hg8 FR
 generalize w1.alloc (.cells #[.int .u8 t,.int .u32 a] 66)=w3 at *
 obtain ⟨e0,e1⟩:=B8.cells2
 obtain ⟨⟨q,hq⟩,-⟩:=MG3.out.m.own
 have c5:=hq.live m (by omega) (by omega)
 rw [decide_eq_false (by omega)] at c5
 have x0:=hq.cell (262+m *3) (by omega)
 have x1:=hq.cell (262+m *3+1) (by omega)
 have x2:=hq.cell (262+m *3+2) (by omega)
 obtain ⟨v0,hv0⟩:∃v,mgL q H (262+m *3)=v:=⟨_,rfl⟩
 obtain ⟨v1,hv1⟩:∃v,mgL q H (262+m *3+1)=v:=⟨_,rfl⟩
 obtain ⟨v2,hv2⟩:∃v,mgL q H (262+m *3+2)=v:=⟨_,rfl⟩
 rw [hv0] at x0
 rw [hv1] at x1
 rw [hv2] at x2
 have z5:=hq.froz (5+m)
 have y0:=hq.froz (262+m *3)
 have y1:=hq.froz (262+m *3+1)
 have y2:=hq.froz (262+m *3+2)
 have n1:¬bm=g8:=by omega
 have n2:¬g8=bm:=by omega
 have hm1:(m:Int) < 257:=by omega
 have hm0:(0:Int)≤m:=by omega
 have HB8:=B8.lt
 have PUT:Hid (∀q,Mgr w3 bm q H→_):=fun q hq=>Mgr.put hq hH f ⟨t,a⟩ m hm
 clear hv0 hv1 hv2 B8 hq hm
 go_wp2_with fail
 go_region
 go_wp2_with fail
 go_ret2
 have MB:Mod [bm] w3 (((((w3.setCell ⟨bm,5+m,none⟩ (.bool true)).setCell ⟨bm,262+m *3,none⟩ (.int .u8 f)).setCell ⟨bm,262+m *3+1,none⟩ (.int .u8 t)).setCell ⟨bm,262+m *3+2,none⟩ (.int .u32 a)).drew):=
  (((((Mod.refl _ _).setCell _ _ (by simp)).setCell _ _ (by simp)).setCell _ _ (by simp)).setCell _ _ (by simp)).drew
 have GB:Grow w3 _ (bm::bc::g::F') (bm::bc::g::F'):=Grow.of_mods MB (by simp)
 exact ⟨rfl,⟨t,a⟩,L2,F',MG3.out.book MB (fun q hq=>⟨(PUT.out q hq).blk⟩),E1.out,R1.out,((M1.out.cons bm).then M3.out).trans GB⟩
theorem twiceAp_c {w:World} {bm n room:Nat} {L:List Rc} {Fs p:List Nat} {H:List (Nat × Ed)} {bs bo bq:Nat} {F:List Nat} {ba bc g f:Nat} {T:List Bool} {lm cc:Nat} (caps:Array Value) (hE:MgE w bm n room L Fs p H bs bo bq F ba bc g)
 (WK:∀W,Mod [] w W→Calls Tryz.prog 34 caps W (WkR W bm n room L Fs p H bs bo bq F ba bc g f T lm cc)):
 Calls Tryz.prog 62 #[.pointer (some ⟨bm,0,none⟩),.func (.func 34) #[] caps] w (WkR w bm n room L Fs p H bs bo bq F ba bc g f T lm cc):=by
 have HW:=Lib.hid WK
 have HF:=Lib.hid hE.lt
 have HFL:=Lib.hid hE.flt
 obtain ⟨g4,hg4⟩:∃g,w.heap.size=g:=⟨_,rfl⟩
 clear WK hE
 go_enter Tryz.func62,Tryz.ntmps62
 go_wp2_with fail
 refine (HW.out _ (by exact mods)).mono ?_
 rintro e w1 ⟨t,a,L2,F',rfl,s1,e1,r1,m1⟩
 have N4:Hid (g4∉bc::g::Fs):=fun h=>by have:=HF.out _ (List.mem_cons_of_mem _ (List.mem_cons_of_mem _ h));omega
 have B4:=Lib.hid ((Blk.new' w #[.int .u8 0,.int .u32 0] 66 g4 hg4.symm).mod m1.mod N4.out)
 have NF:Hid (g4∉bc::g::F'):=m1.out (by simp;omega) N4.out
 obtain ⟨g6,hg6⟩:∃g,w1.heap.size=g:=⟨_,rfl⟩
 obtain ⟨p0,p1⟩:=B4.out.cells2
 obtain ⟨q0,q1,-⟩:=B4.out.frozs
 have h46:=B4.out.lt
 rw [hg6] at h46
 have n1:¬g4=g6:=by omega
 have n2:¬g6=g4:=by omega
 have S1:=Lib.hid s1
 have E1:=Lib.hid e1
 have R1:=Lib.hid r1
 have M1:Hid (Grow w w1 (bc::g::Fs) (bc::g::F')):=(Grow.of_mod ((Mod.refl [] w).alloc _)).trans m1
 have NA:Hid (g4∉bm::ba::bc::g::F'∧g4∉F):=⟨fun h=>by
  rcases List.mem_cons.1 h with e | h
  ·have:=HF.out bm (by simp);omega
  rcases List.mem_cons.1 h with e | h
  ·have:=HF.out ba (by simp);omega
  exact NF.out h,fun h=>by have:=HFL.out _ h;omega⟩
 clear s1 e1 r1 m1 HW
 go_wp2_with fail
 have BW:=((B4.out.set 0 (.int .u8 t)).set 1 (.int .u32 a)).alloc (.cells #[.int .u8 t,.int .u32 a] 66)
 simp only [List.setIfInBounds_toArray,List.set_cons_zero,List.set_cons_succ] at BW
 obtain ⟨z0,z1⟩:=BW.cells2
 have MW:Hid (Mod [g4] w1 (((w1.setCell ⟨g4,0,none⟩ (.int .u8 t)).setCell ⟨g4,1,none⟩ (.int .u32 a)).alloc (.cells #[.int .u8 t,.int .u32 a] 66))):=(((Mod.refl _ _).setCell _ _ (by simp)).setCell _ _ (by simp)).alloc _
 generalize ((w1.setCell ⟨g4,0,none⟩ (.int .u8 t)).setCell ⟨g4,1,none⟩ (.int .u32 a)).alloc (.cells #[.int .u8 t,.int .u32 a] 66)=w4 at *
 clear BW p0 p1 q0 q1
 refine bodyPost_ret (v:=.tuple #[.agg #[.int .u8 t,.int .u32 a],.int .u8 0]) (by simp [results,Tryz.results62,go_sem,z0,z1];try rfl) rfl ?_
 exact ⟨t,a,L2,F',rfl,S1.out.mods MW.out (by intro k hk;simp at hk;subst hk;exact NA.out),E1.out,R1.out,M1.out.write MW.out (by intro k hk;simp at hk;omega)⟩
theorem putAp_c {w:World} {bm n room:Nat} {L:List Rc} {Fs p:List Nat} {H:List (Nat × Ed)} {bs bo bq:Nat} {F:List Nat} {ba bc g f:Nat} {T:List Bool} {lm cc:Nat} (caps:Array Value) (hE:MgE w bm n room L Fs p H bs bo bq F ba bc g) (hH:H.length < 256) (hf:f≤255)
 (WK:∀W,Mod [] w W→Calls Tryz.prog 34 caps W (WkR W bm n room L Fs p H bs bo bq F ba bc g f T lm cc)):
 Calls Tryz.prog 33 #[.pointer (some ⟨bm,0,none⟩),.int .u8 f,.func (.func 34) #[] caps] w (PtR w bm n room L Fs p H bs bo bq F ba bc g f T lm cc ((H.length+1:Nat):Int)):=by
 have TW:=Lib.hid (twiceAp_c caps hE WK)
 obtain ⟨m,hm⟩:∃m,H.length+1=m:=⟨_,rfl⟩
 have HMM:=Lib.hid hm
 clear hE WK
 unfold PtR
 rw [hm]
 go_enter Tryz.func33,Tryz.ntmps33
 go_wp2_with fail
 refine TW.out.mono ?_
 rintro e w1 ⟨t,a,L2,F',rfl,s1,e1,r1,m1⟩
 have MG:=Lib.hid s1
 have E1:=Lib.hid e1
 have R1:=Lib.hid r1
 have M1:=Lib.hid m1
 clear s1 e1 r1 m1 TW
 have FR:Hid (∀W,Mod [] w1 W→Calls Tryz.prog 61 #[.pointer (some ⟨bm,0,none⟩)] W fun e w'=>e=.returned (.int .i64 m)∧w'=W):=fun W mm=>by
  obtain ⟨⟨q,hq⟩,-⟩:=(MG.out.mod0 mm).m.own
  have:=free_c hq hH
  rw [hm] at this
  exact this
 go_wp2_with fail
 refine (FR.out _ (by exact mods)).mono ?_
 rintro e w2 ⟨rfl,rfl⟩
 obtain ⟨g8,hg8⟩:∃g,w1.heap.size=g:=⟨_,rfl⟩
 rw [hg8]
 have B8:=(Blk.new' w1 #[.int .u8 t,.int .u32 a] 66 g8 hg8.symm)
 have M3:Hid (Mod [] w1 (w1.alloc (.cells #[.int .u8 t,.int .u32 a] 66))):=(Mod.refl _ _).alloc _
 have MG3:=Lib.hid (MG.out.mod0 M3.out)
 have hbm:bm < g8:=by rw [←hg8];exact MG.out.lt bm (by simp)
 clear hg8 FR
 generalize w1.alloc (.cells #[.int .u8 t,.int .u32 a] 66)=w3 at *
 obtain ⟨e0,e1⟩:=B8.cells2
 obtain ⟨⟨q,hq⟩,-⟩:=MG3.out.m.own
 have c5:=hq.live m (by omega) (by omega)
 rw [decide_eq_false (by omega)] at c5
 have x0:=hq.cell (262+m *3) (by omega)
 have x1:=hq.cell (262+m *3+1) (by omega)
 have x2:=hq.cell (262+m *3+2) (by omega)
 obtain ⟨v0,hv0⟩:∃v,mgL q H (262+m *3)=v:=⟨_,rfl⟩
 obtain ⟨v1,hv1⟩:∃v,mgL q H (262+m *3+1)=v:=⟨_,rfl⟩
 obtain ⟨v2,hv2⟩:∃v,mgL q H (262+m *3+2)=v:=⟨_,rfl⟩
 rw [hv0] at x0
 rw [hv1] at x1
 rw [hv2] at x2
 have z5:=hq.froz (5+m)
 have y0:=hq.froz (262+m *3)
 have y1:=hq.froz (262+m *3+1)
 have y2:=hq.froz (262+m *3+2)
 have n1:¬bm=g8:=by omega
 have n2:¬g8=bm:=by omega
 have hm1:(m:Int) < 257:=by omega
 have hm0:(0:Int)≤m:=by omega
 have HB8:=B8.lt
 have PUT:Hid (∀q,Mgr w3 bm q H→_):=fun q hq=>Mgr.put hq hH f ⟨t,a⟩ m hm
 clear hv0 hv1 hv2 B8 hq hm
 go_wp2_with fail
 go_region
 go_wp2_with fail
 go_ret2
 have MB:Mod [bm] w3 (((((w3.setCell ⟨bm,5+m,none⟩ (.bool true)).setCell ⟨bm,262+m *3,none⟩ (.int .u8 f)).setCell ⟨bm,262+m *3+1,none⟩ (.int .u8 t)).setCell ⟨bm,262+m *3+2,none⟩ (.int .u32 a)).drew):=
  (((((Mod.refl _ _).setCell _ _ (by simp)).setCell _ _ (by simp)).setCell _ _ (by simp)).setCell _ _ (by simp)).drew
 have GB:Grow w3 _ (bm::bc::g::F') (bm::bc::g::F'):=Grow.of_mods MB (by simp)
 exact ⟨rfl,⟨t,a⟩,L2,F',MG3.out.book MB (fun q hq=>⟨(PUT.out q hq).blk⟩),E1.out,R1.out,((M1.out.cons bm).then M3.out).trans GB⟩
end Go.Proofs.YtlafpknoiihaaaaGreatDoor
