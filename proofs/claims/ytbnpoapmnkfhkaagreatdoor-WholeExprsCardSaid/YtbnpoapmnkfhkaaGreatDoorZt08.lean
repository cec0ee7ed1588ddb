import Derived.Test.YtbnpoapmnkfhkaaGreatDoorZt02
import Derived.Deep.RegionLaw
set_option maxRecDepth 100000
set_option maxHeartbeats 4000000
set_option linter.unusedVariables false
set_option linter.unusedSimpArgs false
namespace Go.Proofs.YtbnpoapmnkfhkaaGreatDoor
open Go.Value renaming int → z, pointer → P, bool → N, slice → M
open Go.Lib renaming hid → y
open Option renaming none → u, some → Z
open Go.IntKind renaming u8 → t, u32 → s, i64 → O
open Go renaming World → o
open Nat renaming and_two_pow_sub_one_eq_mod → c, mod_lt → Y, pow_le_pow_right → V, one_le_two_pow → U, add_zero → Q
open Go.RowKit
def mix (h:Int):Int:=bits .xor .u64 (IntKind.u64.wrap (h *11400714819323198485)) (IntKind.u64.wrap (h *11400714819323198485) / 4294967296)
def hm (n:Nat) (k:Rc):Nat:=(mix (hsh k)).toNat % n
theorem zv4 (h:Int):0≤mix h∧mix h < 18446744073709551616:=by
 unfold mix bits;generalize (BitVec.toNat _:Nat)=x;unfold IntKind.wrap;simp [IntKind.signed,IntKind.bits];omega
theorem mask (X:Int) (h0:0≤X) (h1:X < 18446744073709551616) (j:Nat) (hj:j≤20):wrap64 (bits .and .u64 X (((2 ^ j:Nat):Int) - 1))=((X.toNat % 2 ^ j:Nat):Int):=by
 have h2:2 ^ j≤2 ^ 20:=V (zc) hj;have h3:1≤2 ^ j:=U;have e:((2 ^ j:Nat):Int) - 1=((2 ^ j - 1:Nat):Int):=zc;have e2:X=(X.toNat:Int):=zc;rw [e,e2,u64_and_nat _ _ (zc) (zc),c];have h4:(X.toNat:Int).toNat=X.toNat:=zc;rw [h4];have h5:X.toNat % 2 ^ j < 2 ^ j:=Y _ (zc);generalize X.toNat % 2 ^ j=q at *;generalize 2 ^ j=n at *;exact IntWalk.wrap64_in _ (zc)
theorem yu4 (n:Nat) (k:Rc) (hn:0 < n):hm n k < n:=Y _ hn
theorem yH4 (j n:Nat) (hj:j≤20) (hn:n=2 ^ j) (k:Rc) (b:Nat) (a:Option Addr) (cap:Nat) (w:o) (c0:w.cell? ⟨b,0,u⟩=Z (M a n cap)):
 Calls Tryz.prog 181 #[P (Z ⟨b,0,u⟩),rcv k] w fun e w'=>e=.returned (z O (hm n k))∧Mod [] w w':=by
 have hn1:1≤n:=jh;have hn2:n≤1048576:=xp;obtain ⟨f,tp,bt,⟨lt,la⟩,⟨ht,ha⟩⟩:=k;have H:=y (yG9 ⟨f,tp,bt,⟨lt,la⟩,⟨ht,ha⟩⟩);have HM:=y (mask (mix (hsh ⟨f,tp,bt,⟨lt,la⟩,⟨ht,ha⟩⟩)) (zv4 _).1 (zv4 _).2 j hj);have HN:=y hn;unfold hm;unfold mix at *;clear hn;unfold rcv at H ⊢;generalize hsh ⟨f,tp,bt,⟨lt,la⟩,⟨ht,ha⟩⟩=h at *;simp only at H ⊢;go_in;go_wp2_with fail;refine (H.out _).mono ?_;rintro e w1 ⟨rfl,m1⟩;have mw:=((Mod.refl [] w).alloc (.cells #[z t f,z t tp,z t bt,z t lt,z s la,z t ht,z s ha] 143)).trans' m1;have d0:=(mw.cell (World.block_lt_of_cell? w _ c0) (ze)).trans c0;have HMM:=y mw;clear m1 mw;go_wp2;go_ret;have h1:=HM.out;rw [←HN.out] at h1;refine ⟨?_,HMM.out⟩;rw [←h1];rfl
theorem yF7 (x:Int) (j:Nat) (hj:j≤20):bits .and O x (((2 ^ j:Nat):Int) - 1)=x % ((2 ^ j:Nat):Int):=by
 have h2:2 ^ j≤2 ^ 20:=V (zc) hj;have h3:1≤2 ^ j:=U;have e:((2 ^ j:Nat):Int) - 1=((2 ^ j - 1:Nat):Int):=zc;rw [e];show IntKind.i64.wrap ((BitVec.ofInt 64 x &&& BitVec.ofInt 64 ((2 ^ j - 1:Nat):Int)).toNat:Int)=_;rw [BitVec.toNat_and,ofInt_u64 _ (zc),c,BitVec.toNat_ofInt];have h5:(x % ((2 ^ 64:Nat):Int)).toNat % 2 ^ j < 2 ^ j:=Y _ (zc)
 have h6:(((x % ((2 ^ 64:Nat):Int)).toNat % 2 ^ j:Nat):Int)=x % ((2 ^ j:Nat):Int):=by
  rw [Int.natCast_emod];have h7:((x % ((2 ^ 64:Nat):Int)).toNat:Int)=x % ((2 ^ 64:Nat):Int):=Int.toNat_of_nonneg (Int.emod_nonneg _ (zi));rw [h7];refine Int.emod_emod_of_dvd x ?_;exact Int.natCast_dvd_natCast.2 (Nat.pow_dvd_pow 2 (zc))
 rw [h6] at *;rw [IntWalk.i64_in];rw [←h6];omega
theorem zR3 (i j:Nat) (hj:j≤20) (hi:i < 2 ^ j):bits .and O ((i:Int)+1) (((2 ^ j:Nat):Int) - 1)=(((i+1) % 2 ^ j:Nat):Int):=by
 rw [yF7 _ j hj,Int.natCast_emod];rfl
theorem yF2 (j n:Nat) (hj:j≤20) (hn:n=2 ^ j) (i:Nat) (hi:i < n) (b:Nat) (a:Option Addr) (cap:Nat) (w:o) (c0:w.cell? ⟨b,0,u⟩=Z (M a n cap)):
 Calls Tryz.prog 180 #[P (Z ⟨b,0,u⟩),z O i] w fun e w'=>e=.returned (z O ((i+1) % n:Nat))∧w=w':=by
 have hn1:1≤n:=jh;have hn2:n≤1048576:=xp;have hm:=zR3 i j hj (by rw [←hn];exact hi);rw [←hn] at hm;have HM:=y hm;clear hn hm;go_in;go_wp2;go_ret;refine ⟨?_,rfl⟩;rw [←HM.out];rfl
open Go.RowKit
def zF5 (x:Rc × Nat × Bool):List Value:=
 [z t x.1.f,z t x.1.top,z t x.1.bot,z t x.1.lo.t,z s x.1.lo.a,z t x.1.hi.t,z s x.1.hi.a,z s x.2.1,N x.2.2]
def Tab (w:o) (g n:Nat) (T:Xc):Prop:=
 ∃A,Blk w g A 294∧A.size=n *9∧∀i,i < n→∀j,j < 9→A[i *9+j]? =(zF5 (T i))[j]?
structure Slot9 (w:o) (g p:Nat) (x:Rc × Nat × Bool):Prop where
 c0:w.cell? ⟨g,p,u⟩=Z (z t x.1.f)
 c1:w.cell? ⟨g,p+1,u⟩=Z (z t x.1.top)
 c2:w.cell? ⟨g,p+2,u⟩=Z (z t x.1.bot)
 c3:w.cell? ⟨g,p+3,u⟩=Z (z t x.1.lo.t)
 c4:w.cell? ⟨g,p+4,u⟩=Z (z s x.1.lo.a)
 c5:w.cell? ⟨g,p+5,u⟩=Z (z t x.1.hi.t)
 c6:w.cell? ⟨g,p+6,u⟩=Z (z s x.1.hi.a)
 c7:w.cell? ⟨g,p+7,u⟩=Z (z s x.2.1)
 c8:w.cell? ⟨g,p+8,u⟩=Z (N x.2.2)
theorem Tab.slot {w:o} {g n:Nat} {T:Xc} (h:Tab w g n T) (i:Nat) (hi:i < n):Slot9 w g (i *9) (T i):=by
 obtain ⟨A,hb,hs,hT⟩:=h;have hc:∀j,j < 9→w.cell? ⟨g,i *9+j,u⟩=(zF5 (T i))[j]? :=fun j hj=>by rw [hb.cell];exact hT i hi j hj
 exact ⟨hc 0 (zc),hc 1 (zc),hc 2 (zc),hc 3 (zc),hc 4 (zc),hc 5 (zc),hc 6 (zc),hc 7 (zc),hc 8 (zc)⟩
theorem Tab.froz {w:o} {g n:Nat} {T:Xc} (h:Tab w g n T) (j:Nat):w.frozen? ⟨g,j,u⟩=false:=by
 obtain ⟨A,hb,_⟩:=h;exact hb.froz j
theorem Tab.lt {w:o} {g n:Nat} {T:Xc} (h:Tab w g n T):g < w.heap.size:=by
 obtain ⟨A,hb,_⟩:=h;exact hb.lt
theorem Tab.mod {S:List Nat} {w w':o} {g n:Nat} {T:Xc} (h:Tab w g n T) (m:Mod S w w') (hn:g∉S):Tab w' g n T:=by
 obtain ⟨A,hb,r⟩:=h;exact ⟨A,hb.mod m hn,r⟩
theorem Tab.drewN {w:o} {g n:Nat} {T:Xc} (h:Tab w g n T) (d:Nat):Tab (w.drewN d) g n T:=h
theorem Tab.made (w:o) (n g:Nat) (hg:g=w.heap.size):
 Tab (w.alloc (.cells (madeCells #[z t 0,z t 0,z t 0,z t 0,z s 0,z t 0,z s 0,z s 0,N false] (n *9)) 294)) g n (fun _=>(rc0,0,false)):=by
 refine ⟨_,Blk.new' _ _ _ _ hg,size_madeCells _ _,fun i hi j hj=>?_⟩;have h0:i *9+j < n *9:=zc;have hm:(i *9+j) % 9=j:=zc;have h:j=0∨j=1∨j=2∨j=3∨j=4∨j=5∨j=6∨j=7∨j=8:=zc;rcases h with rfl | rfl | rfl | rfl | rfl | rfl | rfl | rfl | rfl<;>(try simp only [Q] at h0 hm)<;>simp [madeCells,h0,hm,zF5,rc0]
def yK8 (w:o) (g p:Nat) (x:Rc × Nat × Bool):o:=
 ((((((((w.setCell ⟨g,p,u⟩ (z t x.1.f)).setCell ⟨g,p+1,u⟩ (z t x.1.top)).setCell ⟨g,p+2,u⟩ (z t x.1.bot)).setCell ⟨g,p+3,u⟩ (z t x.1.lo.t)).setCell ⟨g,p+4,u⟩ (z s x.1.lo.a)).setCell
  ⟨g,p+5,u⟩ (z t x.1.hi.t)).setCell ⟨g,p+6,u⟩ (z s x.1.hi.a)).setCell ⟨g,p+7,u⟩ (z s x.2.1)).setCell ⟨g,p+8,u⟩ (N x.2.2)
theorem Tab.store {w:o} {g n:Nat} {T:Xc} (h:Tab w g n T) (i:Nat) (hi:i < n) (x:Rc × Nat × Bool):Tab (yK8 w g (i *9) x) g n (zm6 T i x):=by
 obtain ⟨A,hb,hs,hT⟩:=h;refine ⟨_,((((((((hb.set _ _).set _ _).set _ _).set _ _).set _ _).set _ _).set _ _).set _ _).set _ _,by simpa using hs,fun l hl j hj=>?_⟩;have h1:=hT l hl j hj;have hlt:l *9+j < n *9:=zc;simp only [Array.getElem?_setIfInBounds,Array.size_setIfInBounds,hs,zm6];by_cases hil:l=i
 ·subst hil;have h:j=0∨j=1∨j=2∨j=3∨j=4∨j=5∨j=6∨j=7∨j=8:=zc;rcases h with rfl | rfl | rfl | rfl | rfl | rfl | rfl | rfl | rfl<;>(try simp only [Q] at hlt)<;>simp [hlt,zF5]
 ·rw [if_neg hil,if_neg (zc),if_neg (zc),if_neg (zc),if_neg (zc),if_neg (zc),if_neg (zc),if_neg (zc),if_neg (zc),if_neg (zc)];exact h1
theorem zG4 {S:List Nat} {w w':o} (m:Mod S w w') (g p:Nat) (x:Rc × Nat × Bool) (hg:g < w.heap.size→g∈S):Mod S w (yK8 w' g p x):=
 ((((((((m.setCell _ _ hg).setCell _ _ hg).setCell _ _ hg).setCell _ _ hg).setCell _ _ hg).setCell _ _ hg).setCell _ _ hg).setCell _ _ hg).setCell _ _ hg
theorem yj4 (T:Xc) (n:Nat) (k:Rc) (hn:0 < n):∀f i,i < n→Xu T n k f i < n:=by
 intro f
 induction f with
 | zero=>intro i hi;exact hi
 | succ f ih=>
  intro i hi;unfold Xu;split
  ·exact ih _ (Y _ hn)
  ·exact hi
open Go.RowKit
theorem yJ5 (j n:Nat) (hj:j≤20) (hn:n=2 ^ j) (hn2':2≤n) (k:Rc) (b g:Nat) (cap:Nat) (T:Xc) (w:o) (c0:w.cell? ⟨b,0,u⟩=Z (M (Z ⟨g,0,u⟩) n cap)) (hT:Tab w g n T)
 (hs:stops T k (Xu T n k n (hm n k))):
 Calls Tryz.prog 179 #[P (Z ⟨b,0,u⟩),rcv k] w fun e w'=>e=.returned (z O (Xu T n k n (hm n k)))∧Mod [] w w':=by
 have hn1:1≤n:=jh;have hn2:n≤1048576:=xp;have hbl:=World.block_lt_of_cell? w _ c0;simp only at hbl;have C0:=y c0;have HH:=y (fun W (m:Mod [] w W)=>yH4 j n hj hn k b _ cap W ((m.cell hbl (ze)).trans c0));have NX:=y (fun i hi W (m:Mod [] w W)=>yF2 j n hj hn i hi b _ cap W ((m.cell hbl (ze)).trans c0));have HT:=y hT;obtain ⟨R,hR⟩:∃R,R=Xu T n k n (hm n k):=⟨_,rfl⟩;have h0:hm n k < n:=yu4 n k hn1;rw [←hR] at hs ⊢;have HS:=y hs;have HRn:R < n:=by rw [hR];exact yj4 T n k hn1 n _ h0
 have HR:=y hR;generalize hm n k=p at *;clear hn hT hs hR c0;have HK:Hid (∀x:Rc,x=k→x.f=k.f∧x.top=k.top∧x.bot=k.bot∧x.lo.t=k.lo.t∧x.lo.a=k.lo.a∧x.hi.t=k.hi.t∧x.hi.a=k.hi.a):=fun x hx=>by subst hx;simp
 unfold rcv at HH ⊢;obtain ⟨kf,kt,kb,⟨klt,kla⟩,⟨kht,kha⟩⟩:=k;simp only at HH HK ⊢;obtain ⟨gk,hgk⟩:∃g,w.heap.size=g:=⟨_,rfl⟩;have KB:Hid (Blk (w.alloc (.cells #[z t kf,z t kt,z t kb,z t klt,z s kla,z t kht,z s kha] 143)) gk #[z t kf,z t kt,z t kb,z t klt,z s kla,z t kht,z s kha] 143):=Blk.new' _ _ _ _ hgk.symm;have MA:Hid (Mod [] w (w.alloc (.cells #[z t kf,z t kt,z t kb,z t klt,z s kla,z t kht,z s kha] 143))):=(Mod.refl _ _).alloc _;go_in;go_wp2_with fail;refine (HH.out _ (zg)).mono ?_;rintro e w1 ⟨rfl,m1⟩;replace KB:=y (KB.out.mod m1 (ze));replace MA:=y (MA.out.trans' m1);clear m1 HH;go_wp2_with fail
 go_loopw [5] (fun v wr=>∃i f:Nat,v=z O i∧i < n∧f≤n∧Hid (Xu T n ⟨kf,kt,kb,⟨klt,kla⟩,⟨kht,kha⟩⟩ f i=R)∧Hid (Mod [] w1 wr)) (fun v _=>zz1 n (intOf v).toNat R)
 case atStart=>exact ⟨p,n,rfl,h0,Nat.le_refl _,HR.out.symm,Mod.refl _ _⟩
 case round=>
  obtain ⟨i,f,rfl,hi,hf,HP,HM⟩:=hrel;replace KB:=y (KB.out.mod HM.out (ze));replace MA:=y (MA.out.trans' HM.out);obtain ⟨q0,q1,q2,q3,q4,q5,q6⟩:=KB.out.cells7;have c0:=(MA.out.cell hbl (ze)).trans C0.out;replace HT:=y (HT.out.mod MA.out (ze));obtain ⟨d0,d1,d2,d3,d4,d5,d6,-,d8⟩:=HT.out.slot i hi;cases ho:(T i).2.2 with
  | false=>
   rw [ho] at d8;have hri:Hid (i=R):=by rw [←HP.out];exact (zc3 T n _ f i (.inl ho)).symm
   clear ho d0 d1 d2 d3 d4 d5 d6;go_wp2_with fail
   go_quiet (fail)
   go_wp2;go_ret;exact ⟨by rw [←hri.out];rfl,MA.out.drewN _⟩
  | true=>
   rw [ho] at d8;by_cases hkk:(T i).1=⟨kf,kt,kb,⟨klt,kla⟩,⟨kht,kha⟩⟩
   ·have hri:Hid (i=R):=by rw [←HP.out];exact (zc3 T n _ f i (.inr hkk)).symm
    rw [hkk] at d0 d1 d2 d3 d4 d5 d6;simp only at d0 d1 d2 d3 d4 d5 d6;clear ho hkk;go_wp2_with fail
    go_quiet (fail)
    go_wp2;go_ret;exact ⟨by rw [←hri.out];rfl,MA.out.drewN _⟩
   ·have hiR:i≠R:=by
     intro e;have h1:=HS.out;rw [←e] at h1;rcases h1 with h1 | h1
     ·unfold occ at h1;rw [ho] at h1;simp at h1
     ·exact hkk h1
    obtain ⟨f',hf'⟩:∃f',f=f'+1:=by
     cases f with
     | zero=>exact (hiR HP.out).elim
     | succ f'=>exact ⟨f',rfl⟩
    have hstep:Hid (Xu T n ⟨kf,kt,kb,⟨klt,kla⟩,⟨kht,kha⟩⟩ f' ((i+1) % n)=R):=by
     rw [←HP.out,hf',Xu,if_pos ⟨ho,hkk⟩];exact rfl
    have hdn:Hid (zz1 n ((i+1) % n) R+1=zz1 n i R):=zQ8 hn2' hi HRn hiR;have hfn:f'≤n:=zc;have hii:(i+1) % n < n:=Y _ (zc);obtain ⟨tk,htk⟩:∃x,(T i).1=x:=⟨_,rfl⟩;rw [htk] at d0 d1 d2 d3 d4 d5 d6 hkk;obtain ⟨tf,tt,tb,⟨tlt,tla⟩,⟨tht,tha⟩⟩:=tk;have heq:=fun w=>(yj9 9996 ⟨tf,tt,tb,⟨tlt,tla⟩,⟨tht,tha⟩⟩ ⟨kf,kt,kb,⟨klt,kla⟩,⟨kht,kha⟩⟩ w).trans (by rw [decide_eq_false hkk])
    unfold rcv at heq;simp only at d0 d1 d2 d3 d4 d5 d6 heq;clear ho hkk hf' hiR HP hf htk;go_wp2_with fail
    go_quiet (fail)
    go_wp2_with fail;refine (NX.out i hi _ (MA.out.drewN _)).mono ?_;rintro e w' ⟨rfl,rfl⟩;go_wp2_with fail;go_roundw
    case rel=>exact ⟨(i+1) % n,f',rfl,hii,hfn,hstep.out,HM.out.drewN _⟩
    case measure=>
     have h1:=hdn.out;have h2:(((i+1) % n:Nat):Int).toNat=(i+1) % n:=Int.toNat_natCast _;have h3:((i:Int)).toNat=i:=Int.toNat_natCast _;show zz1 n (((i+1) % n:Nat):Int).toNat R < zz1 n ((i:Int)).toNat R;rw [h2,h3];omega
end Go.Proofs.YtbnpoapmnkfhkaaGreatDoor
