/- Mq03: IC · IM · IF -/
import Derived.Test.YtlafpknoiihaaaaGreatDoorMq02
import Derived.Deep.RegionLaw
set_option maxRecDepth 100000
set_option maxHeartbeats 4000000
set_option linter.unusedVariables false
set_option linter.unusedSimpArgs false
namespace Go.Proofs.YtlafpknoiihaaaaGreatDoor
open Go.RowKit
def mix (h:Int):Int:=bits .xor .u64 (IntKind.u64.wrap (h *11400714819323198485)) (IntKind.u64.wrap (h *11400714819323198485) / 4294967296)
def hm (n:Nat) (k:Rc):Nat:=(mix (hsh k)).toNat % n
theorem mix_range (h:Int):0≤mix h∧mix h < 18446744073709551616:=by
 unfold mix bits
 generalize (BitVec.toNat _:Nat)=x
 unfold IntKind.wrap
 simp [IntKind.signed,IntKind.bits]
 omega
theorem mask (X:Int) (h0:0≤X) (h1:X < 18446744073709551616) (j:Nat) (hj:j≤20):wrap64 (bits .and .u64 X (((2 ^ j:Nat):Int) - 1))=((X.toNat % 2 ^ j:Nat):Int):=by
 have h2:2 ^ j≤2 ^ 20:=Nat.pow_le_pow_right (by omega) hj
 have h3:1≤2 ^ j:=Nat.one_le_two_pow
 have e:((2 ^ j:Nat):Int) - 1=((2 ^ j - 1:Nat):Int):=by omega
 have e2:X=(X.toNat:Int):=by omega
 rw [e,e2,u64_and_nat _ _ (by omega) (by omega),Nat.and_two_pow_sub_one_eq_mod]
 have h4:(X.toNat:Int).toNat=X.toNat:=by omega
 rw [h4]
 have h5:X.toNat % 2 ^ j < 2 ^ j:=Nat.mod_lt _ (by omega)
 generalize X.toNat % 2 ^ j=q at *
 generalize 2 ^ j=n at *
 exact IntWalk.wrap64_in _ (by omega)
theorem hm_lt (n:Nat) (k:Rc) (hn:0 < n):hm n k < n:=Nat.mod_lt _ hn
theorem home_c (j n:Nat) (hj:j≤20) (hn:n=2 ^ j) (k:Rc) (b:Nat) (a:Option Addr) (cap:Nat) (w:World) (c0:w.cell? ⟨b,0,none⟩=some (.slice a n cap)):
 Calls Tryz.prog 156 #[.pointer (some ⟨b,0,none⟩),rcv k] w fun e w'=>e=.returned (.int .i64 (hm n k))∧Mod [] w w':=by
 have hn1:1≤n:=by rw [hn];exact Nat.one_le_two_pow
 have hn2:n≤1048576:=by rw [hn];exact Nat.pow_le_pow_right (by omega) hj
 obtain ⟨f,tp,bt,⟨lt,la⟩,⟨ht,ha⟩⟩:=k
 have H:=Lib.hid (hash_c ⟨f,tp,bt,⟨lt,la⟩,⟨ht,ha⟩⟩)
 have HM:=Lib.hid (mask (mix (hsh ⟨f,tp,bt,⟨lt,la⟩,⟨ht,ha⟩⟩)) (mix_range _).1 (mix_range _).2 j hj)
 have HN:=Lib.hid hn
 unfold hm
 unfold mix at *
 clear hn
 unfold rcv at H ⊢
 generalize hsh ⟨f,tp,bt,⟨lt,la⟩,⟨ht,ha⟩⟩=h at *
 simp only at H ⊢
 go_enter Tryz.func156,Tryz.ntmps156
 go_wp2_with fail
 refine (H.out _).mono ?_
 rintro e w1 ⟨rfl,m1⟩
 have mw:=((Mod.refl [] w).alloc (.cells #[.int .u8 f,.int .u8 tp,.int .u8 bt,.int .u8 lt,.int .u32 la,.int .u8 ht,.int .u32 ha] 112)).trans' m1
 have d0:=(mw.cell (World.block_lt_of_cell? w _ c0) (by simp)).trans c0
 have HMM:=Lib.hid mw
 clear m1 mw
 go_wp2
 go_ret
 have h1:=HM.out
 rw [←HN.out] at h1
 refine ⟨?_,HMM.out⟩
 rw [←h1]
 rfl
theorem mask64 (x:Int) (j:Nat) (hj:j≤20):bits .and .i64 x (((2 ^ j:Nat):Int) - 1)=x % ((2 ^ j:Nat):Int):=by
 have h2:2 ^ j≤2 ^ 20:=Nat.pow_le_pow_right (by omega) hj
 have h3:1≤2 ^ j:=Nat.one_le_two_pow
 have e:((2 ^ j:Nat):Int) - 1=((2 ^ j - 1:Nat):Int):=by omega
 rw [e]
 show IntKind.i64.wrap ((BitVec.ofInt 64 x &&& BitVec.ofInt 64 ((2 ^ j - 1:Nat):Int)).toNat:Int)=_
 rw [BitVec.toNat_and,ofInt_u64 _ (by omega),Nat.and_two_pow_sub_one_eq_mod,BitVec.toNat_ofInt]
 have h5:(x % ((2 ^ 64:Nat):Int)).toNat % 2 ^ j < 2 ^ j:=Nat.mod_lt _ (by omega)
 have h6:(((x % ((2 ^ 64:Nat):Int)).toNat % 2 ^ j:Nat):Int)=x % ((2 ^ j:Nat):Int):=by
  rw [Int.natCast_emod]
  have h7:((x % ((2 ^ 64:Nat):Int)).toNat:Int)=x % ((2 ^ 64:Nat):Int):=Int.toNat_of_nonneg (Int.emod_nonneg _ (by decide))
  rw [h7]
  refine Int.emod_emod_of_dvd x ?_
  exact Int.natCast_dvd_natCast.2 (Nat.pow_dvd_pow 2 (by omega))
 rw [h6] at *
 rw [IntWalk.i64_in]
 rw [←h6]
 omega
theorem next_mask (i j:Nat) (hj:j≤20) (hi:i < 2 ^ j):bits .and .i64 ((i:Int)+1) (((2 ^ j:Nat):Int) - 1)=(((i+1) % 2 ^ j:Nat):Int):=by
 rw [mask64 _ j hj,Int.natCast_emod];rfl
theorem next_c (j n:Nat) (hj:j≤20) (hn:n=2 ^ j) (i:Nat) (hi:i < n) (b:Nat) (a:Option Addr) (cap:Nat) (w:World) (c0:w.cell? ⟨b,0,none⟩=some (.slice a n cap)):
 Calls Tryz.prog 155 #[.pointer (some ⟨b,0,none⟩),.int .i64 i] w fun e w'=>e=.returned (.int .i64 ((i+1) % n:Nat))∧w=w':=by
 have hn1:1≤n:=by rw [hn];exact Nat.one_le_two_pow
 have hn2:n≤1048576:=by rw [hn];exact Nat.pow_le_pow_right (by omega) hj
 have hm:=next_mask i j hj (by rw [←hn];exact hi)
 rw [←hn] at hm
 have HM:=Lib.hid hm
 clear hn hm
 go_enter Tryz.func155,Tryz.ntmps155
 go_wp2
 go_ret
 refine ⟨?_,rfl⟩
 rw [←HM.out]
 rfl
open Go.RowKit
def slotOf (x:Rc × Nat × Bool):List Value:=
 [.int .u8 x.1.f,.int .u8 x.1.top,.int .u8 x.1.bot,.int .u8 x.1.lo.t,.int .u32 x.1.lo.a,.int .u8 x.1.hi.t,.int .u32 x.1.hi.a,.int .u32 x.2.1,.bool x.2.2]
def Tab (w:World) (g n:Nat) (T:Slots):Prop:=
 ∃A,Blk w g A 252∧A.size=n *9∧∀i,i < n→∀j,j < 9→A[i *9+j]? =(slotOf (T i))[j]?
structure Slot9 (w:World) (g p:Nat) (x:Rc × Nat × Bool):Prop where
 c0:w.cell? ⟨g,p,none⟩=some (.int .u8 x.1.f)
 c1:w.cell? ⟨g,p+1,none⟩=some (.int .u8 x.1.top)
 c2:w.cell? ⟨g,p+2,none⟩=some (.int .u8 x.1.bot)
 c3:w.cell? ⟨g,p+3,none⟩=some (.int .u8 x.1.lo.t)
 c4:w.cell? ⟨g,p+4,none⟩=some (.int .u32 x.1.lo.a)
 c5:w.cell? ⟨g,p+5,none⟩=some (.int .u8 x.1.hi.t)
 c6:w.cell? ⟨g,p+6,none⟩=some (.int .u32 x.1.hi.a)
 c7:w.cell? ⟨g,p+7,none⟩=some (.int .u32 x.2.1)
 c8:w.cell? ⟨g,p+8,none⟩=some (.bool x.2.2)
theorem Tab.slot {w:World} {g n:Nat} {T:Slots} (h:Tab w g n T) (i:Nat) (hi:i < n):Slot9 w g (i *9) (T i):=by
 obtain ⟨A,hb,hs,hT⟩:=h
 have hc:∀j,j < 9→w.cell? ⟨g,i *9+j,none⟩=(slotOf (T i))[j]? :=fun j hj=>by rw [hb.cell];exact hT i hi j hj
 exact ⟨hc 0 (by omega),hc 1 (by omega),hc 2 (by omega),hc 3 (by omega),hc 4 (by omega),hc 5 (by omega),hc 6 (by omega),hc 7 (by omega),hc 8 (by omega)⟩
theorem Tab.froz {w:World} {g n:Nat} {T:Slots} (h:Tab w g n T) (j:Nat):w.frozen? ⟨g,j,none⟩=false:=by
 obtain ⟨A,hb,_⟩:=h;exact hb.froz j
theorem Tab.lt {w:World} {g n:Nat} {T:Slots} (h:Tab w g n T):g < w.heap.size:=by
 obtain ⟨A,hb,_⟩:=h;exact hb.lt
theorem Tab.mod {S:List Nat} {w w':World} {g n:Nat} {T:Slots} (h:Tab w g n T) (m:Mod S w w') (hn:g∉S):Tab w' g n T:=by
 obtain ⟨A,hb,r⟩:=h;exact ⟨A,hb.mod m hn,r⟩
theorem Tab.drewN {w:World} {g n:Nat} {T:Slots} (h:Tab w g n T) (d:Nat):Tab (w.drewN d) g n T:=h
theorem Tab.made (w:World) (n g:Nat) (hg:g=w.heap.size):
 Tab (w.alloc (.cells (madeCells #[.int .u8 0,.int .u8 0,.int .u8 0,.int .u8 0,.int .u32 0,.int .u8 0,.int .u32 0,.int .u32 0,.bool false] (n *9)) 252)) g n (fun _=>(rc0,0,false)):=by
 refine ⟨_,Blk.new' _ _ _ _ hg,size_madeCells _ _,fun i hi j hj=>?_⟩
 have h0:i *9+j < n *9:=by omega
 have hm:(i *9+j) % 9=j:=by omega
 have h:j=0∨j=1∨j=2∨j=3∨j=4∨j=5∨j=6∨j=7∨j=8:=by omega
 rcases h with rfl | rfl | rfl | rfl | rfl | rfl | rfl | rfl | rfl<;>(try simp only [Nat.add_zero] at h0 hm)<;>simp [madeCells,h0,hm,slotOf,rc0]
def set9 (w:World) (g p:Nat) (x:Rc × Nat × Bool):World:=
 ((((((((w.setCell ⟨g,p,none⟩ (.int .u8 x.1.f)).setCell ⟨g,p+1,none⟩ (.int .u8 x.1.top)).setCell ⟨g,p+2,none⟩ (.int .u8 x.1.bot)).setCell ⟨g,p+3,none⟩ (.int .u8 x.1.lo.t)).setCell ⟨g,p+4,none⟩ (.int .u32 x.1.lo.a)).setCell
  ⟨g,p+5,none⟩ (.int .u8 x.1.hi.t)).setCell ⟨g,p+6,none⟩ (.int .u32 x.1.hi.a)).setCell ⟨g,p+7,none⟩ (.int .u32 x.2.1)).setCell ⟨g,p+8,none⟩ (.bool x.2.2)
theorem Tab.store {w:World} {g n:Nat} {T:Slots} (h:Tab w g n T) (i:Nat) (hi:i < n) (x:Rc × Nat × Bool):Tab (set9 w g (i *9) x) g n (put1 T i x):=by
 obtain ⟨A,hb,hs,hT⟩:=h
 refine ⟨_,((((((((hb.set _ _).set _ _).set _ _).set _ _).set _ _).set _ _).set _ _).set _ _).set _ _,by simpa using hs,fun l hl j hj=>?_⟩
 have h1:=hT l hl j hj
 have hlt:l *9+j < n *9:=by omega
 simp only [Array.getElem?_setIfInBounds,Array.size_setIfInBounds,hs,put1]
 by_cases hil:l=i
 ·subst hil
  have h:j=0∨j=1∨j=2∨j=3∨j=4∨j=5∨j=6∨j=7∨j=8:=by omega
  rcases h with rfl | rfl | rfl | rfl | rfl | rfl | rfl | rfl | rfl<;>(try simp only [Nat.add_zero] at hlt)<;>simp [hlt,slotOf]
 ·rw [if_neg hil,if_neg (by omega),if_neg (by omega),if_neg (by omega),if_neg (by omega),if_neg (by omega),if_neg (by omega),if_neg (by omega),if_neg (by omega),if_neg (by omega)]
  exact h1
theorem set9_mod {S:List Nat} {w w':World} (m:Mod S w w') (g p:Nat) (x:Rc × Nat × Bool) (hg:g < w.heap.size→g∈S):Mod S w (set9 w' g p x):=
 ((((((((m.setCell _ _ hg).setCell _ _ hg).setCell _ _ hg).setCell _ _ hg).setCell _ _ hg).setCell _ _ hg).setCell _ _ hg).setCell _ _ hg).setCell _ _ hg
theorem probe_lt (T:Slots) (n:Nat) (k:Rc) (hn:0 < n):∀f i,i < n→probe T n k f i < n:=by
 intro f
 induction f with
 | zero=>intro i hi;exact hi
 | succ f ih=>
  intro i hi
  unfold probe
  split
  ·exact ih _ (Nat.mod_lt _ hn)
  ·exact hi
open Go.RowKit
theorem find_c (j n:Nat) (hj:j≤20) (hn:n=2 ^ j) (hn2':2≤n) (k:Rc) (b g:Nat) (cap:Nat) (T:Slots) (w:World) (c0:w.cell? ⟨b,0,none⟩=some (.slice (some ⟨g,0,none⟩) n cap)) (hT:Tab w g n T)
 (hs:stops T k (probe T n k n (hm n k))):
 Calls Tryz.prog 154 #[.pointer (some ⟨b,0,none⟩),rcv k] w fun e w'=>e=.returned (.int .i64 (probe T n k n (hm n k)))∧Mod [] w w':=by
 have hn1:1≤n:=by rw [hn];exact Nat.one_le_two_pow
 have hn2:n≤1048576:=by rw [hn];exact Nat.pow_le_pow_right (by omega) hj
 have hbl:=World.block_lt_of_cell? w _ c0
 simp only at hbl
 have C0:=Lib.hid c0
 have HH:=Lib.hid (fun W (m:Mod [] w W)=>home_c j n hj hn k b _ cap W ((m.cell hbl (by simp)).trans c0))
 have NX:=Lib.hid (fun i hi W (m:Mod [] w W)=>next_c j n hj hn i hi b _ cap W ((m.cell hbl (by simp)).trans c0))
 have HT:=Lib.hid hT
 obtain ⟨R,hR⟩:∃R,R=probe T n k n (hm n k):=⟨_,rfl⟩
 have h0:hm n k < n:=hm_lt n k hn1
 rw [←hR] at hs ⊢
 have HS:=Lib.hid hs
 have HRn:R < n:=by rw [hR];exact probe_lt T n k hn1 n _ h0
 have HR:=Lib.hid hR
 generalize hm n k=p at *
 clear hn hT hs hR c0
 have HK:Hid (∀x:Rc,x=k→x.f=k.f∧x.top=k.top∧x.bot=k.bot∧x.lo.t=k.lo.t∧x.lo.a=k.lo.a∧x.hi.t=k.hi.t∧x.hi.a=k.hi.a):=fun x hx=>by subst hx;simp
 unfold rcv at HH ⊢
 obtain ⟨kf,kt,kb,⟨klt,kla⟩,⟨kht,kha⟩⟩:=k
 simp only at HH HK ⊢
 obtain ⟨gk,hgk⟩:∃g,w.heap.size=g:=⟨_,rfl⟩
 have KB:Hid (Blk (w.alloc (.cells #[.int .u8 kf,.int .u8 kt,.int .u8 kb,.int .u8 klt,.int .u32 kla,.int .u8 kht,.int .u32 kha] 112)) gk #[.int .u8 kf,.int .u8 kt,.int .u8 kb,.int .u8 klt,.int .u32 kla,.int .u8 kht,.int .u32 kha] 112):=Blk.new' _ _ _ _ hgk.symm
 have MA:Hid (Mod [] w (w.alloc (.cells #[.int .u8 kf,.int .u8 kt,.int .u8 kb,.int .u8 klt,.int .u32 kla,.int .u8 kht,.int .u32 kha] 112))):=(Mod.refl _ _).alloc _
 go_enter Tryz.func154,Tryz.ntmps154
 go_wp2_with fail
 refine (HH.out _ (by exact mods)).mono ?_
 rintro e w1 ⟨rfl,m1⟩
 replace KB:=Lib.hid (KB.out.mod m1 (by simp))
 replace MA:=Lib.hid (MA.out.trans' m1)
 clear m1 HH
 go_wp2_with fail
 go_loopw [5] (fun v wr=>∃i f:Nat,v=.int .i64 i∧i < n∧f≤n∧Hid (probe T n ⟨kf,kt,kb,⟨klt,kla⟩,⟨kht,kha⟩⟩ f i=R)∧Hid (Mod [] w1 wr)) (fun v _=>dist n (intOf v).toNat R)
 case atStart=>exact ⟨p,n,rfl,h0,Nat.le_refl _,HR.out.symm,Mod.refl _ _⟩
 case round=>
  obtain ⟨i,f,rfl,hi,hf,HP,HM⟩:=hrel
  replace KB:=Lib.hid (KB.out.mod HM.out (by simp))
  replace MA:=Lib.hid (MA.out.trans' HM.out)
  obtain ⟨q0,q1,q2,q3,q4,q5,q6⟩:=KB.out.cells7
  have c0:=(MA.out.cell hbl (by simp)).trans C0.out
  replace HT:=Lib.hid (HT.out.mod MA.out (by simp))
  obtain ⟨d0,d1,d2,d3,d4,d5,d6,-,d8⟩:=HT.out.slot i hi
  cases ho:(T i).2.2 with
  | false=>
   rw [ho] at d8
   have hri:Hid (i=R):=by rw [←HP.out];exact (probe_stop T n _ f i (.inl ho)).symm
   clear ho d0 d1 d2 d3 d4 d5 d6
   go_wp2_with fail
   go_quiet (fail)
   go_wp2
   go_ret
   exact ⟨by rw [←hri.out];rfl,MA.out.drewN _⟩
  | true=>
   rw [ho] at d8
   by_cases hkk:(T i).1=⟨kf,kt,kb,⟨klt,kla⟩,⟨kht,kha⟩⟩
   ·have hri:Hid (i=R):=by rw [←HP.out];exact (probe_stop T n _ f i (.inr hkk)).symm
    rw [hkk] at d0 d1 d2 d3 d4 d5 d6
    simp only at d0 d1 d2 d3 d4 d5 d6
    clear ho hkk
    go_wp2_with fail
    go_quiet (fail)
    go_wp2
    go_ret
    exact ⟨by rw [←hri.out];rfl,MA.out.drewN _⟩
   ·have hiR:i≠R:=by
     intro e
     have h1:=HS.out
     rw [←e] at h1
     rcases h1 with h1 | h1
     ·unfold occ at h1;rw [ho] at h1;simp at h1
     ·exact hkk h1
    obtain ⟨f',hf'⟩:∃f',f=f'+1:=by
     cases f with
     | zero=>exact (hiR HP.out).elim
     | succ f'=>exact ⟨f',rfl⟩
    have hstep:Hid (probe T n ⟨kf,kt,kb,⟨klt,kla⟩,⟨kht,kha⟩⟩ f' ((i+1) % n)=R):=by
     rw [←HP.out,hf',probe,if_pos ⟨ho,hkk⟩]
     exact rfl
    have hdn:Hid (dist n ((i+1) % n) R+1=dist n i R):=dist_next hn2' hi HRn hiR
    have hfn:f'≤n:=by omega
    have hii:(i+1) % n < n:=Nat.mod_lt _ (by omega)
    obtain ⟨tk,htk⟩:∃x,(T i).1=x:=⟨_,rfl⟩
    rw [htk] at d0 d1 d2 d3 d4 d5 d6 hkk
    obtain ⟨tf,tt,tb,⟨tlt,tla⟩,⟨tht,tha⟩⟩:=tk
    have heq:=fun w=>(eqIn_key 9996 ⟨tf,tt,tb,⟨tlt,tla⟩,⟨tht,tha⟩⟩ ⟨kf,kt,kb,⟨klt,kla⟩,⟨kht,kha⟩⟩ w).trans (by rw [decide_eq_false hkk])
    unfold rcv at heq
    simp only at d0 d1 d2 d3 d4 d5 d6 heq
    clear ho hkk hf' hiR HP hf htk
    go_wp2_with fail
    go_quiet (fail)
    go_wp2_with fail
    refine (NX.out i hi _ (MA.out.drewN _)).mono ?_
    rintro e w' ⟨rfl,rfl⟩
    go_wp2_with fail
    go_roundw
    case rel=>exact ⟨(i+1) % n,f',rfl,hii,hfn,hstep.out,HM.out.drewN _⟩
    case measure=>
     have h1:=hdn.out
     have h2:(((i+1) % n:Nat):Int).toNat=(i+1) % n:=Int.toNat_natCast _
     have h3:((i:Int)).toNat=i:=Int.toNat_natCast _
     show dist n (((i+1) % n:Nat):Int).toNat R < dist n ((i:Int)).toNat R
     rw [h2,h3]
     omega
end Go.Proofs.YtlafpknoiihaaaaGreatDoor
