/- M10: Of · Sa · Og · Cl · Ca · Mn · Mh · Mi · Mx -/
import Derived.Test.YtnbjnnijifiaaaaGreatDoorM02
import Derived.Test.YtnbjnnijifiaaaaGreatDoorM07
import Derived.Test.YtnbjnnijifiaaaaGreatDoorM09
import Derived.Test.YtnbjnnijifiaaaaGreatDoorM04
import Derived.Test.YtnbjnnijifiaaaaGreatDoorM01
set_option maxHeartbeats 4000000
set_option maxRecDepth 100000
set_option linter.unusedVariables false
set_option linter.unusedSimpArgs false
namespace Go.Proofs.YtnbjnnijifiaaaaGreatDoor
open Go.RowKit
theorem cloneInts_c {w:World} {v:Value} {xs:List Value} {F:List Nat} (h:Rv w v xs F) (h1:∀u∈xs,u.oneCell'=true) (hl:xs.length≤100000):
 Calls Tryz.prog 59 #[v] w fun e w'=>∃v',e=.returned v'∧NewV 3 w xs w' v':=by
 obtain ⟨A,cap,rfl,hc⟩:=h.shape
 obtain ⟨i0,hi,hz0,hz1,hz2⟩:=info_parts Tryz.info3
 have H:=Lib.hid h
 have H1:=Lib.hid h1
 clear h h1
 generalize hn:xs.length=n at *
 have HN:=Lib.hid hn
 clear hn
 have heq:=fun (w:World) (a:Option Addr) (n c:Nat)=>Go.Lib.run_eql_slice_nil (P:=Tryz.prog) w 22 3 a n c 0 0 Tryz.underlying22
 cases A with
 | none=>
  have h0:Hid (xs=[]):=by
   have h1:=H.out.src
   rcases Nat.eq_zero_or_pos n with e | e
   ·exact List.eq_nil_of_length_eq_zero (by rw [HN.out,e])
   ·obtain ⟨a,e,_⟩:=h1 e;simp at e
  go_enter Tryz.func59,Tryz.ntmps59
  go_wp2_with fail
  go_ret
  refine ⟨_,rfl,?_⟩
  rw [h0.out];exact NewV.nil 3 (Mod.refl _ _)
 | some a=>
  go_enter Tryz.func59,Tryz.ntmps59
  go_wp2_with (at_builtin;refine wpList_append_slz _ rfl _ _ 22 rfl 3 i0 (.int .i64 0) 1 8 Tryz.underlying22 hi hz0 hz1 hz2 rfl (by decide) _ 0 [] [w.heap.size] rfl (Sl.lit w 3 1 0 #[] (by unfold maxLen;omega) rfl) (some a) n cap xs rfl (by rw [HN.out];omega) (H.out.mod (S:=[]) (by exact mods) (by simp)).src H1.out (by unfold maxLen;omega) (by omega) ?_;intro v' w1 F' hs1 hm1 hf1)
  go_ret
  exact ⟨_,rfl,NewV.of_empty hs1 HN.out hm1 hf1⟩
structure Perm (p:List Nat) (n:Nat):Prop where
 len:p.length=n
 lt:∀v∈p,v < n
 nd:p.Nodup
def maskL:List Nat→Nat
 | []=>0
 | x::l=>maskL l ||| 2 ^ x
theorem maskL_bit (l:List Nat) (i:Nat):(maskL l).testBit i=decide (i∈l):=by
 induction l with
 | nil=>simp [maskL]
 | cons x l ih=>
  rw [maskL,Nat.testBit_or,ih,Nat.testBit_two_pow]
  by_cases h:x=i
  ·subst h;simp
  ·have h':¬i=x:=fun e=>h e.symm
   simp [h,h']
theorem maskL_lt {l:List Nat} {n:Nat} (h:∀v∈l,v < n):maskL l < 2 ^ n:=by
 induction l with
 | nil=>exact Nat.two_pow_pos n
 | cons x l ih=>
  rw [maskL]
  exact Nat.or_lt_two_pow (ih fun v hv=>h v (by simp [hv])) (Nat.pow_lt_pow_right (by omega) (h x (by simp)))
theorem bit_one_i (m:Nat) (hm:m < 9223372036854775808):bits .and .i64 (m:Int) 1=((m % 2:Nat):Int):=by
 have e:(BitVec.ofInt 64 (m:Int) &&& BitVec.ofInt 64 1).toNat=m % 2:=by
  have e1:BitVec.ofInt 64 (m:Int)=BitVec.ofNat 64 m:=BitVec.ofInt_natCast ..
  have e2:BitVec.ofInt 64 1=BitVec.ofNat 64 1:=rfl
  rw [e1,e2,BitVec.toNat_and,BitVec.toNat_ofNat,BitVec.toNat_ofNat,Nat.mod_eq_of_lt (by omega)]
  exact Nat.and_one_is_mod m
 show IntKind.i64.wrap ((BitVec.ofInt 64 (m:Int) &&& BitVec.ofInt 64 1).toNat:Int)=_
 rw [e,IntWalk.i64_in _ (by omega)]
theorem bit_at_i (W x:Nat) (hW:W < 9223372036854775808):(bits .and .i64 ((W:Int) / 2 ^ x) 1==1)=W.testBit x:=by
 have e1:(W:Int) / 2 ^ x=((W / 2 ^ x:Nat):Int):=by
  rw [Int.natCast_ediv];simp
 rw [e1,bit_one_i _ (Nat.lt_of_le_of_lt (Nat.div_le_self _ _) hW)]
 have h:W.testBit x=decide (W / 2 ^ x % 2=1):=by
  rw [Nat.testBit_eq_decide_div_mod_eq]
 rw [h]
 by_cases q:W / 2 ^ x % 2=1
 ·rw [q];simp
 ·have:W / 2 ^ x % 2=0:=by omega
  rw [this];simp
theorem permRight_c {w:World} {v:Value} {p:List Nat} {n:Nat} {F:List Nat} (h:Rv w v (p.map ei) F) (hp:Perm p n) (hn:n≤16):
 Calls Tryz.prog 79 #[v] w fun e w'=>e=.returned (.bool true)∧w'=w:=by
 obtain ⟨A,cap,rfl,hc⟩:=h.shape
 have H:=Lib.hid h
 have HP:=Lib.hid hp
 simp only [List.length_map] at H hc ⊢
 rw [hp.len] at H hc ⊢
 clear h hp
 have hn':(n:Int)≤16:=by omega
 go_enter Tryz.func79,Tryz.ntmps79
 go_wp2_with fail
 go_loop [11,3] (fun i s=>∃k:Nat,k≤n∧i=.int .i64 k∧s=.int .i64 (maskL ((p.take k).reverse):Nat)) (fun i _=>n - (intOf i).toNat)
 case atStart=>exact ⟨0,by omega,rfl,rfl⟩
 case round=>
  obtain ⟨k,hk,rfl,rfl⟩:=hrel
  by_cases hlt:k < n
  ·have hlt':(k:Int) < n:=by omega
   have hk1:k < p.length:=by rw [HP.out.len];exact hlt
   obtain ⟨b1,o1,rfl,d1⟩:=H.out.at k (by rw [List.length_map];exact hk1)
   rw [List.getElem_map] at d1
   have hxn:p[k] < n:=HP.out.lt _ (List.getElem_mem _)
   have hml:maskL ((p.take k).reverse) < 2 ^ n:=maskL_lt (fun v hv=>HP.out.lt v (List.mem_of_mem_take (List.mem_reverse.1 hv)))
   have h16:2 ^ n≤65536:=by have:=Nat.pow_le_pow_right (n:=2) (by omega) hn;simpa using this
   have TA:Hid (maskL ((p.take (k+1)).reverse)=maskL ((p.take k).reverse) ||| 2 ^ p[k]):=by
    show _=_
    rw [List.take_succ_eq_append_getElem hk1,List.reverse_append];rfl
   have NB:(maskL ((p.take k).reverse)).testBit p[k]=false:=by
    rw [maskL_bit,decide_eq_false_iff_not]
    intro hm
    have hm:=List.mem_reverse.1 hm
    have hnd:=HP.out.nd
    rw [←List.take_append_drop k p,List.nodup_append] at hnd
    have hd:p[k]∈p.drop k:=List.mem_iff_getElem?.2 ⟨0,by rw [List.getElem?_drop];exact List.getElem?_eq_getElem hk1⟩
    exact hnd.2.2 _ hm _ hd rfl
   have BA:Hid ((bits .and .i64 ((maskL ((p.take k).reverse):Int) / 2 ^ p[k]) 1==1)=false):=by
    show _=_
    rw [bit_at_i _ _ (by omega)];exact NB
   have OR:=Lib.hid (or_pow' (x:=maskL ((p.take k).reverse)) (v:=p[k]) (by omega) (by omega))
   unfold ei at d1
   have hm32:(maskL ((p.take k).reverse):Int)≤65536:=by omega
   generalize p[k]=x at *
   generalize maskL ((p.take k).reverse)=s at *
   have hx0:(0:Int)≤x:=by omega
   have hx1:(x:Int) < n:=by omega
   have BA2:=BA.out
   clear hml h16 NB hk1
   go_wp2_with fail
   exact ⟨⟨k+1,by omega,by go_num,by rw [TA.out,OR.out]⟩,by simp [intOf];omega⟩
  ·obtain rfl:k=n:=by omega
   go_wp2_with fail
   go_ret
   exact ⟨rfl,rfl⟩
structure Inv (p q:List Nat):Prop where
 len:q.length=p.length
 at_:∀i,(h:i < p.length)→q[p[i]]? =some i
theorem inverse_c {w:World} {v:Value} {p:List Nat} {n:Nat} {F:List Nat} (h:Rv w v (p.map ei) F) (hp:Perm p n) (hn:n≤16):
 Calls Tryz.prog 58 #[v] w fun e w'=>∃v' q,e=.returned (.tuple #[v',.bool true])∧NewV 3 w (q.map ei) w' v'∧Inv p q:=by
 obtain ⟨A,cap,rfl,hc⟩:=h.shape
 have RT:=Lib.hid (permRight_c h hp hn)
 have H:=Lib.hid h
 have HP:=Lib.hid hp
 simp only [List.length_map] at H hc RT ⊢
 rw [hp.len] at H hc RT ⊢
 clear h hp
 have hn':(n:Int)≤16:=by omega
 have hmk:=fun w=>madeInts w n (by omega)
 obtain ⟨g,hg⟩:∃g,w.heap.size=g:=⟨_,rfl⟩
 go_enter Tryz.func58,Tryz.ntmps58
 go_wp2_with fail
 refine RT.out.mono ?_
 rintro e w' ⟨rfl,rfl⟩
 go_wp2_with fail
 have HG:=Lib.hid hg
 have S0:=Lib.hid (Sl.made1 w' 3 n (.int .i64 0) (by unfold maxLen;omega) g hg.symm)
 have M0:Hid (Mod [] w' (w'.alloc (.cells (madeCells #[.int .i64 0] n) 3))):=(Mod.refl _ _).alloc _
 clear hmk RT hg
 generalize w'.alloc (.cells (madeCells #[.int .i64 0] n) 3)=w0 at *
 go_loopw [15] (fun i wr=>∃k:Nat,∃xs:List Nat,k≤n∧i=.int .i64 k∧Hid (xs.length=n)∧Hid (∀j,(h:j < p.length)→j < k→xs[p[j]]? =some j)∧Hid (Sl wr 3 1 (.slice (some ⟨g,0,none⟩) n n) n (xs.map ei) [g])∧Hid (Mod [] w' wr)) (fun i _=>n - (intOf i).toNat)
 case atStart=>exact ⟨0,List.replicate n 0,by omega,rfl,by show _=_;simp,by intro j h hj;omega,by show Sl _ _ _ _ _ _ _;simpa [ei] using S0.out,M0⟩
 case round=>
  obtain ⟨k,xs,hk,rfl,HXL,HXS,HS,HM⟩:=hrel
  clear S0 M0
  by_cases hlt:k < n
  ·have hlt':(k:Int) < n:=by omega
   have hk1:k < p.length:=by rw [HP.out.len];exact hlt
   obtain ⟨b1,o1,rfl,d1⟩:=(H.out.mod HM.out (by simp)).at k (by rw [List.length_map];exact hk1)
   rw [List.getElem_map] at d1
   obtain ⟨x,hx⟩:∃x,p[k]=x:=⟨_,rfl⟩
   have hxn:x < n:=by rw [←hx];exact HP.out.lt _ (List.getElem_mem _)
   have HX:=Lib.hid hx
   rw [hx] at d1
   unfold ei at d1
   have hx0:(0:Int)≤x:=by omega
   have hx1:(x:Int) < n:=by omega
   obtain ⟨e1,e2,-⟩:=HS.out.at x (by omega)
   rw [List.getElem?_map,List.getElem?_eq_getElem (by rw [HXL.out];exact hxn)] at e1
   simp only [Option.map_some,ei] at e1
   have hbl:=World.block_lt_of_cell? wr _ d1
   clear hx
   go_wp2_with fail
   go_roundw
   case rel=>
    refine ⟨k+1,xs.set x k,by omega,by go_num,by show _=_;rw [List.length_set];exact HXL.out,?_,?_,?_⟩
    ·intro j hj hjk
     rw [List.getElem?_set]
     by_cases q:x=p[j]
     ·rw [if_pos q,if_pos (by rw [HXL.out];exact hxn)]
      have:k=j:=(List.getElem_inj (h₀:=hk1) (h₁:=hj) HP.out.nd).1 (HX.out.trans q)
      rw [this]
     ·rw [if_neg q]
      refine HXS.out j hj ?_
      rcases Nat.lt_or_ge j k with h | h
      ·exact h
      ·obtain rfl:j=k:=by omega
       exact absurd HX.out.symm q
    ·have:=HS.out.set x (ei k)
     show Sl _ _ _ _ _ _ _
     rw [List.map_set];exact this
    ·exact HM.out.setCell _ _ (by have:=HG.out;simp;omega)
   case measure=>simp [intOf];omega
  ·obtain rfl:k=n:=by omega
   go_wp2_with fail
   go_ret2
   refine ⟨_,xs,rfl,⟨[g],?_,HM.out,by intro q hq;simp at hq;subst hq;rw [HG.out];omega⟩,by rw [HXL.out,HP.out.len],fun i hi=>HXS.out i hi (by rw [←HP.out.len];exact hi)⟩
   rw [List.length_map,HXL.out]
   exact HS.out
def OrdP (w:World) (p:List Nat) (e:Ending) (w':World):Prop:=∃b q F,e=.returned (.tuple #[.pointer (some ⟨b,0,none⟩),.int .u8 0])∧IsOrd w' b p q F∧Inv p q∧Mod [] w w'∧∀k∈F,w.heap.size≤k
theorem orderOf_c {w:World} {v:Value} {p:List Nat} {n:Nat} {F:List Nat} (h:Rv w v (p.map ei) F) (hp:Perm p n) (hn:n≤16):
 Calls Tryz.prog 23 #[v] w (OrdP w p):=by
 have IN:=Lib.hid (inverse_c h hp hn)
 have CL:Hid (∀W,Mod [] w W→_):=fun W m=>cloneInts_c (h.mod m (by simp)) (ei_one p) (by rw [List.length_map,hp.len];omega)
 have HP:=Lib.hid hp
 clear h hp
 go_enter Tryz.func23,Tryz.ntmps23
 go_wp2_with fail
 refine IN.out.mono ?_
 rintro e w1 ⟨v1,q,rfl,n1,inv⟩
 obtain ⟨A1,cap1,rfl⟩:=n1.shape
 have N1:=Lib.hid n1
 have I1:=Lib.hid inv
 clear n1 inv IN
 go_wp2_with fail
 refine (CL.out _ (N1.out.mod.trans' (show Mod [] w1 _ from by exact mods))).mono ?_
 rintro e w2 ⟨v2,rfl,n2⟩
 obtain ⟨A2,cap2,rfl⟩:=n2.shape
 have N2:=Lib.hid n2
 clear n2 CL
 go_wp2_with fail
 obtain ⟨Fq,sq,mq,fq⟩:=N1.out
 obtain ⟨Fp,sp,mp,fp⟩:=N2.out
 have m12:Mod [] w1 w2:=mp
 have hA:∀k∈Fq,k < w1.heap.size:=fun k hk=>sq.lt k hk
 have hs:=mp.size
 go_ret2
 refine ⟨w2.heap.size,q,w2.heap.size::(Fp++Fq),rfl,⟨_,_,Fp,Fq,Blk.new _ _ _,?_,?_,rfl,?_,?_⟩,I1.out,?_,?_⟩
 ·simp only [List.length_map] at sp ⊢
  exact sp.mod ((Mod.refl [] w2).alloc _) (by simp)
 ·simp only [List.length_map] at sq ⊢
  exact (sq.mod m12 (by simp)).mod ((Mod.refl [] w2).alloc _) (by simp)
 ·intro h;have:=sp.lt _ h;omega
 ·intro h;have:=hA _ h;omega
 ·exact (mq.trans' m12).alloc _
 ·intro k hk
  have h1:=mq.size
  simp at hk
  rcases hk with rfl | hk | hk
  ·omega
  ·have:=fp k hk;omega
  ·exact fq k hk
open Go.RowKit
def sg (k a:Nat):Nat:=if a=k then k+1 else if a=k+1 then k else a
theorem sg_inj {k a b:Nat} (h:sg k a=sg k b):a=b:=by
 unfold sg at h
 repeat' split at h
 all_goals omega
theorem swapL_get {p:List Nat} {k:Nat} (h:k+1 < p.length) (a:Nat):(swapL p k)[a]? =p[sg k a]? :=by
 unfold swapL sg
 simp only [List.getD_eq_getElem?_getD]
 by_cases h1:a=k
 ·subst h1
  rw [if_pos rfl,List.getElem?_set_ne (by omega),List.getElem?_set_self (by omega),List.getElem?_eq_getElem h];rfl
 ·rw [if_neg h1]
  by_cases h2:a=k+1
  ·subst h2
   rw [if_pos rfl,List.getElem?_set_self (by simp;omega),List.getElem?_eq_getElem (by omega:k < p.length)];rfl
  ·rw [if_neg h2,List.getElem?_set_ne (by omega),List.getElem?_set_ne (by omega)]
theorem Perm.swap {p:List Nat} {n k:Nat} (h:Perm p n) (hk:k+1 < n):Perm (swapL p k) n:=by
 have hk':k+1 < p.length:=by rw [h.len];exact hk
 refine ⟨by rw [swapL_len,h.len],fun v hv=>?_,?_⟩
 ·obtain ⟨a,ha⟩:=List.mem_iff_getElem?.1 hv
  rw [swapL_get hk'] at ha
  exact h.lt v (List.mem_iff_getElem?.2 ⟨_,ha⟩)
 ·unfold List.Nodup
  rw [List.pairwise_iff_getElem]
  intro i j hi hj hij e
  have hi2:=swapL_get hk' i
  have hj2:=swapL_get hk' j
  rw [List.getElem?_eq_getElem hi] at hi2
  rw [List.getElem?_eq_getElem hj,←e,hi2] at hj2
  rw [swapL_len] at hi hj
  have si:sg k i < p.length:=by
   unfold sg;repeat' split
   all_goals omega
  have sj:sg k j < p.length:=by
   unfold sg;repeat' split
   all_goals omega
  rw [List.getElem?_eq_getElem si,List.getElem?_eq_getElem sj] at hj2
  have:=sg_inj ((List.getElem_inj (h₀:=si) (h₁:=sj) h.nd).1 (Option.some.inj hj2))
  omega
theorem sub_len {α:Type} [DecidableEq α]:∀(l m:List α),l.Nodup→(∀v∈l,v∈m)→l.length≤m.length
 | [],_,_,_=>by simp
 | x::l,m,hn,h=>by
  have hx:=h x (by simp)
  have hn2:=List.nodup_cons.1 hn
  have:=sub_len l (m.erase x) hn2.2 (fun v hv=>(List.mem_erase_of_ne (fun e=>hn2.1 (by rw [←e];exact hv))).2 (h v (by simp [hv])))
  rw [List.length_erase_of_mem hx] at this
  have:=List.length_pos_of_mem hx
  simp;omega
theorem Perm.mem {p:List Nat} {n x:Nat} (h:Perm p n) (hx:x < n):x∈p:=by
 by_cases hm:x∈p
 ·exact hm
 ·have:=sub_len (x::p) (List.range n) (List.nodup_cons.2 ⟨hm,h.nd⟩) (fun v hv=>by
   rcases List.mem_cons.1 hv with rfl | hv
   ·simpa using hx
   ·simpa using h.lt v hv)
  simp [h.len] at this
  omega
structure StpS (p q now l:List Nat) (n i:Nat):Prop where
 fold:now=l.foldl swapL p
 pm:Perm now n
 ok:∀s∈l,s+1 < n
 tk:now.take i=q.take i
 len:l.length≤i *n
structure StpI (p q now l:List Nat) (n i m:Nat):Prop where
 fold:now=l.foldl swapL p
 pm:Perm now n
 ok:∀s∈l,s+1 < n
 tk:now.take i=q.take i
 at_:now[m]? =q[i]?
 im:i≤m
 mn:m < n
 len:l.length+m≤i *n+n
theorem StpS.start {p q now l:List Nat} {n i m x:Nat} (h:StpS p q now l n i) (hq:Perm q n) (hi:i < n) (hx:q[i]? =some x) (hm:now[m]? =some x):StpI p q now l n i m:=by
 have hmn:m < n:=by rw [←h.pm.len];exact (List.getElem?_eq_some_iff.1 hm).1
 refine ⟨h.fold,h.pm,h.ok,h.tk,by rw [hm,hx],?_,hmn,by have:=h.len;omega⟩
 rcases Nat.lt_or_ge m i with hlt | hge
 ·exfalso
  have h1:(q.take i)[m]? =some x:=by rw [←h.tk,List.getElem?_take_of_lt hlt];exact hm
  rw [List.getElem?_take_of_lt hlt] at h1
  have hml:m < q.length:=by rw [hq.len];exact hmn
  have hil:i < q.length:=by rw [hq.len];exact hi
  rw [List.getElem?_eq_getElem hml] at h1
  rw [List.getElem?_eq_getElem hil] at hx
  have:=(List.getElem_inj (h₀:=hml) (h₁:=hil) hq.nd).1 (Option.some.inj (h1.trans hx.symm))
  omega
 ·exact hge
theorem StpI.step {p q now l:List Nat} {n i m:Nat} (h:StpI p q now l n i (m+1)) (hm:i≤m):StpI p q (swapL now m) (l++[m]) n i m:=by
 have hk:m+1 < now.length:=by rw [h.pm.len];exact h.mn
 refine ⟨by rw [List.foldl_append,←h.fold];rfl,h.pm.swap h.mn,?_,?_,?_,hm,by have:=h.mn;omega,by have:=h.len;simp;omega⟩
 ·intro s hs
  simp at hs
  rcases hs with hs | rfl
  ·exact h.ok s hs
  ·exact h.mn
 ·rw [←h.tk]
  apply List.ext_getElem?
  intro a
  rcases Nat.lt_or_ge a i with ha | ha
  ·rw [List.getElem?_take_of_lt ha,List.getElem?_take_of_lt ha,swapL_get hk]
   unfold sg
   rw [if_neg (by omega),if_neg (by omega)]
  ·rw [List.getElem?_take_eq_none ha,List.getElem?_take_eq_none ha]
 ·rw [←h.at_,swapL_get hk]
  unfold sg
  rw [if_pos rfl]
theorem StpI.stop {p q now l:List Nat} {n i:Nat} (h:StpI p q now l n i i) (hq:Perm q n):StpS p q now l n (i+1):=by
 have h1:i < now.length:=by rw [h.pm.len];exact h.mn
 have h2:i < q.length:=by rw [hq.len];exact h.mn
 refine ⟨h.fold,h.pm,h.ok,?_,by have:=h.len;rw [Nat.succ_mul];omega⟩
 rw [List.take_succ_eq_append_getElem h1,List.take_succ_eq_append_getElem h2,h.tk]
 have:=h.at_
 rw [List.getElem?_eq_getElem h1,List.getElem?_eq_getElem h2] at this
 rw [Option.some.inj this]
structure StpD (p q l:List Nat) (n:Nat):Prop where
 fold:l.foldl swapL p=q
 ok:∀s∈l,s+1 < n
 len:l.length≤n *n
theorem StpS.done {p q now l:List Nat} {n:Nat} (h:StpS p q now l n n) (hq:Perm q n):StpD p q l n:=by
 refine ⟨?_,h.ok,h.len⟩
 have:=h.tk
 rw [List.take_of_length_le (by rw [h.pm.len];exact Nat.le_refl _),List.take_of_length_le (by rw [hq.len];exact Nat.le_refl _)] at this
 rw [←h.fold];exact this
theorem index_c {w:World} {v:Value} {p:List Nat} {n x i:Nat} {F:List Nat} (h:Rv w v (p.map ei) F) (hp:p.length=n) (hn:n≤16) (hi:p[i]? =some x) (hd:∀j,j < i→p[j]? ≠some x):
 Calls Tryz.prog 80 #[v,.int .i64 x] w fun e w'=>e=.returned (.int .i64 i)∧w'=w:=by
 obtain ⟨A,cap,rfl,hc⟩:=h.shape
 have hin:i < n:=by have:=(List.getElem?_eq_some_iff.1 hi).1;omega
 have H:=Lib.hid h
 have HI:=Lib.hid hi
 have HD:=Lib.hid hd
 have HP:=Lib.hid hp
 simp only [List.length_map] at H hc ⊢
 rw [hp] at H hc ⊢
 clear h hi hd hp
 have hn':(n:Int)≤16:=by omega
 go_enter Tryz.func80,Tryz.ntmps80
 go_wp2_with fail
 go_loop [8] (fun c=>∃k:Nat,k≤i∧c=.int .i64 k) (fun c=>n - (intOf c).toNat)
 case atStart=>exact ⟨0,by omega,rfl⟩
 case round=>
  obtain ⟨k,hk,rfl⟩:=hrel
  have hlt':(k:Int) < n:=by omega
  have hk1:k < p.length:=by rw [HP.out];omega
  obtain ⟨b1,o1,rfl,d1⟩:=H.out.at k (by rw [List.length_map];exact hk1)
  rw [List.getElem_map] at d1
  unfold ei at d1
  obtain ⟨y,hy⟩:∃y,p[k]=y:=⟨_,rfl⟩
  rw [hy] at d1
  have HY:Hid (p[k]? =some y):=by show _=_;rw [List.getElem?_eq_getElem hk1,hy]
  clear hy
  by_cases hki:k=i
  ·subst hki
   obtain rfl:x=y:=Option.some.inj (HI.out.symm.trans HY.out)
   have hq:((x:Int)==(x:Int))=true:=by simp
   go_wp2_with fail
   go_ret
   exact ⟨rfl,rfl⟩
  ·have hne:¬x=y:=fun e=>HD.out k (by omega) (by rw [HY.out,e])
   have hq:((x:Int)==(y:Int))=false:=by rw [beq_eq_false_iff_ne];omega
   clear hne
   go_wp2_with fail
   go_round
   case rel=>exact ⟨k+1,by omega,by go_num⟩
   case measure=>simp [intOf];omega
theorem nd_first {p:List Nat} (h:p.Nodup) {i x:Nat} (hi:p[i]? =some x):∀j,j < i→p[j]? ≠some x:=fun j hj e=>by
 obtain ⟨h1,e1⟩:=List.getElem?_eq_some_iff.1 hi
 obtain ⟨h2,e2⟩:=List.getElem?_eq_some_iff.1 e
 have:=(List.getElem_inj (h₀:=h2) (h₁:=h1) h).1 (e2.trans e1.symm)
 omega
theorem steps_c {w:World} {v1 v2:Value} {p q:List Nat} {n:Nat} {F1 F2:List Nat} (h1:Rv w v1 (p.map ei) F1) (h2:Rv w v2 (q.map ei) F2) (hp:Perm p n) (hq:Perm q n) (hn:n≤16):
 Calls Tryz.prog 38 #[v1,v2] w fun e w'=>∃v' l,e=.returned (.tuple #[v',.bool true])∧NewV 3 w (l.map ei) w' v'∧StpD p q l n:=by
 obtain ⟨A1,c1,rfl,hc1⟩:=h1.shape
 obtain ⟨A2,c2,rfl,hc2⟩:=h2.shape
 have R1:=Lib.hid (permRight_c h1 hp hn)
 have R2:=Lib.hid (permRight_c h2 hq hn)
 have CL:=Lib.hid (cloneInts_c h1 (ei_one p) (by rw [List.length_map,hp.len];omega))
 have HP:=Lib.hid hp
 have HQ:=Lib.hid hq
 have H2:=Lib.hid h2
 simp only [List.length_map] at H2 R1 R2 CL hc1 hc2 ⊢
 rw [hp.len] at R1 CL hc1 ⊢
 rw [hq.len] at R2 H2 hc2 ⊢
 clear h1 h2 hp hq
 obtain ⟨i0,hi,hz0,hz1,hz2⟩:=info_parts Tryz.info3
 have hn':(n:Int)≤16:=by omega
 have hnn:((n:Int) != n)=false:=by simp
 go_enter Tryz.func38,Tryz.ntmps38
 go_wp2_with fail
 refine R1.out.mono ?_
 rintro e w' ⟨rfl,rfl⟩
 go_wp2_with fail
 refine R2.out.mono ?_
 rintro e w' ⟨rfl,rfl⟩
 go_wp2_with fail
 refine CL.out.mono ?_
 rintro e w1 ⟨v',rfl,nv⟩
 clear R1 R2 CL hnn
 obtain ⟨Fn,sn,mn,fn⟩:=nv
 simp only [List.length_map] at sn
 rw [HP.out.len] at sn
 obtain ⟨An,cn,rfl,hcn⟩:=sn.shape
 have SN:=Lib.hid sn
 have MN:=Lib.hid mn
 have FN:=Lib.hid fn
 clear sn mn fn
 go_wp2_with fail
 go_loopw [30,7] (fun i o wr=>∃(k:Nat) (now l:List Nat) (Fo:List Nat),k≤n∧i=.int .i64 k∧Hid (StpS p q now l n k)∧Hid (Sl wr 3 1 (.slice An n cn) n (now.map ei) Fn)∧Hid (Sl wr 3 1 o l.length (l.map ei) Fo)∧Hid (Mod [] w' wr)∧Hid (∀g∈Fo,w'.heap.size≤g∧g∉Fn)) (fun i _ _=>n - (intOf i).toNat)
 case atStart=>exact ⟨0,p,[],[],by omega,rfl,⟨rfl,HP.out,by simp,by simp,by simp⟩,SN,Sl.nil _ _ _,MN,by intro g hg;simp at hg⟩
 case round=>
  obtain ⟨i,now,l,Fo,hin,rfl,HS,HN,HL,HM,HF⟩:=hrel
  clear SN MN
  by_cases hlt:i < n
  ·have hlt':(i:Int) < n:=by omega
   have hi1:i < q.length:=by rw [HQ.out.len];exact hlt
   obtain ⟨b1,o1,rfl,d1⟩:=(H2.out.mod HM.out (by simp)).at i (by rw [List.length_map];exact hi1)
   rw [List.getElem_map] at d1
   obtain ⟨x,hx⟩:∃x,q[i]=x:=⟨_,rfl⟩
   rw [hx] at d1
   unfold ei at d1
   have HX:Hid (q[i]? =some x):=by show _=_;rw [List.getElem?_eq_getElem hi1,hx]
   have hxn:x < n:=by rw [←hx];exact HQ.out.lt _ (List.getElem_mem _)
   clear hx
   obtain ⟨m,hm⟩:=List.mem_iff_getElem?.1 (HS.out.pm.mem hxn)
   have HI:=Lib.hid (HS.out.start HQ.out hlt HX.out hm)
   have hmn:=HI.out.mn
   have IX:=Lib.hid (index_c (Rv.of_sl HN.out (by simp [HS.out.pm.len])) HS.out.pm.len hn hm (nd_first HS.out.pm.nd hm))
   clear hm hxn
   go_wp2_with fail
   refine IX.out.mono ?_
   rintro e w2 ⟨rfl,rfl⟩
   clear IX d1
   have hm16:(m:Int)≤16:=by omega
   go_wp2_with fail
   go_loopw [10,7] (fun c o wr=>∃(cc:Int) (m:Nat) (now l:List Nat) (Fo:List Nat) (ao:Option Addr) (ln co:Nat),c=.int .i64 cc∧o=.slice ao ln co∧ln=l.length∧cc=(m:Int) - 1∧Hid (StpI p q now l n i m)∧Hid (Sl wr 3 1 (.slice An n cn) n (now.map ei) Fn)∧Hid (Sl wr 3 1 (.slice ao ln co) ln (l.map ei) Fo)∧Hid (Mod [] w' wr)∧Hid (∀g∈Fo,w'.heap.size≤g∧g∉Fn)) (fun c _ _=>(intOf c+1).toNat)
   case atStart=>obtain ⟨ao,co,rfl,-⟩:=HL.out.shape;exact ⟨_,m,now,l,Fo,ao,l.length,co,rfl,rfl,rfl,rfl,HI,HN,HL,HM,HF⟩
   case round=>
    clear HI HN HL HM HF HS hmn hm16
    obtain ⟨cc,m,now,l,Fo,ao,ln,co,rfl,rfl,hln,hcc,HI,HN,HL,HM,HF⟩:=hrel
    have him:=HI.out.im
    have hmn:=HI.out.mn
    by_cases hgt:i < m
    ·obtain ⟨k,rfl⟩:∃k,m=k+1:=⟨m - 1,by omega⟩
     obtain rfl:cc=(k:Int):=by omega
     have HLN:=Lib.hid hln
     have hik:(i:Int)≤k:=by omega
     have hk1:(k:Int)+1 < n:=by omega
     have hk2:(k:Int) < n:=by omega
     have HIM:=Lib.hid him
     clear hcc hln him hmn
     have hkl:k+1 < now.length:=by rw [HI.out.pm.len];exact HI.out.mn
     obtain ⟨gn,cn',hAn,rfl,-⟩:=HN.out.pos (by omega)
     obtain ⟨rfl,rfl⟩:An=some ⟨gn,0,none⟩∧cn=cn':=by simp at hAn;exact hAn
     clear hAn
     obtain ⟨c0,f0,-⟩:=HN.out.at k (by omega)
     obtain ⟨c1,f1,-⟩:=HN.out.at (k+1) (by omega)
     obtain ⟨x0,hx0⟩:∃x,now[k]=x:=⟨_,rfl⟩
     obtain ⟨x1,hx1⟩:∃x,now[k+1]=x:=⟨_,rfl⟩
     rw [List.getElem?_map,List.getElem?_eq_getElem (by omega),Option.map_some,hx0] at c0
     rw [List.getElem?_map,List.getElem?_eq_getElem hkl,Option.map_some,hx1] at c1
     have HI2:=Lib.hid (HI.out.step (by omega))
     have HB:Hid (ln≤300):=by
      show _≤_
      have h1:=HI.out.len
      have h2:i *n≤16 *16:=Nat.mul_le_mul (by omega) hn
      have h3:=HLN.out
      omega
     have HSW:Hid (swapL now k=(now.set k x1).set (k+1) x0):=by
      show _=_
      unfold swapL
      simp only [List.getD_eq_getElem?_getD]
      rw [List.getElem?_eq_getElem (by omega:k < now.length),List.getElem?_eq_getElem hkl,Option.getD_some,Option.getD_some,hx0,hx1]
     have HN2:Hid (Sl (((wr.setCell ⟨gn,k,none⟩ (ei x1)).setCell ⟨gn,k+1,none⟩ (ei x0)).drew) 3 1 (.slice (some ⟨gn,0,none⟩) n cn) n ((swapL now k).map ei) [gn]):=by
      show Sl _ _ _ _ _ _ _
      rw [HSW.out,List.map_set,List.map_set]
      exact (((HN.out.set k (ei x1)).set (k+1) (ei x0)).mod (S:=[]) (Mod.refl _ _).drew (by simp))
     have hgw:w'.heap.size≤gn:=FN.out gn (by simp)
     have HM2:Hid (Mod [] w' (((wr.setCell ⟨gn,k,none⟩ (ei x1)).setCell ⟨gn,k+1,none⟩ (ei x0)).drew)):=((HM.out.setCell _ _ (by simp;omega)).setCell _ _ (by simp;omega)).drew
     have HL2:Hid (Sl (((wr.setCell ⟨gn,k,none⟩ (ei x1)).setCell ⟨gn,k+1,none⟩ (ei x0)).drew) 3 1 (.slice ao ln co) ln (l.map ei) Fo):=
      HL.out.mod (S:=[gn]) (((Mod.refl _ _).setCell _ _ (by simp)).setCell _ _ (by simp)).drew (fun g hg=>by have:=(HF.out g hg).2;exact this)
     unfold ei at c0 c1 HN2 HM2 HL2
     clear hx0 hx1 HN HL HM HI hkl HSW
     go_wp2_with fail
     go_region
     clear c0 c1 f0 f1
     generalize ((wr.setCell ⟨gn,k,none⟩ (.int .i64 x1)).setCell ⟨gn,k+1,none⟩ (.int .i64 x0)).drew=wy at *
     clear hgw
     go_wp2_with (at_builtin;refine wpList_append_sl _ rfl _ _ 22 rfl 3 i0 (.int .i64 0) 1 8 Tryz.underlying22 hi hz0 hz1 hz2 rfl (by decide) _ ln (l.map ei) Fo rfl (HL2.out.mod (S:=[]) (by exact mods) (by simp)) ⟨_,0,none⟩ 1 1 [ei k] (by decide) rfl rfl (by intro j u hu;exact list_new_at _ _ _ _ (by simp) j u hu) (by intro u hu;simp at hu;subst hu;rfl) (by have:=HB.out;unfold maxLen;omega) (by have:=HB.out;omega) ?_;intro v5 w5 F5 hs5 hm5 hf5;have S5:=Lib.hid hs5;have M5:=Lib.hid hm5;have Q5:=Lib.hid hf5;obtain ⟨a5,cap5,rfl,_⟩:=hs5.shape;clear hs5 hm5 hf5)
     go_roundw
     case rel=>
      have hA:Mod [] wy (wy.alloc (.cells #[.int .i64 k] 3)):=by exact mods
      have hg:gn < wy.heap.size:=HN2.out.lt gn (by simp)
      have hw:w'.heap.size≤wy.heap.size:=HM2.out.size
      refine ⟨_,k,swapL now k,l++[k],F5,a5,ln+1,cap5,rfl,rfl,by simp [HLN.out],rfl,HI2,?_,?_,?_,?_⟩
      ·exact (HN2.out.mod hA (by simp)).mod M5.out (fun g hg h=>(HF.out g h).2 hg)
      ·show Sl _ _ _ _ _ _ _
       rw [List.map_append];exact S5.out
      ·exact (HM2.out.trans' hA).trans M5.out (fun j hj h=>absurd (HF.out j h).1 (by omega))
      ·intro g hg'
       rcases Q5.out g hg' with h | h
       ·exact HF.out g h
       ·simp at h
        exact ⟨by omega,by simp;omega⟩
     case measure=>simp [intOf]
    ·obtain rfl:m=i:=by omega
     have hcl:cc < (m:Int):=by omega
     have HI2:=Lib.hid (HI.out.stop HQ.out)
     subst hln
     clear hcc him hmn
     go_wp2_with fail
     go_roundw
     case rel=>exact ⟨m+1,now,l,Fo,by omega,by go_num,HI2,HN,HL,HM,HF⟩
     case measure=>simp [intOf];omega
  ·obtain rfl:i=n:=by omega
   have HD:=Lib.hid (HS.out.done HQ.out)
   go_wp2_with fail
   go_ret2
   exact ⟨_,l,rfl,⟨Fo,by rw [List.length_map];exact HL.out,HM.out,fun g hg=>(HF.out g hg).1⟩,HD.out⟩
open Go.RowKit
def IsOrdD (w:World) (b:Nat) (p q:List Nat) (F:List Nat):Prop:=
 ∃vp vq Fp Fq,Blk w b #[vp,vq] 144∧Sl w 3 1 vp p.length (p.map ei) Fp∧Sl w 3 1 vq q.length (q.map ei) Fq∧F=b::(Fp++Fq)∧b∉Fp∧b∉Fq∧(∀k∈Fp,k∉Fq)
theorem IsOrdD.ord {w:World} {b:Nat} {p q F:List Nat} (h:IsOrdD w b p q F):IsOrd w b p q F:=by
 obtain ⟨vp,vq,Fp,Fq,h1,h2,h3,h4,h5,h6,-⟩:=h
 exact ⟨vp,vq,Fp,Fq,h1,h2,h3,h4,h5,h6⟩
theorem IsOrdD.mod {S:List Nat} {w w':World} {b:Nat} {p q:List Nat} {F:List Nat} (h:IsOrdD w b p q F) (m:Mod S w w') (hd:∀k∈F,k∉S):IsOrdD w' b p q F:=by
 obtain ⟨vp,vq,Fp,Fq,h1,h2,h3,rfl,r⟩:=h
 exact ⟨vp,vq,Fp,Fq,h1.mod m (hd b (by simp)),h2.mod m (fun k hk=>hd k (by simp [hk])),h3.mod m (fun k hk=>hd k (by simp [hk])),rfl,r⟩
theorem IsOrdD.lt {w:World} {b:Nat} {p q:List Nat} {F:List Nat} (h:IsOrdD w b p q F):∀k∈F,k < w.heap.size:=by
 obtain ⟨vp,vq,Fp,Fq,h1,h2,h3,rfl,r⟩:=h
 intro k hk
 simp at hk
 rcases hk with rfl | hk | hk
 ·exact h1.lt
 ·exact h2.lt k hk
 ·exact h3.lt k hk
def OrdPD (w:World) (p:List Nat) (e:Ending) (w':World):Prop:=∃b q F,e=.returned (.tuple #[.pointer (some ⟨b,0,none⟩),.int .u8 0])∧IsOrdD w' b p q F∧Inv p q∧Mod [] w w'∧∀k∈F,w.heap.size≤k
theorem orderOfD_c {w:World} {v:Value} {p:List Nat} {n:Nat} {F:List Nat} (h:Rv w v (p.map ei) F) (hp:Perm p n) (hn:n≤16):
 Calls Tryz.prog 23 #[v] w (OrdPD w p):=by
 have IN:=Lib.hid (inverse_c h hp hn)
 have CL:Hid (∀W,Mod [] w W→_):=fun W m=>cloneInts_c (h.mod m (by simp)) (ei_one p) (by rw [List.length_map,hp.len];omega)
 have HP:=Lib.hid hp
 clear h hp
 go_enter Tryz.func23,Tryz.ntmps23
 go_wp2_with fail
 refine IN.out.mono ?_
 rintro e w1 ⟨v1,q,rfl,n1,inv⟩
 obtain ⟨A1,cap1,rfl⟩:=n1.shape
 have N1:=Lib.hid n1
 have I1:=Lib.hid inv
 clear n1 inv IN
 go_wp2_with fail
 refine (CL.out _ (N1.out.mod.trans' (show Mod [] w1 _ from by exact mods))).mono ?_
 rintro e w2 ⟨v2,rfl,n2⟩
 obtain ⟨A2,cap2,rfl⟩:=n2.shape
 have N2:=Lib.hid n2
 clear n2 CL
 go_wp2_with fail
 obtain ⟨Fq,sq,mq,fq⟩:=N1.out
 obtain ⟨Fp,sp,mp,fp⟩:=N2.out
 have m12:Mod [] w1 w2:=mp
 have hA:∀k∈Fq,k < w1.heap.size:=fun k hk=>sq.lt k hk
 have hs:=mp.size
 go_ret2
 refine ⟨w2.heap.size,q,w2.heap.size::(Fp++Fq),rfl,⟨_,_,Fp,Fq,Blk.new _ _ _,?_,?_,rfl,?_,?_,?_⟩,I1.out,?_,?_⟩
 ·simp only [List.length_map] at sp ⊢
  exact sp.mod ((Mod.refl [] w2).alloc _) (by simp)
 ·simp only [List.length_map] at sq ⊢
  exact (sq.mod m12 (by simp)).mod ((Mod.refl [] w2).alloc _) (by simp)
 ·intro h;have:=sp.lt _ h;omega
 ·intro h;have:=hA _ h;omega
 ·intro k h h';have:=hA _ h';have:=fp k h;omega
 ·exact (mq.trans' m12).alloc _
 ·intro k hk
  have h1:=mq.size
  simp at hk
  rcases hk with rfl | hk | hk
  ·omega
  ·have:=fp k hk;omega
  ·exact fq k hk
theorem Inv.swap {p q:List Nat} {n k:Nat} (h:Inv p q) (hp:Perm p n) (hk:k+1 < n):Inv (swapL p k) ((q.set (p.getD k 0) (k+1)).set (p.getD (k+1) 0) k):=by
 have hkl:k+1 < p.length:=by rw [hp.len];exact hk
 have hk0:k < p.length:=by omega
 refine ⟨by simp [swapL_len,h.len],fun i hi=>?_⟩
 have g:=swapL_get hkl i
 rw [List.getElem?_eq_getElem hi] at g
 have hi':i < p.length:=by rw [swapL_len] at hi;exact hi
 simp only [List.getD_eq_getElem?_getD,List.getElem?_eq_getElem hkl,List.getElem?_eq_getElem hk0,Option.getD_some]
 have ql:∀j,(hj:j < p.length)→p[j] < q.length:=fun j hj=>by rw [h.len,hp.len];exact hp.lt _ (List.getElem_mem _)
 have inj:∀a b,(ha:a < p.length)→(hb:b < p.length)→p[a]=p[b]→a=b:=fun a b ha hb e=>(List.getElem_inj (h₀:=ha) (h₁:=hb) hp.nd).1 e
 unfold sg at g
 by_cases q1:i=k
 ·subst q1
  rw [if_pos rfl,List.getElem?_eq_getElem hkl] at g
  rw [Option.some.inj g,List.getElem?_set_self (by simp;exact ql _ hkl)]
 ·rw [if_neg q1] at g
  by_cases q2:i=k+1
  ·subst q2
   rw [if_pos rfl,List.getElem?_eq_getElem hk0] at g
   rw [Option.some.inj g,List.getElem?_set_ne (fun e=>by have:=inj _ _ hkl hk0 e;omega),List.getElem?_set_self (ql _ hk0)]
  ·rw [if_neg q2,List.getElem?_eq_getElem hi'] at g
   rw [Option.some.inj g,List.getElem?_set_ne (fun e=>q2 (inj _ _ hkl hi' e).symm),List.getElem?_set_ne (fun e=>q1 (inj _ _ hk0 hi' e).symm)]
   exact h.at_ i hi'
theorem ordSwap_c {w:World} {b n k:Nat} {p q F:List Nat} (h:IsOrdD w b p q F) (hi:Inv p q) (hp:Perm p n) (hn:n≤16) (hk:k+1 < n):
 Calls Tryz.prog 83 #[.pointer (some ⟨b,0,none⟩),.int .i64 k] w fun e w'=>e=.returned (.int .u8 0)∧IsOrdD w' b (swapL p k) ((q.set (p.getD k 0) (k+1)).set (p.getD (k+1) 0) k) F∧Mod F w w':=by
 obtain ⟨vp,vq,Fp,Fq,h1,h2,h3,rfl,h5,h6,h7⟩:=h
 have hql:q.length=n:=by rw [hi.len,hp.len]
 rw [hp.len] at h2
 rw [hql] at h3
 obtain ⟨gp,cp,rfl,rfl,hcp⟩:=h2.pos (by omega)
 obtain ⟨gq,cq,rfl,rfl,hcq⟩:=h3.pos (by omega)
 have hk1:k+1 < p.length:=by rw [hp.len];exact hk
 have hk0:k < p.length:=by omega
 obtain ⟨x0,hx0⟩:∃x,p[k]=x:=⟨_,rfl⟩
 obtain ⟨x1,hx1⟩:∃x,p[k+1]=x:=⟨_,rfl⟩
 have e0:p.getD k 0=x0:=by rw [List.getD_eq_getElem?_getD,List.getElem?_eq_getElem hk0,Option.getD_some,hx0]
 have e1:p.getD (k+1) 0=x1:=by rw [List.getD_eq_getElem?_getD,List.getElem?_eq_getElem hk1,Option.getD_some,hx1]
 have hx0n:x0 < n:=by rw [←hx0];exact hp.lt _ (List.getElem_mem _)
 have hx1n:x1 < n:=by rw [←hx1];exact hp.lt _ (List.getElem_mem _)
 have hxx:¬x0=x1:=fun e=>by
  have:=(List.getElem_inj (h₀:=hk0) (h₁:=hk1) hp.nd).1 (by rw [hx0,hx1,e])
  omega
 have hxx2:¬x1=x0:=fun e=>hxx e.symm
 have esw:swapL p k=(p.set k x1).set (k+1) x0:=by unfold swapL;rw [e0,e1]
 obtain ⟨c0,f0,-⟩:=h2.at k (by omega)
 obtain ⟨c1,f1,-⟩:=h2.at (k+1) (by omega)
 rw [List.getElem?_map,List.getElem?_eq_getElem hk0,Option.map_some,hx0] at c0
 rw [List.getElem?_map,List.getElem?_eq_getElem hk1,Option.map_some,hx1] at c1
 obtain ⟨d0,g0,-⟩:=h3.at x0 (by omega)
 obtain ⟨d1,g1,-⟩:=h3.at x1 (by omega)
 rw [List.getElem?_map,List.getElem?_eq_getElem (by omega),Option.map_some] at d0 d1
 generalize q[x0]=y0 at d0
 generalize q[x1]=y1 at d1
 have b0:=h1.cell 0
 have b1:=h1.cell 1
 simp only [List.getElem?_toArray,List.getElem?_cons_zero,List.getElem?_cons_succ] at b0 b1
 simp only [List.mem_singleton] at h5 h6
 have h7':gp≠gq:=fun e=>h7 gp (by simp) (by simp [e])
 have n1:¬b=gp:=h5
 have n2:¬gp=b:=fun e=>h5 e.symm
 have n3:¬b=gq:=h6
 have n4:¬gq=b:=fun e=>h6 e.symm
 have n5:¬gp=gq:=h7'
 have n6:¬gq=gp:=fun e=>h7' e.symm
 unfold ei at c0 c1 d0 d1
 have H1:=Lib.hid h1
 have H2:=Lib.hid h2
 have H3:=Lib.hid h3
 have ESW:=Lib.hid esw
 have HL:=Lib.hid (And.intro hp.len hql)
 rw [e0,e1]
 clear h1 h2 h3 esw hx0 hx1 e0 e1 h5 h6 h7 h7' hi hp hql hk1 hk0
 have hk':(k:Int)+1 < n:=by omega
 have hkn:(k:Int) < n:=by omega
 have hn':(n:Int)≤16:=by omega
 have hx0':(x0:Int) < n:=by omega
 have hx1':(x1:Int) < n:=by omega
 have hge:decide ((n:Int) - 1≤(k:Int))=false:=by rw [decide_eq_false_iff_not];omega
 go_enter Tryz.func83,Tryz.ntmps83
 go_wp2_with fail
 go_region
 go_wp2_with fail
 go_region
 go_wp2_with fail
 go_region
 go_wp2_with fail
 go_ret
 have m1:Mod [gp] w ((w.setCell ⟨gp,k,none⟩ (ei x1)).setCell ⟨gp,k+1,none⟩ (ei x0)):=((Mod.refl _ _).setCell _ _ (by simp)).setCell _ _ (by simp)
 have m2:Mod [gq] ((w.setCell ⟨gp,k,none⟩ (ei x1)).setCell ⟨gp,k+1,none⟩ (ei x0)) ((((w.setCell ⟨gp,k,none⟩ (ei x1)).setCell ⟨gp,k+1,none⟩ (ei x0)).setCell ⟨gq,x0,none⟩ (ei (k+1))).setCell ⟨gq,x1,none⟩ (ei k)):=((Mod.refl _ _).setCell _ _ (by simp)).setCell _ _ (by simp)
 replace m2:=m2.drew.drew.drew
 refine ⟨rfl,⟨_,_,[gp],[gq],(H1.out.mod m1 (by simpa using n1)).mod m2 (by simpa using n3),?_,?_,rfl,by simpa using n1,by simpa using n3,by simpa using n5⟩,?_⟩
 ·have h:=((H2.out.set k (ei x1)).set (k+1) (ei x0)).mod m2 (by simpa using n5)
  rw [ESW.out,List.length_set,List.length_set,HL.out.1,List.map_set,List.map_set]
  exact h
 ·have h:=((H3.out.mod m1 (by simpa using n6)).set x0 (ei (k+1))).set x1 (ei k)
  rw [List.length_set,List.length_set,HL.out.2,List.map_set,List.map_set]
  exact (h.mod (S:=[]) (Mod.refl _ _).drew.drew.drew (by simp))
 ·exact (m1.mono (S':=[b,gp,gq]) (by intro i _ h;simp at h;simp [h])).trans m2 (by intro i _ h;simp at h;simp [h])
open Go.RowKit
theorem bit_one_16 (m:Nat) (hm:m < 65536):bits .and .u16 (m:Int) 1=((m % 2:Nat):Int):=by
 have e:(BitVec.ofInt 16 (m:Int) &&& BitVec.ofInt 16 1).toNat=m % 2:=by
  have e1:BitVec.ofInt 16 (m:Int)=BitVec.ofNat 16 m:=BitVec.ofInt_natCast ..
  have e2:BitVec.ofInt 16 1=BitVec.ofNat 16 1:=rfl
  rw [e1,e2,BitVec.toNat_and,BitVec.toNat_ofNat,BitVec.toNat_ofNat,Nat.mod_eq_of_lt (by omega)]
  exact Nat.and_one_is_mod m
 show IntKind.u16.wrap ((BitVec.ofInt 16 (m:Int) &&& BitVec.ofInt 16 1).toNat:Int)=_
 rw [e]
 have:m % 2 < 2:=Nat.mod_lt _ (by omega)
 show ((m % 2:Nat):Int) % 65536=_
 omega
theorem bit_at_16 (W x:Nat) (hW:W < 65536):(bits .and .u16 ((W:Int) / 2 ^ x) 1==1)=W.testBit x:=by
 have e1:(W:Int) / 2 ^ x=((W / 2 ^ x:Nat):Int):=by
  rw [Int.natCast_ediv];simp
 rw [e1,bit_one_16 _ (Nat.lt_of_le_of_lt (Nat.div_le_self _ _) hW)]
 have h:W.testBit x=decide (W / 2 ^ x % 2=1):=by
  rw [Nat.testBit_eq_decide_div_mod_eq]
 rw [h]
 by_cases q:W / 2 ^ x % 2=1
 ·rw [q];simp
 ·have:W / 2 ^ x % 2=0:=by omega
  rw [this];simp
def clearN (x a:Nat):Nat→Bool
 | 0=>true
 | d+1=> !x.testBit a && clearN x (a+1) d
theorem clear_c (x a d:Nat) (hx:x < 65536) (ha:a+d≤64) (w:World):Calls Tryz.prog 86 #[.int .u16 x,.int .i64 a,.int .i64 ((a+d:Nat):Int)] w fun e w'=>e=.returned (.bool (clearN x a d))∧w'=w:=by
 obtain ⟨b,hb⟩:∃b,a+d=b:=⟨_,rfl⟩
 have BT:Hid (∀k:Nat,(bits .and .u16 ((x:Int) / 2 ^ min k 16) 1==1)=x.testBit k):=fun k=>by
  rw [bit_at_16 x _ hx]
  by_cases h:k≤16
  ·rw [Nat.min_eq_left h]
  ·rw [Nat.min_eq_right (by omega),Nat.testBit_lt_two_pow (i:=16) (by omega),Nat.testBit_lt_two_pow]
   exact Nat.lt_of_lt_of_le hx (Nat.pow_le_pow_right (n:=2) (by omega) (show 16≤k by omega))
 rw [hb]
 have h0:Hid (clearN x a d=clearN x a (b - a)):=by show _=_;rw [show b - a=d by omega]
 rw [h0.out]
 obtain ⟨r,hr⟩:∃r,clearN x a (b - a)=r:=⟨_,rfl⟩
 rw [hr]
 have HR:=Lib.hid hr
 have hab:a≤b:=by omega
 have hb64:b≤64:=by omega
 clear hb hr h0 ha
 go_enter Tryz.func86,Tryz.ntmps86
 go_wp2_with fail
 go_loop [7] (fun i=>∃k:Nat,k≤b∧i=.int .i64 k∧Hid (clearN x k (b - k)=r)) (fun i=>b - (intOf i).toNat)
 case atStart=>exact ⟨a,hab,rfl,HR.out⟩
 case round=>
  obtain ⟨k,hk,rfl,HC⟩:=hrel
  by_cases hkb:k=b
  ·subst hkb
   have hc:r=true:=by have:=HC.out;rw [Nat.sub_self,clearN] at this;exact this.symm
   subst hc
   go_wp2_with fail
   go_ret
   exact ⟨by first | rfl | simp,rfl⟩
  ·have hlt:(k:Int) < b:=by omega
   have hk0:(0:Int)≤k:=by omega
   have hk64:(k:Int) < 64:=by omega
   have e:b - k=(b - (k+1))+1:=by omega
   have B:=BT.out k
   cases hx:x.testBit k with
   | true=>
    rw [hx] at B
    have hc:r=false:=by have:=HC.out;rw [e,clearN,hx] at this;exact this.symm
    subst hc
    clear hx e
    go_wp2_with fail
    go_ret
    exact ⟨by first | rfl | simp,rfl⟩
   | false=>
    rw [hx] at B
    have HC2:Hid (clearN x (k+1) (b - (k+1))=r):=by show _=_;have:=HC.out;rw [e,clearN,hx] at this;simpa using this
    clear hx e HC
    go_wp2_with fail
    go_round
    case rel=>exact ⟨k+1,by omega,by first | rfl | (simp;try omega),HC2⟩
    case measure=>simp [intOf];omega
open Go.RowKit
def PtrP (w:World) (e:Ending) (w':World):Prop:=∃b,e=.returned (.tuple #[.pointer (some ⟨b,0,none⟩),.int .u8 0])∧Mod [] w w'∧w.heap.size≤b∧b < w'.heap.size
theorem shl_12:wrap64 (2 ^ 12)=4096:=by
 have e:(2:Int) ^ 12=4096:=by decide
 rw [e]
 unfold wrap64
 omega
theorem Tryz.infoKapply:(Tryz.prog.info? 369).map (fun i=>(i.zero,i.size,i.bytes))=some (some (.agg #[.int .u8 0,.int .u8 0,.int .u8 0,.int .u8 0,.int .u32 0,.int .u8 0,.int .u32 0,.int .u8 0,.int .u32 0,.int .u8 0,.int .u32 0,.int .i64 0]),12,48):=by kernel_rfl
theorem cache_apply_c (N:Nat) (j:Nat) (hj:j≤20) (h1:1≤N) (hN:N≤1048576) (hs:wrap64 (2 ^ j)=(N:Int)) (w:World):Calls Tryz.prog 91 #[.int .i64 j] w (PtrP w):=by
 obtain ⟨i0,hi,hz0,hz1,hz2⟩:=info_parts Tryz.infoKapply
 have hmk:∀w,(Instr.makeSlice 237 (.int .i64 N) (.int .i64 N)).run Tryz.prog w=.ok (.slice (some ⟨w.heap.size,0,none⟩) N N) (w.alloc (.cells (madeCells #[.int .u8 0,.int .u8 0,.int .u8 0,.int .u8 0,.int .u32 0,.int .u8 0,.int .u32 0,.int .u8 0,.int .u32 0,.int .u8 0,.int .u32 0,.int .i64 0] (N *12)) 369)):=by
  intro w
  have:=run_make (P:=Tryz.prog) w 237 369 i0 _ Tryz.underlying237 hi hz0 .i64 .i64 N N (by omega) (by omega) (by rw [hz2];omega) (by omega)
  simpa [hz1,Value.cells] using this
 clear hi hz0 hz1 hz2
 go_enter Tryz.func91,Tryz.ntmps91
 go_wp2
 go_ret2
 exact ⟨_,rfl,((Mod.refl _ _).alloc _).alloc _,by simp,by simp⟩
theorem cache_apply_12 (w:World):Calls Tryz.prog 91 #[.int .i64 12] w (PtrP w):=cache_apply_c 4096 12 (by omega) (by omega) (by omega) shl_12 w
theorem Tryz.infoKquant:(Tryz.prog.info? 371).map (fun i=>(i.zero,i.size,i.bytes))=some (some (.agg #[.int .u8 0,.int .u8 0,.int .u8 0,.int .u16 0,.int .u8 0,.int .u32 0,.int .u8 0,.int .u32 0,.int .u8 0,.int .u32 0,.int .i64 0]),11,40):=by kernel_rfl
theorem cache_quant_c (N:Nat) (j:Nat) (hj:j≤20) (h1:1≤N) (hN:N≤1048576) (hs:wrap64 (2 ^ j)=(N:Int)) (w:World):Calls Tryz.prog 92 #[.int .i64 j] w (PtrP w):=by
 obtain ⟨i0,hi,hz0,hz1,hz2⟩:=info_parts Tryz.infoKquant
 have hmk:∀w,(Instr.makeSlice 240 (.int .i64 N) (.int .i64 N)).run Tryz.prog w=.ok (.slice (some ⟨w.heap.size,0,none⟩) N N) (w.alloc (.cells (madeCells #[.int .u8 0,.int .u8 0,.int .u8 0,.int .u16 0,.int .u8 0,.int .u32 0,.int .u8 0,.int .u32 0,.int .u8 0,.int .u32 0,.int .i64 0] (N *11)) 371)):=by
  intro w
  have:=run_make (P:=Tryz.prog) w 240 371 i0 _ Tryz.underlying240 hi hz0 .i64 .i64 N N (by omega) (by omega) (by rw [hz2];omega) (by omega)
  simpa [hz1,Value.cells] using this
 clear hi hz0 hz1 hz2
 go_enter Tryz.func92,Tryz.ntmps92
 go_wp2
 go_ret2
 exact ⟨_,rfl,((Mod.refl _ _).alloc _).alloc _,by simp,by simp⟩
theorem cache_quant_12 (w:World):Calls Tryz.prog 92 #[.int .i64 12] w (PtrP w):=cache_quant_c 4096 12 (by omega) (by omega) (by omega) shl_12 w
theorem Tryz.infoKfamily:(Tryz.prog.info? 373).map (fun i=>(i.zero,i.size,i.bytes))=some (some (.agg #[.int .u8 0,.int .u8 0,.int .u8 0,.int .u8 0,.int .u8 0,.int .u32 0,.int .u8 0,.int .u32 0,.int .u8 0,.int .u32 0,.int .i64 0]),11,40):=by kernel_rfl
theorem cache_family_c (N:Nat) (j:Nat) (hj:j≤20) (h1:1≤N) (hN:N≤1048576) (hs:wrap64 (2 ^ j)=(N:Int)) (w:World):Calls Tryz.prog 94 #[.int .i64 j] w (PtrP w):=by
 obtain ⟨i0,hi,hz0,hz1,hz2⟩:=info_parts Tryz.infoKfamily
 have hmk:∀w,(Instr.makeSlice 243 (.int .i64 N) (.int .i64 N)).run Tryz.prog w=.ok (.slice (some ⟨w.heap.size,0,none⟩) N N) (w.alloc (.cells (madeCells #[.int .u8 0,.int .u8 0,.int .u8 0,.int .u8 0,.int .u8 0,.int .u32 0,.int .u8 0,.int .u32 0,.int .u8 0,.int .u32 0,.int .i64 0] (N *11)) 373)):=by
  intro w
  have:=run_make (P:=Tryz.prog) w 243 373 i0 _ Tryz.underlying243 hi hz0 .i64 .i64 N N (by omega) (by omega) (by rw [hz2];omega) (by omega)
  simpa [hz1,Value.cells] using this
 clear hi hz0 hz1 hz2
 go_enter Tryz.func94,Tryz.ntmps94
 go_wp2
 go_ret2
 exact ⟨_,rfl,((Mod.refl _ _).alloc _).alloc _,by simp,by simp⟩
theorem cache_family_12 (w:World):Calls Tryz.prog 94 #[.int .i64 12] w (PtrP w):=cache_family_c 4096 12 (by omega) (by omega) (by omega) shl_12 w
theorem applyNew_c (bs:Nat) (w:World):Calls Tryz.prog 45 #[.pointer (some ⟨bs,0,none⟩),.int .i64 12] w fun e w'=>∃b vk,e=.returned (.tuple #[.pointer (some ⟨b,0,none⟩),.int .u8 0])∧Blk w' b #[.pointer (some ⟨bs,0,none⟩),vk] 186∧Mod [] w w'∧w.heap.size≤b:=by
 have CN:Hid (∀w,_):=cache_apply_12
 go_enter Tryz.func45,Tryz.ntmps45
 go_wp2_with fail
 refine (CN.out _).mono ?_
 rintro e w1 ⟨b1,rfl,m1,h1,h2⟩
 go_wp2_with fail
 go_ret2
 exact ⟨_,_,rfl,Blk.new _ _ _,m1.alloc _,m1.size⟩
theorem opsStore_c {w:World} {b bs:Nat} {vk:Value} (h:Blk w b #[.pointer (some ⟨bs,0,none⟩),vk] 186):Calls Tryz.prog 93 #[.pointer (some ⟨b,0,none⟩)] w fun e w'=>e=.returned (.pointer (some ⟨bs,0,none⟩))∧w'=w:=by
 obtain ⟨c0,c1⟩:=h.cells2
 go_enter Tryz.func93,Tryz.ntmps93
 go_wp2_with fail
 go_ret
 exact ⟨rfl,rfl⟩
theorem quantNew_c {w:World} {bp bs:Nat} {vk:Value} (h:Blk w bp #[.pointer (some ⟨bs,0,none⟩),vk] 186):Calls Tryz.prog 46 #[.pointer (some ⟨bp,0,none⟩),.int .i64 12] w fun e w'=>∃b vq,e=.returned (.tuple #[.pointer (some ⟨b,0,none⟩),.int .u8 0])∧Blk w' b #[.pointer (some ⟨bp,0,none⟩),.pointer (some ⟨bs,0,none⟩),vq] 194∧Mod [] w w'∧w.heap.size≤b:=by
 have CN:Hid (∀w,_):=cache_quant_12
 have OS:Hid (∀W,Mod [] w W→Calls Tryz.prog 93 #[.pointer (some ⟨bp,0,none⟩)] W fun e w'=>e=.returned (.pointer (some ⟨bs,0,none⟩))∧w'=W):=fun W m=>opsStore_c (h.mod m (by simp))
 clear h
 go_enter Tryz.func46,Tryz.ntmps46
 go_wp2_with fail
 refine (CN.out _).mono ?_
 rintro e w1 ⟨b1,rfl,m1,h1,h2⟩
 have M1:=Lib.hid m1
 clear m1
 go_wp2_with fail
 refine (OS.out _ M1.out).mono ?_
 rintro e w2 ⟨rfl,rfl⟩
 go_wp2_with fail
 go_ret2
 exact ⟨_,_,rfl,Blk.new _ _ _,M1.out.alloc _,M1.out.size⟩
theorem familyNew_c {w:World} {bp bs:Nat} {vk:Value} (h:Blk w bp #[.pointer (some ⟨bs,0,none⟩),vk] 186):Calls Tryz.prog 47 #[.pointer (some ⟨bp,0,none⟩),.int .i64 12] w fun e w'=>∃b vq,e=.returned (.tuple #[.pointer (some ⟨b,0,none⟩),.int .u8 0])∧Blk w' b #[.pointer (some ⟨bp,0,none⟩),.pointer (some ⟨bs,0,none⟩),vq,.int .u8 0] 201∧Mod [] w w'∧w.heap.size≤b:=by
 have CN:Hid (∀w,_):=cache_family_12
 have OS:Hid (∀W,Mod [] w W→Calls Tryz.prog 93 #[.pointer (some ⟨bp,0,none⟩)] W fun e w'=>e=.returned (.pointer (some ⟨bs,0,none⟩))∧w'=W):=fun W m=>opsStore_c (h.mod m (by simp))
 clear h
 go_enter Tryz.func47,Tryz.ntmps47
 go_wp2_with fail
 refine (CN.out _).mono ?_
 rintro e w1 ⟨b1,rfl,m1,h1,h2⟩
 have M1:=Lib.hid m1
 clear m1
 go_wp2_with fail
 refine (OS.out _ M1.out).mono ?_
 rintro e w2 ⟨rfl,rfl⟩
 go_wp2_with fail
 go_ret2
 exact ⟨_,_,rfl,Blk.new _ _ _,M1.out.alloc _,M1.out.size⟩
open Go.RowKit
theorem permSame_c (n:Nat) (hn:n≤16) (w:World):Calls Tryz.prog 90 #[.int .i64 n] w fun e w'=>∃v,e=.returned (.tuple #[v,.bool true])∧NewV 3 w ((List.range n).map ei) w' v:=by
 have hn':(n:Int)≤16:=by omega
 have hmk:∀w,(Instr.makeSlice 22 (.int .i64 n) (.int .i64 n)).run Tryz.prog w=.ok (.slice (some ⟨w.heap.size,0,none⟩) n n) (w.alloc (.cells (madeCells #[.int .i64 0] n) 3)):=fun w=>madeInts w n (by omega)
 obtain ⟨g,hg⟩:∃g,w.heap.size=g:=⟨_,rfl⟩
 go_enter Tryz.func90,Tryz.ntmps90
 go_wp2_with fail
 have HG:=Lib.hid hg
 have S0:=Lib.hid (Sl.made1 w 3 n (.int .i64 0) (by unfold maxLen;omega) g hg.symm)
 have M0:Hid (Mod [] w (w.alloc (.cells (madeCells #[.int .i64 0] n) 3))):=(Mod.refl _ _).alloc _
 clear hmk hg
 generalize w.alloc (.cells (madeCells #[.int .i64 0] n) 3)=w0 at *
 go_loopw [5,16] (fun _ i wr=>∃k:Nat,∃xs:List Nat,k≤n∧i=.int .i64 k∧xs.length=n∧(∀j,j < k→xs[j]? =some j)∧Sl wr 3 1 (.slice (some ⟨g,0,none⟩) n n) n (xs.map ei) [g]∧Mod [] w wr) (fun _ i _=>n - (intOf i).toNat)
 case atStart=>exact ⟨0,List.replicate n 0,by omega,rfl,by simp,by omega,by simpa [ei] using S0.out,M0.out⟩
 case round=>
  obtain ⟨k,xs,hk,rfl,hxl,hxs,hs,hm⟩:=hrel
  have HXL:=Lib.hid hxl
  have HXS:=Lib.hid hxs
  have HS:=Lib.hid hs
  have HM:=Lib.hid hm
  clear hxl hxs hs hm S0 M0
  by_cases hlt:k < n
  ·have hlt':(k:Int) < n:=by omega
   obtain ⟨d0,d1,-⟩:=HS.out.at k (by omega)
   rw [List.getElem?_eq_getElem (by rw [List.length_map,HXL.out];omega)] at d0
   have hgl:=HS.out.lt g (by simp)
   go_wp2_with fail
   have HS2:Hid (Sl (wr.setCell ⟨g,k,none⟩ (.int .i64 k)) 3 1 (.slice (some ⟨g,0,none⟩) n n) n ((xs.set k k).map ei) [g]):=by
    show Sl _ _ _ _ _ _ _
    rw [List.map_set];exact HS.out.set k (.int .i64 k)
   have HM2:Hid (Mod [] w (wr.setCell ⟨g,k,none⟩ (.int .i64 k))):=HM.out.setCell _ _ (by have:=HG.out;simp;omega)
   go_roundw
   case rel=>
    refine ⟨k+1,xs.set k k,by omega,by first | rfl | (simp;try omega),by rw [List.length_set];exact HXL.out,fun j hj=>?_,HS2.out,HM2.out⟩
    rw [List.getElem?_set]
    split
    ·rename_i e;subst e;rw [if_pos (by rw [HXL.out];exact hlt)]
    ·exact HXS.out j (by omega)
   case measure=>simp [intOf];omega
  ·have hkn:k=n:=by omega
   subst hkn
   go_wp2_with fail
   go_ret2
   have e:xs=List.range k:=List.ext_getElem? fun j=>by
    by_cases hj:j < k
    ·rw [HXS.out j hj,List.getElem?_range hj]
    ·rw [List.getElem?_eq_none (by rw [HXL.out];omega),List.getElem?_eq_none (by simp;omega)]
   rw [←e]
   refine ⟨_,rfl,[g],?_,HM.out,fun q hq=>by simp at hq;rw [hq];exact Nat.le_of_eq HG.out⟩
   have:=HS.out
   rw [show (xs.map ei).length=k by rw [List.length_map,HXL.out]]
   exact this
theorem orderNew_c (n:Nat) (hn:n≤16) (w:World):Calls Tryz.prog 44 #[.int .i64 n] w (OrdP w (List.range n)):=by
 have PS:Hid (∀w,_):=permSame_c n hn
 go_enter Tryz.func44,Tryz.ntmps44
 go_wp2_with fail
 refine (PS.out _).mono ?_
 rintro e w1 ⟨v1,rfl,n1⟩
 obtain ⟨A1,c1,hv⟩:=n1.shape
 obtain ⟨F1,r1,-⟩:=n1.rv
 have hl:((List.range n).map ei).length=n:=by simp
 rw [hl] at hv
 subst hv
 have OO:Hid (∀W,Mod [] w1 W→Calls Tryz.prog 23 #[.slice A1 n c1] W (OrdP W (List.range n))):=fun W m=>orderOf_c (r1.mod m (by simp)) ⟨by simp,by simp,List.nodup_range⟩ hn
 have M1:=Lib.hid n1.mod
 clear r1 n1 PS hl
 go_wp2_with fail
 refine (OO.out _ (by exact mods)).mono ?_
 rintro e w2 ⟨bo,q,Fo,rfl,io,inv,m2,fo⟩
 have IOR:=Lib.hid io
 have INV:=Lib.hid inv
 have FO:Hid (∀k∈Fo,w.heap.size≤k):=fun k hk=>Nat.le_trans M1.out.size (fo k hk)
 have M2:=Lib.hid (M1.out.trans' m2)
 clear io inv fo m2
 go_wp2_with fail
 go_ret2
 exact ⟨bo,q,Fo,rfl,IOR.out,INV.out,M2.out,FO.out⟩
def mgL (q:List Value) (H:List (Nat × Ed)) (i:Nat):Value:=
 if i < 5 then q.getD i (.bool false) else if i < 262 then .bool (decide (6≤i∧i≤5+H.length)) else
 match (if i < 265 then none else H[(i - 265) / 3]?) with
 | some (f,e)=>if (i - 262) % 3=0 then .int .u8 f else if (i - 262) % 3=1 then .int .u8 e.t else .int .u32 e.a
 | none=>if (i - 262) % 3=2 then .int .u32 0 else .int .u8 0
theorem Tryz.zeroM:Tryz.zeroCells108=((List.range 1033).map (mgL [.pointer none,.pointer none,.pointer none,.pointer none,.pointer none] [])).toArray:=by kernel_rfl
structure Mgr (w:World) (b:Nat) (q:List Value) (H:List (Nat × Ed)):Prop where
 blk:∃c,Blk w b c 108∧c.size=1033∧∀i,i < 1033→c[i]? =some (mgL q H i)
theorem Mgr.mod {S:List Nat} {w w':World} {b:Nat} {q:List Value} {H:List (Nat × Ed)} (h:Mgr w b q H) (m:Mod S w w') (hb:b∉S):Mgr w' b q H:=by
 obtain ⟨c,h1,h2⟩:=h.blk;exact ⟨c,h1.mod m hb,h2⟩
theorem Mgr.cell {w:World} {b:Nat} {q:List Value} {H:List (Nat × Ed)} (h:Mgr w b q H) (i:Nat) (hi:i < 1033):w.cell? ⟨b,i,none⟩=some (mgL q H i):=by
 obtain ⟨c,h1,h2,h3⟩:=h.blk;rw [h1.cell];exact h3 i hi
theorem Mgr.froz {w:World} {b:Nat} {q:List Value} {H:List (Nat × Ed)} (h:Mgr w b q H) (i:Nat):w.frozen? ⟨b,i,none⟩=false:=by
 obtain ⟨c,h1,h2,h3⟩:=h.blk;exact h1.froz i
theorem Mgr.lt {w:World} {b:Nat} {q:List Value} {H:List (Nat × Ed)} (h:Mgr w b q H):b < w.heap.size:=by
 obtain ⟨c,h1,h2,h3⟩:=h.blk;exact h1.lt
theorem mgL_low (q:List Value) (H:List (Nat × Ed)) (i:Nat) (hi:i < 5):mgL q H i=q.getD i (.bool false):=by unfold mgL;rw [if_pos hi]
theorem Mgr.ptr {w:World} {b:Nat} {q:List Value} {H:List (Nat × Ed)} (h:Mgr w b q H) (hq:q.length=5) (j:Nat) (hj:j < 5) (v:Value):Mgr (w.setCell ⟨b,j,none⟩ v) b (q.set j v) H:=by
 obtain ⟨c,h1,h2,h3⟩:=h.blk
 refine ⟨_,h1.set j v,by simp [h2],fun i hi=>?_⟩
 rw [Array.getElem?_setIfInBounds]
 by_cases e:j=i
 ·subst e
  rw [if_pos rfl,if_pos (by omega),mgL_low _ _ _ hj,List.getD_eq_getElem?_getD,List.getElem?_set_self (by omega)]
  rfl
 ·rw [if_neg e,h3 i hi]
  by_cases h5:i < 5
  ·rw [mgL_low _ _ _ h5,mgL_low _ _ _ h5,List.getD_eq_getElem?_getD,List.getD_eq_getElem?_getD,List.getElem?_set_ne e]
  ·unfold mgL;rw [if_neg h5,if_neg h5]
theorem Mgr.fresh (w:World) (bm:Nat) (h:bm=w.heap.size) (v:Value):Mgr (w.alloc (.cells (Tryz.zeroCells108.setIfInBounds 3 v) 108)) bm [.pointer none,.pointer none,.pointer none,v,.pointer none] []:=by
 refine ⟨_,Blk.new' w _ _ bm h,by rw [Array.size_setIfInBounds];exact Tryz.zeroCells108_size,fun i hi=>?_⟩
 rw [Array.getElem?_setIfInBounds]
 have hsz:Tryz.zeroCells108.size=1033:=Tryz.zeroCells108_size
 by_cases e:3=i
 ·subst e
  rw [if_pos rfl,if_pos (by omega)];rfl
 ·rw [if_neg e,Tryz.zeroM,List.getElem?_toArray,List.getElem?_map,List.getElem?_range hi]
  simp only [Option.map_some]
  by_cases h5:i < 5
  ·rw [mgL_low _ _ _ h5,mgL_low _ _ _ h5]
   obtain rfl | rfl | rfl | rfl:i=0∨i=1∨i=2∨i=4:=by omega
   all_goals rfl
  ·unfold mgL;rw [if_neg h5,if_neg h5]
structure Mng (w:World) (bm n room:Nat) (L:List Rc) (Fs:List Nat) (p:List Nat) (H:List (Nat × Ed)) (bs bo bq:Nat) (F:List Nat):Prop where
 m:∃ba bg vk vq vg Fo q,Mgr w bm [.pointer (some ⟨ba,0,none⟩),.pointer (some ⟨bq,0,none⟩),.pointer (some ⟨bg,0,none⟩),.pointer (some ⟨bs,0,none⟩),.pointer (some ⟨bo,0,none⟩)] H∧
  IsOrd w bo p q Fo∧Inv p q∧Blk w ba #[.pointer (some ⟨bs,0,none⟩),vk] 186∧Blk w bq #[.pointer (some ⟨ba,0,none⟩),.pointer (some ⟨bs,0,none⟩),vq] 194∧
  Blk w bg #[.pointer (some ⟨ba,0,none⟩),.pointer (some ⟨bs,0,none⟩),vg,.int .u8 0] 201∧F=bm::ba::bq::bg::Fo∧(∀k∈Fs,k∉F)∧bm∉Fo∧bm≠ba∧bm≠bq∧bm≠bg
 s:IsSt w bs n L room Fs
theorem managerNew_c (n room:Nat) (hn:n≤16) (hr:room≤1048576) (w:World):Calls Tryz.prog 16 #[.int .i64 n,.int .i64 room] w fun e w'=>∃bm bs bo bq Fs F,e=.returned (.tuple #[.pointer (some ⟨bm,0,none⟩),.int .u8 0])∧Mng w' bm n room [] Fs (List.range n) [] bs bo bq F∧Mod [] w w'∧(∀k∈Fs,w.heap.size≤k)∧∀k∈F,w.heap.size≤k:=by
 have SN:Hid (∀w,_):=stNew_c n room hn hr
 have ON:Hid (∀w,_):=orderNew_c n hn
 go_enter Tryz.func16,Tryz.ntmps16
 go_wp2_with fail
 refine (SN.out _).mono ?_
 rintro e w1 ⟨bs,Fs,rfl,s1,m1,f1⟩
 have F1:=Lib.hid f1
 clear f1
 go_wp2_with fail
 have S1:=Lib.hid s1
 have M1:=Lib.hid m1
 have SL:=Lib.hid s1.lt
 clear s1 m1 SN
 obtain ⟨bm,hbm⟩:∃bm,w1.heap.size=bm:=⟨_,rfl⟩
 rw [hbm]
 have BM:=Lib.hid (Mgr.fresh w1 bm hbm.symm (.pointer (some ⟨bs,0,none⟩)))
 have MA:Hid (Mod [] w1 (w1.alloc (.cells (Tryz.zeroCells108.setIfInBounds 3 (.pointer (some ⟨bs,0,none⟩))) 108))):=(Mod.refl _ _).alloc _
 have HBM:=Lib.hid hbm
 have hsz:(w1.alloc (.cells (Tryz.zeroCells108.setIfInBounds 3 (.pointer (some ⟨bs,0,none⟩))) 108)).heap.size=bm+1:=by simp [hbm]
 have HSZ:=Lib.hid hsz
 clear hbm hsz
 generalize w1.alloc (.cells (Tryz.zeroCells108.setIfInBounds 3 (.pointer (some ⟨bs,0,none⟩))) 108)=wA at *
 generalize Value.agg (Tryz.zeroCells108.setIfInBounds 3 (.pointer (some ⟨bs,0,none⟩)))=vA at *
 refine (ON.out _).mono ?_
 rintro e w2 ⟨bo,q,Fo,rfl,io,inv,m2,fo⟩
 have BM2:=BM.out.mod m2 (by simp)
 have c4:=BM2.cell 4 (by omega)
 have f4:=BM2.froz 4
 have IOR:=Lib.hid io
 have INV:=Lib.hid inv
 have FO:=Lib.hid fo
 have M2:=Lib.hid m2
 have hb2:=BM2.lt
 have B2:=Lib.hid BM2
 clear io inv fo m2 BM BM2
 go_wp2_with fail
 have B3:=Lib.hid (B2.out.ptr rfl 4 (by omega) (.pointer (some ⟨bo,0,none⟩)))
 have M3:Hid (Mod [bm] wA (w2.setCell ⟨bm,4,none⟩ (.pointer (some ⟨bo,0,none⟩)))):=(M2.out.mono (by simp)).setCell _ _ (by simp)
 have IO3:Hid (IsOrd (w2.setCell ⟨bm,4,none⟩ (.pointer (some ⟨bo,0,none⟩))) bo (List.range n) q Fo):=IOR.out.mod (S:=[bm]) ((Mod.refl _ _).setCell _ _ (by simp)) (fun k hk h=>by have h1:=FO.out k hk;have h2:=HSZ.out;simp at h;omega)
 have IOL:=Lib.hid IOR.out.lt
 have SZ3:Hid (w2.heap.size≤(w2.setCell ⟨bm,4,none⟩ (.pointer (some ⟨bo,0,none⟩))).heap.size):=by show _≤_;simp
 have hb3:bm < (w2.setCell ⟨bm,4,none⟩ (.pointer (some ⟨bo,0,none⟩))).heap.size:=by simpa using hb2
 clear c4 f4 hb2
 generalize w2.setCell ⟨bm,4,none⟩ (.pointer (some ⟨bo,0,none⟩))=w3 at *
 refine (applyNew_c bs w3).mono ?_
 rintro e w4 ⟨ba,vk,rfl,ab,m4,ha⟩
 have AB:=Lib.hid ab
 have M4:=Lib.hid m4
 have HA:=Lib.hid ha
 have B4:=Lib.hid (B3.out.mod m4 (by simp))
 have c0:=B4.out.cell 0 (by omega)
 have f0:=B4.out.froz 0
 have hb4:=B4.out.lt
 have hbe:¬ba=bm:=by omega
 clear ab m4 ha B3 B2
 go_wp2_with fail
 have B5:=Lib.hid (B4.out.ptr rfl 0 (by omega) (.pointer (some ⟨ba,0,none⟩)))
 have M5:Hid (Mod [bm] w4 (w4.setCell ⟨bm,0,none⟩ (.pointer (some ⟨ba,0,none⟩)))):=(Mod.refl _ _).setCell _ _ (by simp)
 have SZ5:Hid ((w4.setCell ⟨bm,0,none⟩ (.pointer (some ⟨ba,0,none⟩))).heap.size=w4.heap.size):=by show _=_;simp
 have AB5:=Lib.hid (AB.out.mod M5.out (by simp [hbe]))
 have d0:(w4.setCell ⟨bm,0,none⟩ (.pointer (some ⟨ba,0,none⟩))).cell? ⟨bm,0,none⟩=some (.pointer (some ⟨ba,0,none⟩)):=B5.out.cell 0 (by omega)
 clear c0 f0 hb4
 generalize w4.setCell ⟨bm,0,none⟩ (.pointer (some ⟨ba,0,none⟩))=w5 at *
 refine (quantNew_c AB5.out).mono ?_
 rintro e w6 ⟨bq,vq,rfl,qb,m6,hq⟩
 have QB:=Lib.hid qb
 have M6:=Lib.hid m6
 have HQ:=Lib.hid hq
 have AB6:=Lib.hid (AB5.out.mod m6 (by simp))
 have B6:=Lib.hid (B5.out.mod m6 (by simp))
 have c1:=B6.out.cell 1 (by omega)
 have f1:=B6.out.froz 1
 have e0:=B6.out.cell 0 (by omega)
 have hb6:=B6.out.lt
 have hqe:¬bq=bm:=by have:=B5.out.lt;omega
 replace e0:w6.cell? ⟨bm,0,none⟩=some (.pointer (some ⟨ba,0,none⟩)):=e0
 clear qb m6 hq B5 B4 d0 AB
 go_wp2_with fail
 have B7:=Lib.hid (B6.out.ptr rfl 1 (by omega) (.pointer (some ⟨bq,0,none⟩)))
 have M7:Hid (Mod [bm] w6 (w6.setCell ⟨bm,1,none⟩ (.pointer (some ⟨bq,0,none⟩)))):=(Mod.refl _ _).setCell _ _ (by simp)
 have SZ7:Hid ((w6.setCell ⟨bm,1,none⟩ (.pointer (some ⟨bq,0,none⟩))).heap.size=w6.heap.size):=by show _=_;simp
 have AB7:=Lib.hid (AB6.out.mod M7.out (by simp [hbe]))
 have QB7:=Lib.hid (QB.out.mod M7.out (by simp [hqe]))
 clear c1 f1 e0 hb6 AB6 QB
 generalize w6.setCell ⟨bm,1,none⟩ (.pointer (some ⟨bq,0,none⟩))=w7 at *
 refine (familyNew_c AB7.out).mono ?_
 rintro e w8 ⟨bg,vg,rfl,gb,m8,hg⟩
 have GB:=Lib.hid gb
 have M8:=Lib.hid m8
 have HG:=Lib.hid hg
 have AB8:=Lib.hid (AB7.out.mod m8 (by simp))
 have QB8:=Lib.hid (QB7.out.mod m8 (by simp))
 have B8:=Lib.hid (B7.out.mod m8 (by simp))
 have c2:=B8.out.cell 2 (by omega)
 have f2:=B8.out.froz 2
 have hb8:=B8.out.lt
 have hge:¬bg=bm:=by have:=B7.out.lt;omega
 clear gb m8 hg B7 B6 AB7 QB7
 go_wp2_with fail
 go_ret2
 have B9:=B8.out.ptr rfl 2 (by omega) (.pointer (some ⟨bg,0,none⟩))
 have M9:Mod [bm] w8 (w8.setCell ⟨bm,2,none⟩ (.pointer (some ⟨bg,0,none⟩))):=(Mod.refl _ _).setCell _ _ (by simp)
 have MZ:Mod [bm] w3 (w8.setCell ⟨bm,2,none⟩ (.pointer (some ⟨bg,0,none⟩))):=
  ((((M4.out.mono (S':=[bm]) (by simp)).trans' (M5.out.trans' ((M6.out.mono (S':=[bm]) (by simp)).trans' (M7.out.trans' ((M8.out.mono (S':=[bm]) (by simp)).trans' M9)))))))
 have h1:=MA.out.size
 have h2:=HSZ.out
 have h3:=HBM.out
 have h4:=M2.out.size
 have h5:=SZ3.out
 have h6:=M4.out.size
 have h7:=M6.out.size
 have h8:=SZ5.out
 have h9:=SZ7.out
 have h10:=HA.out
 have h11:=HQ.out
 have h12:=HG.out
 have h13:=M1.out.size
 have hFo:∀k∈Fo,bm+1≤k∧k < w2.heap.size:=fun k hk=>⟨by have:=FO.out k hk;omega,IOL.out k hk⟩
 have hFs:∀k∈Fs,k < bm:=fun k hk=>by have:=SL.out k hk;omega
 have MM:Mod [bm] wA (w8.setCell ⟨bm,2,none⟩ (.pointer (some ⟨bg,0,none⟩))):=M3.out.trans' MZ
 have MW:Mod [] w (w8.setCell ⟨bm,2,none⟩ (.pointer (some ⟨bg,0,none⟩))):=(M1.out.trans' MA.out).trans MM (fun i hi hm=>by simp at hm;omega)
 refine ⟨bm,bs,bo,bq,Fs,bm::ba::bq::bg::Fo,rfl,⟨⟨ba,bg,vk,vq,vg,Fo,q,B9,IO3.out.mod MZ (fun k hk h=>by have:=hFo k hk;simp at h;omega),INV.out,AB8.out.mod M9 (by simp [hbe]),QB8.out.mod M9 (by simp [hqe]),GB.out.mod M9 (by simp [hge]),rfl,?_,fun h=>by have:=hFo _ h;omega,fun h=>hbe h.symm,fun h=>hqe h.symm,fun h=>hge h.symm⟩,?_⟩,MW,F1.out,?_⟩
 ·intro k hk h
  have q1:=hFs k hk
  simp at h
  rcases h with h | h | h | h | h
  ·omega
  ·omega
  ·omega
  ·omega
  ·have:=hFo k h;omega
 ·exact (S1.out.mod MA.out (by simp)).mod MM (fun k hk h=>by have:=hFs k hk;simp at h;omega)
 ·intro k hk
  simp at hk
  rcases hk with h | h | h | h | h
  ·omega
  ·omega
  ·omega
  ·omega
  ·have:=hFo k h;omega
open Go.RowKit
theorem Mgr.live {w:World} {b:Nat} {q:List Value} {H:List (Nat × Ed)} (h:Mgr w b q H) (i:Nat) (h1:1≤i) (h2:i≤256):w.cell? ⟨b,5+i,none⟩=some (.bool (decide (i≤H.length))):=by
 rw [h.cell _ (by omega)]
 unfold mgL
 rw [if_neg (by omega),if_pos (by omega)]
 rw [show decide (6≤5+i∧5+i≤5+H.length)=decide (i≤H.length) from decide_eq_decide.2 (by omega)]
theorem Mgr.root {w:World} {b:Nat} {q:List Value} {H:List (Nat × Ed)} (h:Mgr w b q H) (hH:H.length≤256) (i:Nat) (hi:i < H.length):
 w.cell? ⟨b,262+(i+1) *3,none⟩=some (.int .u8 (H[i]).1)∧w.cell? ⟨b,262+(i+1) *3+1,none⟩=some (.int .u8 (H[i]).2.t)∧w.cell? ⟨b,262+(i+1) *3+2,none⟩=some (.int .u32 (H[i]).2.a):=by
 obtain ⟨j,hj⟩:∃j,262+(i+1) *3=j:=⟨_,rfl⟩
 rw [hj]
 have hj2:j=265+3 *i:=by omega
 have e0:(j - 265) / 3=i:=by rw [hj2,Nat.add_sub_cancel_left];omega
 have e1:(j+1 - 265) / 3=i:=by rw [hj2,Nat.add_assoc,Nat.add_sub_cancel_left];omega
 have e2:(j+2 - 265) / 3=i:=by rw [hj2,Nat.add_assoc,Nat.add_sub_cancel_left];omega
 have g:H[i]? =some H[i]:=List.getElem?_eq_getElem hi
 refine ⟨?_,?_,?_⟩
 ·rw [h.cell _ (by omega)]
  unfold mgL
  rw [if_neg (by omega),if_neg (by omega),if_neg (by omega),e0,g]
  simp only
  rw [if_pos (by omega)]
 ·rw [h.cell _ (by omega)]
  unfold mgL
  rw [if_neg (by omega),if_neg (by omega),if_neg (by omega),e1,g]
  simp only
  rw [if_neg (by omega),if_pos (by omega)]
 ·rw [h.cell _ (by omega)]
  unfold mgL
  rw [if_neg (by omega),if_neg (by omega),if_neg (by omega),e2,g]
  simp only
  rw [if_neg (by omega),if_neg (by omega)]
theorem free_c {w:World} {b:Nat} {q:List Value} {H:List (Nat × Ed)} (h:Mgr w b q H) (hH:H.length < 256):Calls Tryz.prog 132 #[.pointer (some ⟨b,0,none⟩)] w fun e w'=>e=.returned (.int .i64 ((H.length+1:Nat):Int))∧w'=w:=by
 have HM:=Lib.hid h
 obtain ⟨n,hn⟩:∃n,H.length=n:=⟨_,rfl⟩
 rw [hn] at hH ⊢
 have HN:=Lib.hid hn
 clear h hn
 go_enter Tryz.func132,Tryz.ntmps132
 go_wp2_with fail
 go_loop [3] (fun i=>∃k:Nat,1≤k∧k≤n+1∧i=.int .i64 k) (fun i=>n+1 - (intOf i).toNat)
 case atStart=>exact ⟨1,by omega,by omega,rfl⟩
 case round=>
  obtain ⟨k,h1,h2,rfl⟩:=hrel
  have c:=HM.out.live k h1 (by omega)
  rw [HN.out] at c
  have hk:(k:Int)≤256:=by omega
  have hk2:(k:Int) < 257:=by omega
  by_cases hkn:k≤n
  ·rw [decide_eq_true hkn] at c
   go_wp2_with fail
   go_round
   case rel=>exact ⟨k+1,by omega,by omega,by first | rfl | (simp;try omega)⟩
   case measure=>simp [intOf];omega
  ·rw [decide_eq_false hkn] at c
   obtain rfl:k=n+1:=by omega
   go_wp2_with fail
   go_ret
   exact ⟨by first | rfl | simp,rfl⟩
theorem has_c {w:World} {b:Nat} {q:List Value} {H:List (Nat × Ed)} (h:Mgr w b q H) (hH:H.length≤256) (a:Nat) (h1:1≤a) (h2:a≤H.length):Calls Tryz.prog 51 #[.pointer (some ⟨b,0,none⟩),.int .i64 a] w fun e w'=>e=.returned (.bool true)∧w'=w:=by
 have c:=h.live a h1 (by omega)
 rw [decide_eq_true h2] at c
 have ha:(1:Int)≤a:=by omega
 have hb:(a:Int)≤256:=by omega
 have hc:(a:Int) < 257:=by omega
 clear h
 go_enter Tryz.func51,Tryz.ntmps51
 go_wp2_with fail
 go_ret
 exact ⟨by first | rfl | simp,rfl⟩
open Go.RowKit
theorem same0_c (b:Nat) (w:World):Calls Tryz.prog 53 #[.pointer (some ⟨b,0,none⟩),.slice none 0 0] w fun e w'=>e=.returned (.tuple #[.int .u8 0,.int .u8 0])∧w'=w:=by
 go_enter Tryz.func53,Tryz.ntmps53
 go_wp2_with fail
 refine wp_loop_rounds 1 ?_
 rw [rounds_succ]
 go_wp2_with fail
 refine wp_loop_rounds 1 ?_
 rw [rounds_succ]
 go_wp2_with fail
 go_ret2
 exact ⟨rfl,rfl⟩
theorem room0_c {w:World} {b:Nat} {q:List Value} {H:List (Nat × Ed)} (h:Mgr w b q H) (hH:H.length < 256):Calls Tryz.prog 95 #[.pointer (some ⟨b,0,none⟩),.slice none 0 0] w fun e w'=>e=.returned (.tuple #[.int .u8 0,.int .u8 0])∧w'=w:=by
 have FR:=Lib.hid (free_c h hH)
 have SM:Hid (∀w,_):=same0_c b
 obtain ⟨n,hn⟩:∃n,H.length=n:=⟨_,rfl⟩
 rw [hn] at FR
 have hne:¬((n+1:Nat):Int)=0:=by omega
 clear h hn hH
 go_enter Tryz.func95,Tryz.ntmps95
 go_wp2_with fail
 refine FR.out.mono ?_
 rintro e w1 ⟨rfl,rfl⟩
 go_wp2_with fail
 refine (SM.out _).mono ?_
 rintro e w1 ⟨rfl,rfl⟩
 go_wp2_with fail
 go_ret2
 exact ⟨rfl,rfl⟩
theorem same1_c {w:World} {b g cap a f:Nat} {e:Ed} {q:List Value} {H:List (Nat × Ed)} (h:Mgr w b q H) (hH:H.length≤256) (c0:w.cell? ⟨g,0,none⟩=some (.int .i64 ((a+1:Nat):Int))) (hf:H[a]? =some (f,e)):
 Calls Tryz.prog 53 #[.pointer (some ⟨b,0,none⟩),.slice (some ⟨g,0,none⟩) 1 cap] w fun e w'=>e=.returned (.tuple #[.int .u8 f,.int .u8 0])∧w'=w:=by
 obtain ⟨hl,hg⟩:=List.getElem?_eq_some_iff.1 hf
 have HA:Hid (∀w':World,w'=w→_):=fun w' e=>e▸has_c h hH (a+1) (by omega) (by omega)
 obtain ⟨d0,-⟩:=h.root hH a hl
 rw [hg] at d0
 obtain ⟨m,hm⟩:∃m,a+1=m:=⟨_,rfl⟩
 rw [hm] at d0 c0 HA
 have hm1:(m:Int)≤256:=by omega
 have hm2:(m:Int) < 257:=by omega
 have hm0:(0:Int)≤m:=by omega
 clear h hf hg hl hm
 go_enter Tryz.func53,Tryz.ntmps53
 go_wp2_with fail
 refine wp_loop_rounds 2 ?_
 rw [rounds_succ]
 go_wp2_with fail
 refine (HA.out _ rfl).mono ?_
 rintro e' w1 ⟨rfl,rfl⟩
 go_wp2_with fail
 rw [rounds_succ]
 go_wp2_with fail
 refine wp_loop_rounds 2 ?_
 rw [rounds_succ]
 go_wp2_with fail
 rw [rounds_succ]
 go_wp2_with fail
 go_ret2
 exact ⟨rfl,rfl⟩
theorem same2_c {w:World} {b g cap a a2 f f2:Nat} {e e2:Ed} {q:List Value} {H:List (Nat × Ed)} (h:Mgr w b q H) (hH:H.length≤256) (c0:w.cell? ⟨g,0,none⟩=some (.int .i64 ((a+1:Nat):Int))) (c1:w.cell? ⟨g,1,none⟩=some (.int .i64 ((a2+1:Nat):Int)))
 (hf:H[a]? =some (f,e)) (hf2:H[a2]? =some (f2,e2)) (hne:¬(f2:Int)=f):
 Calls Tryz.prog 53 #[.pointer (some ⟨b,0,none⟩),.slice (some ⟨g,0,none⟩) 2 cap] w fun e w'=>e=.returned (.tuple #[.int .u8 0,.int .u8 4])∧w'=w:=by
 obtain ⟨hl,hg⟩:=List.getElem?_eq_some_iff.1 hf
 obtain ⟨hl2,hg2⟩:=List.getElem?_eq_some_iff.1 hf2
 have HA:Hid (∀w':World,w'=w→_):=fun w' e=>e▸has_c h hH (a+1) (by omega) (by omega)
 have HA2:Hid (∀w':World,w'=w→_):=fun w' e=>e▸has_c h hH (a2+1) (by omega) (by omega)
 obtain ⟨d0,-⟩:=h.root hH a hl
 obtain ⟨d2,-⟩:=h.root hH a2 hl2
 rw [hg] at d0
 rw [hg2] at d2
 obtain ⟨m,hm⟩:∃m,a+1=m:=⟨_,rfl⟩
 rw [hm] at d0 c0 HA
 obtain ⟨m2,hm2⟩:∃m,a2+1=m:=⟨_,rfl⟩
 rw [hm2] at d2 c1 HA2
 have hm1:(m:Int)≤256:=by omega
 have hm3:(m:Int) < 257:=by omega
 have hm0:(0:Int)≤m:=by omega
 have hk1:(m2:Int)≤256:=by omega
 have hk3:(m2:Int) < 257:=by omega
 have hk0:(0:Int)≤m2:=by omega
 have hd:((f2:Int) != f)=true:=by simpa using hne
 clear h hf hg hl hm hf2 hg2 hl2 hm2
 go_enter Tryz.func53,Tryz.ntmps53
 go_wp2_with fail
 refine wp_loop_rounds 3 ?_
 rw [rounds_succ]
 go_wp2_with fail
 refine (HA.out _ rfl).mono ?_
 rintro e' w1 ⟨rfl,rfl⟩
 go_wp2_with fail
 rw [rounds_succ]
 go_wp2_with fail
 refine (HA2.out _ rfl).mono ?_
 rintro e' w1 ⟨rfl,rfl⟩
 go_wp2_with fail
 rw [rounds_succ]
 go_wp2_with fail
 refine wp_loop_rounds 2 ?_
 rw [rounds_succ]
 go_wp2_with fail
 rw [rounds_succ]
 go_wp2_with fail
 go_ret2
 exact ⟨rfl,rfl⟩
open Go.RowKit
theorem equal_c {w:World} {b a a2 f f2:Nat} {e e2:Ed} {q:List Value} {H:List (Nat × Ed)} (h:Mgr w b q H) (hH:H.length≤256) (hf:H[a]? =some (f,e)) (hf2:H[a2]? =some (f2,e2)) (hne:¬(f2:Int)=f):
 Calls Tryz.prog 19 #[.pointer (some ⟨b,0,none⟩),.int .i64 ((a+1:Nat):Int),.int .i64 ((a2+1:Nat):Int)] w fun e w'=>e=.returned (.tuple #[.bool false,.int .u8 4])∧Mod [] w w':=by
 obtain ⟨m,hm⟩:∃m:Int,((a+1:Nat):Int)=m:=⟨_,rfl⟩
 obtain ⟨m2,hm2⟩:∃m:Int,((a2+1:Nat):Int)=m:=⟨_,rfl⟩
 obtain ⟨g,hg⟩:∃g,w.heap.size=g:=⟨_,rfl⟩
 rw [hm,hm2]
 have MA:Hid (Mod [] w (w.alloc (.cells #[.int .i64 m,.int .i64 m2] 3))):=(Mod.refl _ _).alloc _
 have BA:=Blk.new' w #[.int .i64 m,.int .i64 m2] 3 g hg.symm
 have SM:=Lib.hid (same2_c (g:=g) (cap:=2) (h.mod MA.out (by simp)) hH (a:=a) (a2:=a2) (by rw [hm];have:=BA.cell 0;simpa using this) (by rw [hm2];have:=BA.cell 1;simpa using this) hf hf2 hne)
 clear h hf hf2 hne hm hm2 BA
 go_enter Tryz.func19,Tryz.ntmps19
 go_wp2_with fail
 refine SM.out.mono ?_
 rintro e w1 ⟨rfl,rfl⟩
 go_wp2_with fail
 go_ret2
 exact ⟨rfl,MA.out⟩
end Go.Proofs.YtnbjnnijifiaaaaGreatDoor
