/- M33: Ye · Yh · Yi · Yj -/
import Derived.Test.YtnbjnnijifiaaaaGreatDoorM32
import Derived.Deep.RegionLaw
import Derived.Deep.RegionHeld3
import Derived.Deep.CutRange
set_option maxRecDepth 100000
set_option maxHeartbeats 8000000
set_option linter.unusedVariables false
set_option linter.unusedSimpArgs false
namespace Go.Proofs.YtnbjnnijifiaaaaGreatDoor
open Go.RowKit
def rcT (f:Nat) (no:List Tr):Tr→Rc
 | .leaf _=>rc0
 | .node t b tl x th y=>⟨f,t,b,⟨tl,numT no x⟩,⟨th,numT no y⟩⟩
def eB (f nt t:Nat):List Nat:=nt::(if f=5∧0 < nt then [t] else [])
def OkNo (f:Nat) (no:List Tr):Prop:=∀i T,no[i]? =some T→∃t b tl x th y,T=.node t b tl x th y∧t≤15∧b≤15∧tl≤16∧th≤16∧numT no x≤i+1∧numT no y≤i+1∧(¬(f=5∧0 < numT no x)→tl=0)∧(¬(f=5∧0 < numT no y)→th=0)∧(¬(f=3∨f=4)→b=t)∧
 recB f no T=[t]++(if f=3∨f=4 then [b] else [])++eB f (numT no x) tl++eB f (numT no y) th
def ReadP (w:World) (n f N:Nat) (pl:List Nat) (rl:List Rc) (t nt:Nat) (e:Ending) (w':World):Prop:=
 ∃tb Fp Fl,e=.returned (.tuple #[.pointer (some ⟨tb,0,none⟩),.bool true])∧TxB w' tb n f N pl rl t nt Fp Fl∧Mod [] w w'∧∀k∈tb::(Fp++Fl),w.heap.size≤k
theorem Tryz.infoRc:(Tryz.prog.info? 134).map (fun i=>(i.zero,i.size,i.bytes))=some (some (.agg #[.int .u8 0,.int .u8 0,.int .u8 0,.int .u8 0,.int .u32 0,.int .u8 0,.int .u32 0]),7,20):=by kernel_rfl
theorem eB_len (f nt t:Nat):(eB f nt t).length≤2:=by unfold eB;split<;>simp
theorem flat_drop {α β:Type} (g:α→List β) (l:List α) (j:Nat):((l.drop j).flatMap g).length≤(l.flatMap g).length:=by
 conv=>rhs;rw [←List.take_append_drop j l]
 rw [List.flatMap_append,List.length_append]
 omega
theorem read_c {w:World} {v:Value} {n f t nt:Nat} {pl Fb bytes:List Nat} {no:List Tr} (hb:bytes=[n,f]++pl++[no.length]++no.flatMap (recB f no)++eB f nt t) (hV:Rv w v (bytes.map ey) Fb) (hFb:∀k∈Fb,k < w.heap.size) (hn:n≤16) (h1:1≤f) (h5:f≤5) (hpl:pl.length=n) (hp:∀x∈pl,x≤16) (hno:no.length≤60) (hok:OkNo f no)
 (hnt:nt≤no.length+1) (ht:t≤16) (ht0:¬(f=5∧0 < nt)→t=0) (hbl:bytes.length≤5000) (hbn:no.length≤bytes.length):
 Calls Tryz.prog 75 #[v] w (ReadP w n f no.length pl (no.map (rcT f no)) t nt):=by
 have NR:=Lib.hid (newReader_c hV hFb)
 obtain ⟨A,vcap,rfl,hvc⟩:=hV.shape
 simp only [List.length_map] at hvc NR ⊢
 obtain ⟨bl,hbl'⟩:∃bl,bytes.length=bl:=⟨_,rfl⟩
 rw [hbl'] at hvc NR hbl hbn ⊢
 obtain ⟨N,hN⟩:∃N,no.length=N:=⟨_,rfl⟩
 rw [hN] at hb hno hnt hbn ⊢
 have HB:=Lib.hid hb
 have HN:=Lib.hid hN
 have HF:=Lib.hid hFb
 have HP:=Lib.hid (And.intro hpl hp)
 have HOK:=Lib.hid hok
 have HT0:=Lib.hid ht0
 have BLN:Hid ((no.flatMap (recB f no)).length≤5000∧(eB f nt t).length≤2∧pl.length≤16):=by
  have h:=hbl'
  rw [hb] at h
  simp only [List.length_append] at h
  exact ⟨by omega,by unfold eB;split<;>simp,by omega⟩
 clear hV hFb hpl hp hok ht0 hN hb hbl'
 obtain ⟨rp,hrp⟩:∃rp,w.heap.size=rp:=⟨_,rfl⟩
 rw [hrp] at NR
 have hn':(n:Int)≤16:=by omega
 have hf':(f:Int)≤5:=by omega
 have hbl'':(bl:Int)≤5000:=by omega
 have hN':(N:Int)≤60:=by omega
 go_enter Tryz.func75,Tryz.ntmps75
 go_wp2_with fail
 refine NR.out.mono ?_
 rintro e w1 ⟨rfl,r1,m1⟩
 obtain ⟨tb,htb⟩:∃tb,w1.heap.size=tb:=⟨_,rfl⟩
 have hrl:=r1.lt
 have T0:Hid (RdT w (w1.alloc (.cells #[.int .i64 0,.int .u8 0,.slice none 0 0,.int .i64 0,.slice none 0 0,.int .u8 0,.int .u32 0] 90)) rp tb bytes Fb 0 0 0 [] [] 0 0):=by
  have m:=m1.size
  refine ⟨[],[],r1.mod ((Mod.refl [] w1).alloc _) (by simp),⟨_,_,Blk.new' w1 _ _ tb htb.symm,Sl.nil _ _ _,Sl.nil _ _ _,by simp,by simp,by simp⟩,m1.alloc _,fun k hk=>?_,HF.out,by simp;omega⟩
  simp at hk
  rcases hk with rfl | rfl<;>omega
 clear r1 m1 NR hrl hrp
 rw [HB.out] at T0
 go_upto_region 3 with fail
 generalize w1.alloc (.cells #[.int .i64 0,.int .u8 0,.slice none 0 0,.int .i64 0,.slice none 0 0,.int .u8 0,.int .u32 0] 90)=w2 at *
 clear htb
 have U1:=Lib.hid (RdT.num (c:=n) (left:=f::(pl++[N]++no.flatMap (recB f no)++eB f nt t)) (most:=16) (by simpa [List.append_assoc] using T0.out) (by omega) hn (by have:=BLN.out;simp only [List.length_append,List.length_cons,List.length_nil];omega) (by omega))
 go_wp2_with fail
 refine U1.out.mono ?_
 rintro e w3 ⟨rfl,t1,-⟩
 have T1:=Lib.hid t1
 clear t1 T0 U1
 obtain ⟨vp,vl,B⟩:=T1.out.blk
 have k0:=B.cell 0
 have kf:=B.froz 0
 simp only [List.getElem?_toArray,List.getElem?_cons_zero] at k0
 have T2:Hid (RdT w (w3.setCell ⟨tb,0,none⟩ (.int .i64 n)) rp tb (f::(pl++[N]++no.flatMap (recB f no)++eB f nt t)) Fb n 0 0 [] [] 0 0):=T1.out.turn ((Mod.refl _ _).setCell _ _ (by simp)) B (by simpa using B.set 0 (.int .i64 n))
 clear B
 go_upto_region 4 with fail
 generalize w3.setCell ⟨tb,0,none⟩ (.int .i64 n)=w4 at *
 clear T1 k0 kf
 have U2:=Lib.hid (RdT.num (c:=f) (most:=5) T2.out (by omega) h5 (by have:=BLN.out;simp only [List.length_append,List.length_cons,List.length_nil];omega) (by omega))
 go_wp2_with fail
 refine U2.out.mono ?_
 rintro e w5 ⟨rfl,t3,-⟩
 have T3:=Lib.hid t3
 clear t3 T2 U2
 obtain ⟨vp,vl,B⟩:=T3.out.blk
 have k1:=B.cell 1
 have kf:=B.froz 1
 simp only [List.getElem?_toArray,List.getElem?_cons_zero,List.getElem?_cons_succ] at k1
 have T4:Hid (RdT w (w5.setCell ⟨tb,1,none⟩ (.int .u8 f)) rp tb (pl++([N]++no.flatMap (recB f no)++eB f nt t)) Fb n f 0 [] [] 0 0):=RdT.turn (by simpa [List.append_assoc] using T3.out) ((Mod.refl _ _).setCell _ _ (by simp)) B (by simpa using B.set 1 (.int .u8 f))
 clear B
 go_upto_region 5 with fail
 generalize w5.setCell ⟨tb,1,none⟩ (.int .u8 f)=w6 at *
 clear T3 k1 kf
 obtain ⟨vp,vl,B⟩:=T4.out.blk
 have k0:=B.cell 0
 simp only [List.getElem?_toArray,List.getElem?_cons_zero] at k0
 clear B
 go_wp2_with fail
 go_loopw [31] (fun i wr=>∃k:Nat,k≤n∧i=.int .i64 k∧Hid (RdT w wr rp tb (pl.drop k++([N]++no.flatMap (recB f no)++eB f nt t)) Fb n f 0 (pl.take k) [] 0 0)) (fun i _=>(n - intOf i).toNat)
 case atStart=>exact ⟨0,by omega,rfl,T4⟩
 case round=>
  clear T4 k0
  obtain ⟨k,hk,rfl,T5⟩:=hrel
  by_cases hlt:k < n
  ·have hlt':(k:Int) < n:=by omega
   have hk1:k < pl.length:=by rw [HP.out.1];exact hlt
   have ED:Hid (pl.drop k=pl[k]::pl.drop (k+1)):=List.drop_eq_getElem_cons hk1
   have hx:=HP.out.2 pl[k] (List.getElem_mem _)
   have ET:Hid (pl.take (k+1)=pl.take k++[pl[k]]):=List.take_succ_eq_append_getElem hk1
   have LT:Hid ((pl.take k).length=k):=by show _=_;rw [List.length_take];omega
   rw [ED.out,List.cons_append] at T5
   generalize pl[k]=x at *
   have WX:Hid (IntKind.i64.wrap (x:Int)=x):=IntWalk.i64_in _ (by omega)
   go_upto_region 7 with fail
   obtain ⟨vp,vl,Fp,Fl,O⟩:=T5.out.opn
   have kb:=O.blk.cell 2
   have kf:=O.blk.froz 2
   simp only [List.getElem?_toArray,List.getElem?_cons_zero,List.getElem?_cons_succ] at kb
   have hbl:=O.blk.lt
   have hne:tb≠rp:=fun h=>O.rp (by simp [h])
   have PU:Hid (∀W,Mod [] wr W→Calls Tryz.prog 121 #[.pointer (some ⟨rp,0,none⟩),.int .u64 16] W fun e w'=>e=.returned (.int .u64 x)∧RdO w w' rp tb (pl.drop (k+1)++([N]++no.flatMap (recB f no)++eB f nt t)) Fb n f 0 (pl.take k) [] 0 0 vp vl Fp Fl∧w'.cell? ⟨tb,2,none⟩=some vp∧w'.frozen? ⟨tb,2,none⟩=false∧Mod [rp] wr w'):=fun W m=>(rdNum_c (O.mod m).rd (by omega) hx (by have:=BLN.out;simp only [List.length_append,List.length_cons,List.length_nil,List.length_drop];omega) (by omega)).mono (by
    rintro e w' ⟨rfl,r,m2⟩
    have m3:=(m.mono (S':=[rp]) (by simp)).trans' m2
    exact ⟨rfl,O.read m3 r,(m3.cell hbl (by simp [hne])).trans kb,(m3.froz hbl (by simp [hne])).trans kf,m3⟩)
   obtain ⟨A,cap,rfl,hcap⟩:=O.sp.shape
   have OS:=Lib.hid O
   rw [LT.out] at kb PU hcap
   obtain ⟨i0,hi,hz0,hz1,hz2⟩:=info_parts Tryz.info3
   clear O
   go_region_law (first | (go_simp;go_at_call 121;refine (PU.out _ (by exact mods)).mono ?_;rintro e' w2 ⟨rfl,O2,k2,kf2,m2⟩;have O2:=Lib.hid O2;have M2:=Lib.hid m2;have hb2:=Nat.lt_of_lt_of_le hbl m2.size;have SQ:Hid (∀W,Mod [] w2 W→Sl W 3 1 (.slice A k cap) k ((pl.take k).map ei) Fp):=(fun W m=>by have:=(O2.out.mod m).sp;rw [LT.out] at this;exact this);clear m2) | (refine step_append_sl rfl _ _ 22 rfl 3 i0 (.int .i64 0) 1 8 Tryz.underlying22 hi hz0 hz1 hz2 rfl (by decide) _ k ((pl.take k).map ei) Fp rfl (SQ.out _ (by exact mods)) ⟨w2.heap.size,0,none⟩ 1 1 [.int .i64 (IntKind.i64.wrap (x:Int))] (by decide) rfl rfl (by intro j u hu;first | exact list_new_at _ _ _ _ (by simp) j u hu | exact list_new_at_drew _ _ _ _ (by simp) j u hu) (by intro u hu;simp at hu;subst hu;rfl) (by unfold maxLen;omega) (by omega) ?_;intro v5 w5 F5 hs5 hm5 hf5;rw [WX.out] at hs5;have S5:=Lib.hid hs5;have Q5:=Lib.hid hf5;obtain ⟨a5,cap5,rfl,_⟩:=hs5.shape;have hm6:Mod Fp w2 w5:=Mod.trans' (by exact mods) hm5;have M5:=Lib.hid hm6;have k2:=(hm6.cell (a:=⟨tb,2,none⟩) hb2 OS.out.tp).trans k2;have kf2:=(hm6.froz (a:=⟨tb,2,none⟩) hb2 OS.out.tp).trans kf2;clear hs5 hm5 hf5))
   all_goals
    clear PU k2 kf2 kb kf
    have R3:=Lib.hid (O2.out.growp (x:=x) M5.out (by rw [LT.out];exact S5.out) (fun k hk=>(Q5.out k hk).imp (fun h=>h) (fun h=>by simp at h;omega)))
    rw [←ET.out] at R3
    go_wp2_with fail
    exact ⟨⟨k+1,by omega,by simp,R3⟩,by simp [intOf];omega⟩
  ·have hlt':¬(k:Int) < n:=by omega
   have hkn:k=n:=by omega
   have T6:Hid (RdT w wr rp tb (N::(no.flatMap (recB f no)++eB f nt t)) Fb n f 0 pl [] 0 0):=by
    have h:=T5.out
    have hl:=HP.out.1
    rw [List.drop_of_length_le (by omega),List.take_of_length_le (by omega)] at h
    show RdT _ _ _ _ _ _ _ _ _ _ _ _ _
    simpa [List.append_assoc] using h
   clear T5
   have U3:=Lib.hid (RdT.num (c:=N) (most:=bl) T6.out (by omega) hbn (by have:=BLN.out;simp only [List.length_append];omega) (by omega))
   go_wp2_with fail
   refine U3.out.mono ?_
   rintro e w7 ⟨rfl,t7,-⟩
   have T7:=Lib.hid t7
   clear t7 T6 U3
   obtain ⟨vp,vl,B⟩:=T7.out.blk
   have k3:=B.cell 3
   have kf:=B.froz 3
   simp only [List.getElem?_toArray,List.getElem?_cons_zero,List.getElem?_cons_succ] at k3
   have T8:Hid (RdT w (w7.setCell ⟨tb,3,none⟩ (.int .i64 N)) rp tb (no.flatMap (recB f no)++eB f nt t) Fb n f N pl [] 0 0):=RdT.turn T7.out ((Mod.refl _ _).setCell _ _ (by simp)) B (by simpa using B.set 3 (.int .i64 N))
   clear B
   go_upto_region 10 with fail
   generalize w7.setCell ⟨tb,3,none⟩ (.int .i64 N)=w8 at *
   clear T7 k3 kf
   go_wp2_with fail
   go_loopw [6] (fun i wq=>∃j:Nat,j≤N∧i=.int .i64 j∧Hid (RdT w wq rp tb ((no.drop j).flatMap (recB f no)++eB f nt t) Fb n f N pl ((no.take j).map (rcT f no)) 0 0)) (fun i _=>(N - intOf i).toNat)
   case atStart=>exact ⟨0,by omega,rfl,T8⟩
   case round=>
    clear T8
    obtain ⟨j,hj,rfl,T9⟩:=hrel
    obtain ⟨vp,vl,B⟩:=T9.out.blk
    have k3:=B.cell 3
    simp only [List.getElem?_toArray,List.getElem?_cons_zero,List.getElem?_cons_succ] at k3
    clear B
    have RE:=Lib.hid (rdErr_c T9.out.rd)
    by_cases hjl:j < N
    ·have hjl':(j:Int) < N:=by omega
     have hj1:j < no.length:=by rw [HN.out];exact hjl
     have EJ:Hid (no.drop j=no[j]::no.drop (j+1)):=List.drop_eq_getElem_cons hj1
     have ETJ:Hid (no.take (j+1)=no.take j++[no[j]]):=List.take_succ_eq_append_getElem hj1
     have GJ:Hid (no[j]? =some no[j]):=List.getElem?_eq_getElem hj1
     rw [EJ.out,List.flatMap_cons] at T9
     have HR4':((no.drop (j+1)).flatMap (recB f no)++eB f nt t).length≤5002:=by
      have:=flat_drop (recB f no) no (j+1)
      have:=BLN.out
      rw [List.length_append]
      omega
     have LTJ:Hid (((no.take j).map (rcT f no)).length=j):=by show _=_;rw [List.length_map,List.length_take];omega
     generalize no[j]=T at *
     obtain ⟨tt,bb,tl,x,th,y,rfl,ht15,hb15,htl,hth,hnx,hny,hl0,hh0,hbt,erec⟩:=HOK.out j T GJ.out
     obtain ⟨R4,hR4⟩:∃R4,(no.drop (j+1)).flatMap (recB f no)++eB f nt t=R4:=⟨_,rfl⟩
     have ER4:=Lib.hid hR4
     have EMJ:Hid ((no.take (j+1)).map (rcT f no)=(no.take j).map (rcT f no)++[⟨f,tt,bb,⟨tl,numT no x⟩,⟨th,numT no y⟩⟩]):=by show _=_;rw [ETJ.out,List.map_append];rfl
     rw [erec,List.append_assoc _ _ (eB f nt t),hR4,show ∀C E1 E2:List Nat,[tt]++C++E1++E2++R4=tt::(C++(E1++(E2++R4))) from fun C E1 E2=>by simp] at T9
     have HR4:=Lib.hid (hR4▸HR4')
     have HL0:=Lib.hid hl0
     have HH0:=Lib.hid hh0
     have HBT:=Lib.hid hbt
     clear hl0 hh0 hbt erec hR4 HR4' EJ ETJ GJ
     go_wp2_with fail
     refine RE.out.mono ?_
     rintro e wz ⟨rfl,e2⟩
     subst e2
     go_upto_region 13 with fail
     clear k3 RE
     obtain ⟨vp,vl,Fp,Fl,O⟩:=T9.out.opn
     have kb:=O.blk.cell 1
     simp only [List.getElem?_toArray,List.getElem?_cons_zero,List.getElem?_cons_succ] at kb
     have hbl:=O.blk.lt
     have hne:tb≠rp:=fun h=>O.rp (by simp [h])
     obtain ⟨gs,hgs⟩:∃gs,wz.heap.size=gs:=⟨_,rfl⟩
     have hrl:=O.rd.lt
     have hqn:gs∉[rp]:=by simp;omega
     have ng1:¬tb=gs:=by omega
     have ng2:¬gs=tb:=by omega
     have WT:Hid (IntKind.u8.wrap (tt:Int)=tt):=IntWalk.u8_in _ (by omega)
     have PU:Hid (∀W,Mod [] wz W→Calls Tryz.prog 121 #[.pointer (some ⟨rp,0,none⟩),.int .u64 16] W fun e w'=>e=.returned (.int .u64 tt)∧RdO w w' rp tb ((if f=3∨f=4 then [bb] else [])++(eB f (numT no x) tl++(eB f (numT no y) th++R4))) Fb n f N pl ((no.take j).map (rcT f no)) 0 0 vp vl Fp Fl∧Mod [rp] W w'∧Mod [rp] wz w'):=fun W m=>(rdNum_c (c:=tt) (most:=16) (O.mod m).rd (by omega) (by omega) (by have:=HR4.out;have:=eB_len f (numT no y) th;have:=eB_len f (numT no x) tl;simp only [List.length_append];split<;>simp<;>omega) (by omega)).mono (by
      rintro e w' ⟨rfl,r,m2⟩
      have m3:=(m.mono (S':=[rp]) (by simp)).trans' m2
      exact ⟨rfl,O.read m3 r,m2,m3⟩)
     have OS:=Lib.hid O
     clear O T9
     go_cut [7] from 72 to 80 (fun q wx=>∃qb:Nat,q=.pointer (some ⟨qb,0,none⟩)∧Hid (RdQ w wx rp tb ((if f=3∨f=4 then [bb] else [])++(eB f (numT no x) tl++(eB f (numT no y) th++R4))) Fb n f N pl ((no.take j).map (rcT f no)) 0 0 qb ⟨f,tt,0,⟨0,0⟩,⟨0,0⟩⟩))
     case first=>
      go_region_held3 (fun w'=>w'.cell? ⟨tb,1,none⟩=some (.int .u8 f)) (go_keep) (first | (go_at_call 121;refine (PU.out _ (by exact mods)).mono ?_;rintro e' w2 ⟨rfl,O2,m2,M2⟩;have kb:=(M2.cell (a:=⟨tb,1,none⟩) hbl (by simpa using hne)).trans kb;have hbl:=Nat.lt_of_lt_of_le hbl M2.size;first | (have za:=(((Blk.new' wz (rcl rc0).toArray 134 gs hgs.symm).drew).mod m2 hqn);have zz0:=za.cell 0;have zz1:=za.cell 1;have zz2:=za.cell 2;have zz3:=za.cell 3;have zz4:=za.cell 4;have zz5:=za.cell 5;have zz6:=za.cell 6;simp only [rcl,rc0,List.getElem?_toArray,List.getElem?_cons_zero,List.getElem?_cons_succ] at zz0 zz1 zz2 zz3 zz4 zz5 zz6;have zzf:=za.froz;skip) | (obtain ⟨gr,hgr⟩:∃gr,w2.heap.size=gr:=⟨_,rfl⟩;have ng3:¬tb=gr:=(fun h=>by omega);have ng4:¬gr=tb:=(fun h=>by omega);skip)))
      all_goals (go_wp2_with fail;go_meet)
      all_goals rw [WT.out]
      all_goals first
       | exact ⟨gr,rfl,O2.new ⟨f,tt,0,⟨0,0⟩,⟨0,0⟩⟩ hgr⟩
       | exact ⟨gs,rfl,(OS.out.old O2 hgs za).whole ⟨f,tt,0,⟨0,0⟩,⟨0,0⟩⟩⟩
     case rest=>
      obtain ⟨qb,rfl,Q0⟩:=hcut
      clear PU OS WT kb hbl hne hgs hrl hqn ng1 ng2
      generalize wc=wd at *
      have fz:=Q0.out.own.froz
      obtain ⟨-,z1,z2,-⟩:=Q0.out.cells
      have Q1:=Lib.hid (Q0.out.bot tt)
      go_upto_region 15 with fail
      generalize wd.setCell ⟨qb,2,none⟩ (.int .u8 tt)=we at *
      clear Q0 fz z1 z2
      obtain ⟨c1,-⟩:=Q1.out.cls.cells
      by_cases hch:f=3∨f=4
      ·have CH:Hid (∀W,Calls Tryz.prog 118 #[.int .u8 f] W fun e w'=>e=.returned (.bool true)∧w'=W):=fun W=>chained_c f true (decide_eq_true hch) W
       rw [if_pos hch] at Q1
       go_wp2_with fail
       refine (CH.out _).mono ?_
       rintro e wy ⟨rfl,e2⟩
       subst e2
       have U5:=Lib.hid (RdQ.num (c:=bb) (most:=16) (left:=eB f (numT no x) tl++(eB f (numT no y) th++R4)) (by exact Q1.out) (by omega) (by omega) (by have:=HR4.out;have:=eB_len f (numT no y) th;have:=eB_len f (numT no x) tl;simp only [List.length_append];omega) (by omega))
       clear CH c1 HBT
       go_wp2_with fail
       refine U5.out.mono ?_
       rintro e wf ⟨rfl,q7,-⟩
       have Q7:=Lib.hid q7
       clear q7 U5 Q1
       have fz:=Q7.out.own.froz
       obtain ⟨-,-,z2,-⟩:=Q7.out.cells
       replace Q1:=Lib.hid (Q7.out.bot bb)
       go_upto_region 17 with fail
       generalize wf.setCell ⟨qb,2,none⟩ (.int .u8 bb)=wf2 at *
       clear Q7 fz z2
       have U6:=Lib.hid (RdQ.edge (f':=f) (i:=j) (nt:=numT no x) (t:=tl) (left:=eB f (numT no y) th++R4) (by exact Q1.out) (by omega) hnx (by omega) htl HL0.out h5 (by have:=HR4.out;have:=eB_len f (numT no y) th;simp only [List.length_append];omega))
       obtain ⟨c1,-⟩:=Q1.out.cls.cells
       go_wp2_with fail
       refine U6.out.mono ?_
       rintro e wg ⟨rfl,q2,-⟩
       have Q2:=Lib.hid q2
       clear q2 U6 Q1 c1
       have fz:=Q2.out.own.froz
       obtain ⟨-,-,-,z3,z4,-,-⟩:=Q2.out.cells
       have Q3:=Lib.hid (Q2.out.low tl (numT no x))
       go_upto_region 18 with fail
       generalize (wg.setCell ⟨qb,3,none⟩ (.int .u8 tl)).setCell ⟨qb,4,none⟩ (.int .u32 (numT no x))=wh at *
       clear Q2 fz z3 z4
       have U7:=Lib.hid (RdQ.edge (f':=f) (i:=j) (nt:=numT no y) (t:=th) (left:=R4) (by exact Q3.out) (by omega) hny (by omega) hth HH0.out h5 (by have:=HR4.out;omega))
       obtain ⟨c1,-⟩:=Q3.out.cls.cells
       go_wp2_with fail
       refine U7.out.mono ?_
       rintro e wi ⟨rfl,q4,-⟩
       have Q4:=Lib.hid q4
       clear q4 U7 Q3 c1
       have fz:=Q4.out.own.froz
       obtain ⟨-,-,-,-,-,z5,z6⟩:=Q4.out.cells
       have Q5:=Lib.hid (Q4.out.high th (numT no y))
       go_upto_region 19 with fail
       generalize (wi.setCell ⟨qb,5,none⟩ (.int .u8 th)).setCell ⟨qb,6,none⟩ (.int .u32 (numT no y))=wk at *
       clear Q4 fz z5 z6
       obtain ⟨vp,vl,Fp,Fl,O,B⟩:=Q5.out.opn
       have kb:=O.blk.cell 4
       have kf:=O.blk.froz 4
       simp only [List.getElem?_toArray,List.getElem?_cons_zero,List.getElem?_cons_succ] at kb
       have hbl:=O.blk.lt
       obtain ⟨z0,z1,z2,z3,z4,z5,z6⟩:=Q5.out.cells
       obtain ⟨AL,capl,rfl,hcapl⟩:=O.sl.shape
       have OS:=Lib.hid O
       rw [LTJ.out] at kb hcapl
       obtain ⟨i0,hi,hz0,hz1,hz2⟩:=info_parts Tryz.infoRc
       have SQ:Hid (∀W,Mod [] wk W→Sl W 134 7 (.slice AL j capl) j (recs rcl ((no.take j).map (rcT f no))) Fl):=fun W m=>by
        have:=(OS.out.mod m).sl
        rw [LTJ.out] at this
        exact this
       clear O B
       go_region_law (refine step_append_sl rfl _ _ 88 rfl 134 i0 (.agg #[.int .u8 0,.int .u8 0,.int .u8 0,.int .u8 0,.int .u32 0,.int .u8 0,.int .u32 0]) 7 20 Tryz.underlying88 hi hz0 hz1 hz2 rfl (by decide) _ j (recs rcl ((no.take j).map (rcT f no))) Fl rfl (SQ.out _ (by exact mods)) ⟨wk.heap.size,0,none⟩ 1 1 (rcl ⟨f,tt,bb,⟨tl,numT no x⟩,⟨th,numT no y⟩⟩) (by decide) rfl rfl (by intro j u hu;first | exact list_new_at _ _ _ _ (by simp) j u hu | exact list_new_at_drew _ _ _ _ (by simp) j u hu) (by intro u hu;simp [rcl] at hu;rcases hu with rfl | rfl | rfl | rfl | rfl | rfl | rfl<;>rfl) (by unfold maxLen;omega) (by omega) ?_;intro v5 w5 F5 hs5 hm5 hf5;have S5:=Lib.hid hs5;have Q6:=Lib.hid hf5;obtain ⟨a5,cap5,rfl,_⟩:=hs5.shape;have hm6:Mod Fl wk w5:=Mod.trans' (by exact mods) hm5;have M5:=Lib.hid hm6;have kb:=(hm6.cell (a:=⟨tb,4,none⟩) hbl OS.out.tl).trans kb;have kf:=(hm6.froz (a:=⟨tb,4,none⟩) hbl OS.out.tl).trans kf;clear hs5 hm5 hf5)
       all_goals
        clear kb kf z0 z1 z2 z3 z4 z5 z6
        have R3:=Lib.hid (OS.out.growl (x:=⟨f,tt,bb,⟨tl,numT no x⟩,⟨th,numT no y⟩⟩) M5.out (by rw [LTJ.out];exact S5.out) (fun k hk=>(Q6.out k hk).imp (fun h=>h) (fun h=>by simp at h;omega)))
        rw [←EMJ.out] at R3
        go_wp2_with fail
        exact ⟨⟨j+1,by omega,by simp,by rw [ER4.out];exact R3⟩,by simp [intOf];omega⟩
      ·have CH:Hid (∀W,Calls Tryz.prog 118 #[.int .u8 f] W fun e w'=>e=.returned (.bool false)∧w'=W):=fun W=>chained_c f false (decide_eq_false hch) W
       rw [if_neg hch,List.nil_append] at Q1
       obtain rfl:=HBT.out hch
       go_wp2_with fail
       refine (CH.out _).mono ?_
       rintro e wy ⟨rfl,e2⟩
       subst e2
       clear CH c1 HBT
       go_upto_region 17 with fail
       have U6:=Lib.hid (RdQ.edge (f':=f) (i:=j) (nt:=numT no x) (t:=tl) (left:=eB f (numT no y) th++R4) (by exact Q1.out) (by omega) hnx (by omega) htl HL0.out h5 (by have:=HR4.out;have:=eB_len f (numT no y) th;simp only [List.length_append];omega))
       obtain ⟨c1,-⟩:=Q1.out.cls.cells
       go_wp2_with fail
       refine U6.out.mono ?_
       rintro e wg ⟨rfl,q2,-⟩
       have Q2:=Lib.hid q2
       clear q2 U6 Q1 c1
       have fz:=Q2.out.own.froz
       obtain ⟨-,-,-,z3,z4,-,-⟩:=Q2.out.cells
       have Q3:=Lib.hid (Q2.out.low tl (numT no x))
       go_upto_region 18 with fail
       generalize (wg.setCell ⟨qb,3,none⟩ (.int .u8 tl)).setCell ⟨qb,4,none⟩ (.int .u32 (numT no x))=wh at *
       clear Q2 fz z3 z4
       have U7:=Lib.hid (RdQ.edge (f':=f) (i:=j) (nt:=numT no y) (t:=th) (left:=R4) (by exact Q3.out) (by omega) hny (by omega) hth HH0.out h5 (by have:=HR4.out;omega))
       obtain ⟨c1,-⟩:=Q3.out.cls.cells
       go_wp2_with fail
       refine U7.out.mono ?_
       rintro e wi ⟨rfl,q4,-⟩
       have Q4:=Lib.hid q4
       clear q4 U7 Q3 c1
       have fz:=Q4.out.own.froz
       obtain ⟨-,-,-,-,-,z5,z6⟩:=Q4.out.cells
       have Q5:=Lib.hid (Q4.out.high th (numT no y))
       go_upto_region 19 with fail
       generalize (wi.setCell ⟨qb,5,none⟩ (.int .u8 th)).setCell ⟨qb,6,none⟩ (.int .u32 (numT no y))=wk at *
       clear Q4 fz z5 z6
       obtain ⟨vp,vl,Fp,Fl,O,B⟩:=Q5.out.opn
       have kb:=O.blk.cell 4
       have kf:=O.blk.froz 4
       simp only [List.getElem?_toArray,List.getElem?_cons_zero,List.getElem?_cons_succ] at kb
       have hbl:=O.blk.lt
       obtain ⟨z0,z1,z2,z3,z4,z5,z6⟩:=Q5.out.cells
       obtain ⟨AL,capl,rfl,hcapl⟩:=O.sl.shape
       have OS:=Lib.hid O
       rw [LTJ.out] at kb hcapl
       obtain ⟨i0,hi,hz0,hz1,hz2⟩:=info_parts Tryz.infoRc
       have SQ:Hid (∀W,Mod [] wk W→Sl W 134 7 (.slice AL j capl) j (recs rcl ((no.take j).map (rcT f no))) Fl):=fun W m=>by
        have:=(OS.out.mod m).sl
        rw [LTJ.out] at this
        exact this
       clear O B
       go_region_law (refine step_append_sl rfl _ _ 88 rfl 134 i0 (.agg #[.int .u8 0,.int .u8 0,.int .u8 0,.int .u8 0,.int .u32 0,.int .u8 0,.int .u32 0]) 7 20 Tryz.underlying88 hi hz0 hz1 hz2 rfl (by decide) _ j (recs rcl ((no.take j).map (rcT f no))) Fl rfl (SQ.out _ (by exact mods)) ⟨wk.heap.size,0,none⟩ 1 1 (rcl ⟨f,bb,bb,⟨tl,numT no x⟩,⟨th,numT no y⟩⟩) (by decide) rfl rfl (by intro j u hu;first | exact list_new_at _ _ _ _ (by simp) j u hu | exact list_new_at_drew _ _ _ _ (by simp) j u hu) (by intro u hu;simp [rcl] at hu;rcases hu with rfl | rfl | rfl | rfl | rfl | rfl | rfl<;>rfl) (by unfold maxLen;omega) (by omega) ?_;intro v5 w5 F5 hs5 hm5 hf5;have S5:=Lib.hid hs5;have Q6:=Lib.hid hf5;obtain ⟨a5,cap5,rfl,_⟩:=hs5.shape;have hm6:Mod Fl wk w5:=Mod.trans' (by exact mods) hm5;have M5:=Lib.hid hm6;have kb:=(hm6.cell (a:=⟨tb,4,none⟩) hbl OS.out.tl).trans kb;have kf:=(hm6.froz (a:=⟨tb,4,none⟩) hbl OS.out.tl).trans kf;clear hs5 hm5 hf5)
       all_goals
        clear kb kf z0 z1 z2 z3 z4 z5 z6
        have R3:=Lib.hid (OS.out.growl (x:=⟨f,bb,bb,⟨tl,numT no x⟩,⟨th,numT no y⟩⟩) M5.out (by rw [LTJ.out];exact S5.out) (fun k hk=>(Q6.out k hk).imp (fun h=>h) (fun h=>by simp at h;omega)))
        rw [←EMJ.out] at R3
        go_wp2_with fail
        exact ⟨⟨j+1,by omega,by simp,by rw [ER4.out];exact R3⟩,by simp [intOf];omega⟩
    ·have hjl':¬(j:Int) < N:=by omega
     have hjn:j=N:=by omega
     have T10:Hid (RdT w wr rp tb (nt::((if f=5∧0 < nt then [t] else [])++[])) Fb n f N pl (no.map (rcT f no)) 0 0):=by
      have h:=T9.out
      have hl:=HN.out
      rw [List.drop_of_length_le (by omega),List.take_of_length_le (by omega),List.flatMap_nil,List.nil_append] at h
      rw [List.append_nil]
      exact h
     clear T9 RE k3
     obtain ⟨kb,kc⟩:=T10.out.cells
     obtain ⟨vp,vl,B⟩:=T10.out.blk
     have hbl:=B.lt
     have hne:tb≠rp:=Ne.symm T10.out.ge.2.2
     have EU:Hid (∀W,Mod [] wr W→Calls Tryz.prog 123 #[.pointer (some ⟨rp,0,none⟩),.int .u8 f,.int .i64 N] W fun e w'=>e=.returned (.agg #[.int .u8 t,.int .u32 nt])∧RdT w w' rp tb [] Fb n f N pl (no.map (rcT f no)) 0 0∧Mod [rp] wr w'):=fun W m=>(RdT.edge (f':=f) (i:=N) (nt:=nt) (t:=t) (left:=[]) (T10.out.mod m) (by omega) hnt (by omega) ht HT0.out h5 (by simp)).mono (by
      rintro e w' ⟨rfl,r,m2⟩
      exact ⟨rfl,r,(m.mono (S':=[rp]) (by simp)).trans' m2⟩)
     have HBk:=Lib.hid B
     clear B T10
     go_upto_region 20 with fail
     go_region_held3 (fun w'=>w'.cell? ⟨tb,1,none⟩=some (.int .u8 f)∧w'.cell? ⟨tb,3,none⟩=some (.int .i64 N)) (first | go_keep | (refine ⟨?_,?_⟩<;>go_simp)) (first | (go_at_call 123;refine (EU.out _ (by exact mods)).mono ?_;rintro e' w2 ⟨rfl,r2,M2⟩;have kb:=(M2.cell (a:=⟨tb,1,none⟩) hbl (by simpa using hne)).trans kb;have kc:=(M2.cell (a:=⟨tb,3,none⟩) hbl (by simpa using hne)).trans kc;have B2:=HBk.out.mod M2 (by simpa using hne);have k5:=B2.cell 5;have k6:=B2.cell 6;have fz:=B2.froz;simp only [List.getElem?_toArray,List.getElem?_cons_zero,List.getElem?_cons_succ] at k5 k6;have R2:=Lib.hid r2;replace B2:=Lib.hid B2;clear r2))
     all_goals
      have T11:Hid (RdT w ((w2.setCell ⟨tb,5,none⟩ (.int .u8 t)).setCell ⟨tb,6,none⟩ (.int .u32 nt)) rp tb [] Fb n f N pl (no.map (rcT f no)) t nt):=RdT.turn R2.out (((Mod.refl [tb] _).setCell _ _ (by simp)).setCell _ _ (by simp)) B2.out (by simpa using (B2.out.set 5 (.int .u8 t)).set 6 (.int .u32 nt))
      clear R2 B2 HBk EU k5 k6 fz M2 kb kc
      generalize (w2.setCell ⟨tb,5,none⟩ (.int .u8 t)).setCell ⟨tb,6,none⟩ (.int .u32 nt)=w11 at *
      obtain ⟨kb,-⟩:=T11.out.cells
      have EN:=Lib.hid (rdEnd_c T11.out.rd)
      have FM:=Lib.hid (isForm_c f h1 h5)
      go_wp2_with fail
      refine EN.out.mono ?_
      rintro e wz ⟨rfl,e2⟩
      subst e2
      go_wp2_with fail
      refine (FM.out _).mono ?_
      rintro e wy ⟨rfl,e2⟩
      subst e2
      go_wp2_with fail
      obtain ⟨vp,vl,Fp,Fl,O⟩:=T11.out.opn
      refine bodyPost_ret (by simp [results,Tryz.results75,go_sem];try rfl) rfl ?_
      exact ⟨tb,Fp,Fl,rfl,⟨vp,vl,O.blk,O.sp,O.sl,O.tp,O.tl,O.dis⟩,O.base,fun k hk=>O.ge k (by simp at hk;simp [hk])⟩
theorem numT_zero {no:List Tr} {T:Tr}:numT no T=0↔T=.leaf false:=by
 cases T with
 | leaf b=>cases b<;>simp [numT]
 | node t b tl x th y=>exact ⟨(fun h=>nomatch h),(fun h=>nomatch h)⟩
theorem numT_lf {no:List Tr} (c:Bool):numT no (.leaf c) < 2:=by cases c<;>simp [numT]
theorem idxOf_at {no:List Tr} {T:Tr} (h:T∈no):no[no.idxOf T]? =some T:=by simp [List.idxOf_lt_length_iff.2 h]
theorem numT_at {no:List Tr} (hn:no.Nodup) {j:Nat} {t b tl th:Nat} {x y:Tr} (h:no[j]? =some (.node t b tl x th y)):numT no (.node t b tl x th y)=j+2:=by
 have hm:=List.mem_of_getElem? h
 have e:=(List.getElem?_inj (List.idxOf_lt_length_iff.2 hm) hn).1 ((idxOf_at hm).trans h.symm)
 show no.idxOf (.node t b tl x th y)+2=_
 omega
theorem numT_inj {no:List Tr} {x y:Tr} (hx:(∃c,x=.leaf c)∨x∈no) (hy:(∃c,y=.leaf c)∨y∈no) (e:numT no x=numT no y):x=y:=by
 cases x with
 | leaf c=>
  cases y with
  | leaf d=>cases c<;>cases d<;>simp [numT] at e<;>rfl
  | node t b tl u th v=>
   have:=numT_lf (no:=no) c
   have h2:numT no (.node t b tl u th v)=no.idxOf (.node t b tl u th v)+2:=rfl
   omega
 | node t b tl u th v=>
  have h2:numT no (.node t b tl u th v)=no.idxOf (.node t b tl u th v)+2:=rfl
  cases y with
  | leaf d=>have:=numT_lf (no:=no) d;omega
  | node t' b' tl' u' th' v'=>
   have h3:numT no (.node t' b' tl' u' th' v')=no.idxOf (.node t' b' tl' u' th' v')+2:=rfl
   have hx':=hx.resolve_left (fun ⟨c,h⟩=>by cases h)
   have hy':=hy.resolve_left (fun ⟨c,h⟩=>by cases h)
   have e1:=idxOf_at hx'
   have e2:=idxOf_at hy'
   have:no.idxOf (Tr.node t b tl u th v)=no.idxOf (.node t' b' tl' u' th' v'):=by omega
   rw [this] at e1
   exact Option.some.inj (e1.symm.trans e2)
theorem plain_mv {f l n:Nat} {e e':Ed} (h:PlainE f e l n) (ha:e'.a=0↔e.a=0) (ht:e'.t=e.t):PlainE f e' l n:=by
 unfold PlainE at *
 rw [ht,ha]
 exact ⟨h.1,fun q1 q2=>h.2 q1 (fun q=>q2 (ha.2 q))⟩
structure NoS (L0:List Rc) (f n:Nat) (no:List Tr):Prop where
 clo:Clo no
 nd:no.Nodup
 rep:∀S∈no,∃id,Rep L0 f id S
 node:∀S∈no,∃t b tl x th y,S=.node t b tl x th y
 nd0:L0.Nodup
 good:Good L0 n
section
variable {L0:List Rc} {f n:Nat} {no:List Tr}
theorem rcT_at {i j:Nat} {x:Tr} (h:NoS L0 f n no) (hj:j < i) (e:no[j]? =some x):recAt ((no.take i).map (rcT f no)) (numT no x)=some (rcT f no x):=by
 obtain ⟨t,b,tl,u,th,v,rfl⟩:=h.node x (List.mem_of_getElem? e)
 rw [numT_at h.nd e]
 unfold recAt
 rw [if_pos (by omega),show j+2 - 2=j from by omega,List.getElem?_map,List.getElem?_take_of_lt hj,e]
 rfl
theorem lead_mv {i l m:Nat} {e:Ed} {x:Tr} (h:NoS L0 f n no) (hl:LeadsP L0 f e l m) (hr:Rep L0 f e.a x) (hx:(∃c,x=.leaf c)∨∃j,j < i∧no[j]? =some x):LeadsP ((no.take i).map (rcT f no)) f ⟨e.t,numT no x⟩ l m:=by
 have hz:numT no x=0↔e.a=0:=numT_zero.trans (RepE.zero_iff (x:=(e.t,x)) ⟨rfl,hr⟩).symm
 refine ⟨plain_mv hl.plain hz rfl,?_⟩
 rcases hx with ⟨c,rfl⟩ | ⟨j,hj,e1⟩
 ·exact .inl (numT_lf c)
 ·obtain ⟨t,b,tl,u,th,v,rfl⟩:=h.node x (List.mem_of_getElem? e1)
  have h2:=hr.two
  obtain ⟨r,q1,q2,q3,-⟩:=hr.inv
  refine .inr ⟨_,rcT_at h hj e1,rfl,?_⟩
  rcases hl.at_ with q | ⟨r',k1,k2,k3⟩
  ·omega
  ·rw [q1] at k1
   cases k1
   show l≤t∧e.t≤t∧t≤16
   rw [←q3]
   exact k3
theorem rcT_inj (h:NoS L0 f n no) {x y:Tr} (hx:x∈no) (hy:y∈no) (e:rcT f no x=rcT f no y):x=y:=by
 obtain ⟨i,hi⟩:=List.mem_iff_getElem?.1 hx
 obtain ⟨j,hj⟩:=List.mem_iff_getElem?.1 hy
 obtain ⟨t,b,tl,u,th,v,rfl⟩:=h.node x hx
 obtain ⟨t',b',tl',u',th',v',rfl⟩:=h.node y hy
 obtain ⟨a1,a2⟩:=h.clo _ _ _ _ _ _ _ hi
 obtain ⟨b1,b2⟩:=h.clo _ _ _ _ _ _ _ hj
 have m:∀{S:Tr} {k:Nat},((∃c,S=.leaf c)∨∃j,j < k∧no[j]? =some S)→(∃c,S=.leaf c)∨S∈no:=fun h=>h.imp id (fun ⟨j,_,e⟩=>List.mem_of_getElem? e)
 simp only [rcT,Rc.mk.injEq,Ed.mk.injEq] at e
 obtain ⟨-,rfl,rfl,⟨rfl,e1⟩,rfl,e2⟩:=e
 obtain rfl:=numT_inj (m a1) (m b1) e1
 obtain rfl:=numT_inj (m a2) (m b2) e2
 rfl
theorem rcT_good (h:NoS L0 f n no) {i:Nat} {T:Tr} (hi:no[i]? =some T):GoodR ((no.take i).map (rcT f no)) n (rcT f no T)∧(rcT f no T).f=f:=by
 have hm:=List.mem_of_getElem? hi
 obtain ⟨t,b,tl,x,th,y,rfl⟩:=h.node T hm
 obtain ⟨k0,hr⟩:=h.rep _ hm
 obtain ⟨r,h1,h2,rfl,rfl,rfl,rfl,rx,ry⟩:=hr.inv
 have g:=h.good k0 r h1
 obtain ⟨cx,cy⟩:=h.clo _ _ _ _ _ _ _ hi
 have m:∀{S:Tr} {k:Nat},((∃c,S=.leaf c)∨∃j,j < k∧no[j]? =some S)→(∃c,S=.leaf c)∨S∈no:=fun h=>h.imp id (fun ⟨j,_,e⟩=>List.mem_of_getElem? e)
 have ex:RepE L0 f r.lo (r.lo.t,x):=⟨rfl,rx⟩
 have ey:RepE L0 f r.hi (r.hi.t,y):=⟨rfl,ry⟩
 have gl:=g.lo
 have gh:=g.hi
 rw [h2] at gl gh
 have l1:=lead_mv h gl rx cx
 have l2:=lead_mv h gh ry cy
 have gr:=g.right
 refine ⟨⟨⟨?_,?_,gr.tb,gr.bn,gr.n16,?_,l1.plain,l2.plain,?_,?_⟩,l1,l2⟩,rfl⟩
 ·rw [←h2];exact gr.f1
 ·rw [←h2];exact gr.f5
 ·rw [←h2];exact gr.ch
 ·intro q
  show numT no y≠0
  rw [←h2] at q
  intro q2
  exact gr.z q (ey.zero_iff.2 (numT_zero.1 q2))
 ·intro q1 q2 q
  rw [←h2] at q1 q2
  simp only [rcT,Ed.mk.injEq] at q
  obtain ⟨e1,e2⟩:=q
  obtain rfl:=numT_inj (m cx) (m cy) e2
  exact gr.b q1 q2 ((RepE.eq_iff h.nd0 ex ey).2 (by rw [e1]))
theorem rcT_new (h:NoS L0 f n no) {i:Nat} {T:Tr} (hi:no[i]? =some T):fnd ((no.take i).map (rcT f no)) (rcT f no T)=((no.take (i+1)).map (rcT f no),i+2):=by
 have hlt:i < no.length:=(List.getElem?_eq_some_iff.1 hi).1
 have hm:=List.mem_of_getElem? hi
 have hno:rcT f no T∉(no.take i).map (rcT f no):=by
  intro q
  obtain ⟨S,hS,e⟩:=List.mem_map.1 q
  obtain rfl:=rcT_inj h (List.mem_of_mem_take hS) hm e
  obtain ⟨j,hj⟩:=List.mem_iff_getElem?.1 hS
  obtain ⟨hl,-⟩:=List.getElem?_eq_some_iff.1 hj
  rw [List.length_take] at hl
  rw [List.getElem?_take_of_lt (by omega)] at hj
  have:=(List.getElem?_inj hlt h.nd).1 (hi.trans hj.symm)
  omega
 unfold fnd
 rw [if_neg hno,List.take_add_one,hi,List.map_append,List.length_map,List.length_take]
 simp;omega
theorem rep_mv (h:NoS L0 f n no):∀T:Tr,((∃c,T=.leaf c)∨T∈no)→Rep (no.map (rcT f no)) f (numT no T) T:=by
 intro T
 induction T with
 | leaf b=>intro _;cases b;exact .zero;exact .one
 | node t b tl x th y ihx ihy=>
  intro hT
  have hm:=hT.resolve_left (fun ⟨c,h⟩=>by cases h)
  obtain ⟨i,hi⟩:=List.mem_iff_getElem?.1 hm
  obtain ⟨cx,cy⟩:=h.clo _ _ _ _ _ _ _ hi
  have m:∀{S:Tr} {k:Nat},((∃c,S=.leaf c)∨∃j,j < k∧no[j]? =some S)→(∃c,S=.leaf c)∨S∈no:=fun h=>h.imp id (fun ⟨j,_,e⟩=>List.mem_of_getElem? e)
  have hlt:i < no.length:=(List.getElem?_eq_some_iff.1 hi).1
  have e:=rcT_at h hlt hi
  rw [List.take_length] at e
  exact Rep.node (r:=rcT f no (.node t b tl x th y)) e rfl (ihx (m cx)) (ihy (m cy))
theorem okNo (h:NoS L0 f n no):OkNo f no:=by
 intro i T hi
 have hm:=List.mem_of_getElem? hi
 obtain ⟨g,-⟩:=rcT_good h hi
 obtain ⟨t,b,tl,x,th,y,rfl⟩:=h.node T hm
 obtain ⟨cx,cy⟩:=h.clo _ _ _ _ _ _ _ hi
 have gr:=g.right
 have hn16:=gr.n16
 have htb:t≤b:=gr.tb
 have hbn:b < n:=gr.bn
 have pl:PlainE f ⟨tl,numT no x⟩ (b+1) n:=gr.lo
 have ph:PlainE f ⟨th,numT no y⟩ (b+1) n:=gr.hi
 have bound:∀{tg:Nat} {S:Tr},PlainE f ⟨tg,numT no S⟩ (b+1) n→tg≤16∧(¬(f=5∧0 < numT no S)→tg=0):=fun {tg S} q=>by
  refine ⟨?_,fun k=>q.1 ?_⟩
  ·by_cases c:f≠5∨numT no S=0
   ·have:=q.1 c;simp at this;omega
   ·have:=(q.2 (by omega) (by simp;omega)).2;simp at this;omega
  ·show f≠5∨numT no S=0;omega
 have num:∀{S:Tr},((∃c,S=.leaf c)∨∃j,j < i∧no[j]? =some S)→numT no S≤i+1:=fun {S} q=>by
  rcases q with ⟨c,rfl⟩ | ⟨j,hj,e⟩
  ·have:=numT_lf (no:=no) c;omega
  ·obtain ⟨t,b,tl,u,th,v,rfl⟩:=h.node _ (List.mem_of_getElem? e)
   rw [numT_at h.nd e];omega
 have ee:∀(tg:Nat) (S:Tr),edgeB f no tg S=eB f (numT no S) tg:=fun tg S=>by
  unfold edgeB eB
  by_cases c:S=.leaf false
  ·rw [if_neg (by simp [c]),if_neg (by rw [numT_zero.2 c];omega)];rfl
  ·have:numT no S≠0:=fun q=>c (numT_zero.1 q)
   by_cases f5:f=5
   ·rw [if_pos ⟨f5,c⟩,if_pos ⟨f5,by omega⟩];rfl
   ·rw [if_neg (fun q=>f5 q.1),if_neg (fun q=>f5 q.1)];rfl
 refine ⟨t,b,tl,x,th,y,rfl,by omega,by omega,(bound pl).1,(bound ph).1,num cx,num cy,(bound pl).2,(bound ph).2,fun q=>?_,?_⟩
 ·have:=gr.ch
  simp only [rcT] at this
  omega
 ·show [t]++(if f=3∨f=4 then [b] else [])++edgeB f no tl x++edgeB f no th y=_
  rw [ee,ee]
end
open Go.RowKit
def IdsP (w:World) (ci g N k:Nat):Prop:=
 ∃xs:List Nat,Blk w ci #[.slice (some ⟨g,0,none⟩) N N] 159∧Sl w 37 1 (.slice (some ⟨g,0,none⟩) N N) N (xs.map eu) [g]∧xs.length=N∧(∀j,j < k→xs[j]? =some (j+2))∧ci≠g
theorem IdsP.mod {S:List Nat} {w w':World} {ci g N k:Nat} (h:IdsP w ci g N k) (m:Mod S w w') (h1:ci∉S) (h2:g∉S):IdsP w' ci g N k:=by
 obtain ⟨xs,a,b,c,d,e⟩:=h
 exact ⟨xs,a.mod m h1,b.mod m (by simpa using h2),c,d,e⟩
theorem IdsP.set {w:World} {ci g N k:Nat} (h:IdsP w ci g N k) (hk:k < N):IdsP (w.setCell ⟨g,k,none⟩ (.int .u32 ((k+2:Nat):Int))) ci g N (k+1):=by
 obtain ⟨xs,a,b,c,d,e⟩:=h
 have m:Mod [g] w (w.setCell ⟨g,k,none⟩ (.int .u32 ((k+2:Nat):Int))):=(Mod.refl _ _).setCell _ _ (by simp)
 refine ⟨xs.set k (k+2),a.mod m (by simpa using e),?_,by rw [List.length_set];exact c,fun j hj=>?_,e⟩
 ·rw [List.map_set];exact b.set k (eu (k+2))
 ·rw [List.getElem?_set]
  by_cases q:k=j
  ·subst q;rw [if_pos rfl,if_pos (by omega)]
  ·rw [if_neg q];exact d j (by omega)
theorem IdsP.at {w:World} {ci g N k:Nat} (h:IdsP w ci g N k) {j:Nat} (hj:j < k) (hk:k≤N):w.cell? ⟨g,j,none⟩=some (.int .u32 ((j+2:Nat):Int)):=by
 obtain ⟨xs,a,b,c,d,e⟩:=h
 obtain ⟨e1,e2,-⟩:=b.at j (by omega)
 rw [List.getElem?_map,d j hj] at e1
 exact e1.symm▸rfl
theorem putAt_c {w:World} {ci g N k t a:Nat} (h:IdsP w ci g N k) (hk:k≤N) (hN:N≤60) (ha:a < k+2):
 Calls Tryz.prog 77 #[.agg #[.int .u8 t,.int .u32 a],.pointer (some ⟨ci,0,none⟩)] w fun e w'=>e=.returned (.agg #[.int .u8 t,.int .u32 a])∧Mod [] w w':=by
 have hci:w.cell? ⟨ci,0,none⟩=some (.slice (some ⟨g,0,none⟩) N N):=by
  obtain ⟨xs,q,-⟩:=h;exact q.cell 0
 have hcl:=World.block_lt_of_cell? w _ hci
 have HA:=Lib.hid (fun j (hj:j < k)=>h.at hj hk)
 clear h
 have hai:(a:Int)≤62:=by omega
 by_cases h2:2≤a
 ·have h2':(2:Int)≤a:=by omega
  have hx:=HA.out (a - 2) (by omega)
  rw [show (a - 2+2:Nat)=a from by omega] at hx
  have hgl:=World.block_lt_of_cell? w _ hx
  obtain ⟨j,hj⟩:∃j,a - 2=j:=⟨_,rfl⟩
  rw [hj] at hx
  obtain rfl:a=j+2:=by omega
  go_enter Tryz.func77,Tryz.ntmps77
  go_wp2_with fail
  go_returns
  exact ⟨by simp,by exact mods⟩
 ·have h2':¬(2:Int)≤a:=by omega
  go_enter Tryz.func77,Tryz.ntmps77
  go_wp2_with fail
  go_returns
  exact ⟨by simp,by exact mods⟩
theorem made32 (w:World) (n:Nat) (hn:n≤10000):(Instr.makeSlice 159 (.int .i64 n) (.int .i64 n)).run Tryz.prog w=.ok (.slice (some ⟨w.heap.size,0,none⟩) n n) (w.alloc (.cells (madeCells #[.int .u32 0] n) 37)):=by
 obtain ⟨i0,hi,hz0,hz1,hz2⟩:=info_parts Tryz.infoU
 have:=run_make (P:=Tryz.prog) w 159 37 i0 _ Tryz.underlying159 hi hz0 .i64 .i64 n n (by omega) (by omega) (by rw [hz2];omega) (by omega)
 simpa [hz1,Value.cells] using this
structure PutI (w wr:World) (tb n f N:Nat) (pl:List Nat) (rl:List Rc) (t a:Nat) (Fp Fl:List Nat) (b room ci g ge k:Nat) (F F':List Nat):Prop where
 tx:TxB wr tb n f N pl rl t a Fp Fl
 st:Sto wr b n room (rl.take k) F'
 gr:Grow w wr F F'
 ids:IdsP wr ci g N k
 res:Blk wr ge #[.int .u8 0,.int .u32 0] 39
 tlt:∀x∈tb::(Fp++Fl),x < w.heap.size∧x∉F
 new:w.heap.size≤ci∧w.heap.size≤g∧w.heap.size≤ge
 out:ci∉F'∧g∉F'∧ge∉F'
 ne:ci≠g∧ge≠ci∧ge≠g
section
variable {w wr:World} {tb n f N:Nat} {pl:List Nat} {rl:List Rc} {t a:Nat} {Fp Fl:List Nat} {b room ci g ge k:Nat} {F F':List Nat}
theorem PutI.mod (h:PutI w wr tb n f N pl rl t a Fp Fl b room ci g ge k F F') {S:List Nat} {w':World} (m:Mod S wr w') (hS:∀k∈S,wr.heap.size≤k):PutI w w' tb n f N pl rl t a Fp Fl b room ci g ge k F F':=by
 have hs:=h.gr.size
 obtain ⟨h1,h2,h3,h4,h5,h6,h7,h8,h9⟩:=h
 have hg:g < wr.heap.size:=by obtain ⟨xs,q1,q2,-⟩:=h4;exact q2.lt g (by simp)
 have hc:ci < wr.heap.size:=by obtain ⟨xs,q1,q2,-⟩:=h4;exact q1.lt
 have n1:∀{x},x < wr.heap.size→x∉S:=fun hx q=>by have:=hS _ q;omega
 exact ⟨h1.mod m (fun x hx=>n1 (by have:=(h6 x hx).1;omega)),h2.mod m (fun x hx=>n1 (h2.st.lt x hx)),h3.write m (fun x hx=>by have:=hS x hx;omega),h4.mod m (n1 hc) (n1 hg),h5.mod m (n1 h5.lt),h6,h7,h8,h9⟩
theorem PutI.wrote (h:PutI w wr tb n f N pl rl t a Fp Fl b room ci g ge k F F') {S:List Nat} {w':World} (m:Mod S wr w') (hS:∀x∈S,w.heap.size≤x∧x∉F'∧x≠g∧x≠ci∧x≠ge):PutI w w' tb n f N pl rl t a Fp Fl b room ci g ge k F F':=by
 obtain ⟨h1,h2,h3,h4,h5,h6,h7,h8,h9⟩:=h
 exact ⟨h1.mod m (fun x hx q=>by have:=(h6 x hx).1;have:=(hS x q).1;omega),h2.mod m (fun x hx q=>(hS x q).2.1 hx),h3.write m (fun x hx=>(hS x hx).1),h4.mod m (fun q=>(hS _ q).2.2.2.1 rfl) (fun q=>(hS _ q).2.2.1 rfl),h5.mod m (fun q=>(hS _ q).2.2.2.2 rfl),h6,h7,h8,h9⟩
theorem PutI.step (h:PutI w wr tb n f N pl rl t a Fp Fl b room ci g ge k F F') (hk:k < N) {w':World} {F'':List Nat} (s:Sto w' b n room (rl.take (k+1)) F'') (m:Mod F' wr w') (o:∀x∈F'',x∈F'∨wr.heap.size≤x):PutI w (w'.setCell ⟨g,k,none⟩ (.int .u32 ((k+2:Nat):Int))) tb n f N pl rl t a Fp Fl b room ci g ge (k+1) F F'':=by
 have hs:=h.gr.size
 have G:=h.gr.trans ⟨m,o⟩
 obtain ⟨h1,h2,h3,h4,h5,h6,h7,h8,h9⟩:=h
 have hg:g < wr.heap.size:=by obtain ⟨xs,q1,q2,-⟩:=h4;exact q2.lt g (by simp)
 have hc:ci < wr.heap.size:=by obtain ⟨xs,q1,q2,-⟩:=h4;exact q1.lt
 have he:=h5.lt
 have m1:Mod [g] w' (w'.setCell ⟨g,k,none⟩ (.int .u32 ((k+2:Nat):Int))):=(Mod.refl _ _).setCell _ _ (by simp)
 have out:∀x,x < wr.heap.size→x∉F'→x∉F'':=fun x q1 q2 q=>(o x q).elim q2 (fun q=>by omega)
 have tout:∀x∈tb::(Fp++Fl),x∉F':=fun x hx=>h3.out (h6 x hx).1 (h6 x hx).2
 refine ⟨(h1.mod m tout).mod m1 (fun x hx q=>?_),s.mod m1 (fun x hx q=>?_),G.write m1 (fun x hx=>?_),(h4.mod m h8.1 h8.2.1).set hk,(h5.mod m h8.2.2).mod m1 (by simpa using h9.2.2),h6,h7,⟨out _ hc h8.1,out _ hg h8.2.1,out _ he h8.2.2⟩,h9⟩
 ·simp only [List.mem_singleton] at q;subst q;have:=(h6 x hx).1;omega
 ·simp only [List.mem_singleton] at q;subst q;exact out _ hg h8.2.1 hx
 ·simp only [List.mem_singleton] at hx;subst hx;exact h7.2.1
theorem PutI.hd (h:PutI w wr tb n f N pl rl t a Fp Fl b room ci g ge k F F'):∃vp vl,Blk wr tb #[.int .i64 n,.int .u8 f,vp,.int .i64 N,vl,.int .u8 t,.int .u32 a] 90∧Sl wr 134 7 vl rl.length (recs rcl rl) Fl:=by
 obtain ⟨vp,vl,q1,q2,q3,-⟩:=h.tx
 exact ⟨vp,vl,q1,q3⟩
end
open Go.RowKit
def PutT (w:World) (b n room:Nat) (rl:List Rc) (F:List Nat) (t a:Nat) (e:Ending) (w':World):Prop:=
 ∃F',e=.returned (.tuple #[.agg #[.int .u8 t,.int .u32 a],.int .u8 0])∧Sto w' b n room rl F'∧Grow w w' F F'
theorem find_s {W:World} {b n room k f N:Nat} {no:List Tr} {L0:List Rc} {F:List Nat} {T:Tr} (hno:NoS L0 f n no) (hS:Sto W b n room ((no.map (rcT f no)).take k) F) (hk:no[k]? =some T) (hN:no.length=N) (hN60:N≤60) (hroom:N≤room) (hrm:room≤1048576) (hn:n≤16):
 Calls Tryz.prog 78 #[.pointer (some ⟨b,0,none⟩),rcv (rcT f no T)] W fun e w'=>e=.returned (.tuple #[.int .u32 ((k:Int)+2),.int .u8 0])∧∃F',Sto w' b n room ((no.map (rcT f no)).take (k+1)) F'∧Mod F W w'∧∀x∈F',x∈F∨W.heap.size≤x:=by
 have hlt:k < no.length:=(List.getElem?_eq_some_iff.1 hk).1
 obtain ⟨g,ef⟩:=rcT_good hno hk
 have e:=rcT_new hno hk
 rw [List.map_take] at g e
 rw [List.map_take] at e
 have hl:((no.map (rcT f no)).take k).length=k:=by rw [List.length_take,List.length_map];omega
 refine (stFind_c hS.st (by omega) (by omega) hrm hn (rcT f no T) g.right g.lo g.hi).mono ?_
 rintro e' w' ⟨rfl,F',s,m,o⟩
 have hgood:=hS.good.fnd g
 have hnd:=fnd_nodup hS.nd (rcT f no T)
 rw [e] at s hgood hnd ⊢
 exact ⟨rfl,F',⟨s,hgood,hnd⟩,m,o⟩
theorem textPut_c {w:World} {tb n f N t a b room:Nat} {pl:List Nat} {no:List Tr} {L0:List Rc} {Fp Fl F:List Nat} (hT:TxB w tb n f N pl (no.map (rcT f no)) t a Fp Fl) (hS:Sto w b n room [] F) (hd:∀x∈tb::(Fp++Fl),x∉F) (hN:no.length=N) (hN60:N≤60) (hno:NoS L0 f n no) (h1:1≤f) (h5:f≤5) (hn:n≤16) (hroom:N≤room) (hrm:room≤1048576) (ha:a < N+2):
 Calls Tryz.prog 36 #[.pointer (some ⟨tb,0,none⟩),.pointer (some ⟨b,0,none⟩)] w (PutT w b n room (no.map (rcT f no)) F t a):=by
 obtain ⟨ge,hge⟩:∃ge,w.heap.size=ge:=⟨_,rfl⟩
 obtain ⟨vp,vl,hB,hsp,hsl,tp,tl,dis⟩:=hT
 have TX:Hid (TxB w tb n f N pl (no.map (rcT f no)) t a Fp Fl):=⟨vp,vl,hB,hsp,hsl,tp,tl,dis⟩
 obtain ⟨AL,capl,rfl,hcapl⟩:=hsl.shape
 rw [List.length_map,hN] at hB hcapl
 have hkl:=hB.cell 4
 simp only [List.getElem?_toArray,List.getElem?_cons_zero,List.getElem?_cons_succ] at hkl
 have hbl:=hB.lt
 have HS:=Lib.hid hS
 have HD:=Lib.hid hd
 have HNO:=Lib.hid hno
 have HN:=Lib.hid hN
 have LT:Hid ((∀x∈Fp,x < w.heap.size)∧(∀x∈Fl,x < w.heap.size)):=⟨hsp.lt,hsl.lt⟩
 have hN':(N:Int)≤60:=by omega
 have hmk:=fun w=>made32 w N (by omega)
 rw [List.length_map,hN] at hsl
 have HSL:=Lib.hid hsl
 have HKL:=Lib.hid hkl
 have HTF:=Lib.hid (hd tb (by simp))
 have HLF:Hid (∀x∈Fl,x∉F):=fun x hx=>hd x (by simp [hx])
 clear hsp hsl tp tl dis hS hd hno hN hB
 rw [hge] at hbl
 have nt1:¬tb=ge:=by omega
 have nt2:¬ge=tb:=by omega
 have nt3:¬tb=ge+1:=by omega
 have nt4:¬tb=ge+1+1:=by omega
 go_enter Tryz.func36,Tryz.ntmps36
 go_upto_region 3 with fail
 have I0:Hid (PutI w (((w.alloc (.cells #[.int .u8 0,.int .u32 0] 39)).alloc (.cells (madeCells #[.int .u32 0] N) 37)).alloc (.cells #[.slice (some ⟨ge+1,0,none⟩) N N] 159)) tb n f N pl (no.map (rcT f no)) t a Fp Fl b room (ge+1+1) (ge+1) ge 0 F F):=by
  have M:Mod [] w (((w.alloc (.cells #[.int .u8 0,.int .u32 0] 39)).alloc (.cells (madeCells #[.int .u32 0] N) 37)).alloc (.cells #[.slice (some ⟨ge+1,0,none⟩) N N] 159)):=by exact mods
  have fl:∀x∈F,x < ge:=fun x hx=>by have:=HS.out.st.lt x hx;omega
  refine ⟨TX.out.mod M (by simp),HS.out.mod M (by simp),Grow.of_mod M,⟨List.replicate N 0,?_,?_,by simp,by omega,by omega⟩,((Blk.new' w _ _ ge hge.symm).alloc _).alloc _,fun x hx=>⟨?_,HD.out x hx⟩,⟨by omega,by omega,by omega⟩,⟨fun h=>?_,fun h=>?_,fun h=>?_⟩,by omega,by omega,by omega⟩
  ·exact Blk.new' ((w.alloc (.cells #[.int .u8 0,.int .u32 0] 39)).alloc (.cells (madeCells #[.int .u32 0] N) 37)) _ _ (ge+1+1) (by simp [hge])
  ·have h:=Sl.made1 (w.alloc (.cells #[.int .u8 0,.int .u32 0] 39)) 37 N (.int .u32 0) (by unfold maxLen;omega) (ge+1) (by simp [hge])
   have h2:=h.mod (S:=[]) ((Mod.refl _ _).alloc (.cells #[.slice (some ⟨ge+1,0,none⟩) N N] 159)) (by simp)
   simpa [eu] using h2
  ·simp only [List.mem_cons,List.mem_append] at hx
   rcases hx with rfl | hx | hx
   ·omega
   ·exact LT.out.1 x hx
   ·exact LT.out.2 x hx
  ·have:=fl _ h;omega
  ·have:=fl _ h;omega
  ·have:=fl _ h;omega
 clear TX HS HD LT hkl hmk nt1 nt2 nt3 nt4
 generalize ((w.alloc (.cells #[.int .u8 0,.int .u32 0] 39)).alloc (.cells (madeCells #[.int .u32 0] N) 37)).alloc (.cells #[.slice (some ⟨ge+1,0,none⟩) N N] 159)=w3 at *
 have kl:w3.cell? ⟨tb,4,none⟩=some (.slice AL N capl):=(I0.out.gr.mod.cell (by simpa [hge] using hbl) HTF.out).trans HKL.out
 clear hge
 go_wp2_with fail
 go_loopw [24] (fun i wr=>∃k:Nat,∃F',k≤N∧i=.int .i64 k∧Hid (PutI w wr tb n f N pl (no.map (rcT f no)) t a Fp Fl b room (ge+1+1) (ge+1) ge k F F')) (fun i _=>(N - intOf i).toNat)
 case atStart=>exact ⟨0,F,by omega,rfl,I0⟩
 case round=>
  clear I0 kl
  obtain ⟨k,F',hk,rfl,I1⟩:=hrel
  by_cases hlt:k < N
  ·have hlt':(k:Int) < N:=by omega
   have hk1:k < no.length:=by rw [HN.out];exact hlt
   have hk2:k < (no.map (rcT f no)).length:=by rw [List.length_map];exact hk1
   obtain ⟨gl,cap,e,-,-⟩:=HSL.out.pos (by omega)
   simp only [Value.slice.injEq] at e
   obtain ⟨rfl,-,rfl⟩:=e
   have GJ:Hid (no[k]? =some no[k]):=List.getElem?_eq_getElem hk1
   have SLr:=HSL.out.mod I1.out.gr.mod HLF.out
   have hat:∀j,j < 7→wr.cell? ⟨gl,k *7+j,none⟩=(rcl (rcT f no no[k]))[j]? :=fun j hj=>by
    rw [(SLr.at (k *7+j) (by omega)).1,recs_get rcl_len _ _ _ hk2 hj,List.getElem_map]
   obtain ⟨z0,z1,z2,z3,z4,z5,z6⟩:_∧_∧_∧_∧_∧_∧_:=⟨hat 0 (by omega),hat 1 (by omega),hat 2 (by omega),hat 3 (by omega),hat 4 (by omega),hat 5 (by omega),hat 6 (by omega)⟩
   clear hat SLr
   generalize no[k]=T at *
   obtain ⟨tt,bb,tl,x,th,y,rfl,ht15,hb15,htl,hth,hnx,hny,-⟩:=okNo HNO.out k T GJ.out
   simp only [rcT,rcl,List.getElem?_cons_zero,List.getElem?_cons_succ,Nat.add_zero] at z0 z1 z2 z3 z4 z5 z6
   go_upto_region 6 with fail
   obtain ⟨gq,hgq⟩:∃gq,wr.heap.size=gq:=⟨_,rfl⟩
   rw [hgq]
   have B9:=Lib.hid (Blk.new' wr #[.int .u8 f,.int .u8 tt,.int .u8 bb,.int .u8 tl,.int .u32 (numT no x),.int .u8 th,.int .u32 (numT no y)] 134 gq hgq.symm)
   have I2:=Lib.hid (I1.out.mod (S:=[]) ((Mod.refl _ _).alloc (.cells #[.int .u8 f,.int .u8 tt,.int .u8 bb,.int .u8 tl,.int .u32 (numT no x),.int .u8 th,.int .u32 (numT no y)] 134)) (by simp))
   have hq:gq∉F':=fun h=>by have:=I1.out.st.st.lt gq h;omega
   have HQ:Hid (gq∉F'∧w.heap.size≤gq∧gq≠ge+1∧gq≠ge+1+1∧gq≠ge):=by
    have q1:=I1.out.res.lt
    obtain ⟨xs,q2,q3,-⟩:=I1.out.ids
    have q4:=q2.lt
    have q5:=q3.lt (ge+1) (by simp)
    have q6:=I1.out.gr.size
    exact ⟨hq,by omega,by omega,by omega,by omega⟩
   clear hq hgq I1 z0 z1 z2 z3 z4 z5 z6
   generalize wr.alloc (.cells #[.int .u8 f,.int .u8 tt,.int .u8 bb,.int .u8 tl,.int .u32 (numT no x),.int .u8 th,.int .u32 (numT no y)] 134)=wb at *
   have hql:=B9.out.lt
   obtain ⟨-,-,-,c3,c4,c5,c6⟩:=B9.out.cells7
   have fz:=B9.out.froz
   have AT:Hid (∀(W:World) (t a:Nat),Mod [] wb W→a < k+2→Calls Tryz.prog 77 #[.agg #[.int .u8 t,.int .u32 a],.pointer (some ⟨ge+1+1,0,none⟩)] W fun e w'=>e=.returned (.agg #[.int .u8 t,.int .u32 a])∧Mod [] W w'∧Mod [] wb w'):=fun W t' a' m q=>(putAt_c (I2.out.ids.mod m (by simp) (by simp)) hk hN60 q).mono (by
    rintro e w' ⟨rfl,m2⟩
    exact ⟨rfl,m2,m.trans' m2⟩)
   have hx2:numT no x < k+2:=by omega
   have hy2:numT no y < k+2:=by omega
   go_cut [8] from 29 to 38 (fun o wx=>o=.int .i64 k∧Hid (Mod [gq] wb wx∧Blk wx gq #[.int .u8 f,.int .u8 tt,.int .u8 bb,.int .u8 tl,.int .u32 (numT no x),.int .u8 th,.int .u32 (numT no y)] 134))
   case first=>
    go_region_held3 (fun w'=>w'.cell? ⟨gq,3,none⟩=some (.int .u8 tl)∧w'.cell? ⟨gq,4,none⟩=some (.int .u32 (numT no x))∧w'.cell? ⟨gq,5,none⟩=some (.int .u8 th)∧w'.cell? ⟨gq,6,none⟩=some (.int .u32 (numT no y))) (first | go_keep | (refine ⟨?_,?_,?_,?_⟩<;>go_simp)) (first | (go_at_call 77;refine (AT.out _ _ _ (by first | assumption | exact mods) (by assumption)).mono ?_;rintro e' w2 ⟨rfl,m2,M2⟩;have BX:=Lib.hid (B9.out.mod M2 (by simp));obtain ⟨-,-,-,c3,c4,c5,c6⟩:=BX.out.cells7;have fz:=BX.out.froz))
    all_goals (go_wp2_with fail;go_meet)
    all_goals exact ⟨rfl,(((((M2.mono (by simp)).setCell _ _ (by simp)).setCell _ _ (by simp)).setCell _ _ (by simp)).setCell _ _ (by simp)),by simpa using (((BX.out.set 3 (.int .u8 tl)).set 4 (.int .u32 (numT no x))).set 5 (.int .u8 th)).set 6 (.int .u32 (numT no y))⟩
   case rest=>
    obtain ⟨rfl,HX⟩:=hcut
    have I3:=Lib.hid (I2.out.wrote HX.out.1 (fun k hk=>by simp only [List.mem_singleton] at hk;subst hk;exact ⟨HQ.out.2.1,HQ.out.1,HQ.out.2.2⟩))
    have B9':=Lib.hid HX.out.2
    clear AT c3 c4 c5 c6 fz hx2 hy2 I2 B9 HX hql
    generalize wc=wd at *
    obtain ⟨c0,c1,c2,c3,c4,c5,c6⟩:=B9'.out.cells7
    have FD:=Lib.hid (find_s HNO.out I3.out.st GJ.out HN.out hN60 hroom hrm hn)
    unfold rcv rcT at FD
    go_wp2_with fail
    refine FD.out.mono ?_
    rintro e w5 ⟨rfl,F'',s5,m5,o5⟩
    have I4:=Lib.hid (I3.out.step hlt s5 m5 o5)
    rw [show ((k+2:Nat):Int)=(k:Int)+2 from rfl] at I4
    have kc:w5.cell? ⟨ge+1+1,0,none⟩=some (.slice (some ⟨ge+1,0,none⟩) N N):=by
     obtain ⟨xs,q,-⟩:=I3.out.ids
     exact (m5.cell (a:=⟨ge+1+1,0,none⟩) q.lt I3.out.out.1).trans (q.cell 0)
    obtain ⟨vx,kd,kf⟩:∃vx,w5.cell? ⟨ge+1,k,none⟩=some vx∧w5.frozen? ⟨ge+1,k,none⟩=false:=by
     obtain ⟨xs,q,q2,q3,-⟩:=I3.out.ids
     obtain ⟨e1,e2,-⟩:=q2.at k (by omega)
     have hl:=q2.lt (ge+1) (by simp)
     rw [List.getElem?_map,List.getElem?_eq_getElem (by omega)] at e1
     exact ⟨_,(m5.cell (a:=⟨ge+1,k,none⟩) hl I3.out.out.2.1).trans e1,(m5.froz (a:=⟨ge+1,k,none⟩) hl I3.out.out.2.1).trans e2⟩
    clear FD c0 c1 c2 c3 c4 c5 c6 I3 s5 m5 o5
    go_wp2_with fail
    exact ⟨⟨k+1,F'',by omega,by simp,I4⟩,by simp [intOf];omega⟩
  ·have hlt':¬(k:Int) < N:=by omega
   have hkn:k=N:=by omega
   have AT:Hid (∀W,Mod [] wr W→Calls Tryz.prog 77 #[.agg #[.int .u8 t,.int .u32 a],.pointer (some ⟨ge+1+1,0,none⟩)] W fun e w'=>e=.returned (.agg #[.int .u8 t,.int .u32 a])∧Mod [] W w'∧Mod [] wr w'):=fun W m=>(putAt_c (I1.out.ids.mod m (by simp) (by simp)) hk hN60 (by omega)).mono (by
    rintro e w' ⟨rfl,m2⟩
    exact ⟨rfl,m2,m.trans' m2⟩)
   obtain ⟨vp',vl',B,-⟩:=I1.out.hd
   have c5:=B.cell 5
   have c6:=B.cell 6
   simp only [List.getElem?_toArray,List.getElem?_cons_zero,List.getElem?_cons_succ] at c5 c6
   clear B
   go_wp2_with fail
   refine (AT.out _ (Mod.refl _ _)).mono ?_
   rintro e w7 ⟨rfl,m7,-⟩
   have I5:=Lib.hid (I1.out.mod m7 (by simp))
   clear AT c5 c6 m7 I1
   obtain ⟨y0,y1⟩:=I5.out.res.cells2
   obtain ⟨f0,f1,-⟩:=I5.out.res.frozs
   have BW:=Lib.hid ((I5.out.res.set 0 (.int .u8 t)).set 1 (.int .u32 a))
   have MW:Hid (Mod [ge] w7 ((w7.setCell ⟨ge,0,none⟩ (.int .u8 t)).setCell ⟨ge,1,none⟩ (.int .u32 a))):=((Mod.refl _ _).setCell _ _ (by simp)).setCell _ _ (by simp)
   go_wp2_with fail
   generalize (w7.setCell ⟨ge,0,none⟩ (.int .u8 t)).setCell ⟨ge,1,none⟩ (.int .u32 a)=w8 at *
   clear y0 y1 f0 f1
   have BW':=BW.out
   simp only [List.setIfInBounds_toArray,List.set_cons_zero,List.set_cons_succ] at BW'
   obtain ⟨g0,g1⟩:=BW'.cells2
   refine bodyPost_ret (v:=.tuple #[.agg #[.int .u8 t,.int .u32 a],.int .u8 0]) (by simp [results,Tryz.results36,go_sem,g0,g1];try rfl) rfl ?_
   have sto:=I5.out.st
   rw [List.take_of_length_le (by rw [List.length_map,HN.out];omega)] at sto
   refine ⟨F',rfl,sto.mod MW.out (fun x hx q=>?_),I5.out.gr.write MW.out (fun x hx=>?_)⟩
   ·simp only [List.mem_singleton] at q;subst q;exact I5.out.out.2.2 hx
   ·simp only [List.mem_singleton] at hx;subst hx;exact I5.out.new.2.2
end Go.Proofs.YtnbjnnijifiaaaaGreatDoor
