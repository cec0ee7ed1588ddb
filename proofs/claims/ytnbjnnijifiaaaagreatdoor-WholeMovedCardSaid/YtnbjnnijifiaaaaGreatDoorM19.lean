/- M19: Xa · Xd · Xe -/
import Derived.Test.YtnbjnnijifiaaaaGreatDoorM17
import Derived.Test.YtnbjnnijifiaaaaGreatDoorM18
import Derived.Deep.CutRange
import Derived.Test.YtnbjnnijifiaaaaGreatDoorM10
import Derived.Test.YtnbjnnijifiaaaaGreatDoorM07
set_option maxRecDepth 100000
set_option maxHeartbeats 4000000
set_option linter.unusedVariables false
set_option linter.unusedSimpArgs false
namespace Go.Proofs.YtnbjnnijifiaaaaGreatDoor
open Go.RowKit
theorem at_step {f:Nat} (h1:1≤f) (h5:f≤5) {bt b n room lv bm d l:Nat} (hrm:room≤1048576) (hn:n≤16) (hld:l+d=lv) (hlv:lv+1 < n) (ih:∀d',d=d'+1→AtC bt b n room lv bm f d' (l+1)):AtC bt b n room lv bm f d l:=by
 intro w L F m k et ea t hB S hK hbF hmF hE hr1 hr2 hm
 have hlk:=hE.lk
 obtain ⟨het,hea⟩:=hE.small hn (by have:=cst_pos d;omega)
 obtain ⟨k,rfl⟩:∃k',k=k'+2:=⟨k - 2,by omega⟩
 have VW:Hid (∀(W:World) (L':List Rc) (F':List Nat) (et ea:Nat) (t':List Bool),Sto W b n room L' F'→L'.length < room→L'.length≤100000→EdT L' f n (k+2) l ⟨et,ea⟩ t'→
  Calls Tryz.prog 129 #[.pointer (some ⟨b,0,none⟩),.int .u8 f,.agg #[.int .u8 et,.int .u32 ea],.int .i64 l] W (VwT W b n room L' F' f (k+1) l t')):=fun W L' F' et ea t' s a1 a2 e=>by
  have h:=view_s h1 h5 s a2 a1 hrm hn e
  unfold edv at h
  exact h
 have MK:Hid (∀(W:World) (L':List Rc) (F':List Nat) (et ea et2 ea2:Nat) (t' u':List Bool),Sto W b n room L' F'→L'.length < room→L'.length≤100000→EdT L' f n (k+1) (l+1) ⟨et,ea⟩ t'→EdT L' f n (k+1) (l+1) ⟨et2,ea2⟩ u'→
  Calls Tryz.prog 66 #[.pointer (some ⟨b,0,none⟩),.int .u8 f,.int .i64 l,.agg #[.int .u8 et,.int .u32 ea],.agg #[.int .u8 et2,.int .u32 ea2]] W (MkT W b n room L' F' f (k+2) l (t'++u'))):=fun W L' F' et ea et2 ea2 t' u' s a1 a2 e e'=>by
  have h:=make_s h1 h5 s a2 a1 hrm hn e e'
  unfold edv at h
  exact h
 obtain ⟨gk,hgk⟩:∃gk,w.heap.size=gk:=⟨_,rfl⟩
 have hbl:=hB.lt
 have hml:=hK.lt
 have FL:=Lib.hid S.st.lt
 obtain ⟨k0,k1,k2⟩:w.cell? ⟨bt,0,none⟩=some (.pointer (some ⟨b,0,none⟩))∧w.cell? ⟨bt,1,none⟩=some (.int .i64 lv)∧w.cell? ⟨bt,2,none⟩=some (.map (some bm)):=⟨hB.cell 0,hB.cell 1,hB.cell 2⟩
 obtain ⟨vt,va,ok,LKt,LKw⟩:∃(vt va:Nat) (ok:Bool),Hid (ok=true→EdT L f n (k+2) l ⟨vt,va⟩ (swpT d (k+2) t))∧Hid (∀(W:World),Mod [] w W→(Instr.lookup 165 (.map (some bm)) (.agg #[.int .u8 f,.int .u8 et,.int .u32 ea,.int .i64 l]) true).run Tryz.prog W=.ok (.tuple #[.agg #[.int .u8 vt,.int .u32 va],.bool ok]) W):=by
  rcases hK.look_all (f:=f) (e:=⟨et,ea⟩) (l:=l) h5 (by simp only;omega) hea (by omega) with ⟨⟨xt,xa⟩,hk,hrun⟩ | hrun
  ·refine ⟨xt,xa,true,fun _=>?_,fun W mW=>hrun [] W mW (by simp)⟩
   have:=hk.tell h1 h5 hE
   rw [show lv - l=d by omega] at this
   exact this
  ·exact ⟨0,0,false,(fun h=>by cases h),fun W mW=>hrun [] W mW (by simp)⟩
 have HB:=Lib.hid hB
 have HS:=Lib.hid S
 have HKM:=Lib.hid hK
 have KMl:Hid (bm < gk):=by have:=hK.lt;show _ < _;omega
 have HBT:Hid (bt < gk):=by show _ < _;omega
 have HE:=Lib.hid hE
 have RM:=Lib.hid (And.intro hr1 (And.intro hr2 hm))
 have IH:=Lib.hid ih
 have HLD:=Lib.hid hld
 clear hB S hK hE hr1 hr2 hm hlk ih
 have hl16:(l:Int)≤16:=by omega
 clear hld
 have hlv16:(lv:Int)≤16:=by omega
 have gn1:¬bt=gk:=by omega
 have gn2:¬gk=bt:=by omega
 have gn3:¬bt=gk+1:=by omega
 have M0:Hid (Mod [] w ((w.alloc (.cells #[.int .u8 f,.int .u8 et,.int .u32 ea,.int .i64 l] 170)).alloc (.cells #[.int .u8 0,.int .u32 0] 39))):=by exact mods
 have k0:=(M0.out.cell (a:=⟨bt,0,none⟩) hbl (by simp)).trans k0
 have k2:=(M0.out.cell (a:=⟨bt,2,none⟩) hbl (by simp)).trans k2
 have B_p:=Lib.hid ((Blk.new' w #[.int .u8 f,.int .u8 et,.int .u32 ea,.int .i64 l] 170 gk hgk.symm).alloc (.cells #[.int .u8 0,.int .u32 0] 39))
 have B_r:=Lib.hid (Blk.new' (w.alloc (.cells #[.int .u8 f,.int .u8 et,.int .u32 ea,.int .i64 l] 170)) #[.int .u8 0,.int .u32 0] 39 (gk+1) (by simp [hgk]))
 have hsz:((w.alloc (.cells #[.int .u8 f,.int .u8 et,.int .u32 ea,.int .i64 l] 170)).alloc (.cells #[.int .u8 0,.int .u32 0] 39)).heap.size=gk+2:=by simp [hgk]
 go_enter Tryz.func82,Tryz.ntmps82
 go_upto_region 1 with fail
 generalize (w.alloc (.cells #[.int .u8 f,.int .u8 et,.int .u32 ea,.int .i64 l] 170)).alloc (.cells #[.int .u8 0,.int .u32 0] 39)=w1 at *
 have ST:=Lib.hid (HS.out.mod M0.out (by simp))
 have KM:=Lib.hid (HKM.out.mod M0.out (by simp))
 have B_bt:=Lib.hid (HB.out.mod M0.out (by simp))
 have G0:=Lib.hid (Grow.of_mod (F:=F) M0.out)
 have n_bt:=hbF
 have n_p:gk∉F:=fun h=>by have:=FL.out _ h;omega
 have n_r:gk+1∉F:=fun h=>by have:=FL.out _ h;omega
 have hw1:gk+2≤w1.heap.size:=by omega
 obtain ⟨gs,hgs⟩:∃gs,w1.heap.size=gs:=⟨_,rfl⟩
 have hgl:gk+2≤gs:=by omega
 have LK0:=fun (W:World) (mW:Mod [] w1 W)=>LKw.out W (M0.out.trans' mW)
 have LK1:=LK0 w1.drew (by exact mods)
 have LK2:=fun o=>LK0 (w1.alloc o).drew (by exact mods)
 clear LK0 hsz HB hbF M0 HS hbl hml
 have hb1:=B_bt.out.lt
 have hp1:=B_p.out.lt
 obtain ⟨p0,p1,p2,p3⟩:w1.cell? ⟨gk,0,none⟩=some (.int .u8 f)∧w1.cell? ⟨gk,1,none⟩=some (.int .u8 et)∧w1.cell? ⟨gk,2,none⟩=some (.int .u32 ea)∧w1.cell? ⟨gk,3,none⟩=some (.int .i64 l):=⟨B_p.out.cell 0,B_p.out.cell 1,B_p.out.cell 2,B_p.out.cell 3⟩
 have pq:∀o,(w1.alloc o).cell? ⟨gk,0,none⟩=some (.int .u8 f)∧(w1.alloc o).cell? ⟨gk,1,none⟩=some (.int .u8 et)∧(w1.alloc o).cell? ⟨gk,2,none⟩=some (.int .u32 ea)∧(w1.alloc o).cell? ⟨gk,3,none⟩=some (.int .i64 l):=fun o=>⟨(B_p.out.alloc o).cell 0,(B_p.out.alloc o).cell 1,(B_p.out.alloc o).cell 2,(B_p.out.alloc o).cell 3⟩
 have pq0:=fun o=>(pq o).1
 have pq1:=fun o=>(pq o).2.1
 have pq2:=fun o=>(pq o).2.2.1
 have pq3:=fun o=>(pq o).2.2.2
 have kq2:∀o,(w1.alloc o).cell? ⟨bt,2,none⟩=some (.map (some bm)):=fun o=>(B_bt.out.alloc o).cell 2
 clear pq
 have gn4:¬bt=gs:=by omega
 have gn5:¬gk=gs:=by omega
 have gn6:¬gs=bt:=by omega
 have gn7:¬gs=gk:=by omega
 go_cut [6,7] from 12 to 20 (fun p o wx=>∃(g:Nat),p=.pointer (some ⟨g,0,none⟩)∧o=.bool ok∧Hid (Blk wx g #[.int .u8 vt,.int .u32 va] 39)∧Hid (Mod [] w1 wx)∧gs≤g)
 case first=>
  go_region
  all_goals (go_wp2_with fail;go_meet)
  all_goals exact ⟨gs,rfl,rfl,Blk.drew (Blk.new' w1 _ _ gs hgs.symm),by exact mods,Nat.le_refl _⟩
 case rest=>
  obtain ⟨gv,rfl,rfl,B_v,MV,l_v⟩:=hcut
  generalize wc=w3 at *
  replace ST:=Lib.hid (ST.out.mod MV.out (by simp))
  replace KM:=Lib.hid (KM.out.mod MV.out (by simp))
  replace B_bt:=Lib.hid (B_bt.out.mod MV.out (by simp))
  replace B_p:=Lib.hid (B_p.out.mod MV.out (by simp))
  replace B_r:=Lib.hid (B_r.out.mod MV.out (by simp))
  replace G0:=Lib.hid (G0.out.then MV.out)
  have n_v:gv∉F:=fun h=>by have:=FL.out _ h;omega
  have hw3:gk+2≤w3.heap.size:=Nat.le_trans hw1 MV.out.size
  clear LK1 LK2 k0 k1 k2 p0 p1 p2 p3 pq0 pq1 pq2 pq3 kq2 hb1 hp1 gn4 gn5 gn6 gn7 MV LKw
  cases ok with
  | true=>
   have XE:=Lib.hid (LKt.out rfl)
   clear LKt
   obtain ⟨v0,v1⟩:=B_v.out.cells2
   obtain ⟨e0,e1⟩:=B_r.out.cells2
   obtain ⟨f0,f1,-⟩:=B_r.out.frozs
   have i1:¬gv=gk+1:=by omega
   have i2:¬gk+1=gv:=by omega
   go_wp2_with fail
   have MS:=Lib.hid (set2_mod (Mod.refl [gk+1] w3) (gk+1) ⟨vt,va⟩ (fun _=>by simp))
   obtain ⟨g0,g1⟩:=(set2_blk B_r.out ⟨vt,va⟩).cells2
   change bodyPost _ _ _ _ _ (set2 w3 (gk+1) ⟨vt,va⟩)
   generalize set2 w3 (gk+1) ⟨vt,va⟩=X at *
   clear v0 v1 e0 e1 f0 f1
   simp only at g0 g1
   refine bodyPost_ret (by simp [results,Tryz.results82,g0,g1,go_sem];try rfl) rfl ?_
   refine ⟨vt,va,[],F,m,rfl,?_,(G0.out.write MS.out (by intro k hk;simp at hk;omega)).cons bm,hmF,?_,by omega,?_,by simp⟩
   ·rw [List.append_nil];exact ST.out.mod MS.out (fun k hk h=>by simp at h;subst h;exact n_r hk)
   ·rw [List.append_nil];exact KM.out.mod MS.out (by simp;rintro rfl;have:=KMl.out;omega)
   ·rw [List.append_nil];exact XE.out
  | false=>
   clear LKt B_v n_v l_v
   go_upto_region 4 with fail
   obtain ⟨gs,hgs⟩:∃gs,w3.heap.size=gs:=⟨_,rfl⟩
   have hgsF:gs∉F:=fun h=>by have:=ST.out.st.lt _ h;omega
   have hgtF:gs+1∉F:=fun h=>by have:=ST.out.st.lt _ h;omega
   have ny:¬gk=gs:=by omega
   have nz:¬gs=gk:=by omega
   have h_bt:=B_bt.out.lt
   have na_bt:¬bt=gs:=by omega
   have nb_bt:¬gs=bt:=by omega
   have nc_bt:¬bt=gs+1:=by omega
   have nd_bt:¬gs+1=bt:=by omega
   have h_p:=B_p.out.lt
   have na_p:¬gk=gs:=by omega
   have nb_p:¬gs=gk:=by omega
   have nc_p:¬gk=gs+1:=by omega
   have nd_p:¬gs+1=gk:=by omega
   have k0:=B_bt.out.cell 0
   simp only [List.getElem?_toArray,List.getElem?_cons_zero,List.getElem?_cons_succ] at k0
   obtain ⟨p0,p1,p2,p3⟩:w3.cell? ⟨gk,0,none⟩=some (.int .u8 f)∧w3.cell? ⟨gk,1,none⟩=some (.int .u8 et)∧w3.cell? ⟨gk,2,none⟩=some (.int .u32 ea)∧w3.cell? ⟨gk,3,none⟩=some (.int .i64 l):=⟨B_p.out.cell 0,B_p.out.cell 1,B_p.out.cell 2,B_p.out.cell 3⟩
   go_cut [8,9,10] from 23 to 37 (fun p q o wx=>∃(ga gb lt la ht ha:Nat) (L2:List Rc) (F2:List Nat),p=.pointer (some ⟨ga,0,none⟩)∧q=.pointer (some ⟨gb,0,none⟩)∧o=.int .u8 0∧Hid (Two w3 wx b n room (L++L2) F F2 ga gb ⟨lt,la⟩ ⟨ht,ha⟩)∧Hid (EdT (L++L2) f n (k+1) (l+1) ⟨lt,la⟩ (t.take (2 ^ (k+1))))∧Hid (EdT (L++L2) f n (k+1) (l+1) ⟨ht,ha⟩ (t.drop (2 ^ (k+1))))∧L2.length≤1)
   case first=>
    go_region_held3 (fun w'=>w'.cell? ⟨bt,0,none⟩=some (.pointer (some ⟨b,0,none⟩))∧w'.cell? ⟨gk,0,none⟩=some (.int .u8 f)∧w'.cell? ⟨gk,1,none⟩=some (.int .u8 et)∧w'.cell? ⟨gk,2,none⟩=some (.int .u32 ea)∧w'.cell? ⟨gk,3,none⟩=some (.int .i64 l)) (go_keep) (first | (go_at_call 129;refine (VW.out _ L F et ea t (ST.out.mod (show Mod [] w3 _ from by exact mods) (by simp)) (by have:=RM.out;have:=cst_pos d;omega) (by have:=RM.out;have:=cst_pos d;omega) HE.out).mono ?_;rintro e' w2 ⟨lt,la,ht,ha,L2,F2,rfl,s2,⟨m_w2,o2⟩,tl2,th2,hl2⟩;have M_w2:=Mod.trans' (show Mod _ w3 _ from by exact mods) m_w2;have k0:=(M_w2.cell (a:=⟨bt,0,none⟩) h_bt (by first | assumption | (simp;assumption))).trans k0;have p0:=(M_w2.cell (a:=⟨gk,0,none⟩) h_p (by first | assumption | (simp;assumption))).trans p0;have p1:=(M_w2.cell (a:=⟨gk,1,none⟩) h_p (by first | assumption | (simp;assumption))).trans p1;have p2:=(M_w2.cell (a:=⟨gk,2,none⟩) h_p (by first | assumption | (simp;assumption))).trans p2;have p3:=(M_w2.cell (a:=⟨gk,3,none⟩) h_p (by first | assumption | (simp;assumption))).trans p3;have h_bt:=Nat.lt_of_lt_of_le h_bt M_w2.size;have h_p:=Nat.lt_of_lt_of_le h_p M_w2.size;have hBx:=fun c ty g (hg:g∉_) (h:Blk _ g c ty)=>h.mod m_w2 hg;first | (have za:=hBx _ _ gs hgsF (((Blk.new' w3 _ _ gs hgs.symm).alloc _).drew);have zc:=hBx _ _ (gs+1) hgtF ((Blk.new' (w3.alloc _) _ _ (gs+1) (by simp [hgs])).drew);have zz0:=za.cell 0;have zz1:=za.cell 1;simp only [List.getElem?_toArray,List.getElem?_cons_zero,List.getElem?_cons_succ] at zz0 zz1;have zzf:=za.froz;have yy0:=zc.cell 0;have yy1:=zc.cell 1;simp only [List.getElem?_toArray,List.getElem?_cons_zero,List.getElem?_cons_succ] at yy0 yy1;have yyf:=zc.froz;have oq:∀k∈F2,k∈F∨gs+2≤k:=fun k hk=>(o2 k hk).imp (fun h=>h) (fun q=>by simp [hgs] at q;omega);have o_w2:∀k∈F2,k∈F∨w3.heap.size≤k:=fun k hk=>(oq k hk).imp (fun h=>h) (fun q=>by omega);have hfs:gs∉F2:=fun h=>(oq _ h).elim hgsF (fun q=>by omega);have hfs1:gs+1∉F2:=fun h=>(oq _ h).elim hgtF (fun q=>by omega);skip) | (have za:=hBx _ _ gs hgsF ((Blk.new' w3 _ _ gs hgs.symm).drew);have zz0:=za.cell 0;have zz1:=za.cell 1;simp only [List.getElem?_toArray,List.getElem?_cons_zero,List.getElem?_cons_succ] at zz0 zz1;have zzf:=za.froz;obtain ⟨gr,hgr⟩:∃gr,w2.heap.size=gr:=⟨_,rfl⟩;have hzl:=za.lt;have gr1:¬gs=gr:=(fun h=>by omega);have gr2:¬gr=gs:=(fun h=>by omega);have xx0:=fun o=>(za.alloc o).cell 0;have xx1:=fun o=>(za.alloc o).cell 1;simp only [List.getElem?_toArray,List.getElem?_cons_zero,List.getElem?_cons_succ] at xx0 xx1;have xxf:=fun o=>(za.alloc o).froz;have zg:=Blk.new' w2 #[.int .u8 0,.int .u32 0] 39 gr hgr.symm;have gg0:=zg.cell 0;have gg1:=zg.cell 1;simp only [List.getElem?_toArray,List.getElem?_cons_zero,List.getElem?_cons_succ] at gg0 gg1;have ggf:=zg.froz;have oq:∀k∈F2,k∈F∨gs+1≤k:=fun k hk=>(o2 k hk).imp (fun h=>h) (fun q=>by simp [hgs] at q;omega);have o_w2:∀k∈F2,k∈F∨w3.heap.size≤k:=fun k hk=>(oq k hk).imp (fun h=>h) (fun q=>by omega);have hfs:gs∉F2:=fun h=>(oq _ h).elim hgsF (fun q=>by omega);have nb0:¬bt=gr:=(fun h=>by omega);have nc0:¬gr=bt:=(fun h=>by omega);have nd0:¬bt=gr+1:=(fun h=>by omega);have ne0:¬gr+1=bt:=(fun h=>by omega);have nb1:¬gk=gr:=(fun h=>by omega);have nc1:¬gr=gk:=(fun h=>by omega);have nd1:¬gk=gr+1:=(fun h=>by omega);have ne1:¬gr+1=gk:=(fun h=>by omega);skip) | (obtain ⟨gr,hgr⟩:∃gr,w2.heap.size=gr:=⟨_,rfl⟩;have za:=(Blk.new' w2 #[.int .u8 0,.int .u32 0] 39 gr hgr.symm).alloc (.cells #[.int .u8 0,.int .u32 0] 39);have zc:=Blk.new' (w2.alloc (.cells #[.int .u8 0,.int .u32 0] 39)) #[.int .u8 0,.int .u32 0] 39 (gr+1) (by simp [hgr]);have zz0:=za.cell 0;have zz1:=za.cell 1;simp only [List.getElem?_toArray,List.getElem?_cons_zero,List.getElem?_cons_succ] at zz0 zz1;have zzf:=za.froz;have yy0:=zc.cell 0;have yy1:=zc.cell 1;simp only [List.getElem?_toArray,List.getElem?_cons_zero,List.getElem?_cons_succ] at yy0 yy1;have yyf:=zc.froz;have nb0:¬bt=gr:=(fun h=>by omega);have nc0:¬gr=bt:=(fun h=>by omega);have nd0:¬bt=gr+1:=(fun h=>by omega);have ne0:¬gr+1=bt:=(fun h=>by omega);have nb1:¬gk=gr:=(fun h=>by omega);have nc1:¬gr=gk:=(fun h=>by omega);have nd1:¬gk=gr+1:=(fun h=>by omega);have ne1:¬gr+1=gk:=(fun h=>by omega);have o_w2:∀k∈F2,k∈F∨w3.heap.size≤k:=fun k hk=>(o2 k hk).imp (fun h=>h) (fun q=>q))))
    all_goals (go_wp2_with fail;go_meet)
    all_goals first
     | exact ⟨gr,gr+1,lt,la,ht,ha,L2,F2,rfl,rfl,rfl,(Two.new ⟨lt,la⟩ ⟨ht,ha⟩ M_w2 o_w2 s2 hgr).1,tl2,th2,hl2⟩
     | exact ⟨gr+1,gr,lt,la,ht,ha,L2,F2,rfl,rfl,rfl,(Two.new ⟨lt,la⟩ ⟨ht,ha⟩ M_w2 o_w2 s2 hgr).2,tl2,th2,hl2⟩
     | exact ⟨gs,gr,lt,la,ht,ha,L2,F2,rfl,rfl,rfl,(Two.half ⟨lt,la⟩ ⟨ht,ha⟩ M_w2 o_w2 s2 hgr (Nat.le_of_eq hgs) hfs za).1,tl2,th2,hl2⟩
     | exact ⟨gr,gs,lt,la,ht,ha,L2,F2,rfl,rfl,rfl,(Two.half ⟨lt,la⟩ ⟨ht,ha⟩ M_w2 o_w2 s2 hgr (Nat.le_of_eq hgs) hfs za).2,tl2,th2,hl2⟩
     | exact ⟨gs,gs+1,lt,la,ht,ha,L2,F2,rfl,rfl,rfl,(Two.old ⟨lt,la⟩ ⟨ht,ha⟩ M_w2 o_w2 s2 (Nat.le_of_eq hgs) hfs hfs1 za zc).1,tl2,th2,hl2⟩
     | exact ⟨gs+1,gs,lt,la,ht,ha,L2,F2,rfl,rfl,rfl,(Two.old ⟨lt,la⟩ ⟨ht,ha⟩ M_w2 o_w2 s2 (Nat.le_of_eq hgs) hfs hfs1 za zc).2,tl2,th2,hl2⟩
   case rest=>
    obtain ⟨ga,gb,aT,aA,bT,bA,LA,FA,rfl,rfl,rfl,TW,E_a,E_b,hlA⟩:=hcut
    clear p0 p1 p2 p3 k0 hgs hgsF hgtF ny nz h_bt na_bt nb_bt nc_bt nd_bt h_p na_p nb_p nc_p nd_p
    replace KM:=Lib.hid (KM.out.mod TW.out.gr.mod hmF)
    have hmA:=TW.out.gr.out (by have:=KMl.out;omega) hmF
    generalize wc=wa at *
    replace ST:=Lib.hid TW.out.st
    have hn:=TW.out.gr.out B_bt.out.lt n_bt
    replace B_bt:=Lib.hid (B_bt.out.mod TW.out.gr.mod n_bt)
    replace n_bt:=hn
    clear hn
    have hn:=TW.out.gr.out B_p.out.lt n_p
    replace B_p:=Lib.hid (B_p.out.mod TW.out.gr.mod n_p)
    replace n_p:=hn
    clear hn
    have hn:=TW.out.gr.out B_r.out.lt n_r
    replace B_r:=Lib.hid (B_r.out.mod TW.out.gr.mod n_r)
    replace n_r:=hn
    clear hn
    have B_a:=Lib.hid TW.out.ba
    have B_b:=Lib.hid TW.out.bb
    have n_a:=TW.out.af
    have n_b:=TW.out.bf
    have d_ab:=TW.out.ne
    have l_a:gk+2≤ga:=Nat.le_trans hw3 TW.out.al
    have l_b:gk+2≤gb:=Nat.le_trans hw3 TW.out.bl
    have hw4:gk+2≤wa.heap.size:=Nat.le_trans hw3 TW.out.gr.size
    replace G0:=Lib.hid (G0.out.trans TW.out.gr)
    clear TW
    have k1:=B_bt.out.cell 1
    simp only [List.getElem?_toArray,List.getElem?_cons_zero,List.getElem?_cons_succ] at k1
    obtain ⟨p0,p1,p2,p3⟩:wa.cell? ⟨gk,0,none⟩=some (.int .u8 f)∧wa.cell? ⟨gk,1,none⟩=some (.int .u8 et)∧wa.cell? ⟨gk,2,none⟩=some (.int .u32 ea)∧wa.cell? ⟨gk,3,none⟩=some (.int .i64 l):=⟨B_p.out.cell 0,B_p.out.cell 1,B_p.out.cell 2,B_p.out.cell 3⟩
    have h_bt:=B_bt.out.lt
    have h_p:=B_p.out.lt
    by_cases hd0:d=0
    ·subst hd0
     obtain rfl:lv=l:=by have:=HLD.out;omega
     have CR:Hid (∀W,Mod [] wa W→Calls Tryz.prog 130 #[.pointer (some ⟨bt,0,none⟩),.int .u8 f,.agg #[.int .u8 aT,.int .u32 aA],.agg #[.int .u8 bT,.int .u32 bA]] W (CrT W b n room (L++LA) FA f k (lv+1) (t.take (2 ^ (k+1))) (t.drop (2 ^ (k+1))))):=fun W mW=>by
      have h:=cross_c (lo:=⟨aT,aA⟩) (hi:=⟨bT,bA⟩) h1 h5 (B_bt.out.mod mW (by simp)) (ST.out.mod mW (by simp)) n_bt (by have:=RM.out;simp only [cst] at this;rw [List.length_append];omega) (by have:=RM.out;simp only [cst] at this;rw [List.length_append];omega) hrm hn E_a.out E_b.out
      unfold edv at h
      exact h
     have heq:((lv:Int)==(lv:Int))=true:=by simp
     obtain ⟨a0,a1⟩:=B_a.out.cells2
     obtain ⟨b0,b1⟩:=B_b.out.cells2
     go_wp2_with fail
     go_region
     go_wp2_with fail
     refine (CR.out _ (by exact mods)).mono ?_
     rintro e w5 ⟨xT,xA,yT,yA,LB,FB,rfl,sB,gB0,E_x,E_y,hlB⟩
     have gB:=Lib.hid ((Grow.of_mod (F:=FA) (show Mod [] wa _ from by exact mods)).trans gB0)
     clear gB0 CR k1 p0 p1 p2 p3 h_bt h_p a0 a1 b0 b1
     replace KM:=Lib.hid (KM.out.mod gB.out.mod hmA)
     have hmB:=gB.out.out (by have:=KMl.out;omega) hmA
     have hn:=gB.out.out B_bt.out.lt n_bt
     replace B_bt:=Lib.hid (B_bt.out.mod gB.out.mod n_bt)
     replace n_bt:=hn
     clear hn
     have hn:=gB.out.out B_p.out.lt n_p
     replace B_p:=Lib.hid (B_p.out.mod gB.out.mod n_p)
     replace n_p:=hn
     clear hn
     have hn:=gB.out.out B_r.out.lt n_r
     replace B_r:=Lib.hid (B_r.out.mod gB.out.mod n_r)
     replace n_r:=hn
     clear hn
     have hn:=gB.out.out B_a.out.lt n_a
     replace B_a:=Lib.hid (B_a.out.mod gB.out.mod n_a)
     replace n_a:=hn
     clear hn
     have hn:=gB.out.out B_b.out.lt n_b
     replace B_b:=Lib.hid (B_b.out.mod gB.out.mod n_b)
     replace n_b:=hn
     clear hn
     replace G0:=Lib.hid (G0.out.trans gB.out)
     have hw5:gk+2≤w5.heap.size:=Nat.le_trans hw4 gB.out.size
     replace ST:=Lib.hid sB
     have EX:=Lib.hid E_x
     have EY:=Lib.hid E_y
     clear sB E_x E_y
     obtain ⟨e0,e1⟩:=B_a.out.cells2
     obtain ⟨e2,e3⟩:=B_b.out.cells2
     obtain ⟨f0,f1,-⟩:=B_a.out.frozs
     obtain ⟨f2,f3,-⟩:=B_b.out.frozs
     have i1:¬ga=gb:=d_ab
     have i2:¬gb=ga:=fun h=>d_ab h.symm
     go_upto_region 14 with fail
     have MSa:=set2_mod (Mod.refl [ga] w5) ga ⟨xT,xA⟩ (fun _=>by simp)
     have MSb:=set2_mod (Mod.refl [gb] (set2 w5 ga ⟨xT,xA⟩)) gb ⟨yT,yA⟩ (fun _=>by simp)
     have MS:=(MSa.mono (S':=[ga,gb]) (by intro i _ h;simp at h;simp [h])).trans MSb (by intro i _ h;simp at h;simp [h])
     replace B_a:=Lib.hid ((set2_blk B_a.out ⟨xT,xA⟩).mod MSb (by simpa using d_ab))
     replace B_b:=Lib.hid (set2_blk (B_b.out.mod MSa (by simpa using Ne.symm d_ab)) ⟨yT,yA⟩)
     replace ST:=Lib.hid (ST.out.mod MS (by intro i hi h;simp at h;rcases h with rfl | rfl;exact n_a hi;exact n_b hi))
     replace KM:=Lib.hid (KM.out.mod MS (by have:=KMl.out;simp;omega))
     replace B_bt:=Lib.hid (B_bt.out.mod MS (by have:=HBT.out;simp;omega))
     replace B_p:=Lib.hid (B_p.out.mod MS (by simp;omega))
     replace B_r:=Lib.hid (B_r.out.mod MS (by simp;omega))
     replace G0:=Lib.hid (G0.out.write MS (by intro i hi;simp at hi;omega))
     have hw6:gk+2≤(set2 (set2 w5 ga ⟨xT,xA⟩) gb ⟨yT,yA⟩).heap.size:=Nat.le_trans hw5 MS.size
     have hXW:set2 (set2 w5 ga ⟨xT,xA⟩) gb ⟨yT,yA⟩=(((w5.setCell ⟨ga,0,none⟩ (.int .u8 xT)).setCell ⟨ga,1,none⟩ (.int .u32 xA)).setCell ⟨gb,0,none⟩ (.int .u8 yT)).setCell ⟨gb,1,none⟩ (.int .u32 yA):=rfl
     rw [←hXW]
     clear hXW MSa MSb MS e0 e1 e2 e3 f0 f1 f2 f3 i1 i2
     generalize set2 (set2 w5 ga ⟨xT,xA⟩) gb ⟨yT,yA⟩=w6 at *
     obtain ⟨gs,hgs⟩:∃gs,w6.heap.size=gs:=⟨_,rfl⟩
     have hgsF:gs∉FB:=fun h=>by have:=ST.out.st.lt _ h;omega
     have hgtF:gs+1∉FB:=fun h=>by have:=ST.out.st.lt _ h;omega
     have ny:¬gk=gs:=by omega
     have nz:¬gs=gk:=by omega
     have h_bt:=B_bt.out.lt
     have na_bt:¬bt=gs:=by omega
     have nb_bt:¬gs=bt:=by omega
     have nc_bt:¬bt=gs+1:=by omega
     have nd_bt:¬gs+1=bt:=by omega
     have h_p:=B_p.out.lt
     have na_p:¬gk=gs:=by omega
     have nb_p:¬gs=gk:=by omega
     have nc_p:¬gk=gs+1:=by omega
     have nd_p:¬gs+1=gk:=by omega
     have h_a:=B_a.out.lt
     have na_a:¬ga=gs:=by omega
     have nb_a:¬gs=ga:=by omega
     have nc_a:¬ga=gs+1:=by omega
     have nd_a:¬gs+1=ga:=by omega
     have h_b:=B_b.out.lt
     have na_b:¬gb=gs:=by omega
     have nb_b:¬gs=gb:=by omega
     have nc_b:¬gb=gs+1:=by omega
     have nd_b:¬gs+1=gb:=by omega
     have k0:=B_bt.out.cell 0
     simp only [List.getElem?_toArray,List.getElem?_cons_zero,List.getElem?_cons_succ] at k0
     obtain ⟨p0,p1,p2,p3⟩:w6.cell? ⟨gk,0,none⟩=some (.int .u8 f)∧w6.cell? ⟨gk,1,none⟩=some (.int .u8 et)∧w6.cell? ⟨gk,2,none⟩=some (.int .u32 ea)∧w6.cell? ⟨gk,3,none⟩=some (.int .i64 lv):=⟨B_p.out.cell 0,B_p.out.cell 1,B_p.out.cell 2,B_p.out.cell 3⟩
     obtain ⟨q0,q1⟩:=B_a.out.cells2
     obtain ⟨u0,u1⟩:=B_b.out.cells2
     go_cut [11,10] from 89 to 102 (fun p o wx=>∃(ga lt la:Nat) (L2:List Rc) (F2:List Nat),p=.pointer (some ⟨ga,0,none⟩)∧o=.int .u8 0∧Hid (One w6 wx b n room ((L++LA++LB)++L2) FB F2 ga ⟨lt,la⟩)∧Hid (EdT ((L++LA++LB)++L2) f n (k+2) lv ⟨lt,la⟩ (((t.take (2 ^ (k+1))).take (2 ^ k)++(t.drop (2 ^ (k+1))).take (2 ^ k))++((t.take (2 ^ (k+1))).drop (2 ^ k)++(t.drop (2 ^ (k+1))).drop (2 ^ k))))∧L2.length≤1)
     case first=>
      go_region_held3 (fun w'=>w'.cell? ⟨bt,0,none⟩=some (.pointer (some ⟨b,0,none⟩))∧w'.cell? ⟨gk,0,none⟩=some (.int .u8 f)∧w'.cell? ⟨gk,3,none⟩=some (.int .i64 lv)∧w'.cell? ⟨ga,0,none⟩=some (.int .u8 xT)∧w'.cell? ⟨ga,1,none⟩=some (.int .u32 xA)∧w'.cell? ⟨gb,0,none⟩=some (.int .u8 yT)∧w'.cell? ⟨gb,1,none⟩=some (.int .u32 yA)) (go_keep) (first | (go_at_call 66;refine (MK.out _ (L++LA++LB) FB xT xA yT yA _ _ (ST.out.mod (show Mod [] w6 _ from by exact mods) (by simp)) (by have:=RM.out;simp only [cst] at this;simp only [List.length_append];omega) (by have:=RM.out;simp only [cst] at this;simp only [List.length_append];omega) EX.out EY.out).mono ?_;rintro e' w2 ⟨lt,la,L2,F2,rfl,s2,⟨m_w2,o2⟩,tl2,hl2⟩;have M_w2:=Mod.trans' (show Mod _ w6 _ from by exact mods) m_w2;have k0:=(M_w2.cell (a:=⟨bt,0,none⟩) h_bt (by first | assumption | (simp;assumption))).trans k0;have p0:=(M_w2.cell (a:=⟨gk,0,none⟩) h_p (by first | assumption | (simp;assumption))).trans p0;have p3:=(M_w2.cell (a:=⟨gk,3,none⟩) h_p (by first | assumption | (simp;assumption))).trans p3;have q0:=(M_w2.cell (a:=⟨ga,0,none⟩) h_a (by first | assumption | (simp;assumption))).trans q0;have q1:=(M_w2.cell (a:=⟨ga,1,none⟩) h_a (by first | assumption | (simp;assumption))).trans q1;have u0:=(M_w2.cell (a:=⟨gb,0,none⟩) h_b (by first | assumption | (simp;assumption))).trans u0;have u1:=(M_w2.cell (a:=⟨gb,1,none⟩) h_b (by first | assumption | (simp;assumption))).trans u1;have h_bt:=Nat.lt_of_lt_of_le h_bt M_w2.size;have h_p:=Nat.lt_of_lt_of_le h_p M_w2.size;have h_a:=Nat.lt_of_lt_of_le h_a M_w2.size;have h_b:=Nat.lt_of_lt_of_le h_b M_w2.size;have hBx:=fun c ty g (hg:g∉_) (h:Blk _ g c ty)=>h.mod m_w2 hg;first | (have za:=hBx _ _ gs hgsF ((Blk.new' w6 _ _ gs hgs.symm).drew);have zz0:=za.cell 0;have zz1:=za.cell 1;simp only [List.getElem?_toArray,List.getElem?_cons_zero,List.getElem?_cons_succ] at zz0 zz1;have zzf:=za.froz;obtain ⟨gr,hgr⟩:∃gr,w2.heap.size=gr:=⟨_,rfl⟩;have hzl:=za.lt;have gr1:¬gs=gr:=(fun h=>by omega);have gr2:¬gr=gs:=(fun h=>by omega);have xx0:=fun o=>(za.alloc o).cell 0;have xx1:=fun o=>(za.alloc o).cell 1;simp only [List.getElem?_toArray,List.getElem?_cons_zero,List.getElem?_cons_succ] at xx0 xx1;have xxf:=fun o=>(za.alloc o).froz;have zg:=Blk.new' w2 #[.int .u8 0,.int .u32 0] 39 gr hgr.symm;have gg0:=zg.cell 0;have gg1:=zg.cell 1;simp only [List.getElem?_toArray,List.getElem?_cons_zero,List.getElem?_cons_succ] at gg0 gg1;have ggf:=zg.froz;have oq:∀k∈F2,k∈FB∨gs+1≤k:=fun k hk=>(o2 k hk).imp (fun h=>h) (fun q=>by simp [hgs] at q;omega);have o_w2:∀k∈F2,k∈FB∨w6.heap.size≤k:=fun k hk=>(oq k hk).imp (fun h=>h) (fun q=>by omega);have hfs:gs∉F2:=fun h=>(oq _ h).elim hgsF (fun q=>by omega);have nb0:¬bt=gr:=(fun h=>by omega);have nc0:¬gr=bt:=(fun h=>by omega);have nd0:¬bt=gr+1:=(fun h=>by omega);have ne0:¬gr+1=bt:=(fun h=>by omega);have nb1:¬gk=gr:=(fun h=>by omega);have nc1:¬gr=gk:=(fun h=>by omega);have nd1:¬gk=gr+1:=(fun h=>by omega);have ne1:¬gr+1=gk:=(fun h=>by omega);have nb2:¬ga=gr:=(fun h=>by omega);have nc2:¬gr=ga:=(fun h=>by omega);have nd2:¬ga=gr+1:=(fun h=>by omega);have ne2:¬gr+1=ga:=(fun h=>by omega);have nb3:¬gb=gr:=(fun h=>by omega);have nc3:¬gr=gb:=(fun h=>by omega);have nd3:¬gb=gr+1:=(fun h=>by omega);have ne3:¬gr+1=gb:=(fun h=>by omega);skip) | (obtain ⟨gr,hgr⟩:∃gr,w2.heap.size=gr:=⟨_,rfl⟩;have za:=Blk.new' w2 #[.int .u8 0,.int .u32 0] 39 gr hgr.symm;have zz0:=za.cell 0;have zz1:=za.cell 1;simp only [List.getElem?_toArray,List.getElem?_cons_zero,List.getElem?_cons_succ] at zz0 zz1;have zzf:=za.froz;have nb0:¬bt=gr:=(fun h=>by omega);have nc0:¬gr=bt:=(fun h=>by omega);have nd0:¬bt=gr+1:=(fun h=>by omega);have ne0:¬gr+1=bt:=(fun h=>by omega);have nb1:¬gk=gr:=(fun h=>by omega);have nc1:¬gr=gk:=(fun h=>by omega);have nd1:¬gk=gr+1:=(fun h=>by omega);have ne1:¬gr+1=gk:=(fun h=>by omega);have nb2:¬ga=gr:=(fun h=>by omega);have nc2:¬gr=ga:=(fun h=>by omega);have nd2:¬ga=gr+1:=(fun h=>by omega);have ne2:¬gr+1=ga:=(fun h=>by omega);have nb3:¬gb=gr:=(fun h=>by omega);have nc3:¬gr=gb:=(fun h=>by omega);have nd3:¬gb=gr+1:=(fun h=>by omega);have ne3:¬gr+1=gb:=(fun h=>by omega);have o_w2:∀k∈F2,k∈FB∨w6.heap.size≤k:=fun k hk=>(o2 k hk).imp (fun h=>h) (fun q=>q))))
      all_goals (go_wp2_with fail;go_meet)
      all_goals first
       | exact ⟨gr,lt,la,L2,F2,rfl,rfl,One.new ⟨lt,la⟩ M_w2 o_w2 s2 hgr,tl2,hl2⟩
       | exact ⟨gs,lt,la,L2,F2,rfl,rfl,One.old ⟨lt,la⟩ M_w2 o_w2 s2 (Nat.le_of_eq hgs) hfs za,tl2,hl2⟩
     case rest=>
      obtain ⟨gx,zT,zA,LC,FC,rfl,rfl,TW,E_z,hlC⟩:=hcut
      clear q0 q1 u0 u1 p0 p1 p2 p3 k0 hgs hgsF hgtF ny nz h_bt na_bt nb_bt nc_bt nd_bt h_p na_p nb_p nc_p nd_p h_a na_a nb_a nc_a nd_a h_b na_b nb_b nc_b nd_b
      replace KM:=Lib.hid (KM.out.mod TW.out.gr.mod hmB)
      have hmC:=TW.out.gr.out (by have:=KMl.out;omega) hmB
      generalize wc=w7 at *
      replace ST:=Lib.hid TW.out.st
      have hn:=TW.out.gr.out B_bt.out.lt n_bt
      replace B_bt:=Lib.hid (B_bt.out.mod TW.out.gr.mod n_bt)
      replace n_bt:=hn
      clear hn
      have hn:=TW.out.gr.out B_p.out.lt n_p
      replace B_p:=Lib.hid (B_p.out.mod TW.out.gr.mod n_p)
      replace n_p:=hn
      clear hn
      have hn:=TW.out.gr.out B_r.out.lt n_r
      replace B_r:=Lib.hid (B_r.out.mod TW.out.gr.mod n_r)
      replace n_r:=hn
      clear hn
      have hn:=TW.out.gr.out B_a.out.lt n_a
      replace B_a:=Lib.hid (B_a.out.mod TW.out.gr.mod n_a)
      replace n_a:=hn
      clear hn
      have hn:=TW.out.gr.out B_b.out.lt n_b
      replace B_b:=Lib.hid (B_b.out.mod TW.out.gr.mod n_b)
      replace n_b:=hn
      clear hn
      have B_z:=Lib.hid TW.out.ba
      have n_z:=TW.out.af
      have l_z:gk+2≤gx:=Nat.le_trans hw6 TW.out.al
      have hw7:gk+2≤w7.heap.size:=Nat.le_trans hw6 TW.out.gr.size
      replace G0:=Lib.hid (G0.out.trans TW.out.gr)
      clear TW
      have KG:=KM.out.mono (K':=KeptK (L++LA++LB++LC) f n lv) (Nat.le_refl _) (fun f' e l x h=>((h.grow LA).grow LB).grow LC)
      have hKx:KeptK (L++LA++LB++LC) f n lv f ⟨et,ea⟩ lv ⟨zT,zA⟩:=fun _=>⟨k+2,t,by omega,((HE.out.grow LA).grow LB).grow LC,by rw [Nat.sub_self,swpT_zero];exact E_z.out⟩
      have m7:Mod [] w7 w7.drew:=(Mod.refl _ _).drew
      obtain ⟨w8,hrun,KM8,m8⟩:=(KG.mod m7 (by simp)).put (f:=f) (l:=lv) (e:=⟨et,ea⟩) h5 (by simp only;omega) hea (by omega) (by have:=RM.out;omega) ⟨zT,zA⟩ hKx
      unfold plv edv at hrun
      simp only at hrun
      have k2:=B_bt.out.cell 2
      simp only [List.getElem?_toArray,List.getElem?_cons_zero,List.getElem?_cons_succ] at k2
      obtain ⟨p0,p1,p2,p3⟩:w7.cell? ⟨gk,0,none⟩=some (.int .u8 f)∧w7.cell? ⟨gk,1,none⟩=some (.int .u8 et)∧w7.cell? ⟨gk,2,none⟩=some (.int .u32 ea)∧w7.cell? ⟨gk,3,none⟩=some (.int .i64 lv):=⟨B_p.out.cell 0,B_p.out.cell 1,B_p.out.cell 2,B_p.out.cell 3⟩
      obtain ⟨q0,q1⟩:=B_z.out.cells2
      replace KM8:=Lib.hid KM8
      clear KG hKx KM
      go_wp2_with fail
      go_region
      have hbk:=KMl.out
      have m78:Mod [bm] w7 w8:=(m7.mono (S':=[bm]) (by simp)).trans' m8
      have ST8:=Lib.hid (ST.out.mod m78 (by intro i hi h;simp at h;subst h;exact hmC hi))
      have B8:=Lib.hid (B_r.out.mod m78 (by simp;omega))
      have B9:=Lib.hid (B_z.out.mod m78 (by simp;omega))
      have G8:Hid (Grow w w8 (bm::F) (bm::FC)):=(G0.out.cons bm).trans ⟨m78.mono (by intro i _ h;simp at h;simp [h]),fun _ h=>.inl h⟩
      clear m7 m8 m78 hrun p0 p1 p2 p3 k2 q0 q1 hbk
      obtain ⟨v0,v1⟩:=B9.out.cells2
      obtain ⟨e0,e1⟩:=B8.out.cells2
      obtain ⟨f0,f1,-⟩:=B8.out.frozs
      have j1:¬gx=gk+1:=by omega
      have j2:¬gk+1=gx:=by omega
      go_wp2_with fail
      have MS:=Lib.hid (set2_mod (Mod.refl [gk+1] w8) (gk+1) ⟨zT,zA⟩ (fun _=>by simp))
      obtain ⟨g0,g1⟩:=(set2_blk B8.out ⟨zT,zA⟩).cells2
      change bodyPost _ _ _ _ _ (set2 w8 (gk+1) ⟨zT,zA⟩)
      generalize set2 w8 (gk+1) ⟨zT,zA⟩=X at *
      clear v0 v1 e0 e1 f0 f1
      simp only at g0 g1
      refine bodyPost_ret (by simp [results,Tryz.results82,g0,g1,go_sem];try rfl) rfl ?_
      have e:L++LA++LB++LC=L++(LA++LB++LC):=by simp
      refine ⟨zT,zA,LA++LB++LC,FC,m+1,rfl,?_,G8.out.write MS.out (by intro k hk;simp at hk;omega),hmC,?_,?_,?_,?_⟩
      ·rw [←e];exact ST8.out.mod MS.out (fun k hk h=>by simp at h;subst h;exact n_r hk)
      ·rw [←e];exact KM8.out.mod MS.out (by have:=KMl.out;simp;omega)
      ·simp only [cst];omega
      ·rw [←e,swpT_zero];exact E_z.out
      ·simp only [cst,List.length_append];omega
    ·obtain ⟨d',rfl⟩:∃d',d=d'+1:=⟨d - 1,by omega⟩
     have hcs:cst (d'+1)=2+2 *cst d':=rfl
     have hcp:=cst_pos d'
     have RM2:=RM.out
     rw [hcs] at RM2
     replace RM:=Lib.hid RM2
     clear RM2
     have m_bt:bt≠bm:=KM.out.ne B_bt.out
     have m_p:gk≠bm:=by have:=KMl.out;omega
     have m_r:gk+1≠bm:=by have:=KMl.out;omega
     have m_a:ga≠bm:=by have:=KMl.out;omega
     have m_b:gb≠bm:=by have:=KMl.out;omega
     replace KM:=Lib.hid (KM.out.mono (K':=KeptK (L++LA) f n lv) (Nat.le_refl _) (fun f' e l x h=>h.grow LA))
     have heq:((l:Int)==(lv:Int))=false:=by rw [beq_eq_false_iff_ne];have:=HLD.out;omega
     have C1:Hid (∀W,Mod [] wa W→Calls Tryz.prog 82 #[.pointer (some ⟨bt,0,none⟩),.agg #[.int .u8 f,.int .u8 aT,.int .u32 aA,.int .i64 ((l:Int)+1)]] W (AtP W b n room (L++LA) FA f lv bm m d' (k+1) (l+1) (t.take (2 ^ (k+1))))):=fun W mW=>by
      have h:=IH.out d' rfl W (L++LA) FA m (k+1) aT aA _ (B_bt.out.mod mW (by simp)) (ST.out.mod mW (by simp)) (KM.out.mod mW (by simp)) n_bt hmA E_a.out (by have:=RM.out;simp only [List.length_append];omega) (by have:=RM.out;simp only [List.length_append];omega) (by have:=RM.out;omega)
      exact h
     obtain ⟨a0,a1⟩:=B_a.out.cells2
     go_wp2_with fail
     go_region
     go_wp2_with fail
     refine (C1.out _ (by exact mods)).mono ?_
     rintro e w4 ⟨xT,xA,LX,FX,m1,rfl,sB,gB0,hmX,kB,hm1,E_x,hlX⟩
     have gB:=Lib.hid ((Grow.of_mod (F:=bm::FA) (show Mod [] wa _ from by exact mods)).trans gB0)
     clear gB0 C1 k1 p0 p1 p2 p3 h_bt h_p a0 a1
     have hn:=gB.out.keep1 B_bt.out.lt m_bt n_bt
     replace B_bt:=Lib.hid (B_bt.out.mod gB.out.mod (by intro h;simp at h;exact h.elim m_bt n_bt))
     replace n_bt:=hn
     clear hn
     have hn:=gB.out.keep1 B_p.out.lt m_p n_p
     replace B_p:=Lib.hid (B_p.out.mod gB.out.mod (by intro h;simp at h;exact h.elim m_p n_p))
     replace n_p:=hn
     clear hn
     have hn:=gB.out.keep1 B_r.out.lt m_r n_r
     replace B_r:=Lib.hid (B_r.out.mod gB.out.mod (by intro h;simp at h;exact h.elim m_r n_r))
     replace n_r:=hn
     clear hn
     have hn:=gB.out.keep1 B_a.out.lt m_a n_a
     replace B_a:=Lib.hid (B_a.out.mod gB.out.mod (by intro h;simp at h;exact h.elim m_a n_a))
     replace n_a:=hn
     clear hn
     have hn:=gB.out.keep1 B_b.out.lt m_b n_b
     replace B_b:=Lib.hid (B_b.out.mod gB.out.mod (by intro h;simp at h;exact h.elim m_b n_b))
     replace n_b:=hn
     clear hn
     replace G0:=Lib.hid ((G0.out.cons bm).trans gB.out)
     replace hw4:gk+2≤w4.heap.size:=Nat.le_trans hw4 gB.out.size
     replace ST:=Lib.hid sB
     replace KM:=Lib.hid kB
     have EX:=Lib.hid E_x
     replace E_b:=Lib.hid (E_b.out.grow LX)
     clear sB kB E_x gB heq
     obtain ⟨e0,e1⟩:=B_a.out.cells2
     obtain ⟨f0,f1,-⟩:=B_a.out.frozs
     go_upto_region 11 with fail
     have MS:=set2_mod (Mod.refl [ga] w4) ga ⟨xT,xA⟩ (fun _=>by simp)
     replace B_a:=Lib.hid (set2_blk B_a.out ⟨xT,xA⟩)
     replace B_b:=Lib.hid (B_b.out.mod MS (by simpa using Ne.symm d_ab))
     replace ST:=Lib.hid (ST.out.mod MS (by intro i hi h;simp at h;subst h;exact n_a hi))
     replace KM:=Lib.hid (KM.out.mod MS (by simpa using Ne.symm m_a))
     replace B_bt:=Lib.hid (B_bt.out.mod MS (by have:=HBT.out;simp;omega))
     replace B_p:=Lib.hid (B_p.out.mod MS (by simp;omega))
     replace B_r:=Lib.hid (B_r.out.mod MS (by simp;omega))
     replace G0:=Lib.hid (G0.out.write MS (by intro i hi;simp at hi;omega))
     replace hw4:gk+2≤(set2 w4 ga ⟨xT,xA⟩).heap.size:=Nat.le_trans hw4 MS.size
     have hXW:set2 w4 ga ⟨xT,xA⟩=(w4.setCell ⟨ga,0,none⟩ (.int .u8 xT)).setCell ⟨ga,1,none⟩ (.int .u32 xA):=rfl
     rw [←hXW]
     clear hXW MS e0 e1 f0 f1
     generalize set2 w4 ga ⟨xT,xA⟩=wb at *
     obtain ⟨p0,p1,p2,p3⟩:wb.cell? ⟨gk,0,none⟩=some (.int .u8 f)∧wb.cell? ⟨gk,1,none⟩=some (.int .u8 et)∧wb.cell? ⟨gk,2,none⟩=some (.int .u32 ea)∧wb.cell? ⟨gk,3,none⟩=some (.int .i64 l):=⟨B_p.out.cell 0,B_p.out.cell 1,B_p.out.cell 2,B_p.out.cell 3⟩
     have h_bt:=B_bt.out.lt
     have h_p:=B_p.out.lt
     have C2:Hid (∀W,Mod [] wb W→Calls Tryz.prog 82 #[.pointer (some ⟨bt,0,none⟩),.agg #[.int .u8 f,.int .u8 bT,.int .u32 bA,.int .i64 ((l:Int)+1)]] W (AtP W b n room (L++LA++LX) FX f lv bm m1 d' (k+1) (l+1) (t.drop (2 ^ (k+1))))):=fun W mW=>by
      have h:=IH.out d' rfl W (L++LA++LX) FX m1 (k+1) bT bA _ (B_bt.out.mod mW (by simp)) (ST.out.mod mW (by simp)) (KM.out.mod mW (by simp)) n_bt hmX E_b.out (by have:=RM.out;simp only [List.length_append];omega) (by have:=RM.out;simp only [List.length_append];omega) (by have:=RM.out;omega)
      exact h
     obtain ⟨a0,a1⟩:=B_b.out.cells2
     go_wp2_with fail
     refine (C2.out _ (by exact mods)).mono ?_
     rintro e w5 ⟨yT,yA,LY,FB,m2,rfl,sB,gB0,hmB,kB,hm2,E_y,hlY⟩
     have gB:=Lib.hid ((Grow.of_mod (F:=bm::FX) (show Mod [] wb _ from by exact mods)).trans gB0)
     clear gB0 C2 p0 p1 p2 p3 h_bt h_p a0 a1
     have hn:=gB.out.keep1 B_bt.out.lt m_bt n_bt
     replace B_bt:=Lib.hid (B_bt.out.mod gB.out.mod (by intro h;simp at h;exact h.elim m_bt n_bt))
     replace n_bt:=hn
     clear hn
     have hn:=gB.out.keep1 B_p.out.lt m_p n_p
     replace B_p:=Lib.hid (B_p.out.mod gB.out.mod (by intro h;simp at h;exact h.elim m_p n_p))
     replace n_p:=hn
     clear hn
     have hn:=gB.out.keep1 B_r.out.lt m_r n_r
     replace B_r:=Lib.hid (B_r.out.mod gB.out.mod (by intro h;simp at h;exact h.elim m_r n_r))
     replace n_r:=hn
     clear hn
     have hn:=gB.out.keep1 B_a.out.lt m_a n_a
     replace B_a:=Lib.hid (B_a.out.mod gB.out.mod (by intro h;simp at h;exact h.elim m_a n_a))
     replace n_a:=hn
     clear hn
     have hn:=gB.out.keep1 B_b.out.lt m_b n_b
     replace B_b:=Lib.hid (B_b.out.mod gB.out.mod (by intro h;simp at h;exact h.elim m_b n_b))
     replace n_b:=hn
     clear hn
     replace G0:=Lib.hid (G0.out.trans gB.out)
     have hw5:gk+2≤w5.heap.size:=Nat.le_trans hw4 gB.out.size
     replace EX:=Lib.hid (EX.out.grow LY)
     have eL:L++LA++LX++LY=L++LA++(LX++LY):=by simp
     have hlB:(LX++LY).length≤2 *cst d':=by rw [List.length_append];omega
     rw [eL] at sB kB E_y EX
     clear eL
     generalize LX++LY=LB at *
     replace ST:=Lib.hid sB
     replace KM:=Lib.hid kB
     have EY:=Lib.hid E_y
     clear sB kB E_y gB
     obtain ⟨e2,e3⟩:=B_b.out.cells2
     obtain ⟨f2,f3,-⟩:=B_b.out.frozs
     go_upto_region 14 with fail
     have MS:=set2_mod (Mod.refl [gb] w5) gb ⟨yT,yA⟩ (fun _=>by simp)
     replace B_b:=Lib.hid (set2_blk B_b.out ⟨yT,yA⟩)
     replace B_a:=Lib.hid (B_a.out.mod MS (by simpa using d_ab))
     replace ST:=Lib.hid (ST.out.mod MS (by intro i hi h;simp at h;subst h;exact n_b hi))
     replace KM:=Lib.hid (KM.out.mod MS (by simpa using Ne.symm m_b))
     replace B_bt:=Lib.hid (B_bt.out.mod MS (by have:=HBT.out;simp;omega))
     replace B_p:=Lib.hid (B_p.out.mod MS (by simp;omega))
     replace B_r:=Lib.hid (B_r.out.mod MS (by simp;omega))
     replace G0:=Lib.hid (G0.out.write MS (by intro i hi;simp at hi;omega))
     have hw6:gk+2≤(set2 w5 gb ⟨yT,yA⟩).heap.size:=Nat.le_trans hw5 MS.size
     have hXW:set2 w5 gb ⟨yT,yA⟩=(w5.setCell ⟨gb,0,none⟩ (.int .u8 yT)).setCell ⟨gb,1,none⟩ (.int .u32 yA):=rfl
     rw [←hXW]
     clear hXW MS e2 e3 f2 f3
     generalize set2 w5 gb ⟨yT,yA⟩=w6 at *
     obtain ⟨gs,hgs⟩:∃gs,w6.heap.size=gs:=⟨_,rfl⟩
     have hgsF:gs∉FB:=fun h=>by have:=ST.out.st.lt _ h;omega
     have hgtF:gs+1∉FB:=fun h=>by have:=ST.out.st.lt _ h;omega
     have ny:¬gk=gs:=by omega
     have nz:¬gs=gk:=by omega
     have h_bt:=B_bt.out.lt
     have na_bt:¬bt=gs:=by omega
     have nb_bt:¬gs=bt:=by omega
     have nc_bt:¬bt=gs+1:=by omega
     have nd_bt:¬gs+1=bt:=by omega
     have h_p:=B_p.out.lt
     have na_p:¬gk=gs:=by omega
     have nb_p:¬gs=gk:=by omega
     have nc_p:¬gk=gs+1:=by omega
     have nd_p:¬gs+1=gk:=by omega
     have h_a:=B_a.out.lt
     have na_a:¬ga=gs:=by omega
     have nb_a:¬gs=ga:=by omega
     have nc_a:¬ga=gs+1:=by omega
     have nd_a:¬gs+1=ga:=by omega
     have h_b:=B_b.out.lt
     have na_b:¬gb=gs:=by omega
     have nb_b:¬gs=gb:=by omega
     have nc_b:¬gb=gs+1:=by omega
     have nd_b:¬gs+1=gb:=by omega
     have k0:=B_bt.out.cell 0
     simp only [List.getElem?_toArray,List.getElem?_cons_zero,List.getElem?_cons_succ] at k0
     obtain ⟨p0,p1,p2,p3⟩:w6.cell? ⟨gk,0,none⟩=some (.int .u8 f)∧w6.cell? ⟨gk,1,none⟩=some (.int .u8 et)∧w6.cell? ⟨gk,2,none⟩=some (.int .u32 ea)∧w6.cell? ⟨gk,3,none⟩=some (.int .i64 l):=⟨B_p.out.cell 0,B_p.out.cell 1,B_p.out.cell 2,B_p.out.cell 3⟩
     obtain ⟨q0,q1⟩:=B_a.out.cells2
     obtain ⟨u0,u1⟩:=B_b.out.cells2
     go_cut [11,10] from 89 to 102 (fun p o wx=>∃(ga lt la:Nat) (L2:List Rc) (F2:List Nat),p=.pointer (some ⟨ga,0,none⟩)∧o=.int .u8 0∧Hid (One w6 wx b n room ((L++LA++LB)++L2) FB F2 ga ⟨lt,la⟩)∧Hid (EdT ((L++LA++LB)++L2) f n (k+2) l ⟨lt,la⟩ (swpT d' (k+1) (t.take (2 ^ (k+1)))++swpT d' (k+1) (t.drop (2 ^ (k+1)))))∧L2.length≤1)
     case first=>
      go_region_held3 (fun w'=>w'.cell? ⟨bt,0,none⟩=some (.pointer (some ⟨b,0,none⟩))∧w'.cell? ⟨gk,0,none⟩=some (.int .u8 f)∧w'.cell? ⟨gk,3,none⟩=some (.int .i64 l)∧w'.cell? ⟨ga,0,none⟩=some (.int .u8 xT)∧w'.cell? ⟨ga,1,none⟩=some (.int .u32 xA)∧w'.cell? ⟨gb,0,none⟩=some (.int .u8 yT)∧w'.cell? ⟨gb,1,none⟩=some (.int .u32 yA)) (go_keep) (first | (go_at_call 66;refine (MK.out _ (L++LA++LB) FB xT xA yT yA _ _ (ST.out.mod (show Mod [] w6 _ from by exact mods) (by simp)) (by have:=RM.out;simp only [List.length_append];omega) (by have:=RM.out;simp only [List.length_append];omega) EX.out EY.out).mono ?_;rintro e' w2 ⟨lt,la,L2,F2,rfl,s2,⟨m_w2,o2⟩,tl2,hl2⟩;have M_w2:=Mod.trans' (show Mod _ w6 _ from by exact mods) m_w2;have k0:=(M_w2.cell (a:=⟨bt,0,none⟩) h_bt (by first | assumption | (simp;assumption))).trans k0;have p0:=(M_w2.cell (a:=⟨gk,0,none⟩) h_p (by first | assumption | (simp;assumption))).trans p0;have p3:=(M_w2.cell (a:=⟨gk,3,none⟩) h_p (by first | assumption | (simp;assumption))).trans p3;have q0:=(M_w2.cell (a:=⟨ga,0,none⟩) h_a (by first | assumption | (simp;assumption))).trans q0;have q1:=(M_w2.cell (a:=⟨ga,1,none⟩) h_a (by first | assumption | (simp;assumption))).trans q1;have u0:=(M_w2.cell (a:=⟨gb,0,none⟩) h_b (by first | assumption | (simp;assumption))).trans u0;have u1:=(M_w2.cell (a:=⟨gb,1,none⟩) h_b (by first | assumption | (simp;assumption))).trans u1;have h_bt:=Nat.lt_of_lt_of_le h_bt M_w2.size;have h_p:=Nat.lt_of_lt_of_le h_p M_w2.size;have h_a:=Nat.lt_of_lt_of_le h_a M_w2.size;have h_b:=Nat.lt_of_lt_of_le h_b M_w2.size;have hBx:=fun c ty g (hg:g∉_) (h:Blk _ g c ty)=>h.mod m_w2 hg;first | (have za:=hBx _ _ gs hgsF ((Blk.new' w6 _ _ gs hgs.symm).drew);have zz0:=za.cell 0;have zz1:=za.cell 1;simp only [List.getElem?_toArray,List.getElem?_cons_zero,List.getElem?_cons_succ] at zz0 zz1;have zzf:=za.froz;obtain ⟨gr,hgr⟩:∃gr,w2.heap.size=gr:=⟨_,rfl⟩;have hzl:=za.lt;have gr1:¬gs=gr:=(fun h=>by omega);have gr2:¬gr=gs:=(fun h=>by omega);have xx0:=fun o=>(za.alloc o).cell 0;have xx1:=fun o=>(za.alloc o).cell 1;simp only [List.getElem?_toArray,List.getElem?_cons_zero,List.getElem?_cons_succ] at xx0 xx1;have xxf:=fun o=>(za.alloc o).froz;have zg:=Blk.new' w2 #[.int .u8 0,.int .u32 0] 39 gr hgr.symm;have gg0:=zg.cell 0;have gg1:=zg.cell 1;simp only [List.getElem?_toArray,List.getElem?_cons_zero,List.getElem?_cons_succ] at gg0 gg1;have ggf:=zg.froz;have oq:∀k∈F2,k∈FB∨gs+1≤k:=fun k hk=>(o2 k hk).imp (fun h=>h) (fun q=>by simp [hgs] at q;omega);have o_w2:∀k∈F2,k∈FB∨w6.heap.size≤k:=fun k hk=>(oq k hk).imp (fun h=>h) (fun q=>by omega);have hfs:gs∉F2:=fun h=>(oq _ h).elim hgsF (fun q=>by omega);have nb0:¬bt=gr:=(fun h=>by omega);have nc0:¬gr=bt:=(fun h=>by omega);have nd0:¬bt=gr+1:=(fun h=>by omega);have ne0:¬gr+1=bt:=(fun h=>by omega);have nb1:¬gk=gr:=(fun h=>by omega);have nc1:¬gr=gk:=(fun h=>by omega);have nd1:¬gk=gr+1:=(fun h=>by omega);have ne1:¬gr+1=gk:=(fun h=>by omega);have nb2:¬ga=gr:=(fun h=>by omega);have nc2:¬gr=ga:=(fun h=>by omega);have nd2:¬ga=gr+1:=(fun h=>by omega);have ne2:¬gr+1=ga:=(fun h=>by omega);have nb3:¬gb=gr:=(fun h=>by omega);have nc3:¬gr=gb:=(fun h=>by omega);have nd3:¬gb=gr+1:=(fun h=>by omega);have ne3:¬gr+1=gb:=(fun h=>by omega);skip) | (obtain ⟨gr,hgr⟩:∃gr,w2.heap.size=gr:=⟨_,rfl⟩;have za:=Blk.new' w2 #[.int .u8 0,.int .u32 0] 39 gr hgr.symm;have zz0:=za.cell 0;have zz1:=za.cell 1;simp only [List.getElem?_toArray,List.getElem?_cons_zero,List.getElem?_cons_succ] at zz0 zz1;have zzf:=za.froz;have nb0:¬bt=gr:=(fun h=>by omega);have nc0:¬gr=bt:=(fun h=>by omega);have nd0:¬bt=gr+1:=(fun h=>by omega);have ne0:¬gr+1=bt:=(fun h=>by omega);have nb1:¬gk=gr:=(fun h=>by omega);have nc1:¬gr=gk:=(fun h=>by omega);have nd1:¬gk=gr+1:=(fun h=>by omega);have ne1:¬gr+1=gk:=(fun h=>by omega);have nb2:¬ga=gr:=(fun h=>by omega);have nc2:¬gr=ga:=(fun h=>by omega);have nd2:¬ga=gr+1:=(fun h=>by omega);have ne2:¬gr+1=ga:=(fun h=>by omega);have nb3:¬gb=gr:=(fun h=>by omega);have nc3:¬gr=gb:=(fun h=>by omega);have nd3:¬gb=gr+1:=(fun h=>by omega);have ne3:¬gr+1=gb:=(fun h=>by omega);have o_w2:∀k∈F2,k∈FB∨w6.heap.size≤k:=fun k hk=>(o2 k hk).imp (fun h=>h) (fun q=>q))))
      all_goals (go_wp2_with fail;go_meet)
      all_goals first
       | exact ⟨gr,lt,la,L2,F2,rfl,rfl,One.new ⟨lt,la⟩ M_w2 o_w2 s2 hgr,tl2,hl2⟩
       | exact ⟨gs,lt,la,L2,F2,rfl,rfl,One.old ⟨lt,la⟩ M_w2 o_w2 s2 (Nat.le_of_eq hgs) hfs za,tl2,hl2⟩
     case rest=>
      obtain ⟨gx,zT,zA,LC,FC,rfl,rfl,TW,E_z,hlC⟩:=hcut
      clear q0 q1 u0 u1 p0 p1 p2 p3 k0 hgs hgsF hgtF ny nz h_bt na_bt nb_bt nc_bt nd_bt h_p na_p nb_p nc_p nd_p h_a na_a nb_a nc_a nd_a h_b na_b nb_b nc_b nd_b
      replace KM:=Lib.hid (KM.out.mod TW.out.gr.mod hmB)
      have hmC:=TW.out.gr.out (by have:=KMl.out;omega) hmB
      generalize wc=w7 at *
      replace ST:=Lib.hid TW.out.st
      have hn:=TW.out.gr.out B_bt.out.lt n_bt
      replace B_bt:=Lib.hid (B_bt.out.mod TW.out.gr.mod n_bt)
      replace n_bt:=hn
      clear hn
      have hn:=TW.out.gr.out B_p.out.lt n_p
      replace B_p:=Lib.hid (B_p.out.mod TW.out.gr.mod n_p)
      replace n_p:=hn
      clear hn
      have hn:=TW.out.gr.out B_r.out.lt n_r
      replace B_r:=Lib.hid (B_r.out.mod TW.out.gr.mod n_r)
      replace n_r:=hn
      clear hn
      have hn:=TW.out.gr.out B_a.out.lt n_a
      replace B_a:=Lib.hid (B_a.out.mod TW.out.gr.mod n_a)
      replace n_a:=hn
      clear hn
      have hn:=TW.out.gr.out B_b.out.lt n_b
      replace B_b:=Lib.hid (B_b.out.mod TW.out.gr.mod n_b)
      replace n_b:=hn
      clear hn
      have B_z:=Lib.hid TW.out.ba
      have n_z:=TW.out.af
      have l_z:gk+2≤gx:=Nat.le_trans hw6 TW.out.al
      have hw7:gk+2≤w7.heap.size:=Nat.le_trans hw6 TW.out.gr.size
      replace G0:=Lib.hid (G0.out.trans (TW.out.gr.cons bm))
      clear TW
      have KG:=KM.out.mono (K':=KeptK (L++LA++LB++LC) f n lv) (Nat.le_refl _) (fun f' e l x h=>h.grow LC)
      have hKx:KeptK (L++LA++LB++LC) f n lv f ⟨et,ea⟩ l ⟨zT,zA⟩:=fun _=>⟨k+2,t,by have:=HLD.out;omega,((HE.out.grow LA).grow LB).grow LC,by have q:=HLD.out;rw [show lv - l=d'+1 by omega,swpT_succ];exact E_z.out⟩
      have m7:Mod [] w7 w7.drew:=(Mod.refl _ _).drew
      obtain ⟨w8,hrun,KM8,m8⟩:=(KG.mod m7 (by simp)).put (f:=f) (l:=l) (e:=⟨et,ea⟩) h5 (by simp only;omega) hea (by omega) (by have:=RM.out;omega) ⟨zT,zA⟩ hKx
      unfold plv edv at hrun
      simp only at hrun
      have k2:=B_bt.out.cell 2
      simp only [List.getElem?_toArray,List.getElem?_cons_zero,List.getElem?_cons_succ] at k2
      obtain ⟨p0,p1,p2,p3⟩:w7.cell? ⟨gk,0,none⟩=some (.int .u8 f)∧w7.cell? ⟨gk,1,none⟩=some (.int .u8 et)∧w7.cell? ⟨gk,2,none⟩=some (.int .u32 ea)∧w7.cell? ⟨gk,3,none⟩=some (.int .i64 l):=⟨B_p.out.cell 0,B_p.out.cell 1,B_p.out.cell 2,B_p.out.cell 3⟩
      obtain ⟨q0,q1⟩:=B_z.out.cells2
      replace KM8:=Lib.hid KM8
      clear KG hKx KM
      go_wp2_with fail
      go_region
      have hbk:=KMl.out
      have m78:Mod [bm] w7 w8:=(m7.mono (S':=[bm]) (by simp)).trans' m8
      have ST8:=Lib.hid (ST.out.mod m78 (by intro i hi h;simp at h;subst h;exact hmC hi))
      have B8:=Lib.hid (B_r.out.mod m78 (by simp;omega))
      have B9:=Lib.hid (B_z.out.mod m78 (by simp;omega))
      have G8:Hid (Grow w w8 (bm::F) (bm::FC)):=G0.out.trans ⟨m78.mono (by intro i _ h;simp at h;simp [h]),fun _ h=>.inl h⟩
      clear m7 m8 m78 hrun p0 p1 p2 p3 k2 q0 q1 hbk
      obtain ⟨v0,v1⟩:=B9.out.cells2
      obtain ⟨e0,e1⟩:=B8.out.cells2
      obtain ⟨f0,f1,-⟩:=B8.out.frozs
      have j1:¬gx=gk+1:=by omega
      have j2:¬gk+1=gx:=by omega
      go_wp2_with fail
      have MS:=Lib.hid (set2_mod (Mod.refl [gk+1] w8) (gk+1) ⟨zT,zA⟩ (fun _=>by simp))
      obtain ⟨g0,g1⟩:=(set2_blk B8.out ⟨zT,zA⟩).cells2
      change bodyPost _ _ _ _ _ (set2 w8 (gk+1) ⟨zT,zA⟩)
      generalize set2 w8 (gk+1) ⟨zT,zA⟩=X at *
      clear v0 v1 e0 e1 f0 f1
      simp only at g0 g1
      refine bodyPost_ret (by simp [results,Tryz.results82,g0,g1,go_sem];try rfl) rfl ?_
      have e:L++LA++LB++LC=L++(LA++LB++LC):=by simp
      refine ⟨zT,zA,LA++LB++LC,FC,m2+1,rfl,?_,G8.out.write MS.out (by intro k hk;simp at hk;omega),hmC,?_,?_,?_,?_⟩
      ·rw [←e];exact ST8.out.mod MS.out (fun k hk h=>by simp at h;subst h;exact n_r hk)
      ·rw [←e];exact KM8.out.mod MS.out (by have:=KMl.out;simp;omega)
      ·rw [hcs];omega
      ·rw [←e,swpT_succ];exact E_z.out
      ·rw [hcs];simp only [List.length_append];omega
open Go.RowKit
theorem swapAt_c {f:Nat} (h1:1≤f) (h5:f≤5) {bt b n room lv bm:Nat} (hrm:room≤1048576) (hn:n≤16) (hlv:lv+1 < n):∀d l,l+d=lv→AtC bt b n room lv bm f d l:=by
 intro d
 induction d with
 | zero=>intro l hl;exact at_step h1 h5 hrm hn hl hlv (fun d' h=>by omega)
 | succ d ih=>
  intro l hl
  refine at_step h1 h5 hrm hn hl hlv (fun d' h=>?_)
  obtain rfl:d=d':=by omega
  exact ih (l+1) (by omega)
theorem swapFit_c (n b bo:Nat) (w:World) (VA:Hid (Calls Tryz.prog 26 #[.pointer (some ⟨b,0,none⟩)] w fun e w'=>e=.returned (.int .i64 n)∧w'=w))
 (VO:Hid (Calls Tryz.prog 34 #[.pointer (some ⟨bo,0,none⟩)] w fun e w'=>e=.returned (.int .i64 n)∧w'=w)):
 Calls Tryz.prog 37 #[.pointer (some ⟨b,0,none⟩),.pointer (some ⟨bo,0,none⟩)] w fun e w'=>e=.returned (.int .u8 0)∧w'=w:=by
 go_enter Tryz.func37,Tryz.ntmps37
 go_wp2_with fail
 refine VA.out.mono ?_
 rintro e w1 ⟨rfl,rfl⟩
 go_wp2_with fail
 refine VO.out.mono ?_
 rintro e w1 ⟨rfl,rfl⟩
 go_wp2_with fail
 go_ret
 exact ⟨rfl,rfl⟩
theorem swapMay_c {w:World} {b n room:Nat} {L:List Rc} {F:List Nat} (h:IsSt w b n L room F) (hL:L.length≤1048576) (hn:n≤16) {f:Nat} (h1:1≤f) (h5:f≤5) {et ea:Nat} (hP:LeadsP L f ⟨et,ea⟩ 0 n) (g cap:Nat)
 (c0:w.cell? ⟨g,0,none⟩=some (.int .u8 f)) (c1:w.cell? ⟨g,1,none⟩=some (.int .u8 et)) (c2:w.cell? ⟨g,2,none⟩=some (.int .u32 ea)):
 Calls Tryz.prog 81 #[.pointer (some ⟨b,0,none⟩),.slice (some ⟨g,0,none⟩) 1 cap] w fun r w'=>r=.returned (.int .u8 0)∧Mod [] w w':=by
 have hgl:=World.block_lt_of_cell? w _ c0
 simp only at hgl
 have IF:=Lib.hid (isForm_c f h1 h5)
 have LD:Hid (∀W,Mod [] w W→Calls Tryz.prog 100 #[.pointer (some ⟨b,0,none⟩),.int .u8 f,.agg #[.int .u8 et,.int .u32 ea],.int .i64 0] W fun e w'=>e=.returned (.bool true)∧Mod [] W w'):=fun W m=>by
  have:=stLeads_c (h.mod m (by simp)) hL hn f h1 h5 ⟨et,ea⟩ 0 (by omega) hP
  unfold edv at this
  exact this
 clear h hP
 go_enter Tryz.func81,Tryz.ntmps81
 go_wp2_with fail
 go_loopw [9] (fun i wr=>∃k:Nat,k≤1∧i=.int .i64 k∧Hid (Mod [] w wr)) (fun i _=>1 - (intOf i).toNat)
 case atStart=>exact ⟨0,by omega,rfl,Mod.refl _ _⟩
 case round=>
  obtain ⟨k,hk,rfl,HM⟩:=hrel
  by_cases hlt:k < 1
  ·obtain rfl:k=0:=by omega
   have d0:=(HM.out.cell (a:=⟨g,0,none⟩) hgl (by simp)).trans c0
   have d1:=(HM.out.cell (a:=⟨g,1,none⟩) hgl (by simp)).trans c1
   have d2:=(HM.out.cell (a:=⟨g,2,none⟩) hgl (by simp)).trans c2
   have hgr:g < wr.heap.size:=Nat.lt_of_lt_of_le hgl HM.out.size
   clear c0 c1 c2
   go_wp2_with fail
   refine (IF.out _).mono ?_
   rintro e w1 ⟨rfl,rfl⟩
   go_wp2_with fail
   refine (LD.out _ (HM.out.trans' (show Mod [] wr _ from by exact mods))).mono ?_
   rintro e w2 ⟨rfl,m2⟩
   have M2:=Lib.hid ((HM.out.trans' (show Mod [] wr _ from by exact mods)).trans' m2)
   clear m2 d0 d1 d2 LD IF
   go_wp2_with fail
   go_roundw
   case rel=>exact ⟨1,by omega,by go_num,M2⟩
   case measure=>simp [intOf]
  ·obtain rfl:k=1:=by omega
   go_wp2_with fail
   go_ret
   exact ⟨rfl,HM.out⟩
open Go.RowKit
theorem Tryz.infoEd:(Tryz.prog.info? 39).map (fun i=>(i.zero,i.size,i.bytes))=some (some (.agg #[.int .u8 0,.int .u32 0]),2,8):=by kernel_rfl
theorem madeEd1 (w:World):(Instr.makeSlice 48 (.int .i64 1) (.int .i64 1)).run Tryz.prog w=.ok (.slice (some ⟨w.heap.size,0,none⟩) 1 1) (w.alloc (.cells #[.int .u8 0,.int .u32 0] 39)):=by
 obtain ⟨i0,hi,hz0,hz1,hz2⟩:=info_parts Tryz.infoEd
 have:=run_make (P:=Tryz.prog) w 48 39 i0 _ Tryz.underlying48 hi hz0 .i64 .i64 1 1 (by omega) (by omega) (by rw [hz2];omega) (by omega)
 have e:madeCells (Value.agg #[.int .u8 0,.int .u32 0]).cells (Int.toNat 1 *2)=#[.int .u8 0,.int .u32 0]:=by kernel_rfl
 rw [this,hz1,e]
 rfl
theorem cst_le:∀d,d≤3→cst d≤62:=by
 intro d h
 have:d=0∨d=1∨d=2∨d=3:=by omega
 rcases this with rfl | rfl | rfl | rfl<;>decide
structure OneB (w1 wx:World) (b n room:Nat) (L:List Rc) (F F3:List Nat) (bm ga:Nat) (lo:Ed):Prop where
 ba:Blk wx ga #[.int .u8 lo.t,.int .u32 lo.a] 39
 st:Sto wx b n room L F3
 gr:Grow w1 wx (bm::F) (bm::F3)
 al:w1.heap.size≤ga
 af:ga∉F3
theorem OneB.new {w1 w2:World} {b n room gr bm:Nat} {L:List Rc} {F F3:List Nat} (lo:Ed) (M:Mod (bm::F) w1 w2) (o:∀k∈bm::F3,k∈bm::F∨w1.heap.size≤k) (s:Sto w2 b n room L F3) (hg:w2.heap.size=gr):
 OneB w1 (w2.alloc (.cells #[.int .u8 lo.t,.int .u32 lo.a] 39)) b n room L F F3 bm gr lo:=by
 have h1:=M.size
 have m:Mod [] w2 (w2.alloc (.cells #[.int .u8 lo.t,.int .u32 lo.a] 39)):=(Mod.refl _ _).alloc _
 exact ⟨Blk.new' w2 _ _ gr hg.symm,s.mod m (by simp),(Grow.mk M o).then m,by omega,fun h=>by have:=s.st.lt _ h;omega⟩
theorem OneB.old {w1 w2:World} {b n room gs bm:Nat} {L:List Rc} {F F3:List Nat} (lo:Ed) (M:Mod (bm::F) w1 w2) (o:∀k∈bm::F3,k∈bm::F∨w1.heap.size≤k) (s:Sto w2 b n room L F3) (hgs:w1.heap.size≤gs) (hf:gs∉bm::F3) (z:Blk w2 gs #[.int .u8 0,.int .u32 0] 39):
 OneB w1 (set2 w2 gs lo) b n room L F F3 bm gs lo:=by
 have m:=set2_mod (Mod.refl [gs] w2) gs lo (fun _=>by simp)
 exact ⟨set2_blk z lo,s.mod m (fun k hk h=>by simp at h;subst h;exact hf (by simp [hk])),(Grow.mk M o).write m (fun k hk=>by simp at hk;omega),hgs,fun h=>hf (by simp [h])⟩
theorem Grow.transB {a c d:World} {F F' F3:List Nat} {bm:Nat} (h:Grow a c F F') (g:Grow c d (bm::F') (bm::F3)) (hb:a.heap.size≤bm):Grow a d F F3:=
 ⟨h.mod.trans g.mod (fun i hi hm=>by
  rcases List.mem_cons.1 hm with rfl | hm
  ·omega
  ·exact (h.own i hm).elim (fun q=>q) (fun q=>by omega)),fun k hk=>by
  rcases g.own k (by simp [hk]) with q | q
  ·rcases List.mem_cons.1 q with rfl | q
   ·exact .inr hb
   ·exact h.own k q
  ·exact .inr (by have:=h.mod.size;omega)⟩
def AllSt (w wr:World) (b n room:Nat) (L:List Rc) (F:List Nat) (f go:Nat) (t:List Bool) (c:Nat):Prop:=
 ∃(L2:List Rc) (F':List Nat) (et ea:Nat),Sto wr b n room (L++L2) F'∧Grow w wr F F'∧Blk wr go #[.int .u8 et,.int .u32 ea] 39∧go∉F'∧EdT (L++L2) f n n 0 ⟨et,ea⟩ t∧L2.length≤c
def AllP (w:World) (b n room bo:Nat) (L:List Rc) (F Fo p:List Nat) (f:Nat) (l:List Nat) (t:List Bool) (r:Ending) (w':World):Prop:=
 ∃(go et ea:Nat) (L2:List Rc) (F' q':List Nat),r=.returned (.tuple #[.slice (some ⟨go,0,none⟩) 1 1,.int .u8 0])∧Blk w' go #[.int .u8 et,.int .u32 ea] 39∧Sto w' b n room (L++L2) F'∧IsOrdD w' bo (l.foldl swapL p) q' Fo∧
  Mod (F++Fo) w w'∧(∀k∈F',k∈F∨w.heap.size≤k)∧EdT (L++L2) f n n 0 ⟨et,ea⟩ (l.foldl (fun t s=>swpT s n t) t)∧w.heap.size≤go∧go∉F'∧L2.length≤l.length *62
theorem all_c {w:World} {b n room bo f et ea g cap:Nat} {L:List Rc} {F Fo Fs p q l:List Nat} {t:List Bool} {v:Value} (S:Sto w b n room L F) (O:IsOrdD w bo p q Fo) (iv:Inv p q) (hp:Perm p n) (hl:Rv w v (l.map ei) Fs) (hE:EdT L f n n 0 ⟨et,ea⟩ t)
 (h1:1≤f) (h5:f≤5) (hn:n≤5) (hrm:room≤1048576) (hr1:L.length+l.length *62≤room) (hr2:L.length+l.length *62≤100000) (hok:∀s∈l,s+1 < n) (hl25:l.length≤25)
 (c0:w.cell? ⟨g,0,none⟩=some (.int .u8 f)) (c1:w.cell? ⟨g,1,none⟩=some (.int .u8 et)) (c2:w.cell? ⟨g,2,none⟩=some (.int .u32 ea)) (hgF:g∉F) (hFo:∀k∈Fo,k∉F) (hFs:∀k∈Fs,k∉F∧k∉Fo):
 Calls Tryz.prog 39 #[.pointer (some ⟨b,0,none⟩),.pointer (some ⟨bo,0,none⟩),v,.slice (some ⟨g,0,none⟩) 1 cap] w (AllP w b n room bo L F Fo p f l t):=by
 obtain ⟨A,vcap,rfl,hvc⟩:=hl.shape
 have hgl:=World.block_lt_of_cell? w _ c0
 simp only at hgl
 obtain ⟨ln,hln⟩:∃ln,l.length=ln:=⟨_,rfl⟩
 simp only [List.length_map] at hvc ⊢
 rw [hln] at hr1 hr2 hvc hl25 ⊢
 have HLN:=Lib.hid hln
 have MY:=Lib.hid (swapMay_c S.st (by omega) (by omega) h1 h5 hE.lead g cap c0 c1 c2)
 have SP:=Lib.hid hl
 have HS:=Lib.hid S
 have HO:=Lib.hid O
 have HI:=Lib.hid iv
 have HP:=Lib.hid hp
 have HE:=Lib.hid hE
 have HF:=Lib.hid (And.intro hgF (And.intro hFo hFs))
 have HOK:=Lib.hid hok
 have RM:=Lib.hid (And.intro hr1 hr2)
 have hmk:=madeEd1
 have hmm:=@run_makeMap Tryz.prog
 have FL:=Lib.hid S.st.lt
 have CG:=Lib.hid (And.intro c0 (And.intro c1 c2))
 clear S O iv hp hl hE hgF hFo hFs hok hr1 hr2 hln
 have hln':(ln:Int)≤25:=by omega
 go_enter Tryz.func39,Tryz.ntmps39
 go_wp2_with fail
 refine MY.out.mono ?_
 rintro e w1 ⟨rfl,m1⟩
 obtain ⟨go,hgo⟩:∃go,w1.heap.size=go:=⟨_,rfl⟩
 have M1:=Lib.hid m1
 have hgw:w.heap.size≤go:=by rw [←hgo];exact m1.size
 have hggo:g < go:=by omega
 have n1:¬g=go:=by omega
 have n2:¬go=g:=by omega
 clear m1 MY
 go_wp2_with fail
 have B0:=Lib.hid (Blk.new' w1 #[.int .u8 0,.int .u32 0] 39 go hgo.symm)
 have M0:Hid (Mod [] w (w1.alloc (.cells #[.int .u8 0,.int .u32 0] 39))):=M1.out.alloc _
 generalize w1.alloc (.cells #[.int .u8 0,.int .u32 0] 39)=w2 at *
 clear hgo M1
 clear hmk
 go_loopw [34] (fun i wr=>((i=.int .i64 0∧Hid (Blk wr go #[.int .u8 0,.int .u32 0] 39))∨(i=.int .i64 1∧Hid (Blk wr go #[.int .u8 et,.int .u32 ea] 39)))∧Hid (Mod [] w wr)) (fun i _=>1 - (intOf i).toNat)
 case atStart=>exact ⟨.inl ⟨rfl,B0⟩,M0⟩
 case round=>
  clear B0 M0
  obtain ⟨⟨rfl,HB⟩ | ⟨rfl,HB⟩,HM⟩:=hrel
  ·skip
   have d0:=(HM.out.cell (a:=⟨g,0,none⟩) hgl (by simp)).trans c0
   have d1:=(HM.out.cell (a:=⟨g,1,none⟩) hgl (by simp)).trans c1
   have d2:=(HM.out.cell (a:=⟨g,2,none⟩) hgl (by simp)).trans c2
   obtain ⟨e0,e1⟩:=HB.out.cells2
   have e2:=fun o=>(HB.out.alloc o).cells2.1
   have e3:=fun o=>(HB.out.alloc o).cells2.2
   have f2:=fun o=>(HB.out.alloc o).froz 0
   have f3:=fun o=>(HB.out.alloc o).froz 1
   have hgr:g < wr.heap.size:=Nat.lt_of_lt_of_le hgl HM.out.size
   have hgor:=HB.out.lt
   obtain ⟨gn,hgn⟩:∃gn,wr.heap.size=gn:=⟨_,rfl⟩
   have n3:¬go=gn:=by omega
   have n4:¬gn=go:=by omega
   clear c0 c1 c2
   go_wp2_with fail
   go_roundw
   case rel=>
    refine ⟨.inr ⟨by first | rfl | go_num,?_⟩,?_⟩
    ·exact set2_blk (HB.out.alloc _) ⟨et,ea⟩
    ·exact ((HM.out.alloc _).setCell _ _ (by simp;omega)).setCell _ _ (by simp;omega)
   case measure=>simp [intOf]
  ·go_wp2_with fail
   have A0:Hid (AllSt w wr b n room L F f go t 0):=⟨[],F,et,ea,by rw [List.append_nil];exact HS.out.mod HM.out (by simp),Grow.of_mod HM.out,HB.out,fun h=>by have:=FL.out _ h;omega,by rw [List.append_nil];exact HE.out,by simp⟩
   clear HB HM
   go_loopw [47] (fun i wr=>∃k:Nat,k≤ln∧i=.int .i64 k∧Hid (AllSt w wr b n room L F f go ((l.take k).foldl (fun t s=>swpT s n t) t) (k *62))) (fun i _=>ln - (intOf i).toNat)
   case atStart=>exact ⟨0,by omega,rfl,A0⟩
   case round=>
    clear A0
    obtain ⟨k,hk,rfl,HA⟩:=hrel
    by_cases hlt:k < ln
    ·have hlt':(k:Int) < ln:=by omega
     have hk1:k < l.length:=by rw [HLN.out];exact hlt
     obtain ⟨lv,hlv⟩:∃lv,l[k]=lv:=⟨_,rfl⟩
     have hlv2:lv+1 < n:=HOK.out lv (by rw [←hlv];exact List.getElem_mem _)
     have TK:Hid ((l.take (k+1)).foldl (fun t s=>swpT s n t) t=swpT lv n ((l.take k).foldl (fun t s=>swpT s n t) t)):=by
      show _=_
      rw [List.take_succ_eq_append_getElem hk1,List.foldl_append,hlv];rfl
     generalize (l.take k).foldl (fun t s=>swpT s n t) t=T at *
     obtain ⟨L2,F',et2,ea2,S,G,B,hgF',ET,hL2⟩:=HA.out
     obtain ⟨b1,o1,rfl,d1⟩:=(SP.out.mod G.mod (fun k hk=>(HF.out.2.2 k hk).1)).at k (by rw [List.length_map];exact hk1)
     rw [List.getElem_map,hlv] at d1
     unfold ei at d1
     have cl:cst lv≤62:=cst_le lv (by omega)
     have RM2:Hid ((L++L2).length+cst lv≤room∧(L++L2).length+cst lv≤100000):=by
      have h:=RM.out
      have h2:(k+1) *62≤ln *62:=Nat.mul_le_mul_right _ hlt
      exact ⟨by rw [List.length_append];omega,by rw [List.length_append];omega⟩
     obtain ⟨bm,hbm⟩:∃bm,wr.heap.size=bm:=⟨_,rfl⟩
     have hwb:w.heap.size≤bm:=by rw [←hbm];exact G.size
     have hgob:go < bm:=by rw [←hbm];exact B.lt
     have hggb:g < bm:=by omega
     have hlv16:(lv:Int)≤5:=by omega
     have hHL:=S.st.lt
     have hbF:bm∉F':=fun h=>by have:=hHL _ h;omega
     have hbF1:bm+1∉F':=fun h=>by have:=hHL _ h;omega
     have ST:=Lib.hid S
     have G0:=Lib.hid G
     have HB:=Lib.hid B
     have HET:=Lib.hid ET
     have HL2:=Lib.hid hL2
     clear HA hlv hk1 S G B ET hL2 hHL c0 c1 c2
     go_wp2_with fail
     have M0:Hid (Mod [] wr ((wr.alloc (.map #[] 0)).alloc (.cells #[.pointer (some ⟨b,0,none⟩),.int .i64 lv,.map (some bm)] 167))):=by exact mods
     have KM:=Lib.hid ((IsKept.made wr bm hbm.symm (KeptK (L++L2) f n lv)).mod (show Mod [] _ ((wr.alloc (.map #[] 0)).alloc (.cells #[.pointer (some ⟨b,0,none⟩),.int .i64 lv,.map (some bm)] 167)) from by exact mods) (by simp))
     have BT:=Lib.hid (Blk.new' (wr.alloc (.map #[] 0)) #[.pointer (some ⟨b,0,none⟩),.int .i64 lv,.map (some bm)] 167 (bm+1) (by simp [hbm]))
     generalize (wr.alloc (.map #[] 0)).alloc (.cells #[.pointer (some ⟨b,0,none⟩),.int .i64 lv,.map (some bm)] 167)=wx at *
     replace ST:=Lib.hid (ST.out.mod M0.out (by simp))
     replace HB:=Lib.hid (HB.out.mod M0.out (by simp))
     replace G0:=Lib.hid (G0.out.then M0.out)
     clear M0 hbm
     go_loopw [57] (fun i w3=>(i=.int .i64 0∧w3=wx)∨(i=.int .i64 1∧Hid (AllSt w w3 b n room L F f go (swpT lv n T) ((k+1) *62)))) (fun i _=>1 - (intOf i).toNat)
     case atStart=>exact .inl ⟨rfl,rfl⟩
     case round=>
      rcases hrel with ⟨rfl,hw⟩ | ⟨rfl,HA⟩
      ·replace hw:=hw.symm
       subst hw
       have gm:=G0.out.mod
       have d0:=(gm.cell (a:=⟨g,0,none⟩) hgl HF.out.1).trans CG.out.1
       have d1x:=(gm.cell (a:=⟨g,1,none⟩) hgl HF.out.1).trans CG.out.2.1
       have d2:=(gm.cell (a:=⟨g,2,none⟩) hgl HF.out.1).trans CG.out.2.2
       obtain ⟨gr0,hgr0⟩:∃gr0,wx.heap.size=gr0:=⟨_,rfl⟩
       have hbmg:bm+1 < gr0:=by rw [←hgr0];exact BT.out.lt
       have gm2:=gm.size
       have hgwx:g < wx.heap.size:=by omega
       have hr0F:gr0∉bm::F':=fun h=>by
        rcases List.mem_cons.1 h with h | h
        ·omega
        ·have:=ST.out.st.lt _ h;omega
       have hgoF:go∉bm::F':=fun h=>by
        rcases List.mem_cons.1 h with h | h
        ·omega
        ·exact hgF' h
       go_upto_region 17 with fail
       have M3:Hid (Mod [] wx (wx.alloc (.cells #[.int .u8 f,.int .u8 et,.int .u32 ea] 52))):=by exact mods
       have BR:=Lib.hid (Blk.new' wx #[.int .u8 f,.int .u8 et,.int .u32 ea] 52 gr0 hgr0.symm)
       generalize wx.alloc (.cells #[.int .u8 f,.int .u8 et,.int .u32 ea] 52)=wy at *
       replace ST:=Lib.hid (ST.out.mod M3.out (by simp))
       replace HB:=Lib.hid (HB.out.mod M3.out (by simp))
       replace KM:=Lib.hid (KM.out.mod M3.out (by simp))
       replace BT:=Lib.hid (BT.out.mod M3.out (by simp))
       replace G0:=Lib.hid (G0.out.then M3.out)
       clear M3 d0 d1x d2 gm gm2 hgr0 hgwx
       have AT:Hid (∀W,Mod [] wy W→Calls Tryz.prog 82 #[.pointer (some ⟨bm+1,0,none⟩),.agg #[.int .u8 f,.int .u8 et2,.int .u32 ea2,.int .i64 0]] W (AtP W b n room (L++L2) F' f lv bm 0 lv n 0 T)):=fun W mW=>by
        have h:=swapAt_c h1 h5 hrm (by omega) hlv2 lv 0 (by omega) W (L++L2) F' 0 n et2 ea2 T (BT.out.mod mW (by simp)) (ST.out.mod mW (by simp)) (KM.out.mod mW (by simp)) hbF1 hbF HET.out RM2.out.1 RM2.out.2 (by omega)
        exact h
       obtain ⟨q0,q1⟩:=HB.out.cells2
       have p0:=BR.out.cell 0
       simp only [List.getElem?_toArray,List.getElem?_cons_zero] at p0
       have h_go:=HB.out.lt
       have h_r0:=BR.out.lt
       obtain ⟨gs,hgs⟩:∃gs,wy.heap.size=gs:=⟨_,rfl⟩
       have hgsF:gs∉bm::F':=fun h=>by
        rcases List.mem_cons.1 h with h | h
        ·omega
        ·have:=ST.out.st.lt _ h;omega
       have na1:¬go=gs:=by omega
       have na2:¬gs=go:=by omega
       have na3:¬go=gs+1:=by omega
       have na4:¬gs+1=go:=by omega
       have na5:¬gr0=gs:=by omega
       have na6:¬gs=gr0:=by omega
       have na7:¬gr0=gs+1:=by omega
       have na8:¬gs+1=gr0:=by omega
       go_cut [19,20] from 62 to 72 (fun p o wq=>∃(ga lt la:Nat) (L3:List Rc) (F3:List Nat),p=.pointer (some ⟨ga,0,none⟩)∧o=.int .u8 0∧Hid (OneB wy wq b n room ((L++L2)++L3) F' F3 bm ga ⟨lt,la⟩)∧Hid (EdT ((L++L2)++L3) f n n 0 ⟨lt,la⟩ (swpT lv n T))∧L3.length≤cst lv)
       case first=>
        go_region_held3 (fun w'=>w'.cell? ⟨go,0,none⟩=some (.int .u8 et2)∧w'.cell? ⟨go,1,none⟩=some (.int .u32 ea2)∧w'.cell? ⟨gr0,0,none⟩=some (.int .u8 f)) (go_keep) (first | (go_at_call 82;refine (AT.out _ (show Mod [] wy _ from by exact mods)).mono ?_;rintro e' w2 ⟨lt,la,L3,F3,m3,rfl,s2,⟨m_w2,o2⟩,hmF3,km3,hm3,tl2,hl2⟩;have M_w2:=Mod.trans' (show Mod _ wy _ from by exact mods) m_w2;have q0:=(M_w2.cell (a:=⟨go,0,none⟩) h_go (by first | assumption | (simp;assumption))).trans q0;have q1:=(M_w2.cell (a:=⟨go,1,none⟩) h_go (by first | assumption | (simp;assumption))).trans q1;have p0:=(M_w2.cell (a:=⟨gr0,0,none⟩) h_r0 (by first | assumption | (simp;assumption))).trans p0;have h_go:=Nat.lt_of_lt_of_le h_go M_w2.size;have h_r0:=Nat.lt_of_lt_of_le h_r0 M_w2.size;have hBx:=fun c ty g (hg:g∉_) (h:Blk _ g c ty)=>h.mod m_w2 hg;first | (have za:=hBx _ _ gs hgsF ((Blk.new' wy _ _ gs hgs.symm).drew);have zz0:=za.cell 0;have zz1:=za.cell 1;simp only [List.getElem?_toArray,List.getElem?_cons_zero,List.getElem?_cons_succ] at zz0 zz1;have zzf:=za.froz;obtain ⟨gr,hgr⟩:∃gr,w2.heap.size=gr:=⟨_,rfl⟩;have hzl:=za.lt;have gr1:¬gs=gr:=(fun h=>by omega);have gr2:¬gr=gs:=(fun h=>by omega);have xx0:=fun o=>(za.alloc o).cell 0;have xx1:=fun o=>(za.alloc o).cell 1;simp only [List.getElem?_toArray,List.getElem?_cons_zero,List.getElem?_cons_succ] at xx0 xx1;have xxf:=fun o=>(za.alloc o).froz;have zg:=Blk.new' w2 #[.int .u8 0,.int .u32 0] 39 gr hgr.symm;have gg0:=zg.cell 0;have gg1:=zg.cell 1;simp only [List.getElem?_toArray,List.getElem?_cons_zero,List.getElem?_cons_succ] at gg0 gg1;have ggf:=zg.froz;have oq:∀k∈(bm::F3),k∈(bm::F')∨gs+1≤k:=fun k hk=>(o2 k hk).imp (fun h=>h) (fun q=>by simp [hgs] at q;omega);have o_w2:∀k∈(bm::F3),k∈(bm::F')∨wy.heap.size≤k:=fun k hk=>(oq k hk).imp (fun h=>h) (fun q=>by omega);have hfs:gs∉(bm::F3):=fun h=>(oq _ h).elim hgsF (fun q=>by omega);have nb0:¬go=gr:=(fun h=>by omega);have nc0:¬gr=go:=(fun h=>by omega);have nd0:¬go=gr+1:=(fun h=>by omega);have ne0:¬gr+1=go:=(fun h=>by omega);have nb1:¬gr0=gr:=(fun h=>by omega);have nc1:¬gr=gr0:=(fun h=>by omega);have nd1:¬gr0=gr+1:=(fun h=>by omega);have ne1:¬gr+1=gr0:=(fun h=>by omega);skip) | (obtain ⟨gr,hgr⟩:∃gr,w2.heap.size=gr:=⟨_,rfl⟩;have za:=Blk.new' w2 #[.int .u8 0,.int .u32 0] 39 gr hgr.symm;have zz0:=za.cell 0;have zz1:=za.cell 1;simp only [List.getElem?_toArray,List.getElem?_cons_zero,List.getElem?_cons_succ] at zz0 zz1;have zzf:=za.froz;have nb0:¬go=gr:=(fun h=>by omega);have nc0:¬gr=go:=(fun h=>by omega);have nd0:¬go=gr+1:=(fun h=>by omega);have ne0:¬gr+1=go:=(fun h=>by omega);have nb1:¬gr0=gr:=(fun h=>by omega);have nc1:¬gr=gr0:=(fun h=>by omega);have nd1:¬gr0=gr+1:=(fun h=>by omega);have ne1:¬gr+1=gr0:=(fun h=>by omega);have o_w2:∀k∈(bm::F3),k∈(bm::F')∨wy.heap.size≤k:=fun k hk=>(o2 k hk).imp (fun h=>h) (fun q=>q))))
        all_goals (go_wp2_with fail;go_meet)
        all_goals first
         | exact ⟨gr,lt,la,L3,F3,rfl,rfl,OneB.new ⟨lt,la⟩ M_w2 o_w2 s2 hgr,tl2,hl2⟩
         | exact ⟨gs,lt,la,L3,F3,rfl,rfl,OneB.old ⟨lt,la⟩ M_w2 o_w2 s2 (Nat.le_of_eq hgs) hfs za,tl2,hl2⟩
       case rest=>
        obtain ⟨ga,zt,za,L3,F3,rfl,rfl,OB,E3,hl3⟩:=hcut
        clear AT q0 q1 p0 h_r0 na1 na2 na3 na4 na5 na6 na7 na8 hgsF
        generalize wc=w7 at *
        have hgo3:go∉F3:=OB.out.gr.keep1 h_go (by omega) hgF'
        replace HB:=Lib.hid (HB.out.mod OB.out.gr.mod hgoF)
        have BZ:=Lib.hid OB.out.ba
        replace G0:=Lib.hid (G0.out.transB OB.out.gr hwb)
        replace ST:=Lib.hid OB.out.st
        have hga:ga≠go:=by have:=OB.out.al;omega
        have hga1:¬ga=go:=hga
        have hga2:¬go=ga:=fun e=>hga e.symm
        have hgaf:=OB.out.af
        clear OB hgoF hr0F BR KM BT hgs h_go
        obtain ⟨v0,v1⟩:=BZ.out.cells2
        obtain ⟨e0,e1⟩:=HB.out.cells2
        have f0:=HB.out.froz 0
        have f1:=HB.out.froz 1
        go_wp2_with fail
        go_roundw
        case rel=>
         refine .inr ⟨by first | rfl | go_num,L2++L3,F3,zt,za,?_,?_,set2_blk HB.out ⟨zt,za⟩,hgo3,?_,?_⟩
         ·rw [←List.append_assoc]
          exact ST.out.mod (set2_mod (Mod.refl [go] w7) go ⟨zt,za⟩ (fun _=>by simp)) (fun k hk h=>by simp at h;subst h;exact hgo3 hk)
         ·exact G0.out.write (set2_mod (Mod.refl [go] w7) go ⟨zt,za⟩ (fun _=>by simp)) (by intro k hk;simp at hk;omega)
         ·rw [←List.append_assoc];exact E3.out
         ·rw [List.length_append];have:=HL2.out;rw [Nat.succ_mul];omega
        case measure=>simp [intOf]
      ·clear ST HB G0 KM BT HET HL2 RM2
       go_wp2_with fail
       go_roundw
       case rel=>exact ⟨k+1,by omega,by go_num,by show AllSt _ _ _ _ _ _ _ _ _ _ _;rw [TK.out];exact HA.out⟩
       case measure=>simp [intOf];omega
    ·obtain rfl:ln=k:=by omega
     rw [List.take_of_length_le (by rw [HLN.out];exact Nat.le_refl _)] at HA
     obtain ⟨L2,F',et2,ea2,S,G,B,hgF',ET,hL2⟩:=HA.out
     have ST:=Lib.hid S
     have G0:=Lib.hid G
     have HB:=Lib.hid B
     have HET:=Lib.hid ET
     have gow:go∉Fo:=fun h=>by have:=HO.out.lt _ h;omega
     have O1:=Lib.hid (HO.out.mod G.mod HF.out.2.1)
     have SP1:=Lib.hid (SP.out.mod G.mod (fun k hk=>(HF.out.2.2 k hk).1))
     have foF:∀k∈Fo,k∉F':=fun k hk h=>(G.own k h).elim (HF.out.2.1 k hk) (fun q=>by have:=HO.out.lt _ hk;omega)
     have FOF:=Lib.hid foF
     clear HA S G B ET foF hlt hk
     obtain ⟨wz,hwz⟩:∃wz,wz=wr:=⟨_,rfl⟩
     subst hwz
     go_wp2_with fail
     have O4:Hid (∃q',IsOrdD wz bo ((l.take 0).foldl swapL p) q' Fo∧Inv ((l.take 0).foldl swapL p) q'∧Perm ((l.take 0).foldl swapL p) n):=⟨q,O1.out,HI.out,HP.out⟩
     go_loopw [84] (fun i w4=>∃k:Nat,k≤ln∧i=.int .i64 k∧Hid (∃q',IsOrdD w4 bo ((l.take k).foldl swapL p) q' Fo∧Inv ((l.take k).foldl swapL p) q'∧Perm ((l.take k).foldl swapL p) n)∧Hid (Mod Fo wz w4)) (fun i _=>ln - (intOf i).toNat)
     case atStart=>exact ⟨0,by omega,rfl,O4,Mod.refl _ _⟩
     case round=>
      clear O4 O1
      obtain ⟨k,hk,rfl,HO4,HM4⟩:=hrel
      by_cases hlt:k < ln
      ·have hlt':(k:Int) < ln:=by omega
       have hk1:k < l.length:=by rw [HLN.out];exact hlt
       obtain ⟨b1,o1,rfl,d1⟩:=(SP1.out.mod HM4.out (fun k hk=>(HF.out.2.2 k hk).2)).at k (by rw [List.length_map];exact hk1)
       obtain ⟨lv,hlv⟩:∃lv,l[k]=lv:=⟨_,rfl⟩
       rw [List.getElem_map,hlv] at d1
       unfold ei at d1
       have hlv2:lv+1 < n:=HOK.out lv (by rw [←hlv];exact List.getElem_mem _)
       have TK:Hid ((l.take (k+1)).foldl swapL p=swapL ((l.take k).foldl swapL p) lv):=by
        show _=_
        rw [List.take_succ_eq_append_getElem hk1,List.foldl_append,hlv];rfl
       obtain ⟨q',x1,x2,x3⟩:=HO4.out
       have SW:=Lib.hid (ordSwap_c x1 x2 x3 (by omega) hlv2)
       have IV:=Lib.hid (x2.swap x3 hlv2)
       have PV:=Lib.hid (x3.swap hlv2)
       rw [←TK.out] at IV PV SW
       clear hlv x1 x2 x3 HO4 hk1
       go_wp2_with fail
       refine SW.out.mono ?_
       rintro e w5 ⟨rfl,y1,y2⟩
       have Y1:=Lib.hid y1
       have Y2:=Lib.hid (HM4.out.trans' y2)
       clear y1 y2 d1 SW
       go_wp2_with fail
       go_roundw
       case rel=>exact ⟨k+1,by omega,by go_num,⟨_,Y1.out,IV.out,PV.out⟩,Y2⟩
       case measure=>simp [intOf];omega
      ·obtain rfl:ln=k:=by omega
       rw [List.take_of_length_le (by rw [HLN.out];exact Nat.le_refl _)] at HO4
       obtain ⟨q',x1,x2,x3⟩:=HO4.out
       have X1:=Lib.hid x1
       clear x1 x2 x3 HO4
       go_wp2_with fail
       go_ret2
       refine ⟨go,et2,ea2,L2,F',q',rfl,HB.out.mod HM4.out gow,ST.out.mod HM4.out (fun k hk h=>FOF.out k h hk),X1.out,?_,G0.out.own,HET.out,hgw,hgF',by rw [HLN.out];exact hL2⟩
       exact (G0.out.mod.mono (S':=F++Fo) (by intro k _ h;simp [h])).trans HM4.out (by intro k _ h;simp [h])
end Go.Proofs.YtnbjnnijifiaaaaGreatDoor
