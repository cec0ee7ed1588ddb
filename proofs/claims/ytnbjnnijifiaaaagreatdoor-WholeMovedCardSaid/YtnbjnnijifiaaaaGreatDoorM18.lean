/- M18: Xc -/
import Derived.Test.YtnbjnnijifiaaaaGreatDoorM09
import Derived.Test.YtnbjnnijifiaaaaGreatDoorM17
import Derived.Deep.RegionHeld3
import Derived.Deep.CutRange
set_option maxRecDepth 100000
set_option maxHeartbeats 4000000
set_option linter.unusedVariables false
set_option linter.unusedSimpArgs false
namespace Go.Proofs.YtnbjnnijifiaaaaGreatDoor
open Go.RowKit
def CrT (w:World) (b n room:Nat) (L:List Rc) (F:List Nat) (f k l:Nat) (t u:List Bool) (r:Ending) (w':World):Prop:=
 ∃(xt xa yt ya:Nat) (L2:List Rc) (F':List Nat),r=.returned (.tuple #[.agg #[.int .u8 xt,.int .u32 xa],.agg #[.int .u8 yt,.int .u32 ya],.int .u8 0])∧Sto w' b n room (L++L2) F'∧Grow w w' F F'∧
  EdT (L++L2) f n (k+1) l ⟨xt,xa⟩ (t.take (2 ^ k)++u.take (2 ^ k))∧EdT (L++L2) f n (k+1) l ⟨yt,ya⟩ (t.drop (2 ^ k)++u.drop (2 ^ k))∧L2.length≤4
theorem cross_c {f:Nat} (h1:1≤f) (h5:f≤5) {w:World} {bt b n lv bm room:Nat} {L:List Rc} {F:List Nat} (hB:Blk w bt #[.pointer (some ⟨b,0,none⟩),.int .i64 lv,.map (some bm)] 167) (S:Sto w b n room L F) (hbF:bt∉F) (hr1:L.length+4≤room) (hr2:L.length+4≤100000) (hrm:room≤1048576) (hn:n≤16)
 {k:Nat} {lo hi:Ed} {t u:List Bool} (hlo:EdT L f n (k+1) (lv+1) lo t) (hhi:EdT L f n (k+1) (lv+1) hi u):
 Calls Tryz.prog 130 #[.pointer (some ⟨bt,0,none⟩),.int .u8 f,edv lo,edv hi] w (CrT w b n room L F f k (lv+1) t u):=by
 have hlk:=hlo.lk
 have VW:Hid (∀(W:World) (L':List Rc) (F':List Nat) (et ea:Nat) (t':List Bool),Sto W b n room L' F'→L'.length < room→L'.length≤100000→EdT L' f n (k+1) (lv+1) ⟨et,ea⟩ t'→
  Calls Tryz.prog 129 #[.pointer (some ⟨b,0,none⟩),.int .u8 f,.agg #[.int .u8 et,.int .u32 ea],.int .i64 ((lv:Int)+1)] W (VwT W b n room L' F' f k (lv+1) t')):=fun W L' F' et ea t' s a1 a2 e=>by
  have h:=view_s h1 h5 s a2 a1 hrm hn e
  unfold edv at h
  rw [show ((lv+1:Nat):Int)=(lv:Int)+1 from rfl] at h
  exact h
 have MK:Hid (∀(W:World) (L':List Rc) (F':List Nat) (et ea et2 ea2:Nat) (t' u':List Bool),Sto W b n room L' F'→L'.length < room→L'.length≤100000→EdT L' f n k (lv+1+1) ⟨et,ea⟩ t'→EdT L' f n k (lv+1+1) ⟨et2,ea2⟩ u'→
  Calls Tryz.prog 66 #[.pointer (some ⟨b,0,none⟩),.int .u8 f,.int .i64 ((lv:Int)+1),.agg #[.int .u8 et,.int .u32 ea],.agg #[.int .u8 et2,.int .u32 ea2]] W (MkT W b n room L' F' f (k+1) (lv+1) (t'++u'))):=fun W L' F' et ea et2 ea2 t' u' s a1 a2 e e'=>by
  have h:=make_s h1 h5 s a2 a1 hrm hn e e'
  unfold edv at h
  rw [show ((lv+1:Nat):Int)=(lv:Int)+1 from rfl] at h
  exact h
 obtain ⟨lt0,la0⟩:=lo
 obtain ⟨ht0,ha0⟩:=hi
 obtain ⟨gk,hgk⟩:∃gk,w.heap.size=gk:=⟨_,rfl⟩
 have hbl:=hB.lt
 have FL:=Lib.hid S.st.lt
 have hlv:(lv:Int)≤16:=by omega
 obtain ⟨k0,k1,k2⟩:w.cell? ⟨bt,0,none⟩=some (.pointer (some ⟨b,0,none⟩))∧w.cell? ⟨bt,1,none⟩=some (.int .i64 lv)∧w.cell? ⟨bt,2,none⟩=some (.map (some bm)):=⟨hB.cell 0,hB.cell 1,hB.cell 2⟩
 have HB:=Lib.hid hB
 have HS:=Lib.hid S
 have HLO:=Lib.hid hlo
 have HHI:=Lib.hid hhi
 have RM:=Lib.hid (And.intro hr1 hr2)
 clear hB S hlo hhi hr1 hr2 hlk
 have gn1:¬bt=gk:=by omega
 have gn2:¬gk=bt:=by omega
 have gn3:¬bt=gk+1:=by omega
 have gn4:¬bt=gk+1+1:=by omega
 have gn5:¬bt=gk+1+1+1:=by omega
 unfold edv
 simp only
 have M0:Hid (Mod [] w ((((w.alloc (.cells #[.int .u8 lt0,.int .u32 la0] 39)).alloc (.cells #[.int .u8 ht0,.int .u32 ha0] 39)).alloc (.cells #[.int .u8 0,.int .u32 0] 39)).alloc (.cells #[.int .u8 0,.int .u32 0] 39))):=by exact mods
 have k0:=(M0.out.cell (a:=⟨bt,0,none⟩) hbl (by simp)).trans k0
 have k1:=(M0.out.cell (a:=⟨bt,1,none⟩) hbl (by simp)).trans k1
 have BLo:=Lib.hid ((((Blk.new' w #[.int .u8 lt0,.int .u32 la0] 39 gk hgk.symm).alloc (.cells #[.int .u8 ht0,.int .u32 ha0] 39)).alloc (.cells #[.int .u8 0,.int .u32 0] 39)).alloc (.cells #[.int .u8 0,.int .u32 0] 39))
 have BHi:=Lib.hid (((Blk.new' (w.alloc (.cells #[.int .u8 lt0,.int .u32 la0] 39)) #[.int .u8 ht0,.int .u32 ha0] 39 (gk+1) (by simp [hgk])).alloc (.cells #[.int .u8 0,.int .u32 0] 39)).alloc (.cells #[.int .u8 0,.int .u32 0] 39))
 have R1:=Lib.hid ((Blk.new' ((w.alloc (.cells #[.int .u8 lt0,.int .u32 la0] 39)).alloc (.cells #[.int .u8 ht0,.int .u32 ha0] 39)) #[.int .u8 0,.int .u32 0] 39 (gk+1+1) (by simp [hgk])).alloc (.cells #[.int .u8 0,.int .u32 0] 39))
 have R2:=Lib.hid (Blk.new' (((w.alloc (.cells #[.int .u8 lt0,.int .u32 la0] 39)).alloc (.cells #[.int .u8 ht0,.int .u32 ha0] 39)).alloc (.cells #[.int .u8 0,.int .u32 0] 39)) #[.int .u8 0,.int .u32 0] 39 (gk+1+1+1) (by simp [hgk]))
 have hsz:((((w.alloc (.cells #[.int .u8 lt0,.int .u32 la0] 39)).alloc (.cells #[.int .u8 ht0,.int .u32 ha0] 39)).alloc (.cells #[.int .u8 0,.int .u32 0] 39)).alloc (.cells #[.int .u8 0,.int .u32 0] 39)).heap.size=gk+4:=by simp [hgk]
 go_enter Tryz.func130,Tryz.ntmps130
 go_upto_region 2 with fail
 generalize (((w.alloc (.cells #[.int .u8 lt0,.int .u32 la0] 39)).alloc (.cells #[.int .u8 ht0,.int .u32 ha0] 39)).alloc (.cells #[.int .u8 0,.int .u32 0] 39)).alloc (.cells #[.int .u8 0,.int .u32 0] 39)=w1 at *
 have ST:=Lib.hid (HS.out.mod M0.out (by simp))
 have B_bt:=Lib.hid (HB.out.mod M0.out (by simp))
 have G0:=Lib.hid (Grow.of_mod (F:=F) M0.out)
 have n_bt:=hbF
 have n_lo:gk∉F:=fun h=>by have:=FL.out _ h;omega
 have n_hi:gk+1∉F:=fun h=>by have:=FL.out _ h;omega
 have n_r1:gk+1+1∉F:=fun h=>by have:=FL.out _ h;omega
 have n_r2:gk+1+1+1∉F:=fun h=>by have:=FL.out _ h;omega
 have hw1:gk+4≤w1.heap.size:=by omega
 have B_lo:=BLo
 have B_hi:=BHi
 have B_r1:=R1
 have B_r2:=R2
 clear BLo BHi R1 R2
 clear hsz HB hbF M0 FL HS hbl
 obtain ⟨gs,hgs⟩:∃gs,w1.heap.size=gs:=⟨_,rfl⟩
 have hgsF:gs∉F:=fun h=>by have:=ST.out.st.lt _ h;omega
 have hgtF:gs+1∉F:=fun h=>by have:=ST.out.st.lt _ h;omega
 have ny:¬gk=gs:=by omega
 have nz:¬gs=gk:=by omega
 have h_bt:=B_bt.out.lt
 have na_bt:¬bt=gs:=by omega
 have nb_bt:¬gs=bt:=by omega
 have nc_bt:¬bt=gs+1:=by omega
 have nd_bt:¬gs+1=bt:=by omega
 have h_lo:=B_lo.out.lt
 have na_lo:¬gk=gs:=by omega
 have nb_lo:¬gs=gk:=by omega
 have nc_lo:¬gk=gs+1:=by omega
 have nd_lo:¬gs+1=gk:=by omega
 obtain ⟨q0,q1⟩:=B_lo.out.cells2
 go_cut [12,13,14] from 24 to 35 (fun p q o wx=>∃(ga gb lt la ht ha:Nat) (L2:List Rc) (F2:List Nat),p=.pointer (some ⟨ga,0,none⟩)∧q=.pointer (some ⟨gb,0,none⟩)∧o=.int .u8 0∧Hid (Two w1 wx b n room (L++L2) F F2 ga gb ⟨lt,la⟩ ⟨ht,ha⟩)∧Hid (EdT (L++L2) f n k (lv+1+1) ⟨lt,la⟩ (t.take (2 ^ k)))∧Hid (EdT (L++L2) f n k (lv+1+1) ⟨ht,ha⟩ (t.drop (2 ^ k)))∧L2.length≤1)
 case first=>
  go_region_held3 (fun w'=>w'.cell? ⟨bt,0,none⟩=some (.pointer (some ⟨b,0,none⟩))∧w'.cell? ⟨gk,0,none⟩=some (.int .u8 lt0)∧w'.cell? ⟨gk,1,none⟩=some (.int .u32 la0)) (go_keep) (first | (go_at_call 129;refine (VW.out _ L F lt0 la0 t (ST.out.mod (show Mod [] w1 _ from by exact mods) (by simp)) (by have:=RM.out;omega) (by have:=RM.out;omega) HLO.out).mono ?_;rintro e' w2 ⟨lt,la,ht,ha,L2,F2,rfl,s2,⟨m_w2,o2⟩,tl2,th2,hl2⟩;have M_w2:=Mod.trans' (show Mod _ w1 _ from by exact mods) m_w2;have k0:=(M_w2.cell (a:=⟨bt,0,none⟩) h_bt (by first | assumption | (simp;assumption))).trans k0;have q0:=(M_w2.cell (a:=⟨gk,0,none⟩) h_lo (by first | assumption | (simp;assumption))).trans q0;have q1:=(M_w2.cell (a:=⟨gk,1,none⟩) h_lo (by first | assumption | (simp;assumption))).trans q1;have h_bt:=Nat.lt_of_lt_of_le h_bt M_w2.size;have h_lo:=Nat.lt_of_lt_of_le h_lo M_w2.size;have hBx:=fun c ty g (hg:g∉_) (h:Blk _ g c ty)=>h.mod m_w2 hg;first | (have za:=hBx _ _ gs hgsF (((Blk.new' w1 _ _ gs hgs.symm).alloc _).drew);have zc:=hBx _ _ (gs+1) hgtF ((Blk.new' (w1.alloc _) _ _ (gs+1) (by simp [hgs])).drew);have zz0:=za.cell 0;have zz1:=za.cell 1;simp only [List.getElem?_toArray,List.getElem?_cons_zero,List.getElem?_cons_succ] at zz0 zz1;have zzf:=za.froz;have yy0:=zc.cell 0;have yy1:=zc.cell 1;simp only [List.getElem?_toArray,List.getElem?_cons_zero,List.getElem?_cons_succ] at yy0 yy1;have yyf:=zc.froz;have oq:∀k∈F2,k∈F∨gs+2≤k:=fun k hk=>(o2 k hk).imp (fun h=>h) (fun q=>by simp [hgs] at q;omega);have o_w2:∀k∈F2,k∈F∨w1.heap.size≤k:=fun k hk=>(oq k hk).imp (fun h=>h) (fun q=>by omega);have hfs:gs∉F2:=fun h=>(oq _ h).elim hgsF (fun q=>by omega);have hfs1:gs+1∉F2:=fun h=>(oq _ h).elim hgtF (fun q=>by omega);skip) | (have za:=hBx _ _ gs hgsF ((Blk.new' w1 _ _ gs hgs.symm).drew);have zz0:=za.cell 0;have zz1:=za.cell 1;simp only [List.getElem?_toArray,List.getElem?_cons_zero,List.getElem?_cons_succ] at zz0 zz1;have zzf:=za.froz;obtain ⟨gr,hgr⟩:∃gr,w2.heap.size=gr:=⟨_,rfl⟩;have hzl:=za.lt;have gr1:¬gs=gr:=(fun h=>by omega);have gr2:¬gr=gs:=(fun h=>by omega);have xx0:=fun o=>(za.alloc o).cell 0;have xx1:=fun o=>(za.alloc o).cell 1;simp only [List.getElem?_toArray,List.getElem?_cons_zero,List.getElem?_cons_succ] at xx0 xx1;have xxf:=fun o=>(za.alloc o).froz;have zg:=Blk.new' w2 #[.int .u8 0,.int .u32 0] 39 gr hgr.symm;have gg0:=zg.cell 0;have gg1:=zg.cell 1;simp only [List.getElem?_toArray,List.getElem?_cons_zero,List.getElem?_cons_succ] at gg0 gg1;have ggf:=zg.froz;have oq:∀k∈F2,k∈F∨gs+1≤k:=fun k hk=>(o2 k hk).imp (fun h=>h) (fun q=>by simp [hgs] at q;omega);have o_w2:∀k∈F2,k∈F∨w1.heap.size≤k:=fun k hk=>(oq k hk).imp (fun h=>h) (fun q=>by omega);have hfs:gs∉F2:=fun h=>(oq _ h).elim hgsF (fun q=>by omega);have nb0:¬bt=gr:=(fun h=>by omega);have nc0:¬gr=bt:=(fun h=>by omega);have nd0:¬bt=gr+1:=(fun h=>by omega);have ne0:¬gr+1=bt:=(fun h=>by omega);have nb1:¬gk=gr:=(fun h=>by omega);have nc1:¬gr=gk:=(fun h=>by omega);have nd1:¬gk=gr+1:=(fun h=>by omega);have ne1:¬gr+1=gk:=(fun h=>by omega);skip) | (obtain ⟨gr,hgr⟩:∃gr,w2.heap.size=gr:=⟨_,rfl⟩;have za:=(Blk.new' w2 #[.int .u8 0,.int .u32 0] 39 gr hgr.symm).alloc (.cells #[.int .u8 0,.int .u32 0] 39);have zc:=Blk.new' (w2.alloc (.cells #[.int .u8 0,.int .u32 0] 39)) #[.int .u8 0,.int .u32 0] 39 (gr+1) (by simp [hgr]);have zz0:=za.cell 0;have zz1:=za.cell 1;simp only [List.getElem?_toArray,List.getElem?_cons_zero,List.getElem?_cons_succ] at zz0 zz1;have zzf:=za.froz;have yy0:=zc.cell 0;have yy1:=zc.cell 1;simp only [List.getElem?_toArray,List.getElem?_cons_zero,List.getElem?_cons_succ] at yy0 yy1;have yyf:=zc.froz;have nb0:¬bt=gr:=(fun h=>by omega);have nc0:¬gr=bt:=(fun h=>by omega);have nd0:¬bt=gr+1:=(fun h=>by omega);have ne0:¬gr+1=bt:=(fun h=>by omega);have nb1:¬gk=gr:=(fun h=>by omega);have nc1:¬gr=gk:=(fun h=>by omega);have nd1:¬gk=gr+1:=(fun h=>by omega);have ne1:¬gr+1=gk:=(fun h=>by omega);have o_w2:∀k∈F2,k∈F∨w1.heap.size≤k:=fun k hk=>(o2 k hk).imp (fun h=>h) (fun q=>q))))
  all_goals (go_wp2_with fail;go_meet)
  all_goals first
   | exact ⟨gr,gr+1,lt,la,ht,ha,L2,F2,rfl,rfl,rfl,(Two.new ⟨lt,la⟩ ⟨ht,ha⟩ M_w2 o_w2 s2 hgr).1,tl2,th2,hl2⟩
   | exact ⟨gr+1,gr,lt,la,ht,ha,L2,F2,rfl,rfl,rfl,(Two.new ⟨lt,la⟩ ⟨ht,ha⟩ M_w2 o_w2 s2 hgr).2,tl2,th2,hl2⟩
   | exact ⟨gs,gr,lt,la,ht,ha,L2,F2,rfl,rfl,rfl,(Two.half ⟨lt,la⟩ ⟨ht,ha⟩ M_w2 o_w2 s2 hgr (Nat.le_of_eq hgs) hfs za).1,tl2,th2,hl2⟩
   | exact ⟨gr,gs,lt,la,ht,ha,L2,F2,rfl,rfl,rfl,(Two.half ⟨lt,la⟩ ⟨ht,ha⟩ M_w2 o_w2 s2 hgr (Nat.le_of_eq hgs) hfs za).2,tl2,th2,hl2⟩
   | exact ⟨gs,gs+1,lt,la,ht,ha,L2,F2,rfl,rfl,rfl,(Two.old ⟨lt,la⟩ ⟨ht,ha⟩ M_w2 o_w2 s2 (Nat.le_of_eq hgs) hfs hfs1 za zc).1,tl2,th2,hl2⟩
   | exact ⟨gs+1,gs,lt,la,ht,ha,L2,F2,rfl,rfl,rfl,(Two.old ⟨lt,la⟩ ⟨ht,ha⟩ M_w2 o_w2 s2 (Nat.le_of_eq hgs) hfs hfs1 za zc).2,tl2,th2,hl2⟩
 case rest=>
  obtain ⟨ga,gb,aT,aA,bT,bA,LA,FA,rfl,rfl,rfl,TW,E_a,E_b,hlA⟩:=hcut
  clear q0 q1 k0 hgs hgsF hgtF ny nz h_bt na_bt nb_bt nc_bt nd_bt h_lo na_lo nb_lo nc_lo nd_lo
  generalize wc=wa at *
  replace ST:=Lib.hid TW.out.st
  have hn:=TW.out.gr.out B_bt.out.lt n_bt
  replace B_bt:=Lib.hid (B_bt.out.mod TW.out.gr.mod n_bt)
  replace n_bt:=hn
  clear hn
  have hn:=TW.out.gr.out B_lo.out.lt n_lo
  replace B_lo:=Lib.hid (B_lo.out.mod TW.out.gr.mod n_lo)
  replace n_lo:=hn
  clear hn
  have hn:=TW.out.gr.out B_hi.out.lt n_hi
  replace B_hi:=Lib.hid (B_hi.out.mod TW.out.gr.mod n_hi)
  replace n_hi:=hn
  clear hn
  have hn:=TW.out.gr.out B_r1.out.lt n_r1
  replace B_r1:=Lib.hid (B_r1.out.mod TW.out.gr.mod n_r1)
  replace n_r1:=hn
  clear hn
  have hn:=TW.out.gr.out B_r2.out.lt n_r2
  replace B_r2:=Lib.hid (B_r2.out.mod TW.out.gr.mod n_r2)
  replace n_r2:=hn
  clear hn
  have B_a:=Lib.hid TW.out.ba
  have B_b:=Lib.hid TW.out.bb
  have n_a:=TW.out.af
  have n_b:=TW.out.bf
  have l_a:gk+4≤ga:=Nat.le_trans hw1 TW.out.al
  have l_b:gk+4≤gb:=Nat.le_trans hw1 TW.out.bl
  have hw1:gk+4≤wa.heap.size:=Nat.le_trans hw1 TW.out.gr.size
  replace G0:=Lib.hid (G0.out.trans TW.out.gr)
  clear TW
  go_upto_region 5 with fail
  obtain ⟨gs,hgs⟩:∃gs,wa.heap.size=gs:=⟨_,rfl⟩
  have hgsF:gs∉FA:=fun h=>by have:=ST.out.st.lt _ h;omega
  have hgtF:gs+1∉FA:=fun h=>by have:=ST.out.st.lt _ h;omega
  have ny:¬gk=gs:=by omega
  have nz:¬gs=gk:=by omega
  have h_bt:=B_bt.out.lt
  have na_bt:¬bt=gs:=by omega
  have nb_bt:¬gs=bt:=by omega
  have nc_bt:¬bt=gs+1:=by omega
  have nd_bt:¬gs+1=bt:=by omega
  have h_hi:=B_hi.out.lt
  have na_hi:¬gk+1=gs:=by omega
  have nb_hi:¬gs=gk+1:=by omega
  have nc_hi:¬gk+1=gs+1:=by omega
  have nd_hi:¬gs+1=gk+1:=by omega
  have k0:=B_bt.out.cell 0
  simp only [List.getElem?_toArray,List.getElem?_cons_zero,List.getElem?_cons_succ] at k0
  obtain ⟨q0,q1⟩:=B_hi.out.cells2
  go_cut [15,16,14] from 41 to 52 (fun p q o wx=>∃(ga gb lt la ht ha:Nat) (L2:List Rc) (F2:List Nat),p=.pointer (some ⟨ga,0,none⟩)∧q=.pointer (some ⟨gb,0,none⟩)∧o=.int .u8 0∧Hid (Two wa wx b n room ((L++LA)++L2) FA F2 ga gb ⟨lt,la⟩ ⟨ht,ha⟩)∧Hid (EdT ((L++LA)++L2) f n k (lv+1+1) ⟨lt,la⟩ (u.take (2 ^ k)))∧Hid (EdT ((L++LA)++L2) f n k (lv+1+1) ⟨ht,ha⟩ (u.drop (2 ^ k)))∧L2.length≤1)
  case first=>
   go_region_held3 (fun w'=>w'.cell? ⟨bt,0,none⟩=some (.pointer (some ⟨b,0,none⟩))∧w'.cell? ⟨gk+1,0,none⟩=some (.int .u8 ht0)∧w'.cell? ⟨gk+1,1,none⟩=some (.int .u32 ha0)) (go_keep) (first | (go_at_call 129;refine (VW.out _ (L++LA) FA ht0 ha0 u (ST.out.mod (show Mod [] wa _ from by exact mods) (by simp)) (by have:=RM.out;simp only [List.length_append];omega) (by have:=RM.out;simp only [List.length_append];omega) (HHI.out.grow LA)).mono ?_;rintro e' w2 ⟨lt,la,ht,ha,L2,F2,rfl,s2,⟨m_w2,o2⟩,tl2,th2,hl2⟩;have M_w2:=Mod.trans' (show Mod _ wa _ from by exact mods) m_w2;have k0:=(M_w2.cell (a:=⟨bt,0,none⟩) h_bt (by first | assumption | (simp;assumption))).trans k0;have q0:=(M_w2.cell (a:=⟨gk+1,0,none⟩) h_hi (by first | assumption | (simp;assumption))).trans q0;have q1:=(M_w2.cell (a:=⟨gk+1,1,none⟩) h_hi (by first | assumption | (simp;assumption))).trans q1;have h_bt:=Nat.lt_of_lt_of_le h_bt M_w2.size;have h_hi:=Nat.lt_of_lt_of_le h_hi M_w2.size;have hBx:=fun c ty g (hg:g∉_) (h:Blk _ g c ty)=>h.mod m_w2 hg;first | (have za:=hBx _ _ gs hgsF (((Blk.new' wa _ _ gs hgs.symm).alloc _).drew);have zc:=hBx _ _ (gs+1) hgtF ((Blk.new' (wa.alloc _) _ _ (gs+1) (by simp [hgs])).drew);have zz0:=za.cell 0;have zz1:=za.cell 1;simp only [List.getElem?_toArray,List.getElem?_cons_zero,List.getElem?_cons_succ] at zz0 zz1;have zzf:=za.froz;have yy0:=zc.cell 0;have yy1:=zc.cell 1;simp only [List.getElem?_toArray,List.getElem?_cons_zero,List.getElem?_cons_succ] at yy0 yy1;have yyf:=zc.froz;have oq:∀k∈F2,k∈FA∨gs+2≤k:=fun k hk=>(o2 k hk).imp (fun h=>h) (fun q=>by simp [hgs] at q;omega);have o_w2:∀k∈F2,k∈FA∨wa.heap.size≤k:=fun k hk=>(oq k hk).imp (fun h=>h) (fun q=>by omega);have hfs:gs∉F2:=fun h=>(oq _ h).elim hgsF (fun q=>by omega);have hfs1:gs+1∉F2:=fun h=>(oq _ h).elim hgtF (fun q=>by omega);skip) | (have za:=hBx _ _ gs hgsF ((Blk.new' wa _ _ gs hgs.symm).drew);have zz0:=za.cell 0;have zz1:=za.cell 1;simp only [List.getElem?_toArray,List.getElem?_cons_zero,List.getElem?_cons_succ] at zz0 zz1;have zzf:=za.froz;obtain ⟨gr,hgr⟩:∃gr,w2.heap.size=gr:=⟨_,rfl⟩;have hzl:=za.lt;have gr1:¬gs=gr:=(fun h=>by omega);have gr2:¬gr=gs:=(fun h=>by omega);have xx0:=fun o=>(za.alloc o).cell 0;have xx1:=fun o=>(za.alloc o).cell 1;simp only [List.getElem?_toArray,List.getElem?_cons_zero,List.getElem?_cons_succ] at xx0 xx1;have xxf:=fun o=>(za.alloc o).froz;have zg:=Blk.new' w2 #[.int .u8 0,.int .u32 0] 39 gr hgr.symm;have gg0:=zg.cell 0;have gg1:=zg.cell 1;simp only [List.getElem?_toArray,List.getElem?_cons_zero,List.getElem?_cons_succ] at gg0 gg1;have ggf:=zg.froz;have oq:∀k∈F2,k∈FA∨gs+1≤k:=fun k hk=>(o2 k hk).imp (fun h=>h) (fun q=>by simp [hgs] at q;omega);have o_w2:∀k∈F2,k∈FA∨wa.heap.size≤k:=fun k hk=>(oq k hk).imp (fun h=>h) (fun q=>by omega);have hfs:gs∉F2:=fun h=>(oq _ h).elim hgsF (fun q=>by omega);have nb0:¬bt=gr:=(fun h=>by omega);have nc0:¬gr=bt:=(fun h=>by omega);have nd0:¬bt=gr+1:=(fun h=>by omega);have ne0:¬gr+1=bt:=(fun h=>by omega);have nb1:¬gk+1=gr:=(fun h=>by omega);have nc1:¬gr=gk+1:=(fun h=>by omega);have nd1:¬gk+1=gr+1:=(fun h=>by omega);have ne1:¬gr+1=gk+1:=(fun h=>by omega);skip) | (obtain ⟨gr,hgr⟩:∃gr,w2.heap.size=gr:=⟨_,rfl⟩;have za:=(Blk.new' w2 #[.int .u8 0,.int .u32 0] 39 gr hgr.symm).alloc (.cells #[.int .u8 0,.int .u32 0] 39);have zc:=Blk.new' (w2.alloc (.cells #[.int .u8 0,.int .u32 0] 39)) #[.int .u8 0,.int .u32 0] 39 (gr+1) (by simp [hgr]);have zz0:=za.cell 0;have zz1:=za.cell 1;simp only [List.getElem?_toArray,List.getElem?_cons_zero,List.getElem?_cons_succ] at zz0 zz1;have zzf:=za.froz;have yy0:=zc.cell 0;have yy1:=zc.cell 1;simp only [List.getElem?_toArray,List.getElem?_cons_zero,List.getElem?_cons_succ] at yy0 yy1;have yyf:=zc.froz;have nb0:¬bt=gr:=(fun h=>by omega);have nc0:¬gr=bt:=(fun h=>by omega);have nd0:¬bt=gr+1:=(fun h=>by omega);have ne0:¬gr+1=bt:=(fun h=>by omega);have nb1:¬gk+1=gr:=(fun h=>by omega);have nc1:¬gr=gk+1:=(fun h=>by omega);have nd1:¬gk+1=gr+1:=(fun h=>by omega);have ne1:¬gr+1=gk+1:=(fun h=>by omega);have o_w2:∀k∈F2,k∈FA∨wa.heap.size≤k:=fun k hk=>(o2 k hk).imp (fun h=>h) (fun q=>q))))
   all_goals (go_wp2_with fail;go_meet)
   all_goals first
    | exact ⟨gr,gr+1,lt,la,ht,ha,L2,F2,rfl,rfl,rfl,(Two.new ⟨lt,la⟩ ⟨ht,ha⟩ M_w2 o_w2 s2 hgr).1,tl2,th2,hl2⟩
    | exact ⟨gr+1,gr,lt,la,ht,ha,L2,F2,rfl,rfl,rfl,(Two.new ⟨lt,la⟩ ⟨ht,ha⟩ M_w2 o_w2 s2 hgr).2,tl2,th2,hl2⟩
    | exact ⟨gs,gr,lt,la,ht,ha,L2,F2,rfl,rfl,rfl,(Two.half ⟨lt,la⟩ ⟨ht,ha⟩ M_w2 o_w2 s2 hgr (Nat.le_of_eq hgs) hfs za).1,tl2,th2,hl2⟩
    | exact ⟨gr,gs,lt,la,ht,ha,L2,F2,rfl,rfl,rfl,(Two.half ⟨lt,la⟩ ⟨ht,ha⟩ M_w2 o_w2 s2 hgr (Nat.le_of_eq hgs) hfs za).2,tl2,th2,hl2⟩
    | exact ⟨gs,gs+1,lt,la,ht,ha,L2,F2,rfl,rfl,rfl,(Two.old ⟨lt,la⟩ ⟨ht,ha⟩ M_w2 o_w2 s2 (Nat.le_of_eq hgs) hfs hfs1 za zc).1,tl2,th2,hl2⟩
    | exact ⟨gs+1,gs,lt,la,ht,ha,L2,F2,rfl,rfl,rfl,(Two.old ⟨lt,la⟩ ⟨ht,ha⟩ M_w2 o_w2 s2 (Nat.le_of_eq hgs) hfs hfs1 za zc).2,tl2,th2,hl2⟩
  case rest=>
   obtain ⟨gc,gd,cT,cA,dT,dA,LB,FB,rfl,rfl,rfl,TW,E_c,E_d,hlB⟩:=hcut
   clear q0 q1 k0 hgs hgsF hgtF ny nz h_bt na_bt nb_bt nc_bt nd_bt h_hi na_hi nb_hi nc_hi nd_hi
   generalize wc=wb at *
   replace ST:=Lib.hid TW.out.st
   have hn:=TW.out.gr.out B_bt.out.lt n_bt
   replace B_bt:=Lib.hid (B_bt.out.mod TW.out.gr.mod n_bt)
   replace n_bt:=hn
   clear hn
   have hn:=TW.out.gr.out B_lo.out.lt n_lo
   replace B_lo:=Lib.hid (B_lo.out.mod TW.out.gr.mod n_lo)
   replace n_lo:=hn
   clear hn
   have hn:=TW.out.gr.out B_hi.out.lt n_hi
   replace B_hi:=Lib.hid (B_hi.out.mod TW.out.gr.mod n_hi)
   replace n_hi:=hn
   clear hn
   have hn:=TW.out.gr.out B_r1.out.lt n_r1
   replace B_r1:=Lib.hid (B_r1.out.mod TW.out.gr.mod n_r1)
   replace n_r1:=hn
   clear hn
   have hn:=TW.out.gr.out B_r2.out.lt n_r2
   replace B_r2:=Lib.hid (B_r2.out.mod TW.out.gr.mod n_r2)
   replace n_r2:=hn
   clear hn
   have hn:=TW.out.gr.out B_a.out.lt n_a
   replace B_a:=Lib.hid (B_a.out.mod TW.out.gr.mod n_a)
   replace n_a:=hn
   clear hn
   have hn:=TW.out.gr.out B_b.out.lt n_b
   replace B_b:=Lib.hid (B_b.out.mod TW.out.gr.mod n_b)
   replace n_b:=hn
   clear hn
   have B_c:=Lib.hid TW.out.ba
   have B_d:=Lib.hid TW.out.bb
   have n_c:=TW.out.af
   have n_d:=TW.out.bf
   have l_c:gk+4≤gc:=Nat.le_trans hw1 TW.out.al
   have l_d:gk+4≤gd:=Nat.le_trans hw1 TW.out.bl
   have hw1:gk+4≤wb.heap.size:=Nat.le_trans hw1 TW.out.gr.size
   replace G0:=Lib.hid (G0.out.trans TW.out.gr)
   clear TW
   replace E_a:=Lib.hid (E_a.out.grow LB)
   replace E_b:=Lib.hid (E_b.out.grow LB)
   go_upto_region 8 with fail
   obtain ⟨gs,hgs⟩:∃gs,wb.heap.size=gs:=⟨_,rfl⟩
   have hgsF:gs∉FB:=fun h=>by have:=ST.out.st.lt _ h;omega
   have hgtF:gs+1∉FB:=fun h=>by have:=ST.out.st.lt _ h;omega
   have ny:¬gk=gs:=by omega
   have nz:¬gs=gk:=by omega
   have h_bt:=B_bt.out.lt
   have na_bt:¬bt=gs:=by omega
   have nb_bt:¬gs=bt:=by omega
   have nc_bt:¬bt=gs+1:=by omega
   have nd_bt:¬gs+1=bt:=by omega
   have h_a:=B_a.out.lt
   have na_a:¬ga=gs:=by omega
   have nb_a:¬gs=ga:=by omega
   have nc_a:¬ga=gs+1:=by omega
   have nd_a:¬gs+1=ga:=by omega
   have h_c:=B_c.out.lt
   have na_c:¬gc=gs:=by omega
   have nb_c:¬gs=gc:=by omega
   have nc_c:¬gc=gs+1:=by omega
   have nd_c:¬gs+1=gc:=by omega
   have k0:=B_bt.out.cell 0
   simp only [List.getElem?_toArray,List.getElem?_cons_zero,List.getElem?_cons_succ] at k0
   obtain ⟨q0,q1⟩:=B_a.out.cells2
   obtain ⟨p0,p1⟩:=B_c.out.cells2
   go_cut [17,14] from 58 to 69 (fun p o wx=>∃(ga lt la:Nat) (L2:List Rc) (F2:List Nat),p=.pointer (some ⟨ga,0,none⟩)∧o=.int .u8 0∧Hid (One wb wx b n room ((L++LA++LB)++L2) FB F2 ga ⟨lt,la⟩)∧Hid (EdT ((L++LA++LB)++L2) f n (k+1) (lv+1) ⟨lt,la⟩ (t.take (2 ^ k)++u.take (2 ^ k)))∧L2.length≤1)
   case first=>
    go_region_held3 (fun w'=>w'.cell? ⟨bt,0,none⟩=some (.pointer (some ⟨b,0,none⟩))∧w'.cell? ⟨ga,0,none⟩=some (.int .u8 aT)∧w'.cell? ⟨ga,1,none⟩=some (.int .u32 aA)∧w'.cell? ⟨gc,0,none⟩=some (.int .u8 cT)∧w'.cell? ⟨gc,1,none⟩=some (.int .u32 cA)) (go_keep) (first | (go_at_call 66;refine (MK.out _ (L++LA++LB) FB aT aA cT cA _ _ (ST.out.mod (show Mod [] wb _ from by exact mods) (by simp)) (by have:=RM.out;simp only [List.length_append];omega) (by have:=RM.out;simp only [List.length_append];omega) E_a.out E_c.out).mono ?_;rintro e' w2 ⟨lt,la,L2,F2,rfl,s2,⟨m_w2,o2⟩,tl2,hl2⟩;have M_w2:=Mod.trans' (show Mod _ wb _ from by exact mods) m_w2;have k0:=(M_w2.cell (a:=⟨bt,0,none⟩) h_bt (by first | assumption | (simp;assumption))).trans k0;have q0:=(M_w2.cell (a:=⟨ga,0,none⟩) h_a (by first | assumption | (simp;assumption))).trans q0;have q1:=(M_w2.cell (a:=⟨ga,1,none⟩) h_a (by first | assumption | (simp;assumption))).trans q1;have p0:=(M_w2.cell (a:=⟨gc,0,none⟩) h_c (by first | assumption | (simp;assumption))).trans p0;have p1:=(M_w2.cell (a:=⟨gc,1,none⟩) h_c (by first | assumption | (simp;assumption))).trans p1;have h_bt:=Nat.lt_of_lt_of_le h_bt M_w2.size;have h_a:=Nat.lt_of_lt_of_le h_a M_w2.size;have h_c:=Nat.lt_of_lt_of_le h_c M_w2.size;have hBx:=fun c ty g (hg:g∉_) (h:Blk _ g c ty)=>h.mod m_w2 hg;first | (have za:=hBx _ _ gs hgsF ((Blk.new' wb _ _ gs hgs.symm).drew);have zz0:=za.cell 0;have zz1:=za.cell 1;simp only [List.getElem?_toArray,List.getElem?_cons_zero,List.getElem?_cons_succ] at zz0 zz1;have zzf:=za.froz;obtain ⟨gr,hgr⟩:∃gr,w2.heap.size=gr:=⟨_,rfl⟩;have hzl:=za.lt;have gr1:¬gs=gr:=(fun h=>by omega);have gr2:¬gr=gs:=(fun h=>by omega);have xx0:=fun o=>(za.alloc o).cell 0;have xx1:=fun o=>(za.alloc o).cell 1;simp only [List.getElem?_toArray,List.getElem?_cons_zero,List.getElem?_cons_succ] at xx0 xx1;have xxf:=fun o=>(za.alloc o).froz;have zg:=Blk.new' w2 #[.int .u8 0,.int .u32 0] 39 gr hgr.symm;have gg0:=zg.cell 0;have gg1:=zg.cell 1;simp only [List.getElem?_toArray,List.getElem?_cons_zero,List.getElem?_cons_succ] at gg0 gg1;have ggf:=zg.froz;have oq:∀k∈F2,k∈FB∨gs+1≤k:=fun k hk=>(o2 k hk).imp (fun h=>h) (fun q=>by simp [hgs] at q;omega);have o_w2:∀k∈F2,k∈FB∨wb.heap.size≤k:=fun k hk=>(oq k hk).imp (fun h=>h) (fun q=>by omega);have hfs:gs∉F2:=fun h=>(oq _ h).elim hgsF (fun q=>by omega);have nb0:¬bt=gr:=(fun h=>by omega);have nc0:¬gr=bt:=(fun h=>by omega);have nd0:¬bt=gr+1:=(fun h=>by omega);have ne0:¬gr+1=bt:=(fun h=>by omega);have nb1:¬ga=gr:=(fun h=>by omega);have nc1:¬gr=ga:=(fun h=>by omega);have nd1:¬ga=gr+1:=(fun h=>by omega);have ne1:¬gr+1=ga:=(fun h=>by omega);have nb2:¬gc=gr:=(fun h=>by omega);have nc2:¬gr=gc:=(fun h=>by omega);have nd2:¬gc=gr+1:=(fun h=>by omega);have ne2:¬gr+1=gc:=(fun h=>by omega);skip) | (obtain ⟨gr,hgr⟩:∃gr,w2.heap.size=gr:=⟨_,rfl⟩;have za:=Blk.new' w2 #[.int .u8 0,.int .u32 0] 39 gr hgr.symm;have zz0:=za.cell 0;have zz1:=za.cell 1;simp only [List.getElem?_toArray,List.getElem?_cons_zero,List.getElem?_cons_succ] at zz0 zz1;have zzf:=za.froz;have nb0:¬bt=gr:=(fun h=>by omega);have nc0:¬gr=bt:=(fun h=>by omega);have nd0:¬bt=gr+1:=(fun h=>by omega);have ne0:¬gr+1=bt:=(fun h=>by omega);have nb1:¬ga=gr:=(fun h=>by omega);have nc1:¬gr=ga:=(fun h=>by omega);have nd1:¬ga=gr+1:=(fun h=>by omega);have ne1:¬gr+1=ga:=(fun h=>by omega);have nb2:¬gc=gr:=(fun h=>by omega);have nc2:¬gr=gc:=(fun h=>by omega);have nd2:¬gc=gr+1:=(fun h=>by omega);have ne2:¬gr+1=gc:=(fun h=>by omega);have o_w2:∀k∈F2,k∈FB∨wb.heap.size≤k:=fun k hk=>(o2 k hk).imp (fun h=>h) (fun q=>q))))
    all_goals (go_wp2_with fail;go_meet)
    all_goals first
     | exact ⟨gr,lt,la,L2,F2,rfl,rfl,One.new ⟨lt,la⟩ M_w2 o_w2 s2 hgr,tl2,hl2⟩
     | exact ⟨gs,lt,la,L2,F2,rfl,rfl,One.old ⟨lt,la⟩ M_w2 o_w2 s2 (Nat.le_of_eq hgs) hfs za,tl2,hl2⟩
   case rest=>
    obtain ⟨gx,xT,xA,LC,FC,rfl,rfl,TW,E_x,hlC⟩:=hcut
    clear q0 q1 p0 p1 k0 hgs hgsF hgtF ny nz h_bt na_bt nb_bt nc_bt nd_bt h_a na_a nb_a nc_a nd_a h_c na_c nb_c nc_c nd_c
    generalize wc=wd at *
    replace ST:=Lib.hid TW.out.st
    have hn:=TW.out.gr.out B_bt.out.lt n_bt
    replace B_bt:=Lib.hid (B_bt.out.mod TW.out.gr.mod n_bt)
    replace n_bt:=hn
    clear hn
    have hn:=TW.out.gr.out B_lo.out.lt n_lo
    replace B_lo:=Lib.hid (B_lo.out.mod TW.out.gr.mod n_lo)
    replace n_lo:=hn
    clear hn
    have hn:=TW.out.gr.out B_hi.out.lt n_hi
    replace B_hi:=Lib.hid (B_hi.out.mod TW.out.gr.mod n_hi)
    replace n_hi:=hn
    clear hn
    have hn:=TW.out.gr.out B_r1.out.lt n_r1
    replace B_r1:=Lib.hid (B_r1.out.mod TW.out.gr.mod n_r1)
    replace n_r1:=hn
    clear hn
    have hn:=TW.out.gr.out B_r2.out.lt n_r2
    replace B_r2:=Lib.hid (B_r2.out.mod TW.out.gr.mod n_r2)
    replace n_r2:=hn
    clear hn
    have hn:=TW.out.gr.out B_a.out.lt n_a
    replace B_a:=Lib.hid (B_a.out.mod TW.out.gr.mod n_a)
    replace n_a:=hn
    clear hn
    have hn:=TW.out.gr.out B_b.out.lt n_b
    replace B_b:=Lib.hid (B_b.out.mod TW.out.gr.mod n_b)
    replace n_b:=hn
    clear hn
    have hn:=TW.out.gr.out B_c.out.lt n_c
    replace B_c:=Lib.hid (B_c.out.mod TW.out.gr.mod n_c)
    replace n_c:=hn
    clear hn
    have hn:=TW.out.gr.out B_d.out.lt n_d
    replace B_d:=Lib.hid (B_d.out.mod TW.out.gr.mod n_d)
    replace n_d:=hn
    clear hn
    have B_x:=Lib.hid TW.out.ba
    have n_x:=TW.out.af
    have l_x:gk+4≤gx:=Nat.le_trans hw1 TW.out.al
    have hw1:gk+4≤wd.heap.size:=Nat.le_trans hw1 TW.out.gr.size
    replace G0:=Lib.hid (G0.out.trans TW.out.gr)
    clear TW
    replace E_b:=Lib.hid (E_b.out.grow LC)
    replace E_d:=Lib.hid (E_d.out.grow LC)
    go_upto_region 11 with fail
    obtain ⟨gs,hgs⟩:∃gs,wd.heap.size=gs:=⟨_,rfl⟩
    have hgsF:gs∉FC:=fun h=>by have:=ST.out.st.lt _ h;omega
    have hgtF:gs+1∉FC:=fun h=>by have:=ST.out.st.lt _ h;omega
    have ny:¬gk=gs:=by omega
    have nz:¬gs=gk:=by omega
    have h_bt:=B_bt.out.lt
    have na_bt:¬bt=gs:=by omega
    have nb_bt:¬gs=bt:=by omega
    have nc_bt:¬bt=gs+1:=by omega
    have nd_bt:¬gs+1=bt:=by omega
    have h_b:=B_b.out.lt
    have na_b:¬gb=gs:=by omega
    have nb_b:¬gs=gb:=by omega
    have nc_b:¬gb=gs+1:=by omega
    have nd_b:¬gs+1=gb:=by omega
    have h_d:=B_d.out.lt
    have na_d:¬gd=gs:=by omega
    have nb_d:¬gs=gd:=by omega
    have nc_d:¬gd=gs+1:=by omega
    have nd_d:¬gs+1=gd:=by omega
    have k0:=B_bt.out.cell 0
    simp only [List.getElem?_toArray,List.getElem?_cons_zero,List.getElem?_cons_succ] at k0
    obtain ⟨q0,q1⟩:=B_b.out.cells2
    obtain ⟨p0,p1⟩:=B_d.out.cells2
    go_cut [18,14] from 75 to 86 (fun p o wx=>∃(ga lt la:Nat) (L2:List Rc) (F2:List Nat),p=.pointer (some ⟨ga,0,none⟩)∧o=.int .u8 0∧Hid (One wd wx b n room ((L++LA++LB++LC)++L2) FC F2 ga ⟨lt,la⟩)∧Hid (EdT ((L++LA++LB++LC)++L2) f n (k+1) (lv+1) ⟨lt,la⟩ (t.drop (2 ^ k)++u.drop (2 ^ k)))∧L2.length≤1)
    case first=>
     go_region_held3 (fun w'=>w'.cell? ⟨bt,0,none⟩=some (.pointer (some ⟨b,0,none⟩))∧w'.cell? ⟨gb,0,none⟩=some (.int .u8 bT)∧w'.cell? ⟨gb,1,none⟩=some (.int .u32 bA)∧w'.cell? ⟨gd,0,none⟩=some (.int .u8 dT)∧w'.cell? ⟨gd,1,none⟩=some (.int .u32 dA)) (go_keep) (first | (go_at_call 66;refine (MK.out _ (L++LA++LB++LC) FC bT bA dT dA _ _ (ST.out.mod (show Mod [] wd _ from by exact mods) (by simp)) (by have:=RM.out;simp only [List.length_append];omega) (by have:=RM.out;simp only [List.length_append];omega) E_b.out E_d.out).mono ?_;rintro e' w2 ⟨lt,la,L2,F2,rfl,s2,⟨m_w2,o2⟩,tl2,hl2⟩;have M_w2:=Mod.trans' (show Mod _ wd _ from by exact mods) m_w2;have k0:=(M_w2.cell (a:=⟨bt,0,none⟩) h_bt (by first | assumption | (simp;assumption))).trans k0;have q0:=(M_w2.cell (a:=⟨gb,0,none⟩) h_b (by first | assumption | (simp;assumption))).trans q0;have q1:=(M_w2.cell (a:=⟨gb,1,none⟩) h_b (by first | assumption | (simp;assumption))).trans q1;have p0:=(M_w2.cell (a:=⟨gd,0,none⟩) h_d (by first | assumption | (simp;assumption))).trans p0;have p1:=(M_w2.cell (a:=⟨gd,1,none⟩) h_d (by first | assumption | (simp;assumption))).trans p1;have h_bt:=Nat.lt_of_lt_of_le h_bt M_w2.size;have h_b:=Nat.lt_of_lt_of_le h_b M_w2.size;have h_d:=Nat.lt_of_lt_of_le h_d M_w2.size;have hBx:=fun c ty g (hg:g∉_) (h:Blk _ g c ty)=>h.mod m_w2 hg;first | (have za:=hBx _ _ gs hgsF ((Blk.new' wd _ _ gs hgs.symm).drew);have zz0:=za.cell 0;have zz1:=za.cell 1;simp only [List.getElem?_toArray,List.getElem?_cons_zero,List.getElem?_cons_succ] at zz0 zz1;have zzf:=za.froz;obtain ⟨gr,hgr⟩:∃gr,w2.heap.size=gr:=⟨_,rfl⟩;have hzl:=za.lt;have gr1:¬gs=gr:=(fun h=>by omega);have gr2:¬gr=gs:=(fun h=>by omega);have xx0:=fun o=>(za.alloc o).cell 0;have xx1:=fun o=>(za.alloc o).cell 1;simp only [List.getElem?_toArray,List.getElem?_cons_zero,List.getElem?_cons_succ] at xx0 xx1;have xxf:=fun o=>(za.alloc o).froz;have zg:=Blk.new' w2 #[.int .u8 0,.int .u32 0] 39 gr hgr.symm;have gg0:=zg.cell 0;have gg1:=zg.cell 1;simp only [List.getElem?_toArray,List.getElem?_cons_zero,List.getElem?_cons_succ] at gg0 gg1;have ggf:=zg.froz;have oq:∀k∈F2,k∈FC∨gs+1≤k:=fun k hk=>(o2 k hk).imp (fun h=>h) (fun q=>by simp [hgs] at q;omega);have o_w2:∀k∈F2,k∈FC∨wd.heap.size≤k:=fun k hk=>(oq k hk).imp (fun h=>h) (fun q=>by omega);have hfs:gs∉F2:=fun h=>(oq _ h).elim hgsF (fun q=>by omega);have nb0:¬bt=gr:=(fun h=>by omega);have nc0:¬gr=bt:=(fun h=>by omega);have nd0:¬bt=gr+1:=(fun h=>by omega);have ne0:¬gr+1=bt:=(fun h=>by omega);have nb1:¬gb=gr:=(fun h=>by omega);have nc1:¬gr=gb:=(fun h=>by omega);have nd1:¬gb=gr+1:=(fun h=>by omega);have ne1:¬gr+1=gb:=(fun h=>by omega);have nb2:¬gd=gr:=(fun h=>by omega);have nc2:¬gr=gd:=(fun h=>by omega);have nd2:¬gd=gr+1:=(fun h=>by omega);have ne2:¬gr+1=gd:=(fun h=>by omega);skip) | (obtain ⟨gr,hgr⟩:∃gr,w2.heap.size=gr:=⟨_,rfl⟩;have za:=Blk.new' w2 #[.int .u8 0,.int .u32 0] 39 gr hgr.symm;have zz0:=za.cell 0;have zz1:=za.cell 1;simp only [List.getElem?_toArray,List.getElem?_cons_zero,List.getElem?_cons_succ] at zz0 zz1;have zzf:=za.froz;have nb0:¬bt=gr:=(fun h=>by omega);have nc0:¬gr=bt:=(fun h=>by omega);have nd0:¬bt=gr+1:=(fun h=>by omega);have ne0:¬gr+1=bt:=(fun h=>by omega);have nb1:¬gb=gr:=(fun h=>by omega);have nc1:¬gr=gb:=(fun h=>by omega);have nd1:¬gb=gr+1:=(fun h=>by omega);have ne1:¬gr+1=gb:=(fun h=>by omega);have nb2:¬gd=gr:=(fun h=>by omega);have nc2:¬gr=gd:=(fun h=>by omega);have nd2:¬gd=gr+1:=(fun h=>by omega);have ne2:¬gr+1=gd:=(fun h=>by omega);have o_w2:∀k∈F2,k∈FC∨wd.heap.size≤k:=fun k hk=>(o2 k hk).imp (fun h=>h) (fun q=>q))))
     all_goals (go_wp2_with fail;go_meet)
     all_goals first
      | exact ⟨gr,lt,la,L2,F2,rfl,rfl,One.new ⟨lt,la⟩ M_w2 o_w2 s2 hgr,tl2,hl2⟩
      | exact ⟨gs,lt,la,L2,F2,rfl,rfl,One.old ⟨lt,la⟩ M_w2 o_w2 s2 (Nat.le_of_eq hgs) hfs za,tl2,hl2⟩
    case rest=>
     obtain ⟨gy,yT,yA,LD,FD,rfl,rfl,TW,E_y,hlD⟩:=hcut
     clear q0 q1 p0 p1 k0 hgs hgsF hgtF ny nz h_bt na_bt nb_bt nc_bt nd_bt h_b na_b nb_b nc_b nd_b h_d na_d nb_d nc_d nd_d
     generalize wc=we at *
     replace ST:=Lib.hid TW.out.st
     have hn:=TW.out.gr.out B_bt.out.lt n_bt
     replace B_bt:=Lib.hid (B_bt.out.mod TW.out.gr.mod n_bt)
     replace n_bt:=hn
     clear hn
     have hn:=TW.out.gr.out B_lo.out.lt n_lo
     replace B_lo:=Lib.hid (B_lo.out.mod TW.out.gr.mod n_lo)
     replace n_lo:=hn
     clear hn
     have hn:=TW.out.gr.out B_hi.out.lt n_hi
     replace B_hi:=Lib.hid (B_hi.out.mod TW.out.gr.mod n_hi)
     replace n_hi:=hn
     clear hn
     have hn:=TW.out.gr.out B_r1.out.lt n_r1
     replace B_r1:=Lib.hid (B_r1.out.mod TW.out.gr.mod n_r1)
     replace n_r1:=hn
     clear hn
     have hn:=TW.out.gr.out B_r2.out.lt n_r2
     replace B_r2:=Lib.hid (B_r2.out.mod TW.out.gr.mod n_r2)
     replace n_r2:=hn
     clear hn
     have hn:=TW.out.gr.out B_a.out.lt n_a
     replace B_a:=Lib.hid (B_a.out.mod TW.out.gr.mod n_a)
     replace n_a:=hn
     clear hn
     have hn:=TW.out.gr.out B_b.out.lt n_b
     replace B_b:=Lib.hid (B_b.out.mod TW.out.gr.mod n_b)
     replace n_b:=hn
     clear hn
     have hn:=TW.out.gr.out B_c.out.lt n_c
     replace B_c:=Lib.hid (B_c.out.mod TW.out.gr.mod n_c)
     replace n_c:=hn
     clear hn
     have hn:=TW.out.gr.out B_d.out.lt n_d
     replace B_d:=Lib.hid (B_d.out.mod TW.out.gr.mod n_d)
     replace n_d:=hn
     clear hn
     have hn:=TW.out.gr.out B_x.out.lt n_x
     replace B_x:=Lib.hid (B_x.out.mod TW.out.gr.mod n_x)
     replace n_x:=hn
     clear hn
     have B_y:=Lib.hid TW.out.ba
     have n_y:=TW.out.af
     have l_y:gk+4≤gy:=Nat.le_trans hw1 TW.out.al
     have hw1:gk+4≤we.heap.size:=Nat.le_trans hw1 TW.out.gr.size
     replace G0:=Lib.hid (G0.out.trans TW.out.gr)
     clear TW
     obtain ⟨x0,x1⟩:=B_x.out.cells2
     obtain ⟨y0,y1⟩:=B_y.out.cells2
     obtain ⟨e0,e1⟩:=B_r1.out.cells2
     obtain ⟨e2,e3⟩:=B_r2.out.cells2
     obtain ⟨f0,f1,-⟩:=B_r1.out.frozs
     obtain ⟨f2,f3,-⟩:=B_r2.out.frozs
     have i1:¬gx=gk+1+1:=by omega
     have i2:¬gk+1+1=gx:=by omega
     have i3:¬gx=gk+1+1+1:=by omega
     have i4:¬gk+1+1+1=gx:=by omega
     have i5:¬gy=gk+1+1:=by omega
     have i6:¬gk+1+1=gy:=by omega
     have i7:¬gy=gk+1+1+1:=by omega
     have i8:¬gk+1+1+1=gy:=by omega
     go_wp2_with fail
     go_region
     have Md:Mod [] we we.drew:=(Mod.refl _ _).drew
     replace G0:=Lib.hid (G0.out.then Md)
     replace ST:=Lib.hid (ST.out.mod Md (by simp))
     have b1:Blk we.drew (gk+1+1) _ _:=B_r1.out.drew
     have b2:Blk we.drew (gk+1+1+1) _ _:=B_r2.out.drew
     have MS1:=set2_mod (Mod.refl [gk+1+1] we.drew) (gk+1+1) ⟨xT,xA⟩ (fun _=>by simp)
     have BX:=set2_blk b1 ⟨xT,xA⟩
     have BY:=set2_blk (b2.mod MS1 (by simp)) ⟨yT,yA⟩
     have MS2:=set2_mod (Mod.refl [gk+1+1+1] (set2 we.drew (gk+1+1) ⟨xT,xA⟩)) (gk+1+1+1) ⟨yT,yA⟩ (fun _=>by simp)
     replace BX:=BX.mod MS2 (by simp)
     have MS:=Lib.hid ((MS1.mono (S':=[gk+1+1,gk+1+1+1]) (by intro k _ h;simp at h;simp [h])).trans MS2 (by intro k _ h;simp at h;simp [h]))
     change Exit.then _ _ _ _ (set2 (set2 we.drew (gk+1+1) ⟨xT,xA⟩) (gk+1+1+1) ⟨yT,yA⟩)
     generalize set2 (set2 we.drew (gk+1+1) ⟨xT,xA⟩) (gk+1+1+1) ⟨yT,yA⟩=X at *
     obtain ⟨g0,g1⟩:=BX.cells2
     obtain ⟨g2,g3⟩:=BY.cells2
     clear e0 e1 e2 e3 f0 f1 f2 f3 x0 x1 y0 y1 BX BY MS1 MS2 b1 b2 Md
     simp only at g0 g1 g2 g3
     go_wp2_with fail
     refine bodyPost_ret (by simp [results,Tryz.results130,g0,g1,g2,g3,go_sem];try rfl) rfl ?_
     have e:L++LA++LB++LC++LD=L++(LA++LB++LC++LD):=by simp
     refine ⟨xT,xA,yT,yA,LA++LB++LC++LD,FD,rfl,?_,G0.out.write MS.out (by intro k hk;simp at hk;omega),?_,?_,by simp only [List.length_append];omega⟩
     ·rw [←e];exact ST.out.mod MS.out (fun k hk h=>by simp at h;rcases h with rfl | rfl;exact n_r1 hk;exact n_r2 hk)
     ·rw [←e];exact E_x.out.grow LD
     ·rw [←e];exact E_y.out
end Go.Proofs.YtnbjnnijifiaaaaGreatDoor
