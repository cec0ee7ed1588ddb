/- Mq06: Mc · Mz · Cm · Or · Se · Sg · Sh -/
import Derived.Test.YtlafpknoiihaaaaGreatDoorMq05
set_option maxRecDepth 100000
set_option maxHeartbeats 2000000
set_option linter.unusedVariables false
set_option linter.unusedSimpArgs false
namespace Go.Proofs.YtlafpknoiihaaaaGreatDoor
open Go.RowKit
theorem cbddMake_c {w:World} {b n:Nat} {L:List Rc} {room:Nat} {F:List Nat} (h:IsSt w b n L room F) (hL:L.length≤100000) (hroom:L.length < room) (hrm:room≤1048576) (hn:n≤16) (hG:Good L n) (l:Nat) (hl:l < n) (lo hi:Ed)
 (hlo:LeadsP L 3 lo (l+1) n) (hhi:LeadsP L 3 hi (l+1) n):
 Calls Tryz.prog 118 #[.pointer (some ⟨b,0,none⟩),.int .i64 l,edv lo,edv hi] w fun e w'=>e=.returned (.tuple #[edv (mkP L 3 l lo hi).2,.int .u8 0])∧∃F',IsSt w' b n (mkP L 3 l lo hi).1 room F'∧Mod F w w'∧∀k∈F',k∈F∨w.heap.size≤k:=by
 have LO:Hid (∀W,Mod [] w W→_):=fun W m=>stLeads_c (h.mod m (by simp)) (by omega) hn 3 (by omega) (by omega) lo (l+1) (by omega) hlo
 have LH:Hid (∀W,Mod [] w W→_):=fun W m=>stLeads_c (h.mod m (by simp)) (by omega) hn 3 (by omega) (by omega) hi (l+1) (by omega) hhi
 have hbF:=h.lt
 obtain ⟨ba,bi,Fa,c0,-,-,-⟩:=h.own
 have hbl:=World.block_lt_of_cell? w _ c0
 simp only at hbl
 have HS:=Lib.hid h
 have hl':(l:Int) < n:=by omega
 have e1:((l+1:Nat):Int)=(l:Int)+1:=by omega
 rw [e1] at LO LH
 clear h e1
 obtain ⟨gk,hgk⟩:∃gk,w.heap.size=gk:=⟨_,rfl⟩
 have HLT:Hid (∀k∈F,k < gk):=fun k hk=>by have:=hbF k hk;omega
 have HLO:=Lib.hid hlo
 have HLH:=Lib.hid hhi
 have HG:=Lib.hid hG
 clear hbF hlo hhi hG
 obtain ⟨lt,la⟩:=lo
 obtain ⟨ht,ha⟩:=hi
 unfold edv at *
 simp only at LO LH ⊢
 have gn1:¬b=gk:=by omega
 have gn2:¬gk=b:=by omega
 have gn3:¬b=gk+1:=by omega
 have gn4:¬gk+1=b:=by omega
 have gn5:¬b=gk+1+1:=by omega
 have gn6:¬gk+1+1=b:=by omega
 go_enter Tryz.func118,Tryz.ntmps118
 go_wp2_with fail
 have BL:=Blk.new' w #[.int .u8 lt,.int .u32 la] 66 gk hgk.symm
 have BH:=Blk.new' (w.alloc (.cells #[.int .u8 lt,.int .u32 la] 66)) #[.int .u8 ht,.int .u32 ha] 66 (gk+1) (by simp [hgk])
 have BR:=Blk.new' ((w.alloc (.cells #[.int .u8 lt,.int .u32 la] 66)).alloc (.cells #[.int .u8 ht,.int .u32 ha] 66)) #[.int .u8 0,.int .u32 0] 66 (gk+1+1) (by simp [hgk])
 have BL:=(BL.alloc (.cells #[.int .u8 ht,.int .u32 ha] 66)).alloc (.cells #[.int .u8 0,.int .u32 0] 66)
 have BH:=BH.alloc (.cells #[.int .u8 0,.int .u32 0] 66)
 have M0:Hid (Mod [] w (((w.alloc (.cells #[.int .u8 lt,.int .u32 la] 66)).alloc (.cells #[.int .u8 ht,.int .u32 ha] 66)).alloc (.cells #[.int .u8 0,.int .u32 0] 66))):=by exact mods
 have hsz:(((w.alloc (.cells #[.int .u8 lt,.int .u32 la] 66)).alloc (.cells #[.int .u8 ht,.int .u32 ha] 66)).alloc (.cells #[.int .u8 0,.int .u32 0] 66)).heap.size=gk+3:=by simp [hgk]
 have c0:=(M0.out.cell (a:=⟨b,0,none⟩) hbl (by simp)).trans c0
 generalize ((w.alloc (.cells #[.int .u8 lt,.int .u32 la] 66)).alloc (.cells #[.int .u8 ht,.int .u32 ha] 66)).alloc (.cells #[.int .u8 0,.int .u32 0] 66)=w0 at *
 have hb0:b < w0.heap.size:=by omega
 have hk0:gk < w0.heap.size:=by omega
 have hk1:gk+1 < w0.heap.size:=by omega
 obtain ⟨q0,q1⟩:=BL.cells2
 obtain ⟨p0,p1⟩:=BH.cells2
 have BL:=Lib.hid BL
 have BH:=Lib.hid BH
 have BR:=Lib.hid BR
 refine (stVars_c b n _ c0).mono ?_
 rintro e w1 ⟨rfl,rfl⟩
 go_wp2_with fail
 refine (LO.out _ M0.out).mono ?_;rintro e' wa ⟨rfl,m_wa⟩;have M_wa:=Mod.trans' (show Mod _ w1 _ from by exact mods) m_wa;have c0:=(M_wa.cell (a:=⟨b,0,none⟩) hb0 (by first | assumption | (simp;done))).trans c0;have q0:=(M_wa.cell (a:=⟨gk,0,none⟩) hk0 (by first | assumption | (simp;done))).trans q0;have q1:=(M_wa.cell (a:=⟨gk,1,none⟩) hk0 (by first | assumption | (simp;done))).trans q1;have p0:=(M_wa.cell (a:=⟨gk+1,0,none⟩) hk1 (by first | assumption | (simp;done))).trans p0;have p1:=(M_wa.cell (a:=⟨gk+1,1,none⟩) hk1 (by first | assumption | (simp;done))).trans p1;have hb0:=Nat.lt_of_lt_of_le hb0 M_wa.size;have hk0:=Nat.lt_of_lt_of_le hk0 M_wa.size;have hk1:=Nat.lt_of_lt_of_le hk1 M_wa.size
 have M1:=Lib.hid (M0.out.trans' M_wa)
 go_wp2_with fail
 refine (LH.out _ M1.out).mono ?_;rintro e' wb ⟨rfl,m_wb⟩;have M_wb:=Mod.trans' (show Mod _ wa _ from by exact mods) m_wb;have c0:=(M_wb.cell (a:=⟨b,0,none⟩) hb0 (by first | assumption | (simp;done))).trans c0;have q0:=(M_wb.cell (a:=⟨gk,0,none⟩) hk0 (by first | assumption | (simp;done))).trans q0;have q1:=(M_wb.cell (a:=⟨gk,1,none⟩) hk0 (by first | assumption | (simp;done))).trans q1;have p0:=(M_wb.cell (a:=⟨gk+1,0,none⟩) hk1 (by first | assumption | (simp;done))).trans p0;have p1:=(M_wb.cell (a:=⟨gk+1,1,none⟩) hk1 (by first | assumption | (simp;done))).trans p1;have hb0:=Nat.lt_of_lt_of_le hb0 M_wb.size;have hk0:=Nat.lt_of_lt_of_le hk0 M_wb.size;have hk1:=Nat.lt_of_lt_of_le hk1 M_wb.size
 have M2:=Lib.hid (M1.out.trans' M_wb)
 replace BL:=Lib.hid ((BL.out.mod M_wa (by simp)).mod M_wb (by simp))
 replace BH:=Lib.hid ((BH.out.mod M_wa (by simp)).mod M_wb (by simp))
 replace BR:=Lib.hid ((BR.out.mod M_wa (by simp)).mod M_wb (by simp))
 clear m_wa m_wb M_wa M_wb M0 M1 LO LH
 obtain ⟨e0,e1⟩:=BR.out.cells2
 obtain ⟨f0,f1,-⟩:=BR.out.frozs
 have hl16:(l:Int)≤16:=by omega
 have hFg:gk+1+1∉F:=fun h=>by have:=HLT.out _ h;omega
 by_cases heq:(⟨lt,la⟩:Ed)=⟨ht,ha⟩
 ·have hmk:mkP L 3 l ⟨lt,la⟩ ⟨ht,ha⟩=(L,⟨lt,la⟩):=by unfold mkP shortP;simp [heq]
  have hmk:=Lib.hid hmk
  simp at heq
  obtain ⟨rfl,rfl⟩:=heq
  go_wp2_with fail
  have BX:=set2_blk BR.out ⟨lt,la⟩
  obtain ⟨g0,g1⟩:=BX.cells2
  have MS:=Lib.hid (set2_mod (Mod.refl [gk+1+1] wb) (gk+1+1) ⟨lt,la⟩ (fun _=>by simp))
  change bodyPost _ _ _ _ _ (set2 wb (gk+1+1) ⟨lt,la⟩)
  generalize set2 wb (gk+1+1) ⟨lt,la⟩=X at *
  clear c0 q0 q1 p0 p1 e0 e1 f0 f1 BX
  simp only at g0 g1
  refine bodyPost_ret (by simp [results,Tryz.results118,g0,g1,go_sem];try rfl) rfl ?_
  rw [hmk.out]
  exact ⟨rfl,F,(HS.out.mod M2.out (by simp)).mod MS.out (fun k hk=>by simp;rintro rfl;exact hFg hk),(M2.out.mono (by intro k _ h;simp at h)).trans MS.out (by intro k h h2;simp at h2;omega),fun k hk=>.inl hk⟩
 ·have EQ:=fun w=>(eqIn_ed 9998 ⟨lt,la⟩ ⟨ht,ha⟩ w).trans (by rw [decide_eq_false heq])
  unfold edv at EQ
  simp only at EQ
  have hk2:=BR.out.lt
  go_wp2_with fail
  obtain ⟨gx,hgx⟩:∃gx,wb.heap.size=gx:=⟨_,rfl⟩
  rw [hgx]
  have gx1:¬gx=gk:=by omega
  have gx2:¬gk=gx:=by omega
  have gx3:¬gx=gk+1:=by omega
  have gx4:¬gk+1=gx:=by omega
  have gx5:¬gx=gk+1+1:=by omega
  have gx6:¬gk+1+1=gx:=by omega
  have BX:=Blk.new' wb #[.int .u8 3,.int .u8 l,.int .u8 l,.int .u8 lt,.int .u32 la,.int .u8 ht,.int .u32 ha] 108 gx hgx.symm
  have MX:=(show Mod [] wb (wb.alloc (.cells #[.int .u8 3,.int .u8 l,.int .u8 l,.int .u8 lt,.int .u32 la,.int .u8 ht,.int .u32 ha] 108)) by exact mods)
  have hszx:(wb.alloc (.cells #[.int .u8 3,.int .u8 l,.int .u8 l,.int .u8 lt,.int .u32 la,.int .u8 ht,.int .u32 ha] 108)).heap.size=gx+1:=by simp [hgx]
  generalize wb.alloc (.cells #[.int .u8 3,.int .u8 l,.int .u8 l,.int .u8 lt,.int .u32 la,.int .u8 ht,.int .u32 ha] 108)=wc at *
  replace M2:=Lib.hid (M2.out.trans' MX)
  replace BL:=Lib.hid (BL.out.mod MX (by simp))
  replace BH:=Lib.hid (BH.out.mod MX (by simp))
  replace BR:=Lib.hid (BR.out.mod MX (by simp))
  have BX:=Lib.hid BX
  clear MX c0 q0 q1 p0 p1 e0 e1 f0 f1
  cases hx:recAt L la with
  | none=>
   have GT:Hid (∀W,Mod [] w W→_):=fun W m=>stGet_none (HS.out.mod m (by simp)) (by omega) la (by rcases HLO.out.at_ with h | ⟨r,hr,_⟩;simp only at h;omega;rw [hx] at hr;simp at hr) hx
   unfold rcv rc0 at GT
   simp only at GT
   refine (GT.out _ M2.out).mono ?_
   rintro e' wd ⟨rfl,m_wd⟩
   replace M2:=Lib.hid (M2.out.trans' m_wd)
   replace BL:=Lib.hid (BL.out.mod m_wd (by simp))
   replace BH:=Lib.hid (BH.out.mod m_wd (by simp))
   replace BR:=Lib.hid (BR.out.mod m_wd (by simp))
   replace BX:=Lib.hid (BX.out.mod m_wd (by simp))
   clear m_wd GT
   obtain ⟨p0,p1⟩:=BH.out.cells2
   obtain ⟨x0,x1,x2,x3,x4,x5,x6⟩:=BX.out.cells7
   have hxd:=BX.out.lt
   have hhd:=BH.out.lt
   have hrd:=BR.out.lt
   have hs:shortP 3 l ⟨lt,la⟩ ⟨ht,ha⟩=none:=by unfold shortP;simp only [if_neg (show ¬((3:Nat)=2∨(3:Nat)=4) by omega),if_neg heq];simp
   have hr:recP L 3 l ⟨lt,la⟩ ⟨ht,ha⟩=⟨3,l,l,⟨lt,la⟩,⟨ht,ha⟩⟩:=by unfold recP;simp only [hx]
   have hg:=recP_good HG.out (by omega) (by omega) hl hn HLO.out HLH.out hs
   have hmk:mkP L 3 l ⟨lt,la⟩ ⟨ht,ha⟩=((fnd L ⟨3,l,l,⟨lt,la⟩,⟨ht,ha⟩⟩).1,⟨0,(fnd L ⟨3,l,l,⟨lt,la⟩,⟨ht,ha⟩⟩).2⟩):=by unfold mkP;rw [hs,hr];rfl
   have hmk:=Lib.hid hmk
   rw [hr] at hg
   have FN:Hid (∀W,Mod [] w W→_):=fun W m=>cbddFound_c (HS.out.mod m (by simp)) hL hroom hrm hn ⟨3,l,l,⟨lt,la⟩,⟨ht,ha⟩⟩ hg.right hg.lo hg.hi
   clear hs hr hg
   generalize (fnd L ⟨3,l,l,⟨lt,la⟩,⟨ht,ha⟩⟩).2=id at *
   generalize (fnd L ⟨3,l,l,⟨lt,la⟩,⟨ht,ha⟩⟩).1=L2 at *
   unfold rcv edv at FN
   simp only at FN
   go_wp2_with fail
   refine (FN.out _ (M2.out.trans' (by exact mods))).mono ?_;rintro e' w3 ⟨rfl,F3,s3,m_w3,f3⟩;have M_w3:=Mod.trans' (show Mod _ wd _ from by exact mods) m_w3
   have hsb:=M2.out.size
   have hk2:=BR.out.lt
   replace BR:=BR.out.mod M_w3 hFg
   clear hhd hxd hrd
   obtain ⟨e0,e1⟩:=BR.cells2
   obtain ⟨f0,f1,-⟩:=BR.frozs
   have S3:=Lib.hid s3
   have F3':=Lib.hid f3
   replace M2:=Lib.hid ((M2.out.mono (S':=F) (by intro k _ h;simp at h)).trans M_w3 (by intro k _ h;exact h))
   have BR:=Lib.hid BR
   clear FN s3 f3 m_w3 BL BH BX x0 x1 x2 x3 x4 x5 x6 EQ p0 p1
   go_wp2_with fail
   have BX:=set2_blk BR.out ⟨0,id⟩
   obtain ⟨g0,g1⟩:=BX.cells2
   have MS:=Lib.hid (set2_mod (Mod.refl [gk+1+1] w3) (gk+1+1) ⟨0,id⟩ (fun _=>by simp))
   change bodyPost _ _ _ _ _ (set2 w3 (gk+1+1) ⟨0,id⟩)
   generalize set2 w3 (gk+1+1) ⟨0,id⟩=X at *
   clear e0 e1 f0 f1 BX
   simp only at g0 g1
   refine bodyPost_ret (by simp [results,Tryz.results118,g0,g1,go_sem];try rfl) rfl ?_
   rw [hmk.out]
   refine ⟨rfl,F3,S3.out.mod MS.out (fun k hk=>?_),M2.out.trans MS.out (by intro k h h2;simp at h2;omega),fun k hk=>(F3'.out k hk).imp (fun h=>h) (fun h=>by simp at h;omega)⟩
   simp;rintro rfl;rcases F3'.out _ hk with h | h;exact hFg h;simp at h;omega
  | some x=>
   have hxn:=HLO.out.node hx
   have hxg:=(HG.out _ _ hx).right
   have hxr:=Lib.hid hx
   obtain ⟨xf,xt,xb,⟨xlt,xla⟩,⟨xht,xha⟩⟩:=x
   have hxt:(xt:Int)≤16:=by have:=hxn.2.2.2;simp only at this;omega
   have hxb:(xb:Int)≤16:=by have:=hxg.bn;simp only at this;omega
   have hxf:xf=3:=hxn.1
   have GT:Hid (∀W,Mod [] w W→_):=fun W m=>stGet_live (HS.out.mod m (by simp)) (by omega) la _ hx
   unfold rcv at GT
   simp only at GT
   clear hxn hxg hx
   refine (GT.out _ M2.out).mono ?_
   rintro e' wd ⟨rfl,m_wd⟩
   replace M2:=Lib.hid (M2.out.trans' m_wd)
   replace BL:=Lib.hid (BL.out.mod m_wd (by simp))
   replace BH:=Lib.hid (BH.out.mod m_wd (by simp))
   replace BR:=Lib.hid (BR.out.mod m_wd (by simp))
   replace BX:=Lib.hid (BX.out.mod m_wd (by simp))
   clear m_wd GT
   obtain ⟨p0,p1⟩:=BH.out.cells2
   obtain ⟨q0,q1⟩:=BL.out.cells2
   obtain ⟨x0,x1,x2,x3,x4,x5,x6⟩:=BX.out.cells7
   obtain ⟨y0,y1,y2,y3,y4,y5,y6⟩:=BX.out.frozs
   have hxd:=BX.out.lt
   have hhd:=BH.out.lt
   have hrd:=BR.out.lt
   have hld:=BL.out.lt
   have hs:shortP 3 l ⟨lt,la⟩ ⟨ht,ha⟩=none:=by unfold shortP;simp only [if_neg (show ¬((3:Nat)=2∨(3:Nat)=4) by omega),if_neg heq];simp
   by_cases h1:xt=l+1
   ·by_cases h2:(⟨xht,xha⟩:Ed)=⟨ht,ha⟩
    ·have hr:recP L 3 l ⟨lt,la⟩ ⟨ht,ha⟩=⟨3,l,xb,⟨xlt,xla⟩,⟨ht,ha⟩⟩:=by unfold recP;simp only [hxr.out];rw [if_pos ⟨by first | rfl | trivial,h1,h2⟩]
     replace h2:=h2.symm
     simp at h2
     obtain ⟨rfl,rfl⟩:=h2
     have h1':(xt:Int)=(l:Int)+1:=by omega
     subst h1
     have gd1:¬gx=wd.heap.size:=by omega
     have gd2:¬wd.heap.size=gx:=by omega
     go_wp2_with fail
     go_region
     have hwx:w.heap.size≤gx:=by omega
     have BXA:Blk (((wd.setCell ⟨gx,2,none⟩ (.int .u8 xb)).setCell ⟨gx,3,none⟩ (.int .u8 xlt)).setCell ⟨gx,4,none⟩ (.int .u32 xla)) gx #[.int .u8 3,.int .u8 l,.int .u8 xb,.int .u8 xlt,.int .u32 xla,.int .u8 ht,.int .u32 ha] 108:=by
      simpa using ((BX.out.set 2 (.int .u8 xb)).set 3 (.int .u8 xlt)).set 4 (.int .u32 xla)
     have MXA:Mod [gx] wd (((wd.setCell ⟨gx,2,none⟩ (.int .u8 xb)).setCell ⟨gx,3,none⟩ (.int .u8 xlt)).setCell ⟨gx,4,none⟩ (.int .u32 xla)):=by exact mods
     have hsxa:(((wd.setCell ⟨gx,2,none⟩ (.int .u8 xb)).setCell ⟨gx,3,none⟩ (.int .u8 xlt)).setCell ⟨gx,4,none⟩ (.int .u32 xla)).heap.size=wd.heap.size:=by simp
     generalize ((wd.setCell ⟨gx,2,none⟩ (.int .u8 xb)).setCell ⟨gx,3,none⟩ (.int .u8 xlt)).setCell ⟨gx,4,none⟩ (.int .u32 xla)=wf at *
     replace M2:=Lib.hid (M2.out.trans MXA (by intro k h h2;simp at h2;omega))
     replace BR:=Lib.hid (BR.out.mod MXA (by simp;omega))
     have hxd:gx < wf.heap.size:=by omega
     have hrd:gk+1+1 < wf.heap.size:=by omega
     clear MXA x0 x1 x2 x3 x4 x5 x6
     obtain ⟨x0,x1,x2,x3,x4,x5,x6⟩:=BXA.cells7
     clear BXA
     have hg:=recP_good HG.out (by omega) (by omega) hl hn HLO.out HLH.out hs
     have hmk:mkP L 3 l ⟨lt,la⟩ ⟨ht,ha⟩=((fnd L ⟨3,l,xb,⟨xlt,xla⟩,⟨ht,ha⟩⟩).1,⟨0,(fnd L ⟨3,l,xb,⟨xlt,xla⟩,⟨ht,ha⟩⟩).2⟩):=by unfold mkP;rw [hs,hr];rfl
     have hmk:=Lib.hid hmk
     rw [hr] at hg
     have FN:Hid (∀W,Mod [] w W→_):=fun W m=>cbddFound_c (HS.out.mod m (by simp)) hL hroom hrm hn ⟨3,l,xb,⟨xlt,xla⟩,⟨ht,ha⟩⟩ hg.right hg.lo hg.hi
     clear hs hr hg
     generalize (fnd L ⟨3,l,xb,⟨xlt,xla⟩,⟨ht,ha⟩⟩).2=id at *
     generalize (fnd L ⟨3,l,xb,⟨xlt,xla⟩,⟨ht,ha⟩⟩).1=L2 at *
     unfold rcv edv at FN
     simp only at FN
     go_wp2_with fail
     refine (FN.out _ (M2.out.trans' (by exact mods))).mono ?_;rintro e' w3 ⟨rfl,F3,s3,m_w3,f3⟩;have M_w3:=Mod.trans' (show Mod _ wf _ from by exact mods) m_w3
     have hsb:=M2.out.size
     have hk2:=BR.out.lt
     replace BR:=BR.out.mod M_w3 hFg
     clear hhd hxd hrd
     obtain ⟨e0,e1⟩:=BR.cells2
     obtain ⟨f0,f1,-⟩:=BR.frozs
     have S3:=Lib.hid s3
     have F3':=Lib.hid f3
     replace M2:=Lib.hid ((M2.out.mono (S':=F) (by intro k _ h;simp at h)).trans M_w3 (by intro k _ h;exact h))
     have BR:=Lib.hid BR
     clear FN s3 f3 m_w3 BL BH BX x0 x1 x2 x3 x4 x5 x6 EQ p0 p1 q0 q1 y0 y1 y2 y3 y4 y5 y6 hld
     go_wp2_with fail
     have BX:=set2_blk BR.out ⟨0,id⟩
     obtain ⟨g0,g1⟩:=BX.cells2
     have MS:=Lib.hid (set2_mod (Mod.refl [gk+1+1] w3) (gk+1+1) ⟨0,id⟩ (fun _=>by simp))
     change bodyPost _ _ _ _ _ (set2 w3 (gk+1+1) ⟨0,id⟩)
     generalize set2 w3 (gk+1+1) ⟨0,id⟩=X at *
     clear e0 e1 f0 f1 BX
     simp only at g0 g1
     refine bodyPost_ret (by simp [results,Tryz.results118,g0,g1,go_sem];try rfl) rfl ?_
     rw [hmk.out]
     refine ⟨rfl,F3,S3.out.mod MS.out (fun k hk=>?_),M2.out.trans MS.out (by intro k h h2;simp at h2;omega),fun k hk=>(F3'.out k hk).imp (fun h=>h) (fun h=>by simp at h;omega)⟩
     simp;rintro rfl;rcases F3'.out _ hk with h | h;exact hFg h;simp at h;omega
    ·have hr:recP L 3 l ⟨lt,la⟩ ⟨ht,ha⟩=⟨3,l,l,⟨lt,la⟩,⟨ht,ha⟩⟩:=by unfold recP;simp only [hxr.out];rw [if_neg (by rintro ⟨_,_,h⟩;exact h2 h)];simp
     have EQ2:=fun w=>(eqIn_ed 9998 ⟨xht,xha⟩ ⟨ht,ha⟩ w).trans (by rw [decide_eq_false h2])
     unfold edv at EQ2
     simp only at EQ2
     have h1':(xt:Int)=(l:Int)+1:=by omega
     subst h1
     have hg:=recP_good HG.out (by omega) (by omega) hl hn HLO.out HLH.out hs
     have hmk:mkP L 3 l ⟨lt,la⟩ ⟨ht,ha⟩=((fnd L ⟨3,l,l,⟨lt,la⟩,⟨ht,ha⟩⟩).1,⟨0,(fnd L ⟨3,l,l,⟨lt,la⟩,⟨ht,ha⟩⟩).2⟩):=by unfold mkP;rw [hs,hr];rfl
     have hmk:=Lib.hid hmk
     rw [hr] at hg
     have FN:Hid (∀W,Mod [] w W→_):=fun W m=>cbddFound_c (HS.out.mod m (by simp)) hL hroom hrm hn ⟨3,l,l,⟨lt,la⟩,⟨ht,ha⟩⟩ hg.right hg.lo hg.hi
     clear hs hr hg
     generalize (fnd L ⟨3,l,l,⟨lt,la⟩,⟨ht,ha⟩⟩).2=id at *
     generalize (fnd L ⟨3,l,l,⟨lt,la⟩,⟨ht,ha⟩⟩).1=L2 at *
     unfold rcv edv at FN
     simp only at FN
     go_wp2_with fail
     refine (FN.out _ (M2.out.trans' (by exact mods))).mono ?_;rintro e' w3 ⟨rfl,F3,s3,m_w3,f3⟩;have M_w3:=Mod.trans' (show Mod _ wd _ from by exact mods) m_w3
     have hsb:=M2.out.size
     have hk2:=BR.out.lt
     replace BR:=BR.out.mod M_w3 hFg
     clear hhd hxd hrd
     obtain ⟨e0,e1⟩:=BR.cells2
     obtain ⟨f0,f1,-⟩:=BR.frozs
     have S3:=Lib.hid s3
     have F3':=Lib.hid f3
     replace M2:=Lib.hid ((M2.out.mono (S':=F) (by intro k _ h;simp at h)).trans M_w3 (by intro k _ h;exact h))
     have BR:=Lib.hid BR
     clear FN s3 f3 m_w3 BL BH BX x0 x1 x2 x3 x4 x5 x6 EQ EQ2 p0 p1 q0 q1 y0 y1 y2 y3 y4 y5 y6 hld
     go_wp2_with fail
     have BX:=set2_blk BR.out ⟨0,id⟩
     obtain ⟨g0,g1⟩:=BX.cells2
     have MS:=Lib.hid (set2_mod (Mod.refl [gk+1+1] w3) (gk+1+1) ⟨0,id⟩ (fun _=>by simp))
     change bodyPost _ _ _ _ _ (set2 w3 (gk+1+1) ⟨0,id⟩)
     generalize set2 w3 (gk+1+1) ⟨0,id⟩=X at *
     clear e0 e1 f0 f1 BX
     simp only at g0 g1
     refine bodyPost_ret (by simp [results,Tryz.results118,g0,g1,go_sem];try rfl) rfl ?_
     rw [hmk.out]
     refine ⟨rfl,F3,S3.out.mod MS.out (fun k hk=>?_),M2.out.trans MS.out (by intro k h h2;simp at h2;omega),fun k hk=>(F3'.out k hk).imp (fun h=>h) (fun h=>by simp at h;omega)⟩
     simp;rintro rfl;rcases F3'.out _ hk with h | h;exact hFg h;simp at h;omega
   ·have hr:recP L 3 l ⟨lt,la⟩ ⟨ht,ha⟩=⟨3,l,l,⟨lt,la⟩,⟨ht,ha⟩⟩:=by unfold recP;simp only [hxr.out];rw [if_neg (by rintro ⟨_,h,_⟩;exact h1 h)];simp
    have h1':((xt:Int)==(l:Int)+1)=false:=by rw [beq_eq_false_iff_ne];omega
    have h1n:¬(xt:Int)=(l:Int)+1:=by omega
    have hg:=recP_good HG.out (by omega) (by omega) hl hn HLO.out HLH.out hs
    have hmk:mkP L 3 l ⟨lt,la⟩ ⟨ht,ha⟩=((fnd L ⟨3,l,l,⟨lt,la⟩,⟨ht,ha⟩⟩).1,⟨0,(fnd L ⟨3,l,l,⟨lt,la⟩,⟨ht,ha⟩⟩).2⟩):=by unfold mkP;rw [hs,hr];rfl
    have hmk:=Lib.hid hmk
    rw [hr] at hg
    have FN:Hid (∀W,Mod [] w W→_):=fun W m=>cbddFound_c (HS.out.mod m (by simp)) hL hroom hrm hn ⟨3,l,l,⟨lt,la⟩,⟨ht,ha⟩⟩ hg.right hg.lo hg.hi
    clear hs hr hg
    generalize (fnd L ⟨3,l,l,⟨lt,la⟩,⟨ht,ha⟩⟩).2=id at *
    generalize (fnd L ⟨3,l,l,⟨lt,la⟩,⟨ht,ha⟩⟩).1=L2 at *
    unfold rcv edv at FN
    simp only at FN
    go_wp2_with fail
    refine (FN.out _ (M2.out.trans' (by exact mods))).mono ?_;rintro e' w3 ⟨rfl,F3,s3,m_w3,f3⟩;have M_w3:=Mod.trans' (show Mod _ wd _ from by exact mods) m_w3
    have hsb:=M2.out.size
    have hk2:=BR.out.lt
    replace BR:=BR.out.mod M_w3 hFg
    clear hhd hxd hrd
    obtain ⟨e0,e1⟩:=BR.cells2
    obtain ⟨f0,f1,-⟩:=BR.frozs
    have S3:=Lib.hid s3
    have F3':=Lib.hid f3
    replace M2:=Lib.hid ((M2.out.mono (S':=F) (by intro k _ h;simp at h)).trans M_w3 (by intro k _ h;exact h))
    have BR:=Lib.hid BR
    clear FN s3 f3 m_w3 BL BH BX x0 x1 x2 x3 x4 x5 x6 EQ p0 p1 q0 q1 y0 y1 y2 y3 y4 y5 y6 hld
    go_wp2_with fail
    have BX:=set2_blk BR.out ⟨0,id⟩
    obtain ⟨g0,g1⟩:=BX.cells2
    have MS:=Lib.hid (set2_mod (Mod.refl [gk+1+1] w3) (gk+1+1) ⟨0,id⟩ (fun _=>by simp))
    change bodyPost _ _ _ _ _ (set2 w3 (gk+1+1) ⟨0,id⟩)
    generalize set2 w3 (gk+1+1) ⟨0,id⟩=X at *
    clear e0 e1 f0 f1 BX
    simp only at g0 g1
    refine bodyPost_ret (by simp [results,Tryz.results118,g0,g1,go_sem];try rfl) rfl ?_
    rw [hmk.out]
    refine ⟨rfl,F3,S3.out.mod MS.out (fun k hk=>?_),M2.out.trans MS.out (by intro k h h2;simp at h2;omega),fun k hk=>(F3'.out k hk).imp (fun h=>h) (fun h=>by simp at h;omega)⟩
    simp;rintro rfl;rcases F3'.out _ hk with h | h;exact hFg h;simp at h;omega
open Go.RowKit
theorem czddMake_c {w:World} {b n:Nat} {L:List Rc} {room:Nat} {F:List Nat} (h:IsSt w b n L room F) (hL:L.length≤100000) (hroom:L.length < room) (hrm:room≤1048576) (hn:n≤16) (hG:Good L n) (l:Nat) (hl:l < n) (lo hi:Ed)
 (hlo:LeadsP L 4 lo (l+1) n) (hhi:LeadsP L 4 hi (l+1) n):
 Calls Tryz.prog 119 #[.pointer (some ⟨b,0,none⟩),.int .i64 l,edv lo,edv hi] w fun e w'=>e=.returned (.tuple #[edv (mkP L 4 l lo hi).2,.int .u8 0])∧∃F',IsSt w' b n (mkP L 4 l lo hi).1 room F'∧Mod F w w'∧∀k∈F',k∈F∨w.heap.size≤k:=by
 have LO:Hid (∀W,Mod [] w W→_):=fun W m=>stLeads_c (h.mod m (by simp)) (by omega) hn 4 (by omega) (by omega) lo (l+1) (by omega) hlo
 have LH:Hid (∀W,Mod [] w W→_):=fun W m=>stLeads_c (h.mod m (by simp)) (by omega) hn 4 (by omega) (by omega) hi (l+1) (by omega) hhi
 have hbF:=h.lt
 obtain ⟨ba,bi,Fa,c0,-,-,-⟩:=h.own
 have hbl:=World.block_lt_of_cell? w _ c0
 simp only at hbl
 have HS:=Lib.hid h
 have hl':(l:Int) < n:=by omega
 have e1:((l+1:Nat):Int)=(l:Int)+1:=by omega
 rw [e1] at LO LH
 clear h e1
 obtain ⟨gk,hgk⟩:∃gk,w.heap.size=gk:=⟨_,rfl⟩
 have HLT:Hid (∀k∈F,k < gk):=fun k hk=>by have:=hbF k hk;omega
 have HLO:=Lib.hid hlo
 have HLH:=Lib.hid hhi
 have HG:=Lib.hid hG
 clear hbF hlo hhi hG
 obtain ⟨lt,la⟩:=lo
 obtain ⟨ht,ha⟩:=hi
 unfold edv at *
 simp only at LO LH ⊢
 have gn1:¬b=gk:=by omega
 have gn2:¬gk=b:=by omega
 have gn3:¬b=gk+1:=by omega
 have gn4:¬gk+1=b:=by omega
 have gn5:¬b=gk+1+1:=by omega
 have gn6:¬gk+1+1=b:=by omega
 go_enter Tryz.func119,Tryz.ntmps119
 go_wp2_with fail
 have BL:=Blk.new' w #[.int .u8 lt,.int .u32 la] 66 gk hgk.symm
 have BH:=Blk.new' (w.alloc (.cells #[.int .u8 lt,.int .u32 la] 66)) #[.int .u8 ht,.int .u32 ha] 66 (gk+1) (by simp [hgk])
 have BR:=Blk.new' ((w.alloc (.cells #[.int .u8 lt,.int .u32 la] 66)).alloc (.cells #[.int .u8 ht,.int .u32 ha] 66)) #[.int .u8 0,.int .u32 0] 66 (gk+1+1) (by simp [hgk])
 have BL:=(BL.alloc (.cells #[.int .u8 ht,.int .u32 ha] 66)).alloc (.cells #[.int .u8 0,.int .u32 0] 66)
 have BH:=BH.alloc (.cells #[.int .u8 0,.int .u32 0] 66)
 have M0:Hid (Mod [] w (((w.alloc (.cells #[.int .u8 lt,.int .u32 la] 66)).alloc (.cells #[.int .u8 ht,.int .u32 ha] 66)).alloc (.cells #[.int .u8 0,.int .u32 0] 66))):=by exact mods
 have hsz:(((w.alloc (.cells #[.int .u8 lt,.int .u32 la] 66)).alloc (.cells #[.int .u8 ht,.int .u32 ha] 66)).alloc (.cells #[.int .u8 0,.int .u32 0] 66)).heap.size=gk+3:=by simp [hgk]
 have c0:=(M0.out.cell (a:=⟨b,0,none⟩) hbl (by simp)).trans c0
 generalize ((w.alloc (.cells #[.int .u8 lt,.int .u32 la] 66)).alloc (.cells #[.int .u8 ht,.int .u32 ha] 66)).alloc (.cells #[.int .u8 0,.int .u32 0] 66)=w0 at *
 have hb0:b < w0.heap.size:=by omega
 have hk0:gk < w0.heap.size:=by omega
 have hk1:gk+1 < w0.heap.size:=by omega
 obtain ⟨q0,q1⟩:=BL.cells2
 obtain ⟨p0,p1⟩:=BH.cells2
 have BL:=Lib.hid BL
 have BH:=Lib.hid BH
 have BR:=Lib.hid BR
 refine (stVars_c b n _ c0).mono ?_
 rintro e w1 ⟨rfl,rfl⟩
 go_wp2_with fail
 refine (LO.out _ M0.out).mono ?_;rintro e' wa ⟨rfl,m_wa⟩;have M_wa:=Mod.trans' (show Mod _ w1 _ from by exact mods) m_wa;have c0:=(M_wa.cell (a:=⟨b,0,none⟩) hb0 (by first | assumption | (simp;done))).trans c0;have q0:=(M_wa.cell (a:=⟨gk,0,none⟩) hk0 (by first | assumption | (simp;done))).trans q0;have q1:=(M_wa.cell (a:=⟨gk,1,none⟩) hk0 (by first | assumption | (simp;done))).trans q1;have p0:=(M_wa.cell (a:=⟨gk+1,0,none⟩) hk1 (by first | assumption | (simp;done))).trans p0;have p1:=(M_wa.cell (a:=⟨gk+1,1,none⟩) hk1 (by first | assumption | (simp;done))).trans p1;have hb0:=Nat.lt_of_lt_of_le hb0 M_wa.size;have hk0:=Nat.lt_of_lt_of_le hk0 M_wa.size;have hk1:=Nat.lt_of_lt_of_le hk1 M_wa.size
 have M1:=Lib.hid (M0.out.trans' M_wa)
 go_wp2_with fail
 refine (LH.out _ M1.out).mono ?_;rintro e' wb ⟨rfl,m_wb⟩;have M_wb:=Mod.trans' (show Mod _ wa _ from by exact mods) m_wb;have c0:=(M_wb.cell (a:=⟨b,0,none⟩) hb0 (by first | assumption | (simp;done))).trans c0;have q0:=(M_wb.cell (a:=⟨gk,0,none⟩) hk0 (by first | assumption | (simp;done))).trans q0;have q1:=(M_wb.cell (a:=⟨gk,1,none⟩) hk0 (by first | assumption | (simp;done))).trans q1;have p0:=(M_wb.cell (a:=⟨gk+1,0,none⟩) hk1 (by first | assumption | (simp;done))).trans p0;have p1:=(M_wb.cell (a:=⟨gk+1,1,none⟩) hk1 (by first | assumption | (simp;done))).trans p1;have hb0:=Nat.lt_of_lt_of_le hb0 M_wb.size;have hk0:=Nat.lt_of_lt_of_le hk0 M_wb.size;have hk1:=Nat.lt_of_lt_of_le hk1 M_wb.size
 have M2:=Lib.hid (M1.out.trans' M_wb)
 replace BL:=Lib.hid ((BL.out.mod M_wa (by simp)).mod M_wb (by simp))
 replace BH:=Lib.hid ((BH.out.mod M_wa (by simp)).mod M_wb (by simp))
 replace BR:=Lib.hid ((BR.out.mod M_wa (by simp)).mod M_wb (by simp))
 clear m_wa m_wb M_wa M_wb M0 M1 LO LH
 obtain ⟨e0,e1⟩:=BR.out.cells2
 obtain ⟨f0,f1,-⟩:=BR.out.frozs
 have hl16:(l:Int)≤16:=by omega
 have hFg:gk+1+1∉F:=fun h=>by have:=HLT.out _ h;omega
 by_cases heq0:ha=0
 ·have hmk:mkP L 4 l ⟨lt,la⟩ ⟨ht,ha⟩=(L,⟨lt,la⟩):=by unfold mkP shortP;simp [heq0]
  have hmk:=Lib.hid hmk
  have h0:(ha:Int)=0:=by omega
  subst heq0
  go_wp2_with fail
  have BX:=set2_blk BR.out ⟨lt,la⟩
  obtain ⟨g0,g1⟩:=BX.cells2
  have MS:=Lib.hid (set2_mod (Mod.refl [gk+1+1] wb) (gk+1+1) ⟨lt,la⟩ (fun _=>by simp))
  change bodyPost _ _ _ _ _ (set2 wb (gk+1+1) ⟨lt,la⟩)
  generalize set2 wb (gk+1+1) ⟨lt,la⟩=X at *
  clear c0 q0 q1 p0 p1 e0 e1 f0 f1 BX
  simp only at g0 g1
  refine bodyPost_ret (by simp [results,Tryz.results119,g0,g1,go_sem];try rfl) rfl ?_
  rw [hmk.out]
  exact ⟨rfl,F,(HS.out.mod M2.out (by simp)).mod MS.out (fun k hk=>by simp;rintro rfl;exact hFg hk),(M2.out.mono (by intro k _ h;simp at h)).trans MS.out (by intro k h h2;simp at h2;omega),fun k hk=>.inl hk⟩
 ·have h0:((ha:Int)==0)=false:=by rw [beq_eq_false_iff_ne];omega
  have h0n:¬(ha:Int)=0:=by omega
  have hk2:=BR.out.lt
  go_wp2_with fail
  obtain ⟨gx,hgx⟩:∃gx,wb.heap.size=gx:=⟨_,rfl⟩
  rw [hgx]
  have gx1:¬gx=gk:=by omega
  have gx2:¬gk=gx:=by omega
  have gx3:¬gx=gk+1:=by omega
  have gx4:¬gk+1=gx:=by omega
  have gx5:¬gx=gk+1+1:=by omega
  have gx6:¬gk+1+1=gx:=by omega
  have BX:=Blk.new' wb #[.int .u8 4,.int .u8 l,.int .u8 l,.int .u8 lt,.int .u32 la,.int .u8 ht,.int .u32 ha] 108 gx hgx.symm
  have MX:=(show Mod [] wb (wb.alloc (.cells #[.int .u8 4,.int .u8 l,.int .u8 l,.int .u8 lt,.int .u32 la,.int .u8 ht,.int .u32 ha] 108)) by exact mods)
  have hszx:(wb.alloc (.cells #[.int .u8 4,.int .u8 l,.int .u8 l,.int .u8 lt,.int .u32 la,.int .u8 ht,.int .u32 ha] 108)).heap.size=gx+1:=by simp [hgx]
  generalize wb.alloc (.cells #[.int .u8 4,.int .u8 l,.int .u8 l,.int .u8 lt,.int .u32 la,.int .u8 ht,.int .u32 ha] 108)=wc at *
  replace M2:=Lib.hid (M2.out.trans' MX)
  replace BL:=Lib.hid (BL.out.mod MX (by simp))
  replace BH:=Lib.hid (BH.out.mod MX (by simp))
  replace BR:=Lib.hid (BR.out.mod MX (by simp))
  have BX:=Lib.hid BX
  clear MX c0 q0 q1 p0 p1 e0 e1 f0 f1
  cases hx:recAt L la with
  | none=>
   have GT:Hid (∀W,Mod [] w W→_):=fun W m=>stGet_none (HS.out.mod m (by simp)) (by omega) la (by rcases HLO.out.at_ with h | ⟨r,hr,_⟩;simp only at h;omega;rw [hx] at hr;simp at hr) hx
   unfold rcv rc0 at GT
   simp only at GT
   refine (GT.out _ M2.out).mono ?_
   rintro e' wd ⟨rfl,m_wd⟩
   replace M2:=Lib.hid (M2.out.trans' m_wd)
   replace BL:=Lib.hid (BL.out.mod m_wd (by simp))
   replace BH:=Lib.hid (BH.out.mod m_wd (by simp))
   replace BR:=Lib.hid (BR.out.mod m_wd (by simp))
   replace BX:=Lib.hid (BX.out.mod m_wd (by simp))
   clear m_wd GT
   obtain ⟨p0,p1⟩:=BH.out.cells2
   obtain ⟨x0,x1,x2,x3,x4,x5,x6⟩:=BX.out.cells7
   have hxd:=BX.out.lt
   have hhd:=BH.out.lt
   have hrd:=BR.out.lt
   have hs:shortP 4 l ⟨lt,la⟩ ⟨ht,ha⟩=none:=by unfold shortP;simp [heq0]
   have hr:recP L 4 l ⟨lt,la⟩ ⟨ht,ha⟩=⟨4,l,l,⟨lt,la⟩,⟨ht,ha⟩⟩:=by unfold recP;simp only [hx]
   have hg:=recP_good HG.out (by omega) (by omega) hl hn HLO.out HLH.out hs
   have hmk:mkP L 4 l ⟨lt,la⟩ ⟨ht,ha⟩=((fnd L ⟨4,l,l,⟨lt,la⟩,⟨ht,ha⟩⟩).1,⟨0,(fnd L ⟨4,l,l,⟨lt,la⟩,⟨ht,ha⟩⟩).2⟩):=by unfold mkP;rw [hs,hr];rfl
   have hmk:=Lib.hid hmk
   rw [hr] at hg
   have FN:Hid (∀W,Mod [] w W→_):=fun W m=>czddFound_c (HS.out.mod m (by simp)) hL hroom hrm hn ⟨4,l,l,⟨lt,la⟩,⟨ht,ha⟩⟩ hg.right hg.lo hg.hi
   clear hs hr hg
   generalize (fnd L ⟨4,l,l,⟨lt,la⟩,⟨ht,ha⟩⟩).2=id at *
   generalize (fnd L ⟨4,l,l,⟨lt,la⟩,⟨ht,ha⟩⟩).1=L2 at *
   unfold rcv edv at FN
   simp only at FN
   go_wp2_with fail
   refine (FN.out _ (M2.out.trans' (by exact mods))).mono ?_;rintro e' w3 ⟨rfl,F3,s3,m_w3,f3⟩;have M_w3:=Mod.trans' (show Mod _ wd _ from by exact mods) m_w3
   have hsb:=M2.out.size
   have hk2:=BR.out.lt
   replace BR:=BR.out.mod M_w3 hFg
   clear hhd hxd hrd
   obtain ⟨e0,e1⟩:=BR.cells2
   obtain ⟨f0,f1,-⟩:=BR.frozs
   have S3:=Lib.hid s3
   have F3':=Lib.hid f3
   replace M2:=Lib.hid ((M2.out.mono (S':=F) (by intro k _ h;simp at h)).trans M_w3 (by intro k _ h;exact h))
   have BR:=Lib.hid BR
   clear FN s3 f3 m_w3 BL BH BX x0 x1 x2 x3 x4 x5 x6 p0 p1
   go_wp2_with fail
   have BX:=set2_blk BR.out ⟨0,id⟩
   obtain ⟨g0,g1⟩:=BX.cells2
   have MS:=Lib.hid (set2_mod (Mod.refl [gk+1+1] w3) (gk+1+1) ⟨0,id⟩ (fun _=>by simp))
   change bodyPost _ _ _ _ _ (set2 w3 (gk+1+1) ⟨0,id⟩)
   generalize set2 w3 (gk+1+1) ⟨0,id⟩=X at *
   clear e0 e1 f0 f1 BX
   simp only at g0 g1
   refine bodyPost_ret (by simp [results,Tryz.results119,g0,g1,go_sem];try rfl) rfl ?_
   rw [hmk.out]
   refine ⟨rfl,F3,S3.out.mod MS.out (fun k hk=>?_),M2.out.trans MS.out (by intro k h h2;simp at h2;omega),fun k hk=>(F3'.out k hk).imp (fun h=>h) (fun h=>by simp at h;omega)⟩
   simp;rintro rfl;rcases F3'.out _ hk with h | h;exact hFg h;simp at h;omega
  | some x=>
   have hxn:=HLO.out.node hx
   have hxg:=(HG.out _ _ hx).right
   have hxr:=Lib.hid hx
   obtain ⟨xf,xt,xb,⟨xlt,xla⟩,⟨xht,xha⟩⟩:=x
   have hxt:(xt:Int)≤16:=by have:=hxn.2.2.2;simp only at this;omega
   have hxb:(xb:Int)≤16:=by have:=hxg.bn;simp only at this;omega
   have hxf:xf=4:=hxn.1
   have GT:Hid (∀W,Mod [] w W→_):=fun W m=>stGet_live (HS.out.mod m (by simp)) (by omega) la _ hx
   unfold rcv at GT
   simp only at GT
   clear hxn hxg hx
   refine (GT.out _ M2.out).mono ?_
   rintro e' wd ⟨rfl,m_wd⟩
   replace M2:=Lib.hid (M2.out.trans' m_wd)
   replace BL:=Lib.hid (BL.out.mod m_wd (by simp))
   replace BH:=Lib.hid (BH.out.mod m_wd (by simp))
   replace BR:=Lib.hid (BR.out.mod m_wd (by simp))
   replace BX:=Lib.hid (BX.out.mod m_wd (by simp))
   clear m_wd GT
   obtain ⟨p0,p1⟩:=BH.out.cells2
   obtain ⟨q0,q1⟩:=BL.out.cells2
   obtain ⟨x0,x1,x2,x3,x4,x5,x6⟩:=BX.out.cells7
   obtain ⟨y0,y1,y2,y3,y4,y5,y6⟩:=BX.out.frozs
   have hxd:=BX.out.lt
   have hhd:=BH.out.lt
   have hrd:=BR.out.lt
   have hld:=BL.out.lt
   have hs:shortP 4 l ⟨lt,la⟩ ⟨ht,ha⟩=none:=by unfold shortP;simp [heq0]
   by_cases h2:(⟨lt,la⟩:Ed)=⟨ht,ha⟩
   ·by_cases h1:xt=l+1
    ·have hr:recP L 4 l ⟨lt,la⟩ ⟨ht,ha⟩=⟨4,l,xb,⟨xlt,xla⟩,⟨xht,xha⟩⟩:=by unfold recP;simp only [hxr.out];rw [if_neg (by rintro ⟨h,_⟩;omega),if_pos ⟨by first | rfl | trivial,h2,h1⟩]
     simp at h2
     obtain ⟨rfl,rfl⟩:=h2
     have h1':(xt:Int)=(l:Int)+1:=by omega
     subst h1
     have gd1:¬gx=wd.heap.size:=by omega
     have gd2:¬wd.heap.size=gx:=by omega
     go_wp2_with fail
     go_region
     have hwx:w.heap.size≤gx:=by omega
     have BXA:Blk (((((wd.setCell ⟨gx,2,none⟩ (.int .u8 xb)).setCell ⟨gx,3,none⟩ (.int .u8 xlt)).setCell ⟨gx,4,none⟩ (.int .u32 xla)).setCell ⟨gx,5,none⟩ (.int .u8 xht)).setCell ⟨gx,6,none⟩ (.int .u32 xha)) gx #[.int .u8 4,.int .u8 l,.int .u8 xb,.int .u8 xlt,.int .u32 xla,.int .u8 xht,.int .u32 xha] 108:=by
      simpa using ((((BX.out.set 2 (.int .u8 xb)).set 3 (.int .u8 xlt)).set 4 (.int .u32 xla)).set 5 (.int .u8 xht)).set 6 (.int .u32 xha)
     have MXA:Mod [gx] wd (((((wd.setCell ⟨gx,2,none⟩ (.int .u8 xb)).setCell ⟨gx,3,none⟩ (.int .u8 xlt)).setCell ⟨gx,4,none⟩ (.int .u32 xla)).setCell ⟨gx,5,none⟩ (.int .u8 xht)).setCell ⟨gx,6,none⟩ (.int .u32 xha)):=by exact mods
     have hsxa:(((((wd.setCell ⟨gx,2,none⟩ (.int .u8 xb)).setCell ⟨gx,3,none⟩ (.int .u8 xlt)).setCell ⟨gx,4,none⟩ (.int .u32 xla)).setCell ⟨gx,5,none⟩ (.int .u8 xht)).setCell ⟨gx,6,none⟩ (.int .u32 xha)).heap.size=wd.heap.size:=by simp
     generalize ((((wd.setCell ⟨gx,2,none⟩ (.int .u8 xb)).setCell ⟨gx,3,none⟩ (.int .u8 xlt)).setCell ⟨gx,4,none⟩ (.int .u32 xla)).setCell ⟨gx,5,none⟩ (.int .u8 xht)).setCell ⟨gx,6,none⟩ (.int .u32 xha)=wf at *
     replace M2:=Lib.hid (M2.out.trans MXA (by intro k h h2;simp at h2;omega))
     replace BR:=Lib.hid (BR.out.mod MXA (by simp;omega))
     have hxd:gx < wf.heap.size:=by omega
     have hrd:gk+1+1 < wf.heap.size:=by omega
     clear MXA x0 x1 x2 x3 x4 x5 x6
     obtain ⟨x0,x1,x2,x3,x4,x5,x6⟩:=BXA.cells7
     clear BXA
     have hg:=recP_good HG.out (by omega) (by omega) hl hn HLO.out HLH.out hs
     have hmk:mkP L 4 l ⟨lt,la⟩ ⟨lt,la⟩=((fnd L ⟨4,l,xb,⟨xlt,xla⟩,⟨xht,xha⟩⟩).1,⟨0,(fnd L ⟨4,l,xb,⟨xlt,xla⟩,⟨xht,xha⟩⟩).2⟩):=by unfold mkP;rw [hs,hr];rfl
     have hmk:=Lib.hid hmk
     rw [hr] at hg
     have FN:Hid (∀W,Mod [] w W→_):=fun W m=>czddFound_c (HS.out.mod m (by simp)) hL hroom hrm hn ⟨4,l,xb,⟨xlt,xla⟩,⟨xht,xha⟩⟩ hg.right hg.lo hg.hi
     clear hs hr hg
     generalize (fnd L ⟨4,l,xb,⟨xlt,xla⟩,⟨xht,xha⟩⟩).2=id at *
     generalize (fnd L ⟨4,l,xb,⟨xlt,xla⟩,⟨xht,xha⟩⟩).1=L2 at *
     unfold rcv edv at FN
     simp only at FN
     go_wp2_with fail
     refine (FN.out _ (M2.out.trans' (by exact mods))).mono ?_;rintro e' w3 ⟨rfl,F3,s3,m_w3,f3⟩;have M_w3:=Mod.trans' (show Mod _ wf _ from by exact mods) m_w3
     have hsb:=M2.out.size
     have hk2:=BR.out.lt
     replace BR:=BR.out.mod M_w3 hFg
     clear hhd hxd hrd
     obtain ⟨e0,e1⟩:=BR.cells2
     obtain ⟨f0,f1,-⟩:=BR.frozs
     have S3:=Lib.hid s3
     have F3':=Lib.hid f3
     replace M2:=Lib.hid ((M2.out.mono (S':=F) (by intro k _ h;simp at h)).trans M_w3 (by intro k _ h;exact h))
     have BR:=Lib.hid BR
     clear FN s3 f3 m_w3 BL BH BX x0 x1 x2 x3 x4 x5 x6 p0 p1 q0 q1 y0 y1 y2 y3 y4 y5 y6 hld
     go_wp2_with fail
     have BX:=set2_blk BR.out ⟨0,id⟩
     obtain ⟨g0,g1⟩:=BX.cells2
     have MS:=Lib.hid (set2_mod (Mod.refl [gk+1+1] w3) (gk+1+1) ⟨0,id⟩ (fun _=>by simp))
     change bodyPost _ _ _ _ _ (set2 w3 (gk+1+1) ⟨0,id⟩)
     generalize set2 w3 (gk+1+1) ⟨0,id⟩=X at *
     clear e0 e1 f0 f1 BX
     simp only at g0 g1
     refine bodyPost_ret (by simp [results,Tryz.results119,g0,g1,go_sem];try rfl) rfl ?_
     rw [hmk.out]
     refine ⟨rfl,F3,S3.out.mod MS.out (fun k hk=>?_),M2.out.trans MS.out (by intro k h h2;simp at h2;omega),fun k hk=>(F3'.out k hk).imp (fun h=>h) (fun h=>by simp at h;omega)⟩
     simp;rintro rfl;rcases F3'.out _ hk with h | h;exact hFg h;simp at h;omega
    ·have hr:recP L 4 l ⟨lt,la⟩ ⟨ht,ha⟩=⟨4,l,l,⟨lt,la⟩,⟨ht,ha⟩⟩:=by unfold recP;simp only [hxr.out];rw [if_neg (by rintro ⟨h,_⟩;omega),if_neg (by rintro ⟨_,_,h⟩;exact h1 h)]
     have EQ:=fun w=>(eqIn_ed 9998 ⟨lt,la⟩ ⟨ht,ha⟩ w).trans (by rw [decide_eq_true h2])
     unfold edv at EQ
     simp only at EQ
     have h1':((xt:Int)==(l:Int)+1)=false:=by rw [beq_eq_false_iff_ne];omega
     have h1n:¬(xt:Int)=(l:Int)+1:=by omega
     clear h2
     have hg:=recP_good HG.out (by omega) (by omega) hl hn HLO.out HLH.out hs
     have hmk:mkP L 4 l ⟨lt,la⟩ ⟨ht,ha⟩=((fnd L ⟨4,l,l,⟨lt,la⟩,⟨ht,ha⟩⟩).1,⟨0,(fnd L ⟨4,l,l,⟨lt,la⟩,⟨ht,ha⟩⟩).2⟩):=by unfold mkP;rw [hs,hr];rfl
     have hmk:=Lib.hid hmk
     rw [hr] at hg
     have FN:Hid (∀W,Mod [] w W→_):=fun W m=>czddFound_c (HS.out.mod m (by simp)) hL hroom hrm hn ⟨4,l,l,⟨lt,la⟩,⟨ht,ha⟩⟩ hg.right hg.lo hg.hi
     clear hs hr hg
     generalize (fnd L ⟨4,l,l,⟨lt,la⟩,⟨ht,ha⟩⟩).2=id at *
     generalize (fnd L ⟨4,l,l,⟨lt,la⟩,⟨ht,ha⟩⟩).1=L2 at *
     unfold rcv edv at FN
     simp only at FN
     go_wp2_with fail
     refine (FN.out _ (M2.out.trans' (by exact mods))).mono ?_;rintro e' w3 ⟨rfl,F3,s3,m_w3,f3⟩;have M_w3:=Mod.trans' (show Mod _ wd _ from by exact mods) m_w3
     have hsb:=M2.out.size
     have hk2:=BR.out.lt
     replace BR:=BR.out.mod M_w3 hFg
     clear hhd hxd hrd
     obtain ⟨e0,e1⟩:=BR.cells2
     obtain ⟨f0,f1,-⟩:=BR.frozs
     have S3:=Lib.hid s3
     have F3':=Lib.hid f3
     replace M2:=Lib.hid ((M2.out.mono (S':=F) (by intro k _ h;simp at h)).trans M_w3 (by intro k _ h;exact h))
     have BR:=Lib.hid BR
     clear FN s3 f3 m_w3 BL BH BX x0 x1 x2 x3 x4 x5 x6 EQ p0 p1 q0 q1 y0 y1 y2 y3 y4 y5 y6 hld
     go_wp2_with fail
     have BX:=set2_blk BR.out ⟨0,id⟩
     obtain ⟨g0,g1⟩:=BX.cells2
     have MS:=Lib.hid (set2_mod (Mod.refl [gk+1+1] w3) (gk+1+1) ⟨0,id⟩ (fun _=>by simp))
     change bodyPost _ _ _ _ _ (set2 w3 (gk+1+1) ⟨0,id⟩)
     generalize set2 w3 (gk+1+1) ⟨0,id⟩=X at *
     clear e0 e1 f0 f1 BX
     simp only at g0 g1
     refine bodyPost_ret (by simp [results,Tryz.results119,g0,g1,go_sem];try rfl) rfl ?_
     rw [hmk.out]
     refine ⟨rfl,F3,S3.out.mod MS.out (fun k hk=>?_),M2.out.trans MS.out (by intro k h h2;simp at h2;omega),fun k hk=>(F3'.out k hk).imp (fun h=>h) (fun h=>by simp at h;omega)⟩
     simp;rintro rfl;rcases F3'.out _ hk with h | h;exact hFg h;simp at h;omega
   ·have hr:recP L 4 l ⟨lt,la⟩ ⟨ht,ha⟩=⟨4,l,l,⟨lt,la⟩,⟨ht,ha⟩⟩:=by unfold recP;simp only [hxr.out];rw [if_neg (by rintro ⟨h,_⟩;omega),if_neg (by rintro ⟨_,h,_⟩;exact h2 h)]
    have EQ:=fun w=>(eqIn_ed 9998 ⟨lt,la⟩ ⟨ht,ha⟩ w).trans (by rw [decide_eq_false h2])
    unfold edv at EQ
    simp only at EQ
    clear h2
    have hg:=recP_good HG.out (by omega) (by omega) hl hn HLO.out HLH.out hs
    have hmk:mkP L 4 l ⟨lt,la⟩ ⟨ht,ha⟩=((fnd L ⟨4,l,l,⟨lt,la⟩,⟨ht,ha⟩⟩).1,⟨0,(fnd L ⟨4,l,l,⟨lt,la⟩,⟨ht,ha⟩⟩).2⟩):=by unfold mkP;rw [hs,hr];rfl
    have hmk:=Lib.hid hmk
    rw [hr] at hg
    have FN:Hid (∀W,Mod [] w W→_):=fun W m=>czddFound_c (HS.out.mod m (by simp)) hL hroom hrm hn ⟨4,l,l,⟨lt,la⟩,⟨ht,ha⟩⟩ hg.right hg.lo hg.hi
    clear hs hr hg
    generalize (fnd L ⟨4,l,l,⟨lt,la⟩,⟨ht,ha⟩⟩).2=id at *
    generalize (fnd L ⟨4,l,l,⟨lt,la⟩,⟨ht,ha⟩⟩).1=L2 at *
    unfold rcv edv at FN
    simp only at FN
    go_wp2_with fail
    refine (FN.out _ (M2.out.trans' (by exact mods))).mono ?_;rintro e' w3 ⟨rfl,F3,s3,m_w3,f3⟩;have M_w3:=Mod.trans' (show Mod _ wd _ from by exact mods) m_w3
    have hsb:=M2.out.size
    have hk2:=BR.out.lt
    replace BR:=BR.out.mod M_w3 hFg
    clear hhd hxd hrd
    obtain ⟨e0,e1⟩:=BR.cells2
    obtain ⟨f0,f1,-⟩:=BR.frozs
    have S3:=Lib.hid s3
    have F3':=Lib.hid f3
    replace M2:=Lib.hid ((M2.out.mono (S':=F) (by intro k _ h;simp at h)).trans M_w3 (by intro k _ h;exact h))
    have BR:=Lib.hid BR
    clear FN s3 f3 m_w3 BL BH BX x0 x1 x2 x3 x4 x5 x6 EQ p0 p1 q0 q1 y0 y1 y2 y3 y4 y5 y6 hld
    go_wp2_with fail
    have BX:=set2_blk BR.out ⟨0,id⟩
    obtain ⟨g0,g1⟩:=BX.cells2
    have MS:=Lib.hid (set2_mod (Mod.refl [gk+1+1] w3) (gk+1+1) ⟨0,id⟩ (fun _=>by simp))
    change bodyPost _ _ _ _ _ (set2 w3 (gk+1+1) ⟨0,id⟩)
    generalize set2 w3 (gk+1+1) ⟨0,id⟩=X at *
    clear e0 e1 f0 f1 BX
    simp only at g0 g1
    refine bodyPost_ret (by simp [results,Tryz.results119,g0,g1,go_sem];try rfl) rfl ?_
    rw [hmk.out]
    refine ⟨rfl,F3,S3.out.mod MS.out (fun k hk=>?_),M2.out.trans MS.out (by intro k h h2;simp at h2;omega),fun k hk=>(F3'.out k hk).imp (fun h=>h) (fun h=>by simp at h;omega)⟩
    simp;rintro rfl;rcases F3'.out _ hk with h | h;exact hFg h;simp at h;omega
open Go.RowKit
theorem canonMake1_c {w:World} {b n:Nat} {L:List Rc} {room:Nat} {F:List Nat} (h:IsSt w b n L room F) (hL:L.length≤100000) (hroom:L.length < room) (hrm:room≤1048576) (hn:n≤16) (hG:Good L n) (l:Nat) (hl:l < n) (lo hi:Ed)
 (hlo:LeadsP L 1 lo (l+1) n) (hhi:LeadsP L 1 hi (l+1) n):
 Calls Tryz.prog 90 #[.pointer (some ⟨b,0,none⟩),.int .u8 1,.int .i64 l,edv lo,edv hi] w fun e w'=>e=.returned (.tuple #[edv (mkP L 1 l lo hi).2,.int .u8 0])∧∃F',IsSt w' b n (mkP L 1 l lo hi).1 room F'∧Mod F w w'∧∀k∈F',k∈F∨w.heap.size≤k:=by
 have MK:Hid (∀W,Mod [] w W→_):=fun W m=>bddMake_c (h.mod m (by simp)) hL hroom hrm hn hG l hl lo hi hlo hhi
 have hbF:=h.lt
 clear h hG hlo hhi
 obtain ⟨gk,hgk⟩:∃gk,w.heap.size=gk:=⟨_,rfl⟩
 have HLT:Hid (∀k∈F,k < gk):=fun k hk=>by have:=hbF k hk;omega
 clear hbF
 have hFg:gk+1+1∉F:=fun h=>by have:=HLT.out _ h;omega
 generalize (mkP L 1 l lo hi).1=L2 at *
 generalize (mkP L 1 l lo hi).2=res at *
 obtain ⟨lt,la⟩:=lo
 obtain ⟨ht,ha⟩:=hi
 obtain ⟨rt,ra⟩:=res
 unfold edv at *
 simp only at MK ⊢
 go_enter Tryz.func90,Tryz.ntmps90
 go_wp2_with fail
 have BR:=Blk.new' ((w.alloc (.cells #[.int .u8 lt,.int .u32 la] 66)).alloc (.cells #[.int .u8 ht,.int .u32 ha] 66)) #[.int .u8 0,.int .u32 0] 66 (gk+1+1) (by simp [hgk])
 have M0:Hid (Mod [] w (((w.alloc (.cells #[.int .u8 lt,.int .u32 la] 66)).alloc (.cells #[.int .u8 ht,.int .u32 ha] 66)).alloc (.cells #[.int .u8 0,.int .u32 0] 66))):=by exact mods
 have hsz:(((w.alloc (.cells #[.int .u8 lt,.int .u32 la] 66)).alloc (.cells #[.int .u8 ht,.int .u32 ha] 66)).alloc (.cells #[.int .u8 0,.int .u32 0] 66)).heap.size=gk+3:=by simp [hgk]
 generalize ((w.alloc (.cells #[.int .u8 lt,.int .u32 la] 66)).alloc (.cells #[.int .u8 ht,.int .u32 ha] 66)).alloc (.cells #[.int .u8 0,.int .u32 0] 66)=w0 at *
 refine (MK.out _ M0.out).mono ?_
 rintro e w3 ⟨rfl,F3,s3,m3,f3⟩
 have hk2:=BR.lt
 have BR:=BR.mod m3 hFg
 obtain ⟨e0,e1⟩:=BR.cells2
 obtain ⟨f0,f1,-⟩:=BR.frozs
 have S3:=Lib.hid s3
 have F3':=Lib.hid f3
 have M2:=Lib.hid ((M0.out.mono (S':=F) (by intro k _ h;simp at h)).trans m3 (by intro k _ h;exact h))
 have BR:=Lib.hid BR
 clear MK s3 f3 m3
 go_wp2_with fail
 have BX:=set2_blk BR.out ⟨rt,ra⟩
 obtain ⟨g0,g1⟩:=BX.cells2
 have MS:=Lib.hid (set2_mod (Mod.refl [gk+1+1] w3) (gk+1+1) ⟨rt,ra⟩ (fun _=>by simp))
 change bodyPost _ _ _ _ _ (set2 w3 (gk+1+1) ⟨rt,ra⟩)
 generalize set2 w3 (gk+1+1) ⟨rt,ra⟩=X at *
 clear e0 e1 f0 f1 BX
 simp only at g0 g1
 refine bodyPost_ret (by simp [results,Tryz.results90,g0,g1,go_sem];try rfl) rfl ?_
 refine ⟨rfl,F3,S3.out.mod MS.out (fun k hk=>?_),M2.out.trans MS.out (by intro k h h2;simp at h2;omega),fun k hk=>(F3'.out k hk).imp (fun h=>h) (fun h=>by omega)⟩
 simp;rintro rfl;rcases F3'.out _ hk with h | h;exact hFg h;omega
theorem canonMake2_c {w:World} {b n:Nat} {L:List Rc} {room:Nat} {F:List Nat} (h:IsSt w b n L room F) (hL:L.length≤100000) (hroom:L.length < room) (hrm:room≤1048576) (hn:n≤16) (hG:Good L n) (l:Nat) (hl:l < n) (lo hi:Ed)
 (hlo:LeadsP L 2 lo (l+1) n) (hhi:LeadsP L 2 hi (l+1) n):
 Calls Tryz.prog 90 #[.pointer (some ⟨b,0,none⟩),.int .u8 2,.int .i64 l,edv lo,edv hi] w fun e w'=>e=.returned (.tuple #[edv (mkP L 2 l lo hi).2,.int .u8 0])∧∃F',IsSt w' b n (mkP L 2 l lo hi).1 room F'∧Mod F w w'∧∀k∈F',k∈F∨w.heap.size≤k:=by
 have MK:Hid (∀W,Mod [] w W→_):=fun W m=>zddMake_c (h.mod m (by simp)) hL hroom hrm hn hG l hl lo hi hlo hhi
 have hbF:=h.lt
 clear h hG hlo hhi
 obtain ⟨gk,hgk⟩:∃gk,w.heap.size=gk:=⟨_,rfl⟩
 have HLT:Hid (∀k∈F,k < gk):=fun k hk=>by have:=hbF k hk;omega
 clear hbF
 have hFg:gk+1+1∉F:=fun h=>by have:=HLT.out _ h;omega
 generalize (mkP L 2 l lo hi).1=L2 at *
 generalize (mkP L 2 l lo hi).2=res at *
 obtain ⟨lt,la⟩:=lo
 obtain ⟨ht,ha⟩:=hi
 obtain ⟨rt,ra⟩:=res
 unfold edv at *
 simp only at MK ⊢
 go_enter Tryz.func90,Tryz.ntmps90
 go_wp2_with fail
 have BR:=Blk.new' ((w.alloc (.cells #[.int .u8 lt,.int .u32 la] 66)).alloc (.cells #[.int .u8 ht,.int .u32 ha] 66)) #[.int .u8 0,.int .u32 0] 66 (gk+1+1) (by simp [hgk])
 have M0:Hid (Mod [] w (((w.alloc (.cells #[.int .u8 lt,.int .u32 la] 66)).alloc (.cells #[.int .u8 ht,.int .u32 ha] 66)).alloc (.cells #[.int .u8 0,.int .u32 0] 66))):=by exact mods
 have hsz:(((w.alloc (.cells #[.int .u8 lt,.int .u32 la] 66)).alloc (.cells #[.int .u8 ht,.int .u32 ha] 66)).alloc (.cells #[.int .u8 0,.int .u32 0] 66)).heap.size=gk+3:=by simp [hgk]
 generalize ((w.alloc (.cells #[.int .u8 lt,.int .u32 la] 66)).alloc (.cells #[.int .u8 ht,.int .u32 ha] 66)).alloc (.cells #[.int .u8 0,.int .u32 0] 66)=w0 at *
 refine (MK.out _ M0.out).mono ?_
 rintro e w3 ⟨rfl,F3,s3,m3,f3⟩
 have hk2:=BR.lt
 have BR:=BR.mod m3 hFg
 obtain ⟨e0,e1⟩:=BR.cells2
 obtain ⟨f0,f1,-⟩:=BR.frozs
 have S3:=Lib.hid s3
 have F3':=Lib.hid f3
 have M2:=Lib.hid ((M0.out.mono (S':=F) (by intro k _ h;simp at h)).trans m3 (by intro k _ h;exact h))
 have BR:=Lib.hid BR
 clear MK s3 f3 m3
 go_wp2_with fail
 have BX:=set2_blk BR.out ⟨rt,ra⟩
 obtain ⟨g0,g1⟩:=BX.cells2
 have MS:=Lib.hid (set2_mod (Mod.refl [gk+1+1] w3) (gk+1+1) ⟨rt,ra⟩ (fun _=>by simp))
 change bodyPost _ _ _ _ _ (set2 w3 (gk+1+1) ⟨rt,ra⟩)
 generalize set2 w3 (gk+1+1) ⟨rt,ra⟩=X at *
 clear e0 e1 f0 f1 BX
 simp only at g0 g1
 refine bodyPost_ret (by simp [results,Tryz.results90,g0,g1,go_sem];try rfl) rfl ?_
 refine ⟨rfl,F3,S3.out.mod MS.out (fun k hk=>?_),M2.out.trans MS.out (by intro k h h2;simp at h2;omega),fun k hk=>(F3'.out k hk).imp (fun h=>h) (fun h=>by omega)⟩
 simp;rintro rfl;rcases F3'.out _ hk with h | h;exact hFg h;omega
theorem canonMake3_c {w:World} {b n:Nat} {L:List Rc} {room:Nat} {F:List Nat} (h:IsSt w b n L room F) (hL:L.length≤100000) (hroom:L.length < room) (hrm:room≤1048576) (hn:n≤16) (hG:Good L n) (l:Nat) (hl:l < n) (lo hi:Ed)
 (hlo:LeadsP L 3 lo (l+1) n) (hhi:LeadsP L 3 hi (l+1) n):
 Calls Tryz.prog 90 #[.pointer (some ⟨b,0,none⟩),.int .u8 3,.int .i64 l,edv lo,edv hi] w fun e w'=>e=.returned (.tuple #[edv (mkP L 3 l lo hi).2,.int .u8 0])∧∃F',IsSt w' b n (mkP L 3 l lo hi).1 room F'∧Mod F w w'∧∀k∈F',k∈F∨w.heap.size≤k:=by
 have MK:Hid (∀W,Mod [] w W→_):=fun W m=>cbddMake_c (h.mod m (by simp)) hL hroom hrm hn hG l hl lo hi hlo hhi
 have hbF:=h.lt
 clear h hG hlo hhi
 obtain ⟨gk,hgk⟩:∃gk,w.heap.size=gk:=⟨_,rfl⟩
 have HLT:Hid (∀k∈F,k < gk):=fun k hk=>by have:=hbF k hk;omega
 clear hbF
 have hFg:gk+1+1∉F:=fun h=>by have:=HLT.out _ h;omega
 generalize (mkP L 3 l lo hi).1=L2 at *
 generalize (mkP L 3 l lo hi).2=res at *
 obtain ⟨lt,la⟩:=lo
 obtain ⟨ht,ha⟩:=hi
 obtain ⟨rt,ra⟩:=res
 unfold edv at *
 simp only at MK ⊢
 go_enter Tryz.func90,Tryz.ntmps90
 go_wp2_with fail
 have BR:=Blk.new' ((w.alloc (.cells #[.int .u8 lt,.int .u32 la] 66)).alloc (.cells #[.int .u8 ht,.int .u32 ha] 66)) #[.int .u8 0,.int .u32 0] 66 (gk+1+1) (by simp [hgk])
 have M0:Hid (Mod [] w (((w.alloc (.cells #[.int .u8 lt,.int .u32 la] 66)).alloc (.cells #[.int .u8 ht,.int .u32 ha] 66)).alloc (.cells #[.int .u8 0,.int .u32 0] 66))):=by exact mods
 have hsz:(((w.alloc (.cells #[.int .u8 lt,.int .u32 la] 66)).alloc (.cells #[.int .u8 ht,.int .u32 ha] 66)).alloc (.cells #[.int .u8 0,.int .u32 0] 66)).heap.size=gk+3:=by simp [hgk]
 generalize ((w.alloc (.cells #[.int .u8 lt,.int .u32 la] 66)).alloc (.cells #[.int .u8 ht,.int .u32 ha] 66)).alloc (.cells #[.int .u8 0,.int .u32 0] 66)=w0 at *
 refine (MK.out _ M0.out).mono ?_
 rintro e w3 ⟨rfl,F3,s3,m3,f3⟩
 have hk2:=BR.lt
 have BR:=BR.mod m3 hFg
 obtain ⟨e0,e1⟩:=BR.cells2
 obtain ⟨f0,f1,-⟩:=BR.frozs
 have S3:=Lib.hid s3
 have F3':=Lib.hid f3
 have M2:=Lib.hid ((M0.out.mono (S':=F) (by intro k _ h;simp at h)).trans m3 (by intro k _ h;exact h))
 have BR:=Lib.hid BR
 clear MK s3 f3 m3
 go_wp2_with fail
 have BX:=set2_blk BR.out ⟨rt,ra⟩
 obtain ⟨g0,g1⟩:=BX.cells2
 have MS:=Lib.hid (set2_mod (Mod.refl [gk+1+1] w3) (gk+1+1) ⟨rt,ra⟩ (fun _=>by simp))
 change bodyPost _ _ _ _ _ (set2 w3 (gk+1+1) ⟨rt,ra⟩)
 generalize set2 w3 (gk+1+1) ⟨rt,ra⟩=X at *
 clear e0 e1 f0 f1 BX
 simp only at g0 g1
 refine bodyPost_ret (by simp [results,Tryz.results90,g0,g1,go_sem];try rfl) rfl ?_
 refine ⟨rfl,F3,S3.out.mod MS.out (fun k hk=>?_),M2.out.trans MS.out (by intro k h h2;simp at h2;omega),fun k hk=>(F3'.out k hk).imp (fun h=>h) (fun h=>by omega)⟩
 simp;rintro rfl;rcases F3'.out _ hk with h | h;exact hFg h;omega
theorem canonMake4_c {w:World} {b n:Nat} {L:List Rc} {room:Nat} {F:List Nat} (h:IsSt w b n L room F) (hL:L.length≤100000) (hroom:L.length < room) (hrm:room≤1048576) (hn:n≤16) (hG:Good L n) (l:Nat) (hl:l < n) (lo hi:Ed)
 (hlo:LeadsP L 4 lo (l+1) n) (hhi:LeadsP L 4 hi (l+1) n):
 Calls Tryz.prog 90 #[.pointer (some ⟨b,0,none⟩),.int .u8 4,.int .i64 l,edv lo,edv hi] w fun e w'=>e=.returned (.tuple #[edv (mkP L 4 l lo hi).2,.int .u8 0])∧∃F',IsSt w' b n (mkP L 4 l lo hi).1 room F'∧Mod F w w'∧∀k∈F',k∈F∨w.heap.size≤k:=by
 have MK:Hid (∀W,Mod [] w W→_):=fun W m=>czddMake_c (h.mod m (by simp)) hL hroom hrm hn hG l hl lo hi hlo hhi
 have hbF:=h.lt
 clear h hG hlo hhi
 obtain ⟨gk,hgk⟩:∃gk,w.heap.size=gk:=⟨_,rfl⟩
 have HLT:Hid (∀k∈F,k < gk):=fun k hk=>by have:=hbF k hk;omega
 clear hbF
 have hFg:gk+1+1∉F:=fun h=>by have:=HLT.out _ h;omega
 generalize (mkP L 4 l lo hi).1=L2 at *
 generalize (mkP L 4 l lo hi).2=res at *
 obtain ⟨lt,la⟩:=lo
 obtain ⟨ht,ha⟩:=hi
 obtain ⟨rt,ra⟩:=res
 unfold edv at *
 simp only at MK ⊢
 go_enter Tryz.func90,Tryz.ntmps90
 go_wp2_with fail
 have BR:=Blk.new' ((w.alloc (.cells #[.int .u8 lt,.int .u32 la] 66)).alloc (.cells #[.int .u8 ht,.int .u32 ha] 66)) #[.int .u8 0,.int .u32 0] 66 (gk+1+1) (by simp [hgk])
 have M0:Hid (Mod [] w (((w.alloc (.cells #[.int .u8 lt,.int .u32 la] 66)).alloc (.cells #[.int .u8 ht,.int .u32 ha] 66)).alloc (.cells #[.int .u8 0,.int .u32 0] 66))):=by exact mods
 have hsz:(((w.alloc (.cells #[.int .u8 lt,.int .u32 la] 66)).alloc (.cells #[.int .u8 ht,.int .u32 ha] 66)).alloc (.cells #[.int .u8 0,.int .u32 0] 66)).heap.size=gk+3:=by simp [hgk]
 generalize ((w.alloc (.cells #[.int .u8 lt,.int .u32 la] 66)).alloc (.cells #[.int .u8 ht,.int .u32 ha] 66)).alloc (.cells #[.int .u8 0,.int .u32 0] 66)=w0 at *
 refine (MK.out _ M0.out).mono ?_
 rintro e w3 ⟨rfl,F3,s3,m3,f3⟩
 have hk2:=BR.lt
 have BR:=BR.mod m3 hFg
 obtain ⟨e0,e1⟩:=BR.cells2
 obtain ⟨f0,f1,-⟩:=BR.frozs
 have S3:=Lib.hid s3
 have F3':=Lib.hid f3
 have M2:=Lib.hid ((M0.out.mono (S':=F) (by intro k _ h;simp at h)).trans m3 (by intro k _ h;exact h))
 have BR:=Lib.hid BR
 clear MK s3 f3 m3
 go_wp2_with fail
 have BX:=set2_blk BR.out ⟨rt,ra⟩
 obtain ⟨g0,g1⟩:=BX.cells2
 have MS:=Lib.hid (set2_mod (Mod.refl [gk+1+1] w3) (gk+1+1) ⟨rt,ra⟩ (fun _=>by simp))
 change bodyPost _ _ _ _ _ (set2 w3 (gk+1+1) ⟨rt,ra⟩)
 generalize set2 w3 (gk+1+1) ⟨rt,ra⟩=X at *
 clear e0 e1 f0 f1 BX
 simp only at g0 g1
 refine bodyPost_ret (by simp [results,Tryz.results90,g0,g1,go_sem];try rfl) rfl ?_
 refine ⟨rfl,F3,S3.out.mod MS.out (fun k hk=>?_),M2.out.trans MS.out (by intro k h h2;simp at h2;omega),fun k hk=>(F3'.out k hk).imp (fun h=>h) (fun h=>by omega)⟩
 simp;rintro rfl;rcases F3'.out _ hk with h | h;exact hFg h;omega
theorem canonMake5_c {w:World} {b n:Nat} {L:List Rc} {room:Nat} {F:List Nat} (h:IsSt w b n L room F) (hL:L.length≤100000) (hroom:L.length < room) (hrm:room≤1048576) (hn:n≤16) (hG:Good L n) (l:Nat) (hl:l < n) (lo hi:Ed)
 (hlo:LeadsP L 5 lo (l+1) n) (hhi:LeadsP L 5 hi (l+1) n):
 Calls Tryz.prog 90 #[.pointer (some ⟨b,0,none⟩),.int .u8 5,.int .i64 l,edv lo,edv hi] w fun e w'=>e=.returned (.tuple #[edv (mkP L 5 l lo hi).2,.int .u8 0])∧∃F',IsSt w' b n (mkP L 5 l lo hi).1 room F'∧Mod F w w'∧∀k∈F',k∈F∨w.heap.size≤k:=by
 have MK:Hid (∀W,Mod [] w W→_):=fun W m=>tbddMake_c (h.mod m (by simp)) hL hroom hrm hn hG l hl lo hi hlo hhi
 have hbF:=h.lt
 clear h hG hlo hhi
 obtain ⟨gk,hgk⟩:∃gk,w.heap.size=gk:=⟨_,rfl⟩
 have HLT:Hid (∀k∈F,k < gk):=fun k hk=>by have:=hbF k hk;omega
 clear hbF
 have hFg:gk+1+1∉F:=fun h=>by have:=HLT.out _ h;omega
 generalize (mkP L 5 l lo hi).1=L2 at *
 generalize (mkP L 5 l lo hi).2=res at *
 obtain ⟨lt,la⟩:=lo
 obtain ⟨ht,ha⟩:=hi
 obtain ⟨rt,ra⟩:=res
 unfold edv at *
 simp only at MK ⊢
 go_enter Tryz.func90,Tryz.ntmps90
 go_wp2_with fail
 have BR:=Blk.new' ((w.alloc (.cells #[.int .u8 lt,.int .u32 la] 66)).alloc (.cells #[.int .u8 ht,.int .u32 ha] 66)) #[.int .u8 0,.int .u32 0] 66 (gk+1+1) (by simp [hgk])
 have M0:Hid (Mod [] w (((w.alloc (.cells #[.int .u8 lt,.int .u32 la] 66)).alloc (.cells #[.int .u8 ht,.int .u32 ha] 66)).alloc (.cells #[.int .u8 0,.int .u32 0] 66))):=by exact mods
 have hsz:(((w.alloc (.cells #[.int .u8 lt,.int .u32 la] 66)).alloc (.cells #[.int .u8 ht,.int .u32 ha] 66)).alloc (.cells #[.int .u8 0,.int .u32 0] 66)).heap.size=gk+3:=by simp [hgk]
 generalize ((w.alloc (.cells #[.int .u8 lt,.int .u32 la] 66)).alloc (.cells #[.int .u8 ht,.int .u32 ha] 66)).alloc (.cells #[.int .u8 0,.int .u32 0] 66)=w0 at *
 refine (MK.out _ M0.out).mono ?_
 rintro e w3 ⟨rfl,F3,s3,m3,f3⟩
 have hk2:=BR.lt
 have BR:=BR.mod m3 hFg
 obtain ⟨e0,e1⟩:=BR.cells2
 obtain ⟨f0,f1,-⟩:=BR.frozs
 have S3:=Lib.hid s3
 have F3':=Lib.hid f3
 have M2:=Lib.hid ((M0.out.mono (S':=F) (by intro k _ h;simp at h)).trans m3 (by intro k _ h;exact h))
 have BR:=Lib.hid BR
 clear MK s3 f3 m3
 go_wp2_with fail
 have BX:=set2_blk BR.out ⟨rt,ra⟩
 obtain ⟨g0,g1⟩:=BX.cells2
 have MS:=Lib.hid (set2_mod (Mod.refl [gk+1+1] w3) (gk+1+1) ⟨rt,ra⟩ (fun _=>by simp))
 change bodyPost _ _ _ _ _ (set2 w3 (gk+1+1) ⟨rt,ra⟩)
 generalize set2 w3 (gk+1+1) ⟨rt,ra⟩=X at *
 clear e0 e1 f0 f1 BX
 simp only at g0 g1
 refine bodyPost_ret (by simp [results,Tryz.results90,g0,g1,go_sem];try rfl) rfl ?_
 refine ⟨rfl,F3,S3.out.mod MS.out (fun k hk=>?_),M2.out.trans MS.out (by intro k h h2;simp at h2;omega),fun k hk=>(F3'.out k hk).imp (fun h=>h) (fun h=>by omega)⟩
 simp;rintro rfl;rcases F3'.out _ hk with h | h;exact hFg h;omega
theorem canonMake_c (f:Nat) (h1:1≤f) (h5:f≤5) {w:World} {b n:Nat} {L:List Rc} {room:Nat} {F:List Nat} (h:IsSt w b n L room F) (hL:L.length≤100000) (hroom:L.length < room) (hrm:room≤1048576) (hn:n≤16) (hG:Good L n) (l:Nat) (hl:l < n) (lo hi:Ed)
 (hlo:LeadsP L f lo (l+1) n) (hhi:LeadsP L f hi (l+1) n):
 Calls Tryz.prog 90 #[.pointer (some ⟨b,0,none⟩),.int .u8 f,.int .i64 l,edv lo,edv hi] w fun e w'=>e=.returned (.tuple #[edv (mkP L f l lo hi).2,.int .u8 0])∧∃F',IsSt w' b n (mkP L f l lo hi).1 room F'∧Mod F w w'∧∀k∈F',k∈F∨w.heap.size≤k:=by
 obtain rfl | rfl | rfl | rfl | rfl:f=1∨f=2∨f=3∨f=4∨f=5:=by omega
 ·exact canonMake1_c h hL hroom hrm hn hG l hl lo hi hlo hhi
 ·exact canonMake2_c h hL hroom hrm hn hG l hl lo hi hlo hhi
 ·exact canonMake3_c h hL hroom hrm hn hG l hl lo hi hlo hhi
 ·exact canonMake4_c h hL hroom hrm hn hG l hl lo hi hlo hhi
 ·exact canonMake5_c h hL hroom hrm hn hG l hl lo hi hlo hhi
open Go.RowKit
def IsOrd (w:World) (b:Nat) (p q:List Nat) (F:List Nat):Prop:=
 ∃vp vq Fp Fq,Blk w b #[vp,vq] 173∧Sl w 3 1 vp p.length (p.map fun (i:Nat)=>.int .i64 (i:Int)) Fp∧Sl w 3 1 vq q.length (q.map fun (i:Nat)=>.int .i64 (i:Int)) Fq∧F=b::(Fp++Fq)∧b∉Fp∧b∉Fq
theorem IsOrd.mod {S:List Nat} {w w':World} {b:Nat} {p q:List Nat} {F:List Nat} (h:IsOrd w b p q F) (m:Mod S w w') (hd:∀k∈F,k∉S):IsOrd w' b p q F:=by
 obtain ⟨vp,vq,Fp,Fq,h1,h2,h3,rfl,r⟩:=h
 exact ⟨vp,vq,Fp,Fq,h1.mod m (hd b (by simp)),h2.mod m (fun k hk=>hd k (by simp [hk])),h3.mod m (fun k hk=>hd k (by simp [hk])),rfl,r⟩
theorem at_c (a:Option Addr) (g n cap i:Nat) (v:Int) (hi:i < n) (hn:n≤1048576) (w:World) (ha:a=some ⟨g,0,none⟩) (c0:w.cell? ⟨g,i,none⟩=some (.int .i64 v)):
 Calls Tryz.prog 98 #[.slice a n cap,.int .i64 i] w fun e w'=>e=.returned (.int .i64 v)∧w'=w:=by
 subst ha
 have hi':(i:Int) < n:=by omega
 go_enter Tryz.func98,Tryz.ntmps98
 go_wp2
 go_ret
 exact ⟨rfl,rfl⟩
theorem ordVar_c {w:World} {b:Nat} {p q:List Nat} {F:List Nat} (h:IsOrd w b p q F) (hp:p.length≤16) (l:Nat) (hl:l < p.length):
 Calls Tryz.prog 89 #[.pointer (some ⟨b,0,none⟩),.int .i64 l] w fun e w'=>e=.returned (.int .i64 (p[l]:Nat))∧w'=w:=by
 obtain ⟨vp,vq,Fp,Fq,h1,h2,h3,rfl,r⟩:=h
 obtain ⟨g,cap,rfl,rfl,hcap⟩:=h2.pos (by omega)
 have c0:=h1.cell 0
 simp only [List.getElem?_toArray,List.getElem?_cons_zero] at c0
 have d0:=(h2.at l (by omega)).1
 rw [List.getElem?_map,List.getElem?_eq_getElem hl] at d0
 simp only [Option.map_some] at d0
 have AT:=Lib.hid (at_c (some ⟨g,0,none⟩) g p.length cap l (p[l]:Nat) hl (by omega) w rfl d0)
 generalize (p[l]:Nat)=v at *
 clear h1 h2 h3 d0
 go_enter Tryz.func89,Tryz.ntmps89
 go_wp2_with fail
 refine AT.out.mono ?_
 rintro e w' ⟨rfl,rfl⟩
 go_wp2_with fail
 go_ret
 exact ⟨rfl,rfl⟩
theorem ordVars_c {w:World} {b:Nat} {p q:List Nat} {F:List Nat} (h:IsOrd w b p q F):
 Calls Tryz.prog 83 #[.pointer (some ⟨b,0,none⟩)] w fun e w'=>e=.returned (.int .i64 p.length)∧w'=w:=by
 obtain ⟨vp,vq,Fp,Fq,h1,h2,h3,rfl,r⟩:=h
 obtain ⟨a,cap,rfl,hcap⟩:=h2.shape
 have c0:=h1.cell 0
 simp only [List.getElem?_toArray,List.getElem?_cons_zero] at c0
 clear h1 h2 h3
 go_enter Tryz.func83,Tryz.ntmps83
 go_wp2_with fail
 go_ret
 exact ⟨rfl,rfl⟩
open Go.RowKit
theorem setMay_c (n:Nat) (h:n≤16) (w:World):Calls Tryz.prog 84 #[.int .i64 n] w fun e w'=>e=.returned (.bool true)∧w'=w:=by
 have h1:(0:Int)≤n:=by omega
 have h5:(n:Int)≤16:=by omega
 go_enter Tryz.func84,Tryz.ntmps84
 go_wp2
 go_ret
 exact ⟨rfl,rfl⟩
theorem words_c (n:Nat) (h:n≤5) (w:World):Calls Tryz.prog 85 #[.int .i64 n] w fun e w'=>e=.returned (.int .i64 1)∧w'=w:=by
 obtain rfl | rfl | rfl | rfl | rfl | rfl:n=0∨n=1∨n=2∨n=3∨n=4∨n=5:=by omega
 all_goals
  go_enter Tryz.func85,Tryz.ntmps85
  go_wp2
  go_ret
  exact ⟨rfl,rfl⟩
def fullN (n:Nat):Nat:=2 ^ (2 ^ n) - 1
theorem full_c (n:Nat) (h:n≤5) (w:World):Calls Tryz.prog 86 #[.int .i64 n] w fun e w'=>e=.returned (.int .u64 (fullN n:Nat))∧w'=w:=by
 obtain rfl | rfl | rfl | rfl | rfl | rfl:n=0∨n=1∨n=2∨n=3∨n=4∨n=5:=by omega
 all_goals
  go_enter Tryz.func86,Tryz.ntmps86
  go_wp2
  go_ret
  exact ⟨rfl,rfl⟩
open Go.RowKit
theorem andNot_full (W n:Nat) (hn:n≤5) (hW:W < 2 ^ (2 ^ n)):bits .andNot .u64 (W:Int) ((fullN n:Nat):Int)=0:=by
 have e:BitVec.ofInt 64 (W:Int) &&& ~~~ (BitVec.ofInt 64 ((fullN n:Nat):Int))=0#64:=by
  rw [BitVec.ofInt_natCast,BitVec.ofInt_natCast]
  apply BitVec.eq_of_getLsbD_eq
  intro i hi
  unfold fullN
  rw [BitVec.getLsbD_and,BitVec.getLsbD_not,BitVec.getLsbD_ofNat,BitVec.getLsbD_ofNat]
  simp only [hi,decide_true,Bool.true_and,Nat.testBit_two_pow_sub_one,BitVec.getLsbD_zero]
  rcases Nat.lt_or_ge i (2 ^ n) with h2 | h2
  ·simp [h2]
  ·rw [Nat.testBit_lt_two_pow (Nat.lt_of_lt_of_le hW (Nat.pow_le_pow_right (by omega) h2))];rfl
 show IntKind.u64.wrap ((BitVec.ofInt 64 (W:Int) &&& ~~~ (BitVec.ofInt 64 ((fullN n:Nat):Int))).toNat:Int)=0
 rw [e];rfl
theorem setRight_c (n W g cap:Nat) (hn:n≤5) (hW:W < 2 ^ (2 ^ n)) (w:World) (c0:w.cell? ⟨g,0,none⟩=some (.int .u64 W)):
 Calls Tryz.prog 58 #[.agg #[.int .i64 n,.slice (some ⟨g,0,none⟩) 1 cap]] w fun e w'=>e=.returned (.bool true)∧Mod [] w w':=by
 have MY:Hid (∀W',Calls Tryz.prog 84 #[.int .i64 n] W' fun e w'=>e=.returned (.bool true)∧Mod [] W' w'):=fun W'=>(setMay_c n (by omega) W').mono (by rintro e w' ⟨rfl,rfl⟩;exact ⟨rfl,Mod.refl _ _⟩)
 have WO:Hid (∀W',Calls Tryz.prog 85 #[.int .i64 n] W' fun e w'=>e=.returned (.int .i64 1)∧Mod [] W' w'):=fun W'=>(words_c n hn W').mono (by rintro e w' ⟨rfl,rfl⟩;exact ⟨rfl,Mod.refl _ _⟩)
 have FU:Hid (∀W',Calls Tryz.prog 86 #[.int .i64 n] W' fun e w'=>e=.returned (.int .u64 (fullN n:Nat))∧Mod [] W' w'):=fun W'=>(full_c n hn W').mono (by rintro e w' ⟨rfl,rfl⟩;exact ⟨rfl,Mod.refl _ _⟩)
 have AN:=andNot_full W n hn hW
 have hgl:=World.block_lt_of_cell? w _ c0
 simp only at hgl
 clear hW
 generalize fullN n=fn at *
 obtain ⟨gk,hgk⟩:∃gk,w.heap.size=gk:=⟨_,rfl⟩
 have gn1:¬g=gk:=by omega
 have gn2:¬gk=g:=by omega
 go_enter Tryz.func58,Tryz.ntmps58
 go_wp2_with fail
 have B:=Blk.new' w #[.int .i64 n,.slice (some ⟨g,0,none⟩) 1 cap] 39 gk hgk.symm
 have M0:Hid (Mod [] w (w.alloc (.cells #[.int .i64 n,.slice (some ⟨g,0,none⟩) 1 cap] 39))):=by exact mods
 have c0:=(M0.out.cell (a:=⟨g,0,none⟩) hgl (by simp)).trans c0
 generalize w.alloc (.cells #[.int .i64 n,.slice (some ⟨g,0,none⟩) 1 cap] 39)=w0 at *
 obtain ⟨q0,q1⟩:=B.cells2
 have hk:=B.lt
 have hgl:=Nat.lt_of_lt_of_le hgl M0.out.size
 clear B
 go_region_held3 (fun w'=>w'.cell? ⟨g,0,none⟩=some (.int .u64 W)∧w'.cell? ⟨gk,0,none⟩=some (.int .i64 n)∧w'.cell? ⟨gk,1,none⟩=some (.slice (some ⟨g,0,none⟩) 1 cap)) (go_keep) (first | (go_at_call 84;refine (MY.out _).mono ?_;rintro e' wa ⟨rfl,m_wa⟩;have M_wa:=Mod.trans' (show Mod _ w0 _ from by exact mods) m_wa;have c0:=(M_wa.cell (a:=⟨g,0,none⟩) hgl (by first | assumption | (simp;done))).trans c0;have q0:=(M_wa.cell (a:=⟨gk,0,none⟩) hk (by first | assumption | (simp;done))).trans q0;have q1:=(M_wa.cell (a:=⟨gk,1,none⟩) hk (by first | assumption | (simp;done))).trans q1;have hgl:=Nat.lt_of_lt_of_le hgl M_wa.size;have hk:=Nat.lt_of_lt_of_le hk M_wa.size) | (go_at_call 85;refine (WO.out _).mono ?_;rintro e' wb ⟨rfl,m_wb⟩;have M_wb:=Mod.trans' (show Mod _ wa _ from by exact mods) m_wb;have c0:=(M_wb.cell (a:=⟨g,0,none⟩) hgl (by first | assumption | (simp;done))).trans c0;have q0:=(M_wb.cell (a:=⟨gk,0,none⟩) hk (by first | assumption | (simp;done))).trans q0;have q1:=(M_wb.cell (a:=⟨gk,1,none⟩) hk (by first | assumption | (simp;done))).trans q1;have hgl:=Nat.lt_of_lt_of_le hgl M_wb.size;have hk:=Nat.lt_of_lt_of_le hk M_wb.size) | (go_at_call 86;refine (FU.out _).mono ?_;rintro e' wc ⟨rfl,m_wc⟩;have M_wc:=Mod.trans' (show Mod _ wb _ from by exact mods) m_wc;have c0:=(M_wc.cell (a:=⟨g,0,none⟩) hgl (by first | assumption | (simp;done))).trans c0;have q0:=(M_wc.cell (a:=⟨gk,0,none⟩) hk (by first | assumption | (simp;done))).trans q0;have q1:=(M_wc.cell (a:=⟨gk,1,none⟩) hk (by first | assumption | (simp;done))).trans q1;have hgl:=Nat.lt_of_lt_of_le hgl M_wc.size;have hk:=Nat.lt_of_lt_of_le hk M_wc.size))
 have M1:=Lib.hid (M0.out.trans' (M_wa.trans' (M_wb.trans' M_wc)))
 clear m_wa m_wb m_wc M_wa M_wb M_wc MY WO FU
 go_wp2_with fail
 go_ret
 exact ⟨by first | rfl | simp [AN],M1.out⟩
open Go.RowKit
theorem bit_one (m:Nat) (hm:m < 18446744073709551616):bits .and .u64 (m:Int) 1=((m % 2:Nat):Int):=by
 have e:(BitVec.ofInt 64 (m:Int) &&& BitVec.ofInt 64 1).toNat=m % 2:=by
  have e1:BitVec.ofInt 64 (m:Int)=BitVec.ofNat 64 m:=BitVec.ofInt_natCast ..
  have e2:BitVec.ofInt 64 1=BitVec.ofNat 64 1:=rfl
  rw [e1,e2,BitVec.toNat_and,BitVec.toNat_ofNat,BitVec.toNat_ofNat,Nat.mod_eq_of_lt hm]
  exact Nat.and_one_is_mod m
 show IntKind.u64.wrap ((BitVec.ofInt 64 (m:Int) &&& BitVec.ofInt 64 1).toNat:Int)=_
 rw [e,IntWalk.u64_in _ (by omega)]
theorem bit_at (W x:Nat) (hW:W < 18446744073709551616):(bits .and .u64 ((W:Int) / 2 ^ x) 1==1)=W.testBit x:=by
 have e1:(W:Int) / 2 ^ x=((W / 2 ^ x:Nat):Int):=by
  rw [Int.natCast_ediv];simp
 rw [e1,bit_one _ (Nat.lt_of_le_of_lt (Nat.div_le_self _ _) hW)]
 have h:W.testBit x=decide (W / 2 ^ x % 2=1):=by
  rw [Nat.testBit_eq_decide_div_mod_eq]
 rw [h]
 by_cases q:W / 2 ^ x % 2=1
 ·rw [q];simp
 ·have:W / 2 ^ x % 2=0:=by omega
  rw [this];simp
theorem small64 {W n:Nat} (hn:n≤5) (hW:W < 2 ^ (2 ^ n)):W < 18446744073709551616:=by
 have h1:2 ^ n≤2 ^ 5:=Nat.pow_le_pow_right (by omega) hn
 have h2:2 ^ (2 ^ n)≤2 ^ (2 ^ 5):=Nat.pow_le_pow_right (by omega) h1
 have h3:(2:Nat) ^ (2 ^ 5)=4294967296:=by decide
 omega
theorem setHas0 (W g cap x:Nat) (hW:W < 2 ^ (2 ^ 0)) (hx:x < 1) (w:World) (c0:w.cell? ⟨g,0,none⟩=some (.int .u64 W)):
 Calls Tryz.prog 87 #[.agg #[.int .i64 (0:Nat),.slice (some ⟨g,0,none⟩) 1 cap],.int .i64 x] w fun e w'=>e=.returned (.bool (W.testBit x))∧Mod [] w w':=by
 have hgl:=World.block_lt_of_cell? w _ c0
 simp only at hgl
 have RT:Hid (∀W',Mod [] w W'→_):=fun W' m=>setRight_c 0 W g cap (by omega) hW W' ((m.cell (a:=⟨g,0,none⟩) hgl (by simp)).trans c0)
 have BA:=Lib.hid (bit_at W x (small64 (n:=0) (by omega) hW))
 clear hW
 obtain ⟨gk,hgk⟩:∃gk,w.heap.size=gk:=⟨_,rfl⟩
 have gn1:¬g=gk:=by omega
 have gn2:¬gk=g:=by omega
 have hx32:(x:Int) < 1:=by omega
 have hx0:(0:Int)≤x:=by omega
 have hxd:(x:Int) / 64=0:=by omega
 have hxm:(x:Int) % 64=x:=by omega
 clear hx
 go_enter Tryz.func87,Tryz.ntmps87
 go_wp2_with fail
 have B:=Blk.new' w #[.int .i64 0,.slice (some ⟨g,0,none⟩) 1 cap] 39 gk hgk.symm
 have M0:Hid (Mod [] w (w.alloc (.cells #[.int .i64 0,.slice (some ⟨g,0,none⟩) 1 cap] 39))):=by exact mods
 have c0:=(M0.out.cell (a:=⟨g,0,none⟩) hgl (by simp)).trans c0
 generalize w.alloc (.cells #[.int .i64 0,.slice (some ⟨g,0,none⟩) 1 cap] 39)=w0 at *
 obtain ⟨q0,q1⟩:=B.cells2
 have hk:=B.lt
 have hgl:=Nat.lt_of_lt_of_le hgl M0.out.size
 clear B
 refine (RT.out _ M0.out).mono ?_;rintro e' wa ⟨rfl,m_wa⟩;have M_wa:=Mod.trans' (show Mod _ w0 _ from by exact mods) m_wa;have c0:=(M_wa.cell (a:=⟨g,0,none⟩) hgl (by first | assumption | (simp;done))).trans c0;have q0:=(M_wa.cell (a:=⟨gk,0,none⟩) hk (by first | assumption | (simp;done))).trans q0;have q1:=(M_wa.cell (a:=⟨gk,1,none⟩) hk (by first | assumption | (simp;done))).trans q1;have hgl:=Nat.lt_of_lt_of_le hgl M_wa.size;have hk:=Nat.lt_of_lt_of_le hk M_wa.size
 have M1:=Lib.hid (M0.out.trans' M_wa)
 clear m_wa M_wa RT
 go_wp2_with fail
 go_ret
 exact ⟨by rw [←BA.out];rfl,M1.out⟩
theorem setHas1 (W g cap x:Nat) (hW:W < 2 ^ (2 ^ 1)) (hx:x < 2) (w:World) (c0:w.cell? ⟨g,0,none⟩=some (.int .u64 W)):
 Calls Tryz.prog 87 #[.agg #[.int .i64 (1:Nat),.slice (some ⟨g,0,none⟩) 1 cap],.int .i64 x] w fun e w'=>e=.returned (.bool (W.testBit x))∧Mod [] w w':=by
 have hgl:=World.block_lt_of_cell? w _ c0
 simp only at hgl
 have RT:Hid (∀W',Mod [] w W'→_):=fun W' m=>setRight_c 1 W g cap (by omega) hW W' ((m.cell (a:=⟨g,0,none⟩) hgl (by simp)).trans c0)
 have BA:=Lib.hid (bit_at W x (small64 (n:=1) (by omega) hW))
 clear hW
 obtain ⟨gk,hgk⟩:∃gk,w.heap.size=gk:=⟨_,rfl⟩
 have gn1:¬g=gk:=by omega
 have gn2:¬gk=g:=by omega
 have hx32:(x:Int) < 2:=by omega
 have hx0:(0:Int)≤x:=by omega
 have hxd:(x:Int) / 64=0:=by omega
 have hxm:(x:Int) % 64=x:=by omega
 clear hx
 go_enter Tryz.func87,Tryz.ntmps87
 go_wp2_with fail
 have B:=Blk.new' w #[.int .i64 1,.slice (some ⟨g,0,none⟩) 1 cap] 39 gk hgk.symm
 have M0:Hid (Mod [] w (w.alloc (.cells #[.int .i64 1,.slice (some ⟨g,0,none⟩) 1 cap] 39))):=by exact mods
 have c0:=(M0.out.cell (a:=⟨g,0,none⟩) hgl (by simp)).trans c0
 generalize w.alloc (.cells #[.int .i64 1,.slice (some ⟨g,0,none⟩) 1 cap] 39)=w0 at *
 obtain ⟨q0,q1⟩:=B.cells2
 have hk:=B.lt
 have hgl:=Nat.lt_of_lt_of_le hgl M0.out.size
 clear B
 refine (RT.out _ M0.out).mono ?_;rintro e' wa ⟨rfl,m_wa⟩;have M_wa:=Mod.trans' (show Mod _ w0 _ from by exact mods) m_wa;have c0:=(M_wa.cell (a:=⟨g,0,none⟩) hgl (by first | assumption | (simp;done))).trans c0;have q0:=(M_wa.cell (a:=⟨gk,0,none⟩) hk (by first | assumption | (simp;done))).trans q0;have q1:=(M_wa.cell (a:=⟨gk,1,none⟩) hk (by first | assumption | (simp;done))).trans q1;have hgl:=Nat.lt_of_lt_of_le hgl M_wa.size;have hk:=Nat.lt_of_lt_of_le hk M_wa.size
 have M1:=Lib.hid (M0.out.trans' M_wa)
 clear m_wa M_wa RT
 go_wp2_with fail
 go_ret
 exact ⟨by rw [←BA.out];rfl,M1.out⟩
theorem setHas2 (W g cap x:Nat) (hW:W < 2 ^ (2 ^ 2)) (hx:x < 4) (w:World) (c0:w.cell? ⟨g,0,none⟩=some (.int .u64 W)):
 Calls Tryz.prog 87 #[.agg #[.int .i64 (2:Nat),.slice (some ⟨g,0,none⟩) 1 cap],.int .i64 x] w fun e w'=>e=.returned (.bool (W.testBit x))∧Mod [] w w':=by
 have hgl:=World.block_lt_of_cell? w _ c0
 simp only at hgl
 have RT:Hid (∀W',Mod [] w W'→_):=fun W' m=>setRight_c 2 W g cap (by omega) hW W' ((m.cell (a:=⟨g,0,none⟩) hgl (by simp)).trans c0)
 have BA:=Lib.hid (bit_at W x (small64 (n:=2) (by omega) hW))
 clear hW
 obtain ⟨gk,hgk⟩:∃gk,w.heap.size=gk:=⟨_,rfl⟩
 have gn1:¬g=gk:=by omega
 have gn2:¬gk=g:=by omega
 have hx32:(x:Int) < 4:=by omega
 have hx0:(0:Int)≤x:=by omega
 have hxd:(x:Int) / 64=0:=by omega
 have hxm:(x:Int) % 64=x:=by omega
 clear hx
 go_enter Tryz.func87,Tryz.ntmps87
 go_wp2_with fail
 have B:=Blk.new' w #[.int .i64 2,.slice (some ⟨g,0,none⟩) 1 cap] 39 gk hgk.symm
 have M0:Hid (Mod [] w (w.alloc (.cells #[.int .i64 2,.slice (some ⟨g,0,none⟩) 1 cap] 39))):=by exact mods
 have c0:=(M0.out.cell (a:=⟨g,0,none⟩) hgl (by simp)).trans c0
 generalize w.alloc (.cells #[.int .i64 2,.slice (some ⟨g,0,none⟩) 1 cap] 39)=w0 at *
 obtain ⟨q0,q1⟩:=B.cells2
 have hk:=B.lt
 have hgl:=Nat.lt_of_lt_of_le hgl M0.out.size
 clear B
 refine (RT.out _ M0.out).mono ?_;rintro e' wa ⟨rfl,m_wa⟩;have M_wa:=Mod.trans' (show Mod _ w0 _ from by exact mods) m_wa;have c0:=(M_wa.cell (a:=⟨g,0,none⟩) hgl (by first | assumption | (simp;done))).trans c0;have q0:=(M_wa.cell (a:=⟨gk,0,none⟩) hk (by first | assumption | (simp;done))).trans q0;have q1:=(M_wa.cell (a:=⟨gk,1,none⟩) hk (by first | assumption | (simp;done))).trans q1;have hgl:=Nat.lt_of_lt_of_le hgl M_wa.size;have hk:=Nat.lt_of_lt_of_le hk M_wa.size
 have M1:=Lib.hid (M0.out.trans' M_wa)
 clear m_wa M_wa RT
 go_wp2_with fail
 go_ret
 exact ⟨by rw [←BA.out];rfl,M1.out⟩
theorem setHas3 (W g cap x:Nat) (hW:W < 2 ^ (2 ^ 3)) (hx:x < 8) (w:World) (c0:w.cell? ⟨g,0,none⟩=some (.int .u64 W)):
 Calls Tryz.prog 87 #[.agg #[.int .i64 (3:Nat),.slice (some ⟨g,0,none⟩) 1 cap],.int .i64 x] w fun e w'=>e=.returned (.bool (W.testBit x))∧Mod [] w w':=by
 have hgl:=World.block_lt_of_cell? w _ c0
 simp only at hgl
 have RT:Hid (∀W',Mod [] w W'→_):=fun W' m=>setRight_c 3 W g cap (by omega) hW W' ((m.cell (a:=⟨g,0,none⟩) hgl (by simp)).trans c0)
 have BA:=Lib.hid (bit_at W x (small64 (n:=3) (by omega) hW))
 clear hW
 obtain ⟨gk,hgk⟩:∃gk,w.heap.size=gk:=⟨_,rfl⟩
 have gn1:¬g=gk:=by omega
 have gn2:¬gk=g:=by omega
 have hx32:(x:Int) < 8:=by omega
 have hx0:(0:Int)≤x:=by omega
 have hxd:(x:Int) / 64=0:=by omega
 have hxm:(x:Int) % 64=x:=by omega
 clear hx
 go_enter Tryz.func87,Tryz.ntmps87
 go_wp2_with fail
 have B:=Blk.new' w #[.int .i64 3,.slice (some ⟨g,0,none⟩) 1 cap] 39 gk hgk.symm
 have M0:Hid (Mod [] w (w.alloc (.cells #[.int .i64 3,.slice (some ⟨g,0,none⟩) 1 cap] 39))):=by exact mods
 have c0:=(M0.out.cell (a:=⟨g,0,none⟩) hgl (by simp)).trans c0
 generalize w.alloc (.cells #[.int .i64 3,.slice (some ⟨g,0,none⟩) 1 cap] 39)=w0 at *
 obtain ⟨q0,q1⟩:=B.cells2
 have hk:=B.lt
 have hgl:=Nat.lt_of_lt_of_le hgl M0.out.size
 clear B
 refine (RT.out _ M0.out).mono ?_;rintro e' wa ⟨rfl,m_wa⟩;have M_wa:=Mod.trans' (show Mod _ w0 _ from by exact mods) m_wa;have c0:=(M_wa.cell (a:=⟨g,0,none⟩) hgl (by first | assumption | (simp;done))).trans c0;have q0:=(M_wa.cell (a:=⟨gk,0,none⟩) hk (by first | assumption | (simp;done))).trans q0;have q1:=(M_wa.cell (a:=⟨gk,1,none⟩) hk (by first | assumption | (simp;done))).trans q1;have hgl:=Nat.lt_of_lt_of_le hgl M_wa.size;have hk:=Nat.lt_of_lt_of_le hk M_wa.size
 have M1:=Lib.hid (M0.out.trans' M_wa)
 clear m_wa M_wa RT
 go_wp2_with fail
 go_ret
 exact ⟨by rw [←BA.out];rfl,M1.out⟩
theorem setHas4 (W g cap x:Nat) (hW:W < 2 ^ (2 ^ 4)) (hx:x < 16) (w:World) (c0:w.cell? ⟨g,0,none⟩=some (.int .u64 W)):
 Calls Tryz.prog 87 #[.agg #[.int .i64 (4:Nat),.slice (some ⟨g,0,none⟩) 1 cap],.int .i64 x] w fun e w'=>e=.returned (.bool (W.testBit x))∧Mod [] w w':=by
 have hgl:=World.block_lt_of_cell? w _ c0
 simp only at hgl
 have RT:Hid (∀W',Mod [] w W'→_):=fun W' m=>setRight_c 4 W g cap (by omega) hW W' ((m.cell (a:=⟨g,0,none⟩) hgl (by simp)).trans c0)
 have BA:=Lib.hid (bit_at W x (small64 (n:=4) (by omega) hW))
 clear hW
 obtain ⟨gk,hgk⟩:∃gk,w.heap.size=gk:=⟨_,rfl⟩
 have gn1:¬g=gk:=by omega
 have gn2:¬gk=g:=by omega
 have hx32:(x:Int) < 16:=by omega
 have hx0:(0:Int)≤x:=by omega
 have hxd:(x:Int) / 64=0:=by omega
 have hxm:(x:Int) % 64=x:=by omega
 clear hx
 go_enter Tryz.func87,Tryz.ntmps87
 go_wp2_with fail
 have B:=Blk.new' w #[.int .i64 4,.slice (some ⟨g,0,none⟩) 1 cap] 39 gk hgk.symm
 have M0:Hid (Mod [] w (w.alloc (.cells #[.int .i64 4,.slice (some ⟨g,0,none⟩) 1 cap] 39))):=by exact mods
 have c0:=(M0.out.cell (a:=⟨g,0,none⟩) hgl (by simp)).trans c0
 generalize w.alloc (.cells #[.int .i64 4,.slice (some ⟨g,0,none⟩) 1 cap] 39)=w0 at *
 obtain ⟨q0,q1⟩:=B.cells2
 have hk:=B.lt
 have hgl:=Nat.lt_of_lt_of_le hgl M0.out.size
 clear B
 refine (RT.out _ M0.out).mono ?_;rintro e' wa ⟨rfl,m_wa⟩;have M_wa:=Mod.trans' (show Mod _ w0 _ from by exact mods) m_wa;have c0:=(M_wa.cell (a:=⟨g,0,none⟩) hgl (by first | assumption | (simp;done))).trans c0;have q0:=(M_wa.cell (a:=⟨gk,0,none⟩) hk (by first | assumption | (simp;done))).trans q0;have q1:=(M_wa.cell (a:=⟨gk,1,none⟩) hk (by first | assumption | (simp;done))).trans q1;have hgl:=Nat.lt_of_lt_of_le hgl M_wa.size;have hk:=Nat.lt_of_lt_of_le hk M_wa.size
 have M1:=Lib.hid (M0.out.trans' M_wa)
 clear m_wa M_wa RT
 go_wp2_with fail
 go_ret
 exact ⟨by rw [←BA.out];rfl,M1.out⟩
theorem setHas5 (W g cap x:Nat) (hW:W < 2 ^ (2 ^ 5)) (hx:x < 32) (w:World) (c0:w.cell? ⟨g,0,none⟩=some (.int .u64 W)):
 Calls Tryz.prog 87 #[.agg #[.int .i64 (5:Nat),.slice (some ⟨g,0,none⟩) 1 cap],.int .i64 x] w fun e w'=>e=.returned (.bool (W.testBit x))∧Mod [] w w':=by
 have hgl:=World.block_lt_of_cell? w _ c0
 simp only at hgl
 have RT:Hid (∀W',Mod [] w W'→_):=fun W' m=>setRight_c 5 W g cap (by omega) hW W' ((m.cell (a:=⟨g,0,none⟩) hgl (by simp)).trans c0)
 have BA:=Lib.hid (bit_at W x (small64 (n:=5) (by omega) hW))
 clear hW
 obtain ⟨gk,hgk⟩:∃gk,w.heap.size=gk:=⟨_,rfl⟩
 have gn1:¬g=gk:=by omega
 have gn2:¬gk=g:=by omega
 have hx32:(x:Int) < 32:=by omega
 have hx0:(0:Int)≤x:=by omega
 have hxd:(x:Int) / 64=0:=by omega
 have hxm:(x:Int) % 64=x:=by omega
 clear hx
 go_enter Tryz.func87,Tryz.ntmps87
 go_wp2_with fail
 have B:=Blk.new' w #[.int .i64 5,.slice (some ⟨g,0,none⟩) 1 cap] 39 gk hgk.symm
 have M0:Hid (Mod [] w (w.alloc (.cells #[.int .i64 5,.slice (some ⟨g,0,none⟩) 1 cap] 39))):=by exact mods
 have c0:=(M0.out.cell (a:=⟨g,0,none⟩) hgl (by simp)).trans c0
 generalize w.alloc (.cells #[.int .i64 5,.slice (some ⟨g,0,none⟩) 1 cap] 39)=w0 at *
 obtain ⟨q0,q1⟩:=B.cells2
 have hk:=B.lt
 have hgl:=Nat.lt_of_lt_of_le hgl M0.out.size
 clear B
 refine (RT.out _ M0.out).mono ?_;rintro e' wa ⟨rfl,m_wa⟩;have M_wa:=Mod.trans' (show Mod _ w0 _ from by exact mods) m_wa;have c0:=(M_wa.cell (a:=⟨g,0,none⟩) hgl (by first | assumption | (simp;done))).trans c0;have q0:=(M_wa.cell (a:=⟨gk,0,none⟩) hk (by first | assumption | (simp;done))).trans q0;have q1:=(M_wa.cell (a:=⟨gk,1,none⟩) hk (by first | assumption | (simp;done))).trans q1;have hgl:=Nat.lt_of_lt_of_le hgl M_wa.size;have hk:=Nat.lt_of_lt_of_le hk M_wa.size
 have M1:=Lib.hid (M0.out.trans' M_wa)
 clear m_wa M_wa RT
 go_wp2_with fail
 go_ret
 exact ⟨by rw [←BA.out];rfl,M1.out⟩
theorem setHas_c (n W g cap x:Nat) (hn:n≤5) (hW:W < 2 ^ (2 ^ n)) (hx:x < 2 ^ n) (w:World) (c0:w.cell? ⟨g,0,none⟩=some (.int .u64 W)):
 Calls Tryz.prog 87 #[.agg #[.int .i64 n,.slice (some ⟨g,0,none⟩) 1 cap],.int .i64 x] w fun e w'=>e=.returned (.bool (W.testBit x))∧Mod [] w w':=by
 obtain rfl | rfl | rfl | rfl | rfl | rfl:n=0∨n=1∨n=2∨n=3∨n=4∨n=5:=by omega
 ·exact setHas0 W g cap x hW (by simpa using hx) w c0
 ·exact setHas1 W g cap x hW (by simpa using hx) w c0
 ·exact setHas2 W g cap x hW (by simpa using hx) w c0
 ·exact setHas3 W g cap x hW (by simpa using hx) w c0
 ·exact setHas4 W g cap x hW (by simpa using hx) w c0
 ·exact setHas5 W g cap x hW (by simpa using hx) w c0
end Go.Proofs.YtlafpknoiihaaaaGreatDoor
