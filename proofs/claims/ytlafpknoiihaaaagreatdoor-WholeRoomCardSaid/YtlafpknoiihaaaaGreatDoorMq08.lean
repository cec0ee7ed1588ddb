/- Mq08: Vw1 · Vw2 · Vw3 · Vw4 -/
import Derived.Test.YtlafpknoiihaaaaGreatDoorMq07
import Derived.Test.YtlafpknoiihaaaaGreatDoorMq06
set_option maxRecDepth 100000
set_option maxHeartbeats 2000000
set_option linter.unusedVariables false
set_option linter.unusedSimpArgs false
namespace Go.Proofs.YtlafpknoiihaaaaGreatDoor
open Go.RowKit
theorem bddView_c {w:World} {b n:Nat} {L:List Rc} {room:Nat} {F:List Nat} (h:IsSt w b n L room F) (hL:L.length≤100000) (hroom:L.length < room) (hrm:room≤1048576) (hn:n≤16) (hG:Good L n) (l:Nat) (hl:l < n) (e:Ed)
 (he:LeadsP L 1 e l n):
 Calls Tryz.prog 161 #[.pointer (some ⟨b,0,none⟩),edv e,.int .i64 l] w fun r w'=>r=.returned (.tuple #[edv (viewP L 1 l e).2.1,edv (viewP L 1 l e).2.2,.int .u8 0])∧∃F',IsSt w' b n (viewP L 1 l e).1 room F'∧Mod F w w'∧∀k∈F',k∈F∨w.heap.size≤k:=by
 have LE:Hid (∀W,Mod [] w W→_):=fun W m=>stLeads_c (h.mod m (by simp)) (by omega) hn 1 (by omega) (by omega) e l (by omega) he
 have hbF:=h.lt
 obtain ⟨ba,bi,Fa,c0,-,-,-⟩:=h.own
 have hbl:=World.block_lt_of_cell? w _ c0
 simp only at hbl
 have HS:=Lib.hid h
 have hl':(l:Int) < n:=by omega
 clear h
 obtain ⟨gk,hgk⟩:∃gk,w.heap.size=gk:=⟨_,rfl⟩
 have HLT:Hid (∀k∈F,k < gk):=fun k hk=>by have:=hbF k hk;omega
 have HE:=Lib.hid he
 have HG:=Lib.hid hG
 clear hbF he hG
 obtain ⟨et,ea⟩:=e
 unfold edv at *
 simp only at LE ⊢
 have gn1:¬b=gk:=by omega
 have gn2:¬gk=b:=by omega
 have gn3:¬b=gk+1:=by omega
 have gn4:¬gk+1=b:=by omega
 have gn5:¬b=gk+1+1:=by omega
 have gn6:¬gk+1+1=b:=by omega
 go_enter Tryz.func161,Tryz.ntmps161
 go_wp2_with fail
 have BE:=Blk.new' w #[.int .u8 et,.int .u32 ea] 66 gk hgk.symm
 have BL:=Blk.new' (w.alloc (.cells #[.int .u8 et,.int .u32 ea] 66)) #[.int .u8 0,.int .u32 0] 66 (gk+1) (by simp [hgk])
 have BH:=Blk.new' ((w.alloc (.cells #[.int .u8 et,.int .u32 ea] 66)).alloc (.cells #[.int .u8 0,.int .u32 0] 66)) #[.int .u8 0,.int .u32 0] 66 (gk+1+1) (by simp [hgk])
 replace BE:=(BE.alloc (.cells #[.int .u8 0,.int .u32 0] 66)).alloc (.cells #[.int .u8 0,.int .u32 0] 66)
 replace BL:=BL.alloc (.cells #[.int .u8 0,.int .u32 0] 66)
 have M0:Hid (Mod [] w (((w.alloc (.cells #[.int .u8 et,.int .u32 ea] 66)).alloc (.cells #[.int .u8 0,.int .u32 0] 66)).alloc (.cells #[.int .u8 0,.int .u32 0] 66))):=by exact mods
 have hsz:(((w.alloc (.cells #[.int .u8 et,.int .u32 ea] 66)).alloc (.cells #[.int .u8 0,.int .u32 0] 66)).alloc (.cells #[.int .u8 0,.int .u32 0] 66)).heap.size=gk+3:=by simp [hgk]
 have c0:=(M0.out.cell (a:=⟨b,0,none⟩) hbl (by simp)).trans c0
 generalize ((w.alloc (.cells #[.int .u8 et,.int .u32 ea] 66)).alloc (.cells #[.int .u8 0,.int .u32 0] 66)).alloc (.cells #[.int .u8 0,.int .u32 0] 66)=w0 at *
 have hb0:b < w0.heap.size:=by omega
 have hk0:gk < w0.heap.size:=by omega
 have hk1:gk+1 < w0.heap.size:=by omega
 have hk2:gk+1+1 < w0.heap.size:=by omega
 obtain ⟨q0,q1⟩:=BE.cells2
 replace BE:=Lib.hid BE
 replace BL:=Lib.hid BL
 replace BH:=Lib.hid BH
 refine (stVars_c b n _ c0).mono ?_
 rintro e w1 ⟨rfl,rfl⟩
 go_wp2_with fail
 refine (LE.out _ M0.out).mono ?_;rintro e' wa ⟨rfl,m_wa⟩;have M_wa:=Mod.trans' (show Mod _ w1 _ from by exact mods) m_wa;have c0:=(M_wa.cell (a:=⟨b,0,none⟩) hb0 (by first | assumption | (simp;done))).trans c0;have q0:=(M_wa.cell (a:=⟨gk,0,none⟩) hk0 (by first | assumption | (simp;done))).trans q0;have q1:=(M_wa.cell (a:=⟨gk,1,none⟩) hk0 (by first | assumption | (simp;done))).trans q1;have hb0:=Nat.lt_of_lt_of_le hb0 M_wa.size;have hk0:=Nat.lt_of_lt_of_le hk0 M_wa.size
 have M1:=Lib.hid (M0.out.trans' M_wa)
 replace BE:=Lib.hid (BE.out.mod M_wa (by simp))
 replace BL:=Lib.hid (BL.out.mod M_wa (by simp))
 replace BH:=Lib.hid (BH.out.mod M_wa (by simp))
 have hza:=M_wa.size
 clear m_wa M_wa M0 LE
 have hl16:(l:Int)≤16:=by omega
 have hF1:gk+1∉F:=fun h=>by have:=HLT.out _ h;omega
 have hF2:gk+1+1∉F:=fun h=>by have:=HLT.out _ h;omega
 have het:(et:Int)≤16:=by
  have hp:=HE.out.plain
  by_cases h:ea=0
  ·have:=hp.1 (.inr h);simp only at this;omega
  ·by_cases h5:1=5
   ·have:=hp.2 h5 h;simp only at this;omega
   ·have:=hp.1 (.inl h5);simp only at this;omega
 have hea:ea≤4294967295:=by
  rcases HE.out.at_ with h0 | ⟨r,hr,-⟩
  ·simp only at h0;omega
  ·have:=recAt_lt hr;simp only at this;omega
 cases hr:recAt L ea with
 | none=>
  have hv:=Lib.hid (show viewP L 1 l ⟨et,ea⟩=(L,(⟨et,ea⟩,⟨et,ea⟩)) by unfold viewP;rw [if_neg (by simp)];simp only [hr];unfold pastV;simp)
  have GT:Hid (∀W,Mod [] w W→_):=fun W m=>stGet_none (HS.out.mod m (by simp)) (by omega) ea hea hr
  unfold rcv rc0 at GT
  simp only at GT
  try rw [show ((0:Nat):Int)=0 from rfl] at GT
  go_wp2_with fail
  refine (GT.out _ M1.out).mono ?_
  rintro e w2 ⟨rfl,m2⟩
  obtain ⟨gr,hgr⟩:∃gr,w2.heap.size=gr:=⟨_,rfl⟩
  have BQ:=Blk.new' w2 #[.int .u8 0,.int .u8 0,.int .u8 0,.int .u8 0,.int .u32 0,.int .u8 0,.int .u32 0] 108 gr hgr.symm
  have MX:=m2.alloc (.cells #[.int .u8 0,.int .u8 0,.int .u8 0,.int .u8 0,.int .u32 0,.int .u8 0,.int .u32 0] 108)
  have hzx:=m2.size
  replace M1:=Lib.hid (M1.out.trans' MX)
  replace BE:=BE.out.mod MX (by simp)
  replace BL:=Lib.hid (BL.out.mod MX (by simp))
  replace BH:=Lib.hid (BH.out.mod MX (by simp))
  obtain ⟨q0,q1⟩:=BE.cells2
  obtain ⟨r0,r1,r2,r3,r4,r5,r6⟩:=BQ.cells7
  have hrl:=BQ.lt
  have hel:=BE.lt
  have hll:=BL.out.lt
  have hhl:=BH.out.lt
  have gr1:¬gr=gk:=by omega
  have gr2:¬gk=gr:=by omega
  have gr3:¬gr=gk+1:=by omega
  have gr4:¬gk+1=gr:=by omega
  have gr5:¬gr=gk+1+1:=by omega
  have gr6:¬gk+1+1=gr:=by omega
  have M:=M1
  replace BE:=Lib.hid BE
  clear MX m2 GT M1
  replace BQ:=Lib.hid BQ
  obtain ⟨e0,e1⟩:=BL.out.cells2
  obtain ⟨e2,e3⟩:=BH.out.cells2
  obtain ⟨f0,f1,-⟩:=BL.out.frozs
  obtain ⟨f2,f3,-⟩:=BH.out.frozs
  go_wp2_with fail
  generalize w2.alloc (.cells #[.int .u8 0,.int .u8 0,.int .u8 0,.int .u8 0,.int .u32 0,.int .u8 0,.int .u32 0] 108)=w3 at *
  go_region
  replace BL:=Lib.hid BL.out.drew
  replace BH:=Lib.hid BH.out.drew
  replace M:=Lib.hid (M.out.drew)
  have MS1:=set2_mod (Mod.refl [gk+1] w3.drew) (gk+1) ⟨et,ea⟩ (fun _=>by simp)
  have BX:=set2_blk BL.out ⟨et,ea⟩
  have BY:=set2_blk (BH.out.mod MS1 (by simp)) ⟨et,ea⟩
  have MS2:=set2_mod (Mod.refl [gk+1+1] (set2 w3.drew (gk+1) ⟨et,ea⟩)) (gk+1+1) ⟨et,ea⟩ (fun _=>by simp)
  replace BX:=BX.mod MS2 (by simp)
  have MS:=Lib.hid ((MS1.mono (S':=[gk+1,gk+1+1]) (by intro k _ h;simp at h;simp [h])).trans MS2 (by intro k _ h;simp at h;simp [h]))
  change Exit.then _ _ _ _ (set2 (set2 w3.drew (gk+1) ⟨et,ea⟩) (gk+1+1) ⟨et,ea⟩)
  generalize set2 (set2 w3.drew (gk+1) ⟨et,ea⟩) (gk+1+1) ⟨et,ea⟩=X at *
  obtain ⟨g0,g1⟩:=BX.cells2
  obtain ⟨g2,g3⟩:=BY.cells2
  clear e0 e1 e2 e3 f0 f1 f2 f3 BX BY MS1 MS2
  simp only at g0 g1 g2 g3
  go_wp2_with fail
  refine bodyPost_ret (by simp [results,Tryz.results161,g0,g1,g2,g3,go_sem];try rfl) rfl ?_
  rw [hv.out]
  exact ⟨rfl,F,(HS.out.mod M.out (by simp)).mod MS.out (fun k hk=>by simp;exact ⟨fun h=>hF1 (h▸hk),fun h=>hF2 (h▸hk)⟩),(M.out.mono (by intro k _ h;simp at h)).trans MS.out (by intro k h h2;simp at h2;omega),fun k hk=>.inl hk⟩
 | some r=>
  have GT:Hid (∀W,Mod [] w W→_):=fun W m=>stGet_live (HS.out.mod m (by simp)) (by omega) ea r hr
  have hg:=HG.out ea r hr
  obtain ⟨hrf,hrl,htg,h16⟩:=HE.out.node hr
  have h16':(r.top:Int)≤16:=by omega
  have hb15:(r.bot:Int)≤16:=by have:=hg.right.bn;omega
  have hq1:(r.lo.t:Int)≤255:=by
   have:=hg.right.lo;have:=hg.right.bn
   by_cases h:r.f≠5∨r.lo.a=0
   ·have:=hg.right.lo.1 h;omega
   ·have:=hg.right.lo.2 (by omega) (by omega);omega
  have hq2:(r.hi.t:Int)≤255:=by
   have:=hg.right.hi;have:=hg.right.bn
   by_cases h:r.f≠5∨r.hi.a=0
   ·have:=hg.right.hi.1 h;omega
   ·have:=hg.right.hi.2 (by omega) (by omega);omega
  by_cases hlt:l < r.top
  ·have hv:=Lib.hid (show viewP L 1 l ⟨et,ea⟩=(L,(⟨et,ea⟩,⟨et,ea⟩)) by unfold viewP;rw [if_neg (by simp)];simp only [hr,if_pos hlt];unfold pastV;simp)
   have hlt1:decide ((l:Int) < r.top)=true:=by simp;omega
   clear hg hr
   obtain ⟨qf,qt,qb,⟨qlt,qla⟩,⟨qht,qha⟩⟩:=r
   unfold rcv at GT
   clear hrf hrl htg h16
   simp only at GT h16' hb15 hq1 hq2 hlt hlt1 hv
   go_wp2_with fail
   refine (GT.out _ M1.out).mono ?_
   rintro e w2 ⟨rfl,m2⟩
   obtain ⟨gr,hgr⟩:∃gr,w2.heap.size=gr:=⟨_,rfl⟩
   have BQ:=Blk.new' w2 #[.int .u8 qf,.int .u8 qt,.int .u8 qb,.int .u8 qlt,.int .u32 qla,.int .u8 qht,.int .u32 qha] 108 gr hgr.symm
   have MX:=m2.alloc (.cells #[.int .u8 qf,.int .u8 qt,.int .u8 qb,.int .u8 qlt,.int .u32 qla,.int .u8 qht,.int .u32 qha] 108)
   have hzx:=m2.size
   replace M1:=Lib.hid (M1.out.trans' MX)
   replace BE:=BE.out.mod MX (by simp)
   replace BL:=Lib.hid (BL.out.mod MX (by simp))
   replace BH:=Lib.hid (BH.out.mod MX (by simp))
   obtain ⟨q0,q1⟩:=BE.cells2
   obtain ⟨r0,r1,r2,r3,r4,r5,r6⟩:=BQ.cells7
   have hrl:=BQ.lt
   have hel:=BE.lt
   have hll:=BL.out.lt
   have hhl:=BH.out.lt
   have gr1:¬gr=gk:=by omega
   have gr2:¬gk=gr:=by omega
   have gr3:¬gr=gk+1:=by omega
   have gr4:¬gk+1=gr:=by omega
   have gr5:¬gr=gk+1+1:=by omega
   have gr6:¬gk+1+1=gr:=by omega
   have M:=M1
   replace BE:=Lib.hid BE
   clear MX m2 GT M1
   replace BQ:=Lib.hid BQ
   obtain ⟨e0,e1⟩:=BL.out.cells2
   obtain ⟨e2,e3⟩:=BH.out.cells2
   obtain ⟨f0,f1,-⟩:=BL.out.frozs
   obtain ⟨f2,f3,-⟩:=BH.out.frozs
   go_wp2_with fail
   generalize w2.alloc (.cells #[.int .u8 qf,.int .u8 qt,.int .u8 qb,.int .u8 qlt,.int .u32 qla,.int .u8 qht,.int .u32 qha] 108)=w3 at *
   go_region
   replace BL:=Lib.hid BL.out.drew
   replace BH:=Lib.hid BH.out.drew
   replace M:=Lib.hid (M.out.drew)
   have MS1:=set2_mod (Mod.refl [gk+1] w3.drew) (gk+1) ⟨et,ea⟩ (fun _=>by simp)
   have BX:=set2_blk BL.out ⟨et,ea⟩
   have BY:=set2_blk (BH.out.mod MS1 (by simp)) ⟨et,ea⟩
   have MS2:=set2_mod (Mod.refl [gk+1+1] (set2 w3.drew (gk+1) ⟨et,ea⟩)) (gk+1+1) ⟨et,ea⟩ (fun _=>by simp)
   replace BX:=BX.mod MS2 (by simp)
   have MS:=Lib.hid ((MS1.mono (S':=[gk+1,gk+1+1]) (by intro k _ h;simp at h;simp [h])).trans MS2 (by intro k _ h;simp at h;simp [h]))
   change Exit.then _ _ _ _ (set2 (set2 w3.drew (gk+1) ⟨et,ea⟩) (gk+1+1) ⟨et,ea⟩)
   generalize set2 (set2 w3.drew (gk+1) ⟨et,ea⟩) (gk+1+1) ⟨et,ea⟩=X at *
   obtain ⟨g0,g1⟩:=BX.cells2
   obtain ⟨g2,g3⟩:=BY.cells2
   clear e0 e1 e2 e3 f0 f1 f2 f3 BX BY MS1 MS2
   simp only at g0 g1 g2 g3
   go_wp2_with fail
   refine bodyPost_ret (by simp [results,Tryz.results161,g0,g1,g2,g3,go_sem];try rfl) rfl ?_
   rw [hv.out]
   exact ⟨rfl,F,(HS.out.mod M.out (by simp)).mod MS.out (fun k hk=>by simp;exact ⟨fun h=>hF1 (h▸hk),fun h=>hF2 (h▸hk)⟩),(M.out.mono (by intro k _ h;simp at h)).trans MS.out (by intro k h h2;simp at h2;omega),fun k hk=>.inl hk⟩
  ·have htb:r.top=r.bot:=by rcases hg.right.ch with h | h | h<;>omega
   have hv:=Lib.hid (show viewP L 1 l ⟨et,ea⟩=(L,(r.lo,r.hi)) by unfold viewP;rw [if_neg (by simp)];simp only [hr,if_neg hlt,if_pos htb])
   have hlt1:decide ((l:Int) < r.top)=false:=by simp;omega
   clear hg hr
   obtain ⟨qf,qt,qb,⟨qlt,qla⟩,⟨qht,qha⟩⟩:=r
   unfold rcv at GT
   clear hrf hrl htg h16 htb
   simp only at GT h16' hb15 hq1 hq2 hlt hlt1 hv
   go_wp2_with fail
   refine (GT.out _ M1.out).mono ?_
   rintro e w2 ⟨rfl,m2⟩
   obtain ⟨gr,hgr⟩:∃gr,w2.heap.size=gr:=⟨_,rfl⟩
   have BQ:=Blk.new' w2 #[.int .u8 qf,.int .u8 qt,.int .u8 qb,.int .u8 qlt,.int .u32 qla,.int .u8 qht,.int .u32 qha] 108 gr hgr.symm
   have MX:=m2.alloc (.cells #[.int .u8 qf,.int .u8 qt,.int .u8 qb,.int .u8 qlt,.int .u32 qla,.int .u8 qht,.int .u32 qha] 108)
   have hzx:=m2.size
   replace M1:=Lib.hid (M1.out.trans' MX)
   replace BE:=BE.out.mod MX (by simp)
   replace BL:=Lib.hid (BL.out.mod MX (by simp))
   replace BH:=Lib.hid (BH.out.mod MX (by simp))
   obtain ⟨q0,q1⟩:=BE.cells2
   obtain ⟨r0,r1,r2,r3,r4,r5,r6⟩:=BQ.cells7
   have hrl:=BQ.lt
   have hel:=BE.lt
   have hll:=BL.out.lt
   have hhl:=BH.out.lt
   have gr1:¬gr=gk:=by omega
   have gr2:¬gk=gr:=by omega
   have gr3:¬gr=gk+1:=by omega
   have gr4:¬gk+1=gr:=by omega
   have gr5:¬gr=gk+1+1:=by omega
   have gr6:¬gk+1+1=gr:=by omega
   have M:=M1
   replace BE:=Lib.hid BE
   clear MX m2 GT M1
   replace BQ:=Lib.hid BQ
   obtain ⟨e0,e1⟩:=BL.out.cells2
   obtain ⟨e2,e3⟩:=BH.out.cells2
   obtain ⟨f0,f1,-⟩:=BL.out.frozs
   obtain ⟨f2,f3,-⟩:=BH.out.frozs
   go_wp2_with fail
   generalize w2.alloc (.cells #[.int .u8 qf,.int .u8 qt,.int .u8 qb,.int .u8 qlt,.int .u32 qla,.int .u8 qht,.int .u32 qha] 108)=w3 at *
   go_region
   replace BL:=Lib.hid BL.out.drew
   replace BH:=Lib.hid BH.out.drew
   replace M:=Lib.hid (M.out.drew)
   have MS1:=set2_mod (Mod.refl [gk+1] w3.drew) (gk+1) ⟨qlt,qla⟩ (fun _=>by simp)
   have BX:=set2_blk BL.out ⟨qlt,qla⟩
   have BY:=set2_blk (BH.out.mod MS1 (by simp)) ⟨qht,qha⟩
   have MS2:=set2_mod (Mod.refl [gk+1+1] (set2 w3.drew (gk+1) ⟨qlt,qla⟩)) (gk+1+1) ⟨qht,qha⟩ (fun _=>by simp)
   replace BX:=BX.mod MS2 (by simp)
   have MS:=Lib.hid ((MS1.mono (S':=[gk+1,gk+1+1]) (by intro k _ h;simp at h;simp [h])).trans MS2 (by intro k _ h;simp at h;simp [h]))
   change Exit.then _ _ _ _ (set2 (set2 w3.drew (gk+1) ⟨qlt,qla⟩) (gk+1+1) ⟨qht,qha⟩)
   generalize set2 (set2 w3.drew (gk+1) ⟨qlt,qla⟩) (gk+1+1) ⟨qht,qha⟩=X at *
   obtain ⟨g0,g1⟩:=BX.cells2
   obtain ⟨g2,g3⟩:=BY.cells2
   clear e0 e1 e2 e3 f0 f1 f2 f3 BX BY MS1 MS2
   simp only at g0 g1 g2 g3
   go_wp2_with fail
   refine bodyPost_ret (by simp [results,Tryz.results161,g0,g1,g2,g3,go_sem];try rfl) rfl ?_
   rw [hv.out]
   exact ⟨rfl,F,(HS.out.mod M.out (by simp)).mod MS.out (fun k hk=>by simp;exact ⟨fun h=>hF1 (h▸hk),fun h=>hF2 (h▸hk)⟩),(M.out.mono (by intro k _ h;simp at h)).trans MS.out (by intro k h h2;simp at h2;omega),fun k hk=>.inl hk⟩
open Go.RowKit
theorem zddView_c {w:World} {b n:Nat} {L:List Rc} {room:Nat} {F:List Nat} (h:IsSt w b n L room F) (hL:L.length≤100000) (hroom:L.length < room) (hrm:room≤1048576) (hn:n≤16) (hG:Good L n) (l:Nat) (hl:l < n) (e:Ed)
 (he:LeadsP L 2 e l n):
 Calls Tryz.prog 162 #[.pointer (some ⟨b,0,none⟩),edv e,.int .i64 l] w fun r w'=>r=.returned (.tuple #[edv (viewP L 2 l e).2.1,edv (viewP L 2 l e).2.2,.int .u8 0])∧∃F',IsSt w' b n (viewP L 2 l e).1 room F'∧Mod F w w'∧∀k∈F',k∈F∨w.heap.size≤k:=by
 have LE:Hid (∀W,Mod [] w W→_):=fun W m=>stLeads_c (h.mod m (by simp)) (by omega) hn 2 (by omega) (by omega) e l (by omega) he
 have hbF:=h.lt
 obtain ⟨ba,bi,Fa,c0,-,-,-⟩:=h.own
 have hbl:=World.block_lt_of_cell? w _ c0
 simp only at hbl
 have HS:=Lib.hid h
 have hl':(l:Int) < n:=by omega
 clear h
 obtain ⟨gk,hgk⟩:∃gk,w.heap.size=gk:=⟨_,rfl⟩
 have HLT:Hid (∀k∈F,k < gk):=fun k hk=>by have:=hbF k hk;omega
 have HE:=Lib.hid he
 have HG:=Lib.hid hG
 clear hbF he hG
 obtain ⟨et,ea⟩:=e
 unfold edv at *
 simp only at LE ⊢
 have gn1:¬b=gk:=by omega
 have gn2:¬gk=b:=by omega
 have gn3:¬b=gk+1:=by omega
 have gn4:¬gk+1=b:=by omega
 have gn5:¬b=gk+1+1:=by omega
 have gn6:¬gk+1+1=b:=by omega
 go_enter Tryz.func162,Tryz.ntmps162
 go_wp2_with fail
 have BE:=Blk.new' w #[.int .u8 et,.int .u32 ea] 66 gk hgk.symm
 have BL:=Blk.new' (w.alloc (.cells #[.int .u8 et,.int .u32 ea] 66)) #[.int .u8 0,.int .u32 0] 66 (gk+1) (by simp [hgk])
 have BH:=Blk.new' ((w.alloc (.cells #[.int .u8 et,.int .u32 ea] 66)).alloc (.cells #[.int .u8 0,.int .u32 0] 66)) #[.int .u8 0,.int .u32 0] 66 (gk+1+1) (by simp [hgk])
 replace BE:=(BE.alloc (.cells #[.int .u8 0,.int .u32 0] 66)).alloc (.cells #[.int .u8 0,.int .u32 0] 66)
 replace BL:=BL.alloc (.cells #[.int .u8 0,.int .u32 0] 66)
 have M0:Hid (Mod [] w (((w.alloc (.cells #[.int .u8 et,.int .u32 ea] 66)).alloc (.cells #[.int .u8 0,.int .u32 0] 66)).alloc (.cells #[.int .u8 0,.int .u32 0] 66))):=by exact mods
 have hsz:(((w.alloc (.cells #[.int .u8 et,.int .u32 ea] 66)).alloc (.cells #[.int .u8 0,.int .u32 0] 66)).alloc (.cells #[.int .u8 0,.int .u32 0] 66)).heap.size=gk+3:=by simp [hgk]
 have c0:=(M0.out.cell (a:=⟨b,0,none⟩) hbl (by simp)).trans c0
 generalize ((w.alloc (.cells #[.int .u8 et,.int .u32 ea] 66)).alloc (.cells #[.int .u8 0,.int .u32 0] 66)).alloc (.cells #[.int .u8 0,.int .u32 0] 66)=w0 at *
 have hb0:b < w0.heap.size:=by omega
 have hk0:gk < w0.heap.size:=by omega
 have hk1:gk+1 < w0.heap.size:=by omega
 have hk2:gk+1+1 < w0.heap.size:=by omega
 obtain ⟨q0,q1⟩:=BE.cells2
 replace BE:=Lib.hid BE
 replace BL:=Lib.hid BL
 replace BH:=Lib.hid BH
 refine (stVars_c b n _ c0).mono ?_
 rintro e w1 ⟨rfl,rfl⟩
 go_wp2_with fail
 refine (LE.out _ M0.out).mono ?_;rintro e' wa ⟨rfl,m_wa⟩;have M_wa:=Mod.trans' (show Mod _ w1 _ from by exact mods) m_wa;have c0:=(M_wa.cell (a:=⟨b,0,none⟩) hb0 (by first | assumption | (simp;done))).trans c0;have q0:=(M_wa.cell (a:=⟨gk,0,none⟩) hk0 (by first | assumption | (simp;done))).trans q0;have q1:=(M_wa.cell (a:=⟨gk,1,none⟩) hk0 (by first | assumption | (simp;done))).trans q1;have hb0:=Nat.lt_of_lt_of_le hb0 M_wa.size;have hk0:=Nat.lt_of_lt_of_le hk0 M_wa.size
 have M1:=Lib.hid (M0.out.trans' M_wa)
 replace BE:=Lib.hid (BE.out.mod M_wa (by simp))
 replace BL:=Lib.hid (BL.out.mod M_wa (by simp))
 replace BH:=Lib.hid (BH.out.mod M_wa (by simp))
 have hza:=M_wa.size
 clear m_wa M_wa M0 LE
 have hl16:(l:Int)≤16:=by omega
 have hF1:gk+1∉F:=fun h=>by have:=HLT.out _ h;omega
 have hF2:gk+1+1∉F:=fun h=>by have:=HLT.out _ h;omega
 have het:(et:Int)≤16:=by
  have hp:=HE.out.plain
  by_cases h:ea=0
  ·have:=hp.1 (.inr h);simp only at this;omega
  ·by_cases h5:2=5
   ·have:=hp.2 h5 h;simp only at this;omega
   ·have:=hp.1 (.inl h5);simp only at this;omega
 have hea:ea≤4294967295:=by
  rcases HE.out.at_ with h0 | ⟨r,hr,-⟩
  ·simp only at h0;omega
  ·have:=recAt_lt hr;simp only at this;omega
 cases hr:recAt L ea with
 | none=>
  have hv:=Lib.hid (show viewP L 2 l ⟨et,ea⟩=(L,(⟨et,ea⟩,⟨0,0⟩)) by unfold viewP;rw [if_neg (by simp)];simp only [hr];unfold pastV;simp)
  have GT:Hid (∀W,Mod [] w W→_):=fun W m=>stGet_none (HS.out.mod m (by simp)) (by omega) ea hea hr
  unfold rcv rc0 at GT
  simp only at GT
  try rw [show ((0:Nat):Int)=0 from rfl] at GT
  go_wp2_with fail
  refine (GT.out _ M1.out).mono ?_
  rintro e w2 ⟨rfl,m2⟩
  obtain ⟨gr,hgr⟩:∃gr,w2.heap.size=gr:=⟨_,rfl⟩
  have BQ:=Blk.new' w2 #[.int .u8 0,.int .u8 0,.int .u8 0,.int .u8 0,.int .u32 0,.int .u8 0,.int .u32 0] 108 gr hgr.symm
  have MX:=m2.alloc (.cells #[.int .u8 0,.int .u8 0,.int .u8 0,.int .u8 0,.int .u32 0,.int .u8 0,.int .u32 0] 108)
  have hzx:=m2.size
  replace M1:=Lib.hid (M1.out.trans' MX)
  replace BE:=BE.out.mod MX (by simp)
  replace BL:=Lib.hid (BL.out.mod MX (by simp))
  replace BH:=Lib.hid (BH.out.mod MX (by simp))
  obtain ⟨q0,q1⟩:=BE.cells2
  obtain ⟨r0,r1,r2,r3,r4,r5,r6⟩:=BQ.cells7
  have hrl:=BQ.lt
  have hel:=BE.lt
  have hll:=BL.out.lt
  have hhl:=BH.out.lt
  have gr1:¬gr=gk:=by omega
  have gr2:¬gk=gr:=by omega
  have gr3:¬gr=gk+1:=by omega
  have gr4:¬gk+1=gr:=by omega
  have gr5:¬gr=gk+1+1:=by omega
  have gr6:¬gk+1+1=gr:=by omega
  have M:=M1
  replace BE:=Lib.hid BE
  clear MX m2 GT M1
  replace BQ:=Lib.hid BQ
  obtain ⟨e0,e1⟩:=BL.out.cells2
  obtain ⟨e2,e3⟩:=BH.out.cells2
  obtain ⟨f0,f1,-⟩:=BL.out.frozs
  obtain ⟨f2,f3,-⟩:=BH.out.frozs
  go_wp2_with fail
  generalize w2.alloc (.cells #[.int .u8 0,.int .u8 0,.int .u8 0,.int .u8 0,.int .u32 0,.int .u8 0,.int .u32 0] 108)=w3 at *
  have MS1:=set2_mod (Mod.refl [gk+1] w3) (gk+1) ⟨et,ea⟩ (fun _=>by simp)
  have BX:=set2_blk BL.out ⟨et,ea⟩
  have BY:=set2_blk (BH.out.mod MS1 (by simp)) ⟨0,0⟩
  have MS2:=set2_mod (Mod.refl [gk+1+1] (set2 w3 (gk+1) ⟨et,ea⟩)) (gk+1+1) ⟨0,0⟩ (fun _=>by simp)
  replace BX:=BX.mod MS2 (by simp)
  have MS:=Lib.hid ((MS1.mono (S':=[gk+1,gk+1+1]) (by intro k _ h;simp at h;simp [h])).trans MS2 (by intro k _ h;simp at h;simp [h]))
  change bodyPost _ _ _ _ _ (set2 (set2 w3 (gk+1) ⟨et,ea⟩) (gk+1+1) ⟨0,0⟩)
  generalize set2 (set2 w3 (gk+1) ⟨et,ea⟩) (gk+1+1) ⟨0,0⟩=X at *
  obtain ⟨g0,g1⟩:=BX.cells2
  obtain ⟨g2,g3⟩:=BY.cells2
  clear e0 e1 e2 e3 f0 f1 f2 f3 BX BY MS1 MS2
  simp only at g0 g1 g2 g3
  refine bodyPost_ret (by simp [results,Tryz.results162,g0,g1,g2,g3,go_sem];try rfl) rfl ?_
  rw [hv.out]
  exact ⟨rfl,F,(HS.out.mod M.out (by simp)).mod MS.out (fun k hk=>by simp;exact ⟨fun h=>hF1 (h▸hk),fun h=>hF2 (h▸hk)⟩),(M.out.mono (by intro k _ h;simp at h)).trans MS.out (by intro k h h2;simp at h2;omega),fun k hk=>.inl hk⟩
 | some r=>
  have GT:Hid (∀W,Mod [] w W→_):=fun W m=>stGet_live (HS.out.mod m (by simp)) (by omega) ea r hr
  have hg:=HG.out ea r hr
  obtain ⟨hrf,hrl,htg,h16⟩:=HE.out.node hr
  have h16':(r.top:Int)≤16:=by omega
  have hb15:(r.bot:Int)≤16:=by have:=hg.right.bn;omega
  have hq1:(r.lo.t:Int)≤255:=by
   have:=hg.right.lo;have:=hg.right.bn
   by_cases h:r.f≠5∨r.lo.a=0
   ·have:=hg.right.lo.1 h;omega
   ·have:=hg.right.lo.2 (by omega) (by omega);omega
  have hq2:(r.hi.t:Int)≤255:=by
   have:=hg.right.hi;have:=hg.right.bn
   by_cases h:r.f≠5∨r.hi.a=0
   ·have:=hg.right.hi.1 h;omega
   ·have:=hg.right.hi.2 (by omega) (by omega);omega
  by_cases hlt:l < r.top
  ·have hv:=Lib.hid (show viewP L 2 l ⟨et,ea⟩=(L,(⟨et,ea⟩,⟨0,0⟩)) by unfold viewP;rw [if_neg (by simp)];simp only [hr,if_pos hlt];unfold pastV;simp)
   have hlt1:decide ((l:Int) < r.top)=true:=by simp;omega
   clear hg hr
   obtain ⟨qf,qt,qb,⟨qlt,qla⟩,⟨qht,qha⟩⟩:=r
   unfold rcv at GT
   clear hrf hrl htg h16
   simp only at GT h16' hb15 hq1 hq2 hlt hlt1 hv
   go_wp2_with fail
   refine (GT.out _ M1.out).mono ?_
   rintro e w2 ⟨rfl,m2⟩
   obtain ⟨gr,hgr⟩:∃gr,w2.heap.size=gr:=⟨_,rfl⟩
   have BQ:=Blk.new' w2 #[.int .u8 qf,.int .u8 qt,.int .u8 qb,.int .u8 qlt,.int .u32 qla,.int .u8 qht,.int .u32 qha] 108 gr hgr.symm
   have MX:=m2.alloc (.cells #[.int .u8 qf,.int .u8 qt,.int .u8 qb,.int .u8 qlt,.int .u32 qla,.int .u8 qht,.int .u32 qha] 108)
   have hzx:=m2.size
   replace M1:=Lib.hid (M1.out.trans' MX)
   replace BE:=BE.out.mod MX (by simp)
   replace BL:=Lib.hid (BL.out.mod MX (by simp))
   replace BH:=Lib.hid (BH.out.mod MX (by simp))
   obtain ⟨q0,q1⟩:=BE.cells2
   obtain ⟨r0,r1,r2,r3,r4,r5,r6⟩:=BQ.cells7
   have hrl:=BQ.lt
   have hel:=BE.lt
   have hll:=BL.out.lt
   have hhl:=BH.out.lt
   have gr1:¬gr=gk:=by omega
   have gr2:¬gk=gr:=by omega
   have gr3:¬gr=gk+1:=by omega
   have gr4:¬gk+1=gr:=by omega
   have gr5:¬gr=gk+1+1:=by omega
   have gr6:¬gk+1+1=gr:=by omega
   have M:=M1
   replace BE:=Lib.hid BE
   clear MX m2 GT M1
   replace BQ:=Lib.hid BQ
   obtain ⟨e0,e1⟩:=BL.out.cells2
   obtain ⟨e2,e3⟩:=BH.out.cells2
   obtain ⟨f0,f1,-⟩:=BL.out.frozs
   obtain ⟨f2,f3,-⟩:=BH.out.frozs
   go_wp2_with fail
   generalize w2.alloc (.cells #[.int .u8 qf,.int .u8 qt,.int .u8 qb,.int .u8 qlt,.int .u32 qla,.int .u8 qht,.int .u32 qha] 108)=w3 at *
   have MS1:=set2_mod (Mod.refl [gk+1] w3) (gk+1) ⟨et,ea⟩ (fun _=>by simp)
   have BX:=set2_blk BL.out ⟨et,ea⟩
   have BY:=set2_blk (BH.out.mod MS1 (by simp)) ⟨0,0⟩
   have MS2:=set2_mod (Mod.refl [gk+1+1] (set2 w3 (gk+1) ⟨et,ea⟩)) (gk+1+1) ⟨0,0⟩ (fun _=>by simp)
   replace BX:=BX.mod MS2 (by simp)
   have MS:=Lib.hid ((MS1.mono (S':=[gk+1,gk+1+1]) (by intro k _ h;simp at h;simp [h])).trans MS2 (by intro k _ h;simp at h;simp [h]))
   change bodyPost _ _ _ _ _ (set2 (set2 w3 (gk+1) ⟨et,ea⟩) (gk+1+1) ⟨0,0⟩)
   generalize set2 (set2 w3 (gk+1) ⟨et,ea⟩) (gk+1+1) ⟨0,0⟩=X at *
   obtain ⟨g0,g1⟩:=BX.cells2
   obtain ⟨g2,g3⟩:=BY.cells2
   clear e0 e1 e2 e3 f0 f1 f2 f3 BX BY MS1 MS2
   simp only at g0 g1 g2 g3
   refine bodyPost_ret (by simp [results,Tryz.results162,g0,g1,g2,g3,go_sem];try rfl) rfl ?_
   rw [hv.out]
   exact ⟨rfl,F,(HS.out.mod M.out (by simp)).mod MS.out (fun k hk=>by simp;exact ⟨fun h=>hF1 (h▸hk),fun h=>hF2 (h▸hk)⟩),(M.out.mono (by intro k _ h;simp at h)).trans MS.out (by intro k h h2;simp at h2;omega),fun k hk=>.inl hk⟩
  ·have htb:r.top=r.bot:=by rcases hg.right.ch with h | h | h<;>omega
   have hv:=Lib.hid (show viewP L 2 l ⟨et,ea⟩=(L,(r.lo,r.hi)) by unfold viewP;rw [if_neg (by simp)];simp only [hr,if_neg hlt,if_pos htb])
   have hlt1:decide ((l:Int) < r.top)=false:=by simp;omega
   clear hg hr
   obtain ⟨qf,qt,qb,⟨qlt,qla⟩,⟨qht,qha⟩⟩:=r
   unfold rcv at GT
   clear hrf hrl htg h16 htb
   simp only at GT h16' hb15 hq1 hq2 hlt hlt1 hv
   go_wp2_with fail
   refine (GT.out _ M1.out).mono ?_
   rintro e w2 ⟨rfl,m2⟩
   obtain ⟨gr,hgr⟩:∃gr,w2.heap.size=gr:=⟨_,rfl⟩
   have BQ:=Blk.new' w2 #[.int .u8 qf,.int .u8 qt,.int .u8 qb,.int .u8 qlt,.int .u32 qla,.int .u8 qht,.int .u32 qha] 108 gr hgr.symm
   have MX:=m2.alloc (.cells #[.int .u8 qf,.int .u8 qt,.int .u8 qb,.int .u8 qlt,.int .u32 qla,.int .u8 qht,.int .u32 qha] 108)
   have hzx:=m2.size
   replace M1:=Lib.hid (M1.out.trans' MX)
   replace BE:=BE.out.mod MX (by simp)
   replace BL:=Lib.hid (BL.out.mod MX (by simp))
   replace BH:=Lib.hid (BH.out.mod MX (by simp))
   obtain ⟨q0,q1⟩:=BE.cells2
   obtain ⟨r0,r1,r2,r3,r4,r5,r6⟩:=BQ.cells7
   have hrl:=BQ.lt
   have hel:=BE.lt
   have hll:=BL.out.lt
   have hhl:=BH.out.lt
   have gr1:¬gr=gk:=by omega
   have gr2:¬gk=gr:=by omega
   have gr3:¬gr=gk+1:=by omega
   have gr4:¬gk+1=gr:=by omega
   have gr5:¬gr=gk+1+1:=by omega
   have gr6:¬gk+1+1=gr:=by omega
   have M:=M1
   replace BE:=Lib.hid BE
   clear MX m2 GT M1
   replace BQ:=Lib.hid BQ
   obtain ⟨e0,e1⟩:=BL.out.cells2
   obtain ⟨e2,e3⟩:=BH.out.cells2
   obtain ⟨f0,f1,-⟩:=BL.out.frozs
   obtain ⟨f2,f3,-⟩:=BH.out.frozs
   go_wp2_with fail
   generalize w2.alloc (.cells #[.int .u8 qf,.int .u8 qt,.int .u8 qb,.int .u8 qlt,.int .u32 qla,.int .u8 qht,.int .u32 qha] 108)=w3 at *
   go_region
   replace BL:=Lib.hid BL.out.drew
   replace BH:=Lib.hid BH.out.drew
   replace M:=Lib.hid (M.out.drew)
   have MS1:=set2_mod (Mod.refl [gk+1] w3.drew) (gk+1) ⟨qlt,qla⟩ (fun _=>by simp)
   have BX:=set2_blk BL.out ⟨qlt,qla⟩
   have BY:=set2_blk (BH.out.mod MS1 (by simp)) ⟨qht,qha⟩
   have MS2:=set2_mod (Mod.refl [gk+1+1] (set2 w3.drew (gk+1) ⟨qlt,qla⟩)) (gk+1+1) ⟨qht,qha⟩ (fun _=>by simp)
   replace BX:=BX.mod MS2 (by simp)
   have MS:=Lib.hid ((MS1.mono (S':=[gk+1,gk+1+1]) (by intro k _ h;simp at h;simp [h])).trans MS2 (by intro k _ h;simp at h;simp [h]))
   change Exit.then _ _ _ _ (set2 (set2 w3.drew (gk+1) ⟨qlt,qla⟩) (gk+1+1) ⟨qht,qha⟩)
   generalize set2 (set2 w3.drew (gk+1) ⟨qlt,qla⟩) (gk+1+1) ⟨qht,qha⟩=X at *
   obtain ⟨g0,g1⟩:=BX.cells2
   obtain ⟨g2,g3⟩:=BY.cells2
   clear e0 e1 e2 e3 f0 f1 f2 f3 BX BY MS1 MS2
   simp only at g0 g1 g2 g3
   go_wp2_with fail
   refine bodyPost_ret (by simp [results,Tryz.results162,g0,g1,g2,g3,go_sem];try rfl) rfl ?_
   rw [hv.out]
   exact ⟨rfl,F,(HS.out.mod M.out (by simp)).mod MS.out (fun k hk=>by simp;exact ⟨fun h=>hF1 (h▸hk),fun h=>hF2 (h▸hk)⟩),(M.out.mono (by intro k _ h;simp at h)).trans MS.out (by intro k h h2;simp at h2;omega),fun k hk=>.inl hk⟩
open Go.RowKit
theorem cbddView_c {w:World} {b n:Nat} {L:List Rc} {room:Nat} {F:List Nat} (h:IsSt w b n L room F) (hL:L.length≤100000) (hroom:L.length < room) (hrm:room≤1048576) (hn:n≤16) (hG:Good L n) (l:Nat) (hl:l < n) (e:Ed)
 (he:LeadsP L 3 e l n):
 Calls Tryz.prog 163 #[.pointer (some ⟨b,0,none⟩),edv e,.int .i64 l] w fun r w'=>r=.returned (.tuple #[edv (viewP L 3 l e).2.1,edv (viewP L 3 l e).2.2,.int .u8 0])∧∃F',IsSt w' b n (viewP L 3 l e).1 room F'∧Mod F w w'∧∀k∈F',k∈F∨w.heap.size≤k:=by
 have LE:Hid (∀W,Mod [] w W→_):=fun W m=>stLeads_c (h.mod m (by simp)) (by omega) hn 3 (by omega) (by omega) e l (by omega) he
 have hbF:=h.lt
 obtain ⟨ba,bi,Fa,c0,-,-,-⟩:=h.own
 have hbl:=World.block_lt_of_cell? w _ c0
 simp only at hbl
 have HS:=Lib.hid h
 have hl':(l:Int) < n:=by omega
 clear h
 obtain ⟨gk,hgk⟩:∃gk,w.heap.size=gk:=⟨_,rfl⟩
 have HLT:Hid (∀k∈F,k < gk):=fun k hk=>by have:=hbF k hk;omega
 have HE:=Lib.hid he
 have HG:=Lib.hid hG
 clear hbF he hG
 obtain ⟨et,ea⟩:=e
 unfold edv at *
 simp only at LE ⊢
 have gn1:¬b=gk:=by omega
 have gn2:¬gk=b:=by omega
 have gn3:¬b=gk+1:=by omega
 have gn4:¬gk+1=b:=by omega
 have gn5:¬b=gk+1+1:=by omega
 have gn6:¬gk+1+1=b:=by omega
 go_enter Tryz.func163,Tryz.ntmps163
 go_wp2_with fail
 have BE:=Blk.new' w #[.int .u8 et,.int .u32 ea] 66 gk hgk.symm
 have BL:=Blk.new' (w.alloc (.cells #[.int .u8 et,.int .u32 ea] 66)) #[.int .u8 0,.int .u32 0] 66 (gk+1) (by simp [hgk])
 have BH:=Blk.new' ((w.alloc (.cells #[.int .u8 et,.int .u32 ea] 66)).alloc (.cells #[.int .u8 0,.int .u32 0] 66)) #[.int .u8 0,.int .u32 0] 66 (gk+1+1) (by simp [hgk])
 replace BE:=(BE.alloc (.cells #[.int .u8 0,.int .u32 0] 66)).alloc (.cells #[.int .u8 0,.int .u32 0] 66)
 replace BL:=BL.alloc (.cells #[.int .u8 0,.int .u32 0] 66)
 have M0:Hid (Mod [] w (((w.alloc (.cells #[.int .u8 et,.int .u32 ea] 66)).alloc (.cells #[.int .u8 0,.int .u32 0] 66)).alloc (.cells #[.int .u8 0,.int .u32 0] 66))):=by exact mods
 have hsz:(((w.alloc (.cells #[.int .u8 et,.int .u32 ea] 66)).alloc (.cells #[.int .u8 0,.int .u32 0] 66)).alloc (.cells #[.int .u8 0,.int .u32 0] 66)).heap.size=gk+3:=by simp [hgk]
 have c0:=(M0.out.cell (a:=⟨b,0,none⟩) hbl (by simp)).trans c0
 generalize ((w.alloc (.cells #[.int .u8 et,.int .u32 ea] 66)).alloc (.cells #[.int .u8 0,.int .u32 0] 66)).alloc (.cells #[.int .u8 0,.int .u32 0] 66)=w0 at *
 have hb0:b < w0.heap.size:=by omega
 have hk0:gk < w0.heap.size:=by omega
 have hk1:gk+1 < w0.heap.size:=by omega
 have hk2:gk+1+1 < w0.heap.size:=by omega
 obtain ⟨q0,q1⟩:=BE.cells2
 replace BE:=Lib.hid BE
 replace BL:=Lib.hid BL
 replace BH:=Lib.hid BH
 refine (stVars_c b n _ c0).mono ?_
 rintro e w1 ⟨rfl,rfl⟩
 go_wp2_with fail
 refine (LE.out _ M0.out).mono ?_;rintro e' wa ⟨rfl,m_wa⟩;have M_wa:=Mod.trans' (show Mod _ w1 _ from by exact mods) m_wa;have c0:=(M_wa.cell (a:=⟨b,0,none⟩) hb0 (by first | assumption | (simp;done))).trans c0;have q0:=(M_wa.cell (a:=⟨gk,0,none⟩) hk0 (by first | assumption | (simp;done))).trans q0;have q1:=(M_wa.cell (a:=⟨gk,1,none⟩) hk0 (by first | assumption | (simp;done))).trans q1;have hb0:=Nat.lt_of_lt_of_le hb0 M_wa.size;have hk0:=Nat.lt_of_lt_of_le hk0 M_wa.size
 have M1:=Lib.hid (M0.out.trans' M_wa)
 replace BE:=Lib.hid (BE.out.mod M_wa (by simp))
 replace BL:=Lib.hid (BL.out.mod M_wa (by simp))
 replace BH:=Lib.hid (BH.out.mod M_wa (by simp))
 have hza:=M_wa.size
 clear m_wa M_wa M0 LE
 have hl16:(l:Int)≤16:=by omega
 have hF1:gk+1∉F:=fun h=>by have:=HLT.out _ h;omega
 have hF2:gk+1+1∉F:=fun h=>by have:=HLT.out _ h;omega
 have het:(et:Int)≤16:=by
  have hp:=HE.out.plain
  by_cases h:ea=0
  ·have:=hp.1 (.inr h);simp only at this;omega
  ·by_cases h5:3=5
   ·have:=hp.2 h5 h;simp only at this;omega
   ·have:=hp.1 (.inl h5);simp only at this;omega
 have hea:ea≤4294967295:=by
  rcases HE.out.at_ with h0 | ⟨r,hr,-⟩
  ·simp only at h0;omega
  ·have:=recAt_lt hr;simp only at this;omega
 cases hr:recAt L ea with
 | none=>
  have hv:=Lib.hid (show viewP L 3 l ⟨et,ea⟩=(L,(⟨et,ea⟩,⟨et,ea⟩)) by unfold viewP;rw [if_neg (by simp)];simp only [hr];unfold pastV;simp)
  have GT:Hid (∀W,Mod [] w W→_):=fun W m=>stGet_none (HS.out.mod m (by simp)) (by omega) ea hea hr
  unfold rcv rc0 at GT
  simp only at GT
  try rw [show ((0:Nat):Int)=0 from rfl] at GT
  go_wp2_with fail
  refine (GT.out _ M1.out).mono ?_
  rintro e w2 ⟨rfl,m2⟩
  obtain ⟨gr,hgr⟩:∃gr,w2.heap.size=gr:=⟨_,rfl⟩
  have BQ:=Blk.new' w2 #[.int .u8 0,.int .u8 0,.int .u8 0,.int .u8 0,.int .u32 0,.int .u8 0,.int .u32 0] 108 gr hgr.symm
  have MX:=m2.alloc (.cells #[.int .u8 0,.int .u8 0,.int .u8 0,.int .u8 0,.int .u32 0,.int .u8 0,.int .u32 0] 108)
  have hzx:=m2.size
  replace M1:=Lib.hid (M1.out.trans' MX)
  replace BE:=BE.out.mod MX (by simp)
  replace BL:=Lib.hid (BL.out.mod MX (by simp))
  replace BH:=Lib.hid (BH.out.mod MX (by simp))
  obtain ⟨q0,q1⟩:=BE.cells2
  obtain ⟨r0,r1,r2,r3,r4,r5,r6⟩:=BQ.cells7
  have hrl:=BQ.lt
  have hel:=BE.lt
  have hll:=BL.out.lt
  have hhl:=BH.out.lt
  have gr1:¬gr=gk:=by omega
  have gr2:¬gk=gr:=by omega
  have gr3:¬gr=gk+1:=by omega
  have gr4:¬gk+1=gr:=by omega
  have gr5:¬gr=gk+1+1:=by omega
  have gr6:¬gk+1+1=gr:=by omega
  have M:=M1
  replace BE:=Lib.hid BE
  clear MX m2 GT M1
  replace BQ:=Lib.hid BQ
  obtain ⟨e0,e1⟩:=BL.out.cells2
  obtain ⟨e2,e3⟩:=BH.out.cells2
  obtain ⟨f0,f1,-⟩:=BL.out.frozs
  obtain ⟨f2,f3,-⟩:=BH.out.frozs
  go_wp2_with fail
  generalize w2.alloc (.cells #[.int .u8 0,.int .u8 0,.int .u8 0,.int .u8 0,.int .u32 0,.int .u8 0,.int .u32 0] 108)=w3 at *
  go_region
  replace BL:=Lib.hid BL.out.drew
  replace BH:=Lib.hid BH.out.drew
  replace M:=Lib.hid (M.out.drew)
  have MS1:=set2_mod (Mod.refl [gk+1] w3.drew) (gk+1) ⟨et,ea⟩ (fun _=>by simp)
  have BX:=set2_blk BL.out ⟨et,ea⟩
  have BY:=set2_blk (BH.out.mod MS1 (by simp)) ⟨et,ea⟩
  have MS2:=set2_mod (Mod.refl [gk+1+1] (set2 w3.drew (gk+1) ⟨et,ea⟩)) (gk+1+1) ⟨et,ea⟩ (fun _=>by simp)
  replace BX:=BX.mod MS2 (by simp)
  have MS:=Lib.hid ((MS1.mono (S':=[gk+1,gk+1+1]) (by intro k _ h;simp at h;simp [h])).trans MS2 (by intro k _ h;simp at h;simp [h]))
  change Exit.then _ _ _ _ (set2 (set2 w3.drew (gk+1) ⟨et,ea⟩) (gk+1+1) ⟨et,ea⟩)
  generalize set2 (set2 w3.drew (gk+1) ⟨et,ea⟩) (gk+1+1) ⟨et,ea⟩=X at *
  obtain ⟨g0,g1⟩:=BX.cells2
  obtain ⟨g2,g3⟩:=BY.cells2
  clear e0 e1 e2 e3 f0 f1 f2 f3 BX BY MS1 MS2
  simp only at g0 g1 g2 g3
  go_wp2_with fail
  refine bodyPost_ret (by simp [results,Tryz.results163,g0,g1,g2,g3,go_sem];try rfl) rfl ?_
  rw [hv.out]
  exact ⟨rfl,F,(HS.out.mod M.out (by simp)).mod MS.out (fun k hk=>by simp;exact ⟨fun h=>hF1 (h▸hk),fun h=>hF2 (h▸hk)⟩),(M.out.mono (by intro k _ h;simp at h)).trans MS.out (by intro k h h2;simp at h2;omega),fun k hk=>.inl hk⟩
 | some r=>
  have GT:Hid (∀W,Mod [] w W→_):=fun W m=>stGet_live (HS.out.mod m (by simp)) (by omega) ea r hr
  have hg:=HG.out ea r hr
  obtain ⟨hrf,hrl,htg,h16⟩:=HE.out.node hr
  have h16':(r.top:Int)≤16:=by omega
  have hb15:(r.bot:Int)≤16:=by have:=hg.right.bn;omega
  have hq1:(r.lo.t:Int)≤255:=by
   have:=hg.right.lo;have:=hg.right.bn
   by_cases h:r.f≠5∨r.lo.a=0
   ·have:=hg.right.lo.1 h;omega
   ·have:=hg.right.lo.2 (by omega) (by omega);omega
  have hq2:(r.hi.t:Int)≤255:=by
   have:=hg.right.hi;have:=hg.right.bn
   by_cases h:r.f≠5∨r.hi.a=0
   ·have:=hg.right.hi.1 h;omega
   ·have:=hg.right.hi.2 (by omega) (by omega);omega
  by_cases hlt:l < r.top
  ·have hv:=Lib.hid (show viewP L 3 l ⟨et,ea⟩=(L,(⟨et,ea⟩,⟨et,ea⟩)) by unfold viewP;rw [if_neg (by simp)];simp only [hr,if_pos hlt];unfold pastV;simp)
   have hlt1:decide ((l:Int) < r.top)=true:=by simp;omega
   clear hg hr
   obtain ⟨qf,qt,qb,⟨qlt,qla⟩,⟨qht,qha⟩⟩:=r
   unfold rcv at GT
   clear hrf hrl htg h16
   simp only at GT h16' hb15 hq1 hq2 hlt hlt1 hv
   go_wp2_with fail
   refine (GT.out _ M1.out).mono ?_
   rintro e w2 ⟨rfl,m2⟩
   obtain ⟨gr,hgr⟩:∃gr,w2.heap.size=gr:=⟨_,rfl⟩
   have BQ:=Blk.new' w2 #[.int .u8 qf,.int .u8 qt,.int .u8 qb,.int .u8 qlt,.int .u32 qla,.int .u8 qht,.int .u32 qha] 108 gr hgr.symm
   have MX:=m2.alloc (.cells #[.int .u8 qf,.int .u8 qt,.int .u8 qb,.int .u8 qlt,.int .u32 qla,.int .u8 qht,.int .u32 qha] 108)
   have hzx:=m2.size
   replace M1:=Lib.hid (M1.out.trans' MX)
   replace BE:=BE.out.mod MX (by simp)
   replace BL:=Lib.hid (BL.out.mod MX (by simp))
   replace BH:=Lib.hid (BH.out.mod MX (by simp))
   obtain ⟨q0,q1⟩:=BE.cells2
   obtain ⟨r0,r1,r2,r3,r4,r5,r6⟩:=BQ.cells7
   have hrl:=BQ.lt
   have hel:=BE.lt
   have hll:=BL.out.lt
   have hhl:=BH.out.lt
   have gr1:¬gr=gk:=by omega
   have gr2:¬gk=gr:=by omega
   have gr3:¬gr=gk+1:=by omega
   have gr4:¬gk+1=gr:=by omega
   have gr5:¬gr=gk+1+1:=by omega
   have gr6:¬gk+1+1=gr:=by omega
   have M:=M1
   replace BE:=Lib.hid BE
   clear MX m2 GT M1
   replace BQ:=Lib.hid BQ
   obtain ⟨e0,e1⟩:=BL.out.cells2
   obtain ⟨e2,e3⟩:=BH.out.cells2
   obtain ⟨f0,f1,-⟩:=BL.out.frozs
   obtain ⟨f2,f3,-⟩:=BH.out.frozs
   go_wp2_with fail
   generalize w2.alloc (.cells #[.int .u8 qf,.int .u8 qt,.int .u8 qb,.int .u8 qlt,.int .u32 qla,.int .u8 qht,.int .u32 qha] 108)=w3 at *
   go_region
   replace BL:=Lib.hid BL.out.drew
   replace BH:=Lib.hid BH.out.drew
   replace M:=Lib.hid (M.out.drew)
   have MS1:=set2_mod (Mod.refl [gk+1] w3.drew) (gk+1) ⟨et,ea⟩ (fun _=>by simp)
   have BX:=set2_blk BL.out ⟨et,ea⟩
   have BY:=set2_blk (BH.out.mod MS1 (by simp)) ⟨et,ea⟩
   have MS2:=set2_mod (Mod.refl [gk+1+1] (set2 w3.drew (gk+1) ⟨et,ea⟩)) (gk+1+1) ⟨et,ea⟩ (fun _=>by simp)
   replace BX:=BX.mod MS2 (by simp)
   have MS:=Lib.hid ((MS1.mono (S':=[gk+1,gk+1+1]) (by intro k _ h;simp at h;simp [h])).trans MS2 (by intro k _ h;simp at h;simp [h]))
   change Exit.then _ _ _ _ (set2 (set2 w3.drew (gk+1) ⟨et,ea⟩) (gk+1+1) ⟨et,ea⟩)
   generalize set2 (set2 w3.drew (gk+1) ⟨et,ea⟩) (gk+1+1) ⟨et,ea⟩=X at *
   obtain ⟨g0,g1⟩:=BX.cells2
   obtain ⟨g2,g3⟩:=BY.cells2
   clear e0 e1 e2 e3 f0 f1 f2 f3 BX BY MS1 MS2
   simp only at g0 g1 g2 g3
   go_wp2_with fail
   refine bodyPost_ret (by simp [results,Tryz.results163,g0,g1,g2,g3,go_sem];try rfl) rfl ?_
   rw [hv.out]
   exact ⟨rfl,F,(HS.out.mod M.out (by simp)).mod MS.out (fun k hk=>by simp;exact ⟨fun h=>hF1 (h▸hk),fun h=>hF2 (h▸hk)⟩),(M.out.mono (by intro k _ h;simp at h)).trans MS.out (by intro k h h2;simp at h2;omega),fun k hk=>.inl hk⟩
  ·have hlt1:decide ((l:Int) < r.top)=false:=by simp;omega
   by_cases htb:r.top=r.bot
   ·have hv:=Lib.hid (show viewP L 3 l ⟨et,ea⟩=(L,(r.lo,r.hi)) by unfold viewP;rw [if_neg (by simp)];simp only [hr,if_neg hlt,if_pos htb])
    have heq:((r.bot:Int)==r.top)=true:=by simp;omega
    clear hg hr
    obtain ⟨qf,qt,qb,⟨qlt,qla⟩,⟨qht,qha⟩⟩:=r
    unfold rcv at GT
    clear hrf hrl htg h16 htb
    simp only at GT h16' hb15 hq1 hq2 hlt hlt1 heq hv
    go_wp2_with fail
    refine (GT.out _ M1.out).mono ?_
    rintro e w2 ⟨rfl,m2⟩
    obtain ⟨gr,hgr⟩:∃gr,w2.heap.size=gr:=⟨_,rfl⟩
    have BQ:=Blk.new' w2 #[.int .u8 qf,.int .u8 qt,.int .u8 qb,.int .u8 qlt,.int .u32 qla,.int .u8 qht,.int .u32 qha] 108 gr hgr.symm
    have MX:=m2.alloc (.cells #[.int .u8 qf,.int .u8 qt,.int .u8 qb,.int .u8 qlt,.int .u32 qla,.int .u8 qht,.int .u32 qha] 108)
    have hzx:=m2.size
    replace M1:=Lib.hid (M1.out.trans' MX)
    replace BE:=BE.out.mod MX (by simp)
    replace BL:=Lib.hid (BL.out.mod MX (by simp))
    replace BH:=Lib.hid (BH.out.mod MX (by simp))
    obtain ⟨q0,q1⟩:=BE.cells2
    obtain ⟨r0,r1,r2,r3,r4,r5,r6⟩:=BQ.cells7
    have hrl:=BQ.lt
    have hel:=BE.lt
    have hll:=BL.out.lt
    have hhl:=BH.out.lt
    have gr1:¬gr=gk:=by omega
    have gr2:¬gk=gr:=by omega
    have gr3:¬gr=gk+1:=by omega
    have gr4:¬gk+1=gr:=by omega
    have gr5:¬gr=gk+1+1:=by omega
    have gr6:¬gk+1+1=gr:=by omega
    have M:=M1
    replace BE:=Lib.hid BE
    clear MX m2 GT M1
    replace BQ:=Lib.hid BQ
    obtain ⟨e0,e1⟩:=BL.out.cells2
    obtain ⟨e2,e3⟩:=BH.out.cells2
    obtain ⟨f0,f1,-⟩:=BL.out.frozs
    obtain ⟨f2,f3,-⟩:=BH.out.frozs
    go_wp2_with fail
    generalize w2.alloc (.cells #[.int .u8 qf,.int .u8 qt,.int .u8 qb,.int .u8 qlt,.int .u32 qla,.int .u8 qht,.int .u32 qha] 108)=w3 at *
    go_region
    replace BL:=Lib.hid BL.out.drew
    replace BH:=Lib.hid BH.out.drew
    replace M:=Lib.hid (M.out.drew)
    have MS1:=set2_mod (Mod.refl [gk+1] w3.drew) (gk+1) ⟨qlt,qla⟩ (fun _=>by simp)
    have BX:=set2_blk BL.out ⟨qlt,qla⟩
    have BY:=set2_blk (BH.out.mod MS1 (by simp)) ⟨qht,qha⟩
    have MS2:=set2_mod (Mod.refl [gk+1+1] (set2 w3.drew (gk+1) ⟨qlt,qla⟩)) (gk+1+1) ⟨qht,qha⟩ (fun _=>by simp)
    replace BX:=BX.mod MS2 (by simp)
    have MS:=Lib.hid ((MS1.mono (S':=[gk+1,gk+1+1]) (by intro k _ h;simp at h;simp [h])).trans MS2 (by intro k _ h;simp at h;simp [h]))
    change Exit.then _ _ _ _ (set2 (set2 w3.drew (gk+1) ⟨qlt,qla⟩) (gk+1+1) ⟨qht,qha⟩)
    generalize set2 (set2 w3.drew (gk+1) ⟨qlt,qla⟩) (gk+1+1) ⟨qht,qha⟩=X at *
    obtain ⟨g0,g1⟩:=BX.cells2
    obtain ⟨g2,g3⟩:=BY.cells2
    clear e0 e1 e2 e3 f0 f1 f2 f3 BX BY MS1 MS2
    simp only at g0 g1 g2 g3
    go_wp2_with fail
    refine bodyPost_ret (by simp [results,Tryz.results163,g0,g1,g2,g3,go_sem];try rfl) rfl ?_
    rw [hv.out]
    exact ⟨rfl,F,(HS.out.mod M.out (by simp)).mod MS.out (fun k hk=>by simp;exact ⟨fun h=>hF1 (h▸hk),fun h=>hF2 (h▸hk)⟩),(M.out.mono (by intro k _ h;simp at h)).trans MS.out (by intro k h h2;simp at h2;omega),fun k hk=>.inl hk⟩
   ·have heq:((r.bot:Int)==r.top)=false:=by rw [beq_eq_false_iff_ne];omega
    have hge2:=hg.right.tb
    have gr:GoodR L n { r with top:=r.top+1 }:=⟨⟨hg.right.f1,hg.right.f5,by simp only;omega,hg.right.bn,hg.right.n16,.inr (by simp only;omega),hg.right.lo,hg.right.hi,hg.right.z,hg.right.b⟩,hg.lo,hg.hi⟩
    have FN:Hid (∀W,Mod [] w W→_):=fun W m=>cbddFound_c (HS.out.mod m (by simp)) hL hroom hrm hn { r with top:=r.top+1 } gr.right gr.lo gr.hi
    have hv:=Lib.hid (show viewP L 3 l ⟨et,ea⟩=((fnd L { r with top:=r.top+1 }).1,(⟨0,(fnd L { r with top:=r.top+1 }).2⟩,r.hi)) by unfold viewP;rw [if_neg (by simp)];simp only [hr,if_neg hlt,if_neg htb];simp)
    clear gr hge2 hg hr
    obtain ⟨qf,qt,qb,⟨qlt,qla⟩,⟨qht,qha⟩⟩:=r
    unfold rcv at GT FN
    clear hrf hrl htg h16 htb
    simp only at GT FN h16' hb15 hq1 hq2 hlt hlt1 heq hv
    generalize (fnd L ⟨qf,qt+1,qb,⟨qlt,qla⟩,⟨qht,qha⟩⟩).2=id at *
    generalize (fnd L ⟨qf,qt+1,qb,⟨qlt,qla⟩,⟨qht,qha⟩⟩).1=L2 at *
    unfold edv at FN
    simp only at FN
    rw [show ((qt+1:Nat):Int)=(qt:Int)+1 from rfl] at FN
    go_wp2_with fail
    refine (GT.out _ M1.out).mono ?_
    rintro e w2 ⟨rfl,m2⟩
    obtain ⟨gr,hgr⟩:∃gr,w2.heap.size=gr:=⟨_,rfl⟩
    have BQ:=Blk.new' w2 #[.int .u8 qf,.int .u8 qt,.int .u8 qb,.int .u8 qlt,.int .u32 qla,.int .u8 qht,.int .u32 qha] 108 gr hgr.symm
    have MX:=m2.alloc (.cells #[.int .u8 qf,.int .u8 qt,.int .u8 qb,.int .u8 qlt,.int .u32 qla,.int .u8 qht,.int .u32 qha] 108)
    have hzx:=m2.size
    replace M1:=Lib.hid (M1.out.trans' MX)
    replace BE:=BE.out.mod MX (by simp)
    replace BL:=Lib.hid (BL.out.mod MX (by simp))
    replace BH:=Lib.hid (BH.out.mod MX (by simp))
    obtain ⟨q0,q1⟩:=BE.cells2
    obtain ⟨r0,r1,r2,r3,r4,r5,r6⟩:=BQ.cells7
    have hrl:=BQ.lt
    have hel:=BE.lt
    have hll:=BL.out.lt
    have hhl:=BH.out.lt
    have gr1:¬gr=gk:=by omega
    have gr2:¬gk=gr:=by omega
    have gr3:¬gr=gk+1:=by omega
    have gr4:¬gk+1=gr:=by omega
    have gr5:¬gr=gk+1+1:=by omega
    have gr6:¬gk+1+1=gr:=by omega
    have M:=M1
    replace BE:=Lib.hid BE
    clear MX m2 GT M1
    obtain ⟨j0,j1,-⟩:=BQ.frozs
    obtain ⟨f2,f3,-⟩:=BH.out.frozs
    obtain ⟨e2,e3⟩:=BH.out.cells2
    go_wp2_with fail
    generalize w2.alloc (.cells #[.int .u8 qf,.int .u8 qt,.int .u8 qb,.int .u8 qlt,.int .u32 qla,.int .u8 qht,.int .u32 qha] 108)=w3 at *
    replace BQ:=Lib.hid BQ
    have MSa:=set2_mod (Mod.refl [gk+1+1] w3) (gk+1+1) ⟨qht,qha⟩ (fun _=>by simp)
    have BHB:=set2_blk BH.out ⟨qht,qha⟩
    have BLB:=BL.out.mod MSa (by simp)
    have MB:=M.out.trans MSa (by intro i hi h;simp at h;omega)
    clear MSa
    have MA:=Lib.hid (MB.trans ((Mod.refl [gr] (set2 w3 (gk+1+1) ⟨qht,qha⟩)).setCell ⟨gr,1,none⟩ (.int .u8 ((qt:Int)+1)) (fun _=>by simp)) (by intro i hi h;simp at h;omega))
    replace BL:=Lib.hid (BLB.other ⟨gr,1,none⟩ (.int .u8 ((qt:Int)+1)) (by simpa using gr4))
    replace BH:=Lib.hid (BHB.other ⟨gr,1,none⟩ (.int .u8 ((qt:Int)+1)) (by simpa using gr6))
    clear MB BLB BHB
    show Calls _ _ _ ((set2 w3 (gk+1+1) ⟨qht,qha⟩).setCell ⟨gr,1,none⟩ (.int .u8 ((qt:Int)+1))) _
    generalize (set2 w3 (gk+1+1) ⟨qht,qha⟩).setCell ⟨gr,1,none⟩ (.int .u8 ((qt:Int)+1))=w4 at *
    have hz4:=MA.out.size
    refine (FN.out _ MA.out).mono ?_
    rintro e w5 ⟨rfl,F3,s3,m3,f3'⟩
    have hF3':=Lib.hid f3'
    have hF31:gk+1∉F3:=fun h=>(f3' _ h).elim hF1 (fun h=>by have:=BL.out.lt;omega)
    have hF32:gk+1+1∉F3:=fun h=>(f3' _ h).elim hF2 (fun h=>by have:=BH.out.lt;omega)
    replace BL:=Lib.hid (BL.out.mod m3 hF1)
    replace BH:=Lib.hid (BH.out.mod m3 hF2)
    have M5:=Lib.hid ((MA.out.mono (S':=F) (by intro k _ h;simp at h)).trans m3 (by intro k _ h;exact h))
    have S5:=Lib.hid s3
    clear s3 m3 f3' FN MA q0 q1 r0 r1 r2 r3 r4 r5 r6 j0 j1 f2 f3 e2 e3
    obtain ⟨e0,e1⟩:=BL.out.cells2
    obtain ⟨e2,e3⟩:=BH.out.cells2
    obtain ⟨f0,f1,-⟩:=BL.out.frozs
    obtain ⟨f2,f3,-⟩:=BH.out.frozs
    go_wp2_with fail
    have MSx:Mod [gk+1] w5 ((w5.setCell ⟨gk+1,0,none⟩ (.int .u8 0)).setCell ⟨gk+1,1,none⟩ (.int .u32 id)):=set2_mod (Mod.refl [gk+1] w5) (gk+1) ⟨0,id⟩ (fun _=>by simp)
    have BLx:Blk ((w5.setCell ⟨gk+1,0,none⟩ (.int .u8 0)).setCell ⟨gk+1,1,none⟩ (.int .u32 id)) (gk+1) #[.int .u8 0,.int .u32 id] _:=set2_blk BL.out ⟨0,id⟩
    replace BL:=Lib.hid BLx
    replace BH:=Lib.hid (BH.out.mod MSx (by simp))
    replace S5:=Lib.hid (S5.out.mod MSx (by intro k hk h;simp at h;subst h;exact hF31 hk))
    replace M5:=Lib.hid (M5.out.trans MSx (by intro i hi h;simp at h;omega))
    clear e0 e1 e2 e3 f0 f1 f2 f3 BLx MSx
    generalize (w5.setCell ⟨gk+1,0,none⟩ (.int .u8 0)).setCell ⟨gk+1,1,none⟩ (.int .u32 id)=w6 at *
    obtain ⟨e0,e1⟩:=BL.out.cells2
    obtain ⟨e2,e3⟩:=BH.out.cells2
    obtain ⟨f0,f1,-⟩:=BL.out.frozs
    obtain ⟨f2,f3,-⟩:=BH.out.frozs
    go_region
    replace BL:=Lib.hid BL.out.drew
    replace BH:=Lib.hid BH.out.drew
    have MS1:=set2_mod (Mod.refl [gk+1] w6.drew) (gk+1) ⟨0,id⟩ (fun _=>by simp)
    have BX:=set2_blk BL.out ⟨0,id⟩
    have BY:=set2_blk (BH.out.mod MS1 (by simp)) ⟨qht,qha⟩
    have MS2:=set2_mod (Mod.refl [gk+1+1] (set2 w6.drew (gk+1) ⟨0,id⟩)) (gk+1+1) ⟨qht,qha⟩ (fun _=>by simp)
    replace BX:=BX.mod MS2 (by simp)
    have MS:=Lib.hid ((MS1.mono (S':=[gk+1,gk+1+1]) (by intro k _ h;simp at h;simp [h])).trans MS2 (by intro k _ h;simp at h;simp [h]))
    change Exit.then _ _ _ _ (set2 (set2 w6.drew (gk+1) ⟨0,id⟩) (gk+1+1) ⟨qht,qha⟩)
    replace M5:=Lib.hid (M5.out.drew.trans MS.out (by intro i hi h;simp at h;omega))
    have hS6:∀k∈F3,k∉[gk+1,gk+1+1]:=fun k hk h=>by simp at h;rcases h with rfl | rfl;exact hF31 hk;exact hF32 hk
    have m6d:Mod [] w6 w6.drew:=(Mod.refl _ _).drew
    replace S5:=Lib.hid ((S5.out.mod m6d (by simp)).mod MS.out hS6)
    clear hS6 m6d MS
    generalize set2 (set2 w6.drew (gk+1) ⟨0,id⟩) (gk+1+1) ⟨qht,qha⟩=X at *
    obtain ⟨g0,g1⟩:=BX.cells2
    obtain ⟨g2,g3⟩:=BY.cells2
    clear e0 e1 e2 e3 f0 f1 f2 f3 BX BY MS1 MS2
    simp only at g0 g1 g2 g3
    go_wp2_with fail
    refine bodyPost_ret (by simp [results,Tryz.results163,g0,g1,g2,g3,go_sem];try rfl) rfl ?_
    rw [hv.out]
    exact ⟨rfl,F3,S5.out,M5.out,fun k hk=>(hF3'.out k hk).imp (fun h=>h) (fun h=>by omega)⟩
open Go.RowKit
theorem czddView_c {w:World} {b n:Nat} {L:List Rc} {room:Nat} {F:List Nat} (h:IsSt w b n L room F) (hL:L.length≤100000) (hroom:L.length < room) (hrm:room≤1048576) (hn:n≤16) (hG:Good L n) (l:Nat) (hl:l < n) (e:Ed)
 (he:LeadsP L 4 e l n):
 Calls Tryz.prog 164 #[.pointer (some ⟨b,0,none⟩),edv e,.int .i64 l] w fun r w'=>r=.returned (.tuple #[edv (viewP L 4 l e).2.1,edv (viewP L 4 l e).2.2,.int .u8 0])∧∃F',IsSt w' b n (viewP L 4 l e).1 room F'∧Mod F w w'∧∀k∈F',k∈F∨w.heap.size≤k:=by
 have LE:Hid (∀W,Mod [] w W→_):=fun W m=>stLeads_c (h.mod m (by simp)) (by omega) hn 4 (by omega) (by omega) e l (by omega) he
 have hbF:=h.lt
 obtain ⟨ba,bi,Fa,c0,-,-,-⟩:=h.own
 have hbl:=World.block_lt_of_cell? w _ c0
 simp only at hbl
 have HS:=Lib.hid h
 have hl':(l:Int) < n:=by omega
 clear h
 obtain ⟨gk,hgk⟩:∃gk,w.heap.size=gk:=⟨_,rfl⟩
 have HLT:Hid (∀k∈F,k < gk):=fun k hk=>by have:=hbF k hk;omega
 have HE:=Lib.hid he
 have HG:=Lib.hid hG
 clear hbF he hG
 obtain ⟨et,ea⟩:=e
 unfold edv at *
 simp only at LE ⊢
 have gn1:¬b=gk:=by omega
 have gn2:¬gk=b:=by omega
 have gn3:¬b=gk+1:=by omega
 have gn4:¬gk+1=b:=by omega
 have gn5:¬b=gk+1+1:=by omega
 have gn6:¬gk+1+1=b:=by omega
 go_enter Tryz.func164,Tryz.ntmps164
 go_wp2_with fail
 have BE:=Blk.new' w #[.int .u8 et,.int .u32 ea] 66 gk hgk.symm
 have BL:=Blk.new' (w.alloc (.cells #[.int .u8 et,.int .u32 ea] 66)) #[.int .u8 0,.int .u32 0] 66 (gk+1) (by simp [hgk])
 have BH:=Blk.new' ((w.alloc (.cells #[.int .u8 et,.int .u32 ea] 66)).alloc (.cells #[.int .u8 0,.int .u32 0] 66)) #[.int .u8 0,.int .u32 0] 66 (gk+1+1) (by simp [hgk])
 replace BE:=(BE.alloc (.cells #[.int .u8 0,.int .u32 0] 66)).alloc (.cells #[.int .u8 0,.int .u32 0] 66)
 replace BL:=BL.alloc (.cells #[.int .u8 0,.int .u32 0] 66)
 have M0:Hid (Mod [] w (((w.alloc (.cells #[.int .u8 et,.int .u32 ea] 66)).alloc (.cells #[.int .u8 0,.int .u32 0] 66)).alloc (.cells #[.int .u8 0,.int .u32 0] 66))):=by exact mods
 have hsz:(((w.alloc (.cells #[.int .u8 et,.int .u32 ea] 66)).alloc (.cells #[.int .u8 0,.int .u32 0] 66)).alloc (.cells #[.int .u8 0,.int .u32 0] 66)).heap.size=gk+3:=by simp [hgk]
 have c0:=(M0.out.cell (a:=⟨b,0,none⟩) hbl (by simp)).trans c0
 generalize ((w.alloc (.cells #[.int .u8 et,.int .u32 ea] 66)).alloc (.cells #[.int .u8 0,.int .u32 0] 66)).alloc (.cells #[.int .u8 0,.int .u32 0] 66)=w0 at *
 have hb0:b < w0.heap.size:=by omega
 have hk0:gk < w0.heap.size:=by omega
 have hk1:gk+1 < w0.heap.size:=by omega
 have hk2:gk+1+1 < w0.heap.size:=by omega
 obtain ⟨q0,q1⟩:=BE.cells2
 replace BE:=Lib.hid BE
 replace BL:=Lib.hid BL
 replace BH:=Lib.hid BH
 refine (stVars_c b n _ c0).mono ?_
 rintro e w1 ⟨rfl,rfl⟩
 go_wp2_with fail
 refine (LE.out _ M0.out).mono ?_;rintro e' wa ⟨rfl,m_wa⟩;have M_wa:=Mod.trans' (show Mod _ w1 _ from by exact mods) m_wa;have c0:=(M_wa.cell (a:=⟨b,0,none⟩) hb0 (by first | assumption | (simp;done))).trans c0;have q0:=(M_wa.cell (a:=⟨gk,0,none⟩) hk0 (by first | assumption | (simp;done))).trans q0;have q1:=(M_wa.cell (a:=⟨gk,1,none⟩) hk0 (by first | assumption | (simp;done))).trans q1;have hb0:=Nat.lt_of_lt_of_le hb0 M_wa.size;have hk0:=Nat.lt_of_lt_of_le hk0 M_wa.size
 have M1:=Lib.hid (M0.out.trans' M_wa)
 replace BE:=Lib.hid (BE.out.mod M_wa (by simp))
 replace BL:=Lib.hid (BL.out.mod M_wa (by simp))
 replace BH:=Lib.hid (BH.out.mod M_wa (by simp))
 have hza:=M_wa.size
 clear m_wa M_wa M0 LE
 have hl16:(l:Int)≤16:=by omega
 have hF1:gk+1∉F:=fun h=>by have:=HLT.out _ h;omega
 have hF2:gk+1+1∉F:=fun h=>by have:=HLT.out _ h;omega
 have het:(et:Int)≤16:=by
  have hp:=HE.out.plain
  by_cases h:ea=0
  ·have:=hp.1 (.inr h);simp only at this;omega
  ·by_cases h5:4=5
   ·have:=hp.2 h5 h;simp only at this;omega
   ·have:=hp.1 (.inl h5);simp only at this;omega
 have hea:ea≤4294967295:=by
  rcases HE.out.at_ with h0 | ⟨r,hr,-⟩
  ·simp only at h0;omega
  ·have:=recAt_lt hr;simp only at this;omega
 cases hr:recAt L ea with
 | none=>
  have hv:=Lib.hid (show viewP L 4 l ⟨et,ea⟩=(L,(⟨et,ea⟩,⟨0,0⟩)) by unfold viewP;rw [if_neg (by simp)];simp only [hr];unfold pastV;simp)
  have GT:Hid (∀W,Mod [] w W→_):=fun W m=>stGet_none (HS.out.mod m (by simp)) (by omega) ea hea hr
  unfold rcv rc0 at GT
  simp only at GT
  try rw [show ((0:Nat):Int)=0 from rfl] at GT
  go_wp2_with fail
  refine (GT.out _ M1.out).mono ?_
  rintro e w2 ⟨rfl,m2⟩
  obtain ⟨gr,hgr⟩:∃gr,w2.heap.size=gr:=⟨_,rfl⟩
  have BQ:=Blk.new' w2 #[.int .u8 0,.int .u8 0,.int .u8 0,.int .u8 0,.int .u32 0,.int .u8 0,.int .u32 0] 108 gr hgr.symm
  have MX:=m2.alloc (.cells #[.int .u8 0,.int .u8 0,.int .u8 0,.int .u8 0,.int .u32 0,.int .u8 0,.int .u32 0] 108)
  have hzx:=m2.size
  replace M1:=Lib.hid (M1.out.trans' MX)
  replace BE:=BE.out.mod MX (by simp)
  replace BL:=Lib.hid (BL.out.mod MX (by simp))
  replace BH:=Lib.hid (BH.out.mod MX (by simp))
  obtain ⟨q0,q1⟩:=BE.cells2
  obtain ⟨r0,r1,r2,r3,r4,r5,r6⟩:=BQ.cells7
  have hrl:=BQ.lt
  have hel:=BE.lt
  have hll:=BL.out.lt
  have hhl:=BH.out.lt
  have gr1:¬gr=gk:=by omega
  have gr2:¬gk=gr:=by omega
  have gr3:¬gr=gk+1:=by omega
  have gr4:¬gk+1=gr:=by omega
  have gr5:¬gr=gk+1+1:=by omega
  have gr6:¬gk+1+1=gr:=by omega
  have M:=M1
  replace BE:=Lib.hid BE
  clear MX m2 GT M1
  replace BQ:=Lib.hid BQ
  obtain ⟨e0,e1⟩:=BL.out.cells2
  obtain ⟨e2,e3⟩:=BH.out.cells2
  obtain ⟨f0,f1,-⟩:=BL.out.frozs
  obtain ⟨f2,f3,-⟩:=BH.out.frozs
  go_wp2_with fail
  generalize w2.alloc (.cells #[.int .u8 0,.int .u8 0,.int .u8 0,.int .u8 0,.int .u32 0,.int .u8 0,.int .u32 0] 108)=w3 at *
  have MS1:=set2_mod (Mod.refl [gk+1] w3) (gk+1) ⟨et,ea⟩ (fun _=>by simp)
  have BX:=set2_blk BL.out ⟨et,ea⟩
  have BY:=set2_blk (BH.out.mod MS1 (by simp)) ⟨0,0⟩
  have MS2:=set2_mod (Mod.refl [gk+1+1] (set2 w3 (gk+1) ⟨et,ea⟩)) (gk+1+1) ⟨0,0⟩ (fun _=>by simp)
  replace BX:=BX.mod MS2 (by simp)
  have MS:=Lib.hid ((MS1.mono (S':=[gk+1,gk+1+1]) (by intro k _ h;simp at h;simp [h])).trans MS2 (by intro k _ h;simp at h;simp [h]))
  change bodyPost _ _ _ _ _ (set2 (set2 w3 (gk+1) ⟨et,ea⟩) (gk+1+1) ⟨0,0⟩)
  generalize set2 (set2 w3 (gk+1) ⟨et,ea⟩) (gk+1+1) ⟨0,0⟩=X at *
  obtain ⟨g0,g1⟩:=BX.cells2
  obtain ⟨g2,g3⟩:=BY.cells2
  clear e0 e1 e2 e3 f0 f1 f2 f3 BX BY MS1 MS2
  simp only at g0 g1 g2 g3
  refine bodyPost_ret (by simp [results,Tryz.results164,g0,g1,g2,g3,go_sem];try rfl) rfl ?_
  rw [hv.out]
  exact ⟨rfl,F,(HS.out.mod M.out (by simp)).mod MS.out (fun k hk=>by simp;exact ⟨fun h=>hF1 (h▸hk),fun h=>hF2 (h▸hk)⟩),(M.out.mono (by intro k _ h;simp at h)).trans MS.out (by intro k h h2;simp at h2;omega),fun k hk=>.inl hk⟩
 | some r=>
  have GT:Hid (∀W,Mod [] w W→_):=fun W m=>stGet_live (HS.out.mod m (by simp)) (by omega) ea r hr
  have hg:=HG.out ea r hr
  obtain ⟨hrf,hrl,htg,h16⟩:=HE.out.node hr
  have h16':(r.top:Int)≤16:=by omega
  have hb15:(r.bot:Int)≤16:=by have:=hg.right.bn;omega
  have hq1:(r.lo.t:Int)≤255:=by
   have:=hg.right.lo;have:=hg.right.bn
   by_cases h:r.f≠5∨r.lo.a=0
   ·have:=hg.right.lo.1 h;omega
   ·have:=hg.right.lo.2 (by omega) (by omega);omega
  have hq2:(r.hi.t:Int)≤255:=by
   have:=hg.right.hi;have:=hg.right.bn
   by_cases h:r.f≠5∨r.hi.a=0
   ·have:=hg.right.hi.1 h;omega
   ·have:=hg.right.hi.2 (by omega) (by omega);omega
  by_cases hlt:l < r.top
  ·have hv:=Lib.hid (show viewP L 4 l ⟨et,ea⟩=(L,(⟨et,ea⟩,⟨0,0⟩)) by unfold viewP;rw [if_neg (by simp)];simp only [hr,if_pos hlt];unfold pastV;simp)
   have hlt1:decide ((l:Int) < r.top)=true:=by simp;omega
   clear hg hr
   obtain ⟨qf,qt,qb,⟨qlt,qla⟩,⟨qht,qha⟩⟩:=r
   unfold rcv at GT
   clear hrf hrl htg h16
   simp only at GT h16' hb15 hq1 hq2 hlt hlt1 hv
   go_wp2_with fail
   refine (GT.out _ M1.out).mono ?_
   rintro e w2 ⟨rfl,m2⟩
   obtain ⟨gr,hgr⟩:∃gr,w2.heap.size=gr:=⟨_,rfl⟩
   have BQ:=Blk.new' w2 #[.int .u8 qf,.int .u8 qt,.int .u8 qb,.int .u8 qlt,.int .u32 qla,.int .u8 qht,.int .u32 qha] 108 gr hgr.symm
   have MX:=m2.alloc (.cells #[.int .u8 qf,.int .u8 qt,.int .u8 qb,.int .u8 qlt,.int .u32 qla,.int .u8 qht,.int .u32 qha] 108)
   have hzx:=m2.size
   replace M1:=Lib.hid (M1.out.trans' MX)
   replace BE:=BE.out.mod MX (by simp)
   replace BL:=Lib.hid (BL.out.mod MX (by simp))
   replace BH:=Lib.hid (BH.out.mod MX (by simp))
   obtain ⟨q0,q1⟩:=BE.cells2
   obtain ⟨r0,r1,r2,r3,r4,r5,r6⟩:=BQ.cells7
   have hrl:=BQ.lt
   have hel:=BE.lt
   have hll:=BL.out.lt
   have hhl:=BH.out.lt
   have gr1:¬gr=gk:=by omega
   have gr2:¬gk=gr:=by omega
   have gr3:¬gr=gk+1:=by omega
   have gr4:¬gk+1=gr:=by omega
   have gr5:¬gr=gk+1+1:=by omega
   have gr6:¬gk+1+1=gr:=by omega
   have M:=M1
   replace BE:=Lib.hid BE
   clear MX m2 GT M1
   replace BQ:=Lib.hid BQ
   obtain ⟨e0,e1⟩:=BL.out.cells2
   obtain ⟨e2,e3⟩:=BH.out.cells2
   obtain ⟨f0,f1,-⟩:=BL.out.frozs
   obtain ⟨f2,f3,-⟩:=BH.out.frozs
   go_wp2_with fail
   generalize w2.alloc (.cells #[.int .u8 qf,.int .u8 qt,.int .u8 qb,.int .u8 qlt,.int .u32 qla,.int .u8 qht,.int .u32 qha] 108)=w3 at *
   have MS1:=set2_mod (Mod.refl [gk+1] w3) (gk+1) ⟨et,ea⟩ (fun _=>by simp)
   have BX:=set2_blk BL.out ⟨et,ea⟩
   have BY:=set2_blk (BH.out.mod MS1 (by simp)) ⟨0,0⟩
   have MS2:=set2_mod (Mod.refl [gk+1+1] (set2 w3 (gk+1) ⟨et,ea⟩)) (gk+1+1) ⟨0,0⟩ (fun _=>by simp)
   replace BX:=BX.mod MS2 (by simp)
   have MS:=Lib.hid ((MS1.mono (S':=[gk+1,gk+1+1]) (by intro k _ h;simp at h;simp [h])).trans MS2 (by intro k _ h;simp at h;simp [h]))
   change bodyPost _ _ _ _ _ (set2 (set2 w3 (gk+1) ⟨et,ea⟩) (gk+1+1) ⟨0,0⟩)
   generalize set2 (set2 w3 (gk+1) ⟨et,ea⟩) (gk+1+1) ⟨0,0⟩=X at *
   obtain ⟨g0,g1⟩:=BX.cells2
   obtain ⟨g2,g3⟩:=BY.cells2
   clear e0 e1 e2 e3 f0 f1 f2 f3 BX BY MS1 MS2
   simp only at g0 g1 g2 g3
   refine bodyPost_ret (by simp [results,Tryz.results164,g0,g1,g2,g3,go_sem];try rfl) rfl ?_
   rw [hv.out]
   exact ⟨rfl,F,(HS.out.mod M.out (by simp)).mod MS.out (fun k hk=>by simp;exact ⟨fun h=>hF1 (h▸hk),fun h=>hF2 (h▸hk)⟩),(M.out.mono (by intro k _ h;simp at h)).trans MS.out (by intro k h h2;simp at h2;omega),fun k hk=>.inl hk⟩
  ·have hlt1:decide ((l:Int) < r.top)=false:=by simp;omega
   by_cases htb:r.top=r.bot
   ·have hv:=Lib.hid (show viewP L 4 l ⟨et,ea⟩=(L,(r.lo,r.hi)) by unfold viewP;rw [if_neg (by simp)];simp only [hr,if_neg hlt,if_pos htb])
    have heq:((r.bot:Int)==r.top)=true:=by simp;omega
    clear hg hr
    obtain ⟨qf,qt,qb,⟨qlt,qla⟩,⟨qht,qha⟩⟩:=r
    unfold rcv at GT
    clear hrf hrl htg h16 htb
    simp only at GT h16' hb15 hq1 hq2 hlt hlt1 heq hv
    go_wp2_with fail
    refine (GT.out _ M1.out).mono ?_
    rintro e w2 ⟨rfl,m2⟩
    obtain ⟨gr,hgr⟩:∃gr,w2.heap.size=gr:=⟨_,rfl⟩
    have BQ:=Blk.new' w2 #[.int .u8 qf,.int .u8 qt,.int .u8 qb,.int .u8 qlt,.int .u32 qla,.int .u8 qht,.int .u32 qha] 108 gr hgr.symm
    have MX:=m2.alloc (.cells #[.int .u8 qf,.int .u8 qt,.int .u8 qb,.int .u8 qlt,.int .u32 qla,.int .u8 qht,.int .u32 qha] 108)
    have hzx:=m2.size
    replace M1:=Lib.hid (M1.out.trans' MX)
    replace BE:=BE.out.mod MX (by simp)
    replace BL:=Lib.hid (BL.out.mod MX (by simp))
    replace BH:=Lib.hid (BH.out.mod MX (by simp))
    obtain ⟨q0,q1⟩:=BE.cells2
    obtain ⟨r0,r1,r2,r3,r4,r5,r6⟩:=BQ.cells7
    have hrl:=BQ.lt
    have hel:=BE.lt
    have hll:=BL.out.lt
    have hhl:=BH.out.lt
    have gr1:¬gr=gk:=by omega
    have gr2:¬gk=gr:=by omega
    have gr3:¬gr=gk+1:=by omega
    have gr4:¬gk+1=gr:=by omega
    have gr5:¬gr=gk+1+1:=by omega
    have gr6:¬gk+1+1=gr:=by omega
    have M:=M1
    replace BE:=Lib.hid BE
    clear MX m2 GT M1
    replace BQ:=Lib.hid BQ
    obtain ⟨e0,e1⟩:=BL.out.cells2
    obtain ⟨e2,e3⟩:=BH.out.cells2
    obtain ⟨f0,f1,-⟩:=BL.out.frozs
    obtain ⟨f2,f3,-⟩:=BH.out.frozs
    go_wp2_with fail
    generalize w2.alloc (.cells #[.int .u8 qf,.int .u8 qt,.int .u8 qb,.int .u8 qlt,.int .u32 qla,.int .u8 qht,.int .u32 qha] 108)=w3 at *
    go_region
    replace BL:=Lib.hid BL.out.drew
    replace BH:=Lib.hid BH.out.drew
    replace M:=Lib.hid (M.out.drew)
    have MS1:=set2_mod (Mod.refl [gk+1] w3.drew) (gk+1) ⟨qlt,qla⟩ (fun _=>by simp)
    have BX:=set2_blk BL.out ⟨qlt,qla⟩
    have BY:=set2_blk (BH.out.mod MS1 (by simp)) ⟨qht,qha⟩
    have MS2:=set2_mod (Mod.refl [gk+1+1] (set2 w3.drew (gk+1) ⟨qlt,qla⟩)) (gk+1+1) ⟨qht,qha⟩ (fun _=>by simp)
    replace BX:=BX.mod MS2 (by simp)
    have MS:=Lib.hid ((MS1.mono (S':=[gk+1,gk+1+1]) (by intro k _ h;simp at h;simp [h])).trans MS2 (by intro k _ h;simp at h;simp [h]))
    change Exit.then _ _ _ _ (set2 (set2 w3.drew (gk+1) ⟨qlt,qla⟩) (gk+1+1) ⟨qht,qha⟩)
    generalize set2 (set2 w3.drew (gk+1) ⟨qlt,qla⟩) (gk+1+1) ⟨qht,qha⟩=X at *
    obtain ⟨g0,g1⟩:=BX.cells2
    obtain ⟨g2,g3⟩:=BY.cells2
    clear e0 e1 e2 e3 f0 f1 f2 f3 BX BY MS1 MS2
    simp only at g0 g1 g2 g3
    go_wp2_with fail
    refine bodyPost_ret (by simp [results,Tryz.results164,g0,g1,g2,g3,go_sem];try rfl) rfl ?_
    rw [hv.out]
    exact ⟨rfl,F,(HS.out.mod M.out (by simp)).mod MS.out (fun k hk=>by simp;exact ⟨fun h=>hF1 (h▸hk),fun h=>hF2 (h▸hk)⟩),(M.out.mono (by intro k _ h;simp at h)).trans MS.out (by intro k h h2;simp at h2;omega),fun k hk=>.inl hk⟩
   ·have heq:((r.bot:Int)==r.top)=false:=by rw [beq_eq_false_iff_ne];omega
    have hge2:=hg.right.tb
    have gr:GoodR L n { r with top:=r.top+1 }:=⟨⟨hg.right.f1,hg.right.f5,by simp only;omega,hg.right.bn,hg.right.n16,.inr (by simp only;omega),hg.right.lo,hg.right.hi,hg.right.z,hg.right.b⟩,hg.lo,hg.hi⟩
    have FN:Hid (∀W,Mod [] w W→_):=fun W m=>czddFound_c (HS.out.mod m (by simp)) hL hroom hrm hn { r with top:=r.top+1 } gr.right gr.lo gr.hi
    have hv:=Lib.hid (show viewP L 4 l ⟨et,ea⟩=((fnd L { r with top:=r.top+1 }).1,(⟨0,(fnd L { r with top:=r.top+1 }).2⟩,⟨0,(fnd L { r with top:=r.top+1 }).2⟩)) by unfold viewP;rw [if_neg (by simp)];simp only [hr,if_neg hlt,if_neg htb];simp)
    clear gr hge2 hg hr
    obtain ⟨qf,qt,qb,⟨qlt,qla⟩,⟨qht,qha⟩⟩:=r
    unfold rcv at GT FN
    clear hrf hrl htg h16 htb
    simp only at GT FN h16' hb15 hq1 hq2 hlt hlt1 heq hv
    generalize (fnd L ⟨qf,qt+1,qb,⟨qlt,qla⟩,⟨qht,qha⟩⟩).2=id at *
    generalize (fnd L ⟨qf,qt+1,qb,⟨qlt,qla⟩,⟨qht,qha⟩⟩).1=L2 at *
    unfold edv at FN
    simp only at FN
    rw [show ((qt+1:Nat):Int)=(qt:Int)+1 from rfl] at FN
    go_wp2_with fail
    refine (GT.out _ M1.out).mono ?_
    rintro e w2 ⟨rfl,m2⟩
    obtain ⟨gr,hgr⟩:∃gr,w2.heap.size=gr:=⟨_,rfl⟩
    have BQ:=Blk.new' w2 #[.int .u8 qf,.int .u8 qt,.int .u8 qb,.int .u8 qlt,.int .u32 qla,.int .u8 qht,.int .u32 qha] 108 gr hgr.symm
    have MX:=m2.alloc (.cells #[.int .u8 qf,.int .u8 qt,.int .u8 qb,.int .u8 qlt,.int .u32 qla,.int .u8 qht,.int .u32 qha] 108)
    have hzx:=m2.size
    have MXQ:=m2.alloc (.cells #[.int .u8 qf,.int .u8 ((qt:Int)+1),.int .u8 qb,.int .u8 qlt,.int .u32 qla,.int .u8 qht,.int .u32 qha] 108)
    have MAQ:=Lib.hid (M1.out.trans' MXQ)
    have BLQ:=Lib.hid (BL.out.mod MXQ (by simp))
    have BHQ:=Lib.hid (BH.out.mod MXQ (by simp))
    clear MXQ
    replace M1:=Lib.hid (M1.out.trans' MX)
    replace BE:=BE.out.mod MX (by simp)
    replace BL:=Lib.hid (BL.out.mod MX (by simp))
    replace BH:=Lib.hid (BH.out.mod MX (by simp))
    obtain ⟨q0,q1⟩:=BE.cells2
    obtain ⟨r0,r1,r2,r3,r4,r5,r6⟩:=BQ.cells7
    have hrl:=BQ.lt
    have hel:=BE.lt
    have hll:=BL.out.lt
    have hhl:=BH.out.lt
    have gr1:¬gr=gk:=by omega
    have gr2:¬gk=gr:=by omega
    have gr3:¬gr=gk+1:=by omega
    have gr4:¬gk+1=gr:=by omega
    have gr5:¬gr=gk+1+1:=by omega
    have gr6:¬gk+1+1=gr:=by omega
    have M:=M1
    replace BE:=Lib.hid BE
    clear MX m2 GT M1
    obtain ⟨j0,j1,-⟩:=BQ.frozs
    obtain ⟨f2,f3,-⟩:=BH.out.frozs
    obtain ⟨e2,e3⟩:=BH.out.cells2
    go_wp2_with fail
    clear BQ r0 r1 r2 r3 r4 r5 r6 q0 q1 j0 j1 f2 f3 e2 e3 BL BH M BE hrl hel hll hhl
    have MA:=MAQ
    have BL:=BLQ
    have BH:=BHQ
    clear MAQ BLQ BHQ
    generalize w2.alloc (.cells #[.int .u8 qf,.int .u8 ((qt:Int)+1),.int .u8 qb,.int .u8 qlt,.int .u32 qla,.int .u8 qht,.int .u32 qha] 108)=w4 at *
    have hz4:=MA.out.size
    refine (FN.out _ MA.out).mono ?_
    rintro e w5 ⟨rfl,F3,s3,m3,f3'⟩
    have hF3':=Lib.hid f3'
    have hF31:gk+1∉F3:=fun h=>(f3' _ h).elim hF1 (fun h=>by have:=BL.out.lt;omega)
    have hF32:gk+1+1∉F3:=fun h=>(f3' _ h).elim hF2 (fun h=>by have:=BH.out.lt;omega)
    replace BL:=Lib.hid (BL.out.mod m3 hF1)
    replace BH:=Lib.hid (BH.out.mod m3 hF2)
    have M5:=Lib.hid ((MA.out.mono (S':=F) (by intro k _ h;simp at h)).trans m3 (by intro k _ h;exact h))
    have S5:=Lib.hid s3
    clear s3 m3 f3' FN MA
    obtain ⟨e0,e1⟩:=BL.out.cells2
    obtain ⟨e2,e3⟩:=BH.out.cells2
    obtain ⟨f0,f1,-⟩:=BL.out.frozs
    obtain ⟨f2,f3,-⟩:=BH.out.frozs
    go_wp2_with fail
    have MSx:Mod [gk+1] w5 ((w5.setCell ⟨gk+1,0,none⟩ (.int .u8 0)).setCell ⟨gk+1,1,none⟩ (.int .u32 id)):=set2_mod (Mod.refl [gk+1] w5) (gk+1) ⟨0,id⟩ (fun _=>by simp)
    have BLx:Blk ((w5.setCell ⟨gk+1,0,none⟩ (.int .u8 0)).setCell ⟨gk+1,1,none⟩ (.int .u32 id)) (gk+1) #[.int .u8 0,.int .u32 id] _:=set2_blk BL.out ⟨0,id⟩
    replace BL:=Lib.hid BLx
    replace BH:=Lib.hid (BH.out.mod MSx (by simp))
    replace S5:=Lib.hid (S5.out.mod MSx (by intro k hk h;simp at h;subst h;exact hF31 hk))
    replace M5:=Lib.hid (M5.out.trans MSx (by intro i hi h;simp at h;omega))
    clear e0 e1 e2 e3 f0 f1 f2 f3 BLx MSx
    generalize (w5.setCell ⟨gk+1,0,none⟩ (.int .u8 0)).setCell ⟨gk+1,1,none⟩ (.int .u32 id)=w6 at *
    obtain ⟨e0,e1⟩:=BL.out.cells2
    obtain ⟨e2,e3⟩:=BH.out.cells2
    obtain ⟨f0,f1,-⟩:=BL.out.frozs
    obtain ⟨f2,f3,-⟩:=BH.out.frozs
    have MS1:=set2_mod (Mod.refl [gk+1] w6) (gk+1) ⟨0,id⟩ (fun _=>by simp)
    have BX:=set2_blk BL.out ⟨0,id⟩
    have BY:=set2_blk (BH.out.mod MS1 (by simp)) ⟨0,id⟩
    have MS2:=set2_mod (Mod.refl [gk+1+1] (set2 w6 (gk+1) ⟨0,id⟩)) (gk+1+1) ⟨0,id⟩ (fun _=>by simp)
    replace BX:=BX.mod MS2 (by simp)
    have MS:=Lib.hid ((MS1.mono (S':=[gk+1,gk+1+1]) (by intro k _ h;simp at h;simp [h])).trans MS2 (by intro k _ h;simp at h;simp [h]))
    change bodyPost _ _ _ _ _ (set2 (set2 w6 (gk+1) ⟨0,id⟩) (gk+1+1) ⟨0,id⟩)
    replace M5:=Lib.hid (M5.out.trans MS.out (by intro i hi h;simp at h;omega))
    have hS6:∀k∈F3,k∉[gk+1,gk+1+1]:=fun k hk h=>by simp at h;rcases h with rfl | rfl;exact hF31 hk;exact hF32 hk
    have m6d:Mod [] w6 w6:=Mod.refl _ _
    replace S5:=Lib.hid ((S5.out.mod m6d (by simp)).mod MS.out hS6)
    clear hS6 m6d MS
    generalize set2 (set2 w6 (gk+1) ⟨0,id⟩) (gk+1+1) ⟨0,id⟩=X at *
    obtain ⟨g0,g1⟩:=BX.cells2
    obtain ⟨g2,g3⟩:=BY.cells2
    clear e0 e1 e2 e3 f0 f1 f2 f3 BX BY MS1 MS2
    simp only at g0 g1 g2 g3
    refine bodyPost_ret (by simp [results,Tryz.results164,g0,g1,g2,g3,go_sem];try rfl) rfl ?_
    rw [hv.out]
    exact ⟨rfl,F3,S5.out,M5.out,fun k hk=>(hF3'.out k hk).imp (fun h=>h) (fun h=>by omega)⟩
end Go.Proofs.YtlafpknoiihaaaaGreatDoor
