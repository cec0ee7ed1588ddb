/- Mq09: Vw5 · Cw · Ty · Es · Zb · Zc · Cl · Bg · Bo · Ca -/
import Derived.Test.YtlafpknoiihaaaaGreatDoorMq07
import Derived.Test.YtlafpknoiihaaaaGreatDoorMq06
import Derived.Test.YtlafpknoiihaaaaGreatDoorMq08
import Derived.BigQuiet
import Derived.Test.YtlafpknoiihaaaaGreatDoorMq04
import Derived.Test.YtlafpknoiihaaaaGreatDoorMq01
set_option maxRecDepth 100000
set_option maxHeartbeats 4000000
set_option linter.unusedVariables false
set_option linter.unusedSimpArgs false
namespace Go.Proofs.YtlafpknoiihaaaaGreatDoor
open Go.RowKit
theorem tbddView_c {w:World} {b n:Nat} {L:List Rc} {room:Nat} {F:List Nat} (h:IsSt w b n L room F) (hL:L.length≤100000) (hroom:L.length < room) (hrm:room≤1048576) (hn:n≤16) (hG:Good L n) (l:Nat) (hl:l < n) (e:Ed)
 (he:LeadsP L 5 e l n):
 Calls Tryz.prog 165 #[.pointer (some ⟨b,0,none⟩),edv e,.int .i64 l] w fun r w'=>r=.returned (.tuple #[edv (viewP L 5 l e).2.1,edv (viewP L 5 l e).2.2,.int .u8 0])∧∃F',IsSt w' b n (viewP L 5 l e).1 room F'∧Mod F w w'∧∀k∈F',k∈F∨w.heap.size≤k:=by
 have LE:Hid (∀W,Mod [] w W→_):=fun W m=>stLeads_c (h.mod m (by simp)) (by omega) hn 5 (by omega) (by omega) e l (by omega) he
 have hbF:=h.lt
 obtain ⟨ba,bi,Fa,c0,-,-,-⟩:=h.own
 have hbl:=World.block_lt_of_cell? w _ c0
 simp only at hbl
 have HS:=Lib.hid h
 have hl':(l:Int) < n:=by omega
 clear h
 obtain ⟨gk,hgk⟩:∃gk,w.heap.size=gk:=⟨_,rfl⟩
 have HLT:Hid (∀k∈F,k < gk):=fun k hk=>by have:=hbF k hk;omega
 have HE:=Lib.hid he
 have HG:=Lib.hid hG
 clear hbF he hG
 obtain ⟨et,ea⟩:=e
 unfold edv at *
 simp only at LE ⊢
 have gn1:¬b=gk:=by omega
 have gn2:¬gk=b:=by omega
 have gn3:¬b=gk+1:=by omega
 have gn4:¬gk+1=b:=by omega
 have gn5:¬b=gk+1+1:=by omega
 have gn6:¬gk+1+1=b:=by omega
 go_enter Tryz.func165,Tryz.ntmps165
 go_wp2_with fail
 have BE:=Blk.new' w #[.int .u8 et,.int .u32 ea] 66 gk hgk.symm
 have BL:=Blk.new' (w.alloc (.cells #[.int .u8 et,.int .u32 ea] 66)) #[.int .u8 0,.int .u32 0] 66 (gk+1) (by simp [hgk])
 have BH:=Blk.new' ((w.alloc (.cells #[.int .u8 et,.int .u32 ea] 66)).alloc (.cells #[.int .u8 0,.int .u32 0] 66)) #[.int .u8 0,.int .u32 0] 66 (gk+1+1) (by simp [hgk])
 replace BE:=(BE.alloc (.cells #[.int .u8 0,.int .u32 0] 66)).alloc (.cells #[.int .u8 0,.int .u32 0] 66)
 replace BL:=BL.alloc (.cells #[.int .u8 0,.int .u32 0] 66)
 have M0:Hid (Mod [] w (((w.alloc (.cells #[.int .u8 et,.int .u32 ea] 66)).alloc (.cells #[.int .u8 0,.int .u32 0] 66)).alloc (.cells #[.int .u8 0,.int .u32 0] 66))):=by exact mods
 have hsz:(((w.alloc (.cells #[.int .u8 et,.int .u32 ea] 66)).alloc (.cells #[.int .u8 0,.int .u32 0] 66)).alloc (.cells #[.int .u8 0,.int .u32 0] 66)).heap.size=gk+3:=by simp [hgk]
 have c0:=(M0.out.cell (a:=⟨b,0,none⟩) hbl (by simp)).trans c0
 generalize ((w.alloc (.cells #[.int .u8 et,.int .u32 ea] 66)).alloc (.cells #[.int .u8 0,.int .u32 0] 66)).alloc (.cells #[.int .u8 0,.int .u32 0] 66)=w0 at *
 have hb0:b < w0.heap.size:=by omega
 have hk0:gk < w0.heap.size:=by omega
 have hk1:gk+1 < w0.heap.size:=by omega
 have hk2:gk+1+1 < w0.heap.size:=by omega
 obtain ⟨q0,q1⟩:=BE.cells2
 replace BE:=Lib.hid BE
 replace BL:=Lib.hid BL
 replace BH:=Lib.hid BH
 refine (stVars_c b n _ c0).mono ?_
 rintro e w1 ⟨rfl,rfl⟩
 go_wp2_with fail
 refine (LE.out _ M0.out).mono ?_;rintro e' wa ⟨rfl,m_wa⟩;have M_wa:=Mod.trans' (show Mod _ w1 _ from by exact mods) m_wa;have c0:=(M_wa.cell (a:=⟨b,0,none⟩) hb0 (by first | assumption | (simp;done))).trans c0;have q0:=(M_wa.cell (a:=⟨gk,0,none⟩) hk0 (by first | assumption | (simp;done))).trans q0;have q1:=(M_wa.cell (a:=⟨gk,1,none⟩) hk0 (by first | assumption | (simp;done))).trans q1;have hb0:=Nat.lt_of_lt_of_le hb0 M_wa.size;have hk0:=Nat.lt_of_lt_of_le hk0 M_wa.size
 have M1:=Lib.hid (M0.out.trans' M_wa)
 replace BE:=Lib.hid (BE.out.mod M_wa (by simp))
 replace BL:=Lib.hid (BL.out.mod M_wa (by simp))
 replace BH:=Lib.hid (BH.out.mod M_wa (by simp))
 have hza:=M_wa.size
 clear m_wa M_wa M0 LE
 have hl16:(l:Int)≤16:=by omega
 have hF1:gk+1∉F:=fun h=>by have:=HLT.out _ h;omega
 have hF2:gk+1+1∉F:=fun h=>by have:=HLT.out _ h;omega
 have het:(et:Int)≤16:=by
  have hp:=HE.out.plain
  by_cases h:ea=0
  ·have:=hp.1 (.inr h);simp only at this;omega
  ·by_cases h5:5=5
   ·have:=hp.2 h5 h;simp only at this;omega
   ·have:=hp.1 (.inl h5);simp only at this;omega
 have hea:ea≤4294967295:=by
  rcases HE.out.at_ with h0 | ⟨r,hr,-⟩
  ·simp only at h0;omega
  ·have:=recAt_lt hr;simp only at this;omega
 by_cases hno:ea=0∨l < et
 ·have hv:=Lib.hid (show viewP L 5 l ⟨et,ea⟩=(L,(⟨et,ea⟩,⟨et,ea⟩)) by unfold viewP;rw [if_pos ⟨rfl,hno⟩])
  have M:=M1
  have tst:((ea:Int)==0 || decide ((l:Int) < et))=true:=by
   rcases hno with h | h
   ·subst h;rfl
   ·simp;omega
  by_cases h0:ea=0
  ·subst h0
   rw [show ((0:Nat):Int)=0 from rfl] at q1
   obtain ⟨e0,e1⟩:=BL.out.cells2
   obtain ⟨e2,e3⟩:=BH.out.cells2
   obtain ⟨f0,f1,-⟩:=BL.out.frozs
   obtain ⟨f2,f3,-⟩:=BH.out.frozs
   go_wp2_with fail
   go_region
   replace BL:=Lib.hid BL.out.drew
   replace BH:=Lib.hid BH.out.drew
   replace M:=Lib.hid (M.out.drew)
   have MS1:=set2_mod (Mod.refl [gk+1] wa.drew) (gk+1) ⟨et,0⟩ (fun _=>by simp)
   have BX:=set2_blk BL.out ⟨et,0⟩
   have BY:=set2_blk (BH.out.mod MS1 (by simp)) ⟨et,0⟩
   have MS2:=set2_mod (Mod.refl [gk+1+1] (set2 wa.drew (gk+1) ⟨et,0⟩)) (gk+1+1) ⟨et,0⟩ (fun _=>by simp)
   replace BX:=BX.mod MS2 (by simp)
   have MS:=Lib.hid ((MS1.mono (S':=[gk+1,gk+1+1]) (by intro k _ h;simp at h;simp [h])).trans MS2 (by intro k _ h;simp at h;simp [h]))
   change Exit.then _ _ _ _ (set2 (set2 wa.drew (gk+1) ⟨et,0⟩) (gk+1+1) ⟨et,0⟩)
   generalize set2 (set2 wa.drew (gk+1) ⟨et,0⟩) (gk+1+1) ⟨et,0⟩=X at *
   obtain ⟨g0,g1⟩:=BX.cells2
   obtain ⟨g2,g3⟩:=BY.cells2
   clear e0 e1 e2 e3 f0 f1 f2 f3 BX BY MS1 MS2
   simp only at g0 g1 g2 g3
   go_wp2_with fail
   refine bodyPost_ret (by simp [results,Tryz.results165,g0,g1,g2,g3,go_sem];try rfl) rfl ?_
   rw [hv.out]
   exact ⟨rfl,F,(HS.out.mod M.out (by simp)).mod MS.out (fun k hk=>by simp;exact ⟨fun h=>hF1 (h▸hk),fun h=>hF2 (h▸hk)⟩),(M.out.mono (by intro k _ h;simp at h)).trans MS.out (by intro k h h2;simp at h2;omega),fun k hk=>.inl hk⟩
  ·have hz1:((ea:Int)==0)=false:=by rw [beq_eq_false_iff_ne];omega
   have hz2:decide ((l:Int) < et)=true:=by simp;omega
   obtain ⟨e0,e1⟩:=BL.out.cells2
   obtain ⟨e2,e3⟩:=BH.out.cells2
   obtain ⟨f0,f1,-⟩:=BL.out.frozs
   obtain ⟨f2,f3,-⟩:=BH.out.frozs
   go_wp2_with fail
   go_region
   replace BL:=Lib.hid BL.out.drew
   replace BH:=Lib.hid BH.out.drew
   replace M:=Lib.hid (M.out.drew)
   have MS1:=set2_mod (Mod.refl [gk+1] wa.drew) (gk+1) ⟨et,ea⟩ (fun _=>by simp)
   have BX:=set2_blk BL.out ⟨et,ea⟩
   have BY:=set2_blk (BH.out.mod MS1 (by simp)) ⟨et,ea⟩
   have MS2:=set2_mod (Mod.refl [gk+1+1] (set2 wa.drew (gk+1) ⟨et,ea⟩)) (gk+1+1) ⟨et,ea⟩ (fun _=>by simp)
   replace BX:=BX.mod MS2 (by simp)
   have MS:=Lib.hid ((MS1.mono (S':=[gk+1,gk+1+1]) (by intro k _ h;simp at h;simp [h])).trans MS2 (by intro k _ h;simp at h;simp [h]))
   change Exit.then _ _ _ _ (set2 (set2 wa.drew (gk+1) ⟨et,ea⟩) (gk+1+1) ⟨et,ea⟩)
   generalize set2 (set2 wa.drew (gk+1) ⟨et,ea⟩) (gk+1+1) ⟨et,ea⟩=X at *
   obtain ⟨g0,g1⟩:=BX.cells2
   obtain ⟨g2,g3⟩:=BY.cells2
   clear e0 e1 e2 e3 f0 f1 f2 f3 BX BY MS1 MS2
   simp only at g0 g1 g2 g3
   go_wp2_with fail
   refine bodyPost_ret (by simp [results,Tryz.results165,g0,g1,g2,g3,go_sem];try rfl) rfl ?_
   rw [hv.out]
   exact ⟨rfl,F,(HS.out.mod M.out (by simp)).mod MS.out (fun k hk=>by simp;exact ⟨fun h=>hF1 (h▸hk),fun h=>hF2 (h▸hk)⟩),(M.out.mono (by intro k _ h;simp at h)).trans MS.out (by intro k h h2;simp at h2;omega),fun k hk=>.inl hk⟩
 have hz1:((ea:Int)==0)=false:=by rw [beq_eq_false_iff_ne];omega
 have hz2:decide ((l:Int) < et)=false:=by simp;omega
 have hno':¬((5:Nat)=5∧(ea=0∨l < et)):=fun h=>hno h.2
 cases hr:recAt L ea with
 | none=>
  have hv:=Lib.hid (show viewP L 5 l ⟨et,ea⟩=(L,(⟨l+1,ea⟩,⟨0,0⟩)) by unfold viewP;rw [if_neg hno'];simp only [hr];unfold pastV;simp)
  have GT:Hid (∀W,Mod [] w W→_):=fun W m=>stGet_none (HS.out.mod m (by simp)) (by omega) ea hea hr
  unfold rcv rc0 at GT
  simp only at GT
  try rw [show ((0:Nat):Int)=0 from rfl] at GT
  go_wp2_with fail
  refine (GT.out _ M1.out).mono ?_
  rintro e w2 ⟨rfl,m2⟩
  obtain ⟨gr,hgr⟩:∃gr,w2.heap.size=gr:=⟨_,rfl⟩
  have BQ:=Blk.new' w2 #[.int .u8 0,.int .u8 0,.int .u8 0,.int .u8 0,.int .u32 0,.int .u8 0,.int .u32 0] 108 gr hgr.symm
  have MX:=m2.alloc (.cells #[.int .u8 0,.int .u8 0,.int .u8 0,.int .u8 0,.int .u32 0,.int .u8 0,.int .u32 0] 108)
  have hzx:=m2.size
  replace M1:=Lib.hid (M1.out.trans' MX)
  replace BE:=BE.out.mod MX (by simp)
  replace BL:=Lib.hid (BL.out.mod MX (by simp))
  replace BH:=Lib.hid (BH.out.mod MX (by simp))
  obtain ⟨q0,q1⟩:=BE.cells2
  obtain ⟨r0,r1,r2,r3,r4,r5,r6⟩:=BQ.cells7
  have hrl:=BQ.lt
  have hel:=BE.lt
  have hll:=BL.out.lt
  have hhl:=BH.out.lt
  have gr1:¬gr=gk:=by omega
  have gr2:¬gk=gr:=by omega
  have gr3:¬gr=gk+1:=by omega
  have gr4:¬gk+1=gr:=by omega
  have gr5:¬gr=gk+1+1:=by omega
  have gr6:¬gk+1+1=gr:=by omega
  have M:=M1
  replace BE:=Lib.hid BE
  clear MX m2 GT M1
  replace BQ:=Lib.hid BQ
  obtain ⟨e0,e1⟩:=BL.out.cells2
  obtain ⟨e2,e3⟩:=BH.out.cells2
  obtain ⟨f0,f1,-⟩:=BL.out.frozs
  obtain ⟨f2,f3,-⟩:=BH.out.frozs
  go_wp2_with fail
  generalize w2.alloc (.cells #[.int .u8 0,.int .u8 0,.int .u8 0,.int .u8 0,.int .u32 0,.int .u8 0,.int .u32 0] 108)=w3 at *
  have MS1:=set2_mod (Mod.refl [gk+1] w3) (gk+1) ⟨l+1,ea⟩ (fun _=>by simp)
  have BX:=set2_blk BL.out ⟨l+1,ea⟩
  have BY:=set2_blk (BH.out.mod MS1 (by simp)) ⟨0,0⟩
  have MS2:=set2_mod (Mod.refl [gk+1+1] (set2 w3 (gk+1) ⟨l+1,ea⟩)) (gk+1+1) ⟨0,0⟩ (fun _=>by simp)
  replace BX:=BX.mod MS2 (by simp)
  have MS:=Lib.hid ((MS1.mono (S':=[gk+1,gk+1+1]) (by intro k _ h;simp at h;simp [h])).trans MS2 (by intro k _ h;simp at h;simp [h]))
  change bodyPost _ _ _ _ _ (set2 (set2 w3 (gk+1) ⟨l+1,ea⟩) (gk+1+1) ⟨0,0⟩)
  generalize set2 (set2 w3 (gk+1) ⟨l+1,ea⟩) (gk+1+1) ⟨0,0⟩=X at *
  obtain ⟨g0,g1⟩:=BX.cells2
  obtain ⟨g2,g3⟩:=BY.cells2
  clear e0 e1 e2 e3 f0 f1 f2 f3 BX BY MS1 MS2
  simp only at g0 g1 g2 g3
  refine bodyPost_ret (by simp [results,Tryz.results165,g0,g1,g2,g3,go_sem];try rfl) rfl ?_
  rw [hv.out]
  exact ⟨rfl,F,(HS.out.mod M.out (by simp)).mod MS.out (fun k hk=>by simp;exact ⟨fun h=>hF1 (h▸hk),fun h=>hF2 (h▸hk)⟩),(M.out.mono (by intro k _ h;simp at h)).trans MS.out (by intro k h h2;simp at h2;omega),fun k hk=>.inl hk⟩
 | some r=>
  have GT:Hid (∀W,Mod [] w W→_):=fun W m=>stGet_live (HS.out.mod m (by simp)) (by omega) ea r hr
  have hg:=HG.out ea r hr
  obtain ⟨hrf,hrl,htg,h16⟩:=HE.out.node hr
  have h16':(r.top:Int)≤16:=by omega
  have hb15:(r.bot:Int)≤16:=by have:=hg.right.bn;omega
  have hq1:(r.lo.t:Int)≤255:=by
   have:=hg.right.lo;have:=hg.right.bn
   by_cases h:r.f≠5∨r.lo.a=0
   ·have:=hg.right.lo.1 h;omega
   ·have:=hg.right.lo.2 (by omega) (by omega);omega
  have hq2:(r.hi.t:Int)≤255:=by
   have:=hg.right.hi;have:=hg.right.bn
   by_cases h:r.f≠5∨r.hi.a=0
   ·have:=hg.right.hi.1 h;omega
   ·have:=hg.right.hi.2 (by omega) (by omega);omega
  by_cases hlt:l < r.top
  ·have hv:=Lib.hid (show viewP L 5 l ⟨et,ea⟩=(L,(⟨l+1,ea⟩,⟨0,0⟩)) by unfold viewP;rw [if_neg hno'];simp only [hr,if_pos hlt];unfold pastV;simp)
   have hlt1:decide ((l:Int) < r.top)=true:=by simp;omega
   clear hg hr
   obtain ⟨qf,qt,qb,⟨qlt,qla⟩,⟨qht,qha⟩⟩:=r
   unfold rcv at GT
   clear hrf hrl htg h16
   simp only at GT h16' hb15 hq1 hq2 hlt hlt1 hv
   go_wp2_with fail
   refine (GT.out _ M1.out).mono ?_
   rintro e w2 ⟨rfl,m2⟩
   obtain ⟨gr,hgr⟩:∃gr,w2.heap.size=gr:=⟨_,rfl⟩
   have BQ:=Blk.new' w2 #[.int .u8 qf,.int .u8 qt,.int .u8 qb,.int .u8 qlt,.int .u32 qla,.int .u8 qht,.int .u32 qha] 108 gr hgr.symm
   have MX:=m2.alloc (.cells #[.int .u8 qf,.int .u8 qt,.int .u8 qb,.int .u8 qlt,.int .u32 qla,.int .u8 qht,.int .u32 qha] 108)
   have hzx:=m2.size
   replace M1:=Lib.hid (M1.out.trans' MX)
   replace BE:=BE.out.mod MX (by simp)
   replace BL:=Lib.hid (BL.out.mod MX (by simp))
   replace BH:=Lib.hid (BH.out.mod MX (by simp))
   obtain ⟨q0,q1⟩:=BE.cells2
   obtain ⟨r0,r1,r2,r3,r4,r5,r6⟩:=BQ.cells7
   have hrl:=BQ.lt
   have hel:=BE.lt
   have hll:=BL.out.lt
   have hhl:=BH.out.lt
   have gr1:¬gr=gk:=by omega
   have gr2:¬gk=gr:=by omega
   have gr3:¬gr=gk+1:=by omega
   have gr4:¬gk+1=gr:=by omega
   have gr5:¬gr=gk+1+1:=by omega
   have gr6:¬gk+1+1=gr:=by omega
   have M:=M1
   replace BE:=Lib.hid BE
   clear MX m2 GT M1
   replace BQ:=Lib.hid BQ
   obtain ⟨e0,e1⟩:=BL.out.cells2
   obtain ⟨e2,e3⟩:=BH.out.cells2
   obtain ⟨f0,f1,-⟩:=BL.out.frozs
   obtain ⟨f2,f3,-⟩:=BH.out.frozs
   go_wp2_with fail
   generalize w2.alloc (.cells #[.int .u8 qf,.int .u8 qt,.int .u8 qb,.int .u8 qlt,.int .u32 qla,.int .u8 qht,.int .u32 qha] 108)=w3 at *
   have MS1:=set2_mod (Mod.refl [gk+1] w3) (gk+1) ⟨l+1,ea⟩ (fun _=>by simp)
   have BX:=set2_blk BL.out ⟨l+1,ea⟩
   have BY:=set2_blk (BH.out.mod MS1 (by simp)) ⟨0,0⟩
   have MS2:=set2_mod (Mod.refl [gk+1+1] (set2 w3 (gk+1) ⟨l+1,ea⟩)) (gk+1+1) ⟨0,0⟩ (fun _=>by simp)
   replace BX:=BX.mod MS2 (by simp)
   have MS:=Lib.hid ((MS1.mono (S':=[gk+1,gk+1+1]) (by intro k _ h;simp at h;simp [h])).trans MS2 (by intro k _ h;simp at h;simp [h]))
   change bodyPost _ _ _ _ _ (set2 (set2 w3 (gk+1) ⟨l+1,ea⟩) (gk+1+1) ⟨0,0⟩)
   generalize set2 (set2 w3 (gk+1) ⟨l+1,ea⟩) (gk+1+1) ⟨0,0⟩=X at *
   obtain ⟨g0,g1⟩:=BX.cells2
   obtain ⟨g2,g3⟩:=BY.cells2
   clear e0 e1 e2 e3 f0 f1 f2 f3 BX BY MS1 MS2
   simp only at g0 g1 g2 g3
   refine bodyPost_ret (by simp [results,Tryz.results165,g0,g1,g2,g3,go_sem];try rfl) rfl ?_
   rw [hv.out]
   exact ⟨rfl,F,(HS.out.mod M.out (by simp)).mod MS.out (fun k hk=>by simp;exact ⟨fun h=>hF1 (h▸hk),fun h=>hF2 (h▸hk)⟩),(M.out.mono (by intro k _ h;simp at h)).trans MS.out (by intro k h h2;simp at h2;omega),fun k hk=>.inl hk⟩
  ·have htb:r.top=r.bot:=by rcases hg.right.ch with h | h | h<;>omega
   have hv:=Lib.hid (show viewP L 5 l ⟨et,ea⟩=(L,(r.lo,r.hi)) by unfold viewP;rw [if_neg hno'];simp only [hr,if_neg hlt,if_pos htb])
   have hlt1:decide ((l:Int) < r.top)=false:=by simp;omega
   clear hg hr
   obtain ⟨qf,qt,qb,⟨qlt,qla⟩,⟨qht,qha⟩⟩:=r
   unfold rcv at GT
   clear hrf hrl htg h16 htb
   simp only at GT h16' hb15 hq1 hq2 hlt hlt1 hv
   go_wp2_with fail
   refine (GT.out _ M1.out).mono ?_
   rintro e w2 ⟨rfl,m2⟩
   obtain ⟨gr,hgr⟩:∃gr,w2.heap.size=gr:=⟨_,rfl⟩
   have BQ:=Blk.new' w2 #[.int .u8 qf,.int .u8 qt,.int .u8 qb,.int .u8 qlt,.int .u32 qla,.int .u8 qht,.int .u32 qha] 108 gr hgr.symm
   have MX:=m2.alloc (.cells #[.int .u8 qf,.int .u8 qt,.int .u8 qb,.int .u8 qlt,.int .u32 qla,.int .u8 qht,.int .u32 qha] 108)
   have hzx:=m2.size
   replace M1:=Lib.hid (M1.out.trans' MX)
   replace BE:=BE.out.mod MX (by simp)
   replace BL:=Lib.hid (BL.out.mod MX (by simp))
   replace BH:=Lib.hid (BH.out.mod MX (by simp))
   obtain ⟨q0,q1⟩:=BE.cells2
   obtain ⟨r0,r1,r2,r3,r4,r5,r6⟩:=BQ.cells7
   have hrl:=BQ.lt
   have hel:=BE.lt
   have hll:=BL.out.lt
   have hhl:=BH.out.lt
   have gr1:¬gr=gk:=by omega
   have gr2:¬gk=gr:=by omega
   have gr3:¬gr=gk+1:=by omega
   have gr4:¬gk+1=gr:=by omega
   have gr5:¬gr=gk+1+1:=by omega
   have gr6:¬gk+1+1=gr:=by omega
   have M:=M1
   replace BE:=Lib.hid BE
   clear MX m2 GT M1
   replace BQ:=Lib.hid BQ
   obtain ⟨e0,e1⟩:=BL.out.cells2
   obtain ⟨e2,e3⟩:=BH.out.cells2
   obtain ⟨f0,f1,-⟩:=BL.out.frozs
   obtain ⟨f2,f3,-⟩:=BH.out.frozs
   go_wp2_with fail
   generalize w2.alloc (.cells #[.int .u8 qf,.int .u8 qt,.int .u8 qb,.int .u8 qlt,.int .u32 qla,.int .u8 qht,.int .u32 qha] 108)=w3 at *
   go_region
   replace BL:=Lib.hid BL.out.drew
   replace BH:=Lib.hid BH.out.drew
   replace M:=Lib.hid (M.out.drew)
   have MS1:=set2_mod (Mod.refl [gk+1] w3.drew) (gk+1) ⟨qlt,qla⟩ (fun _=>by simp)
   have BX:=set2_blk BL.out ⟨qlt,qla⟩
   have BY:=set2_blk (BH.out.mod MS1 (by simp)) ⟨qht,qha⟩
   have MS2:=set2_mod (Mod.refl [gk+1+1] (set2 w3.drew (gk+1) ⟨qlt,qla⟩)) (gk+1+1) ⟨qht,qha⟩ (fun _=>by simp)
   replace BX:=BX.mod MS2 (by simp)
   have MS:=Lib.hid ((MS1.mono (S':=[gk+1,gk+1+1]) (by intro k _ h;simp at h;simp [h])).trans MS2 (by intro k _ h;simp at h;simp [h]))
   change Exit.then _ _ _ _ (set2 (set2 w3.drew (gk+1) ⟨qlt,qla⟩) (gk+1+1) ⟨qht,qha⟩)
   generalize set2 (set2 w3.drew (gk+1) ⟨qlt,qla⟩) (gk+1+1) ⟨qht,qha⟩=X at *
   obtain ⟨g0,g1⟩:=BX.cells2
   obtain ⟨g2,g3⟩:=BY.cells2
   clear e0 e1 e2 e3 f0 f1 f2 f3 BX BY MS1 MS2
   simp only at g0 g1 g2 g3
   go_wp2_with fail
   refine bodyPost_ret (by simp [results,Tryz.results165,g0,g1,g2,g3,go_sem];try rfl) rfl ?_
   rw [hv.out]
   exact ⟨rfl,F,(HS.out.mod M.out (by simp)).mod MS.out (fun k hk=>by simp;exact ⟨fun h=>hF1 (h▸hk),fun h=>hF2 (h▸hk)⟩),(M.out.mono (by intro k _ h;simp at h)).trans MS.out (by intro k h h2;simp at h2;omega),fun k hk=>.inl hk⟩
open Go.RowKit
theorem canonView1_c {w:World} {b n:Nat} {L:List Rc} {room:Nat} {F:List Nat} (h:IsSt w b n L room F) (hL:L.length≤100000) (hroom:L.length < room) (hrm:room≤1048576) (hn:n≤16) (hG:Good L n) (l:Nat) (hl:l < n) (e:Ed)
 (he:LeadsP L 1 e l n):
 Calls Tryz.prog 145 #[.pointer (some ⟨b,0,none⟩),.int .u8 1,edv e,.int .i64 l] w fun r w'=>r=.returned (.tuple #[edv (viewP L 1 l e).2.1,edv (viewP L 1 l e).2.2,.int .u8 0])∧∃F',IsSt w' b n (viewP L 1 l e).1 room F'∧Mod F w w'∧∀k∈F',k∈F∨w.heap.size≤k:=by
 have MK:Hid (∀W,Mod [] w W→_):=fun W m=>bddView_c (h.mod m (by simp)) hL hroom hrm hn hG l hl e he
 have hbF:=h.lt
 clear h hG he
 obtain ⟨gk,hgk⟩:∃gk,w.heap.size=gk:=⟨_,rfl⟩
 have HLT:Hid (∀k∈F,k < gk):=fun k hk=>by have:=hbF k hk;omega
 clear hbF
 have hF1:gk+1∉F:=fun h=>by have:=HLT.out _ h;omega
 have hF2:gk+1+1∉F:=fun h=>by have:=HLT.out _ h;omega
 generalize (viewP L 1 l e).1=L2 at *
 generalize (viewP L 1 l e).2.1=lo at *
 generalize (viewP L 1 l e).2.2=hi at *
 obtain ⟨et,ea⟩:=e
 obtain ⟨lt,la⟩:=lo
 obtain ⟨ht,ha⟩:=hi
 unfold edv at *
 simp only at MK ⊢
 go_enter Tryz.func145,Tryz.ntmps145
 go_wp2_with fail
 have BL:=Blk.new' (w.alloc (.cells #[.int .u8 et,.int .u32 ea] 66)) #[.int .u8 0,.int .u32 0] 66 (gk+1) (by simp [hgk])
 have BH:=Blk.new' ((w.alloc (.cells #[.int .u8 et,.int .u32 ea] 66)).alloc (.cells #[.int .u8 0,.int .u32 0] 66)) #[.int .u8 0,.int .u32 0] 66 (gk+1+1) (by simp [hgk])
 have BL:=BL.alloc (.cells #[.int .u8 0,.int .u32 0] 66)
 have M0:Hid (Mod [] w (((w.alloc (.cells #[.int .u8 et,.int .u32 ea] 66)).alloc (.cells #[.int .u8 0,.int .u32 0] 66)).alloc (.cells #[.int .u8 0,.int .u32 0] 66))):=by exact mods
 have hsz:(((w.alloc (.cells #[.int .u8 et,.int .u32 ea] 66)).alloc (.cells #[.int .u8 0,.int .u32 0] 66)).alloc (.cells #[.int .u8 0,.int .u32 0] 66)).heap.size=gk+3:=by simp [hgk]
 generalize ((w.alloc (.cells #[.int .u8 et,.int .u32 ea] 66)).alloc (.cells #[.int .u8 0,.int .u32 0] 66)).alloc (.cells #[.int .u8 0,.int .u32 0] 66)=w0 at *
 refine (MK.out _ M0.out).mono ?_
 rintro e w3 ⟨rfl,F3,s3,m3,f3⟩
 have hk1:=BL.lt
 have hk2:=BH.lt
 have BL:=BL.mod m3 hF1
 have BH:=BH.mod m3 hF2
 obtain ⟨e0,e1⟩:=BL.cells2
 obtain ⟨e2,e3⟩:=BH.cells2
 obtain ⟨f0,f1,-⟩:=BL.frozs
 obtain ⟨f2,f3',-⟩:=BH.frozs
 have S3:=Lib.hid s3
 have F3':=Lib.hid f3
 have M2:=Lib.hid ((M0.out.mono (S':=F) (by intro k _ h;simp at h)).trans m3 (by intro k _ h;exact h))
 have BL:=Lib.hid BL
 have BH:=Lib.hid BH
 clear MK s3 f3 m3
 go_wp2_with fail
 have MS1:=set2_mod (Mod.refl [gk+1] w3) (gk+1) ⟨lt,la⟩ (fun _=>by simp)
 have BX:=set2_blk BL.out ⟨lt,la⟩
 have BY:=set2_blk (BH.out.mod MS1 (by simp)) ⟨ht,ha⟩
 have MS2:=set2_mod (Mod.refl [gk+1+1] (set2 w3 (gk+1) ⟨lt,la⟩)) (gk+1+1) ⟨ht,ha⟩ (fun _=>by simp)
 replace BX:=BX.mod MS2 (by simp)
 have MS:=Lib.hid ((MS1.mono (S':=[gk+1,gk+1+1]) (by intro k _ h;simp at h;simp [h])).trans MS2 (by intro k _ h;simp at h;simp [h]))
 change bodyPost _ _ _ _ _ (set2 (set2 w3 (gk+1) ⟨lt,la⟩) (gk+1+1) ⟨ht,ha⟩)
 generalize set2 (set2 w3 (gk+1) ⟨lt,la⟩) (gk+1+1) ⟨ht,ha⟩=X at *
 obtain ⟨g0,g1⟩:=BX.cells2
 obtain ⟨g2,g3⟩:=BY.cells2
 clear e0 e1 e2 e3 f0 f1 f2 f3' BX BY MS1 MS2
 simp only at g0 g1 g2 g3
 refine bodyPost_ret (by simp [results,Tryz.results145,g0,g1,g2,g3,go_sem];try rfl) rfl ?_
 refine ⟨rfl,F3,S3.out.mod MS.out (fun k hk=>?_),M2.out.trans MS.out (by intro k h h2;simp at h2;omega),fun k hk=>(F3'.out k hk).imp (fun h=>h) (fun h=>by omega)⟩
 simp;refine ⟨?_,?_⟩<;>(rintro rfl;rcases F3'.out _ hk with h | h;(first | exact hF1 h | exact hF2 h);omega)
theorem canonView2_c {w:World} {b n:Nat} {L:List Rc} {room:Nat} {F:List Nat} (h:IsSt w b n L room F) (hL:L.length≤100000) (hroom:L.length < room) (hrm:room≤1048576) (hn:n≤16) (hG:Good L n) (l:Nat) (hl:l < n) (e:Ed)
 (he:LeadsP L 2 e l n):
 Calls Tryz.prog 145 #[.pointer (some ⟨b,0,none⟩),.int .u8 2,edv e,.int .i64 l] w fun r w'=>r=.returned (.tuple #[edv (viewP L 2 l e).2.1,edv (viewP L 2 l e).2.2,.int .u8 0])∧∃F',IsSt w' b n (viewP L 2 l e).1 room F'∧Mod F w w'∧∀k∈F',k∈F∨w.heap.size≤k:=by
 have MK:Hid (∀W,Mod [] w W→_):=fun W m=>zddView_c (h.mod m (by simp)) hL hroom hrm hn hG l hl e he
 have hbF:=h.lt
 clear h hG he
 obtain ⟨gk,hgk⟩:∃gk,w.heap.size=gk:=⟨_,rfl⟩
 have HLT:Hid (∀k∈F,k < gk):=fun k hk=>by have:=hbF k hk;omega
 clear hbF
 have hF1:gk+1∉F:=fun h=>by have:=HLT.out _ h;omega
 have hF2:gk+1+1∉F:=fun h=>by have:=HLT.out _ h;omega
 generalize (viewP L 2 l e).1=L2 at *
 generalize (viewP L 2 l e).2.1=lo at *
 generalize (viewP L 2 l e).2.2=hi at *
 obtain ⟨et,ea⟩:=e
 obtain ⟨lt,la⟩:=lo
 obtain ⟨ht,ha⟩:=hi
 unfold edv at *
 simp only at MK ⊢
 go_enter Tryz.func145,Tryz.ntmps145
 go_wp2_with fail
 have BL:=Blk.new' (w.alloc (.cells #[.int .u8 et,.int .u32 ea] 66)) #[.int .u8 0,.int .u32 0] 66 (gk+1) (by simp [hgk])
 have BH:=Blk.new' ((w.alloc (.cells #[.int .u8 et,.int .u32 ea] 66)).alloc (.cells #[.int .u8 0,.int .u32 0] 66)) #[.int .u8 0,.int .u32 0] 66 (gk+1+1) (by simp [hgk])
 have BL:=BL.alloc (.cells #[.int .u8 0,.int .u32 0] 66)
 have M0:Hid (Mod [] w (((w.alloc (.cells #[.int .u8 et,.int .u32 ea] 66)).alloc (.cells #[.int .u8 0,.int .u32 0] 66)).alloc (.cells #[.int .u8 0,.int .u32 0] 66))):=by exact mods
 have hsz:(((w.alloc (.cells #[.int .u8 et,.int .u32 ea] 66)).alloc (.cells #[.int .u8 0,.int .u32 0] 66)).alloc (.cells #[.int .u8 0,.int .u32 0] 66)).heap.size=gk+3:=by simp [hgk]
 generalize ((w.alloc (.cells #[.int .u8 et,.int .u32 ea] 66)).alloc (.cells #[.int .u8 0,.int .u32 0] 66)).alloc (.cells #[.int .u8 0,.int .u32 0] 66)=w0 at *
 refine (MK.out _ M0.out).mono ?_
 rintro e w3 ⟨rfl,F3,s3,m3,f3⟩
 have hk1:=BL.lt
 have hk2:=BH.lt
 have BL:=BL.mod m3 hF1
 have BH:=BH.mod m3 hF2
 obtain ⟨e0,e1⟩:=BL.cells2
 obtain ⟨e2,e3⟩:=BH.cells2
 obtain ⟨f0,f1,-⟩:=BL.frozs
 obtain ⟨f2,f3',-⟩:=BH.frozs
 have S3:=Lib.hid s3
 have F3':=Lib.hid f3
 have M2:=Lib.hid ((M0.out.mono (S':=F) (by intro k _ h;simp at h)).trans m3 (by intro k _ h;exact h))
 have BL:=Lib.hid BL
 have BH:=Lib.hid BH
 clear MK s3 f3 m3
 go_wp2_with fail
 have MS1:=set2_mod (Mod.refl [gk+1] w3) (gk+1) ⟨lt,la⟩ (fun _=>by simp)
 have BX:=set2_blk BL.out ⟨lt,la⟩
 have BY:=set2_blk (BH.out.mod MS1 (by simp)) ⟨ht,ha⟩
 have MS2:=set2_mod (Mod.refl [gk+1+1] (set2 w3 (gk+1) ⟨lt,la⟩)) (gk+1+1) ⟨ht,ha⟩ (fun _=>by simp)
 replace BX:=BX.mod MS2 (by simp)
 have MS:=Lib.hid ((MS1.mono (S':=[gk+1,gk+1+1]) (by intro k _ h;simp at h;simp [h])).trans MS2 (by intro k _ h;simp at h;simp [h]))
 change bodyPost _ _ _ _ _ (set2 (set2 w3 (gk+1) ⟨lt,la⟩) (gk+1+1) ⟨ht,ha⟩)
 generalize set2 (set2 w3 (gk+1) ⟨lt,la⟩) (gk+1+1) ⟨ht,ha⟩=X at *
 obtain ⟨g0,g1⟩:=BX.cells2
 obtain ⟨g2,g3⟩:=BY.cells2
 clear e0 e1 e2 e3 f0 f1 f2 f3' BX BY MS1 MS2
 simp only at g0 g1 g2 g3
 refine bodyPost_ret (by simp [results,Tryz.results145,g0,g1,g2,g3,go_sem];try rfl) rfl ?_
 refine ⟨rfl,F3,S3.out.mod MS.out (fun k hk=>?_),M2.out.trans MS.out (by intro k h h2;simp at h2;omega),fun k hk=>(F3'.out k hk).imp (fun h=>h) (fun h=>by omega)⟩
 simp;refine ⟨?_,?_⟩<;>(rintro rfl;rcases F3'.out _ hk with h | h;(first | exact hF1 h | exact hF2 h);omega)
theorem canonView3_c {w:World} {b n:Nat} {L:List Rc} {room:Nat} {F:List Nat} (h:IsSt w b n L room F) (hL:L.length≤100000) (hroom:L.length < room) (hrm:room≤1048576) (hn:n≤16) (hG:Good L n) (l:Nat) (hl:l < n) (e:Ed)
 (he:LeadsP L 3 e l n):
 Calls Tryz.prog 145 #[.pointer (some ⟨b,0,none⟩),.int .u8 3,edv e,.int .i64 l] w fun r w'=>r=.returned (.tuple #[edv (viewP L 3 l e).2.1,edv (viewP L 3 l e).2.2,.int .u8 0])∧∃F',IsSt w' b n (viewP L 3 l e).1 room F'∧Mod F w w'∧∀k∈F',k∈F∨w.heap.size≤k:=by
 have MK:Hid (∀W,Mod [] w W→_):=fun W m=>cbddView_c (h.mod m (by simp)) hL hroom hrm hn hG l hl e he
 have hbF:=h.lt
 clear h hG he
 obtain ⟨gk,hgk⟩:∃gk,w.heap.size=gk:=⟨_,rfl⟩
 have HLT:Hid (∀k∈F,k < gk):=fun k hk=>by have:=hbF k hk;omega
 clear hbF
 have hF1:gk+1∉F:=fun h=>by have:=HLT.out _ h;omega
 have hF2:gk+1+1∉F:=fun h=>by have:=HLT.out _ h;omega
 generalize (viewP L 3 l e).1=L2 at *
 generalize (viewP L 3 l e).2.1=lo at *
 generalize (viewP L 3 l e).2.2=hi at *
 obtain ⟨et,ea⟩:=e
 obtain ⟨lt,la⟩:=lo
 obtain ⟨ht,ha⟩:=hi
 unfold edv at *
 simp only at MK ⊢
 go_enter Tryz.func145,Tryz.ntmps145
 go_wp2_with fail
 have BL:=Blk.new' (w.alloc (.cells #[.int .u8 et,.int .u32 ea] 66)) #[.int .u8 0,.int .u32 0] 66 (gk+1) (by simp [hgk])
 have BH:=Blk.new' ((w.alloc (.cells #[.int .u8 et,.int .u32 ea] 66)).alloc (.cells #[.int .u8 0,.int .u32 0] 66)) #[.int .u8 0,.int .u32 0] 66 (gk+1+1) (by simp [hgk])
 have BL:=BL.alloc (.cells #[.int .u8 0,.int .u32 0] 66)
 have M0:Hid (Mod [] w (((w.alloc (.cells #[.int .u8 et,.int .u32 ea] 66)).alloc (.cells #[.int .u8 0,.int .u32 0] 66)).alloc (.cells #[.int .u8 0,.int .u32 0] 66))):=by exact mods
 have hsz:(((w.alloc (.cells #[.int .u8 et,.int .u32 ea] 66)).alloc (.cells #[.int .u8 0,.int .u32 0] 66)).alloc (.cells #[.int .u8 0,.int .u32 0] 66)).heap.size=gk+3:=by simp [hgk]
 generalize ((w.alloc (.cells #[.int .u8 et,.int .u32 ea] 66)).alloc (.cells #[.int .u8 0,.int .u32 0] 66)).alloc (.cells #[.int .u8 0,.int .u32 0] 66)=w0 at *
 refine (MK.out _ M0.out).mono ?_
 rintro e w3 ⟨rfl,F3,s3,m3,f3⟩
 have hk1:=BL.lt
 have hk2:=BH.lt
 have BL:=BL.mod m3 hF1
 have BH:=BH.mod m3 hF2
 obtain ⟨e0,e1⟩:=BL.cells2
 obtain ⟨e2,e3⟩:=BH.cells2
 obtain ⟨f0,f1,-⟩:=BL.frozs
 obtain ⟨f2,f3',-⟩:=BH.frozs
 have S3:=Lib.hid s3
 have F3':=Lib.hid f3
 have M2:=Lib.hid ((M0.out.mono (S':=F) (by intro k _ h;simp at h)).trans m3 (by intro k _ h;exact h))
 have BL:=Lib.hid BL
 have BH:=Lib.hid BH
 clear MK s3 f3 m3
 go_wp2_with fail
 have MS1:=set2_mod (Mod.refl [gk+1] w3) (gk+1) ⟨lt,la⟩ (fun _=>by simp)
 have BX:=set2_blk BL.out ⟨lt,la⟩
 have BY:=set2_blk (BH.out.mod MS1 (by simp)) ⟨ht,ha⟩
 have MS2:=set2_mod (Mod.refl [gk+1+1] (set2 w3 (gk+1) ⟨lt,la⟩)) (gk+1+1) ⟨ht,ha⟩ (fun _=>by simp)
 replace BX:=BX.mod MS2 (by simp)
 have MS:=Lib.hid ((MS1.mono (S':=[gk+1,gk+1+1]) (by intro k _ h;simp at h;simp [h])).trans MS2 (by intro k _ h;simp at h;simp [h]))
 change bodyPost _ _ _ _ _ (set2 (set2 w3 (gk+1) ⟨lt,la⟩) (gk+1+1) ⟨ht,ha⟩)
 generalize set2 (set2 w3 (gk+1) ⟨lt,la⟩) (gk+1+1) ⟨ht,ha⟩=X at *
 obtain ⟨g0,g1⟩:=BX.cells2
 obtain ⟨g2,g3⟩:=BY.cells2
 clear e0 e1 e2 e3 f0 f1 f2 f3' BX BY MS1 MS2
 simp only at g0 g1 g2 g3
 refine bodyPost_ret (by simp [results,Tryz.results145,g0,g1,g2,g3,go_sem];try rfl) rfl ?_
 refine ⟨rfl,F3,S3.out.mod MS.out (fun k hk=>?_),M2.out.trans MS.out (by intro k h h2;simp at h2;omega),fun k hk=>(F3'.out k hk).imp (fun h=>h) (fun h=>by omega)⟩
 simp;refine ⟨?_,?_⟩<;>(rintro rfl;rcases F3'.out _ hk with h | h;(first | exact hF1 h | exact hF2 h);omega)
theorem canonView4_c {w:World} {b n:Nat} {L:List Rc} {room:Nat} {F:List Nat} (h:IsSt w b n L room F) (hL:L.length≤100000) (hroom:L.length < room) (hrm:room≤1048576) (hn:n≤16) (hG:Good L n) (l:Nat) (hl:l < n) (e:Ed)
 (he:LeadsP L 4 e l n):
 Calls Tryz.prog 145 #[.pointer (some ⟨b,0,none⟩),.int .u8 4,edv e,.int .i64 l] w fun r w'=>r=.returned (.tuple #[edv (viewP L 4 l e).2.1,edv (viewP L 4 l e).2.2,.int .u8 0])∧∃F',IsSt w' b n (viewP L 4 l e).1 room F'∧Mod F w w'∧∀k∈F',k∈F∨w.heap.size≤k:=by
 have MK:Hid (∀W,Mod [] w W→_):=fun W m=>czddView_c (h.mod m (by simp)) hL hroom hrm hn hG l hl e he
 have hbF:=h.lt
 clear h hG he
 obtain ⟨gk,hgk⟩:∃gk,w.heap.size=gk:=⟨_,rfl⟩
 have HLT:Hid (∀k∈F,k < gk):=fun k hk=>by have:=hbF k hk;omega
 clear hbF
 have hF1:gk+1∉F:=fun h=>by have:=HLT.out _ h;omega
 have hF2:gk+1+1∉F:=fun h=>by have:=HLT.out _ h;omega
 generalize (viewP L 4 l e).1=L2 at *
 generalize (viewP L 4 l e).2.1=lo at *
 generalize (viewP L 4 l e).2.2=hi at *
 obtain ⟨et,ea⟩:=e
 obtain ⟨lt,la⟩:=lo
 obtain ⟨ht,ha⟩:=hi
 unfold edv at *
 simp only at MK ⊢
 go_enter Tryz.func145,Tryz.ntmps145
 go_wp2_with fail
 have BL:=Blk.new' (w.alloc (.cells #[.int .u8 et,.int .u32 ea] 66)) #[.int .u8 0,.int .u32 0] 66 (gk+1) (by simp [hgk])
 have BH:=Blk.new' ((w.alloc (.cells #[.int .u8 et,.int .u32 ea] 66)).alloc (.cells #[.int .u8 0,.int .u32 0] 66)) #[.int .u8 0,.int .u32 0] 66 (gk+1+1) (by simp [hgk])
 have BL:=BL.alloc (.cells #[.int .u8 0,.int .u32 0] 66)
 have M0:Hid (Mod [] w (((w.alloc (.cells #[.int .u8 et,.int .u32 ea] 66)).alloc (.cells #[.int .u8 0,.int .u32 0] 66)).alloc (.cells #[.int .u8 0,.int .u32 0] 66))):=by exact mods
 have hsz:(((w.alloc (.cells #[.int .u8 et,.int .u32 ea] 66)).alloc (.cells #[.int .u8 0,.int .u32 0] 66)).alloc (.cells #[.int .u8 0,.int .u32 0] 66)).heap.size=gk+3:=by simp [hgk]
 generalize ((w.alloc (.cells #[.int .u8 et,.int .u32 ea] 66)).alloc (.cells #[.int .u8 0,.int .u32 0] 66)).alloc (.cells #[.int .u8 0,.int .u32 0] 66)=w0 at *
 refine (MK.out _ M0.out).mono ?_
 rintro e w3 ⟨rfl,F3,s3,m3,f3⟩
 have hk1:=BL.lt
 have hk2:=BH.lt
 have BL:=BL.mod m3 hF1
 have BH:=BH.mod m3 hF2
 obtain ⟨e0,e1⟩:=BL.cells2
 obtain ⟨e2,e3⟩:=BH.cells2
 obtain ⟨f0,f1,-⟩:=BL.frozs
 obtain ⟨f2,f3',-⟩:=BH.frozs
 have S3:=Lib.hid s3
 have F3':=Lib.hid f3
 have M2:=Lib.hid ((M0.out.mono (S':=F) (by intro k _ h;simp at h)).trans m3 (by intro k _ h;exact h))
 have BL:=Lib.hid BL
 have BH:=Lib.hid BH
 clear MK s3 f3 m3
 go_wp2_with fail
 have MS1:=set2_mod (Mod.refl [gk+1] w3) (gk+1) ⟨lt,la⟩ (fun _=>by simp)
 have BX:=set2_blk BL.out ⟨lt,la⟩
 have BY:=set2_blk (BH.out.mod MS1 (by simp)) ⟨ht,ha⟩
 have MS2:=set2_mod (Mod.refl [gk+1+1] (set2 w3 (gk+1) ⟨lt,la⟩)) (gk+1+1) ⟨ht,ha⟩ (fun _=>by simp)
 replace BX:=BX.mod MS2 (by simp)
 have MS:=Lib.hid ((MS1.mono (S':=[gk+1,gk+1+1]) (by intro k _ h;simp at h;simp [h])).trans MS2 (by intro k _ h;simp at h;simp [h]))
 change bodyPost _ _ _ _ _ (set2 (set2 w3 (gk+1) ⟨lt,la⟩) (gk+1+1) ⟨ht,ha⟩)
 generalize set2 (set2 w3 (gk+1) ⟨lt,la⟩) (gk+1+1) ⟨ht,ha⟩=X at *
 obtain ⟨g0,g1⟩:=BX.cells2
 obtain ⟨g2,g3⟩:=BY.cells2
 clear e0 e1 e2 e3 f0 f1 f2 f3' BX BY MS1 MS2
 simp only at g0 g1 g2 g3
 refine bodyPost_ret (by simp [results,Tryz.results145,g0,g1,g2,g3,go_sem];try rfl) rfl ?_
 refine ⟨rfl,F3,S3.out.mod MS.out (fun k hk=>?_),M2.out.trans MS.out (by intro k h h2;simp at h2;omega),fun k hk=>(F3'.out k hk).imp (fun h=>h) (fun h=>by omega)⟩
 simp;refine ⟨?_,?_⟩<;>(rintro rfl;rcases F3'.out _ hk with h | h;(first | exact hF1 h | exact hF2 h);omega)
theorem canonView5_c {w:World} {b n:Nat} {L:List Rc} {room:Nat} {F:List Nat} (h:IsSt w b n L room F) (hL:L.length≤100000) (hroom:L.length < room) (hrm:room≤1048576) (hn:n≤16) (hG:Good L n) (l:Nat) (hl:l < n) (e:Ed)
 (he:LeadsP L 5 e l n):
 Calls Tryz.prog 145 #[.pointer (some ⟨b,0,none⟩),.int .u8 5,edv e,.int .i64 l] w fun r w'=>r=.returned (.tuple #[edv (viewP L 5 l e).2.1,edv (viewP L 5 l e).2.2,.int .u8 0])∧∃F',IsSt w' b n (viewP L 5 l e).1 room F'∧Mod F w w'∧∀k∈F',k∈F∨w.heap.size≤k:=by
 have MK:Hid (∀W,Mod [] w W→_):=fun W m=>tbddView_c (h.mod m (by simp)) hL hroom hrm hn hG l hl e he
 have hbF:=h.lt
 clear h hG he
 obtain ⟨gk,hgk⟩:∃gk,w.heap.size=gk:=⟨_,rfl⟩
 have HLT:Hid (∀k∈F,k < gk):=fun k hk=>by have:=hbF k hk;omega
 clear hbF
 have hF1:gk+1∉F:=fun h=>by have:=HLT.out _ h;omega
 have hF2:gk+1+1∉F:=fun h=>by have:=HLT.out _ h;omega
 generalize (viewP L 5 l e).1=L2 at *
 generalize (viewP L 5 l e).2.1=lo at *
 generalize (viewP L 5 l e).2.2=hi at *
 obtain ⟨et,ea⟩:=e
 obtain ⟨lt,la⟩:=lo
 obtain ⟨ht,ha⟩:=hi
 unfold edv at *
 simp only at MK ⊢
 go_enter Tryz.func145,Tryz.ntmps145
 go_wp2_with fail
 have BL:=Blk.new' (w.alloc (.cells #[.int .u8 et,.int .u32 ea] 66)) #[.int .u8 0,.int .u32 0] 66 (gk+1) (by simp [hgk])
 have BH:=Blk.new' ((w.alloc (.cells #[.int .u8 et,.int .u32 ea] 66)).alloc (.cells #[.int .u8 0,.int .u32 0] 66)) #[.int .u8 0,.int .u32 0] 66 (gk+1+1) (by simp [hgk])
 have BL:=BL.alloc (.cells #[.int .u8 0,.int .u32 0] 66)
 have M0:Hid (Mod [] w (((w.alloc (.cells #[.int .u8 et,.int .u32 ea] 66)).alloc (.cells #[.int .u8 0,.int .u32 0] 66)).alloc (.cells #[.int .u8 0,.int .u32 0] 66))):=by exact mods
 have hsz:(((w.alloc (.cells #[.int .u8 et,.int .u32 ea] 66)).alloc (.cells #[.int .u8 0,.int .u32 0] 66)).alloc (.cells #[.int .u8 0,.int .u32 0] 66)).heap.size=gk+3:=by simp [hgk]
 generalize ((w.alloc (.cells #[.int .u8 et,.int .u32 ea] 66)).alloc (.cells #[.int .u8 0,.int .u32 0] 66)).alloc (.cells #[.int .u8 0,.int .u32 0] 66)=w0 at *
 refine (MK.out _ M0.out).mono ?_
 rintro e w3 ⟨rfl,F3,s3,m3,f3⟩
 have hk1:=BL.lt
 have hk2:=BH.lt
 have BL:=BL.mod m3 hF1
 have BH:=BH.mod m3 hF2
 obtain ⟨e0,e1⟩:=BL.cells2
 obtain ⟨e2,e3⟩:=BH.cells2
 obtain ⟨f0,f1,-⟩:=BL.frozs
 obtain ⟨f2,f3',-⟩:=BH.frozs
 have S3:=Lib.hid s3
 have F3':=Lib.hid f3
 have M2:=Lib.hid ((M0.out.mono (S':=F) (by intro k _ h;simp at h)).trans m3 (by intro k _ h;exact h))
 have BL:=Lib.hid BL
 have BH:=Lib.hid BH
 clear MK s3 f3 m3
 go_wp2_with fail
 have MS1:=set2_mod (Mod.refl [gk+1] w3) (gk+1) ⟨lt,la⟩ (fun _=>by simp)
 have BX:=set2_blk BL.out ⟨lt,la⟩
 have BY:=set2_blk (BH.out.mod MS1 (by simp)) ⟨ht,ha⟩
 have MS2:=set2_mod (Mod.refl [gk+1+1] (set2 w3 (gk+1) ⟨lt,la⟩)) (gk+1+1) ⟨ht,ha⟩ (fun _=>by simp)
 replace BX:=BX.mod MS2 (by simp)
 have MS:=Lib.hid ((MS1.mono (S':=[gk+1,gk+1+1]) (by intro k _ h;simp at h;simp [h])).trans MS2 (by intro k _ h;simp at h;simp [h]))
 change bodyPost _ _ _ _ _ (set2 (set2 w3 (gk+1) ⟨lt,la⟩) (gk+1+1) ⟨ht,ha⟩)
 generalize set2 (set2 w3 (gk+1) ⟨lt,la⟩) (gk+1+1) ⟨ht,ha⟩=X at *
 obtain ⟨g0,g1⟩:=BX.cells2
 obtain ⟨g2,g3⟩:=BY.cells2
 clear e0 e1 e2 e3 f0 f1 f2 f3' BX BY MS1 MS2
 simp only at g0 g1 g2 g3
 refine bodyPost_ret (by simp [results,Tryz.results145,g0,g1,g2,g3,go_sem];try rfl) rfl ?_
 refine ⟨rfl,F3,S3.out.mod MS.out (fun k hk=>?_),M2.out.trans MS.out (by intro k h h2;simp at h2;omega),fun k hk=>(F3'.out k hk).imp (fun h=>h) (fun h=>by omega)⟩
 simp;refine ⟨?_,?_⟩<;>(rintro rfl;rcases F3'.out _ hk with h | h;(first | exact hF1 h | exact hF2 h);omega)
theorem canonView_c (f:Nat) (h1:1≤f) (h5:f≤5) {w:World} {b n:Nat} {L:List Rc} {room:Nat} {F:List Nat} (h:IsSt w b n L room F) (hL:L.length≤100000) (hroom:L.length < room) (hrm:room≤1048576) (hn:n≤16) (hG:Good L n) (l:Nat) (hl:l < n) (e:Ed)
 (he:LeadsP L f e l n):
 Calls Tryz.prog 145 #[.pointer (some ⟨b,0,none⟩),.int .u8 f,edv e,.int .i64 l] w fun r w'=>r=.returned (.tuple #[edv (viewP L f l e).2.1,edv (viewP L f l e).2.2,.int .u8 0])∧∃F',IsSt w' b n (viewP L f l e).1 room F'∧Mod F w w'∧∀k∈F',k∈F∨w.heap.size≤k:=by
 obtain rfl | rfl | rfl | rfl | rfl:f=1∨f=2∨f=3∨f=4∨f=5:=by omega
 ·exact canonView1_c h hL hroom hrm hn hG l hl e he
 ·exact canonView2_c h hL hroom hrm hn hG l hl e he
 ·exact canonView3_c h hL hroom hrm hn hG l hl e he
 ·exact canonView4_c h hL hroom hrm hn hG l hl e he
 ·exact canonView5_c h hL hroom hrm hn hG l hl e he
open Go.RowKit
structure Sto (w:World) (b n room:Nat) (L:List Rc) (F:List Nat):Prop where
 st:IsSt w b n L room F
 good:Good L n
 nd:L.Nodup
theorem Sto.mod {S:List Nat} {w w':World} {b n room:Nat} {L:List Rc} {F:List Nat} (h:Sto w b n room L F) (m:Mod S w w') (hd:∀k∈F,k∉S):Sto w' b n room L F:=⟨h.st.mod m hd,h.good,h.nd⟩
structure Grow (w w':World) (F F':List Nat):Prop where
 mod:Mod F w w'
 own:∀k∈F',k∈F∨w.heap.size≤k
theorem Grow.refl (w:World) (F:List Nat):Grow w w F F:=⟨Mod.refl _ _,fun _ h=>.inl h⟩
theorem Grow.trans {a b c:World} {F F' F'':List Nat} (h:Grow a b F F') (k:Grow b c F' F''):Grow a c F F'':=
 ⟨h.mod.trans k.mod (fun i hi hm=>(h.own i hm).elim (fun h=>h) (fun h=>by omega)),fun i hi=>(k.own i hi).elim (h.own i) (fun q=>.inr (by have:=h.mod.size;omega))⟩
theorem Grow.of_mod {w w':World} {F:List Nat} (m:Mod [] w w'):Grow w w' F F:=⟨m.mono (by simp),fun _ h=>.inl h⟩
theorem Grow.then {a b c:World} {F F':List Nat} (h:Grow a b F F') (m:Mod [] b c):Grow a c F F':=h.trans (Grow.of_mod m)
theorem Grow.out {w w':World} {F F':List Nat} (h:Grow w w' F F') {k:Nat} (hk:k < w.heap.size) (hn:k∉F):k∉F':=fun q=>(h.own k q).elim hn (fun q=>by omega)
theorem Grow.write {a b c:World} {F F' S:List Nat} (h:Grow a b F F') (m:Mod S b c) (hS:∀k∈S,a.heap.size≤k):Grow a c F F':=
 ⟨h.mod.trans m (fun i hi hm=>by have:=hS i hm;omega),h.own⟩
theorem Grow.size {w w':World} {F F':List Nat} (h:Grow w w' F F'):w.heap.size≤w'.heap.size:=h.mod.size
structure EdT (L:List Rc) (f n k l:Nat) (e:Ed) (t:List Bool):Prop where
 rep:RepE L f e (buildE f n k l t)
 lead:LeadsP L f e l n
 len:t.length=2 ^ k
 lk:l+k=n
theorem EdT.grow {L:List Rc} {f n k l:Nat} {e:Ed} {t:List Bool} (h:EdT L f n k l e t) (L2:List Rc):EdT (L++L2) f n k l e t:=⟨h.rep.grow L2,h.lead.grow L2,h.len,h.lk⟩
theorem EdT.fun_ {L:List Rc} {f n k k' l:Nat} (h1:1≤f) (h5:f≤5) {e:Ed} {t t':List Bool} (h:EdT L f n k l e t) (h':EdT L f n k' l e t'):k=k'∧t=t':=by
 obtain rfl:k=k':=by have:=h.lk;have:=h'.lk;omega
 refine ⟨rfl,build_inj h1 h5 k l t t' h.lk h.len h'.len ?_⟩
 have e1:=h.rep.t
 have e2:=h'.rep.t
 exact Prod.ext (e1.symm.trans e2) (Rep.fun_ h.rep.a h'.rep.a)
open Go.RowKit
open Go.RowKit
open Go.RowKit
open Go.RowKit
theorem bit_one_16 (m:Nat) (hm:m < 65536):bits .and .u16 (m:Int) 1=((m % 2:Nat):Int):=by
 have e:(BitVec.ofInt 16 (m:Int) &&& BitVec.ofInt 16 1).toNat=m % 2:=by
  have e1:BitVec.ofInt 16 (m:Int)=BitVec.ofNat 16 m:=BitVec.ofInt_natCast ..
  have e2:BitVec.ofInt 16 1=BitVec.ofNat 16 1:=rfl
  rw [e1,e2,BitVec.toNat_and,BitVec.toNat_ofNat,BitVec.toNat_ofNat,Nat.mod_eq_of_lt (by omega)]
  exact Nat.and_one_is_mod m
 show IntKind.u16.wrap ((BitVec.ofInt 16 (m:Int) &&& BitVec.ofInt 16 1).toNat:Int)=_
 rw [e]
 have:m % 2 < 2:=Nat.mod_lt _ (by omega)
 show ((m % 2:Nat):Int) % 65536=_
 omega
theorem bit_at_16 (W x:Nat) (hW:W < 65536):(bits .and .u16 ((W:Int) / 2 ^ x) 1==1)=W.testBit x:=by
 have e1:(W:Int) / 2 ^ x=((W / 2 ^ x:Nat):Int):=by
  rw [Int.natCast_ediv];simp
 rw [e1,bit_one_16 _ (Nat.lt_of_le_of_lt (Nat.div_le_self _ _) hW)]
 have h:W.testBit x=decide (W / 2 ^ x % 2=1):=by
  rw [Nat.testBit_eq_decide_div_mod_eq]
 rw [h]
 by_cases q:W / 2 ^ x % 2=1
 ·rw [q];simp
 ·have:W / 2 ^ x % 2=0:=by omega
  rw [this];simp
def clearN (x a:Nat):Nat→Bool
 | 0=>true
 | d+1=> !x.testBit a && clearN x (a+1) d
theorem clear_c (x a d:Nat) (hx:x < 65536) (ha:a+d≤64) (w:World):Calls Tryz.prog 94 #[.int .u16 x,.int .i64 a,.int .i64 ((a+d:Nat):Int)] w fun e w'=>e=.returned (.bool (clearN x a d))∧w'=w:=by
 obtain ⟨b,hb⟩:∃b,a+d=b:=⟨_,rfl⟩
 have BT:Hid (∀k:Nat,(bits .and .u16 ((x:Int) / 2 ^ min k 16) 1==1)=x.testBit k):=fun k=>by
  rw [bit_at_16 x _ hx]
  by_cases h:k≤16
  ·rw [Nat.min_eq_left h]
  ·rw [Nat.min_eq_right (by omega),Nat.testBit_lt_two_pow (i:=16) (by omega),Nat.testBit_lt_two_pow]
   exact Nat.lt_of_lt_of_le hx (Nat.pow_le_pow_right (n:=2) (by omega) (show 16≤k by omega))
 rw [hb]
 have h0:Hid (clearN x a d=clearN x a (b - a)):=by show _=_;rw [show b - a=d by omega]
 rw [h0.out]
 obtain ⟨r,hr⟩:∃r,clearN x a (b - a)=r:=⟨_,rfl⟩
 rw [hr]
 have HR:=Lib.hid hr
 have hab:a≤b:=by omega
 have hb64:b≤64:=by omega
 clear hb hr h0 ha
 go_enter Tryz.func94,Tryz.ntmps94
 go_wp2_with fail
 go_loop [7] (fun i=>∃k:Nat,k≤b∧i=.int .i64 k∧Hid (clearN x k (b - k)=r)) (fun i=>b - (intOf i).toNat)
 case atStart=>exact ⟨a,hab,rfl,HR.out⟩
 case round=>
  obtain ⟨k,hk,rfl,HC⟩:=hrel
  by_cases hkb:k=b
  ·subst hkb
   have hc:r=true:=by have:=HC.out;rw [Nat.sub_self,clearN] at this;exact this.symm
   subst hc
   go_wp2_with fail
   go_ret
   exact ⟨by first | rfl | simp,rfl⟩
  ·have hlt:(k:Int) < b:=by omega
   have hk0:(0:Int)≤k:=by omega
   have hk64:(k:Int) < 64:=by omega
   have e:b - k=(b - (k+1))+1:=by omega
   have B:=BT.out k
   cases hx:x.testBit k with
   | true=>
    rw [hx] at B
    have hc:r=false:=by have:=HC.out;rw [e,clearN,hx] at this;exact this.symm
    subst hc
    clear hx e
    go_wp2_with fail
    go_ret
    exact ⟨by first | rfl | simp,rfl⟩
   | false=>
    rw [hx] at B
    have HC2:Hid (clearN x (k+1) (b - (k+1))=r):=by show _=_;have:=HC.out;rw [e,clearN,hx] at this;simpa using this
    clear hx e HC
    go_wp2_with fail
    go_round
    case rel=>exact ⟨k+1,by omega,by first | rfl | (simp;try omega),HC2⟩
    case measure=>simp [intOf];omega
open Go.RowKit
def FromC (bb b bo n f g cap W:Nat) (p q Fo:List Nat) (room k l:Nat):Prop:=
 ∀(w:World) (L:List Rc) (F:List Nat) (x:Nat),BSt w bb b bo n f g cap W p q Fo→IsSt w b n L room F→(∀k∈bb::g::Fo,k∉F)→Good L n→L.Nodup→L.length+2 ^ k≤room→L.length+2 ^ k≤100000→x < 2 ^ n→
  Calls Tryz.prog 60 #[.pointer (some ⟨bb,0,none⟩),.int .i64 l,.int .i64 x] w (FromP w b n room L F f l k (buildE f n k l (tabL W p k l x)))
theorem from_succ {bb b bo n f g cap W:Nat} {p q Fo:List Nat} {room k l:Nat} (hlk:l+(k+1)=n) (h1:1≤f) (h5:f≤5) (hn:n≤5) (hp:p.length=n) (hpv:∀v∈p,v < n) (hrm:room≤1048576)
 (ih:FromC bb b bo n f g cap W p q Fo room k (l+1)):FromC bb b bo n f g cap W p q Fo room (k+1) l:=by
 intro w L F x hB hS hd hG hnd hr1 hr2 hx
 have hF:=hS.lt
 have hpk:2 ^ (k+1)=2 ^ k+2 ^ k:=by rw [Nat.pow_succ];omega
 have hpk0:=Nat.two_pow_pos k
 have hl:l < p.length:=by omega
 obtain ⟨v,hv⟩:∃v,p[l]=v:=⟨_,rfl⟩
 have hvn:v < n:=by rw [←hv];exact hpv _ (List.getElem_mem _)
 have hgd:p.getD l 0=v:=by rw [List.getD_eq_getElem?_getD,List.getElem?_eq_getElem hl];exact hv
 have hx32:2 ^ n≤32:=by have:=Nat.pow_le_pow_right (n:=2) (by omega) hn;simpa using this
 have hx2:x ||| 2 ^ v < 2 ^ n:=Nat.or_lt_two_pow hx (Nat.pow_lt_pow_right (by omega) hvn)
 have OR:=Lib.hid (or_pow' (x:=x) (v:=v) (by omega) (by omega))
 have eT:buildE f n (k+1) l (tabL W p (k+1) l x)=mkE f l (buildE f n k (l+1) (tabL W p k (l+1) x)) (buildE f n k (l+1) (tabL W p k (l+1) (x ||| 2 ^ v))):=by
  rw [buildE,tabL,hgd]
  rw [List.take_append_of_le_length (by rw [tabL_len];exact Nat.le_refl _),List.drop_append_of_le_length (by rw [tabL_len];exact Nat.le_refl _),List.take_of_length_le (by rw [tabL_len];exact Nat.le_refl _),List.drop_of_length_le (by rw [tabL_len];exact Nat.le_refl _)]
  simp
 rw [eT]
 have FR1:Hid (∀W',Mod [] w W'→Calls Tryz.prog 60 #[.pointer (some ⟨bb,0,none⟩),.int .i64 ((l:Int)+1),.int .i64 x] W' (FromP W' b n room L F f (l+1) k (buildE f n k (l+1) (tabL W p k (l+1) x)))):=fun W' m=>by
  have:=ih W' L F x (hB.mod m (by simp)) (hS.mod m (by simp)) hd hG hnd (by omega) (by omega) hx
  simpa using this
 have FR2:Hid (∀(W':World) (L':List Rc) (F':List Nat),BSt W' bb b bo n f g cap W p q Fo→IsSt W' b n L' room F'→(∀k∈bb::g::Fo,k∉F')→Good L' n→L'.Nodup→L'.length+2 ^ k≤room→L'.length+2 ^ k≤100000→
  Calls Tryz.prog 60 #[.pointer (some ⟨bb,0,none⟩),.int .i64 ((l:Int)+1),.int .i64 ((x ||| 2 ^ v:Nat):Int)] W' (FromP W' b n room L' F' f (l+1) k (buildE f n k (l+1) (tabL W p k (l+1) (x ||| 2 ^ v))))):=fun W' L' F' a1 a2 a3 a4 a5 a6 a7=>by
  have:=ih W' L' F' (x ||| 2 ^ v) a1 a2 a3 a4 a5 a6 a7 hx2
  simpa using this
 have VA:Hid (∀W',Mod [] w W'→Calls Tryz.prog 59 #[.pointer (some ⟨b,0,none⟩)] W' fun e w'=>e=.returned (.int .i64 n)∧w'=W'):=fun W' m=>by
  obtain ⟨ba,bi,Fa,c0,_⟩:=(hS.mod m (by simp)).own
  exact stVars_c b n W' c0
 have OV:Hid (∀(W':World),BSt W' bb b bo n f g cap W p q Fo→Calls Tryz.prog 89 #[.pointer (some ⟨bo,0,none⟩),.int .i64 l] W' fun e w'=>e=.returned (.int .i64 v)∧w'=W'):=fun W' hB'=>by
  have:=ordVar_c hB'.ord (by omega) l hl
  rw [hv] at this;exact this
 have HD:=Lib.hid hd
 have HF:=Lib.hid hF
 have HB:=Lib.hid hB
 have HBL:=Lib.hid hB.lt
 have hbl:=hB.bb.lt
 have hbF:bb∉F:=hd bb (by simp)
 have hr1':Hid (L.length+2 ^ (k+1)≤room∧L.length+2 ^ (k+1)≤100000∧2 ^ (k+1)=2 ^ k+2 ^ k):=⟨hr1,hr2,hpk⟩
 obtain ⟨k0,k1,k2,k3,k4⟩:=hB.bb.cells5
 have hln:((l:Int)==(n:Int))=false:=by rw [beq_eq_false_iff_ne];omega
 have hl5:(l:Int) < 5:=by omega
 have hv5:(v:Int) < 5:=by omega
 have hv0:(0:Int)≤v:=by omega
 obtain ⟨gk,hgk⟩:∃gk,w.heap.size=gk:=⟨_,rfl⟩
 have hbk:bb < gk:=by omega
 have hgF:gk∉F:=fun h=>by have:=hF _ h;omega
 have hne:¬bb=gk:=by omega
 have hne2:¬gk=bb:=by omega
 clear eT hv hgd hx hx2 hx32 hpv hd hF hS hB hG hnd hr1 hr2 hpk hpk0 hl ih hp
 generalize buildE f n k (l+1) (tabL W p k (l+1) x)=X1 at *
 generalize buildE f n k (l+1) (tabL W p k (l+1) (x ||| 2 ^ v))=X2 at *
 generalize x ||| 2 ^ v=y at *
 go_enter Tryz.func60,Tryz.ntmps60
 go_wp2_with fail
 refine (VA.out _ (by exact mods)).mono ?_
 rintro e w1 ⟨rfl,rfl⟩
 go_wp2_with fail
 refine (FR1.out _ (by exact mods)).mono ?_
 rintro e w2 ⟨⟨t1,a1⟩,L2,F2,rfl,s2,m2,f2,g2,nd2,le2,re2,len2⟩
 have M2:=Lib.hid (Mod.trans ((Mod.refl F w).alloc (.cells #[.int .u8 0,.int .u32 0] 66)) m2 (by intro i _ h;exact h))
 have BR:=Lib.hid ((Blk.new' w _ _ gk hgk.symm).mod m2 hgF)
 have B2:=Lib.hid (HB.out.mod M2.out HD.out)
 obtain ⟨k0,k1,k2,k3,k4⟩:=B2.out.bb.cells5
 have K2:=Lib.hid (And.intro s2 (And.intro f2 (And.intro g2 (And.intro nd2 (And.intro le2 (And.intro re2 len2))))))
 have hsz2:gk < w2.heap.size:=by have:=m2.size;simp at this;omega
 obtain ⟨gl,hgl⟩:∃gl,w2.heap.size=gl:=⟨_,rfl⟩
 have hb2:bb < gl:=by omega
 have hne3:¬bb=gl:=by omega
 have hne4:¬gl=bb:=by omega
 have HGK:=Lib.hid hgk
 clear s2 f2 g2 nd2 le2 re2 len2 m2 FR1 VA hgk
 unfold edv
 go_wp2_with fail
 refine (OV.out _ (B2.out.mod (S:=[]) (by exact mods) (by simp))).mono ?_
 rintro e w3 ⟨rfl,rfl⟩
 have hF2:∀i,i < w.heap.size→i∈F2→i∈F:=fun i hi h=>(K2.out.2.1 i h).elim (fun h=>h) (fun h=>by simp at h;omega)
 have hd2:∀k∈bb::g::Fo,k∉F2:=fun k hk h=>HD.out k hk (hF2 k (HBL.out k hk) h)
 have HF2:=Lib.hid hF2
 have HD2:=Lib.hid hd2
 clear hF2 hd2
 go_wp2_with fail
 rw [OR.out]
 have bd1:(L++L2).length+2 ^ k≤room:=by
  have h1:=K2.out.2.2.2.2.2.2
  have h2:=hr1'.out
  rw [List.length_append];omega
 have bd2:(L++L2).length+2 ^ k≤100000:=by
  have h1:=K2.out.2.2.2.2.2.2
  have h2:=hr1'.out
  rw [List.length_append];omega
 refine (FR2.out _ (L++L2) F2 (B2.out.mod (S:=[]) (by exact mods) (by simp)) (K2.out.1.mod (S:=[]) (by exact mods) (by simp)) HD2.out K2.out.2.2.1 K2.out.2.2.2.1 bd1 bd2).mono ?_
 clear bd1 bd2
 rintro e w5 ⟨⟨t2,a2⟩,L3,F3,rfl,s5,m5,f5,g5,nd5,le5,re5,len5⟩
 have lt2:=K2.out.1.lt
 have hglF2:gl∉F2:=fun h=>by have:=lt2 _ h;omega
 have hgkF2:gk∉F2:=fun h=>(K2.out.2.1 _ h).elim hgF (fun h=>by have:=HGK.out;simp at h;omega)
 have hsz5:gl < w5.heap.size:=by have:=m5.size;simp at this;omega
 have M5:=Lib.hid (M2.out.trans (((Mod.refl F2 w2).alloc (.cells #[.int .u8 t1,.int .u32 a1] 66)).trans' m5) HF2.out)
 have BR5:=Lib.hid ((BR.out.alloc (.cells #[.int .u8 t1,.int .u32 a1] 66)).mod m5 hgkF2)
 have BL5:=Lib.hid ((Blk.new' w2 #[.int .u8 t1,.int .u32 a1] 66 gl hgl.symm).mod m5 hglF2)
 have B5:=Lib.hid (HB.out.mod M5.out HD.out)
 have hF3:∀i,i∈F3→i∈F∨(w.heap.size≤i∧i≠gk∧i≠gl):=fun i h=>by
  rcases f5 i h with h | h
  ·rcases K2.out.2.1 i h with h2 | h2
   ·exact .inl h2
   ·have:=HGK.out;simp at h2;exact .inr ⟨by omega,by omega,by rintro rfl;exact hglF2 h⟩
  ·have:=HGK.out;simp at h;exact .inr ⟨by omega,by omega,by omega⟩
 have hbF3:bb∉F3:=fun h=>(hF3 _ h).elim hbF (fun h=>by omega)
 have hgkF3:gk∉F3:=fun h=>(hF3 _ h).elim hgF (fun h=>h.2.1 rfl)
 have hglF3:gl∉F3:=fun h=>(hF3 _ h).elim (fun h=>by have:=HF.out _ h;have:=HGK.out;omega) (fun h=>h.2.2 rfl)
 have HF3:=Lib.hid hF3
 have K5:=Lib.hid (And.intro s5 (And.intro f5 (And.intro g5 (And.intro nd5 (And.intro le5 (And.intro re5 len5))))))
 have le2':=K2.out.2.2.2.2.1
 have MK:Hid (∀W',Mod [] w5 W'→_):=fun W' m=>canonMake_c f h1 h5 (K5.out.1.mod m (by simp)) (by have h1:=K2.out.2.2.2.2.2.2;have h2:=hr1'.out;have h3:=len5;simp only [List.length_append];omega) (by have h1:=K2.out.2.2.2.2.2.2;have h2:=hr1'.out;have h3:=len5;simp only [List.length_append];omega) hrm (by omega) g5 l (by omega) ⟨t1,a1⟩ ⟨t2,a2⟩ (le2'.grow L3) le5
 have MR:=Lib.hid (mk_rep (f:=f) (l:=l) nd5 (K2.out.2.2.2.2.2.1.grow L3) re5)
 have MG:=Lib.hid (mkP_good g5 h1 h5 (show l < n by omega) (by omega) (le2'.grow L3) le5)
 obtain ⟨k0,k1,k2,k3,k4⟩:=B5.out.bb.cells5
 obtain ⟨p0,p1⟩:=BL5.out.cells2
 obtain ⟨gh,hgh⟩:∃gh,w5.heap.size=gh:=⟨_,rfl⟩
 have hne5:¬bb=gh:=by omega
 have hne6:¬gh=bb:=by omega
 have hne7:¬gl=gh:=by omega
 have hne8:¬gh=gl:=by omega
 have hb5:bb < gh:=by omega
 have hl5':gl < gh:=by omega
 have hk5:gk < gh:=by omega
 have hghF3:gh∉F3:=fun h=>by have:=s5.lt _ h;omega
 clear s5 f5 g5 nd5 le5 re5 len5 m5 lt2 le2' hF3 FR2 OV OR B2
 generalize hP:mkP ((L++L2)++L3) f l ⟨t1,a1⟩ ⟨t2,a2⟩=P at *
 obtain ⟨L4,rt,ra⟩:=P
 unfold edv at *
 simp only at MK MR MG
 have HP:=Lib.hid hP
 clear hP
 go_wp2_with fail
 have MQ:Hid (Mod [] w5 (w5.alloc (.cells #[.int .u8 t2,.int .u32 a2] 66))):=(Mod.refl _ _).alloc _
 have BH:=(Blk.new' w5 #[.int .u8 t2,.int .u32 a2] 66 gh hgh.symm)
 generalize w5.alloc (.cells #[.int .u8 t2,.int .u32 a2] 66)=wq at *
 have k0:=(MQ.out.cell (a:=⟨bb,0,none⟩) (by simp;omega) (by simp)).trans k0
 have k2:=(MQ.out.cell (a:=⟨bb,2,none⟩) (by simp;omega) (by simp)).trans k2
 have p0:=(MQ.out.cell (a:=⟨gl,0,none⟩) hsz5 (by simp)).trans p0
 have p1:=(MQ.out.cell (a:=⟨gl,1,none⟩) hsz5 (by simp)).trans p1
 obtain ⟨q0,q1⟩:=BH.cells2
 have zz:=MQ.out.size
 have hbw:bb < wq.heap.size:=by omega
 have hlw:gl < wq.heap.size:=by omega
 have hhw:=BH.lt
 have BRQ:=Lib.hid (BR5.out.mod MQ.out (by simp))
 clear BH zz
 have gn1:¬bb=gk:=by omega
 have gn2:¬gk=bb:=by omega
 have gn3:¬gl=gk:=by omega
 have gn4:¬gk=gl:=by omega
 have gn5:¬gh=gk:=by omega
 have gn6:¬gk=gh:=by omega
 clear hne hne2 hne3 hne4 hln hl5 hv5 hv0 hgh hgl hb2 hbk
 go_region_held3 (fun w'=>w'.cell? ⟨bb,0,none⟩=some (.pointer (some ⟨b,0,none⟩))∧w'.cell? ⟨bb,2,none⟩=some (.int .u8 f)∧w'.cell? ⟨gl,0,none⟩=some (.int .u8 t1)∧w'.cell? ⟨gl,1,none⟩=some (.int .u32 a1)∧w'.cell? ⟨gh,0,none⟩=some (.int .u8 t2)∧w'.cell? ⟨gh,1,none⟩=some (.int .u32 a2)) (go_keep) (first | (go_at_call 90;refine (MK.out _ (MQ.out.trans' (show Mod [] wq _ from by exact mods))).mono ?_;rintro e' w6 ⟨rfl,F4,s6,m_w6,f6⟩;have M_w6:=Mod.trans' (show Mod _ wq _ from by exact mods) m_w6;have k0:=(M_w6.cell (a:=⟨bb,0,none⟩) hbw (by first | assumption | (simp;done))).trans k0;have k2:=(M_w6.cell (a:=⟨bb,2,none⟩) hbw (by first | assumption | (simp;done))).trans k2;have p0:=(M_w6.cell (a:=⟨gl,0,none⟩) hlw (by first | assumption | (simp;done))).trans p0;have p1:=(M_w6.cell (a:=⟨gl,1,none⟩) hlw (by first | assumption | (simp;done))).trans p1;have q0:=(M_w6.cell (a:=⟨gh,0,none⟩) hhw (by first | assumption | (simp;done))).trans q0;have q1:=(M_w6.cell (a:=⟨gh,1,none⟩) hhw (by first | assumption | (simp;done))).trans q1;have hbw:=Nat.lt_of_lt_of_le hbw M_w6.size;have hlw:=Nat.lt_of_lt_of_le hlw M_w6.size;have hhw:=Nat.lt_of_lt_of_le hhw M_w6.size;have BRW:=BRQ.out.mod M_w6 hgkF3;obtain ⟨e0,e1⟩:=BRW.cells2;obtain ⟨g0,g1,-⟩:=BRW.frozs;replace BRW:=Lib.hid BRW))
 have BX:=set2_blk BRW.out ⟨rt,ra⟩
 obtain ⟨c0,c1⟩:=BX.cells2
 have MS:=Lib.hid (set2_mod (Mod.refl [gk] w6) gk ⟨rt,ra⟩ (fun _=>by simp))
 have S6:=Lib.hid s6
 have F6:=Lib.hid f6
 have M6:=Lib.hid (M5.out.trans ((MQ.out.mono (S':=F3) (by simp)).trans' M_w6) (fun i hi h=>(HF3.out i h).elim (fun h=>h) (fun h=>by omega)))
 have SZ:Hid (w.heap.size≤wq.heap.size):=by
  have h1:=M5.out.size
  have h2:=MQ.out.size
  show _≤_
  omega
 change Exit.then _ _ _ _ (set2 w6 gk ⟨rt,ra⟩)
 generalize set2 w6 gk ⟨rt,ra⟩=X at *
 clear e0 e1 g0 g1 BX s6 f6 m_w6 M_w6 k0 k2 p0 p1 q0 q1 BRW BRQ
 simp only at c0 c1
 go_wp2_with fail
 refine bodyPost_ret (by simp [results,Tryz.results60,c0,c1,go_sem];try rfl) rfl ?_
 obtain ⟨hG4,hle4,⟨L5,rfl⟩,hlen4⟩:=MG.out
 have hF4:∀k∈F4,k≠gk∧(k∈F∨w.heap.size≤k):=fun k hk=>by
  rcases F6.out k hk with h | h
  ·refine ⟨by rintro rfl;exact hgkF3 h,?_⟩
   exact (HF3.out k h).imp (fun h=>h) (fun h=>h.1)
  ·have h1:=SZ.out
   have h2:=MQ.out.size
   simp at h
   exact ⟨by omega,.inr (by omega)⟩
 have e2:L++L2++L3++L5=L++(L2++L3++L5):=by simp
 refine ⟨⟨rt,ra⟩,L2++L3++L5,F4,rfl,?_,?_,fun k hk=>(hF4 k hk).2,?_,?_,?_,?_,?_⟩
 ·rw [←e2];exact S6.out.mod MS.out (fun k hk=>by simp;exact (hF4 k hk).1)
 ·exact M6.out.trans MS.out (fun i hi h=>by have:=HGK.out;simp at h;omega)
 ·rw [←e2];exact hG4
 ·rw [←e2];exact MR.out.2
 ·rw [←e2];exact hle4
 ·rw [←e2];exact MR.out.1
 ·have h1:=K2.out.2.2.2.2.2.2
  have h2:=K5.out.2.2.2.2.2.2
  have h3:=hr1'.out.2.2
  simp only [List.length_append] at hlen4 ⊢
  omega
theorem from_c {bb b bo n f g cap W:Nat} {p q Fo:List Nat} {room:Nat} (h1:1≤f) (h5:f≤5) (hn:n≤5) (hp:p.length=n) (hpv:∀v∈p,v < n) (hrm:room≤1048576) (hW:W < 2 ^ (2 ^ n)):
 ∀k l,l+k=n→FromC bb b bo n f g cap W p q Fo room k l:=by
 intro k
 induction k with
 | zero=>
  intro l hl
  obtain rfl:l=n:=by omega
  intro w L F x hB hS hd hG hnd hr1 hr2 hx
  exact from_zero hB hS hd h1 h5 hn hW hG hnd x hx
 | succ k ih=>
  intro l hl
  exact from_succ hl h1 h5 hn hp hpv hrm (ih (l+1) (by omega))
open Go.RowKit
theorem buildMay_c (n f b bo:Nat) (h1:1≤f) (h5:f≤5) (w:World) (VA:Hid (Calls Tryz.prog 59 #[.pointer (some ⟨b,0,none⟩)] w fun e w'=>e=.returned (.int .i64 n)∧w'=w))
 (VO:Hid (Calls Tryz.prog 83 #[.pointer (some ⟨bo,0,none⟩)] w fun e w'=>e=.returned (.int .i64 n)∧w'=w)):
 Calls Tryz.prog 57 #[.pointer (some ⟨b,0,none⟩),.pointer (some ⟨bo,0,none⟩),.int .u8 f] w fun e w'=>e=.returned (.int .u8 0)∧w'=w:=by
 have IF:=Lib.hid (isForm_c f h1 h5 w)
 go_enter Tryz.func57,Tryz.ntmps57
 go_wp2_with fail
 refine VA.out.mono ?_
 rintro e w1 ⟨rfl,rfl⟩
 go_wp2_with fail
 refine VO.out.mono ?_
 rintro e w1 ⟨rfl,rfl⟩
 go_wp2_with fail
 refine IF.out.mono ?_
 rintro e w1 ⟨rfl,rfl⟩
 go_wp2_with fail
 go_ret
 exact ⟨rfl,rfl⟩
def OfP (w:World) (b n room:Nat) (F:List Nat) (L:List Rc) (f:Nat) (x:Nat × Tr) (e:Ending) (w':World):Prop:=
 ∃ed L2 F',e=.returned (.tuple #[edv ed,.int .u8 0])∧IsSt w' b n (L++L2) room F'∧Mod F w w'∧(∀k∈F',k∈F∨w.heap.size≤k)∧Good (L++L2) n∧(L++L2).Nodup∧LeadsP (L++L2) f ed 0 n∧RepE (L++L2) f ed x∧L2.length+1≤2 ^ n
theorem buildOf_c {w:World} {b bo n f g cap W room:Nat} {p q Fo F:List Nat} {L:List Rc} (hS:IsSt w b n L room F) (hO:IsOrd w bo p q Fo) (c0:w.cell? ⟨g,0,none⟩=some (.int .u64 W)) (hd:∀k∈g::Fo,k∉F)
 (h1:1≤f) (h5:f≤5) (hn:n≤5) (hp:p.length=n) (hpv:∀v∈p,v < n) (hrm:room≤1048576) (hW:W < 2 ^ (2 ^ n)) (hG:Good L n) (hnd:L.Nodup) (hr1:L.length+2 ^ n≤room) (hr2:L.length+2 ^ n≤100000):
 Calls Tryz.prog 30 #[.pointer (some ⟨b,0,none⟩),.pointer (some ⟨bo,0,none⟩),.int .u8 f,.agg #[.int .i64 n,.slice (some ⟨g,0,none⟩) 1 cap]] w (OfP w b n room F L f (buildE f n n 0 (tabL W p n 0 0))):=by
 have hgl:=World.block_lt_of_cell? w _ c0
 have hF:=hS.lt
 have hFo:=hO.lt
 simp only at hgl
 have VA:Hid (∀W',Mod [] w W'→Calls Tryz.prog 59 #[.pointer (some ⟨b,0,none⟩)] W' fun e w'=>e=.returned (.int .i64 n)∧w'=W'):=fun W' m=>by
  obtain ⟨ba,bi,Fa,c0,_⟩:=(hS.mod m (by simp)).own
  exact stVars_c b n W' c0
 have VO:Hid (∀W',Mod [] w W'→Calls Tryz.prog 83 #[.pointer (some ⟨bo,0,none⟩)] W' fun e w'=>e=.returned (.int .i64 n)∧w'=W'):=fun W' m=>by
  have:=ordVars_c (hO.mod m (by simp));rw [hp] at this;exact this
 have MY:Hid (∀W',Mod [] w W'→_):=fun W' m=>buildMay_c n f b bo h1 h5 W' (VA.out W' m) (VO.out W' m)
 have RT:Hid (∀W',Mod [] w W'→_):=fun W' m=>setRight_c n W g cap hn hW W' ((m.cell (a:=⟨g,0,none⟩) hgl (by simp)).trans c0)
 have FR:Hid (∀(W':World) (bb:Nat),Mod [] w W'→Blk W' bb #[.pointer (some ⟨b,0,none⟩),.pointer (some ⟨bo,0,none⟩),.int .u8 f,.int .i64 n,.slice (some ⟨g,0,none⟩) 1 cap] 147→w.heap.size≤bb→
  Calls Tryz.prog 60 #[.pointer (some ⟨bb,0,none⟩),.int .i64 0,.int .i64 0] W' (FromP W' b n room L F f 0 n (buildE f n n 0 (tabL W p n 0 0)))):=fun W' bb m hbb hge=>by
  have:=from_c (bb:=bb) (b:=b) (bo:=bo) (g:=g) (cap:=cap) (q:=q) (Fo:=Fo) h1 h5 hn hp hpv hrm hW n 0 (by omega) W' L F 0 ⟨hbb,(m.cell (a:=⟨g,0,none⟩) hgl (by simp)).trans c0,hO.mod m (by simp)⟩ (hS.mod m (by simp)) (by
   intro k hk
   rcases List.mem_cons.1 hk with rfl | hk
   ·intro h;have:=hF _ h;omega
   ·exact hd k hk) hG hnd hr1 hr2 (Nat.two_pow_pos n)
  simpa using this
 have HF:=Lib.hid hF
 obtain ⟨gk,hgk⟩:∃gk,w.heap.size=gk:=⟨_,rfl⟩
 clear hd hpv hW hG hnd hr1 hr2 hp hS hO hF hFo
 generalize buildE f n n 0 (tabL W p n 0 0)=X1 at *
 go_enter Tryz.func30,Tryz.ntmps30
 go_wp2_with fail
 refine (MY.out _ (by exact mods)).mono ?_
 rintro e w1 ⟨rfl,rfl⟩
 go_wp2_with fail
 have V2:Hid (∀W',Mod [] w W'→Calls Tryz.prog 59 #[.pointer (some ⟨b,0,none⟩)] W' fun e w'=>e=.returned (.int .i64 n)∧Mod [] W' w'):=fun W' m=>(VA.out W' m).mono (by rintro e w' ⟨rfl,rfl⟩;exact ⟨rfl,Mod.refl _ _⟩)
 have B0:=(Blk.new' w #[.int .i64 n,.slice (some ⟨g,0,none⟩) 1 cap] 39 gk hgk.symm).alloc (.cells #[.int .u8 0,.int .u32 0] 66)
 have B1:=Blk.new' (w.alloc (.cells #[.int .i64 n,.slice (some ⟨g,0,none⟩) 1 cap] 39)) #[.int .u8 0,.int .u32 0] 66 (gk+1) (by simp [hgk])
 have M0:Hid (Mod [] w ((w.alloc (.cells #[.int .i64 n,.slice (some ⟨g,0,none⟩) 1 cap] 39)).alloc (.cells #[.int .u8 0,.int .u32 0] 66))):=by exact mods
 have HGK:=Lib.hid hgk
 generalize (w.alloc (.cells #[.int .i64 n,.slice (some ⟨g,0,none⟩) 1 cap] 39)).alloc (.cells #[.int .u8 0,.int .u32 0] 66)=w0 at *
 obtain ⟨q0,q1⟩:=B0.cells2
 have hk:=B0.lt
 have hk1:=B1.lt
 have B1:=Lib.hid B1
 clear B0 MY VA VO hgk c0
 go_region_held3 (fun w'=>w'.cell? ⟨gk,0,none⟩=some (.int .i64 n)∧w'.cell? ⟨gk,1,none⟩=some (.slice (some ⟨g,0,none⟩) 1 cap)) (go_keep) (first | (go_at_call 58;refine (RT.out _ (M0.out.trans' (show Mod [] w0 _ from by exact mods))).mono ?_;rintro e' wa ⟨rfl,m_wa⟩;have M_wa:=Mod.trans' (show Mod _ w0 _ from by exact mods) m_wa;have q0:=(M_wa.cell (a:=⟨gk,0,none⟩) hk (by first | assumption | (simp;done))).trans q0;have q1:=(M_wa.cell (a:=⟨gk,1,none⟩) hk (by first | assumption | (simp;done))).trans q1;have hk:=Nat.lt_of_lt_of_le hk M_wa.size) | (go_at_call 59;refine (V2.out _ (M0.out.trans' (M_wa.trans' (show Mod [] wa _ from by exact mods)))).mono ?_;rintro e' wb ⟨rfl,m_wb⟩;have M_wb:=Mod.trans' (show Mod _ wa _ from by exact mods) m_wb;have q0:=(M_wb.cell (a:=⟨gk,0,none⟩) hk (by first | assumption | (simp;done))).trans q0;have q1:=(M_wb.cell (a:=⟨gk,1,none⟩) hk (by first | assumption | (simp;done))).trans q1;have hk:=Nat.lt_of_lt_of_le hk M_wb.size))
 have M1:=Lib.hid (M0.out.trans' (M_wa.trans' M_wb))
 have B2:=Lib.hid (B1.out.mod (M_wa.trans' M_wb) (by simp))
 clear m_wa m_wb M_wa M_wb RT V2 B1 M0
 obtain ⟨gb,hgb⟩:∃gb,wb.heap.size=gb:=⟨_,rfl⟩
 have hkb:gk < gb:=by omega
 have hne1:¬gk=gb:=by omega
 have hne2:¬gb=gk:=by omega
 go_wp2_with fail
 refine (FR.out _ gb (M1.out.trans' (show Mod [] wb _ from by exact mods)) (Blk.new' wb _ _ gb hgb.symm) (by have:=M1.out.size;omega)).mono ?_
 rintro e w5 ⟨⟨t2,a2⟩,L2,F2,rfl,s5,m5,f5,g5,nd5,le5,re5,len5⟩
 have hgF:gk+1∉F:=fun h=>by have:=HF.out _ h;have:=HGK.out;omega
 have B5:=Lib.hid (((B2.out).alloc (.cells #[.pointer (some ⟨b,0,none⟩),.pointer (some ⟨bo,0,none⟩),.int .u8 f,.int .i64 n,.slice (some ⟨g,0,none⟩) 1 cap] 147)).mod m5 hgF)
 have M5:=Lib.hid (((M1.out.trans' (show Mod [] wb (wb.alloc (.cells #[.pointer (some ⟨b,0,none⟩),.pointer (some ⟨bo,0,none⟩),.int .u8 f,.int .i64 n,.slice (some ⟨g,0,none⟩) 1 cap] 147)) from by exact mods)).mono (S':=F) (by simp)).trans' m5)
 have SZ:Hid (w.heap.size≤wb.heap.size∧gk+1 < wb.heap.size):=⟨M1.out.size,B2.out.lt⟩
 have K5:=Lib.hid (And.intro s5 (And.intro f5 (And.intro g5 (And.intro nd5 (And.intro le5 (And.intro re5 len5))))))
 obtain ⟨e0,e1⟩:=B5.out.cells2
 obtain ⟨f0,f1,-⟩:=B5.out.frozs
 clear s5 f5 g5 nd5 le5 re5 len5 m5 FR q0 q1
 unfold edv
 go_wp2_with fail
 have BX:=set2_blk B5.out ⟨t2,a2⟩
 obtain ⟨c0,c1⟩:=BX.cells2
 have MS:=Lib.hid (set2_mod (Mod.refl [gk+1] w5) (gk+1) ⟨t2,a2⟩ (fun _=>by simp))
 change bodyPost _ _ _ _ _ (set2 w5 (gk+1) ⟨t2,a2⟩)
 generalize set2 w5 (gk+1) ⟨t2,a2⟩=X at *
 clear e0 e1 f0 f1 BX
 simp only at c0 c1
 refine bodyPost_ret (by simp [results,Tryz.results30,c0,c1,go_sem];try rfl) rfl ?_
 obtain ⟨s5,f5,g5,nd5,le5,re5,len5⟩:=K5.out
 have hF2:∀k∈F2,k≠gk+1∧(k∈F∨w.heap.size≤k):=fun k hk=>by
  have h1:=SZ.out
  rcases f5 k hk with h | h
  ·exact ⟨by rintro rfl;exact hgF h,.inl h⟩
  ·simp at h;exact ⟨by omega,.inr (by omega)⟩
 exact ⟨⟨t2,a2⟩,L2,F2,rfl,s5.mod MS.out (fun k hk=>by simp;exact (hF2 k hk).1),M5.out.trans MS.out (fun i hi h=>by have:=HGK.out;simp at h;omega),fun k hk=>(hF2 k hk).2,g5,nd5,le5,re5,len5⟩
open Go.RowKit
def PtrP (w:World) (e:Ending) (w':World):Prop:=∃b,e=.returned (.tuple #[.pointer (some ⟨b,0,none⟩),.int .u8 0])∧Mod [] w w'∧w.heap.size≤b∧b < w'.heap.size
theorem shl_12:wrap64 (2 ^ 12)=4096:=by
 have e:(2:Int) ^ 12=4096:=by decide
 rw [e]
 unfold wrap64
 omega
theorem Tryz.infoKapply:(Tryz.prog.info? 239).map (fun i=>(i.zero,i.size,i.bytes))=some (some (.agg #[.int .u8 0,.int .u8 0,.int .u8 0,.int .u8 0,.int .u32 0,.int .u8 0,.int .u32 0,.int .u8 0,.int .u32 0,.int .u8 0,.int .u32 0,.int .i64 0]),12,48):=by kernel_rfl
theorem cache_apply_c (N:Nat) (j:Nat) (hj:j≤20) (h1:1≤N) (hN:N≤1048576) (hs:wrap64 (2 ^ j)=(N:Int)) (w:World):Calls Tryz.prog 52 #[.int .i64 j] w (PtrP w):=by
 obtain ⟨i0,hi,hz0,hz1,hz2⟩:=info_parts Tryz.infoKapply
 have hmk:∀w,(Instr.makeSlice 174 (.int .i64 N) (.int .i64 N)).run Tryz.prog w=.ok (.slice (some ⟨w.heap.size,0,none⟩) N N) (w.alloc (.cells (madeCells #[.int .u8 0,.int .u8 0,.int .u8 0,.int .u8 0,.int .u32 0,.int .u8 0,.int .u32 0,.int .u8 0,.int .u32 0,.int .u8 0,.int .u32 0,.int .i64 0] (N *12)) 239)):=by
  intro w
  have:=run_make (P:=Tryz.prog) w 174 239 i0 _ Tryz.underlying174 hi hz0 .i64 .i64 N N (by omega) (by omega) (by rw [hz2];omega) (by omega)
  simpa [hz1,Value.cells] using this
 clear hi hz0 hz1 hz2
 go_enter Tryz.func52,Tryz.ntmps52
 go_wp2
 go_ret2
 exact ⟨_,rfl,((Mod.refl _ _).alloc _).alloc _,by simp,by simp⟩
theorem cache_apply_12 (w:World):Calls Tryz.prog 52 #[.int .i64 12] w (PtrP w):=cache_apply_c 4096 12 (by omega) (by omega) (by omega) shl_12 w
theorem Tryz.infoKquant:(Tryz.prog.info? 337).map (fun i=>(i.zero,i.size,i.bytes))=some (some (.agg #[.int .u8 0,.int .u8 0,.int .u8 0,.int .u16 0,.int .u8 0,.int .u32 0,.int .u8 0,.int .u32 0,.int .u8 0,.int .u32 0,.int .i64 0]),11,40):=by kernel_rfl
theorem cache_quant_c (N:Nat) (j:Nat) (hj:j≤20) (h1:1≤N) (hN:N≤1048576) (hs:wrap64 (2 ^ j)=(N:Int)) (w:World):Calls Tryz.prog 53 #[.int .i64 j] w (PtrP w):=by
 obtain ⟨i0,hi,hz0,hz1,hz2⟩:=info_parts Tryz.infoKquant
 have hmk:∀w,(Instr.makeSlice 177 (.int .i64 N) (.int .i64 N)).run Tryz.prog w=.ok (.slice (some ⟨w.heap.size,0,none⟩) N N) (w.alloc (.cells (madeCells #[.int .u8 0,.int .u8 0,.int .u8 0,.int .u16 0,.int .u8 0,.int .u32 0,.int .u8 0,.int .u32 0,.int .u8 0,.int .u32 0,.int .i64 0] (N *11)) 337)):=by
  intro w
  have:=run_make (P:=Tryz.prog) w 177 337 i0 _ Tryz.underlying177 hi hz0 .i64 .i64 N N (by omega) (by omega) (by rw [hz2];omega) (by omega)
  simpa [hz1,Value.cells] using this
 clear hi hz0 hz1 hz2
 go_enter Tryz.func53,Tryz.ntmps53
 go_wp2
 go_ret2
 exact ⟨_,rfl,((Mod.refl _ _).alloc _).alloc _,by simp,by simp⟩
theorem cache_quant_12 (w:World):Calls Tryz.prog 53 #[.int .i64 12] w (PtrP w):=cache_quant_c 4096 12 (by omega) (by omega) (by omega) shl_12 w
theorem Tryz.infoKfamily:(Tryz.prog.info? 339).map (fun i=>(i.zero,i.size,i.bytes))=some (some (.agg #[.int .u8 0,.int .u8 0,.int .u8 0,.int .u8 0,.int .u8 0,.int .u32 0,.int .u8 0,.int .u32 0,.int .u8 0,.int .u32 0,.int .i64 0]),11,40):=by kernel_rfl
theorem cache_family_c (N:Nat) (j:Nat) (hj:j≤20) (h1:1≤N) (hN:N≤1048576) (hs:wrap64 (2 ^ j)=(N:Int)) (w:World):Calls Tryz.prog 55 #[.int .i64 j] w (PtrP w):=by
 obtain ⟨i0,hi,hz0,hz1,hz2⟩:=info_parts Tryz.infoKfamily
 have hmk:∀w,(Instr.makeSlice 180 (.int .i64 N) (.int .i64 N)).run Tryz.prog w=.ok (.slice (some ⟨w.heap.size,0,none⟩) N N) (w.alloc (.cells (madeCells #[.int .u8 0,.int .u8 0,.int .u8 0,.int .u8 0,.int .u8 0,.int .u32 0,.int .u8 0,.int .u32 0,.int .u8 0,.int .u32 0,.int .i64 0] (N *11)) 339)):=by
  intro w
  have:=run_make (P:=Tryz.prog) w 180 339 i0 _ Tryz.underlying180 hi hz0 .i64 .i64 N N (by omega) (by omega) (by rw [hz2];omega) (by omega)
  simpa [hz1,Value.cells] using this
 clear hi hz0 hz1 hz2
 go_enter Tryz.func55,Tryz.ntmps55
 go_wp2
 go_ret2
 exact ⟨_,rfl,((Mod.refl _ _).alloc _).alloc _,by simp,by simp⟩
theorem cache_family_12 (w:World):Calls Tryz.prog 55 #[.int .i64 12] w (PtrP w):=cache_family_c 4096 12 (by omega) (by omega) (by omega) shl_12 w
theorem applyNew_c (bs:Nat) (w:World):Calls Tryz.prog 25 #[.pointer (some ⟨bs,0,none⟩),.int .i64 12] w fun e w'=>∃b vk,e=.returned (.tuple #[.pointer (some ⟨b,0,none⟩),.int .u8 0])∧Blk w' b #[.pointer (some ⟨bs,0,none⟩),vk] 124∧Mod [] w w'∧w.heap.size≤b:=by
 have CN:Hid (∀w,_):=cache_apply_12
 go_enter Tryz.func25,Tryz.ntmps25
 go_wp2_with fail
 refine (CN.out _).mono ?_
 rintro e w1 ⟨b1,rfl,m1,h1,h2⟩
 go_wp2_with fail
 go_ret2
 exact ⟨_,_,rfl,Blk.new _ _ _,m1.alloc _,m1.size⟩
theorem opsStore_c {w:World} {b bs:Nat} {vk:Value} (h:Blk w b #[.pointer (some ⟨bs,0,none⟩),vk] 124):Calls Tryz.prog 54 #[.pointer (some ⟨b,0,none⟩)] w fun e w'=>e=.returned (.pointer (some ⟨bs,0,none⟩))∧w'=w:=by
 obtain ⟨c0,c1⟩:=h.cells2
 go_enter Tryz.func54,Tryz.ntmps54
 go_wp2_with fail
 go_ret
 exact ⟨rfl,rfl⟩
theorem quantNew_c {w:World} {bp bs:Nat} {vk:Value} (h:Blk w bp #[.pointer (some ⟨bs,0,none⟩),vk] 124):Calls Tryz.prog 26 #[.pointer (some ⟨bp,0,none⟩),.int .i64 12] w fun e w'=>∃b vq,e=.returned (.tuple #[.pointer (some ⟨b,0,none⟩),.int .u8 0])∧Blk w' b #[.pointer (some ⟨bp,0,none⟩),.pointer (some ⟨bs,0,none⟩),vq] 133∧Mod [] w w'∧w.heap.size≤b:=by
 have CN:Hid (∀w,_):=cache_quant_12
 have OS:Hid (∀W,Mod [] w W→Calls Tryz.prog 54 #[.pointer (some ⟨bp,0,none⟩)] W fun e w'=>e=.returned (.pointer (some ⟨bs,0,none⟩))∧w'=W):=fun W m=>opsStore_c (h.mod m (by simp))
 clear h
 go_enter Tryz.func26,Tryz.ntmps26
 go_wp2_with fail
 refine (CN.out _).mono ?_
 rintro e w1 ⟨b1,rfl,m1,h1,h2⟩
 have M1:=Lib.hid m1
 clear m1
 go_wp2_with fail
 refine (OS.out _ M1.out).mono ?_
 rintro e w2 ⟨rfl,rfl⟩
 go_wp2_with fail
 go_ret2
 exact ⟨_,_,rfl,Blk.new _ _ _,M1.out.alloc _,M1.out.size⟩
theorem familyNew_c {w:World} {bp bs:Nat} {vk:Value} (h:Blk w bp #[.pointer (some ⟨bs,0,none⟩),vk] 124):Calls Tryz.prog 27 #[.pointer (some ⟨bp,0,none⟩),.int .i64 12] w fun e w'=>∃b vq,e=.returned (.tuple #[.pointer (some ⟨b,0,none⟩),.int .u8 0])∧Blk w' b #[.pointer (some ⟨bp,0,none⟩),.pointer (some ⟨bs,0,none⟩),vq,.int .u8 0] 140∧Mod [] w w'∧w.heap.size≤b:=by
 have CN:Hid (∀w,_):=cache_family_12
 have OS:Hid (∀W,Mod [] w W→Calls Tryz.prog 54 #[.pointer (some ⟨bp,0,none⟩)] W fun e w'=>e=.returned (.pointer (some ⟨bs,0,none⟩))∧w'=W):=fun W m=>opsStore_c (h.mod m (by simp))
 clear h
 go_enter Tryz.func27,Tryz.ntmps27
 go_wp2_with fail
 refine (CN.out _).mono ?_
 rintro e w1 ⟨b1,rfl,m1,h1,h2⟩
 have M1:=Lib.hid m1
 clear m1
 go_wp2_with fail
 refine (OS.out _ M1.out).mono ?_
 rintro e w2 ⟨rfl,rfl⟩
 go_wp2_with fail
 go_ret2
 exact ⟨_,_,rfl,Blk.new _ _ _,M1.out.alloc _,M1.out.size⟩
end Go.Proofs.YtlafpknoiihaaaaGreatDoor
