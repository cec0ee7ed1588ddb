/- M09: Vw5 · Cw · Ps · Ty · Pm · Pw · Tz -/
import Derived.Test.YtnbjnnijifiaaaaGreatDoorM07
import Derived.Test.YtnbjnnijifiaaaaGreatDoorM06
import Derived.Test.YtnbjnnijifiaaaaGreatDoorM08
set_option maxRecDepth 100000
set_option maxHeartbeats 2000000
set_option linter.unusedVariables false
set_option linter.unusedSimpArgs false
namespace Go.Proofs.YtnbjnnijifiaaaaGreatDoor
open Go.RowKit
theorem tbddView_c {w:World} {b n:Nat} {L:List Rc} {room:Nat} {F:List Nat} (h:IsSt w b n L room F) (hL:L.length≤100000) (hroom:L.length < room) (hrm:room≤1048576) (hn:n≤16) (hG:Good L n) (l:Nat) (hl:l < n) (e:Ed)
 (he:LeadsP L 5 e l n):
 Calls Tryz.prog 163 #[.pointer (some ⟨b,0,none⟩),edv e,.int .i64 l] w fun r w'=>r=.returned (.tuple #[edv (viewP L 5 l e).2.1,edv (viewP L 5 l e).2.2,.int .u8 0])∧∃F',IsSt w' b n (viewP L 5 l e).1 room F'∧Mod F w w'∧∀k∈F',k∈F∨w.heap.size≤k:=by
 have LE:Hid (∀W,Mod [] w W→_):=fun W m=>stLeads_c (h.mod m (by simp)) (by omega) hn 5 (by omega) (by omega) e l (by omega) he
 have hbF:=h.lt
 obtain ⟨ba,bi,Fa,c0,-,-,-⟩:=h.own
 have hbl:=World.block_lt_of_cell? w _ c0
 simp only at hbl
 have HS:=Lib.hid h
 have hl':(l:Int) < n:=by omega
 clear h
 obtain ⟨gk,hgk⟩:∃gk,w.heap.size=gk:=⟨_,rfl⟩
 have HLT:Hid (∀k∈F,k < gk):=fun k hk=>by have:=hbF k hk;omega
 have HE:=Lib.hid he
 have HG:=Lib.hid hG
 clear hbF he hG
 obtain ⟨et,ea⟩:=e
 unfold edv at *
 simp only at LE ⊢
 have gn1:¬b=gk:=by omega
 have gn2:¬gk=b:=by omega
 have gn3:¬b=gk+1:=by omega
 have gn4:¬gk+1=b:=by omega
 have gn5:¬b=gk+1+1:=by omega
 have gn6:¬gk+1+1=b:=by omega
 go_enter Tryz.func163,Tryz.ntmps163
 go_wp2_with fail
 have BE:=Blk.new' w #[.int .u8 et,.int .u32 ea] 39 gk hgk.symm
 have BL:=Blk.new' (w.alloc (.cells #[.int .u8 et,.int .u32 ea] 39)) #[.int .u8 0,.int .u32 0] 39 (gk+1) (by simp [hgk])
 have BH:=Blk.new' ((w.alloc (.cells #[.int .u8 et,.int .u32 ea] 39)).alloc (.cells #[.int .u8 0,.int .u32 0] 39)) #[.int .u8 0,.int .u32 0] 39 (gk+1+1) (by simp [hgk])
 replace BE:=(BE.alloc (.cells #[.int .u8 0,.int .u32 0] 39)).alloc (.cells #[.int .u8 0,.int .u32 0] 39)
 replace BL:=BL.alloc (.cells #[.int .u8 0,.int .u32 0] 39)
 have M0:Hid (Mod [] w (((w.alloc (.cells #[.int .u8 et,.int .u32 ea] 39)).alloc (.cells #[.int .u8 0,.int .u32 0] 39)).alloc (.cells #[.int .u8 0,.int .u32 0] 39))):=by exact mods
 have hsz:(((w.alloc (.cells #[.int .u8 et,.int .u32 ea] 39)).alloc (.cells #[.int .u8 0,.int .u32 0] 39)).alloc (.cells #[.int .u8 0,.int .u32 0] 39)).heap.size=gk+3:=by simp [hgk]
 have c0:=(M0.out.cell (a:=⟨b,0,none⟩) hbl (by simp)).trans c0
 generalize ((w.alloc (.cells #[.int .u8 et,.int .u32 ea] 39)).alloc (.cells #[.int .u8 0,.int .u32 0] 39)).alloc (.cells #[.int .u8 0,.int .u32 0] 39)=w0 at *
 have hb0:b < w0.heap.size:=by omega
 have hk0:gk < w0.heap.size:=by omega
 have hk1:gk+1 < w0.heap.size:=by omega
 have hk2:gk+1+1 < w0.heap.size:=by omega
 obtain ⟨q0,q1⟩:=BE.cells2
 replace BE:=Lib.hid BE
 replace BL:=Lib.hid BL
 replace BH:=Lib.hid BH
 refine (stVars_c b n _ c0).mono ?_
 rintro e w1 ⟨rfl,rfl⟩
 go_wp2_with fail
 refine (LE.out _ M0.out).mono ?_;rintro e' wa ⟨rfl,m_wa⟩;have M_wa:=Mod.trans' (show Mod _ w1 _ from by exact mods) m_wa;have c0:=(M_wa.cell (a:=⟨b,0,none⟩) hb0 (by first | assumption | (simp;done))).trans c0;have q0:=(M_wa.cell (a:=⟨gk,0,none⟩) hk0 (by first | assumption | (simp;done))).trans q0;have q1:=(M_wa.cell (a:=⟨gk,1,none⟩) hk0 (by first | assumption | (simp;done))).trans q1;have hb0:=Nat.lt_of_lt_of_le hb0 M_wa.size;have hk0:=Nat.lt_of_lt_of_le hk0 M_wa.size
 have M1:=Lib.hid (M0.out.trans' M_wa)
 replace BE:=Lib.hid (BE.out.mod M_wa (by simp))
 replace BL:=Lib.hid (BL.out.mod M_wa (by simp))
 replace BH:=Lib.hid (BH.out.mod M_wa (by simp))
 have hza:=M_wa.size
 clear m_wa M_wa M0 LE
 have hl16:(l:Int)≤16:=by omega
 have hF1:gk+1∉F:=fun h=>by have:=HLT.out _ h;omega
 have hF2:gk+1+1∉F:=fun h=>by have:=HLT.out _ h;omega
 have het:(et:Int)≤16:=by
  have hp:=HE.out.plain
  by_cases h:ea=0
  ·have:=hp.1 (.inr h);simp only at this;omega
  ·by_cases h5:5=5
   ·have:=hp.2 h5 h;simp only at this;omega
   ·have:=hp.1 (.inl h5);simp only at this;omega
 have hea:ea≤4294967295:=by
  rcases HE.out.at_ with h0 | ⟨r,hr,-⟩
  ·simp only at h0;omega
  ·have:=recAt_lt hr;simp only at this;omega
 by_cases hno:ea=0∨l < et
 ·have hv:=Lib.hid (show viewP L 5 l ⟨et,ea⟩=(L,(⟨et,ea⟩,⟨et,ea⟩)) by unfold viewP;rw [if_pos ⟨rfl,hno⟩])
  have M:=M1
  have tst:((ea:Int)==0 || decide ((l:Int) < et))=true:=by
   rcases hno with h | h
   ·subst h;rfl
   ·simp;omega
  by_cases h0:ea=0
  ·subst h0
   rw [show ((0:Nat):Int)=0 from rfl] at q1
   obtain ⟨e0,e1⟩:=BL.out.cells2
   obtain ⟨e2,e3⟩:=BH.out.cells2
   obtain ⟨f0,f1,-⟩:=BL.out.frozs
   obtain ⟨f2,f3,-⟩:=BH.out.frozs
   go_wp2_with fail
   go_region
   replace BL:=Lib.hid BL.out.drew
   replace BH:=Lib.hid BH.out.drew
   replace M:=Lib.hid (M.out.drew)
   have MS1:=set2_mod (Mod.refl [gk+1] wa.drew) (gk+1) ⟨et,0⟩ (fun _=>by simp)
   have BX:=set2_blk BL.out ⟨et,0⟩
   have BY:=set2_blk (BH.out.mod MS1 (by simp)) ⟨et,0⟩
   have MS2:=set2_mod (Mod.refl [gk+1+1] (set2 wa.drew (gk+1) ⟨et,0⟩)) (gk+1+1) ⟨et,0⟩ (fun _=>by simp)
   replace BX:=BX.mod MS2 (by simp)
   have MS:=Lib.hid ((MS1.mono (S':=[gk+1,gk+1+1]) (by intro k _ h;simp at h;simp [h])).trans MS2 (by intro k _ h;simp at h;simp [h]))
   change Exit.then _ _ _ _ (set2 (set2 wa.drew (gk+1) ⟨et,0⟩) (gk+1+1) ⟨et,0⟩)
   generalize set2 (set2 wa.drew (gk+1) ⟨et,0⟩) (gk+1+1) ⟨et,0⟩=X at *
   obtain ⟨g0,g1⟩:=BX.cells2
   obtain ⟨g2,g3⟩:=BY.cells2
   clear e0 e1 e2 e3 f0 f1 f2 f3 BX BY MS1 MS2
   simp only at g0 g1 g2 g3
   go_wp2_with fail
   refine bodyPost_ret (by simp [results,Tryz.results163,g0,g1,g2,g3,go_sem];try rfl) rfl ?_
   rw [hv.out]
   exact ⟨rfl,F,(HS.out.mod M.out (by simp)).mod MS.out (fun k hk=>by simp;exact ⟨fun h=>hF1 (h▸hk),fun h=>hF2 (h▸hk)⟩),(M.out.mono (by intro k _ h;simp at h)).trans MS.out (by intro k h h2;simp at h2;omega),fun k hk=>.inl hk⟩
  ·have hz1:((ea:Int)==0)=false:=by rw [beq_eq_false_iff_ne];omega
   have hz2:decide ((l:Int) < et)=true:=by simp;omega
   obtain ⟨e0,e1⟩:=BL.out.cells2
   obtain ⟨e2,e3⟩:=BH.out.cells2
   obtain ⟨f0,f1,-⟩:=BL.out.frozs
   obtain ⟨f2,f3,-⟩:=BH.out.frozs
   go_wp2_with fail
   go_region
   replace BL:=Lib.hid BL.out.drew
   replace BH:=Lib.hid BH.out.drew
   replace M:=Lib.hid (M.out.drew)
   have MS1:=set2_mod (Mod.refl [gk+1] wa.drew) (gk+1) ⟨et,ea⟩ (fun _=>by simp)
   have BX:=set2_blk BL.out ⟨et,ea⟩
   have BY:=set2_blk (BH.out.mod MS1 (by simp)) ⟨et,ea⟩
   have MS2:=set2_mod (Mod.refl [gk+1+1] (set2 wa.drew (gk+1) ⟨et,ea⟩)) (gk+1+1) ⟨et,ea⟩ (fun _=>by simp)
   replace BX:=BX.mod MS2 (by simp)
   have MS:=Lib.hid ((MS1.mono (S':=[gk+1,gk+1+1]) (by intro k _ h;simp at h;simp [h])).trans MS2 (by intro k _ h;simp at h;simp [h]))
   change Exit.then _ _ _ _ (set2 (set2 wa.drew (gk+1) ⟨et,ea⟩) (gk+1+1) ⟨et,ea⟩)
   generalize set2 (set2 wa.drew (gk+1) ⟨et,ea⟩) (gk+1+1) ⟨et,ea⟩=X at *
   obtain ⟨g0,g1⟩:=BX.cells2
   obtain ⟨g2,g3⟩:=BY.cells2
   clear e0 e1 e2 e3 f0 f1 f2 f3 BX BY MS1 MS2
   simp only at g0 g1 g2 g3
   go_wp2_with fail
   refine bodyPost_ret (by simp [results,Tryz.results163,g0,g1,g2,g3,go_sem];try rfl) rfl ?_
   rw [hv.out]
   exact ⟨rfl,F,(HS.out.mod M.out (by simp)).mod MS.out (fun k hk=>by simp;exact ⟨fun h=>hF1 (h▸hk),fun h=>hF2 (h▸hk)⟩),(M.out.mono (by intro k _ h;simp at h)).trans MS.out (by intro k h h2;simp at h2;omega),fun k hk=>.inl hk⟩
 have hz1:((ea:Int)==0)=false:=by rw [beq_eq_false_iff_ne];omega
 have hz2:decide ((l:Int) < et)=false:=by simp;omega
 have hno':¬((5:Nat)=5∧(ea=0∨l < et)):=fun h=>hno h.2
 cases hr:recAt L ea with
 | none=>
  have hv:=Lib.hid (show viewP L 5 l ⟨et,ea⟩=(L,(⟨l+1,ea⟩,⟨0,0⟩)) by unfold viewP;rw [if_neg hno'];simp only [hr];unfold pastV;simp)
  have GT:Hid (∀W,Mod [] w W→_):=fun W m=>stGet_none (HS.out.mod m (by simp)) (by omega) ea hea hr
  unfold rcv rc0 at GT
  simp only at GT
  try rw [show ((0:Nat):Int)=0 from rfl] at GT
  go_wp2_with fail
  refine (GT.out _ M1.out).mono ?_
  rintro e w2 ⟨rfl,m2⟩
  obtain ⟨gr,hgr⟩:∃gr,w2.heap.size=gr:=⟨_,rfl⟩
  have BQ:=Blk.new' w2 #[.int .u8 0,.int .u8 0,.int .u8 0,.int .u8 0,.int .u32 0,.int .u8 0,.int .u32 0] 134 gr hgr.symm
  have MX:=m2.alloc (.cells #[.int .u8 0,.int .u8 0,.int .u8 0,.int .u8 0,.int .u32 0,.int .u8 0,.int .u32 0] 134)
  have hzx:=m2.size
  replace M1:=Lib.hid (M1.out.trans' MX)
  replace BE:=BE.out.mod MX (by simp)
  replace BL:=Lib.hid (BL.out.mod MX (by simp))
  replace BH:=Lib.hid (BH.out.mod MX (by simp))
  obtain ⟨q0,q1⟩:=BE.cells2
  obtain ⟨r0,r1,r2,r3,r4,r5,r6⟩:=BQ.cells7
  have hrl:=BQ.lt
  have hel:=BE.lt
  have hll:=BL.out.lt
  have hhl:=BH.out.lt
  have gr1:¬gr=gk:=by omega
  have gr2:¬gk=gr:=by omega
  have gr3:¬gr=gk+1:=by omega
  have gr4:¬gk+1=gr:=by omega
  have gr5:¬gr=gk+1+1:=by omega
  have gr6:¬gk+1+1=gr:=by omega
  have M:=M1
  replace BE:=Lib.hid BE
  clear MX m2 GT M1
  replace BQ:=Lib.hid BQ
  obtain ⟨e0,e1⟩:=BL.out.cells2
  obtain ⟨e2,e3⟩:=BH.out.cells2
  obtain ⟨f0,f1,-⟩:=BL.out.frozs
  obtain ⟨f2,f3,-⟩:=BH.out.frozs
  go_wp2_with fail
  generalize w2.alloc (.cells #[.int .u8 0,.int .u8 0,.int .u8 0,.int .u8 0,.int .u32 0,.int .u8 0,.int .u32 0] 134)=w3 at *
  have MS1:=set2_mod (Mod.refl [gk+1] w3) (gk+1) ⟨l+1,ea⟩ (fun _=>by simp)
  have BX:=set2_blk BL.out ⟨l+1,ea⟩
  have BY:=set2_blk (BH.out.mod MS1 (by simp)) ⟨0,0⟩
  have MS2:=set2_mod (Mod.refl [gk+1+1] (set2 w3 (gk+1) ⟨l+1,ea⟩)) (gk+1+1) ⟨0,0⟩ (fun _=>by simp)
  replace BX:=BX.mod MS2 (by simp)
  have MS:=Lib.hid ((MS1.mono (S':=[gk+1,gk+1+1]) (by intro k _ h;simp at h;simp [h])).trans MS2 (by intro k _ h;simp at h;simp [h]))
  change bodyPost _ _ _ _ _ (set2 (set2 w3 (gk+1) ⟨l+1,ea⟩) (gk+1+1) ⟨0,0⟩)
  generalize set2 (set2 w3 (gk+1) ⟨l+1,ea⟩) (gk+1+1) ⟨0,0⟩=X at *
  obtain ⟨g0,g1⟩:=BX.cells2
  obtain ⟨g2,g3⟩:=BY.cells2
  clear e0 e1 e2 e3 f0 f1 f2 f3 BX BY MS1 MS2
  simp only at g0 g1 g2 g3
  refine bodyPost_ret (by simp [results,Tryz.results163,g0,g1,g2,g3,go_sem];try rfl) rfl ?_
  rw [hv.out]
  exact ⟨rfl,F,(HS.out.mod M.out (by simp)).mod MS.out (fun k hk=>by simp;exact ⟨fun h=>hF1 (h▸hk),fun h=>hF2 (h▸hk)⟩),(M.out.mono (by intro k _ h;simp at h)).trans MS.out (by intro k h h2;simp at h2;omega),fun k hk=>.inl hk⟩
 | some r=>
  have GT:Hid (∀W,Mod [] w W→_):=fun W m=>stGet_live (HS.out.mod m (by simp)) (by omega) ea r hr
  have hg:=HG.out ea r hr
  obtain ⟨hrf,hrl,htg,h16⟩:=HE.out.node hr
  have h16':(r.top:Int)≤16:=by omega
  have hb15:(r.bot:Int)≤16:=by have:=hg.right.bn;omega
  have hq1:(r.lo.t:Int)≤255:=by
   have:=hg.right.lo;have:=hg.right.bn
   by_cases h:r.f≠5∨r.lo.a=0
   ·have:=hg.right.lo.1 h;omega
   ·have:=hg.right.lo.2 (by omega) (by omega);omega
  have hq2:(r.hi.t:Int)≤255:=by
   have:=hg.right.hi;have:=hg.right.bn
   by_cases h:r.f≠5∨r.hi.a=0
   ·have:=hg.right.hi.1 h;omega
   ·have:=hg.right.hi.2 (by omega) (by omega);omega
  by_cases hlt:l < r.top
  ·have hv:=Lib.hid (show viewP L 5 l ⟨et,ea⟩=(L,(⟨l+1,ea⟩,⟨0,0⟩)) by unfold viewP;rw [if_neg hno'];simp only [hr,if_pos hlt];unfold pastV;simp)
   have hlt1:decide ((l:Int) < r.top)=true:=by simp;omega
   clear hg hr
   obtain ⟨qf,qt,qb,⟨qlt,qla⟩,⟨qht,qha⟩⟩:=r
   unfold rcv at GT
   clear hrf hrl htg h16
   simp only at GT h16' hb15 hq1 hq2 hlt hlt1 hv
   go_wp2_with fail
   refine (GT.out _ M1.out).mono ?_
   rintro e w2 ⟨rfl,m2⟩
   obtain ⟨gr,hgr⟩:∃gr,w2.heap.size=gr:=⟨_,rfl⟩
   have BQ:=Blk.new' w2 #[.int .u8 qf,.int .u8 qt,.int .u8 qb,.int .u8 qlt,.int .u32 qla,.int .u8 qht,.int .u32 qha] 134 gr hgr.symm
   have MX:=m2.alloc (.cells #[.int .u8 qf,.int .u8 qt,.int .u8 qb,.int .u8 qlt,.int .u32 qla,.int .u8 qht,.int .u32 qha] 134)
   have hzx:=m2.size
   replace M1:=Lib.hid (M1.out.trans' MX)
   replace BE:=BE.out.mod MX (by simp)
   replace BL:=Lib.hid (BL.out.mod MX (by simp))
   replace BH:=Lib.hid (BH.out.mod MX (by simp))
   obtain ⟨q0,q1⟩:=BE.cells2
   obtain ⟨r0,r1,r2,r3,r4,r5,r6⟩:=BQ.cells7
   have hrl:=BQ.lt
   have hel:=BE.lt
   have hll:=BL.out.lt
   have hhl:=BH.out.lt
   have gr1:¬gr=gk:=by omega
   have gr2:¬gk=gr:=by omega
   have gr3:¬gr=gk+1:=by omega
   have gr4:¬gk+1=gr:=by omega
   have gr5:¬gr=gk+1+1:=by omega
   have gr6:¬gk+1+1=gr:=by omega
   have M:=M1
   replace BE:=Lib.hid BE
   clear MX m2 GT M1
   replace BQ:=Lib.hid BQ
   obtain ⟨e0,e1⟩:=BL.out.cells2
   obtain ⟨e2,e3⟩:=BH.out.cells2
   obtain ⟨f0,f1,-⟩:=BL.out.frozs
   obtain ⟨f2,f3,-⟩:=BH.out.frozs
   go_wp2_with fail
   generalize w2.alloc (.cells #[.int .u8 qf,.int .u8 qt,.int .u8 qb,.int .u8 qlt,.int .u32 qla,.int .u8 qht,.int .u32 qha] 134)=w3 at *
   have MS1:=set2_mod (Mod.refl [gk+1] w3) (gk+1) ⟨l+1,ea⟩ (fun _=>by simp)
   have BX:=set2_blk BL.out ⟨l+1,ea⟩
   have BY:=set2_blk (BH.out.mod MS1 (by simp)) ⟨0,0⟩
   have MS2:=set2_mod (Mod.refl [gk+1+1] (set2 w3 (gk+1) ⟨l+1,ea⟩)) (gk+1+1) ⟨0,0⟩ (fun _=>by simp)
   replace BX:=BX.mod MS2 (by simp)
   have MS:=Lib.hid ((MS1.mono (S':=[gk+1,gk+1+1]) (by intro k _ h;simp at h;simp [h])).trans MS2 (by intro k _ h;simp at h;simp [h]))
   change bodyPost _ _ _ _ _ (set2 (set2 w3 (gk+1) ⟨l+1,ea⟩) (gk+1+1) ⟨0,0⟩)
   generalize set2 (set2 w3 (gk+1) ⟨l+1,ea⟩) (gk+1+1) ⟨0,0⟩=X at *
   obtain ⟨g0,g1⟩:=BX.cells2
   obtain ⟨g2,g3⟩:=BY.cells2
   clear e0 e1 e2 e3 f0 f1 f2 f3 BX BY MS1 MS2
   simp only at g0 g1 g2 g3
   refine bodyPost_ret (by simp [results,Tryz.results163,g0,g1,g2,g3,go_sem];try rfl) rfl ?_
   rw [hv.out]
   exact ⟨rfl,F,(HS.out.mod M.out (by simp)).mod MS.out (fun k hk=>by simp;exact ⟨fun h=>hF1 (h▸hk),fun h=>hF2 (h▸hk)⟩),(M.out.mono (by intro k _ h;simp at h)).trans MS.out (by intro k h h2;simp at h2;omega),fun k hk=>.inl hk⟩
  ·have htb:r.top=r.bot:=by rcases hg.right.ch with h | h | h<;>omega
   have hv:=Lib.hid (show viewP L 5 l ⟨et,ea⟩=(L,(r.lo,r.hi)) by unfold viewP;rw [if_neg hno'];simp only [hr,if_neg hlt,if_pos htb])
   have hlt1:decide ((l:Int) < r.top)=false:=by simp;omega
   clear hg hr
   obtain ⟨qf,qt,qb,⟨qlt,qla⟩,⟨qht,qha⟩⟩:=r
   unfold rcv at GT
   clear hrf hrl htg h16 htb
   simp only at GT h16' hb15 hq1 hq2 hlt hlt1 hv
   go_wp2_with fail
   refine (GT.out _ M1.out).mono ?_
   rintro e w2 ⟨rfl,m2⟩
   obtain ⟨gr,hgr⟩:∃gr,w2.heap.size=gr:=⟨_,rfl⟩
   have BQ:=Blk.new' w2 #[.int .u8 qf,.int .u8 qt,.int .u8 qb,.int .u8 qlt,.int .u32 qla,.int .u8 qht,.int .u32 qha] 134 gr hgr.symm
   have MX:=m2.alloc (.cells #[.int .u8 qf,.int .u8 qt,.int .u8 qb,.int .u8 qlt,.int .u32 qla,.int .u8 qht,.int .u32 qha] 134)
   have hzx:=m2.size
   replace M1:=Lib.hid (M1.out.trans' MX)
   replace BE:=BE.out.mod MX (by simp)
   replace BL:=Lib.hid (BL.out.mod MX (by simp))
   replace BH:=Lib.hid (BH.out.mod MX (by simp))
   obtain ⟨q0,q1⟩:=BE.cells2
   obtain ⟨r0,r1,r2,r3,r4,r5,r6⟩:=BQ.cells7
   have hrl:=BQ.lt
   have hel:=BE.lt
   have hll:=BL.out.lt
   have hhl:=BH.out.lt
   have gr1:¬gr=gk:=by omega
   have gr2:¬gk=gr:=by omega
   have gr3:¬gr=gk+1:=by omega
   have gr4:¬gk+1=gr:=by omega
   have gr5:¬gr=gk+1+1:=by omega
   have gr6:¬gk+1+1=gr:=by omega
   have M:=M1
   replace BE:=Lib.hid BE
   clear MX m2 GT M1
   replace BQ:=Lib.hid BQ
   obtain ⟨e0,e1⟩:=BL.out.cells2
   obtain ⟨e2,e3⟩:=BH.out.cells2
   obtain ⟨f0,f1,-⟩:=BL.out.frozs
   obtain ⟨f2,f3,-⟩:=BH.out.frozs
   go_wp2_with fail
   generalize w2.alloc (.cells #[.int .u8 qf,.int .u8 qt,.int .u8 qb,.int .u8 qlt,.int .u32 qla,.int .u8 qht,.int .u32 qha] 134)=w3 at *
   go_region
   replace BL:=Lib.hid BL.out.drew
   replace BH:=Lib.hid BH.out.drew
   replace M:=Lib.hid (M.out.drew)
   have MS1:=set2_mod (Mod.refl [gk+1] w3.drew) (gk+1) ⟨qlt,qla⟩ (fun _=>by simp)
   have BX:=set2_blk BL.out ⟨qlt,qla⟩
   have BY:=set2_blk (BH.out.mod MS1 (by simp)) ⟨qht,qha⟩
   have MS2:=set2_mod (Mod.refl [gk+1+1] (set2 w3.drew (gk+1) ⟨qlt,qla⟩)) (gk+1+1) ⟨qht,qha⟩ (fun _=>by simp)
   replace BX:=BX.mod MS2 (by simp)
   have MS:=Lib.hid ((MS1.mono (S':=[gk+1,gk+1+1]) (by intro k _ h;simp at h;simp [h])).trans MS2 (by intro k _ h;simp at h;simp [h]))
   change Exit.then _ _ _ _ (set2 (set2 w3.drew (gk+1) ⟨qlt,qla⟩) (gk+1+1) ⟨qht,qha⟩)
   generalize set2 (set2 w3.drew (gk+1) ⟨qlt,qla⟩) (gk+1+1) ⟨qht,qha⟩=X at *
   obtain ⟨g0,g1⟩:=BX.cells2
   obtain ⟨g2,g3⟩:=BY.cells2
   clear e0 e1 e2 e3 f0 f1 f2 f3 BX BY MS1 MS2
   simp only at g0 g1 g2 g3
   go_wp2_with fail
   refine bodyPost_ret (by simp [results,Tryz.results163,g0,g1,g2,g3,go_sem];try rfl) rfl ?_
   rw [hv.out]
   exact ⟨rfl,F,(HS.out.mod M.out (by simp)).mod MS.out (fun k hk=>by simp;exact ⟨fun h=>hF1 (h▸hk),fun h=>hF2 (h▸hk)⟩),(M.out.mono (by intro k _ h;simp at h)).trans MS.out (by intro k h h2;simp at h2;omega),fun k hk=>.inl hk⟩
open Go.RowKit
theorem canonView1_c {w:World} {b n:Nat} {L:List Rc} {room:Nat} {F:List Nat} (h:IsSt w b n L room F) (hL:L.length≤100000) (hroom:L.length < room) (hrm:room≤1048576) (hn:n≤16) (hG:Good L n) (l:Nat) (hl:l < n) (e:Ed)
 (he:LeadsP L 1 e l n):
 Calls Tryz.prog 129 #[.pointer (some ⟨b,0,none⟩),.int .u8 1,edv e,.int .i64 l] w fun r w'=>r=.returned (.tuple #[edv (viewP L 1 l e).2.1,edv (viewP L 1 l e).2.2,.int .u8 0])∧∃F',IsSt w' b n (viewP L 1 l e).1 room F'∧Mod F w w'∧∀k∈F',k∈F∨w.heap.size≤k:=by
 have MK:Hid (∀W,Mod [] w W→_):=fun W m=>bddView_c (h.mod m (by simp)) hL hroom hrm hn hG l hl e he
 have hbF:=h.lt
 clear h hG he
 obtain ⟨gk,hgk⟩:∃gk,w.heap.size=gk:=⟨_,rfl⟩
 have HLT:Hid (∀k∈F,k < gk):=fun k hk=>by have:=hbF k hk;omega
 clear hbF
 have hF1:gk+1∉F:=fun h=>by have:=HLT.out _ h;omega
 have hF2:gk+1+1∉F:=fun h=>by have:=HLT.out _ h;omega
 generalize (viewP L 1 l e).1=L2 at *
 generalize (viewP L 1 l e).2.1=lo at *
 generalize (viewP L 1 l e).2.2=hi at *
 obtain ⟨et,ea⟩:=e
 obtain ⟨lt,la⟩:=lo
 obtain ⟨ht,ha⟩:=hi
 unfold edv at *
 simp only at MK ⊢
 go_enter Tryz.func129,Tryz.ntmps129
 go_wp2_with fail
 have BL:=Blk.new' (w.alloc (.cells #[.int .u8 et,.int .u32 ea] 39)) #[.int .u8 0,.int .u32 0] 39 (gk+1) (by simp [hgk])
 have BH:=Blk.new' ((w.alloc (.cells #[.int .u8 et,.int .u32 ea] 39)).alloc (.cells #[.int .u8 0,.int .u32 0] 39)) #[.int .u8 0,.int .u32 0] 39 (gk+1+1) (by simp [hgk])
 have BL:=BL.alloc (.cells #[.int .u8 0,.int .u32 0] 39)
 have M0:Hid (Mod [] w (((w.alloc (.cells #[.int .u8 et,.int .u32 ea] 39)).alloc (.cells #[.int .u8 0,.int .u32 0] 39)).alloc (.cells #[.int .u8 0,.int .u32 0] 39))):=by exact mods
 have hsz:(((w.alloc (.cells #[.int .u8 et,.int .u32 ea] 39)).alloc (.cells #[.int .u8 0,.int .u32 0] 39)).alloc (.cells #[.int .u8 0,.int .u32 0] 39)).heap.size=gk+3:=by simp [hgk]
 generalize ((w.alloc (.cells #[.int .u8 et,.int .u32 ea] 39)).alloc (.cells #[.int .u8 0,.int .u32 0] 39)).alloc (.cells #[.int .u8 0,.int .u32 0] 39)=w0 at *
 refine (MK.out _ M0.out).mono ?_
 rintro e w3 ⟨rfl,F3,s3,m3,f3⟩
 have hk1:=BL.lt
 have hk2:=BH.lt
 have BL:=BL.mod m3 hF1
 have BH:=BH.mod m3 hF2
 obtain ⟨e0,e1⟩:=BL.cells2
 obtain ⟨e2,e3⟩:=BH.cells2
 obtain ⟨f0,f1,-⟩:=BL.frozs
 obtain ⟨f2,f3',-⟩:=BH.frozs
 have S3:=Lib.hid s3
 have F3':=Lib.hid f3
 have M2:=Lib.hid ((M0.out.mono (S':=F) (by intro k _ h;simp at h)).trans m3 (by intro k _ h;exact h))
 have BL:=Lib.hid BL
 have BH:=Lib.hid BH
 clear MK s3 f3 m3
 go_wp2_with fail
 have MS1:=set2_mod (Mod.refl [gk+1] w3) (gk+1) ⟨lt,la⟩ (fun _=>by simp)
 have BX:=set2_blk BL.out ⟨lt,la⟩
 have BY:=set2_blk (BH.out.mod MS1 (by simp)) ⟨ht,ha⟩
 have MS2:=set2_mod (Mod.refl [gk+1+1] (set2 w3 (gk+1) ⟨lt,la⟩)) (gk+1+1) ⟨ht,ha⟩ (fun _=>by simp)
 replace BX:=BX.mod MS2 (by simp)
 have MS:=Lib.hid ((MS1.mono (S':=[gk+1,gk+1+1]) (by intro k _ h;simp at h;simp [h])).trans MS2 (by intro k _ h;simp at h;simp [h]))
 change bodyPost _ _ _ _ _ (set2 (set2 w3 (gk+1) ⟨lt,la⟩) (gk+1+1) ⟨ht,ha⟩)
 generalize set2 (set2 w3 (gk+1) ⟨lt,la⟩) (gk+1+1) ⟨ht,ha⟩=X at *
 obtain ⟨g0,g1⟩:=BX.cells2
 obtain ⟨g2,g3⟩:=BY.cells2
 clear e0 e1 e2 e3 f0 f1 f2 f3' BX BY MS1 MS2
 simp only at g0 g1 g2 g3
 refine bodyPost_ret (by simp [results,Tryz.results129,g0,g1,g2,g3,go_sem];try rfl) rfl ?_
 refine ⟨rfl,F3,S3.out.mod MS.out (fun k hk=>?_),M2.out.trans MS.out (by intro k h h2;simp at h2;omega),fun k hk=>(F3'.out k hk).imp (fun h=>h) (fun h=>by omega)⟩
 simp;refine ⟨?_,?_⟩<;>(rintro rfl;rcases F3'.out _ hk with h | h;(first | exact hF1 h | exact hF2 h);omega)
theorem canonView2_c {w:World} {b n:Nat} {L:List Rc} {room:Nat} {F:List Nat} (h:IsSt w b n L room F) (hL:L.length≤100000) (hroom:L.length < room) (hrm:room≤1048576) (hn:n≤16) (hG:Good L n) (l:Nat) (hl:l < n) (e:Ed)
 (he:LeadsP L 2 e l n):
 Calls Tryz.prog 129 #[.pointer (some ⟨b,0,none⟩),.int .u8 2,edv e,.int .i64 l] w fun r w'=>r=.returned (.tuple #[edv (viewP L 2 l e).2.1,edv (viewP L 2 l e).2.2,.int .u8 0])∧∃F',IsSt w' b n (viewP L 2 l e).1 room F'∧Mod F w w'∧∀k∈F',k∈F∨w.heap.size≤k:=by
 have MK:Hid (∀W,Mod [] w W→_):=fun W m=>zddView_c (h.mod m (by simp)) hL hroom hrm hn hG l hl e he
 have hbF:=h.lt
 clear h hG he
 obtain ⟨gk,hgk⟩:∃gk,w.heap.size=gk:=⟨_,rfl⟩
 have HLT:Hid (∀k∈F,k < gk):=fun k hk=>by have:=hbF k hk;omega
 clear hbF
 have hF1:gk+1∉F:=fun h=>by have:=HLT.out _ h;omega
 have hF2:gk+1+1∉F:=fun h=>by have:=HLT.out _ h;omega
 generalize (viewP L 2 l e).1=L2 at *
 generalize (viewP L 2 l e).2.1=lo at *
 generalize (viewP L 2 l e).2.2=hi at *
 obtain ⟨et,ea⟩:=e
 obtain ⟨lt,la⟩:=lo
 obtain ⟨ht,ha⟩:=hi
 unfold edv at *
 simp only at MK ⊢
 go_enter Tryz.func129,Tryz.ntmps129
 go_wp2_with fail
 have BL:=Blk.new' (w.alloc (.cells #[.int .u8 et,.int .u32 ea] 39)) #[.int .u8 0,.int .u32 0] 39 (gk+1) (by simp [hgk])
 have BH:=Blk.new' ((w.alloc (.cells #[.int .u8 et,.int .u32 ea] 39)).alloc (.cells #[.int .u8 0,.int .u32 0] 39)) #[.int .u8 0,.int .u32 0] 39 (gk+1+1) (by simp [hgk])
 have BL:=BL.alloc (.cells #[.int .u8 0,.int .u32 0] 39)
 have M0:Hid (Mod [] w (((w.alloc (.cells #[.int .u8 et,.int .u32 ea] 39)).alloc (.cells #[.int .u8 0,.int .u32 0] 39)).alloc (.cells #[.int .u8 0,.int .u32 0] 39))):=by exact mods
 have hsz:(((w.alloc (.cells #[.int .u8 et,.int .u32 ea] 39)).alloc (.cells #[.int .u8 0,.int .u32 0] 39)).alloc (.cells #[.int .u8 0,.int .u32 0] 39)).heap.size=gk+3:=by simp [hgk]
 generalize ((w.alloc (.cells #[.int .u8 et,.int .u32 ea] 39)).alloc (.cells #[.int .u8 0,.int .u32 0] 39)).alloc (.cells #[.int .u8 0,.int .u32 0] 39)=w0 at *
 refine (MK.out _ M0.out).mono ?_
 rintro e w3 ⟨rfl,F3,s3,m3,f3⟩
 have hk1:=BL.lt
 have hk2:=BH.lt
 have BL:=BL.mod m3 hF1
 have BH:=BH.mod m3 hF2
 obtain ⟨e0,e1⟩:=BL.cells2
 obtain ⟨e2,e3⟩:=BH.cells2
 obtain ⟨f0,f1,-⟩:=BL.frozs
 obtain ⟨f2,f3',-⟩:=BH.frozs
 have S3:=Lib.hid s3
 have F3':=Lib.hid f3
 have M2:=Lib.hid ((M0.out.mono (S':=F) (by intro k _ h;simp at h)).trans m3 (by intro k _ h;exact h))
 have BL:=Lib.hid BL
 have BH:=Lib.hid BH
 clear MK s3 f3 m3
 go_wp2_with fail
 have MS1:=set2_mod (Mod.refl [gk+1] w3) (gk+1) ⟨lt,la⟩ (fun _=>by simp)
 have BX:=set2_blk BL.out ⟨lt,la⟩
 have BY:=set2_blk (BH.out.mod MS1 (by simp)) ⟨ht,ha⟩
 have MS2:=set2_mod (Mod.refl [gk+1+1] (set2 w3 (gk+1) ⟨lt,la⟩)) (gk+1+1) ⟨ht,ha⟩ (fun _=>by simp)
 replace BX:=BX.mod MS2 (by simp)
 have MS:=Lib.hid ((MS1.mono (S':=[gk+1,gk+1+1]) (by intro k _ h;simp at h;simp [h])).trans MS2 (by intro k _ h;simp at h;simp [h]))
 change bodyPost _ _ _ _ _ (set2 (set2 w3 (gk+1) ⟨lt,la⟩) (gk+1+1) ⟨ht,ha⟩)
 generalize set2 (set2 w3 (gk+1) ⟨lt,la⟩) (gk+1+1) ⟨ht,ha⟩=X at *
 obtain ⟨g0,g1⟩:=BX.cells2
 obtain ⟨g2,g3⟩:=BY.cells2
 clear e0 e1 e2 e3 f0 f1 f2 f3' BX BY MS1 MS2
 simp only at g0 g1 g2 g3
 refine bodyPost_ret (by simp [results,Tryz.results129,g0,g1,g2,g3,go_sem];try rfl) rfl ?_
 refine ⟨rfl,F3,S3.out.mod MS.out (fun k hk=>?_),M2.out.trans MS.out (by intro k h h2;simp at h2;omega),fun k hk=>(F3'.out k hk).imp (fun h=>h) (fun h=>by omega)⟩
 simp;refine ⟨?_,?_⟩<;>(rintro rfl;rcases F3'.out _ hk with h | h;(first | exact hF1 h | exact hF2 h);omega)
theorem canonView3_c {w:World} {b n:Nat} {L:List Rc} {room:Nat} {F:List Nat} (h:IsSt w b n L room F) (hL:L.length≤100000) (hroom:L.length < room) (hrm:room≤1048576) (hn:n≤16) (hG:Good L n) (l:Nat) (hl:l < n) (e:Ed)
 (he:LeadsP L 3 e l n):
 Calls Tryz.prog 129 #[.pointer (some ⟨b,0,none⟩),.int .u8 3,edv e,.int .i64 l] w fun r w'=>r=.returned (.tuple #[edv (viewP L 3 l e).2.1,edv (viewP L 3 l e).2.2,.int .u8 0])∧∃F',IsSt w' b n (viewP L 3 l e).1 room F'∧Mod F w w'∧∀k∈F',k∈F∨w.heap.size≤k:=by
 have MK:Hid (∀W,Mod [] w W→_):=fun W m=>cbddView_c (h.mod m (by simp)) hL hroom hrm hn hG l hl e he
 have hbF:=h.lt
 clear h hG he
 obtain ⟨gk,hgk⟩:∃gk,w.heap.size=gk:=⟨_,rfl⟩
 have HLT:Hid (∀k∈F,k < gk):=fun k hk=>by have:=hbF k hk;omega
 clear hbF
 have hF1:gk+1∉F:=fun h=>by have:=HLT.out _ h;omega
 have hF2:gk+1+1∉F:=fun h=>by have:=HLT.out _ h;omega
 generalize (viewP L 3 l e).1=L2 at *
 generalize (viewP L 3 l e).2.1=lo at *
 generalize (viewP L 3 l e).2.2=hi at *
 obtain ⟨et,ea⟩:=e
 obtain ⟨lt,la⟩:=lo
 obtain ⟨ht,ha⟩:=hi
 unfold edv at *
 simp only at MK ⊢
 go_enter Tryz.func129,Tryz.ntmps129
 go_wp2_with fail
 have BL:=Blk.new' (w.alloc (.cells #[.int .u8 et,.int .u32 ea] 39)) #[.int .u8 0,.int .u32 0] 39 (gk+1) (by simp [hgk])
 have BH:=Blk.new' ((w.alloc (.cells #[.int .u8 et,.int .u32 ea] 39)).alloc (.cells #[.int .u8 0,.int .u32 0] 39)) #[.int .u8 0,.int .u32 0] 39 (gk+1+1) (by simp [hgk])
 have BL:=BL.alloc (.cells #[.int .u8 0,.int .u32 0] 39)
 have M0:Hid (Mod [] w (((w.alloc (.cells #[.int .u8 et,.int .u32 ea] 39)).alloc (.cells #[.int .u8 0,.int .u32 0] 39)).alloc (.cells #[.int .u8 0,.int .u32 0] 39))):=by exact mods
 have hsz:(((w.alloc (.cells #[.int .u8 et,.int .u32 ea] 39)).alloc (.cells #[.int .u8 0,.int .u32 0] 39)).alloc (.cells #[.int .u8 0,.int .u32 0] 39)).heap.size=gk+3:=by simp [hgk]
 generalize ((w.alloc (.cells #[.int .u8 et,.int .u32 ea] 39)).alloc (.cells #[.int .u8 0,.int .u32 0] 39)).alloc (.cells #[.int .u8 0,.int .u32 0] 39)=w0 at *
 refine (MK.out _ M0.out).mono ?_
 rintro e w3 ⟨rfl,F3,s3,m3,f3⟩
 have hk1:=BL.lt
 have hk2:=BH.lt
 have BL:=BL.mod m3 hF1
 have BH:=BH.mod m3 hF2
 obtain ⟨e0,e1⟩:=BL.cells2
 obtain ⟨e2,e3⟩:=BH.cells2
 obtain ⟨f0,f1,-⟩:=BL.frozs
 obtain ⟨f2,f3',-⟩:=BH.frozs
 have S3:=Lib.hid s3
 have F3':=Lib.hid f3
 have M2:=Lib.hid ((M0.out.mono (S':=F) (by intro k _ h;simp at h)).trans m3 (by intro k _ h;exact h))
 have BL:=Lib.hid BL
 have BH:=Lib.hid BH
 clear MK s3 f3 m3
 go_wp2_with fail
 have MS1:=set2_mod (Mod.refl [gk+1] w3) (gk+1) ⟨lt,la⟩ (fun _=>by simp)
 have BX:=set2_blk BL.out ⟨lt,la⟩
 have BY:=set2_blk (BH.out.mod MS1 (by simp)) ⟨ht,ha⟩
 have MS2:=set2_mod (Mod.refl [gk+1+1] (set2 w3 (gk+1) ⟨lt,la⟩)) (gk+1+1) ⟨ht,ha⟩ (fun _=>by simp)
 replace BX:=BX.mod MS2 (by simp)
 have MS:=Lib.hid ((MS1.mono (S':=[gk+1,gk+1+1]) (by intro k _ h;simp at h;simp [h])).trans MS2 (by intro k _ h;simp at h;simp [h]))
 change bodyPost _ _ _ _ _ (set2 (set2 w3 (gk+1) ⟨lt,la⟩) (gk+1+1) ⟨ht,ha⟩)
 generalize set2 (set2 w3 (gk+1) ⟨lt,la⟩) (gk+1+1) ⟨ht,ha⟩=X at *
 obtain ⟨g0,g1⟩:=BX.cells2
 obtain ⟨g2,g3⟩:=BY.cells2
 clear e0 e1 e2 e3 f0 f1 f2 f3' BX BY MS1 MS2
 simp only at g0 g1 g2 g3
 refine bodyPost_ret (by simp [results,Tryz.results129,g0,g1,g2,g3,go_sem];try rfl) rfl ?_
 refine ⟨rfl,F3,S3.out.mod MS.out (fun k hk=>?_),M2.out.trans MS.out (by intro k h h2;simp at h2;omega),fun k hk=>(F3'.out k hk).imp (fun h=>h) (fun h=>by omega)⟩
 simp;refine ⟨?_,?_⟩<;>(rintro rfl;rcases F3'.out _ hk with h | h;(first | exact hF1 h | exact hF2 h);omega)
theorem canonView4_c {w:World} {b n:Nat} {L:List Rc} {room:Nat} {F:List Nat} (h:IsSt w b n L room F) (hL:L.length≤100000) (hroom:L.length < room) (hrm:room≤1048576) (hn:n≤16) (hG:Good L n) (l:Nat) (hl:l < n) (e:Ed)
 (he:LeadsP L 4 e l n):
 Calls Tryz.prog 129 #[.pointer (some ⟨b,0,none⟩),.int .u8 4,edv e,.int .i64 l] w fun r w'=>r=.returned (.tuple #[edv (viewP L 4 l e).2.1,edv (viewP L 4 l e).2.2,.int .u8 0])∧∃F',IsSt w' b n (viewP L 4 l e).1 room F'∧Mod F w w'∧∀k∈F',k∈F∨w.heap.size≤k:=by
 have MK:Hid (∀W,Mod [] w W→_):=fun W m=>czddView_c (h.mod m (by simp)) hL hroom hrm hn hG l hl e he
 have hbF:=h.lt
 clear h hG he
 obtain ⟨gk,hgk⟩:∃gk,w.heap.size=gk:=⟨_,rfl⟩
 have HLT:Hid (∀k∈F,k < gk):=fun k hk=>by have:=hbF k hk;omega
 clear hbF
 have hF1:gk+1∉F:=fun h=>by have:=HLT.out _ h;omega
 have hF2:gk+1+1∉F:=fun h=>by have:=HLT.out _ h;omega
 generalize (viewP L 4 l e).1=L2 at *
 generalize (viewP L 4 l e).2.1=lo at *
 generalize (viewP L 4 l e).2.2=hi at *
 obtain ⟨et,ea⟩:=e
 obtain ⟨lt,la⟩:=lo
 obtain ⟨ht,ha⟩:=hi
 unfold edv at *
 simp only at MK ⊢
 go_enter Tryz.func129,Tryz.ntmps129
 go_wp2_with fail
 have BL:=Blk.new' (w.alloc (.cells #[.int .u8 et,.int .u32 ea] 39)) #[.int .u8 0,.int .u32 0] 39 (gk+1) (by simp [hgk])
 have BH:=Blk.new' ((w.alloc (.cells #[.int .u8 et,.int .u32 ea] 39)).alloc (.cells #[.int .u8 0,.int .u32 0] 39)) #[.int .u8 0,.int .u32 0] 39 (gk+1+1) (by simp [hgk])
 have BL:=BL.alloc (.cells #[.int .u8 0,.int .u32 0] 39)
 have M0:Hid (Mod [] w (((w.alloc (.cells #[.int .u8 et,.int .u32 ea] 39)).alloc (.cells #[.int .u8 0,.int .u32 0] 39)).alloc (.cells #[.int .u8 0,.int .u32 0] 39))):=by exact mods
 have hsz:(((w.alloc (.cells #[.int .u8 et,.int .u32 ea] 39)).alloc (.cells #[.int .u8 0,.int .u32 0] 39)).alloc (.cells #[.int .u8 0,.int .u32 0] 39)).heap.size=gk+3:=by simp [hgk]
 generalize ((w.alloc (.cells #[.int .u8 et,.int .u32 ea] 39)).alloc (.cells #[.int .u8 0,.int .u32 0] 39)).alloc (.cells #[.int .u8 0,.int .u32 0] 39)=w0 at *
 refine (MK.out _ M0.out).mono ?_
 rintro e w3 ⟨rfl,F3,s3,m3,f3⟩
 have hk1:=BL.lt
 have hk2:=BH.lt
 have BL:=BL.mod m3 hF1
 have BH:=BH.mod m3 hF2
 obtain ⟨e0,e1⟩:=BL.cells2
 obtain ⟨e2,e3⟩:=BH.cells2
 obtain ⟨f0,f1,-⟩:=BL.frozs
 obtain ⟨f2,f3',-⟩:=BH.frozs
 have S3:=Lib.hid s3
 have F3':=Lib.hid f3
 have M2:=Lib.hid ((M0.out.mono (S':=F) (by intro k _ h;simp at h)).trans m3 (by intro k _ h;exact h))
 have BL:=Lib.hid BL
 have BH:=Lib.hid BH
 clear MK s3 f3 m3
 go_wp2_with fail
 have MS1:=set2_mod (Mod.refl [gk+1] w3) (gk+1) ⟨lt,la⟩ (fun _=>by simp)
 have BX:=set2_blk BL.out ⟨lt,la⟩
 have BY:=set2_blk (BH.out.mod MS1 (by simp)) ⟨ht,ha⟩
 have MS2:=set2_mod (Mod.refl [gk+1+1] (set2 w3 (gk+1) ⟨lt,la⟩)) (gk+1+1) ⟨ht,ha⟩ (fun _=>by simp)
 replace BX:=BX.mod MS2 (by simp)
 have MS:=Lib.hid ((MS1.mono (S':=[gk+1,gk+1+1]) (by intro k _ h;simp at h;simp [h])).trans MS2 (by intro k _ h;simp at h;simp [h]))
 change bodyPost _ _ _ _ _ (set2 (set2 w3 (gk+1) ⟨lt,la⟩) (gk+1+1) ⟨ht,ha⟩)
 generalize set2 (set2 w3 (gk+1) ⟨lt,la⟩) (gk+1+1) ⟨ht,ha⟩=X at *
 obtain ⟨g0,g1⟩:=BX.cells2
 obtain ⟨g2,g3⟩:=BY.cells2
 clear e0 e1 e2 e3 f0 f1 f2 f3' BX BY MS1 MS2
 simp only at g0 g1 g2 g3
 refine bodyPost_ret (by simp [results,Tryz.results129,g0,g1,g2,g3,go_sem];try rfl) rfl ?_
 refine ⟨rfl,F3,S3.out.mod MS.out (fun k hk=>?_),M2.out.trans MS.out (by intro k h h2;simp at h2;omega),fun k hk=>(F3'.out k hk).imp (fun h=>h) (fun h=>by omega)⟩
 simp;refine ⟨?_,?_⟩<;>(rintro rfl;rcases F3'.out _ hk with h | h;(first | exact hF1 h | exact hF2 h);omega)
theorem canonView5_c {w:World} {b n:Nat} {L:List Rc} {room:Nat} {F:List Nat} (h:IsSt w b n L room F) (hL:L.length≤100000) (hroom:L.length < room) (hrm:room≤1048576) (hn:n≤16) (hG:Good L n) (l:Nat) (hl:l < n) (e:Ed)
 (he:LeadsP L 5 e l n):
 Calls Tryz.prog 129 #[.pointer (some ⟨b,0,none⟩),.int .u8 5,edv e,.int .i64 l] w fun r w'=>r=.returned (.tuple #[edv (viewP L 5 l e).2.1,edv (viewP L 5 l e).2.2,.int .u8 0])∧∃F',IsSt w' b n (viewP L 5 l e).1 room F'∧Mod F w w'∧∀k∈F',k∈F∨w.heap.size≤k:=by
 have MK:Hid (∀W,Mod [] w W→_):=fun W m=>tbddView_c (h.mod m (by simp)) hL hroom hrm hn hG l hl e he
 have hbF:=h.lt
 clear h hG he
 obtain ⟨gk,hgk⟩:∃gk,w.heap.size=gk:=⟨_,rfl⟩
 have HLT:Hid (∀k∈F,k < gk):=fun k hk=>by have:=hbF k hk;omega
 clear hbF
 have hF1:gk+1∉F:=fun h=>by have:=HLT.out _ h;omega
 have hF2:gk+1+1∉F:=fun h=>by have:=HLT.out _ h;omega
 generalize (viewP L 5 l e).1=L2 at *
 generalize (viewP L 5 l e).2.1=lo at *
 generalize (viewP L 5 l e).2.2=hi at *
 obtain ⟨et,ea⟩:=e
 obtain ⟨lt,la⟩:=lo
 obtain ⟨ht,ha⟩:=hi
 unfold edv at *
 simp only at MK ⊢
 go_enter Tryz.func129,Tryz.ntmps129
 go_wp2_with fail
 have BL:=Blk.new' (w.alloc (.cells #[.int .u8 et,.int .u32 ea] 39)) #[.int .u8 0,.int .u32 0] 39 (gk+1) (by simp [hgk])
 have BH:=Blk.new' ((w.alloc (.cells #[.int .u8 et,.int .u32 ea] 39)).alloc (.cells #[.int .u8 0,.int .u32 0] 39)) #[.int .u8 0,.int .u32 0] 39 (gk+1+1) (by simp [hgk])
 have BL:=BL.alloc (.cells #[.int .u8 0,.int .u32 0] 39)
 have M0:Hid (Mod [] w (((w.alloc (.cells #[.int .u8 et,.int .u32 ea] 39)).alloc (.cells #[.int .u8 0,.int .u32 0] 39)).alloc (.cells #[.int .u8 0,.int .u32 0] 39))):=by exact mods
 have hsz:(((w.alloc (.cells #[.int .u8 et,.int .u32 ea] 39)).alloc (.cells #[.int .u8 0,.int .u32 0] 39)).alloc (.cells #[.int .u8 0,.int .u32 0] 39)).heap.size=gk+3:=by simp [hgk]
 generalize ((w.alloc (.cells #[.int .u8 et,.int .u32 ea] 39)).alloc (.cells #[.int .u8 0,.int .u32 0] 39)).alloc (.cells #[.int .u8 0,.int .u32 0] 39)=w0 at *
 refine (MK.out _ M0.out).mono ?_
 rintro e w3 ⟨rfl,F3,s3,m3,f3⟩
 have hk1:=BL.lt
 have hk2:=BH.lt
 have BL:=BL.mod m3 hF1
 have BH:=BH.mod m3 hF2
 obtain ⟨e0,e1⟩:=BL.cells2
 obtain ⟨e2,e3⟩:=BH.cells2
 obtain ⟨f0,f1,-⟩:=BL.frozs
 obtain ⟨f2,f3',-⟩:=BH.frozs
 have S3:=Lib.hid s3
 have F3':=Lib.hid f3
 have M2:=Lib.hid ((M0.out.mono (S':=F) (by intro k _ h;simp at h)).trans m3 (by intro k _ h;exact h))
 have BL:=Lib.hid BL
 have BH:=Lib.hid BH
 clear MK s3 f3 m3
 go_wp2_with fail
 have MS1:=set2_mod (Mod.refl [gk+1] w3) (gk+1) ⟨lt,la⟩ (fun _=>by simp)
 have BX:=set2_blk BL.out ⟨lt,la⟩
 have BY:=set2_blk (BH.out.mod MS1 (by simp)) ⟨ht,ha⟩
 have MS2:=set2_mod (Mod.refl [gk+1+1] (set2 w3 (gk+1) ⟨lt,la⟩)) (gk+1+1) ⟨ht,ha⟩ (fun _=>by simp)
 replace BX:=BX.mod MS2 (by simp)
 have MS:=Lib.hid ((MS1.mono (S':=[gk+1,gk+1+1]) (by intro k _ h;simp at h;simp [h])).trans MS2 (by intro k _ h;simp at h;simp [h]))
 change bodyPost _ _ _ _ _ (set2 (set2 w3 (gk+1) ⟨lt,la⟩) (gk+1+1) ⟨ht,ha⟩)
 generalize set2 (set2 w3 (gk+1) ⟨lt,la⟩) (gk+1+1) ⟨ht,ha⟩=X at *
 obtain ⟨g0,g1⟩:=BX.cells2
 obtain ⟨g2,g3⟩:=BY.cells2
 clear e0 e1 e2 e3 f0 f1 f2 f3' BX BY MS1 MS2
 simp only at g0 g1 g2 g3
 refine bodyPost_ret (by simp [results,Tryz.results129,g0,g1,g2,g3,go_sem];try rfl) rfl ?_
 refine ⟨rfl,F3,S3.out.mod MS.out (fun k hk=>?_),M2.out.trans MS.out (by intro k h h2;simp at h2;omega),fun k hk=>(F3'.out k hk).imp (fun h=>h) (fun h=>by omega)⟩
 simp;refine ⟨?_,?_⟩<;>(rintro rfl;rcases F3'.out _ hk with h | h;(first | exact hF1 h | exact hF2 h);omega)
theorem canonView_c (f:Nat) (h1:1≤f) (h5:f≤5) {w:World} {b n:Nat} {L:List Rc} {room:Nat} {F:List Nat} (h:IsSt w b n L room F) (hL:L.length≤100000) (hroom:L.length < room) (hrm:room≤1048576) (hn:n≤16) (hG:Good L n) (l:Nat) (hl:l < n) (e:Ed)
 (he:LeadsP L f e l n):
 Calls Tryz.prog 129 #[.pointer (some ⟨b,0,none⟩),.int .u8 f,edv e,.int .i64 l] w fun r w'=>r=.returned (.tuple #[edv (viewP L f l e).2.1,edv (viewP L f l e).2.2,.int .u8 0])∧∃F',IsSt w' b n (viewP L f l e).1 room F'∧Mod F w w'∧∀k∈F',k∈F∨w.heap.size≤k:=by
 obtain rfl | rfl | rfl | rfl | rfl:f=1∨f=2∨f=3∨f=4∨f=5:=by omega
 ·exact canonView1_c h hL hroom hrm hn hG l hl e he
 ·exact canonView2_c h hL hroom hrm hn hG l hl e he
 ·exact canonView3_c h hL hroom hrm hn hG l hl e he
 ·exact canonView4_c h hL hroom hrm hn hG l hl e he
 ·exact canonView5_c h hL hroom hrm hn hG l hl e he
def swapL (p:List Nat) (i:Nat):List Nat:=(p.set i (p.getD (i+1) 0)).set (i+1) (p.getD i 0)
theorem swapL_len (p:List Nat) (i:Nat):(swapL p i).length=p.length:=by simp [swapL]
theorem swapL_other {p:List Nat} {i j:Nat} (h1:j≠i) (h2:j≠i+1):(swapL p i).getD j 0=p.getD j 0:=by
 unfold swapL
 simp only [List.getD_eq_getElem?_getD]
 rw [List.getElem?_set_ne (by omega),List.getElem?_set_ne (by omega)]
theorem swapL_lo {p:List Nat} {i:Nat} (h:i+1 < p.length):(swapL p i).getD i 0=p.getD (i+1) 0:=by
 unfold swapL
 simp only [List.getD_eq_getElem?_getD]
 rw [List.getElem?_set_ne (by omega),List.getElem?_set_self (by omega)]
 rfl
theorem swapL_hi {p:List Nat} {i:Nat} (h:i+1 < p.length):(swapL p i).getD (i+1) 0=p.getD i 0:=by
 unfold swapL
 simp only [List.getD_eq_getElem?_getD]
 rw [List.getElem?_set_self (by simpa using h)]
 rfl
def swpT:Nat→Nat→List Bool→List Bool
 | 0,k+2,t=>(t.take (2 ^ (k+1))).take (2 ^ k)++(t.drop (2 ^ (k+1))).take (2 ^ k)++((t.take (2 ^ (k+1))).drop (2 ^ k)++(t.drop (2 ^ (k+1))).drop (2 ^ k))
 | j+1,k+1,t=>swpT j k (t.take (2 ^ k))++swpT j k (t.drop (2 ^ k))
 | _,_,t=>t
theorem tabL_congr (W:Nat) {p p':List Nat}:∀(k l x:Nat),(∀i,l≤i→p.getD i 0=p'.getD i 0)→tabL W p k l x=tabL W p' k l x:=by
 intro k
 induction k with
 | zero=>intro l x _;rfl
 | succ k ih=>
  intro l x h
  rw [tabL,tabL,ih (l+1) x (fun i hi=>h i (by omega)),h l (Nat.le_refl _),ih (l+1) _ (fun i hi=>h i (by omega))]
theorem tabL_swap (W:Nat) (p:List Nat) (j:Nat):∀(k l x:Nat),j+2≤k→l+j+1 < p.length→tabL W (swapL p (l+j)) k l x=swpT j k (tabL W p k l x):=by
 induction j with
 | zero=>
  intro k l x hk hl
  obtain ⟨m,rfl⟩:∃m,k=m+2:=⟨k - 2,by omega⟩
  have c:∀y,tabL W (swapL p l) m (l+1+1) y=tabL W p m (l+1+1) y:=fun y=>tabL_congr W _ _ _ (fun i hi=>swapL_other (by omega) (by omega))
  have e:x ||| 2 ^ p.getD (l+1) 0 ||| 2 ^ p.getD l 0=x ||| 2 ^ p.getD l 0 ||| 2 ^ p.getD (l+1) 0:=by rw [Nat.or_assoc,Nat.or_comm (2 ^ p.getD (l+1) 0),←Nat.or_assoc]
  have len:∀y,(tabL W p m (l+1+1) y).length=2 ^ m:=fun y=>tabL_len W p m _ y
  have len1:∀y,(tabL W p (m+1) (l+1) y).length=2 ^ (m+1):=fun y=>tabL_len W p (m+1) _ y
  rw [Nat.add_zero,swpT]
  have hl1:tabL W p (m+2) l x=tabL W p (m+1) (l+1) x++tabL W p (m+1) (l+1) (x ||| 2 ^ p.getD l 0):=rfl
  rw [hl1,List.take_left' (len1 _),List.drop_left' (len1 _)]
  have hl2:∀y,tabL W p (m+1) (l+1) y=tabL W p m (l+1+1) y++tabL W p m (l+1+1) (y ||| 2 ^ p.getD (l+1) 0):=fun y=>rfl
  rw [hl2,hl2,List.take_left' (len _),List.drop_left' (len _),List.take_left' (len _),List.drop_left' (len _)]
  have hr:tabL W (swapL p l) (m+2) l x=(tabL W (swapL p l) m (l+1+1) x++tabL W (swapL p l) m (l+1+1) (x ||| 2 ^ (swapL p l).getD (l+1) 0))++(tabL W (swapL p l) m (l+1+1) (x ||| 2 ^ (swapL p l).getD l 0)++tabL W (swapL p l) m (l+1+1) (x ||| 2 ^ (swapL p l).getD l 0 ||| 2 ^ (swapL p l).getD (l+1) 0)):=rfl
  rw [hr,c,c,c,c,swapL_lo (by omega),swapL_hi (by omega),e]
 | succ j ih=>
  intro k l x hk hl
  obtain ⟨m,rfl⟩:∃m,k=m+1:=⟨k - 1,by omega⟩
  have len:∀y,(tabL W p m (l+1) y).length=2 ^ m:=fun y=>tabL_len W p m _ y
  rw [swpT]
  have hl1:tabL W p (m+1) l x=tabL W p m (l+1) x++tabL W p m (l+1) (x ||| 2 ^ p.getD l 0):=rfl
  have hr:tabL W (swapL p (l+(j+1))) (m+1) l x=tabL W (swapL p (l+(j+1))) m (l+1) x++tabL W (swapL p (l+(j+1))) m (l+1) (x ||| 2 ^ (swapL p (l+(j+1))).getD l 0):=rfl
  rw [hl1,hr,List.take_left' (len _),List.drop_left' (len _),swapL_other (by omega) (by omega),show l+(j+1)=(l+1)+j by omega,ih m (l+1) _ (by omega) (by omega),ih m (l+1) _ (by omega) (by omega)]
open Go.RowKit
structure Sto (w:World) (b n room:Nat) (L:List Rc) (F:List Nat):Prop where
 st:IsSt w b n L room F
 good:Good L n
 nd:L.Nodup
theorem Sto.mod {S:List Nat} {w w':World} {b n room:Nat} {L:List Rc} {F:List Nat} (h:Sto w b n room L F) (m:Mod S w w') (hd:∀k∈F,k∉S):Sto w' b n room L F:=⟨h.st.mod m hd,h.good,h.nd⟩
structure Grow (w w':World) (F F':List Nat):Prop where
 mod:Mod F w w'
 own:∀k∈F',k∈F∨w.heap.size≤k
theorem Grow.refl (w:World) (F:List Nat):Grow w w F F:=⟨Mod.refl _ _,fun _ h=>.inl h⟩
theorem Grow.trans {a b c:World} {F F' F'':List Nat} (h:Grow a b F F') (k:Grow b c F' F''):Grow a c F F'':=
 ⟨h.mod.trans k.mod (fun i hi hm=>(h.own i hm).elim (fun h=>h) (fun h=>by omega)),fun i hi=>(k.own i hi).elim (h.own i) (fun q=>.inr (by have:=h.mod.size;omega))⟩
theorem Grow.of_mod {w w':World} {F:List Nat} (m:Mod [] w w'):Grow w w' F F:=⟨m.mono (by simp),fun _ h=>.inl h⟩
theorem Grow.then {a b c:World} {F F':List Nat} (h:Grow a b F F') (m:Mod [] b c):Grow a c F F':=h.trans (Grow.of_mod m)
theorem Grow.out {w w':World} {F F':List Nat} (h:Grow w w' F F') {k:Nat} (hk:k < w.heap.size) (hn:k∉F):k∉F':=fun q=>(h.own k q).elim hn (fun q=>by omega)
theorem Grow.write {a b c:World} {F F' S:List Nat} (h:Grow a b F F') (m:Mod S b c) (hS:∀k∈S,a.heap.size≤k):Grow a c F F':=
 ⟨h.mod.trans m (fun i hi hm=>by have:=hS i hm;omega),h.own⟩
theorem Grow.size {w w':World} {F F':List Nat} (h:Grow w w' F F'):w.heap.size≤w'.heap.size:=h.mod.size
structure EdT (L:List Rc) (f n k l:Nat) (e:Ed) (t:List Bool):Prop where
 rep:RepE L f e (buildE f n k l t)
 lead:LeadsP L f e l n
 len:t.length=2 ^ k
 lk:l+k=n
theorem EdT.grow {L:List Rc} {f n k l:Nat} {e:Ed} {t:List Bool} (h:EdT L f n k l e t) (L2:List Rc):EdT (L++L2) f n k l e t:=⟨h.rep.grow L2,h.lead.grow L2,h.len,h.lk⟩
theorem EdT.fun_ {L:List Rc} {f n k k' l:Nat} (h1:1≤f) (h5:f≤5) {e:Ed} {t t':List Bool} (h:EdT L f n k l e t) (h':EdT L f n k' l e t'):k=k'∧t=t':=by
 obtain rfl:k=k':=by have:=h.lk;have:=h'.lk;omega
 refine ⟨rfl,build_inj h1 h5 k l t t' h.lk h.len h'.len ?_⟩
 have e1:=h.rep.t
 have e2:=h'.rep.t
 exact Prod.ext (e1.symm.trans e2) (Rep.fun_ h.rep.a h'.rep.a)
def MkT (w:World) (b n room:Nat) (L:List Rc) (F:List Nat) (f k l:Nat) (t:List Bool) (r:Ending) (w':World):Prop:=
 ∃(et ea:Nat) (L2:List Rc) (F':List Nat),r=.returned (.tuple #[.agg #[.int .u8 et,.int .u32 ea],.int .u8 0])∧Sto w' b n room (L++L2) F'∧Grow w w' F F'∧EdT (L++L2) f n k l ⟨et,ea⟩ t∧L2.length≤1
theorem make_s {f:Nat} (h1:1≤f) (h5:f≤5) {w:World} {b n room:Nat} {L:List Rc} {F:List Nat} (h:Sto w b n room L F) (hL:L.length≤100000) (hroom:L.length < room) (hrm:room≤1048576) (hn:n≤16) {k l:Nat} {lo hi:Ed} {t u:List Bool}
 (hlo:EdT L f n k (l+1) lo t) (hhi:EdT L f n k (l+1) hi u):
 Calls Tryz.prog 66 #[.pointer (some ⟨b,0,none⟩),.int .u8 f,.int .i64 l,edv lo,edv hi] w (MkT w b n room L F f (k+1) l (t++u)):=by
 have hlk:=hlo.lk
 refine (canonMake_c f h1 h5 h.st hL hroom hrm hn h.good l (by omega) lo hi hlo.lead hhi.lead).mono ?_
 rintro e w' ⟨rfl,F',s,m,o⟩
 obtain ⟨g1,g2,⟨L2,g3⟩,g4⟩:=mkP_good h.good h1 h5 (show l < n by omega) hn hlo.lead hhi.lead
 obtain ⟨r1,r2⟩:=mk_rep (l:=l) h.nd hlo.rep hhi.rep
 rw [g3] at s g1 g2 g4 r1 r2
 have hle:L2.length≤1:=by rw [List.length_append] at g4;omega
 refine ⟨_,_,L2,F',rfl,⟨s,g1,r2⟩,⟨m,o⟩,⟨?_,g2,?_,by omega⟩,hle⟩
 ·rw [buildE,List.take_left' hlo.len,List.drop_left' hlo.len];exact r1
 ·rw [List.length_append,hlo.len,hhi.len,Nat.pow_succ];omega
def VwT (w:World) (b n room:Nat) (L:List Rc) (F:List Nat) (f k l:Nat) (t:List Bool) (r:Ending) (w':World):Prop:=
 ∃(lt la ht ha:Nat) (L2:List Rc) (F':List Nat),r=.returned (.tuple #[.agg #[.int .u8 lt,.int .u32 la],.agg #[.int .u8 ht,.int .u32 ha],.int .u8 0])∧Sto w' b n room (L++L2) F'∧Grow w w' F F'∧EdT (L++L2) f n k (l+1) ⟨lt,la⟩ (t.take (2 ^ k))∧EdT (L++L2) f n k (l+1) ⟨ht,ha⟩ (t.drop (2 ^ k))∧L2.length≤1
theorem view_s {f:Nat} (h1:1≤f) (h5:f≤5) {w:World} {b n room:Nat} {L:List Rc} {F:List Nat} (h:Sto w b n room L F) (hL:L.length≤100000) (hroom:L.length < room) (hrm:room≤1048576) (hn:n≤16) {k l:Nat} {e:Ed} {t:List Bool}
 (he:EdT L f n (k+1) l e t):
 Calls Tryz.prog 129 #[.pointer (some ⟨b,0,none⟩),.int .u8 f,edv e,.int .i64 l] w (VwT w b n room L F f k l t):=by
 have hlk:=he.lk
 have hlen:t.length=2 ^ k+2 ^ k:=by have:=he.len;rw [Nat.pow_succ] at this;omega
 refine (canonView_c f h1 h5 h.st hL hroom hrm hn h.good l (by omega) e he.lead).mono ?_
 rintro r w' ⟨rfl,F',s,m,o⟩
 obtain ⟨v1,v2,v3,v4,v5,v6,L2,v7,v8⟩:=viewP_ok h.good h.nd h1 h5 (show l < n by omega) he.lead he.rep (build_VE f n (k+1) l t he.lk)
 rw [build_vw h1 h5 k l t he.lk] at v1 v2
 rw [v7] at s v1 v2 v3 v4 v5 v6
 exact ⟨_,_,_,_,L2,F',rfl,⟨s,v5,v6⟩,⟨m,o⟩,⟨v1,v3,by rw [List.length_take];omega,by omega⟩,⟨v2,v4,by rw [List.length_drop];omega,by omega⟩,v8⟩
abbrev Ky:=Nat × Nat × List Bool
def keys (z:Bool):Nat→Nat→List Bool→List Ky
 | 0,_,_=>[]
 | k+1,l,t=>
  if (if z then decide (true∉t.drop (2 ^ k)) else decide (t.take (2 ^ k)=t.drop (2 ^ k)))=true then keys z k (l+1) (t.take (2 ^ k))
  else (k+1,l,t)::(keys z k (l+1) (t.take (2 ^ k))++keys z k (l+1) (t.drop (2 ^ k)))
theorem keys_same {k l:Nat} {t:List Bool} (h:t.take (2 ^ k)=t.drop (2 ^ k)):keys false (k+1) l t=keys false k (l+1) (t.take (2 ^ k)):=by
 rw [keys,if_pos (by simp [h])]
theorem keys_diff {k l:Nat} {t:List Bool} (h:¬t.take (2 ^ k)=t.drop (2 ^ k)):keys false (k+1) l t=(k+1,l,t)::(keys false k (l+1) (t.take (2 ^ k))++keys false k (l+1) (t.drop (2 ^ k))):=by
 rw [keys,if_neg (by simp [h])]
theorem keys_none {k l:Nat} {t:List Bool} (h:true∉t.drop (2 ^ k)):keys true (k+1) l t=keys true k (l+1) (t.take (2 ^ k)):=by
 rw [keys,if_pos (by simp [h])]
theorem keys_some {k l:Nat} {t:List Bool} (h:¬true∉t.drop (2 ^ k)):keys true (k+1) l t=(k+1,l,t)::(keys true k (l+1) (t.take (2 ^ k))++keys true k (l+1) (t.drop (2 ^ k))):=by
 rw [keys,if_neg (by simpa using h)]
def rootE (f n:Nat) (y:Ky):Tr:=(buildE f n y.1 y.2.1 y.2.2).2
section
variable {n:Nat}
theorem halves_len {k:Nat} {t:List Bool} (h:t.length=2 ^ (k+1)):(t.take (2 ^ k)).length=2 ^ k∧(t.drop (2 ^ k)).length=2 ^ k:=by
 rw [List.length_take,List.length_drop,h,Nat.pow_succ];omega
theorem mk_same {f l:Nat} {x:Nat × Tr} (h:¬(f=2∨f=4)):mkE f l x x=x:=by
 unfold mkE;rw [if_neg h,if_pos rfl]
theorem mk_none {f l:Nat} {x y:Nat × Tr} (h:f=2∨f=4) (hy:y.2=.leaf false):mkE f l x y=x:=by
 unfold mkE;rw [if_pos h,if_pos hy]
theorem mk_diff {f l:Nat} {x y:Nat × Tr} (h:f=1∨f=3) (hxy:¬x=y):mkE f l x y=(0,nodeE f l x y):=by
 unfold mkE;rw [if_neg (by omega),if_neg hxy,if_neg (by omega),if_neg (by omega)]
theorem mk_some {f l:Nat} {x y:Nat × Tr} (h:f=2∨f=4) (hy:¬y.2=.leaf false):mkE f l x y=(0,nodeE f l x y):=by
 unfold mkE;rw [if_pos h,if_neg hy]
theorem mk_five {l:Nat} {x y:Nat × Tr} (hxy:¬x=y):mkE 5 l x y=if y.2=.leaf false∧x.1=l+1 then (l,x.2) else (l,.node l l x.1 x.2 y.1 y.2):=by
 unfold mkE
 rw [if_neg (by omega),if_neg hxy]
 simp only [true_and,if_true]
 rcases nodeE_form 5 l x y with ⟨_,_,_,_,_,_,_,h,_⟩ | ⟨_,_,_,_,_,_,_,h,_⟩ | h
 ·omega
 ·omega
 ·rw [h]
theorem nds_nodeE {f l:Nat} {x y:Nat × Tr} {T:Tr} (h:T∈nds (nodeE f l x y)):T=nodeE f l x y∨T∈nds x.2∨T∈nds y.2:=by
 rcases nodeE_form f l x y with ⟨t,b,tl,u,th,v,e1,_,_,e3,e⟩ | ⟨t,b,tl,u,th,v,e1,_,_,_,e⟩ | e
 ·rw [e] at h ⊢
  simp [nds] at h
  rcases h with h | h | h
  ·exact .inl h
  ·right;left;rw [e1];simp [nds,h]
  ·exact .inr (.inr h)
 ·rw [e] at h ⊢
  simp [nds] at h
  rcases h with h | h | h
  ·exact .inl h
  ·right;left;rw [e1];simp [nds,h]
  ·right;left;rw [e1];simp [nds,h]
 ·rw [e] at h ⊢
  simp [nds] at h
  rcases h with h | h | h
  ·exact .inl h
  ·exact .inr (.inl h)
  ·exact .inr (.inr h)
theorem cov13 {f:Nat} (hf:f=1∨f=3):∀(k l:Nat) (t:List Bool),l+k=n→t.length=2 ^ k→∀T∈nds (buildE f n k l t).2,∃y∈keys false k l t,rootE f n y=T:=by
 intro k
 induction k with
 | zero=>intro l t h ht T hT;simp [buildE,leafE,nds] at hT
 | succ k ih=>
  intro l t h ht T hT
  obtain ⟨h1,h2⟩:=halves_len ht
  by_cases e:t.take (2 ^ k)=t.drop (2 ^ k)
  ·rw [keys_same e]
   rw [buildE,←e,mk_same (by omega)] at hT
   exact ih _ _ (by omega) h1 T hT
  ·rw [keys_diff e]
   have hne:¬buildE f n k (l+1) (t.take (2 ^ k))=buildE f n k (l+1) (t.drop (2 ^ k)):=fun q=>e (build_inj (by omega) (by omega) k (l+1) _ _ (by omega) h1 h2 q)
   have hT0:=hT
   rw [buildE,mk_diff hf hne] at hT
   rcases nds_nodeE hT with q | q | q
   ·refine ⟨_,List.mem_cons_self ..,?_⟩
    rw [q,rootE,buildE,mk_diff hf hne]
   ·obtain ⟨y,hy,e⟩:=ih _ _ (by omega) h1 T q
    exact ⟨y,by simp [hy],e⟩
   ·obtain ⟨y,hy,e⟩:=ih _ _ (by omega) h2 T q
    exact ⟨y,by simp [hy],e⟩
theorem cov24 {f:Nat} (hf:f=2∨f=4):∀(k l:Nat) (t:List Bool),l+k=n→t.length=2 ^ k→∀T∈nds (buildE f n k l t).2,∃y∈keys true k l t,rootE f n y=T:=by
 intro k
 induction k with
 | zero=>intro l t h ht T hT;simp [buildE,leafE,nds] at hT
 | succ k ih=>
  intro l t h ht T hT
  obtain ⟨h1,h2⟩:=halves_len ht
  have hz:=build_zero (f:=f) (n:=n) (by omega) (by omega) k (l+1) (t.drop (2 ^ k)) (by omega) h2
  by_cases e:true∉t.drop (2 ^ k)
  ·rw [keys_none e]
   rw [buildE,mk_none hf (hz.2 e)] at hT
   exact ih _ _ (by omega) h1 T hT
  ·rw [keys_some e]
   have hne:¬(buildE f n k (l+1) (t.drop (2 ^ k))).2=.leaf false:=fun q=>e (hz.1 q)
   rw [buildE,mk_some hf hne] at hT
   rcases nds_nodeE hT with q | q | q
   ·refine ⟨_,List.mem_cons_self ..,?_⟩
    rw [q,rootE,buildE,mk_some hf hne]
   ·obtain ⟨y,hy,e⟩:=ih _ _ (by omega) h1 T q
    exact ⟨y,by simp [hy],e⟩
   ·obtain ⟨y,hy,e⟩:=ih _ _ (by omega) h2 T q
    exact ⟨y,by simp [hy],e⟩
theorem cov5:∀(k l:Nat) (t:List Bool),l+k=n→t.length=2 ^ k→∀T∈nds (buildE 5 n k l t).2,∃y∈keys false k l t,rootE 5 n y=T:=by
 intro k
 induction k with
 | zero=>intro l t h ht T hT;simp [buildE,leafE,nds] at hT
 | succ k ih=>
  intro l t h ht T hT
  obtain ⟨h1,h2⟩:=halves_len ht
  by_cases e:t.take (2 ^ k)=t.drop (2 ^ k)
  ·rw [keys_same e]
   rw [buildE,←e,mk_same (by omega)] at hT
   exact ih _ _ (by omega) h1 T hT
  ·rw [keys_diff e]
   have hne:¬buildE 5 n k (l+1) (t.take (2 ^ k))=buildE 5 n k (l+1) (t.drop (2 ^ k)):=fun q=>e (build_inj (by omega) (by omega) k (l+1) _ _ (by omega) h1 h2 q)
   rw [buildE,mk_five hne] at hT
   split at hT
   ·obtain ⟨y,hy,e⟩:=ih _ _ (by omega) h1 T hT
    exact ⟨y,by simp [hy],e⟩
   ·rename_i hnz
    simp [nds] at hT
    rcases hT with q | q | q
    ·refine ⟨_,List.mem_cons_self ..,?_⟩
     rw [q,rootE,buildE,mk_five hne,if_neg hnz]
    ·obtain ⟨y,hy,e⟩:=ih _ _ (by omega) h1 T q
     exact ⟨y,by simp [hy],e⟩
    ·obtain ⟨y,hy,e⟩:=ih _ _ (by omega) h2 T q
     exact ⟨y,by simp [hy],e⟩
end
def numT (no:List Tr):Tr→Nat
 | .leaf false=>0
 | .leaf true=>1
 | T=>no.idxOf T+2
def edgeB (f:Nat) (no:List Tr) (t:Nat) (T:Tr):List Nat:=[numT no T]++(if f=5∧T≠ .leaf false then [t] else [])
def recB (f:Nat) (no:List Tr):Tr→List Nat
 | .leaf _=>[]
 | .node t b tl x th y=>[t]++(if f=3∨f=4 then [b] else [])++edgeB f no tl x++edgeB f no th y
def wrN (f:Nat):Tr→List Tr→List Tr × List Nat
 | .leaf _,no=>(no,[])
 | .node t b tl x th y,no=>
  if Tr.node t b tl x th y∈no then (no,[])
  else ((wrN f y (wrN f x no).1).1++[.node t b tl x th y],(wrN f x no).2++(wrN f y (wrN f x no).1).2++recB f ((wrN f y (wrN f x no).1).1++[.node t b tl x th y]) (.node t b tl x th y))
def noT (f:Nat) (T:Tr):List Tr:=(wrN f T []).1
def savedB (f n:Nat) (p:List Nat) (x:Nat × Tr):List Nat:=[n,f]++p++[(noT f x.2).length]++(wrN f x.2 []).2++edgeB f (noT f x.2) x.1 x.2
def Clo (no:List Tr):Prop:=∀(i t b tl:Nat) (x:Tr) (th:Nat) (y:Tr),no[i]? =some (.node t b tl x th y)→((∃c,x=.leaf c)∨∃j,j < i∧no[j]? =some x)∧((∃c,y=.leaf c)∨∃j,j < i∧no[j]? =some y)
theorem numT_grow {no:List Tr} (l:List Tr) {T:Tr} (h:(∃c,T=.leaf c)∨T∈no):numT (no++l) T=numT no T:=by
 cases T with
 | leaf b=>cases b<;>rfl
 | node t b tl x th y=>
  rcases h with ⟨c,h⟩ | h
  ·cases h
  ·show (no++l).idxOf (Tr.node t b tl x th y)+2=no.idxOf (Tr.node t b tl x th y)+2
   rw [List.idxOf_append,if_pos h]
theorem recB_grow {f:Nat} {no:List Tr} (hc:Clo no) (l:List Tr) {T:Tr} (h:T∈no):recB f (no++l) T=recB f no T:=by
 cases T with
 | leaf b=>rfl
 | node t b tl x th y=>
  obtain ⟨i,hi⟩:=List.mem_iff_getElem?.1 h
  obtain ⟨hx,hy⟩:=hc i t b tl x th y hi
  have ex:numT (no++l) x=numT no x:=numT_grow l (hx.imp id (fun ⟨j,_,hj⟩=>List.mem_of_getElem? hj))
  have ey:numT (no++l) y=numT no y:=numT_grow l (hy.imp id (fun ⟨j,_,hj⟩=>List.mem_of_getElem? hj))
  show [t]++(if f=3∨f=4 then [b] else [])++edgeB f (no++l) tl x++edgeB f (no++l) th y=[t]++(if f=3∨f=4 then [b] else [])++edgeB f no tl x++edgeB f no th y
  unfold edgeB
  rw [ex,ey]
theorem flat_grow {f:Nat} {no:List Tr} (hc:Clo no) (l:List Tr) {m:List Tr} (h:∀T∈m,T∈no):m.flatMap (recB f (no++l))=m.flatMap (recB f no):=by
 induction m with
 | nil=>rfl
 | cons T m ih=>
  rw [List.flatMap_cons,List.flatMap_cons,recB_grow hc l (h T (by simp)),ih (fun S hS=>h S (by simp [hS]))]
structure WrP (f:Nat) (T:Tr) (no:List Tr) (r:List Tr × List Nat):Prop where
 grown:∃m,r.1=no++m∧r.2=m.flatMap (recB f r.1)∧∀S∈m,S∈nds T
 clo:Clo r.1
 nodup:r.1.Nodup
 has:(∃c,T=.leaf c)∨T∈r.1
theorem wrN_spec (f:Nat) (T:Tr):∀no:List Tr,Clo no→no.Nodup→WrP f T no (wrN f T no):=by
 induction T with
 | leaf b=>exact fun no hc hn=>⟨⟨[],by simp [wrN]⟩,hc,hn,.inl ⟨b,rfl⟩⟩
 | node t b tl x th y ihx ihy=>
  intro no hc hn
  rw [wrN]
  by_cases h:Tr.node t b tl x th y∈no
  ·rw [if_pos h]
   exact ⟨⟨[],by simp⟩,hc,hn,.inr h⟩
  ·rw [if_neg h]
   obtain ⟨⟨m1,e1,b1,s1⟩,c1,n1,h1⟩:=ihx no hc hn
   obtain ⟨⟨m2,e2,b2,s2⟩,c2,n2,h2⟩:=ihy _ c1 n1
   generalize wrN f x no=r1 at *
   generalize wrN f y r1.1=r2 at *
   have hT:Tr.node t b tl x th y∉r2.1:=by
    intro hm
    rw [e2,e1] at hm
    rcases List.mem_append.1 hm with hm | hm
    ·rcases List.mem_append.1 hm with hm | hm
     ·exact h hm
     ·have:=nds_size (s1 _ hm);simp [tsz] at this;omega
    ·have:=nds_size (s2 _ hm);simp [tsz] at this;omega
   have hx2:(∃c,x=.leaf c)∨x∈r2.1:=h1.imp id (fun q=>by rw [e2];simp [q])
   have clo3:Clo (r2.1++[.node t b tl x th y]):=by
    intro i t' b' tl' x' th' y' hi
    by_cases hlt:i < r2.1.length
    ·rw [List.getElem?_append_left hlt] at hi
     obtain ⟨q1,q2⟩:=c2 i _ _ _ _ _ _ hi
     exact ⟨q1.imp id (fun ⟨j,hj,e⟩=>⟨j,hj,by rw [List.getElem?_append_left (by omega)];exact e⟩),q2.imp id (fun ⟨j,hj,e⟩=>⟨j,hj,by rw [List.getElem?_append_left (by omega)];exact e⟩)⟩
    ·have hie:i=r2.1.length:=by
      obtain ⟨hl,-⟩:=List.getElem?_eq_some_iff.1 hi
      simp at hl;omega
     subst hie
     rw [List.getElem?_append_right (Nat.le_refl _)] at hi
     simp at hi
     obtain ⟨rfl,rfl,rfl,rfl,rfl,rfl⟩:=hi
     have at_:∀S,S∈r2.1→∃j,j < r2.1.length∧(r2.1++[Tr.node t b tl x th y])[j]? =some S:=fun S hS=>by
      obtain ⟨j,hj⟩:=List.mem_iff_getElem?.1 hS
      obtain ⟨hl,-⟩:=List.getElem?_eq_some_iff.1 hj
      exact ⟨j,hl,by rw [List.getElem?_append_left hl];exact hj⟩
     exact ⟨hx2.imp id (at_ _),h2.imp id (at_ _)⟩
   refine ⟨⟨m1++m2++[.node t b tl x th y],?_,?_,?_⟩,clo3,?_,.inr (by simp)⟩
   ·simp [e1,e2]
   ·have g1:∀S∈m1,S∈r1.1:=fun S hS=>by rw [e1];simp [hS]
    have g2:∀S∈m2,S∈r2.1:=fun S hS=>by rw [e2];simp [hS]
    have f1:m1.flatMap (recB f (r2.1++[.node t b tl x th y]))=m1.flatMap (recB f r1.1):=by
     rw [e2,List.append_assoc];exact flat_grow c1 _ g1
    have f2:m2.flatMap (recB f (r2.1++[.node t b tl x th y]))=m2.flatMap (recB f r2.1):=flat_grow c2 _ g2
    simp only [List.flatMap_append,f1,f2,←b1,←b2]
    simp
   ·intro S hS
    simp at hS
    simp [nds]
    rcases hS with hS | hS | hS
    ·exact .inr (.inl (s1 S hS))
    ·exact .inr (.inr (s2 S hS))
    ·exact .inl hS
   ·rw [List.nodup_append]
    exact ⟨n2,by simp,by intro a ha c hc';simp at hc';subst hc';rintro rfl;exact hT ha⟩
theorem Clo.nil:Clo []:=by intro i t b tl x th y h;simp at h
theorem noT_spec (f:Nat) (T:Tr):Clo (noT f T)∧(noT f T).Nodup∧((∃c,T=.leaf c)∨T∈noT f T)∧(∀S∈noT f T,S∈nds T)∧(wrN f T []).2=(noT f T).flatMap (recB f (noT f T)):=by
 obtain ⟨⟨m,e,b,s⟩,c,n,h⟩:=wrN_spec f T [] Clo.nil List.nodup_nil
 rw [List.nil_append] at e
 unfold noT
 exact ⟨c,n,h,fun S hS=>s S (by rw [←e];exact hS),by rw [b,←e]⟩
theorem noT_len (f:Nat) (T:Tr):(noT f T).length≤(dis [] (nds T)).length:=by
 obtain ⟨c,n,h,s,b⟩:=noT_spec f T
 have hd:=dis_nodup (nds T) [] List.nodup_nil
 exact nodup_le n (fun S hS=>by rw [dis_mem];exact .inr (s S hS))
open Go.RowKit
structure Two (w1 wx:World) (b n room:Nat) (L:List Rc) (F F2:List Nat) (ga gb:Nat) (lo hi:Ed):Prop where
 ba:Blk wx ga #[.int .u8 lo.t,.int .u32 lo.a] 39
 bb:Blk wx gb #[.int .u8 hi.t,.int .u32 hi.a] 39
 st:Sto wx b n room L F2
 gr:Grow w1 wx F F2
 al:w1.heap.size≤ga
 bl:w1.heap.size≤gb
 af:ga∉F2
 bf:gb∉F2
 ne:ga≠gb
theorem Two.mk' {w1 w2 wx:World} {b n room:Nat} {L:List Rc} {F F2 S:List Nat} {ga gb:Nat} {lo hi:Ed} (M:Mod F w1 w2) (o:∀k∈F2,k∈F∨w1.heap.size≤k) (s:Sto w2 b n room L F2) (m:Mod S w2 wx) (hS:∀k∈S,w1.heap.size≤k∧k∉F2)
 (ba:Blk wx ga #[.int .u8 lo.t,.int .u32 lo.a] 39) (bb:Blk wx gb #[.int .u8 hi.t,.int .u32 hi.a] 39) (hal:w1.heap.size≤ga) (hbl:w1.heap.size≤gb) (haf:ga∉F2) (hbf:gb∉F2) (hne:ga≠gb):Two w1 wx b n room L F F2 ga gb lo hi:=
 ⟨ba,bb,s.mod m (fun k hk h=>(hS k h).2 hk),(Grow.mk M o).write m (fun k hk=>(hS k hk).1),hal,hbl,haf,hbf,hne⟩
section
variable {w1 w2:World} {b n room gs:Nat} {L:List Rc} {F F2:List Nat} (lo hi:Ed)
theorem Two.new (M:Mod F w1 w2) (o:∀k∈F2,k∈F∨w1.heap.size≤k) (s:Sto w2 b n room L F2) {gr:Nat} (hg:w2.heap.size=gr):
 Two w1 ((w2.alloc (.cells #[.int .u8 lo.t,.int .u32 lo.a] 39)).alloc (.cells #[.int .u8 hi.t,.int .u32 hi.a] 39)) b n room L F F2 gr (gr+1) lo hi∧
 Two w1 ((w2.alloc (.cells #[.int .u8 hi.t,.int .u32 hi.a] 39)).alloc (.cells #[.int .u8 lo.t,.int .u32 lo.a] 39)) b n room L F F2 (gr+1) gr lo hi:=by
 have h1:=M.size
 have h2:=s.st.lt
 have f1:gr∉F2:=fun h=>by have:=h2 _ h;omega
 have f2:gr+1∉F2:=fun h=>by have:=h2 _ h;omega
 exact ⟨Two.mk' M o s (((Mod.refl [] _).alloc _).alloc _) (by simp) ((Blk.new' w2 _ _ gr hg.symm).alloc _) (Blk.new' (w2.alloc _) _ _ (gr+1) (by simp [hg])) (by omega) (by omega) f1 f2 (by omega),
  Two.mk' M o s (((Mod.refl [] _).alloc _).alloc _) (by simp) (Blk.new' (w2.alloc _) _ _ (gr+1) (by simp [hg])) ((Blk.new' w2 _ _ gr hg.symm).alloc _) (by omega) (by omega) f2 f1 (by omega)⟩
theorem Two.half (M:Mod F w1 w2) (o:∀k∈F2,k∈F∨w1.heap.size≤k) (s:Sto w2 b n room L F2) {gr:Nat} (hg:w2.heap.size=gr) (hgs:w1.heap.size≤gs) (hf:gs∉F2) (z:Blk w2 gs #[.int .u8 0,.int .u32 0] 39):
 Two w1 (set2 (set2 (w2.alloc (.cells #[.int .u8 0,.int .u32 0] 39)) gs lo) gr hi) b n room L F F2 gs gr lo hi∧
 Two w1 (set2 (w2.alloc (.cells #[.int .u8 lo.t,.int .u32 lo.a] 39)) gs hi) b n room L F F2 gr gs lo hi:=by
 have h1:=M.size
 have h2:=s.st.lt
 have h3:=z.lt
 have f1:gr∉F2:=fun h=>by have:=h2 _ h;omega
 have hne:gs≠gr:=by omega
 have Z:=z.alloc (.cells #[.int .u8 0,.int .u32 0] 39)
 have G:=Blk.new' w2 #[.int .u8 0,.int .u32 0] 39 gr hg.symm
 have m1:=set2_mod (Mod.refl [gs] (w2.alloc (.cells #[.int .u8 0,.int .u32 0] 39))) gs lo (fun _=>by simp)
 have m2:=set2_mod (Mod.refl [gr] (set2 (w2.alloc (.cells #[.int .u8 0,.int .u32 0] 39)) gs lo)) gr hi (fun _=>by simp)
 have m3:=set2_mod (Mod.refl [gs] (w2.alloc (.cells #[.int .u8 lo.t,.int .u32 lo.a] 39))) gs hi (fun _=>by simp)
 have a1:Mod [gs,gr] w2 (w2.alloc (.cells #[.int .u8 0,.int .u32 0] 39)):=(Mod.refl _ _).alloc _
 have a3:Mod [gs] w2 (w2.alloc (.cells #[.int .u8 lo.t,.int .u32 lo.a] 39)):=(Mod.refl _ _).alloc _
 refine ⟨Two.mk' M o s ((a1.trans m1 (by intro i _ h;simp at h;simp [h])).trans m2 (by intro i _ h;simp at h;simp [h])) ?_ ((set2_blk Z lo).mod m2 (by simpa using hne)) (set2_blk (G.mod m1 (by simpa using Ne.symm hne)) hi) hgs (by omega) hf f1 hne,
  Two.mk' M o s (a3.trans m3 (by intro i _ h;exact h)) ?_ ((Blk.new' w2 _ _ gr hg.symm).mod m3 (by simpa using Ne.symm hne)) (set2_blk (z.alloc _) hi) (by omega) hgs f1 hf (Ne.symm hne)⟩
 ·intro k hk;simp at hk;rcases hk with rfl | rfl
  ·exact ⟨hgs,hf⟩
  ·exact ⟨by omega,f1⟩
 ·intro k hk;simp at hk;subst hk;exact ⟨hgs,hf⟩
theorem Two.old (M:Mod F w1 w2) (o:∀k∈F2,k∈F∨w1.heap.size≤k) (s:Sto w2 b n room L F2) (hgs:w1.heap.size≤gs) (hf:gs∉F2) (hf2:gs+1∉F2) (z:Blk w2 gs #[.int .u8 0,.int .u32 0] 39) (z2:Blk w2 (gs+1) #[.int .u8 0,.int .u32 0] 39):
 Two w1 (set2 (set2 w2 gs lo) (gs+1) hi) b n room L F F2 gs (gs+1) lo hi∧Two w1 (set2 (set2 w2 (gs+1) lo) gs hi) b n room L F F2 (gs+1) gs lo hi:=by
 have m1:=set2_mod (Mod.refl [gs] w2) gs lo (fun _=>by simp)
 have m2:=set2_mod (Mod.refl [gs+1] (set2 w2 gs lo)) (gs+1) hi (fun _=>by simp)
 have m3:=set2_mod (Mod.refl [gs+1] w2) (gs+1) lo (fun _=>by simp)
 have m4:=set2_mod (Mod.refl [gs] (set2 w2 (gs+1) lo)) gs hi (fun _=>by simp)
 have hS:∀k∈[gs,gs+1],w1.heap.size≤k∧k∉F2:=by
  intro k hk;simp at hk;rcases hk with rfl | rfl
  ·exact ⟨hgs,hf⟩
  ·exact ⟨by omega,hf2⟩
 exact ⟨Two.mk' M o s ((m1.mono (S':=[gs,gs+1]) (by intro i _ h;simp at h;simp [h])).trans m2 (by intro i _ h;simp at h;simp [h])) hS ((set2_blk z lo).mod m2 (by simp)) (set2_blk (z2.mod m1 (by simp)) hi) hgs (by omega) hf hf2 (by omega),
  Two.mk' M o s ((m3.mono (S':=[gs,gs+1]) (by intro i _ h;simp at h;simp [h])).trans m4 (by intro i _ h;simp at h;simp [h])) hS ((set2_blk z2 lo).mod m4 (by simp)) (set2_blk (z.mod m3 (by simp)) hi) (by omega) hgs hf2 hf (by omega)⟩
end
structure One (w1 wx:World) (b n room:Nat) (L:List Rc) (F F2:List Nat) (ga:Nat) (lo:Ed):Prop where
 ba:Blk wx ga #[.int .u8 lo.t,.int .u32 lo.a] 39
 st:Sto wx b n room L F2
 gr:Grow w1 wx F F2
 al:w1.heap.size≤ga
 af:ga∉F2
theorem One.new {w1 w2:World} {b n room gr:Nat} {L:List Rc} {F F2:List Nat} (lo:Ed) (M:Mod F w1 w2) (o:∀k∈F2,k∈F∨w1.heap.size≤k) (s:Sto w2 b n room L F2) (hg:w2.heap.size=gr):
 One w1 (w2.alloc (.cells #[.int .u8 lo.t,.int .u32 lo.a] 39)) b n room L F F2 gr lo:=by
 have h1:=M.size
 have m:Mod [] w2 (w2.alloc (.cells #[.int .u8 lo.t,.int .u32 lo.a] 39)):=(Mod.refl _ _).alloc _
 exact ⟨Blk.new' w2 _ _ gr hg.symm,s.mod m (by simp),(Grow.mk M o).then m,by omega,fun h=>by have:=s.st.lt _ h;omega⟩
theorem One.old {w1 w2:World} {b n room gs:Nat} {L:List Rc} {F F2:List Nat} (lo:Ed) (M:Mod F w1 w2) (o:∀k∈F2,k∈F∨w1.heap.size≤k) (s:Sto w2 b n room L F2) (hgs:w1.heap.size≤gs) (hf:gs∉F2) (z:Blk w2 gs #[.int .u8 0,.int .u32 0] 39):
 One w1 (set2 w2 gs lo) b n room L F F2 gs lo:=by
 have m:=set2_mod (Mod.refl [gs] w2) gs lo (fun _=>by simp)
 exact ⟨set2_blk z lo,s.mod m (fun k hk h=>by simp at h;subst h;exact hf hk),(Grow.mk M o).write m (fun k hk=>by simp at hk;omega),hgs,hf⟩
end Go.Proofs.YtnbjnnijifiaaaaGreatDoor
