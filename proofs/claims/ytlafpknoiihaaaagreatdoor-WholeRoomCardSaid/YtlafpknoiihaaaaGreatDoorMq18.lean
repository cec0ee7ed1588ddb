/- Mq18: Je · Jg -/
import Derived.Test.YtlafpknoiihaaaaGreatDoorMq17
import Derived.Deep.RegionHeld3
import Derived.Deep.RegionLaw
set_option maxRecDepth 100000
set_option maxHeartbeats 4000000
set_option linter.unusedVariables false
set_option linter.unusedSimpArgs false
namespace Go.Proofs.YtlafpknoiihaaaaGreatDoor
open Go.RowKit
theorem of1R_c {w:World} {bm n room:Nat} {L:List Rc} {Fs:List Nat} {H:List (Nat × Ed)} {bs bo bq:Nat} {F:List Nat} {ba bc g f:Nat} {lm cc W:Nat} (h1:1≤f) (h5:f≤5) (hn:n≤5) (hW:W < 2 ^ (2 ^ n)) (hrm:room≤100000)
 (hE:MgE w bm n room L Fs (List.range n) H bs bo bq F ba bc g) (hR:Rm n f lm room L (budF lm+cc)) {cm cf ct gs cap:Nat}
 (a0:w.cell? ⟨cm,0,none⟩=some (.pointer (some ⟨bm,0,none⟩))) (b0:w.cell? ⟨cf,0,none⟩=some (.int .u8 f)) (c0:w.cell? ⟨ct,0,none⟩=some (.int .i64 n)) (c1:w.cell? ⟨ct,1,none⟩=some (.slice (some ⟨gs,0,none⟩) 1 cap)) (hs0:w.cell? ⟨gs,0,none⟩=some (.int .u64 W))
 (hcm:cm∉Fs) (hcf:cf∉Fs) (hct:ct∉Fs) (hgs:gs∉Fs):
 Calls Tryz.prog 29 #[.pointer (some ⟨cm,0,none⟩),.pointer (some ⟨cf,0,none⟩),.pointer (some ⟨ct,0,none⟩)] w (WkR w bm n room L Fs (List.range n) H bs bo bq F ba bc g f (tabL W (List.range n) n 0 0) lm cc):=by
 obtain ⟨-,hbF,-⟩:=hE.m.own
 have HE:=Lib.hid hE
 obtain ⟨b1,bg,vk,vq,vg,Fo,q,g1,g2,g3,-,-,-,eF,h7,-⟩:=hE.m.m
 have d3:=g1.cell 3 (by omega)
 have d4:=g1.cell 4 (by omega)
 replace d3:w.cell? ⟨bm,3,none⟩=some (.pointer (some ⟨bs,0,none⟩)):=d3
 replace d4:w.cell? ⟨bm,4,none⟩=some (.pointer (some ⟨bo,0,none⟩)):=d4
 have lgs:=World.block_lt_of_cell? w _ hs0
 have BV:Hid (∀U,Mod [] w U→Calls Tryz.prog 30 #[.pointer (some ⟨bs,0,none⟩),.pointer (some ⟨bo,0,none⟩),.int .u8 f,.agg #[.int .i64 n,.slice (some ⟨gs,0,none⟩) 1 cap]] U fun e w'=>∃(t a:Nat) (L2:List Rc) (F':List Nat),e=.returned (.tuple #[.agg #[.int .u8 t,.int .u32 a],.int .u8 0])∧Mod Fs U w'∧(IsSt w' bs n (L++L2) room F'∧(∀k∈F',k∈Fs∨U.heap.size≤k)∧Good (L++L2) n∧(L++L2).Nodup∧EdT (L++L2) f n n 0 ⟨t,a⟩ (tabL W (List.range n) n 0 0)∧Rm n f lm room (L++L2) cc)):=fun U m=>
  (buildOf_r (lm:=lm) (cc:=cc) (hE.e.sto.st.mod m (by simp)) (g2.mod m (by simp)) ((m.cell (a:=⟨gs,0,none⟩) lgs (by simp)).trans hs0) (by
   intro k hk hkF
   rcases List.mem_cons.1 hk with rfl | hk
   ·exact hgs hkF
   ·exact h7 k hkF (by rw [eF];simp [hk])) h1 h5 hn (by simp) (by intro v hv;simpa using hv) hrm hW hE.e.sto.good hE.e.sto.nd hR).mono (by
    rintro e w' ⟨⟨t,a⟩,L2,F',rfl,x1,x2,x3,x4,x5,x6,x7⟩
    exact ⟨t,a,L2,F',rfl,x2,x1,x3,x4,x5,x6,x7⟩)
 have hbm:=g1.lt
 have HSL:=Lib.hid hE.e.sto.st.lt
 have HFL:=Lib.hid hE.flt
 have HLT:=Lib.hid hE.lt
 have lcm:=World.block_lt_of_cell? w _ a0
 have lcf:=World.block_lt_of_cell? w _ b0
 have lct:=World.block_lt_of_cell? w _ c0
 simp only at lcm lcf lct
 obtain ⟨gk,hgk⟩:∃g,w.heap.size=g:=⟨_,rfl⟩
 clear hE g1 g2 g3 eF h7 hR hW hs0 lgs
 generalize tabL W (List.range n) n 0 0=T at *
 have n1:¬cm=gk:=by omega
 have n2:¬gk=cm:=by omega
 have n3:¬cf=gk:=by omega
 have n4:¬gk=cf:=by omega
 have n5:¬ct=gk:=by omega
 have n6:¬gk=ct:=by omega
 have n7:¬bm=gk:=by omega
 have n8:¬gk=bm:=by omega
 go_enter Tryz.func29,Tryz.ntmps29
 go_wp2_with fail
 have B3:=Lib.hid (Blk.new' w #[.int .u8 0,.int .u32 0] 66 gk hgk.symm)
 have MQ:Hid (Mod [] w (w.alloc (.cells #[.int .u8 0,.int .u32 0] 66))):=(Mod.refl _ _).alloc _
 have hgF:gk∉Fs:=fun h=>by have:=HSL.out _ h;omega
 have a0:=(MQ.out.cell (a:=⟨cm,0,none⟩) lcm (by simp)).trans a0
 have b0:=(MQ.out.cell (a:=⟨cf,0,none⟩) lcf (by simp)).trans b0
 have c0:=(MQ.out.cell (a:=⟨ct,0,none⟩) lct (by simp)).trans c0
 have c1:=(MQ.out.cell (a:=⟨ct,1,none⟩) lct (by simp)).trans c1
 have d3:=(MQ.out.cell (a:=⟨bm,3,none⟩) hbm (by simp)).trans d3
 have d4:=(MQ.out.cell (a:=⟨bm,4,none⟩) hbm (by simp)).trans d4
 have lcm:=Nat.lt_of_lt_of_le lcm MQ.out.size
 have lcf:=Nat.lt_of_lt_of_le lcf MQ.out.size
 have lct:=Nat.lt_of_lt_of_le lct MQ.out.size
 have hbm:=Nat.lt_of_lt_of_le hbm MQ.out.size
 have SZ:Hid ((w.alloc (.cells #[.int .u8 0,.int .u32 0] 66)).heap.size=gk+1):=by show _=_;simp [hgk]
 have HGK:=Lib.hid hgk
 clear hgk
 generalize w.alloc (.cells #[.int .u8 0,.int .u32 0] 66)=w0 at *
 go_region_held3 (fun w'=>w'.cell? ⟨cm,0,none⟩=some (.pointer (some ⟨bm,0,none⟩))∧w'.cell? ⟨cf,0,none⟩=some (.int .u8 f)∧w'.cell? ⟨ct,0,none⟩=some (.int .i64 n)∧w'.cell? ⟨ct,1,none⟩=some (.slice (some ⟨gs,0,none⟩) 1 cap)∧w'.cell? ⟨bm,3,none⟩=some (.pointer (some ⟨bs,0,none⟩))∧w'.cell? ⟨bm,4,none⟩=some (.pointer (some ⟨bo,0,none⟩))) (go_keep) (first | (go_at_call 30;refine (BV.out _ (MQ.out.trans' (show Mod [] w0 _ from by exact mods))).mono ?_;rintro e' w2 ⟨t,a,L2,F2,rfl,m_w2,x2⟩;have M_w2:=Mod.trans' (show Mod _ w0 _ from by exact mods) m_w2;have a0:=(M_w2.cell (a:=⟨cm,0,none⟩) lcm (by first | assumption | (simp;done))).trans a0;have b0:=(M_w2.cell (a:=⟨cf,0,none⟩) lcf (by first | assumption | (simp;done))).trans b0;have c0:=(M_w2.cell (a:=⟨ct,0,none⟩) lct (by first | assumption | (simp;done))).trans c0;have c1:=(M_w2.cell (a:=⟨ct,1,none⟩) lct (by first | assumption | (simp;done))).trans c1;have d3:=(M_w2.cell (a:=⟨bm,3,none⟩) hbm (by first | assumption | (simp;done))).trans d3;have d4:=(M_w2.cell (a:=⟨bm,4,none⟩) hbm (by first | assumption | (simp;done))).trans d4;have lcm:=Nat.lt_of_lt_of_le lcm M_w2.size;have lcf:=Nat.lt_of_lt_of_le lcf M_w2.size;have lct:=Nat.lt_of_lt_of_le lct M_w2.size;have hbm:=Nat.lt_of_lt_of_le hbm M_w2.size;have BRW:=B3.out.mod M_w2 hgF;obtain ⟨e0,e1⟩:=BRW.cells2;obtain ⟨g0,g1,-⟩:=BRW.frozs;replace BRW:=Lib.hid BRW))
 obtain ⟨s2,f2,g2,nd2,ex2,rm2⟩:=x2
 have SF:Hid (∀k∈F2,k∈Fs∨w.heap.size≤k):=fun k hk=>(f2 k hk).imp id fun h=>by have h1:=SZ.out;have h2:=HGK.out;simp at h;omega
 have NF':Hid (gk∉F2):=fun h=>(f2 _ h).elim hgF (fun h=>by have h1:=SZ.out;simp at h;omega)
 have GG:Hid (Grow w w2 Fs F2):=⟨(MQ.out.mono (by simp)).trans' M_w2,SF.out⟩
 have MG:=Lib.hid (HE.out.sto ⟨s2,g2,nd2⟩ GG.out)
 have EX:=Lib.hid ex2
 have RR:=Lib.hid rm2
 have BW:=((BRW.out.set 0 (.int .u8 t)).set 1 (.int .u32 a))
 simp only [List.setIfInBounds_toArray,List.set_cons_zero,List.set_cons_succ] at BW
 obtain ⟨z0,z1⟩:=BW.cells2
 have MW:Hid (Mod [gk] w2 ((w2.setCell ⟨gk,0,none⟩ (.int .u8 t)).setCell ⟨gk,1,none⟩ (.int .u32 a))):=((Mod.refl _ _).setCell _ _ (by simp)).setCell _ _ (by simp)
 clear s2 f2 g2 nd2 ex2 rm2 m_w2 M_w2 e0 e1 g0 g1 BW BV
 generalize (w2.setCell ⟨gk,0,none⟩ (.int .u8 t)).setCell ⟨gk,1,none⟩ (.int .u32 a)=w4 at *
 go_wp2_with fail
 refine bodyPost_ret (v:=.tuple #[.agg #[.int .u8 t,.int .u32 a],.int .u8 0]) (by simp [results,Tryz.results29,go_sem,z0,z1];try rfl) rfl ?_
 have NA:gk∉bm::ba::bc::g::F2∧gk∉F:=⟨fun h=>by
  rcases List.mem_cons.1 h with e | h
  ·have:=HLT.out bm (by simp);have:=HGK.out;omega
  rcases List.mem_cons.1 h with e | h
  ·have:=HLT.out ba (by simp);have:=HGK.out;omega
  rcases List.mem_cons.1 h with e | h
  ·have:=HLT.out bc (by simp);have:=HGK.out;omega
  rcases List.mem_cons.1 h with e | h
  ·have:=HLT.out g (by simp);have:=HGK.out;omega
  exact NF'.out h,fun h=>by have:=HFL.out _ h;have:=HGK.out;omega⟩
 exact ⟨t,a,L2,F2,rfl,MG.out.mods MW.out (by intro k hk;simp at hk;subst hk;exact NA),EX.out,RR.out,((GG.out.cons g).cons bc).write MW.out (by intro k hk;simp at hk;subst hk;exact Nat.le_of_eq HGK.out)⟩
theorem freshR_c {w:World} {bm n room:Nat} {L:List Rc} {Fs p:List Nat} {H:List (Nat × Ed)} {bs bo bq:Nat} {F:List Nat} {ba bc g f:Nat} {T:List Bool} {lm cc:Nat} (caps:Array Value) (hE:MgE w bm n room L Fs p H bs bo bq F ba bc g) (hH:H.length < 256) (h1:1≤f) (h5:f≤5)
 (WK:∀W,Mod [] w W→Calls Tryz.prog 29 caps W (WkR W bm n room L Fs p H bs bo bq F ba bc g f T lm cc)):
 Calls Tryz.prog 28 #[.pointer (some ⟨bm,0,none⟩),.int .u8 f,.func (.func 29) #[] caps] w (PtR w bm n room L Fs p H bs bo bq F ba bc g f T lm cc ((H.length+1:Nat):Int)):=by
 obtain ⟨⟨q,hq⟩,-⟩:=hE.m.own
 have RM:Hid (∀W,W=w→Calls Tryz.prog 32 #[.pointer (some ⟨bm,0,none⟩),.slice none 0 0] W _):=fun W e=>e▸room0_c hq hH
 have IF:=Lib.hid (isForm_c f h1 h5)
 have PT:=Lib.hid (putOf_c caps hE hH (by omega) WK)
 clear hE hq WK
 unfold PtR at PT ⊢
 generalize ((H.length+1:Nat):Int)=m at *
 go_enter Tryz.func28,Tryz.ntmps28
 go_wp2_with fail
 refine (RM.out _ rfl).mono ?_
 rintro e w1 ⟨rfl,rfl⟩
 go_wp2_with fail
 refine (IF.out _).mono ?_
 rintro e w2 ⟨rfl,rfl⟩
 go_wp2_with fail
 refine PT.out.mono ?_
 rintro e w3 ⟨rfl,P⟩
 have PP:=Lib.hid P
 clear P PT
 go_wp2_with fail
 go_ret2
 exact ⟨rfl,PP.out⟩
theorem managerOf_c {w:World} {bm n room:Nat} {L:List Rc} {Fs:List Nat} {H:List (Nat × Ed)} {bs bo bq:Nat} {F:List Nat} {ba bc g f:Nat} {lm cc W:Nat} (h1:1≤f) (h5:f≤5) (hn:n≤5) (hW:W < 2 ^ (2 ^ n)) (hrm:room≤100000)
 (hE:MgE w bm n room L Fs (List.range n) H bs bo bq F ba bc g) (hH:H.length < 256) (hR:Rm n f lm room L (budF lm+cc)) {gs cap:Nat} (hs0:w.cell? ⟨gs,0,none⟩=some (.int .u64 W)) (hgs:gs∉Fs):
 Calls Tryz.prog 10 #[.pointer (some ⟨bm,0,none⟩),.int .u8 f,.agg #[.int .i64 n,.slice (some ⟨gs,0,none⟩) 1 cap]] w (PtR w bm n room L Fs (List.range n) H bs bo bq F ba bc g f (tabL W (List.range n) n 0 0) lm cc ((H.length+1:Nat):Int)):=by
 have HM:=Lib.hid hE
 have HSL:=Lib.hid hE.e.sto.st.lt
 have lgs:=World.block_lt_of_cell? w _ hs0
 obtain ⟨gx,hg⟩:∃g,w.heap.size=g:=⟨_,rfl⟩
 have HG:=Lib.hid hg
 have MA:Hid (Mod [] w (((w.alloc (.cells #[.pointer (some ⟨bm,0,none⟩)] 31)).alloc (.cells #[.int .u8 f] 25)).alloc (.cells #[.int .i64 n,.slice (some ⟨gs,0,none⟩) 1 cap] 39))):=(((Mod.refl _ _).alloc _).alloc _).alloc _
 have BA:=Lib.hid (((Blk.new' w #[.pointer (some ⟨bm,0,none⟩)] 31 gx hg.symm).alloc (.cells #[.int .u8 f] 25)).alloc (.cells #[.int .i64 n,.slice (some ⟨gs,0,none⟩) 1 cap] 39))
 have BB:=Lib.hid ((Blk.new' (w.alloc (.cells #[.pointer (some ⟨bm,0,none⟩)] 31)) #[.int .u8 f] 25 (gx+1) (by simp [hg])).alloc (.cells #[.int .i64 n,.slice (some ⟨gs,0,none⟩) 1 cap] 39))
 have BC:=Lib.hid (Blk.new' ((w.alloc (.cells #[.pointer (some ⟨bm,0,none⟩)] 31)).alloc (.cells #[.int .u8 f] 25)) #[.int .i64 n,.slice (some ⟨gs,0,none⟩) 1 cap] 39 (gx+2) (by simp [hg]))
 have HS0:Hid (∀U,Mod [] w U→U.cell? ⟨gs,0,none⟩=some (.int .u64 W)):=fun U m=>(m.cell (a:=⟨gs,0,none⟩) lgs (by simp)).trans hs0
 obtain ⟨m,hm⟩:∃m:Int,((H.length+1:Nat):Int)=m:=⟨_,rfl⟩
 rw [hm]
 have HMI:=Lib.hid hm
 have HW:=Lib.hid hW
 clear hm hE hs0 lgs hW
 go_enter Tryz.func10,Tryz.ntmps10
 go_wp2_with fail
 generalize ((w.alloc (.cells #[.pointer (some ⟨bm,0,none⟩)] 31)).alloc (.cells #[.int .u8 f] 25)).alloc (.cells #[.int .i64 n,.slice (some ⟨gs,0,none⟩) 1 cap] 39)=wA at *
 have WK:Hid (∀U,Mod [] wA U→Calls Tryz.prog 29 #[.pointer (some ⟨gx,0,none⟩),.pointer (some ⟨gx+1,0,none⟩),.pointer (some ⟨gx+1+1,0,none⟩)] U (WkR U bm n room L Fs (List.range n) H bs bo bq F ba bc g f (tabL W (List.range n) n 0 0) lm cc)):=fun U m=>
  of1R_c h1 h5 hn HW.out hrm ((HM.out.mod0 MA.out).mod0 m) hR (by have:=(BA.out.mod m (by simp)).cell 0;simpa using this) (by have:=(BB.out.mod m (by simp)).cell 0;simpa using this) (by have:=(BC.out.mod m (by simp)).cell 0;simpa using this) (by have:=(BC.out.mod m (by simp)).cell 1;simpa using this) (HS0.out U (MA.out.trans' m))
   (fun h=>by have:=HSL.out _ h;omega) (fun h=>by have:=HSL.out _ h;omega) (fun h=>by have:=HSL.out _ h;omega) hgs
 have FV:=freshR_c _ (HM.out.mod0 MA.out) hH h1 h5 WK.out
 unfold PtR at FV
 rw [HMI.out] at FV
 refine FV.mono ?_
 rintro e w3 ⟨rfl,ed,L2,F',mg,ex,rr,m3⟩
 have PP:Hid (∃(ed:Ed) (L2:List Rc) (F':List Nat),MgE w3 bm n room (L++L2) F' (List.range n) (H++[(f,ed)]) bs bo bq F ba bc g∧EdT (L++L2) f n n 0 ed (tabL W (List.range n) n 0 0)∧Rm n f lm room (L++L2) cc∧Grow w w3 (bm::bc::g::Fs) (bm::bc::g::F')):=⟨ed,L2,F',mg,ex,rr,(Grow.of_mod MA.out).trans m3⟩
 clear mg ex rr m3 WK BA BB BC
 clear FV
 go_wp2_with fail
 go_ret2
 exact ⟨rfl,PP.out⟩
open Go.RowKit
theorem mgL_drop (q:List Value) (f:Nat) (e:Ed) (i:Nat) (h6:¬i=6) (h1:¬i=265) (h2:¬i=266) (h3:¬i=267):mgL q [(f,e)] i=mgL q [] i:=by
 unfold mgL
 by_cases c5:i < 5
 ·rw [if_pos c5,if_pos c5]
 ·rw [if_neg c5,if_neg c5]
  by_cases c6:i < 262
  ·rw [if_pos c6,if_pos c6]
   congr 1
   exact decide_eq_decide.2 (by simp;omega)
  ·rw [if_neg c6,if_neg c6]
   by_cases c7:i < 265
   ·simp only [c7,if_true]
   ·simp only [c7,if_false]
    have hn:[(f,e)][(i - 265) / 3]? =none:=List.getElem?_eq_none (by simp;omega)
    rw [hn]
    rfl
theorem Mgr.drop {w:World} {b:Nat} {q:List Value} {f:Nat} {e:Ed} (h:Mgr w b q [(f,e)]):
 Mgr ((((w.setCell ⟨b,6,none⟩ (.bool false)).setCell ⟨b,265,none⟩ (.int .u8 0)).setCell ⟨b,266,none⟩ (.int .u8 0)).setCell ⟨b,267,none⟩ (.int .u32 0)) b q []:=by
 obtain ⟨c,h1,h2,h3⟩:=h.blk
 refine ⟨_,(((h1.set _ _).set _ _).set _ _).set _ _,by simp [h2],fun i hi=>?_⟩
 simp only [Array.getElem?_setIfInBounds,Array.size_setIfInBounds,h2]
 by_cases a1:i=6
 ·subst a1;rw [if_neg (by omega),if_neg (by omega),if_neg (by omega),if_pos rfl,if_pos (by omega)];rfl
 ·by_cases a2:i=265
  ·subst a2;rw [if_neg (by omega),if_neg (by omega),if_pos rfl,if_pos (by omega)];rfl
  ·by_cases a3:i=266
   ·subst a3;rw [if_neg (by omega),if_pos rfl,if_pos (by omega)];rfl
   ·by_cases a4:i=267
    ·subst a4;rw [if_pos rfl,if_pos (by omega)];rfl
    ·rw [if_neg (fun e=>a4 e.symm),if_neg (fun e=>a3 e.symm),if_neg (fun e=>a2 e.symm),if_neg (fun e=>a1 e.symm),h3 i hi,mgL_drop q f e i a1 a2 a3 a4]
theorem managerDrop_c {w:World} {bm n room:Nat} {L:List Rc} {Fs p:List Nat} {f:Nat} {e:Ed} {bs bo bq:Nat} {F:List Nat} {ba bc g:Nat} (hE:MgE w bm n room L Fs p [(f,e)] bs bo bq F ba bc g):
 Calls Tryz.prog 12 #[.pointer (some ⟨bm,0,none⟩),.int .i64 1] w fun e' w'=>e'=.returned (.int .u8 0)∧MgE w' bm n room L Fs p [] bs bo bq F ba bc g∧Mod [bm] w w':=by
 have HE:=Lib.hid hE
 have hbl:=hE.lt bm (by simp)
 obtain ⟨gx,hg⟩:∃g,w.heap.size=g:=⟨_,rfl⟩
 have MA:Hid (Mod [] w (w.alloc (.cells #[.int .i64 1] 3))):=(Mod.refl _ _).alloc _
 have SM:Hid (Calls Tryz.prog 31 #[.pointer (some ⟨bm,0,none⟩),.slice (some ⟨gx,0,none⟩) 1 1] (w.alloc (.cells #[.int .i64 1] 3)) fun e' w'=>e'=.returned (.tuple #[.int .u8 f,.int .u8 0])∧w'=w.alloc (.cells #[.int .i64 1] 3)):=by
  obtain ⟨⟨q,hq⟩,-⟩:=(hE.mod0 MA.out).m.own
  have BA:=Blk.new' w #[.int .i64 1] 3 gx hg.symm
  have:=same1_c (g:=gx) (cap:=1) (a:=0) (f:=f) (e:=e) hq (by simp) (by have:=BA.cell 0;simpa using this) (by simp)
  exact this
 clear hE
 have hbg:¬bm=gx:=by omega
 have hbg2:¬gx=bm:=by omega
 go_enter Tryz.func12,Tryz.ntmps12
 go_wp2_with fail
 refine SM.out.mono ?_
 rintro e' w1 ⟨rfl,rfl⟩
 have ME:=Lib.hid (HE.out.mod0 MA.out)
 replace hbl:=Nat.lt_of_lt_of_le hbl MA.out.size
 have MA2:=Lib.hid MA.out
 clear SM HE MA hg
 generalize w.alloc (.cells #[.int .i64 1] 3)=w1 at *
 obtain ⟨⟨q,hq⟩,-⟩:=ME.out.m.own
 have x5:=hq.cell 6 (by omega)
 have x0:=hq.cell 265 (by omega)
 have x1:=hq.cell 266 (by omega)
 have x2:=hq.cell 267 (by omega)
 obtain ⟨v5,hv5⟩:∃v,mgL q [(f,e)] 6=v:=⟨_,rfl⟩
 obtain ⟨v0,hv0⟩:∃v,mgL q [(f,e)] 265=v:=⟨_,rfl⟩
 obtain ⟨v1,hv1⟩:∃v,mgL q [(f,e)] 266=v:=⟨_,rfl⟩
 obtain ⟨v2,hv2⟩:∃v,mgL q [(f,e)] 267=v:=⟨_,rfl⟩
 rw [hv5] at x5
 rw [hv0] at x0
 rw [hv1] at x1
 rw [hv2] at x2
 have z5:=hq.froz 6
 have y0:=hq.froz 265
 have y1:=hq.froz 266
 have y2:=hq.froz 267
 clear hv5 hv0 hv1 hv2 hq
 go_wp2_with fail
 go_region
 go_wp2_with fail
 go_ret
 have MB:Mod [bm] w1 (((((w1.setCell ⟨bm,6,none⟩ (.bool false)).setCell ⟨bm,265,none⟩ (.int .u8 0)).setCell ⟨bm,266,none⟩ (.int .u8 0)).setCell ⟨bm,267,none⟩ (.int .u32 0)).drew):=
  (((((Mod.refl _ _).setCell _ _ (by simp)).setCell _ _ (by simp)).setCell _ _ (by simp)).setCell _ _ (by simp)).drew
 exact ⟨rfl,ME.out.book MB (fun q hq=>⟨(Mgr.drop hq).blk⟩),(MA2.out.mono (by simp)).trans' MB⟩
end Go.Proofs.YtlafpknoiihaaaaGreatDoor
