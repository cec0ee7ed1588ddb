/- Mq26: Cu · Bv · Mv · Mw · My -/
import Derived.Test.YtlafpknoiihaaaaGreatDoorMq06
import Derived.Test.YtlafpknoiihaaaaGreatDoorMq16
import Derived.Deep.RegionLaw
import Derived.Deep.CutRange
import Derived.Test.YtlafpknoiihaaaaGreatDoorMq09
import Derived.Test.YtlafpknoiihaaaaGreatDoorMq07
import Derived.Deep.RegionHeld3
set_option maxRecDepth 100000
set_option maxHeartbeats 4000000
set_option linter.unusedVariables false
set_option linter.unusedSimpArgs false
namespace Go.Proofs.YtlafpknoiihaaaaGreatDoor
open Go.RowKit
def cubeD (f:Nat):Nat→List Rc→Ed→List Rc × Ed
 | 0,L,e=>(L,e)
 | k+1,L,e=>cubeD f k (mkP L f k (if k=0 then ⟨0,0⟩ else e) e).1 (mkP L f k (if k=0 then ⟨0,0⟩ else e) e).2
def cube3 (L:List Rc) (f:Nat):List Rc × Ed:=cubeD f 3 L (oneE f 3)
theorem leads_zero (L:List Rc) (f l n:Nat):LeadsP L f ⟨0,0⟩ l n:=
 ⟨⟨fun _=>rfl,fun _ h=>absurd rfl h⟩,.inl (by simp)⟩
theorem leads_one (L:List Rc) (f:Nat) (h1:1≤f) (h5:f≤5):LeadsP L f (oneE f 3) 3 3:=by
 unfold oneE
 by_cases h:f=5
 ·rw [if_pos h];exact ⟨⟨fun h'=>by simp [h] at h',fun _ _=>by simp⟩,.inl (by simp)⟩
 ·rw [if_neg h];exact ⟨⟨fun _=>rfl,fun h'=>absurd h' h⟩,.inl (by simp)⟩
theorem cube3_c (f:Nat) (h1:1≤f) (h5:f≤5) {w:World} {b:Nat} {L:List Rc} {room:Nat} {F:List Nat} (h:IsSt w b 3 L room F) (hL:L.length≤1000) (hroom:L.length+3 < room) (hrm:room≤1048576) (hG:Good L 3):
 Calls Tryz.prog 68 #[.pointer (some ⟨b,0,none⟩),.int .u8 f,.int .i64 0,.int .u16 1,.int .u16 0] w (WorkP w b 3 room F (cube3 L f).1 (cube3 L f).2):=by
 have IF:=Lib.hid (isForm_c f h1 h5)
 have VR:Hid (∀W,Mod [] w W→Calls Tryz.prog 59 #[.pointer (some ⟨b,0,none⟩)] W fun e w'=>e=.returned (.int .i64 ((3:Nat):Int))∧w'=W):=fun W m=>by
  obtain ⟨ba,bi,Fa,c0,-⟩:=(h.mod m (by simp)).own
  exact stVars_c b 3 W c0
 have ON:Hid (∀W',Calls Tryz.prog 88 #[.int .u8 f,.int .i64 ((3:Nat):Int)] W' fun e' w'=>e'=.returned (edv (oneE f 3))∧Mod [] W' w'):=fun W'=>one_c f h1 h5 3 (by omega) W'
 have HS:=Lib.hid h
 clear h
 go_enter Tryz.func68,Tryz.ntmps68
 go_wp2_with fail
 refine (IF.out _).mono ?_
 rintro e w1 ⟨rfl,rfl⟩
 go_wp2_with fail
 refine (VR.out _ (by exact mods)).mono ?_
 rintro e w1 ⟨rfl,rfl⟩
 obtain ⟨g10,hg10⟩:∃g,w.heap.size=g:=⟨_,rfl⟩
 go_wp2_with fail
 refine (ON.out _).mono ?_
 rintro e w1 ⟨rfl,m1⟩
 have B10:=Lib.hid ((Blk.new' w #[.int .u8 0,.int .u32 0] 66 g10 hg10.symm).mod m1 (by simp))
 have M1:Hid (Mod [] w w1):=Mod.trans' ((Mod.refl _ _).alloc _) m1
 have S1:=Lib.hid (HS.out.mod M1.out (by simp))
 obtain ⟨et,ea,hE⟩:∃t a,oneE f 3=⟨t,a⟩:=⟨_,_,rfl⟩
 rw [hE]
 have HE:=Lib.hid hE
 clear hE
 clear m1
 obtain ⟨g13,hg13⟩:∃g,w1.heap.size=g:=⟨_,rfl⟩
 unfold edv
 simp only
 go_wp2_with fail
 have B13:=Lib.hid (Blk.new' w1 #[.int .u8 et,.int .u32 ea] 66 g13 hg13.symm)
 have M2:Hid (Mod [] w1 (w1.alloc (.cells #[.int .u8 et,.int .u32 ea] 66))):=(Mod.refl _ _).alloc _
 have SZ2:Hid ((w1.alloc (.cells #[.int .u8 et,.int .u32 ea] 66)).heap.size=g13+1):=by show _=_;simp [hg13]
 generalize w1.alloc (.cells #[.int .u8 et,.int .u32 ea] 66)=w2 at *
 go_loopw [14,15,16,17,18] (fun i14 _ _ _ _ wr=>∃(m:Nat) (L':List Rc) (t a:Nat) (F':List Nat),i14=.int .i64 ((m:Int) - 1)∧m≤3∧Hid (cubeD f m L' ⟨t,a⟩=cube3 L f)∧Hid (IsSt wr b 3 L' room F')∧Hid (Blk wr g13 #[.int .u8 t,.int .u32 a] 66)∧Hid (Blk wr g10 #[.int .u8 0,.int .u32 0] 66)∧
  Hid (Mod F w wr)∧Hid (∀k∈F',k∈F∨w.heap.size≤k)∧Hid (g13∉F'∧g10∉F')∧Hid (Good L' 3)∧Hid (LeadsP L' f ⟨t,a⟩ m 3)∧L'.length+m≤L.length+3) (fun i _ _ _ _ _=>(intOf i+1).toNat)
 case atStart=>
  refine ⟨3,L,et,ea,F,by first | rfl | simp,by omega,?_,S1.out.mod M2.out (by simp),B13.out,B10.out.mod M2.out (by simp),M1.out.mono (by simp) |>.trans' (M2.out.mono (by simp)),fun k hk=>.inl hk,⟨fun h=>by have h2:=HS.out.lt _ h;have:=M1.out.size;omega,fun h=>by have h2:=HS.out.lt _ h;omega⟩,hG,?_,by omega⟩
  ·show cubeD f 3 L ⟨et,ea⟩=cube3 L f
   rw [cube3,HE.out]
  ·show LeadsP _ _ _ _ _
   rw [←HE.out];exact leads_one L f h1 h5
 case round=>
  obtain ⟨m,L',t,a,F',rfl,hm,HC,HS',HB13,HB10,HMD,HF',HN,HG',HL',hlen⟩:=hrel
  clear B13
  by_cases hm0:m=0
  ·subst hm0
   obtain ⟨e0,e1⟩:=HB13.out.cells2
   obtain ⟨x0,x1⟩:=HB10.out.cells2
   obtain ⟨y0,y1,-⟩:=HB10.out.frozs
   go_wp2_with fail
   have BW:=((HB10.out.set 0 (.int .u8 t)).set 1 (.int .u32 a))
   simp only [List.setIfInBounds_toArray,List.set_cons_zero,List.set_cons_succ] at BW
   obtain ⟨z0,z1⟩:=BW.cells2
   have MW:Hid (Mod [g10] wr ((wr.setCell ⟨g10,0,none⟩ (.int .u8 t)).setCell ⟨g10,1,none⟩ (.int .u32 a))):=((Mod.refl _ _).setCell _ _ (by simp)).setCell _ _ (by simp)
   generalize (wr.setCell ⟨g10,0,none⟩ (.int .u8 t)).setCell ⟨g10,1,none⟩ (.int .u32 a)=w4 at *
   clear BW x0 x1 y0 y1 e0 e1
   refine bodyPost_ret (v:=.tuple #[.agg #[.int .u8 t,.int .u32 a],.int .u8 0]) (by simp [results,Tryz.results68,go_sem,z0,z1];try rfl) rfl ?_
   have hc:cube3 L f=(L',⟨t,a⟩):=HC.out.symm
   rw [hc]
   exact ⟨rfl,F',HS'.out.mod MW.out (fun k hk h=>by simp at h;subst h;exact HN.out.2 hk),HMD.out.trans MW.out (fun i hi h=>by simp at h;omega),HF'.out⟩
  ·obtain ⟨k,rfl⟩:∃k,m=k+1:=⟨m - 1,by omega⟩
   have hk0:(((k+1:Nat):Int) - 1)=(k:Int):=by omega
   simp only [hk0]
   obtain ⟨e0,e1⟩:=HB13.out.cells2
   obtain ⟨gn,hgn⟩:∃g,wr.heap.size=g:=⟨_,rfl⟩
   have hlt:g13 < gn:=by have:=HB13.out.lt;omega
   have n1:¬g13=gn:=by omega
   have n2:¬gn=g13:=by omega
   have n3:¬g13=gn+1:=by omega
   have n4:¬gn+1=g13:=by omega
   have hk00:(0:Int)≤k:=by omega
   go_upto_region 14 with fail
   go_cut [15,16] from 66 to 98 (fun p15 p16 wx=>∃ga gb,p15=.pointer (some ⟨ga,0,none⟩)∧p16=.pointer (some ⟨gb,0,none⟩)∧Hid (Blk wx ga #[.int .u8 t,.int .u32 a] 66)∧Hid (Blk wx gb #[.int .u8 t,.int .u32 a] 66)∧gn≤ga∧gn≤gb∧ga≠gb∧Hid (Mod [] wr wx))
   case first=>
    go_region
    all_goals (go_wp2_with fail;go_meet)
    all_goals
     have BN:=((Blk.new' wr #[.int .u8 t,.int .u32 a] 66 gn hgn.symm).alloc (.cells #[.int .u8 t,.int .u32 a] 66))
     have BN1:=(Blk.new' (wr.alloc (.cells #[.int .u8 t,.int .u32 a] 66)) #[.int .u8 t,.int .u32 a] 66 (gn+1) (by simp [hgn]))
     have MN:Mod [] wr ((wr.alloc (.cells #[.int .u8 t,.int .u32 a] 66)).alloc (.cells #[.int .u8 t,.int .u32 a] 66)):=((Mod.refl _ _).alloc _).alloc _
     first
      | exact ⟨gn,gn+1,rfl,rfl,BN,BN1,by omega,by omega,by omega,by first | exact MN | exact MN.drew | exact MN.drewN _⟩
      | exact ⟨gn+1,gn,rfl,rfl,BN1,BN,by omega,by omega,by omega,by first | exact MN | exact MN.drew | exact MN.drewN _⟩
   case rest=>
    obtain ⟨ga,gb,rfl,rfl,BA,BB,hga,hgb,hgab,MX⟩:=hcut
    have SX:=Lib.hid (HS'.out.mod MX.out (by simp))
    have FL:Hid (∀k∈F',k < gn):=fun k hk=>by have:=HS'.out.lt k hk;omega
    have haF:ga∉F':=fun h=>by have:=FL.out _ h;omega
    have hbF:gb∉F':=fun h=>by have:=FL.out _ h;omega
    have B13x:=Lib.hid (HB13.out.mod MX.out (by simp))
    have B10x:=Lib.hid (HB10.out.mod MX.out (by simp))
    have HAF:=Lib.hid haF
    have HBF:=Lib.hid hbF
    obtain ⟨a0,a1⟩:=BA.out.cells2
    obtain ⟨b0,b1⟩:=BB.out.cells2
    obtain ⟨z0,z1,-⟩:=BA.out.frozs
    have hab1:¬ga=gb:=hgab
    have hab2:¬gb=ga:=fun e=>hgab e.symm
    have hac1:¬ga=g13:=by omega
    have hac2:¬g13=ga:=by omega
    have hbc1:¬gb=g13:=by omega
    have hbc2:¬g13=gb:=by omega
    have had1:¬ga=g10:=by have:=HB10.out.lt;omega
    have hk3:k < 3:=by omega
    have MK:Hid (∀W lo,Mod [ga] wc W→LeadsP L' f lo (k+1) 3→_):=fun W lo m hlo=>canonMake_c f h1 h5 (SX.out.mod m (fun k hk h=>by simp at h;subst h;exact HAF.out hk)) (by omega) (by omega) hrm (by omega) HG'.out k hk3 lo ⟨t,a⟩ hlo HL'.out
    clear haF hbF e0 e1
    by_cases hkz:k=0
    ·subst hkz
     have hz:Hid (LeadsP L' f ⟨0,0⟩ (0+1) 3):=leads_zero _ _ _ _
     unfold edv at MK
     simp only at MK
     go_wp2_with fail
     refine (MK.out _ ⟨0,0⟩ (by exact mods) hz.out).mono ?_
     rintro e w5 ⟨rfl,F2,s2,m2,f2⟩
     have MG:=Lib.hid (mkP_good HG'.out h1 h5 hk3 (by omega) hz.out HL'.out)
     have MW:Hid (Mod [ga] wc ((wc.setCell ⟨ga,0,none⟩ (.int .u8 0)).setCell ⟨ga,1,none⟩ (.int .u32 0))):=by
      show Mod _ _ _
      exact mods
     have B13y:=Lib.hid ((B13x.out.mod MW.out (by simp;omega)).mod m2 HN.out.1)
     have B10y:=Lib.hid ((B10x.out.mod MW.out (by simp;omega)).mod m2 HN.out.2)
     have SZW:wc.heap.size≤((wc.setCell ⟨ga,0,none⟩ (.int .u8 0)).setCell ⟨ga,1,none⟩ (.int .u32 0)).heap.size:=MW.out.size
     have HSX:wr.heap.size≤wc.heap.size:=MX.out.size
     have S2:=Lib.hid s2
     have MM:Hid (Mod F w w5):=((HMD.out.trans' (MX.out.mono (by simp))).trans MW.out (fun i hi h=>by have:=HMD.out.size;simp at h;omega)).trans m2 (fun i hi h=>(HF'.out i h).elim id fun h'=>by omega)
     have FF2:Hid (∀k∈F2,k∈F'∨gn≤k):=fun k hk=>(f2 k hk).imp id fun h=>by omega
     clear s2 m2 f2 MK MW SZW HSX a0 a1 b0 b1 z0 z1
     generalize hP:mkP L' f 0 ⟨0,0⟩ ⟨t,a⟩=P at *
     obtain ⟨L2,rt,ra⟩:=P
     simp only at S2 MG
     have HP:=Lib.hid hP
     clear hP
     obtain ⟨c0,c1⟩:=B13y.out.cells2
     obtain ⟨d0,d1,-⟩:=B13y.out.frozs
     obtain ⟨gz,hgz⟩:∃g,w5.heap.size=g:=⟨_,rfl⟩
     have hgl:=B13y.out.lt
     rw [hgz] at hgl
     have p1:¬g13=gz:=by omega
     have p2:¬gz=g13:=by omega
     have hzF:gz∉F2:=fun h=>by have:=S2.out.lt _ h;omega
     have h13:g13∉F2:=fun h=>(FF2.out _ h).elim HN.out.1 (fun h=>by omega)
     have h10:g10∉F2:=fun h=>(FF2.out _ h).elim HN.out.2 (fun h=>by have:=HB10.out.lt;omega)
     have HH:=Lib.hid (And.intro h13 h10)
     have FFw:Hid (∀k∈F2,k∈F∨w.heap.size≤k):=fun k hk=>(FF2.out k hk).elim (HF'.out k) (fun h=>.inr (by have:=HMD.out.size;omega))
     clear hzF h13 h10
     simp only
     go_wp2_with fail
     have MZ:Hid (Mod [g13] w5 (((w5.setCell ⟨g13,0,none⟩ (.int .u8 rt)).setCell ⟨g13,1,none⟩ (.int .u32 ra)).alloc (.cells #[.int .u8 rt,.int .u32 ra] 66))):=(((Mod.refl _ _).setCell _ _ (by simp)).setCell _ _ (by simp)).alloc _
     have BZ:Hid (Blk (((w5.setCell ⟨g13,0,none⟩ (.int .u8 rt)).setCell ⟨g13,1,none⟩ (.int .u32 ra)).alloc (.cells #[.int .u8 rt,.int .u32 ra] 66)) g13 #[.int .u8 rt,.int .u32 ra] 66):=by
      have:=((B13y.out.set 0 (.int .u8 rt)).set 1 (.int .u32 ra)).alloc (.cells #[.int .u8 rt,.int .u32 ra] 66)
      simp only [List.setIfInBounds_toArray,List.set_cons_zero,List.set_cons_succ] at this
      exact this
     go_roundw
     case rel=>
      refine ⟨0,L2,rt,ra,F2,by first | rfl | (simp;try omega),by omega,?_,?_,?_,?_,?_,FFw.out,HH.out,MG.out.1,MG.out.2.1,by have:=MG.out.2.2.2;omega⟩
      ·show _=_
       have:=HC.out
       rw [cubeD] at this
       rw [if_pos rfl,HP.out] at this
       exact this
      ·exact S2.out.mod MZ.out (fun k hk h=>by simp at h;subst h;exact HH.out.1 hk)
      ·exact BZ.out
      ·exact B10y.out.mod MZ.out (by simp;have:=B10.out.lt;omega)
      ·exact MM.out.trans MZ.out (fun i hi h=>by have:=M1.out.size;simp at h;omega)
     case measure=>simp [intOf];try omega
    ·have hz:=HL'
     unfold edv at MK
     simp only at MK
     obtain rfl | rfl:k=1∨k=2:=by omega
     ·go_wp2_with fail
      refine (MK.out _ ⟨t,a⟩ (by exact mods) hz.out).mono ?_
      rintro e w5 ⟨rfl,F2,s2,m2,f2⟩
      have MG:=Lib.hid (mkP_good HG'.out h1 h5 hk3 (by omega) hz.out HL'.out)
      have MW:Hid (Mod [ga] wc wc):=by
       show Mod _ _ _
       exact mods
      have B13y:=Lib.hid ((B13x.out.mod MW.out (by simp;omega)).mod m2 HN.out.1)
      have B10y:=Lib.hid ((B10x.out.mod MW.out (by simp;omega)).mod m2 HN.out.2)
      have SZW:wc.heap.size≤wc.heap.size:=MW.out.size
      have HSX:wr.heap.size≤wc.heap.size:=MX.out.size
      have S2:=Lib.hid s2
      have MM:Hid (Mod F w w5):=((HMD.out.trans' (MX.out.mono (by simp))).trans MW.out (fun i hi h=>by have:=HMD.out.size;simp at h;omega)).trans m2 (fun i hi h=>(HF'.out i h).elim id fun h'=>by omega)
      have FF2:Hid (∀k∈F2,k∈F'∨gn≤k):=fun k hk=>(f2 k hk).imp id fun h=>by omega
      clear s2 m2 f2 MK MW SZW HSX a0 a1 b0 b1 z0 z1
      generalize hP:mkP L' f 1 ⟨t,a⟩ ⟨t,a⟩=P at *
      obtain ⟨L2,rt,ra⟩:=P
      simp only at S2 MG
      have HP:=Lib.hid hP
      clear hP
      obtain ⟨c0,c1⟩:=B13y.out.cells2
      obtain ⟨d0,d1,-⟩:=B13y.out.frozs
      obtain ⟨gz,hgz⟩:∃g,w5.heap.size=g:=⟨_,rfl⟩
      have hgl:=B13y.out.lt
      rw [hgz] at hgl
      have p1:¬g13=gz:=by omega
      have p2:¬gz=g13:=by omega
      have hzF:gz∉F2:=fun h=>by have:=S2.out.lt _ h;omega
      have h13:g13∉F2:=fun h=>(FF2.out _ h).elim HN.out.1 (fun h=>by omega)
      have h10:g10∉F2:=fun h=>(FF2.out _ h).elim HN.out.2 (fun h=>by have:=HB10.out.lt;omega)
      have HH:=Lib.hid (And.intro h13 h10)
      have FFw:Hid (∀k∈F2,k∈F∨w.heap.size≤k):=fun k hk=>(FF2.out k hk).elim (HF'.out k) (fun h=>.inr (by have:=HMD.out.size;omega))
      clear hzF h13 h10
      simp only
      go_wp2_with fail
      have MZ:Hid (Mod [g13] w5 (((w5.setCell ⟨g13,0,none⟩ (.int .u8 rt)).setCell ⟨g13,1,none⟩ (.int .u32 ra)).alloc (.cells #[.int .u8 rt,.int .u32 ra] 66))):=(((Mod.refl _ _).setCell _ _ (by simp)).setCell _ _ (by simp)).alloc _
      have BZ:Hid (Blk (((w5.setCell ⟨g13,0,none⟩ (.int .u8 rt)).setCell ⟨g13,1,none⟩ (.int .u32 ra)).alloc (.cells #[.int .u8 rt,.int .u32 ra] 66)) g13 #[.int .u8 rt,.int .u32 ra] 66):=by
       have:=((B13y.out.set 0 (.int .u8 rt)).set 1 (.int .u32 ra)).alloc (.cells #[.int .u8 rt,.int .u32 ra] 66)
       simp only [List.setIfInBounds_toArray,List.set_cons_zero,List.set_cons_succ] at this
       exact this
      go_roundw
      case rel=>
       refine ⟨1,L2,rt,ra,F2,by first | rfl | (simp;try omega),by omega,?_,?_,?_,?_,?_,FFw.out,HH.out,MG.out.1,MG.out.2.1,by have:=MG.out.2.2.2;omega⟩
       ·show _=_
        have:=HC.out
        rw [cubeD] at this
        rw [if_neg (by omega),HP.out] at this
        exact this
       ·exact S2.out.mod MZ.out (fun k hk h=>by simp at h;subst h;exact HH.out.1 hk)
       ·exact BZ.out
       ·exact B10y.out.mod MZ.out (by simp;have:=B10.out.lt;omega)
       ·exact MM.out.trans MZ.out (fun i hi h=>by have:=M1.out.size;simp at h;omega)
      case measure=>simp [intOf];try omega
     ·go_wp2_with fail
      refine (MK.out _ ⟨t,a⟩ (by exact mods) hz.out).mono ?_
      rintro e w5 ⟨rfl,F2,s2,m2,f2⟩
      have MG:=Lib.hid (mkP_good HG'.out h1 h5 hk3 (by omega) hz.out HL'.out)
      have MW:Hid (Mod [ga] wc wc):=by
       show Mod _ _ _
       exact mods
      have B13y:=Lib.hid ((B13x.out.mod MW.out (by simp;omega)).mod m2 HN.out.1)
      have B10y:=Lib.hid ((B10x.out.mod MW.out (by simp;omega)).mod m2 HN.out.2)
      have SZW:wc.heap.size≤wc.heap.size:=MW.out.size
      have HSX:wr.heap.size≤wc.heap.size:=MX.out.size
      have S2:=Lib.hid s2
      have MM:Hid (Mod F w w5):=((HMD.out.trans' (MX.out.mono (by simp))).trans MW.out (fun i hi h=>by have:=HMD.out.size;simp at h;omega)).trans m2 (fun i hi h=>(HF'.out i h).elim id fun h'=>by omega)
      have FF2:Hid (∀k∈F2,k∈F'∨gn≤k):=fun k hk=>(f2 k hk).imp id fun h=>by omega
      clear s2 m2 f2 MK MW SZW HSX a0 a1 b0 b1 z0 z1
      generalize hP:mkP L' f 2 ⟨t,a⟩ ⟨t,a⟩=P at *
      obtain ⟨L2,rt,ra⟩:=P
      simp only at S2 MG
      have HP:=Lib.hid hP
      clear hP
      obtain ⟨c0,c1⟩:=B13y.out.cells2
      obtain ⟨d0,d1,-⟩:=B13y.out.frozs
      obtain ⟨gz,hgz⟩:∃g,w5.heap.size=g:=⟨_,rfl⟩
      have hgl:=B13y.out.lt
      rw [hgz] at hgl
      have p1:¬g13=gz:=by omega
      have p2:¬gz=g13:=by omega
      have hzF:gz∉F2:=fun h=>by have:=S2.out.lt _ h;omega
      have h13:g13∉F2:=fun h=>(FF2.out _ h).elim HN.out.1 (fun h=>by omega)
      have h10:g10∉F2:=fun h=>(FF2.out _ h).elim HN.out.2 (fun h=>by have:=HB10.out.lt;omega)
      have HH:=Lib.hid (And.intro h13 h10)
      have FFw:Hid (∀k∈F2,k∈F∨w.heap.size≤k):=fun k hk=>(FF2.out k hk).elim (HF'.out k) (fun h=>.inr (by have:=HMD.out.size;omega))
      clear hzF h13 h10
      simp only
      go_wp2_with fail
      have MZ:Hid (Mod [g13] w5 (((w5.setCell ⟨g13,0,none⟩ (.int .u8 rt)).setCell ⟨g13,1,none⟩ (.int .u32 ra)).alloc (.cells #[.int .u8 rt,.int .u32 ra] 66))):=(((Mod.refl _ _).setCell _ _ (by simp)).setCell _ _ (by simp)).alloc _
      have BZ:Hid (Blk (((w5.setCell ⟨g13,0,none⟩ (.int .u8 rt)).setCell ⟨g13,1,none⟩ (.int .u32 ra)).alloc (.cells #[.int .u8 rt,.int .u32 ra] 66)) g13 #[.int .u8 rt,.int .u32 ra] 66):=by
       have:=((B13y.out.set 0 (.int .u8 rt)).set 1 (.int .u32 ra)).alloc (.cells #[.int .u8 rt,.int .u32 ra] 66)
       simp only [List.setIfInBounds_toArray,List.set_cons_zero,List.set_cons_succ] at this
       exact this
      go_roundw
      case rel=>
       refine ⟨2,L2,rt,ra,F2,by first | rfl | (simp;try omega),by omega,?_,?_,?_,?_,?_,FFw.out,HH.out,MG.out.1,MG.out.2.1,by have:=MG.out.2.2.2;omega⟩
       ·show _=_
        have:=HC.out
        rw [cubeD] at this
        rw [if_neg (by omega),HP.out] at this
        exact this
       ·exact S2.out.mod MZ.out (fun k hk h=>by simp at h;subst h;exact HH.out.1 hk)
       ·exact BZ.out
       ·exact B10y.out.mod MZ.out (by simp;have:=B10.out.lt;omega)
       ·exact MM.out.trans MZ.out (fun i hi h=>by have:=M1.out.size;simp at h;omega)
      case measure=>simp [intOf];try omega
open Go.RowKit
theorem ordLevel_c {w:World} {b:Nat} {p q:List Nat} {F:List Nat} (h:IsOrd w b p q F) (hp:q.length≤16) (l:Nat) (hl:l < q.length):
 Calls Tryz.prog 69 #[.pointer (some ⟨b,0,none⟩),.int .i64 l] w fun e w'=>e=.returned (.int .i64 (q[l]:Nat))∧w'=w:=by
 obtain ⟨vp,vq,Fp,Fq,h1,h2,h3,rfl,r⟩:=h
 obtain ⟨g,cap,rfl,rfl,hcap⟩:=h3.pos (by omega)
 have c0:=h1.cell 1
 simp only [List.getElem?_toArray,List.getElem?_cons_zero,List.getElem?_cons_succ] at c0
 have d0:=(h3.at l (by omega)).1
 rw [List.getElem?_map,List.getElem?_eq_getElem hl] at d0
 simp only [Option.map_some] at d0
 have AT:=Lib.hid (at_c (some ⟨g,0,none⟩) g q.length cap l (q[l]:Nat) hl (by omega) w rfl d0)
 generalize (q[l]:Nat)=v at *
 clear h1 h2 h3 d0
 go_enter Tryz.func69,Tryz.ntmps69
 go_wp2_with fail
 refine AT.out.mono ?_
 rintro e w' ⟨rfl,rfl⟩
 go_wp2_with fail
 go_ret
 exact ⟨rfl,rfl⟩
theorem buildVar3_c (f:Nat) (h1:1≤f) (h5:f≤5) {w:World} {b bo:Nat} {L:List Rc} {room:Nat} {F:List Nat} {p q Fo:List Nat} (h:IsSt w b 3 L room F) (hO:IsOrd w bo p q Fo) (hp:p.length=3) (hq:q[0]? =some 0) (hql:q.length≤16)
 (hL:L.length≤1000) (hroom:L.length+3 < room) (hrm:room≤1048576) (hG:Good L 3):
 Calls Tryz.prog 42 #[.pointer (some ⟨b,0,none⟩),.pointer (some ⟨bo,0,none⟩),.int .u8 f,.int .i64 0] w (WorkP w b 3 room F (cube3 L f).1 (cube3 L f).2):=by
 have VA:Hid (∀W,Mod [] w W→Calls Tryz.prog 59 #[.pointer (some ⟨b,0,none⟩)] W fun e w'=>e=.returned (.int .i64 ((3:Nat):Int))∧w'=W):=fun W m=>by
  obtain ⟨ba,bi,Fa,c0,-⟩:=(h.mod m (by simp)).own
  exact stVars_c b 3 W c0
 have MY:Hid (∀W,Mod [] w W→_):=fun W m=>buildMay_c 3 f b bo h1 h5 W (VA.out W m) (by have:=ordVars_c (hO.mod m (by simp));rw [hp] at this;exact this)
 obtain ⟨hq0,hqe⟩:=List.getElem?_eq_some_iff.1 hq
 have LV:Hid (∀W,Mod [] w W→Calls Tryz.prog 69 #[.pointer (some ⟨bo,0,none⟩),.int .i64 0] W fun e w'=>e=.returned (.int .i64 0)∧w'=W):=fun W m=>by
  have:=ordLevel_c (hO.mod m (by simp)) hql 0 hq0
  rw [hqe] at this
  exact this
 have CU:Hid (∀W,Mod [] w W→_):=fun W m=>cube3_c f h1 h5 (h.mod m (by simp)) hL hroom hrm hG
 have HS:=Lib.hid h
 obtain ⟨g8,hg8⟩:∃g,w.heap.size=g:=⟨_,rfl⟩
 clear h hO hqe hq0 hq
 generalize cube3 L f=P at *
 obtain ⟨L',t,a⟩:=P
 go_enter Tryz.func42,Tryz.ntmps42
 go_wp2_with fail
 refine (MY.out _ (by exact mods)).mono ?_
 rintro e w1 ⟨rfl,rfl⟩
 go_wp2_with fail
 refine (VA.out _ (by exact mods)).mono ?_
 rintro e w1 ⟨rfl,rfl⟩
 go_wp2_with fail
 refine (LV.out _ (by exact mods)).mono ?_
 rintro e w1 ⟨rfl,rfl⟩
 go_wp2_with fail
 refine (CU.out _ (by exact mods)).mono ?_
 rintro e w5 ⟨rfl,F',s1,m1,f1⟩
 have NF:g8∉F:=fun h=>by have:=HS.out.lt _ h;omega
 have B8:=Lib.hid ((Blk.new' w #[.int .u8 0,.int .u32 0] 66 g8 hg8.symm).mod m1 NF)
 obtain ⟨x0,x1⟩:=B8.out.cells2
 obtain ⟨y0,y1,-⟩:=B8.out.frozs
 have S1:=Lib.hid s1
 have M1:Hid (Mod F w w5):=Mod.trans' (((Mod.refl [] w).alloc _).mono (by simp)) m1
 have SF:Hid (∀k∈F',k∈F∨w.heap.size≤k):=fun k hk=>(f1 k hk).imp id fun h=>by simp at h;omega
 have NF':Hid (g8∉F'):=fun h=>(f1 _ h).elim NF (fun h=>by simp at h;omega)
 clear s1 m1 f1 NF CU LV VA MY
 unfold edv
 simp only at *
 go_wp2_with fail
 have BW:=((B8.out.set 0 (.int .u8 t)).set 1 (.int .u32 a))
 simp only [List.setIfInBounds_toArray,List.set_cons_zero,List.set_cons_succ] at BW
 obtain ⟨z0,z1⟩:=BW.cells2
 have MW:Hid (Mod [g8] w5 ((w5.setCell ⟨g8,0,none⟩ (.int .u8 t)).setCell ⟨g8,1,none⟩ (.int .u32 a))):=((Mod.refl _ _).setCell _ _ (by simp)).setCell _ _ (by simp)
 generalize (w5.setCell ⟨g8,0,none⟩ (.int .u8 t)).setCell ⟨g8,1,none⟩ (.int .u32 a)=w4 at *
 clear BW x0 x1 y0 y1
 refine bodyPost_ret (v:=.tuple #[.agg #[.int .u8 t,.int .u32 a],.int .u8 0]) (by simp [results,Tryz.results42,go_sem,z0,z1];try rfl) rfl ?_
 exact ⟨rfl,F',S1.out.mod MW.out (fun k hk h=>by simp at h;subst h;exact NF'.out hk),M1.out.trans MW.out (fun i hi h=>by simp at h;omega),SF.out⟩
open Go.RowKit
theorem var1_c (f:Nat) (h1:1≤f) (h5:f≤5) {w:World} {bm room:Nat} {L:List Rc} {Fs p:List Nat} {H:List (Nat × Ed)} {bs bo bq:Nat} {F:List Nat} (h:Mng w bm 3 room L Fs p H bs bo bq F) (hp:p=List.range 3)
 (hL:L.length≤1000) (hroom:L.length+3 < room) (hrm:room≤1048576) (hG:Good L 3) {cm cf cv:Nat} (a0:w.cell? ⟨cm,0,none⟩=some (.pointer (some ⟨bm,0,none⟩))) (b0:w.cell? ⟨cf,0,none⟩=some (.int .u8 f)) (c0:w.cell? ⟨cv,0,none⟩=some (.int .i64 0))
 (hcm:cm∉Fs) (hcf:cf∉Fs) (hcv:cv∉Fs):
 Calls Tryz.prog 41 #[.pointer (some ⟨cm,0,none⟩),.pointer (some ⟨cf,0,none⟩),.pointer (some ⟨cv,0,none⟩)] w (WorkP w bs 3 room Fs (cube3 L f).1 (cube3 L f).2):=by
 obtain ⟨-,hbF,-⟩:=h.own
 obtain ⟨ba,bg,vk,vq,vg,Fo,q,g1,g2,g3,-⟩:=h.m
 have d3:=g1.cell 3 (by omega)
 have d4:=g1.cell 4 (by omega)
 replace d3:w.cell? ⟨bm,3,none⟩=some (.pointer (some ⟨bs,0,none⟩)):=d3
 replace d4:w.cell? ⟨bm,4,none⟩=some (.pointer (some ⟨bo,0,none⟩)):=d4
 subst hp
 have BV:Hid (∀W,Mod [] w W→_):=fun W m=>buildVar3_c f h1 h5 (h.s.mod m (by simp)) (g2.mod m (by simp)) (by simp) (by have:=g3.at_ 0 (by simp);simpa using this) (by have:=g3.len;simp at this;omega) hL hroom hrm hG
 have hbm:=g1.lt
 have HS:=Lib.hid h.s
 have lcm:=World.block_lt_of_cell? w _ a0
 have lcf:=World.block_lt_of_cell? w _ b0
 have lcv:=World.block_lt_of_cell? w _ c0
 simp only at lcm lcf lcv
 obtain ⟨gk,hgk⟩:∃g,w.heap.size=g:=⟨_,rfl⟩
 clear h g1 g2 g3
 generalize cube3 L f=P at *
 obtain ⟨L',t,a⟩:=P
 have n1:¬cm=gk:=by omega
 have n2:¬gk=cm:=by omega
 have n3:¬cf=gk:=by omega
 have n4:¬gk=cf:=by omega
 have n5:¬cv=gk:=by omega
 have n6:¬gk=cv:=by omega
 have n7:¬bm=gk:=by omega
 have n8:¬gk=bm:=by omega
 go_enter Tryz.func41,Tryz.ntmps41
 go_wp2_with fail
 have B3:=Lib.hid (Blk.new' w #[.int .u8 0,.int .u32 0] 66 gk hgk.symm)
 have MQ:Hid (Mod [] w (w.alloc (.cells #[.int .u8 0,.int .u32 0] 66))):=(Mod.refl _ _).alloc _
 have NK:Hid (gk∉Fs):=fun h=>by have:=HS.out.lt _ h;omega
 have a0:=(MQ.out.cell (a:=⟨cm,0,none⟩) lcm (by simp)).trans a0
 have b0:=(MQ.out.cell (a:=⟨cf,0,none⟩) lcf (by simp)).trans b0
 have c0:=(MQ.out.cell (a:=⟨cv,0,none⟩) lcv (by simp)).trans c0
 have d3:=(MQ.out.cell (a:=⟨bm,3,none⟩) hbm (by simp)).trans d3
 have d4:=(MQ.out.cell (a:=⟨bm,4,none⟩) hbm (by simp)).trans d4
 have lcm:=Nat.lt_of_lt_of_le lcm MQ.out.size
 have lcf:=Nat.lt_of_lt_of_le lcf MQ.out.size
 have lcv:=Nat.lt_of_lt_of_le lcv MQ.out.size
 have hbm:=Nat.lt_of_lt_of_le hbm MQ.out.size
 have SZ:Hid ((w.alloc (.cells #[.int .u8 0,.int .u32 0] 66)).heap.size=gk+1):=by show _=_;simp [hgk]
 have HGK:=Lib.hid hgk
 have hgF:gk∉Fs:=NK.out
 clear hgk
 generalize w.alloc (.cells #[.int .u8 0,.int .u32 0] 66)=w0 at *
 unfold WorkP edv at BV
 simp only at BV
 go_region_held3 (fun w'=>w'.cell? ⟨cm,0,none⟩=some (.pointer (some ⟨bm,0,none⟩))∧w'.cell? ⟨cf,0,none⟩=some (.int .u8 f)∧w'.cell? ⟨cv,0,none⟩=some (.int .i64 0)∧w'.cell? ⟨bm,3,none⟩=some (.pointer (some ⟨bs,0,none⟩))∧w'.cell? ⟨bm,4,none⟩=some (.pointer (some ⟨bo,0,none⟩))) (go_keep) (first | (go_at_call 42;refine (BV.out _ (MQ.out.trans' (show Mod [] w0 _ from by exact mods))).mono ?_;rintro e' w2 ⟨rfl,F2,s2,m_w2,f2⟩;have M_w2:=Mod.trans' (show Mod _ w0 _ from by exact mods) m_w2;have a0:=(M_w2.cell (a:=⟨cm,0,none⟩) lcm (by first | assumption | (simp;done))).trans a0;have b0:=(M_w2.cell (a:=⟨cf,0,none⟩) lcf (by first | assumption | (simp;done))).trans b0;have c0:=(M_w2.cell (a:=⟨cv,0,none⟩) lcv (by first | assumption | (simp;done))).trans c0;have d3:=(M_w2.cell (a:=⟨bm,3,none⟩) hbm (by first | assumption | (simp;done))).trans d3;have d4:=(M_w2.cell (a:=⟨bm,4,none⟩) hbm (by first | assumption | (simp;done))).trans d4;have lcm:=Nat.lt_of_lt_of_le lcm M_w2.size;have lcf:=Nat.lt_of_lt_of_le lcf M_w2.size;have lcv:=Nat.lt_of_lt_of_le lcv M_w2.size;have hbm:=Nat.lt_of_lt_of_le hbm M_w2.size;have BRW:=B3.out.mod M_w2 hgF;obtain ⟨e0,e1⟩:=BRW.cells2;obtain ⟨g0,g1,-⟩:=BRW.frozs;replace BRW:=Lib.hid BRW))
 have S1:=Lib.hid s2
 have M1:Hid (Mod Fs w w2):=(MQ.out.mono (by simp)).trans' M_w2
 have SF:Hid (∀k∈F2,k∈Fs∨w.heap.size≤k):=fun k hk=>(f2 k hk).imp id fun h=>by have h1:=SZ.out;have h2:=HGK.out;simp at h;omega
 have NF':Hid (gk∉F2):=fun h=>(f2 _ h).elim hgF (fun h=>by have h1:=SZ.out;simp at h;omega)
 have BW:=((BRW.out.set 0 (.int .u8 t)).set 1 (.int .u32 a))
 simp only [List.setIfInBounds_toArray,List.set_cons_zero,List.set_cons_succ] at BW
 obtain ⟨z0,z1⟩:=BW.cells2
 have MW:Hid (Mod [gk] w2 ((w2.setCell ⟨gk,0,none⟩ (.int .u8 t)).setCell ⟨gk,1,none⟩ (.int .u32 a))):=((Mod.refl _ _).setCell _ _ (by simp)).setCell _ _ (by simp)
 clear s2 f2 m_w2 M_w2 e0 e1 g0 g1 BW BV
 generalize (w2.setCell ⟨gk,0,none⟩ (.int .u8 t)).setCell ⟨gk,1,none⟩ (.int .u32 a)=w4 at *
 go_wp2_with fail
 refine bodyPost_ret (v:=.tuple #[.agg #[.int .u8 t,.int .u32 a],.int .u8 0]) (by simp [results,Tryz.results41,go_sem,z0,z1];try rfl) rfl ?_
 exact ⟨rfl,F2,S1.out.mod MW.out (fun k hk h=>by simp at h;subst h;exact NF'.out hk),M1.out.trans MW.out (fun i hi h=>by have:=HGK.out;simp at h;omega),SF.out⟩
open Go.RowKit
theorem freshVar_c {w:World} {bm n room:Nat} {L L':List Rc} {Fs p:List Nat} {H:List (Nat × Ed)} {bs bo bq:Nat} {F:List Nat} (h:Mng w bm n room L Fs p H bs bo bq F) (hH:H.length < 256) (f:Nat) (h1:1≤f) (h5:f≤5) {ed:Ed} (caps:Array Value)
 (WK:∀W,Mod [] w W→Calls Tryz.prog 41 caps W (WorkP W bs n room Fs L' ed)):
 Calls Tryz.prog 28 #[.pointer (some ⟨bm,0,none⟩),.int .u8 f,.func (.func 41) #[] caps] w (PutP w bm n room L' Fs p H f ed bs bo bq F):=by
 obtain ⟨⟨q,hq⟩,-⟩:=h.own
 have RM:Hid (∀W,W=w→Calls Tryz.prog 32 #[.pointer (some ⟨bm,0,none⟩),.slice none 0 0] W _):=fun W e=>e▸room0_c hq hH
 have IF:=Lib.hid (isForm_c f h1 h5)
 have PT:=Lib.hid (putVar_c h hH f (by omega) caps WK)
 clear h hq WK
 unfold PutP at PT ⊢
 generalize ((H.length+1:Nat):Int)=m at *
 go_enter Tryz.func28,Tryz.ntmps28
 go_wp2_with fail
 refine (RM.out _ rfl).mono ?_
 rintro e w1 ⟨rfl,rfl⟩
 go_wp2_with fail
 refine (IF.out _).mono ?_
 rintro e w2 ⟨rfl,rfl⟩
 go_wp2_with fail
 refine PT.out.mono ?_
 rintro e w3 ⟨rfl,P⟩
 have PP:=Lib.hid P
 clear P PT
 go_wp2_with fail
 go_ret2
 exact ⟨rfl,PP.out⟩
theorem managerVar_c (f:Nat) (h1:1≤f) (h5:f≤5) {w:World} {bm room:Nat} {L:List Rc} {Fs:List Nat} {H:List (Nat × Ed)} {bs bo bq:Nat} {F:List Nat} (h:Mng w bm 3 room L Fs (List.range 3) H bs bo bq F)
 (hH:H.length < 256) (hL:L.length≤1000) (hroom:L.length+3 < room) (hrm:room≤1048576) (hG:Good L 3):
 Calls Tryz.prog 17 #[.pointer (some ⟨bm,0,none⟩),.int .u8 f,.int .i64 0] w fun e w'=>e=.returned (.tuple #[.int .i64 ((H.length+1:Nat):Int),.int .u8 0])∧∃Fs',Mng w' bm 3 room (cube3 L f).1 Fs' (List.range 3) (H++[(f,(cube3 L f).2)]) bs bo bq F∧Mod (bm::Fs) w w'∧∀k∈Fs',k∈Fs∨w.heap.size≤k:=by
 have HM:=Lib.hid h
 have HSL:=Lib.hid h.s.lt
 obtain ⟨g,hg⟩:∃g,w.heap.size=g:=⟨_,rfl⟩
 have HG:=Lib.hid hg
 have MA:Hid (Mod [] w (((w.alloc (.cells #[.pointer (some ⟨bm,0,none⟩)] 31)).alloc (.cells #[.int .u8 f] 25)).alloc (.cells #[.int .i64 0] 3))):=(((Mod.refl _ _).alloc _).alloc _).alloc _
 have BA:=Lib.hid (((Blk.new' w #[.pointer (some ⟨bm,0,none⟩)] 31 g hg.symm).alloc (.cells #[.int .u8 f] 25)).alloc (.cells #[.int .i64 0] 3))
 have BB:=Lib.hid ((Blk.new' (w.alloc (.cells #[.pointer (some ⟨bm,0,none⟩)] 31)) #[.int .u8 f] 25 (g+1) (by simp [hg])).alloc (.cells #[.int .i64 0] 3))
 have BC:=Lib.hid (Blk.new' ((w.alloc (.cells #[.pointer (some ⟨bm,0,none⟩)] 31)).alloc (.cells #[.int .u8 f] 25)) #[.int .i64 0] 3 (g+2) (by simp [hg]))
 clear h
 obtain ⟨m,hm⟩:∃m:Int,((H.length+1:Nat):Int)=m:=⟨_,rfl⟩
 rw [hm]
 have HMI:=Lib.hid hm
 clear hm
 go_enter Tryz.func17,Tryz.ntmps17
 go_wp2_with fail
 generalize ((w.alloc (.cells #[.pointer (some ⟨bm,0,none⟩)] 31)).alloc (.cells #[.int .u8 f] 25)).alloc (.cells #[.int .i64 0] 3)=wA at *
 have WK:Hid (∀W,Mod [] wA W→Calls Tryz.prog 41 #[.pointer (some ⟨g,0,none⟩),.pointer (some ⟨g+1,0,none⟩),.pointer (some ⟨g+1+1,0,none⟩)] W (WorkP W bs 3 room Fs (cube3 L f).1 (cube3 L f).2)):=fun W m=>
  var1_c f h1 h5 ((HM.out.mod MA.out).mod m) rfl hL hroom hrm hG (by have:=(BA.out.mod m (by simp)).cell 0;simpa using this) (by have:=(BB.out.mod m (by simp)).cell 0;simpa using this) (by have:=(BC.out.mod m (by simp)).cell 0;simpa using this)
   (fun h=>by have:=HSL.out _ h;omega) (fun h=>by have:=HSL.out _ h;omega) (fun h=>by have:=HSL.out _ h;omega)
 have FV:=freshVar_c (HM.out.mod MA.out) hH f h1 h5 _ WK.out
 unfold PutP at FV
 rw [HMI.out] at FV
 refine FV.mono ?_
 rintro e w3 ⟨rfl,Fs',mg,m3,f3⟩
 have MG:=Lib.hid mg
 have M3:Hid (Mod (bm::Fs) w w3):=(MA.out.mono (by simp)).trans' m3
 have SF:Hid (∀k∈Fs',k∈Fs∨w.heap.size≤k):=fun k hk=>(f3 k hk).imp id fun h=>by have:=MA.out.size;omega
 clear mg m3 f3 WK BA BB BC
 clear FV
 go_wp2_with fail
 go_ret2
 exact ⟨rfl,Fs',MG.out,M3.out,SF.out⟩
open Go.RowKit
theorem mngVars_c {w:World} {bm n room:Nat} {L:List Rc} {Fs p:List Nat} {H:List (Nat × Ed)} {bs bo bq:Nat} {F:List Nat} (h:Mng w bm n room L Fs p H bs bo bq F):
 Calls Tryz.prog 74 #[.pointer (some ⟨bm,0,none⟩)] w fun e w'=>e=.returned (.int .i64 n)∧w'=w:=by
 obtain ⟨ba,bg,vk,vq,vg,Fo,q,g1,g2,g3,-⟩:=h.m
 have d3:=g1.cell 3 (by omega)
 replace d3:w.cell? ⟨bm,3,none⟩=some (.pointer (some ⟨bs,0,none⟩)):=d3
 obtain ⟨ba',bi,Fa,c0,-⟩:=h.s.own
 have SV:=Lib.hid (stVars_c bs n w c0)
 clear h g1 g2 g3 c0
 go_enter Tryz.func74,Tryz.ntmps74
 go_wp2_with fail
 refine SV.out.mono ?_
 rintro e w1 ⟨rfl,rfl⟩
 go_wp2_with fail
 go_ret
 exact ⟨rfl,rfl⟩
theorem mngNodes_c {w:World} {bm n room:Nat} {L:List Rc} {Fs p:List Nat} {H:List (Nat × Ed)} {bs bo bq:Nat} {F:List Nat} (h:Mng w bm n room L Fs p H bs bo bq F):
 Calls Tryz.prog 80 #[.pointer (some ⟨bm,0,none⟩)] w fun e w'=>e=.returned (.int .i64 L.length)∧w'=w:=by
 obtain ⟨ba,bg,vk,vq,vg,Fo,q,g1,g2,g3,-⟩:=h.m
 have d3:=g1.cell 3 (by omega)
 replace d3:w.cell? ⟨bm,3,none⟩=some (.pointer (some ⟨bs,0,none⟩)):=d3
 have SV:=Lib.hid (stLen_c h.s)
 clear h g1 g2 g3
 go_enter Tryz.func80,Tryz.ntmps80
 go_wp2_with fail
 refine SV.out.mono ?_
 rintro e w1 ⟨rfl,rfl⟩
 go_wp2_with fail
 go_ret
 exact ⟨rfl,rfl⟩
theorem form_c {w:World} {b a f:Nat} {e:Ed} {q:List Value} {H:List (Nat × Ed)} (h:Mgr w b q H) (hH:H.length≤256) (hf:H[a]? =some (f,e)):
 Calls Tryz.prog 105 #[.pointer (some ⟨b,0,none⟩),.int .i64 ((a+1:Nat):Int)] w fun e w'=>e=.returned (.tuple #[.int .u8 f,.int .u8 0])∧Mod [] w w':=by
 obtain ⟨m,hm⟩:∃m:Int,((a+1:Nat):Int)=m:=⟨_,rfl⟩
 obtain ⟨g,hg⟩:∃g,w.heap.size=g:=⟨_,rfl⟩
 rw [hm]
 have MA:Hid (Mod [] w (w.alloc (.cells #[.int .i64 m] 3))):=(Mod.refl _ _).alloc _
 have BA:=Blk.new' w #[.int .i64 m] 3 g hg.symm
 have SM:=Lib.hid (same1_c (g:=g) (cap:=1) (h.mod MA.out (by simp)) hH (a:=a) (by rw [hm];have:=BA.cell 0;simpa using this) hf)
 clear h hf hm BA
 go_enter Tryz.func105,Tryz.ntmps105
 go_wp2_with fail
 refine SM.out.mono ?_
 rintro e w1 ⟨rfl,rfl⟩
 go_wp2_with fail
 go_ret2
 exact ⟨rfl,MA.out⟩
end Go.Proofs.YtlafpknoiihaaaaGreatDoor
