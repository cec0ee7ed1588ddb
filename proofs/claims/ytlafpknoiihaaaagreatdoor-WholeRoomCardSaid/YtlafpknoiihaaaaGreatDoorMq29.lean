/- Mq29: Gc · Ze · Zf · Zg · Jb · Jc · Gd · Ge -/
import Derived.Test.YtlafpknoiihaaaaGreatDoorMq28
import Derived.Test.YtlafpknoiihaaaaGreatDoorMq09
import Derived.Test.YtlafpknoiihaaaaGreatDoorMq27
import Derived.Laws.Cells
import Derived.Test.YtlafpknoiihaaaaGreatDoorMq14
import Derived.Deep.RegionHeld3
import Derived.Test.YtlafpknoiihaaaaGreatDoorMq01
import Derived.Deep.RegionLaw
import Derived.BigQuiet
set_option maxRecDepth 100000
set_option maxHeartbeats 8000000
set_option linter.unusedVariables false
set_option linter.unusedSimpArgs false
namespace Go.Proofs.YtlafpknoiihaaaaGreatDoor
open Go.RowKit
theorem buildSet3_c {w:World} {b bo room f:Nat} {p q Fo F:List Nat} {L:List Rc} (hS:IsSt w b 3 L room F) (hL:L.length≤1048576) (hG:Good L 3) (hO:IsOrd w bo p q Fo) (hp:p.length=3) (hpv:∀v∈p,v < 16) {e:Ed} {T:Tr} (hr:Root L 3 f e T):
 Calls Tryz.prog 36 #[.pointer (some ⟨b,0,none⟩),.pointer (some ⟨bo,0,none⟩),.int .u8 f,edv e] w (SetP w):=by
 have VA:Hid (∀W',Mod [] w W'→Calls Tryz.prog 59 #[.pointer (some ⟨b,0,none⟩)] W' fun e w'=>e=.returned (.int .i64 3)∧w'=W'):=fun W' md=>by
  obtain ⟨ba,bi,Fa,c0,_⟩:=(hS.mod md (by simp)).own
  exact stVars_c b 3 W' c0
 have VO:Hid (∀W',Mod [] w W'→Calls Tryz.prog 83 #[.pointer (some ⟨bo,0,none⟩)] W' fun e w'=>e=.returned (.int .i64 3)∧w'=W'):=fun W' md=>by
  have:=ordVars_c (hO.mod md (by simp));rw [hp] at this;exact this
 have MY:Hid (∀W',Mod [] w W'→_):=fun W' md=>buildMay_c 3 f b bo hr.f1 hr.f5 W' (VA.out W' md) (VO.out W' md)
 have LV:Hid (∀W (x:Nat),x < 8→Mod [] w W→Calls Tryz.prog 66 #[.pointer (some ⟨bo,0,none⟩),.int .i64 x] W fun e w'=>∃y:Nat,y < 65536∧e=.returned (.int .u16 y)∧Mod [] W w'):=fun W x hx md=>by
  refine (levels_c (hO.mod md (by simp)) (by omega) hpv x (by omega)).mono ?_
  rintro e w' ⟨⟨y,hy,rfl⟩,rfl⟩
  exact ⟨y,hy,rfl,Mod.refl _ _⟩
 have HO:Hid (∀W (y:Nat),y < 65536→Mod [] w W→Calls Tryz.prog 65 #[.pointer (some ⟨b,0,none⟩),.int .u8 f,edv e,.int .i64 0,.int .u16 y] W fun e w'=>∃bb,e=.returned (.tuple #[.bool bb,.int .u8 0])∧Mod [] W w'):=fun W y hy md=>by
  refine (holds_c (hS.mod md (by simp)) hL hG (by omega) f hr.f1 hr.f5 e T hr.rep 0 (by omega) hr.leads y hy).mono ?_
  rintro e' w' ⟨rfl,m⟩
  exact ⟨_,rfl,m⟩
 have SO:Hid (∀W A n cap (xs:List Nat) Fx,Rv W (.slice A n cap) (xs.map ei) Fx→(∀k∈Fx,k < W.heap.size)→(∀x∈xs,x < 8)→n≤100000→_):=fun W A n cap xs Fx h1 h2 h3 h4=>setOf3_c h1 h2 h3 h4
 obtain ⟨i0,hi,hz0,hz1,hz2⟩:=info_parts Tryz.info3
 obtain ⟨t,a⟩:=e
 unfold edv at *
 simp only at HO ⊢
 obtain ⟨gk,hgk⟩:∃gk,w.heap.size=gk:=⟨_,rfl⟩
 clear hS hO hr hG hpv
 go_enter Tryz.func36,Tryz.ntmps36
 go_wp2_with fail
 have B0:=Lib.hid ((Blk.new' w #[.int .u8 t,.int .u32 a] 66 gk hgk.symm).alloc (.cells #[.int .i64 0,.slice none 0 0] 39))
 have B8:=Lib.hid (Blk.new' (w.alloc (.cells #[.int .u8 t,.int .u32 a] 66)) #[.int .i64 0,.slice none 0 0] 39 (gk+1) (by simp [hgk]))
 have M0:Hid (Mod [] w ((w.alloc (.cells #[.int .u8 t,.int .u32 a] 66)).alloc (.cells #[.int .i64 0,.slice none 0 0] 39))):=by exact mods
 refine (MY.out _ M0.out).mono ?_
 rintro e w1 ⟨rfl,rfl⟩
 generalize (w.alloc (.cells #[.int .u8 t,.int .u32 a] 66)).alloc (.cells #[.int .i64 0,.slice none 0 0] 39)=w0 at *
 go_wp2_with fail
 refine (VA.out _ (by first | exact M0.out | exact M0.out.drewN _)).mono ?_
 rintro e w1 ⟨rfl,rfl⟩
 go_wp2_with fail
 go_loopw [9,11,26] (fun r v i wr=>∃(k:Nat) (xs:List Nat),i=.int .i64 k∧r=.int .u8 0∧k≤8∧xs.length≤k∧Hid (NewV 3 w1 (xs.map ei) wr v)∧Hid (∀x∈xs,x < 8)) (fun _ _ i _=>8 - (intOf i).toNat)
 case atStart=>exact ⟨0,[],rfl,rfl,by omega,by simp,NewV.nil _ (Mod.refl _ _),by intro x hx;simp at hx⟩
 case round=>
  obtain ⟨k,xs,rfl,rfl,hk,hlen,HN,HX⟩:=hrel
  have MR:=Lib.hid HN.out.mod
  have MW:=Lib.hid (M0.out.trans' MR.out)
  have BR:=Lib.hid (B0.out.mod MR.out (by simp))
  have B8R:=Lib.hid (B8.out.mod MR.out (by simp))
  by_cases hlt:k < 8
  ·have hlt':(k:Int) < 8:=by omega
   have hk0:(0:Int)≤k:=by omega
   have LVK:Hid (∀W,Mod [] wr W→_):=fun W md=>LV.out W k hlt (MW.out.trans' md)
   have HOK:Hid (∀wa W (y:Nat),y < 65536→Mod [] wr wa→Mod [] wa W→_):=fun wa W y hy m1 md=>HO.out W y hy (MW.out.trans' (m1.trans' md))
   obtain ⟨d0,d1⟩:=BR.out.cells2
   have hbl:=BR.out.lt
   clear LV HO VA VO MY
   go_wp2_with fail
   go_region_held3 (fun w'=>w'.cell? ⟨gk,0,none⟩=some (.int .u8 t)∧w'.cell? ⟨gk,1,none⟩=some (.int .u32 a)) (go_keep) (first | (go_at_call 66;refine (LVK.out _ (by exact mods)).mono ?_;rintro e' wa ⟨y,hy,rfl,m_wa⟩;have M_wa:=Mod.trans' (show Mod _ wr _ from by exact mods) m_wa;have d0:=(M_wa.cell (a:=⟨gk,0,none⟩) hbl (by first | assumption | (simp;done))).trans d0;have d1:=(M_wa.cell (a:=⟨gk,1,none⟩) hbl (by first | assumption | (simp;done))).trans d1;have hbl:=Nat.lt_of_lt_of_le hbl M_wa.size;skip) | (go_at_call 65;refine (HOK.out wa _ y hy M_wa (by exact mods)).mono ?_;rintro e' wb ⟨bb,rfl,m_wb⟩;have M_wb:=Mod.trans' (show Mod _ wa _ from by exact mods) m_wb;have d0:=(M_wb.cell (a:=⟨gk,0,none⟩) hbl (by first | assumption | (simp;done))).trans d0;have d1:=(M_wb.cell (a:=⟨gk,1,none⟩) hbl (by first | assumption | (simp;done))).trans d1;have hbl:=Nat.lt_of_lt_of_le hbl M_wb.size;skip))
   all_goals
    have M2:=Lib.hid (M_wa.trans' M_wb)
    have HN2:=Lib.hid (HN.out.later M2.out)
    have BR2:=Lib.hid (BR.out.mod M2.out (by simp))
    clear m_wa m_wb M_wa M_wb d0 d1 hbl
    cases bb with
    | false=>
     go_wp2_with fail
     go_roundw
     case rel=>exact ⟨k+1,xs,by first | rfl | go_num,rfl,by omega,by omega,HN2,HX⟩
     case measure=>simp [intOf];omega
    | true=>
     obtain ⟨Fo',so,mo,fo⟩:=HN2.out
     obtain ⟨z,hz⟩:∃z,(xs.map ei).length=z:=⟨_,rfl⟩
     have hz8:z≤8:=by simp at hz;omega
     obtain ⟨Ao,capo,rfl,hcapo⟩:=so.shape
     rw [hz] at so hcapo HN HN2 ⊢
     have SO1:=Lib.hid so
     have MO:=Lib.hid mo
     have FO:=Lib.hid fo
     have LO:=Lib.hid hz
     clear so mo fo hcapo hz
     go_wp2_with (at_builtin;refine wpList_append_sl _ rfl _ _ 28 rfl 3 i0 (.int .i64 0) 1 8 Tryz.underlying28 hi hz0 hz1 hz2 rfl (by decide) _ z (xs.map ei) Fo' rfl (SO1.out.mod (S:=[]) (by exact mods) (by simp)) ⟨_,0,none⟩ 1 1 [ei k] (by decide) rfl rfl (by intro j u hu;exact list_new_at _ _ _ _ (by simp) j u hu) (by intro u hu;simp at hu;subst hu;rfl) (by unfold maxLen;omega) (by omega) ?_;intro v5 w5 F5 hs5 hm5 hf5;have N5:=Lib.hid (NewV.app (l:=xs.map ei) (l2:=[ei k]) MO.out FO.out LO.out rfl (by exact mods) hs5 hm5 hf5);obtain ⟨a5,cap5,rfl,_⟩:=hs5.shape;clear hs5 hm5 hf5)
     go_roundw
     case rel=>
      refine ⟨k+1,xs++[k],by first | rfl | go_num,rfl,by omega,by simp;omega,?_,?_⟩
      ·show NewV _ _ _ _ _
       rw [List.map_append]
       exact N5.out
      ·show ∀x∈xs++[k],x < 8
       intro x hx
       simp at hx
       rcases hx with hx | rfl
       ·exact HX.out x hx
       ·exact hlt
     case measure=>simp [intOf];omega
  ·obtain rfl:k=8:=by omega
   obtain ⟨Fo',so,mo,fo⟩:=HN.out
   obtain ⟨Ao,capo,rfl,hcapo⟩:=so.shape
   have RV:=Lib.hid (Rv.of_sl so rfl)
   have FL:=Lib.hid so.lt
   have hzl:(xs.map ei).length≤8:=by simpa using hlen
   clear so mo fo hcapo LV HO VO MY HN
   generalize (xs.map ei).length=z at *
   go_wp2_with fail
   refine (VA.out _ MW.out).mono ?_
   rintro e w2 ⟨rfl,rfl⟩
   go_wp2_with fail
   refine (SO.out _ _ _ _ xs Fo' RV.out FL.out HX.out (by omega)).mono ?_
   rintro e w3 ⟨g,W,rfl,hW,bg,hg,m3⟩
   have B3:=Lib.hid (B8R.out.mod m3 (by simp))
   have MZ:=Lib.hid (MW.out.trans' m3)
   have BG:=Lib.hid bg
   have HGG:=Lib.hid hg
   obtain ⟨r0,r1⟩:=B3.out.cells2
   have hrl:=B3.out.lt
   obtain ⟨f0,f1,-⟩:=B3.out.frozs
   have hgr:Hid (gk+1 < g):=by have:=B8R.out.lt;show _ < _;omega
   clear bg hg m3 SO VA
   go_wp2_with fail
   have BX:=(B3.out.set 0 (.int .i64 3)).set 1 (.slice (some ⟨g,0,none⟩) 1 1)
   simp only [List.setIfInBounds_toArray,List.set_cons_zero,List.set_cons_succ] at BX
   have MX:Mod [gk+1] w3 ((w3.setCell ⟨gk+1,0,none⟩ (.int .i64 3)).setCell ⟨gk+1,1,none⟩ (.slice (some ⟨g,0,none⟩) 1 1)):=by exact mods
   have BGX:=BG.out.mod MX (by have:=hgr.out;simp;omega)
   have MF:=MZ.out.trans MX (by intro i hi hm;simp at hm;omega)
   have hgw:w.heap.size≤g:=Nat.le_trans MW.out.size HGG.out
   obtain ⟨z0,z1⟩:=BX.cells2
   generalize (w3.setCell ⟨gk+1,0,none⟩ (.int .i64 3)).setCell ⟨gk+1,1,none⟩ (.slice (some ⟨g,0,none⟩) 1 1)=X at *
   refine bodyPost_ret (v:=.tuple #[.agg #[.int .i64 3,.slice (some ⟨g,0,none⟩) 1 1],.int .u8 0]) (by simp [results,Tryz.results36,go_sem,z0,z1];try rfl) rfl ?_
   exact ⟨g,W,rfl,hW,BGX,hgw,MF⟩
open Go.RowKit
theorem levelsX_c {w:World} {bo:Nat} {p q Fo:List Nat} (hO:IsOrd w bo p q Fo) (hp5:p.length≤5) (hpv:∀v∈p,v < 16) (x:Nat) (hx:x < 65536):
 Calls Tryz.prog 66 #[.pointer (some ⟨bo,0,none⟩),.int .i64 x] w fun e w'=>(∃y:Nat,(y < 2 ^ p.length∧∀l,l < p.length→y.testBit l=x.testBit (p.getD l 0))∧e=.returned (.int .u16 y))∧w'=w:=by
 have hp:p.length≤16:=by omega
 have VO:=Lib.hid (ordVars_c hO)
 have VR:Hid (∀l,(hl:l < p.length)→_):=fun l hl=>ordVar_c hO hp l hl
 have PV:Hid (∀l,(hl:l < p.length)→p[l] < 16):=fun l hl=>hpv _ (List.getElem_mem hl)
 obtain ⟨n,hn⟩:∃n,p.length=n:=⟨_,rfl⟩
 rw [hn] at VO hp hp5 ⊢
 have HN:=Lib.hid hn
 clear hO hpv hn
 go_enter Tryz.func66,Tryz.ntmps66
 go_wp2_with fail
 refine VO.out.mono ?_
 rintro e w1 ⟨rfl,rfl⟩
 go_wp2_with fail
 go_loopw [5,6,9] (fun a _ i wr=>∃(k y:Nat),i=.int .i64 k∧k≤n∧a=.int .u16 y∧Hid (y < 2 ^ k∧∀l,l < k→y.testBit l=x.testBit (p.getD l 0))∧wr=w1) (fun _ _ i _=>n - (intOf i).toNat)
 case atStart=>exact ⟨0,0,rfl,by omega,rfl,⟨by simp,fun l hl=>by omega⟩,rfl⟩
 case round=>
  obtain ⟨k,y,rfl,hk,rfl,hy,rfl⟩:=hrel
  by_cases hlt:k < n
  ·have hlt':(k:Int) < n:=by omega
   have hk0:(0:Int)≤k:=by omega
   have C1:=Lib.hid (VR.out k (by rw [HN.out];exact hlt))
   have h16:=PV.out k (by rw [HN.out];exact hlt)
   have HD:Hid (p.getD k 0=p[k]'(by rw [HN.out];exact hlt)):=by show _=_;rw [List.getD_eq_getElem?_getD,List.getElem?_eq_getElem (by rw [HN.out];exact hlt)];rfl
   generalize p[k]'(by rw [HN.out];exact hlt)=v at *
   go_wp2_with fail
   refine C1.out.mono ?_
   rintro e w2 ⟨rfl,rfl⟩
   go_wp2_with fail
   refine ⟨?_,by simp [intOf];omega⟩
   obtain ⟨y',e',q1,q2,q3⟩:=lev_step (x:=x) (v:=v) hy.out.1 (show k < 5 by omega) hx
   refine ⟨k+1,y',by simp,by omega,by rw [e'],⟨q1,fun l hl=>?_⟩,trivial⟩
   by_cases h:l=k
   ·subst h;rw [q2,HD.out]
   ·rw [q3 l (by omega)];exact hy.out.2 l (by omega)
  ·obtain rfl:k=n:=by omega
   go_wp2_with fail
   go_ret
   exact ⟨⟨_,hy.out,rfl⟩,rfl⟩
open Go.RowKit
theorem blankN_c (n:Nat) (hn:n≤5) (w:World):Calls Tryz.prog 97 #[.int .i64 n] w fun e w'=>∃g,e=.returned (.agg #[.int .i64 n,.slice (some ⟨g,0,none⟩) 1 1])∧Blk w' g #[.int .u64 0] 22∧w.heap.size≤g∧Mod [] w w':=by
 have WO:=Lib.hid (words_c n hn)
 obtain ⟨gk,hgk⟩:∃gk,w.heap.size=gk:=⟨_,rfl⟩
 have MK:Hid (∀w:World,(Instr.makeSlice 23 (.int .i64 1) (.int .i64 1)).run Tryz.prog w=.ok (.slice (some ⟨w.heap.size,0,none⟩) 1 1) (w.alloc (.cells #[.int .u64 0] 22))):=fun w=>by
  have h:madeCells #[Value.int .u64 0] 1=#[.int .u64 0]:=by kernel_rfl
  have:=made22 w 1 (by omega)
  rw [h] at this
  exact this
 have mk:=MK.out (w.alloc (.cells #[.int .i64 0,.slice none 0 0] 39))
 clear MK
 go_enter Tryz.func97,Tryz.ntmps97
 go_wp2_with fail
 refine (WO.out _).mono ?_
 rintro e w1 ⟨rfl,rfl⟩
 go_wp2_with fail
 have B:=(Blk.new' w #[.int .i64 n,.slice (some ⟨gk+1,0,none⟩) 1 1] 39 gk hgk.symm).alloc (.cells #[.int .u64 0] 22)
 have BW:=Blk.new' (w.alloc (.cells #[.int .i64 n,.slice (some ⟨gk+1,0,none⟩) 1 1] 39)) #[.int .u64 0] 22 (gk+1) (by simp [hgk])
 have M:Mod [] w ((w.alloc (.cells #[.int .i64 n,.slice (some ⟨gk+1,0,none⟩) 1 1] 39)).alloc (.cells #[.int .u64 0] 22)):=by exact mods
 obtain ⟨z0,z1⟩:=B.cells2
 generalize (w.alloc (.cells #[.int .i64 n,.slice (some ⟨gk+1,0,none⟩) 1 1] 39)).alloc (.cells #[.int .u64 0] 22)=X at *
 refine bodyPost_ret (v:=.agg #[.int .i64 n,.slice (some ⟨gk+1,0,none⟩) 1 1]) (by simp [results,Tryz.results97,go_sem,z0,z1];try rfl) rfl ?_
 exact ⟨gk+1,rfl,BW,by omega,M⟩
def SetX (w:World) (nv W:Nat) (e:Ending) (w':World):Prop:=
 ∃g,e=.returned (.tuple #[.agg #[.int .i64 nv,.slice (some ⟨g,0,none⟩) 1 1],.int .u8 0])∧Blk w' g #[.int .u64 (W:Nat)] 22∧w.heap.size≤g∧Mod [] w w'
theorem setOfX_c {w:World} {A:Option Addr} {nv n cap:Nat} {xs:List Nat} {F:List Nat} (h:Rv w (.slice A n cap) (xs.map ei) F) (hF:∀k∈F,k < w.heap.size) (hv5:nv≤5) (hx:∀x∈xs,x < 2 ^ nv) (hn:n≤100000):
 Calls Tryz.prog 67 #[.int .i64 nv,.slice A n cap] w (SetX w nv (ptsL xs)):=by
 have MY:=Lib.hid (setMay_c nv (by omega))
 have BL:=Lib.hid (blankN_c nv hv5)
 have HR:=Lib.hid h
 have HX:=Lib.hid hx
 have hlen:n=xs.length:=by simpa using h.len.1
 have HL:=Lib.hid hlen
 obtain ⟨gk,hgk⟩:∃gk,w.heap.size=gk:=⟨_,rfl⟩
 have hv5':(nv:Int)≤5:=by omega
 obtain ⟨m,hm⟩:∃m,2 ^ nv=m:=⟨_,rfl⟩
 have hm32:m≤32:=by have:=Nat.pow_le_pow_right (n:=2) (by omega) hv5;omega
 have hsh:wrap64 (2 ^ nv)=(m:Int):=by
  rw [show ((2:Int) ^ nv)=((2 ^ nv:Nat):Int) from by simp,hm]
  exact IntWalk.wrap64_in _ ⟨by omega,by omega⟩
 rw [hm] at HX
 clear h hx hlen hm
 go_enter Tryz.func67,Tryz.ntmps67
 go_wp2_with fail
 refine (MY.out _).mono ?_
 rintro e w1 ⟨rfl,rfl⟩
 go_wp2_with fail
 refine (BL.out _).mono ?_
 rintro e w2 ⟨g,rfl,bg,hg,m2⟩
 have hgs0:=m2.size
 obtain ⟨gs,hgs⟩:∃gs,w2.heap.size=gs:=⟨_,rfl⟩
 have B4:=Lib.hid (((Blk.new' w #[.int .i64 0,.slice none 0 0] 39 gk hgk.symm).mod m2 (by simp)).alloc (.cells #[.int .i64 nv,.slice (some ⟨g,0,none⟩) 1 1] 39))
 have B6:=Lib.hid (Blk.new' w2 #[.int .i64 nv,.slice (some ⟨g,0,none⟩) 1 1] 39 gs hgs.symm)
 have BG:=Lib.hid (bg.alloc (.cells #[.int .i64 nv,.slice (some ⟨g,0,none⟩) 1 1] 39))
 have M3:Hid (Mod [] w (w2.alloc (.cells #[.int .i64 nv,.slice (some ⟨g,0,none⟩) 1 1] 39))):=(Mod.trans' (show Mod [] w _ from by exact mods) m2).alloc _
 have hgl:=bg.lt
 simp at hg hgs0
 have n1:gk≠g:=by omega
 have n2:gs≠g:=by omega
 have n3:gk≠gs:=by omega
 have HG:=Lib.hid hg
 clear bg hg m2 hgs0 BL MY hgl
 go_wp2_with fail
 generalize w2.alloc (.cells #[.int .i64 nv,.slice (some ⟨g,0,none⟩) 1 1] 39)=w3 at *
 go_loopw [5,8,17] (fun r _ i wr=>∃(k W:Nat),i=.int .i64 k∧r=.int .u8 0∧k≤n∧Hid (W=ptsL (xs.take k))∧Hid (Blk wr g #[.int .u64 W] 22)∧Hid (Blk wr gs #[.int .i64 nv,.slice (some ⟨g,0,none⟩) 1 1] 39)∧Hid (Blk wr gk #[.int .i64 0,.slice none 0 0] 39)∧Hid (Mod [] w wr)) (fun _ _ i _=>n - (intOf i).toNat)
 case atStart=>exact ⟨0,0,rfl,rfl,by omega,rfl,BG,B6,B4,M3⟩
 case round=>
  obtain ⟨k,W,rfl,rfl,hk,hW,BG,B6,B4,M3⟩:=hrel
  obtain ⟨s0,s1⟩:=B6.out.cells2
  have hsl:=B6.out.lt
  have hgl:=BG.out.lt
  have g0:=BG.out.cell 0
  have gf:=BG.out.froz 0
  simp only [List.getElem?_toArray,List.getElem?_cons_zero] at g0
  by_cases hlt:k < n
  ·have hlt':(k:Int) < n:=by omega
   have hk0:(0:Int)≤k:=by omega
   have hkx:k < xs.length:=by rw [←HL.out];exact hlt
   obtain ⟨gb,off,rfl,hc⟩:=(HR.out.mod M3.out (by simp)).at k (by simpa using hkx)
   have hx8:=HX.out xs[k] (List.getElem_mem hkx)
   have HTK:Hid (ptsL (xs.take (k+1))=ptsL (xs.take k) ||| 2 ^ xs[k]):=by show _=_;rw [List.take_succ_eq_append_getElem hkx,ptsL_snoc]
   have hWl:W < 4294967296:=by
    have:=ptsL_lt (m:=32) (l:=xs.take k) (fun x hx=>by have:=HX.out x (List.mem_of_mem_take hx);omega)
    rw [←hW.out] at this
    omega
   rw [List.getElem_map] at hc
   generalize xs[k]=x at *
   have hc':wr.cell? ⟨gb,off+k,none⟩=some (.int .i64 (x:Int)):=hc
   have hor:=or64p (x:=W) (v:=x) hWl (by omega)
   have HW':Hid (W ||| 2 ^ x=ptsL (xs.take (k+1))):=by show _=_;rw [HTK.out,←hW.out]
   generalize W ||| 2 ^ x=W' at *
   have hx0:¬((x:Int) < 0):=by omega
   have hx1:¬((m:Int)≤x):=by omega
   have hd:(x:Int) / 64=0:=by omega
   have hm:(x:Int) % 64=x:=by omega
   clear hc hkx hWl
   go_wp2_with fail
   go_region
   have BG2:=Lib.hid ((BG.out.set 0 (.int .u64 (W':Nat))).drew)
   have MW:=Lib.hid (((Mod.refl [g] wr).setCell ⟨g,0,none⟩ (.int .u64 (W':Nat)) (by simp)).drew)
   have B62:=Lib.hid (B6.out.mod MW.out (by simpa using n2))
   have B42:=Lib.hid (B4.out.mod MW.out (by simpa using n1))
   have M32:=Lib.hid (M3.out.trans MW.out (by intro i hi hm;simp at hm;have:=HG.out;omega))
   go_wp2_with fail
   go_roundw
   case rel=>exact ⟨k+1,W',by first | rfl | go_num,rfl,by omega,HW'.out,BG2,B62,B42,M32⟩
   case measure=>simp [intOf];omega
  ·obtain rfl:k=n:=by omega
   obtain ⟨r0,r1⟩:=B4.out.cells2
   have hrl:=B4.out.lt
   obtain ⟨f0,f1,-⟩:=B4.out.frozs
   go_wp2_with fail
   have BR:=(B4.out.set 0 (.int .i64 nv)).set 1 (.slice (some ⟨g,0,none⟩) 1 1)
   simp only [List.setIfInBounds_toArray,List.set_cons_zero,List.set_cons_succ] at BR
   have MR:Mod [gk] wr ((wr.setCell ⟨gk,0,none⟩ (.int .i64 nv)).setCell ⟨gk,1,none⟩ (.slice (some ⟨g,0,none⟩) 1 1)):=by exact mods
   have BGR:=BG.out.mod MR (by simpa using fun e=>n1 e.symm)
   have MF:=M3.out.trans MR (by intro i hi hm;simp at hm;omega)
   obtain ⟨z0,z1⟩:=BR.cells2
   generalize (wr.setCell ⟨gk,0,none⟩ (.int .i64 nv)).setCell ⟨gk,1,none⟩ (.slice (some ⟨g,0,none⟩) 1 1)=X at *
   refine bodyPost_ret (v:=.tuple #[.agg #[.int .i64 nv,.slice (some ⟨g,0,none⟩) 1 1],.int .u8 0]) (by simp [results,Tryz.results67,go_sem,z0,z1];try rfl) rfl ?_
   exact ⟨g,rfl,by have:=hW.out;rw [this,List.take_of_length_le (by have:=HL.out;omega)] at BGR;exact BGR,by have:=HG.out;omega,MF⟩
open Go.RowKit
def LvP (p:List Nat) (n x y:Nat):Prop:=y < 2 ^ n∧∀l,l < n→y.testBit l=x.testBit (p.getD l 0)
theorem buildSetX_c {w:World} {b bo room f n W t a:Nat} {p q Fo F:List Nat} {L:List Rc} (h1:1≤f) (h5:f≤5) (hn5:n≤5) (hS:Sto w b n room L F) (hL:L.length≤1048576) (hO:IsOrd w bo p q Fo) (hp:Perm p n) (hW:W < 2 ^ (2 ^ n)) (hE:EdT L f n n 0 ⟨t,a⟩ (tabL W p n 0 0)):
 Calls Tryz.prog 36 #[.pointer (some ⟨b,0,none⟩),.pointer (some ⟨bo,0,none⟩),.int .u8 f,.agg #[.int .u8 t,.int .u32 a]] w (SetX w n W):=by
 have VA:Hid (∀W',Mod [] w W'→Calls Tryz.prog 59 #[.pointer (some ⟨b,0,none⟩)] W' fun e w'=>e=.returned (.int .i64 n)∧w'=W'):=fun W' md=>by
  obtain ⟨ba,bi,Fa,c0,_⟩:=(hS.st.mod md (by simp)).own
  exact stVars_c b n W' c0
 have VO:Hid (∀W',Mod [] w W'→Calls Tryz.prog 83 #[.pointer (some ⟨bo,0,none⟩)] W' fun e w'=>e=.returned (.int .i64 n)∧w'=W'):=fun W' md=>by
  have:=ordVars_c (hO.mod md (by simp));rw [hp.len] at this;exact this
 have MY:Hid (∀W',Mod [] w W'→_):=fun W' md=>buildMay_c n f b bo h1 h5 W' (VA.out W' md) (VO.out W' md)
 have h32:2 ^ n≤32:=by have:=Nat.pow_le_pow_right (n:=2) (by omega) hn5;omega
 have LV:Hid (∀U (x:Nat),x < 2 ^ n→Mod [] w U→Calls Tryz.prog 66 #[.pointer (some ⟨bo,0,none⟩),.int .i64 x] U fun e w'=>∃y:Nat,LvP p n x y∧e=.returned (.int .u16 y)∧Mod [] U w'):=fun U x hx md=>by
  refine (levelsX_c (hO.mod md (by simp)) (by rw [hp.len];omega) (fun v hv=>by have:=hp.lt v hv;omega) x (by omega)).mono ?_
  rintro e w' ⟨⟨y,hy,rfl⟩,rfl⟩
  rw [hp.len] at hy
  exact ⟨y,hy,rfl,Mod.refl _ _⟩
 have HO:Hid (∀U (x y:Nat),x < 2 ^ n→LvP p n x y→Mod [] w U→Calls Tryz.prog 65 #[.pointer (some ⟨b,0,none⟩),.int .u8 f,.agg #[.int .u8 t,.int .u32 a],.int .i64 0,.int .u16 y] U fun e w'=>e=.returned (.tuple #[.bool (W.testBit x),.int .u8 0])∧Mod [] U w'):=fun U x y hx hy md=>by
  have h:=holds_c (hS.st.mod md (by simp)) hL hS.good (by omega) f h1 h5 ⟨t,a⟩ (buildE f n n 0 (tabL W p n 0 0)).2 hE.rep.a 0 (by omega) hE.lead y (by have:=hy.1;omega)
  have e1:(⟨t,a⟩:Ed).t=(buildE f n n 0 (tabL W p n 0 0)).1:=hE.rep.t
  rw [e1,hT_build h1 h5 y n 0 _ (by omega),table_at hp hx hy.2] at h
  exact h
 have SO:Hid (∀U A nn cap (xs:List Nat) Fx,Rv U (.slice A nn cap) (xs.map ei) Fx→(∀k∈Fx,k < U.heap.size)→(∀x∈xs,x < 2 ^ n)→nn≤100000→_):=fun U A nn cap xs Fx h1 h2 h3 h4=>setOfX_c h1 h2 hn5 h3 h4
 have hn5':(n:Int)≤5:=by omega
 obtain ⟨m,hm⟩:∃m,2 ^ n=m:=⟨_,rfl⟩
 have hsh:wrap64 (2 ^ n)=(m:Int):=by
  rw [show ((2:Int) ^ n)=((2 ^ n:Nat):Int) from by simp,hm]
  exact IntWalk.wrap64_in _ ⟨by omega,by omega⟩
 rw [hm] at LV HO SO h32 hW
 have HW:=Lib.hid hW
 obtain ⟨i0,hi,hz0,hz1,hz2⟩:=info_parts Tryz.info3
 obtain ⟨gk,hgk⟩:∃gk,w.heap.size=gk:=⟨_,rfl⟩
 clear hS hO hE hp hW hm
 go_enter Tryz.func36,Tryz.ntmps36
 go_wp2_with fail
 have B0:=Lib.hid ((Blk.new' w #[.int .u8 t,.int .u32 a] 66 gk hgk.symm).alloc (.cells #[.int .i64 0,.slice none 0 0] 39))
 have B8:=Lib.hid (Blk.new' (w.alloc (.cells #[.int .u8 t,.int .u32 a] 66)) #[.int .i64 0,.slice none 0 0] 39 (gk+1) (by simp [hgk]))
 have M0:Hid (Mod [] w ((w.alloc (.cells #[.int .u8 t,.int .u32 a] 66)).alloc (.cells #[.int .i64 0,.slice none 0 0] 39))):=by exact mods
 refine (MY.out _ M0.out).mono ?_
 rintro e w1 ⟨rfl,rfl⟩
 generalize (w.alloc (.cells #[.int .u8 t,.int .u32 a] 66)).alloc (.cells #[.int .i64 0,.slice none 0 0] 39)=w0 at *
 go_wp2_with fail
 refine (VA.out _ (by first | exact M0.out | exact M0.out.drewN _)).mono ?_
 rintro e w1 ⟨rfl,rfl⟩
 go_wp2_with fail
 generalize wrap64 (2 ^ n)=M at hsh ⊢
 subst hsh
 go_loopw [9,11,26] (fun r v i wr=>∃(k:Nat) (xs:List Nat),i=.int .i64 k∧r=.int .u8 0∧k≤m∧xs.length≤k∧Hid (NewV 3 w1 (xs.map ei) wr v)∧Hid (∀x,x∈xs↔x < k∧W.testBit x=true)) (fun _ _ i _=>m - (intOf i).toNat)
 case atStart=>exact ⟨0,[],rfl,rfl,by omega,by simp,NewV.nil _ (Mod.refl _ _),by show ∀x:Nat,x∈[]↔x < 0∧W.testBit x=true;intro x;simp⟩
 case round=>
  obtain ⟨k,xs,rfl,rfl,hk,hlen,HN,HX⟩:=hrel
  have MR:=Lib.hid HN.out.mod
  have MW:=Lib.hid (M0.out.trans' MR.out)
  have BR:=Lib.hid (B0.out.mod MR.out (by simp))
  have B8R:=Lib.hid (B8.out.mod MR.out (by simp))
  by_cases hlt:k < m
  ·have hlt':(k:Int) < m:=by omega
   have hk0:(0:Int)≤k:=by omega
   have LVK:Hid (∀U,Mod [] wr U→_):=fun U md=>LV.out U k hlt (MW.out.trans' md)
   have HOK:Hid (∀wa U (y:Nat),LvP p n k y→Mod [] wr wa→Mod [] wa U→_):=fun wa U y hy m1 md=>HO.out U k y hlt hy (MW.out.trans' (m1.trans' md))
   obtain ⟨bb,hbb⟩:∃bb,W.testBit k=bb:=⟨_,rfl⟩
   rw [hbb] at HOK
   have HBB:=Lib.hid hbb
   clear hbb
   obtain ⟨d0,d1⟩:=BR.out.cells2
   have hbl:=BR.out.lt
   clear LV HO VA VO MY
   go_wp2_with fail
   go_region_held3 (fun w'=>w'.cell? ⟨gk,0,none⟩=some (.int .u8 t)∧w'.cell? ⟨gk,1,none⟩=some (.int .u32 a)) (go_keep) (first | (go_at_call 66;refine (LVK.out _ (by exact mods)).mono ?_;rintro e' wa ⟨y,hy,rfl,m_wa⟩;have M_wa:=Mod.trans' (show Mod _ wr _ from by exact mods) m_wa;have d0:=(M_wa.cell (a:=⟨gk,0,none⟩) hbl (by first | assumption | (simp;done))).trans d0;have d1:=(M_wa.cell (a:=⟨gk,1,none⟩) hbl (by first | assumption | (simp;done))).trans d1;have hbl:=Nat.lt_of_lt_of_le hbl M_wa.size;skip) | (go_at_call 65;refine (HOK.out wa _ y hy M_wa (by exact mods)).mono ?_;rintro e' wb ⟨rfl,m_wb⟩;have M_wb:=Mod.trans' (show Mod _ wa _ from by exact mods) m_wb;have d0:=(M_wb.cell (a:=⟨gk,0,none⟩) hbl (by first | assumption | (simp;done))).trans d0;have d1:=(M_wb.cell (a:=⟨gk,1,none⟩) hbl (by first | assumption | (simp;done))).trans d1;have hbl:=Nat.lt_of_lt_of_le hbl M_wb.size;skip))
   all_goals
    have M2:=Lib.hid (M_wa.trans' M_wb)
    have HN2:=Lib.hid (HN.out.later M2.out)
    have BR2:=Lib.hid (BR.out.mod M2.out (by simp))
    clear m_wa m_wb M_wa M_wb d0 d1 hbl
    cases bb with
    | false=>
     go_wp2_with fail
     go_roundw
     case rel=>
      refine ⟨k+1,xs,by first | rfl | go_num,rfl,by omega,by omega,HN2,?_⟩
      show ∀x:Nat,x∈xs↔x < k+1∧W.testBit x=true
      intro x
      rw [HX.out]
      constructor
      ·exact fun h=>⟨by omega,h.2⟩
      ·rintro ⟨h,h2⟩
       refine ⟨?_,h2⟩
       rcases Nat.lt_succ_iff_lt_or_eq.1 h with h | rfl
       ·exact h
       ·rw [HBB.out] at h2;cases h2
     case measure=>simp [intOf];omega
    | true=>
     obtain ⟨Fo',so,mo,fo⟩:=HN2.out
     obtain ⟨z,hz⟩:∃z,(xs.map ei).length=z:=⟨_,rfl⟩
     have hz8:z≤32:=by simp at hz;omega
     obtain ⟨Ao,capo,rfl,hcapo⟩:=so.shape
     rw [hz] at so hcapo HN HN2 ⊢
     have SO1:=Lib.hid so
     have MO:=Lib.hid mo
     have FO:=Lib.hid fo
     have LO:=Lib.hid hz
     clear so mo fo hcapo hz
     go_wp2_with (at_builtin;refine wpList_append_sl _ rfl _ _ 28 rfl 3 i0 (.int .i64 0) 1 8 Tryz.underlying28 hi hz0 hz1 hz2 rfl (by decide) _ z (xs.map ei) Fo' rfl (SO1.out.mod (S:=[]) (by exact mods) (by simp)) ⟨_,0,none⟩ 1 1 [ei k] (by decide) rfl rfl (by intro j u hu;exact list_new_at _ _ _ _ (by simp) j u hu) (by intro u hu;simp at hu;subst hu;rfl) (by unfold maxLen;omega) (by omega) ?_;intro v5 w5 F5 hs5 hm5 hf5;have N5:=Lib.hid (NewV.app (l:=xs.map ei) (l2:=[ei k]) MO.out FO.out LO.out rfl (by exact mods) hs5 hm5 hf5);obtain ⟨a5,cap5,rfl,_⟩:=hs5.shape;clear hs5 hm5 hf5)
     go_roundw
     case rel=>
      refine ⟨k+1,xs++[k],by first | rfl | go_num,rfl,by omega,by simp;omega,?_,?_⟩
      ·show NewV _ _ _ _ _
       rw [List.map_append]
       exact N5.out
      ·show ∀x:Nat,x∈xs++[k]↔x < k+1∧W.testBit x=true
       intro x
       rw [List.mem_append,HX.out,List.mem_singleton]
       constructor
       ·rintro (h | rfl)
        ·exact ⟨by omega,h.2⟩
        ·exact ⟨by omega,HBB.out⟩
       ·rintro ⟨h,h2⟩
        rcases Nat.lt_succ_iff_lt_or_eq.1 h with h | h
        ·exact .inl ⟨h,h2⟩
        ·exact .inr h
     case measure=>simp [intOf];omega
  ·have hkm:k=m:=by omega
   have hlt':¬(k:Int) < m:=by omega
   have HWL:Hid (ptsL xs=W):=ptsL_all HW.out (fun x=>by rw [HX.out,hkm])
   have HXM:Hid (∀x∈xs,x < m):=fun x hx=>by have:=((HX.out x).1 hx).1;omega
   obtain ⟨Fo',so,mo,fo⟩:=HN.out
   obtain ⟨Ao,capo,rfl,hcapo⟩:=so.shape
   have RV:=Lib.hid (Rv.of_sl so rfl)
   have FL:=Lib.hid so.lt
   have hzl:(xs.map ei).length≤32:=by rw [List.length_map];omega
   clear so mo fo hcapo LV HO VO MY HN
   generalize (xs.map ei).length=z at *
   go_wp2_with fail
   refine (VA.out _ MW.out).mono ?_
   rintro e w2 ⟨rfl,rfl⟩
   go_wp2_with fail
   refine (SO.out _ _ _ _ xs Fo' RV.out FL.out HXM.out (by omega)).mono ?_
   rintro e w3 ⟨g,rfl,bg,hg,m3⟩
   rw [HWL.out] at bg
   have B3:=Lib.hid (B8R.out.mod m3 (by simp))
   have MZ:=Lib.hid (MW.out.trans' m3)
   have BG:=Lib.hid bg
   have HGG:=Lib.hid hg
   obtain ⟨r0,r1⟩:=B3.out.cells2
   have hrl:=B3.out.lt
   obtain ⟨f0,f1,-⟩:=B3.out.frozs
   have hgr:Hid (gk+1 < g):=by have:=B8R.out.lt;show _ < _;omega
   clear bg hg m3 SO VA
   go_wp2_with fail
   have BX:=(B3.out.set 0 (.int .i64 n)).set 1 (.slice (some ⟨g,0,none⟩) 1 1)
   simp only [List.setIfInBounds_toArray,List.set_cons_zero,List.set_cons_succ] at BX
   have MX:Mod [gk+1] w3 ((w3.setCell ⟨gk+1,0,none⟩ (.int .i64 n)).setCell ⟨gk+1,1,none⟩ (.slice (some ⟨g,0,none⟩) 1 1)):=by exact mods
   have BGX:=BG.out.mod MX (by have:=hgr.out;simp;omega)
   have MF:=MZ.out.trans MX (by intro i hi hm;simp at hm;omega)
   have hgw:w.heap.size≤g:=Nat.le_trans MW.out.size HGG.out
   obtain ⟨z0,z1⟩:=BX.cells2
   generalize (w3.setCell ⟨gk+1,0,none⟩ (.int .i64 n)).setCell ⟨gk+1,1,none⟩ (.slice (some ⟨g,0,none⟩) 1 1)=X at *
   refine bodyPost_ret (v:=.tuple #[.agg #[.int .i64 n,.slice (some ⟨g,0,none⟩) 1 1],.int .u8 0]) (by simp [results,Tryz.results36,go_sem,z0,z1];try rfl) rfl ?_
   exact ⟨g,rfl,BGX,hgw,MF⟩
open Go.RowKit
theorem Rv.frame {w:World} {v:Value} {l:List Value} {F:List Nat} (h:Rv w v l F):∃A cap,v=.slice A l.length cap:=by
 obtain ⟨A,cap,e,_⟩:=h;exact ⟨A,cap,e⟩
def downN (p:List Nat) (x:Nat):Nat:=p.foldl (fun y v=>2 *y+valN x v) 0
theorem foldl_down_lt (x:Nat):∀(p:List Nat) (y:Nat),p.foldl (fun y v=>2 *y+valN x v) y < (y+1) *2 ^ p.length:=by
 intro p
 induction p with
 | nil=>intro y;simp
 | cons v p ih=>
  intro y
  have h:=ih (2 *y+valN x v)
  have h2:valN x v≤1:=by unfold valN;omega
  simp only [List.foldl_cons,List.length_cons]
  refine Nat.lt_of_lt_of_le h ?_
  rw [Nat.pow_succ,Nat.mul_comm (2 ^ p.length) 2,←Nat.mul_assoc]
  exact Nat.mul_le_mul_right _ (by omega)
theorem downN_lt (p:List Nat) (x:Nat):downN p x < 2 ^ p.length:=by
 have:=foldl_down_lt x p 0
 simpa [downN] using this
theorem down_c {w:World} {v:Value} {p:List Nat} {n:Nat} {F:List Nat} (h:Rv w v (p.map ei) F) (hl:p.length=n) (hn:n≤16) (hp:∀v∈p,v≤16) (x:Nat) (hx:x≤1000000):
 Calls Tryz.prog 47 #[v,.int .i64 x] w fun e w'=>e=.returned (.int .i64 (downN p x:Nat))∧w'=w:=by
 obtain ⟨A,cap,rfl,hc⟩:=h.shape
 have H:=Lib.hid h
 have HL:=Lib.hid hl
 have HP:=Lib.hid hp
 simp only [List.length_map] at H hc ⊢
 rw [hl] at H hc ⊢
 clear h hl hp
 go_enter Tryz.func47,Tryz.ntmps47
 go_wp2_with fail
 go_loop [5,6] (fun y i=>∃k z:Nat,k≤n∧i=.int .i64 k∧y=.int .i64 z∧Hid (z=downN (p.take k) x)) (fun _ i=>n - (intOf i).toNat)
 case atStart=>exact ⟨0,0,by omega,rfl,rfl,by show _=_;simp [downN]⟩
 case round=>
  obtain ⟨k,z,hk,rfl,rfl,HZ⟩:=hrel
  by_cases hlt:k < n
  ·have hlt':(k:Int) < n:=by omega
   have hk1:k < p.length:=by rw [HL.out];exact hlt
   obtain ⟨b1,o1,rfl,d1⟩:=H.out.at k (by rw [List.length_map];exact hk1)
   rw [List.getElem_map] at d1
   have TA:Hid (downN (p.take (k+1)) x=2 *z+valN x p[k]):=by
    show _=_
    rw [List.take_succ_eq_append_getElem hk1,HZ.out];unfold downN;rw [List.foldl_append];rfl
   have hz:z < 65536:=by
    rw [HZ.out]
    have h1:=downN_lt (p.take k) x
    have h2:=Nat.pow_le_pow_right (n:=2) (by omega) (show (p.take k).length≤16 by rw [List.length_take];omega)
    have h3:2 ^ 16=65536:=rfl
    omega
   have hv:valN x p[k]≤1:=by unfold valN;omega
   have VA:=Lib.hid (value_c x p[k] (by omega) (by have:=HP.out p[k] (List.getElem_mem _);omega))
   unfold ei at d1
   generalize p[k]=q at *
   generalize valN x q=u at *
   clear hk1
   go_wp2_with fail
   refine (VA.out _).mono ?_
   rintro e w' ⟨rfl,rfl⟩
   go_wp2_with fail
   go_round
   case rel=>exact ⟨k+1,2 *z+u,by omega,by go_num,by go_num,TA.out.symm⟩
   case measure=>simp [intOf];omega
  ·obtain rfl:k=n:=by omega
   go_wp2_with fail
   go_ret
   have e:p.take k=p:=List.take_of_length_le (by rw [HL.out];exact Nat.le_refl _)
   exact ⟨by rw [HZ.out,e];rfl,rfl⟩
def ByL (p:List Nat) (t xs:List Bool):Prop:=xs.length=t.length∧∀x,x < t.length→xs[downN p x]? =t[x]?
theorem table09_c {w:World} {v v2:Value} {p:List Nat} {t:List Bool} {n:Nat} {F F2:List Nat} (h:Rv w v (p.map ei) F) (hl:p.length=n) (hn:n≤5) (hp:∀v∈p,v≤16) (ht:Rv w v2 (t.map eb) F2) (htl:t.length=2 ^ n)
 (hinj:∀x y,x < 2 ^ n→y < 2 ^ n→downN p x=downN p y→x=y):
 Calls Tryz.prog 21 #[v,v2] w fun e w'=>∃v' xs,e=.returned v'∧NewV 4 w (xs.map eb) w' v'∧ByL p t xs:=by
 obtain ⟨A,cap,rfl⟩:=h.frame
 obtain ⟨A2,cap2,rfl,hc2⟩:=ht.shape
 have H:=Lib.hid h
 have HT:=Lib.hid ht
 have h32:2 ^ n≤32:=by have:=Nat.pow_le_pow_right (n:=2) (by omega) hn;simpa using this
 have DN:Hid (∀(W:World) (x:Nat),Mod [] w W→x≤1000000→_):=fun W x m hx=>down_c (h.mod m (by simp)) hl (by omega) hp x hx
 have DL:Hid (∀x,downN p x < 2 ^ n):=fun x=>by have:=downN_lt p x;rw [hl] at this;exact this
 have HI:=Lib.hid hinj
 simp only [List.length_map] at H HT DN hc2 ⊢
 rw [hl] at H DN ⊢
 obtain ⟨N,hN⟩:∃N,t.length=N:=⟨_,rfl⟩
 have hNn:N=2 ^ n:=hN.symm.trans htl
 rw [hN] at HT hc2 ⊢
 rw [←hNn] at HI DL h32
 have HN:=Lib.hid hN
 clear h ht hl hp htl hinj hN hNn
 have hmk:=fun w=>madeBools w N (by omega)
 obtain ⟨g,hg⟩:∃g,w.heap.size=g:=⟨_,rfl⟩
 go_enter Tryz.func21,Tryz.ntmps21
 go_wp2_with fail
 have HG:=Lib.hid hg
 have S0:=Lib.hid (Sl.made1 w 4 N (.bool false) (by unfold maxLen;omega) g hg.symm)
 have M0:Hid (Mod [] w (w.alloc (.cells (madeCells #[.bool false] N) 4))):=(Mod.refl _ _).alloc _
 clear hmk hg
 generalize w.alloc (.cells (madeCells #[.bool false] N) 4)=w0 at *
 go_loopw [6] (fun i wr=>∃k:Nat,∃xs:List Bool,k≤N∧i=.int .i64 k∧Hid (xs.length=N)∧Hid (∀j,j < k→xs[downN p j]? =t[j]?)∧Hid (Sl wr 4 1 (.slice (some ⟨g,0,none⟩) N N) N (xs.map eb) [g])∧Hid (Mod [] w wr)) (fun i _=>N - (intOf i).toNat)
 case atStart=>exact ⟨0,List.replicate N false,by omega,rfl,by show _=_;simp,by intro j hj;omega,by show Sl _ _ _ _ _ _ _;simpa [eb] using S0.out,M0⟩
 case round=>
  obtain ⟨k,xs,hk,rfl,HXL,HXS,HS,HM⟩:=hrel
  clear S0 M0
  by_cases hlt:k < N
  ·have hlt':(k:Int) < N:=by omega
   have hk1:k < t.length:=by rw [HN.out];exact hlt
   obtain ⟨b1,o1,rfl,d0⟩:=HT.out.at k (by rw [List.length_map];exact hk1)
   have hb1:=World.block_lt_of_cell? w _ d0
   simp only at hb1
   have hbg:¬b1=g:=by have:=HG.out;omega
   have hbg2:¬g=b1:=fun e=>hbg e.symm
   have d1:=(HM.out.cell (a:=⟨b1,o1+k,none⟩) hb1 (by simp)).trans d0
   clear d0
   rw [List.getElem_map] at d1
   have TK:Hid (t[k]? =some t[k]):=List.getElem?_eq_getElem hk1
   have hyN:=DL.out k
   have DK:=Lib.hid (fun (W:World) (m:Mod [] wr W)=>DN.out W k (HM.out.trans' m) (by omega))
   have HIK:Hid (∀j,j < k→downN p j≠downN p k):=fun j hj e=>by have:=HI.out j k (by omega) hlt e;omega
   obtain ⟨y,hy⟩:∃y,downN p k=y:=⟨_,rfl⟩
   have HY:=Lib.hid hy
   rw [hy] at DK hyN HIK
   clear hy
   obtain ⟨e1,e2,-⟩:=HS.out.at y (by omega)
   rw [List.getElem?_map,List.getElem?_eq_getElem (by rw [HXL.out];exact hyN)] at e1
   simp only [Option.map_some,eb] at e1
   unfold eb at d1
   generalize t[k]=c at *
   have hbl:=World.block_lt_of_cell? wr _ d1
   have hgl:=World.block_lt_of_cell? wr _ e1
   simp only at hbl hgl
   have hy0:(0:Int)≤y:=by omega
   have hy1:(y:Int) < N:=by omega
   go_wp2_with fail
   have e2':wr.frozen? ⟨g,y,none⟩=false:=e2
   go_region_held3 (fun w'=>w'.cell? ⟨b1,o1+k,none⟩=some (.bool c)) (go_keep) (first | (go_at_call 47;refine (DK.out _ (by exact mods)).mono ?_;rintro e' w1 ⟨rfl,rfl⟩))
   have HS2:=Lib.hid (HS.out.set y (.bool c))
   have HM2:=Lib.hid (HM.out.setCell ⟨g,y,none⟩ (.bool c) (by have:=HG.out;simp;omega))
   go_wp2_with fail
   go_roundw
   case rel=>
    refine ⟨k+1,xs.set y c,by omega,by go_num,by show _=_;rw [List.length_set];exact HXL.out,?_,?_,?_⟩
    ·intro j hj
     rw [List.getElem?_set]
     by_cases q:j=k
     ·subst q
      rw [HY.out,if_pos rfl,if_pos (by rw [HXL.out];exact hyN),TK.out]
     ·rw [if_neg (fun e=>HIK.out j (by omega) e.symm)]
      exact HXS.out j (by omega)
    ·show Sl _ _ _ _ _ _ _
     rw [List.map_set]
     exact HS2.out
    ·exact HM2.out.drew
   case measure=>simp [intOf];omega
  ·obtain rfl:k=N:=by omega
   go_wp2_with fail
   go_ret
   refine ⟨_,xs,rfl,⟨[g],?_,HM.out,by intro q hq;simp at hq;subst hq;rw [HG.out];omega⟩,by rw [HXL.out,HN.out],fun x hx=>HXS.out x (by rw [←HN.out];exact hx)⟩
   rw [List.length_map,HXL.out]
   exact HS.out
theorem getD_range {m:Nat} (g:Nat→Bool) {y:Nat} (hy:y < m):((List.range m).map g).getD y false=g y:=by
 rw [List.getD_eq_getElem?_getD,List.getElem?_map,List.getElem?_range hy]
 rfl
theorem truth05_c (b:Bool) (w:World):Calls Tryz.prog 40 #[.bool b] w fun e w'=>e=.returned (.int .i64 (b.toNat:Nat))∧w'=w:=by
 cases b
 ·go_enter Tryz.func40,Tryz.ntmps40
  go_wp2_with fail
  go_ret
  exact ⟨rfl,rfl⟩
 ·go_enter Tryz.func40,Tryz.ntmps40
  go_wp2_with fail
  go_ret
  exact ⟨rfl,rfl⟩
def opR (o:Nat) (p q:Bool):Bool:=((valN o (2 *p.toNat+q.toNat):Nat):Int)==1
def opRL (o:Nat) (la lb:List Bool):List Bool:=(List.range la.length).map fun x=>opR o (la.getD x false) (lb.getD x false)
theorem op05_c {w:World} {va vb:Value} {la lb:List Bool} {Fa Fb:List Nat} (ha:Rv w va (la.map eb) Fa) (hb:Rv w vb (lb.map eb) Fb) (hl:la.length≤65536) (hlb:lb.length=la.length) (o:Nat) (ho:o≤16):
 Calls Tryz.prog 16 #[.int .i64 o,va,vb] w fun e w'=>∃v',e=.returned v'∧NewV 4 w ((opRL o la lb).map eb) w' v':=by
 obtain ⟨i0,hi,hz0,hz1,hz2⟩:=info_parts Tryz.infoB
 obtain ⟨A,ca,rfl,hca⟩:=ha.shape
 obtain ⟨B,cb,rfl,hcb⟩:=hb.shape
 have HA:=Lib.hid ha
 have HB:=Lib.hid hb
 simp only [List.length_map] at HA HB hca hcb ⊢
 rw [hlb] at HB hcb ⊢
 obtain ⟨N,hN⟩:∃N,la.length=N:=⟨_,rfl⟩
 unfold opRL
 have HNb:Hid (lb.length=N):=by show _=_;rw [hlb,hN]
 rw [hN] at HA HB hca hcb hl ⊢
 have HN:=Lib.hid hN
 clear ha hb hN hlb
 have TR:=Lib.hid truth05_c
 have VA:Hid (∀(x:Nat) (W:World),x≤3→_):=fun x W hx=>value_c o x (by omega) (by omega) W
 obtain ⟨f,hf⟩:∃f:Nat→Bool,f=fun x=>opR o (la.getD x false) (lb.getD x false):=⟨_,rfl⟩
 have HF:Hid (∀x,f x=opR o (la.getD x false) (lb.getD x false)):=fun x=>by rw [hf]
 rw [←hf]
 clear hf
 have hN':(N:Int)≤65536:=by omega
 go_enter Tryz.func16,Tryz.ntmps16
 go_wp2_with fail
 go_loopw [7,8] (fun o i wr=>∃k:Nat,k≤N∧i=.int .i64 k∧Hid (NewV 4 w (((List.range k).map f).map eb) wr o)) (fun _ i _=>N - (intOf i).toNat)
 case atStart=>exact ⟨0,by omega,rfl,NewV.nil _ (by exact mods)⟩
 case round=>
  obtain ⟨k,hk,rfl,HV⟩:=hrel
  by_cases hlt:k < N
  ·have hlt':(k:Int) < N:=by omega
   obtain ⟨Fo,so,mo,fo⟩:=HV.out
   obtain ⟨Ao,capo,rfl,hcapo⟩:=so.shape
   have e0:(((List.range k).map f).map eb).length=k:=by simp
   rw [e0] at so hcapo HV ⊢
   have SO:=Lib.hid so
   have MO:=Lib.hid mo
   have FO:=Lib.hid fo
   have LO:=Lib.hid e0
   clear so mo fo hcapo e0
   have k1:k < la.length:=by rw [HN.out];exact hlt
   have k2:k < lb.length:=by rw [HNb.out];exact hlt
   obtain ⟨b1,o1,rfl,d0⟩:=HA.out.at k (by rw [List.length_map];exact k1)
   have hb1:=World.block_lt_of_cell? w _ d0
   simp only at hb1
   have d1:=(MO.out.cell (a:=⟨b1,o1+k,none⟩) hb1 (by simp)).trans d0
   clear d0
   rw [List.getElem_map] at d1
   obtain ⟨b2,o2,rfl,d0⟩:=HB.out.at k (by rw [List.length_map];exact k2)
   have hb2:=World.block_lt_of_cell? w _ d0
   simp only at hb2
   have d2:=(MO.out.cell (a:=⟨b2,o2+k,none⟩) hb2 (by simp)).trans d0
   clear d0
   rw [List.getElem_map] at d2
   have FK:Hid (f k=opR o la[k] lb[k]):=by show _=_;rw [HF.out,List.getD_eq_getElem?_getD,List.getElem?_eq_getElem k1,List.getD_eq_getElem?_getD,List.getElem?_eq_getElem k2];rfl
   unfold eb at d1 d2
   generalize la[k]=p at *
   generalize lb[k]=q at *
   have hp:p.toNat≤1:=by cases p<;>decide
   have hq:q.toNat≤1:=by cases q<;>decide
   have T1:=Lib.hid (TR.out p)
   have T2:=Lib.hid (TR.out q)
   have VX:Hid (∀W,Calls Tryz.prog 39 #[.int .i64 o,.int .i64 (IntKind.i64.wrap (IntKind.i64.wrap (2 *(p.toNat:Int))+(q.toNat:Int)))] W fun e w'=>e=.returned (.int .i64 (valN o (2 *p.toNat+q.toNat):Nat))∧w'=W):=fun W=>by
    have EW:IntKind.i64.wrap (IntKind.i64.wrap (2 *(p.toNat:Int))+(q.toNat:Int))=((2 *p.toNat+q.toNat:Nat):Int):=by cases p<;>cases q<;>rfl
    rw [EW]
    exact VA.out (2 *p.toNat+q.toNat) W (by omega)
   unfold opR at FK
   generalize valN o (2 *p.toNat+q.toNat)=z at *
   generalize p.toNat=pn at *
   generalize q.toNat=qn at *
   have hp':(pn:Int)≤1:=by omega
   have hq':(qn:Int)≤1:=by omega
   have hbl:=World.block_lt_of_cell? wr _ d1
   have hbm:=World.block_lt_of_cell? wr _ d2
   simp only at hbl hbm
   go_wp2_with fail
   go_region_law (first | (go_simp;go_at_call 40;first | (refine (T1.out _).mono ?_;rintro e' w2 ⟨rfl,rfl⟩) | (refine (T2.out _).mono ?_;rintro e' w2 ⟨rfl,rfl⟩)) | (go_simp;go_at_call 39;refine (VX.out _).mono ?_;rintro e' w2 ⟨rfl,rfl⟩) | (refine step_append_sl rfl _ _ 26 rfl 4 i0 (.bool false) 1 1 Tryz.underlying26 hi hz0 hz1 hz2 rfl (by decide) _ k (((List.range k).map f).map eb) Fo rfl (SO.out.mod (S:=[]) (by exact mods) (by simp)) ⟨_,0,none⟩ 1 1 [.bool ((z:Int)==1)] (by decide) rfl rfl (by intro j u hu;first | exact list_new_at _ _ _ _ (by simp) j u hu | exact list_new_at_drew _ _ _ _ (by simp) j u hu) (by intro u hu;simp at hu;subst hu;rfl) (by unfold maxLen;omega) (by omega) ?_;intro v5 w5 F5 hs5 hm5 hf5;have N5:=Lib.hid (NewV.app (l:=((List.range k).map f).map eb) (l2:=[.bool ((z:Int)==1)]) MO.out FO.out LO.out rfl (by exact mods) hs5 hm5 hf5);obtain ⟨a5,cap5,rfl,_⟩:=hs5.shape;clear hs5 hm5 hf5))
   all_goals try go_wp2_with fail
   all_goals
    go_roundw
    case rel=>exact ⟨k+1,by omega,by go_num,by have:=N5.out;show NewV _ _ _ _ _;rw [List.range_succ,List.map_append,List.map_append,List.map_cons,List.map_nil,List.map_cons,List.map_nil,FK.out];exact this⟩
    case measure=>simp [intOf];omega
  ·obtain rfl:k=N:=by omega
   go_wp2_with fail
   go_ret
   exact ⟨_,rfl,HV.out⟩
theorem vars05_c {w:World} {va:Value} {t:List Bool} {n:Nat} {F:List Nat} (ht:Rv w va (t.map eb) F) (htl:t.length=2 ^ n) (hn:n≤16):
 Calls Tryz.prog 38 #[va] w fun e w'=>e=.returned (.int .i64 n)∧w'=w:=by
 obtain ⟨A,cap,rfl,hc⟩:=ht.shape
 simp only [List.length_map] at hc ⊢
 rw [htl] at hc ⊢
 clear ht htl
 have h16:2 ^ n≤65536:=by have:=Nat.pow_le_pow_right (n:=2) (by omega) hn;simpa using this
 have SZ:=Lib.hid (fun k (h:k≤n)=>size_c k (by omega))
 have LT:=Lib.hid (fun k (h:k < n)=>Nat.pow_lt_pow_right (a:=2) (by omega) h)
 obtain ⟨N,hN⟩:∃N,2 ^ n=N:=⟨_,rfl⟩
 rw [hN] at hc h16 LT ⊢
 have HN:=Lib.hid hN
 clear hN
 have hn':(n:Int)≤16:=by omega
 have hN':(N:Int)≤65536:=by omega
 go_enter Tryz.func38,Tryz.ntmps38
 go_wp2_with fail
 go_loopw [3] (fun i wr=>∃k:Nat,i=.int .i64 k∧k≤n∧wr=w) (fun i _=>n - (intOf i).toNat)
 case atStart=>exact ⟨0,rfl,by omega,rfl⟩
 case round=>
  obtain ⟨k,rfl,hk,hw⟩:=hrel
  subst hw
  have hk':(k:Int)≤n:=by omega
  have SK:=Lib.hid (SZ.out k hk)
  by_cases hlt:k < n
  ·have h2:=LT.out k hlt
   generalize (2:Nat) ^ k=m at *
   have h2':(m:Int) < N:=by omega
   go_wp2_with fail
   refine (SK.out _).mono ?_
   rintro e w' ⟨rfl,rfl⟩
   go_wp2_with fail
   go_roundw
   case rel=>exact ⟨k+1,by go_num,by omega,by first | trivial | rfl⟩
   case measure=>simp [intOf];omega
  ·obtain rfl:k=n:=by omega
   have e:=HN.out
   rw [e] at SK
   clear e
   go_wp2_with fail
   refine (SK.out _).mono ?_
   rintro e w' ⟨rfl,rfl⟩
   go_wp2_with fail
   go_ret
   exact ⟨rfl,rfl⟩
theorem sameSet05_c {w:World} {n g c g' c' W:Nat} (h:w.cell? ⟨g,0,none⟩=some (.int .u64 W)) (k:w.cell? ⟨g',0,none⟩=some (.int .u64 W)):
 Calls Tryz.prog 37 #[.agg #[.int .i64 n,.slice (some ⟨g,0,none⟩) 1 c],.agg #[.int .i64 n,.slice (some ⟨g',0,none⟩) 1 c']] w fun e w'=>e=.returned (.bool true)∧Mod [] w w':=by
 have hg:=World.block_lt_of_cell? w _ h
 have hg':=World.block_lt_of_cell? w _ k
 simp only at hg hg'
 obtain ⟨gk,hgk⟩:∃gk,w.heap.size=gk:=⟨_,rfl⟩
 have B1:=(Blk.new' w #[.int .i64 n,.slice (some ⟨g,0,none⟩) 1 c] 39 gk hgk.symm).alloc (.cells #[.int .i64 n,.slice (some ⟨g',0,none⟩) 1 c'] 39)
 have B2:=Blk.new' (w.alloc (.cells #[.int .i64 n,.slice (some ⟨g,0,none⟩) 1 c] 39)) #[.int .i64 n,.slice (some ⟨g',0,none⟩) 1 c'] 39 (gk+1) (by simp [hgk])
 have M0:Hid (Mod [] w ((w.alloc (.cells #[.int .i64 n,.slice (some ⟨g,0,none⟩) 1 c] 39)).alloc (.cells #[.int .i64 n,.slice (some ⟨g',0,none⟩) 1 c'] 39))):=by exact mods
 have hq:((n:Int)==(n:Int))=true:=by simp
 go_enter Tryz.func37,Tryz.ntmps37
 go_upto_region 1 with fail
 have h1:=(M0.out.cell (a:=⟨g,0,none⟩) hg (by simp)).trans h
 have k1:=(M0.out.cell (a:=⟨g',0,none⟩) hg' (by simp)).trans k
 generalize (w.alloc (.cells #[.int .i64 n,.slice (some ⟨g,0,none⟩) 1 c] 39)).alloc (.cells #[.int .i64 n,.slice (some ⟨g',0,none⟩) 1 c'] 39)=w0 at *
 have hgl:=World.block_lt_of_cell? w0 _ h1
 have hgl':=World.block_lt_of_cell? w0 _ k1
 have l1:=B1.lt
 have l2:=B2.lt
 have PB1:=Lib.hid B1
 have PB2:=Lib.hid B2
 have HH:=Lib.hid h1
 have HK:=Lib.hid k1
 obtain ⟨a0,a1⟩:=B1.cells2
 obtain ⟨c0,c1⟩:=B2.cells2
 simp only at hgl hgl'
 clear B1 B2 h k hg hg' hgk
 go_wp2_with fail
 go_loopw [5] (fun i wr=>∃j:Nat,j≤1∧i=.int .i64 j∧Hid (Mod [] w0 wr)) (fun i _=>1 - (intOf i).toNat)
 case atStart=>exact ⟨0,by omega,rfl,Mod.refl _ _⟩
 case round=>
  obtain ⟨j,hj,rfl,HM⟩:=hrel
  clear a0 a1 c0 c1 h1 k1
  obtain ⟨a0,a1⟩:=(PB1.out.mod HM.out (by simp)).cells2
  obtain ⟨c0,c1⟩:=(PB2.out.mod HM.out (by simp)).cells2
  have h1:=(HM.out.cell (a:=⟨g,0,none⟩) hgl (by simp)).trans HH.out
  have k1:=(HM.out.cell (a:=⟨g',0,none⟩) hgl' (by simp)).trans HK.out
  by_cases hlt:j < 1
  ·obtain rfl:j=0:=by omega
   go_wp2_with fail
   go_quiet (fail)
   rename_i nq
   have HM2:Hid (Mod [] w0 (wr.drewN nq)):=HM.out.drewN nq
   generalize wr.drewN nq=wq at *
   go_wp2_with fail
   go_roundw
   case rel=>exact ⟨1,by omega,by go_num,HM2⟩
   all_goals (simp [intOf])
  ·obtain rfl:j=1:=by omega
   go_wp2_with fail
   go_ret
   exact ⟨rfl,M0.out.trans' HM.out⟩
theorem is05_t {w:World} {n g c:Nat} {T:List Bool} {v:Value} {F:List Nat} (hn:n≤5) (htl:T.length=2 ^ n) (h:w.cell? ⟨g,0,none⟩=some (.int .u64 (valB T:Nat))) (k:Rv w v ((T).map eb) F):
 Calls Tryz.prog 15 #[.agg #[.int .i64 n,.slice (some ⟨g,0,none⟩) 1 c],v] w fun e w'=>e=.returned (.bool true)∧Mod [] w w':=by
 have hg:=World.block_lt_of_cell? w _ h
 simp only at hg
 have VA:Hid (∀W,Mod [] w W→Calls Tryz.prog 38 #[v] W fun e w'=>e=.returned (.int .i64 n)∧w'=W):=fun W m=>vars05_c (k.mod m (by simp)) (htl) (by omega)
 have OF:Hid (∀W,Mod [] w W→Calls Tryz.prog 11 #[.int .i64 n,v] W fun e w'=>∃g',e=.returned (.agg #[.int .i64 n,.slice (some ⟨g',0,none⟩) 1 1])∧w'.cell? ⟨g',0,none⟩=some (.int .u64 (valB T:Nat))∧Mod [] w w'∧Mod [] W w'):=fun W m=>by
  have h32:2 ^ n≤32:=by have:=Nat.pow_le_pow_right (n:=2) (by omega) hn;omega
  have:=of05_c n (k.mod m (by simp)) (by rw [htl];exact Nat.two_pow_pos n) (by rw [htl];exact h32)
  exact this.mono (by rintro e w' ⟨g',rfl,cg,-,m2⟩;exact ⟨g',rfl,cg,m.trans' m2,m2⟩)
 have SS:Hid (∀W g',Mod [] w W→W.cell? ⟨g',0,none⟩=some (.int .u64 (valB T:Nat))→Calls Tryz.prog 37 #[.agg #[.int .i64 n,.slice (some ⟨g,0,none⟩) 1 c],.agg #[.int .i64 n,.slice (some ⟨g',0,none⟩) 1 1]] W fun e w'=>e=.returned (.bool true)∧Mod [] W w'):=fun W g' m cg=>sameSet05_c ((m.cell (a:=⟨g,0,none⟩) hg (by simp)).trans h) cg
 obtain ⟨A,cap,rfl,-⟩:=k.shape
 generalize ((T).map eb).length=ln at *
 generalize valB T=W0 at *
 clear k h htl
 obtain ⟨gk,hgk⟩:∃gk,w.heap.size=gk:=⟨_,rfl⟩
 have B1:=Blk.new' w #[.int .i64 n,.slice (some ⟨g,0,none⟩) 1 c] 39 gk hgk.symm
 have M0:Hid (Mod [] w (w.alloc (.cells #[.int .i64 n,.slice (some ⟨g,0,none⟩) 1 c] 39))):=by exact mods
 go_enter Tryz.func15,Tryz.ntmps15
 go_upto_region 1 with fail
 generalize w.alloc (.cells #[.int .i64 n,.slice (some ⟨g,0,none⟩) 1 c] 39)=w0 at *
 obtain ⟨a0,a1⟩:=B1.cells2
 have hbl:=B1.lt
 have JC:Hid (∀W,Mod [] w0 W→W.cell? ⟨gk,0,none⟩=some (.int .i64 n)∧W.cell? ⟨gk,1,none⟩=some (.slice (some ⟨g,0,none⟩) 1 c)):=fun W m=>⟨(m.cell (a:=⟨gk,0,none⟩) hbl (by simp)).trans a0,(m.cell (a:=⟨gk,1,none⟩) hbl (by simp)).trans a1⟩
 clear B1 hgk
 have VA2:Hid (∀W,Mod [] w0 W→_):=fun W m=>VA.out W (M0.out.trans' m)
 have OF2:Hid (∀W,Mod [] w0 W→Calls Tryz.prog 11 #[.int .i64 n,.slice A ln cap] W fun e w'=>∃g',e=.returned (.agg #[.int .i64 n,.slice (some ⟨g',0,none⟩) 1 1])∧w'.cell? ⟨g',0,none⟩=some (.int .u64 (W0:Nat))∧Mod [] w0 w'):=fun W m=>(OF.out W (M0.out.trans' m)).mono (by rintro e w' ⟨g',rfl,cg,-,m2⟩;exact ⟨g',rfl,cg,m.trans' m2⟩)
 have SS2:Hid (∀W g',Mod [] w0 W→W.cell? ⟨g',0,none⟩=some (.int .u64 (W0:Nat))→Calls Tryz.prog 37 #[.agg #[.int .i64 n,.slice (some ⟨g,0,none⟩) 1 c],.agg #[.int .i64 n,.slice (some ⟨g',0,none⟩) 1 1]] W fun e w'=>e=.returned (.bool true)∧Mod [] w0 w'):=fun W g' m cg=>(SS.out W g' (M0.out.trans' m) cg).mono (by rintro e w' ⟨rfl,m2⟩;exact ⟨rfl,m.trans' m2⟩)
 clear VA OF SS
 go_wp2_with fail
 go_region_held3 (fun w'=>Mod [] w0 w'∧w'.cell? ⟨gk,0,none⟩=some (.int .i64 n)∧w'.cell? ⟨gk,1,none⟩=some (.slice (some ⟨g,0,none⟩) 1 c)) (first | (refine ⟨by first | exact (Mod.refl _ _).drew | exact Mod.refl _ _ | assumption | exact Mod.drew (by assumption),?_⟩;go_keep) | go_keep) (first
  | (go_at_call 38;with_reducible refine (VA2.out _ (by first | assumption | exact Mod.refl _ _ | exact Mod.drew (by assumption) | exact mods)).mono ?_;rintro e' w5 ⟨rfl,rfl⟩)
  | (go_at_call 11;with_reducible refine (OF2.out _ (by first | assumption | exact Mod.refl _ _ | exact Mod.drew (by assumption) | exact mods)).mono ?_;rintro e' w6 ⟨g',rfl,cg,m6⟩;obtain ⟨a0,a1⟩:=JC.out w6 m6)
  | (go_at_call 37;with_reducible refine (SS2.out _ _ (by first | assumption | exact Mod.refl _ _ | exact Mod.drew (by assumption) | exact mods) (by assumption)).mono ?_;rintro e' w7 ⟨rfl,m7⟩;obtain ⟨a0,a1⟩:=JC.out w7 m7))
 all_goals
  go_wp2_with fail
  go_ret
  exact ⟨rfl,M0.out.trans' m7⟩
theorem zipO_bits {n o:Nat} {t u:List Bool} {p:List Nat} (hp:∀v∈p,v < n) (hl:p.length=n) (ht:t.length=2 ^ n) (hu:u.length=2 ^ n) (ho:∀a b:Bool,opR o a b=o.testBit (2 *a.toNat+b.toNat)):
 tabL (valB (opRL o t u)) p n 0 0=zipO o (tabL (valB t) p n 0 0) (tabL (valB u) p n 0 0):=by
 refine tabL_zip hp hl (fun x hx=>?_) n 0 0 (by omega) (Nat.two_pow_pos n)
 rw [valB_bit,valB_bit,valB_bit,←ho]
 unfold opRL
 rw [getD_range _ (by rw [ht];exact hx)]
open Go.RowKit
theorem downN_inj {n:Nat} (hn:n≤5):∀x y,x < 2 ^ n→y < 2 ^ n→downN (List.range n) x=downN (List.range n) y→x=y:=by
 obtain rfl | rfl | rfl | rfl | rfl | rfl:n=0∨n=1∨n=2∨n=3∨n=4∨n=5:=by omega
 all_goals
  intro x y hx hy
  revert hy
  revert y
  revert hx
  revert x
  decide+kernel
def Qt (w w':World):Prop:=∃q,w'=w.drewN q
theorem Qt.refl (w:World):Qt w w:=⟨0,rfl⟩
theorem Qt.drewN {w w':World} (h:Qt w w') (n:Nat):Qt w (w'.drewN n):=by
 obtain ⟨q,rfl⟩:=h
 exact ⟨q+n,World.drewN_drewN ..⟩
theorem Qt.mod {w w':World} (h:Qt w w'):Mod [] w w':=by
 obtain ⟨q,rfl⟩:=h
 exact (Mod.refl _ _).drewN q
theorem same05_q {w:World} {va vb:Value} {la lb:List Bool} {Fa Fb:List Nat} (ha:Rv w va (la.map eb) Fa) (hb:Rv w vb (lb.map eb) Fb) (h1:la.length≤1048576) (h2:lb.length≤1048576):
 Calls Tryz.prog 22 #[va,vb] w fun e w'=>e=.returned (.bool (decide (la=lb)))∧Qt w w':=by
 obtain ⟨A,ca,rfl,hca⟩:=ha.shape
 obtain ⟨B,cb,rfl,hcb⟩:=hb.shape
 have HA:=Lib.hid ha
 have HB:=Lib.hid hb
 simp only [List.length_map] at HA HB hca hcb ⊢
 clear ha hb
 obtain ⟨n,hn⟩:∃n,la.length=n:=⟨_,rfl⟩
 obtain ⟨m,hm⟩:∃m,lb.length=m:=⟨_,rfl⟩
 rw [hn] at HA hca h1 ⊢
 rw [hm] at HB hcb h2 ⊢
 have HN:=Lib.hid hn
 have HM:=Lib.hid hm
 clear hn hm
 by_cases hnm:n=m
 ·subst hnm
  go_enter Tryz.func22,Tryz.ntmps22
  go_wp2_with fail
  go_loopw [5] (fun i wr=>∃k:Nat,k≤n∧i=.int .i64 k∧Hid (la.take k=lb.take k)∧Qt w wr) (fun i _=>n - (intOf i).toNat)
  case atStart=>exact ⟨0,by omega,rfl,by show _=_;simp,Qt.refl _⟩
  case round=>
   obtain ⟨k,hk,rfl,HT,hm⟩:=hrel
   have M:=Lib.hid hm
   by_cases hlt:k < n
   ·have hlt':(k:Int) < n:=by omega
    have hk1:k < la.length:=by rw [HN.out];exact hlt
    have hk2:k < lb.length:=by rw [HM.out];exact hlt
    obtain ⟨b1,o1,rfl,d1⟩:=(HA.out.mod hm.mod (by simp)).at k (by rw [List.length_map];exact hk1)
    obtain ⟨b2,o2,rfl,d2⟩:=(HB.out.mod hm.mod (by simp)).at k (by rw [List.length_map];exact hk2)
    rw [List.getElem_map] at d1 d2
    have TA:Hid (la.take (k+1)=la.take k++[la[k]]):=List.take_succ_eq_append_getElem hk1
    have TB:Hid (lb.take (k+1)=lb.take k++[lb[k]]):=List.take_succ_eq_append_getElem hk2
    have NE:Hid (la[k]≠lb[k]→la≠lb):=fun h e=>h (by subst e;rfl)
    unfold eb at d1 d2
    generalize la[k]=x at *
    generalize lb[k]=y at *
    clear hm hk1 hk2
    by_cases hxy:x=y
    ·subst hxy
     have hb1:(!(x==x))=false:=by simp
     go_wp2_with fail
     go_quiet (fail)
     go_wp2_with fail
     go_roundw
     case rel=>exact ⟨k+1,by omega,by go_num,by show _=_;rw [TA.out,TB.out,HT.out],by first | exact M.out.drewN _ | exact M.out.drew | exact M.out⟩
     case measure=>simp [intOf];omega
    ·have hb1:(!(x==y))=true:=by simpa using hxy
     have NE2:=Lib.hid (NE.out hxy)
     clear hxy
     go_wp2_with fail
     go_quiet (fail)
     go_wp2_with fail
     go_ret
     exact ⟨by rw [decide_eq_false NE2.out];rfl,by first | exact M.out.drewN _ | exact M.out.drew | exact M.out⟩
   ·obtain rfl:k=n:=by omega
    have E:Hid (la=lb):=by
     have h:=HT.out
     rw [List.take_of_length_le (by rw [HN.out];exact Nat.le_refl _),List.take_of_length_le (by rw [HM.out];exact Nat.le_refl _)] at h
     exact h
    clear hm
    go_wp2_with fail
    go_ret
    exact ⟨by rw [decide_eq_true E.out];rfl,M.out⟩
 ·have hne:((n:Int) != (m:Int))=true:=by simp;omega
  have E:Hid (la≠lb):=fun e=>hnm (by rw [←HN.out,←HM.out,e])
  go_enter Tryz.func22,Tryz.ntmps22
  go_wp2_with fail
  go_ret
  exact ⟨by rw [decide_eq_false E.out];rfl,Qt.refl _⟩
theorem parts_c {w:World} {v v2:Value} {t:List Bool} {n:Nat} {F F2:List Nat} (h:Rv w v ((List.range n).map ei) F) (hn:n≤5) (ht:Rv w v2 (t.map eb) F2) (htl:t.length=2 ^ n):
 Calls Tryz.prog 7 #[v,v2] w fun e w'=>∃z:Nat,n≤z∧z≤160∧e=.returned (.int .i64 z)∧Mod [] w w':=by
 obtain ⟨i0,hi,hzz0,hzz1,hzz2⟩:=info_parts Tryz.info3
 have TB:=Lib.hid (table09_c h (by simp) hn (by intro v hv;simp at hv;omega) ht htl (downN_inj hn))
 have h32:2 ^ n≤32:=by have:=Nat.pow_le_pow_right (n:=2) (by omega) hn;omega
 have h0:=Nat.two_pow_pos n
 have PW:Hid (∀k,k+1≤n→2 ^ (k+1)=2 *2 ^ k∧0 < 2 ^ k∧2 ^ (k+1)≤32∧∃q,0 < q∧q≤32∧q *2 ^ (k+1)=2 ^ n):=fun k hk=>by
  refine ⟨by rw [Nat.pow_succ];omega,Nat.two_pow_pos k,by have:=Nat.pow_le_pow_right (n:=2) (by omega) (show k+1≤5 by omega);omega,2 ^ (n - (k+1)),Nat.two_pow_pos _,by have:=Nat.pow_le_pow_right (n:=2) (by omega) (show n - (k+1)≤5 by omega);omega,by rw [←Nat.pow_add];congr 1;omega⟩
 have HT:=Lib.hid htl
 obtain ⟨N,hN⟩:∃N,2 ^ n=N:=⟨_,rfl⟩
 rw [hN] at HT h32 h0 PW
 have HNN:=Lib.hid hN
 clear h ht htl hN
 go_enter Tryz.func7,Tryz.ntmps7
 go_wp2_with fail
 refine TB.out.mono ?_
 rintro e w1 ⟨v',xs,rfl,⟨Fb,sb,mb,fb⟩,hb,-⟩
 have hxl:xs.length=N:=hb.trans HT.out
 rw [List.length_map,hxl] at sb
 obtain ⟨gb,cb,rfl,rfl,hcb⟩:=sb.pos h0
 have M1:=Lib.hid mb
 have RB:=Lib.hid (Rv.of_sl sb (by rw [List.length_map,hxl]))
 have HXL:=Lib.hid hxl
 have SUB:Hid (∀W,Mod [] w1 W→∀x S,x+S≤N→Rv W (.slice (some ⟨gb,x,none⟩) S (cb - x)) (((xs.drop x).take S).map eb) [gb]):=fun W m x S hx=>by
  have r:=((RB.out.mod m (by simp)).drop x (by omega) (some ⟨gb,x,none⟩) (fun _=>by simp [Addr.add])).take S (by omega)
  rw [←List.map_drop,←List.map_take] at r
  exact r
 clear sb mb fb hb hxl TB
 have hN':(N:Int)≤32:=by omega
 go_wp2_with fail
 go_loopw [6,7] (fun c s wr=>∃k z:Nat,k≤n∧c=.int .i64 z∧s=.int .i64 (2 ^ k:Nat)∧Hid (n≤k+z∧z≤32 *(n - k))∧Hid (Mod [] w1 wr)) (fun _ s _=>(intOf s).toNat)
 case atStart=>exact ⟨n,0,by omega,rfl,by rw [HNN.out],⟨by omega,by omega⟩,Mod.refl _ _⟩
 case round=>
  obtain ⟨k,z,hk,rfl,rfl,HZ,HM⟩:=hrel
  cases k with
  | zero=>
   go_wp2_with fail
   go_ret
   exact ⟨z,by have:=HZ.out.1;omega,by have:=HZ.out.2;omega,rfl,M1.out.trans' HM.out⟩
  | succ k=>
   obtain ⟨p1,p2,p3,q,q1,q2,q3⟩:=PW.out k hk
   have HP:=Lib.hid (And.intro p1 (And.intro q3 q1))
   obtain ⟨S,hS⟩:∃S,2 ^ (k+1)=S:=⟨_,rfl⟩
   obtain ⟨S2,hS2⟩:∃S,2 ^ k=S:=⟨_,rfl⟩
   rw [hS,hS2] at HP
   rw [hS2] at p2
   have hS32:S≤32:=by rw [←hS];exact p3
   have hS1:1 < S:=by have:=HP.out.1;omega
   have hSi:(1:Int) < S:=by omega
   have hS3:(S:Int)≤32:=by omega
   have hdiv:((S:Int) / 2)=(S2:Int):=by have:=HP.out.1;omega
   have HS2:=Lib.hid hS2
   rw [hS]
   clear p1 p3 q3 hS hS2
   go_wp2_with fail
   have QS:Hid (∀j,j *S < N→j+1≤q∧(j+1) *S≤N):=fun j hj=>by
    have h3:=HP.out.2.1
    have h4:j < q:=by
     refine Nat.lt_of_not_le fun h=>?_
     have:=Nat.mul_le_mul_right S h
     omega
    have:=Nat.mul_le_mul_right S (show j+1≤q by omega)
    exact ⟨h4,by omega⟩
   have hq0:=HP.out.2.2
   go_loopw [6,8,9] (fun c v i wx=>∃(j a z':Nat) (l:List Nat),i=.int .i64 a∧c=.int .i64 z'∧a≤N∧Hid (a=j *S∧j≤q)∧Hid (NewV 3 w1 (l.map ei) wx v)∧Hid (∀x∈l,x+S≤N)∧Hid (z≤z'∧z'≤z+j∧(j=0→l=[])∧(0 < j→z+1≤z'))∧l.length≤j∧j≤32) (fun _ _ i _=>N - (intOf i).toNat)
   case atStart=>exact ⟨0,0,z,[],rfl,rfl,by omega,⟨by omega,by omega⟩,NewV.nil _ HM.out,(by intro x hx;simp at hx),⟨by omega,by omega,fun _=>rfl,fun h=>by omega⟩,by simp,by omega⟩
   case round=>
    obtain ⟨j,a,z',l,rfl,rfl,haN,HJ,HV,HXS,HZ2,hlj,hj32⟩:=hrel
    generalize wr=wx at *
    obtain ⟨Fv,sv,mv,fv⟩:=HV.out
    obtain ⟨Av,cv,rfl,hcv⟩:=sv.shape
    rw [List.length_map] at sv hcv HV ⊢
    obtain ⟨ln,hln⟩:∃ln,l.length=ln:=⟨_,rfl⟩
    rw [hln] at sv hcv hlj HV ⊢
    have RL:=Lib.hid (Rv.of_sl sv (by rw [List.length_map,hln]))
    have HLN:=Lib.hid hln
    have MX:=Lib.hid mv
    clear sv mv fv hln
    by_cases hlt:a < N
    ·have hlt':(a:Int) < N:=by omega
     have haS:a+S≤N:=by
      have e:=HJ.out.1
      have:=(QS.out j (by omega)).2
      rw [Nat.succ_mul] at this
      omega
     go_wp2_with fail
     go_loopw [10,11] (fun nb i wy=>∃(m:Nat) (bb:Bool),m≤ln∧i=.int .i64 m∧nb=.bool bb∧Hid (m=0→bb=true)∧Hid (Mod [] wx wy)) (fun _ i _=>ln - (intOf i).toNat)
     case atStart=>exact ⟨0,true,by omega,rfl,rfl,fun _=>rfl,Mod.refl _ _⟩
     case round=>
      obtain ⟨m,bb,hm,rfl,rfl,HB,MY⟩:=hrel
      generalize wr=wy at *
      by_cases hml:m < ln
      ·have hml':(m:Int) < ln:=by omega
       have hm1:m < l.length:=by rw [HLN.out];exact hml
       obtain ⟨b0,off,rfl,d0⟩:=(RL.out.mod MY.out (by simp)).at m (by rw [List.length_map];exact hm1)
       rw [List.getElem_map] at d0
       obtain ⟨x,hx⟩:∃x,l[m]=x:=⟨_,rfl⟩
       have hxS:x+S≤N:=HXS.out x (by rw [←hx];exact List.getElem_mem _)
       rw [hx] at d0
       unfold ei at d0
       have hbl:=World.block_lt_of_cell? wy _ d0
       simp only at hbl
       have MXY:Hid (Mod [] w1 wy):=MX.out.trans' MY.out
       have SM:Hid (∃b,∀W,Mod [] wy W→Calls Tryz.prog 22 #[.slice (some ⟨gb,x,none⟩) S (cb - x),.slice (some ⟨gb,a,none⟩) S (cb - a)] W fun e w'=>e=.returned (.bool b)∧∃m,w'=W.drewN m):=
        ⟨_,fun W mm=>same05_q (SUB.out W (MXY.out.trans' mm) x S hxS) (SUB.out W (MXY.out.trans' mm) a S haS) (by rw [List.length_take,List.length_drop,HXL.out];omega) (by rw [List.length_take,List.length_drop,HXL.out];omega)⟩
       obtain ⟨b2,SM⟩:=SM.out
       replace SM:=Lib.hid SM
       have hxi:(x:Int)≤32:=by omega
       have hxi0:(0:Int)≤x:=by omega
       have hx1:(x:Int)+S≤cb:=by omega
       have ha1:(a:Int)+S≤cb:=by omega
       have ha2:(a:Int)≤32:=by omega
       have hw1:IntKind.i64.wrap ((x:Int)+S)=(x:Int)+S:=IntWalk.i64_in _ (by omega)
       have hw2:IntKind.i64.wrap ((a:Int)+S)=(a:Int)+S:=IntWalk.i64_in _ (by omega)
       have hx4:(x:Int)≤(x:Int)+S:=by omega
       have ha4:(a:Int)≤(a:Int)+S:=by omega
       have ha0:(0:Int)≤a:=by omega
       clear hx hm1
       cases bb with
       | true=>
        go_wp2_with fail
        go_quiet ((go_at_call 22;exact Calls.quiet_of (SM.out _ (by exact mods))))
        rename_i nq
        have M_wz:Hid (Mod [] wx (wy.drewN nq)):=MY.out.drewN nq
        generalize wy.drewN nq=wz at *
        go_wp2_with fail
        go_roundw
        case rel=>exact ⟨m+1,!b2,by omega,by go_num,by first | rfl | simp,(fun h=>by omega),M_wz⟩
        case measure=>simp [intOf];omega
       | false=>
        go_wp2_with fail
        go_quiet (fail)
        rename_i nq
        have M_wz:Hid (Mod [] wx (wy.drewN nq)):=MY.out.drewN nq
        generalize wy.drewN nq=wz at *
        go_wp2_with fail
        go_roundw
        case rel=>exact ⟨m+1,false,by omega,by go_num,by first | rfl | simp,(fun h=>by omega),M_wz⟩
        case measure=>simp [intOf];omega
      ·obtain rfl:m=ln:=by omega
       have HJ1:Hid (a+S=(j+1) *S∧j+1≤q):=by
        have e:=HJ.out.1
        refine ⟨by rw [Nat.succ_mul];omega,(QS.out j (by omega)).1⟩
       have hj1:j+1≤32:=by have:=HJ1.out.2;omega
       obtain ⟨Fo,so,mo,fo⟩:=(HV.out.later MY.out)
       rw [List.length_map,HLN.out] at so
       have SO:=Lib.hid so
       have MO:=Lib.hid mo
       have FO:=Lib.hid fo
       have LO:Hid ((l.map ei).length=m):=by show _=_;rw [List.length_map,HLN.out]
       clear so mo fo
       have hm32:m≤32:=by omega
       have hzs:(z':Int)≤300:=by
        have h1:=HZ.out.2
        have h2:=HZ2.out.2.1
        omega
       cases bb with
       | true=>
        go_wp2_with (at_builtin;refine wpList_append_sl _ rfl _ _ 28 rfl 3 i0 (.int .i64 0) 1 8 Tryz.underlying28 hi hzz0 hzz1 hzz2 rfl (by decide) _ m (l.map ei) Fo rfl (SO.out.mod (S:=[]) (by exact mods) (by simp)) ⟨_,0,none⟩ 1 1 [ei a] (by decide) rfl rfl (by intro j u hu;exact list_new_at _ _ _ _ (by simp) j u hu) (by intro u hu;simp at hu;subst hu;rfl) (by unfold maxLen;omega) (by omega) ?_;intro v5 w5 F5 hs5 hm5 hf5;have N5:=Lib.hid (NewV.app (l:=l.map ei) (l2:=[ei a]) MO.out FO.out LO.out rfl (by exact mods) hs5 hm5 hf5);obtain ⟨a5,cap5,rfl,_⟩:=hs5.shape;clear hs5 hm5 hf5)
        try go_wp2_with fail
        go_roundw
        case rel=>exact ⟨j+1,a+S,z'+1,l++[a],by go_num,by go_num,haS,HJ1,(by have:=N5.out;show NewV _ _ _ _ _;rw [List.map_append,List.map_cons,List.map_nil];exact this),(by intro x hx;rcases List.mem_append.1 hx with hx | hx;exact HXS.out x hx;simp at hx;omega),⟨by have:=HZ2.out.1;omega,by have:=HZ2.out.2.1;omega,fun h=>by omega,fun _=>by have:=HZ2.out.1;omega⟩,by rw [List.length_append,HLN.out];simp;omega,hj1⟩
        case measure=>simp [intOf];omega
       | false=>
        have hj0:0 < j:=by
         rcases Nat.eq_zero_or_pos m with h | h
         ·have:=HB.out h;simp at this
         ·omega
        go_wp2_with fail
        go_roundw
        case rel=>exact ⟨j+1,a+S,z',l,by go_num,by go_num,haS,HJ1,(HV.out.later MY.out),HXS.out,⟨HZ2.out.1,by have:=HZ2.out.2.1;omega,fun h=>by omega,fun _=>HZ2.out.2.2.2 hj0⟩,by rw [HLN.out];omega,hj1⟩
        case measure=>simp [intOf];omega
    ·have hj0:0 < j:=by
      rcases Nat.eq_zero_or_pos j with h | h
      ·have e:=HJ.out.1
       rw [h,Nat.zero_mul] at e
       omega
      ·exact h
     have hz1:=HZ2.out.2.2.2 hj0
     have hz2:=HZ2.out.2.1
     have hjq:=HJ.out.2
     go_wp2_with fail
     go_roundw
     case rel=>exact ⟨k,z',by omega,by go_num,by first | rw [HS2.out] | (rw [HS2.out];go_num),⟨by have:=HZ.out.1;omega,by have:=HZ.out.2;omega⟩,MX.out⟩
     case measure=>simp [intOf];omega
open Go.RowKit
theorem quantMay_c {w:World} {b n room f bq g:Nat} {q0 q2:Value} {F:List Nat} {L:List Rc} (hS:IsSt w b n L room F) (hL:L.length≤1048576) (hn:n≤16) (hq:Blk w bq #[q0,.pointer (some ⟨b,0,none⟩),q2] 133) {e:Ed} (h1:1≤f) (h5:f≤5) (hP:LeadsP L f e 0 n)
 (hg:Blk w g #[.int .u8 e.t,.int .u32 e.a] 66):
 Calls Tryz.prog 151 #[.pointer (some ⟨bq,0,none⟩),.int .u8 f,.int .u32 0,.slice (some ⟨g,0,none⟩) 1 1] w fun e w'=>e=.returned (.int .u8 0)∧Mod [] w w':=by
 have LD:Hid (∀W,Mod [] w W→Calls Tryz.prog 71 #[.pointer (some ⟨b,0,none⟩),.int .u8 f,edv e,.int .i64 0] W fun e w'=>e=.returned (.bool true)∧Mod [] W w'):=fun W m=>stLeads_c (hS.mod m (by simp)) hL hn f h1 h5 e 0 (by omega) hP
 have VA:Hid (∀W',Mod [] w W'→Calls Tryz.prog 59 #[.pointer (some ⟨b,0,none⟩)] W' fun e w'=>e=.returned (.int .i64 n)∧w'=W'):=fun W' md=>by
  obtain ⟨ba,bi,Fa,c0,_⟩:=(hS.mod md (by simp)).own
  exact stVars_c b n W' c0
 have IF:=Lib.hid (isForm_c f h1 h5)
 obtain ⟨t,a⟩:=e
 unfold edv at LD
 simp only at LD hg
 have BQ:=Lib.hid hq
 have BG:=Lib.hid hg
 clear hS hq hg hP
 go_enter Tryz.func151,Tryz.ntmps151
 go_wp2_with fail
 refine (IF.out _).mono ?_
 rintro e w1 ⟨rfl,rfl⟩
 go_wp2_with fail
 go_loopw [8,18] (fun r i wr=>∃k:Nat,i=.int .i64 k∧r=.int .u8 0∧k≤1∧Hid (Mod [] w1 wr)) (fun _ i _=>1 - (intOf i).toNat)
 case atStart=>exact ⟨0,rfl,rfl,by omega,Mod.refl _ _⟩
 case round=>
  obtain ⟨k,rfl,rfl,hk,HM⟩:=hrel
  have q1:=(BQ.out.mod HM.out (by simp)).cell 1
  simp only [List.getElem?_toArray,List.getElem?_cons_zero,List.getElem?_cons_succ] at q1
  have hql:=(BQ.out.mod HM.out (by simp)).lt
  by_cases hlt:k < 1
  ·obtain rfl:k=0:=by omega
   obtain ⟨d0,d1⟩:=(BG.out.mod HM.out (by simp)).cells2
   have hgl:=(BG.out.mod HM.out (by simp)).lt
   obtain ⟨gs,hgs⟩:∃gs,wr.heap.size=gs:=⟨_,rfl⟩
   have hqs:¬bq=gs:=by omega
   have hqs2:¬gs=bq:=by omega
   have M1:Hid (Mod [] w1 (wr.alloc (.cells #[.int .u8 t,.int .u32 a] 66))):=HM.out.alloc _
   have BE:=Blk.new' wr #[.int .u8 t,.int .u32 a] 66 gs hgs.symm
   go_wp2_with fail
   have q1':=((show Mod [] wr (wr.alloc (.cells #[.int .u8 t,.int .u32 a] 66)) from by exact mods).cell (a:=⟨bq,1,none⟩) hql (by simp)).trans q1
   generalize wr.alloc (.cells #[.int .u8 t,.int .u32 a] 66)=w2 at *
   obtain ⟨x0,x1⟩:=BE.cells2
   have hxl:=BE.lt
   have hql2:bq < w2.heap.size:=Nat.lt_trans (by omega) hxl
   clear BE q1 d0 d1
   go_region_held3 (fun w'=>w'.cell? ⟨bq,1,none⟩=some (.pointer (some ⟨b,0,none⟩))∧w'.cell? ⟨gs,0,none⟩=some (.int .u8 t)∧w'.cell? ⟨gs,1,none⟩=some (.int .u32 a)) (go_keep) (first | (go_at_call 71;refine (LD.out _ (M1.out.trans' (show Mod [] w2 _ from by exact mods))).mono ?_;rintro e' w3 ⟨rfl,m_w3⟩;have M_w3:=Mod.trans' (show Mod _ w2 _ from by exact mods) m_w3;have q1':=(M_w3.cell (a:=⟨bq,1,none⟩) hql2 (by first | assumption | (simp;done))).trans q1';have x0:=(M_w3.cell (a:=⟨gs,0,none⟩) hxl (by first | assumption | (simp;done))).trans x0;have x1:=(M_w3.cell (a:=⟨gs,1,none⟩) hxl (by first | assumption | (simp;done))).trans x1;have hql2:=Nat.lt_of_lt_of_le hql2 M_w3.size;have hxl:=Nat.lt_of_lt_of_le hxl M_w3.size))
   all_goals
    have M3:=Lib.hid (M1.out.trans' M_w3)
    go_wp2_with fail
    go_roundw
    case rel=>exact ⟨1,by first | rfl | go_num,rfl,by omega,M3⟩
    case measure=>simp [intOf]
  ·obtain rfl:k=1:=by omega
   go_wp2_with fail
   refine (VA.out _ (by first | exact HM.out | exact HM.out.drewN _)).mono ?_
   rintro e w2 ⟨rfl,rfl⟩
   go_wp2_with fail
   go_ret
   exact ⟨rfl,HM.out⟩
open Go.RowKit
theorem Tryz.infoBo:(Tryz.prog.info? 4).map (fun i=>(i.zero,i.size,i.bytes))=some (some (.bool false),1,1):=by kernel_rfl
theorem made8b (w:World):(Instr.makeSlice 26 (.int .i64 8) (.int .i64 8)).run Tryz.prog w=.ok (.slice (some ⟨w.heap.size,0,none⟩) 8 8) (w.alloc (.cells (madeCells #[.bool false] 8) 4)):=by
 obtain ⟨i0,hi,hz0,hz1,hz2⟩:=info_parts Tryz.infoBo
 have:=run_make (P:=Tryz.prog) w 26 4 i0 _ Tryz.underlying26 hi hz0 .i64 .i64 8 8 (by omega) (by omega) (by rw [hz2];omega) (by omega)
 simpa [hz1,Value.cells] using this
theorem xor8:∀x < 8,∀k < 3,0≤bits .xor .i64 ((x:Nat):Int) (wrap64 (2 ^ k))∧bits .xor .i64 ((x:Nat):Int) (wrap64 (2 ^ k)) < 8:=by decide+kernel
theorem xor8n (x k:Nat) (hx:x < 8) (hk:k < 3):∃z:Nat,bits .xor .i64 (x:Int) (wrap64 (2 ^ k))=(z:Int)∧z < 8:=by
 obtain ⟨h1,h2⟩:=xor8 x hx k hk
 exact ⟨(bits .xor .i64 (x:Int) (wrap64 (2 ^ k))).toNat,by omega,by omega⟩
theorem quantSupport3_c {w:World} {b room f bq:Nat} {q0 q2:Value} {F:List Nat} {L:List Rc} (hS:IsSt w b 3 L room F) (hL:L.length≤1048576) (hG:Good L 3) (hq:Blk w bq #[q0,.pointer (some ⟨b,0,none⟩),q2] 133) {e:Ed} {T:Tr} (hr:Root L 3 f e T):
 Calls Tryz.prog 130 #[.pointer (some ⟨bq,0,none⟩),.int .u8 f,edv e] w fun e' w'=>∃x:Nat,e'=.returned (.tuple #[.int .u16 x,.int .u8 0])∧x < 65536∧Mod [] w w':=by
 have VA:Hid (∀W',Mod [] w W'→Calls Tryz.prog 59 #[.pointer (some ⟨b,0,none⟩)] W' fun e w'=>e=.returned (.int .i64 3)∧w'=W'):=fun W' md=>by
  obtain ⟨ba,bi,Fa,c0,_⟩:=(hS.mod md (by simp)).own
  exact stVars_c b 3 W' c0
 have MY:Hid (∀W g,Mod [] w W→Blk W g #[.int .u8 e.t,.int .u32 e.a] 66→_):=fun W g md hg=>quantMay_c (hS.mod md (by simp)) hL (by omega) (hq.mod md (by simp)) hr.f1 hr.f5 hr.leads hg
 have HO:Hid (∀W (y:Nat),y < 65536→Mod [] w W→Calls Tryz.prog 65 #[.pointer (some ⟨b,0,none⟩),.int .u8 f,edv e,.int .i64 0,.int .u16 y] W fun e w'=>∃bb,e=.returned (.tuple #[.bool bb,.int .u8 0])∧Mod [] W w'):=fun W y hy md=>by
  refine (holds_c (hS.mod md (by simp)) hL hG (by omega) f hr.f1 hr.f5 e T hr.rep 0 (by omega) hr.leads y hy).mono ?_
  rintro e' w' ⟨rfl,m⟩
  exact ⟨_,rfl,m⟩
 obtain ⟨t,a⟩:=e
 unfold edv at *
 simp only at HO MY ⊢
 have BQ:=Lib.hid hq
 have hbq:=hq.lt
 obtain ⟨gk,hgk⟩:∃gk,w.heap.size=gk:=⟨_,rfl⟩
 have MB:Hid (∀w:World,_):=fun w=>made8b w
 clear hS hr hG hq
 go_enter Tryz.func130,Tryz.ntmps130
 go_wp2_with fail
 have B0:=(Blk.new' w #[.int .u8 t,.int .u32 a] 66 gk hgk.symm).alloc (.cells #[.int .u8 t,.int .u32 a] 66)
 have B1:=Blk.new' (w.alloc (.cells #[.int .u8 t,.int .u32 a] 66)) #[.int .u8 t,.int .u32 a] 66 (gk+1) (by simp [hgk])
 have M0:Hid (Mod [] w ((w.alloc (.cells #[.int .u8 t,.int .u32 a] 66)).alloc (.cells #[.int .u8 t,.int .u32 a] 66))):=by exact mods
 generalize (w.alloc (.cells #[.int .u8 t,.int .u32 a] 66)).alloc (.cells #[.int .u8 t,.int .u32 a] 66)=w0 at *
 refine (MY.out _ _ M0.out B1).mono ?_
 rintro e w1 ⟨rfl,m1⟩
 have M1:=Lib.hid (M0.out.trans' m1)
 have BE:=Lib.hid (B0.mod m1 (by simp))
 have q1:=(BQ.out.mod M1.out (by simp)).cell 1
 simp only [List.getElem?_toArray,List.getElem?_cons_zero,List.getElem?_cons_succ] at q1
 have hql:=(BQ.out.mod M1.out (by simp)).lt
 clear B0 B1 m1 MY
 go_wp2_with fail
 refine (VA.out _ (by first | exact M1.out | exact M1.out.drewN _)).mono ?_
 rintro e w2 ⟨rfl,rfl⟩
 have MB2:=MB.out w2
 obtain ⟨g,hg⟩:∃g,w2.heap.size=g:=⟨_,rfl⟩
 rw [hg] at MB2
 have R0:Hid (∃fv:Nat→Bool,Row (w2.alloc (.cells (madeCells #[.bool false] 8) 4)) g 4 8 (fun i=>.bool (fv i))):=⟨fun _=>false,Row.made w2 8 (.bool false) 4 g hg.symm⟩
 have M2:Hid (Mod [] w2 (w2.alloc (.cells (madeCells #[.bool false] 8) 4))):=(Mod.refl _ _).alloc _
 have hgw:Hid (w.heap.size < g):=by have:=BE.out.lt;have:=M1.out.size;show _ < _;omega
 clear MB VA
 go_wp2_with fail
 generalize w2.alloc (.cells (madeCells #[.bool false] 8) 4)=w3 at *
 have M3:=Lib.hid (M1.out.trans' M2.out)
 have BE3:=Lib.hid (BE.out.mod M2.out (by simp))
 clear q1 hql M0 BE MB2
 go_loopw [11,33] (fun _ i wr=>∃(k:Nat) (fv:Nat→Bool),i=.int .i64 k∧k≤8∧Hid (Row wr g 4 8 (fun i=>.bool (fv i)))∧Hid (Blk wr gk #[.int .u8 t,.int .u32 a] 66)∧Hid (Mod [] w wr)) (fun _ i _=>8 - (intOf i).toNat)
 case atStart=>
  obtain ⟨fv,hr⟩:=R0.out
  exact ⟨0,fv,rfl,by omega,hr,BE3,M3⟩
 case round=>
  clear R0 M3 BE3 M1 M2
  obtain ⟨k,fv,rfl,hk,HR,BE,HM⟩:=hrel
  by_cases hlt:k < 8
  ·have hlt':(k:Int) < 8:=by omega
   have hk0:(0:Int)≤k:=by omega
   have HOK:Hid (∀W,Mod [] wr W→_):=fun W md=>HO.out W k (by omega) (HM.out.trans' md)
   have ew:IntKind.u16.wrap (k:Int)=k:=by simp [IntKind.wrap,IntKind.bits,IntKind.signed];omega
   rw [←ew] at HOK
   clear ew
   obtain ⟨d0,d1⟩:=BE.out.cells2
   have hbl:=BE.out.lt
   have q1:=(BQ.out.mod HM.out (by simp)).cell 1
   simp only [List.getElem?_toArray,List.getElem?_cons_zero,List.getElem?_cons_succ] at q1
   have hql:=(BQ.out.mod HM.out (by simp)).lt
   have g0:=HR.out.cell k hlt
   have gf:=HR.out.froz k
   have hgl:=HR.out.lt
   have hgq:¬g=bq:=by have:=hgw.out;omega
   have hgq2:¬bq=g:=by have:=hgw.out;omega
   have hgk1:¬g=gk:=by have:=hgw.out;omega
   have hgk2:¬gk=g:=by have:=hgw.out;omega
   go_wp2_with fail
   go_region_held3 (fun w'=>w'.cell? ⟨bq,1,none⟩=some (.pointer (some ⟨b,0,none⟩))∧w'.cell? ⟨gk,0,none⟩=some (.int .u8 t)∧w'.cell? ⟨gk,1,none⟩=some (.int .u32 a)) (go_keep) (first | (go_at_call 65;(with_reducible refine (HOK.out _ (by exact mods)).mono ?_);rintro e' w4 ⟨bb,rfl,m_w4⟩;have M_w4:=Mod.trans' (show Mod _ wr _ from by exact mods) m_w4;have q1:=(M_w4.cell (a:=⟨bq,1,none⟩) hql (by first | assumption | (simp;done))).trans q1;have d0:=(M_w4.cell (a:=⟨gk,0,none⟩) hbl (by first | assumption | (simp;done))).trans d0;have d1:=(M_w4.cell (a:=⟨gk,1,none⟩) hbl (by first | assumption | (simp;done))).trans d1;have hql:=Nat.lt_of_lt_of_le hql M_w4.size;have hbl:=Nat.lt_of_lt_of_le hbl M_w4.size;have g0:=(m_w4.cell (a:=⟨g,k,none⟩) (by first | assumption | (simp;done)) (by simp)).trans g0;have gf:=(m_w4.froz (a:=⟨g,k,none⟩) (by first | assumption | (simp;done)) (by simp)).trans gf;have hgl:=Nat.lt_of_lt_of_le hgl m_w4.size))
   all_goals
    have HR4:Hid (Row (w4.setCell ⟨g,k,none⟩ (.bool bb)) g 4 8 (fun i=>.bool (if i=k then bb else fv i))):=((HR.out.mod M_w4 (by simp)).set k (.bool bb)).congr (fun i hi=>by by_cases q:i=k<;>simp [q])
    have MS:Mod [g] w4 (w4.setCell ⟨g,k,none⟩ (.bool bb)):=(Mod.refl _ _).setCell _ _ (by simp)
    have BE4:=Lib.hid ((BE.out.mod M_w4 (by simp)).mod MS (by simpa using hgk2))
    have HM4:Hid (Mod [] w (w4.setCell ⟨g,k,none⟩ (.bool bb))):=(HM.out.trans' M_w4).trans MS (by intro i hi hm;have:=hgw.out;simp at hm;omega)
    clear MS m_w4 M_w4 q1 d0 d1 g0 gf hgl hql hbl
    go_wp2_with fail
    go_roundw
    case rel=>exact ⟨k+1,fun i=>if i=k then bb else fv i,by first | rfl | go_num,by omega,HR4,BE4,HM4⟩
    case measure=>simp [intOf];omega
  ·obtain rfl:k=8:=by omega
   clear HO
   go_wp2_with fail
   go_loopw [12,13,53,58] (fun y _ i _ wx=>∃(j y':Nat),i=.int .i64 j∧j≤3∧y=.int .u16 y'∧y' < 65536∧Hid (Row wx g 4 8 (fun i=>.bool (fv i)))∧Hid (Mod [] w wx)) (fun _ _ i _ _=>3 - (intOf i).toNat)
   case atStart=>exact ⟨0,0,rfl,by omega,rfl,by omega,HR,HM⟩
   case round=>
    clear HR HM BE
    obtain ⟨j,y,rfl,hj,rfl,hy,HR,HM⟩:=hrel
    by_cases hjl:j < 3
    ·have hjl':(j:Int) < 3:=by omega
     have hj0:(0:Int)≤j:=by omega
     go_wp2_with fail
     go_loopw [12,14,58] (fun y2 _ i wx=>∃(x y':Nat),i=.int .i64 x∧x≤8∧y2=.int .u16 y'∧y' < 65536∧Hid (Row wx g 4 8 (fun i=>.bool (fv i)))∧Hid (Mod [] w wx)) (fun _ _ i _=>8 - (intOf i).toNat)
     case atStart=>exact ⟨0,y,rfl,by omega,rfl,hy,HR,HM⟩
     case round=>
      clear HR HM
      obtain ⟨x,y',rfl,hx,rfl,hy',HR,HM⟩:=hrel
      by_cases hxl:x < 8
      ·have hxl':(x:Int) < 8:=by omega
       have hx0:(0:Int)≤x:=by omega
       obtain ⟨z,hz,hz8⟩:=xor8n x j hxl hjl
       have hz8':(z:Int) < 8:=by omega
       have hz0:(0:Int)≤z:=by omega
       have g1:=HR.out.cell x hxl
       have g2:=HR.out.cell z hz8
       have hgl:=HR.out.lt
       generalize fv x=b1 at *
       generalize fv z=b2 at *
       cases b1<;>cases b2
       all_goals
        go_wp2_with fail
        go_quiet (fail)
        go_wp2_with fail
        first
         | exact ⟨⟨x+1,y',by simp,by omega,rfl,hy',HR.out.mod (Mod.drewN (Mod.refl [] wr) _) (by simp),HM.out.trans' (Mod.drewN (Mod.refl [] wr) _)⟩,by simp [intOf];omega⟩
         | (
          obtain ⟨y3,e3,hy3⟩:=u16_bits .or (y':Int) (IntKind.u16.wrap (2 ^ j))
          exact ⟨⟨j+1,y3,by simp,by omega,by rw [e3],hy3,HR.out.mod (Mod.drewN (Mod.refl [] wr) _) (by simp),HM.out.trans' (Mod.drewN (Mod.refl [] wr) _)⟩,by simp [intOf];omega⟩)
      ·obtain rfl:x=8:=by omega
       go_wp2_with fail
       go_roundw
       case rel=>exact ⟨j+1,y',by first | rfl | go_num,by omega,rfl,hy',HR,HM⟩
       case measure=>simp [intOf];omega
    ·obtain rfl:j=3:=by omega
     go_wp2_with fail
     go_ret2
     exact ⟨_,rfl,hy,HM.out⟩
end Go.Proofs.YtlafpknoiihaaaaGreatDoor
