/- M30: Gc · Gd · Ge -/
import Derived.Test.YtnbjnnijifiaaaaGreatDoorM29
import Derived.Test.YtnbjnnijifiaaaaGreatDoorM07
import Derived.Test.YtnbjnnijifiaaaaGreatDoorM27
import Derived.Laws.Cells
import Derived.BigQuiet
set_option maxRecDepth 100000
set_option maxHeartbeats 8000000
set_option linter.unusedVariables false
set_option linter.unusedSimpArgs false
namespace Go.Proofs.YtnbjnnijifiaaaaGreatDoor
open Go.RowKit
theorem buildSet3_c {w:World} {b bo room f:Nat} {p q Fo F:List Nat} {L:List Rc} (hS:IsSt w b 3 L room F) (hL:L.length≤1048576) (hG:Good L 3) (hO:IsOrd w bo p q Fo) (hp:p.length=3) (hpv:∀v∈p,v < 16) {e:Ed} {T:Tr} (hr:Root L 3 f e T):
 Calls Tryz.prog 13 #[.pointer (some ⟨b,0,none⟩),.pointer (some ⟨bo,0,none⟩),.int .u8 f,edv e] w (SetP w):=by
 have VA:Hid (∀W',Mod [] w W'→Calls Tryz.prog 26 #[.pointer (some ⟨b,0,none⟩)] W' fun e w'=>e=.returned (.int .i64 3)∧w'=W'):=fun W' md=>by
  obtain ⟨ba,bi,Fa,c0,_⟩:=(hS.mod md (by simp)).own
  exact stVars_c b 3 W' c0
 have VO:Hid (∀W',Mod [] w W'→Calls Tryz.prog 34 #[.pointer (some ⟨bo,0,none⟩)] W' fun e w'=>e=.returned (.int .i64 3)∧w'=W'):=fun W' md=>by
  have:=ordVars_c (hO.mod md (by simp));rw [hp] at this;exact this
 have MY:Hid (∀W',Mod [] w W'→_):=fun W' md=>buildMay_c 3 f b bo hr.f1 hr.f5 W' (VA.out W' md) (VO.out W' md)
 have LV:Hid (∀W (x:Nat),x < 8→Mod [] w W→Calls Tryz.prog 41 #[.pointer (some ⟨bo,0,none⟩),.int .i64 x] W fun e w'=>∃y:Nat,y < 65536∧e=.returned (.int .u16 y)∧Mod [] W w'):=fun W x hx md=>by
  refine (levels_c (hO.mod md (by simp)) (by omega) hpv x (by omega)).mono ?_
  rintro e w' ⟨⟨y,hy,rfl⟩,rfl⟩
  exact ⟨y,hy,rfl,Mod.refl _ _⟩
 have HO:Hid (∀W (y:Nat),y < 65536→Mod [] w W→Calls Tryz.prog 40 #[.pointer (some ⟨b,0,none⟩),.int .u8 f,edv e,.int .i64 0,.int .u16 y] W fun e w'=>∃bb,e=.returned (.tuple #[.bool bb,.int .u8 0])∧Mod [] W w'):=fun W y hy md=>by
  refine (holds_c (hS.mod md (by simp)) hL hG (by omega) f hr.f1 hr.f5 e T hr.rep 0 (by omega) hr.leads y hy).mono ?_
  rintro e' w' ⟨rfl,m⟩
  exact ⟨_,rfl,m⟩
 have SO:Hid (∀W A n cap (xs:List Nat) Fx,Rv W (.slice A n cap) (xs.map ei) Fx→(∀k∈Fx,k < W.heap.size)→(∀x∈xs,x < 8)→n≤100000→_):=fun W A n cap xs Fx h1 h2 h3 h4=>setOf3_c h1 h2 h3 h4
 obtain ⟨i0,hi,hz0,hz1,hz2⟩:=info_parts Tryz.info3
 obtain ⟨t,a⟩:=e
 unfold edv at *
 simp only at HO ⊢
 obtain ⟨gk,hgk⟩:∃gk,w.heap.size=gk:=⟨_,rfl⟩
 clear hS hO hr hG hpv
 go_enter Tryz.func13,Tryz.ntmps13
 go_wp2_with fail
 have B0:=Lib.hid ((Blk.new' w #[.int .u8 t,.int .u32 a] 39 gk hgk.symm).alloc (.cells #[.int .i64 0,.slice none 0 0] 29))
 have B8:=Lib.hid (Blk.new' (w.alloc (.cells #[.int .u8 t,.int .u32 a] 39)) #[.int .i64 0,.slice none 0 0] 29 (gk+1) (by simp [hgk]))
 have M0:Hid (Mod [] w ((w.alloc (.cells #[.int .u8 t,.int .u32 a] 39)).alloc (.cells #[.int .i64 0,.slice none 0 0] 29))):=by exact mods
 refine (MY.out _ M0.out).mono ?_
 rintro e w1 ⟨rfl,rfl⟩
 generalize (w.alloc (.cells #[.int .u8 t,.int .u32 a] 39)).alloc (.cells #[.int .i64 0,.slice none 0 0] 29)=w0 at *
 go_wp2_with fail
 refine (VA.out _ (by first | exact M0.out | exact M0.out.drewN _)).mono ?_
 rintro e w1 ⟨rfl,rfl⟩
 go_wp2_with fail
 go_loopw [9,11,26] (fun r v i wr=>∃(k:Nat) (xs:List Nat),i=.int .i64 k∧r=.int .u8 0∧k≤8∧xs.length≤k∧Hid (NewV 3 w1 (xs.map ei) wr v)∧Hid (∀x∈xs,x < 8)) (fun _ _ i _=>8 - (intOf i).toNat)
 case atStart=>exact ⟨0,[],rfl,rfl,by omega,by simp,NewV.nil _ (Mod.refl _ _),by intro x hx;simp at hx⟩
 case round=>
  obtain ⟨k,xs,rfl,rfl,hk,hlen,HN,HX⟩:=hrel
  have MR:=Lib.hid HN.out.mod
  have MW:=Lib.hid (M0.out.trans' MR.out)
  have BR:=Lib.hid (B0.out.mod MR.out (by simp))
  have B8R:=Lib.hid (B8.out.mod MR.out (by simp))
  by_cases hlt:k < 8
  ·have hlt':(k:Int) < 8:=by omega
   have hk0:(0:Int)≤k:=by omega
   have LVK:Hid (∀W,Mod [] wr W→_):=fun W md=>LV.out W k hlt (MW.out.trans' md)
   have HOK:Hid (∀wa W (y:Nat),y < 65536→Mod [] wr wa→Mod [] wa W→_):=fun wa W y hy m1 md=>HO.out W y hy (MW.out.trans' (m1.trans' md))
   obtain ⟨d0,d1⟩:=BR.out.cells2
   have hbl:=BR.out.lt
   clear LV HO VA VO MY
   go_wp2_with fail
   go_region_held3 (fun w'=>w'.cell? ⟨gk,0,none⟩=some (.int .u8 t)∧w'.cell? ⟨gk,1,none⟩=some (.int .u32 a)) (go_keep) (first | (go_at_call 41;refine (LVK.out _ (by exact mods)).mono ?_;rintro e' wa ⟨y,hy,rfl,m_wa⟩;have M_wa:=Mod.trans' (show Mod _ wr _ from by exact mods) m_wa;have d0:=(M_wa.cell (a:=⟨gk,0,none⟩) hbl (by first | assumption | (simp;done))).trans d0;have d1:=(M_wa.cell (a:=⟨gk,1,none⟩) hbl (by first | assumption | (simp;done))).trans d1;have hbl:=Nat.lt_of_lt_of_le hbl M_wa.size;skip) | (go_at_call 40;refine (HOK.out wa _ y hy M_wa (by exact mods)).mono ?_;rintro e' wb ⟨bb,rfl,m_wb⟩;have M_wb:=Mod.trans' (show Mod _ wa _ from by exact mods) m_wb;have d0:=(M_wb.cell (a:=⟨gk,0,none⟩) hbl (by first | assumption | (simp;done))).trans d0;have d1:=(M_wb.cell (a:=⟨gk,1,none⟩) hbl (by first | assumption | (simp;done))).trans d1;have hbl:=Nat.lt_of_lt_of_le hbl M_wb.size;skip))
   all_goals
    have M2:=Lib.hid (M_wa.trans' M_wb)
    have HN2:=Lib.hid (HN.out.later M2.out)
    have BR2:=Lib.hid (BR.out.mod M2.out (by simp))
    clear m_wa m_wb M_wa M_wb d0 d1 hbl
    cases bb with
    | false=>
     go_wp2_with fail
     go_roundw
     case rel=>exact ⟨k+1,xs,by first | rfl | go_num,rfl,by omega,by omega,HN2,HX⟩
     case measure=>simp [intOf];omega
    | true=>
     obtain ⟨Fo',so,mo,fo⟩:=HN2.out
     obtain ⟨z,hz⟩:∃z,(xs.map ei).length=z:=⟨_,rfl⟩
     have hz8:z≤8:=by simp at hz;omega
     obtain ⟨Ao,capo,rfl,hcapo⟩:=so.shape
     rw [hz] at so hcapo HN HN2 ⊢
     have SO1:=Lib.hid so
     have MO:=Lib.hid mo
     have FO:=Lib.hid fo
     have LO:=Lib.hid hz
     clear so mo fo hcapo hz
     go_wp2_with (at_builtin;refine wpList_append_sl _ rfl _ _ 22 rfl 3 i0 (.int .i64 0) 1 8 Tryz.underlying22 hi hz0 hz1 hz2 rfl (by decide) _ z (xs.map ei) Fo' rfl (SO1.out.mod (S:=[]) (by exact mods) (by simp)) ⟨_,0,none⟩ 1 1 [ei k] (by decide) rfl rfl (by intro j u hu;exact list_new_at _ _ _ _ (by simp) j u hu) (by intro u hu;simp at hu;subst hu;rfl) (by unfold maxLen;omega) (by omega) ?_;intro v5 w5 F5 hs5 hm5 hf5;have N5:=Lib.hid (NewV.app (l:=xs.map ei) (l2:=[ei k]) MO.out FO.out LO.out rfl (by exact mods) hs5 hm5 hf5);obtain ⟨a5,cap5,rfl,_⟩:=hs5.shape;clear hs5 hm5 hf5)
     go_roundw
     case rel=>
      refine ⟨k+1,xs++[k],by first | rfl | go_num,rfl,by omega,by simp;omega,?_,?_⟩
      ·show NewV _ _ _ _ _
       rw [List.map_append]
       exact N5.out
      ·show ∀x∈xs++[k],x < 8
       intro x hx
       simp at hx
       rcases hx with hx | rfl
       ·exact HX.out x hx
       ·exact hlt
     case measure=>simp [intOf];omega
  ·obtain rfl:k=8:=by omega
   obtain ⟨Fo',so,mo,fo⟩:=HN.out
   obtain ⟨Ao,capo,rfl,hcapo⟩:=so.shape
   have RV:=Lib.hid (Rv.of_sl so rfl)
   have FL:=Lib.hid so.lt
   have hzl:(xs.map ei).length≤8:=by simpa using hlen
   clear so mo fo hcapo LV HO VO MY HN
   generalize (xs.map ei).length=z at *
   go_wp2_with fail
   refine (VA.out _ MW.out).mono ?_
   rintro e w2 ⟨rfl,rfl⟩
   go_wp2_with fail
   refine (SO.out _ _ _ _ xs Fo' RV.out FL.out HX.out (by omega)).mono ?_
   rintro e w3 ⟨g,W,rfl,hW,bg,hg,m3⟩
   have B3:=Lib.hid (B8R.out.mod m3 (by simp))
   have MZ:=Lib.hid (MW.out.trans' m3)
   have BG:=Lib.hid bg
   have HGG:=Lib.hid hg
   obtain ⟨r0,r1⟩:=B3.out.cells2
   have hrl:=B3.out.lt
   obtain ⟨f0,f1,-⟩:=B3.out.frozs
   have hgr:Hid (gk+1 < g):=by have:=B8R.out.lt;show _ < _;omega
   clear bg hg m3 SO VA
   go_wp2_with fail
   have BX:=(B3.out.set 0 (.int .i64 3)).set 1 (.slice (some ⟨g,0,none⟩) 1 1)
   simp only [List.setIfInBounds_toArray,List.set_cons_zero,List.set_cons_succ] at BX
   have MX:Mod [gk+1] w3 ((w3.setCell ⟨gk+1,0,none⟩ (.int .i64 3)).setCell ⟨gk+1,1,none⟩ (.slice (some ⟨g,0,none⟩) 1 1)):=by exact mods
   have BGX:=BG.out.mod MX (by have:=hgr.out;simp;omega)
   have MF:=MZ.out.trans MX (by intro i hi hm;simp at hm;omega)
   have hgw:w.heap.size≤g:=Nat.le_trans MW.out.size HGG.out
   obtain ⟨z0,z1⟩:=BX.cells2
   generalize (w3.setCell ⟨gk+1,0,none⟩ (.int .i64 3)).setCell ⟨gk+1,1,none⟩ (.slice (some ⟨g,0,none⟩) 1 1)=X at *
   refine bodyPost_ret (v:=.tuple #[.agg #[.int .i64 3,.slice (some ⟨g,0,none⟩) 1 1],.int .u8 0]) (by simp [results,Tryz.results13,go_sem,z0,z1];try rfl) rfl ?_
   exact ⟨g,W,rfl,hW,BGX,hgw,MF⟩
open Go.RowKit
theorem quantMay_c {w:World} {b n room f bq g:Nat} {q0 q2:Value} {F:List Nat} {L:List Rc} (hS:IsSt w b n L room F) (hL:L.length≤1048576) (hn:n≤16) (hq:Blk w bq #[q0,.pointer (some ⟨b,0,none⟩),q2] 194) {e:Ed} (h1:1≤f) (h5:f≤5) (hP:LeadsP L f e 0 n)
 (hg:Blk w g #[.int .u8 e.t,.int .u32 e.a] 39):
 Calls Tryz.prog 187 #[.pointer (some ⟨bq,0,none⟩),.int .u8 f,.int .u32 0,.slice (some ⟨g,0,none⟩) 1 1] w fun e w'=>e=.returned (.int .u8 0)∧Mod [] w w':=by
 have LD:Hid (∀W,Mod [] w W→Calls Tryz.prog 100 #[.pointer (some ⟨b,0,none⟩),.int .u8 f,edv e,.int .i64 0] W fun e w'=>e=.returned (.bool true)∧Mod [] W w'):=fun W m=>stLeads_c (hS.mod m (by simp)) hL hn f h1 h5 e 0 (by omega) hP
 have VA:Hid (∀W',Mod [] w W'→Calls Tryz.prog 26 #[.pointer (some ⟨b,0,none⟩)] W' fun e w'=>e=.returned (.int .i64 n)∧w'=W'):=fun W' md=>by
  obtain ⟨ba,bi,Fa,c0,_⟩:=(hS.mod md (by simp)).own
  exact stVars_c b n W' c0
 have IF:=Lib.hid (isForm_c f h1 h5)
 obtain ⟨t,a⟩:=e
 unfold edv at LD
 simp only at LD hg
 have BQ:=Lib.hid hq
 have BG:=Lib.hid hg
 clear hS hq hg hP
 go_enter Tryz.func187,Tryz.ntmps187
 go_wp2_with fail
 refine (IF.out _).mono ?_
 rintro e w1 ⟨rfl,rfl⟩
 go_wp2_with fail
 go_loopw [8,18] (fun r i wr=>∃k:Nat,i=.int .i64 k∧r=.int .u8 0∧k≤1∧Hid (Mod [] w1 wr)) (fun _ i _=>1 - (intOf i).toNat)
 case atStart=>exact ⟨0,rfl,rfl,by omega,Mod.refl _ _⟩
 case round=>
  obtain ⟨k,rfl,rfl,hk,HM⟩:=hrel
  have q1:=(BQ.out.mod HM.out (by simp)).cell 1
  simp only [List.getElem?_toArray,List.getElem?_cons_zero,List.getElem?_cons_succ] at q1
  have hql:=(BQ.out.mod HM.out (by simp)).lt
  by_cases hlt:k < 1
  ·obtain rfl:k=0:=by omega
   obtain ⟨d0,d1⟩:=(BG.out.mod HM.out (by simp)).cells2
   have hgl:=(BG.out.mod HM.out (by simp)).lt
   obtain ⟨gs,hgs⟩:∃gs,wr.heap.size=gs:=⟨_,rfl⟩
   have hqs:¬bq=gs:=by omega
   have hqs2:¬gs=bq:=by omega
   have M1:Hid (Mod [] w1 (wr.alloc (.cells #[.int .u8 t,.int .u32 a] 39))):=HM.out.alloc _
   have BE:=Blk.new' wr #[.int .u8 t,.int .u32 a] 39 gs hgs.symm
   go_wp2_with fail
   have q1':=((show Mod [] wr (wr.alloc (.cells #[.int .u8 t,.int .u32 a] 39)) from by exact mods).cell (a:=⟨bq,1,none⟩) hql (by simp)).trans q1
   generalize wr.alloc (.cells #[.int .u8 t,.int .u32 a] 39)=w2 at *
   obtain ⟨x0,x1⟩:=BE.cells2
   have hxl:=BE.lt
   have hql2:bq < w2.heap.size:=Nat.lt_trans (by omega) hxl
   clear BE q1 d0 d1
   go_region_held3 (fun w'=>w'.cell? ⟨bq,1,none⟩=some (.pointer (some ⟨b,0,none⟩))∧w'.cell? ⟨gs,0,none⟩=some (.int .u8 t)∧w'.cell? ⟨gs,1,none⟩=some (.int .u32 a)) (go_keep) (first | (go_at_call 100;refine (LD.out _ (M1.out.trans' (show Mod [] w2 _ from by exact mods))).mono ?_;rintro e' w3 ⟨rfl,m_w3⟩;have M_w3:=Mod.trans' (show Mod _ w2 _ from by exact mods) m_w3;have q1':=(M_w3.cell (a:=⟨bq,1,none⟩) hql2 (by first | assumption | (simp;done))).trans q1';have x0:=(M_w3.cell (a:=⟨gs,0,none⟩) hxl (by first | assumption | (simp;done))).trans x0;have x1:=(M_w3.cell (a:=⟨gs,1,none⟩) hxl (by first | assumption | (simp;done))).trans x1;have hql2:=Nat.lt_of_lt_of_le hql2 M_w3.size;have hxl:=Nat.lt_of_lt_of_le hxl M_w3.size))
   all_goals
    have M3:=Lib.hid (M1.out.trans' M_w3)
    go_wp2_with fail
    go_roundw
    case rel=>exact ⟨1,by first | rfl | go_num,rfl,by omega,M3⟩
    case measure=>simp [intOf]
  ·obtain rfl:k=1:=by omega
   go_wp2_with fail
   refine (VA.out _ (by first | exact HM.out | exact HM.out.drewN _)).mono ?_
   rintro e w2 ⟨rfl,rfl⟩
   go_wp2_with fail
   go_ret
   exact ⟨rfl,HM.out⟩
open Go.RowKit
theorem Tryz.infoBo:(Tryz.prog.info? 4).map (fun i=>(i.zero,i.size,i.bytes))=some (some (.bool false),1,1):=by kernel_rfl
theorem made8b (w:World):(Instr.makeSlice 31 (.int .i64 8) (.int .i64 8)).run Tryz.prog w=.ok (.slice (some ⟨w.heap.size,0,none⟩) 8 8) (w.alloc (.cells (madeCells #[.bool false] 8) 4)):=by
 obtain ⟨i0,hi,hz0,hz1,hz2⟩:=info_parts Tryz.infoBo
 have:=run_make (P:=Tryz.prog) w 31 4 i0 _ Tryz.underlying31 hi hz0 .i64 .i64 8 8 (by omega) (by omega) (by rw [hz2];omega) (by omega)
 simpa [hz1,Value.cells] using this
theorem xor8:∀x < 8,∀k < 3,0≤bits .xor .i64 ((x:Nat):Int) (wrap64 (2 ^ k))∧bits .xor .i64 ((x:Nat):Int) (wrap64 (2 ^ k)) < 8:=by decide+kernel
theorem xor8n (x k:Nat) (hx:x < 8) (hk:k < 3):∃z:Nat,bits .xor .i64 (x:Int) (wrap64 (2 ^ k))=(z:Int)∧z < 8:=by
 obtain ⟨h1,h2⟩:=xor8 x hx k hk
 exact ⟨(bits .xor .i64 (x:Int) (wrap64 (2 ^ k))).toNat,by omega,by omega⟩
theorem quantSupport3_c {w:World} {b room f bq:Nat} {q0 q2:Value} {F:List Nat} {L:List Rc} (hS:IsSt w b 3 L room F) (hL:L.length≤1048576) (hG:Good L 3) (hq:Blk w bq #[q0,.pointer (some ⟨b,0,none⟩),q2] 194) {e:Ed} {T:Tr} (hr:Root L 3 f e T):
 Calls Tryz.prog 169 #[.pointer (some ⟨bq,0,none⟩),.int .u8 f,edv e] w fun e' w'=>∃x:Nat,e'=.returned (.tuple #[.int .u16 x,.int .u8 0])∧x < 65536∧Mod [] w w':=by
 have VA:Hid (∀W',Mod [] w W'→Calls Tryz.prog 26 #[.pointer (some ⟨b,0,none⟩)] W' fun e w'=>e=.returned (.int .i64 3)∧w'=W'):=fun W' md=>by
  obtain ⟨ba,bi,Fa,c0,_⟩:=(hS.mod md (by simp)).own
  exact stVars_c b 3 W' c0
 have MY:Hid (∀W g,Mod [] w W→Blk W g #[.int .u8 e.t,.int .u32 e.a] 39→_):=fun W g md hg=>quantMay_c (hS.mod md (by simp)) hL (by omega) (hq.mod md (by simp)) hr.f1 hr.f5 hr.leads hg
 have HO:Hid (∀W (y:Nat),y < 65536→Mod [] w W→Calls Tryz.prog 40 #[.pointer (some ⟨b,0,none⟩),.int .u8 f,edv e,.int .i64 0,.int .u16 y] W fun e w'=>∃bb,e=.returned (.tuple #[.bool bb,.int .u8 0])∧Mod [] W w'):=fun W y hy md=>by
  refine (holds_c (hS.mod md (by simp)) hL hG (by omega) f hr.f1 hr.f5 e T hr.rep 0 (by omega) hr.leads y hy).mono ?_
  rintro e' w' ⟨rfl,m⟩
  exact ⟨_,rfl,m⟩
 obtain ⟨t,a⟩:=e
 unfold edv at *
 simp only at HO MY ⊢
 have BQ:=Lib.hid hq
 have hbq:=hq.lt
 obtain ⟨gk,hgk⟩:∃gk,w.heap.size=gk:=⟨_,rfl⟩
 have MB:Hid (∀w:World,_):=fun w=>made8b w
 clear hS hr hG hq
 go_enter Tryz.func169,Tryz.ntmps169
 go_wp2_with fail
 have B0:=(Blk.new' w #[.int .u8 t,.int .u32 a] 39 gk hgk.symm).alloc (.cells #[.int .u8 t,.int .u32 a] 39)
 have B1:=Blk.new' (w.alloc (.cells #[.int .u8 t,.int .u32 a] 39)) #[.int .u8 t,.int .u32 a] 39 (gk+1) (by simp [hgk])
 have M0:Hid (Mod [] w ((w.alloc (.cells #[.int .u8 t,.int .u32 a] 39)).alloc (.cells #[.int .u8 t,.int .u32 a] 39))):=by exact mods
 generalize (w.alloc (.cells #[.int .u8 t,.int .u32 a] 39)).alloc (.cells #[.int .u8 t,.int .u32 a] 39)=w0 at *
 refine (MY.out _ _ M0.out B1).mono ?_
 rintro e w1 ⟨rfl,m1⟩
 have M1:=Lib.hid (M0.out.trans' m1)
 have BE:=Lib.hid (B0.mod m1 (by simp))
 have q1:=(BQ.out.mod M1.out (by simp)).cell 1
 simp only [List.getElem?_toArray,List.getElem?_cons_zero,List.getElem?_cons_succ] at q1
 have hql:=(BQ.out.mod M1.out (by simp)).lt
 clear B0 B1 m1 MY
 go_wp2_with fail
 refine (VA.out _ (by first | exact M1.out | exact M1.out.drewN _)).mono ?_
 rintro e w2 ⟨rfl,rfl⟩
 have MB2:=MB.out w2
 obtain ⟨g,hg⟩:∃g,w2.heap.size=g:=⟨_,rfl⟩
 rw [hg] at MB2
 have R0:Hid (∃fv:Nat→Bool,Row (w2.alloc (.cells (madeCells #[.bool false] 8) 4)) g 4 8 (fun i=>.bool (fv i))):=⟨fun _=>false,Row.made w2 8 (.bool false) 4 g hg.symm⟩
 have M2:Hid (Mod [] w2 (w2.alloc (.cells (madeCells #[.bool false] 8) 4))):=(Mod.refl _ _).alloc _
 have hgw:Hid (w.heap.size < g):=by have:=BE.out.lt;have:=M1.out.size;show _ < _;omega
 clear MB VA
 go_wp2_with fail
 generalize w2.alloc (.cells (madeCells #[.bool false] 8) 4)=w3 at *
 have M3:=Lib.hid (M1.out.trans' M2.out)
 have BE3:=Lib.hid (BE.out.mod M2.out (by simp))
 clear q1 hql M0 BE MB2
 go_loopw [11,33] (fun _ i wr=>∃(k:Nat) (fv:Nat→Bool),i=.int .i64 k∧k≤8∧Hid (Row wr g 4 8 (fun i=>.bool (fv i)))∧Hid (Blk wr gk #[.int .u8 t,.int .u32 a] 39)∧Hid (Mod [] w wr)) (fun _ i _=>8 - (intOf i).toNat)
 case atStart=>
  obtain ⟨fv,hr⟩:=R0.out
  exact ⟨0,fv,rfl,by omega,hr,BE3,M3⟩
 case round=>
  clear R0 M3 BE3 M1 M2
  obtain ⟨k,fv,rfl,hk,HR,BE,HM⟩:=hrel
  by_cases hlt:k < 8
  ·have hlt':(k:Int) < 8:=by omega
   have hk0:(0:Int)≤k:=by omega
   have HOK:Hid (∀W,Mod [] wr W→_):=fun W md=>HO.out W k (by omega) (HM.out.trans' md)
   have ew:IntKind.u16.wrap (k:Int)=k:=by simp [IntKind.wrap,IntKind.bits,IntKind.signed];omega
   rw [←ew] at HOK
   clear ew
   obtain ⟨d0,d1⟩:=BE.out.cells2
   have hbl:=BE.out.lt
   have q1:=(BQ.out.mod HM.out (by simp)).cell 1
   simp only [List.getElem?_toArray,List.getElem?_cons_zero,List.getElem?_cons_succ] at q1
   have hql:=(BQ.out.mod HM.out (by simp)).lt
   have g0:=HR.out.cell k hlt
   have gf:=HR.out.froz k
   have hgl:=HR.out.lt
   have hgq:¬g=bq:=by have:=hgw.out;omega
   have hgq2:¬bq=g:=by have:=hgw.out;omega
   have hgk1:¬g=gk:=by have:=hgw.out;omega
   have hgk2:¬gk=g:=by have:=hgw.out;omega
   go_wp2_with fail
   go_region_held3 (fun w'=>w'.cell? ⟨bq,1,none⟩=some (.pointer (some ⟨b,0,none⟩))∧w'.cell? ⟨gk,0,none⟩=some (.int .u8 t)∧w'.cell? ⟨gk,1,none⟩=some (.int .u32 a)) (go_keep) (first | (go_at_call 40;(with_reducible refine (HOK.out _ (by exact mods)).mono ?_);rintro e' w4 ⟨bb,rfl,m_w4⟩;have M_w4:=Mod.trans' (show Mod _ wr _ from by exact mods) m_w4;have q1:=(M_w4.cell (a:=⟨bq,1,none⟩) hql (by first | assumption | (simp;done))).trans q1;have d0:=(M_w4.cell (a:=⟨gk,0,none⟩) hbl (by first | assumption | (simp;done))).trans d0;have d1:=(M_w4.cell (a:=⟨gk,1,none⟩) hbl (by first | assumption | (simp;done))).trans d1;have hql:=Nat.lt_of_lt_of_le hql M_w4.size;have hbl:=Nat.lt_of_lt_of_le hbl M_w4.size;have g0:=(m_w4.cell (a:=⟨g,k,none⟩) (by first | assumption | (simp;done)) (by simp)).trans g0;have gf:=(m_w4.froz (a:=⟨g,k,none⟩) (by first | assumption | (simp;done)) (by simp)).trans gf;have hgl:=Nat.lt_of_lt_of_le hgl m_w4.size))
   all_goals
    have HR4:Hid (Row (w4.setCell ⟨g,k,none⟩ (.bool bb)) g 4 8 (fun i=>.bool (if i=k then bb else fv i))):=((HR.out.mod M_w4 (by simp)).set k (.bool bb)).congr (fun i hi=>by by_cases q:i=k<;>simp [q])
    have MS:Mod [g] w4 (w4.setCell ⟨g,k,none⟩ (.bool bb)):=(Mod.refl _ _).setCell _ _ (by simp)
    have BE4:=Lib.hid ((BE.out.mod M_w4 (by simp)).mod MS (by simpa using hgk2))
    have HM4:Hid (Mod [] w (w4.setCell ⟨g,k,none⟩ (.bool bb))):=(HM.out.trans' M_w4).trans MS (by intro i hi hm;have:=hgw.out;simp at hm;omega)
    clear MS m_w4 M_w4 q1 d0 d1 g0 gf hgl hql hbl
    go_wp2_with fail
    go_roundw
    case rel=>exact ⟨k+1,fun i=>if i=k then bb else fv i,by first | rfl | go_num,by omega,HR4,BE4,HM4⟩
    case measure=>simp [intOf];omega
  ·obtain rfl:k=8:=by omega
   clear HO
   go_wp2_with fail
   go_loopw [12,13,53,58] (fun y _ i _ wx=>∃(j y':Nat),i=.int .i64 j∧j≤3∧y=.int .u16 y'∧y' < 65536∧Hid (Row wx g 4 8 (fun i=>.bool (fv i)))∧Hid (Mod [] w wx)) (fun _ _ i _ _=>3 - (intOf i).toNat)
   case atStart=>exact ⟨0,0,rfl,by omega,rfl,by omega,HR,HM⟩
   case round=>
    clear HR HM BE
    obtain ⟨j,y,rfl,hj,rfl,hy,HR,HM⟩:=hrel
    by_cases hjl:j < 3
    ·have hjl':(j:Int) < 3:=by omega
     have hj0:(0:Int)≤j:=by omega
     go_wp2_with fail
     go_loopw [12,14,58] (fun y2 _ i wx=>∃(x y':Nat),i=.int .i64 x∧x≤8∧y2=.int .u16 y'∧y' < 65536∧Hid (Row wx g 4 8 (fun i=>.bool (fv i)))∧Hid (Mod [] w wx)) (fun _ _ i _=>8 - (intOf i).toNat)
     case atStart=>exact ⟨0,y,rfl,by omega,rfl,hy,HR,HM⟩
     case round=>
      clear HR HM
      obtain ⟨x,y',rfl,hx,rfl,hy',HR,HM⟩:=hrel
      by_cases hxl:x < 8
      ·have hxl':(x:Int) < 8:=by omega
       have hx0:(0:Int)≤x:=by omega
       obtain ⟨z,hz,hz8⟩:=xor8n x j hxl hjl
       have hz8':(z:Int) < 8:=by omega
       have hz0:(0:Int)≤z:=by omega
       have g1:=HR.out.cell x hxl
       have g2:=HR.out.cell z hz8
       have hgl:=HR.out.lt
       generalize fv x=b1 at *
       generalize fv z=b2 at *
       cases b1<;>cases b2
       all_goals
        go_wp2_with fail
        go_quiet (fail)
        go_wp2_with fail
        first
         | exact ⟨⟨x+1,y',by simp,by omega,rfl,hy',HR.out.mod (Mod.drewN (Mod.refl [] wr) _) (by simp),HM.out.trans' (Mod.drewN (Mod.refl [] wr) _)⟩,by simp [intOf];omega⟩
         | (
          obtain ⟨y3,e3,hy3⟩:=u16_bits .or (y':Int) (IntKind.u16.wrap (2 ^ j))
          exact ⟨⟨j+1,y3,by simp,by omega,by rw [e3],hy3,HR.out.mod (Mod.drewN (Mod.refl [] wr) _) (by simp),HM.out.trans' (Mod.drewN (Mod.refl [] wr) _)⟩,by simp [intOf];omega⟩)
      ·obtain rfl:x=8:=by omega
       go_wp2_with fail
       go_roundw
       case rel=>exact ⟨j+1,y',by first | rfl | go_num,by omega,rfl,hy',HR,HM⟩
       case measure=>simp [intOf];omega
    ·obtain rfl:j=3:=by omega
     go_wp2_with fail
     go_ret2
     exact ⟨_,rfl,hy,HM.out⟩
end Go.Proofs.YtnbjnnijifiaaaaGreatDoor
