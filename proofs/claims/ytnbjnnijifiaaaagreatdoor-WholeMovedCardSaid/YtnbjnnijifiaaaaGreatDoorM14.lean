/- M14: Vl · Ms · Po · Ho · Ph -/
import Derived.Test.YtnbjnnijifiaaaaGreatDoorM12
import Derived.Test.YtnbjnnijifiaaaaGreatDoorM13
import Derived.Test.YtnbjnnijifiaaaaGreatDoorM02
import Derived.Test.YtnbjnnijifiaaaaGreatDoorM09
import Derived.Test.YtnbjnnijifiaaaaGreatDoorM10
import Derived.Test.YtnbjnnijifiaaaaGreatDoorM07
set_option maxRecDepth 100000
set_option maxHeartbeats 8000000
set_option linter.unusedVariables false
set_option linter.unusedSimpArgs false
namespace Go.Proofs.YtnbjnnijifiaaaaGreatDoor
open Go.RowKit
theorem ranges_mod {P:Program} {k:TypeId} {R:Value→Option (DataW Unit × List MemPlace)} {w w':World} {b r n:Nat} {D:DataW Unit} {left:Lit→Bool} {cnt:Nat} {S:List Nat} (h:w.ranges P k R b r n D left cnt) (m:Mod S w w') (hb':b∉S) (hr':r∉S):w'.ranges P k R b r n D left cnt:=by
 have h1:=h.owns.lt
 have h2:=h.lt
 obtain ⟨es,clock,since,seen,c0,hb,F,hs,hD,hr,rest⟩:=h
 exact ⟨es,clock,since,seen,c0,(m.block b h1 hb').trans hb,F,hs,hD,(m.block r h2 hr').trans hr,rest⟩
def CollN (D:DataW Unit) (left:Lit→Bool) (l:List Nat):Prop:=l.Nodup∧∀id:Nat,id∈l↔(Maps.has D (.int .u32 id)=true∧left (.int .u32 id)=false)
theorem CollN.start (D:DataW Unit):CollN D (Maps.has D) []:=⟨List.nodup_nil,fun x=>by cases Maps.has D (.int .u32 x)<;>simp⟩
theorem CollN.step {D:DataW Unit} {left:Lit→Bool} {l:List Nat} (h:CollN D left l) {x:Nat} {y:DataW Unit} (hlk:left (.int .u32 x)=true) (hat:∀zd,D.atKey (.int .u32 x) zd=y):CollN D (fun z=>left z && !z.sameKey (.int .u32 x)) (l++[x]):=by
 have hhas:Maps.has D (.int .u32 x)=true:=Maps.has_true_of_atKey hat
 have hnew:x∉l:=fun hx=>by have:=((h.2 x).1 hx).2;rw [hlk] at this;cases this
 refine ⟨List.nodup_append.2 ⟨h.1,by simp,fun a ha b hb=>by simp at hb;subst hb;exact fun e=>hnew (e▸ha)⟩,fun y=>?_⟩
 by_cases hy:y=x
 ·subst hy;simp [hhas,Lit.sameKey]
 ·have hy':¬(y:Int)=(x:Int):=by omega
  simp [h.2 y,hy,hy',Lit.sameKey]
def eu (x:Nat):Value:=.int .u32 (x:Int)
theorem Tryz.infoU:(Tryz.prog.info? 37).map (fun i=>(i.zero,i.size,i.bytes))=some (some (.int .u32 0),1,4):=by kernel_rfl
def ReachP (w:World) (L:List Rc) (ts:List (Nat × Tr)) (e:Ending) (w':World):Prop:=
 ∃A cap,∃l:List Nat,e=.returned (.slice A l.length cap)∧l.Nodup∧(∀id,id∈l↔idsAll L ts id)∧Mod [] w w'
theorem reach_c {w:World} {b n:Nat} {L:List Rc} {room:Nat} {F:List Nat} (h:IsSt w b n L room F) (hL:L.length≤1048576) (hnd:L.Nodup) {A:Option Addr} {k cap:Nat} {es:List Ed} (hes:EdRow w A k cap es) {ts:List (Nat × Tr)} (hts:EdTrees L es ts)
 (hk:k≤100000) (hsz:tszs ts≤1000000) (hfew:∀l:List Nat,l.Nodup→(∀id∈l,idsAll L ts id)→l.length≤12):
 Calls Tryz.prog 117 #[.pointer (some ⟨b,0,none⟩),.slice A k cap] w (ReachP w L ts):=by
 have RC:=Lib.hid (reached_c h hL hnd hes hts hk hsz)
 have HFEW:=Lib.hid hfew
 have hcap:=hes.2.1
 obtain ⟨i0,hi,hz0,hz1,hz2⟩:=info_parts Tryz.infoU
 clear h hes hts hnd hfew
 go_enter Tryz.func117,Tryz.ntmps117
 go_wp2_with fail
 refine RC.out.mono ?_
 rintro e w1 ⟨bm,nm,rfl,⟨D,hown,hD1,hD2,hD3⟩,hnm,hge,m1⟩
 have M1:=Lib.hid m1
 have HD:=Lib.hid hD2
 have hsz1:=m1.size
 clear m1 RC hD2 hD1 hD3
 go_wp2_with (at_range;refine Go.wpList_range_own _ rfl _ 264 rfl 37 3 keyU32 Tryz.underlying264 _ bm nm D rfl hown ?_;intro w2 hrg0 hg0 hs0)
 go_frame
 obtain ⟨r,hr⟩:∃r,w1.heap.size=r:=⟨_,rfl⟩
 rw [hr] at hrg0 hs0 ⊢
 have M2:Hid (Mod [] w w2):=M1.out.trans' ((Mod.refl [] w1).grown hg0 (by simp))
 have hrw:w.heap.size≤r:=by omega
 clear hown hg0
 go_loopw [5] (fun v wr=>∃(left:Lit→Bool) (cnt:Nat) (l F':List Nat),wr.ranges Tryz.prog 37 (plainElem Tryz.prog 3) bm r nm D left cnt∧Hid (CollN D left l)∧Hid (Sl wr 37 1 v l.length (l.map eu) F')∧Hid (∀k∈F',w.heap.size≤k∧k≠r∧k≠bm)∧Hid (Mod [] w wr)) (fun _ wr=>wr.rangeLeft bm r)
 case atStart=>exact ⟨_,_,[],[],hrg0,CollN.start D,Sl.nil _ _ _,by intro k hk;simp at hk,M2⟩
 case round=>
  obtain ⟨left,cnt,l,F',hrg,HC,HS,HF,HM⟩:=hrel
  have HL:Hid (l.length≤12):=HFEW.out l HC.out.1 (fun id h=>(HD.out id).2 ((HC.out.2 id).1 h).1)
  have hbl:=hrg.owns.lt
  have hrl:=hrg.lt
  obtain ⟨Ao,capo,rfl,hcapo⟩:=HS.out.shape
  go_wp2_with (at_next;refine Go.wpList_next_ranges_ii _ rfl _ rfl 37 3 .u32 .i64 keyU32 Tryz.underlying37 Tryz.underlying3 bm r nm D left cnt rfl hrg ?_ ?_)
  ·intro hc0 hl0
   have hmem:∀id,id∈l↔idsAll L ts id:=fun id=>by
    rw [HC.out.2 id,HD.out id,hl0];simp
   have HMEM:=Lib.hid hmem
   rcases Nat.eq_zero_or_pos l.length with h0 | h0
   ·have hnil:l=[]:=List.eq_nil_of_length_eq_zero h0
    subst hnil
    have SN:=Lib.hid (sort_none (w:=wr) Ao capo)
    clear hmem hrg hbl hrl h0 hcapo
    simp only [List.length_nil]
    go_wp2_with fail
    refine SN.out.mono ?_
    rintro e w' ⟨rfl,rfl⟩
    go_wp2_with fail
    go_ret
    exact ⟨Ao,capo,[],rfl,List.nodup_nil,HMEM.out,HM.out⟩
   ·obtain ⟨g,cap',e,hF',_⟩:=HS.out.pos h0
    have hU:U32s wr g 0 l.length:=fun i hi=>by
     have hs:=HS.out
     rw [e] at hs
     obtain ⟨c1,c2,_⟩:=hs.at i (by omega)
     rw [List.getElem?_map,List.getElem?_eq_getElem hi] at c1
     refine ⟨l[i],?_,by rw [Nat.zero_add];exact c1,by rw [Nat.zero_add];exact c2⟩
     have hx:=(HMEM.out l[i]).1 (List.getElem_mem _)
     obtain ⟨x,hx1,S,hS,hr⟩:=hx
     rcases hr.ge with ⟨_,_,h⟩ | ⟨_,h⟩<;>omega
    simp at e
    obtain ⟨rfl,rfl⟩:=e
    have SO:=Lib.hid (sort_c g 0 l.length capo HL.out hcapo hU)
    have hgw:=(HF.out g (by simp [hF'])).1
    obtain ⟨N,hN⟩:∃N,l.length=N:=⟨_,rfl⟩
    rw [hN] at SO hcapo h0 ⊢
    have HNL:=Lib.hid hN
    clear hmem hrg hbl hrl hU hF' hN
    go_wp2_with fail
    refine SO.out.mono ?_
    rintro e w' ⟨rfl,hm⟩
    have HM2:=Lib.hid (HM.out.trans hm (by intro i hi h;simp at h;omega))
    clear hm
    go_wp2_with fail
    go_ret
    exact ⟨_,capo,l,by rw [HNL.out];rfl,HC.out.1,HMEM.out,HM2.out⟩
  ·intro x c w3 cnt3 hwx hwc hlk hat hrg3 hlt3 hg3 hs3 hen
   obtain ⟨n,rfl,hn32⟩:∃n:Nat,x=(n:Int)∧n≤4294967295:=by
    have h1:IntKind.u32.min=0:=rfl
    have h2:IntKind.u32.max=4294967295:=rfl
    simp [Lit.wf,h1,h2] at hwx
    exact ⟨x.toNat,by omega,by omega⟩
   have m3:Mod [r] wr w3:=(Mod.refl [r] wr).grown hg3 (by intro k hk _;simp at hk;simp [hk])
   have HC3:=Lib.hid (HC.out.step hlk hat)
   have HS3:=Lib.hid (HS.out.mod m3 (fun k hk=>by simp;exact (HF.out k hk).2.1))
   have HM3:=Lib.hid (HM.out.trans m3 (by intro i hi h;simp at h;omega))
   have HRO:=Lib.hid hrg
   have HR3:=Lib.hid hrg3
   have HLT:=Lib.hid hlt3
   obtain ⟨N,hN⟩:∃N,l.length=N:=⟨_,rfl⟩
   have HLL:Hid (∀q,(l.map eu).length=q→q=N):=fun q h=>by rw [←h,List.length_map];exact hN
   rw [hN] at HS3 HL hcapo ⊢
   have HNL:=Lib.hid hN
   have hN12:=HL.out
   clear hrg hrg3 hlt3 hg3 hs3 m3 hwx hwc hlk hat hrl hbl hN
   go_wp2_with (at_builtin;refine wpList_append_sl _ rfl _ _ 159 rfl 37 i0 (.int .u32 0) 1 4 Tryz.underlying159 hi hz0 hz1 hz2 rfl (by decide) _ N (l.map eu) F' rfl (HS3.out.mod (S:=[]) (by exact mods) (by simp)) ⟨_,0,none⟩ 1 1 [eu n] (by decide) rfl rfl (by intro j u hu;exact list_new_at _ _ _ _ (by simp) j u hu) (by intro u hu;simp at hu;subst hu;rfl) (by unfold maxLen;omega) (by omega) ?_;intro v5 w5 F5 hs5 hm5 hf5)
   have hm35:Mod F' w3 w5:=((Mod.refl F' w3).alloc (.cells #[.int .u32 n] 37)).trans' hm5
   have hr5:=ranges_mod HR3.out hm35 (fun h=>(HF.out _ h).2.2 rfl) (fun h=>(HF.out _ h).2.1 rfl)
   refine ⟨⟨_,cnt3,l++[n],F5,hr5,HC3.out,?_,?_,HM3.out.trans hm35 (by intro i hi h;have:=(HF.out i h).1;omega)⟩,?_⟩
   ·show Sl _ _ _ _ _ _ _
    rw [List.length_append,HNL.out,List.map_append]
    exact hs5
   ·show ∀k∈F5,_
    intro k hk
    rcases hf5 k hk with h | h
    ·exact HF.out k h
    ·have h1:=HR3.out.lt
     have h2:=HR3.out.owns.lt
     have h3:=HM3.out.size
     simp at h
     exact ⟨by omega,by omega,by omega⟩
   ·rw [hr5.left_eq,HRO.out.left_eq]
    exact HLT.out
theorem canonMay_c {w:World} {b n:Nat} {L:List Rc} {room:Nat} {F:List Nat} (h:IsSt w b n L room F) (hL:L.length≤1048576) (hn:n≤16) (f:Nat) (h1:1≤f) (h5:f≤5) (e:Ed) (l:Nat) (hl:l≤n) (hP:LeadsP L f e l n):
 Calls Tryz.prog 84 #[.pointer (some ⟨b,0,none⟩),.int .u8 f,edv e,.int .i64 l] w fun e w'=>e=.returned (.int .u8 0)∧Mod [] w w':=by
 have LD:Hid (∀W,Mod [] w W→_):=fun W m=>stLeads_c (h.mod m (by simp)) hL hn f h1 h5 e l hl hP
 have VA:Hid (∀W',Mod [] w W'→Calls Tryz.prog 26 #[.pointer (some ⟨b,0,none⟩)] W' fun e w'=>e=.returned (.int .i64 n)∧w'=W'):=fun W' m=>by
  obtain ⟨ba,bi,Fa,c0,_⟩:=(h.mod m (by simp)).own
  exact stVars_c b n W' c0
 have IF:=Lib.hid (isForm_c f h1 h5)
 have hl':(l:Int)≤n:=by omega
 obtain ⟨t,a⟩:=e
 unfold edv at *
 simp only at LD ⊢
 obtain ⟨gk,hgk⟩:∃gk,w.heap.size=gk:=⟨_,rfl⟩
 clear h hP
 go_enter Tryz.func84,Tryz.ntmps84
 go_wp2_with fail
 refine (IF.out _).mono ?_
 rintro e w1 ⟨rfl,rfl⟩
 go_wp2_with fail
 refine (VA.out _ (by exact mods)).mono ?_
 rintro e w1 ⟨rfl,rfl⟩
 go_wp2_with fail
 refine (LD.out _ (by exact mods)).mono ?_
 rintro e w2 ⟨rfl,m2⟩
 have M2:=Lib.hid (Mod.trans' (show Mod [] w _ from by exact mods) m2)
 clear m2
 go_wp2_with fail
 go_ret
 exact ⟨rfl,M2.out⟩
theorem canonSize_c {w:World} {b n:Nat} {L:List Rc} {room:Nat} {F:List Nat} (h:IsSt w b n L room F) (hL:L.length≤1048576) (hnd:L.Nodup) (hn:n≤16) (f:Nat) (h1:1≤f) (h5:f≤5) (e:Ed) (l:Nat) (hl:l≤n) (hP:LeadsP L f e l n) {x:Nat × Tr} (hR:RepE L f e x) (hsz:tsz x.2≤1000000) (hfew:(dis [] (nds x.2)).length≤12):
 Calls Tryz.prog 168 #[.pointer (some ⟨b,0,none⟩),.int .u8 f,edv e,.int .i64 l] w fun e w'=>e=.returned (.tuple #[.int .i64 (dis [] (nds x.2)).length,.int .u8 0])∧Mod [] w w':=by
 have MY:Hid (∀W,Mod [] w W→_):=fun W m=>canonMay_c (h.mod m (by simp)) hL hn f h1 h5 e l hl hP
 have few:∀l:List Nat,l.Nodup→(∀id∈l,idsAll L [(f,x.2)] id)→l.length≤(dis [] (nds x.2)).length:=fun l hl hm=>
  nodup_le_rel (fun id S=>Rep L f id S) (fun a a' b h k=>Rep.inj hnd h k) hl (fun id hid=>by
   obtain ⟨y,hy,S,hS,hr⟩:=hm id hid
   simp at hy;subst hy
   exact ⟨S,by rw [dis_mem];exact .inr hS,hr⟩)
 have RE:Hid (∀(W:World) (g:Nat),Mod [] w W→Blk W g #[.int .u8 e.t,.int .u32 e.a] 39→Calls Tryz.prog 117 #[.pointer (some ⟨b,0,none⟩),.slice (some ⟨g,0,none⟩) 1 1] W fun e' w'=>∃A cap,e'=.returned (.slice A (dis [] (nds x.2)).length cap)∧Mod [] W w'):=fun W g m hb=>by
  refine (reach_c (h.mod m (by simp)) hL hnd (A:=some ⟨g,0,none⟩) (k:=1) (cap:=1) (es:=[e]) ⟨rfl,by omega,fun i hi=>?_⟩ (ts:=[(f,x.2)]) ⟨rfl,fun i h1 h2=>?_⟩ (by omega) (by rw [tszs_one];exact hsz) (fun l hl hm=>Nat.le_trans (few l hl hm) hfew)).mono ?_
  ·obtain rfl:i=0:=by simpa using hi
   exact ⟨g,0,rfl,hb.lt,hb.cells2.1,hb.cells2.2⟩
  ·obtain rfl:i=0:=by simpa using h1
   exact hR.a
  ·rintro e' w' ⟨A,cap,l,rfl,hl,hm,hmod⟩
   have e:l.length=(dis [] (nds x.2)).length:=ids_len hnd hR.a hl (fun id=>by
    rw [hm id]
    constructor
    ·rintro ⟨y,hy,h⟩;simp at hy;subst hy;exact h
    ·intro h;exact ⟨(f,x.2),by simp,h⟩)
   exact ⟨A,cap,by rw [e],hmod⟩
 have hN12:=hfew
 generalize (dis [] (nds x.2)).length=N at *
 obtain ⟨t,a⟩:=e
 unfold edv at *
 simp only at MY RE ⊢
 obtain ⟨gk,hgk⟩:∃gk,w.heap.size=gk:=⟨_,rfl⟩
 clear h hP hR few hsz hnd hfew
 go_enter Tryz.func168,Tryz.ntmps168
 go_wp2_with fail
 refine (MY.out _ (by exact mods)).mono ?_
 rintro e w2 ⟨rfl,m2⟩
 have M2:=Lib.hid (Mod.trans' (show Mod [] w _ from by exact mods) m2)
 have BR:=(Blk.new' w _ _ gk hgk.symm).mod m2 (by simp)
 have hbl:=BR.lt
 obtain ⟨e0,e1⟩:=BR.cells2
 obtain ⟨gs,hgs⟩:∃gs,w2.heap.size=gs:=⟨_,rfl⟩
 have hks:gk < gs:=by omega
 have hks1:¬gk=gs:=by omega
 clear m2 BR hgk MY
 go_wp2_with fail
 refine (RE.out _ gs (M2.out.trans' (show Mod [] w2 _ from by exact mods)) (Blk.new' w2 _ _ gs hgs.symm)).mono ?_
 rintro e w3 ⟨A,cap,rfl,m3⟩
 have M3:=Lib.hid ((M2.out.trans' (show Mod [] w2 _ from by exact mods)).trans' m3)
 clear m3
 go_wp2_with fail
 go_ret2
 exact ⟨rfl,M3.out⟩
open Go.RowKit
def sizeN (n W:Nat) (p:List Nat) (f:Nat):Nat:=(dis [] (nds (buildE f n n 0 (tabL W p n 0 0)).2)).length
def sizesN (n W:Nat) (p:List Nat):List Nat:=[sizeN n W p 1,sizeN n W p 2,sizeN n W p 3,sizeN n W p 4,sizeN n W p 5]
theorem sizesN_at (n W:Nat) (p:List Nat) (k:Nat) (h:k < 5):(sizesN n W p).take (k+1)=(sizesN n W p).take k++[sizeN n W p (k+1)]:=by
 obtain rfl | rfl | rfl | rfl | rfl:k=0∨k=1∨k=2∨k=3∨k=4:=by omega
 all_goals rfl
def SizesP (w:World) (n W:Nat) (p:List Nat) (e:Ending) (w':World):Prop:=∃v,e=.returned (.tuple #[v,.int .u8 0])∧NewV 3 w ((sizesN n W p).map ei) w' v
theorem sizes_c {w:World} {bo n g cap W:Nat} {p q Fo:List Nat} (hO:IsOrd w bo p q Fo) (c0:w.cell? ⟨g,0,none⟩=some (.int .u64 W)) (hn:n≤5) (hp:p.length=n) (hpv:∀v∈p,v < n) (hW:W < 2 ^ (2 ^ n))
 (hsz:∀f,1≤f→f≤5→tsz (buildE f n n 0 (tabL W p n 0 0)).2≤1000000∧sizeN n W p f≤12):
 Calls Tryz.prog 143 #[.pointer (some ⟨bo,0,none⟩),.agg #[.int .i64 n,.slice (some ⟨g,0,none⟩) 1 cap]] w (SizesP w n W p):=by
 have hgl:=World.block_lt_of_cell? w _ c0
 simp only at hgl
 obtain ⟨i0,hi,hz0,hz1,hz2⟩:=info_parts Tryz.info3
 have h2n:2 ^ n≤32:=by have:=Nat.pow_le_pow_right (n:=2) (by omega) hn;simpa using this
 have VO:Hid (∀W',Mod [] w W'→Calls Tryz.prog 34 #[.pointer (some ⟨bo,0,none⟩)] W' fun e w'=>e=.returned (.int .i64 n)∧w'=W'):=fun W' m=>by
  have:=ordVars_c (hO.mod m (by simp));rw [hp] at this;exact this
 have NW:Hid (∀W',Calls Tryz.prog 22 #[.int .i64 n,.int .i64 1048576] W' fun e w'=>∃b F,e=.returned (.tuple #[.pointer (some ⟨b,0,none⟩),.int .u8 0])∧IsSt w' b n [] 1048576 F∧Mod [] W' w'∧∀k∈F,W'.heap.size≤k):=fun W'=>stNew_c n 1048576 (by omega) (by omega) W'
 have BO:Hid (∀(W':World) (b f:Nat) (F:List Nat),Mod [] w W'→IsSt W' b n [] 1048576 F→(∀k∈F,w.heap.size≤k)→1≤f→f≤5→Calls Tryz.prog 9 #[.pointer (some ⟨b,0,none⟩),.pointer (some ⟨bo,0,none⟩),.int .u8 f,.agg #[.int .i64 n,.slice (some ⟨g,0,none⟩) 1 cap]] W' (OfP W' b n 1048576 F [] f (buildE f n n 0 (tabL W p n 0 0)))):=fun W' b f F m hs hF h1 h5=>
  buildOf_c hs (hO.mod m (by simp)) ((m.cell (a:=⟨g,0,none⟩) hgl (by simp)).trans c0) (fun k hk h=>by
   have h3:=hF k h
   rcases List.mem_cons.1 hk with rfl | hk
   ·omega
   ·have:=hO.lt k hk;omega) h1 h5 hn hp hpv (by omega) hW (Good.nil n) (by simp) (by simp;omega) (by simp;omega)
 have SZ:Hid (∀(W':World) (b f:Nat) (F:List Nat) (L:List Rc) (e:Ed),IsSt W' b n L 1048576 F→L.length+1≤2 ^ n→L.Nodup→1≤f→f≤5→LeadsP L f e 0 n→RepE L f e (buildE f n n 0 (tabL W p n 0 0))→
  Calls Tryz.prog 168 #[.pointer (some ⟨b,0,none⟩),.int .u8 f,edv e,.int .i64 0] W' fun e w'=>e=.returned (.tuple #[.int .i64 (sizeN n W p f),.int .u8 0])∧Mod [] W' w'):=fun W' b f F L e a1 a2 a3 a4 a5 a6 a7=>by
  exact canonSize_c a1 (by omega) a3 (by omega) f a4 a5 e 0 (by omega) a6 a7 (hsz f a4 a5).1 (hsz f a4 a5).2
 obtain ⟨gk,hgk⟩:∃gk,w.heap.size=gk:=⟨_,rfl⟩
 clear hO c0 hpv hW hsz hp
 go_enter Tryz.func143,Tryz.ntmps143
 go_wp2_with fail
 have B0:=Lib.hid (Blk.new' w #[.int .i64 n,.slice (some ⟨g,0,none⟩) 1 cap] 29 gk hgk.symm)
 have M0:Hid (Mod [] w (w.alloc (.cells #[.int .i64 n,.slice (some ⟨g,0,none⟩) 1 cap] 29))):=(Mod.refl _ _).alloc _
 generalize w.alloc (.cells #[.int .i64 n,.slice (some ⟨g,0,none⟩) 1 cap] 29)=w0 at *
 have HGK:=Lib.hid hgk
 clear hgk
 go_loopw [6,7] (fun v f wr=>∃k:Nat,1≤k∧k≤6∧f=.int .u8 k∧Hid (NewV 3 w0 (((sizesN n W p).take (k - 1)).map ei) wr v)∧Hid (Mod [] w0 wr)) (fun _ f _=>6 - (intOf f).toNat)
 case atStart=>exact ⟨1,by omega,by omega,rfl,NewV.nil _ (Mod.refl _ _),Mod.refl _ _⟩
 case round=>
  obtain ⟨k,hk0,hk,rfl,HN,HM⟩:=hrel
  by_cases hlt:k≤5
  ·have hk1:(k:Int)≤5:=by omega
   have MW:=Lib.hid (M0.out.trans' HM.out)
   have BW:=Lib.hid (B0.out.mod HM.out (by simp))
   go_wp2_with fail
   refine (VO.out _ MW.out).mono ?_
   rintro e w1 ⟨rfl,rfl⟩
   go_wp2_with fail
   refine (NW.out _).mono ?_
   rintro e w2 ⟨b,F,rfl,s2,m2,f2⟩
   have S2:=Lib.hid s2
   have F2:=Lib.hid f2
   have M2:=Lib.hid (MW.out.trans' m2)
   have MR2:=Lib.hid m2
   have BW2:=Lib.hid (BW.out.mod m2 (by simp))
   obtain ⟨q0,q1⟩:=BW2.out.cells2
   have hgl2:=BW2.out.lt
   clear s2 f2 m2
   go_wp2_with fail
   refine (BO.out w2 b k F M2.out S2.out (fun x hx=>Nat.le_trans MW.out.size (F2.out x hx)) (by omega) (by omega)).mono ?_
   rintro e w3 ⟨⟨t2,a2⟩,L2,F3,rfl,s3,m3,f3,g3,nd3,le3,re3,len3⟩
   have MR3:=Lib.hid (MR2.out.trans m3 (by intro i hi h;have:=F2.out i h;omega))
   have BW3:=Lib.hid (BW.out.mod MR3.out (by simp))
   have SZ3:=Lib.hid (fun W' (m:Mod [] w3 W')=>SZ.out W' b k F3 ([]++L2) ⟨t2,a2⟩ (s3.mod m (by simp)) (by simpa using len3) nd3 (by omega) (by omega) le3 re3)
   clear s3 m3 f3 g3 nd3 le3 re3 len3 q0 q1
   obtain ⟨gx,hgx⟩:∃gx,w3.heap.size=gx:=⟨_,rfl⟩
   unfold edv at *
   go_wp2_with fail
   refine (SZ3.out _ (by exact mods)).mono ?_
   rintro e w4 ⟨rfl,m4⟩
   have MR4:=Lib.hid (MR3.out.trans' ((show Mod [] w3 (w3.alloc (.cells #[.int .u8 t2,.int .u32 a2] 39)) from by exact mods).trans' m4))
   have HN4:=Lib.hid (HN.out.later MR4.out)
   have BW4:=Lib.hid (BW.out.mod MR4.out (by simp))
   obtain ⟨j,rfl⟩:∃j,k=j+1:=⟨k - 1,by omega⟩
   have ST:Hid ((sizesN n W p).take (j+1+1 - 1)=(sizesN n W p).take (j+1 - 1)++[sizeN n W p (j+1)]):=sizesN_at n W p j (by omega)
   obtain ⟨Fo',so,mo,fo⟩:=HN4.out
   have e0:(((sizesN n W p).take (j+1 - 1)).map ei).length=j:=by simp [sizesN];omega
   obtain ⟨Ao,capo,rfl,hcapo⟩:=so.shape
   rw [e0] at so hcapo HN HN4 ⊢
   have SO:=Lib.hid so
   have MO:=Lib.hid mo
   have FO:=Lib.hid fo
   have LO:=Lib.hid e0
   clear so mo fo hcapo e0 m4 SZ3
   generalize sizeN n W p (j+1)=z at *
   generalize (sizesN n W p).take (j+1 - 1)=zs at *
   go_wp2_with (at_builtin;refine wpList_append_sl _ rfl _ _ 22 rfl 3 i0 (.int .i64 0) 1 8 Tryz.underlying22 hi hz0 hz1 hz2 rfl (by decide) _ j (zs.map ei) Fo' rfl (SO.out.mod (S:=[]) (by exact mods) (by simp)) ⟨_,0,none⟩ 1 1 [ei z] (by decide) rfl rfl (by intro j u hu;exact list_new_at _ _ _ _ (by simp) j u hu) (by intro u hu;simp at hu;subst hu;rfl) (by unfold maxLen;omega) (by omega) ?_;intro v5 w5 F5 hs5 hm5 hf5;have N5:=Lib.hid (NewV.app (l:=zs.map ei) (l2:=[ei z]) MO.out FO.out LO.out rfl (by exact mods) hs5 hm5 hf5);obtain ⟨a5,cap5,rfl,_⟩:=hs5.shape;clear hs5 hm5 hf5)
   refine ⟨⟨j+1+1,by omega,by omega,by go_num,?_,N5.out.mod⟩,by simp [intOf];omega⟩
   have e:(sizesN n W p).take (j+1+1 - 1)=zs++[z]:=ST.out
   show NewV _ _ _ _ _
   rw [e,List.map_append]
   exact N5.out
  ·obtain rfl:k=6:=by omega
   go_wp2_with fail
   go_ret2
   exact ⟨_,rfl,HN.out.after M0.out⟩
def szT (f n:Nat) (t:List Bool):Nat:=(dis [] (nds (buildE f n n 0 t).2)).length
section
variable {n:Nat} {t:List Bool}
theorem mem_dis {α:Type} [DecidableEq α] {x:α} {l:List α}:x∈dis [] l↔x∈l:=by rw [dis_mem];simp
theorem sz_le_keys {f:Nat} (z:Bool) (g:Ky→Tr) (hc:∀T∈nds (buildE f n n 0 t).2,∃y∈keys z n 0 t,g y=T):szT f n t≤(dis [] (keys z n 0 t)).length:=
 nodup_le_rel (fun T y=>g y=T) (fun a a' b h k=>h.symm.trans k) (dis_nodup _ _ List.nodup_nil) fun T hT=>by
  obtain ⟨y,hy,e⟩:=hc T (mem_dis.1 hT)
  exact ⟨y,mem_dis.2 hy,e⟩
def keysA:Nat→Nat→List Bool→List Ky
 | 0,_,_=>[]
 | 1,_,_=>[]
 | k+2,l,t=>(k+2,l,t)::(keysA (k+1) (l+1) (t.take (2 ^ (k+1)))++keysA (k+1) (l+1) (t.drop (2 ^ (k+1))))
theorem keysA_len:∀(k l:Nat) (t:List Bool),(keysA (k+1) l t).length+1=2 ^ k:=by
 intro k
 induction k with
 | zero=>intro l t;simp [keysA]
 | succ k ih=>
  intro l t
  have h1:=ih (l+1) (t.take (2 ^ (k+1)))
  have h2:=ih (l+1) (t.drop (2 ^ (k+1)))
  rw [keysA,List.length_cons,List.length_append]
  have:=Nat.pow_succ 2 k
  omega
theorem bools2 (t:List Bool) (h:t.length=2):t=[false,false]∨t=[false,true]∨t=[true,false]∨t=[true,true]:=by
 match t,h with
 | [a,b],_=>cases a<;>cases b<;>simp
theorem keys_cov (z:Bool):∀(k l:Nat) (t:List Bool),t.length=2 ^ (k+1)→∀y∈keys z (k+1) l t,
 y∈keysA (k+1) l t++[(1,l+k,[false,true]),(1,l+k,if z then [true,true] else [true,false])]:=by
 intro k
 induction k with
 | zero=>
  intro l t ht y hy
  rcases bools2 t ht with rfl | rfl | rfl | rfl<;>cases z<;>simp [keys,keysA] at hy ⊢<;>simp [hy]
 | succ k ih=>
  intro l t ht y hy
  obtain ⟨h1,h2⟩:=halves_len ht
  have q:y=(k+2,l,t)∨y∈keys z (k+1) (l+1) (t.take (2 ^ (k+1)))∨y∈keys z (k+1) (l+1) (t.drop (2 ^ (k+1))):=by
   rw [keys] at hy
   by_cases hc:(if z then decide (true∉t.drop (2 ^ (k+1))) else decide (t.take (2 ^ (k+1))=t.drop (2 ^ (k+1))))=true
   ·rw [if_pos hc] at hy;exact .inr (.inl hy)
   ·rw [if_neg hc] at hy;simpa [List.mem_cons,List.mem_append] using hy
  have e:l+1+k=l+(k+1):=by omega
  rw [keysA]
  rcases q with rfl | q | q
  ·simp
  ·have:=ih _ _ h1 y q
   rw [e] at this
   simp only [List.mem_append,List.mem_cons] at this ⊢
   rcases this with h | h
   ·exact .inl (.inr (.inl h))
   ·exact .inr h
  ·have:=ih _ _ h2 y q
   rw [e] at this
   simp only [List.mem_append,List.mem_cons] at this ⊢
   rcases this with h | h
   ·exact .inl (.inr (.inr h))
   ·exact .inr h
theorem keys_len (z:Bool) (k l:Nat) (t:List Bool) (hk:k≤4) (ht:t.length=2 ^ k):(dis [] (keys z k l t)).length≤9:=by
 cases k with
 | zero=>simp [keys,dis]
 | succ k=>
  have h:=nodup_le (m:=keysA (k+1) l t++[(1,l+k,[false,true]),(1,l+k,if z then [true,true] else [true,false])]) (dis_nodup (keys z (k+1) l t) [] List.nodup_nil)
   fun y hy=>keys_cov z k l t ht y (mem_dis.1 hy)
  rw [List.length_append] at h
  have h2:=keysA_len k l t
  have h3:2 ^ k≤2 ^ 3:=Nat.pow_le_pow_right (by omega) (by omega)
  simp only [List.length_cons,List.length_nil] at h
  omega
theorem sz_le {f:Nat} (h1:1≤f) (h5:f≤5) (hn:n≤4) (ht:t.length=2 ^ n):szT f n t≤9:=by
 obtain rfl | rfl | rfl | rfl | rfl:f=1∨f=2∨f=3∨f=4∨f=5:=by omega
 ·exact Nat.le_trans (sz_le_keys false _ (cov13 (.inl rfl) n 0 t (by omega) ht)) (keys_len _ _ _ _ hn ht)
 ·exact Nat.le_trans (sz_le_keys true _ (cov24 (.inl rfl) n 0 t (by omega) ht)) (keys_len _ _ _ _ hn ht)
 ·exact Nat.le_trans (sz_le_keys false _ (cov13 (.inr rfl) n 0 t (by omega) ht)) (keys_len _ _ _ _ hn ht)
 ·exact Nat.le_trans (sz_le_keys true _ (cov24 (.inr rfl) n 0 t (by omega) ht)) (keys_len _ _ _ _ hn ht)
 ·exact Nat.le_trans (sz_le_keys false _ (cov5 n 0 t (by omega) ht)) (keys_len _ _ _ _ hn ht)
theorem tsz_nodeE (f l:Nat) (x y:Nat × Tr):tsz (nodeE f l x y)≤1+tsz x.2+tsz y.2:=by
 rcases nodeE_form f l x y with ⟨t,b,tl,u,th,v,e1,_,_,e3,e⟩ | ⟨t,b,tl,u,th,v,e1,_,_,_,e⟩ | e
 ·rw [e,e1];simp [tsz];omega
 ·rw [e,e1];simp [tsz];omega
 ·rw [e];simp [tsz]
theorem tsz_mk (f l:Nat) (x y:Nat × Tr):tsz (mkE f l x y).2≤1+tsz x.2+tsz y.2:=by
 have:=tsz_nodeE f l x y
 unfold mkE
 split
 ·split<;>simp<;>omega
 ·split
  ·omega
  ·split<;>simp<;>omega
theorem tsz_build (f:Nat):∀(k l:Nat) (t:List Bool),tsz (buildE f n k l t).2+1≤2 ^ (k+1):=by
 intro k
 induction k with
 | zero=>intro l t;simp [buildE,leafE,tsz]
 | succ k ih=>
  intro l t
  have h1:=ih (l+1) (t.take (2 ^ k))
  have h2:=ih (l+1) (t.drop (2 ^ k))
  have h3:=tsz_mk f l (buildE f n k (l+1) (t.take (2 ^ k))) (buildE f n k (l+1) (t.drop (2 ^ k)))
  rw [buildE,Nat.pow_succ]
  omega
end
theorem sizes_ok {n W:Nat} (p:List Nat) (hn:n≤4) (f:Nat) (h1:1≤f) (h5:f≤5):tsz (buildE f n n 0 (tabL W p n 0 0)).2≤1000000∧sizeN n W p f≤12:=by
 have h:=tsz_build (n:=n) f n 0 (tabL W p n 0 0)
 have h3:2 ^ (n+1)≤2 ^ 5:=Nat.pow_le_pow_right (by omega) (by omega)
 refine ⟨by omega,?_⟩
 have:=sz_le (t:=tabL W p n 0 0) h1 h5 hn (tabL_len _ _ _ _ _)
 unfold szT at this
 unfold sizeN
 omega
open Go.RowKit
def freeN (f t l top:Nat):Nat:=if f=1∨f=3 then top else if f=5 then t else l
theorem free2_c (f:Nat) (e:Ed) (he:e.t≤255) (l top:Nat) (w:World):Calls Tryz.prog 87 #[.int .u8 f,edv e,.int .i64 l,.int .i64 top] w fun e' w'=>e'=.returned (.int .i64 (freeN f e.t l top))∧Mod [] w w':=by
 obtain ⟨t,a⟩:=e
 unfold edv freeN
 simp only at he ⊢
 have h0:(0:Int)≤t:=by omega
 have h255:(t:Int)≤255:=by omega
 by_cases f1:f=1
 ·subst f1
  rw [if_pos (by simp)]
  go_enter Tryz.func87,Tryz.ntmps87
  go_wp2_with fail
  go_ret
  exact ⟨rfl,by exact mods⟩
 ·have n1:((f:Int)==1)=false:=by simp;omega
  by_cases f3:f=3
  ·subst f3
   rw [if_pos (by simp)]
   go_enter Tryz.func87,Tryz.ntmps87
   go_wp2_with fail
   go_ret
   exact ⟨rfl,by exact mods⟩
  ·have n3:((f:Int)==3)=false:=by simp;omega
   rw [if_neg (by omega)]
   by_cases f5:f=5
   ·subst f5
    rw [if_pos rfl]
    clear f1 n1 f3
    go_enter Tryz.func87,Tryz.ntmps87
    go_wp2_with fail
    go_ret
    exact ⟨rfl,by exact mods⟩
   ·have n5:((f:Int)==5)=false:=by simp;omega
    rw [if_neg f5]
    clear f1 f3 f5
    go_enter Tryz.func87,Tryz.ntmps87
    go_wp2_with fail
    go_ret
    exact ⟨rfl,by exact mods⟩
def oneN (r:Rc) (x:Nat):Bool:=if r.f=3 then !clearN x r.top (r.bot+1 - r.top) else x.testBit r.bot
def sideN (r:Rc) (x:Nat):Ed:=if oneN r x then r.hi else r.lo
theorem side_c (r:Rc) (n:Nat) (hr:RightR r n) (x:Nat) (hx:x < 65536) (w:World):Calls Tryz.prog 88 #[rcv r,.int .u16 x] w fun e' w'=>e'=.returned (edv (sideN r x))∧Mod [] w w':=by
 have b16:r.bot < 16:=Nat.lt_of_lt_of_le hr.bn hr.n16
 have tb:=hr.tb
 have BT:=Lib.hid (bit_at_16 x r.bot hx)
 have CL:=Lib.hid (clear_c x r.top (r.bot+1 - r.top) hx (by omega))
 have ee:r.top+(r.bot+1 - r.top)=r.bot+1:=by omega
 rw [ee,show ((r.bot+1:Nat):Int)=(r.bot:Int)+1 from by omega] at CL
 have SD:Hid (sideN r x=if oneN r x then r.hi else r.lo):=rfl
 have ON:Hid (oneN r x=if r.f=3 then !clearN x r.top (r.bot+1 - r.top) else x.testBit r.bot):=rfl
 generalize sideN r x=sd at *
 generalize oneN r x=one at *
 generalize clearN x r.top (r.bot+1 - r.top)=cl at *
 have hmin:min r.bot 16=r.bot:=by omega
 obtain ⟨f,top,bot,⟨lt,la⟩,⟨ht,ha⟩⟩:=r
 simp only at *
 unfold rcv
 simp only
 clear ee hr hx
 obtain ⟨g,hg⟩:∃g,w.heap.size=g:=⟨_,rfl⟩
 have b0:(0:Int)≤bot:=by omega
 have b16':(bot:Int) < 16:=by omega
 have MW:Hid (∀t a:Nat,Mod [] w ((w.alloc (.cells #[.int .u8 f,.int .u8 top,.int .u8 bot,.int .u8 lt,.int .u32 la,.int .u8 ht,.int .u32 ha] 134)).alloc (.cells #[.int .u8 t,.int .u32 a] 39))):=fun t a=>by exact mods
 have BW:Hid (∀t a:Nat,Blk ((w.alloc (.cells #[.int .u8 f,.int .u8 top,.int .u8 bot,.int .u8 lt,.int .u32 la,.int .u8 ht,.int .u32 ha] 134)).alloc (.cells #[.int .u8 t,.int .u32 a] 39)) (g+1) #[.int .u8 t,.int .u32 a] 39):=fun t a=>Blk.new' _ _ _ _ (by simp [hg])
 by_cases f3:f=3
 ·have n3:((f:Int)==3)=true:=by simp;omega
  rw [if_pos f3] at ON
  clear hmin BT f3
  cases cl with
  | true=>
   have hs:Hid (sd=⟨lt,la⟩):=by show _=_;rw [SD.out,ON.out];rfl
   obtain ⟨z0,z1⟩:=(BW.out lt la).cells2
   have M:=Lib.hid (MW.out lt la)
   clear SD ON BW MW
   go_enter Tryz.func88,Tryz.ntmps88
   go_wp2_with fail
   refine (CL.out _).mono ?_
   rintro e w1 ⟨rfl,rfl⟩
   go_wp2_with fail
   refine bodyPost_ret (v:=.agg #[.int .u8 lt,.int .u32 la]) (by simp [results,Tryz.results88,go_sem,z0,z1];try rfl) rfl ?_
   exact ⟨by rw [hs.out];rfl,M.out⟩
  | false=>
   have hs:Hid (sd=⟨ht,ha⟩):=by show _=_;rw [SD.out,ON.out];rfl
   obtain ⟨z0,z1⟩:=(BW.out ht ha).cells2
   have M:=Lib.hid (MW.out ht ha)
   clear SD ON BW MW
   go_enter Tryz.func88,Tryz.ntmps88
   go_wp2_with fail
   refine (CL.out _).mono ?_
   rintro e w1 ⟨rfl,rfl⟩
   go_wp2_with fail
   refine bodyPost_ret (v:=.agg #[.int .u8 ht,.int .u32 ha]) (by simp [results,Tryz.results88,go_sem,z0,z1];try rfl) rfl ?_
   exact ⟨by rw [hs.out];rfl,M.out⟩
 ·have n3:((f:Int)==3)=false:=by simp;omega
  rw [if_neg f3] at ON
  have BTo:=BT.out
  clear CL f3 BT
  cases hb:x.testBit bot with
  | true=>
   rw [hb] at BTo ON
   have hs:Hid (sd=⟨ht,ha⟩):=by show _=_;rw [SD.out,ON.out];rfl
   obtain ⟨z0,z1⟩:=(BW.out ht ha).cells2
   have M:=Lib.hid (MW.out ht ha)
   clear hb SD ON BW MW
   go_enter Tryz.func88,Tryz.ntmps88
   go_wp2_with fail
   refine bodyPost_ret (v:=.agg #[.int .u8 ht,.int .u32 ha]) (by simp [results,Tryz.results88,go_sem,z0,z1];try rfl) rfl ?_
   exact ⟨by rw [hs.out];rfl,M.out⟩
  | false=>
   rw [hb] at BTo ON
   have hs:Hid (sd=⟨lt,la⟩):=by show _=_;rw [SD.out,ON.out];rfl
   obtain ⟨z0,z1⟩:=(BW.out lt la).cells2
   have M:=Lib.hid (MW.out lt la)
   clear hb SD ON BW MW
   go_enter Tryz.func88,Tryz.ntmps88
   go_wp2_with fail
   refine bodyPost_ret (v:=.agg #[.int .u8 lt,.int .u32 la]) (by simp [results,Tryz.results88,go_sem,z0,z1];try rfl) rfl ?_
   exact ⟨by rw [hs.out];rfl,M.out⟩
def hT (f n x:Nat):Nat→Tr→Nat→Bool
 | _,.leaf false,_=>false
 | t,.leaf true,l=>clearN x (freeN f t l n) (n - freeN f t l n)
 | t,.node top bot tl a th b,l=>clearN x (freeN f t l top) (top - freeN f t l top) && (if (if f=3 then !clearN x top (bot+1 - top) else x.testBit bot) then hT f n x th b (bot+1) else hT f n x tl a (bot+1))
theorem freeN_le {L:List Rc} {f n l:Nat} {e:Ed} {r:Rc} (h:LeadsP L f e l n) (hr:recAt L e.a=some r):freeN f e.t l r.top≤r.top:=by
 rcases h.at_ with h1 | ⟨r',h2,h3,h4,h5,h6⟩
 ·have:=(recAt_lt hr).1;omega
 ·rw [hr] at h2
  obtain rfl:=Option.some.inj h2
  unfold freeN
  split
  ·omega
  ·split
   ·omega
   ·omega
theorem freeN_one {L:List Rc} {f n l:Nat} {e:Ed} (h:LeadsP L f e l n) (hl:l≤n) (ha:e.a=1):freeN f e.t l n≤n:=by
 have h2:=h.plain.2
 unfold freeN
 split
 ·omega
 ·split
  ·have:=h2 (by assumption) (by omega);omega
  ·omega
def ChT (f:Nat):Tr→Prop
 | .leaf _=>True
 | .node t b _ _ _ _=>t=b∨f=3∨f=4
theorem ChT.mk {f l:Nat} {x y:Nat × Tr} (hx:ChT f x.2):ChT f (mkE f l x y).2:=by
 have hn:ChT f (nodeE f l x y):=by
  rcases nodeE_form f l x y with ⟨t,b,tl,u,th,v,_,h,_,_,e⟩ | ⟨t,b,tl,u,th,v,_,h,_,_,e⟩ | e
  ·rw [e];exact .inr (.inl h)
  ·rw [e];exact .inr (.inr h)
  ·rw [e];exact .inl rfl
 unfold mkE
 split
 ·split
  ·exact hx
  ·exact hn
 ·split
  ·exact hx
  ·split
   ·exact hx
   ·exact hn
theorem ChT.build (f n:Nat):∀(k l:Nat) (t:List Bool),ChT f (buildE f n k l t).2:=by
 intro k
 induction k with
 | zero=>intro l t;simp [buildE,leafE,ChT]
 | succ k ih=>intro l t;rw [buildE];exact ChT.mk (ih _ _)
theorem clearN_cons (x l d:Nat) (h:0 < d):clearN x l d=(!x.testBit l && clearN x (l+1) (d - 1)):=by
 obtain ⟨m,rfl⟩:∃m,d=m+1:=⟨d - 1,by omega⟩
 rfl
theorem hT_lvl {f n x:Nat} (h:f≠2) (h4:f≠4) (h1:1≤f) (h5:f≤5) (t l l':Nat) (T:Tr):hT f n x t T l=hT f n x t T l':=by
 have e:∀top,freeN f t l top=freeN f t l' top:=fun top=>by
  unfold freeN
  by_cases q:f=1∨f=3
  ·rw [if_pos q,if_pos q]
  ·rw [if_neg q,if_neg q,if_pos (by omega),if_pos (by omega)]
 cases T with
 | leaf b=>cases b with
  | false=>rfl
  | true=>show clearN x (freeN f t l n) (n - freeN f t l n)=clearN x (freeN f t l' n) (n - freeN f t l' n);rw [e]
 | node a b tl u th v=>rw [hT,hT,e]
theorem fr5 (t l top:Nat):freeN 5 t l top=t:=by simp [freeN]
theorem fr24 {f:Nat} (h:f=2∨f=4) (t l top:Nat):freeN f t l top=l:=by unfold freeN;rw [if_neg (by omega),if_neg (by omega)]
theorem fr13 {f:Nat} (h:f=1∨f=3) (t l top:Nat):freeN f t l top=top:=by unfold freeN;rw [if_pos h]
theorem hT_node (f n x t top bot tl:Nat) (a:Tr) (th:Nat) (b:Tr) (l:Nat):hT f n x t (.node top bot tl a th b) l=(clearN x (freeN f t l top) (top - freeN f t l top) && (if (if f=3 then !clearN x top (bot+1 - top) else x.testBit bot) then hT f n x th b (bot+1) else hT f n x tl a (bot+1))):=rfl
theorem hT_vw {f n l:Nat} (h1:1≤f) (h5:f≤5) (hl:l < n) {e:Nat × Tr} (hv:VE f l e) (hc:ChT f e.2) (x:Nat):
 hT f n x e.1 e.2 l=if x.testBit l then hT f n x (vw f l e).2.1 (vw f l e).2.2 (l+1) else hT f n x (vw f l e).1.1 (vw f l e).1.2 (l+1):=by
 obtain ⟨tag,T⟩:=e
 simp only at hc ⊢
 by_cases hz:T=.leaf false
 ·subst hz
  unfold vw
  rw [if_pos (show f=5∧¬(tag,Tr.leaf false).1=l∨(tag,Tr.leaf false).2=.leaf false from .inr rfl)]
  show false=if x.testBit l=true then false else false
  split<;>rfl
 by_cases f5:f=5
 ·subst f5
  unfold VE at hv
  simp only [if_true] at hv
  rcases hv with hv | ⟨-,hv1,hv2⟩
  ·simp at hv;exact absurd hv.2 hz
  try simp only at hv1 hv2
  unfold vw
  by_cases ht:tag=l
  ·subst ht
   rw [if_neg (show ¬((5:Nat)=5∧¬(tag,T).1=tag∨(tag,T).2=.leaf false) from by simp [hz])]
   cases T with
   | leaf b=>
    cases b with
    | false=>exact absurd rfl hz
    | true=>
     show clearN x (freeN 5 tag tag n) (n - freeN 5 tag tag n)=if x.testBit tag=true then false else clearN x (freeN 5 (tag+1) (tag+1) n) (n - freeN 5 (tag+1) (tag+1) n)
     rw [fr5,fr5,clearN_cons x tag (n - tag) (by omega)]
     cases x.testBit tag
     ·simp;rw [show n - tag - 1=n - (tag+1) by omega]
     ·simp
   | node t b tl u th v=>
    have htb:t=b:=by simp [ChT] at hc;exact hc
    subst htb
    simp only
    by_cases q:t=tag
    ·subst q
     rw [if_pos rfl,if_pos rfl,hT]
     rw [fr5,Nat.sub_self]
     simp [clearN]
    ·have hlt:tag < t:=by have:=hv2.1;omega
     simp only [if_neg q,if_true]
     rw [hT_node,fr5,clearN_cons x tag (t - tag) (by omega)]
     cases x.testBit tag
     ·rw [if_neg (show ¬(false=true) from by simp),hT_node,fr5,show t - tag - 1=t - (tag+1) by omega]
      simp
     ·rw [if_pos rfl]
      simp [hT]
  ·rw [if_pos (show (5:Nat)=5∧¬(tag,T).1=l∨(tag,T).2=.leaf false from .inl ⟨rfl,ht⟩)]
   rw [hT_lvl (by omega) (by omega) h1 h5 tag l (l+1)]
   split<;>rfl
 ·unfold VE at hv
  simp only [f5,if_false] at hv
  obtain ⟨hv0,hv1⟩:=hv
  try simp only at hv0
  subst hv0
  unfold vw
  rw [if_neg (show ¬(f=5∧¬((0:Nat),T).1=l∨((0:Nat),T).2=.leaf false) from by simp [f5,hz])]
  cases T with
  | leaf b=>
   cases b with
   | false=>exact absurd rfl hz
   | true=>
    simp only [f5,if_false]
    by_cases f24:f=2∨f=4
    ·rw [if_pos f24]
     show clearN x (freeN f 0 l n) (n - freeN f 0 l n)=if x.testBit l=true then false else clearN x (freeN f 0 (l+1) n) (n - freeN f 0 (l+1) n)
     rw [fr24 f24,fr24 f24,clearN_cons x l (n - l) (by omega)]
     cases x.testBit l
     ·simp;rw [show n - l - 1=n - (l+1) by omega]
     ·simp
    ·rw [if_neg f24,hT_lvl (by omega) (by omega) h1 h5 0 l (l+1)]
     split<;>rfl
  | node t b tl u th v=>
   have hge:=hv1.1
   have htb:=hv1.2
   simp only
   by_cases q:t=l
   ·subst q
    rw [if_pos rfl]
    by_cases qb:b=t
    ·subst qb
     rw [if_pos rfl,hT]
     have e0:freeN f 0 b b=b:=by unfold freeN;split<;>(try split)<;>first | rfl | omega
     rw [e0,Nat.sub_self]
     by_cases f3:f=3
     ·subst f3
      rw [if_pos rfl,show b+1 - b=1 by omega]
      cases hb:x.testBit b<;>simp [clearN,hb]
     ·rw [if_neg f3]
      simp [clearN]
    ·rw [if_neg qb]
     have f34:f=3∨f=4:=by simp [ChT] at hc;omega
     rcases f34 with rfl | rfl
     ·rw [if_pos rfl]
      simp only
      rw [hT_node,fr13 (.inr rfl),Nat.sub_self]
      simp only [if_true]
      rw [clearN_cons x t (b+1 - t) (by omega)]
      cases hb:x.testBit t
      ·rw [if_neg (show ¬(false=true) from by simp),hT_node,fr13 (.inr rfl),Nat.sub_self,show b+1 - t - 1=b+1 - (t+1) by omega]
       simp [clearN]
      ·rw [if_pos rfl,hT_lvl (by omega) (by omega) h1 h5 th (t+1) (b+1)]
       simp [clearN]
     ·rw [if_neg (show ¬(4:Nat)=3 by omega)]
      rw [hT_node,hT_node,fr24 (.inr rfl),fr24 (.inr rfl),Nat.sub_self,Nat.sub_self]
      simp [clearN]
   ·rw [if_neg q,if_neg f5]
    have hlt:l < t:=by omega
    by_cases f24:f=2∨f=4
    ·rw [if_pos f24]
     simp only
     rw [hT_node,fr24 f24,clearN_cons x l (t - l) (by omega)]
     cases x.testBit l
     ·rw [if_neg (show ¬(false=true) from by simp),hT_node,fr24 f24,show t - l - 1=t - (l+1) by omega]
      simp
     ·rw [if_pos rfl]
      simp [hT]
    ·rw [if_neg f24,hT_lvl (by omega) (by omega) h1 h5 0 l (l+1)]
     split<;>rfl
def atT:Nat→Nat→Nat→List Bool→Bool
 | 0,_,_,t=>t.headD false
 | k+1,l,x,t=>if x.testBit l then atT k (l+1) x (t.drop (2 ^ k)) else atT k (l+1) x (t.take (2 ^ k))
theorem hT_build {f n:Nat} (h1:1≤f) (h5:f≤5) (x:Nat):∀(k l:Nat) (t:List Bool),l+k=n→hT f n x (buildE f n k l t).1 (buildE f n k l t).2 l=atT k l x t:=by
 intro k
 induction k with
 | zero=>
  intro l t hl
  obtain rfl:l=n:=by omega
  rw [buildE,atT]
  cases t.headD false with
  | false=>rfl
  | true=>
   show clearN x (freeN f (leafE f l true).1 l l) (l - freeN f (leafE f l true).1 l l)=true
   have e:freeN f (leafE f l true).1 l l=l:=by
    unfold freeN leafE
    by_cases q:f=5
    ·simp [q]
    ·simp [q]
   rw [e,Nat.sub_self]
   rfl
 | succ k ih=>
  intro l t hl
  have v1:=build_VE f n k (l+1) (t.take (2 ^ k)) (by omega)
  have v2:=build_VE f n k (l+1) (t.drop (2 ^ k)) (by omega)
  rw [hT_vw h1 h5 (by omega) (build_VE f n (k+1) l t hl) (ChT.build f n (k+1) l t) x]
  rw [buildE,vw_mk h1 h5 v1 v2,atT,ih (l+1) _ (by omega),ih (l+1) _ (by omega)]
end Go.Proofs.YtnbjnnijifiaaaaGreatDoor
