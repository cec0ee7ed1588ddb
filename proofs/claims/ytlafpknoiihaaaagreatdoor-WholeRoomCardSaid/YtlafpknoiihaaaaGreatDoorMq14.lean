/- Mq14: Vl · Ho · Ph · Zd · Ej · El · Ed · Em · J1 · J2 -/
import Derived.Test.YtlafpknoiihaaaaGreatDoorMq12
import Derived.Test.YtlafpknoiihaaaaGreatDoorMq13
import Derived.Test.YtlafpknoiihaaaaGreatDoorMq09
import Derived.Test.YtlafpknoiihaaaaGreatDoorMq07
import Derived.Test.YtlafpknoiihaaaaGreatDoorMq02
set_option maxRecDepth 100000
set_option maxHeartbeats 4000000
set_option linter.unusedVariables false
set_option linter.unusedSimpArgs false
namespace Go.Proofs.YtlafpknoiihaaaaGreatDoor
open Go.RowKit
theorem ranges_mod {P:Program} {k:TypeId} {R:Value→Option (DataW Unit × List MemPlace)} {w w':World} {b r n:Nat} {D:DataW Unit} {left:Lit→Bool} {cnt:Nat} {S:List Nat} (h:w.ranges P k R b r n D left cnt) (m:Mod S w w') (hb':b∉S) (hr':r∉S):w'.ranges P k R b r n D left cnt:=by
 have h1:=h.owns.lt
 have h2:=h.lt
 obtain ⟨es,clock,since,seen,c0,hb,F,hs,hD,hr,rest⟩:=h
 exact ⟨es,clock,since,seen,c0,(m.block b h1 hb').trans hb,F,hs,hD,(m.block r h2 hr').trans hr,rest⟩
def CollN (D:DataW Unit) (left:Lit→Bool) (l:List Nat):Prop:=l.Nodup∧∀id:Nat,id∈l↔(Maps.has D (.int .u32 id)=true∧left (.int .u32 id)=false)
theorem CollN.start (D:DataW Unit):CollN D (Maps.has D) []:=⟨List.nodup_nil,fun x=>by cases Maps.has D (.int .u32 x)<;>simp⟩
theorem CollN.step {D:DataW Unit} {left:Lit→Bool} {l:List Nat} (h:CollN D left l) {x:Nat} {y:DataW Unit} (hlk:left (.int .u32 x)=true) (hat:∀zd,D.atKey (.int .u32 x) zd=y):CollN D (fun z=>left z && !z.sameKey (.int .u32 x)) (l++[x]):=by
 have hhas:Maps.has D (.int .u32 x)=true:=Maps.has_true_of_atKey hat
 have hnew:x∉l:=fun hx=>by have:=((h.2 x).1 hx).2;rw [hlk] at this;cases this
 refine ⟨List.nodup_append.2 ⟨h.1,by simp,fun a ha b hb=>by simp at hb;subst hb;exact fun e=>hnew (e▸ha)⟩,fun y=>?_⟩
 by_cases hy:y=x
 ·subst hy;simp [hhas,Lit.sameKey]
 ·have hy':¬(y:Int)=(x:Int):=by omega
  simp [h.2 y,hy,hy',Lit.sameKey]
def eu (x:Nat):Value:=.int .u32 (x:Int)
theorem Tryz.infoU:(Tryz.prog.info? 64).map (fun i=>(i.zero,i.size,i.bytes))=some (some (.int .u32 0),1,4):=by kernel_rfl
def ReachP (w:World) (L:List Rc) (ts:List (Nat × Tr)) (e:Ending) (w':World):Prop:=
 ∃A cap,∃l:List Nat,e=.returned (.slice A l.length cap)∧l.Nodup∧(∀id,id∈l↔idsAll L ts id)∧Mod [] w w'
theorem reach_c {w:World} {b n:Nat} {L:List Rc} {room:Nat} {F:List Nat} (h:IsSt w b n L room F) (hL:L.length≤1048576) (hnd:L.Nodup) {A:Option Addr} {k cap:Nat} {es:List Ed} (hes:EdRow w A k cap es) {ts:List (Nat × Tr)} (hts:EdTrees L es ts)
 (hk:k≤100000) (hsz:tszs ts≤1000000) (hfew:∀l:List Nat,l.Nodup→(∀id∈l,idsAll L ts id)→l.length≤12):
 Calls Tryz.prog 150 #[.pointer (some ⟨b,0,none⟩),.slice A k cap] w (ReachP w L ts):=by
 have RC:=Lib.hid (reached_c h hL hnd hes hts hk hsz)
 have HFEW:=Lib.hid hfew
 have hcap:=hes.2.1
 obtain ⟨i0,hi,hz0,hz1,hz2⟩:=info_parts Tryz.infoU
 clear h hes hts hnd hfew
 go_enter Tryz.func150,Tryz.ntmps150
 go_wp2_with fail
 refine RC.out.mono ?_
 rintro e w1 ⟨bm,nm,rfl,⟨D,hown,hD1,hD2,hD3⟩,hnm,hge,m1⟩
 have M1:=Lib.hid m1
 have HD:=Lib.hid hD2
 have hsz1:=m1.size
 clear m1 RC hD2 hD1 hD3
 go_wp2_with (at_range;refine Go.wpList_range_own _ rfl _ 227 rfl 64 3 keyU32 Tryz.underlying227 _ bm nm D rfl hown ?_;intro w2 hrg0 hg0 hs0)
 go_frame
 obtain ⟨r,hr⟩:∃r,w1.heap.size=r:=⟨_,rfl⟩
 rw [hr] at hrg0 hs0 ⊢
 have M2:Hid (Mod [] w w2):=M1.out.trans' ((Mod.refl [] w1).grown hg0 (by simp))
 have hrw:w.heap.size≤r:=by omega
 clear hown hg0
 go_loopw [5] (fun v wr=>∃(left:Lit→Bool) (cnt:Nat) (l F':List Nat),wr.ranges Tryz.prog 64 (plainElem Tryz.prog 3) bm r nm D left cnt∧Hid (CollN D left l)∧Hid (Sl wr 64 1 v l.length (l.map eu) F')∧Hid (∀k∈F',w.heap.size≤k∧k≠r∧k≠bm)∧Hid (Mod [] w wr)) (fun _ wr=>wr.rangeLeft bm r)
 case atStart=>exact ⟨_,_,[],[],hrg0,CollN.start D,Sl.nil _ _ _,by intro k hk;simp at hk,M2⟩
 case round=>
  obtain ⟨left,cnt,l,F',hrg,HC,HS,HF,HM⟩:=hrel
  have HL:Hid (l.length≤12):=HFEW.out l HC.out.1 (fun id h=>(HD.out id).2 ((HC.out.2 id).1 h).1)
  have hbl:=hrg.owns.lt
  have hrl:=hrg.lt
  obtain ⟨Ao,capo,rfl,hcapo⟩:=HS.out.shape
  go_wp2_with (at_next;refine Go.wpList_next_ranges_ii _ rfl _ rfl 64 3 .u32 .i64 keyU32 Tryz.underlying64 Tryz.underlying3 bm r nm D left cnt rfl hrg ?_ ?_)
  ·intro hc0 hl0
   have hmem:∀id,id∈l↔idsAll L ts id:=fun id=>by
    rw [HC.out.2 id,HD.out id,hl0];simp
   have HMEM:=Lib.hid hmem
   rcases Nat.eq_zero_or_pos l.length with h0 | h0
   ·have hnil:l=[]:=List.eq_nil_of_length_eq_zero h0
    subst hnil
    have SN:=Lib.hid (sort_none (w:=wr) Ao capo)
    clear hmem hrg hbl hrl h0 hcapo
    simp only [List.length_nil]
    go_wp2_with fail
    refine SN.out.mono ?_
    rintro e w' ⟨rfl,rfl⟩
    go_wp2_with fail
    go_ret
    exact ⟨Ao,capo,[],rfl,List.nodup_nil,HMEM.out,HM.out⟩
   ·obtain ⟨g,cap',e,hF',_⟩:=HS.out.pos h0
    have hU:U32s wr g 0 l.length:=fun i hi=>by
     have hs:=HS.out
     rw [e] at hs
     obtain ⟨c1,c2,_⟩:=hs.at i (by omega)
     rw [List.getElem?_map,List.getElem?_eq_getElem hi] at c1
     refine ⟨l[i],?_,by rw [Nat.zero_add];exact c1,by rw [Nat.zero_add];exact c2⟩
     have hx:=(HMEM.out l[i]).1 (List.getElem_mem _)
     obtain ⟨x,hx1,S,hS,hr⟩:=hx
     rcases hr.ge with ⟨_,_,h⟩ | ⟨_,h⟩<;>omega
    simp at e
    obtain ⟨rfl,rfl⟩:=e
    have SO:=Lib.hid (sort_c g 0 l.length capo HL.out hcapo hU)
    have hgw:=(HF.out g (by simp [hF'])).1
    obtain ⟨N,hN⟩:∃N,l.length=N:=⟨_,rfl⟩
    rw [hN] at SO hcapo h0 ⊢
    have HNL:=Lib.hid hN
    clear hmem hrg hbl hrl hU hF' hN
    go_wp2_with fail
    refine SO.out.mono ?_
    rintro e w' ⟨rfl,hm⟩
    have HM2:=Lib.hid (HM.out.trans hm (by intro i hi h;simp at h;omega))
    clear hm
    go_wp2_with fail
    go_ret
    exact ⟨_,capo,l,by rw [HNL.out];rfl,HC.out.1,HMEM.out,HM2.out⟩
  ·intro x c w3 cnt3 hwx hwc hlk hat hrg3 hlt3 hg3 hs3 hen
   obtain ⟨n,rfl,hn32⟩:∃n:Nat,x=(n:Int)∧n≤4294967295:=by
    have h1:IntKind.u32.min=0:=rfl
    have h2:IntKind.u32.max=4294967295:=rfl
    simp [Lit.wf,h1,h2] at hwx
    exact ⟨x.toNat,by omega,by omega⟩
   have m3:Mod [r] wr w3:=(Mod.refl [r] wr).grown hg3 (by intro k hk _;simp at hk;simp [hk])
   have HC3:=Lib.hid (HC.out.step hlk hat)
   have HS3:=Lib.hid (HS.out.mod m3 (fun k hk=>by simp;exact (HF.out k hk).2.1))
   have HM3:=Lib.hid (HM.out.trans m3 (by intro i hi h;simp at h;omega))
   have HRO:=Lib.hid hrg
   have HR3:=Lib.hid hrg3
   have HLT:=Lib.hid hlt3
   obtain ⟨N,hN⟩:∃N,l.length=N:=⟨_,rfl⟩
   have HLL:Hid (∀q,(l.map eu).length=q→q=N):=fun q h=>by rw [←h,List.length_map];exact hN
   rw [hN] at HS3 HL hcapo ⊢
   have HNL:=Lib.hid hN
   have hN12:=HL.out
   clear hrg hrg3 hlt3 hg3 hs3 m3 hwx hwc hlk hat hrl hbl hN
   go_wp2_with (at_builtin;refine wpList_append_sl _ rfl _ _ 164 rfl 64 i0 (.int .u32 0) 1 4 Tryz.underlying164 hi hz0 hz1 hz2 rfl (by decide) _ N (l.map eu) F' rfl (HS3.out.mod (S:=[]) (by exact mods) (by simp)) ⟨_,0,none⟩ 1 1 [eu n] (by decide) rfl rfl (by intro j u hu;exact list_new_at _ _ _ _ (by simp) j u hu) (by intro u hu;simp at hu;subst hu;rfl) (by unfold maxLen;omega) (by omega) ?_;intro v5 w5 F5 hs5 hm5 hf5)
   have hm35:Mod F' w3 w5:=((Mod.refl F' w3).alloc (.cells #[.int .u32 n] 64)).trans' hm5
   have hr5:=ranges_mod HR3.out hm35 (fun h=>(HF.out _ h).2.2 rfl) (fun h=>(HF.out _ h).2.1 rfl)
   refine ⟨⟨_,cnt3,l++[n],F5,hr5,HC3.out,?_,?_,HM3.out.trans hm35 (by intro i hi h;have:=(HF.out i h).1;omega)⟩,?_⟩
   ·show Sl _ _ _ _ _ _ _
    rw [List.length_append,HNL.out,List.map_append]
    exact hs5
   ·show ∀k∈F5,_
    intro k hk
    rcases hf5 k hk with h | h
    ·exact HF.out k h
    ·have h1:=HR3.out.lt
     have h2:=HR3.out.owns.lt
     have h3:=HM3.out.size
     simp at h
     exact ⟨by omega,by omega,by omega⟩
   ·rw [hr5.left_eq,HRO.out.left_eq]
    exact HLT.out
theorem canonMay_c {w:World} {b n:Nat} {L:List Rc} {room:Nat} {F:List Nat} (h:IsSt w b n L room F) (hL:L.length≤1048576) (hn:n≤16) (f:Nat) (h1:1≤f) (h5:f≤5) (e:Ed) (l:Nat) (hl:l≤n) (hP:LeadsP L f e l n):
 Calls Tryz.prog 92 #[.pointer (some ⟨b,0,none⟩),.int .u8 f,edv e,.int .i64 l] w fun e w'=>e=.returned (.int .u8 0)∧Mod [] w w':=by
 have LD:Hid (∀W,Mod [] w W→_):=fun W m=>stLeads_c (h.mod m (by simp)) hL hn f h1 h5 e l hl hP
 have VA:Hid (∀W',Mod [] w W'→Calls Tryz.prog 59 #[.pointer (some ⟨b,0,none⟩)] W' fun e w'=>e=.returned (.int .i64 n)∧w'=W'):=fun W' m=>by
  obtain ⟨ba,bi,Fa,c0,_⟩:=(h.mod m (by simp)).own
  exact stVars_c b n W' c0
 have IF:=Lib.hid (isForm_c f h1 h5)
 have hl':(l:Int)≤n:=by omega
 obtain ⟨t,a⟩:=e
 unfold edv at *
 simp only at LD ⊢
 obtain ⟨gk,hgk⟩:∃gk,w.heap.size=gk:=⟨_,rfl⟩
 clear h hP
 go_enter Tryz.func92,Tryz.ntmps92
 go_wp2_with fail
 refine (IF.out _).mono ?_
 rintro e w1 ⟨rfl,rfl⟩
 go_wp2_with fail
 refine (VA.out _ (by exact mods)).mono ?_
 rintro e w1 ⟨rfl,rfl⟩
 go_wp2_with fail
 refine (LD.out _ (by exact mods)).mono ?_
 rintro e w2 ⟨rfl,m2⟩
 have M2:=Lib.hid (Mod.trans' (show Mod [] w _ from by exact mods) m2)
 clear m2
 go_wp2_with fail
 go_ret
 exact ⟨rfl,M2.out⟩
theorem canonSize_c {w:World} {b n:Nat} {L:List Rc} {room:Nat} {F:List Nat} (h:IsSt w b n L room F) (hL:L.length≤1048576) (hnd:L.Nodup) (hn:n≤16) (f:Nat) (h1:1≤f) (h5:f≤5) (e:Ed) (l:Nat) (hl:l≤n) (hP:LeadsP L f e l n) {x:Nat × Tr} (hR:RepE L f e x) (hsz:tsz x.2≤1000000) (hfew:(dis [] (nds x.2)).length≤12):
 Calls Tryz.prog 129 #[.pointer (some ⟨b,0,none⟩),.int .u8 f,edv e,.int .i64 l] w fun e w'=>e=.returned (.tuple #[.int .i64 (dis [] (nds x.2)).length,.int .u8 0])∧Mod [] w w':=by
 have MY:Hid (∀W,Mod [] w W→_):=fun W m=>canonMay_c (h.mod m (by simp)) hL hn f h1 h5 e l hl hP
 have few:∀l:List Nat,l.Nodup→(∀id∈l,idsAll L [(f,x.2)] id)→l.length≤(dis [] (nds x.2)).length:=fun l hl hm=>
  nodup_le_rel (fun id S=>Rep L f id S) (fun a a' b h k=>Rep.inj hnd h k) hl (fun id hid=>by
   obtain ⟨y,hy,S,hS,hr⟩:=hm id hid
   simp at hy;subst hy
   exact ⟨S,by rw [dis_mem];exact .inr hS,hr⟩)
 have RE:Hid (∀(W:World) (g:Nat),Mod [] w W→Blk W g #[.int .u8 e.t,.int .u32 e.a] 66→Calls Tryz.prog 150 #[.pointer (some ⟨b,0,none⟩),.slice (some ⟨g,0,none⟩) 1 1] W fun e' w'=>∃A cap,e'=.returned (.slice A (dis [] (nds x.2)).length cap)∧Mod [] W w'):=fun W g m hb=>by
  refine (reach_c (h.mod m (by simp)) hL hnd (A:=some ⟨g,0,none⟩) (k:=1) (cap:=1) (es:=[e]) ⟨rfl,by omega,fun i hi=>?_⟩ (ts:=[(f,x.2)]) ⟨rfl,fun i h1 h2=>?_⟩ (by omega) (by rw [tszs_one];exact hsz) (fun l hl hm=>Nat.le_trans (few l hl hm) hfew)).mono ?_
  ·obtain rfl:i=0:=by simpa using hi
   exact ⟨g,0,rfl,hb.lt,hb.cells2.1,hb.cells2.2⟩
  ·obtain rfl:i=0:=by simpa using h1
   exact hR.a
  ·rintro e' w' ⟨A,cap,l,rfl,hl,hm,hmod⟩
   have e:l.length=(dis [] (nds x.2)).length:=ids_len hnd hR.a hl (fun id=>by
    rw [hm id]
    constructor
    ·rintro ⟨y,hy,h⟩;simp at hy;subst hy;exact h
    ·intro h;exact ⟨(f,x.2),by simp,h⟩)
   exact ⟨A,cap,by rw [e],hmod⟩
 have hN12:=hfew
 generalize (dis [] (nds x.2)).length=N at *
 obtain ⟨t,a⟩:=e
 unfold edv at *
 simp only at MY RE ⊢
 obtain ⟨gk,hgk⟩:∃gk,w.heap.size=gk:=⟨_,rfl⟩
 clear h hP hR few hsz hnd hfew
 go_enter Tryz.func129,Tryz.ntmps129
 go_wp2_with fail
 refine (MY.out _ (by exact mods)).mono ?_
 rintro e w2 ⟨rfl,m2⟩
 have M2:=Lib.hid (Mod.trans' (show Mod [] w _ from by exact mods) m2)
 have BR:=(Blk.new' w _ _ gk hgk.symm).mod m2 (by simp)
 have hbl:=BR.lt
 obtain ⟨e0,e1⟩:=BR.cells2
 obtain ⟨gs,hgs⟩:∃gs,w2.heap.size=gs:=⟨_,rfl⟩
 have hks:gk < gs:=by omega
 have hks1:¬gk=gs:=by omega
 clear m2 BR hgk MY
 go_wp2_with fail
 refine (RE.out _ gs (M2.out.trans' (show Mod [] w2 _ from by exact mods)) (Blk.new' w2 _ _ gs hgs.symm)).mono ?_
 rintro e w3 ⟨A,cap,rfl,m3⟩
 have M3:=Lib.hid ((M2.out.trans' (show Mod [] w2 _ from by exact mods)).trans' m3)
 clear m3
 go_wp2_with fail
 go_ret2
 exact ⟨rfl,M3.out⟩
open Go.RowKit
def freeN (f t l top:Nat):Nat:=if f=1∨f=3 then top else if f=5 then t else l
theorem free2_c (f:Nat) (e:Ed) (he:e.t≤255) (l top:Nat) (w:World):Calls Tryz.prog 95 #[.int .u8 f,edv e,.int .i64 l,.int .i64 top] w fun e' w'=>e'=.returned (.int .i64 (freeN f e.t l top))∧Mod [] w w':=by
 obtain ⟨t,a⟩:=e
 unfold edv freeN
 simp only at he ⊢
 have h0:(0:Int)≤t:=by omega
 have h255:(t:Int)≤255:=by omega
 by_cases f1:f=1
 ·subst f1
  rw [if_pos (by simp)]
  go_enter Tryz.func95,Tryz.ntmps95
  go_wp2_with fail
  go_ret
  exact ⟨rfl,by exact mods⟩
 ·have n1:((f:Int)==1)=false:=by simp;omega
  by_cases f3:f=3
  ·subst f3
   rw [if_pos (by simp)]
   go_enter Tryz.func95,Tryz.ntmps95
   go_wp2_with fail
   go_ret
   exact ⟨rfl,by exact mods⟩
  ·have n3:((f:Int)==3)=false:=by simp;omega
   rw [if_neg (by omega)]
   by_cases f5:f=5
   ·subst f5
    rw [if_pos rfl]
    clear f1 n1 f3
    go_enter Tryz.func95,Tryz.ntmps95
    go_wp2_with fail
    go_ret
    exact ⟨rfl,by exact mods⟩
   ·have n5:((f:Int)==5)=false:=by simp;omega
    rw [if_neg f5]
    clear f1 f3 f5
    go_enter Tryz.func95,Tryz.ntmps95
    go_wp2_with fail
    go_ret
    exact ⟨rfl,by exact mods⟩
def oneN (r:Rc) (x:Nat):Bool:=if r.f=3 then !clearN x r.top (r.bot+1 - r.top) else x.testBit r.bot
def sideN (r:Rc) (x:Nat):Ed:=if oneN r x then r.hi else r.lo
theorem side_c (r:Rc) (n:Nat) (hr:RightR r n) (x:Nat) (hx:x < 65536) (w:World):Calls Tryz.prog 96 #[rcv r,.int .u16 x] w fun e' w'=>e'=.returned (edv (sideN r x))∧Mod [] w w':=by
 have b16:r.bot < 16:=Nat.lt_of_lt_of_le hr.bn hr.n16
 have tb:=hr.tb
 have BT:=Lib.hid (bit_at_16 x r.bot hx)
 have CL:=Lib.hid (clear_c x r.top (r.bot+1 - r.top) hx (by omega))
 have ee:r.top+(r.bot+1 - r.top)=r.bot+1:=by omega
 rw [ee,show ((r.bot+1:Nat):Int)=(r.bot:Int)+1 from by omega] at CL
 have SD:Hid (sideN r x=if oneN r x then r.hi else r.lo):=rfl
 have ON:Hid (oneN r x=if r.f=3 then !clearN x r.top (r.bot+1 - r.top) else x.testBit r.bot):=rfl
 generalize sideN r x=sd at *
 generalize oneN r x=one at *
 generalize clearN x r.top (r.bot+1 - r.top)=cl at *
 have hmin:min r.bot 16=r.bot:=by omega
 obtain ⟨f,top,bot,⟨lt,la⟩,⟨ht,ha⟩⟩:=r
 simp only at *
 unfold rcv
 simp only
 clear ee hr hx
 obtain ⟨g,hg⟩:∃g,w.heap.size=g:=⟨_,rfl⟩
 have b0:(0:Int)≤bot:=by omega
 have b16':(bot:Int) < 16:=by omega
 have MW:Hid (∀t a:Nat,Mod [] w ((w.alloc (.cells #[.int .u8 f,.int .u8 top,.int .u8 bot,.int .u8 lt,.int .u32 la,.int .u8 ht,.int .u32 ha] 108)).alloc (.cells #[.int .u8 t,.int .u32 a] 66))):=fun t a=>by exact mods
 have BW:Hid (∀t a:Nat,Blk ((w.alloc (.cells #[.int .u8 f,.int .u8 top,.int .u8 bot,.int .u8 lt,.int .u32 la,.int .u8 ht,.int .u32 ha] 108)).alloc (.cells #[.int .u8 t,.int .u32 a] 66)) (g+1) #[.int .u8 t,.int .u32 a] 66):=fun t a=>Blk.new' _ _ _ _ (by simp [hg])
 by_cases f3:f=3
 ·have n3:((f:Int)==3)=true:=by simp;omega
  rw [if_pos f3] at ON
  clear hmin BT f3
  cases cl with
  | true=>
   have hs:Hid (sd=⟨lt,la⟩):=by show _=_;rw [SD.out,ON.out];rfl
   obtain ⟨z0,z1⟩:=(BW.out lt la).cells2
   have M:=Lib.hid (MW.out lt la)
   clear SD ON BW MW
   go_enter Tryz.func96,Tryz.ntmps96
   go_wp2_with fail
   refine (CL.out _).mono ?_
   rintro e w1 ⟨rfl,rfl⟩
   go_wp2_with fail
   refine bodyPost_ret (v:=.agg #[.int .u8 lt,.int .u32 la]) (by simp [results,Tryz.results96,go_sem,z0,z1];try rfl) rfl ?_
   exact ⟨by rw [hs.out];rfl,M.out⟩
  | false=>
   have hs:Hid (sd=⟨ht,ha⟩):=by show _=_;rw [SD.out,ON.out];rfl
   obtain ⟨z0,z1⟩:=(BW.out ht ha).cells2
   have M:=Lib.hid (MW.out ht ha)
   clear SD ON BW MW
   go_enter Tryz.func96,Tryz.ntmps96
   go_wp2_with fail
   refine (CL.out _).mono ?_
   rintro e w1 ⟨rfl,rfl⟩
   go_wp2_with fail
   refine bodyPost_ret (v:=.agg #[.int .u8 ht,.int .u32 ha]) (by simp [results,Tryz.results96,go_sem,z0,z1];try rfl) rfl ?_
   exact ⟨by rw [hs.out];rfl,M.out⟩
 ·have n3:((f:Int)==3)=false:=by simp;omega
  rw [if_neg f3] at ON
  have BTo:=BT.out
  clear CL f3 BT
  cases hb:x.testBit bot with
  | true=>
   rw [hb] at BTo ON
   have hs:Hid (sd=⟨ht,ha⟩):=by show _=_;rw [SD.out,ON.out];rfl
   obtain ⟨z0,z1⟩:=(BW.out ht ha).cells2
   have M:=Lib.hid (MW.out ht ha)
   clear hb SD ON BW MW
   go_enter Tryz.func96,Tryz.ntmps96
   go_wp2_with fail
   refine bodyPost_ret (v:=.agg #[.int .u8 ht,.int .u32 ha]) (by simp [results,Tryz.results96,go_sem,z0,z1];try rfl) rfl ?_
   exact ⟨by rw [hs.out];rfl,M.out⟩
  | false=>
   rw [hb] at BTo ON
   have hs:Hid (sd=⟨lt,la⟩):=by show _=_;rw [SD.out,ON.out];rfl
   obtain ⟨z0,z1⟩:=(BW.out lt la).cells2
   have M:=Lib.hid (MW.out lt la)
   clear hb SD ON BW MW
   go_enter Tryz.func96,Tryz.ntmps96
   go_wp2_with fail
   refine bodyPost_ret (v:=.agg #[.int .u8 lt,.int .u32 la]) (by simp [results,Tryz.results96,go_sem,z0,z1];try rfl) rfl ?_
   exact ⟨by rw [hs.out];rfl,M.out⟩
def hT (f n x:Nat):Nat→Tr→Nat→Bool
 | _,.leaf false,_=>false
 | t,.leaf true,l=>clearN x (freeN f t l n) (n - freeN f t l n)
 | t,.node top bot tl a th b,l=>clearN x (freeN f t l top) (top - freeN f t l top) && (if (if f=3 then !clearN x top (bot+1 - top) else x.testBit bot) then hT f n x th b (bot+1) else hT f n x tl a (bot+1))
theorem freeN_le {L:List Rc} {f n l:Nat} {e:Ed} {r:Rc} (h:LeadsP L f e l n) (hr:recAt L e.a=some r):freeN f e.t l r.top≤r.top:=by
 rcases h.at_ with h1 | ⟨r',h2,h3,h4,h5,h6⟩
 ·have:=(recAt_lt hr).1;omega
 ·rw [hr] at h2
  obtain rfl:=Option.some.inj h2
  unfold freeN
  split
  ·omega
  ·split
   ·omega
   ·omega
theorem freeN_one {L:List Rc} {f n l:Nat} {e:Ed} (h:LeadsP L f e l n) (hl:l≤n) (ha:e.a=1):freeN f e.t l n≤n:=by
 have h2:=h.plain.2
 unfold freeN
 split
 ·omega
 ·split
  ·have:=h2 (by assumption) (by omega);omega
  ·omega
def ChT (f:Nat):Tr→Prop
 | .leaf _=>True
 | .node t b _ _ _ _=>t=b∨f=3∨f=4
theorem ChT.mk {f l:Nat} {x y:Nat × Tr} (hx:ChT f x.2):ChT f (mkE f l x y).2:=by
 have hn:ChT f (nodeE f l x y):=by
  rcases nodeE_form f l x y with ⟨t,b,tl,u,th,v,_,h,_,_,e⟩ | ⟨t,b,tl,u,th,v,_,h,_,_,e⟩ | e
  ·rw [e];exact .inr (.inl h)
  ·rw [e];exact .inr (.inr h)
  ·rw [e];exact .inl rfl
 unfold mkE
 split
 ·split
  ·exact hx
  ·exact hn
 ·split
  ·exact hx
  ·split
   ·exact hx
   ·exact hn
theorem ChT.build (f n:Nat):∀(k l:Nat) (t:List Bool),ChT f (buildE f n k l t).2:=by
 intro k
 induction k with
 | zero=>intro l t;simp [buildE,leafE,ChT]
 | succ k ih=>intro l t;rw [buildE];exact ChT.mk (ih _ _)
theorem clearN_cons (x l d:Nat) (h:0 < d):clearN x l d=(!x.testBit l && clearN x (l+1) (d - 1)):=by
 obtain ⟨m,rfl⟩:∃m,d=m+1:=⟨d - 1,by omega⟩
 rfl
theorem hT_lvl {f n x:Nat} (h:f≠2) (h4:f≠4) (h1:1≤f) (h5:f≤5) (t l l':Nat) (T:Tr):hT f n x t T l=hT f n x t T l':=by
 have e:∀top,freeN f t l top=freeN f t l' top:=fun top=>by
  unfold freeN
  by_cases q:f=1∨f=3
  ·rw [if_pos q,if_pos q]
  ·rw [if_neg q,if_neg q,if_pos (by omega),if_pos (by omega)]
 cases T with
 | leaf b=>cases b with
  | false=>rfl
  | true=>show clearN x (freeN f t l n) (n - freeN f t l n)=clearN x (freeN f t l' n) (n - freeN f t l' n);rw [e]
 | node a b tl u th v=>rw [hT,hT,e]
theorem fr5 (t l top:Nat):freeN 5 t l top=t:=by simp [freeN]
theorem fr24 {f:Nat} (h:f=2∨f=4) (t l top:Nat):freeN f t l top=l:=by unfold freeN;rw [if_neg (by omega),if_neg (by omega)]
theorem fr13 {f:Nat} (h:f=1∨f=3) (t l top:Nat):freeN f t l top=top:=by unfold freeN;rw [if_pos h]
theorem hT_node (f n x t top bot tl:Nat) (a:Tr) (th:Nat) (b:Tr) (l:Nat):hT f n x t (.node top bot tl a th b) l=(clearN x (freeN f t l top) (top - freeN f t l top) && (if (if f=3 then !clearN x top (bot+1 - top) else x.testBit bot) then hT f n x th b (bot+1) else hT f n x tl a (bot+1))):=rfl
theorem hT_vw {f n l:Nat} (h1:1≤f) (h5:f≤5) (hl:l < n) {e:Nat × Tr} (hv:VE f l e) (hc:ChT f e.2) (x:Nat):
 hT f n x e.1 e.2 l=if x.testBit l then hT f n x (vw f l e).2.1 (vw f l e).2.2 (l+1) else hT f n x (vw f l e).1.1 (vw f l e).1.2 (l+1):=by
 obtain ⟨tag,T⟩:=e
 simp only at hc ⊢
 by_cases hz:T=.leaf false
 ·subst hz
  unfold vw
  rw [if_pos (show f=5∧¬(tag,Tr.leaf false).1=l∨(tag,Tr.leaf false).2=.leaf false from .inr rfl)]
  show false=if x.testBit l=true then false else false
  split<;>rfl
 by_cases f5:f=5
 ·subst f5
  unfold VE at hv
  simp only [if_true] at hv
  rcases hv with hv | ⟨-,hv1,hv2⟩
  ·simp at hv;exact absurd hv.2 hz
  try simp only at hv1 hv2
  unfold vw
  by_cases ht:tag=l
  ·subst ht
   rw [if_neg (show ¬((5:Nat)=5∧¬(tag,T).1=tag∨(tag,T).2=.leaf false) from by simp [hz])]
   cases T with
   | leaf b=>
    cases b with
    | false=>exact absurd rfl hz
    | true=>
     show clearN x (freeN 5 tag tag n) (n - freeN 5 tag tag n)=if x.testBit tag=true then false else clearN x (freeN 5 (tag+1) (tag+1) n) (n - freeN 5 (tag+1) (tag+1) n)
     rw [fr5,fr5,clearN_cons x tag (n - tag) (by omega)]
     cases x.testBit tag
     ·simp;rw [show n - tag - 1=n - (tag+1) by omega]
     ·simp
   | node t b tl u th v=>
    have htb:t=b:=by simp [ChT] at hc;exact hc
    subst htb
    simp only
    by_cases q:t=tag
    ·subst q
     rw [if_pos rfl,if_pos rfl,hT]
     rw [fr5,Nat.sub_self]
     simp [clearN]
    ·have hlt:tag < t:=by have:=hv2.1;omega
     simp only [if_neg q,if_true]
     rw [hT_node,fr5,clearN_cons x tag (t - tag) (by omega)]
     cases x.testBit tag
     ·rw [if_neg (show ¬(false=true) from by simp),hT_node,fr5,show t - tag - 1=t - (tag+1) by omega]
      simp
     ·rw [if_pos rfl]
      simp [hT]
  ·rw [if_pos (show (5:Nat)=5∧¬(tag,T).1=l∨(tag,T).2=.leaf false from .inl ⟨rfl,ht⟩)]
   rw [hT_lvl (by omega) (by omega) h1 h5 tag l (l+1)]
   split<;>rfl
 ·unfold VE at hv
  simp only [f5,if_false] at hv
  obtain ⟨hv0,hv1⟩:=hv
  try simp only at hv0
  subst hv0
  unfold vw
  rw [if_neg (show ¬(f=5∧¬((0:Nat),T).1=l∨((0:Nat),T).2=.leaf false) from by simp [f5,hz])]
  cases T with
  | leaf b=>
   cases b with
   | false=>exact absurd rfl hz
   | true=>
    simp only [f5,if_false]
    by_cases f24:f=2∨f=4
    ·rw [if_pos f24]
     show clearN x (freeN f 0 l n) (n - freeN f 0 l n)=if x.testBit l=true then false else clearN x (freeN f 0 (l+1) n) (n - freeN f 0 (l+1) n)
     rw [fr24 f24,fr24 f24,clearN_cons x l (n - l) (by omega)]
     cases x.testBit l
     ·simp;rw [show n - l - 1=n - (l+1) by omega]
     ·simp
    ·rw [if_neg f24,hT_lvl (by omega) (by omega) h1 h5 0 l (l+1)]
     split<;>rfl
  | node t b tl u th v=>
   have hge:=hv1.1
   have htb:=hv1.2
   simp only
   by_cases q:t=l
   ·subst q
    rw [if_pos rfl]
    by_cases qb:b=t
    ·subst qb
     rw [if_pos rfl,hT]
     have e0:freeN f 0 b b=b:=by unfold freeN;split<;>(try split)<;>first | rfl | omega
     rw [e0,Nat.sub_self]
     by_cases f3:f=3
     ·subst f3
      rw [if_pos rfl,show b+1 - b=1 by omega]
      cases hb:x.testBit b<;>simp [clearN,hb]
     ·rw [if_neg f3]
      simp [clearN]
    ·rw [if_neg qb]
     have f34:f=3∨f=4:=by simp [ChT] at hc;omega
     rcases f34 with rfl | rfl
     ·rw [if_pos rfl]
      simp only
      rw [hT_node,fr13 (.inr rfl),Nat.sub_self]
      simp only [if_true]
      rw [clearN_cons x t (b+1 - t) (by omega)]
      cases hb:x.testBit t
      ·rw [if_neg (show ¬(false=true) from by simp),hT_node,fr13 (.inr rfl),Nat.sub_self,show b+1 - t - 1=b+1 - (t+1) by omega]
       simp [clearN]
      ·rw [if_pos rfl,hT_lvl (by omega) (by omega) h1 h5 th (t+1) (b+1)]
       simp [clearN]
     ·rw [if_neg (show ¬(4:Nat)=3 by omega)]
      rw [hT_node,hT_node,fr24 (.inr rfl),fr24 (.inr rfl),Nat.sub_self,Nat.sub_self]
      simp [clearN]
   ·rw [if_neg q,if_neg f5]
    have hlt:l < t:=by omega
    by_cases f24:f=2∨f=4
    ·rw [if_pos f24]
     simp only
     rw [hT_node,fr24 f24,clearN_cons x l (t - l) (by omega)]
     cases x.testBit l
     ·rw [if_neg (show ¬(false=true) from by simp),hT_node,fr24 f24,show t - l - 1=t - (l+1) by omega]
      simp
     ·rw [if_pos rfl]
      simp [hT]
    ·rw [if_neg f24,hT_lvl (by omega) (by omega) h1 h5 0 l (l+1)]
     split<;>rfl
def atT:Nat→Nat→Nat→List Bool→Bool
 | 0,_,_,t=>t.headD false
 | k+1,l,x,t=>if x.testBit l then atT k (l+1) x (t.drop (2 ^ k)) else atT k (l+1) x (t.take (2 ^ k))
theorem hT_build {f n:Nat} (h1:1≤f) (h5:f≤5) (x:Nat):∀(k l:Nat) (t:List Bool),l+k=n→hT f n x (buildE f n k l t).1 (buildE f n k l t).2 l=atT k l x t:=by
 intro k
 induction k with
 | zero=>
  intro l t hl
  obtain rfl:l=n:=by omega
  rw [buildE,atT]
  cases t.headD false with
  | false=>rfl
  | true=>
   show clearN x (freeN f (leafE f l true).1 l l) (l - freeN f (leafE f l true).1 l l)=true
   have e:freeN f (leafE f l true).1 l l=l:=by
    unfold freeN leafE
    by_cases q:f=5
    ·simp [q]
    ·simp [q]
   rw [e,Nat.sub_self]
   rfl
 | succ k ih=>
  intro l t hl
  have v1:=build_VE f n k (l+1) (t.take (2 ^ k)) (by omega)
  have v2:=build_VE f n k (l+1) (t.drop (2 ^ k)) (by omega)
  rw [hT_vw h1 h5 (by omega) (build_VE f n (k+1) l t hl) (ChT.build f n (k+1) l t) x]
  rw [buildE,vw_mk h1 h5 v1 v2,atT,ih (l+1) _ (by omega),ih (l+1) _ (by omega)]
open Go.RowKit
def accN (p:List Nat) (y:Nat):Nat→Nat→Nat→Nat
 | 0,_,x=>x
 | k+1,l,x=>accN p y k (l+1) (if y.testBit l then x ||| 2 ^ p.getD l 0 else x)
theorem atT_tab (W:Nat) (p:List Nat) (y:Nat):∀k l x,atT k l y (tabL W p k l x)=W.testBit (accN p y k l x):=by
 intro k
 induction k with
 | zero=>intro l x;rfl
 | succ k ih=>
  intro l x
  rw [atT,tabL,List.take_left' (tabL_len W p k (l+1) x),List.drop_left' (tabL_len W p k (l+1) x),accN]
  by_cases h:y.testBit l=true
  ·rw [if_pos h,if_pos h,ih]
  ·rw [if_neg h,if_neg h,ih]
theorem accN_bit (p:List Nat) (y v:Nat):∀k l x,(accN p y k l x).testBit v=true↔(x.testBit v=true∨∃i,l≤i∧i < l+k∧y.testBit i=true∧p.getD i 0=v):=by
 intro k
 induction k with
 | zero=>
  intro l x
  rw [accN]
  exact ⟨.inl,fun h=>h.elim id (fun ⟨i,h1,h2,_⟩=>by omega)⟩
 | succ k ih=>
  intro l x
  rw [accN,ih]
  constructor
  ·rintro (h | ⟨i,h1,h2,h3⟩)
   ·by_cases q:y.testBit l=true
    ·rw [if_pos q,Nat.testBit_or,Nat.testBit_two_pow] at h
     simp only [Bool.or_eq_true,decide_eq_true_eq] at h
     rcases h with h | h
     ·exact .inl h
     ·exact .inr ⟨l,by omega,by omega,q,h⟩
    ·rw [if_neg q] at h;exact .inl h
   ·exact .inr ⟨i,by omega,by omega,h3⟩
  ·rintro (h | ⟨i,h1,h2,h3,h4⟩)
   ·refine .inl ?_
    split
    ·rw [Nat.testBit_or,h];rfl
    ·exact h
   ·by_cases q:i=l
    ·subst q
     refine .inl ?_
     rw [if_pos h3,Nat.testBit_or,Nat.testBit_two_pow,h4];simp
    ·exact .inr ⟨i,by omega,by omega,h3,h4⟩
theorem acc_all {p:List Nat} {n x y:Nat} (hp:Perm p n) (hx:x < 2 ^ n) (hy:∀l,l < n→y.testBit l=x.testBit (p.getD l 0)):accN p y n 0 0=x:=by
 apply Nat.eq_of_testBit_eq
 intro v
 rw [Bool.eq_iff_iff,accN_bit]
 constructor
 ·rintro (h | ⟨i,-,h2,h3,h4⟩)
  ·simp at h
  ·rw [hy i (by omega),h4] at h3;exact h3
 ·intro h
  have hv:v < n:=by
   apply Classical.byContradiction
   intro hn
   have:=Nat.testBit_lt_two_pow (Nat.lt_of_lt_of_le hx (Nat.pow_le_pow_right (n:=2) (by omega) (show n≤v by omega)))
   rw [this] at h;cases h
  have hm:=hp.mem hv
  obtain ⟨i,hi⟩:=List.mem_iff_getElem?.1 hm
  have hl:=(List.getElem?_eq_some_iff.1 hi).1
  have hd:p.getD i 0=v:=by rw [List.getD_eq_getElem?_getD,hi];rfl
  refine .inr ⟨i,by omega,by have:=hp.len;omega,?_,hd⟩
  rw [hy i (by have:=hp.len;omega),hd]
  exact h
theorem table_at {W n x y:Nat} {p:List Nat} (hp:Perm p n) (hx:x < 2 ^ n) (hy:∀l,l < n→y.testBit l=x.testBit (p.getD l 0)):atT n 0 y (tabL W p n 0 0)=W.testBit x:=by
 rw [atT_tab,acc_all hp hx hy]
theorem or16_1:∀y < 32,∀k < 5,bits .or .u16 ((y:Nat):Int) (IntKind.u16.wrap (IntKind.u16.wrap 1 *2 ^ k))=((y ||| 2 ^ k:Nat):Int):=by decide+kernel
theorem or16_0:∀y < 32,∀k < 5,bits .or .u16 ((y:Nat):Int) (IntKind.u16.wrap (IntKind.u16.wrap 0 *2 ^ k))=((y:Nat):Int):=by decide+kernel
theorem lev_step {x y v k:Nat} (hy:y < 2 ^ k) (hk:k < 5) (hx:x < 65536):∃y':Nat,bits BinOp.or IntKind.u16 (y:Int) (IntKind.u16.wrap (IntKind.u16.wrap (bits BinOp.and IntKind.i64 ((x:Int) / 2 ^ v) 1) *2 ^ k))=(y':Int)∧y' < 2 ^ (k+1)∧y'.testBit k=x.testBit v∧∀i,i < k→y'.testBit i=y.testBit i:=by
 have h32:y < 32:=by have:=Nat.pow_le_pow_right (n:=2) (by omega) (show k≤5 by omega);omega
 have e1:(x:Int) / 2 ^ v=((x / 2 ^ v:Nat):Int):=by rw [Int.natCast_ediv];simp
 rw [e1,bit_one_i _ (Nat.lt_of_le_of_lt (Nat.div_le_self _ _) (by omega))]
 have hb:x.testBit v=decide (x / 2 ^ v % 2=1):=by rw [Nat.testBit_eq_decide_div_mod_eq]
 have hp2:2 ^ (k+1)=2 ^ k *2:=Nat.pow_succ ..
 by_cases q:x / 2 ^ v % 2=1
 ·rw [q,hb]
  refine ⟨y ||| 2 ^ k,or16_1 y h32 k hk,Nat.or_lt_two_pow (by omega) (by omega),?_,fun i hi=>?_⟩
  ·rw [Nat.testBit_or,Nat.testBit_two_pow];simp [q]
  ·rw [Nat.testBit_or,Nat.testBit_two_pow];simp;omega
 ·have q0:x / 2 ^ v % 2=0:=by omega
  rw [q0,hb]
  refine ⟨y,or16_0 y h32 k hk,by omega,?_,fun i hi=>rfl⟩
  rw [Nat.testBit_lt_two_pow hy];simp [q0]
theorem or64p {x v:Nat} (hx:x < 4294967296) (hv:v < 32):bits .or .u64 (x:Int) (IntKind.u64.wrap (2 ^ v))=((x ||| 2 ^ v:Nat):Int):=by
 have hp:2 ^ v < 4294967296:=by have:=Nat.pow_lt_pow_right (a:=2) (by omega) hv;simpa using this
 have e:IntKind.u64.wrap (2 ^ v)=((2 ^ v:Nat):Int):=by
  rw [show ((2:Int) ^ v)=((2 ^ v:Nat):Int) from by simp]
  generalize 2 ^ v=z at *
  exact IntWalk.u64_in _ ⟨by omega,by omega⟩
 rw [e]
 have e1:BitVec.ofInt 64 (x:Int)=BitVec.ofNat 64 x:=BitVec.ofInt_natCast ..
 have e2:BitVec.ofInt 64 ((2 ^ v:Nat):Int)=BitVec.ofNat 64 (2 ^ v):=BitVec.ofInt_natCast ..
 have e3:(BitVec.ofInt 64 (x:Int) ||| BitVec.ofInt 64 ((2 ^ v:Nat):Int)).toNat=x ||| 2 ^ v:=by
  rw [e1,e2,BitVec.toNat_or,BitVec.toNat_ofNat,BitVec.toNat_ofNat,Nat.mod_eq_of_lt (by omega),Nat.mod_eq_of_lt (by omega)]
 show IntKind.u64.wrap ((BitVec.ofInt 64 (x:Int) ||| BitVec.ofInt 64 ((2 ^ v:Nat):Int)).toNat:Int)=_
 rw [e3]
 have hlt:x ||| 2 ^ v < 2 ^ 32:=Nat.or_lt_two_pow (by omega) (by omega)
 generalize x ||| 2 ^ v=z at *
 exact IntWalk.u64_in _ ⟨by omega,by omega⟩
def ptsL:List Nat→Nat
 | []=>0
 | x::l=>2 ^ x ||| ptsL l
theorem ptsL_bit (l:List Nat) (v:Nat):(ptsL l).testBit v=decide (v∈l):=by
 induction l with
 | nil=>simp [ptsL]
 | cons x l ih=>
  rw [ptsL,Nat.testBit_or,ih,Nat.testBit_two_pow]
  by_cases h:x=v
  ·subst h;simp
  ·have h':¬v=x:=fun e=>h e.symm
   simp [h,h']
theorem ptsL_snoc (l:List Nat) (x:Nat):ptsL (l++[x])=ptsL l ||| 2 ^ x:=by
 apply Nat.eq_of_testBit_eq
 intro v
 rw [ptsL_bit,Nat.testBit_or,ptsL_bit,Nat.testBit_two_pow]
 by_cases h:x=v
 ·subst h;simp
 ·have h':¬v=x:=fun e=>h e.symm
  simp [h,h']
theorem ptsL_lt {l:List Nat} {m:Nat} (h:∀x∈l,x < m):ptsL l < 2 ^ m:=by
 induction l with
 | nil=>exact Nat.two_pow_pos m
 | cons x l ih=>
  rw [ptsL]
  exact Nat.or_lt_two_pow (Nat.pow_lt_pow_right (by omega) (h x (by simp))) (ih fun v hv=>h v (by simp [hv]))
theorem ptsL_all {W m:Nat} {l:List Nat} (hW:W < 2 ^ m) (h:∀x,x∈l↔x < m∧W.testBit x=true):ptsL l=W:=by
 apply Nat.eq_of_testBit_eq
 intro v
 rw [ptsL_bit,Bool.eq_iff_iff,decide_eq_true_eq,h]
 constructor
 ·exact fun q=>q.2
 ·intro q
  refine ⟨?_,q⟩
  apply Classical.byContradiction
  intro hn
  have:=Nat.testBit_lt_two_pow (Nat.lt_of_lt_of_le hW (Nat.pow_le_pow_right (n:=2) (by omega) (show m≤v by omega)))
  rw [this] at q;cases q
def zipO (o:Nat) (t u:List Bool):List Bool:=List.zipWith (fun a b=>o.testBit (2 *a.toNat+b.toNat)) t u
theorem zipO_app {o:Nat} {t1 t2 u1 u2:List Bool} (h:t1.length=u1.length):zipO o (t1++t2) (u1++u2)=zipO o t1 u1++zipO o t2 u2:=by unfold zipO;exact List.zipWith_append h
theorem tabL_zip {n o Wa Wb W:Nat} {p:List Nat} (hp:∀v∈p,v < n) (hl:p.length=n) (hW:∀x,x < 2 ^ n→W.testBit x=o.testBit (2 *(Wa.testBit x).toNat+(Wb.testBit x).toNat)):
 ∀k l x,l+k=n→x < 2 ^ n→tabL W p k l x=zipO o (tabL Wa p k l x) (tabL Wb p k l x):=by
 intro k
 induction k with
 | zero=>intro l x _ hx;simp [tabL,zipO,hW x hx]
 | succ k ih=>
  intro l x hlk hx
  have hm:p.getD l 0 < n:=by
   rw [List.getD_eq_getElem?_getD,List.getElem?_eq_getElem (by omega)]
   exact hp _ (List.getElem_mem _)
  have hx':x ||| 2 ^ p.getD l 0 < 2 ^ n:=Nat.or_lt_two_pow hx (Nat.pow_lt_pow_right (by omega) hm)
  rw [tabL,tabL,tabL,zipO_app (by rw [tabL_len,tabL_len]),ih _ _ (by omega) hx,ih _ _ (by omega) hx']
theorem Qu.agree {each:Bool} {n:Nat} {l:List Nat} {g g':Nat→Bool} {y:Nat} (hg:∀z,z < 2 ^ n→agree n l y z→g z=g' z):Qu each n l g y↔Qu each n l g' y:=by
 unfold Qu QuE QuS
 split
 ·exact ⟨fun q z hz ha=>by rw [←hg z hz ha];exact q z hz ha,fun q z hz ha=>by rw [hg z hz ha];exact q z hz ha⟩
 ·exact ⟨fun ⟨z,hz,ha,q⟩=>⟨z,hz,ha,by rw [←hg z hz ha];exact q⟩,fun ⟨z,hz,ha,q⟩=>⟨z,hz,ha,by rw [hg z hz ha];exact q⟩⟩
def wordF (m:Nat) (g:Nat→Bool):Nat:=ptsL ((List.range m).filter g)
theorem wordF_bit {m:Nat} (g:Nat→Bool) {x:Nat} (hx:x < m):(wordF m g).testBit x=g x:=by
 unfold wordF
 rw [ptsL_bit,Bool.eq_iff_iff,decide_eq_true_eq,List.mem_filter,List.mem_range]
 exact ⟨fun h=>h.2,fun h=>⟨hx,h⟩⟩
open Go.RowKit
theorem leads_zeroN (L:List Rc) (f l n:Nat):LeadsP L f ⟨0,0⟩ l n:=
 ⟨⟨fun _=>rfl,fun _ h=>absurd rfl h⟩,.inl (by simp)⟩
theorem leads_oneN (L:List Rc) (f n:Nat) (h1:1≤f) (h5:f≤5):LeadsP L f (oneE f n) n n:=by
 unfold oneE
 by_cases h:f=5
 ·rw [if_pos h];exact ⟨⟨fun h'=>by simp [h] at h',fun _ _=>by simp⟩,.inl (by simp)⟩
 ·rw [if_neg h];exact ⟨⟨fun _=>rfl,fun h'=>absurd h' h⟩,.inl (by simp)⟩
theorem EdT.zero (L:List Rc) {f n k l:Nat} (hlk:l+k=n):EdT L f n k l ⟨0,0⟩ (List.replicate (2 ^ k) false):=by
 refine ⟨?_,leads_zeroN _ _ _ _,by simp,hlk⟩
 rw [build_none (f:=f) (n:=n) k l (List.replicate (2 ^ k) false) (by simp)]
 exact ⟨rfl,.zero⟩
theorem EdT.one (L:List Rc) {f n:Nat} (h1:1≤f) (h5:f≤5):EdT L f n 0 n (oneE f n) [true]:=by
 refine ⟨?_,leads_oneN _ _ _ h1 h5,rfl,by omega⟩
 unfold oneE buildE leafE
 by_cases h:f=5
 ·simp only [h,if_true,List.headD_cons];exact ⟨rfl,.one⟩
 ·simp only [h,if_false,List.headD_cons];exact ⟨rfl,.one⟩
theorem EdT.at0 {L:List Rc} {f n k l:Nat} {e:Ed} {t:List Bool} (h:EdT L f n k l e t) (h1:1≤f) (h5:f≤5):e.a=0↔true∉t:=by
 rw [h.rep.zero_iff,build_zero h1 h5 k l t h.lk h.len]
theorem EdT.eq_iff {L:List Rc} {f n k l:Nat} {e e':Ed} {t t':List Bool} (hnd:L.Nodup) (h:EdT L f n k l e t) (h':EdT L f n k l e' t') (h1:1≤f) (h5:f≤5):e=e'↔t=t':=by
 rw [h.rep.eq_iff hnd h'.rep]
 exact ⟨fun e=>build_inj h1 h5 k l t t' h.lk h.len h'.len e,fun e=>by rw [e]⟩
theorem none_rep {k:Nat} {t:List Bool} (hl:t.length=2 ^ k) (h:true∉t):t=List.replicate (2 ^ k) false:=by
 rw [List.eq_replicate_iff]
 exact ⟨hl,fun b hb=>by cases b with
  | false=>rfl
  | true=>exact absurd hb h⟩
def op3T (o:Nat) (a b c:List Bool):List Bool:=List.zipWith (fun (x:Bool × Bool) z=>o.testBit (4 *x.1.toNat+2 *x.2.toNat+z.toNat)) (a.zip b) c
theorem op3T_app {o:Nat} {a1 a2 b1 b2 c1 c2:List Bool} (h:a1.length=b1.length) (h':b1.length=c1.length):op3T o (a1++a2) (b1++b2) (c1++c2)=op3T o a1 b1 c1++op3T o a2 b2 c2:=by
 unfold op3T
 rw [List.zip_append h,List.zipWith_append (by rw [List.length_zip];omega)]
theorem op3T_split {o m:Nat} {a b c:List Bool} (ha:m≤a.length) (hb:m≤b.length) (hc:m≤c.length):op3T o a b c=op3T o (a.take m) (b.take m) (c.take m)++op3T o (a.drop m) (b.drop m) (c.drop m):=by
 rw [←op3T_app (by rw [List.length_take,List.length_take];omega) (by rw [List.length_take,List.length_take];omega),List.take_append_drop,List.take_append_drop,List.take_append_drop]
theorem op3T_none {o m:Nat} (h:o.testBit 0=false):op3T o (List.replicate m false) (List.replicate m false) (List.replicate m false)=List.replicate m false:=by
 induction m with
 | zero=>rfl
 | succ m ih=>
  rw [List.replicate_succ]
  have:op3T o (false::List.replicate m false) (false::List.replicate m false) (false::List.replicate m false)=o.testBit 0::op3T o (List.replicate m false) (List.replicate m false) (List.replicate m false):=rfl
  rw [this,ih,h]
def wideN (o:Nat):Nat:=wordF 8 (fun k=>o.testBit (k / 2))
theorem wideN_bit (o:Nat) (a b c:Bool):(wideN o).testBit (4 *a.toNat+2 *b.toNat+c.toNat)=o.testBit (2 *a.toNat+b.toNat):=by
 unfold wideN
 rw [wordF_bit]
 ·cases a<;>cases b<;>cases c<;>rfl
 ·cases a<;>cases b<;>cases c<;>decide
theorem op3T_wide {o m:Nat}:∀{a b c:List Bool},a.length=m→b.length=m→c.length=m→op3T (wideN o) a b c=zipO o a b:=by
 induction m with
 | zero=>
  intro a b c ha hb hc
  obtain rfl:=List.length_eq_zero_iff.1 ha
  obtain rfl:=List.length_eq_zero_iff.1 hb
  obtain rfl:=List.length_eq_zero_iff.1 hc
  rfl
 | succ m ih=>
  intro a b c ha hb hc
  match a,b,c,ha,hb,hc with
  | x::a,y::b,z::c,ha,hb,hc=>
   simp at ha hb hc
   show (wideN o).testBit (4 *x.toNat+2 *y.toNat+z.toNat)::op3T (wideN o) a b c=o.testBit (2 *x.toNat+y.toNat)::zipO o a b
   rw [wideN_bit,ih ha hb hc]
open Go.RowKit
def selfE (f top id:Nat):Ed:=⟨if f=5 then top else 0,id⟩
def TabS (n f:Nat) (L:List Rc):Prop:=∀id r,recAt L id=some r→r.f=f∧∃k t,EdT L f n k r.top (selfE f r.top id) t
theorem TabS.nil (n f:Nat):TabS n f []:=fun id r h=>by have:=recAt_lt h;simp at this
theorem TabS.snoc {n f:Nat} {L:List Rc} (h:TabS n f L) {r:Rc} (hf:r.f=f) {k:Nat} {t:List Bool} (he:EdT (L++[r]) f n k r.top (selfE f r.top (L.length+2)) t):TabS n f (L++[r]):=by
 intro id x hx
 rcases recAt_snoc hx with ⟨rfl,rfl⟩ | h2
 ·exact ⟨hf,k,t,he⟩
 ·obtain ⟨a,k',t',e⟩:=h id x h2
  exact ⟨a,k',t',e.grow _⟩
def low (m:Nat) (L:List Rc):Nat:=L.countP (fun r=>decide (r.top < m))
theorem low_append (m:Nat) (L L2:List Rc):low m (L++L2)=low m L+low m L2:=List.countP_append ..
theorem low_one (m:Nat) (r:Rc):low m [r]=if r.top < m then 1 else 0:=by
 unfold low;simp [List.countP_cons]
theorem low_succ (m:Nat):∀L:List Rc,low (m+1) L=low m L+(L.filter (fun r=>decide (r.top=m))).length:=by
 intro L
 induction L with
 | nil=>rfl
 | cons r L ih=>
  unfold low at ih ⊢
  rw [List.countP_cons,List.countP_cons,ih,List.filter_cons]
  by_cases h1:r.top=m
  ·rw [if_pos (decide_eq_true (show r.top < m+1 by omega)),if_neg (by simp;omega),if_pos (decide_eq_true h1),List.length_cons];omega
  ·rw [if_neg (show ¬decide (r.top=m)=true by simpa using h1)]
   by_cases h2:r.top < m
   ·rw [if_pos (decide_eq_true (show r.top < m+1 by omega)),if_pos (decide_eq_true h2)];omega
   ·rw [if_neg (by simp;omega),if_neg (by simpa using h2)];omega
def allT:Nat→List (List Bool)
 | 0=>[[]]
 | n+1=>(allT n).map (true::·)++(allT n).map (false::·)
theorem allT_len:∀n,(allT n).length=2 ^ n:=by
 intro n
 induction n with
 | zero=>rfl
 | succ n ih=>rw [allT,List.length_append,List.length_map,List.length_map,ih,Nat.pow_succ];omega
theorem allT_mem:∀t:List Bool,t∈allT t.length:=by
 intro t
 induction t with
 | nil=>simp [allT]
 | cons b t ih=>
  rw [List.length_cons,allT,List.mem_append]
  cases b with
  | true=>exact .inl (List.mem_map.2 ⟨t,ih,rfl⟩)
  | false=>exact .inr (List.mem_map.2 ⟨t,ih,rfl⟩)
theorem at_level {n f:Nat} {L:List Rc} (h:TabS n f L) (nd:L.Nodup) (h1:1≤f) (h5:f≤5) (m d:Nat) (hm:m+d=n):(L.filter (fun r=>decide (r.top=m))).length≤2 ^ 2 ^ d:=by
 rw [←allT_len]
 refine nodup_le_rel (fun (r:Rc) (t:List Bool)=>r.top=m∧∃id,recAt L id=some r∧EdT L f n d m (selfE f m id) t) ?_ (nd.filter _) ?_
 ·rintro r r' t ⟨-,id,hr,e⟩ ⟨-,id',hr',e'⟩
  have:=(e.eq_iff nd e' h1 h5).2 rfl
  unfold selfE at this
  simp only [Ed.mk.injEq] at this
  obtain ⟨-,rfl⟩:=this
  rw [hr] at hr'
  exact Option.some.inj hr'
 ·intro r hr
  rw [List.mem_filter] at hr
  obtain ⟨hr,ht⟩:=hr
  have ht:r.top=m:=by simpa using ht
  obtain ⟨id,hid⟩:=recAt_of_mem hr
  obtain ⟨-,k,t,e⟩:=h id r hid
  rw [ht] at e
  have hk:k=d:=by have:=e.lk;omega
  subst hk
  exact ⟨t,by have:=allT_mem t;rw [e.len] at this;exact this,ht,id,hid,e⟩
def capN:Nat→Nat
 | 0=>0
 | d+1=>2 ^ 2 ^ (d+1)+capN d
theorem low_all {n f:Nat} {L:List Rc} (hG:Good L n) (h:TabS n f L) (nd:L.Nodup) (h1:1≤f) (h5:f≤5):∀d m,m+d=n→L.length≤low m L+capN d:=by
 intro d
 induction d with
 | zero=>
  intro m hm
  obtain rfl:m=n:=by omega
  unfold low capN
  rw [Nat.add_zero]
  refine Nat.le_of_eq (List.countP_eq_length.2 ?_).symm
  intro r hr
  obtain ⟨id,hid⟩:=recAt_of_mem hr
  have hg:=(hG id r hid).right
  have:=hg.tb
  have:=hg.bn
  exact decide_eq_true (by omega)
 | succ d ih=>
  intro m hm
  have q:=ih (m+1) (by omega)
  have q2:=at_level h nd h1 h5 m (d+1) hm
  rw [low_succ] at q
  unfold capN
  omega
structure Rm (n f m room:Nat) (L:List Rc) (c:Nat):Prop where
 tab:TabS n f L
 few:low m L+c+capN (n - m) < room
 mn:m≤n
theorem Rm.lt {n f m room:Nat} {L:List Rc} {c:Nat} (h:Rm n f m room L c) (hG:Good L n) (nd:L.Nodup) (h1:1≤f) (h5:f≤5):L.length < room:=by
 have q:=low_all hG h.tab nd h1 h5 (n - m) m (by have:=h.mn;omega)
 have:=h.few
 omega
theorem Rm.less {n f m room:Nat} {L:List Rc} {c c':Nat} (h:Rm n f m room L c) (hc:c'≤c):Rm n f m room L c':=⟨h.tab,by have:=h.few;omega,h.mn⟩
theorem Rm.eq {n f m room:Nat} {L:List Rc} {c c':Nat} (h:Rm n f m room L c) (hc:c'=c):Rm n f m room L c':=hc▸h
theorem Rm.same {n f m room:Nat} {L L':List Rc} {c:Nat} (h:Rm n f m room L c) (e:L'=L):Rm n f m room L' c:=e▸h
def cst1 (m l:Nat):Nat:=if l < m then 1 else 0
theorem Rm.one {n f m room:Nat} {L:List Rc} {c l:Nat} (h:Rm n f m room L (cst1 m l+c)) {r:Rc} (hf:r.f=f) (ht:r.top=l) {k:Nat} {t:List Bool} (he:EdT (L++[r]) f n k l (selfE f l (L.length+2)) t):Rm n f m room (L++[r]) c:=by
 subst ht
 refine ⟨h.tab.snoc hf he,?_,h.mn⟩
 rw [low_append,low_one]
 have:=h.few
 unfold cst1 at this
 omega
def budF:Nat→Nat
 | 0=>0
 | j+1=>2 *budF j+1
def budA:Nat→Nat
 | 0=>0
 | 1=>1
 | j+2=>2 *budA (j+1)+4
theorem budF_step (m l:Nat):budF (m - l)=budF (m - (l+1))+(budF (m - (l+1))+cst1 m l):=by
 unfold cst1
 by_cases h:l < m
 ·rw [if_pos h,show m - l=(m - (l+1))+1 by omega,budF];omega
 ·rw [if_neg h,show m - l=0 by omega,show m - (l+1)=0 by omega];rfl
theorem budA_step (m l:Nat):budA (m - l)=cst1 m (l+1)+(cst1 m (l+1)+(cst1 m (l+1)+(budA (m - (l+1))+(budA (m - (l+1))+cst1 m l)))):=by
 unfold cst1
 by_cases h:l < m
 ·rw [if_pos h]
  by_cases h2:l+1 < m
  ·rw [if_pos h2]
   obtain ⟨j,hj⟩:∃j,m - l=j+2:=⟨m - l - 2,by omega⟩
   rw [hj,show m - (l+1)=j+1 by omega,budA];omega
  ·rw [if_neg h2,show m - l=1 by omega,show m - (l+1)=0 by omega];rfl
 ·rw [if_neg h,if_neg (by omega),show m - l=0 by omega,show m - (l+1)=0 by omega];rfl
open Go.RowKit
theorem fnd_new (L:List Rc) (r:Rc):(fnd L r).1=L∨fnd L r=(L++[r],L.length+2):=by
 unfold fnd
 split
 ·exact .inl rfl
 ·exact .inr rfl
theorem mkP_new (L:List Rc) (f l:Nat) (lo hi:Ed):(mkP L f l lo hi).1=L∨∃r,r.top=l∧r.f=f∧mkP L f l lo hi=(L++[r],selfE f l (L.length+2)):=by
 unfold mkP
 cases shortP f l lo hi with
 | some e=>exact .inl rfl
 | none=>
  have ht:=recP_top L f l lo hi
  rcases fnd_new L (recP L f l lo hi) with h | h
  ·exact .inl h
  ·refine .inr ⟨_,ht.1,ht.2,?_⟩
   simp only [h]
   rfl
theorem viewP_new {L:List Rc} {f l n:Nat} (hG:Good L n) {e:Ed} (hP:LeadsP L f e l n):(viewP L f l e).1=L∨∃r,r.top=l+1∧r.f=f∧(viewP L f l e).1=L++[r]∧(viewP L f l e).2.1=selfE f (l+1) (L.length+2):=by
 unfold viewP
 split
 ·exact .inl rfl
 ·split
  ·rename_i r hr
   have hrf:=hP.node hr
   have hg:=(hG _ _ hr).right
   split
   ·exact .inl rfl
   ·split
    ·exact .inl rfl
    ·rename_i h1 h2
     have ht:r.top=l:=by omega
     have f5:f≠5:=fun q=>by have:=hrf.1;rcases hg.ch with h | h | h<;>omega
     rcases fnd_new L { r with top:=r.top+1 } with h | h
     ·exact .inl h
     ·refine .inr ⟨{ r with top:=r.top+1 },by simp only;omega,hrf.1,?_,?_⟩
      ·simp only [h]
      ·simp only [h]
       unfold selfE
       rw [if_neg f5]
  ·exact .inl rfl
theorem EdT.mk_ {f:Nat} {L:List Rc} {n k l:Nat} {lo hi:Ed} {t u:List Bool} (hG:Good L n) (nd:L.Nodup) (h1:1≤f) (h5:f≤5) (hn:n≤16) (hlo:EdT L f n k (l+1) lo t) (hhi:EdT L f n k (l+1) hi u):EdT (mkP L f l lo hi).1 f n (k+1) l (mkP L f l lo hi).2 (t++u):=by
 have hlk:=hlo.lk
 obtain ⟨g1,g2,-,-⟩:=mkP_good hG h1 h5 (show l < n by omega) hn hlo.lead hhi.lead
 obtain ⟨r1,r2⟩:=mk_rep (l:=l) nd hlo.rep hhi.rep
 refine ⟨?_,g2,?_,by omega⟩
 ·rw [buildE,List.take_left' hlo.len,List.drop_left' hlo.len];exact r1
 ·rw [List.length_append,hlo.len,hhi.len,Nat.pow_succ];omega
theorem Rm.mk_ {f m c:Nat} {L:List Rc} {n room k l:Nat} {lo hi:Ed} {t u:List Bool} (hR:Rm n f m room L (cst1 m l+c)) (hG:Good L n) (nd:L.Nodup) (h1:1≤f) (h5:f≤5) (hn:n≤16) (hlo:EdT L f n k (l+1) lo t) (hhi:EdT L f n k (l+1) hi u):Rm n f m room (mkP L f l lo hi).1 c:=by
 have ex:=EdT.mk_ hG nd h1 h5 hn hlo hhi
 rcases mkP_new L f l lo hi with e | ⟨r,ht,hf,e⟩
 ·rw [e];exact hR.less (by omega)
 ·rw [e] at ex ⊢
  exact hR.one hf ht ex
def MkR (w:World) (b n room:Nat) (L:List Rc) (F:List Nat) (f k l:Nat) (t:List Bool) (m c:Nat) (r:Ending) (w':World):Prop:=
 ∃(et ea:Nat) (L2:List Rc) (F':List Nat),r=.returned (.tuple #[.agg #[.int .u8 et,.int .u32 ea],.int .u8 0])∧Sto w' b n room (L++L2) F'∧Grow w w' F F'∧EdT (L++L2) f n k l ⟨et,ea⟩ t∧Rm n f m room (L++L2) c
theorem make_r {f m c:Nat} (h1:1≤f) (h5:f≤5) {w:World} {b n room:Nat} {L:List Rc} {F:List Nat} (h:Sto w b n room L F) {k l:Nat} (hR:Rm n f m room L (cst1 m l+c)) (hrm:room≤100000) (hn:n≤16) {lo hi:Ed} {t u:List Bool}
 (hlo:EdT L f n k (l+1) lo t) (hhi:EdT L f n k (l+1) hi u):
 Calls Tryz.prog 90 #[.pointer (some ⟨b,0,none⟩),.int .u8 f,.int .i64 l,edv lo,edv hi] w (MkR w b n room L F f (k+1) l (t++u) m c):=by
 have hlk:=hlo.lk
 have hroom:=hR.lt h.good h.nd h1 h5
 refine (canonMake_c f h1 h5 h.st (by omega) hroom (by omega) hn h.good l (by omega) lo hi hlo.lead hhi.lead).mono ?_
 rintro e w' ⟨rfl,F',s,mm,o⟩
 obtain ⟨g1,g2,⟨L2,g3⟩,g4⟩:=mkP_good h.good h1 h5 (show l < n by omega) hn hlo.lead hhi.lead
 obtain ⟨r1,r2⟩:=mk_rep (l:=l) h.nd hlo.rep hhi.rep
 have ex:=EdT.mk_ h.good h.nd h1 h5 hn hlo hhi
 have hrr:=hR.mk_ h.good h.nd h1 h5 hn hlo hhi
 rw [g3] at s g1 ex r2 hrr
 exact ⟨_,_,L2,F',rfl,⟨s,g1,r2⟩,⟨mm,o⟩,ex,hrr⟩
def VwR (w:World) (b n room:Nat) (L:List Rc) (F:List Nat) (f k l:Nat) (t:List Bool) (m c:Nat) (r:Ending) (w':World):Prop:=
 ∃(lt la ht ha:Nat) (L2:List Rc) (F':List Nat),r=.returned (.tuple #[.agg #[.int .u8 lt,.int .u32 la],.agg #[.int .u8 ht,.int .u32 ha],.int .u8 0])∧Sto w' b n room (L++L2) F'∧Grow w w' F F'∧EdT (L++L2) f n k (l+1) ⟨lt,la⟩ (t.take (2 ^ k))∧EdT (L++L2) f n k (l+1) ⟨ht,ha⟩ (t.drop (2 ^ k))∧Rm n f m room (L++L2) c
theorem view_r {f m c:Nat} (h1:1≤f) (h5:f≤5) {w:World} {b n room:Nat} {L:List Rc} {F:List Nat} (h:Sto w b n room L F) {k l:Nat} (hR:Rm n f m room L (cst1 m (l+1)+c)) (hrm:room≤100000) (hn:n≤16) {e:Ed} {t:List Bool}
 (he:EdT L f n (k+1) l e t):
 Calls Tryz.prog 145 #[.pointer (some ⟨b,0,none⟩),.int .u8 f,edv e,.int .i64 l] w (VwR w b n room L F f k l t m c):=by
 have hlk:=he.lk
 have hlen:t.length=2 ^ k+2 ^ k:=by have:=he.len;rw [Nat.pow_succ] at this;omega
 have hroom:=hR.lt h.good h.nd h1 h5
 refine (canonView_c f h1 h5 h.st (by omega) hroom (by omega) hn h.good l (by omega) e he.lead).mono ?_
 rintro r w' ⟨rfl,F',s,mm,o⟩
 obtain ⟨v1,v2,v3,v4,v5,v6,L2,v7,v8⟩:=viewP_ok h.good h.nd h1 h5 (show l < n by omega) he.lead he.rep (build_VE f n (k+1) l t he.lk)
 rw [build_vw h1 h5 k l t he.lk] at v1 v2
 have hnew:=viewP_new h.good he.lead
 have ex1:EdT (viewP L f l e).1 f n k (l+1) (viewP L f l e).2.1 (t.take (2 ^ k)):=⟨v1,v3,by rw [List.length_take];omega,by omega⟩
 have ex2:EdT (viewP L f l e).1 f n k (l+1) (viewP L f l e).2.2 (t.drop (2 ^ k)):=⟨v2,v4,by rw [List.length_drop];omega,by omega⟩
 have hrr:Rm n f m room (viewP L f l e).1 c:=by
  rcases hnew with q | ⟨r,ht,hf,q1,q2⟩
  ·rw [q];exact hR.less (by omega)
  ·have ex:=ex1
   rw [q2,q1] at ex
   rw [q1]
   exact hR.one hf ht ex
 rw [v7] at s v5 v6 ex1 ex2 hrr
 exact ⟨_,_,_,_,L2,F',rfl,⟨s,v5,v6⟩,⟨mm,o⟩,ex1,ex2,hrr⟩
end Go.Proofs.YtlafpknoiihaaaaGreatDoor
