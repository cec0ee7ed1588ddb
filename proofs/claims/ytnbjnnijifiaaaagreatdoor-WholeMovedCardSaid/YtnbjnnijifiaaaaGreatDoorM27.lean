/- M27: S4 · Rt · Wb · Hp · Ga · Cs · Mq -/
import Derived.Test.YtnbjnnijifiaaaaGreatDoorM14
import Derived.Test.YtnbjnnijifiaaaaGreatDoorM16
import Derived.Test.YtnbjnnijifiaaaaGreatDoorM07
import Derived.Test.YtnbjnnijifiaaaaGreatDoorM09
import Derived.Test.YtnbjnnijifiaaaaGreatDoorM01
import Derived.Deep.RegionLaw
import Derived.Deep.CutRange
import Derived.Test.YtnbjnnijifiaaaaGreatDoorM10
import Derived.Test.YtnbjnnijifiaaaaGreatDoorM06
import Derived.Test.YtnbjnnijifiaaaaGreatDoorM26
set_option maxRecDepth 100000
set_option maxHeartbeats 4000000
set_option linter.unusedVariables false
set_option linter.unusedSimpArgs false
namespace Go.Proofs.YtnbjnnijifiaaaaGreatDoor
open Go.RowKit
def ReachQ (w:World) (L:List Rc) (ts:List (Nat × Tr)) (e:Ending) (w':World):Prop:=
 ∃A cap n,e=.returned (.slice A n cap)∧n≤cap∧n≤49∧Mod [] w w'∧(0 < n→∃g,A=some ⟨g,0,none⟩∧w.heap.size≤g∧U32P (idsAll L ts) w' g 0 n)
theorem reachQ_c {w:World} {b n:Nat} {L:List Rc} {room:Nat} {F:List Nat} (h:IsSt w b n L room F) (hL:L.length≤1048576) (hnd:L.Nodup) {A:Option Addr} {k cap:Nat} {es:List Ed} (hes:EdRow w A k cap es) {ts:List (Nat × Tr)} (hts:EdTrees L es ts)
 (hk:k≤100000) (hsz:tszs ts≤1000000) (hfew:∀l:List Nat,l.Nodup→(∀id∈l,idsAll L ts id)→l.length≤49):
 Calls Tryz.prog 117 #[.pointer (some ⟨b,0,none⟩),.slice A k cap] w (ReachQ w L ts):=by
 have RC:=Lib.hid (reached_c h hL hnd hes hts hk hsz)
 have HFEW:=Lib.hid hfew
 have hcap:=hes.2.1
 obtain ⟨i0,hi,hz0,hz1,hz2⟩:=info_parts Tryz.infoU
 clear h hes hts hnd hfew
 go_enter Tryz.func117,Tryz.ntmps117
 go_wp2_with fail
 refine RC.out.mono ?_
 rintro e w1 ⟨bm,nm,rfl,⟨D,hown,hD1,hD2,hD3⟩,hnm,hge,m1⟩
 have M1:=Lib.hid m1
 have HD:=Lib.hid hD2
 have hsz1:=m1.size
 clear m1 RC hD2 hD1 hD3
 go_wp2_with (at_range;refine Go.wpList_range_own _ rfl _ 264 rfl 37 3 keyU32 Tryz.underlying264 _ bm nm D rfl hown ?_;intro w2 hrg0 hg0 hs0)
 go_frame
 obtain ⟨r,hr⟩:∃r,w1.heap.size=r:=⟨_,rfl⟩
 rw [hr] at hrg0 hs0 ⊢
 have M2:Hid (Mod [] w w2):=M1.out.trans' ((Mod.refl [] w1).grown hg0 (by simp))
 have hrw:w.heap.size≤r:=by omega
 clear hown hg0
 go_loopw [5] (fun v wr=>∃(left:Lit→Bool) (cnt:Nat) (l F':List Nat),wr.ranges Tryz.prog 37 (plainElem Tryz.prog 3) bm r nm D left cnt∧Hid (CollN D left l)∧Hid (Sl wr 37 1 v l.length (l.map eu) F')∧Hid (∀k∈F',w.heap.size≤k∧k≠r∧k≠bm)∧Hid (Mod [] w wr)) (fun _ wr=>wr.rangeLeft bm r)
 case atStart=>exact ⟨_,_,[],[],hrg0,CollN.start D,Sl.nil _ _ _,by intro k hk;simp at hk,M2⟩
 case round=>
  obtain ⟨left,cnt,l,F',hrg,HC,HS,HF,HM⟩:=hrel
  have HL:Hid (l.length≤49):=HFEW.out l HC.out.1 (fun id h=>(HD.out id).2 ((HC.out.2 id).1 h).1)
  have hbl:=hrg.owns.lt
  have hrl:=hrg.lt
  obtain ⟨Ao,capo,rfl,hcapo⟩:=HS.out.shape
  go_wp2_with (at_next;refine Go.wpList_next_ranges_ii _ rfl _ rfl 37 3 .u32 .i64 keyU32 Tryz.underlying37 Tryz.underlying3 bm r nm D left cnt rfl hrg ?_ ?_)
  ·intro hc0 hl0
   have hmem:∀id,id∈l↔idsAll L ts id:=fun id=>by
    rw [HC.out.2 id,HD.out id,hl0];simp
   have HMEM:=Lib.hid hmem
   rcases Nat.eq_zero_or_pos l.length with h0 | h0
   ·have hnil:l=[]:=List.eq_nil_of_length_eq_zero h0
    subst hnil
    have SN:=Lib.hid (sort_none (w:=wr) Ao capo)
    clear hmem hrg hbl hrl h0 hcapo
    simp only [List.length_nil]
    go_wp2_with fail
    refine SN.out.mono ?_
    rintro e w' ⟨rfl,rfl⟩
    go_wp2_with fail
    go_ret
    exact ⟨Ao,capo,0,rfl,by omega,by omega,HM.out,fun h=>by omega⟩
   ·obtain ⟨g,cap',e,hF',_⟩:=HS.out.pos h0
    have hU:U32P (idsAll L ts) wr g 0 l.length:=fun i hi=>by
     have hs:=HS.out
     rw [e] at hs
     obtain ⟨c1,c2,_⟩:=hs.at i (by omega)
     rw [List.getElem?_map,List.getElem?_eq_getElem hi] at c1
     have hx0:=(HMEM.out l[i]).1 (List.getElem_mem _)
     refine ⟨l[i],?_,by rw [Nat.zero_add];exact c1,by rw [Nat.zero_add];exact c2,hx0⟩
     obtain ⟨x,hx1,S,hS,hr⟩:=hx0
     rcases hr.ge with ⟨_,_,h⟩ | ⟨_,h⟩<;>omega
    simp at e
    obtain ⟨rfl,rfl⟩:=e
    have SO:=Lib.hid (sortP_c g 0 l.length capo HL.out hcapo hU)
    have hgw:=(HF.out g (by simp [hF'])).1
    have HL49:=Lib.hid HL.out
    obtain ⟨N,hN⟩:∃N,l.length=N:=⟨_,rfl⟩
    rw [hN] at SO hcapo h0 HL49 ⊢
    have HNL:=Lib.hid hN
    clear hmem hrg hbl hrl hU hF' hN
    go_wp2_with fail
    refine SO.out.mono ?_
    rintro e w' ⟨rfl,hu,hm⟩
    have HM2:=Lib.hid (HM.out.trans hm (by intro i hi h;simp at h;omega))
    have HU:=Lib.hid hu
    clear hm hu
    go_wp2_with fail
    go_ret
    exact ⟨_,capo,N,rfl,hcapo,HL49.out,HM2.out,fun _=>⟨g,rfl,hgw,HU.out⟩⟩
  ·intro x c w3 cnt3 hwx hwc hlk hat hrg3 hlt3 hg3 hs3 hen
   obtain ⟨n,rfl,hn32⟩:∃n:Nat,x=(n:Int)∧n≤4294967295:=by
    have h1:IntKind.u32.min=0:=rfl
    have h2:IntKind.u32.max=4294967295:=rfl
    simp [Lit.wf,h1,h2] at hwx
    exact ⟨x.toNat,by omega,by omega⟩
   have m3:Mod [r] wr w3:=(Mod.refl [r] wr).grown hg3 (by intro k hk _;simp at hk;simp [hk])
   have HC3:=Lib.hid (HC.out.step hlk hat)
   have HS3:=Lib.hid (HS.out.mod m3 (fun k hk=>by simp;exact (HF.out k hk).2.1))
   have HM3:=Lib.hid (HM.out.trans m3 (by intro i hi h;simp at h;omega))
   have HRO:=Lib.hid hrg
   have HR3:=Lib.hid hrg3
   have HLT:=Lib.hid hlt3
   obtain ⟨N,hN⟩:∃N,l.length=N:=⟨_,rfl⟩
   have HLL:Hid (∀q,(l.map eu).length=q→q=N):=fun q h=>by rw [←h,List.length_map];exact hN
   rw [hN] at HS3 HL hcapo ⊢
   have HNL:=Lib.hid hN
   have hN12:=HL.out
   clear hrg hrg3 hlt3 hg3 hs3 m3 hwx hwc hlk hat hrl hbl hN
   go_wp2_with (at_builtin;refine wpList_append_sl _ rfl _ _ 159 rfl 37 i0 (.int .u32 0) 1 4 Tryz.underlying159 hi hz0 hz1 hz2 rfl (by decide) _ N (l.map eu) F' rfl (HS3.out.mod (S:=[]) (by exact mods) (by simp)) ⟨_,0,none⟩ 1 1 [eu n] (by decide) rfl rfl (by intro j u hu;exact list_new_at _ _ _ _ (by simp) j u hu) (by intro u hu;simp at hu;subst hu;rfl) (by unfold maxLen;omega) (by omega) ?_;intro v5 w5 F5 hs5 hm5 hf5)
   have hm35:Mod F' w3 w5:=((Mod.refl F' w3).alloc (.cells #[.int .u32 n] 37)).trans' hm5
   have hr5:=ranges_mod HR3.out hm35 (fun h=>(HF.out _ h).2.2 rfl) (fun h=>(HF.out _ h).2.1 rfl)
   refine ⟨⟨_,cnt3,l++[n],F5,hr5,HC3.out,?_,?_,HM3.out.trans hm35 (by intro i hi h;have:=(HF.out i h).1;omega)⟩,?_⟩
   ·show Sl _ _ _ _ _ _ _
    rw [List.length_append,HNL.out,List.map_append]
    exact hs5
   ·show ∀k∈F5,_
    intro k hk
    rcases hf5 k hk with h | h
    ·exact HF.out k h
    ·have h1:=HR3.out.lt
     have h2:=HR3.out.owns.lt
     have h3:=HM3.out.size
     simp at h
     exact ⟨by omega,by omega,by omega⟩
   ·rw [hr5.left_eq,HRO.out.left_eq]
    exact HLT.out
open Go.RowKit
theorem nds_len:∀T:Tr,2 *(nds T).length+1=tsz T
 | .leaf _=>by simp [nds,tsz]
 | .node t b tl x th y=>by
  have h1:=nds_len x
  have h2:=nds_len y
  simp [nds,tsz];omega
theorem dis_len {α:Type} [DecidableEq α]:∀(l out:List α),(dis out l).length≤out.length+l.length
 | [],out=>by simp [dis]
 | x::l,out=>by
  rw [dis]
  have:=dis_len l (if x∈out then out else out++[x])
  split at this
  ·rw [if_pos (by assumption)];simp;omega
  ·rw [if_neg (by assumption)];simp at this ⊢;omega
theorem few_build (f n k l:Nat) (t:List Bool) (hk:k≤5):(dis [] (nds (buildE f n k l t).2)).length≤49∧tsz (buildE f n k l t).2≤1000000:=by
 have h1:=dis_len (nds (buildE f n k l t).2) []
 have h2:=nds_len (buildE f n k l t).2
 have h3:=tsz_build (n:=n) f k l t
 have h4:=Nat.pow_le_pow_right (n:=2) (by omega) (show k+1≤6 by omega)
 simp at h1 h4
 omega
theorem reach_node {L:List Rc} {f id:Nat} {T:Tr} (h:idsAll L [(f,T)] id) (hg:RgT f T):
 ∃r x y,recAt L id=some r∧r.f=f∧Rep L f r.lo.a x∧Rep L f r.hi.a y∧RgN f (.node r.top r.bot r.lo.t x r.hi.t y):=by
 obtain ⟨z,hz,S,hS,hr⟩:=h
 simp at hz;subst hz
 obtain ⟨t,b,tl,x,th,y,rfl⟩:=nds_node hS
 obtain ⟨r,h1,h2,rfl,rfl,rfl,rfl,h7,h8⟩:=hr.inv
 exact ⟨r,x,y,h1,h2,h7,h8,hg _ hS⟩
theorem rt5 {L:List Rc} {r:Rc} {x y:Tr} (hy:Rep L 5 r.hi.a y) (h:RgN 5 (.node r.top r.bot r.lo.t x r.hi.t y)) (h0:r.hi.a=0):r.lo.t≠r.top+1:=fun e=>by
 rw [h0] at hy
 exact h.2.2 rfl ⟨(Rep.zero.fun_ hy).symm,e⟩
theorem rt3 {L:List Rc} {r s:Rc} {x y:Tr} (hx:Rep L 3 r.lo.a x) (hy:Rep L 3 r.hi.a y) (h:RgN 3 (.node r.top r.bot r.lo.t x r.hi.t y)) (hs:recAt L r.lo.a=some s):¬(s.top=r.bot+1∧s.hi=r.hi):=by
 rintro ⟨e1,e2⟩
 generalize r.lo.a=a at hx hs
 cases hx with
 | zero=>have:=recAt_lt hs;omega
 | one=>have:=recAt_lt hs;omega
 | node k1 k2 k3 k4=>
  rw [hs] at k1;cases k1
  refine h.1 rfl _ _ _ _ _ _ rfl ⟨e1,?_⟩
  rw [e2] at k4 ⊢
  rw [k4.fun_ hy]
theorem rt4 {L:List Rc} {r s:Rc} {x y:Tr} (hx:Rep L 4 r.lo.a x) (hy:Rep L 4 r.hi.a y) (h:RgN 4 (.node r.top r.bot r.lo.t x r.hi.t y)) (hs:recAt L r.lo.a=some s):¬(r.lo=r.hi∧s.top=r.bot+1):=by
 rintro ⟨e2,e1⟩
 have hxy:x=y:=by rw [e2] at hx;exact hx.fun_ hy
 generalize r.lo.a=a at hx hs
 cases hx with
 | zero=>have:=recAt_lt hs;omega
 | one=>have:=recAt_lt hs;omega
 | node k1 k2 k3 k4=>
  rw [hs] at k1;cases k1
  refine h.2.1 rfl _ _ _ _ _ _ rfl ⟨e1,?_⟩
  rw [hxy,e2]
theorem bddRight_c {w:World} {b n:Nat} {L:List Rc} {room:Nat} {F:List Nat} (h:IsSt w b n L room F) (hL:L.length≤1048576) (hn:n≤16) (e:Ed) (l:Nat) (hl:l≤n) (hP:LeadsP L 1 e l n):
 Calls Tryz.prog 67 #[.pointer (some ⟨b,0,none⟩),edv e,.int .i64 l] w fun e w'=>e=.returned (.bool true)∧Mod [] w w':=by
 have LD:Hid (∀W,Mod [] w W→_):=fun W m=>stLeads_c (h.mod m (by simp)) hL hn 1 (by omega) (by omega) e l hl hP
 obtain ⟨t,a⟩:=e
 obtain ⟨gk,hgk⟩:∃gk,w.heap.size=gk:=⟨_,rfl⟩
 clear h hP
 unfold edv at *
 simp only at LD ⊢
 go_enter Tryz.func67,Tryz.ntmps67
 go_wp2_with fail
 refine (LD.out _ (by exact mods)).mono ?_
 rintro e w2 ⟨rfl,m2⟩
 have M2:=Lib.hid (Mod.trans' (show Mod [] w _ from by exact mods) m2)
 clear m2
 go_wp2_with fail
 go_ret
 exact ⟨rfl,M2.out⟩
theorem zddRight_c {w:World} {b n:Nat} {L:List Rc} {room:Nat} {F:List Nat} (h:IsSt w b n L room F) (hL:L.length≤1048576) (hn:n≤16) (e:Ed) (l:Nat) (hl:l≤n) (hP:LeadsP L 2 e l n):
 Calls Tryz.prog 68 #[.pointer (some ⟨b,0,none⟩),edv e,.int .i64 l] w fun e w'=>e=.returned (.bool true)∧Mod [] w w':=by
 have LD:Hid (∀W,Mod [] w W→_):=fun W m=>stLeads_c (h.mod m (by simp)) hL hn 2 (by omega) (by omega) e l hl hP
 obtain ⟨t,a⟩:=e
 obtain ⟨gk,hgk⟩:∃gk,w.heap.size=gk:=⟨_,rfl⟩
 clear h hP
 unfold edv at *
 simp only at LD ⊢
 go_enter Tryz.func68,Tryz.ntmps68
 go_wp2_with fail
 refine (LD.out _ (by exact mods)).mono ?_
 rintro e w2 ⟨rfl,m2⟩
 have M2:=Lib.hid (Mod.trans' (show Mod [] w _ from by exact mods) m2)
 clear m2
 go_wp2_with fail
 go_ret
 exact ⟨rfl,M2.out⟩
theorem tbddRight_c {w:World} {b n:Nat} {L:List Rc} {room:Nat} {F:List Nat} (h:IsSt w b n L room F) (hL:L.length≤1048576) (hnd:L.Nodup) (hG:Good L n) (hn:n≤16) (e:Ed) (l:Nat) (hl:l≤n) (hP:LeadsP L 5 e l n) {x:Nat × Tr} (hR:RepE L 5 e x) (hRg:RgT 5 x.2) (hsz:tsz x.2≤1000000) (hfew:(dis [] (nds x.2)).length≤49):
 Calls Tryz.prog 71 #[.pointer (some ⟨b,0,none⟩),edv e,.int .i64 l] w fun e w'=>e=.returned (.bool true)∧Mod [] w w':=by
 have LD:Hid (∀W,Mod [] w W→_):=fun W m=>stLeads_c (h.mod m (by simp)) hL hn 5 (by omega) (by omega) e l hl hP
 have few:∀l:List Nat,l.Nodup→(∀id∈l,idsAll L [(5,x.2)] id)→l.length≤(dis [] (nds x.2)).length:=fun l hl hm=>
  nodup_le_rel (fun id S=>Rep L 5 id S) (fun a a' b h k=>Rep.inj hnd h k) hl (fun id hid=>by
   obtain ⟨y,hy,S,hS,hr⟩:=hm id hid
   simp at hy;subst hy
   exact ⟨S,by rw [dis_mem];exact .inr hS,hr⟩)
 have RE:Hid (∀(W:World) (g:Nat),Mod [] w W→Blk W g #[.int .u8 e.t,.int .u32 e.a] 39→Calls Tryz.prog 117 #[.pointer (some ⟨b,0,none⟩),.slice (some ⟨g,0,none⟩) 1 1] W (ReachQ W L [(5,x.2)])):=fun W g m hb=>by
  refine (reachQ_c (h.mod m (by simp)) hL hnd (A:=some ⟨g,0,none⟩) (k:=1) (cap:=1) (es:=[e]) ⟨rfl,by omega,fun i hi=>?_⟩ (ts:=[(5,x.2)]) ⟨rfl,fun i h1 h2=>?_⟩ (by omega) (by rw [tszs_one];exact hsz) (fun l hl hm=>Nat.le_trans (few l hl hm) hfew))
  ·obtain rfl:i=0:=by simpa using hi
   exact ⟨g,0,rfl,hb.lt,hb.cells2.1,hb.cells2.2⟩
  ·obtain rfl:i=0:=by simpa using h1
   exact hR.a
 have GT:Hid (∀(W:World) (id:Nat) (r:Rc),Mod [] w W→recAt L id=some r→_):=fun W id r m hr=>stGet_live (h.mod m (by simp)) hL id r hr
 have GN:Hid (∀(W:World) (id:Nat),Mod [] w W→id≤4294967295→recAt L id=none→_):=fun W id m hi hr=>stGet_none (h.mod m (by simp)) hL id hi hr
 have HG:=Lib.hid hG
 have HRG:=Lib.hid hRg
 have HL:=Lib.hid hL
 obtain ⟨t,a⟩:=e
 obtain ⟨gk,hgk⟩:∃gk,w.heap.size=gk:=⟨_,rfl⟩
 clear h hP hR few hsz hnd hfew hG hRg hL
 unfold edv at *
 simp only at LD RE ⊢
 go_enter Tryz.func71,Tryz.ntmps71
 go_wp2_with fail
 refine (LD.out _ (by exact mods)).mono ?_
 rintro e w2 ⟨rfl,m2⟩
 have BR:=(Blk.new' w _ _ gk hgk.symm).mod m2 (by simp)
 have M2:=Lib.hid (Mod.trans' (show Mod [] w _ from by exact mods) m2)
 obtain ⟨e0,e1⟩:=BR.cells2
 have hbl:=BR.lt
 obtain ⟨gs,hgs⟩:∃gs,w2.heap.size=gs:=⟨_,rfl⟩
 clear BR m2 LD
 go_wp2_with fail
 refine (RE.out _ gs (M2.out.trans' (show Mod [] w2 _ from by exact mods)) (Blk.new' _ _ _ gs hgs.symm)).mono ?_
 rintro e w3 ⟨A,cap,N,rfl,hcap,hN49,m3,hrow⟩
 have M3:=Lib.hid ((M2.out.trans' (show Mod [] w2 _ from by exact mods)).trans' m3)
 have HROW:=Lib.hid hrow
 have hN':(N:Int)≤49:=by omega
 clear m3 hrow e0 e1 hgs RE M2
 go_wp2_with fail
 go_loopw [21] (fun i wr=>∃k:Nat,k≤N∧i=.int .i64 k∧Hid (Mod [] w3 wr)) (fun i _=>(N - intOf i).toNat)
 case atStart=>exact ⟨0,by omega,rfl,Mod.refl _ _⟩
 case round=>
  obtain ⟨k,hk,rfl,HM⟩:=hrel
  by_cases hlt:k < N
  ·have hlt':(k:Int) < N:=by omega
   obtain ⟨g,rfl,-,hu⟩:=HROW.out (by omega)
   obtain ⟨id,hid,c0,f0,hi⟩:=hu.mod HM.out (by simp) (by
    obtain ⟨v,_,c,_⟩:=hu k hlt
    exact World.block_lt_of_cell? w3 _ c) k hlt
   obtain ⟨r,X,Y,hr,hrf,hX,hY,hN⟩:=reach_node hi HRG.out
   have GX:=Lib.hid (GT.out wr id r (M3.out.trans' HM.out) hr)
   have hgd:=HG.out id r hr
   have hb15:r.bot≤15:=by have:=hgd.right.bn;omega
   have ht15:r.top≤r.bot:=hgd.right.tb
   have T5:Hid (r.hi.a=0→r.lo.t≠r.top+1):=rt5 hY hN
   obtain ⟨rf,rt,rb,⟨lt,la⟩,⟨ht,ha⟩⟩:=r
   simp only at hrf hb15 ht15 T5
   clear hi hX hY hN hgd hr hu
   unfold rcv at GX
   simp only at GX
   rw [Nat.zero_add] at c0
   have ht16:(rt:Int)≤15:=by omega
   go_wp2_with fail
   refine GX.out.mono ?_
   rintro e w4 ⟨rfl,m4⟩
   have M4:=Lib.hid (HM.out.trans' m4)
   clear m4 GX c0 f0
   by_cases h0:ha=0
   ·have hne:=T5.out h0
    have q1:((ha:Int)==0)=true:=by rw [beq_iff_eq];omega
    have q2:((lt:Int)==(rt:Int)+1)=false:=by rw [beq_eq_false_iff_ne];omega
    clear h0 hne
    go_wp2_with fail
    go_roundw
    case rel=>exact ⟨k+1,by omega,by go_num,M4.out.trans' (show Mod [] w4 _ from by exact mods)⟩
    case measure=>simp [intOf];omega
   ·have q1:((ha:Int)==0)=false:=by rw [beq_eq_false_iff_ne];omega
    clear h0
    go_wp2_with fail
    go_roundw
    case rel=>exact ⟨k+1,by omega,by go_num,M4.out.trans' (show Mod [] w4 _ from by exact mods)⟩
    case measure=>simp [intOf];omega
  ·obtain rfl:N=k:=by omega
   go_wp2_with fail
   go_ret
   exact ⟨rfl,M3.out.trans' HM.out⟩
theorem cbddRight_c {w:World} {b n:Nat} {L:List Rc} {room:Nat} {F:List Nat} (h:IsSt w b n L room F) (hL:L.length≤1048576) (hnd:L.Nodup) (hG:Good L n) (hn:n≤16) (e:Ed) (l:Nat) (hl:l≤n) (hP:LeadsP L 3 e l n) {x:Nat × Tr} (hR:RepE L 3 e x) (hRg:RgT 3 x.2) (hsz:tsz x.2≤1000000) (hfew:(dis [] (nds x.2)).length≤49):
 Calls Tryz.prog 69 #[.pointer (some ⟨b,0,none⟩),edv e,.int .i64 l] w fun e w'=>e=.returned (.bool true)∧Mod [] w w':=by
 have LD:Hid (∀W,Mod [] w W→_):=fun W m=>stLeads_c (h.mod m (by simp)) hL hn 3 (by omega) (by omega) e l hl hP
 have few:∀l:List Nat,l.Nodup→(∀id∈l,idsAll L [(3,x.2)] id)→l.length≤(dis [] (nds x.2)).length:=fun l hl hm=>
  nodup_le_rel (fun id S=>Rep L 3 id S) (fun a a' b h k=>Rep.inj hnd h k) hl (fun id hid=>by
   obtain ⟨y,hy,S,hS,hr⟩:=hm id hid
   simp at hy;subst hy
   exact ⟨S,by rw [dis_mem];exact .inr hS,hr⟩)
 have RE:Hid (∀(W:World) (g:Nat),Mod [] w W→Blk W g #[.int .u8 e.t,.int .u32 e.a] 39→Calls Tryz.prog 117 #[.pointer (some ⟨b,0,none⟩),.slice (some ⟨g,0,none⟩) 1 1] W (ReachQ W L [(3,x.2)])):=fun W g m hb=>by
  refine (reachQ_c (h.mod m (by simp)) hL hnd (A:=some ⟨g,0,none⟩) (k:=1) (cap:=1) (es:=[e]) ⟨rfl,by omega,fun i hi=>?_⟩ (ts:=[(3,x.2)]) ⟨rfl,fun i h1 h2=>?_⟩ (by omega) (by rw [tszs_one];exact hsz) (fun l hl hm=>Nat.le_trans (few l hl hm) hfew))
  ·obtain rfl:i=0:=by simpa using hi
   exact ⟨g,0,rfl,hb.lt,hb.cells2.1,hb.cells2.2⟩
  ·obtain rfl:i=0:=by simpa using h1
   exact hR.a
 have GT:Hid (∀(W:World) (id:Nat) (r:Rc),Mod [] w W→recAt L id=some r→_):=fun W id r m hr=>stGet_live (h.mod m (by simp)) hL id r hr
 have GN:Hid (∀(W:World) (id:Nat),Mod [] w W→id≤4294967295→recAt L id=none→_):=fun W id m hi hr=>stGet_none (h.mod m (by simp)) hL id hi hr
 have HG:=Lib.hid hG
 have HRG:=Lib.hid hRg
 have HL:=Lib.hid hL
 obtain ⟨t,a⟩:=e
 obtain ⟨gk,hgk⟩:∃gk,w.heap.size=gk:=⟨_,rfl⟩
 clear h hP hR few hsz hnd hfew hG hRg hL
 unfold edv at *
 simp only at LD RE ⊢
 go_enter Tryz.func69,Tryz.ntmps69
 go_wp2_with fail
 refine (LD.out _ (by exact mods)).mono ?_
 rintro e w2 ⟨rfl,m2⟩
 have BR:=(Blk.new' w _ _ gk hgk.symm).mod m2 (by simp)
 have M2:=Lib.hid (Mod.trans' (show Mod [] w _ from by exact mods) m2)
 obtain ⟨e0,e1⟩:=BR.cells2
 have hbl:=BR.lt
 obtain ⟨gs,hgs⟩:∃gs,w2.heap.size=gs:=⟨_,rfl⟩
 clear BR m2 LD
 go_wp2_with fail
 refine (RE.out _ gs (M2.out.trans' (show Mod [] w2 _ from by exact mods)) (Blk.new' _ _ _ gs hgs.symm)).mono ?_
 rintro e w3 ⟨A,cap,N,rfl,hcap,hN49,m3,hrow⟩
 have M3:=Lib.hid ((M2.out.trans' (show Mod [] w2 _ from by exact mods)).trans' m3)
 have HROW:=Lib.hid hrow
 have hN':(N:Int)≤49:=by omega
 clear m3 hrow e0 e1 hgs RE M2
 go_wp2_with fail
 go_loopw [23] (fun i wr=>∃k:Nat,k≤N∧i=.int .i64 k∧Hid (Mod [] w3 wr)) (fun i _=>(N - intOf i).toNat)
 case atStart=>exact ⟨0,by omega,rfl,Mod.refl _ _⟩
 case round=>
  obtain ⟨k,hk,rfl,HM⟩:=hrel
  by_cases hlt:k < N
  ·have hlt':(k:Int) < N:=by omega
   obtain ⟨g,rfl,-,hu⟩:=HROW.out (by omega)
   obtain ⟨id,hid,c0,f0,hi⟩:=hu.mod HM.out (by simp) (by
    obtain ⟨v,_,c,_⟩:=hu k hlt
    exact World.block_lt_of_cell? w3 _ c) k hlt
   obtain ⟨r,X,Y,hr,hrf,hX,hY,hN⟩:=reach_node hi HRG.out
   have GX:=Lib.hid (GT.out wr id r (M3.out.trans' HM.out) hr)
   have hgd:=HG.out id r hr
   have hb15:r.bot≤15:=by have:=hgd.right.bn;omega
   have ht15:r.top≤r.bot:=hgd.right.tb
   have hla:r.lo.a≤4294967295:=by
    have:=HL.out
    rcases hX.ge with ⟨_,_,h⟩ | ⟨_,h⟩<;>omega
   have hbb:r.bot < n:=hgd.right.bn
   cases hs:recAt L r.lo.a with
   | none=>
    have GY:Hid (∀W,Mod [] w W→_):=fun W m=>GN.out W r.lo.a m hla hs
    clear hi hX hY hN hgd hr hu hs hla hrf
    obtain ⟨rf,rt,rb,⟨lt,la⟩,⟨ht,ha⟩⟩:=r
    simp only at hb15 ht15 GY
    unfold rcv at GX GY
    simp only at GX GY
    rw [Nat.zero_add] at c0
    have ht16:(rt:Int)≤15:=by omega
    have hb16:(rb:Int)≤15:=by omega
    go_wp2_with fail
    refine GX.out.mono ?_
    rintro e w4 ⟨rfl,m4⟩
    have M4:=Lib.hid (HM.out.trans' m4)
    clear m4 GX c0 f0
    obtain ⟨g9,hg9⟩:∃g9,w4.heap.size=g9:=⟨_,rfl⟩
    have B9:=Lib.hid (Blk.new' w4 #[.int .u8 rf,.int .u8 rt,.int .u8 rb,.int .u8 lt,.int .u32 la,.int .u8 ht,.int .u32 ha] 134 g9 hg9.symm)
    go_wp2_with fail
    refine (GY.out _ (M3.out.trans' (M4.out.trans' (show Mod [] w4 _ from by exact mods)))).mono ?_
    rintro e w5 ⟨rfl,m5⟩
    replace B9:=Lib.hid (B9.out.mod (S:=[]) m5 (by simp))
    have M5:=Lib.hid (M4.out.trans' ((show Mod [] w4 _ from by exact mods).trans' m5))
    clear m5 GY hg9
    have h9:=B9.out.lt
    obtain ⟨g11,hg11⟩:∃g11,w5.heap.size=g11:=⟨_,rfl⟩
    have n1:¬g9=g11:=by omega
    have n2:¬g11=g9:=by omega
    have x2:=fun o=>(B9.out.alloc o).cell 2
    have x3:=fun o=>(B9.out.alloc o).cell 3
    have x4:=fun o=>(B9.out.alloc o).cell 4
    have x5:=fun o=>(B9.out.alloc o).cell 5
    have x6:=fun o=>(B9.out.alloc o).cell 6
    simp only [List.getElem?_toArray,List.getElem?_cons_zero,List.getElem?_cons_succ] at x2 x3 x4 x5 x6
    go_wp2_with fail
    go_roundw
    case rel=>exact ⟨k+1,by omega,by go_num,M5.out.trans' (show Mod [] w5 _ from by exact mods)⟩
    case measure=>simp [intOf];omega
   | some s=>
    have GY:Hid (∀W,Mod [] w W→_):=fun W m=>GT.out W r.lo.a s m hs
    have TT:Hid (_):=rt3 hX hY hN hs
    have hst:=(HG.out _ s hs).right.tb
    have hsb:=(HG.out _ s hs).right.bn
    obtain ⟨sf,st,sb,⟨slt,sla⟩,⟨sht,sha⟩⟩:=s
    simp only at TT hst hsb
    clear hi hX hY hN hgd hr hu hs hla hrf
    obtain ⟨rf,rt,rb,⟨lt,la⟩,⟨ht,ha⟩⟩:=r
    simp only at hb15 ht15 GY TT
    unfold rcv at GX GY
    simp only at GX GY
    rw [Nat.zero_add] at c0
    have ht16:(rt:Int)≤15:=by omega
    have hb16:(rb:Int)≤15:=by omega
    go_wp2_with fail
    refine GX.out.mono ?_
    rintro e w4 ⟨rfl,m4⟩
    have M4:=Lib.hid (HM.out.trans' m4)
    clear m4 GX c0 f0
    obtain ⟨g9,hg9⟩:∃g9,w4.heap.size=g9:=⟨_,rfl⟩
    have B9:=Lib.hid (Blk.new' w4 #[.int .u8 rf,.int .u8 rt,.int .u8 rb,.int .u8 lt,.int .u32 la,.int .u8 ht,.int .u32 ha] 134 g9 hg9.symm)
    go_wp2_with fail
    refine (GY.out _ (M3.out.trans' (M4.out.trans' (show Mod [] w4 _ from by exact mods)))).mono ?_
    rintro e w5 ⟨rfl,m5⟩
    replace B9:=Lib.hid (B9.out.mod (S:=[]) m5 (by simp))
    have M5:=Lib.hid (M4.out.trans' ((show Mod [] w4 _ from by exact mods).trans' m5))
    clear m5 GY hg9
    have h9:=B9.out.lt
    obtain ⟨g11,hg11⟩:∃g11,w5.heap.size=g11:=⟨_,rfl⟩
    have n1:¬g9=g11:=by omega
    have n2:¬g11=g9:=by omega
    have x2:=fun o=>(B9.out.alloc o).cell 2
    have x3:=fun o=>(B9.out.alloc o).cell 3
    have x4:=fun o=>(B9.out.alloc o).cell 4
    have x5:=fun o=>(B9.out.alloc o).cell 5
    have x6:=fun o=>(B9.out.alloc o).cell 6
    simp only [List.getElem?_toArray,List.getElem?_cons_zero,List.getElem?_cons_succ] at x2 x3 x4 x5 x6
    have hst16:(st:Int)≤15:=by omega
    by_cases q:st=rb+1
    ·have hne:¬((⟨sht,sha⟩:Ed)=⟨ht,ha⟩):=fun e=>TT.out ⟨q,e⟩
     have EQ:=fun w=>(eqIn_ed 9998 ⟨sht,sha⟩ ⟨ht,ha⟩ w).trans (by rw [decide_eq_false hne])
     unfold edv at EQ
     have q1:((st:Int)==(rb:Int)+1)=true:=by rw [beq_iff_eq];omega
     clear q hne TT
     go_wp2_with fail
     go_roundw
     case rel=>exact ⟨k+1,by omega,by go_num,M5.out.trans' (show Mod [] w5 _ from by exact mods)⟩
     case measure=>simp [intOf];omega
    ·have q1:((st:Int)==(rb:Int)+1)=false:=by rw [beq_eq_false_iff_ne];omega
     clear q TT
     go_wp2_with fail
     go_roundw
     case rel=>exact ⟨k+1,by omega,by go_num,M5.out.trans' (show Mod [] w5 _ from by exact mods)⟩
     case measure=>simp [intOf];omega
  ·obtain rfl:N=k:=by omega
   go_wp2_with fail
   go_ret
   exact ⟨rfl,M3.out.trans' HM.out⟩
theorem czddRight_c {w:World} {b n:Nat} {L:List Rc} {room:Nat} {F:List Nat} (h:IsSt w b n L room F) (hL:L.length≤1048576) (hnd:L.Nodup) (hG:Good L n) (hn:n≤16) (e:Ed) (l:Nat) (hl:l≤n) (hP:LeadsP L 4 e l n) {x:Nat × Tr} (hR:RepE L 4 e x) (hRg:RgT 4 x.2) (hsz:tsz x.2≤1000000) (hfew:(dis [] (nds x.2)).length≤49):
 Calls Tryz.prog 70 #[.pointer (some ⟨b,0,none⟩),edv e,.int .i64 l] w fun e w'=>e=.returned (.bool true)∧Mod [] w w':=by
 have LD:Hid (∀W,Mod [] w W→_):=fun W m=>stLeads_c (h.mod m (by simp)) hL hn 4 (by omega) (by omega) e l hl hP
 have few:∀l:List Nat,l.Nodup→(∀id∈l,idsAll L [(4,x.2)] id)→l.length≤(dis [] (nds x.2)).length:=fun l hl hm=>
  nodup_le_rel (fun id S=>Rep L 4 id S) (fun a a' b h k=>Rep.inj hnd h k) hl (fun id hid=>by
   obtain ⟨y,hy,S,hS,hr⟩:=hm id hid
   simp at hy;subst hy
   exact ⟨S,by rw [dis_mem];exact .inr hS,hr⟩)
 have RE:Hid (∀(W:World) (g:Nat),Mod [] w W→Blk W g #[.int .u8 e.t,.int .u32 e.a] 39→Calls Tryz.prog 117 #[.pointer (some ⟨b,0,none⟩),.slice (some ⟨g,0,none⟩) 1 1] W (ReachQ W L [(4,x.2)])):=fun W g m hb=>by
  refine (reachQ_c (h.mod m (by simp)) hL hnd (A:=some ⟨g,0,none⟩) (k:=1) (cap:=1) (es:=[e]) ⟨rfl,by omega,fun i hi=>?_⟩ (ts:=[(4,x.2)]) ⟨rfl,fun i h1 h2=>?_⟩ (by omega) (by rw [tszs_one];exact hsz) (fun l hl hm=>Nat.le_trans (few l hl hm) hfew))
  ·obtain rfl:i=0:=by simpa using hi
   exact ⟨g,0,rfl,hb.lt,hb.cells2.1,hb.cells2.2⟩
  ·obtain rfl:i=0:=by simpa using h1
   exact hR.a
 have GT:Hid (∀(W:World) (id:Nat) (r:Rc),Mod [] w W→recAt L id=some r→_):=fun W id r m hr=>stGet_live (h.mod m (by simp)) hL id r hr
 have GN:Hid (∀(W:World) (id:Nat),Mod [] w W→id≤4294967295→recAt L id=none→_):=fun W id m hi hr=>stGet_none (h.mod m (by simp)) hL id hi hr
 have HG:=Lib.hid hG
 have HRG:=Lib.hid hRg
 have HL:=Lib.hid hL
 obtain ⟨t,a⟩:=e
 obtain ⟨gk,hgk⟩:∃gk,w.heap.size=gk:=⟨_,rfl⟩
 clear h hP hR few hsz hnd hfew hG hRg hL
 unfold edv at *
 simp only at LD RE ⊢
 go_enter Tryz.func70,Tryz.ntmps70
 go_wp2_with fail
 refine (LD.out _ (by exact mods)).mono ?_
 rintro e w2 ⟨rfl,m2⟩
 have BR:=(Blk.new' w _ _ gk hgk.symm).mod m2 (by simp)
 have M2:=Lib.hid (Mod.trans' (show Mod [] w _ from by exact mods) m2)
 obtain ⟨e0,e1⟩:=BR.cells2
 have hbl:=BR.lt
 obtain ⟨gs,hgs⟩:∃gs,w2.heap.size=gs:=⟨_,rfl⟩
 clear BR m2 LD
 go_wp2_with fail
 refine (RE.out _ gs (M2.out.trans' (show Mod [] w2 _ from by exact mods)) (Blk.new' _ _ _ gs hgs.symm)).mono ?_
 rintro e w3 ⟨A,cap,N,rfl,hcap,hN49,m3,hrow⟩
 have M3:=Lib.hid ((M2.out.trans' (show Mod [] w2 _ from by exact mods)).trans' m3)
 have HROW:=Lib.hid hrow
 have hN':(N:Int)≤49:=by omega
 clear m3 hrow e0 e1 hgs RE M2
 go_wp2_with fail
 go_loopw [23] (fun i wr=>∃k:Nat,k≤N∧i=.int .i64 k∧Hid (Mod [] w3 wr)) (fun i _=>(N - intOf i).toNat)
 case atStart=>exact ⟨0,by omega,rfl,Mod.refl _ _⟩
 case round=>
  obtain ⟨k,hk,rfl,HM⟩:=hrel
  by_cases hlt:k < N
  ·have hlt':(k:Int) < N:=by omega
   obtain ⟨g,rfl,-,hu⟩:=HROW.out (by omega)
   obtain ⟨id,hid,c0,f0,hi⟩:=hu.mod HM.out (by simp) (by
    obtain ⟨v,_,c,_⟩:=hu k hlt
    exact World.block_lt_of_cell? w3 _ c) k hlt
   obtain ⟨r,X,Y,hr,hrf,hX,hY,hN⟩:=reach_node hi HRG.out
   have GX:=Lib.hid (GT.out wr id r (M3.out.trans' HM.out) hr)
   have hgd:=HG.out id r hr
   have hb15:r.bot≤15:=by have:=hgd.right.bn;omega
   have ht15:r.top≤r.bot:=hgd.right.tb
   have hla:r.lo.a≤4294967295:=by
    have:=HL.out
    rcases hX.ge with ⟨_,_,h⟩ | ⟨_,h⟩<;>omega
   have hbb:r.bot < n:=hgd.right.bn
   cases hs:recAt L r.lo.a with
   | none=>
    have GY:Hid (∀W,Mod [] w W→_):=fun W m=>GN.out W r.lo.a m hla hs
    clear hi hX hY hN hgd hr hu hs hla hrf
    obtain ⟨rf,rt,rb,⟨lt,la⟩,⟨ht,ha⟩⟩:=r
    simp only at hb15 ht15 GY
    unfold rcv at GX GY
    simp only at GX GY
    rw [Nat.zero_add] at c0
    have ht16:(rt:Int)≤15:=by omega
    have hb16:(rb:Int)≤15:=by omega
    go_wp2_with fail
    refine GX.out.mono ?_
    rintro e w4 ⟨rfl,m4⟩
    have M4:=Lib.hid (HM.out.trans' m4)
    clear m4 GX c0 f0
    obtain ⟨g9,hg9⟩:∃g9,w4.heap.size=g9:=⟨_,rfl⟩
    have B9:=Lib.hid (Blk.new' w4 #[.int .u8 rf,.int .u8 rt,.int .u8 rb,.int .u8 lt,.int .u32 la,.int .u8 ht,.int .u32 ha] 134 g9 hg9.symm)
    go_wp2_with fail
    refine (GY.out _ (M3.out.trans' (M4.out.trans' (show Mod [] w4 _ from by exact mods)))).mono ?_
    rintro e w5 ⟨rfl,m5⟩
    replace B9:=Lib.hid (B9.out.mod (S:=[]) m5 (by simp))
    have M5:=Lib.hid (M4.out.trans' ((show Mod [] w4 _ from by exact mods).trans' m5))
    clear m5 GY hg9
    have h9:=B9.out.lt
    obtain ⟨g11,hg11⟩:∃g11,w5.heap.size=g11:=⟨_,rfl⟩
    have n1:¬g9=g11:=by omega
    have n2:¬g11=g9:=by omega
    have x2:=fun o=>(B9.out.alloc o).cell 2
    have x3:=fun o=>(B9.out.alloc o).cell 3
    have x4:=fun o=>(B9.out.alloc o).cell 4
    have x5:=fun o=>(B9.out.alloc o).cell 5
    have x6:=fun o=>(B9.out.alloc o).cell 6
    simp only [List.getElem?_toArray,List.getElem?_cons_zero,List.getElem?_cons_succ] at x2 x3 x4 x5 x6
    go_wp2_with fail
    go_roundw
    case rel=>exact ⟨k+1,by omega,by go_num,M5.out.trans' (show Mod [] w5 _ from by exact mods)⟩
    case measure=>simp [intOf];omega
   | some s=>
    have GY:Hid (∀W,Mod [] w W→_):=fun W m=>GT.out W r.lo.a s m hs
    have TT:Hid (_):=rt4 hX hY hN hs
    have hst:=(HG.out _ s hs).right.tb
    have hsb:=(HG.out _ s hs).right.bn
    obtain ⟨sf,st,sb,⟨slt,sla⟩,⟨sht,sha⟩⟩:=s
    simp only at TT hst hsb
    clear hi hX hY hN hgd hr hu hs hla hrf
    obtain ⟨rf,rt,rb,⟨lt,la⟩,⟨ht,ha⟩⟩:=r
    simp only at hb15 ht15 GY TT
    unfold rcv at GX GY
    simp only at GX GY
    rw [Nat.zero_add] at c0
    have ht16:(rt:Int)≤15:=by omega
    have hb16:(rb:Int)≤15:=by omega
    go_wp2_with fail
    refine GX.out.mono ?_
    rintro e w4 ⟨rfl,m4⟩
    have M4:=Lib.hid (HM.out.trans' m4)
    clear m4 GX c0 f0
    obtain ⟨g9,hg9⟩:∃g9,w4.heap.size=g9:=⟨_,rfl⟩
    have B9:=Lib.hid (Blk.new' w4 #[.int .u8 rf,.int .u8 rt,.int .u8 rb,.int .u8 lt,.int .u32 la,.int .u8 ht,.int .u32 ha] 134 g9 hg9.symm)
    go_wp2_with fail
    refine (GY.out _ (M3.out.trans' (M4.out.trans' (show Mod [] w4 _ from by exact mods)))).mono ?_
    rintro e w5 ⟨rfl,m5⟩
    replace B9:=Lib.hid (B9.out.mod (S:=[]) m5 (by simp))
    have M5:=Lib.hid (M4.out.trans' ((show Mod [] w4 _ from by exact mods).trans' m5))
    clear m5 GY hg9
    have h9:=B9.out.lt
    obtain ⟨g11,hg11⟩:∃g11,w5.heap.size=g11:=⟨_,rfl⟩
    have n1:¬g9=g11:=by omega
    have n2:¬g11=g9:=by omega
    have x2:=fun o=>(B9.out.alloc o).cell 2
    have x3:=fun o=>(B9.out.alloc o).cell 3
    have x4:=fun o=>(B9.out.alloc o).cell 4
    have x5:=fun o=>(B9.out.alloc o).cell 5
    have x6:=fun o=>(B9.out.alloc o).cell 6
    simp only [List.getElem?_toArray,List.getElem?_cons_zero,List.getElem?_cons_succ] at x2 x3 x4 x5 x6
    have hst16:(st:Int)≤15:=by omega
    by_cases q:(⟨lt,la⟩:Ed)=⟨ht,ha⟩
    ·have hne:¬st=rb+1:=fun e=>TT.out ⟨q,e⟩
     have EQ:=fun w=>(eqIn_ed 9998 ⟨lt,la⟩ ⟨ht,ha⟩ w).trans (by rw [decide_eq_true q])
     unfold edv at EQ
     have q1:((st:Int)==(rb:Int)+1)=false:=by rw [beq_eq_false_iff_ne];omega
     clear q hne TT
     go_wp2_with fail
     go_roundw
     case rel=>exact ⟨k+1,by omega,by go_num,M5.out.trans' (show Mod [] w5 _ from by exact mods)⟩
     case measure=>simp [intOf];omega
    ·have EQ:=fun w=>(eqIn_ed 9998 ⟨lt,la⟩ ⟨ht,ha⟩ w).trans (by rw [decide_eq_false q])
     unfold edv at EQ
     clear q TT
     go_wp2_with fail
     go_roundw
     case rel=>exact ⟨k+1,by omega,by go_num,M5.out.trans' (show Mod [] w5 _ from by exact mods)⟩
     case measure=>simp [intOf];omega
  ·obtain rfl:N=k:=by omega
   go_wp2_with fail
   go_ret
   exact ⟨rfl,M3.out.trans' HM.out⟩
theorem canonRight_c {w:World} {b n:Nat} {L:List Rc} {room:Nat} {F:List Nat} {f:Nat} (h1:1≤f) (h5:f≤5) (h:Sto w b n room L F) (hL:L.length≤1048576) (hn:n≤16) {k l:Nat} (hk:k≤5) {e:Ed} {t:List Bool} (hE:EdT L f n k l e t):
 Calls Tryz.prog 30 #[.pointer (some ⟨b,0,none⟩),.int .u8 f,edv e,.int .i64 l] w fun e w'=>e=.returned (.bool true)∧Mod [] w w':=by
 have hl:l≤n:=by have:=hE.lk;omega
 have fw:=few_build f n k l t hk
 have hRg:RgT f (buildE f n k l t).2:=RgT.build f n k l t
 obtain rfl | rfl | rfl | rfl | rfl:f=1∨f=2∨f=3∨f=4∨f=5:=by omega
 ·have C:Hid (∀W,Mod [] w W→_):=fun W m=>bddRight_c (h.st.mod m (by simp)) hL hn e l hl hE.lead
  clear h hE fw hRg
  obtain ⟨t',a⟩:=e
  unfold edv at *
  simp only at C ⊢
  go_enter Tryz.func30,Tryz.ntmps30
  go_wp2_with fail
  refine (C.out _ (by exact mods)).mono ?_
  rintro e w2 ⟨rfl,m2⟩
  have M2:=Lib.hid (Mod.trans' (show Mod [] w _ from by exact mods) m2)
  clear m2 C
  go_wp2_with fail
  go_ret
  exact ⟨rfl,M2.out⟩
 ·have C:Hid (∀W,Mod [] w W→_):=fun W m=>zddRight_c (h.st.mod m (by simp)) hL hn e l hl hE.lead
  clear h hE fw hRg
  obtain ⟨t',a⟩:=e
  unfold edv at *
  simp only at C ⊢
  go_enter Tryz.func30,Tryz.ntmps30
  go_wp2_with fail
  refine (C.out _ (by exact mods)).mono ?_
  rintro e w2 ⟨rfl,m2⟩
  have M2:=Lib.hid (Mod.trans' (show Mod [] w _ from by exact mods) m2)
  clear m2 C
  go_wp2_with fail
  go_ret
  exact ⟨rfl,M2.out⟩
 ·have C:Hid (∀W,Mod [] w W→_):=fun W m=>cbddRight_c (h.st.mod m (by simp)) hL h.nd h.good hn e l hl hE.lead hE.rep hRg fw.2 fw.1
  clear h hE fw hRg
  obtain ⟨t',a⟩:=e
  unfold edv at *
  simp only at C ⊢
  go_enter Tryz.func30,Tryz.ntmps30
  go_wp2_with fail
  refine (C.out _ (by exact mods)).mono ?_
  rintro e w2 ⟨rfl,m2⟩
  have M2:=Lib.hid (Mod.trans' (show Mod [] w _ from by exact mods) m2)
  clear m2 C
  go_wp2_with fail
  go_ret
  exact ⟨rfl,M2.out⟩
 ·have C:Hid (∀W,Mod [] w W→_):=fun W m=>czddRight_c (h.st.mod m (by simp)) hL h.nd h.good hn e l hl hE.lead hE.rep hRg fw.2 fw.1
  clear h hE fw hRg
  obtain ⟨t',a⟩:=e
  unfold edv at *
  simp only at C ⊢
  go_enter Tryz.func30,Tryz.ntmps30
  go_wp2_with fail
  refine (C.out _ (by exact mods)).mono ?_
  rintro e w2 ⟨rfl,m2⟩
  have M2:=Lib.hid (Mod.trans' (show Mod [] w _ from by exact mods) m2)
  clear m2 C
  go_wp2_with fail
  go_ret
  exact ⟨rfl,M2.out⟩
 ·have C:Hid (∀W,Mod [] w W→_):=fun W m=>tbddRight_c (h.st.mod m (by simp)) hL h.nd h.good hn e l hl hE.lead hE.rep hRg fw.2 fw.1
  clear h hE fw hRg
  obtain ⟨t',a⟩:=e
  unfold edv at *
  simp only at C ⊢
  go_enter Tryz.func30,Tryz.ntmps30
  go_wp2_with fail
  refine (C.out _ (by exact mods)).mono ?_
  rintro e w2 ⟨rfl,m2⟩
  have M2:=Lib.hid (Mod.trans' (show Mod [] w _ from by exact mods) m2)
  clear m2 C
  go_wp2_with fail
  go_ret
  exact ⟨rfl,M2.out⟩
open Go.RowKit
def ey (x:Nat):Value:=.int .u8 (x:Int)
theorem ey_one (l:List Nat):∀u∈l.map ey,u.oneCell'=true:=by
 intro u hu
 obtain ⟨x,_,rfl⟩:=List.mem_map.1 hu
 rfl
theorem Tryz.infoY:(Tryz.prog.info? 5).map (fun i=>(i.zero,i.size,i.bytes))=some (some (.int .u8 0),1,1):=by kernel_rfl
theorem cloneNilB_c (w:World):Calls Tryz.prog 155 #[.slice none 0 0] w fun e w'=>e=.returned (.slice none 0 0)∧w'=w:=by
 have heq:=fun (w:World) (a:Option Addr) (n c:Nat)=>Go.Lib.run_eql_slice_nil (P:=Tryz.prog) w 43 5 a n c 0 0 Tryz.underlying43
 go_enter Tryz.func155,Tryz.ntmps155
 go_wp2_with fail
 go_ret
 exact ⟨rfl,rfl⟩
theorem put1_c (n:Nat) (hn:n < 128) (w:World):Calls Tryz.prog 119 #[.slice none 0 0,.int .u64 n] w fun e w'=>∃v,e=.returned v∧NewV 5 w [ey n] w' v:=by
 have CN:=Lib.hid (cloneNilB_c w)
 obtain ⟨i0,hi,hz0,hz1,hz2⟩:=info_parts Tryz.infoY
 have hn':(n:Int) < 128:=by omega
 have hd:decide ((128:Int)≤(n:Int))=false:=by rw [decide_eq_false_iff_not];omega
 go_enter Tryz.func119,Tryz.ntmps119
 go_wp2_with fail
 refine CN.out.mono ?_
 rintro e w' ⟨rfl,rfl⟩
 go_wp2_with fail
 refine wp_loop_rounds 1 ?_
 rw [rounds_succ]
 go_wp2_with (at_builtin;refine wpList_append_sl _ rfl _ _ 43 rfl 5 i0 (.int .u8 0) 1 1 Tryz.underlying43 hi hz0 hz1 hz2 rfl (by decide) _ 0 [] [] rfl (Sl.nil _ _ _) ⟨_,0,none⟩ 1 1 [ey n] (by decide) rfl rfl (by intro j u hu;exact list_new_at _ _ _ _ (by simp) j u hu) (by intro u hu;simp at hu;subst hu;rfl) (by unfold maxLen;omega) (by omega) ?_;intro v5 w5 F5 hs5 hm5 hf5;have S5:=Lib.hid hs5;have M5:=Lib.hid hm5;have Q5:=Lib.hid hf5;obtain ⟨a5,cap5,rfl,_⟩:=hs5.shape;clear hs5 hm5 hf5)
 go_wp2_with fail
 go_ret
 exact ⟨_,rfl,F5,S5.out,(show Mod [] w' _ from by exact mods).trans' M5.out,fun k hk=>(Q5.out k hk).elim (fun h=>by simp at h) (fun h=>by simp at h;omega)⟩
def PenB (w:World) (bp:Nat) (sv:Value) (f:Nat) (mv:Value) (bs:List Nat) (Fb:List Nat):Prop:=
 ∃vb,Blk w bp #[sv,.int .u8 f,vb,mv] 154∧Sl w 5 1 vb bs.length (bs.map ey) Fb∧bp∉Fb
theorem PenB.mod {S:List Nat} {w w':World} {bp f:Nat} {sv mv:Value} {bs Fb:List Nat} (h:PenB w bp sv f mv bs Fb) (m:Mod S w w') (hd:∀k∈bp::Fb,k∉S):PenB w' bp sv f mv bs Fb:=by
 obtain ⟨vb,h1,h2,h3⟩:=h
 exact ⟨vb,h1.mod m (hd bp (by simp)),h2.mod m (fun k hk=>hd k (by simp [hk])),h3⟩
theorem PenB.lt {w:World} {bp f:Nat} {sv mv:Value} {bs Fb:List Nat} (h:PenB w bp sv f mv bs Fb):∀k∈bp::Fb,k < w.heap.size:=by
 obtain ⟨vb,h1,h2,h3⟩:=h
 intro k hk
 rcases List.mem_cons.1 hk with rfl | hk
 ·exact h1.lt
 ·exact h2.lt k hk
def PenW (w w':World) (bp:Nat) (sv:Value) (f:Nat) (mv:Value) (bs bs2:List Nat) (Fb:List Nat):Prop:=
 ∃Fb',PenB w' bp sv f mv (bs++bs2) Fb'∧Mod (bp::Fb) w w'∧∀k∈Fb',k∈Fb∨w.heap.size≤k
theorem PenW.refl {w:World} {bp f:Nat} {sv mv:Value} {bs Fb:List Nat} (h:PenB w bp sv f mv bs Fb):PenW w w bp sv f mv bs [] Fb:=
 ⟨Fb,by rw [List.append_nil];exact h,Mod.refl _ _,fun k hk=>.inl hk⟩
theorem one_at {w:World} {g:Nat} {c:Value} (h:w.cell? ⟨g,0,none⟩=some c) (j:Nat) (u:Value) (hu:[c][j]? =some u):w.cell? ((⟨g,0,none⟩:Addr).add j)=some u:=by
 obtain ⟨hj,e⟩:=List.getElem?_eq_some_iff.1 hu
 obtain rfl:j=0:=by simpa using hj
 have:(⟨g,0,none⟩:Addr).add 0=⟨g,0,none⟩:=rfl
 rw [this,h,←e]
 rfl
theorem penNum_c {w:World} {bp f n:Nat} {sv mv:Value} {bs Fb:List Nat} (h:PenB w bp sv f mv bs Fb) (hn:n < 128) (hb:bs.length≤100000):
 Calls Tryz.prog 74 #[.pointer (some ⟨bp,0,none⟩),.int .u64 n] w fun e w'=>e=.returned (.tuple #[])∧PenW w w' bp sv f mv bs [n] Fb:=by
 obtain ⟨vb,hB,hS,hbf⟩:=h
 obtain ⟨i0,hi,hz0,hz1,hz2⟩:=info_parts Tryz.infoY
 obtain ⟨A,cap,rfl,hcap⟩:=hS.shape
 have k2:=hB.cell 2
 simp only [List.getElem?_toArray,List.getElem?_cons_zero,List.getElem?_cons_succ] at k2
 have kf:=hB.froz 2
 have hbl:=hB.lt
 have PU:Hid (∀W,Mod [] w W→Calls Tryz.prog 119 #[.slice none 0 0,.int .u64 n] W fun e w'=>∃v,e=.returned v∧NewV 5 W [ey n] w' v∧w'.cell? ⟨bp,2,none⟩=some (.slice A bs.length cap)∧w'.frozen? ⟨bp,2,none⟩=false∧Mod [] w w'):=fun W m=>(put1_c n hn W).mono (by
  rintro e w' ⟨v,rfl,nv⟩
  have m2:=m.trans' nv.mod
  exact ⟨v,rfl,nv,(m2.cell hbl (by simp)).trans k2,(m2.froz hbl (by simp)).trans kf,m2⟩)
 have HB:=Lib.hid hB
 have HS:=Lib.hid hS
 have HBF:=Lib.hid hbf
 obtain ⟨ln,hln⟩:∃ln,bs.length=ln:=⟨_,rfl⟩
 rw [hln] at HS hcap hb k2 PU
 have HLN:=Lib.hid hln
 clear hB hS hbf hln
 go_enter Tryz.func74,Tryz.ntmps74
 go_wp2_with fail
 go_region_law (first | (go_simp;go_at_call 119;refine (PU.out _ (by exact mods)).mono ?_;rintro e' w2 ⟨v2,rfl,nv,k2,kf,m2⟩;obtain ⟨F2,s2,-,q2⟩:=nv;have S2:=Lib.hid s2;have Q2:=Lib.hid q2;have M2:=Lib.hid m2;obtain ⟨g2,c2,rfl,-,-⟩:=s2.pos (by simp);have hb2:=Nat.lt_of_lt_of_le hbl m2.size;have y0:=(s2.at 0 (by simp)).1;simp only [List.getElem?_cons_zero] at y0;clear s2 q2 m2) | (refine step_append_sl rfl _ _ 43 rfl 5 i0 (.int .u8 0) 1 1 Tryz.underlying43 hi hz0 hz1 hz2 rfl (by decide) _ ln (bs.map ey) Fb rfl (HS.out.mod M2.out (by simp)) ⟨g2,0,none⟩ 1 c2 [ey n] (by decide) rfl rfl (by intro j u hu;exact one_at y0 j u hu) (by intro u hu;simp at hu;subst hu;rfl) (by unfold maxLen;omega) (by omega) ?_;intro v5 w5 F5 hs5 hm5 hf5;have S5:=Lib.hid hs5;have M5:=Lib.hid hm5;have Q5:=Lib.hid hf5;obtain ⟨a5,cap5,rfl,_⟩:=hs5.shape;have k2:=(hm5.cell (a:=⟨bp,2,none⟩) hb2 HBF.out).trans k2;have kf:=(hm5.froz (a:=⟨bp,2,none⟩) hb2 HBF.out).trans kf;clear hs5 hm5 hf5))
 all_goals
  clear PU y0 k2 kf
  have hm25:Mod Fb w w5:=(M2.out.mono (by simp)).trans' M5.out
  have hB5:=(HB.out.mod hm25 HBF.out).set 2 (.slice a5 (ln+1) cap5)
  have hbF5:bp∉F5:=fun h=>by
   rcases Q5.out bp h with q | q
   ·exact HBF.out q
   ·omega
  have hS5:Sl (w5.setCell ⟨bp,2,none⟩ (.slice a5 (ln+1) cap5)) 5 1 (.slice a5 (ln+1) cap5) (ln+1) (bs.map ey++[ey n]) F5:=S5.out.mod (S:=[bp]) ((Mod.refl _ _).setCell _ _ (by simp)) (fun k hk=>by simp;rintro rfl;exact hbF5 hk)
  have hW:Mod (bp::Fb) w (w5.setCell ⟨bp,2,none⟩ (.slice a5 (ln+1) cap5)):=(hm25.mono (by intro k _ h;simp [h])).setCell _ _ (by simp)
  have hms:=M2.out.size
  go_wp2_with fail
  refine bodyPost_end (v:=.tuple #[]) (by simp [results,Tryz.results74,go_sem];try rfl) rfl ?_
  refine ⟨rfl,F5,⟨_,by simpa using hB5,?_,hbF5⟩,hW,fun k hk=>(Q5.out k hk).imp (fun h=>h) (fun h=>by omega)⟩
  rw [List.length_append,HLN.out,List.map_append]
  exact hS5
open Go.RowKit
theorem holds_c {w:World} {b n:Nat} {L:List Rc} {room:Nat} {F:List Nat} (h:IsSt w b n L room F) (hL:L.length≤1048576) (hG:Good L n) (hn:n≤16) (f:Nat) (h1:1≤f) (h5:f≤5) (e:Ed) (T:Tr) (hT0:Rep L f e.a T) (l:Nat) (hl:l≤n) (hP:LeadsP L f e l n) (x:Nat) (hx:x < 65536):
 Calls Tryz.prog 40 #[.pointer (some ⟨b,0,none⟩),.int .u8 f,edv e,.int .i64 l,.int .u16 x] w fun e' w'=>e'=.returned (.tuple #[.bool (hT f n x e.t T l),.int .u8 0])∧Mod [] w w':=by
 have MY:Hid (∀W,Mod [] w W→_):=fun W m=>canonMay_c (h.mod m (by simp)) hL hn f h1 h5 e l hl hP
 have VA:Hid (∀W',Mod [] w W'→Calls Tryz.prog 26 #[.pointer (some ⟨b,0,none⟩)] W' fun e w'=>e=.returned (.int .i64 n)∧w'=W'):=fun W' m=>by
  obtain ⟨ba,bi,Fa,c0,_⟩:=(h.mod m (by simp)).own
  exact stVars_c b n W' c0
 have GL:Hid (∀W (id:Nat) (r:Rc),Mod [] w W→recAt L id=some r→Calls Tryz.prog 85 #[.pointer (some ⟨b,0,none⟩),.int .u32 id] W fun e w'=>e=.returned (.tuple #[rcv r,.bool true])∧Mod [] W w'):=fun W id r m hr=>stGet_live (h.mod m (by simp)) hL id r hr
 have GN:Hid (∀W,Mod [] w W→Calls Tryz.prog 85 #[.pointer (some ⟨b,0,none⟩),.int .u32 1] W fun e w'=>e=.returned (.tuple #[rcv rc0,.bool false])∧Mod [] W w'):=fun W m=>stGet_none (h.mod m (by simp)) hL 1 (by omega) (by unfold recAt;simp)
 have FR:=Lib.hid (free2_c f)
 have SI:Hid (∀(r:Rc) (W:World),RightR r n→Calls Tryz.prog 88 #[rcv r,.int .u16 x] W fun e' w'=>e'=.returned (edv (sideN r x))∧Mod [] W w'):=fun r W hr=>side_c r n hr x hx W
 have CL:Hid (∀(a d:Nat) (W:World),a+d≤64→Calls Tryz.prog 86 #[.int .u16 x,.int .i64 a,.int .i64 ((a+d:Nat):Int)] W fun e w'=>e=.returned (.bool (clearN x a d))∧w'=W):=fun a d W ha=>clear_c x a d hx ha W
 have HG:=Lib.hid hG
 have LP:=Lib.hid hP
 have RP:=Lib.hid hT0
 obtain ⟨v,hv⟩:∃v,hT f n x e.t T l=v:=⟨_,rfl⟩
 have HV:=Lib.hid hv
 rw [hv]
 obtain ⟨t,a⟩:=e
 unfold edv at MY ⊢
 simp only at MY LP RP HV ⊢
 obtain ⟨gk,hgk⟩:∃gk,w.heap.size=gk:=⟨_,rfl⟩
 clear h hG hT0 hP hv hx
 go_enter Tryz.func40,Tryz.ntmps40
 go_wp2_with fail
 refine (MY.out _ (by exact mods)).mono ?_
 rintro e w2 ⟨rfl,m2⟩
 have M2:Hid (Mod [] w w2):=(Mod.trans' (show Mod [] w _ from by exact mods) m2)
 have BR:=Lib.hid ((Blk.new' w _ _ gk hgk.symm).mod m2 (by simp))
 have hbl:=BR.out.lt
 clear m2 MY
 go_wp2_with fail
 go_loopw [3] (fun i wr=>∃(l t a:Nat) (T:Tr),i=.int .i64 l∧l≤n∧Hid (Mod [] w wr)∧Hid (Blk wr gk #[.int .u8 t,.int .u32 a] 39)∧Hid (LeadsP L f ⟨t,a⟩ l n)∧Hid (Rep L f a T)∧Hid (hT f n x t T l=v)) (fun i _=>n - (intOf i).toNat)
 case atStart=>exact ⟨l,t,a,T,rfl,hl,M2,BR,LP,RP,HV⟩
 case round=>
  clear BR LP RP HV M2
  obtain ⟨l,t,a,T,rfl,hl,M,B,LP,RP,HV⟩:=hrel
  obtain ⟨d0,d1⟩:=B.out.cells2
  have hbl:=B.out.lt
  by_cases ha0:a=0
  ·subst ha0
   have hT0:T=.leaf false:=by
    have:=RP.out
    cases this with
    | zero=>rfl
    | node hr=>have:=(recAt_lt hr).1;omega
   subst hT0
   obtain rfl:v=false:=HV.out.symm
   clear GL GN CL FR SI VA LP RP HV
   go_wp2_with fail
   go_ret2
   exact ⟨rfl,M.out⟩
  have GT:Hid (∃(q:Rc) (ok:Bool),(∀W,Mod [] w W→Calls Tryz.prog 85 #[.pointer (some ⟨b,0,none⟩),.int .u32 a] W fun e w'=>e=.returned (.tuple #[rcv q,.bool ok])∧Mod [] W w')∧
   (ok=false→freeN f t l n≤n∧v=clearN x (freeN f t l n) (n - freeN f t l n))∧
   (ok=true→RightR q n∧freeN f t l q.top≤q.top∧q.f=f∧l≤q.top∧∃C,Rep L f (sideN q x).a C∧LeadsP L f (sideN q x) (q.bot+1) n∧
    v=(clearN x (freeN f t l q.top) (q.top - freeN f t l q.top) && hT f n x (sideN q x).t C (q.bot+1)))):=by
   have hR:=RP.out
   have hv:=HV.out
   cases hR with
   | zero=>exact absurd rfl ha0
   | one=>
    refine ⟨rc0,false,fun W m=>GN.out W m,fun _=>⟨freeN_one LP.out hl rfl,hv.symm⟩,fun h=>by cases h⟩
   | @node _ r A C hr hf hA hC=>
    refine ⟨r,true,fun W m=>GL.out W a r m hr,(fun h=>by cases h),fun _=>?_⟩
    have hg:=HG.out a r hr
    have hll:l≤r.top:=by
     rcases LP.out.at_ with q | ⟨r',h2,h3,h4,h5,h6⟩
     ·have:=(recAt_lt hr).1;simp only at q;omega
     ·simp only at h2;rw [hr] at h2;obtain rfl:=Option.some.inj h2;exact h4
    have hlo:=hg.lo
    have hhi:=hg.hi
    rw [hf] at hlo hhi
    refine ⟨hg.right,freeN_le LP.out hr,hf,hll,?_⟩
    rw [←hv,hT]
    have e:(if f=3 then !clearN x r.top (r.bot+1 - r.top) else x.testBit r.bot)=oneN r x:=by unfold oneN;rw [hf]
    rw [e]
    unfold sideN
    cases oneN r x with
    | true=>exact ⟨C,hC,hhi,rfl⟩
    | false=>exact ⟨A,hA,hlo,rfl⟩
  obtain ⟨q,ok,GT,QF,QT⟩:=GT.out
  replace GT:=Lib.hid GT
  replace QF:=Lib.hid QF
  replace QT:=Lib.hid QT
  have ht255:t≤255:=by
   have h2:=LP.out.plain
   unfold PlainE at h2
   simp only at h2
   by_cases h55:f=5
   ·have:=h2.2 h55 ha0;omega
   ·have:=h2.1 (.inl h55);omega
  have ha1:decide ((a:Int) > 0)=true:=by simp;omega
  obtain ⟨qf,qt,qb,⟨qlt,qla⟩,⟨qht,qha⟩⟩:=q
  have SI:=Lib.hid (SI.out ⟨qf,qt,qb,⟨qlt,qla⟩,⟨qht,qha⟩⟩)
  unfold rcv at GT SI
  simp only at GT SI QF QT
  clear GL GN RP HV LP HG
  obtain ⟨gs,hgs⟩:∃gs,wr.heap.size=gs:=⟨_,rfl⟩
  have gs1:¬gk=gs:=by omega
  have gs2:¬gs=gk:=by omega
  replace GT:Hid (∀W,Mod [] w W→_):=GT
  have MB:=Lib.hid (fun (W W':World) (m:Mod [] w W')=>m)
  go_wp2_with fail
  refine (GT.out _ (M.out.trans' (show Mod [] wr _ from by exact mods))).mono ?_
  rintro e w1 ⟨rfl,m1⟩
  obtain ⟨gr,hgr⟩:∃gr,w1.heap.size=gr:=⟨_,rfl⟩
  have BX:=Blk.new' w1 #[.int .u8 qf,.int .u8 qt,.int .u8 qb,.int .u8 qlt,.int .u32 qla,.int .u8 qht,.int .u32 qha] 134 gr hgr.symm
  have MX:=m1.alloc (.cells #[.int .u8 qf,.int .u8 qt,.int .u8 qb,.int .u8 qlt,.int .u32 qla,.int .u8 qht,.int .u32 qha] 134)
  have MW:=M.out.trans' MX
  have BE:=B.out.mod MX (by simp)
  have hsz:=MX.size
  have hkr:gs≤gr:=by have:=m1.size;omega
  clear GT M B m1
  have FRT:Hid (∀(W:World) (top:Nat),_):=fun W top=>FR.out ⟨t,a⟩ ht255 l top W
  unfold edv at FRT
  simp only at FRT
  obtain ⟨d0,d1⟩:=BE.cells2
  obtain ⟨r0,r1,r2,r3,r4,r5,r6⟩:=BX.cells7
  have hbl2:=BE.lt
  have hrl2:=BX.lt
  have n1:¬gk=gr:=by omega
  have n2:¬gr=gk:=by omega
  replace MW:=Lib.hid MW
  replace BE:=Lib.hid BE
  replace BX:=Lib.hid BX
  clear MX FR hsz
  cases ok with
  | false=>
   obtain ⟨hfr,hvv⟩:=QF.out rfl
   clear QF QT SI
   have CLT:=Lib.hid (fun W=>CL.out (freeN f t l n) (n - freeN f t l n) W (by omega))
   rw [show freeN f t l n+(n - freeN f t l n)=n by omega] at CLT
   replace FRT:=Lib.hid (fun W=>FRT.out W n)
   generalize freeN f t l n=fr at *
   generalize clearN x fr (n - fr)=cl at *
   subst hvv
   clear CL hfr
   go_wp2_with fail
   refine (VA.out _ MW.out).mono ?_
   rintro e wv ⟨rfl,rfl⟩
   go_wp2_with fail
   refine (FRT.out _).mono ?_
   rintro e w3 ⟨rfl,m3⟩
   have M3:=Lib.hid (MW.out.trans' m3)
   clear m3
   go_wp2_with fail
   refine (CLT.out _).mono ?_
   rintro e wv ⟨rfl,rfl⟩
   cases v with
   | false=>
    go_wp2_with fail
    go_ret2
    exact ⟨rfl,M3.out⟩
   | true=>
    go_wp2_with fail
    go_ret2
    exact ⟨rfl,M3.out⟩
  | true=>
   obtain ⟨hR,hfr,hqf,hlt,C,RC,LC,hvv⟩:=QT.out rfl
   clear QF QT
   have tb:=hR.tb
   have bn:=hR.bn
   simp only at hfr hlt tb bn
   have CLT:=Lib.hid (fun W=>CL.out (freeN f t l qt) (qt - freeN f t l qt) W (by omega))
   rw [show freeN f t l qt+(qt - freeN f t l qt)=qt by omega] at CLT
   replace FRT:=Lib.hid (fun W=>FRT.out W qt)
   replace SI:=Lib.hid (fun W=>SI.out W hR)
   generalize freeN f t l qt=fr at *
   generalize clearN x fr (qt - fr)=cl at *
   generalize sideN ⟨qf,qt,qb,⟨qlt,qla⟩,⟨qht,qha⟩⟩ x=sd at *
   obtain ⟨st,sa⟩:=sd
   unfold edv at SI
   simp only at SI RC LC hvv
   have q0:(0:Int)≤qt:=by omega
   have q255:(qt:Int)≤255:=by omega
   have qb0:(0:Int)≤qb:=by omega
   have qb255:(qb:Int)≤255:=by omega
   replace RC:=Lib.hid RC
   replace LC:=Lib.hid LC
   replace hvv:=Lib.hid hvv
   clear CL hR hqf
   go_wp2_with fail
   refine (VA.out _ MW.out).mono ?_
   rintro e wv ⟨rfl,rfl⟩
   go_wp2_with fail
   refine (FRT.out _).mono ?_
   rintro e w3 ⟨rfl,m3⟩
   have M3:=Lib.hid (MW.out.trans' m3)
   have BE3:=Lib.hid (BE.out.mod m3 (by simp))
   have BX3:=Lib.hid (BX.out.mod m3 (by simp))
   have hbl3:=BE3.out.lt
   have hrl3:=BX3.out.lt
   obtain ⟨x0,x1⟩:=BE3.out.cells2
   obtain ⟨y0,y1,y2,y3,y4,y5,y6⟩:=BX3.out.cells7
   obtain ⟨f0,f1,-⟩:=BE3.out.frozs
   clear m3
   go_wp2_with fail
   refine (CLT.out _).mono ?_
   rintro e wv ⟨rfl,rfl⟩
   cases cl with
   | false=>
    obtain rfl:v=false:=hvv.out
    go_wp2_with fail
    go_ret2
    exact ⟨rfl,M3.out⟩
   | true=>
    have hv2:Hid (hT f n x st C (qb+1)=v):=by show _=_;rw [hvv.out];rfl
    go_wp2_with fail
    refine (SI.out _).mono ?_
    rintro e w4 ⟨rfl,m4⟩
    have M4:=Lib.hid (M3.out.trans' m4)
    have BE4:=Lib.hid (BE3.out.mod m4 (by simp))
    obtain ⟨x0,x1⟩:=BE4.out.cells2
    obtain ⟨f0,f1,-⟩:=BE4.out.frozs
    have hbl4:=BE4.out.lt
    clear m4
    go_wp2_with fail
    go_roundw
    case rel=>
     refine ⟨qb+1,st,sa,C,by first | rfl | (go_num),by omega,?_,?_,LC,RC,hv2⟩
     ·exact (M4.out.setCell _ _ (fun q=>by simp only at q;omega)).setCell _ _ (fun q=>by simp only at q;omega)
     ·have BW:=((BE4.out.set 0 (.int .u8 st)).set 1 (.int .u32 sa))
      simp only [List.setIfInBounds_toArray,List.set_cons_zero,List.set_cons_succ] at BW
      exact BW
    case measure=>simp [intOf];omega
open Go.RowKit
theorem u16_nat (z:Int):∃y:Nat,IntKind.u16.wrap z=(y:Int)∧y < 65536:=by
 have e:IntKind.u16.wrap z=z % 65536:=by simp [IntKind.wrap,IntKind.bits,IntKind.signed]
 rw [e]
 exact ⟨(z % 65536).toNat,by omega,by omega⟩
theorem u16_bits (o:BinOp) (a b:Int):∃y:Nat,bits o .u16 a b=(y:Int)∧y < 65536:=by
 unfold bits
 split<;>exact u16_nat _
theorem levels_c {w:World} {bo:Nat} {p q Fo:List Nat} (hO:IsOrd w bo p q Fo) (hp:p.length≤16) (hpv:∀v∈p,v < 16) (x:Nat) (hx:x < 65536):
 Calls Tryz.prog 41 #[.pointer (some ⟨bo,0,none⟩),.int .i64 x] w fun e w'=>(∃y:Nat,y < 65536∧e=.returned (.int .u16 y))∧w'=w:=by
 have VO:=Lib.hid (ordVars_c hO)
 have VR:Hid (∀l,(hl:l < p.length)→_):=fun l hl=>ordVar_c hO hp l hl
 have PV:Hid (∀l,(hl:l < p.length)→p[l] < 16):=fun l hl=>hpv _ (List.getElem_mem hl)
 obtain ⟨n,hn⟩:∃n,p.length=n:=⟨_,rfl⟩
 rw [hn] at VO hp
 have HN:=Lib.hid hn
 clear hO hpv hn
 go_enter Tryz.func41,Tryz.ntmps41
 go_wp2_with fail
 refine VO.out.mono ?_
 rintro e w1 ⟨rfl,rfl⟩
 go_wp2_with fail
 go_loopw [5,6,9] (fun a _ i wr=>∃(k y:Nat),i=.int .i64 k∧k≤n∧a=.int .u16 y∧y < 65536∧wr=w1) (fun _ _ i _=>n - (intOf i).toNat)
 case atStart=>exact ⟨0,0,rfl,by omega,rfl,by omega,rfl⟩
 case round=>
  obtain ⟨k,y,rfl,hk,rfl,hy,rfl⟩:=hrel
  by_cases hlt:k < n
  ·have hlt':(k:Int) < n:=by omega
   have hk0:(0:Int)≤k:=by omega
   have C1:=Lib.hid (VR.out k (by rw [HN.out];exact hlt))
   have h16:=PV.out k (by rw [HN.out];exact hlt)
   generalize p[k]'(by rw [HN.out];exact hlt)=v at *
   go_wp2_with fail
   refine C1.out.mono ?_
   rintro e w2 ⟨rfl,rfl⟩
   go_wp2_with fail
   refine ⟨?_,by simp [intOf];omega⟩
   obtain ⟨y',e',hy'⟩:=u16_bits .or (y:Int) (IntKind.u16.wrap (IntKind.u16.wrap (bits BinOp.and IntKind.i64 ((x:Int) / 2 ^ v) 1) *2 ^ k))
   exact ⟨k+1,y',by simp,by omega,by rw [e'],hy',trivial⟩
  ·obtain rfl:k=n:=by omega
   go_wp2_with fail
   go_ret
   exact ⟨⟨_,hy,rfl⟩,rfl⟩
open Go.RowKit
structure Root (L:List Rc) (n f:Nat) (e:Ed) (T:Tr):Prop where
 f1:1≤f
 f5:f≤5
 rep:Rep L f e.a T
 leads:LeadsP L f e 0 n
theorem convMay_c {w:World} {b n:Nat} {L:List Rc} {room:Nat} {F:List Nat} (h:IsSt w b n L room F) (hL:L.length≤1048576) (hn:n≤16) {f:Nat} {e:Ed} {T:Tr} (hr:Root L n f e T) (g:Nat) (g1:1≤g) (g5:g≤5):
 Calls Tryz.prog 99 #[.pointer (some ⟨b,0,none⟩),.int .u8 f,edv e,.int .u8 g] w fun e w'=>e=.returned (.int .u8 0)∧Mod [] w w':=by
 have LD:Hid (∀W,Mod [] w W→_):=fun W m=>stLeads_c (h.mod m (by simp)) hL hn f hr.f1 hr.f5 e 0 (by omega) hr.leads
 have IF:=Lib.hid (isForm_c f hr.f1 hr.f5)
 have IG:=Lib.hid (isForm_c g g1 g5)
 obtain ⟨t,a⟩:=e
 unfold edv at *
 simp only at LD ⊢
 obtain ⟨gk,hgk⟩:∃gk,w.heap.size=gk:=⟨_,rfl⟩
 clear h hr
 go_enter Tryz.func99,Tryz.ntmps99
 go_wp2_with fail
 refine (IF.out _).mono ?_
 rintro e w1 ⟨rfl,rfl⟩
 go_wp2_with fail
 refine (IG.out _).mono ?_
 rintro e w1 ⟨rfl,rfl⟩
 go_wp2_with fail
 refine (LD.out _ (by exact mods)).mono ?_
 rintro e w2 ⟨rfl,m2⟩
 have M2:=Lib.hid (Mod.trans' (show Mod [] w _ from by exact mods) m2)
 clear m2
 go_wp2_with fail
 go_ret
 exact ⟨rfl,M2.out⟩
theorem convSame_c {w:World} {b:Nat} {L:List Rc} {room:Nat} {F:List Nat} (h:IsSt w b 3 L room F) (hL:L.length≤1048576) (hG:Good L 3) {f g:Nat} {e e':Ed} {T T':Tr} (hr:Root L 3 f e T) (hr':Root L 3 g e' T')
 (heq:∀x,x < 8→hT f 3 x e.t T 0=hT g 3 x e'.t T' 0):
 Calls Tryz.prog 52 #[.pointer (some ⟨b,0,none⟩),.int .u8 f,edv e,.int .u8 g,edv e'] w fun e w'=>e=.returned (.tuple #[.bool true,.int .u8 0])∧Mod [] w w':=by
 have MY:Hid (∀W,Mod [] w W→_):=fun W m=>convMay_c (h.mod m (by simp)) hL (by omega) hr g hr'.f1 hr'.f5
 have LD:Hid (∀W,Mod [] w W→_):=fun W m=>stLeads_c (h.mod m (by simp)) hL (by omega) g hr'.f1 hr'.f5 e' 0 (by omega) hr'.leads
 have HA:Hid (∀W (x:Nat),x < 65536→Mod [] w W→_):=fun W x hx m=>holds_c (h.mod m (by simp)) hL hG (by omega) f hr.f1 hr.f5 e T hr.rep 0 (by omega) hr.leads x hx
 have HB:Hid (∀W (x:Nat),x < 65536→Mod [] w W→_):=fun W x hx m=>holds_c (h.mod m (by simp)) hL hG (by omega) g hr'.f1 hr'.f5 e' T' hr'.rep 0 (by omega) hr'.leads x hx
 have VA:Hid (∀W',Mod [] w W'→Calls Tryz.prog 26 #[.pointer (some ⟨b,0,none⟩)] W' fun e w'=>e=.returned (.int .i64 3)∧w'=W'):=fun W' m=>by
  obtain ⟨ba,bi,Fa,c0,_⟩:=(h.mod m (by simp)).own
  exact stVars_c b 3 W' c0
 have HE:=Lib.hid heq
 obtain ⟨t,a⟩:=e
 obtain ⟨t',a'⟩:=e'
 unfold edv at *
 simp only [Int.natCast_zero] at MY LD HA HB HE ⊢
 obtain ⟨gk,hgk⟩:∃gk,w.heap.size=gk:=⟨_,rfl⟩
 clear h hr hr' hG heq
 go_enter Tryz.func52,Tryz.ntmps52
 go_wp2_with fail
 refine (MY.out _ (by exact mods)).mono ?_
 rintro e w2 ⟨rfl,m2⟩
 have M2:=Lib.hid (Mod.trans' (show Mod [] w _ from by exact mods) m2)
 have BA:=Lib.hid (((Blk.new' w #[.int .u8 t,.int .u32 a] 39 gk hgk.symm).alloc (.cells #[.int .u8 t',.int .u32 a'] 39)).mod m2 (by simp))
 have BB:=Lib.hid ((Blk.new' (w.alloc (.cells #[.int .u8 t,.int .u32 a] 39)) #[.int .u8 t',.int .u32 a'] 39 (gk+1) (by simp [hgk])).mod m2 (by simp))
 obtain ⟨a0,a1⟩:=BA.out.cells2
 obtain ⟨b0,b1⟩:=BB.out.cells2
 clear m2 MY
 go_wp2_with fail
 refine (LD.out _ M2.out).mono ?_
 rintro e w3 ⟨rfl,m3⟩
 have M3:=Lib.hid (M2.out.trans' m3)
 replace BA:=Lib.hid (BA.out.mod m3 (by simp))
 replace BB:=Lib.hid (BB.out.mod m3 (by simp))
 clear a0 a1 b0 b1 m3 LD
 go_wp2_with fail
 refine (VA.out _ M3.out).mono ?_
 rintro e wv ⟨rfl,rfl⟩
 go_wp2_with fail
 go_loopw [33] (fun i wr=>∃k:Nat,i=.int .i64 k∧k≤8∧Hid (Mod [] w wr)∧Hid (Blk wr gk #[.int .u8 t,.int .u32 a] 39)∧Hid (Blk wr (gk+1) #[.int .u8 t',.int .u32 a'] 39)) (fun i _=>8 - (intOf i).toNat)
 case atStart=>exact ⟨0,rfl,by omega,M3,BA,BB⟩
 case round=>
  clear M3 M2 BA BB
  obtain ⟨k,rfl,hk,M,BA,BB⟩:=hrel
  by_cases hk8:k=8
  ·subst hk8
   go_wp2_with fail
   go_ret2
   exact ⟨rfl,M.out⟩
  ·have hk7:(k:Int) < 8:=by omega
   have hk0:(0:Int)≤k:=by omega
   have hk6:(k:Int)≤65535:=by omega
   obtain ⟨a0,a1⟩:=BA.out.cells2
   obtain ⟨b0,b1⟩:=BB.out.cells2
   have HX:=HE.out k (by omega)
   have HA1:=Lib.hid (HA.out wr k (by omega) M.out)
   have HB1:=Lib.hid (fun W m=>HB.out W k (by omega) m)
   rw [HX] at HA1
   generalize hT g 3 k t' T' 0=v at *
   clear HA HB HE HX
   go_wp2_with fail
   refine HA1.out.mono ?_
   rintro e w3 ⟨rfl,m3⟩
   have M3:=Lib.hid (M.out.trans' m3)
   have BA3:=Lib.hid (BA.out.mod m3 (by simp))
   have BB3:=Lib.hid (BB.out.mod m3 (by simp))
   obtain ⟨b0,b1⟩:=BB3.out.cells2
   clear m3 HA1
   go_wp2_with fail
   refine (HB1.out _ M3.out).mono ?_
   rintro e w4 ⟨rfl,m4⟩
   have M4:=Lib.hid (M3.out.trans' m4)
   have BA4:=Lib.hid (BA3.out.mod m4 (by simp))
   have BB4:=Lib.hid (BB3.out.mod m4 (by simp))
   have hvv:(v != v)=false:=by cases v<;>rfl
   clear m4 HB1
   go_wp2_with fail
   go_roundw
   case rel=>exact ⟨k+1,by first | rfl | (go_num),by omega,M4,BA4,BB4⟩
   case measure=>simp [intOf];omega
open Go.RowKit
theorem mngSame_c {w:World} {bm room:Nat} {L:List Rc} {Fs p:List Nat} {H:List (Nat × Ed)} {bs bo bq:Nat} {F:List Nat} (h:Mng w bm 3 room L Fs p H bs bo bq F) (hL:L.length≤1048576) (hG:Good L 3) (hH:H.length≤256)
 {a a2 f f2:Nat} {e e2:Ed} {T T2:Tr} (hf:H[a]? =some (f,e)) (hf2:H[a2]? =some (f2,e2)) (hne:¬(f:Int)=f2) (hr:Root L 3 f e T) (hr2:Root L 3 f2 e2 T2) (heq:∀x,x < 8→hT f 3 x e.t T 0=hT f2 3 x e2.t T2 0):
 Calls Tryz.prog 18 #[.pointer (some ⟨bm,0,none⟩),.int .i64 ((a+1:Nat):Int),.int .i64 ((a2+1:Nat):Int)] w fun e w'=>e=.returned (.tuple #[.bool true,.int .u8 0])∧Mod [] w w':=by
 obtain ⟨ba,bg,vk,vq,vg,Fo,q,g1,g2,g3,-⟩:=h.m
 have d3:=g1.cell 3 (by omega)
 replace d3:w.cell? ⟨bm,3,none⟩=some (.pointer (some ⟨bs,0,none⟩)):=d3
 have hbm:=g1.lt
 obtain ⟨hl,hg⟩:=List.getElem?_eq_some_iff.1 hf
 obtain ⟨hl2,hg2⟩:=List.getElem?_eq_some_iff.1 hf2
 have HA:Hid (∀w':World,w'=w→_):=fun w' e=>e▸has_c g1 hH (a+1) (by omega) (by omega)
 have HA2:Hid (∀w':World,w'=w→_):=fun w' e=>e▸has_c g1 hH (a2+1) (by omega) (by omega)
 obtain ⟨d0,d1,d2⟩:=g1.root hH a hl
 obtain ⟨k0,k1,k2⟩:=g1.root hH a2 hl2
 rw [hg] at d0 d1 d2
 rw [hg2] at k0 k1 k2
 simp only at d0 d1 d2 k0 k1 k2
 have CS:Hid (∀W,Mod [] w W→_):=fun W m=>convSame_c (h.s.mod m (by simp)) hL hG hr hr2 heq
 obtain ⟨m,hm⟩:∃m,a+1=m:=⟨_,rfl⟩
 rw [hm] at d0 d1 d2 HA ⊢
 obtain ⟨m2,hm2⟩:∃m,a2+1=m:=⟨_,rfl⟩
 rw [hm2] at k0 k1 k2 HA2 ⊢
 have hm3:(m:Int) < 257:=by omega
 have hm0:(0:Int)≤m:=by omega
 have hk3:(m2:Int) < 257:=by omega
 have hk0:(0:Int)≤m2:=by omega
 have hd:((f:Int)==f2)=false:=by simpa using hne
 obtain ⟨t,x⟩:=e
 obtain ⟨t2,x2⟩:=e2
 unfold edv at CS
 simp only at d0 d1 d2 k0 k1 k2 CS
 clear h hf hg hl hm hf2 hg2 hl2 hm2 g1 g2 g3 hr hr2 heq hG
 obtain ⟨gn,hgn⟩:∃g,w.heap.size=g:=⟨_,rfl⟩
 have n1:¬bm=gn:=by omega
 have n2:¬gn=bm:=by omega
 have n3:¬bm=gn+1:=by omega
 have n4:¬gn+1=bm:=by omega
 go_enter Tryz.func18,Tryz.ntmps18
 go_wp2_with fail
 refine (HA.out _ rfl).mono ?_
 rintro e' w1 ⟨rfl,rfl⟩
 go_wp2_with fail
 refine (HA2.out _ rfl).mono ?_
 rintro e' w1 ⟨rfl,rfl⟩
 clear HA HA2
 have C1:∀(off:Nat) (v:Value),w1.cell? ⟨bm,off,none⟩=some v→∀o:Obj,(w1.alloc o).cell? ⟨bm,off,none⟩=some v:=fun off v hv o=>(((Mod.refl [] w1).alloc o).cell (a:=⟨bm,off,none⟩) hbm (by simp)).trans hv
 have C2:∀(off:Nat) (v:Value),w1.cell? ⟨bm,off,none⟩=some v→∀o o':Obj,((w1.alloc o).alloc o').cell? ⟨bm,off,none⟩=some v:=fun off v hv o o'=>((((Mod.refl [] w1).alloc o).alloc o').cell (a:=⟨bm,off,none⟩) hbm (by simp)).trans hv
 have c10:=C1 _ _ d0
 have c11:=C1 _ _ d1
 have c12:=C1 _ _ d2
 have c13:=C1 _ _ k0
 have c14:=C1 _ _ k1
 have c15:=C1 _ _ k2
 have c20:=C2 _ _ d0
 have c21:=C2 _ _ d1
 have c22:=C2 _ _ d2
 have c23:=C2 _ _ k0
 have c24:=C2 _ _ k1
 have c25:=C2 _ _ k2
 clear C1 C2
 go_upto_region 5 with fail
 go_cut [8,9] from 22 to 33 (fun p8 p9 wx=>∃ga gb,p8=.pointer (some ⟨ga,0,none⟩)∧p9=.pointer (some ⟨gb,0,none⟩)∧Hid (Blk wx ga #[.int .u8 f,.int .u8 t,.int .u32 x] 52)∧Hid (Blk wx gb #[.int .u8 f2,.int .u8 t2,.int .u32 x2] 52)∧gn≤ga∧gn≤gb∧ga≠gb∧Hid (Mod [] w1 wx))
 case first=>
  go_region
  all_goals (go_wp2_with fail;go_meet)
  all_goals first
   | exact ⟨gn,gn+1,rfl,rfl,((Blk.new' w1 #[.int .u8 f,.int .u8 t,.int .u32 x] 52 gn hgn.symm).alloc _).drew,(Blk.new' _ #[.int .u8 f2,.int .u8 t2,.int .u32 x2] 52 (gn+1) (by simp [hgn])).drew,by omega,by omega,by omega,(((Mod.refl _ _).alloc _).alloc _).drew⟩
   | exact ⟨gn+1,gn,rfl,rfl,(Blk.new' _ #[.int .u8 f,.int .u8 t,.int .u32 x] 52 (gn+1) (by simp [hgn])).drew,((Blk.new' w1 #[.int .u8 f2,.int .u8 t2,.int .u32 x2] 52 gn hgn.symm).alloc _).drew,by omega,by omega,by omega,(((Mod.refl _ _).alloc _).alloc _).drew⟩
 case rest=>
  obtain ⟨ga,gb,rfl,rfl,BA,BB,hga,hgb,hab,MX⟩:=hcut
  have z0:=BA.out.cell 0
  have z1:=BA.out.cell 1
  have z2:=BA.out.cell 2
  have y0:=BB.out.cell 0
  have y1:=BB.out.cell 1
  have y2:=BB.out.cell 2
  simp only [List.getElem?_toArray,List.getElem?_cons_zero,List.getElem?_cons_succ] at z0 z1 z2 y0 y1 y2
  have ha1:¬ga=gb:=hab
  have hbl:ga < wc.heap.size:=BA.out.lt
  have hbl2:gb < wc.heap.size:=BB.out.lt
  have hbm:=Nat.lt_of_lt_of_le hbm MX.out.size
  have d3:=(MX.out.cell (a:=⟨bm,3,none⟩) (by simp only;omega) (by simp)).trans d3
  go_wp2_with fail
  go_region_held3 (fun w'=>w'.cell? ⟨bm,3,none⟩=some (.pointer (some ⟨bs,0,none⟩))∧w'.cell? ⟨ga,0,none⟩=some (.int .u8 f)∧w'.cell? ⟨ga,1,none⟩=some (.int .u8 t)∧w'.cell? ⟨ga,2,none⟩=some (.int .u32 x)∧w'.cell? ⟨gb,0,none⟩=some (.int .u8 f2)∧w'.cell? ⟨gb,1,none⟩=some (.int .u8 t2)∧w'.cell? ⟨gb,2,none⟩=some (.int .u32 x2)) (go_keep) (first | (go_at_call 52;refine (CS.out _ (MX.out.trans' (show Mod [] wc _ from by exact mods))).mono ?_;rintro e' w5 ⟨rfl,m_w5⟩;have M_w5:=Mod.trans' (show Mod _ wc _ from by exact mods) m_w5;have d3:=(M_w5.cell (a:=⟨bm,3,none⟩) hbm (by first | assumption | (simp;done))).trans d3;have z0:=(M_w5.cell (a:=⟨ga,0,none⟩) hbl (by first | assumption | (simp;done))).trans z0;have z1:=(M_w5.cell (a:=⟨ga,1,none⟩) hbl (by first | assumption | (simp;done))).trans z1;have z2:=(M_w5.cell (a:=⟨ga,2,none⟩) hbl (by first | assumption | (simp;done))).trans z2;have y0:=(M_w5.cell (a:=⟨gb,0,none⟩) hbl2 (by first | assumption | (simp;done))).trans y0;have y1:=(M_w5.cell (a:=⟨gb,1,none⟩) hbl2 (by first | assumption | (simp;done))).trans y1;have y2:=(M_w5.cell (a:=⟨gb,2,none⟩) hbl2 (by first | assumption | (simp;done))).trans y2;have hbm:=Nat.lt_of_lt_of_le hbm M_w5.size;have hbl:=Nat.lt_of_lt_of_le hbl M_w5.size;have hbl2:=Nat.lt_of_lt_of_le hbl2 M_w5.size))
  all_goals
   go_wp2_with fail
   go_ret2
   exact ⟨rfl,MX.out.trans' M_w5⟩
end Go.Proofs.YtnbjnnijifiaaaaGreatDoor
