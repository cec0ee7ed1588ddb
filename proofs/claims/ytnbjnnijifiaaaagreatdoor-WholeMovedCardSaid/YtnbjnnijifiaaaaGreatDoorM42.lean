/- M42: Zh · Zi · Zj -/
import Derived.Test.YtnbjnnijifiaaaaGreatDoorM34
import Derived.Test.YtnbjnnijifiaaaaGreatDoorM41
import Derived.Test.YtnbjnnijifiaaaaGreatDoorM32
import Derived.Deep.RegionHeld3
import Derived.Deep.CutRange
set_option maxRecDepth 100000
set_option maxHeartbeats 8000000
set_option linter.unusedVariables false
set_option linter.unusedSimpArgs false
namespace Go.Proofs.YtnbjnnijifiaaaaGreatDoor
open Go.RowKit
structure SD where
 b:Nat
 L:List Rc
 F:List Nat
 bo:Nat
 p:List Nat
 q:List Nat
 Fo:List Nat
structure Stg (w0 W:World) (n:Nat) (s:SD):Prop where
 st:Sto W s.b n 20000 s.L s.F
 od:IsOrdD W s.bo s.p s.q s.Fo
 pm:Perm s.p n
 ge:∀k∈s.F++s.Fo,w0.heap.size≤k
 ap:∀k∈s.F,k∉s.Fo
theorem Stg.lt {w0 W:World} {n:Nat} {s:SD} (h:Stg w0 W n s):∀k∈s.F++s.Fo,k < W.heap.size:=fun k hk=>(List.mem_append.1 hk).elim (h.st.st.lt k) (h.od.lt k)
theorem Stg.mod {S:List Nat} {w0 W W':World} {n:Nat} {s:SD} (h:Stg w0 W n s) (m:Mod S W W') (hd:∀k∈s.F++s.Fo,k∉S):Stg w0 W' n s:=
 ⟨h.st.mod m (fun k hk=>hd k (by simp [hk])),h.od.mod m (fun k hk=>hd k (by simp [hk])),h.pm,h.ge,h.ap⟩
def Apt (A B:List Nat):Prop:=∀k∈A,k∉B
theorem Stg.grow {w0 W W':World} {n:Nat} {s:SD} (h:Stg w0 W n s) (hs:w0.heap.size≤W.heap.size) {L':List Rc} {F':List Nat} (g:Grow W W' s.F F') (st:Sto W' s.b n 20000 L' F'):Stg w0 W' n ⟨s.b,L',F',s.bo,s.p,s.q,s.Fo⟩:=by
 refine ⟨st,h.od.mod g.mod (fun k hk q=>h.ap k q hk),h.pm,fun k hk=>?_,fun k hk q=>?_⟩
 ·rcases List.mem_append.1 hk with hk | hk
  ·rcases g.own k hk with q | q
   ·exact h.ge k (by simp [q])
   ·omega
  ·exact h.ge k (by simp [hk])
 ·rcases g.own k hk with r | r
  ·exact h.ap k r q
  ·have:=h.od.lt k q;omega
theorem Apt.grow {W W':World} {F F' Fo B:List Nat} (h:Apt (F++Fo) B) (g:Grow W W' F F') (hB:∀k∈B,k < W.heap.size):Apt (F'++Fo) B:=fun k hk q=>by
 rcases List.mem_append.1 hk with hk | hk
 ·rcases g.own k hk with r | r
  ·exact h k (by simp [r]) q
  ·have:=hB k q;omega
 ·exact h k (by simp [hk]) q
theorem Apt.symm {A B:List Nat} (h:Apt A B):Apt B A:=fun k hk q=>h k q hk
structure Thr (w0 W:World) (n:Nat) (s1 s2 s3:SD):Prop where
 base:Mod [] w0 W
 a:Stg w0 W n s1
 b:Stg w0 W n s2
 c:Stg w0 W n s3
 ab:Apt (s1.F++s1.Fo) (s2.F++s2.Fo)
 ac:Apt (s1.F++s1.Fo) (s3.F++s3.Fo)
 bc:Apt (s2.F++s2.Fo) (s3.F++s3.Fo)
section
variable {w0 W W':World} {n:Nat} {s1 s2 s3:SD}
theorem Thr.mod (h:Thr w0 W n s1 s2 s3) (m:Mod [] W W'):Thr w0 W' n s1 s2 s3:=⟨h.base.trans' m,h.a.mod m (by simp),h.b.mod m (by simp),h.c.mod m (by simp),h.ab,h.ac,h.bc⟩
theorem Thr.ga (h:Thr w0 W n s1 s2 s3) {L':List Rc} {F':List Nat} (g:Grow W W' s1.F F') (st:Sto W' s1.b n 20000 L' F'):Thr w0 W' n ⟨s1.b,L',F',s1.bo,s1.p,s1.q,s1.Fo⟩ s2 s3:=
 ⟨h.base.trans g.mod (fun i hi q=>by have:=h.a.ge i (by simp [q]);omega),h.a.grow h.base.size g st,h.b.mod g.mod (fun k hk q=>h.ab k (by simp [q]) hk),h.c.mod g.mod (fun k hk q=>h.ac k (by simp [q]) hk),h.ab.grow g h.b.lt,h.ac.grow g h.c.lt,h.bc⟩
theorem Thr.gb (h:Thr w0 W n s1 s2 s3) {L':List Rc} {F':List Nat} (g:Grow W W' s2.F F') (st:Sto W' s2.b n 20000 L' F'):Thr w0 W' n s1 ⟨s2.b,L',F',s2.bo,s2.p,s2.q,s2.Fo⟩ s3:=
 ⟨h.base.trans g.mod (fun i hi q=>by have:=h.b.ge i (by simp [q]);omega),h.a.mod g.mod (fun k hk q=>h.ab k hk (by simp [q])),h.b.grow h.base.size g st,h.c.mod g.mod (fun k hk q=>h.bc k (by simp [q]) hk),(h.ab.symm.grow g h.a.lt).symm,h.ac,h.bc.grow g h.c.lt⟩
theorem Thr.gc (h:Thr w0 W n s1 s2 s3) {L':List Rc} {F':List Nat} (g:Grow W W' s3.F F') (st:Sto W' s3.b n 20000 L' F'):Thr w0 W' n s1 s2 ⟨s3.b,L',F',s3.bo,s3.p,s3.q,s3.Fo⟩:=
 ⟨h.base.trans g.mod (fun i hi q=>by have:=h.c.ge i (by simp [q]);omega),h.a.mod g.mod (fun k hk q=>h.ac k hk (by simp [q])),h.b.mod g.mod (fun k hk q=>h.bc k hk (by simp [q])),h.c.grow h.base.size g st,h.ab,(h.ac.symm.grow g h.a.lt).symm,(h.bc.symm.grow g h.b.lt).symm⟩
end
theorem Thr.turn {w0 W W':World} {n:Nat} {s1 s2 s3:SD} (h:Thr w0 W n s1 s2 s3) {L':List Rc} {F' p' q':List Nat} (m:Mod (s2.F++s2.Fo) W W') (own:∀k∈F',k∈s2.F∨W.heap.size≤k) (st:Sto W' s2.b n 20000 L' F') (od:IsOrdD W' s2.bo p' q' s2.Fo) (hp:Perm p' n):Thr w0 W' n s1 ⟨s2.b,L',F',s2.bo,p',q',s2.Fo⟩ s3:=by
 have hs:=h.base.size
 have ap:∀{B:List Nat},Apt (s2.F++s2.Fo) B→(∀k∈B,k < W.heap.size)→Apt (F'++s2.Fo) B:=fun hA hB k hk q=>by
  rcases List.mem_append.1 hk with hk | hk
  ·rcases own k hk with r | r
   ·exact hA k (by simp [r]) q
   ·have:=hB k q;omega
  ·exact hA k (by simp [hk]) q
 refine ⟨h.base.trans m (fun i hi q=>by have:=h.b.ge i q;omega),h.a.mod m (fun k hk q=>h.ab k hk q),⟨st,od,hp,fun k hk=>?_,fun k hk q=>?_⟩,h.c.mod m (fun k hk q=>h.bc k q hk),(ap h.ab.symm h.a.lt).symm,h.ac,ap h.bc h.c.lt⟩
 ·rcases List.mem_append.1 hk with hk | hk
  ·rcases own k hk with r | r
   ·exact h.b.ge k (by simp [r])
   ·omega
  ·exact h.b.ge k (by simp [hk])
 ·rcases own k hk with r | r
  ·exact h.b.ap k r q
  ·have:=h.b.od.lt k q;omega
theorem Thr.far {w0 W:World} {n:Nat} {s1 s2 s3:SD} (h:Thr w0 W n s1 s2 s3) {x:Nat} (hx:x < w0.heap.size):x∉s1.F++s1.Fo∧x∉s2.F++s2.Fo∧x∉s3.F++s3.Fo:=
 ⟨fun q=>by have:=h.a.ge x q;omega,fun q=>by have:=h.b.ge x q;omega,fun q=>by have:=h.c.ge x q;omega⟩
theorem build_s {w0 W:World} {n f g cap Wd:Nat} {s:SD} (h:Stg w0 W n s) (c0:W.cell? ⟨g,0,none⟩=some (.int .u64 Wd)) (hg:g∉s.F) (h1:1≤f) (h5:f≤5) (hn:n≤5) (hW:Wd < 2 ^ (2 ^ n)) (hL:s.L.length≤5000):
 Calls Tryz.prog 9 #[.pointer (some ⟨s.b,0,none⟩),.pointer (some ⟨s.bo,0,none⟩),.int .u8 f,.agg #[.int .i64 n,.slice (some ⟨g,0,none⟩) 1 cap]] W fun e w'=>∃(t a:Nat) (L':List Rc) (F':List Nat),e=.returned (.tuple #[.agg #[.int .u8 t,.int .u32 a],.int .u8 0])∧Sto w' s.b n 20000 L' F'∧Grow W w' s.F F'∧EdT L' f n n 0 ⟨t,a⟩ (tabL Wd s.p n 0 0)∧L'.length≤s.L.length+32:=by
 have h32:2 ^ n≤32:=by have:=Nat.pow_le_pow_right (n:=2) (by omega) hn;omega
 refine (buildOf_c h.st.st h.od.ord c0 (fun k hk q=>?_) h1 h5 hn h.pm.len h.pm.lt (by omega) hW h.st.good h.st.nd (by omega) (by omega)).mono ?_
 ·rcases List.mem_cons.1 hk with rfl | hk
  ·exact hg q
  ·exact h.ap k q hk
 ·rintro e w' ⟨⟨t,a⟩,L2,F',rfl,s1,m,o,g1,nd,ld,rp,hl⟩
  exact ⟨t,a,s.L++L2,F',rfl,⟨s1,g1,nd⟩,⟨m,o⟩,⟨rp,ld,tabL_len _ _ _ _ _,by omega⟩,by rw [List.length_append];omega⟩
theorem load_s {w0 W:World} {n f:Nat} {s:SD} {L0:List Rc} {e0:Ed} {tb:List Bool} {v:Value} {Fb:List Nat} (h:Stg w0 W n s) (hL:s.L=[]) (h1:1≤f) (h5:f≤5) (hn:n≤5) (hV:Rv W v ((savedB f n s.p (buildE f n n 0 tb)).map ey) Fb) (hFb:∀k∈Fb,k < W.heap.size) (hE:EdT L0 f n n 0 e0 tb) (hG:Good L0 n) (hnd:L0.Nodup):
 Calls Tryz.prog 11 #[.pointer (some ⟨s.b,0,none⟩),.pointer (some ⟨s.bo,0,none⟩),v] W fun e w'=>∃(t a:Nat) (L':List Rc) (F':List Nat),e=.returned (.tuple #[.int .u8 f,.agg #[.int .u8 t,.int .u32 a],.int .u8 0])∧Sto w' s.b n 20000 L' F'∧Grow W w' s.F F'∧EdT L' f n n 0 ⟨t,a⟩ tb∧L'.length≤49:=by
 obtain ⟨no,t,a,S⟩:=saved_facts h1 h5 hn h.pm hE hG hnd
 have st:=h.st
 rw [hL] at st
 refine (load_c h1 h5 hn h.pm hV hFb S st h.od (by have:=S.n49;omega) (by omega)).mono ?_
 rintro e w' ⟨F',rfl,s1,g⟩
 exact ⟨t,a,no.map (rcT f no),F',rfl,s1,g,S.edt,by rw [List.length_map];exact S.n49⟩
open Go.RowKit
theorem intRow_rv {w:World} {a:Option Addr} {len cap:Nat} {z:Nat→Int} (h:IntRow .i64 w a len cap z):∃(xs:List Int) (F:List Nat),Rv w (.slice a len cap) (xs.map (fun x:Int=>Value.int .i64 x)) F∧xs.length=len∧∀k∈F,k < w.heap.size:=by
 refine ⟨(List.range len).map z,match a with | some ad=>if 0 < len then [ad.block] else [] | none=>[],⟨a,cap,by simp,by simpa using h.1,fun h0=>?_⟩,by simp,?_⟩
 ·simp at h0
  obtain ⟨b,off,rfl,hb,_,_⟩:=h.2 0 h0
  refine ⟨b,off,rfl,by simp [h0],fun i c hi=>?_⟩
  rw [List.getElem?_map,List.getElem?_map] at hi
  by_cases q:i < len
  ·rw [List.getElem?_range q] at hi
   simp at hi
   subst hi
   obtain ⟨b',off',ha',_,hc,_⟩:=h.2 i q
   simp at ha'
   obtain ⟨rfl,rfl⟩:=ha'
   exact hc
  ·rw [List.getElem?_eq_none (by simp;omega)] at hi
   simp at hi
 ·intro k hk
  cases a with
  | none=>simp at hk
  | some ad=>
   simp only at hk
   split at hk
   ·rename_i h0
    obtain ⟨b,off,e,hb,_,_⟩:=h.2 0 h0
    simp at e
    subst e
    simp at hk
    subst hk
    exact hb
   ·simp at hk
def TrueP (w:World) (e:Ending) (w':World):Prop:=e=.returned (.bool true)∧Mod [] w w'
theorem moved_c {w:World} {A1 A2:Option Addr} {n n2 cap1 cap2 f a:Nat} {xs ys:List Int} {F1 F2:List Nat} (h:Rv w (.slice A1 n cap1) (xs.map (fun x:Int=>Value.int .i64 x)) F1) (hF:∀k∈F1,k < w.heap.size) (hx:xs.length=n)
 (k:Rv w (.slice A2 n2 cap2) (ys.map (fun x:Int=>Value.int .i64 x)) F2) (kF:∀k∈F2,k < w.heap.size) (hy:ys.length=n2) (ha:a < B64) (hf:f < 256) (hc1:n≤cap1) (hc2:n2≤cap2) (hb1:n≤maxLen) (hb2:n2≤maxLen):
 Calls Tryz.prog 3 #[.slice A1 n cap1,.slice A2 n2 cap2,.int .u8 f,.int .u64 a] w (TrueP w):=by
 have AL:=Lib.hid alive_c
 have H:=Lib.hid h
 have K:=Lib.hid k
 have HX:=Lib.hid hx
 have HY:=Lib.hid hy
 have R1:Hid (n≤5→∀W,Mod [] w W→Calls Tryz.prog 5 #[.slice A1 n cap1] W (RightP W xs n)):=fun hn W m=>right02_c (h.mod m (by simp)) hx hn
 have R2:Hid (n2≤5→∀W,Mod [] w W→Calls Tryz.prog 5 #[.slice A2 n2 cap2] W (RightP W ys n2)):=fun hn W m=>right02_c (k.mod m (by simp)) hy hn
 have hm:maxLen=9223372036854775807:=rfl
 have hbi:(n:Int)≤9223372036854775807:=by omega
 have hbj:(n2:Int)≤9223372036854775807:=by omega
 have HHF:=Lib.hid (And.intro hF kF)
 clear h k hx hy hF kF hm hb1 hb2
 by_cases hn:n≤5
 ·by_cases h2:n2=n
  ·subst h2
   replace R1:=Lib.hid (R1.out hn)
   replace R2:=Lib.hid (R2.out hn)
   have hn':(n2:Int)≤5:=by omega
   go_enter Tryz.func3,Tryz.ntmps3
   go_wp2_with fail
   refine (AL.out _).mono ?_
   rintro e w1 ⟨rfl,m1⟩
   have M1:=Lib.hid m1
   clear m1 AL
   go_wp2_with fail
   refine (R1.out _ M1.out).mono ?_
   rintro e w2 ⟨b1,rfl,hw,P1⟩
   subst hw
   have HP1:=Lib.hid P1
   clear P1 R1
   cases b1 with
   | false=>
    go_wp2_with fail
    go_ret
    exact ⟨by simp,M1.out⟩
   | true=>
    obtain ⟨p1,e1,hp1⟩:=HP1.out rfl
    have E1:=Lib.hid e1
    have PP1:=Lib.hid hp1
    clear HP1 e1 hp1
    go_wp2_with fail
    refine (R2.out _ M1.out).mono ?_
    rintro e w2 ⟨b1,rfl,hw,P1⟩
    subst hw
    have HP1:=Lib.hid P1
    clear P1 R2
    cases b1 with
    | false=>
     go_wp2_with fail
     go_ret
     exact ⟨by simp,M1.out⟩
    | true=>
     obtain ⟨p2,e2,hp2⟩:=HP1.out rfl
     have E2:=Lib.hid e2
     have PP2:=Lib.hid hp2
     clear HP1 e2 hp2
     by_cases h1:1≤f
     ·by_cases h5:f≤5
      ·have h1':¬(f:Int) < 1:=by omega
       have h5':¬(5:Int) < f:=by omega
       go_upto_region 7 with fail
       clear h1' h5'
       have Q1:Hid (Rv w2 (.slice A1 n2 cap1) (p1.map ei) F1):=by
        have:=H.out.mod M1.out (by simp)
        rw [E1.out,List.map_map] at this
        exact this
       have Q2:Hid (Rv w2 (.slice A2 n2 cap2) (p2.map ei) F2):=by
        have:=K.out.mod M1.out (by simp)
        rw [E2.out,List.map_map] at this
        exact this
       have FL1:Hid (∀k∈F1,k < w2.heap.size):=fun k hk=>by have:=HHF.out.1 k hk;have:=M1.out.size;omega
       have FL2:Hid (∀k∈F2,k < w2.heap.size):=fun k hk=>by have:=HHF.out.2 k hk;have:=M1.out.size;omega
       clear H K E1 E2 HX HY HHF
       have BI:=Lib.hid (bits_c n2 a (by omega) ha)
       go_wp2_with fail
       refine (BI.out _).mono ?_
       rintro e w3 ⟨v3,rfl,nv3⟩
       obtain ⟨F3,r3,hF3⟩:=nv3.rv
       have hbl:=bitsN_len n2 a
       have h32:2 ^ n2≤32:=by have:=Nat.pow_le_pow_right (n:=2) (by omega) hn;omega
       have h01:=Nat.two_pow_pos n2
       have O5:=Lib.hid (of05_c n2 r3 (by omega) (by omega))
       have M3:=Lib.hid nv3.mod
       obtain ⟨Wd,hWd⟩:∃Wd,valB (bitsN n2 a)=Wd:=⟨_,rfl⟩
       have HWd:Hid (Wd < 2 ^ (2 ^ n2)):=by have:=valB_lt (bitsN n2 a);rw [hbl,hWd] at this;exact this
       rw [hWd] at O5
       clear nv3 r3 hF3 hbl h32 h01 BI hWd
       go_wp2_with fail
       refine O5.out.mono ?_
       rintro e w4 ⟨g,rfl,cg,hg,m4⟩
       have M4:=Lib.hid (M3.out.trans' m4)
       have CG:=Lib.hid cg
       clear cg m4 M3 O5 hg
       obtain ⟨gt,hgt⟩:∃gt,w4.heap.size=gt:=⟨_,rfl⟩
       have BT:=Lib.hid (Blk.new' w4 #[.int .i64 n2,.slice (some ⟨g,0,none⟩) 1 1] 29 gt hgt.symm)
       have M5:Hid (Mod [] w4 (w4.alloc (.cells #[.int .i64 n2,.slice (some ⟨g,0,none⟩) 1 1] 29))):=(Mod.refl _ _).alloc _
       have hgl:=World.block_lt_of_cell? w4 _ CG.out
       go_upto_region 8 with fail
       have BT':Hid (Blk (w4.alloc (.cells #[.int .i64 n2,.slice (some ⟨g,0,none⟩) 1 1] 29)) gt #[.int .i64 n2,.slice (some ⟨g,0,none⟩) 1 1] 29):=BT
       clear BT
       replace CG:=Lib.hid ((M5.out.cell (a:=⟨g,0,none⟩) hgl (by simp)).trans CG.out)
       replace M4:=Lib.hid (M4.out.trans' M5.out)
       clear M5 hgl
       generalize w4.alloc (.cells #[.int .i64 n2,.slice (some ⟨g,0,none⟩) 1 1] 29)=w5 at *
       replace Q1:=Lib.hid (Q1.out.mod M4.out (by simp))
       replace Q2:=Lib.hid (Q2.out.mod M4.out (by simp))
       replace FL1:Hid (∀k∈F1,k < w5.heap.size):=fun k hk=>by have:=FL1.out k hk;have:=M4.out.size;omega
       replace FL2:Hid (∀k∈F2,k < w5.heap.size):=fun k hk=>by have:=FL2.out k hk;have:=M4.out.size;omega
       replace M1:=Lib.hid (M1.out.trans' M4.out)
       clear M4 hgt
       have ST1:Hid (∀W,Mod [] w5 W→_):=fun W m=>stage_c (Q1.out.mod m (by simp)) PP1.out hn
       have ST2:Hid (∀W,Mod [] w5 W→_):=fun W m=>stage_c (Q2.out.mod m (by simp)) PP2.out hn
       go_wp2_with fail
       refine (ST1.out _ (Mod.refl _ _)).mono ?_
       rintro e w6 ⟨ba,Fa,boa,qa,Foa,rfl,sa,oa,-,ma,ga,da⟩
       have SA:Hid (Stg w5 w6 n2 ⟨ba,[],Fa,boa,p1,qa,Foa⟩):=⟨sa,oa,PP1.out,ga,da⟩
       have MA:=Lib.hid ma
       clear sa oa ma ga da
       go_wp2_with fail
       refine (ST1.out _ MA.out).mono ?_
       rintro e w7 ⟨bb,Fb,bob,qb,Fob,rfl,sb,ob,ivb,mb,gb,db⟩
       have IV:=Lib.hid ivb
       have SB:Hid (Stg w5 w7 n2 ⟨bb,[],Fb,bob,p1,qb,Fob⟩):=⟨sb,ob,PP1.out,fun k hk=>by have:=gb k hk;have:=MA.out.size;omega,db⟩
       have AB:Hid (Apt (Fa++Foa) (Fb++Fob)):=fun k hk q=>by have:=SA.out.lt k hk;have:=gb k q;omega
       replace SA:=Lib.hid (SA.out.mod mb (by simp))
       have MB:=Lib.hid (MA.out.trans' mb)
       clear sb ob mb gb db MA ivb
       go_wp2_with fail
       refine (ST2.out _ MB.out).mono ?_
       rintro e w8 ⟨bc,Fc,boc,qc,Foc,rfl,sc,oc,-,mc,gc,dc⟩
       have TH:Hid (Thr w5 w8 n2 ⟨ba,[],Fa,boa,p1,qa,Foa⟩ ⟨bb,[],Fb,bob,p1,qb,Fob⟩ ⟨bc,[],Fc,boc,p2,qc,Foc⟩):=
        ⟨MB.out.trans' mc,SA.out.mod mc (by simp),SB.out.mod mc (by simp),⟨sc,oc,PP2.out,fun k hk=>by have:=gc k hk;have:=MB.out.size;omega,dc⟩,AB.out,fun k hk q=>by have:=SA.out.lt k hk;have:=gc k q;omega,fun k hk q=>by have:=SB.out.lt k hk;have:=gc k q;omega⟩
       clear sc oc mc gc dc MB SA SB AB ST1 ST2
       go_upto_region 13 with fail
       have HG:Hid (g < w5.heap.size∧gt < w5.heap.size):=⟨World.block_lt_of_cell? w5 _ CG.out,BT'.out.lt⟩
       have C0:=Lib.hid ((TH.out.base.cell (a:=⟨g,0,none⟩) HG.out.1 (by simp)).trans CG.out)
       obtain ⟨t0,t1⟩:=(BT'.out.mod TH.out.base (by simp)).cells2
       have BO:=Lib.hid (build_s (cap:=1) TH.out.a C0.out (fun q=>(TH.out.far HG.out.1).1 (by simp at q;simp [q])) h1 h5 hn HWd.out (by simp))
       go_wp2_with fail
       refine BO.out.mono ?_
       rintro e w9 ⟨et1,ea1,L1,Fa1,rfl,st1,gr1,ed1,hl1⟩
       replace TH:=Lib.hid (TH.out.ga gr1 st1)
       have ED1:=Lib.hid ed1
       have HL1:Hid (L1.length≤32):=by show _≤_;simpa using hl1
       clear st1 gr1 ed1 hl1 BO C0 t0 t1
       obtain ⟨ge1,hge1⟩:∃ge1,w9.heap.size=ge1:=⟨_,rfl⟩
       go_upto_region 14 with fail
       have BE:=Lib.hid (Blk.new' w9 #[.int .u8 et1,.int .u32 ea1] 39 ge1 hge1.symm)
       replace TH:=Lib.hid (TH.out.mod ((Mod.refl _ _).alloc (.cells #[.int .u8 et1,.int .u32 ea1] 39)))
       clear hge1
       generalize w9.alloc (.cells #[.int .u8 et1,.int .u32 ea1] 39)=w10 at *
       obtain ⟨y0,y1⟩:=BE.out.cells2
       have SV:=Lib.hid (save_c h1 h5 hn (show L1.length≤100000 from by have:=HL1.out;omega) TH.out.a.st TH.out.a.od PP1.out ED1.out)
       go_wp2_with fail
       refine SV.out.mono ?_
       rintro e w11 ⟨v1,rfl,nv⟩
       obtain ⟨Fv,sv,mv,ov⟩:=nv
       have rv1:=Rv.of_sl sv rfl
       have hFv:=sv.lt
       have LO:=Lib.hid (load_s (TH.out.mod mv).b rfl h1 h5 hn rv1 hFv ED1.out TH.out.a.st.good TH.out.a.st.nd)
       replace TH:=Lib.hid (TH.out.mod mv)
       clear sv mv ov rv1 hFv SV y0 y1 BE
       go_wp2_with fail
       refine LO.out.mono ?_
       rintro e w12 ⟨et2,ea2,L2,Fb1,rfl,st2,gr2,ed2,hl2⟩
       replace TH:=Lib.hid (TH.out.gb gr2 st2)
       have ED2:=Lib.hid ed2
       have HL2:=Lib.hid hl2
       clear st2 gr2 ed2 hl2 LO
       obtain ⟨ge2,hge2⟩:∃ge2,w12.heap.size=ge2:=⟨_,rfl⟩
       go_upto_region 16 with fail
       have BE:=Lib.hid (Blk.new' w12 #[.int .u8 et2,.int .u32 ea2] 39 ge2 hge2.symm)
       replace TH:=Lib.hid (TH.out.mod ((Mod.refl _ _).alloc (.cells #[.int .u8 et2,.int .u32 ea2] 39)))
       clear hge2
       generalize w12.alloc (.cells #[.int .u8 et2,.int .u32 ea2] 39)=w13 at *
       obtain ⟨y0,y1⟩:=BE.out.cells2
       obtain ⟨gr,hgr⟩:∃gr,w13.heap.size=gr:=⟨_,rfl⟩
       have BR:=Lib.hid (Blk.new' w13 #[.int .u8 f,.int .u8 et2,.int .u32 ea2] 52 gr hgr.symm)
       have MR:Hid (Mod [] w13 (w13.alloc (.cells #[.int .u8 f,.int .u8 et2,.int .u32 ea2] 52))):=(Mod.refl _ _).alloc _
       have HGR:Hid (gr∉Fb1):=fun q=>by have:=TH.out.b.st.st.lt gr q;omega
       replace TH:=Lib.hid (TH.out.mod MR.out)
       have PM:=Lib.hid (permute_c (cap:=1) (g:=gr) (L:=L2) (F:=Fb1) TH.out.b.st TH.out.b.od IV.out PP1.out (Q2.out.mod TH.out.base (by simp)) PP2.out ED2.out h1 h5 hn (by omega) (by have:=HL2.out;omega) (by have:=HL2.out;omega) (BR.out.cell 0) (BR.out.cell 1) (BR.out.cell 2) HGR.out (fun k hk q=>TH.out.b.ap k q hk))
       go_wp2_with fail
       refine PM.out.mono ?_
       rintro e w15 ⟨go,et4,ea4,L4,Fb4,qb4,rfl,bgo,sto4,ord4,m4,own4,ed4,hgo,hgoF,hl4⟩
       have HGC:Hid (go∉Fc):=fun q=>by have:=TH.out.c.st.st.lt go q;omega
       replace TH:=Lib.hid (TH.out.turn m4 own4 sto4 ord4 PP2.out)
       have BGO:=Lib.hid bgo
       have ED4:=Lib.hid ed4
       have HL4:=Lib.hid hl4
       clear bgo sto4 ord4 m4 own4 ed4 hl4 PM BR MR HGR BE y0 y1
       go_upto_region 19 with fail
       have C0:=Lib.hid ((TH.out.base.cell (a:=⟨g,0,none⟩) HG.out.1 (by simp)).trans CG.out)
       obtain ⟨t0,t1⟩:=(BT'.out.mod TH.out.base (by simp)).cells2
       have BO:=Lib.hid (build_s (cap:=1) TH.out.c C0.out (fun q=>(TH.out.far HG.out.1).2.2 (by simp at q;simp [q])) h1 h5 hn HWd.out (by simp))
       go_wp2_with fail
       refine BO.out.mono ?_
       rintro e w16 ⟨et5,ea5,L5,Fc5,rfl,st5,gr5,ed5,hl5⟩
       replace BGO:=Lib.hid (BGO.out.mod gr5.mod HGC.out)
       replace TH:=Lib.hid (TH.out.gc gr5 st5)
       have ED5:=Lib.hid ed5
       have HL5:Hid (L5.length≤32):=by show _≤_;simpa using hl5
       clear st5 gr5 ed5 hl5 BO C0 t0 t1
       obtain ⟨ge5,hge5⟩:∃ge5,w16.heap.size=ge5:=⟨_,rfl⟩
       go_upto_region 20 with fail
       have BE:=Lib.hid (Blk.new' w16 #[.int .u8 et5,.int .u32 ea5] 39 ge5 hge5.symm)
       have M5:Hid (Mod [] w16 (w16.alloc (.cells #[.int .u8 et5,.int .u32 ea5] 39))):=(Mod.refl _ _).alloc _
       replace TH:=Lib.hid (TH.out.mod M5.out)
       replace BGO:=Lib.hid (BGO.out.mod M5.out (by simp))
       clear hge5 M5
       generalize w16.alloc (.cells #[.int .u8 et5,.int .u32 ea5] 39)=w17 at *
       obtain ⟨x0,x1⟩:=BGO.out.cells2
       have SV:=Lib.hid (save_c h1 h5 hn (show (L2++L4).length≤100000 from by have:=HL2.out;have:=HL4.out;rw [List.length_append];omega) TH.out.b.st TH.out.b.od PP2.out ED4.out)
       go_wp2_with fail
       refine SV.out.mono ?_
       rintro e w18 ⟨v2,rfl,nv⟩
       obtain ⟨Fv,sv,mv,-⟩:=nv
       have RV2:=Lib.hid (Rv.of_sl sv rfl)
       have HFV:=Lib.hid sv.lt
       replace TH:=Lib.hid (TH.out.mod mv)
       replace BGO:=Lib.hid (BGO.out.mod mv (by simp))
       replace BE:=Lib.hid (BE.out.mod mv (by simp))
       clear sv mv SV x0 x1
       obtain ⟨y0,y1⟩:=BE.out.cells2
       have SV:=Lib.hid (save_c h1 h5 hn (show L5.length≤100000 from by have:=HL5.out;omega) TH.out.c.st TH.out.c.od PP2.out ED5.out)
       obtain ⟨A9,c9,rfl,-⟩:=RV2.out.shape
       generalize hm9:(List.map ey (savedB f n2 p2 (buildE f n2 n2 0 (tabL Wd p2 n2 0 0)))).length=m9 at RV2 ⊢
       have HM9:=Lib.hid hm9
       clear hm9
       go_wp2_with fail
       refine SV.out.mono ?_
       rintro e w19 ⟨v3,rfl,nv⟩
       obtain ⟨Fv3,sv,mv,-⟩:=nv
       have RV3:=Lib.hid (Rv.of_sl sv rfl)
       obtain ⟨A10,c10,rfl,-⟩:=RV3.out.shape
       rw [HM9.out] at RV3 ⊢
       replace RV2:=Lib.hid (RV2.out.mod mv (by simp))
       replace TH:=Lib.hid (TH.out.mod mv)
       replace BGO:=Lib.hid (BGO.out.mod mv (by simp))
       clear sv mv SV y0 y1 BE
       obtain ⟨x0,x1⟩:=BGO.out.cells2
       have BS:=Lib.hid (buildSetX_c h1 h5 hn TH.out.b.st (show (L2++L4).length≤1048576 from by have:=HL2.out;have:=HL4.out;rw [List.length_append];omega) TH.out.b.od.ord PP2.out HWd.out ED4.out)
       go_wp2_with fail
       refine BS.out.mono ?_
       rintro e w20 ⟨gs,rfl,bgs,hgs,m20⟩
       have BGS:=Lib.hid bgs
       replace RV2:=Lib.hid (RV2.out.mod m20 (by simp))
       replace RV3:=Lib.hid (RV3.out.mod m20 (by simp))
       replace TH:=Lib.hid (TH.out.mod m20)
       clear bgs m20 hgs BS x0 x1 BGO
       obtain ⟨gz,hgz⟩:∃gz,w20.heap.size=gz:=⟨_,rfl⟩
       go_upto_region 23 with fail
       have BZ:=Lib.hid (Blk.new' w20 #[.int .i64 n2,.slice (some ⟨gs,0,none⟩) 1 1] 29 gz hgz.symm)
       have MZ:Hid (Mod [] w20 (w20.alloc (.cells #[.int .i64 n2,.slice (some ⟨gs,0,none⟩) 1 1] 29))):=(Mod.refl _ _).alloc _
       replace TH:=Lib.hid (TH.out.mod MZ.out)
       replace RV2:=Lib.hid (RV2.out.mod MZ.out (by simp))
       replace RV3:=Lib.hid (RV3.out.mod MZ.out (by simp))
       replace BGS:=Lib.hid (BGS.out.mod MZ.out (by simp))
       clear MZ hgz
       generalize w20.alloc (.cells #[.int .i64 n2,.slice (some ⟨gs,0,none⟩) 1 1] 29)=w21 at *
       obtain ⟨x0,x1⟩:=BZ.out.cells2
       obtain ⟨t0,t1⟩:=(BT'.out.mod TH.out.base (by simp)).cells2
       have SB:Hid (∀W,Mod [] w21 W→Calls Tryz.prog 14 #[.slice A9 m9 c9,.slice A10 m9 c10] W fun e w'=>e=.returned (.bool true)∧Mod [] W w'):=fun W m=>sameBytes_c (RV2.out.mod m (by simp)) (RV3.out.mod m (by simp)) (by
        obtain ⟨no,t,a,S⟩:=saved_facts h1 h5 hn PP2.out ED5.out TH.out.c.st.good TH.out.c.st.nd
        have:=S.len
        omega)
       have SS:Hid (∀W,Mod [] w21 W→Calls Tryz.prog 15 #[.agg #[.int .i64 n2,.slice (some ⟨gs,0,none⟩) 1 1],.agg #[.int .i64 n2,.slice (some ⟨g,0,none⟩) 1 1]] W fun e w'=>e=.returned (.bool true)∧Mod [] W w'):=fun W m=>setSame_c ((BGS.out.mod m (by simp)).cell 0) (((TH.out.mod m).base.cell (a:=⟨g,0,none⟩) HG.out.1 (by simp)).trans CG.out)
       have MF:Hid (Mod [] w w21):=M1.out.trans' TH.out.base
       have hzl:=BZ.out.lt
       have htl:=(BT'.out.mod TH.out.base (by simp)).lt
       go_wp2_with fail
       refine (SB.out _ (Mod.refl _ _)).mono ?_
       rintro e w22 ⟨rfl,m22⟩
       have M22:=Lib.hid m22
       have x0:=(m22.cell (a:=⟨gz,0,none⟩) hzl (by simp)).trans x0
       have x1:=(m22.cell (a:=⟨gz,1,none⟩) hzl (by simp)).trans x1
       have t0:=(m22.cell (a:=⟨gt,0,none⟩) htl (by simp)).trans t0
       have t1:=(m22.cell (a:=⟨gt,1,none⟩) htl (by simp)).trans t1
       clear m22 SB
       go_wp2_with fail
       refine (SS.out _ M22.out).mono ?_
       rintro e w23 ⟨rfl,m23⟩
       have M23:=Lib.hid (MF.out.trans' (M22.out.trans' m23))
       clear m23 SS x0 x1 t0 t1
       go_wp2_with fail
       go_ret
       exact ⟨by simp,M23.out⟩
      ·have h5':(5:Int) < f:=by omega
       have h1':¬(f:Int) < 1:=by omega
       go_wp2_with fail
       go_ret
       exact ⟨by simp,M1.out⟩
     ·have h1':(f:Int) < 1:=by omega
      go_wp2_with fail
      go_ret
      exact ⟨by simp,M1.out⟩
  ·have h2':¬(n2:Int)=n:=by omega
   have hn':(n:Int)≤5:=by omega
   go_enter Tryz.func3,Tryz.ntmps3
   go_wp2_with fail
   refine (AL.out _).mono ?_
   rintro e w1 ⟨rfl,m1⟩
   have M1:=Lib.hid m1
   clear m1 AL
   go_wp2_with fail
   go_ret
   exact ⟨by simp,M1.out⟩
 ·have hn':(5:Int) < n:=by omega
  go_enter Tryz.func3,Tryz.ntmps3
  go_wp2_with fail
  refine (AL.out _).mono ?_
  rintro e w1 ⟨rfl,m1⟩
  have M1:=Lib.hid m1
  clear m1 AL
  go_wp2_with fail
  go_ret
  exact ⟨by simp,M1.out⟩
open Go.RowKit
theorem wholeMoved_walk (w:World) (a0:Option Addr) (len0 cap0:Nat) (z0:Nat→Int) (w0:IntRow .i64 w a0 len0 cap0 z0) (m0:cap0≤maxLen)
 (a1:Option Addr) (len1 cap1:Nat) (z1:Nat→Int) (w1:IntRow .i64 w a1 len1 cap1 z1) (m1:cap1≤maxLen)
 (f:Int) (wf:(Lit.int .u8 f).wf=true) (a:Int) (wa:(Lit.int .u64 a).wf=true):
 Calls Tryz.prog 3 #[.slice a0 len0 cap0,.slice a1 len1 cap1,.int .u8 f,.int .u64 a] w fun e w'=>e=.returned (.bool true)∧Mod [] w w':=by
 have h1:IntKind.u64.min=0:=rfl
 have h2:IntKind.u64.max=18446744073709551615:=rfl
 have h3:IntKind.u8.min=0:=rfl
 have h4:IntKind.u8.max=255:=rfl
 obtain ⟨z,rfl,hz⟩:∃z:Nat,a=(z:Int)∧z < B64:=by
  simp [Lit.wf,h1,h2] at wa
  exact ⟨a.toNat,by omega,by unfold B64;omega⟩
 obtain ⟨g,rfl,hg⟩:∃g:Nat,f=(g:Int)∧g < 256:=by
  simp [Lit.wf,h3,h4] at wf
  exact ⟨f.toNat,by omega,by omega⟩
 obtain ⟨xs,F1,r1,hl1,hF1⟩:=intRow_rv w0
 obtain ⟨ys,F2,r2,hl2,hF2⟩:=intRow_rv w1
 exact (moved_c r1 hF1 hl1 r2 hF2 hl2 hz hg w0.1 w1.1 (Nat.le_trans w0.1 m0) (Nat.le_trans w1.1 m1)).mono fun e w' h=>h
end Go.Proofs.YtnbjnnijifiaaaaGreatDoor
