/- Mq30: Jk · Jl -/
import Derived.Test.YtlafpknoiihaaaaGreatDoorMq17
import Derived.Test.YtlafpknoiihaaaaGreatDoorMq29
import Derived.Deep.RegionHeld3
import Derived.Test.YtlafpknoiihaaaaGreatDoorMq18
import Derived.Test.YtlafpknoiihaaaaGreatDoorMq20
set_option maxRecDepth 100000
set_option maxHeartbeats 8000000
set_option linter.unusedVariables false
set_option linter.unusedSimpArgs false
namespace Go.Proofs.YtlafpknoiihaaaaGreatDoor
open Go.RowKit
theorem mngSetE_c {w:World} {bm n room:Nat} {L:List Rc} {Fs p:List Nat} {H:List (Nat × Ed)} {bs bo bq:Nat} {F:List Nat} {ba bc gc Wd:Nat} (h:MgE w bm n room L Fs p H bs bo bq F ba bc gc) (hL:L.length≤1048576) (hn5:n≤5) (hp:Perm p n) (hW:Wd < 2 ^ (2 ^ n)) (hH:H.length≤256)
 {a f:Nat} {e:Ed} (h1:1≤f) (h5:f≤5) (hf:H[a]? =some (f,e)) (hE:EdT L f n n 0 e (tabL Wd p n 0 0)):
 Calls Tryz.prog 14 #[.pointer (some ⟨bm,0,none⟩),.int .i64 ((a+1:Nat):Int)] w (SetX w n Wd):=by
 obtain ⟨b1,bg,vk,vq,vg,Fo,q,g1,g2,g3,-,g5,-⟩:=h.m.m
 have p3:=g1.cell 3 (by omega)
 replace p3:w.cell? ⟨bm,3,none⟩=some (.pointer (some ⟨bs,0,none⟩)):=p3
 have p4:=g1.cell 4 (by omega)
 replace p4:w.cell? ⟨bm,4,none⟩=some (.pointer (some ⟨bo,0,none⟩)):=p4
 have hbm:=g1.lt
 obtain ⟨hl,hg⟩:=List.getElem?_eq_some_iff.1 hf
 obtain ⟨-,d1,d2⟩:=g1.root hH a hl
 rw [hg] at d1 d2
 simp only at d1 d2
 have SZ:Hid (∀W,Mod [] w W→Calls Tryz.prog 36 #[.pointer (some ⟨bs,0,none⟩),.pointer (some ⟨bo,0,none⟩),.int .u8 f,edv e] W fun e' w'=>∃gw,e'=.returned (.tuple #[.agg #[.int .i64 n,.slice (some ⟨gw,0,none⟩) 1 1],.int .u8 0])∧Blk w' gw #[.int .u64 (Wd:Nat)] 22∧W.heap.size≤gw∧Mod [] W w'):=fun W md=>by
  exact buildSetX_c h1 h5 hn5 (h.e.sto.mod md (by simp)) hL (g2.mod md (by simp)) hp hW hE
 obtain ⟨g,hgz⟩:∃g,w.heap.size=g:=⟨_,rfl⟩
 have hm0':a+1 < 257:=by omega
 have MA:Hid (Mod [] w ((w.alloc (.cells #[.int .i64 0,.slice none 0 0] 39)).alloc (.cells #[.int .i64 ((a+1:Nat):Int)] 3))):=((Mod.refl _ _).alloc _).alloc _
 have BK:Hid (Blk ((w.alloc (.cells #[.int .i64 0,.slice none 0 0] 39)).alloc (.cells #[.int .i64 ((a+1:Nat):Int)] 3)) g #[.int .i64 0,.slice none 0 0] 39):=(Blk.new' w _ _ g hgz.symm).alloc _
 have SM:=Lib.hid (same1_c (g:=g+1) (cap:=1) (g1.mod MA.out (by simp)) hH (a:=a) (by have BA:=Blk.new' (w.alloc (.cells #[.int .i64 0,.slice none 0 0] 39)) #[.int .i64 ((a+1:Nat):Int)] 3 (g+1) (by simp [hgz]);have:=BA.cell 0;simpa using this) hf)
 obtain ⟨m,hm⟩:∃m,a+1=m:=⟨_,rfl⟩
 rw [hm] at d1 d2 SM MA BK hm0' ⊢
 have hm3:(m:Int) < 257:=by omega
 have hm0:(0:Int)≤m:=by omega
 obtain ⟨t,x⟩:=e
 unfold edv at SZ
 simp only at d1 d2 SZ
 have d2':w.cell? ⟨bm,262+m *3+1+1,none⟩=some (.int .u32 x):=d2
 clear hg h hf hl hm g1 g2 g3 g5 hE d2 hW hp
 show Calls _ _ _ _ (fun e' w'=>SetX w n Wd e' w')
 go_enter Tryz.func14,Tryz.ntmps14
 go_wp2_with fail
 have p3:=(MA.out.cell (a:=⟨bm,3,none⟩) hbm (by simp)).trans p3
 have p4:=(MA.out.cell (a:=⟨bm,4,none⟩) hbm (by simp)).trans p4
 have d1:=(MA.out.cell (a:=⟨bm,262+m *3+1,none⟩) hbm (by simp)).trans d1
 have d2:=(MA.out.cell (a:=⟨bm,262+m *3+1+1,none⟩) hbm (by simp)).trans d2'
 obtain ⟨k0,k1⟩:=BK.out.cells2
 have hgl:=BK.out.lt
 have hgb:¬g=bm:=by omega
 have hgb2:¬bm=g:=by omega
 have hbm:=Nat.lt_of_lt_of_le hbm MA.out.size
 refine SM.out.mono ?_
 rintro e w1 ⟨rfl,rfl⟩
 generalize (w.alloc (.cells #[.int .i64 0,.slice none 0 0] 39)).alloc (.cells #[.int .i64 (m:Int)] 3)=w1 at *
 go_wp2_with fail
 go_region_held3 (fun w'=>w'.cell? ⟨bm,3,none⟩=some (.pointer (some ⟨bs,0,none⟩))∧w'.cell? ⟨bm,4,none⟩=some (.pointer (some ⟨bo,0,none⟩))∧w'.cell? ⟨bm,262+m *3+1,none⟩=some (.int .u8 t)∧w'.cell? ⟨bm,262+m *3+1+1,none⟩=some (.int .u32 x)) (go_keep) (first | (go_at_call 36;refine (SZ.out _ (MA.out.trans' (show Mod [] w1 _ from by exact mods))).mono ?_;rintro e' w2 ⟨gw,rfl,bgw,hgw,m_w2⟩;have M_w2:=Mod.trans' (show Mod _ w1 _ from by exact mods) m_w2;have p3:=(M_w2.cell (a:=⟨bm,3,none⟩) hbm (by first | assumption | (simp;done))).trans p3;have p4:=(M_w2.cell (a:=⟨bm,4,none⟩) hbm (by first | assumption | (simp;done))).trans p4;have d1:=(M_w2.cell (a:=⟨bm,262+m *3+1,none⟩) hbm (by first | assumption | (simp;done))).trans d1;have d2:=(M_w2.cell (a:=⟨bm,262+m *3+1+1,none⟩) hbm (by first | assumption | (simp;done))).trans d2;have hbm:=Nat.lt_of_lt_of_le hbm M_w2.size;have f0:=(BK.out.mod M_w2 (by simp)).froz 0;have f1:=(BK.out.mod M_w2 (by simp)).froz 1;have k0:=(M_w2.cell (a:=⟨g,0,none⟩) BK.out.lt (by simp)).trans k0;have k1:=(M_w2.cell (a:=⟨g,1,none⟩) BK.out.lt (by simp)).trans k1;have hgl:=Nat.lt_of_lt_of_le hgl M_w2.size))
 all_goals
  have BX:=((BK.out.mod M_w2 (by simp)).set 0 (.int .i64 n)).set 1 (.slice (some ⟨gw,0,none⟩) 1 1)
  simp only [List.setIfInBounds_toArray,List.set_cons_zero,List.set_cons_succ] at BX
  have MX:Mod [g] w2 ((w2.setCell ⟨g,0,none⟩ (.int .i64 n)).setCell ⟨g,1,none⟩ (.slice (some ⟨gw,0,none⟩) 1 1)):=by exact mods
  have hgw':w1.heap.size≤gw:=hgw
  have hgw1:g < gw:=by have:=BK.out.lt;omega
  have BGX:=bgw.mod MX (by simp;omega)
  have MF:=(MA.out.trans' M_w2).trans MX (by intro i hi hm;simp at hm;omega)
  have hgw2:w.heap.size≤gw:=by omega
  obtain ⟨z0,z1⟩:=BX.cells2
  clear k0 k1 f0 f1 p3 p4 d1 d2 m_w2 M_w2
  generalize (w2.setCell ⟨g,0,none⟩ (.int .i64 n)).setCell ⟨g,1,none⟩ (.slice (some ⟨gw,0,none⟩) 1 1)=X at *
  go_wp2_with fail
  refine bodyPost_ret (v:=.tuple #[.agg #[.int .i64 n,.slice (some ⟨gw,0,none⟩) 1 1],.int .u8 0]) (by simp [results,Tryz.results14,go_sem,z0,z1];try rfl) rfl ?_
  exact ⟨gw,rfl,BGX,hgw2,MF⟩
open Go.RowKit
theorem opR_bit (o:Nat) (a b:Bool):opR o a b=o.testBit (2 *a.toNat+b.toNat):=by
 unfold opR valN
 rw [Nat.testBit_eq_decide_div_mod_eq]
 generalize o / 2 ^ (2 *a.toNat+b.toNat) % 2=x
 by_cases h:x=1
 ·subst h;rfl
 ·rw [decide_eq_false h,beq_eq_false_iff_ne];omega
def lmN:Nat→Nat
 | 5=>3
 | 4=>2
 | 3=>1
 | 2=>1
 | _=>0
theorem room_ok {n f x y:Nat} (hn:n≤5) (hx:n≤x) (hy:n≤y):Rm n f (lmN n) (x+y+3 *2 ^ n) [] (8 *budF (lmN n)+budA (lmN n)):=by
 obtain rfl | rfl | rfl | rfl | rfl | rfl:n=0∨n=1∨n=2∨n=3∨n=4∨n=5:=by omega
 all_goals exact ⟨TabS.nil _ _,by simp [low,lmN,budF,budA,capN];try omega,by decide⟩
def TrueR (w:World) (e:Ending) (w':World):Prop:=e=.returned (.bool true)∧Mod [] w w'
def JnkP (w0 w:World) (bm n room bs bo bq:Nat) (F:List Nat) (ba bc g f cc:Nat):Prop:=
 ∃(L:List Rc) (Fs:List Nat),MgE w bm n room L Fs (List.range n) [] bs bo bq F ba bc g∧Rm n f (lmN n) room L cc∧Mod [] w0 w∧∀k∈bm::bc::g::Fs,w0.heap.size≤k
theorem grow_base {w0 w w':World} {X X':List Nat} (m:Mod [] w0 w) (hX:∀k∈X,w0.heap.size≤k) (g:Grow w w' X X'):Mod [] w0 w'∧∀k∈X',w0.heap.size≤k:=
 ⟨m.trans g.mod (fun i hi hm=>by have:=hX i hm;omega),fun k hk=>(g.own k hk).elim (hX k) (fun h=>Nat.le_trans m.size h)⟩
theorem room_c (AL0:∀w,Calls Tryz.prog 4 #[] w fun e w'=>e=.returned (.bool true)∧Mod [] w w') {w:World} {A:Option Addr} {nj capj:Nat} {zj:Nat→Int} (hj:IntRow .u64 w A nj capj zj) (n o:Int) (f a b:Nat) (hf:f < 256) (ha:a < B64) (hb:b < B64):
 Calls Tryz.prog 3 #[.int .i64 n,.int .i64 o,.int .u8 f,.int .u64 a,.int .u64 b,.slice A nj capj] w (TrueR w):=by
 have AL:=Lib.hid AL0
 clear AL0
 by_cases x0:n < 0
 ·clear hj
  go_enter Tryz.func3,Tryz.ntmps3
  go_wp2_with fail
  refine (AL.out _).mono ?_
  rintro e w1 ⟨rfl,m1⟩
  go_wp2_with fail
  go_ret
  exact ⟨rfl,m1⟩
 by_cases x1:5 < n
 ·clear hj
  go_enter Tryz.func3,Tryz.ntmps3
  go_wp2_with fail
  refine (AL.out _).mono ?_
  rintro e w1 ⟨rfl,m1⟩
  go_wp2_with fail
  go_ret
  exact ⟨rfl,m1⟩
 by_cases x2:o < 0
 ·clear hj
  go_enter Tryz.func3,Tryz.ntmps3
  go_wp2_with fail
  refine (AL.out _).mono ?_
  rintro e w1 ⟨rfl,m1⟩
  go_wp2_with fail
  go_ret
  exact ⟨rfl,m1⟩
 by_cases x3:15 < o
 ·clear hj
  go_enter Tryz.func3,Tryz.ntmps3
  go_wp2_with fail
  refine (AL.out _).mono ?_
  rintro e w1 ⟨rfl,m1⟩
  go_wp2_with fail
  go_ret
  exact ⟨rfl,m1⟩
 by_cases x4:(f:Int) < 1
 ·clear hj
  go_enter Tryz.func3,Tryz.ntmps3
  go_wp2_with fail
  refine (AL.out _).mono ?_
  rintro e w1 ⟨rfl,m1⟩
  go_wp2_with fail
  go_ret
  exact ⟨rfl,m1⟩
 by_cases x5:(5:Int) < f
 ·clear hj
  go_enter Tryz.func3,Tryz.ntmps3
  go_wp2_with fail
  refine (AL.out _).mono ?_
  rintro e w1 ⟨rfl,m1⟩
  go_wp2_with fail
  go_ret
  exact ⟨rfl,m1⟩
 by_cases x6:(6:Int) < nj
 ·clear hj
  go_enter Tryz.func3,Tryz.ntmps3
  go_wp2_with fail
  refine (AL.out _).mono ?_
  rintro e w1 ⟨rfl,m1⟩
  go_wp2_with fail
  go_ret
  exact ⟨rfl,m1⟩
 obtain ⟨N,rfl⟩:∃N:Nat,n=N:=⟨n.toNat,by omega⟩
 obtain ⟨O,rfl⟩:∃O:Nat,o=O:=⟨o.toNat,by omega⟩
 have hN:N≤5:=by omega
 have hO:O < 16:=by omega
 have h1:1≤f:=by omega
 have h5:f≤5:=by omega
 have hn6:nj≤6:=by omega
 have hP32:2 ^ N≤32:=by have:=Nat.pow_le_pow_right (n:=2) (by omega) hN;omega
 have hP0:=Nat.two_pow_pos N
 have JR:Hid (∀i,i < nj→∃b off z,A=some ⟨b,off,none⟩∧b < w.heap.size∧z < B64∧w.cell? ⟨b,off+i,none⟩=some (.int .u64 (z:Nat))):=fun i hi=>by
  obtain ⟨b,off,e,hb,hc,hwf⟩:=hj.2 i hi
  simp [Lit.wf,IntKind.min,IntKind.max,IntKind.signed,IntKind.bits] at hwf
  exact ⟨b,off,(zj i).toNat,e,hb,by unfold B64;omega,by rw [hc];congr 2;omega⟩
 clear hj hf
 have BT:Hid (∀z,z < B64→∀W,_):=fun z hz W=>bits_c N z (by omega) hz W
 have HA:=Lib.hid ha
 have HB:=Lib.hid hb
 have SF:Hid (∀W,_):=self02_c N (by omega)
 have SZ:Hid (∀W,_):=size_c N (by omega)
 have OF:Hid (∀W v (t:List Bool) F,Rv W v (t.map eb) F→t.length=2 ^ N→_):=fun W v t F r ht=>of05_c (w:=W) N r (by rw [ht];omega) (by rw [ht];omega)
 obtain ⟨P,hP⟩:∃P,2 ^ N=P:=⟨_,rfl⟩
 rw [hP] at hP32 hP0 OF SZ
 have BL:Hid (∀z,(bitsN N z).length=P):=fun z=>by rw [bitsN_len,hP]
 have HPP:=Lib.hid hP
 clear ha hb hP
 obtain ⟨t,ht⟩:∃t,bitsN N a=t:=⟨_,rfl⟩
 obtain ⟨u,hu⟩:∃u,bitsN N b=u:=⟨_,rfl⟩
 have HTL:Hid (t.length=P):=ht▸BL.out a
 have HUL:Hid (u.length=P):=hu▸BL.out b
 have BA:Hid (∀W,Calls Tryz.prog 5 #[.int .i64 N,.int .u64 a] W fun e w'=>∃v,e=.returned v∧NewV 4 W (t.map eb) w' v):=fun W=>ht▸BT.out a HA.out W
 have BB:Hid (∀W,Calls Tryz.prog 5 #[.int .i64 N,.int .u64 b] W fun e w'=>∃v,e=.returned v∧NewV 4 W (u.map eb) w' v):=fun W=>hu▸BT.out b HB.out W
 clear ht hu HA HB
 have hNi:(N:Int)≤5:=by omega
 have hOi:(O:Int) < 16:=by omega
 have hPi:(P:Int)≤32:=by omega
 have hP0i:(0:Int) < P:=by omega
 go_enter Tryz.func3,Tryz.ntmps3
 go_wp2_with fail
 refine (AL.out _).mono ?_
 rintro e w1 ⟨rfl,m1⟩
 have M1:=Lib.hid m1
 clear m1 AL
 go_wp2_with fail
 refine (BA.out _).mono ?_
 rintro e w2 ⟨v2,rfl,n2⟩
 have N2:=Lib.hid n2
 clear n2 BA
 go_wp2_with fail
 refine (BB.out _).mono ?_
 rintro e w3 ⟨v3,rfl,n3⟩
 have N3:=Lib.hid n3
 clear n3 BB
 go_wp2_with fail
 refine (SF.out _).mono ?_
 rintro e w4 ⟨v4,rfl,n4⟩
 have N4:=Lib.hid n4
 clear n4 SF
 have RT:Hid (∃F,Rv w4 v2 (t.map eb) F∧∀k∈F,k < w4.heap.size):=by
  obtain ⟨F,r,-⟩:=(N2.out.later (N3.out.mod.trans' N4.out.mod)).rv
  obtain ⟨F',r',h⟩:=r.lt
  exact ⟨F',r',fun k hk=>(h k hk).1⟩
 have RU:Hid (∃F,Rv w4 v3 (u.map eb) F∧∀k∈F,k < w4.heap.size):=by
  obtain ⟨F,r,-⟩:=(N3.out.later N4.out.mod).rv
  obtain ⟨F',r',h⟩:=r.lt
  exact ⟨F',r',fun k hk=>(h k hk).1⟩
 have PT:Hid (∀W,Mod [] w4 W→Calls Tryz.prog 7 #[v4,v2] W fun e w'=>∃z:Nat,N≤z∧z≤160∧e=.returned (.int .i64 z)∧Mod [] W w'):=fun W m=>by
  obtain ⟨F,r,-⟩:=RT.out
  obtain ⟨F4,r4,-⟩:=N4.out.rv
  exact parts_c (r4.mod m (by simp)) hN (r.mod m (by simp)) (by rw [HTL.out,HPP.out])
 have PU:Hid (∀W,Mod [] w4 W→Calls Tryz.prog 7 #[v4,v3] W fun e w'=>∃z:Nat,N≤z∧z≤160∧e=.returned (.int .i64 z)∧Mod [] W w'):=fun W m=>by
  obtain ⟨F,r,-⟩:=RU.out
  obtain ⟨F4,r4,-⟩:=N4.out.rv
  exact parts_c (r4.mod m (by simp)) hN (r.mod m (by simp)) (by rw [HUL.out,HPP.out])
 have M4:Hid (Mod [] w w4):=M1.out.trans' (N2.out.mod.trans' (N3.out.mod.trans' N4.out.mod))
 obtain ⟨A2,l2,c2,rfl⟩:∃A l c,v2=.slice A l c:=by obtain ⟨A,c,e⟩:=N2.out.shape;exact ⟨A,_,c,e⟩
 obtain ⟨A3,l3,c3,rfl⟩:∃A l c,v3=.slice A l c:=by obtain ⟨A,c,e⟩:=N3.out.shape;exact ⟨A,_,c,e⟩
 obtain ⟨A4,l4,c4,rfl⟩:∃A l c,v4=.slice A l c:=by obtain ⟨A,c,e⟩:=N4.out.shape;exact ⟨A,_,c,e⟩
 clear N2 N3 N4 M1
 go_wp2_with fail
 refine (PT.out _ (Mod.refl _ _)).mono ?_
 rintro e w5 ⟨x,hx,hx2,rfl,m5⟩
 have M5:=Lib.hid m5
 clear m5 PT
 go_wp2_with fail
 refine (PU.out _ M5.out).mono ?_
 rintro e w6 ⟨y,hy,hy2,rfl,m6⟩
 have M6:Hid (Mod [] w4 w6):=M5.out.trans' m6
 have MB:Hid (Mod [] w w6):=M4.out.trans' M6.out
 clear m6 PU M5
 have hx3:(x:Int)≤160:=by omega
 have hy3:(y:Int)≤160:=by omega
 obtain ⟨R,hR⟩:∃R,x+y+3 *P=R:=⟨_,rfl⟩
 have hRi:(x:Int)+y+3 *P=(R:Int):=by omega
 have hR5:R≤100000:=by omega
 have RM:Hid (Rm N f (lmN N) R [] (8 *budF (lmN N)+budA (lmN N))):=by
  have:=room_ok (f:=f) hN hx hy
  rw [HPP.out,hR] at this
  exact this
 have NW:Hid (∀W,Calls Tryz.prog 8 #[.int .i64 N,.int .i64 ((x:Int)+y+3 *P)] W fun e w'=>∃bm bs bo bq F ba bc gc,e=.returned (.tuple #[.pointer (some ⟨bm,0,none⟩),.int .u8 0])∧Hid (JnkP W w' bm N R bs bo bq F ba bc gc f (8 *budF (lmN N)+budA (lmN N)))):=fun W=>by
  rw [hRi]
  refine (managerNewE_c N R (by omega) (by omega) W).mono ?_
  rintro e w' ⟨bm,bs,bo,bq,Fs,F,ba,bc,gc,rfl,mg,m,-,q1⟩
  exact ⟨bm,bs,bo,bq,F,ba,bc,gc,rfl,[],Fs,mg,RM.out,m,q1⟩
 clear hR hRi hx hy hx2 hy2
 go_wp2_with fail
 refine (SZ.out _).mono ?_
 rintro e w7 ⟨rfl,hw⟩
 subst hw
 go_wp2_with fail
 refine (NW.out _).mono ?_
 rintro e w8 ⟨bm,bs,bo,bq,F,ba,bc,gc,rfl,JP⟩
 clear NW SZ hx3 hy3
 go_wp2_with fail
 go_loopw [21] (fun i wr=>∃k:Nat,k≤nj∧i=.int .i64 k∧Hid (JnkP w7 wr bm N R bs bo bq F ba bc gc f ((nj - k) *budF (lmN N)+(2 *budF (lmN N)+budA (lmN N))))) (fun i _=>nj - (intOf i).toNat)
 case atStart=>
  obtain ⟨L,Fs,q1,q2,q3,q4⟩:=JP.out
  exact ⟨0,by omega,rfl,L,Fs,q1,q2.less (by rw [Nat.sub_zero];have:=Nat.mul_le_mul_right (budF (lmN N)) hn6;omega),q3,q4⟩
 case round=>
  obtain ⟨k,hk,rfl,JK⟩:=hrel
  clear JP
  obtain ⟨L,Fs,q1,q2,q3,q4⟩:=JK.out
  have MG:=Lib.hid q1
  have RK:=Lib.hid q2
  have MQ:=Lib.hid q3
  have QX:=Lib.hid q4
  clear q1 q2 q3 q4 JK
  by_cases hlt:k < nj
  ·obtain ⟨b0,off,z,eA,hb0,hz,hc0⟩:=JR.out k hlt
   have d0:=((MB.out.trans' MQ.out).cell (a:=⟨b0,off+k,none⟩) hb0 (by simp)).trans hc0
   have hbl:b0 < wr.heap.size:=Nat.lt_of_lt_of_le hb0 (MB.out.trans' MQ.out).size
   have hlt':(k:Int) < nj:=by omega
   have RKS:Hid (Rm N f (lmN N) R L (budF (lmN N)+((nj - (k+1)) *budF (lmN N)+(2 *budF (lmN N)+budA (lmN N))))):=RK.out.eq (by
    have e:(nj - k) *budF (lmN N)=(nj - (k+1)) *budF (lmN N)+budF (lmN N):=by rw [show nj - k=(nj - (k+1))+1 by omega,Nat.add_mul,Nat.one_mul]
    omega)
   rw [eA]
   clear hc0 hb0 eA RK
   go_wp2_with fail
   refine (BT.out z hz _).mono ?_
   rintro e w9 ⟨v9,rfl,n9⟩
   obtain ⟨F9,r9,-⟩:=n9.rv
   have O9:=Lib.hid (OF.out w9 v9 _ _ r9 (BL.out z))
   obtain ⟨A9,c9,rfl⟩:=n9.shape
   have M9:=Lib.hid n9.mod
   have HW9:Hid (valB (bitsN N z) < 2 ^ 2 ^ N):=by
    have:=valB_lt (bitsN N z)
    rw [BL.out z,←HPP.out] at this
    exact this
   generalize valB (bitsN N z)=W9 at *
   generalize ((bitsN N z).map eb).length=l9 at *
   clear n9 r9 d0 hbl hz
   go_wp2_with fail
   refine O9.out.mono ?_
   rintro e w10 ⟨g10,rfl,c10,h10,m10⟩
   have M10:Hid (Mod [] wr w10):=M9.out.trans' m10
   have hgs:g10∉Fs:=fun h=>by have:=MG.out.lt g10 (by simp [h]);have:=M9.out.size;omega
   have MO:Hid (Calls Tryz.prog 10 #[.pointer (some ⟨bm,0,none⟩),.int .u8 f,.agg #[.int .i64 N,.slice (some ⟨g10,0,none⟩) 1 1]] w10 (PtR w10 bm N R L Fs (List.range N) [] bs bo bq F ba bc gc f (tabL W9 (List.range N) N 0 0) (lmN N) ((nj - (k+1)) *budF (lmN N)+(2 *budF (lmN N)+budA (lmN N))) 1)):=
    managerOf_c h1 h5 hN HW9.out hR5 (MG.out.mod0 M10.out) (by simp) RKS.out c10 hgs
   clear O9 c10 h10 m10 hgs RKS M9
   generalize tabL W9 (List.range N) N 0 0=T9 at *
   go_wp2_with fail
   refine MO.out.mono ?_
   rintro e w11 ⟨rfl,ed,L2,F',mg,-,rr,gr⟩
   have GB:=Lib.hid (grow_base (MQ.out.trans' M10.out) QX.out gr)
   have RR:=Lib.hid rr
   have DR:=Lib.hid (managerDrop_c mg)
   clear mg rr gr MO MG MQ QX M10
   go_wp2_with fail
   refine DR.out.mono ?_
   rintro e w12 ⟨rfl,mg,md⟩
   have MG:=Lib.hid mg
   have MD:=Lib.hid md
   clear mg md DR
   go_wp2_with fail
   go_roundw
   case rel=>exact ⟨k+1,by omega,by go_num,L++L2,F',MG.out,RR.out,GB.out.1.trans MD.out (fun i hi hm=>by simp at hm;subst hm;have:=GB.out.2 i (by simp);omega),GB.out.2⟩
   case measure=>simp [intOf];omega
  ·obtain rfl:k=nj:=by omega
   have RKS:Hid (Rm N f (lmN N) R L (budF (lmN N)+(budF (lmN N)+(budA (lmN N)+0)))):=RK.out.eq (by
    rw [Nat.sub_self,Nat.zero_mul];omega)
   clear RK JR BT
   have OT:Hid (∀W,Mod [] w7 W→Calls Tryz.prog 11 #[.int .i64 N,.slice A2 l2 c2] W fun e w'=>∃g,e=.returned (.agg #[.int .i64 N,.slice (some ⟨g,0,none⟩) 1 1])∧w'.cell? ⟨g,0,none⟩=some (.int .u64 (valB t:Nat))∧W.heap.size≤g∧Mod [] W w'):=fun W m=>by
    obtain ⟨F,r,-⟩:=RT.out
    exact OF.out W _ t F (r.mod (M6.out.trans' m) (by simp)) HTL.out
   have OU:Hid (∀W,Mod [] w7 W→Calls Tryz.prog 11 #[.int .i64 N,.slice A3 l3 c3] W fun e w'=>∃g,e=.returned (.agg #[.int .i64 N,.slice (some ⟨g,0,none⟩) 1 1])∧w'.cell? ⟨g,0,none⟩=some (.int .u64 (valB u:Nat))∧W.heap.size≤g∧Mod [] W w'):=fun W m=>by
    obtain ⟨F,r,-⟩:=RU.out
    exact OF.out W _ u F (r.mod (M6.out.trans' m) (by simp)) HUL.out
   have WT:Hid (valB t < 2 ^ 2 ^ N):=by
    have:=valB_lt t
    rw [HTL.out,←HPP.out] at this
    exact this
   have WU:Hid (valB u < 2 ^ 2 ^ N):=by
    have:=valB_lt u
    rw [HUL.out,←HPP.out] at this
    exact this
   clear OF
   go_wp2_with fail
   refine (OT.out _ MQ.out).mono ?_
   rintro e w9 ⟨g9,rfl,c9,h9,m9⟩
   have M9:=Lib.hid (MQ.out.trans' m9)
   have MO:Hid (Calls Tryz.prog 10 #[.pointer (some ⟨bm,0,none⟩),.int .u8 f,.agg #[.int .i64 N,.slice (some ⟨g9,0,none⟩) 1 1]] w9 (PtR w9 bm N R L Fs (List.range N) [] bs bo bq F ba bc gc f (tabL (valB t) (List.range N) N 0 0) (lmN N) (budF (lmN N)+(budA (lmN N)+0)) 1)):=
    managerOf_c h1 h5 hN WT.out hR5 (MG.out.mod0 m9) (by simp) RKS.out c9 (fun h=>by have:=MG.out.lt g9 (by simp [h]);omega)
   clear m9 c9 h9 RKS OT
   go_wp2_with fail
   refine MO.out.mono ?_
   rintro e w10 ⟨rfl,⟨t1,a1⟩,L1,F1,mg,ex,rr,gr⟩
   have GB:=Lib.hid (grow_base M9.out QX.out gr)
   have MG1:=Lib.hid mg
   have E1:=Lib.hid ex
   have R1:=Lib.hid rr
   clear mg ex rr gr MO MG MQ QX M9
   go_wp2_with fail
   refine (OU.out _ GB.out.1).mono ?_
   rintro e w11 ⟨g11,rfl,c11,h11,m11⟩
   have M11:=Lib.hid (GB.out.1.trans' m11)
   have MO:Hid (Calls Tryz.prog 10 #[.pointer (some ⟨bm,0,none⟩),.int .u8 f,.agg #[.int .i64 N,.slice (some ⟨g11,0,none⟩) 1 1]] w11 (PtR w11 bm N R (L++L1) F1 (List.range N) [(f,⟨t1,a1⟩)] bs bo bq F ba bc gc f (tabL (valB u) (List.range N) N 0 0) (lmN N) (budA (lmN N)+0) 2)):=
    managerOf_c h1 h5 hN WU.out hR5 (MG1.out.mod0 m11) (by simp) R1.out c11 (fun h=>by have:=MG1.out.lt g11 (by simp [h]);omega)
   clear m11 c11 h11 R1 OU
   go_wp2_with fail
   refine MO.out.mono ?_
   rintro e w12 ⟨rfl,⟨t2,a2⟩,L2,F2,mg,ex,rr,gr⟩
   have GB2:=Lib.hid (grow_base M11.out GB.out.2 gr)
   have MA:Hid (Calls Tryz.prog 13 #[.pointer (some ⟨bm,0,none⟩),.int .i64 O,.int .i64 1,.int .i64 2] w12 (PtR w12 bm N R ((L++L1)++L2) F2 (List.range N) [(f,⟨t1,a1⟩),(f,⟨t2,a2⟩)] bs bo bq F ba bc gc f (zipO O (tabL (valB t) (List.range N) N 0 0) (tabL (valB u) (List.range N) N 0 0)) (lmN N) 0 3)):=
    managerApply_c h1 h5 (by omega) hR5 hO mg rr (E1.out.grow L2) ex
   clear mg ex rr gr MO MG1 GB M11 E1
   go_wp2_with fail
   refine MA.out.mono ?_
   rintro e w13 ⟨rfl,⟨t3,a3⟩,L3,F3,mg,ex,rr,gr⟩
   have GB3:=Lib.hid (grow_base GB2.out.1 GB2.out.2 gr)
   have HZL:Hid (valB (opRL O t u) < 2 ^ 2 ^ N):=by
    have:=valB_lt (opRL O t u)
    rw [show (opRL O t u).length=P by unfold opRL;rw [List.length_map,List.length_range,HTL.out],←HPP.out] at this
    exact this
   have eZ:tabL (valB (opRL O t u)) (List.range N) N 0 0=zipO O (tabL (valB t) (List.range N) N 0 0) (tabL (valB u) (List.range N) N 0 0):=zipO_bits (by intro v hv;simpa using hv) (by simp) (by rw [HTL.out,HPP.out]) (by rw [HUL.out,HPP.out]) (opR_bit O)
   rw [←eZ] at ex
   have hlen:(((L++L1)++L2)++L3).length≤1048576:=by
    have:=rr.lt mg.e.sto.good mg.e.sto.nd h1 h5
    omega
   have ST:Hid (Calls Tryz.prog 14 #[.pointer (some ⟨bm,0,none⟩),.int .i64 3] w13 (SetX w13 N (valB (opRL O t u)))):=
    mngSetE_c (a:=2) mg hlen hN ⟨by simp,by simp,List.nodup_range⟩ HZL.out (by simp) h1 h5 (by simp) ex
   clear mg ex rr gr MA GB2 eZ hlen WT WU
   go_wp2_with fail
   refine ST.out.mono ?_
   rintro e w14 ⟨gw,rfl,bw,hgw,m14⟩
   have MW:Hid (Mod [] w4 w14):=M6.out.trans' (GB3.out.1.trans' m14)
   have MWW:Hid (Mod [] w w14):=MB.out.trans' (GB3.out.1.trans' m14)
   have BW:=Lib.hid bw
   have GWL:=bw.lt
   clear bw hgw m14 ST GB3 HZL
   have OPC:Hid (∀W,Mod [] w14 W→Calls Tryz.prog 16 #[.int .i64 O,.slice A2 l2 c2,.slice A3 l3 c3] W fun e w'=>∃Ao lo co,e=.returned (.slice Ao lo co)∧Mod [] W w'∧Hid (∃F,Rv w' (.slice Ao lo co) ((opRL O t u).map eb) F)):=fun W m=>by
    obtain ⟨F,r,-⟩:=RT.out
    obtain ⟨F',r',-⟩:=RU.out
    refine (op05_c (r.mod (MW.out.trans' m) (by simp)) (r'.mod (MW.out.trans' m) (by simp)) (by rw [HTL.out];omega) (by rw [HTL.out,HUL.out]) O (by omega)).mono ?_
    rintro e w' ⟨v,rfl,nv⟩
    obtain ⟨Ao,co,rfl⟩:=nv.shape
    obtain ⟨Fo,ro,-⟩:=nv.rv
    exact ⟨Ao,_,co,rfl,nv.mod,Fo,ro⟩
   have ISC:Hid (∀W Ao lo co,Mod [] w14 W→Hid (∃F,Rv W (.slice Ao lo co) ((opRL O t u).map eb) F)→Calls Tryz.prog 15 #[.agg #[.int .i64 N,.slice (some ⟨gw,0,none⟩) 1 1],.slice Ao lo co] W fun e w'=>e=.returned (.bool true)∧Mod [] W w'):=fun W Ao lo co m hv=>by
    obtain ⟨F,r⟩:=hv.out
    refine is05_t hN (by unfold opRL;rw [List.length_map,List.length_range,HTL.out,HPP.out]) ?_ r
    have:=(BW.out.mod m (by simp)).cell 0
    simpa using this
   obtain ⟨gz,hgz⟩:∃gz,w14.heap.size=gz:=⟨_,rfl⟩
   have BZ:=Lib.hid (Blk.new' w14 #[.int .i64 N,.slice (some ⟨gw,0,none⟩) 1 1] 39 gz hgz.symm)
   have MZ:Hid (Mod [] w14 (w14.alloc (.cells #[.int .i64 N,.slice (some ⟨gw,0,none⟩) 1 1] 39))):=(Mod.refl _ _).alloc _
   clear BW RT RU HTL HUL
   go_upto_region 24 with fail
   clear hgz
   generalize w14.alloc (.cells #[.int .i64 N,.slice (some ⟨gw,0,none⟩) 1 1] 39)=w15 at *
   obtain ⟨x0,x1⟩:=BZ.out.cells2
   have hzl:=BZ.out.lt
   clear BZ
   go_region_held3 (fun w'=>w'.cell? ⟨gz,0,none⟩=some (.int .i64 N)∧w'.cell? ⟨gz,1,none⟩=some (.slice (some ⟨gw,0,none⟩) 1 1)) (go_keep) (first | (go_at_call 16;refine (OPC.out _ (MZ.out.trans' (show Mod [] w15 _ from by exact mods))).mono ?_;rintro e' wa ⟨Ao,lo,co,rfl,m_wa,HV⟩;have M_wa:=Mod.trans' (show Mod _ w15 _ from by exact mods) m_wa;have x0:=(M_wa.cell (a:=⟨gz,0,none⟩) hzl (by first | assumption | (simp;done))).trans x0;have x1:=(M_wa.cell (a:=⟨gz,1,none⟩) hzl (by first | assumption | (simp;done))).trans x1;have hzl:=Nat.lt_of_lt_of_le hzl M_wa.size) | (go_at_call 15;refine (ISC.out _ Ao lo co (MZ.out.trans' (M_wa.trans' (show Mod [] wa _ from by exact mods))) (by obtain ⟨F,r⟩:=HV.out;exact ⟨F,r.mod (S:=[]) (by exact mods) (by simp)⟩)).mono ?_;rintro e' wb ⟨rfl,m_wb⟩;have M_wb:=Mod.trans' (show Mod _ wa _ from by exact mods) m_wb;have x0:=(M_wb.cell (a:=⟨gz,0,none⟩) hzl (by first | assumption | (simp;done))).trans x0;have x1:=(M_wb.cell (a:=⟨gz,1,none⟩) hzl (by first | assumption | (simp;done))).trans x1;have hzl:=Nat.lt_of_lt_of_le hzl M_wb.size))
   all_goals
    go_wp2_with fail
    go_ret
    exact ⟨rfl,MWW.out.trans' (MZ.out.trans' (M_wa.trans' M_wb))⟩
end Go.Proofs.YtlafpknoiihaaaaGreatDoor
