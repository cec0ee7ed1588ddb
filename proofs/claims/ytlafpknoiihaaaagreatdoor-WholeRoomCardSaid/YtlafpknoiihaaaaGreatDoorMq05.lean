/- Mq05: Sv · Fd · Fe · Mk · Mb · Mt -/
import Derived.Test.YtlafpknoiihaaaaGreatDoorMq04
import Derived.Deep.RegionHeld3
set_option maxRecDepth 100000
set_option maxHeartbeats 2000000
set_option linter.unusedVariables false
set_option linter.unusedSimpArgs false
namespace Go.Proofs.YtlafpknoiihaaaaGreatDoor
open Go.RowKit
theorem stFind_old {w:World} {b n:Nat} {L:List Rc} {room:Nat} {F:List Nat} (h:IsSt w b n L room F) (hL:L.length≤100000) (r:Rc) (id:Nat) (hr:recAt L id=some r):
 Calls Tryz.prog 160 #[.pointer (some ⟨b,0,none⟩),rcv r] w fun e w'=>e=.returned (.tuple #[.int .u32 id,.int .u8 0])∧Mod [] w w':=by
 obtain ⟨ba,bi,g,nt,j,T,Fa,hb,hA,hH,hT,hw,hj,h2,hcap,hnt,-⟩:=h
 have c2:=hb.cell 2
 simp only [List.getElem?_toArray,List.getElem?_cons_zero,List.getElem?_cons_succ] at c2
 have hbl:=hb.lt
 have IG:Hid (∀W,Mod [] w W→_):=fun W m=>stIds_c (hH.mod m (by simp)) (hT.mod m (by simp)) hw (by have:=(recAt_lt hr);omega) hj h2 (by omega) r true id (fun _=>hr) (by simp)
 clear hb hA hH hT hw hj h2 hcap hnt hr
 obtain ⟨kf,kt,kb,⟨klt,kla⟩,⟨kht,kha⟩⟩:=r
 unfold rcv at *
 simp only [if_true] at IG ⊢
 obtain ⟨gk,hgk⟩:∃gk,gk=w.heap.size:=⟨_,rfl⟩
 have gn1:¬b=gk:=by omega
 have gn2:¬gk=b:=by omega
 go_enter Tryz.func160,Tryz.ntmps160
 go_wp2_with fail
 rw [←hgk]
 have B0:=Blk.new' w #[.int .u8 kf,.int .u8 kt,.int .u8 kb,.int .u8 klt,.int .u32 kla,.int .u8 kht,.int .u32 kha] 108 gk hgk
 have M0:Hid (Mod [] w (w.alloc (.cells #[.int .u8 kf,.int .u8 kt,.int .u8 kb,.int .u8 klt,.int .u32 kla,.int .u8 kht,.int .u32 kha] 108))):=(Mod.refl _ _).alloc _
 have c2:=(M0.out.cell (a:=⟨b,2,none⟩) hbl (by simp)).trans c2
 generalize w.alloc (.cells #[.int .u8 kf,.int .u8 kt,.int .u8 kb,.int .u8 klt,.int .u32 kla,.int .u8 kht,.int .u32 kha] 108)=w0 at *
 obtain ⟨q0,q1,q2,q3,q4,q5,q6⟩:=B0.cells7
 have hk:=B0.lt
 have hbl:=Nat.lt_of_lt_of_le hbl M0.out.size
 clear B0 hgk
 go_region_held3 (fun w'=>w'.cell? ⟨b,2,none⟩=some (.pointer (some ⟨bi,0,none⟩))∧w'.cell? ⟨gk,0,none⟩=some (.int .u8 kf)∧w'.cell? ⟨gk,1,none⟩=some (.int .u8 kt)∧w'.cell? ⟨gk,2,none⟩=some (.int .u8 kb)∧w'.cell? ⟨gk,3,none⟩=some (.int .u8 klt)∧w'.cell? ⟨gk,4,none⟩=some (.int .u32 kla)∧w'.cell? ⟨gk,5,none⟩=some (.int .u8 kht)∧w'.cell? ⟨gk,6,none⟩=some (.int .u32 kha)) (go_keep) (first | (go_at_call 175;refine (IG.out _ (M0.out.trans' (by exact mods))).mono ?_;rintro e' w1 ⟨rfl,m_w1⟩;have M_w1:=Mod.trans' (show Mod _ w0 _ from by exact mods) m_w1;have c2:=(M_w1.cell (a:=⟨b,2,none⟩) hbl (by first | assumption | (simp;done))).trans c2;have q0:=(M_w1.cell (a:=⟨gk,0,none⟩) hk (by first | assumption | (simp;done))).trans q0;have q1:=(M_w1.cell (a:=⟨gk,1,none⟩) hk (by first | assumption | (simp;done))).trans q1;have q2:=(M_w1.cell (a:=⟨gk,2,none⟩) hk (by first | assumption | (simp;done))).trans q2;have q3:=(M_w1.cell (a:=⟨gk,3,none⟩) hk (by first | assumption | (simp;done))).trans q3;have q4:=(M_w1.cell (a:=⟨gk,4,none⟩) hk (by first | assumption | (simp;done))).trans q4;have q5:=(M_w1.cell (a:=⟨gk,5,none⟩) hk (by first | assumption | (simp;done))).trans q5;have q6:=(M_w1.cell (a:=⟨gk,6,none⟩) hk (by first | assumption | (simp;done))).trans q6;have hbl:=Nat.lt_of_lt_of_le hbl M_w1.size;have hk:=Nat.lt_of_lt_of_le hk M_w1.size))
 have M1:=Lib.hid (M0.out.trans' M_w1)
 clear M0 m_w1 M_w1 IG
 go_wp2_with fail
 go_ret2
 exact ⟨rfl,M1.out⟩
theorem stFind_new {w:World} {b n:Nat} {L:List Rc} {room:Nat} {F:List Nat} (h:IsSt w b n L room F) (hL:L.length≤100000) (hroom:L.length < room) (hrm:room≤1048576) (hn:n≤16) (r:Rc) (hr:r∉L) (hR:RightR r n)
 (hlo:LeadsP L r.f r.lo (r.bot+1) n) (hhi:LeadsP L r.f r.hi (r.bot+1) n):
 Calls Tryz.prog 160 #[.pointer (some ⟨b,0,none⟩),rcv r] w fun e w'=>e=.returned (.tuple #[.int .u32 ((L.length+2:Nat):Int),.int .u8 0])∧∃F',IsSt w' b n (L++[r]) room F'∧Mod F w w'∧∀k∈F',k∈F∨w.heap.size≤k:=by
 have LO:Hid (∀W,Mod [] w W→_):=fun W m=>stLeads_c (h.mod m (by simp)) (by omega) hn r.f hR.f1 hR.f5 r.lo (r.bot+1) (by have:=hR.bn;omega) hlo
 have LH:Hid (∀W,Mod [] w W→_):=fun W m=>stLeads_c (h.mod m (by simp)) (by omega) hn r.f hR.f1 hR.f5 r.hi (r.bot+1) (by have:=hR.bn;omega) hhi
 have RT:=Lib.hid (right_c r n hR)
 obtain ⟨ba,bi,g,nt,j,T,Fa,hb,hA,hH,hT,hw,hj,h2,hcap,hnt,hnd,rfl,d1,d2,d3,d4,d5,d6⟩:=h
 have AP:Hid (∀W,Mod [] w W→_):=fun W m=>arPut_c (hA.mod m (by simp)) hroom hrm r
 have HR:Hid (r∉L):=hr
 have HK:=Lib.hid (And.intro hb (And.intro hH (And.intro hT (And.intro hw (And.intro hj (And.intro h2 (And.intro hcap (And.intro hnt hnd))))))))
 have hgF:∀gk,w.heap.size≤gk→gk∉Fa:=fun gk h1 h2=>by have:=hA.lt gk h2;omega
 have c0:=hb.cell 0
 have c1:=hb.cell 1
 have c2:=hb.cell 2
 simp only [List.getElem?_toArray,List.getElem?_cons_zero,List.getElem?_cons_succ] at c0 c1 c2
 have hbl:=hb.lt
 have IG:Hid (∀W,Mod [] w W→_):=fun W m=>stIds_c (hH.mod m (by simp)) (hT.mod m (by simp)) hw (by omega) hj h2 (by omega) r false 0 (by simp) (fun _=>hr)
 have hbot:(r.bot:Int)≤16:=by have:=hR.bn;omega
 clear hb hA hH hT hw hj h2 hcap hnt hr hlo hhi hR hnd
 obtain ⟨kf,kt,kb,⟨klt,kla⟩,⟨kht,kha⟩⟩:=r
 unfold rcv edv at *
 simp only at IG LO LH RT AP hbot ⊢
 obtain ⟨gk,hgk⟩:∃gk,gk=w.heap.size:=⟨_,rfl⟩
 have gn1:¬b=gk:=by omega
 have gn2:¬gk=b:=by omega
 have hgF:=hgF gk (by omega)
 have hgk2:w.heap.size≤gk:=by omega
 go_enter Tryz.func160,Tryz.ntmps160
 go_wp2_with fail
 rw [←hgk]
 have B0:=Blk.new' w #[.int .u8 kf,.int .u8 kt,.int .u8 kb,.int .u8 klt,.int .u32 kla,.int .u8 kht,.int .u32 kha] 108 gk hgk
 have M0:Hid (Mod [] w (w.alloc (.cells #[.int .u8 kf,.int .u8 kt,.int .u8 kb,.int .u8 klt,.int .u32 kla,.int .u8 kht,.int .u32 kha] 108))):=(Mod.refl _ _).alloc _
 have c0:=(M0.out.cell (a:=⟨b,0,none⟩) hbl (by simp)).trans c0
 have c1:=(M0.out.cell (a:=⟨b,1,none⟩) hbl (by simp)).trans c1
 have c2:=(M0.out.cell (a:=⟨b,2,none⟩) hbl (by simp)).trans c2
 generalize w.alloc (.cells #[.int .u8 kf,.int .u8 kt,.int .u8 kb,.int .u8 klt,.int .u32 kla,.int .u8 kht,.int .u32 kha] 108)=w0 at *
 obtain ⟨q0,q1,q2,q3,q4,q5,q6⟩:=B0.cells7
 have hk:=B0.lt
 have hbl:=Nat.lt_of_lt_of_le hbl M0.out.size
 clear B0 hgk
 go_region_held3 (fun w'=>w'.cell? ⟨b,0,none⟩=some (.int .i64 n)∧w'.cell? ⟨b,1,none⟩=some (.pointer (some ⟨ba,0,none⟩))∧w'.cell? ⟨b,2,none⟩=some (.pointer (some ⟨bi,0,none⟩))∧w'.cell? ⟨gk,0,none⟩=some (.int .u8 kf)∧w'.cell? ⟨gk,1,none⟩=some (.int .u8 kt)∧w'.cell? ⟨gk,2,none⟩=some (.int .u8 kb)∧w'.cell? ⟨gk,3,none⟩=some (.int .u8 klt)∧w'.cell? ⟨gk,4,none⟩=some (.int .u32 kla)∧w'.cell? ⟨gk,5,none⟩=some (.int .u8 kht)∧w'.cell? ⟨gk,6,none⟩=some (.int .u32 kha)) (go_keep) (first | (go_at_call 175;refine (IG.out _ (M0.out.trans' (by exact mods))).mono ?_;rintro e' w1 ⟨rfl,m_w1⟩;have M_w1:=Mod.trans' (show Mod _ w0 _ from by exact mods) m_w1;have c0:=(M_w1.cell (a:=⟨b,0,none⟩) hbl (by first | assumption | (simp;done))).trans c0;have c1:=(M_w1.cell (a:=⟨b,1,none⟩) hbl (by first | assumption | (simp;done))).trans c1;have c2:=(M_w1.cell (a:=⟨b,2,none⟩) hbl (by first | assumption | (simp;done))).trans c2;have q0:=(M_w1.cell (a:=⟨gk,0,none⟩) hk (by first | assumption | (simp;done))).trans q0;have q1:=(M_w1.cell (a:=⟨gk,1,none⟩) hk (by first | assumption | (simp;done))).trans q1;have q2:=(M_w1.cell (a:=⟨gk,2,none⟩) hk (by first | assumption | (simp;done))).trans q2;have q3:=(M_w1.cell (a:=⟨gk,3,none⟩) hk (by first | assumption | (simp;done))).trans q3;have q4:=(M_w1.cell (a:=⟨gk,4,none⟩) hk (by first | assumption | (simp;done))).trans q4;have q5:=(M_w1.cell (a:=⟨gk,5,none⟩) hk (by first | assumption | (simp;done))).trans q5;have q6:=(M_w1.cell (a:=⟨gk,6,none⟩) hk (by first | assumption | (simp;done))).trans q6;have hbl:=Nat.lt_of_lt_of_le hbl M_w1.size;have hk:=Nat.lt_of_lt_of_le hk M_w1.size))
 have M1:=Lib.hid (M0.out.trans' M_w1)
 clear M0 m_w1 M_w1 IG
 have e1:((kb+1:Nat):Int)=(kb:Int)+1:=by omega
 have LO:Hid (∀W,Mod [] w1 W→Calls Tryz.prog 71 #[.pointer (some ⟨b,0,none⟩),.int .u8 kf,.agg #[.int .u8 klt,.int .u32 kla],.int .i64 ((kb:Int)+1)] W fun e w'=>e=.returned (.bool true)∧Mod [] W w'):=fun W m=>by
  rw [←e1];exact LO.out W (M1.out.trans' m)
 have LH:Hid (∀W,Mod [] w1 W→Calls Tryz.prog 71 #[.pointer (some ⟨b,0,none⟩),.int .u8 kf,.agg #[.int .u8 kht,.int .u32 kha],.int .i64 ((kb:Int)+1)] W fun e w'=>e=.returned (.bool true)∧Mod [] W w'):=fun W m=>by
  rw [←e1];exact LH.out W (M1.out.trans' m)
 clear e1
 go_wp2_with fail
 go_region_held3 (fun w'=>w'.cell? ⟨b,0,none⟩=some (.int .i64 n)∧w'.cell? ⟨b,1,none⟩=some (.pointer (some ⟨ba,0,none⟩))∧w'.cell? ⟨b,2,none⟩=some (.pointer (some ⟨bi,0,none⟩))∧w'.cell? ⟨gk,0,none⟩=some (.int .u8 kf)∧w'.cell? ⟨gk,1,none⟩=some (.int .u8 kt)∧w'.cell? ⟨gk,2,none⟩=some (.int .u8 kb)∧w'.cell? ⟨gk,3,none⟩=some (.int .u8 klt)∧w'.cell? ⟨gk,4,none⟩=some (.int .u32 kla)∧w'.cell? ⟨gk,5,none⟩=some (.int .u8 kht)∧w'.cell? ⟨gk,6,none⟩=some (.int .u32 kha)) (go_keep) (first | (go_at_call 176;refine (RT.out _).mono ?_;rintro e' wa ⟨rfl,m_wa⟩;have M_wa:=Mod.trans' (show Mod _ w1 _ from by exact mods) m_wa;have c0:=(M_wa.cell (a:=⟨b,0,none⟩) hbl (by first | assumption | (simp;done))).trans c0;have c1:=(M_wa.cell (a:=⟨b,1,none⟩) hbl (by first | assumption | (simp;done))).trans c1;have c2:=(M_wa.cell (a:=⟨b,2,none⟩) hbl (by first | assumption | (simp;done))).trans c2;have q0:=(M_wa.cell (a:=⟨gk,0,none⟩) hk (by first | assumption | (simp;done))).trans q0;have q1:=(M_wa.cell (a:=⟨gk,1,none⟩) hk (by first | assumption | (simp;done))).trans q1;have q2:=(M_wa.cell (a:=⟨gk,2,none⟩) hk (by first | assumption | (simp;done))).trans q2;have q3:=(M_wa.cell (a:=⟨gk,3,none⟩) hk (by first | assumption | (simp;done))).trans q3;have q4:=(M_wa.cell (a:=⟨gk,4,none⟩) hk (by first | assumption | (simp;done))).trans q4;have q5:=(M_wa.cell (a:=⟨gk,5,none⟩) hk (by first | assumption | (simp;done))).trans q5;have q6:=(M_wa.cell (a:=⟨gk,6,none⟩) hk (by first | assumption | (simp;done))).trans q6;have hbl:=Nat.lt_of_lt_of_le hbl M_wa.size;have hk:=Nat.lt_of_lt_of_le hk M_wa.size) | (go_at_call 71;with_reducible refine (LO.out _ (M_wa.trans' (by exact mods))).mono ?_;rintro e' wb ⟨rfl,m_wb⟩;have M_wb:=Mod.trans' (show Mod _ wa _ from by exact mods) m_wb;have c0:=(M_wb.cell (a:=⟨b,0,none⟩) hbl (by first | assumption | (simp;done))).trans c0;have c1:=(M_wb.cell (a:=⟨b,1,none⟩) hbl (by first | assumption | (simp;done))).trans c1;have c2:=(M_wb.cell (a:=⟨b,2,none⟩) hbl (by first | assumption | (simp;done))).trans c2;have q0:=(M_wb.cell (a:=⟨gk,0,none⟩) hk (by first | assumption | (simp;done))).trans q0;have q1:=(M_wb.cell (a:=⟨gk,1,none⟩) hk (by first | assumption | (simp;done))).trans q1;have q2:=(M_wb.cell (a:=⟨gk,2,none⟩) hk (by first | assumption | (simp;done))).trans q2;have q3:=(M_wb.cell (a:=⟨gk,3,none⟩) hk (by first | assumption | (simp;done))).trans q3;have q4:=(M_wb.cell (a:=⟨gk,4,none⟩) hk (by first | assumption | (simp;done))).trans q4;have q5:=(M_wb.cell (a:=⟨gk,5,none⟩) hk (by first | assumption | (simp;done))).trans q5;have q6:=(M_wb.cell (a:=⟨gk,6,none⟩) hk (by first | assumption | (simp;done))).trans q6;have hbl:=Nat.lt_of_lt_of_le hbl M_wb.size;have hk:=Nat.lt_of_lt_of_le hk M_wb.size) | (go_at_call 71;with_reducible refine (LH.out _ (M_wa.trans' (M_wb.trans' (by exact mods)))).mono ?_;rintro e' wc ⟨rfl,m_wc⟩;have M_wc:=Mod.trans' (show Mod _ wb _ from by exact mods) m_wc;have c0:=(M_wc.cell (a:=⟨b,0,none⟩) hbl (by first | assumption | (simp;done))).trans c0;have c1:=(M_wc.cell (a:=⟨b,1,none⟩) hbl (by first | assumption | (simp;done))).trans c1;have c2:=(M_wc.cell (a:=⟨b,2,none⟩) hbl (by first | assumption | (simp;done))).trans c2;have q0:=(M_wc.cell (a:=⟨gk,0,none⟩) hk (by first | assumption | (simp;done))).trans q0;have q1:=(M_wc.cell (a:=⟨gk,1,none⟩) hk (by first | assumption | (simp;done))).trans q1;have q2:=(M_wc.cell (a:=⟨gk,2,none⟩) hk (by first | assumption | (simp;done))).trans q2;have q3:=(M_wc.cell (a:=⟨gk,3,none⟩) hk (by first | assumption | (simp;done))).trans q3;have q4:=(M_wc.cell (a:=⟨gk,4,none⟩) hk (by first | assumption | (simp;done))).trans q4;have q5:=(M_wc.cell (a:=⟨gk,5,none⟩) hk (by first | assumption | (simp;done))).trans q5;have q6:=(M_wc.cell (a:=⟨gk,6,none⟩) hk (by first | assumption | (simp;done))).trans q6;have hbl:=Nat.lt_of_lt_of_le hbl M_wc.size;have hk:=Nat.lt_of_lt_of_le hk M_wc.size))
 have M2:=Lib.hid (M1.out.trans' (M_wa.trans' (M_wb.trans' M_wc)))
 clear M1 M_wa M_wb M_wc m_wa m_wb m_wc LO LH RT
 go_wp2_with fail
 go_region_held3 (fun w'=>w'.cell? ⟨b,0,none⟩=some (.int .i64 n)∧w'.cell? ⟨b,1,none⟩=some (.pointer (some ⟨ba,0,none⟩))∧w'.cell? ⟨b,2,none⟩=some (.pointer (some ⟨bi,0,none⟩))∧w'.cell? ⟨gk,0,none⟩=some (.int .u8 kf)∧w'.cell? ⟨gk,1,none⟩=some (.int .u8 kt)∧w'.cell? ⟨gk,2,none⟩=some (.int .u8 kb)∧w'.cell? ⟨gk,3,none⟩=some (.int .u8 klt)∧w'.cell? ⟨gk,4,none⟩=some (.int .u32 kla)∧w'.cell? ⟨gk,5,none⟩=some (.int .u8 kht)∧w'.cell? ⟨gk,6,none⟩=some (.int .u32 kha)) (go_keep) (first | (go_at_call 177;refine (AP.out _ (M2.out.trans' (by exact mods))).mono ?_;rintro e' w2 ⟨rfl,F2,hA2,m_w2,hF2⟩;have M_w2:=Mod.trans' (show Mod _ wc _ from by exact mods) m_w2;have c0:=(M_w2.cell (a:=⟨b,0,none⟩) hbl (by first | assumption | (simp;done))).trans c0;have c1:=(M_w2.cell (a:=⟨b,1,none⟩) hbl (by first | assumption | (simp;done))).trans c1;have c2:=(M_w2.cell (a:=⟨b,2,none⟩) hbl (by first | assumption | (simp;done))).trans c2;have q0:=(M_w2.cell (a:=⟨gk,0,none⟩) hk (by first | assumption | (simp;done))).trans q0;have q1:=(M_w2.cell (a:=⟨gk,1,none⟩) hk (by first | assumption | (simp;done))).trans q1;have q2:=(M_w2.cell (a:=⟨gk,2,none⟩) hk (by first | assumption | (simp;done))).trans q2;have q3:=(M_w2.cell (a:=⟨gk,3,none⟩) hk (by first | assumption | (simp;done))).trans q3;have q4:=(M_w2.cell (a:=⟨gk,4,none⟩) hk (by first | assumption | (simp;done))).trans q4;have q5:=(M_w2.cell (a:=⟨gk,5,none⟩) hk (by first | assumption | (simp;done))).trans q5;have q6:=(M_w2.cell (a:=⟨gk,6,none⟩) hk (by first | assumption | (simp;done))).trans q6;have hbl:=Nat.lt_of_lt_of_le hbl M_w2.size;have hk:=Nat.lt_of_lt_of_le hk M_w2.size))
 have hszc:=M2.out.size
 have hF2':Hid (∀k∈F2,k∈Fa∨w.heap.size≤k):=fun k hk=>(hF2 k hk).imp id (fun h=>Nat.le_trans hszc (by simpa using h))
 have HA2:=Lib.hid hA2
 have M3:=Lib.hid M_w2
 have hsz2:=M_w2.size
 clear hA2 hF2 m_w2 M_w2 AP
 obtain ⟨k1,k2,k3,k4,k5,k6,k7,k8,k9⟩:=HK.out
 have nbi:=k2.lt
 have nbg:=k3.lt
 have HH2:=Lib.hid ((k2.mod M2.out (by simp)).mod M3.out d5)
 have HT2:=Lib.hid ((k3.mod M2.out (by simp)).mod M3.out d6)
 have HB2:=Lib.hid ((k1.mod M2.out (by simp)).mod M3.out d3)
 have hj19:j+1≤20:=by
  rcases Nat.lt_or_ge j 19 with h | h
  ·omega
  ·have:=Nat.pow_le_pow_right (n:=2) (by omega) h
   omega
 have RL:Hid (∀k' id',RelOf (L++[⟨kf,kt,kb,⟨klt,kla⟩,⟨kht,kha⟩⟩]) k' id'↔(k'=⟨kf,kt,kb,⟨klt,kla⟩,⟨kht,kha⟩⟩∧id'=L.length+2)∨(k'≠⟨kf,kt,kb,⟨klt,kla⟩,⟨kht,kha⟩⟩∧RelOf L k' id')):=fun k' id'=>by
  constructor
  ·intro h
   rcases recAt_snoc h with h | h
   ·exact .inl h
   ·exact .inr ⟨fun e=>HR.out (e▸recAt_mem h),h⟩
  ·rintro (⟨rfl,rfl⟩ | ⟨_,h⟩)
   ·exact recAt_last _ _
   ·exact recAt_append h _
 have e2:((L.length+2:Nat):Int)=(L.length:Int)+2:=by omega
 have IP:Hid (∀W,Mod [] w2 W→Calls Tryz.prog 178 #[.pointer (some ⟨bi,0,none⟩),.agg #[.int .u8 kf,.int .u8 kt,.int .u8 kb,.int .u8 klt,.int .u32 kla,.int .u8 kht,.int .u32 kha],.int .u32 ((L.length:Int)+2)] W fun e w'=>e=.returned (.tuple #[.int .u32 0,.bool false])∧
  ∃g' n' T',Hd w' bi g' n' (L.length+1)∧Tab w' g' n' T'∧IW n' (hm n') T' (RelOf (L++[⟨kf,kt,kb,⟨klt,kla⟩,⟨kht,kha⟩⟩])) (L.length+1)∧((n'=nt∧g'=g∧2 *(L.length+1)≤nt)∨(n'=2 *nt∧W.heap.size≤g'∧nt < 2 *(L.length+1)))∧Mod [bi,g] W w'):=fun W m=>by
  rw [←e2]
  exact put_new (HH2.out.mod m (by simp)) (HT2.out.mod m (by simp)) k4 d4 (by omega) hj19 k5 k6 ⟨kf,kt,kb,⟨klt,kla⟩,⟨kht,kha⟩⟩ (L.length+2) (by omega) (fun old h=>HR.out (recAt_mem h)) RL.out
 have K5:=Lib.hid (And.intro k4 (And.intro k5 (And.intro k6 (And.intro k7 (And.intro k8 k9)))))
 clear k1 k2 k3 k4 k5 k6 k7 k8 k9 HK HH2 HT2 hj19 RL
 have nb1:b∉[bi,g]:=by simp;exact ⟨d1,d2⟩
 have nb2:gk∉[bi,g]:=by simp;omega
 go_wp2_with fail
 go_region_held3 (fun w'=>w'.cell? ⟨b,0,none⟩=some (.int .i64 n)∧w'.cell? ⟨b,1,none⟩=some (.pointer (some ⟨ba,0,none⟩))∧w'.cell? ⟨b,2,none⟩=some (.pointer (some ⟨bi,0,none⟩))∧w'.cell? ⟨gk,0,none⟩=some (.int .u8 kf)∧w'.cell? ⟨gk,1,none⟩=some (.int .u8 kt)∧w'.cell? ⟨gk,2,none⟩=some (.int .u8 kb)∧w'.cell? ⟨gk,3,none⟩=some (.int .u8 klt)∧w'.cell? ⟨gk,4,none⟩=some (.int .u32 kla)∧w'.cell? ⟨gk,5,none⟩=some (.int .u8 kht)∧w'.cell? ⟨gk,6,none⟩=some (.int .u32 kha)) (go_keep) (first | (go_at_call 178;refine (IP.out _ (by exact mods)).mono ?_;rintro e' w3 ⟨rfl,g3,n3,T3,p1,p2,p3,p4,m_w3⟩;have M_w3:=Mod.trans' (show Mod _ w2 _ from by exact mods) m_w3;have c0:=(M_w3.cell (a:=⟨b,0,none⟩) hbl (by first | assumption | (simp;done))).trans c0;have c1:=(M_w3.cell (a:=⟨b,1,none⟩) hbl (by first | assumption | (simp;done))).trans c1;have c2:=(M_w3.cell (a:=⟨b,2,none⟩) hbl (by first | assumption | (simp;done))).trans c2;have q0:=(M_w3.cell (a:=⟨gk,0,none⟩) hk (by first | assumption | (simp;done))).trans q0;have q1:=(M_w3.cell (a:=⟨gk,1,none⟩) hk (by first | assumption | (simp;done))).trans q1;have q2:=(M_w3.cell (a:=⟨gk,2,none⟩) hk (by first | assumption | (simp;done))).trans q2;have q3:=(M_w3.cell (a:=⟨gk,3,none⟩) hk (by first | assumption | (simp;done))).trans q3;have q4:=(M_w3.cell (a:=⟨gk,4,none⟩) hk (by first | assumption | (simp;done))).trans q4;have q5:=(M_w3.cell (a:=⟨gk,5,none⟩) hk (by first | assumption | (simp;done))).trans q5;have q6:=(M_w3.cell (a:=⟨gk,6,none⟩) hk (by first | assumption | (simp;done))).trans q6;have hbl:=Nat.lt_of_lt_of_le hbl M_w3.size;have hk:=Nat.lt_of_lt_of_le hk M_w3.size))
 have p4':(n3=nt∧g3=g∧2 *(L.length+1)≤nt)∨(n3=2 *nt∧w2.heap.size≤g3∧nt < 2 *(L.length+1)):=by simpa using p4
 have P1:=Lib.hid p1
 have P2:=Lib.hid p2
 have P3:=Lib.hid p3
 have P4:=Lib.hid p4'
 have M4:=Lib.hid M_w3
 clear p1 p2 p3 p4 p4' m_w3 M_w3 IP c0 c1 c2 q0 q1 q2 q3 q4 q5 q6
 go_wp2_with fail
 go_ret2
 obtain ⟨k4,k5,k6,k7,k8,k9⟩:=K5.out
 have hF2:=hF2'.out
 have hlt2:=HA2.out.lt
 have q4:=P4.out
 have nF2:∀x,x < w.heap.size→x∉Fa→x∉F2:=fun x h1 h2 h3=>by rcases hF2 x h3 with h | h;exact h2 h;omega
 have hj3:∃j',n3=2 ^ j':=by
  rcases q4 with ⟨rfl,_⟩ | ⟨rfl,_⟩
  ·exact ⟨j,k5⟩
  ·exact ⟨j+1,by rw [k5,Nat.pow_succ];omega⟩
 obtain ⟨j3,hj3⟩:=hj3
 have hbw:b < w.heap.size:=by assumption
 have e3:L.length+1=(L++[(⟨kf,kt,kb,⟨klt,kla⟩,⟨kht,kha⟩⟩:Rc)]).length:=by simp
 have x1:=P1.out
 have x3:=P3.out
 rw [e3] at x1 x3
 have hg3:g3=g∨w2.heap.size≤g3:=by omega
 have hg3F:g3∉F2:=by
  rcases hg3 with rfl | h
  ·exact nF2 _ nbg d6
  ·intro h2;have:=hlt2 _ h2;omega
 refine ⟨rfl,b::bi::g3::F2,⟨ba,bi,g3,n3,j3,T3,F2,HB2.out.mod M4.out nb1,HA2.out.mod M4.out ?_,x1,P2.out,x3,hj3,by omega,by simp;omega,by simp;omega,?_,rfl,d1,by omega,nF2 b hbw d3,by omega,nF2 bi nbi d5,hg3F⟩,?_,?_⟩
 ·intro k hk;simp;constructor
  ·rintro rfl;exact nF2 _ nbi d5 hk
  ·rintro rfl;exact nF2 _ nbg d6 hk
 ·rw [List.nodup_append];exact ⟨k9,by simp,fun a ha b hb=>by simp at hb;subst hb;intro e;subst e;exact HR.out ha⟩
 ·exact ((M2.out.mono (S':=b::bi::g::Fa) (by intro k _ h;simp at h)).trans M3.out (by intro k _ h;simp [h])).trans M4.out (by intro k _ h;simp at h;simp;omega)
 ·intro k hk
  simp at hk ⊢
  rcases hk with rfl | rfl | rfl | hk
  ·simp
  ·simp
  ·omega
  ·rcases hF2 k hk with h | h
   ·simp [h]
   ·exact .inr h
open Go.RowKit
def fnd (L:List Rc) (r:Rc):List Rc × Nat:=if r∈L then (L,L.idxOf r+2) else (L++[r],L.length+2)
theorem fnd_at (L:List Rc) (r:Rc):recAt (fnd L r).1 (fnd L r).2=some r:=by
 unfold fnd
 split
 ·rename_i h
  unfold recAt
  simp [List.idxOf_lt_length_iff.2 h]
 ·exact recAt_last L r
theorem fnd_grow (L:List Rc) (r:Rc):∃L2,(fnd L r).1=L++L2:=by
 unfold fnd;split
 ·exact ⟨[],by simp⟩
 ·exact ⟨[r],rfl⟩
theorem fnd_len (L:List Rc) (r:Rc):(fnd L r).1.length≤L.length+1:=by
 unfold fnd;split<;>simp
theorem stFind_c {w:World} {b n:Nat} {L:List Rc} {room:Nat} {F:List Nat} (h:IsSt w b n L room F) (hL:L.length≤100000) (hroom:L.length < room) (hrm:room≤1048576) (hn:n≤16) (r:Rc) (hR:RightR r n)
 (hlo:LeadsP L r.f r.lo (r.bot+1) n) (hhi:LeadsP L r.f r.hi (r.bot+1) n):
 Calls Tryz.prog 160 #[.pointer (some ⟨b,0,none⟩),rcv r] w fun e w'=>e=.returned (.tuple #[.int .u32 ((fnd L r).2:Nat),.int .u8 0])∧∃F',IsSt w' b n (fnd L r).1 room F'∧Mod F w w'∧∀k∈F',k∈F∨w.heap.size≤k:=by
 unfold fnd
 by_cases hr:r∈L
 ·rw [if_pos hr]
  refine (stFind_old h hL r (L.idxOf r+2) ?_).mono ?_
  ·have:=fnd_at L r;unfold fnd at this;rw [if_pos hr] at this;exact this
  ·rintro e w' ⟨rfl,m⟩
   exact ⟨rfl,F,h.mod m (by simp),m.mono (by intro k _ h;simp at h),fun k hk=>.inl hk⟩
 ·rw [if_neg hr]
  exact stFind_new h hL hroom hrm hn r hr hR hlo hhi
open Go.RowKit
theorem bddFound_c {w:World} {b n:Nat} {L:List Rc} {room:Nat} {F:List Nat} (h:IsSt w b n L room F) (hL:L.length≤100000) (hroom:L.length < room) (hrm:room≤1048576) (hn:n≤16) (r:Rc) (hR:RightR r n)
 (hlo:LeadsP L r.f r.lo (r.bot+1) n) (hhi:LeadsP L r.f r.hi (r.bot+1) n):
 Calls Tryz.prog 139 #[.pointer (some ⟨b,0,none⟩),rcv r] w fun e w'=>e=.returned (.tuple #[edv ⟨0,(fnd L r).2⟩,.int .u8 0])∧∃F',IsSt w' b n (fnd L r).1 room F'∧Mod F w w'∧∀k∈F',k∈F∨w.heap.size≤k:=by
 have FN:Hid (∀W,Mod [] w W→_):=fun W m=>stFind_c (h.mod m (by simp)) hL hroom hrm hn r hR hlo hhi
 have hlt:=h.lt
 clear h hlo hhi hR
 generalize (fnd L r).2=id at *
 generalize (fnd L r).1=L2 at *
 obtain ⟨kf,kt,kb,⟨klt,kla⟩,⟨kht,kha⟩⟩:=r
 unfold rcv edv at *
 simp only at FN ⊢
 obtain ⟨gk,hgk⟩:∃gk,w.heap.size=gk:=⟨_,rfl⟩
 have HLT:Hid (∀k∈F,k < gk):=fun k hk=>by have:=hlt k hk;omega
 clear hlt
 go_enter Tryz.func139,Tryz.ntmps139
 go_wp2_with fail
 have BK:=Blk.new' w #[.int .u8 kf,.int .u8 kt,.int .u8 kb,.int .u8 klt,.int .u32 kla,.int .u8 kht,.int .u32 kha] 108 gk hgk.symm
 have BR:=Blk.new' (w.alloc (.cells #[.int .u8 kf,.int .u8 kt,.int .u8 kb,.int .u8 klt,.int .u32 kla,.int .u8 kht,.int .u32 kha] 108)) #[.int .u8 0,.int .u32 0] 66 (gk+1) (by simp [hgk])
 have BK:=BK.alloc (.cells #[.int .u8 0,.int .u32 0] 66)
 have M0:Hid (Mod [] w ((w.alloc (.cells #[.int .u8 kf,.int .u8 kt,.int .u8 kb,.int .u8 klt,.int .u32 kla,.int .u8 kht,.int .u32 kha] 108)).alloc (.cells #[.int .u8 0,.int .u32 0] 66))):=by exact mods
 have hsz:((w.alloc (.cells #[.int .u8 kf,.int .u8 kt,.int .u8 kb,.int .u8 klt,.int .u32 kla,.int .u8 kht,.int .u32 kha] 108)).alloc (.cells #[.int .u8 0,.int .u32 0] 66)).heap.size=gk+2:=by simp [hgk]
 generalize (w.alloc (.cells #[.int .u8 kf,.int .u8 kt,.int .u8 kb,.int .u8 klt,.int .u32 kla,.int .u8 kht,.int .u32 kha] 108)).alloc (.cells #[.int .u8 0,.int .u32 0] 66)=w0 at *
 refine (FN.out _ M0.out).mono ?_
 rintro e w2 ⟨rfl,F2,s2,m2,f2⟩
 have BK:=BK.mod m2 (fun h=>by have:=HLT.out _ h;omega)
 have BR:=BR.mod m2 (fun h=>by have:=HLT.out _ h;omega)
 obtain ⟨q0,q1,q2,q3,q4,q5,q6⟩:=BK.cells7
 obtain ⟨e0,e1⟩:=BR.cells2
 obtain ⟨f0,f1,-⟩:=BR.frozs
 have BR:=Lib.hid BR
 have S2:=Lib.hid s2
 have M2:=Lib.hid m2
 have F2':=Lib.hid f2
 have gn1:¬gk=gk+1:=by omega
 have gn2:¬gk+1=gk:=by omega
 clear BK s2 m2 f2 FN
 go_wp2_with fail
 have BX:=set2_blk BR.out ⟨0,id⟩
 obtain ⟨g0,g1⟩:=BX.cells2
 have MS:=Lib.hid (set2_mod (Mod.refl [gk+1] w2) (gk+1) ⟨0,id⟩ (fun _=>by simp))
 change bodyPost _ _ _ _ _ (set2 w2 (gk+1) ⟨0,id⟩)
 generalize set2 w2 (gk+1) ⟨0,id⟩=X at *
 clear q0 q1 q2 q3 q4 q5 q6 e0 e1 f0 f1 BX
 simp only at g0 g1
 refine bodyPost_ret (by simp [results,Tryz.results139,g0,g1,go_sem];try rfl) rfl ?_
 have hF2:∀k∈F2,k∈F∨gk+2≤k:=fun k hk=>(F2'.out k hk).imp (fun h=>h) (fun h=>by omega)
 have hFg:gk+1∉F:=fun h=>by have:=HLT.out _ h;omega
 refine ⟨rfl,F2,S2.out.mod MS.out (fun k hk=>?_),?_,fun k hk=>(hF2 k hk).imp (fun h=>h) (fun h=>by omega)⟩
 ·simp;rintro rfl;rcases hF2 _ hk with h | h;exact hFg h;omega
 ·exact (((M0.out.mono (by intro k _ h;simp at h)).trans M2.out (by intro k _ h;exact h)).trans MS.out (by intro k h h2;simp at h2;omega))
theorem zddFound_c {w:World} {b n:Nat} {L:List Rc} {room:Nat} {F:List Nat} (h:IsSt w b n L room F) (hL:L.length≤100000) (hroom:L.length < room) (hrm:room≤1048576) (hn:n≤16) (r:Rc) (hR:RightR r n)
 (hlo:LeadsP L r.f r.lo (r.bot+1) n) (hhi:LeadsP L r.f r.hi (r.bot+1) n):
 Calls Tryz.prog 140 #[.pointer (some ⟨b,0,none⟩),rcv r] w fun e w'=>e=.returned (.tuple #[edv ⟨0,(fnd L r).2⟩,.int .u8 0])∧∃F',IsSt w' b n (fnd L r).1 room F'∧Mod F w w'∧∀k∈F',k∈F∨w.heap.size≤k:=by
 have FN:Hid (∀W,Mod [] w W→_):=fun W m=>stFind_c (h.mod m (by simp)) hL hroom hrm hn r hR hlo hhi
 have hlt:=h.lt
 clear h hlo hhi hR
 generalize (fnd L r).2=id at *
 generalize (fnd L r).1=L2 at *
 obtain ⟨kf,kt,kb,⟨klt,kla⟩,⟨kht,kha⟩⟩:=r
 unfold rcv edv at *
 simp only at FN ⊢
 obtain ⟨gk,hgk⟩:∃gk,w.heap.size=gk:=⟨_,rfl⟩
 have HLT:Hid (∀k∈F,k < gk):=fun k hk=>by have:=hlt k hk;omega
 clear hlt
 go_enter Tryz.func140,Tryz.ntmps140
 go_wp2_with fail
 have BK:=Blk.new' w #[.int .u8 kf,.int .u8 kt,.int .u8 kb,.int .u8 klt,.int .u32 kla,.int .u8 kht,.int .u32 kha] 108 gk hgk.symm
 have BR:=Blk.new' (w.alloc (.cells #[.int .u8 kf,.int .u8 kt,.int .u8 kb,.int .u8 klt,.int .u32 kla,.int .u8 kht,.int .u32 kha] 108)) #[.int .u8 0,.int .u32 0] 66 (gk+1) (by simp [hgk])
 have BK:=BK.alloc (.cells #[.int .u8 0,.int .u32 0] 66)
 have M0:Hid (Mod [] w ((w.alloc (.cells #[.int .u8 kf,.int .u8 kt,.int .u8 kb,.int .u8 klt,.int .u32 kla,.int .u8 kht,.int .u32 kha] 108)).alloc (.cells #[.int .u8 0,.int .u32 0] 66))):=by exact mods
 have hsz:((w.alloc (.cells #[.int .u8 kf,.int .u8 kt,.int .u8 kb,.int .u8 klt,.int .u32 kla,.int .u8 kht,.int .u32 kha] 108)).alloc (.cells #[.int .u8 0,.int .u32 0] 66)).heap.size=gk+2:=by simp [hgk]
 generalize (w.alloc (.cells #[.int .u8 kf,.int .u8 kt,.int .u8 kb,.int .u8 klt,.int .u32 kla,.int .u8 kht,.int .u32 kha] 108)).alloc (.cells #[.int .u8 0,.int .u32 0] 66)=w0 at *
 refine (FN.out _ M0.out).mono ?_
 rintro e w2 ⟨rfl,F2,s2,m2,f2⟩
 have BK:=BK.mod m2 (fun h=>by have:=HLT.out _ h;omega)
 have BR:=BR.mod m2 (fun h=>by have:=HLT.out _ h;omega)
 obtain ⟨q0,q1,q2,q3,q4,q5,q6⟩:=BK.cells7
 obtain ⟨e0,e1⟩:=BR.cells2
 obtain ⟨f0,f1,-⟩:=BR.frozs
 have BR:=Lib.hid BR
 have S2:=Lib.hid s2
 have M2:=Lib.hid m2
 have F2':=Lib.hid f2
 have gn1:¬gk=gk+1:=by omega
 have gn2:¬gk+1=gk:=by omega
 clear BK s2 m2 f2 FN
 go_wp2_with fail
 have BX:=set2_blk BR.out ⟨0,id⟩
 obtain ⟨g0,g1⟩:=BX.cells2
 have MS:=Lib.hid (set2_mod (Mod.refl [gk+1] w2) (gk+1) ⟨0,id⟩ (fun _=>by simp))
 change bodyPost _ _ _ _ _ (set2 w2 (gk+1) ⟨0,id⟩)
 generalize set2 w2 (gk+1) ⟨0,id⟩=X at *
 clear q0 q1 q2 q3 q4 q5 q6 e0 e1 f0 f1 BX
 simp only at g0 g1
 refine bodyPost_ret (by simp [results,Tryz.results140,g0,g1,go_sem];try rfl) rfl ?_
 have hF2:∀k∈F2,k∈F∨gk+2≤k:=fun k hk=>(F2'.out k hk).imp (fun h=>h) (fun h=>by omega)
 have hFg:gk+1∉F:=fun h=>by have:=HLT.out _ h;omega
 refine ⟨rfl,F2,S2.out.mod MS.out (fun k hk=>?_),?_,fun k hk=>(hF2 k hk).imp (fun h=>h) (fun h=>by omega)⟩
 ·simp;rintro rfl;rcases hF2 _ hk with h | h;exact hFg h;omega
 ·exact (((M0.out.mono (by intro k _ h;simp at h)).trans M2.out (by intro k _ h;exact h)).trans MS.out (by intro k h h2;simp at h2;omega))
theorem cbddFound_c {w:World} {b n:Nat} {L:List Rc} {room:Nat} {F:List Nat} (h:IsSt w b n L room F) (hL:L.length≤100000) (hroom:L.length < room) (hrm:room≤1048576) (hn:n≤16) (r:Rc) (hR:RightR r n)
 (hlo:LeadsP L r.f r.lo (r.bot+1) n) (hhi:LeadsP L r.f r.hi (r.bot+1) n):
 Calls Tryz.prog 141 #[.pointer (some ⟨b,0,none⟩),rcv r] w fun e w'=>e=.returned (.tuple #[edv ⟨0,(fnd L r).2⟩,.int .u8 0])∧∃F',IsSt w' b n (fnd L r).1 room F'∧Mod F w w'∧∀k∈F',k∈F∨w.heap.size≤k:=by
 have FN:Hid (∀W,Mod [] w W→_):=fun W m=>stFind_c (h.mod m (by simp)) hL hroom hrm hn r hR hlo hhi
 have hlt:=h.lt
 clear h hlo hhi hR
 generalize (fnd L r).2=id at *
 generalize (fnd L r).1=L2 at *
 obtain ⟨kf,kt,kb,⟨klt,kla⟩,⟨kht,kha⟩⟩:=r
 unfold rcv edv at *
 simp only at FN ⊢
 obtain ⟨gk,hgk⟩:∃gk,w.heap.size=gk:=⟨_,rfl⟩
 have HLT:Hid (∀k∈F,k < gk):=fun k hk=>by have:=hlt k hk;omega
 clear hlt
 go_enter Tryz.func141,Tryz.ntmps141
 go_wp2_with fail
 have BK:=Blk.new' w #[.int .u8 kf,.int .u8 kt,.int .u8 kb,.int .u8 klt,.int .u32 kla,.int .u8 kht,.int .u32 kha] 108 gk hgk.symm
 have BR:=Blk.new' (w.alloc (.cells #[.int .u8 kf,.int .u8 kt,.int .u8 kb,.int .u8 klt,.int .u32 kla,.int .u8 kht,.int .u32 kha] 108)) #[.int .u8 0,.int .u32 0] 66 (gk+1) (by simp [hgk])
 have BK:=BK.alloc (.cells #[.int .u8 0,.int .u32 0] 66)
 have M0:Hid (Mod [] w ((w.alloc (.cells #[.int .u8 kf,.int .u8 kt,.int .u8 kb,.int .u8 klt,.int .u32 kla,.int .u8 kht,.int .u32 kha] 108)).alloc (.cells #[.int .u8 0,.int .u32 0] 66))):=by exact mods
 have hsz:((w.alloc (.cells #[.int .u8 kf,.int .u8 kt,.int .u8 kb,.int .u8 klt,.int .u32 kla,.int .u8 kht,.int .u32 kha] 108)).alloc (.cells #[.int .u8 0,.int .u32 0] 66)).heap.size=gk+2:=by simp [hgk]
 generalize (w.alloc (.cells #[.int .u8 kf,.int .u8 kt,.int .u8 kb,.int .u8 klt,.int .u32 kla,.int .u8 kht,.int .u32 kha] 108)).alloc (.cells #[.int .u8 0,.int .u32 0] 66)=w0 at *
 refine (FN.out _ M0.out).mono ?_
 rintro e w2 ⟨rfl,F2,s2,m2,f2⟩
 have BK:=BK.mod m2 (fun h=>by have:=HLT.out _ h;omega)
 have BR:=BR.mod m2 (fun h=>by have:=HLT.out _ h;omega)
 obtain ⟨q0,q1,q2,q3,q4,q5,q6⟩:=BK.cells7
 obtain ⟨e0,e1⟩:=BR.cells2
 obtain ⟨f0,f1,-⟩:=BR.frozs
 have BR:=Lib.hid BR
 have S2:=Lib.hid s2
 have M2:=Lib.hid m2
 have F2':=Lib.hid f2
 have gn1:¬gk=gk+1:=by omega
 have gn2:¬gk+1=gk:=by omega
 clear BK s2 m2 f2 FN
 go_wp2_with fail
 have BX:=set2_blk BR.out ⟨0,id⟩
 obtain ⟨g0,g1⟩:=BX.cells2
 have MS:=Lib.hid (set2_mod (Mod.refl [gk+1] w2) (gk+1) ⟨0,id⟩ (fun _=>by simp))
 change bodyPost _ _ _ _ _ (set2 w2 (gk+1) ⟨0,id⟩)
 generalize set2 w2 (gk+1) ⟨0,id⟩=X at *
 clear q0 q1 q2 q3 q4 q5 q6 e0 e1 f0 f1 BX
 simp only at g0 g1
 refine bodyPost_ret (by simp [results,Tryz.results141,g0,g1,go_sem];try rfl) rfl ?_
 have hF2:∀k∈F2,k∈F∨gk+2≤k:=fun k hk=>(F2'.out k hk).imp (fun h=>h) (fun h=>by omega)
 have hFg:gk+1∉F:=fun h=>by have:=HLT.out _ h;omega
 refine ⟨rfl,F2,S2.out.mod MS.out (fun k hk=>?_),?_,fun k hk=>(hF2 k hk).imp (fun h=>h) (fun h=>by omega)⟩
 ·simp;rintro rfl;rcases hF2 _ hk with h | h;exact hFg h;omega
 ·exact (((M0.out.mono (by intro k _ h;simp at h)).trans M2.out (by intro k _ h;exact h)).trans MS.out (by intro k h h2;simp at h2;omega))
theorem czddFound_c {w:World} {b n:Nat} {L:List Rc} {room:Nat} {F:List Nat} (h:IsSt w b n L room F) (hL:L.length≤100000) (hroom:L.length < room) (hrm:room≤1048576) (hn:n≤16) (r:Rc) (hR:RightR r n)
 (hlo:LeadsP L r.f r.lo (r.bot+1) n) (hhi:LeadsP L r.f r.hi (r.bot+1) n):
 Calls Tryz.prog 142 #[.pointer (some ⟨b,0,none⟩),rcv r] w fun e w'=>e=.returned (.tuple #[edv ⟨0,(fnd L r).2⟩,.int .u8 0])∧∃F',IsSt w' b n (fnd L r).1 room F'∧Mod F w w'∧∀k∈F',k∈F∨w.heap.size≤k:=by
 have FN:Hid (∀W,Mod [] w W→_):=fun W m=>stFind_c (h.mod m (by simp)) hL hroom hrm hn r hR hlo hhi
 have hlt:=h.lt
 clear h hlo hhi hR
 generalize (fnd L r).2=id at *
 generalize (fnd L r).1=L2 at *
 obtain ⟨kf,kt,kb,⟨klt,kla⟩,⟨kht,kha⟩⟩:=r
 unfold rcv edv at *
 simp only at FN ⊢
 obtain ⟨gk,hgk⟩:∃gk,w.heap.size=gk:=⟨_,rfl⟩
 have HLT:Hid (∀k∈F,k < gk):=fun k hk=>by have:=hlt k hk;omega
 clear hlt
 go_enter Tryz.func142,Tryz.ntmps142
 go_wp2_with fail
 have BK:=Blk.new' w #[.int .u8 kf,.int .u8 kt,.int .u8 kb,.int .u8 klt,.int .u32 kla,.int .u8 kht,.int .u32 kha] 108 gk hgk.symm
 have BR:=Blk.new' (w.alloc (.cells #[.int .u8 kf,.int .u8 kt,.int .u8 kb,.int .u8 klt,.int .u32 kla,.int .u8 kht,.int .u32 kha] 108)) #[.int .u8 0,.int .u32 0] 66 (gk+1) (by simp [hgk])
 have BK:=BK.alloc (.cells #[.int .u8 0,.int .u32 0] 66)
 have M0:Hid (Mod [] w ((w.alloc (.cells #[.int .u8 kf,.int .u8 kt,.int .u8 kb,.int .u8 klt,.int .u32 kla,.int .u8 kht,.int .u32 kha] 108)).alloc (.cells #[.int .u8 0,.int .u32 0] 66))):=by exact mods
 have hsz:((w.alloc (.cells #[.int .u8 kf,.int .u8 kt,.int .u8 kb,.int .u8 klt,.int .u32 kla,.int .u8 kht,.int .u32 kha] 108)).alloc (.cells #[.int .u8 0,.int .u32 0] 66)).heap.size=gk+2:=by simp [hgk]
 generalize (w.alloc (.cells #[.int .u8 kf,.int .u8 kt,.int .u8 kb,.int .u8 klt,.int .u32 kla,.int .u8 kht,.int .u32 kha] 108)).alloc (.cells #[.int .u8 0,.int .u32 0] 66)=w0 at *
 refine (FN.out _ M0.out).mono ?_
 rintro e w2 ⟨rfl,F2,s2,m2,f2⟩
 have BK:=BK.mod m2 (fun h=>by have:=HLT.out _ h;omega)
 have BR:=BR.mod m2 (fun h=>by have:=HLT.out _ h;omega)
 obtain ⟨q0,q1,q2,q3,q4,q5,q6⟩:=BK.cells7
 obtain ⟨e0,e1⟩:=BR.cells2
 obtain ⟨f0,f1,-⟩:=BR.frozs
 have BR:=Lib.hid BR
 have S2:=Lib.hid s2
 have M2:=Lib.hid m2
 have F2':=Lib.hid f2
 have gn1:¬gk=gk+1:=by omega
 have gn2:¬gk+1=gk:=by omega
 clear BK s2 m2 f2 FN
 go_wp2_with fail
 have BX:=set2_blk BR.out ⟨0,id⟩
 obtain ⟨g0,g1⟩:=BX.cells2
 have MS:=Lib.hid (set2_mod (Mod.refl [gk+1] w2) (gk+1) ⟨0,id⟩ (fun _=>by simp))
 change bodyPost _ _ _ _ _ (set2 w2 (gk+1) ⟨0,id⟩)
 generalize set2 w2 (gk+1) ⟨0,id⟩=X at *
 clear q0 q1 q2 q3 q4 q5 q6 e0 e1 f0 f1 BX
 simp only at g0 g1
 refine bodyPost_ret (by simp [results,Tryz.results142,g0,g1,go_sem];try rfl) rfl ?_
 have hF2:∀k∈F2,k∈F∨gk+2≤k:=fun k hk=>(F2'.out k hk).imp (fun h=>h) (fun h=>by omega)
 have hFg:gk+1∉F:=fun h=>by have:=HLT.out _ h;omega
 refine ⟨rfl,F2,S2.out.mod MS.out (fun k hk=>?_),?_,fun k hk=>(hF2 k hk).imp (fun h=>h) (fun h=>by omega)⟩
 ·simp;rintro rfl;rcases hF2 _ hk with h | h;exact hFg h;omega
 ·exact (((M0.out.mono (by intro k _ h;simp at h)).trans M2.out (by intro k _ h;exact h)).trans MS.out (by intro k h h2;simp at h2;omega))
theorem tbddFound_c {w:World} {b n:Nat} {L:List Rc} {room:Nat} {F:List Nat} (h:IsSt w b n L room F) (hL:L.length≤100000) (hroom:L.length < room) (hrm:room≤1048576) (hn:n≤16) (r:Rc) (hR:RightR r n)
 (hlo:LeadsP L r.f r.lo (r.bot+1) n) (hhi:LeadsP L r.f r.hi (r.bot+1) n):
 Calls Tryz.prog 143 #[.pointer (some ⟨b,0,none⟩),rcv r] w fun e w'=>e=.returned (.tuple #[edv ⟨r.top,(fnd L r).2⟩,.int .u8 0])∧∃F',IsSt w' b n (fnd L r).1 room F'∧Mod F w w'∧∀k∈F',k∈F∨w.heap.size≤k:=by
 have FN:Hid (∀W,Mod [] w W→_):=fun W m=>stFind_c (h.mod m (by simp)) hL hroom hrm hn r hR hlo hhi
 have hlt:=h.lt
 clear h hlo hhi hR
 generalize (fnd L r).2=id at *
 generalize (fnd L r).1=L2 at *
 obtain ⟨kf,kt,kb,⟨klt,kla⟩,⟨kht,kha⟩⟩:=r
 unfold rcv edv at *
 simp only at FN ⊢
 obtain ⟨gk,hgk⟩:∃gk,w.heap.size=gk:=⟨_,rfl⟩
 have HLT:Hid (∀k∈F,k < gk):=fun k hk=>by have:=hlt k hk;omega
 clear hlt
 go_enter Tryz.func143,Tryz.ntmps143
 go_wp2_with fail
 have BK:=Blk.new' w #[.int .u8 kf,.int .u8 kt,.int .u8 kb,.int .u8 klt,.int .u32 kla,.int .u8 kht,.int .u32 kha] 108 gk hgk.symm
 have BR:=Blk.new' (w.alloc (.cells #[.int .u8 kf,.int .u8 kt,.int .u8 kb,.int .u8 klt,.int .u32 kla,.int .u8 kht,.int .u32 kha] 108)) #[.int .u8 0,.int .u32 0] 66 (gk+1) (by simp [hgk])
 have BK:=BK.alloc (.cells #[.int .u8 0,.int .u32 0] 66)
 have M0:Hid (Mod [] w ((w.alloc (.cells #[.int .u8 kf,.int .u8 kt,.int .u8 kb,.int .u8 klt,.int .u32 kla,.int .u8 kht,.int .u32 kha] 108)).alloc (.cells #[.int .u8 0,.int .u32 0] 66))):=by exact mods
 have hsz:((w.alloc (.cells #[.int .u8 kf,.int .u8 kt,.int .u8 kb,.int .u8 klt,.int .u32 kla,.int .u8 kht,.int .u32 kha] 108)).alloc (.cells #[.int .u8 0,.int .u32 0] 66)).heap.size=gk+2:=by simp [hgk]
 generalize (w.alloc (.cells #[.int .u8 kf,.int .u8 kt,.int .u8 kb,.int .u8 klt,.int .u32 kla,.int .u8 kht,.int .u32 kha] 108)).alloc (.cells #[.int .u8 0,.int .u32 0] 66)=w0 at *
 refine (FN.out _ M0.out).mono ?_
 rintro e w2 ⟨rfl,F2,s2,m2,f2⟩
 have BK:=BK.mod m2 (fun h=>by have:=HLT.out _ h;omega)
 have BR:=BR.mod m2 (fun h=>by have:=HLT.out _ h;omega)
 obtain ⟨q0,q1,q2,q3,q4,q5,q6⟩:=BK.cells7
 obtain ⟨e0,e1⟩:=BR.cells2
 obtain ⟨f0,f1,-⟩:=BR.frozs
 have BR:=Lib.hid BR
 have S2:=Lib.hid s2
 have M2:=Lib.hid m2
 have F2':=Lib.hid f2
 have gn1:¬gk=gk+1:=by omega
 have gn2:¬gk+1=gk:=by omega
 clear BK s2 m2 f2 FN
 go_wp2_with fail
 have BX:=set2_blk BR.out ⟨kt,id⟩
 obtain ⟨g0,g1⟩:=BX.cells2
 have MS:=Lib.hid (set2_mod (Mod.refl [gk+1] w2) (gk+1) ⟨kt,id⟩ (fun _=>by simp))
 change bodyPost _ _ _ _ _ (set2 w2 (gk+1) ⟨kt,id⟩)
 generalize set2 w2 (gk+1) ⟨kt,id⟩=X at *
 clear q0 q1 q2 q3 q4 q5 q6 e0 e1 f0 f1 BX
 simp only at g0 g1
 refine bodyPost_ret (by simp [results,Tryz.results143,g0,g1,go_sem];try rfl) rfl ?_
 have hF2:∀k∈F2,k∈F∨gk+2≤k:=fun k hk=>(F2'.out k hk).imp (fun h=>h) (fun h=>by omega)
 have hFg:gk+1∉F:=fun h=>by have:=HLT.out _ h;omega
 refine ⟨rfl,F2,S2.out.mod MS.out (fun k hk=>?_),?_,fun k hk=>(hF2 k hk).imp (fun h=>h) (fun h=>by omega)⟩
 ·simp;rintro rfl;rcases hF2 _ hk with h | h;exact hFg h;omega
 ·exact (((M0.out.mono (by intro k _ h;simp at h)).trans M2.out (by intro k _ h;exact h)).trans MS.out (by intro k h h2;simp at h2;omega))
open Go.RowKit
structure GoodR (L:List Rc) (n:Nat) (r:Rc):Prop where
 right:RightR r n
 lo:LeadsP L r.f r.lo (r.bot+1) n
 hi:LeadsP L r.f r.hi (r.bot+1) n
def Good (L:List Rc) (n:Nat):Prop:=∀id r,recAt L id=some r→GoodR L n r
theorem GoodR.grow {L:List Rc} {n:Nat} {r:Rc} (h:GoodR L n r) (L2:List Rc):GoodR (L++L2) n r:=⟨h.right,h.lo.grow L2,h.hi.grow L2⟩
theorem Good.fnd {L:List Rc} {n:Nat} (h:Good L n) {r:Rc} (hr:GoodR L n r):Good (fnd L r).1 n:=by
 unfold Go.Proofs.YtlafpknoiihaaaaGreatDoor.fnd
 split
 ·exact h
 ·intro id x hx
  rcases recAt_snoc hx with ⟨rfl,_⟩ | h2
  ·exact hr.grow _
  ·exact (h id x h2).grow _
theorem Good.nil (n:Nat):Good [] n:=fun id r h=>by have:=recAt_lt h;simp at this
def recP (L:List Rc) (f l:Nat) (lo hi:Ed):Rc:=
 match recAt L lo.a with
 | some x=>if f=3∧x.top=l+1∧x.hi=hi then ⟨3,l,x.bot,x.lo,hi⟩
  else if f=4∧lo=hi∧x.top=l+1 then ⟨4,l,x.bot,x.lo,x.hi⟩ else ⟨f,l,l,lo,hi⟩
 | none=>⟨f,l,l,lo,hi⟩
def shortP (f l:Nat) (lo hi:Ed):Option Ed:=
 if f=2∨f=4 then (if hi.a=0 then some lo else none)
 else if lo=hi then some lo else if f=5∧hi.a=0∧lo.t=l+1 then some ⟨l,lo.a⟩ else none
def mkP (L:List Rc) (f l:Nat) (lo hi:Ed):List Rc × Ed:=
 match shortP f l lo hi with
 | some e=>(L,e)
 | none=>((fnd L (recP L f l lo hi)).1,⟨if f=5 then l else 0,(fnd L (recP L f l lo hi)).2⟩)
theorem LeadsP.node {L:List Rc} {f:Nat} {e:Ed} {l n:Nat} (h:LeadsP L f e l n) {x:Rc} (hx:recAt L e.a=some x):x.f=f∧l≤x.top∧e.t≤x.top∧x.top≤16:=by
 rcases h.at_ with h0 | ⟨r,hr,h1,h2,h3,h4⟩
 ·have:=recAt_lt hx;omega
 ·rw [hr] at hx;simp at hx;subst hx;exact ⟨h1,h2,h3,h4⟩
theorem PlainE.up {f:Nat} {e:Ed} {l l' n:Nat} (h:PlainE f e l n) (hl:l'≤l):PlainE f e l' n:=⟨h.1,fun a b=>⟨Nat.le_trans hl (h.2 a b).1,(h.2 a b).2⟩⟩
theorem LeadsP.up {L:List Rc} {f:Nat} {e:Ed} {l l' n:Nat} (h:LeadsP L f e l n) (hl:l'≤l):LeadsP L f e l' n:=
 ⟨h.plain.up hl,h.at_.imp (fun h=>h) (fun ⟨r,h1,h2,h3,h4⟩=>⟨r,h1,h2,Nat.le_trans hl h3,h4⟩)⟩
theorem recP_top (L:List Rc) (f l:Nat) (lo hi:Ed):(recP L f l lo hi).top=l∧(recP L f l lo hi).f=f:=by
 unfold recP
 split
 ·split
  ·rename_i h;exact ⟨rfl,h.1.symm⟩
  ·split
   ·rename_i h;exact ⟨rfl,h.1.symm⟩
   ·exact ⟨rfl,rfl⟩
 ·exact ⟨rfl,rfl⟩
theorem recP_good {L:List Rc} {n f l:Nat} {lo hi:Ed} (hG:Good L n) (h1:1≤f) (h5:f≤5) (hl:l < n) (hn:n≤16) (hlo:LeadsP L f lo (l+1) n) (hhi:LeadsP L f hi (l+1) n) (hs:shortP f l lo hi=none):GoodR L n (recP L f l lo hi):=by
 have base:GoodR L n ⟨f,l,l,lo,hi⟩:=by
  refine ⟨⟨h1,h5,Nat.le_refl _,hl,hn,.inl rfl,hlo.plain,hhi.plain,?_,?_⟩,hlo,hhi⟩
  ·intro hf;unfold shortP at hs;rw [if_pos hf] at hs;intro h0;rw [if_pos h0] at hs;simp at hs
  ·intro hf hf2;unfold shortP at hs;rw [if_neg (by simp;exact ⟨hf,hf2⟩)] at hs;intro h0;simp only at h0;rw [if_pos h0] at hs;simp at hs
 unfold recP
 split
 ·rename_i x hx
  have hg:=hG _ _ hx
  have hr:=hlo.node hx
  have hb:=hg.right.tb
  split
  ·rename_i h
   obtain ⟨rfl,ht,rfl⟩:=h
   have e3:x.f=3:=hr.1
   have hh:=hg.hi
   have hl2:=hg.lo
   have r1:=hg.right
   rw [e3] at hh hl2
   refine ⟨⟨by omega,by omega,by simp only;omega,r1.bn,hn,.inr (.inl rfl),hl2.plain,hh.plain,by simp,fun _ _=>?_⟩,hl2,hh⟩
   exact r1.b (by omega) (by omega)
  ·split
   ·rename_i h
    obtain ⟨rfl,rfl,ht⟩:=h
    have e3:x.f=4:=hr.1
    have hh:=hg.hi
    have hl2:=hg.lo
    have r1:=hg.right
    rw [e3] at hh hl2
    exact ⟨⟨by omega,by omega,by simp only;omega,r1.bn,hn,.inr (.inr rfl),hl2.plain,hh.plain,fun _=>r1.z (.inr e3),by simp⟩,hl2,hh⟩
   ·exact base
 ·exact base
theorem mkP_good {L:List Rc} {n f l:Nat} {lo hi:Ed} (hG:Good L n) (h1:1≤f) (h5:f≤5) (hl:l < n) (hn:n≤16) (hlo:LeadsP L f lo (l+1) n) (hhi:LeadsP L f hi (l+1) n):
 Good (mkP L f l lo hi).1 n∧LeadsP (mkP L f l lo hi).1 f (mkP L f l lo hi).2 l n∧(∃L2,(mkP L f l lo hi).1=L++L2)∧(mkP L f l lo hi).1.length≤L.length+1:=by
 unfold mkP
 cases hs:shortP f l lo hi with
 | some e=>
  refine ⟨hG,?_,⟨[],by simp⟩,by simp⟩
  simp only
  unfold shortP at hs
  split at hs
  ·split at hs
   ·simp at hs;subst hs;exact hlo.up (by omega)
   ·simp at hs
  ·split at hs
   ·simp at hs;subst hs;exact hlo.up (by omega)
   ·split at hs
    ·rename_i h
     obtain ⟨rfl,h0,ht⟩:=h
     simp at hs;subst hs
     have hp:=hlo.plain
     have ha:lo.a≠0:=fun h=>by have:=hp.1 (.inr h);omega
     refine ⟨⟨fun h=>by simp at h;exact absurd h ha,fun _ _=>⟨Nat.le_refl _,by simp only;omega⟩⟩,?_⟩
     rcases hlo.at_ with h | ⟨r,hr,h1,h2,h3,h4⟩
     ·exact .inl h
     ·exact .inr ⟨r,hr,h1,by omega,by simp only;omega,h4⟩
    ·simp at hs
 | none=>
  have hr:=recP_good hG h1 h5 hl hn hlo hhi hs
  have ht:=recP_top L f l lo hi
  generalize recP L f l lo hi=r at *
  have hid:=fnd_at L r
  have hlt:=(recAt_lt hid).1
  refine ⟨hG.fnd hr,⟨⟨?_,?_⟩,.inr ⟨r,hid,ht.2,by omega,?_,by omega⟩⟩,fnd_grow L r,fnd_len L r⟩
  ·simp only
   intro h
   split
   ·omega
   ·rfl
  ·intro h _;simp only;rw [if_pos h];omega
  ·simp only;split<;>omega
open Go.RowKit
theorem bddMake_c {w:World} {b n:Nat} {L:List Rc} {room:Nat} {F:List Nat} (h:IsSt w b n L room F) (hL:L.length≤100000) (hroom:L.length < room) (hrm:room≤1048576) (hn:n≤16) (hG:Good L n) (l:Nat) (hl:l < n) (lo hi:Ed)
 (hlo:LeadsP L 1 lo (l+1) n) (hhi:LeadsP L 1 hi (l+1) n):
 Calls Tryz.prog 116 #[.pointer (some ⟨b,0,none⟩),.int .i64 l,edv lo,edv hi] w fun e w'=>e=.returned (.tuple #[edv (mkP L 1 l lo hi).2,.int .u8 0])∧∃F',IsSt w' b n (mkP L 1 l lo hi).1 room F'∧Mod F w w'∧∀k∈F',k∈F∨w.heap.size≤k:=by
 have LO:Hid (∀W,Mod [] w W→_):=fun W m=>stLeads_c (h.mod m (by simp)) (by omega) hn 1 (by omega) (by omega) lo (l+1) (by omega) hlo
 have LH:Hid (∀W,Mod [] w W→_):=fun W m=>stLeads_c (h.mod m (by simp)) (by omega) hn 1 (by omega) (by omega) hi (l+1) (by omega) hhi
 have hbF:=h.lt
 obtain ⟨ba,bi,Fa,c0,-,-,-⟩:=h.own
 have hbl:=World.block_lt_of_cell? w _ c0
 simp only at hbl
 have HS:=Lib.hid h
 have hl':(l:Int) < n:=by omega
 have e1:((l+1:Nat):Int)=(l:Int)+1:=by omega
 rw [e1] at LO LH
 clear h e1
 obtain ⟨gk,hgk⟩:∃gk,w.heap.size=gk:=⟨_,rfl⟩
 have HLT:Hid (∀k∈F,k < gk):=fun k hk=>by have:=hbF k hk;omega
 have HLO:=Lib.hid hlo
 have HLH:=Lib.hid hhi
 have HG:=Lib.hid hG
 clear hbF hlo hhi hG
 obtain ⟨lt,la⟩:=lo
 obtain ⟨ht,ha⟩:=hi
 unfold edv at *
 simp only at LO LH ⊢
 have gn1:¬b=gk:=by omega
 have gn2:¬gk=b:=by omega
 have gn3:¬b=gk+1:=by omega
 have gn4:¬gk+1=b:=by omega
 have gn5:¬b=gk+1+1:=by omega
 have gn6:¬gk+1+1=b:=by omega
 go_enter Tryz.func116,Tryz.ntmps116
 go_wp2_with fail
 have BL:=Blk.new' w #[.int .u8 lt,.int .u32 la] 66 gk hgk.symm
 have BH:=Blk.new' (w.alloc (.cells #[.int .u8 lt,.int .u32 la] 66)) #[.int .u8 ht,.int .u32 ha] 66 (gk+1) (by simp [hgk])
 have BR:=Blk.new' ((w.alloc (.cells #[.int .u8 lt,.int .u32 la] 66)).alloc (.cells #[.int .u8 ht,.int .u32 ha] 66)) #[.int .u8 0,.int .u32 0] 66 (gk+1+1) (by simp [hgk])
 have BL:=(BL.alloc (.cells #[.int .u8 ht,.int .u32 ha] 66)).alloc (.cells #[.int .u8 0,.int .u32 0] 66)
 have BH:=BH.alloc (.cells #[.int .u8 0,.int .u32 0] 66)
 have M0:Hid (Mod [] w (((w.alloc (.cells #[.int .u8 lt,.int .u32 la] 66)).alloc (.cells #[.int .u8 ht,.int .u32 ha] 66)).alloc (.cells #[.int .u8 0,.int .u32 0] 66))):=by exact mods
 have hsz:(((w.alloc (.cells #[.int .u8 lt,.int .u32 la] 66)).alloc (.cells #[.int .u8 ht,.int .u32 ha] 66)).alloc (.cells #[.int .u8 0,.int .u32 0] 66)).heap.size=gk+3:=by simp [hgk]
 have c0:=(M0.out.cell (a:=⟨b,0,none⟩) hbl (by simp)).trans c0
 generalize ((w.alloc (.cells #[.int .u8 lt,.int .u32 la] 66)).alloc (.cells #[.int .u8 ht,.int .u32 ha] 66)).alloc (.cells #[.int .u8 0,.int .u32 0] 66)=w0 at *
 have hb0:b < w0.heap.size:=by omega
 have hk0:gk < w0.heap.size:=by omega
 have hk1:gk+1 < w0.heap.size:=by omega
 obtain ⟨q0,q1⟩:=BL.cells2
 obtain ⟨p0,p1⟩:=BH.cells2
 have BL:=Lib.hid BL
 have BH:=Lib.hid BH
 have BR:=Lib.hid BR
 refine (stVars_c b n _ c0).mono ?_
 rintro e w1 ⟨rfl,rfl⟩
 go_wp2_with fail
 refine (LO.out _ M0.out).mono ?_;rintro e' wa ⟨rfl,m_wa⟩;have M_wa:=Mod.trans' (show Mod _ w1 _ from by exact mods) m_wa;have c0:=(M_wa.cell (a:=⟨b,0,none⟩) hb0 (by first | assumption | (simp;done))).trans c0;have q0:=(M_wa.cell (a:=⟨gk,0,none⟩) hk0 (by first | assumption | (simp;done))).trans q0;have q1:=(M_wa.cell (a:=⟨gk,1,none⟩) hk0 (by first | assumption | (simp;done))).trans q1;have p0:=(M_wa.cell (a:=⟨gk+1,0,none⟩) hk1 (by first | assumption | (simp;done))).trans p0;have p1:=(M_wa.cell (a:=⟨gk+1,1,none⟩) hk1 (by first | assumption | (simp;done))).trans p1;have hb0:=Nat.lt_of_lt_of_le hb0 M_wa.size;have hk0:=Nat.lt_of_lt_of_le hk0 M_wa.size;have hk1:=Nat.lt_of_lt_of_le hk1 M_wa.size
 have M1:=Lib.hid (M0.out.trans' M_wa)
 go_wp2_with fail
 refine (LH.out _ M1.out).mono ?_;rintro e' wb ⟨rfl,m_wb⟩;have M_wb:=Mod.trans' (show Mod _ wa _ from by exact mods) m_wb;have c0:=(M_wb.cell (a:=⟨b,0,none⟩) hb0 (by first | assumption | (simp;done))).trans c0;have q0:=(M_wb.cell (a:=⟨gk,0,none⟩) hk0 (by first | assumption | (simp;done))).trans q0;have q1:=(M_wb.cell (a:=⟨gk,1,none⟩) hk0 (by first | assumption | (simp;done))).trans q1;have p0:=(M_wb.cell (a:=⟨gk+1,0,none⟩) hk1 (by first | assumption | (simp;done))).trans p0;have p1:=(M_wb.cell (a:=⟨gk+1,1,none⟩) hk1 (by first | assumption | (simp;done))).trans p1;have hb0:=Nat.lt_of_lt_of_le hb0 M_wb.size;have hk0:=Nat.lt_of_lt_of_le hk0 M_wb.size;have hk1:=Nat.lt_of_lt_of_le hk1 M_wb.size
 have M2:=Lib.hid (M1.out.trans' M_wb)
 replace BL:=Lib.hid ((BL.out.mod M_wa (by simp)).mod M_wb (by simp))
 replace BH:=Lib.hid ((BH.out.mod M_wa (by simp)).mod M_wb (by simp))
 replace BR:=Lib.hid ((BR.out.mod M_wa (by simp)).mod M_wb (by simp))
 clear m_wa m_wb M_wa M_wb M0 M1 LO LH
 obtain ⟨e0,e1⟩:=BR.out.cells2
 obtain ⟨f0,f1,-⟩:=BR.out.frozs
 have hl16:(l:Int)≤16:=by omega
 have hFg:gk+1+1∉F:=fun h=>by have:=HLT.out _ h;omega
 by_cases heq:(⟨lt,la⟩:Ed)=⟨ht,ha⟩
 ·have hmk:mkP L 1 l ⟨lt,la⟩ ⟨ht,ha⟩=(L,⟨lt,la⟩):=by unfold mkP shortP;simp [heq]
  have hmk:=Lib.hid hmk
  simp at heq
  obtain ⟨rfl,rfl⟩:=heq
  go_wp2_with fail
  have BX:=set2_blk BR.out ⟨lt,la⟩
  obtain ⟨g0,g1⟩:=BX.cells2
  have MS:=Lib.hid (set2_mod (Mod.refl [gk+1+1] wb) (gk+1+1) ⟨lt,la⟩ (fun _=>by simp))
  change bodyPost _ _ _ _ _ (set2 wb (gk+1+1) ⟨lt,la⟩)
  generalize set2 wb (gk+1+1) ⟨lt,la⟩=X at *
  clear c0 q0 q1 p0 p1 e0 e1 f0 f1 BX
  simp only at g0 g1
  refine bodyPost_ret (by simp [results,Tryz.results116,g0,g1,go_sem];try rfl) rfl ?_
  rw [hmk.out]
  exact ⟨rfl,F,(HS.out.mod M2.out (by simp)).mod MS.out (fun k hk=>by simp;rintro rfl;exact hFg hk),(M2.out.mono (by intro k _ h;simp at h)).trans MS.out (by intro k h h2;simp at h2;omega),fun k hk=>.inl hk⟩
 ·have EQ:=fun w=>(eqIn_ed 9998 ⟨lt,la⟩ ⟨ht,ha⟩ w).trans (by rw [decide_eq_false heq])
  unfold edv at EQ
  simp only at EQ
  have hs:shortP 1 l ⟨lt,la⟩ ⟨ht,ha⟩=none:=by unfold shortP;simp only [if_neg (show ¬((1:Nat)=2∨(1:Nat)=4) by omega),if_neg heq];simp
  have hr:recP L 1 l ⟨lt,la⟩ ⟨ht,ha⟩=⟨1,l,l,⟨lt,la⟩,⟨ht,ha⟩⟩:=by unfold recP;split<;>simp
  clear heq
  have hg:=recP_good HG.out (by omega) (by omega) hl hn HLO.out HLH.out hs
  have hmk:mkP L 1 l ⟨lt,la⟩ ⟨ht,ha⟩=((fnd L ⟨1,l,l,⟨lt,la⟩,⟨ht,ha⟩⟩).1,⟨0,(fnd L ⟨1,l,l,⟨lt,la⟩,⟨ht,ha⟩⟩).2⟩):=by unfold mkP;rw [hs,hr];rfl
  have hmk:=Lib.hid hmk
  rw [hr] at hg
  have FN:Hid (∀W,Mod [] w W→_):=fun W m=>bddFound_c (HS.out.mod m (by simp)) hL hroom hrm hn ⟨1,l,l,⟨lt,la⟩,⟨ht,ha⟩⟩ hg.right hg.lo hg.hi
  clear hs hr hg
  generalize (fnd L ⟨1,l,l,⟨lt,la⟩,⟨ht,ha⟩⟩).2=id at *
  generalize (fnd L ⟨1,l,l,⟨lt,la⟩,⟨ht,ha⟩⟩).1=L2 at *
  unfold rcv edv at FN
  simp only at FN
  go_wp2_with fail
  refine (FN.out _ M2.out).mono ?_;rintro e' w3 ⟨rfl,F3,s3,m_w3,f3⟩;have M_w3:=Mod.trans' (show Mod _ wb _ from by exact mods) m_w3
  have hsb:=M2.out.size
  have hk2:=BR.out.lt
  replace BR:=BR.out.mod M_w3 hFg
  obtain ⟨e0,e1⟩:=BR.cells2
  obtain ⟨f0,f1,-⟩:=BR.frozs
  have S3:=Lib.hid s3
  have F3':=Lib.hid f3
  replace M2:=Lib.hid ((M2.out.mono (S':=F) (by intro k _ h;simp at h)).trans M_w3 (by intro k _ h;exact h))
  have BR:=Lib.hid BR
  clear FN s3 f3 m_w3 M_w3 c0 q0 q1 p0 p1 BL BH EQ
  go_wp2_with fail
  have BX:=set2_blk BR.out ⟨0,id⟩
  obtain ⟨g0,g1⟩:=BX.cells2
  have MS:=Lib.hid (set2_mod (Mod.refl [gk+1+1] w3) (gk+1+1) ⟨0,id⟩ (fun _=>by simp))
  change bodyPost _ _ _ _ _ (set2 w3 (gk+1+1) ⟨0,id⟩)
  generalize set2 w3 (gk+1+1) ⟨0,id⟩=X at *
  clear e0 e1 f0 f1 BX
  simp only at g0 g1
  refine bodyPost_ret (by simp [results,Tryz.results116,g0,g1,go_sem];try rfl) rfl ?_
  rw [hmk.out]
  refine ⟨rfl,F3,S3.out.mod MS.out (fun k hk=>?_),M2.out.trans MS.out (by intro k h h2;simp at h2;omega),fun k hk=>(F3'.out k hk).imp (fun h=>h) (fun h=>by omega)⟩
  simp;rintro rfl;rcases F3'.out _ hk with h | h;exact hFg h;omega
theorem zddMake_c {w:World} {b n:Nat} {L:List Rc} {room:Nat} {F:List Nat} (h:IsSt w b n L room F) (hL:L.length≤100000) (hroom:L.length < room) (hrm:room≤1048576) (hn:n≤16) (hG:Good L n) (l:Nat) (hl:l < n) (lo hi:Ed)
 (hlo:LeadsP L 2 lo (l+1) n) (hhi:LeadsP L 2 hi (l+1) n):
 Calls Tryz.prog 117 #[.pointer (some ⟨b,0,none⟩),.int .i64 l,edv lo,edv hi] w fun e w'=>e=.returned (.tuple #[edv (mkP L 2 l lo hi).2,.int .u8 0])∧∃F',IsSt w' b n (mkP L 2 l lo hi).1 room F'∧Mod F w w'∧∀k∈F',k∈F∨w.heap.size≤k:=by
 have LO:Hid (∀W,Mod [] w W→_):=fun W m=>stLeads_c (h.mod m (by simp)) (by omega) hn 2 (by omega) (by omega) lo (l+1) (by omega) hlo
 have LH:Hid (∀W,Mod [] w W→_):=fun W m=>stLeads_c (h.mod m (by simp)) (by omega) hn 2 (by omega) (by omega) hi (l+1) (by omega) hhi
 have hbF:=h.lt
 obtain ⟨ba,bi,Fa,c0,-,-,-⟩:=h.own
 have hbl:=World.block_lt_of_cell? w _ c0
 simp only at hbl
 have HS:=Lib.hid h
 have hl':(l:Int) < n:=by omega
 have e1:((l+1:Nat):Int)=(l:Int)+1:=by omega
 rw [e1] at LO LH
 clear h e1
 obtain ⟨gk,hgk⟩:∃gk,w.heap.size=gk:=⟨_,rfl⟩
 have HLT:Hid (∀k∈F,k < gk):=fun k hk=>by have:=hbF k hk;omega
 have HLO:=Lib.hid hlo
 have HLH:=Lib.hid hhi
 have HG:=Lib.hid hG
 clear hbF hlo hhi hG
 obtain ⟨lt,la⟩:=lo
 obtain ⟨ht,ha⟩:=hi
 unfold edv at *
 simp only at LO LH ⊢
 have gn1:¬b=gk:=by omega
 have gn2:¬gk=b:=by omega
 have gn3:¬b=gk+1:=by omega
 have gn4:¬gk+1=b:=by omega
 have gn5:¬b=gk+1+1:=by omega
 have gn6:¬gk+1+1=b:=by omega
 go_enter Tryz.func117,Tryz.ntmps117
 go_wp2_with fail
 have BL:=Blk.new' w #[.int .u8 lt,.int .u32 la] 66 gk hgk.symm
 have BH:=Blk.new' (w.alloc (.cells #[.int .u8 lt,.int .u32 la] 66)) #[.int .u8 ht,.int .u32 ha] 66 (gk+1) (by simp [hgk])
 have BR:=Blk.new' ((w.alloc (.cells #[.int .u8 lt,.int .u32 la] 66)).alloc (.cells #[.int .u8 ht,.int .u32 ha] 66)) #[.int .u8 0,.int .u32 0] 66 (gk+1+1) (by simp [hgk])
 have BL:=(BL.alloc (.cells #[.int .u8 ht,.int .u32 ha] 66)).alloc (.cells #[.int .u8 0,.int .u32 0] 66)
 have BH:=BH.alloc (.cells #[.int .u8 0,.int .u32 0] 66)
 have M0:Hid (Mod [] w (((w.alloc (.cells #[.int .u8 lt,.int .u32 la] 66)).alloc (.cells #[.int .u8 ht,.int .u32 ha] 66)).alloc (.cells #[.int .u8 0,.int .u32 0] 66))):=by exact mods
 have hsz:(((w.alloc (.cells #[.int .u8 lt,.int .u32 la] 66)).alloc (.cells #[.int .u8 ht,.int .u32 ha] 66)).alloc (.cells #[.int .u8 0,.int .u32 0] 66)).heap.size=gk+3:=by simp [hgk]
 have c0:=(M0.out.cell (a:=⟨b,0,none⟩) hbl (by simp)).trans c0
 generalize ((w.alloc (.cells #[.int .u8 lt,.int .u32 la] 66)).alloc (.cells #[.int .u8 ht,.int .u32 ha] 66)).alloc (.cells #[.int .u8 0,.int .u32 0] 66)=w0 at *
 have hb0:b < w0.heap.size:=by omega
 have hk0:gk < w0.heap.size:=by omega
 have hk1:gk+1 < w0.heap.size:=by omega
 obtain ⟨q0,q1⟩:=BL.cells2
 obtain ⟨p0,p1⟩:=BH.cells2
 have BL:=Lib.hid BL
 have BH:=Lib.hid BH
 have BR:=Lib.hid BR
 refine (stVars_c b n _ c0).mono ?_
 rintro e w1 ⟨rfl,rfl⟩
 go_wp2_with fail
 refine (LO.out _ M0.out).mono ?_;rintro e' wa ⟨rfl,m_wa⟩;have M_wa:=Mod.trans' (show Mod _ w1 _ from by exact mods) m_wa;have c0:=(M_wa.cell (a:=⟨b,0,none⟩) hb0 (by first | assumption | (simp;done))).trans c0;have q0:=(M_wa.cell (a:=⟨gk,0,none⟩) hk0 (by first | assumption | (simp;done))).trans q0;have q1:=(M_wa.cell (a:=⟨gk,1,none⟩) hk0 (by first | assumption | (simp;done))).trans q1;have p0:=(M_wa.cell (a:=⟨gk+1,0,none⟩) hk1 (by first | assumption | (simp;done))).trans p0;have p1:=(M_wa.cell (a:=⟨gk+1,1,none⟩) hk1 (by first | assumption | (simp;done))).trans p1;have hb0:=Nat.lt_of_lt_of_le hb0 M_wa.size;have hk0:=Nat.lt_of_lt_of_le hk0 M_wa.size;have hk1:=Nat.lt_of_lt_of_le hk1 M_wa.size
 have M1:=Lib.hid (M0.out.trans' M_wa)
 go_wp2_with fail
 refine (LH.out _ M1.out).mono ?_;rintro e' wb ⟨rfl,m_wb⟩;have M_wb:=Mod.trans' (show Mod _ wa _ from by exact mods) m_wb;have c0:=(M_wb.cell (a:=⟨b,0,none⟩) hb0 (by first | assumption | (simp;done))).trans c0;have q0:=(M_wb.cell (a:=⟨gk,0,none⟩) hk0 (by first | assumption | (simp;done))).trans q0;have q1:=(M_wb.cell (a:=⟨gk,1,none⟩) hk0 (by first | assumption | (simp;done))).trans q1;have p0:=(M_wb.cell (a:=⟨gk+1,0,none⟩) hk1 (by first | assumption | (simp;done))).trans p0;have p1:=(M_wb.cell (a:=⟨gk+1,1,none⟩) hk1 (by first | assumption | (simp;done))).trans p1;have hb0:=Nat.lt_of_lt_of_le hb0 M_wb.size;have hk0:=Nat.lt_of_lt_of_le hk0 M_wb.size;have hk1:=Nat.lt_of_lt_of_le hk1 M_wb.size
 have M2:=Lib.hid (M1.out.trans' M_wb)
 replace BL:=Lib.hid ((BL.out.mod M_wa (by simp)).mod M_wb (by simp))
 replace BH:=Lib.hid ((BH.out.mod M_wa (by simp)).mod M_wb (by simp))
 replace BR:=Lib.hid ((BR.out.mod M_wa (by simp)).mod M_wb (by simp))
 clear m_wa m_wb M_wa M_wb M0 M1 LO LH
 obtain ⟨e0,e1⟩:=BR.out.cells2
 obtain ⟨f0,f1,-⟩:=BR.out.frozs
 have hl16:(l:Int)≤16:=by omega
 have hFg:gk+1+1∉F:=fun h=>by have:=HLT.out _ h;omega
 by_cases heq:ha=0
 ·have hmk:mkP L 2 l ⟨lt,la⟩ ⟨ht,ha⟩=(L,⟨lt,la⟩):=by unfold mkP shortP;simp [heq]
  have hmk:=Lib.hid hmk
  have h0:(ha:Int)=0:=by omega
  subst heq
  go_wp2_with fail
  have BX:=set2_blk BR.out ⟨lt,la⟩
  obtain ⟨g0,g1⟩:=BX.cells2
  have MS:=Lib.hid (set2_mod (Mod.refl [gk+1+1] wb) (gk+1+1) ⟨lt,la⟩ (fun _=>by simp))
  change bodyPost _ _ _ _ _ (set2 wb (gk+1+1) ⟨lt,la⟩)
  generalize set2 wb (gk+1+1) ⟨lt,la⟩=X at *
  clear c0 q0 q1 p0 p1 e0 e1 f0 f1 BX
  simp only at g0 g1
  refine bodyPost_ret (by simp [results,Tryz.results117,g0,g1,go_sem];try rfl) rfl ?_
  rw [hmk.out]
  exact ⟨rfl,F,(HS.out.mod M2.out (by simp)).mod MS.out (fun k hk=>by simp;rintro rfl;exact hFg hk),(M2.out.mono (by intro k _ h;simp at h)).trans MS.out (by intro k h h2;simp at h2;omega),fun k hk=>.inl hk⟩
 ·have hs:shortP 2 l ⟨lt,la⟩ ⟨ht,ha⟩=none:=by unfold shortP;simp [heq]
  have hr:recP L 2 l ⟨lt,la⟩ ⟨ht,ha⟩=⟨2,l,l,⟨lt,la⟩,⟨ht,ha⟩⟩:=by unfold recP;split<;>simp
  have h0:((ha:Int)==0)=false:=by rw [beq_eq_false_iff_ne];omega
  have h0n:¬(ha:Int)=0:=by omega
  have hg:=recP_good HG.out (by omega) (by omega) hl hn HLO.out HLH.out hs
  have hmk:mkP L 2 l ⟨lt,la⟩ ⟨ht,ha⟩=((fnd L ⟨2,l,l,⟨lt,la⟩,⟨ht,ha⟩⟩).1,⟨0,(fnd L ⟨2,l,l,⟨lt,la⟩,⟨ht,ha⟩⟩).2⟩):=by unfold mkP;rw [hs,hr];rfl
  have hmk:=Lib.hid hmk
  rw [hr] at hg
  have FN:Hid (∀W,Mod [] w W→_):=fun W m=>zddFound_c (HS.out.mod m (by simp)) hL hroom hrm hn ⟨2,l,l,⟨lt,la⟩,⟨ht,ha⟩⟩ hg.right hg.lo hg.hi
  clear hs hr hg
  generalize (fnd L ⟨2,l,l,⟨lt,la⟩,⟨ht,ha⟩⟩).2=id at *
  generalize (fnd L ⟨2,l,l,⟨lt,la⟩,⟨ht,ha⟩⟩).1=L2 at *
  unfold rcv edv at FN
  simp only at FN
  go_wp2_with fail
  refine (FN.out _ M2.out).mono ?_;rintro e' w3 ⟨rfl,F3,s3,m_w3,f3⟩;have M_w3:=Mod.trans' (show Mod _ wb _ from by exact mods) m_w3
  have hsb:=M2.out.size
  have hk2:=BR.out.lt
  replace BR:=BR.out.mod M_w3 hFg
  obtain ⟨e0,e1⟩:=BR.cells2
  obtain ⟨f0,f1,-⟩:=BR.frozs
  have S3:=Lib.hid s3
  have F3':=Lib.hid f3
  replace M2:=Lib.hid ((M2.out.mono (S':=F) (by intro k _ h;simp at h)).trans M_w3 (by intro k _ h;exact h))
  have BR:=Lib.hid BR
  clear FN s3 f3 m_w3 M_w3 c0 q0 q1 p0 p1 BL BH
  go_wp2_with fail
  have BX:=set2_blk BR.out ⟨0,id⟩
  obtain ⟨g0,g1⟩:=BX.cells2
  have MS:=Lib.hid (set2_mod (Mod.refl [gk+1+1] w3) (gk+1+1) ⟨0,id⟩ (fun _=>by simp))
  change bodyPost _ _ _ _ _ (set2 w3 (gk+1+1) ⟨0,id⟩)
  generalize set2 w3 (gk+1+1) ⟨0,id⟩=X at *
  clear e0 e1 f0 f1 BX
  simp only at g0 g1
  refine bodyPost_ret (by simp [results,Tryz.results117,g0,g1,go_sem];try rfl) rfl ?_
  rw [hmk.out]
  refine ⟨rfl,F3,S3.out.mod MS.out (fun k hk=>?_),M2.out.trans MS.out (by intro k h h2;simp at h2;omega),fun k hk=>(F3'.out k hk).imp (fun h=>h) (fun h=>by omega)⟩
  simp;rintro rfl;rcases F3'.out _ hk with h | h;exact hFg h;omega
open Go.RowKit
theorem tbddMake_c {w:World} {b n:Nat} {L:List Rc} {room:Nat} {F:List Nat} (h:IsSt w b n L room F) (hL:L.length≤100000) (hroom:L.length < room) (hrm:room≤1048576) (hn:n≤16) (hG:Good L n) (l:Nat) (hl:l < n) (lo hi:Ed)
 (hlo:LeadsP L 5 lo (l+1) n) (hhi:LeadsP L 5 hi (l+1) n):
 Calls Tryz.prog 120 #[.pointer (some ⟨b,0,none⟩),.int .i64 l,edv lo,edv hi] w fun e w'=>e=.returned (.tuple #[edv (mkP L 5 l lo hi).2,.int .u8 0])∧∃F',IsSt w' b n (mkP L 5 l lo hi).1 room F'∧Mod F w w'∧∀k∈F',k∈F∨w.heap.size≤k:=by
 have LO:Hid (∀W,Mod [] w W→_):=fun W m=>stLeads_c (h.mod m (by simp)) (by omega) hn 5 (by omega) (by omega) lo (l+1) (by omega) hlo
 have LH:Hid (∀W,Mod [] w W→_):=fun W m=>stLeads_c (h.mod m (by simp)) (by omega) hn 5 (by omega) (by omega) hi (l+1) (by omega) hhi
 have hbF:=h.lt
 obtain ⟨ba,bi,Fa,c0,-,-,-⟩:=h.own
 have hbl:=World.block_lt_of_cell? w _ c0
 simp only at hbl
 have HS:=Lib.hid h
 have hl':(l:Int) < n:=by omega
 have e1:((l+1:Nat):Int)=(l:Int)+1:=by omega
 rw [e1] at LO LH
 clear h e1
 obtain ⟨gk,hgk⟩:∃gk,w.heap.size=gk:=⟨_,rfl⟩
 have HLT:Hid (∀k∈F,k < gk):=fun k hk=>by have:=hbF k hk;omega
 have HLO:=Lib.hid hlo
 have HLH:=Lib.hid hhi
 have HG:=Lib.hid hG
 clear hbF hlo hhi hG
 obtain ⟨lt,la⟩:=lo
 obtain ⟨ht,ha⟩:=hi
 unfold edv at *
 simp only at LO LH ⊢
 have gn1:¬b=gk:=by omega
 have gn2:¬gk=b:=by omega
 have gn3:¬b=gk+1:=by omega
 have gn4:¬gk+1=b:=by omega
 have gn5:¬b=gk+1+1:=by omega
 have gn6:¬gk+1+1=b:=by omega
 go_enter Tryz.func120,Tryz.ntmps120
 go_wp2_with fail
 have BL:=Blk.new' w #[.int .u8 lt,.int .u32 la] 66 gk hgk.symm
 have BH:=Blk.new' (w.alloc (.cells #[.int .u8 lt,.int .u32 la] 66)) #[.int .u8 ht,.int .u32 ha] 66 (gk+1) (by simp [hgk])
 have BR:=Blk.new' ((w.alloc (.cells #[.int .u8 lt,.int .u32 la] 66)).alloc (.cells #[.int .u8 ht,.int .u32 ha] 66)) #[.int .u8 0,.int .u32 0] 66 (gk+1+1) (by simp [hgk])
 have BL:=(BL.alloc (.cells #[.int .u8 ht,.int .u32 ha] 66)).alloc (.cells #[.int .u8 0,.int .u32 0] 66)
 have BH:=BH.alloc (.cells #[.int .u8 0,.int .u32 0] 66)
 have M0:Hid (Mod [] w (((w.alloc (.cells #[.int .u8 lt,.int .u32 la] 66)).alloc (.cells #[.int .u8 ht,.int .u32 ha] 66)).alloc (.cells #[.int .u8 0,.int .u32 0] 66))):=by exact mods
 have hsz:(((w.alloc (.cells #[.int .u8 lt,.int .u32 la] 66)).alloc (.cells #[.int .u8 ht,.int .u32 ha] 66)).alloc (.cells #[.int .u8 0,.int .u32 0] 66)).heap.size=gk+3:=by simp [hgk]
 have c0:=(M0.out.cell (a:=⟨b,0,none⟩) hbl (by simp)).trans c0
 generalize ((w.alloc (.cells #[.int .u8 lt,.int .u32 la] 66)).alloc (.cells #[.int .u8 ht,.int .u32 ha] 66)).alloc (.cells #[.int .u8 0,.int .u32 0] 66)=w0 at *
 have hb0:b < w0.heap.size:=by omega
 have hk0:gk < w0.heap.size:=by omega
 have hk1:gk+1 < w0.heap.size:=by omega
 obtain ⟨q0,q1⟩:=BL.cells2
 obtain ⟨p0,p1⟩:=BH.cells2
 have BL:=Lib.hid BL
 have BH:=Lib.hid BH
 have BR:=Lib.hid BR
 refine (stVars_c b n _ c0).mono ?_
 rintro e w1 ⟨rfl,rfl⟩
 go_wp2_with fail
 refine (LO.out _ M0.out).mono ?_;rintro e' wa ⟨rfl,m_wa⟩;have M_wa:=Mod.trans' (show Mod _ w1 _ from by exact mods) m_wa;have c0:=(M_wa.cell (a:=⟨b,0,none⟩) hb0 (by first | assumption | (simp;done))).trans c0;have q0:=(M_wa.cell (a:=⟨gk,0,none⟩) hk0 (by first | assumption | (simp;done))).trans q0;have q1:=(M_wa.cell (a:=⟨gk,1,none⟩) hk0 (by first | assumption | (simp;done))).trans q1;have p0:=(M_wa.cell (a:=⟨gk+1,0,none⟩) hk1 (by first | assumption | (simp;done))).trans p0;have p1:=(M_wa.cell (a:=⟨gk+1,1,none⟩) hk1 (by first | assumption | (simp;done))).trans p1;have hb0:=Nat.lt_of_lt_of_le hb0 M_wa.size;have hk0:=Nat.lt_of_lt_of_le hk0 M_wa.size;have hk1:=Nat.lt_of_lt_of_le hk1 M_wa.size
 have M1:=Lib.hid (M0.out.trans' M_wa)
 go_wp2_with fail
 refine (LH.out _ M1.out).mono ?_;rintro e' wb ⟨rfl,m_wb⟩;have M_wb:=Mod.trans' (show Mod _ wa _ from by exact mods) m_wb;have c0:=(M_wb.cell (a:=⟨b,0,none⟩) hb0 (by first | assumption | (simp;done))).trans c0;have q0:=(M_wb.cell (a:=⟨gk,0,none⟩) hk0 (by first | assumption | (simp;done))).trans q0;have q1:=(M_wb.cell (a:=⟨gk,1,none⟩) hk0 (by first | assumption | (simp;done))).trans q1;have p0:=(M_wb.cell (a:=⟨gk+1,0,none⟩) hk1 (by first | assumption | (simp;done))).trans p0;have p1:=(M_wb.cell (a:=⟨gk+1,1,none⟩) hk1 (by first | assumption | (simp;done))).trans p1;have hb0:=Nat.lt_of_lt_of_le hb0 M_wb.size;have hk0:=Nat.lt_of_lt_of_le hk0 M_wb.size;have hk1:=Nat.lt_of_lt_of_le hk1 M_wb.size
 have M2:=Lib.hid (M1.out.trans' M_wb)
 replace BL:=Lib.hid ((BL.out.mod M_wa (by simp)).mod M_wb (by simp))
 replace BH:=Lib.hid ((BH.out.mod M_wa (by simp)).mod M_wb (by simp))
 replace BR:=Lib.hid ((BR.out.mod M_wa (by simp)).mod M_wb (by simp))
 clear m_wa m_wb M_wa M_wb M0 M1 LO LH
 obtain ⟨e0,e1⟩:=BR.out.cells2
 obtain ⟨f0,f1,-⟩:=BR.out.frozs
 have hl16:(l:Int)≤16:=by omega
 have hFg:gk+1+1∉F:=fun h=>by have:=HLT.out _ h;omega
 by_cases heq:(⟨lt,la⟩:Ed)=⟨ht,ha⟩
 ·have hmk:mkP L 5 l ⟨lt,la⟩ ⟨ht,ha⟩=(L,⟨lt,la⟩):=by unfold mkP shortP;simp [heq]
  have hmk:=Lib.hid hmk
  simp at heq
  obtain ⟨rfl,rfl⟩:=heq
  go_wp2_with fail
  have BX:=set2_blk BR.out ⟨lt,la⟩
  obtain ⟨g0,g1⟩:=BX.cells2
  have MS:=Lib.hid (set2_mod (Mod.refl [gk+1+1] wb) (gk+1+1) ⟨lt,la⟩ (fun _=>by simp))
  change bodyPost _ _ _ _ _ (set2 wb (gk+1+1) ⟨lt,la⟩)
  generalize set2 wb (gk+1+1) ⟨lt,la⟩=X at *
  clear c0 q0 q1 p0 p1 e0 e1 f0 f1 BX
  simp only at g0 g1
  refine bodyPost_ret (by simp [results,Tryz.results120,g0,g1,go_sem];try rfl) rfl ?_
  rw [hmk.out]
  exact ⟨rfl,F,(HS.out.mod M2.out (by simp)).mod MS.out (fun k hk=>by simp;rintro rfl;exact hFg hk),(M2.out.mono (by intro k _ h;simp at h)).trans MS.out (by intro k h h2;simp at h2;omega),fun k hk=>.inl hk⟩
 ·have hlt16:(lt:Int)≤16:=by
   have hp:=HLO.out.plain
   by_cases h:la=0
   ·have:=hp.1 (.inr h);simp only at this;omega
   ·have:=hp.2 rfl h;simp only at this;omega
  by_cases h0:ha=0
  ·subst h0
   by_cases hz:lt=l+1
   ·subst hz
    have hmk:mkP L 5 l ⟨l+1,la⟩ ⟨ht,0⟩=(L,⟨l,la⟩):=by unfold mkP shortP;simp only [if_neg (show ¬((5:Nat)=2∨(5:Nat)=4) by omega),if_neg heq];simp
    have hmk:=Lib.hid hmk
    have EQ:=fun w=>(eqIn_ed 9998 ⟨l+1,la⟩ ⟨ht,0⟩ w).trans (by rw [decide_eq_false heq])
    unfold edv at EQ
    simp only at EQ
    rw [show ((0:Nat):Int)=0 from rfl] at EQ p1
    rw [show ((l+1:Nat):Int)=(l:Int)+1 from rfl] at EQ q0
    clear heq
    go_wp2_with fail
    have BX:=set2_blk BR.out ⟨l,la⟩
    obtain ⟨g0,g1⟩:=BX.cells2
    have MS:=Lib.hid (set2_mod (Mod.refl [gk+1+1] wb) (gk+1+1) ⟨l,la⟩ (fun _=>by simp))
    change bodyPost _ _ _ _ _ (set2 wb (gk+1+1) ⟨l,la⟩)
    generalize set2 wb (gk+1+1) ⟨l,la⟩=X at *
    clear c0 q0 q1 p0 p1 e0 e1 f0 f1 BX
    simp only at g0 g1
    refine bodyPost_ret (by simp [results,Tryz.results120,g0,g1,go_sem];try rfl) rfl ?_
    rw [hmk.out]
    exact ⟨rfl,F,(HS.out.mod M2.out (by simp)).mod MS.out (fun k hk=>by simp;rintro rfl;exact hFg hk),(M2.out.mono (by intro k _ h;simp at h)).trans MS.out (by intro k h h2;simp at h2;omega),fun k hk=>.inl hk⟩
   ·have hs:shortP 5 l ⟨lt,la⟩ ⟨ht,0⟩=none:=by unfold shortP;simp only [if_neg (show ¬((5:Nat)=2∨(5:Nat)=4) by omega),if_neg heq];simp;omega
    have hr:recP L 5 l ⟨lt,la⟩ ⟨ht,0⟩=⟨5,l,l,⟨lt,la⟩,⟨ht,0⟩⟩:=by unfold recP;split<;>simp
    have hz1:((lt:Int)==(l:Int)+1)=false:=by rw [beq_eq_false_iff_ne];omega
    have hz2:¬(lt:Int)=(l:Int)+1:=by omega
    have EQ:=fun w=>(eqIn_ed 9998 ⟨lt,la⟩ ⟨ht,0⟩ w).trans (by rw [decide_eq_false heq])
    unfold edv at EQ
    simp only at EQ
    rw [show ((0:Nat):Int)=0 from rfl] at EQ p1
    clear heq
    have hg:=recP_good HG.out (by omega) (by omega) hl hn HLO.out HLH.out hs
    have hmk:mkP L 5 l ⟨lt,la⟩ ⟨ht,0⟩=((fnd L ⟨5,l,l,⟨lt,la⟩,⟨ht,0⟩⟩).1,⟨l,(fnd L ⟨5,l,l,⟨lt,la⟩,⟨ht,0⟩⟩).2⟩):=by unfold mkP;rw [hs,hr];rfl
    have hmk:=Lib.hid hmk
    rw [hr] at hg
    have FN:Hid (∀W,Mod [] w W→_):=fun W m=>tbddFound_c (HS.out.mod m (by simp)) hL hroom hrm hn ⟨5,l,l,⟨lt,la⟩,⟨ht,0⟩⟩ hg.right hg.lo hg.hi
    clear hs hr hg
    generalize (fnd L ⟨5,l,l,⟨lt,la⟩,⟨ht,0⟩⟩).2=id at *
    generalize (fnd L ⟨5,l,l,⟨lt,la⟩,⟨ht,0⟩⟩).1=L2 at *
    unfold rcv edv at FN
    simp only at FN
    rw [show ((0:Nat):Int)=0 from rfl] at FN
    go_wp2_with fail
    refine (FN.out _ M2.out).mono ?_;rintro e' w3 ⟨rfl,F3,s3,m_w3,f3⟩;have M_w3:=Mod.trans' (show Mod _ wb _ from by exact mods) m_w3
    have hsb:=M2.out.size
    have hk2:=BR.out.lt
    replace BR:=BR.out.mod M_w3 hFg
    obtain ⟨e0,e1⟩:=BR.cells2
    obtain ⟨f0,f1,-⟩:=BR.frozs
    have S3:=Lib.hid s3
    have F3':=Lib.hid f3
    replace M2:=Lib.hid ((M2.out.mono (S':=F) (by intro k _ h;simp at h)).trans M_w3 (by intro k _ h;exact h))
    have BR:=Lib.hid BR
    clear FN s3 f3 m_w3 M_w3 c0 q0 q1 p0 p1 BL BH EQ
    go_wp2_with fail
    have BX:=set2_blk BR.out ⟨l,id⟩
    obtain ⟨g0,g1⟩:=BX.cells2
    have MS:=Lib.hid (set2_mod (Mod.refl [gk+1+1] w3) (gk+1+1) ⟨l,id⟩ (fun _=>by simp))
    change bodyPost _ _ _ _ _ (set2 w3 (gk+1+1) ⟨l,id⟩)
    generalize set2 w3 (gk+1+1) ⟨l,id⟩=X at *
    clear e0 e1 f0 f1 BX
    simp only at g0 g1
    refine bodyPost_ret (by simp [results,Tryz.results120,g0,g1,go_sem];try rfl) rfl ?_
    rw [hmk.out]
    refine ⟨rfl,F3,S3.out.mod MS.out (fun k hk=>?_),M2.out.trans MS.out (by intro k h h2;simp at h2;omega),fun k hk=>(F3'.out k hk).imp (fun h=>h) (fun h=>by omega)⟩
    simp;rintro rfl;rcases F3'.out _ hk with h | h;exact hFg h;omega
  ·have hs:shortP 5 l ⟨lt,la⟩ ⟨ht,ha⟩=none:=by unfold shortP;simp only [if_neg (show ¬((5:Nat)=2∨(5:Nat)=4) by omega),if_neg heq];simp;omega
   have hr:recP L 5 l ⟨lt,la⟩ ⟨ht,ha⟩=⟨5,l,l,⟨lt,la⟩,⟨ht,ha⟩⟩:=by unfold recP;split<;>simp
   have hz1:((ha:Int)==0)=false:=by rw [beq_eq_false_iff_ne];omega
   have hz2:¬(ha:Int)=0:=by omega
   have EQ:=fun w=>(eqIn_ed 9998 ⟨lt,la⟩ ⟨ht,ha⟩ w).trans (by rw [decide_eq_false heq])
   unfold edv at EQ
   simp only at EQ
   clear heq
   have hg:=recP_good HG.out (by omega) (by omega) hl hn HLO.out HLH.out hs
   have hmk:mkP L 5 l ⟨lt,la⟩ ⟨ht,ha⟩=((fnd L ⟨5,l,l,⟨lt,la⟩,⟨ht,ha⟩⟩).1,⟨l,(fnd L ⟨5,l,l,⟨lt,la⟩,⟨ht,ha⟩⟩).2⟩):=by unfold mkP;rw [hs,hr];rfl
   have hmk:=Lib.hid hmk
   rw [hr] at hg
   have FN:Hid (∀W,Mod [] w W→_):=fun W m=>tbddFound_c (HS.out.mod m (by simp)) hL hroom hrm hn ⟨5,l,l,⟨lt,la⟩,⟨ht,ha⟩⟩ hg.right hg.lo hg.hi
   clear hs hr hg
   generalize (fnd L ⟨5,l,l,⟨lt,la⟩,⟨ht,ha⟩⟩).2=id at *
   generalize (fnd L ⟨5,l,l,⟨lt,la⟩,⟨ht,ha⟩⟩).1=L2 at *
   unfold rcv edv at FN
   simp only at FN
   go_wp2_with fail
   refine (FN.out _ M2.out).mono ?_;rintro e' w3 ⟨rfl,F3,s3,m_w3,f3⟩;have M_w3:=Mod.trans' (show Mod _ wb _ from by exact mods) m_w3
   have hsb:=M2.out.size
   have hk2:=BR.out.lt
   replace BR:=BR.out.mod M_w3 hFg
   obtain ⟨e0,e1⟩:=BR.cells2
   obtain ⟨f0,f1,-⟩:=BR.frozs
   have S3:=Lib.hid s3
   have F3':=Lib.hid f3
   replace M2:=Lib.hid ((M2.out.mono (S':=F) (by intro k _ h;simp at h)).trans M_w3 (by intro k _ h;exact h))
   have BR:=Lib.hid BR
   clear FN s3 f3 m_w3 M_w3 c0 q0 q1 p0 p1 BL BH EQ
   go_wp2_with fail
   have BX:=set2_blk BR.out ⟨l,id⟩
   obtain ⟨g0,g1⟩:=BX.cells2
   have MS:=Lib.hid (set2_mod (Mod.refl [gk+1+1] w3) (gk+1+1) ⟨l,id⟩ (fun _=>by simp))
   change bodyPost _ _ _ _ _ (set2 w3 (gk+1+1) ⟨l,id⟩)
   generalize set2 w3 (gk+1+1) ⟨l,id⟩=X at *
   clear e0 e1 f0 f1 BX
   simp only at g0 g1
   refine bodyPost_ret (by simp [results,Tryz.results120,g0,g1,go_sem];try rfl) rfl ?_
   rw [hmk.out]
   refine ⟨rfl,F3,S3.out.mod MS.out (fun k hk=>?_),M2.out.trans MS.out (by intro k h h2;simp at h2;omega),fun k hk=>(F3'.out k hk).imp (fun h=>h) (fun h=>by omega)⟩
   simp;rintro rfl;rcases F3'.out _ hk with h | h;exact hFg h;omega
end Go.Proofs.YtlafpknoiihaaaaGreatDoor
