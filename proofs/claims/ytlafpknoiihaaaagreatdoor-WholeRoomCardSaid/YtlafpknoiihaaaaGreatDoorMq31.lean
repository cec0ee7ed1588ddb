/- Mq31: Gf -/
import Derived.Test.YtlafpknoiihaaaaGreatDoorMq29
import Derived.Test.YtlafpknoiihaaaaGreatDoorMq25
import Derived.Test.YtlafpknoiihaaaaGreatDoorMq26
set_option maxRecDepth 100000
set_option maxHeartbeats 4000000
set_option linter.unusedVariables false
set_option linter.unusedSimpArgs false
namespace Go.Proofs.YtlafpknoiihaaaaGreatDoor
open Go.RowKit
theorem Dia.root {L:List Rc} {n f:Nat} {e:Ed} {T:Tr} (h:Dia L n f e T):Root L n f e T:=⟨h.f1,Nat.le_trans h.f2 (by omega),h.rep,h.lead⟩
theorem mngSize_c {w:World} {bm room:Nat} {L:List Rc} {Fs p:List Nat} {H:List (Nat × Ed)} {bs bo bq:Nat} {F:List Nat} (h:Mng w bm 3 room L Fs p H bs bo bq F) (hL:L.length≤1048576) (hnd:L.Nodup) (hG:Good L 3) (hp:p.length=3) (hpv:∀v∈p,v < 16) (hH:H.length≤256)
 {a f:Nat} {e:Ed} {T:Tr} (hf:H[a]? =some (f,e)) (hD:Dia L 3 f e T):
 Calls Tryz.prog 107 #[.pointer (some ⟨bm,0,none⟩),.int .i64 ((a+1:Nat):Int)] w fun e' w'=>∃z:Nat,e'=.returned (.tuple #[.int .i64 z,.int .u8 0])∧z≤9∧Mod [] w w':=by
 obtain ⟨ba,bg,vk,vq,vg,Fo,q,g1,g2,g3,-,g5,-⟩:=h.m
 have p3:=g1.cell 3 (by omega)
 replace p3:w.cell? ⟨bm,3,none⟩=some (.pointer (some ⟨bs,0,none⟩)):=p3
 have hbm:=g1.lt
 obtain ⟨hl,hg⟩:=List.getElem?_eq_some_iff.1 hf
 obtain ⟨-,d1,d2⟩:=g1.root hH a hl
 rw [hg] at d1 d2
 simp only at d1 d2
 have SZ:Hid (∀W,Mod [] w W→Calls Tryz.prog 129 #[.pointer (some ⟨bs,0,none⟩),.int .u8 f,edv e,.int .i64 0] W fun e' w'=>∃z:Nat,e'=.returned (.tuple #[.int .i64 z,.int .u8 0])∧z≤9∧Mod [] W w'):=fun W md=>by
  refine (canonSize_c (h.s.mod md (by simp)) hL hnd (by omega) f hD.f1 (Nat.le_trans hD.f2 (by omega)) e 0 (by omega) hD.lead (x:=(e.t,T)) ⟨rfl,hD.rep⟩ (Nat.le_trans hD.size (by omega)) (Nat.le_trans hD.few (by omega))).mono ?_
  rintro e' w' ⟨rfl,m⟩
  exact ⟨_,rfl,hD.few,m⟩
 obtain ⟨g,hgz⟩:∃g,w.heap.size=g:=⟨_,rfl⟩
 have hm0':a+1 < 257:=by omega
 have MA:Hid (Mod [] w (w.alloc (.cells #[.int .i64 ((a+1:Nat):Int)] 3))):=(Mod.refl _ _).alloc _
 have SM:=Lib.hid (same1_c (g:=g) (cap:=1) (g1.mod MA.out (by simp)) hH (a:=a) (by have BA:=Blk.new' w #[.int .i64 ((a+1:Nat):Int)] 3 g hgz.symm;have:=BA.cell 0;simpa using this) hf)
 obtain ⟨m,hm⟩:∃m,a+1=m:=⟨_,rfl⟩
 rw [hm] at d1 d2 SM MA hm0' ⊢
 have hm3:(m:Int) < 257:=by omega
 have hm0:(0:Int)≤m:=by omega
 obtain ⟨t,x⟩:=e
 unfold edv at SZ
 simp only at d1 d2 SZ
 have d2':w.cell? ⟨bm,262+m *3+1+1,none⟩=some (.int .u32 x):=d2
 skip
 clear hg h hf hl hm g1 g2 g3 hD d2 hG hnd
 go_enter Tryz.func107,Tryz.ntmps107
 go_wp2_with fail
 have p3:=(MA.out.cell (a:=⟨bm,3,none⟩) hbm (by simp)).trans p3
 have d1:=(MA.out.cell (a:=⟨bm,262+m *3+1,none⟩) hbm (by simp)).trans d1
 have d2:=(MA.out.cell (a:=⟨bm,262+m *3+1+1,none⟩) hbm (by simp)).trans d2'
 have hbm:=Nat.lt_of_lt_of_le hbm MA.out.size
 refine SM.out.mono ?_
 rintro e w1 ⟨rfl,rfl⟩
 generalize w.alloc (.cells #[.int .i64 (m:Int)] 3)=w1 at *
 go_wp2_with fail
 go_region_held3 (fun w'=>w'.cell? ⟨bm,3,none⟩=some (.pointer (some ⟨bs,0,none⟩))∧w'.cell? ⟨bm,262+m *3+1,none⟩=some (.int .u8 t)∧w'.cell? ⟨bm,262+m *3+1+1,none⟩=some (.int .u32 x)) (go_keep) (first | (go_at_call 129;refine (SZ.out _ (MA.out.trans' (show Mod [] w1 _ from by exact mods))).mono ?_;rintro e' w2 ⟨z,rfl,hz,m_w2⟩;have M_w2:=Mod.trans' (show Mod _ w1 _ from by exact mods) m_w2;have p3:=(M_w2.cell (a:=⟨bm,3,none⟩) hbm (by first | assumption | (simp;done))).trans p3;have d1:=(M_w2.cell (a:=⟨bm,262+m *3+1,none⟩) hbm (by first | assumption | (simp;done))).trans d1;have d2:=(M_w2.cell (a:=⟨bm,262+m *3+1+1,none⟩) hbm (by first | assumption | (simp;done))).trans d2;have hbm:=Nat.lt_of_lt_of_le hbm M_w2.size;skip))
 all_goals
  go_wp2_with fail
  go_ret2
  exact ⟨z,rfl,hz,MA.out.trans' M_w2⟩
theorem mngCount_c {w:World} {bm room:Nat} {L:List Rc} {Fs p:List Nat} {H:List (Nat × Ed)} {bs bo bq:Nat} {F:List Nat} (h:Mng w bm 3 room L Fs p H bs bo bq F) (hL:L.length≤1048576) (hnd:L.Nodup) (hG:Good L 3) (hp:p.length=3) (hpv:∀v∈p,v < 16) (hH:H.length≤256)
 {a f:Nat} {e:Ed} {T:Tr} (hf:H[a]? =some (f,e)) (hD:Dia L 3 f e T):
 Calls Tryz.prog 106 #[.pointer (some ⟨bm,0,none⟩),.int .i64 ((a+1:Nat):Int)] w fun e' w'=>∃z:Nat,e'=.returned (.tuple #[.int .i64 z,.int .u8 0])∧z≤8∧Mod [] w w':=by
 obtain ⟨ba,bg,vk,vq,vg,Fo,q,g1,g2,g3,-,g5,-⟩:=h.m
 have p3:=g1.cell 3 (by omega)
 replace p3:w.cell? ⟨bm,3,none⟩=some (.pointer (some ⟨bs,0,none⟩)):=p3
 have hbm:=g1.lt
 obtain ⟨hl,hg⟩:=List.getElem?_eq_some_iff.1 hf
 obtain ⟨-,d1,d2⟩:=g1.root hH a hl
 rw [hg] at d1 d2
 simp only at d1 d2
 have SZ:Hid (∀W,Mod [] w W→Calls Tryz.prog 128 #[.pointer (some ⟨bs,0,none⟩),.int .u8 f,edv e] W fun e' w'=>∃z v,e'=.returned (.tuple #[v,.int .u8 0])∧z≤8∧NNew W z w' v∧Mod [] W w'):=fun W md=>by
  refine (meterCount_c (h.s.mod md (by simp)) hL hnd hG (by omega) hD).mono ?_
  rintro e' w' ⟨v,rfl,n⟩
  have hle:=cE_le hG (by have:=hD.f1;have:=hD.f2;omega) hD.rep (t:=e.t) (l:=0) hD.lead (by omega)
  exact ⟨_,v,rfl,by simpa using hle,n,n.mod⟩
 obtain ⟨g,hgz⟩:∃g,w.heap.size=g:=⟨_,rfl⟩
 have hm0':a+1 < 257:=by omega
 have MA:Hid (Mod [] w (w.alloc (.cells #[.int .i64 ((a+1:Nat):Int)] 3))):=(Mod.refl _ _).alloc _
 have SM:=Lib.hid (same1_c (g:=g) (cap:=1) (g1.mod MA.out (by simp)) hH (a:=a) (by have BA:=Blk.new' w #[.int .i64 ((a+1:Nat):Int)] 3 g hgz.symm;have:=BA.cell 0;simpa using this) hf)
 obtain ⟨m,hm⟩:∃m,a+1=m:=⟨_,rfl⟩
 rw [hm] at d1 d2 SM MA hm0' ⊢
 have hm3:(m:Int) < 257:=by omega
 have hm0:(0:Int)≤m:=by omega
 obtain ⟨t,x⟩:=e
 unfold edv at SZ
 simp only at d1 d2 SZ
 have d2':w.cell? ⟨bm,262+m *3+1+1,none⟩=some (.int .u32 x):=d2
 skip
 clear hg h hf hl hm g1 g2 g3 hD d2 hG hnd
 go_enter Tryz.func106,Tryz.ntmps106
 go_wp2_with fail
 have p3:=(MA.out.cell (a:=⟨bm,3,none⟩) hbm (by simp)).trans p3
 have d1:=(MA.out.cell (a:=⟨bm,262+m *3+1,none⟩) hbm (by simp)).trans d1
 have d2:=(MA.out.cell (a:=⟨bm,262+m *3+1+1,none⟩) hbm (by simp)).trans d2'
 have hbm:=Nat.lt_of_lt_of_le hbm MA.out.size
 refine SM.out.mono ?_
 rintro e w1 ⟨rfl,rfl⟩
 generalize w.alloc (.cells #[.int .i64 (m:Int)] 3)=w1 at *
 go_wp2_with fail
 go_region_held3 (fun w'=>w'.cell? ⟨bm,3,none⟩=some (.pointer (some ⟨bs,0,none⟩))∧w'.cell? ⟨bm,262+m *3+1,none⟩=some (.int .u8 t)∧w'.cell? ⟨bm,262+m *3+1+1,none⟩=some (.int .u32 x)) (go_keep) (first | (go_at_call 128;refine (SZ.out _ (MA.out.trans' (show Mod [] w1 _ from by exact mods))).mono ?_;rintro e' w2 ⟨z,v,rfl,hz,nn,m_w2⟩;have M_w2:=Mod.trans' (show Mod _ w1 _ from by exact mods) m_w2;have p3:=(M_w2.cell (a:=⟨bm,3,none⟩) hbm (by first | assumption | (simp;done))).trans p3;have d1:=(M_w2.cell (a:=⟨bm,262+m *3+1,none⟩) hbm (by first | assumption | (simp;done))).trans d1;have d2:=(M_w2.cell (a:=⟨bm,262+m *3+1+1,none⟩) hbm (by first | assumption | (simp;done))).trans d2;have hbm:=Nat.lt_of_lt_of_le hbm M_w2.size;skip))
 all_goals
  have MZ:=Lib.hid (MA.out.trans' M_w2)
  obtain ⟨l,hc,F2,hs,-,-⟩:=nn
  obtain ⟨Av,capv,rfl,hcapv⟩:=hs.shape
  cases l with
  | nil=>
   clear hs hc
   simp only [List.map_nil,List.length_nil] at hcapv ⊢
   go_wp2_with fail
   go_ret2
   exact ⟨0,rfl,by omega,MZ.out⟩
  | cons y ys=>
   have hy:y≤8:=by
    have hv:=hc.val
    unfold vl at hv
    have:y≤z:=by rw [←hv];exact Nat.le_add_right _ _
    omega
   obtain ⟨gv,capv2,e1,-,-⟩:=hs.pos (by simp)
   simp only [Value.slice.injEq] at e1
   obtain ⟨rfl,-,-⟩:=e1
   have c0:=(hs.at 0 (by simp)).1
   simp only [List.map_cons,List.getElem?_cons_zero] at c0
   replace c0:w2.cell? ⟨gv,0,none⟩=some (.int .u64 (y:Int)):=c0
   have hyi:(y:Int)≤8:=by omega
   have hy0:(0:Int)≤y:=by omega
   obtain ⟨N,hN⟩:∃N,((y::ys).map e6).length=N:=⟨_,rfl⟩
   have hN0:0 < N:=by rw [←hN];simp
   have hNe:((N:Int)==0)=false:=by simp;omega
   have hNi:(0:Int) < N:=by omega
   rw [hN] at hcapv ⊢
   clear hs hc hN
   go_wp2_with fail
   go_ret2
   exact ⟨y,rfl,hy,MZ.out⟩
theorem mngSupport_c {w:World} {bm room:Nat} {L:List Rc} {Fs p:List Nat} {H:List (Nat × Ed)} {bs bo bq:Nat} {F:List Nat} (h:Mng w bm 3 room L Fs p H bs bo bq F) (hL:L.length≤1048576) (hnd:L.Nodup) (hG:Good L 3) (hp:p.length=3) (hpv:∀v∈p,v < 16) (hH:H.length≤256)
 {a f:Nat} {e:Ed} {T:Tr} (hf:H[a]? =some (f,e)) (hD:Dia L 3 f e T):
 Calls Tryz.prog 108 #[.pointer (some ⟨bm,0,none⟩),.int .i64 ((a+1:Nat):Int)] w fun e' w'=>∃z:Nat,e'=.returned (.tuple #[.int .u16 z,.int .u8 0])∧z < 65536∧Mod [] w w':=by
 obtain ⟨ba,bg,vk,vq,vg,Fo,q,g1,g2,g3,-,g5,-⟩:=h.m
 have p1:=g1.cell 1 (by omega)
 replace p1:w.cell? ⟨bm,1,none⟩=some (.pointer (some ⟨bq,0,none⟩)):=p1
 have p3:=g1.cell 3 (by omega)
 replace p3:w.cell? ⟨bm,3,none⟩=some (.pointer (some ⟨bs,0,none⟩)):=p3
 have p4:=g1.cell 4 (by omega)
 replace p4:w.cell? ⟨bm,4,none⟩=some (.pointer (some ⟨bo,0,none⟩)):=p4
 have hbm:=g1.lt
 obtain ⟨hl,hg⟩:=List.getElem?_eq_some_iff.1 hf
 obtain ⟨-,d1,d2⟩:=g1.root hH a hl
 rw [hg] at d1 d2
 simp only at d1 d2
 have SZ:Hid (∀W,Mod [] w W→Calls Tryz.prog 130 #[.pointer (some ⟨bq,0,none⟩),.int .u8 f,edv e] W fun e' w'=>∃z:Nat,e'=.returned (.tuple #[.int .u16 z,.int .u8 0])∧z < 65536∧Mod [] W w'):=fun W md=>by
  exact quantSupport3_c (h.s.mod md (by simp)) hL hG (g5.mod md (by simp)) hD.root
 obtain ⟨g,hgz⟩:∃g,w.heap.size=g:=⟨_,rfl⟩
 have hm0':a+1 < 257:=by omega
 have MA:Hid (Mod [] w (w.alloc (.cells #[.int .i64 ((a+1:Nat):Int)] 3))):=(Mod.refl _ _).alloc _
 have SM:=Lib.hid (same1_c (g:=g) (cap:=1) (g1.mod MA.out (by simp)) hH (a:=a) (by have BA:=Blk.new' w #[.int .i64 ((a+1:Nat):Int)] 3 g hgz.symm;have:=BA.cell 0;simpa using this) hf)
 obtain ⟨m,hm⟩:∃m,a+1=m:=⟨_,rfl⟩
 rw [hm] at d1 d2 SM MA hm0' ⊢
 have hm3:(m:Int) < 257:=by omega
 have hm0:(0:Int)≤m:=by omega
 obtain ⟨t,x⟩:=e
 unfold edv at SZ
 simp only at d1 d2 SZ
 have d2':w.cell? ⟨bm,262+m *3+1+1,none⟩=some (.int .u32 x):=d2
 have VA:Hid (∀W',Mod [] w W'→Calls Tryz.prog 59 #[.pointer (some ⟨bs,0,none⟩)] W' fun e w'=>e=.returned (.int .i64 3)∧w'=W'):=fun W' md=>by
  obtain ⟨ba,bi,Fa,c0,_⟩:=(h.s.mod md (by simp)).own
  exact stVars_c bs 3 W' c0
 have OV:Hid (∀j:Nat,j < 3→∀W',Mod [] w W'→∃v:Nat,v < 16∧Calls Tryz.prog 89 #[.pointer (some ⟨bo,0,none⟩),.int .i64 j] W' fun e w'=>e=.returned (.int .i64 v)∧w'=W'):=fun j hj W' md=>
  ⟨p[j]'(by omega),hpv _ (List.getElem_mem _),ordVar_c (g2.mod md (by simp)) (by omega) j (by omega)⟩
 clear hg h hf hl hm g1 g2 g3 hD d2 hG hnd
 go_enter Tryz.func108,Tryz.ntmps108
 go_wp2_with fail
 have p1:=(MA.out.cell (a:=⟨bm,1,none⟩) hbm (by simp)).trans p1
 have p3:=(MA.out.cell (a:=⟨bm,3,none⟩) hbm (by simp)).trans p3
 have p4:=(MA.out.cell (a:=⟨bm,4,none⟩) hbm (by simp)).trans p4
 have d1:=(MA.out.cell (a:=⟨bm,262+m *3+1,none⟩) hbm (by simp)).trans d1
 have d2:=(MA.out.cell (a:=⟨bm,262+m *3+1+1,none⟩) hbm (by simp)).trans d2'
 have hbm:=Nat.lt_of_lt_of_le hbm MA.out.size
 refine SM.out.mono ?_
 rintro e w1 ⟨rfl,rfl⟩
 generalize w.alloc (.cells #[.int .i64 (m:Int)] 3)=w1 at *
 go_wp2_with fail
 go_region_held3 (fun w'=>w'.cell? ⟨bm,1,none⟩=some (.pointer (some ⟨bq,0,none⟩))∧w'.cell? ⟨bm,3,none⟩=some (.pointer (some ⟨bs,0,none⟩))∧w'.cell? ⟨bm,4,none⟩=some (.pointer (some ⟨bo,0,none⟩))∧w'.cell? ⟨bm,262+m *3+1,none⟩=some (.int .u8 t)∧w'.cell? ⟨bm,262+m *3+1+1,none⟩=some (.int .u32 x)) (go_keep) (first | (go_at_call 130;refine (SZ.out _ (MA.out.trans' (show Mod [] w1 _ from by exact mods))).mono ?_;rintro e' w2 ⟨z,rfl,hz,m_w2⟩;have M_w2:=Mod.trans' (show Mod _ w1 _ from by exact mods) m_w2;have p1:=(M_w2.cell (a:=⟨bm,1,none⟩) hbm (by first | assumption | (simp;done))).trans p1;have p3:=(M_w2.cell (a:=⟨bm,3,none⟩) hbm (by first | assumption | (simp;done))).trans p3;have p4:=(M_w2.cell (a:=⟨bm,4,none⟩) hbm (by first | assumption | (simp;done))).trans p4;have d1:=(M_w2.cell (a:=⟨bm,262+m *3+1,none⟩) hbm (by first | assumption | (simp;done))).trans d1;have d2:=(M_w2.cell (a:=⟨bm,262+m *3+1+1,none⟩) hbm (by first | assumption | (simp;done))).trans d2;have hbm:=Nat.lt_of_lt_of_le hbm M_w2.size;skip))
 all_goals
  have MZ:=Lib.hid (MA.out.trans' M_w2)
  clear m_w2 M_w2
  go_wp2_with fail
  refine (VA.out _ (by first | exact MZ.out | exact MZ.out.drewN _)).mono ?_
  rintro e w3 ⟨rfl,rfl⟩
  go_wp2_with fail
  go_loopw [9,10,46] (fun y _ i wx=>∃(j y':Nat),i=.int .i64 j∧j≤3∧y=.int .u16 y'∧y' < 65536∧wx=w3) (fun _ _ i _=>3 - (intOf i).toNat)
  case atStart=>exact ⟨0,0,rfl,by omega,rfl,by omega,rfl⟩
  case round=>
   obtain ⟨j,y,rfl,hj,rfl,hy,rfl⟩:=hrel
   by_cases hjl:j < 3
   ·have hjl':(j:Int) < 3:=by omega
    have hj0:(0:Int)≤j:=by omega
    obtain ⟨v,hv16,OV⟩:=OV.out j hjl _ MZ.out
    have OV:=Lib.hid OV
    cases hb:(bits BinOp.and IntKind.u16 ((z:Int) / 2 ^ j) 1==1) with
    | false=>
     go_wp2_with fail
     go_roundw
     case rel=>exact ⟨j+1,y,by first | rfl | go_num,by omega,rfl,hy,by first | rfl | trivial⟩
     case measure=>simp [intOf];omega
    | true=>
     go_wp2_with fail
     refine OV.out.mono ?_
     rintro e w4 ⟨rfl,rfl⟩
     go_wp2_with fail
     obtain ⟨y3,e3,hy3⟩:=u16_bits .or (y:Int) (IntKind.u16.wrap (2 ^ v))
     first
      | exact ⟨⟨j+1,y3,by simp,by omega,by rw [e3],hy3,trivial⟩,by simp [intOf];omega⟩
      | (
       go_roundw
       case rel=>exact ⟨j+1,y3,by first | rfl | go_num,by omega,by rw [e3],hy3,by first | rfl | trivial⟩
       case measure=>simp [intOf];omega)
   ·obtain rfl:j=3:=by omega
    go_wp2_with fail
    go_ret2
    exact ⟨y,rfl,hy,MZ.out⟩
theorem mngSet_c {w:World} {bm room:Nat} {L:List Rc} {Fs p:List Nat} {H:List (Nat × Ed)} {bs bo bq:Nat} {F:List Nat} (h:Mng w bm 3 room L Fs p H bs bo bq F) (hL:L.length≤1048576) (hnd:L.Nodup) (hG:Good L 3) (hp:p.length=3) (hpv:∀v∈p,v < 16) (hH:H.length≤256)
 {a f:Nat} {e:Ed} {T:Tr} (hf:H[a]? =some (f,e)) (hD:Dia L 3 f e T):
 Calls Tryz.prog 14 #[.pointer (some ⟨bm,0,none⟩),.int .i64 ((a+1:Nat):Int)] w fun e' w'=>SetP w e' w':=by
 obtain ⟨ba,bg,vk,vq,vg,Fo,q,g1,g2,g3,-,g5,-⟩:=h.m
 have p3:=g1.cell 3 (by omega)
 replace p3:w.cell? ⟨bm,3,none⟩=some (.pointer (some ⟨bs,0,none⟩)):=p3
 have p4:=g1.cell 4 (by omega)
 replace p4:w.cell? ⟨bm,4,none⟩=some (.pointer (some ⟨bo,0,none⟩)):=p4
 have hbm:=g1.lt
 obtain ⟨hl,hg⟩:=List.getElem?_eq_some_iff.1 hf
 obtain ⟨-,d1,d2⟩:=g1.root hH a hl
 rw [hg] at d1 d2
 simp only at d1 d2
 have SZ:Hid (∀W,Mod [] w W→Calls Tryz.prog 36 #[.pointer (some ⟨bs,0,none⟩),.pointer (some ⟨bo,0,none⟩),.int .u8 f,edv e] W fun e' w'=>∃gw wd,e'=.returned (.tuple #[.agg #[.int .i64 3,.slice (some ⟨gw,0,none⟩) 1 1],.int .u8 0])∧wd < 256∧Blk w' gw #[.int .u64 (wd:Nat)] 22∧W.heap.size≤gw∧Mod [] W w'):=fun W md=>by
  exact buildSet3_c (h.s.mod md (by simp)) hL hG (g2.mod md (by simp)) hp hpv hD.root
 obtain ⟨g,hgz⟩:∃g,w.heap.size=g:=⟨_,rfl⟩
 have hm0':a+1 < 257:=by omega
 have MA:Hid (Mod [] w ((w.alloc (.cells #[.int .i64 0,.slice none 0 0] 39)).alloc (.cells #[.int .i64 ((a+1:Nat):Int)] 3))):=((Mod.refl _ _).alloc _).alloc _
 have BK:Hid (Blk ((w.alloc (.cells #[.int .i64 0,.slice none 0 0] 39)).alloc (.cells #[.int .i64 ((a+1:Nat):Int)] 3)) g #[.int .i64 0,.slice none 0 0] 39):=(Blk.new' w _ _ g hgz.symm).alloc _
 have SM:=Lib.hid (same1_c (g:=g+1) (cap:=1) (g1.mod MA.out (by simp)) hH (a:=a) (by have BA:=Blk.new' (w.alloc (.cells #[.int .i64 0,.slice none 0 0] 39)) #[.int .i64 ((a+1:Nat):Int)] 3 (g+1) (by simp [hgz]);have:=BA.cell 0;simpa using this) hf)
 obtain ⟨m,hm⟩:∃m,a+1=m:=⟨_,rfl⟩
 rw [hm] at d1 d2 SM MA BK hm0' ⊢
 have hm3:(m:Int) < 257:=by omega
 have hm0:(0:Int)≤m:=by omega
 obtain ⟨t,x⟩:=e
 unfold edv at SZ
 simp only at d1 d2 SZ
 have d2':w.cell? ⟨bm,262+m *3+1+1,none⟩=some (.int .u32 x):=d2
 skip
 clear hg h hf hl hm g1 g2 g3 hD d2 hG hnd
 go_enter Tryz.func14,Tryz.ntmps14
 go_wp2_with fail
 have p3:=(MA.out.cell (a:=⟨bm,3,none⟩) hbm (by simp)).trans p3
 have p4:=(MA.out.cell (a:=⟨bm,4,none⟩) hbm (by simp)).trans p4
 have d1:=(MA.out.cell (a:=⟨bm,262+m *3+1,none⟩) hbm (by simp)).trans d1
 have d2:=(MA.out.cell (a:=⟨bm,262+m *3+1+1,none⟩) hbm (by simp)).trans d2'
 obtain ⟨k0,k1⟩:=BK.out.cells2
 have hgl:=BK.out.lt
 have hgb:¬g=bm:=by omega
 have hgb2:¬bm=g:=by omega
 have hbm:=Nat.lt_of_lt_of_le hbm MA.out.size
 refine SM.out.mono ?_
 rintro e w1 ⟨rfl,rfl⟩
 generalize (w.alloc (.cells #[.int .i64 0,.slice none 0 0] 39)).alloc (.cells #[.int .i64 (m:Int)] 3)=w1 at *
 go_wp2_with fail
 go_region_held3 (fun w'=>w'.cell? ⟨bm,3,none⟩=some (.pointer (some ⟨bs,0,none⟩))∧w'.cell? ⟨bm,4,none⟩=some (.pointer (some ⟨bo,0,none⟩))∧w'.cell? ⟨bm,262+m *3+1,none⟩=some (.int .u8 t)∧w'.cell? ⟨bm,262+m *3+1+1,none⟩=some (.int .u32 x)) (go_keep) (first | (go_at_call 36;refine (SZ.out _ (MA.out.trans' (show Mod [] w1 _ from by exact mods))).mono ?_;rintro e' w2 ⟨gw,wd,rfl,hwd,bgw,hgw,m_w2⟩;have M_w2:=Mod.trans' (show Mod _ w1 _ from by exact mods) m_w2;have p3:=(M_w2.cell (a:=⟨bm,3,none⟩) hbm (by first | assumption | (simp;done))).trans p3;have p4:=(M_w2.cell (a:=⟨bm,4,none⟩) hbm (by first | assumption | (simp;done))).trans p4;have d1:=(M_w2.cell (a:=⟨bm,262+m *3+1,none⟩) hbm (by first | assumption | (simp;done))).trans d1;have d2:=(M_w2.cell (a:=⟨bm,262+m *3+1+1,none⟩) hbm (by first | assumption | (simp;done))).trans d2;have hbm:=Nat.lt_of_lt_of_le hbm M_w2.size;have f0:=(BK.out.mod M_w2 (by simp)).froz 0;have f1:=(BK.out.mod M_w2 (by simp)).froz 1;have k0:=(M_w2.cell (a:=⟨g,0,none⟩) BK.out.lt (by simp)).trans k0;have k1:=(M_w2.cell (a:=⟨g,1,none⟩) BK.out.lt (by simp)).trans k1;have hgl:=Nat.lt_of_lt_of_le hgl M_w2.size))
 all_goals
  have BX:=((BK.out.mod M_w2 (by simp)).set 0 (.int .i64 3)).set 1 (.slice (some ⟨gw,0,none⟩) 1 1)
  simp only [List.setIfInBounds_toArray,List.set_cons_zero,List.set_cons_succ] at BX
  have MX:Mod [g] w2 ((w2.setCell ⟨g,0,none⟩ (.int .i64 3)).setCell ⟨g,1,none⟩ (.slice (some ⟨gw,0,none⟩) 1 1)):=by exact mods
  have hgw':w1.heap.size≤gw:=hgw
  have hgw1:g < gw:=by have:=BK.out.lt;omega
  have BGX:=bgw.mod MX (by simp;omega)
  have MF:=(MA.out.trans' M_w2).trans MX (by intro i hi hm;simp at hm;omega)
  have hgw2:w.heap.size≤gw:=by omega
  obtain ⟨z0,z1⟩:=BX.cells2
  clear k0 k1 f0 f1 p3 p4 d1 d2 m_w2 M_w2
  generalize (w2.setCell ⟨g,0,none⟩ (.int .i64 3)).setCell ⟨g,1,none⟩ (.slice (some ⟨gw,0,none⟩) 1 1)=X at *
  go_wp2_with fail
  refine bodyPost_ret (v:=.tuple #[.agg #[.int .i64 3,.slice (some ⟨gw,0,none⟩) 1 1],.int .u8 0]) (by simp [results,Tryz.results14,go_sem,z0,z1];try rfl) rfl ?_
  exact ⟨gw,wd,rfl,hwd,BGX,hgw2,MF⟩
theorem perm_c {w:World} {bo:Nat} {p q Fo:List Nat} (hO:IsOrd w bo p q Fo) (hp:p.length≤16):Calls Tryz.prog 104 #[.pointer (some ⟨bo,0,none⟩)] w fun e w'=>∃v,e=.returned v∧NewV 3 w (p.map ei) w' v:=by
 obtain ⟨vp,vq,Fp,Fq,h1,h2,h3,rfl,r⟩:=hO
 have c0:=h1.cell 0
 simp only [List.getElem?_toArray,List.getElem?_cons_zero] at c0
 have CL:=Lib.hid (cloneInts_c (Rv.of_sl h2 (by simp)) (by intro u hu;simp at hu;obtain ⟨x,-,rfl⟩:=hu;rfl) (by simp;omega))
 obtain ⟨a,cap,rfl,hcap⟩:=h2.shape
 clear h1 h2 h3
 go_enter Tryz.func104,Tryz.ntmps104
 go_wp2_with fail
 refine CL.out.mono ?_
 rintro e w' ⟨v,rfl,n⟩
 have N:=Lib.hid n
 clear n CL
 go_wp2_with fail
 go_ret
 exact ⟨_,rfl,N.out⟩
theorem mngOrder_c {w:World} {bm n room:Nat} {L:List Rc} {Fs p:List Nat} {H:List (Nat × Ed)} {bs bo bq:Nat} {F:List Nat} (h:Mng w bm n room L Fs p H bs bo bq F) (hp:p.length≤16):
 Calls Tryz.prog 75 #[.pointer (some ⟨bm,0,none⟩)] w fun e w'=>∃v,e=.returned v∧NewV 3 w (p.map ei) w' v:=by
 obtain ⟨ba,bg,vk,vq,vg,Fo,q,g1,g2,g3,-⟩:=h.m
 have d4:=g1.cell 4 (by omega)
 replace d4:w.cell? ⟨bm,4,none⟩=some (.pointer (some ⟨bo,0,none⟩)):=d4
 have PE:=Lib.hid (perm_c g2 hp)
 clear h g1 g2 g3
 go_enter Tryz.func75,Tryz.ntmps75
 go_wp2_with fail
 refine PE.out.mono ?_
 rintro e w1 ⟨v,rfl,n⟩
 have N:=Lib.hid n
 clear n PE
 go_wp2_with fail
 go_ret
 exact ⟨_,rfl,N.out⟩
end Go.Proofs.YtlafpknoiihaaaaGreatDoor
