/- Mq10: Mn · Mh · Mi · Jf · Pm · Mx -/
import Derived.Test.YtlafpknoiihaaaaGreatDoorMq09
import Derived.Test.YtlafpknoiihaaaaGreatDoorMq07
import Derived.Test.YtlafpknoiihaaaaGreatDoorMq01
set_option maxHeartbeats 4000000
set_option maxRecDepth 100000
set_option linter.unusedVariables false
set_option linter.unusedSimpArgs false
namespace Go.Proofs.YtlafpknoiihaaaaGreatDoor
open Go.RowKit
theorem permSame_c (n:Nat) (hn:n≤16) (w:World):Calls Tryz.prog 50 #[.int .i64 n] w fun e w'=>∃v,e=.returned (.tuple #[v,.bool true])∧NewV 3 w ((List.range n).map ei) w' v:=by
 have hn':(n:Int)≤16:=by omega
 have hmk:∀w,(Instr.makeSlice 28 (.int .i64 n) (.int .i64 n)).run Tryz.prog w=.ok (.slice (some ⟨w.heap.size,0,none⟩) n n) (w.alloc (.cells (madeCells #[.int .i64 0] n) 3)):=fun w=>madeInts w n (by omega)
 obtain ⟨g,hg⟩:∃g,w.heap.size=g:=⟨_,rfl⟩
 go_enter Tryz.func50,Tryz.ntmps50
 go_wp2_with fail
 have HG:=Lib.hid hg
 have S0:=Lib.hid (Sl.made1 w 3 n (.int .i64 0) (by unfold maxLen;omega) g hg.symm)
 have M0:Hid (Mod [] w (w.alloc (.cells (madeCells #[.int .i64 0] n) 3))):=(Mod.refl _ _).alloc _
 clear hmk hg
 generalize w.alloc (.cells (madeCells #[.int .i64 0] n) 3)=w0 at *
 go_loopw [5,16] (fun _ i wr=>∃k:Nat,∃xs:List Nat,k≤n∧i=.int .i64 k∧xs.length=n∧(∀j,j < k→xs[j]? =some j)∧Sl wr 3 1 (.slice (some ⟨g,0,none⟩) n n) n (xs.map ei) [g]∧Mod [] w wr) (fun _ i _=>n - (intOf i).toNat)
 case atStart=>exact ⟨0,List.replicate n 0,by omega,rfl,by simp,by omega,by simpa [ei] using S0.out,M0.out⟩
 case round=>
  obtain ⟨k,xs,hk,rfl,hxl,hxs,hs,hm⟩:=hrel
  have HXL:=Lib.hid hxl
  have HXS:=Lib.hid hxs
  have HS:=Lib.hid hs
  have HM:=Lib.hid hm
  clear hxl hxs hs hm S0 M0
  by_cases hlt:k < n
  ·have hlt':(k:Int) < n:=by omega
   obtain ⟨d0,d1,-⟩:=HS.out.at k (by omega)
   rw [List.getElem?_eq_getElem (by rw [List.length_map,HXL.out];omega)] at d0
   have hgl:=HS.out.lt g (by simp)
   go_wp2_with fail
   have HS2:Hid (Sl (wr.setCell ⟨g,k,none⟩ (.int .i64 k)) 3 1 (.slice (some ⟨g,0,none⟩) n n) n ((xs.set k k).map ei) [g]):=by
    show Sl _ _ _ _ _ _ _
    rw [List.map_set];exact HS.out.set k (.int .i64 k)
   have HM2:Hid (Mod [] w (wr.setCell ⟨g,k,none⟩ (.int .i64 k))):=HM.out.setCell _ _ (by have:=HG.out;simp;omega)
   go_roundw
   case rel=>
    refine ⟨k+1,xs.set k k,by omega,by first | rfl | (simp;try omega),by rw [List.length_set];exact HXL.out,fun j hj=>?_,HS2.out,HM2.out⟩
    rw [List.getElem?_set]
    split
    ·rename_i e;subst e;rw [if_pos (by rw [HXL.out];exact hlt)]
    ·exact HXS.out j (by omega)
   case measure=>simp [intOf];omega
  ·have hkn:k=n:=by omega
   subst hkn
   go_wp2_with fail
   go_ret2
   have e:xs=List.range k:=List.ext_getElem? fun j=>by
    by_cases hj:j < k
    ·rw [HXS.out j hj,List.getElem?_range hj]
    ·rw [List.getElem?_eq_none (by rw [HXL.out];omega),List.getElem?_eq_none (by simp;omega)]
   rw [←e]
   refine ⟨_,rfl,[g],?_,HM.out,fun q hq=>by simp at hq;rw [hq];exact Nat.le_of_eq HG.out⟩
   have:=HS.out
   rw [show (xs.map ei).length=k by rw [List.length_map,HXL.out]]
   exact this
theorem orderNew_c (n:Nat) (hn:n≤16) (w:World):Calls Tryz.prog 24 #[.int .i64 n] w (OrdP w (List.range n)):=by
 have PS:Hid (∀w,_):=permSame_c n hn
 go_enter Tryz.func24,Tryz.ntmps24
 go_wp2_with fail
 refine (PS.out _).mono ?_
 rintro e w1 ⟨v1,rfl,n1⟩
 obtain ⟨A1,c1,hv⟩:=n1.shape
 obtain ⟨F1,r1,-⟩:=n1.rv
 have hl:((List.range n).map ei).length=n:=by simp
 rw [hl] at hv
 subst hv
 have OO:Hid (∀W,Mod [] w1 W→Calls Tryz.prog 51 #[.slice A1 n c1] W (OrdP W (List.range n))):=fun W m=>orderOf_c (r1.mod m (by simp)) ⟨by simp,by simp,List.nodup_range⟩ hn
 have M1:=Lib.hid n1.mod
 clear r1 n1 PS hl
 go_wp2_with fail
 refine (OO.out _ (by exact mods)).mono ?_
 rintro e w2 ⟨bo,q,Fo,rfl,io,inv,m2,fo⟩
 have IOR:=Lib.hid io
 have INV:=Lib.hid inv
 have FO:Hid (∀k∈Fo,w.heap.size≤k):=fun k hk=>Nat.le_trans M1.out.size (fo k hk)
 have M2:=Lib.hid (M1.out.trans' m2)
 clear io inv fo m2
 go_wp2_with fail
 go_ret2
 exact ⟨bo,q,Fo,rfl,IOR.out,INV.out,M2.out,FO.out⟩
def mgL (q:List Value) (H:List (Nat × Ed)) (i:Nat):Value:=
 if i < 5 then q.getD i (.bool false) else if i < 262 then .bool (decide (6≤i∧i≤5+H.length)) else
 match (if i < 265 then none else H[(i - 265) / 3]?) with
 | some (f,e)=>if (i - 262) % 3=0 then .int .u8 f else if (i - 262) % 3=1 then .int .u8 e.t else .int .u32 e.a
 | none=>if (i - 262) % 3=2 then .int .u32 0 else .int .u8 0
theorem Tryz.zeroM:Tryz.zeroCells71=((List.range 1033).map (mgL [.pointer none,.pointer none,.pointer none,.pointer none,.pointer none] [])).toArray:=by kernel_rfl
structure Mgr (w:World) (b:Nat) (q:List Value) (H:List (Nat × Ed)):Prop where
 blk:∃c,Blk w b c 71∧c.size=1033∧∀i,i < 1033→c[i]? =some (mgL q H i)
theorem Mgr.mod {S:List Nat} {w w':World} {b:Nat} {q:List Value} {H:List (Nat × Ed)} (h:Mgr w b q H) (m:Mod S w w') (hb:b∉S):Mgr w' b q H:=by
 obtain ⟨c,h1,h2⟩:=h.blk;exact ⟨c,h1.mod m hb,h2⟩
theorem Mgr.cell {w:World} {b:Nat} {q:List Value} {H:List (Nat × Ed)} (h:Mgr w b q H) (i:Nat) (hi:i < 1033):w.cell? ⟨b,i,none⟩=some (mgL q H i):=by
 obtain ⟨c,h1,h2,h3⟩:=h.blk;rw [h1.cell];exact h3 i hi
theorem Mgr.froz {w:World} {b:Nat} {q:List Value} {H:List (Nat × Ed)} (h:Mgr w b q H) (i:Nat):w.frozen? ⟨b,i,none⟩=false:=by
 obtain ⟨c,h1,h2,h3⟩:=h.blk;exact h1.froz i
theorem Mgr.lt {w:World} {b:Nat} {q:List Value} {H:List (Nat × Ed)} (h:Mgr w b q H):b < w.heap.size:=by
 obtain ⟨c,h1,h2,h3⟩:=h.blk;exact h1.lt
theorem mgL_low (q:List Value) (H:List (Nat × Ed)) (i:Nat) (hi:i < 5):mgL q H i=q.getD i (.bool false):=by unfold mgL;rw [if_pos hi]
theorem Mgr.ptr {w:World} {b:Nat} {q:List Value} {H:List (Nat × Ed)} (h:Mgr w b q H) (hq:q.length=5) (j:Nat) (hj:j < 5) (v:Value):Mgr (w.setCell ⟨b,j,none⟩ v) b (q.set j v) H:=by
 obtain ⟨c,h1,h2,h3⟩:=h.blk
 refine ⟨_,h1.set j v,by simp [h2],fun i hi=>?_⟩
 rw [Array.getElem?_setIfInBounds]
 by_cases e:j=i
 ·subst e
  rw [if_pos rfl,if_pos (by omega),mgL_low _ _ _ hj,List.getD_eq_getElem?_getD,List.getElem?_set_self (by omega)]
  rfl
 ·rw [if_neg e,h3 i hi]
  by_cases h5:i < 5
  ·rw [mgL_low _ _ _ h5,mgL_low _ _ _ h5,List.getD_eq_getElem?_getD,List.getD_eq_getElem?_getD,List.getElem?_set_ne e]
  ·unfold mgL;rw [if_neg h5,if_neg h5]
theorem Mgr.fresh (w:World) (bm:Nat) (h:bm=w.heap.size) (v:Value):Mgr (w.alloc (.cells (Tryz.zeroCells71.setIfInBounds 3 v) 71)) bm [.pointer none,.pointer none,.pointer none,v,.pointer none] []:=by
 refine ⟨_,Blk.new' w _ _ bm h,by rw [Array.size_setIfInBounds];exact Tryz.zeroCells71_size,fun i hi=>?_⟩
 rw [Array.getElem?_setIfInBounds]
 have hsz:Tryz.zeroCells71.size=1033:=Tryz.zeroCells71_size
 by_cases e:3=i
 ·subst e
  rw [if_pos rfl,if_pos (by omega)];rfl
 ·rw [if_neg e,Tryz.zeroM,List.getElem?_toArray,List.getElem?_map,List.getElem?_range hi]
  simp only [Option.map_some]
  by_cases h5:i < 5
  ·rw [mgL_low _ _ _ h5,mgL_low _ _ _ h5]
   obtain rfl | rfl | rfl | rfl:i=0∨i=1∨i=2∨i=4:=by omega
   all_goals rfl
  ·unfold mgL;rw [if_neg h5,if_neg h5]
structure Mng (w:World) (bm n room:Nat) (L:List Rc) (Fs:List Nat) (p:List Nat) (H:List (Nat × Ed)) (bs bo bq:Nat) (F:List Nat):Prop where
 m:∃ba bg vk vq vg Fo q,Mgr w bm [.pointer (some ⟨ba,0,none⟩),.pointer (some ⟨bq,0,none⟩),.pointer (some ⟨bg,0,none⟩),.pointer (some ⟨bs,0,none⟩),.pointer (some ⟨bo,0,none⟩)] H∧
  IsOrd w bo p q Fo∧Inv p q∧Blk w ba #[.pointer (some ⟨bs,0,none⟩),vk] 124∧Blk w bq #[.pointer (some ⟨ba,0,none⟩),.pointer (some ⟨bs,0,none⟩),vq] 133∧
  Blk w bg #[.pointer (some ⟨ba,0,none⟩),.pointer (some ⟨bs,0,none⟩),vg,.int .u8 0] 140∧F=bm::ba::bq::bg::Fo∧(∀k∈Fs,k∉F)∧bm∉Fo∧bm≠ba∧bm≠bq∧bm≠bg
 s:IsSt w bs n L room Fs
theorem managerNew_c (n room:Nat) (hn:n≤16) (hr:room≤1048576) (w:World):Calls Tryz.prog 8 #[.int .i64 n,.int .i64 room] w fun e w'=>∃bm bs bo bq Fs F,e=.returned (.tuple #[.pointer (some ⟨bm,0,none⟩),.int .u8 0])∧Mng w' bm n room [] Fs (List.range n) [] bs bo bq F∧Mod [] w w'∧(∀k∈Fs,w.heap.size≤k)∧∀k∈F,w.heap.size≤k:=by
 have SN:Hid (∀w,_):=stNew_c n room hn hr
 have ON:Hid (∀w,_):=orderNew_c n hn
 go_enter Tryz.func8,Tryz.ntmps8
 go_wp2_with fail
 refine (SN.out _).mono ?_
 rintro e w1 ⟨bs,Fs,rfl,s1,m1,f1⟩
 have F1:=Lib.hid f1
 clear f1
 go_wp2_with fail
 have S1:=Lib.hid s1
 have M1:=Lib.hid m1
 have SL:=Lib.hid s1.lt
 clear s1 m1 SN
 obtain ⟨bm,hbm⟩:∃bm,w1.heap.size=bm:=⟨_,rfl⟩
 rw [hbm]
 have BM:=Lib.hid (Mgr.fresh w1 bm hbm.symm (.pointer (some ⟨bs,0,none⟩)))
 have MA:Hid (Mod [] w1 (w1.alloc (.cells (Tryz.zeroCells71.setIfInBounds 3 (.pointer (some ⟨bs,0,none⟩))) 71))):=(Mod.refl _ _).alloc _
 have HBM:=Lib.hid hbm
 have hsz:(w1.alloc (.cells (Tryz.zeroCells71.setIfInBounds 3 (.pointer (some ⟨bs,0,none⟩))) 71)).heap.size=bm+1:=by simp [hbm]
 have HSZ:=Lib.hid hsz
 clear hbm hsz
 generalize w1.alloc (.cells (Tryz.zeroCells71.setIfInBounds 3 (.pointer (some ⟨bs,0,none⟩))) 71)=wA at *
 generalize Value.agg (Tryz.zeroCells71.setIfInBounds 3 (.pointer (some ⟨bs,0,none⟩)))=vA at *
 refine (ON.out _).mono ?_
 rintro e w2 ⟨bo,q,Fo,rfl,io,inv,m2,fo⟩
 have BM2:=BM.out.mod m2 (by simp)
 have c4:=BM2.cell 4 (by omega)
 have f4:=BM2.froz 4
 have IOR:=Lib.hid io
 have INV:=Lib.hid inv
 have FO:=Lib.hid fo
 have M2:=Lib.hid m2
 have hb2:=BM2.lt
 have B2:=Lib.hid BM2
 clear io inv fo m2 BM BM2
 go_wp2_with fail
 have B3:=Lib.hid (B2.out.ptr rfl 4 (by omega) (.pointer (some ⟨bo,0,none⟩)))
 have M3:Hid (Mod [bm] wA (w2.setCell ⟨bm,4,none⟩ (.pointer (some ⟨bo,0,none⟩)))):=(M2.out.mono (by simp)).setCell _ _ (by simp)
 have IO3:Hid (IsOrd (w2.setCell ⟨bm,4,none⟩ (.pointer (some ⟨bo,0,none⟩))) bo (List.range n) q Fo):=IOR.out.mod (S:=[bm]) ((Mod.refl _ _).setCell _ _ (by simp)) (fun k hk h=>by have h1:=FO.out k hk;have h2:=HSZ.out;simp at h;omega)
 have IOL:=Lib.hid IOR.out.lt
 have SZ3:Hid (w2.heap.size≤(w2.setCell ⟨bm,4,none⟩ (.pointer (some ⟨bo,0,none⟩))).heap.size):=by show _≤_;simp
 have hb3:bm < (w2.setCell ⟨bm,4,none⟩ (.pointer (some ⟨bo,0,none⟩))).heap.size:=by simpa using hb2
 clear c4 f4 hb2
 generalize w2.setCell ⟨bm,4,none⟩ (.pointer (some ⟨bo,0,none⟩))=w3 at *
 refine (applyNew_c bs w3).mono ?_
 rintro e w4 ⟨ba,vk,rfl,ab,m4,ha⟩
 have AB:=Lib.hid ab
 have M4:=Lib.hid m4
 have HA:=Lib.hid ha
 have B4:=Lib.hid (B3.out.mod m4 (by simp))
 have c0:=B4.out.cell 0 (by omega)
 have f0:=B4.out.froz 0
 have hb4:=B4.out.lt
 have hbe:¬ba=bm:=by omega
 clear ab m4 ha B3 B2
 go_wp2_with fail
 have B5:=Lib.hid (B4.out.ptr rfl 0 (by omega) (.pointer (some ⟨ba,0,none⟩)))
 have M5:Hid (Mod [bm] w4 (w4.setCell ⟨bm,0,none⟩ (.pointer (some ⟨ba,0,none⟩)))):=(Mod.refl _ _).setCell _ _ (by simp)
 have SZ5:Hid ((w4.setCell ⟨bm,0,none⟩ (.pointer (some ⟨ba,0,none⟩))).heap.size=w4.heap.size):=by show _=_;simp
 have AB5:=Lib.hid (AB.out.mod M5.out (by simp [hbe]))
 have d0:(w4.setCell ⟨bm,0,none⟩ (.pointer (some ⟨ba,0,none⟩))).cell? ⟨bm,0,none⟩=some (.pointer (some ⟨ba,0,none⟩)):=B5.out.cell 0 (by omega)
 clear c0 f0 hb4
 generalize w4.setCell ⟨bm,0,none⟩ (.pointer (some ⟨ba,0,none⟩))=w5 at *
 refine (quantNew_c AB5.out).mono ?_
 rintro e w6 ⟨bq,vq,rfl,qb,m6,hq⟩
 have QB:=Lib.hid qb
 have M6:=Lib.hid m6
 have HQ:=Lib.hid hq
 have AB6:=Lib.hid (AB5.out.mod m6 (by simp))
 have B6:=Lib.hid (B5.out.mod m6 (by simp))
 have c1:=B6.out.cell 1 (by omega)
 have f1:=B6.out.froz 1
 have e0:=B6.out.cell 0 (by omega)
 have hb6:=B6.out.lt
 have hqe:¬bq=bm:=by have:=B5.out.lt;omega
 replace e0:w6.cell? ⟨bm,0,none⟩=some (.pointer (some ⟨ba,0,none⟩)):=e0
 clear qb m6 hq B5 B4 d0 AB
 go_wp2_with fail
 have B7:=Lib.hid (B6.out.ptr rfl 1 (by omega) (.pointer (some ⟨bq,0,none⟩)))
 have M7:Hid (Mod [bm] w6 (w6.setCell ⟨bm,1,none⟩ (.pointer (some ⟨bq,0,none⟩)))):=(Mod.refl _ _).setCell _ _ (by simp)
 have SZ7:Hid ((w6.setCell ⟨bm,1,none⟩ (.pointer (some ⟨bq,0,none⟩))).heap.size=w6.heap.size):=by show _=_;simp
 have AB7:=Lib.hid (AB6.out.mod M7.out (by simp [hbe]))
 have QB7:=Lib.hid (QB.out.mod M7.out (by simp [hqe]))
 clear c1 f1 e0 hb6 AB6 QB
 generalize w6.setCell ⟨bm,1,none⟩ (.pointer (some ⟨bq,0,none⟩))=w7 at *
 refine (familyNew_c AB7.out).mono ?_
 rintro e w8 ⟨bg,vg,rfl,gb,m8,hg⟩
 have GB:=Lib.hid gb
 have M8:=Lib.hid m8
 have HG:=Lib.hid hg
 have AB8:=Lib.hid (AB7.out.mod m8 (by simp))
 have QB8:=Lib.hid (QB7.out.mod m8 (by simp))
 have B8:=Lib.hid (B7.out.mod m8 (by simp))
 have c2:=B8.out.cell 2 (by omega)
 have f2:=B8.out.froz 2
 have hb8:=B8.out.lt
 have hge:¬bg=bm:=by have:=B7.out.lt;omega
 clear gb m8 hg B7 B6 AB7 QB7
 go_wp2_with fail
 go_ret2
 have B9:=B8.out.ptr rfl 2 (by omega) (.pointer (some ⟨bg,0,none⟩))
 have M9:Mod [bm] w8 (w8.setCell ⟨bm,2,none⟩ (.pointer (some ⟨bg,0,none⟩))):=(Mod.refl _ _).setCell _ _ (by simp)
 have MZ:Mod [bm] w3 (w8.setCell ⟨bm,2,none⟩ (.pointer (some ⟨bg,0,none⟩))):=
  ((((M4.out.mono (S':=[bm]) (by simp)).trans' (M5.out.trans' ((M6.out.mono (S':=[bm]) (by simp)).trans' (M7.out.trans' ((M8.out.mono (S':=[bm]) (by simp)).trans' M9)))))))
 have h1:=MA.out.size
 have h2:=HSZ.out
 have h3:=HBM.out
 have h4:=M2.out.size
 have h5:=SZ3.out
 have h6:=M4.out.size
 have h7:=M6.out.size
 have h8:=SZ5.out
 have h9:=SZ7.out
 have h10:=HA.out
 have h11:=HQ.out
 have h12:=HG.out
 have h13:=M1.out.size
 have hFo:∀k∈Fo,bm+1≤k∧k < w2.heap.size:=fun k hk=>⟨by have:=FO.out k hk;omega,IOL.out k hk⟩
 have hFs:∀k∈Fs,k < bm:=fun k hk=>by have:=SL.out k hk;omega
 have MM:Mod [bm] wA (w8.setCell ⟨bm,2,none⟩ (.pointer (some ⟨bg,0,none⟩))):=M3.out.trans' MZ
 have MW:Mod [] w (w8.setCell ⟨bm,2,none⟩ (.pointer (some ⟨bg,0,none⟩))):=(M1.out.trans' MA.out).trans MM (fun i hi hm=>by simp at hm;omega)
 refine ⟨bm,bs,bo,bq,Fs,bm::ba::bq::bg::Fo,rfl,⟨⟨ba,bg,vk,vq,vg,Fo,q,B9,IO3.out.mod MZ (fun k hk h=>by have:=hFo k hk;simp at h;omega),INV.out,AB8.out.mod M9 (by simp [hbe]),QB8.out.mod M9 (by simp [hqe]),GB.out.mod M9 (by simp [hge]),rfl,?_,fun h=>by have:=hFo _ h;omega,fun h=>hbe h.symm,fun h=>hqe h.symm,fun h=>hge h.symm⟩,?_⟩,MW,F1.out,?_⟩
 ·intro k hk h
  have q1:=hFs k hk
  simp at h
  rcases h with h | h | h | h | h
  ·omega
  ·omega
  ·omega
  ·omega
  ·have:=hFo k h;omega
 ·exact (S1.out.mod MA.out (by simp)).mod MM (fun k hk h=>by have:=hFs k hk;simp at h;omega)
 ·intro k hk
  simp at hk
  rcases hk with h | h | h | h | h
  ·omega
  ·omega
  ·omega
  ·omega
  ·have:=hFo k h;omega
open Go.RowKit
theorem Mgr.live {w:World} {b:Nat} {q:List Value} {H:List (Nat × Ed)} (h:Mgr w b q H) (i:Nat) (h1:1≤i) (h2:i≤256):w.cell? ⟨b,5+i,none⟩=some (.bool (decide (i≤H.length))):=by
 rw [h.cell _ (by omega)]
 unfold mgL
 rw [if_neg (by omega),if_pos (by omega)]
 rw [show decide (6≤5+i∧5+i≤5+H.length)=decide (i≤H.length) from decide_eq_decide.2 (by omega)]
theorem Mgr.root {w:World} {b:Nat} {q:List Value} {H:List (Nat × Ed)} (h:Mgr w b q H) (hH:H.length≤256) (i:Nat) (hi:i < H.length):
 w.cell? ⟨b,262+(i+1) *3,none⟩=some (.int .u8 (H[i]).1)∧w.cell? ⟨b,262+(i+1) *3+1,none⟩=some (.int .u8 (H[i]).2.t)∧w.cell? ⟨b,262+(i+1) *3+2,none⟩=some (.int .u32 (H[i]).2.a):=by
 obtain ⟨j,hj⟩:∃j,262+(i+1) *3=j:=⟨_,rfl⟩
 rw [hj]
 have hj2:j=265+3 *i:=by omega
 have e0:(j - 265) / 3=i:=by rw [hj2,Nat.add_sub_cancel_left];omega
 have e1:(j+1 - 265) / 3=i:=by rw [hj2,Nat.add_assoc,Nat.add_sub_cancel_left];omega
 have e2:(j+2 - 265) / 3=i:=by rw [hj2,Nat.add_assoc,Nat.add_sub_cancel_left];omega
 have g:H[i]? =some H[i]:=List.getElem?_eq_getElem hi
 refine ⟨?_,?_,?_⟩
 ·rw [h.cell _ (by omega)]
  unfold mgL
  rw [if_neg (by omega),if_neg (by omega),if_neg (by omega),e0,g]
  simp only
  rw [if_pos (by omega)]
 ·rw [h.cell _ (by omega)]
  unfold mgL
  rw [if_neg (by omega),if_neg (by omega),if_neg (by omega),e1,g]
  simp only
  rw [if_neg (by omega),if_pos (by omega)]
 ·rw [h.cell _ (by omega)]
  unfold mgL
  rw [if_neg (by omega),if_neg (by omega),if_neg (by omega),e2,g]
  simp only
  rw [if_neg (by omega),if_neg (by omega)]
theorem free_c {w:World} {b:Nat} {q:List Value} {H:List (Nat × Ed)} (h:Mgr w b q H) (hH:H.length < 256):Calls Tryz.prog 61 #[.pointer (some ⟨b,0,none⟩)] w fun e w'=>e=.returned (.int .i64 ((H.length+1:Nat):Int))∧w'=w:=by
 have HM:=Lib.hid h
 obtain ⟨n,hn⟩:∃n,H.length=n:=⟨_,rfl⟩
 rw [hn] at hH ⊢
 have HN:=Lib.hid hn
 clear h hn
 go_enter Tryz.func61,Tryz.ntmps61
 go_wp2_with fail
 go_loop [3] (fun i=>∃k:Nat,1≤k∧k≤n+1∧i=.int .i64 k) (fun i=>n+1 - (intOf i).toNat)
 case atStart=>exact ⟨1,by omega,by omega,rfl⟩
 case round=>
  obtain ⟨k,h1,h2,rfl⟩:=hrel
  have c:=HM.out.live k h1 (by omega)
  rw [HN.out] at c
  have hk:(k:Int)≤256:=by omega
  have hk2:(k:Int) < 257:=by omega
  by_cases hkn:k≤n
  ·rw [decide_eq_true hkn] at c
   go_wp2_with fail
   go_round
   case rel=>exact ⟨k+1,by omega,by omega,by first | rfl | (simp;try omega)⟩
   case measure=>simp [intOf];omega
  ·rw [decide_eq_false hkn] at c
   obtain rfl:k=n+1:=by omega
   go_wp2_with fail
   go_ret
   exact ⟨by first | rfl | simp,rfl⟩
theorem has_c {w:World} {b:Nat} {q:List Value} {H:List (Nat × Ed)} (h:Mgr w b q H) (hH:H.length≤256) (a:Nat) (h1:1≤a) (h2:a≤H.length):Calls Tryz.prog 43 #[.pointer (some ⟨b,0,none⟩),.int .i64 a] w fun e w'=>e=.returned (.bool true)∧w'=w:=by
 have c:=h.live a h1 (by omega)
 rw [decide_eq_true h2] at c
 have ha:(1:Int)≤a:=by omega
 have hb:(a:Int)≤256:=by omega
 have hc:(a:Int) < 257:=by omega
 clear h
 go_enter Tryz.func43,Tryz.ntmps43
 go_wp2_with fail
 go_ret
 exact ⟨by first | rfl | simp,rfl⟩
open Go.RowKit
theorem same0_c (b:Nat) (w:World):Calls Tryz.prog 31 #[.pointer (some ⟨b,0,none⟩),.slice none 0 0] w fun e w'=>e=.returned (.tuple #[.int .u8 0,.int .u8 0])∧w'=w:=by
 go_enter Tryz.func31,Tryz.ntmps31
 go_wp2_with fail
 refine wp_loop_rounds 1 ?_
 rw [rounds_succ]
 go_wp2_with fail
 refine wp_loop_rounds 1 ?_
 rw [rounds_succ]
 go_wp2_with fail
 go_ret2
 exact ⟨rfl,rfl⟩
theorem room0_c {w:World} {b:Nat} {q:List Value} {H:List (Nat × Ed)} (h:Mgr w b q H) (hH:H.length < 256):Calls Tryz.prog 32 #[.pointer (some ⟨b,0,none⟩),.slice none 0 0] w fun e w'=>e=.returned (.tuple #[.int .u8 0,.int .u8 0])∧w'=w:=by
 have FR:=Lib.hid (free_c h hH)
 have SM:Hid (∀w,_):=same0_c b
 obtain ⟨n,hn⟩:∃n,H.length=n:=⟨_,rfl⟩
 rw [hn] at FR
 have hne:¬((n+1:Nat):Int)=0:=by omega
 clear h hn hH
 go_enter Tryz.func32,Tryz.ntmps32
 go_wp2_with fail
 refine FR.out.mono ?_
 rintro e w1 ⟨rfl,rfl⟩
 go_wp2_with fail
 refine (SM.out _).mono ?_
 rintro e w1 ⟨rfl,rfl⟩
 go_wp2_with fail
 go_ret2
 exact ⟨rfl,rfl⟩
theorem same1_c {w:World} {b g cap a f:Nat} {e:Ed} {q:List Value} {H:List (Nat × Ed)} (h:Mgr w b q H) (hH:H.length≤256) (c0:w.cell? ⟨g,0,none⟩=some (.int .i64 ((a+1:Nat):Int))) (hf:H[a]? =some (f,e)):
 Calls Tryz.prog 31 #[.pointer (some ⟨b,0,none⟩),.slice (some ⟨g,0,none⟩) 1 cap] w fun e w'=>e=.returned (.tuple #[.int .u8 f,.int .u8 0])∧w'=w:=by
 obtain ⟨hl,hg⟩:=List.getElem?_eq_some_iff.1 hf
 have HA:Hid (∀w':World,w'=w→_):=fun w' e=>e▸has_c h hH (a+1) (by omega) (by omega)
 obtain ⟨d0,-⟩:=h.root hH a hl
 rw [hg] at d0
 obtain ⟨m,hm⟩:∃m,a+1=m:=⟨_,rfl⟩
 rw [hm] at d0 c0 HA
 have hm1:(m:Int)≤256:=by omega
 have hm2:(m:Int) < 257:=by omega
 have hm0:(0:Int)≤m:=by omega
 clear h hf hg hl hm
 go_enter Tryz.func31,Tryz.ntmps31
 go_wp2_with fail
 refine wp_loop_rounds 2 ?_
 rw [rounds_succ]
 go_wp2_with fail
 refine (HA.out _ rfl).mono ?_
 rintro e' w1 ⟨rfl,rfl⟩
 go_wp2_with fail
 rw [rounds_succ]
 go_wp2_with fail
 refine wp_loop_rounds 2 ?_
 rw [rounds_succ]
 go_wp2_with fail
 rw [rounds_succ]
 go_wp2_with fail
 go_ret2
 exact ⟨rfl,rfl⟩
theorem same2_c {w:World} {b g cap a a2 f f2:Nat} {e e2:Ed} {q:List Value} {H:List (Nat × Ed)} (h:Mgr w b q H) (hH:H.length≤256) (c0:w.cell? ⟨g,0,none⟩=some (.int .i64 ((a+1:Nat):Int))) (c1:w.cell? ⟨g,1,none⟩=some (.int .i64 ((a2+1:Nat):Int)))
 (hf:H[a]? =some (f,e)) (hf2:H[a2]? =some (f2,e2)) (hne:¬(f2:Int)=f):
 Calls Tryz.prog 31 #[.pointer (some ⟨b,0,none⟩),.slice (some ⟨g,0,none⟩) 2 cap] w fun e w'=>e=.returned (.tuple #[.int .u8 0,.int .u8 4])∧w'=w:=by
 obtain ⟨hl,hg⟩:=List.getElem?_eq_some_iff.1 hf
 obtain ⟨hl2,hg2⟩:=List.getElem?_eq_some_iff.1 hf2
 have HA:Hid (∀w':World,w'=w→_):=fun w' e=>e▸has_c h hH (a+1) (by omega) (by omega)
 have HA2:Hid (∀w':World,w'=w→_):=fun w' e=>e▸has_c h hH (a2+1) (by omega) (by omega)
 obtain ⟨d0,-⟩:=h.root hH a hl
 obtain ⟨d2,-⟩:=h.root hH a2 hl2
 rw [hg] at d0
 rw [hg2] at d2
 obtain ⟨m,hm⟩:∃m,a+1=m:=⟨_,rfl⟩
 rw [hm] at d0 c0 HA
 obtain ⟨m2,hm2⟩:∃m,a2+1=m:=⟨_,rfl⟩
 rw [hm2] at d2 c1 HA2
 have hm1:(m:Int)≤256:=by omega
 have hm3:(m:Int) < 257:=by omega
 have hm0:(0:Int)≤m:=by omega
 have hk1:(m2:Int)≤256:=by omega
 have hk3:(m2:Int) < 257:=by omega
 have hk0:(0:Int)≤m2:=by omega
 have hd:((f2:Int) != f)=true:=by simpa using hne
 clear h hf hg hl hm hf2 hg2 hl2 hm2
 go_enter Tryz.func31,Tryz.ntmps31
 go_wp2_with fail
 refine wp_loop_rounds 3 ?_
 rw [rounds_succ]
 go_wp2_with fail
 refine (HA.out _ rfl).mono ?_
 rintro e' w1 ⟨rfl,rfl⟩
 go_wp2_with fail
 rw [rounds_succ]
 go_wp2_with fail
 refine (HA2.out _ rfl).mono ?_
 rintro e' w1 ⟨rfl,rfl⟩
 go_wp2_with fail
 rw [rounds_succ]
 go_wp2_with fail
 refine wp_loop_rounds 2 ?_
 rw [rounds_succ]
 go_wp2_with fail
 rw [rounds_succ]
 go_wp2_with fail
 go_ret2
 exact ⟨rfl,rfl⟩
open Go.RowKit
theorem same2s_c {w:World} {b g cap a a2 f:Nat} {e e2:Ed} {q:List Value} {H:List (Nat × Ed)} (h:Mgr w b q H) (hH:H.length≤256) (c0:w.cell? ⟨g,0,none⟩=some (.int .i64 ((a+1:Nat):Int))) (c1:w.cell? ⟨g,1,none⟩=some (.int .i64 ((a2+1:Nat):Int)))
 (hf:H[a]? =some (f,e)) (hf2:H[a2]? =some (f,e2)):
 Calls Tryz.prog 31 #[.pointer (some ⟨b,0,none⟩),.slice (some ⟨g,0,none⟩) 2 cap] w fun e w'=>e=.returned (.tuple #[.int .u8 f,.int .u8 0])∧w'=w:=by
 obtain ⟨hl,hg⟩:=List.getElem?_eq_some_iff.1 hf
 obtain ⟨hl2,hg2⟩:=List.getElem?_eq_some_iff.1 hf2
 have HA:Hid (∀w':World,w'=w→_):=fun w' e=>e▸has_c h hH (a+1) (by omega) (by omega)
 have HA2:Hid (∀w':World,w'=w→_):=fun w' e=>e▸has_c h hH (a2+1) (by omega) (by omega)
 obtain ⟨d0,-⟩:=h.root hH a hl
 obtain ⟨d2,-⟩:=h.root hH a2 hl2
 rw [hg] at d0
 rw [hg2] at d2
 obtain ⟨m,hm⟩:∃m,a+1=m:=⟨_,rfl⟩
 rw [hm] at d0 c0 HA
 obtain ⟨m2,hm2⟩:∃m,a2+1=m:=⟨_,rfl⟩
 rw [hm2] at d2 c1 HA2
 have hm1:(m:Int)≤256:=by omega
 have hm3:(m:Int) < 257:=by omega
 have hm0:(0:Int)≤m:=by omega
 have hk1:(m2:Int)≤256:=by omega
 have hk3:(m2:Int) < 257:=by omega
 have hk0:(0:Int)≤m2:=by omega
 have hd:((f:Int) != f)=false:=by simp
 clear h hf hg hl hm hf2 hg2 hl2 hm2
 go_enter Tryz.func31,Tryz.ntmps31
 go_wp2_with fail
 refine wp_loop_rounds 3 ?_
 rw [rounds_succ]
 go_wp2_with fail
 refine (HA.out _ rfl).mono ?_
 rintro e' w1 ⟨rfl,rfl⟩
 go_wp2_with fail
 rw [rounds_succ]
 go_wp2_with fail
 refine (HA2.out _ rfl).mono ?_
 rintro e' w1 ⟨rfl,rfl⟩
 go_wp2_with fail
 rw [rounds_succ]
 go_wp2_with fail
 refine wp_loop_rounds 3 ?_
 rw [rounds_succ]
 go_wp2_with fail
 rw [rounds_succ]
 go_wp2_with fail
 rw [rounds_succ]
 go_wp2_with fail
 go_ret2
 exact ⟨rfl,rfl⟩
theorem room2_c {w:World} {b g cap a a2 f:Nat} {e e2:Ed} {q:List Value} {H:List (Nat × Ed)} (h:Mgr w b q H) (hH:H.length < 256) (c0:w.cell? ⟨g,0,none⟩=some (.int .i64 ((a+1:Nat):Int))) (c1:w.cell? ⟨g,1,none⟩=some (.int .i64 ((a2+1:Nat):Int)))
 (hf:H[a]? =some (f,e)) (hf2:H[a2]? =some (f,e2)):
 Calls Tryz.prog 32 #[.pointer (some ⟨b,0,none⟩),.slice (some ⟨g,0,none⟩) 2 cap] w fun e w'=>e=.returned (.tuple #[.int .u8 f,.int .u8 0])∧w'=w:=by
 have FR:=Lib.hid (free_c h hH)
 have SM:=Lib.hid (same2s_c (cap:=cap) h (Nat.le_of_lt hH) c0 c1 hf hf2)
 obtain ⟨n,hn⟩:∃n,H.length=n:=⟨_,rfl⟩
 rw [hn] at FR
 have hne:¬((n+1:Nat):Int)=0:=by omega
 clear h hn hH c0 c1 hf hf2
 go_enter Tryz.func32,Tryz.ntmps32
 go_wp2_with fail
 refine FR.out.mono ?_
 rintro e w1 ⟨rfl,rfl⟩
 go_wp2_with fail
 refine SM.out.mono ?_
 rintro e w1 ⟨rfl,rfl⟩
 go_wp2_with fail
 go_ret2
 exact ⟨rfl,rfl⟩
abbrev Ky:=Nat × Nat × List Bool
def keys (z:Bool):Nat→Nat→List Bool→List Ky
 | 0,_,_=>[]
 | k+1,l,t=>
  if (if z then decide (true∉t.drop (2 ^ k)) else decide (t.take (2 ^ k)=t.drop (2 ^ k)))=true then keys z k (l+1) (t.take (2 ^ k))
  else (k+1,l,t)::(keys z k (l+1) (t.take (2 ^ k))++keys z k (l+1) (t.drop (2 ^ k)))
theorem keys_same {k l:Nat} {t:List Bool} (h:t.take (2 ^ k)=t.drop (2 ^ k)):keys false (k+1) l t=keys false k (l+1) (t.take (2 ^ k)):=by
 rw [keys,if_pos (by simp [h])]
theorem keys_diff {k l:Nat} {t:List Bool} (h:¬t.take (2 ^ k)=t.drop (2 ^ k)):keys false (k+1) l t=(k+1,l,t)::(keys false k (l+1) (t.take (2 ^ k))++keys false k (l+1) (t.drop (2 ^ k))):=by
 rw [keys,if_neg (by simp [h])]
theorem keys_none {k l:Nat} {t:List Bool} (h:true∉t.drop (2 ^ k)):keys true (k+1) l t=keys true k (l+1) (t.take (2 ^ k)):=by
 rw [keys,if_pos (by simp [h])]
theorem keys_some {k l:Nat} {t:List Bool} (h:¬true∉t.drop (2 ^ k)):keys true (k+1) l t=(k+1,l,t)::(keys true k (l+1) (t.take (2 ^ k))++keys true k (l+1) (t.drop (2 ^ k))):=by
 rw [keys,if_neg (by simpa using h)]
def rootE (f n:Nat) (y:Ky):Tr:=(buildE f n y.1 y.2.1 y.2.2).2
section
variable {n:Nat}
theorem halves_len {k:Nat} {t:List Bool} (h:t.length=2 ^ (k+1)):(t.take (2 ^ k)).length=2 ^ k∧(t.drop (2 ^ k)).length=2 ^ k:=by
 rw [List.length_take,List.length_drop,h,Nat.pow_succ];omega
theorem mk_same {f l:Nat} {x:Nat × Tr} (h:¬(f=2∨f=4)):mkE f l x x=x:=by
 unfold mkE;rw [if_neg h,if_pos rfl]
theorem mk_none {f l:Nat} {x y:Nat × Tr} (h:f=2∨f=4) (hy:y.2=.leaf false):mkE f l x y=x:=by
 unfold mkE;rw [if_pos h,if_pos hy]
theorem mk_diff {f l:Nat} {x y:Nat × Tr} (h:f=1∨f=3) (hxy:¬x=y):mkE f l x y=(0,nodeE f l x y):=by
 unfold mkE;rw [if_neg (by omega),if_neg hxy,if_neg (by omega),if_neg (by omega)]
theorem mk_some {f l:Nat} {x y:Nat × Tr} (h:f=2∨f=4) (hy:¬y.2=.leaf false):mkE f l x y=(0,nodeE f l x y):=by
 unfold mkE;rw [if_pos h,if_neg hy]
theorem mk_five {l:Nat} {x y:Nat × Tr} (hxy:¬x=y):mkE 5 l x y=if y.2=.leaf false∧x.1=l+1 then (l,x.2) else (l,.node l l x.1 x.2 y.1 y.2):=by
 unfold mkE
 rw [if_neg (by omega),if_neg hxy]
 simp only [true_and,if_true]
 rcases nodeE_form 5 l x y with ⟨_,_,_,_,_,_,_,h,_⟩ | ⟨_,_,_,_,_,_,_,h,_⟩ | h
 ·omega
 ·omega
 ·rw [h]
theorem nds_nodeE {f l:Nat} {x y:Nat × Tr} {T:Tr} (h:T∈nds (nodeE f l x y)):T=nodeE f l x y∨T∈nds x.2∨T∈nds y.2:=by
 rcases nodeE_form f l x y with ⟨t,b,tl,u,th,v,e1,_,_,e3,e⟩ | ⟨t,b,tl,u,th,v,e1,_,_,_,e⟩ | e
 ·rw [e] at h ⊢
  simp [nds] at h
  rcases h with h | h | h
  ·exact .inl h
  ·right;left;rw [e1];simp [nds,h]
  ·exact .inr (.inr h)
 ·rw [e] at h ⊢
  simp [nds] at h
  rcases h with h | h | h
  ·exact .inl h
  ·right;left;rw [e1];simp [nds,h]
  ·right;left;rw [e1];simp [nds,h]
 ·rw [e] at h ⊢
  simp [nds] at h
  rcases h with h | h | h
  ·exact .inl h
  ·exact .inr (.inl h)
  ·exact .inr (.inr h)
theorem cov13 {f:Nat} (hf:f=1∨f=3):∀(k l:Nat) (t:List Bool),l+k=n→t.length=2 ^ k→∀T∈nds (buildE f n k l t).2,∃y∈keys false k l t,rootE f n y=T:=by
 intro k
 induction k with
 | zero=>intro l t h ht T hT;simp [buildE,leafE,nds] at hT
 | succ k ih=>
  intro l t h ht T hT
  obtain ⟨h1,h2⟩:=halves_len ht
  by_cases e:t.take (2 ^ k)=t.drop (2 ^ k)
  ·rw [keys_same e]
   rw [buildE,←e,mk_same (by omega)] at hT
   exact ih _ _ (by omega) h1 T hT
  ·rw [keys_diff e]
   have hne:¬buildE f n k (l+1) (t.take (2 ^ k))=buildE f n k (l+1) (t.drop (2 ^ k)):=fun q=>e (build_inj (by omega) (by omega) k (l+1) _ _ (by omega) h1 h2 q)
   have hT0:=hT
   rw [buildE,mk_diff hf hne] at hT
   rcases nds_nodeE hT with q | q | q
   ·refine ⟨_,List.mem_cons_self ..,?_⟩
    rw [q,rootE,buildE,mk_diff hf hne]
   ·obtain ⟨y,hy,e⟩:=ih _ _ (by omega) h1 T q
    exact ⟨y,by simp [hy],e⟩
   ·obtain ⟨y,hy,e⟩:=ih _ _ (by omega) h2 T q
    exact ⟨y,by simp [hy],e⟩
theorem cov24 {f:Nat} (hf:f=2∨f=4):∀(k l:Nat) (t:List Bool),l+k=n→t.length=2 ^ k→∀T∈nds (buildE f n k l t).2,∃y∈keys true k l t,rootE f n y=T:=by
 intro k
 induction k with
 | zero=>intro l t h ht T hT;simp [buildE,leafE,nds] at hT
 | succ k ih=>
  intro l t h ht T hT
  obtain ⟨h1,h2⟩:=halves_len ht
  have hz:=build_zero (f:=f) (n:=n) (by omega) (by omega) k (l+1) (t.drop (2 ^ k)) (by omega) h2
  by_cases e:true∉t.drop (2 ^ k)
  ·rw [keys_none e]
   rw [buildE,mk_none hf (hz.2 e)] at hT
   exact ih _ _ (by omega) h1 T hT
  ·rw [keys_some e]
   have hne:¬(buildE f n k (l+1) (t.drop (2 ^ k))).2=.leaf false:=fun q=>e (hz.1 q)
   rw [buildE,mk_some hf hne] at hT
   rcases nds_nodeE hT with q | q | q
   ·refine ⟨_,List.mem_cons_self ..,?_⟩
    rw [q,rootE,buildE,mk_some hf hne]
   ·obtain ⟨y,hy,e⟩:=ih _ _ (by omega) h1 T q
    exact ⟨y,by simp [hy],e⟩
   ·obtain ⟨y,hy,e⟩:=ih _ _ (by omega) h2 T q
    exact ⟨y,by simp [hy],e⟩
theorem cov5:∀(k l:Nat) (t:List Bool),l+k=n→t.length=2 ^ k→∀T∈nds (buildE 5 n k l t).2,∃y∈keys false k l t,rootE 5 n y=T:=by
 intro k
 induction k with
 | zero=>intro l t h ht T hT;simp [buildE,leafE,nds] at hT
 | succ k ih=>
  intro l t h ht T hT
  obtain ⟨h1,h2⟩:=halves_len ht
  by_cases e:t.take (2 ^ k)=t.drop (2 ^ k)
  ·rw [keys_same e]
   rw [buildE,←e,mk_same (by omega)] at hT
   exact ih _ _ (by omega) h1 T hT
  ·rw [keys_diff e]
   have hne:¬buildE 5 n k (l+1) (t.take (2 ^ k))=buildE 5 n k (l+1) (t.drop (2 ^ k)):=fun q=>e (build_inj (by omega) (by omega) k (l+1) _ _ (by omega) h1 h2 q)
   rw [buildE,mk_five hne] at hT
   split at hT
   ·obtain ⟨y,hy,e⟩:=ih _ _ (by omega) h1 T hT
    exact ⟨y,by simp [hy],e⟩
   ·rename_i hnz
    simp [nds] at hT
    rcases hT with q | q | q
    ·refine ⟨_,List.mem_cons_self ..,?_⟩
     rw [q,rootE,buildE,mk_five hne,if_neg hnz]
    ·obtain ⟨y,hy,e⟩:=ih _ _ (by omega) h1 T q
     exact ⟨y,by simp [hy],e⟩
    ·obtain ⟨y,hy,e⟩:=ih _ _ (by omega) h2 T q
     exact ⟨y,by simp [hy],e⟩
end
open Go.RowKit
theorem equal_c {w:World} {b a a2 f f2:Nat} {e e2:Ed} {q:List Value} {H:List (Nat × Ed)} (h:Mgr w b q H) (hH:H.length≤256) (hf:H[a]? =some (f,e)) (hf2:H[a2]? =some (f2,e2)) (hne:¬(f2:Int)=f):
 Calls Tryz.prog 19 #[.pointer (some ⟨b,0,none⟩),.int .i64 ((a+1:Nat):Int),.int .i64 ((a2+1:Nat):Int)] w fun e w'=>e=.returned (.tuple #[.bool false,.int .u8 4])∧Mod [] w w':=by
 obtain ⟨m,hm⟩:∃m:Int,((a+1:Nat):Int)=m:=⟨_,rfl⟩
 obtain ⟨m2,hm2⟩:∃m:Int,((a2+1:Nat):Int)=m:=⟨_,rfl⟩
 obtain ⟨g,hg⟩:∃g,w.heap.size=g:=⟨_,rfl⟩
 rw [hm,hm2]
 have MA:Hid (Mod [] w (w.alloc (.cells #[.int .i64 m,.int .i64 m2] 3))):=(Mod.refl _ _).alloc _
 have BA:=Blk.new' w #[.int .i64 m,.int .i64 m2] 3 g hg.symm
 have SM:=Lib.hid (same2_c (g:=g) (cap:=2) (h.mod MA.out (by simp)) hH (a:=a) (a2:=a2) (by rw [hm];have:=BA.cell 0;simpa using this) (by rw [hm2];have:=BA.cell 1;simpa using this) hf hf2 hne)
 clear h hf hf2 hne hm hm2 BA
 go_enter Tryz.func19,Tryz.ntmps19
 go_wp2_with fail
 refine SM.out.mono ?_
 rintro e w1 ⟨rfl,rfl⟩
 go_wp2_with fail
 go_ret2
 exact ⟨rfl,MA.out⟩
end Go.Proofs.YtlafpknoiihaaaaGreatDoor
