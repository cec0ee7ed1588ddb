/- Mq36: Gg -/
import Derived.Test.YtlafpknoiihaaaaGreatDoorMq34
import Derived.Test.YtlafpknoiihaaaaGreatDoorMq35
set_option maxRecDepth 100000
set_option maxHeartbeats 8000000
set_option linter.unusedVariables false
set_option linter.unusedSimpArgs false
namespace Go.Proofs.YtlafpknoiihaaaaGreatDoor
open Go.RowKit
def edC (e:Ed):List Value:=[.int .u8 e.t,.int .u32 e.a]
theorem edC_len (e:Ed):(edC e).length=2:=rfl
theorem Tryz.infoEd:(Tryz.prog.info? 66).map (fun i=>(i.zero,i.size,i.bytes))=some (some (.agg #[.int .u8 0,.int .u32 0]),2,8):=by kernel_rfl
def NewE (w:World) (es:List Ed) (w':World) (v:Value):Prop:=∃F,Sl w' 66 2 v es.length (recs edC es) F∧Mod [] w w'∧∀k∈F,w.heap.size≤k
theorem NewE.row {w w':World} {es:List Ed} {A:Option Addr} {n cap:Nat} (h:NewE w es w' (.slice A n cap)):EdRow w' A n cap es:=by
 obtain ⟨F,hs,hm,hf⟩:=h
 obtain ⟨A',cap',e,hc⟩:=hs.shape
 simp only [Value.slice.injEq] at e
 obtain ⟨rfl,rfl,rfl⟩:=e
 refine ⟨rfl,hc,fun i hi=>?_⟩
 obtain ⟨g,cap2,e,rfl,-⟩:=hs.pos (by omega)
 simp only [Value.slice.injEq] at e
 obtain ⟨rfl,-,rfl⟩:=e
 have h0:=(hs.at (i *2+0) (by omega)).1
 have h1:=(hs.at (i *2+1) (by omega)).1
 rw [recs_get edC_len _ _ _ hi (by omega)] at h0 h1
 refine ⟨g,0,rfl,hs.lt g (by simp),?_,?_⟩
 ·rw [Nat.zero_add];exact h0
 ·rw [Nat.zero_add];exact h1
theorem mngCollect_c {w:World} {bm n room:Nat} {L:List Rc} {Fs p:List Nat} {H:List (Nat × Ed)} {bs bo bq:Nat} {F:List Nat} (h:Mng w bm n room L Fs p H bs bo bq F) (hL:L.length≤1048576) (hnd:L.Nodup) (hH:H.length≤256)
 {ts:List (Nat × Tr)} (hts:EdTrees L (H.map (·.2)) ts) (hsz:tszs ts≤1000000) (hall:∀id,2≤id→id < L.length+2→idsAll L ts id):
 Calls Tryz.prog 79 #[.pointer (some ⟨bm,0,none⟩)] w fun e w'=>e=.returned (.int .i64 0)∧Mod [] w w':=by
 obtain ⟨ba,bg,vk,vq,vg,Fo,q,g1,-⟩:=h.m
 have LV:=Lib.hid (live_c g1 hH)
 have SW:Hid (∀W A k cap,Mod [] w W→EdRow W A k cap (H.map (·.2))→k≤100000→_):=fun W A k cap md hr hk=>sweep_c (h.s.mod md (by simp)) hL hnd hr hts hk hsz hall
 have G1:=Lib.hid g1
 have hbm:=g1.lt
 obtain ⟨i0,hi,hz0,hz1,hz2⟩:=info_parts Tryz.infoEd
 obtain ⟨N,hN⟩:∃N,H.length=N:=⟨_,rfl⟩
 have HN:=Lib.hid hN
 have HH:=Lib.hid hH
 rw [hN] at LV hH
 clear h g1 hts hsz hall hnd hN
 go_enter Tryz.func79,Tryz.ntmps79
 go_wp2_with fail
 refine LV.out.mono ?_
 rintro e w1 ⟨v,rfl,n1⟩
 have M1:=Lib.hid n1.mod
 obtain ⟨A,capA,rfl⟩:=n1.shape
 obtain ⟨Fv,sv,-,fv⟩:=n1
 obtain ⟨A',capA',e1,hcapA⟩:=sv.shape
 have RV:=Lib.hid (Rv.of_sl sv rfl)
 simp only [List.length_map,List.length_range] at RV ⊢
 clear sv fv LV e1 hcapA
 go_wp2_with fail
 go_loopw [3,5,12] (fun v _ i wr=>∃j:Nat,i=.int .i64 j∧j≤N∧Hid (NewE w1 ((H.map (·.2)).take j) wr v)) (fun _ _ i _=>N - (intOf i).toNat)
 case atStart=>exact ⟨0,rfl,by omega,⟨[],by simpa [recs] using Sl.nil w1 66 2,Mod.refl _ _,by simp⟩⟩
 case round=>
  obtain ⟨j,rfl,hj,HE⟩:=hrel
  have MR:Hid (Mod [] w1 wr):=by obtain ⟨F2,_,m,_⟩:=HE.out;exact m
  have MW:=Lib.hid (M1.out.trans' MR.out)
  by_cases hjl:j < N
  ·have hjl':(j:Int) < N:=by omega
   have hj0:(0:Int)≤j:=by omega
   have hjH:j < H.length:=by rw [HN.out];exact hjl
   obtain ⟨gb,off,rfl,hc⟩:=(RV.out.mod MR.out (by simp)).at j (by simpa using hjl)
   rw [List.getElem_map,List.getElem_range] at hc
   have hc':wr.cell? ⟨gb,off+j,none⟩=some (.int .i64 ((j+1:Nat):Int)):=hc
   obtain ⟨-,d1,d2⟩:=(G1.out.mod MW.out (by simp)).root HH.out j hjH
   have hbw:=(G1.out.mod MW.out (by simp)).lt
   have TK:Hid ((H.map (·.2)).take (j+1)=(H.map (·.2)).take j++[H[j].2]):=by
    show _=_
    rw [List.take_succ_eq_append_getElem (by simpa using hjH),List.getElem_map]
   have TL:Hid (((H.map (·.2)).take j).length=j):=by show _=_;rw [List.length_take,List.length_map];omega
   generalize H[j].2=ej at *
   obtain ⟨t,x⟩:=ej
   simp only at d1 d2
   obtain ⟨m,hm⟩:∃m,j+1=m:=⟨_,rfl⟩
   rw [hm] at d1 d2 hc'
   have hm3:(m:Int) < 257:=by omega
   have hm0:(0:Int)≤m:=by omega
   have d2':wr.cell? ⟨bm,262+m *3+1+1,none⟩=some (.int .u32 x):=d2
   obtain ⟨F2,s2,m2,f2⟩:=HE.out
   rw [TL.out] at s2
   obtain ⟨Ae,cape,rfl,hcape⟩:=s2.shape
   have S2:=Lib.hid s2
   have F2':=Lib.hid f2
   have HM:=Lib.hid hm
   clear hc d2 s2 m2 f2 hcape hm HE hjH
   go_wp2_with (at_builtin;refine wpList_append_sl _ rfl _ _ 210 rfl 66 i0 (.agg #[.int .u8 0,.int .u32 0]) 2 8 Tryz.underlying210 hi hz0 hz1 hz2 rfl (by decide) _ j (recs edC ((H.map (·.2)).take j)) F2 rfl (S2.out.mod (S:=[]) (by exact mods) (by simp)) ⟨_,0,none⟩ 1 1 (edC ⟨t,x⟩) (by decide) rfl rfl (by intro j u hu;exact list_new_at _ _ _ _ (by simp) j u hu) (by intro u hu;simp [edC] at hu;rcases hu with rfl | rfl<;>rfl) (by unfold maxLen;omega) (by omega) ?_;intro v5 w5 F5 hs5 hm5 hf5;have S5:=Lib.hid hs5;have M5:=Lib.hid hm5;have F5':=Lib.hid hf5;obtain ⟨a5,cap5,rfl,_⟩:=hs5.shape;clear hs5 hm5 hf5)
   go_roundw
   case rel=>
    refine ⟨j+1,by first | rfl | go_num,by omega,F5,?_,?_,?_⟩
    ·rw [TK.out,recs_append,List.length_append,TL.out]
     have e:recs edC [(⟨t,x⟩:Ed)]=edC ⟨t,x⟩:=by simp [recs]
     rw [e]
     exact S5.out
    ·exact (MR.out.alloc _).trans M5.out (by intro i hi hm;have:=F2'.out i hm;omega)
    ·intro k hk
     rcases F5'.out k hk with h | h
     ·exact F2'.out k h
     ·have:=MR.out.size;simp at h;omega
   case measure=>simp [intOf];omega
  ·obtain rfl:j=N:=by omega
   have e:(H.map (·.2)).take j=H.map (·.2):=List.take_of_length_le (by rw [List.length_map,HN.out];exact Nat.le_refl _)
   rw [e] at HE
   have HL:Hid ((H.map (·.2)).length=j):=by show _=_;rw [List.length_map];exact HN.out
   obtain ⟨Ae,cape,rfl⟩:∃Ae cape,u3=.slice Ae j cape:=by
    obtain ⟨F2,s2,-⟩:=HE.out
    obtain ⟨Ae,cape,e2,-⟩:=s2.shape
    rw [HL.out] at e2
    exact ⟨Ae,cape,e2⟩
   have SC:=Lib.hid (SW.out wr _ j _ MW.out HE.out.row (by omega))
   have p3:=(G1.out.mod MW.out (by simp)).cell 3 (by omega)
   replace p3:wr.cell? ⟨bm,3,none⟩=some (.pointer (some ⟨bs,0,none⟩)):=p3
   clear e HL SW
   go_wp2_with fail
   refine SC.out.mono ?_
   rintro e w5 ⟨rfl,m5⟩
   have M5:=Lib.hid (MW.out.trans' m5)
   clear m5 SC
   go_wp2_with fail
   go_ret
   exact ⟨rfl,M5.out⟩
end Go.Proofs.YtlafpknoiihaaaaGreatDoor
