/- Mq34: Sx -/
import Derived.Test.YtlafpknoiihaaaaGreatDoorMq12
import Derived.Test.YtlafpknoiihaaaaGreatDoorMq33
set_option maxRecDepth 100000
set_option maxHeartbeats 4000000
set_option linter.unusedVariables false
set_option linter.unusedSimpArgs false
namespace Go.Proofs.YtlafpknoiihaaaaGreatDoor
open Go.RowKit Go.Shelf
attribute [local go_sem] Oper.semAt_some
structure Sp (w3:World) (X:List Nat) (V:World):Prop where
 mod:Mod [] w3 V
 above:∀k∈X,w3.heap.size≤k
theorem Sp.step {w3:World} {X X':List Nat} {A V:World} (h:Sp w3 X A) (m:Mod X A V) (hX:∀k∈X',(k∈X∨A.heap.size≤k)∧k < V.heap.size):Sp w3 X' V:=by
 refine ⟨h.mod.trans m (fun i hi hm=>by have:=h.above i hm;omega),fun k hk=>?_⟩
 rcases (hX k hk).1 with q | q
 ·exact h.above k q
 ·exact Nat.le_trans h.mod.size q
theorem sweep_c {w:World} {b n:Nat} {L:List Rc} {room:Nat} {F:List Nat} (h:IsSt w b n L room F) (hL:L.length≤1048576) (hnd:L.Nodup) {A:Option Addr} {k cap:Nat} {es:List Ed} (hes:EdRow w A k cap es) {ts:List (Nat × Tr)} (hts:EdTrees L es ts)
 (hk:k≤100000) (hsz:tszs ts≤1000000) (hall:∀id,2≤id→id < L.length+2→idsAll L ts id):
 Calls Tryz.prog 111 #[.pointer (some ⟨b,0,none⟩),.slice A k cap] w fun e w'=>e=.returned (.int .i64 0)∧Mod [] w w':=by
 have RC:=Lib.hid (reached_c h hL hnd hes hts hk hsz)
 have IDS:Hid (∀W ba Fa,Mod [] w W→IsAr w ba L room Fa→_):=fun W ba Fa m ha=>idsU_c (ha.mod m (by simp)) hL
 obtain ⟨ba,bi,Fa,c0,c1,c2,hA⟩:=h.own
 have HA:=Lib.hid hA
 have HALL:=Lib.hid hall
 have HL:=Lib.hid hL
 have hb:=World.block_lt_of_cell? w _ c1
 simp only at hb
 clear h hes hts hk hsz hall hnd c0 c2 hA hL
 refine (callsIn_wide (n:=0)).1 (callsIn_of_wp_marks Tryz.func111 rfl trivial ?_ rfl)
 simp only [Tryz.ntmps111,List.size_toArray,List.length_cons,List.length_nil,Nat.reduceAdd,Nat.reduceSub,Array.replicate_succ,Array.replicate_zero,List.push_toArray,List.append_toArray,List.nil_append,List.cons_append]
 gi_wp2
 refine ⟨trivial,rfl,?_⟩
 refine ((callsIn_wide (n:=0)).2 RC.out).mono ?_
 rintro e w2 ⟨bm,nm,rfl,hv2,hnm,hbm,m2⟩
 have HV2:=Lib.hid hv2
 have M2:=Lib.hid m2
 have c12:=(m2.cell (a:=⟨b,1,none⟩) hb (by simp)).trans c1
 have hb2:=Nat.lt_of_lt_of_le hb m2.size
 obtain ⟨gs,hgs⟩:∃gs,w2.heap.size=gs:=⟨_,rfl⟩
 have gs1:¬b=gs:=by omega
 have gs2:¬gs=b:=by omega
 have gs3:¬b=gs+1:=by omega
 have gs4:¬gs+1=b:=by omega
 have hb3:b < w2.heap.size+1:=by omega
 have M3:Hid (Mod [] w ((w2.alloc (.cells #[.map (some bm)] 227)).alloc (.cells #[.slice none 0 0] 164))):=(M2.out.alloc _).alloc _
 have c13:=(M3.out.cell (a:=⟨b,1,none⟩) hb (by simp)).trans c1
 clear hv2 m2 RC hnm c12
 gi_wp2
 refine ⟨trivial,rfl,?_⟩
 have HV3:Hid (IsVis ((w2.alloc (.cells #[.map (some bm)] 227)).alloc (.cells #[.slice none 0 0] 164)) bm nm (idsAll L ts)):=HV2.out.mod (show Mod [] w2 _ from by exact mods) (by simp)
 have B5:Hid (Blk ((w2.alloc (.cells #[.map (some bm)] 227)).alloc (.cells #[.slice none 0 0] 164)) gs #[.map (some bm)] 227):=(Blk.new' w2 _ _ gs hgs.symm).alloc _
 have B6:Hid (Blk ((w2.alloc (.cells #[.map (some bm)] 227)).alloc (.cells #[.slice none 0 0] 164)) (gs+1) #[.slice none 0 0] 164):=Blk.new' _ _ _ _ (by simp [hgs])
 refine ((callsIn_wide (n:=0)).2 (IDS.out _ ba Fa M3.out HA.out)).mono ?_
 rintro e w3 ⟨gb,hgb,rfl,hsq,m3⟩
 have S3:=Lib.hid hsq
 have MR3:=Lib.hid m3
 have HV4:=Lib.hid (HV3.out.mod m3 (by simp))
 have B54:=Lib.hid (B5.out.mod m3 (by simp))
 have B64:=Lib.hid (B6.out.mod m3 (by simp))
 have M4:=Lib.hid (M3.out.trans' m3)
 have hz4:=m3.size
 simp at hz4
 clear hsq m3 HV3 B5 B6 M3 c13 IDS HV2
 gi_wp2
 refine wpIn_range (gf:=153) (lb:=#[.pointer (some ⟨gb,0,none⟩)]) rfl S3.out rfl (fun X pre V=>Sp w3 X V) (fun _ _ _ _=>False)
  (fun X X' s A V h m hX=>h.step m hX) (fun _ _ _ _ _ _ h _ _=>h) ⟨Mod.refl _ _,by simp⟩ ?a1 ?assign ?body ?done ?stop
 case assign=>
  intro l2 x V K hK
  gi_wp2
  dsimp only [eiU] at hK ⊢
  exact hK
 case body=>
  rintro l2 X pre x rest V hL hc hX hkR
  have HC:=Lib.hid hc
  have hx:2≤x∧x < L.length+2:=by
   have:x∈idsTo L.length:=by rw [hL];simp
   unfold idsTo at this
   simp at this
   obtain ⟨y,h1,rfl⟩:=this
   omega
  have LK:=((HV4.out.mod hc.mod (by simp)).look x (by have:=HL.out;omega)).1 (HALL.out x hx.1 hx.2)
  have cb:=(B54.out.mod hc.mod (by simp)).cell 0
  simp at cb
  clear hL hX hkR hc
  gi_wp2
  exact ⟨Nat.le_refl _,fun _ _=>rfl,HC.out⟩
 case done=>
  rintro D X V hD hab hc hkR hK
  have HC:=Lib.hid hc
  have cb:=(B64.out.mod hc.mod (by simp)).cell 0
  simp at cb
  have HX:=Lib.hid hab
  have HD:=Lib.hid hD
  have HK2:=Lib.hid hK
  clear hc hab hkR hD hK
  gi_wp2
  gi_loopw [33] (fun i wr=>i=.int .i64 0∧wr=V) (fun _ _=>0)
  case atStart=>exact ⟨rfl,rfl⟩
  case round=>
   obtain ⟨rfl,hV⟩:=hrel
   subst hV
   gi_wp2
   refine ⟨by simp,.inl ⟨_,_,rfl,run_takeDeferred HK2.out,?_⟩⟩
   exact ⟨_,results_tmp rfl _ _ _,rfl,M4.out.trans' (HC.out.step (X':=[]) ((Mod.refl X wr).putObj D (.deferred none) (fun _=>HD.out)) (by simp)).mod⟩
 case stop=>exact fun _ _ _ _ _ _ _ _ h _ _=>h.elim
end Go.Proofs.YtlafpknoiihaaaaGreatDoor
