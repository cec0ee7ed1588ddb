/- Mq35: Lv -/
import Derived.Test.YtlafpknoiihaaaaGreatDoorMq26
import Derived.Laws.Cells
set_option maxRecDepth 100000
set_option maxHeartbeats 4000000
set_option linter.unusedVariables false
set_option linter.unusedSimpArgs false
namespace Go.Proofs.YtlafpknoiihaaaaGreatDoor
open Go.RowKit
def liveA (k:Nat):Array Value:=((List.range 257).map fun i=>.bool (decide (1≤i∧i≤k))).toArray
theorem Tryz.infoL:(Tryz.prog.info? 63).map (fun i=>i.size)=some 257:=by kernel_rfl
theorem Mgr.loadLive {w:World} {b:Nat} {q:List Value} {H:List (Nat × Ed)} (h:Mgr w b q H) (hH:H.length≤256):
 (loadVar 63 ⟨b,5,none⟩).run Tryz.prog w=.ok (.agg (liveA H.length)) w:=by
 have hl:(loadCells ⟨b,5,none⟩ 257).run Tryz.prog w=.ok (liveA H.length) w:=by
  refine run_loadCells (P:=Tryz.prog) w ⟨b,5,none⟩ 257 (fun i=>.bool (decide (1≤i∧i≤H.length))) fun j hj=>?_
  have hadd:(⟨b,5,none⟩:Addr).add j=⟨b,5+j,none⟩:=by unfold Addr.add;split<;>simp_all
  rw [hadd,h.cell _ (by omega)]
  unfold mgL
  rw [if_neg (by omega),if_pos (by omega)]
  rw [show decide (6≤5+j∧5+j≤5+H.length)=decide (1≤j∧j≤H.length) from decide_eq_decide.2 (by omega)]
 obtain ⟨i,hi,hs⟩:=Option.map_eq_some_iff.1 Tryz.infoL
 have hagg:(isAgg 63).run Tryz.prog w=.ok true w:=Tryz.isAgg63 w
 simp [loadVar,Sem.run_bind,hagg,sizeOf,typeInfo,hi,hs,hl]
theorem index_live (k j:Nat) (hj:j < 257) (w:World):(Instr.index 63 (.agg (liveA k)) (.int .i64 (j:Int))).run Tryz.prog w=.ok (.bool (decide (1≤j∧j≤k))) w:=by
 have hg:(liveA k)[j]? =some (.bool (decide (1≤j∧j≤k))):=by
  unfold liveA
  rw [List.getElem?_toArray,List.getElem?_map,List.getElem?_range hj];rfl
 have h1:(isAgg 4).run Tryz.prog w=.ok false w:=Tryz.isAgg4 w
 have h2:(sizeOf 4).run Tryz.prog w=.ok 1 w:=Tryz.sizeOf4 w
 have hu:=run_underlying (P:=Tryz.prog) Tryz.underlying63 w
 have hj0:(0:Int)≤j∧(j:Int) < ((257:Nat):Int):=by omega
 have ha:∀w:World,(asIntOf (.int .i64 (j:Int))).run Tryz.prog w=.ok (.i64,(j:Int)) w:=fun w=>rfl
 unfold Instr.index part
 rw [Sem.run_bind,ha,Result.andThen_ok]
 simp only
 rw [Sem.run_bind,hu,Result.andThen_ok]
 simp only
 rw [if_pos hj0,Sem.run_bind,h2,Result.andThen_ok,Sem.run_bind,h1,Result.andThen_ok]
 simp only [Int.toNat_natCast,Nat.mul_one,hg]
 rfl
theorem wp_load_fact {P:Program} {o:Oper} {a:Act} {w:World} {K:Act→World→Prop} {Q:Exit→Act→World→Prop} (ty:TypeId) (x:Operand) (ho:o.op=.load ty x)
 (A:Addr) (hx:a.eval x=.pointer (some A)) (v:Value) (hl:(loadVar ty A).run P w=.ok v w) (h:K (a.put o.dst v) w):o.wp P a w K Q:=by
 unfold Oper.wp execOp
 simp only [ho,hx,Instr.loadAt,Instr.sureAddr,Sem.run_bind,Sem.run_pure,Result.andThen_ok,hl]
 exact h
theorem live_c {w:World} {b:Nat} {q:List Value} {H:List (Nat × Ed)} (h:Mgr w b q H) (hH:H.length≤256):
 Calls Tryz.prog 77 #[.pointer (some ⟨b,0,none⟩)] w fun e w'=>∃v,e=.returned v∧NewV 3 w ((List.range H.length).map fun i=>ei (i+1)) w' v:=by
 have LV:=h.loadLive hH
 have IX:=Lib.hid (index_live H.length)
 clear h
 obtain ⟨i0,hi,hz0,hz1,hz2⟩:=info_parts Tryz.info3
 have H257:=Lib.hid hH
 generalize hk:H.length=k at *
 generalize hA:liveA k=A at *
 clear hA
 go_enter Tryz.func77,Tryz.ntmps77
 go_wp2_with fail
 refine wp_load_fact 63 _ rfl _ rfl _ LV ?_
 go_wp2_with fail
 go_loopw [3,12] (fun v i wr=>∃j:Nat,i=.int .i64 j∧j≤257∧Hid (NewV 3 w ((List.range (min (j - 1) k)).map fun i=>ei (i+1)) wr v)) (fun _ i _=>257 - (intOf i).toNat)
 case atStart=>exact ⟨0,rfl,by omega,by show NewV _ _ _ _ _;simpa using NewV.nil 3 (Mod.refl _ _)⟩
 case round=>
  obtain ⟨j,rfl,hj,HN⟩:=hrel
  by_cases hj7:j=257
  ·subst hj7
   have e:min (257 - 1) k=k:=by have:=H257.out;omega
   rw [e] at HN
   go_wp2_with fail
   go_ret
   exact ⟨_,rfl,HN.out⟩
  ·have hjl:(j:Int) < 257:=by omega
   have IJ:=IX.out j (by omega) wr
   by_cases hjk:1≤j∧j≤k
   ·rw [decide_eq_true hjk] at IJ
    obtain ⟨z,rfl⟩:∃z,j=z+1:=⟨j - 1,by omega⟩
    have e1:min (z+1 - 1) k=z:=by omega
    have e2:Hid (min (z+1+1 - 1) k=z+1):=by show _=_;omega
    rw [e1] at HN
    obtain ⟨Fo',so,mo,fo⟩:=HN.out
    have e0:((List.range z).map fun i=>ei (i+1)).length=z:=by simp
    obtain ⟨Ao,capo,rfl,hcapo⟩:=so.shape
    rw [e0] at so hcapo HN ⊢
    have SO:=Lib.hid so
    have MO:=Lib.hid mo
    have FO:=Lib.hid fo
    have LO:=Lib.hid e0
    have EL:Hid (((List.range (z+1)).map fun i=>ei (i+1))=((List.range z).map fun i=>ei (i+1))++[ei (z+1)]):=by show _=_;rw [List.range_succ,List.map_append];rfl
    generalize ((List.range z).map fun i=>ei (i+1))=zs at *
    have hei:ei (z+1)=.int .i64 ((z+1:Nat):Int):=rfl
    obtain ⟨y,hy⟩:∃y,z+1=y:=⟨_,rfl⟩
    rw [hy] at IJ e2 EL hj hj7 hjl ⊢
    have hz:z≤257:=by omega
    clear hy
    clear so mo fo hcapo e0 hjk e1 hH hei
    go_wp2_with (at_builtin;refine wpList_append_sl _ rfl _ _ 28 rfl 3 i0 (.int .i64 0) 1 8 Tryz.underlying28 hi hz0 hz1 hz2 rfl (by decide) _ z zs Fo' rfl (SO.out.mod (S:=[]) (by exact mods) (by simp)) ⟨_,0,none⟩ 1 1 [ei y] (by decide) rfl rfl (by intro j u hu;exact list_new_at _ _ _ _ (by simp) j u hu) (by intro u hu;simp at hu;subst hu;rfl) (by unfold maxLen;omega) (by omega) ?_;intro v5 w5 F5 hs5 hm5 hf5;have N5:=Lib.hid (NewV.app (l:=zs) (l2:=[ei y]) MO.out FO.out LO.out rfl (by exact mods) hs5 hm5 hf5);obtain ⟨a5,cap5,rfl,_⟩:=hs5.shape;clear hs5 hm5 hf5)
    go_roundw
    case rel=>
     refine ⟨y+1,by first | rfl | go_num,by omega,?_⟩
     show NewV _ _ _ _ _
     rw [e2.out,EL.out]
     exact N5.out
    case measure=>simp [intOf];omega
   ·rw [decide_eq_false hjk] at IJ
    have e1:Hid (min (j+1 - 1) k=min (j - 1) k):=by show _=_;omega
    clear hjk
    go_wp2_with fail
    go_roundw
    case rel=>exact ⟨j+1,by first | rfl | go_num,by omega,by rw [e1.out];exact HN⟩
    case measure=>simp [intOf];omega
end Go.Proofs.YtlafpknoiihaaaaGreatDoor
