/- Mq13: So -/
import Derived.Test.YtlafpknoiihaaaaGreatDoorMq01
import Derived.RegionTactic
set_option maxRecDepth 100000
set_option maxHeartbeats 4000000
set_option linter.unusedVariables false
set_option linter.unusedSimpArgs false
namespace Go.Proofs.YtlafpknoiihaaaaGreatDoor
open Go.RowKit
def U32s (w:World) (gb off k:Nat):Prop:=∀i,i < k→∃v:Nat,v≤4294967295∧w.cell? ⟨gb,off+i,none⟩=some (.int .u32 v)∧w.frozen? ⟨gb,off+i,none⟩=false
theorem U32s.set {w:World} {gb off k:Nat} (h:U32s w gb off k) (j v:Nat) (hj:j < k) (hv:v≤4294967295):U32s (w.setCell ⟨gb,off+j,none⟩ (.int .u32 v)) gb off k:=by
 intro i hi
 by_cases q:i=j
 ·subst q
  obtain ⟨u,_,hc,hf⟩:=h i hi
  exact ⟨v,hv,World.cell?_setCell_same' _ _ _ (by rw [hc];rfl),by simpa using hf⟩
 ·obtain ⟨u,hu,hc,hf⟩:=h i hi
  exact ⟨u,hu,(World.cell?_setCell_other _ _ _ _ (by first | (intro e;simp at e;done) | (intro e;simp at e;omega))).trans hc,by simpa using hf⟩
theorem isNaN_c (x:Int) (w:World):Calls Tryz.prog 219 #[.int .u32 x] w fun e w'=>e=.returned (.bool false)∧w'=w:=by
 have hx:(x != x)=false:=by simp
 go_enter Tryz.func219,Tryz.ntmps219
 go_wp2
 go_ret
 exact ⟨rfl,rfl⟩
theorem less_c (x y:Nat) (w:World):Calls Tryz.prog 204 #[.int .u32 x,.int .u32 y] w fun e w'=>e=.returned (.bool (decide (x < y)))∧w'=w:=by
 have N1:=Lib.hid (isNaN_c x)
 go_enter Tryz.func204,Tryz.ntmps204
 go_wp2_with fail
 refine (N1.out _).mono ?_
 rintro e w' ⟨rfl,rfl⟩
 go_wp2_with fail
 go_ret
 exact ⟨rfl,rfl⟩
theorem insort_c {w:World} (gb off k cap:Nat) (hk:k≤1000) (hc:k≤cap) (h:U32s w gb off k):
 Calls Tryz.prog 198 #[.slice (some ⟨gb,off,none⟩) k cap,.int .i64 0,.int .i64 k] w fun e w'=>e=.returned (.tuple #[])∧U32s w' gb off k∧Mod [gb] w w':=by
 have LS:=Lib.hid less_c
 have H:=Lib.hid h
 clear h
 go_enter Tryz.func198,Tryz.ntmps198
 go_wp2_with fail
 go_loopw [6] (fun i wr=>∃m:Nat,1≤m∧(m≤k∨m=1)∧i=.int .i64 m∧Hid (U32s wr gb off k)∧Hid (Mod [gb] w wr)) (fun i _=>k+1 - (intOf i).toNat)
 case atStart=>exact ⟨1,by omega,.inr rfl,rfl,H,Mod.refl _ _⟩
 case round=>
  obtain ⟨m,hm1,hm2,rfl,HU,HM⟩:=hrel
  by_cases hlt:m < k
  ·have hlt':(m:Int) < k:=by omega
   obtain ⟨wo,rfl⟩:∃wo:World,wo=wr:=⟨_,rfl⟩
   go_wp2_with fail
   go_loopw [7] (fun i wr=>∃j:Nat,j≤m∧i=.int .i64 j∧Hid (U32s wr gb off k)∧Hid (Mod [gb] w wr)) (fun i _=>(intOf i).toNat)
   case atStart=>exact ⟨m,by omega,rfl,HU,HM⟩
   case round=>
    obtain ⟨j,hj,rfl,HU2,HM2⟩:=hrel
    clear HU HM
    by_cases h0:0 < j
    ·obtain ⟨q,rfl⟩:∃q,j=q+1:=⟨j - 1,by omega⟩
     have hd:decide ((0:Int) < ((q+1:Nat):Int))=true:=by rw [decide_eq_true_eq];omega
     obtain ⟨x,hx,cx,fx⟩:=HU2.out (q+1) (by omega)
     obtain ⟨y,hy,cy,fy⟩:=HU2.out q (by omega)
     have hq0:(((q+1:Nat):Int) - 1)=(q:Int):=by omega
     have hqk:(q:Int)+1 < k:=by omega
     have ST:Hid (∀n,U32s (((wr.drewN n).setCell ⟨gb,off+(q+1),none⟩ (.int .u32 y)).setCell ⟨gb,off+q,none⟩ (.int .u32 x)) gb off k∧Mod [gb] w (((wr.drewN n).setCell ⟨gb,off+(q+1),none⟩ (.int .u32 y)).setCell ⟨gb,off+q,none⟩ (.int .u32 x))):=fun n=>
      ⟨((show U32s (wr.drewN n) gb off k from HU2.out).set (q+1) y (by omega) hy).set q x (by omega) hx,((HM2.out.drewN n).setCell _ _ (fun _=>by simp)).setCell _ _ (fun _=>by simp)⟩
     by_cases hxy:x < y
     ·have LX:Hid (∀W,Calls Tryz.prog 204 #[.int .u32 x,.int .u32 y] W fun e w'=>e=.returned (.bool true)∧w'=W):=fun W=>by
       have:=LS.out x y W;rw [decide_eq_true hxy] at this;exact this
      clear hxy
      go_wp2_with fail
      go_quiet ((go_at_call 204;exact Calls.quiet_of_same (LX.out _)))
      go_wp2_with fail
      go_region
      all_goals
       clear cx fx cy fy LX HU2 HM2
       go_wp2_with fail
       go_roundw
       case rel=>exact ⟨q,by omega,by go_num,(ST.out _).1,(ST.out _).2⟩
       case measure=>simp [intOf]
     ·have LX:Hid (∀W,Calls Tryz.prog 204 #[.int .u32 x,.int .u32 y] W fun e w'=>e=.returned (.bool false)∧w'=W):=fun W=>by
       have:=LS.out x y W;rw [decide_eq_false hxy] at this;exact this
      clear hxy
      go_wp2_with fail
      go_quiet ((go_at_call 204;exact Calls.quiet_of_same (LX.out _)))
      clear cx fx cy fy LX ST
      go_wp2_with fail
      go_roundw
      case rel=>exact ⟨m+1,by omega,by omega,by go_num,HU2,HM2.out.drewN _⟩
      case measure=>simp [intOf];omega
    ·obtain rfl:j=0:=by omega
     go_wp2_with fail
     go_quiet (fail)
     go_wp2_with fail
     go_roundw
     case rel=>exact ⟨m+1,by omega,by omega,by go_num,HU2,by first | exact HM2.out.drewN _ | exact HM2⟩
     case measure=>simp [intOf];omega
  ·have hge:¬(m:Int) < k:=by omega
   go_wp2_with fail
   refine bodyPost_end (v:=.tuple #[]) (by simp [results,Tryz.results198,go_sem];try rfl) rfl ?_
   exact ⟨rfl,HU.out,HM.out⟩
theorem len64_c (k:Nat) (hk:k≤12) (w:World):Calls Tryz.prog 190 #[.int .u64 k] w fun e w'=>(∃c:Int,e=.returned (.int .i64 c))∧w'=w:=by
 obtain rfl | rfl | rfl | rfl | rfl | rfl | rfl | rfl | rfl | rfl | rfl | rfl | rfl:k=0∨k=1∨k=2∨k=3∨k=4∨k=5∨k=6∨k=7∨k=8∨k=9∨k=10∨k=11∨k=12:=by omega
 all_goals
  go_enter Tryz.func190,Tryz.ntmps190
  go_wp2
  go_ret
  exact ⟨⟨_,rfl⟩,rfl⟩
theorem pdq_c {w:World} (gb off k cap:Nat) (hk:k≤12) (hc:k≤cap) (h:U32s w gb off k) (lim:Int):
 Calls Tryz.prog 189 #[.slice (some ⟨gb,off,none⟩) k cap,.int .i64 0,.int .i64 k,.int .i64 lim] w fun e w'=>e=.returned (.tuple #[])∧U32s w' gb off k∧Mod [gb] w w':=by
 have IS:=Lib.hid (insort_c gb off k cap (by omega) hc h)
 have hk':(k:Int)≤12:=by omega
 clear h
 go_enter Tryz.func189,Tryz.ntmps189
 go_wp2_with fail
 refine wp_loop_rounds 1 ?_
 rw [rounds_succ]
 go_wp2_with fail
 refine IS.out.mono ?_
 rintro e w' ⟨rfl,hu,hm⟩
 have HU:=Lib.hid hu
 have HM:=Lib.hid hm
 clear hu hm
 go_wp2_with fail
 refine bodyPost_ret (v:=.tuple #[]) (by simp [results,Tryz.results189,go_sem];try rfl) rfl ?_
 exact ⟨rfl,HU.out,HM.out⟩
theorem sort_c {w:World} (gb off k cap:Nat) (hk:k≤12) (hc:k≤cap) (h:U32s w gb off k):
 Calls Tryz.prog 174 #[.slice (some ⟨gb,off,none⟩) k cap] w fun e w'=>e=.returned (.tuple #[])∧Mod [gb] w w':=by
 have PQ:=Lib.hid (pdq_c gb off k cap hk hc h)
 have LN:=Lib.hid (len64_c k hk)
 have hk':(k:Int)≤12:=by omega
 clear h
 go_enter Tryz.func174,Tryz.ntmps174
 go_wp2_with fail
 refine (LN.out _).mono ?_
 rintro e w' ⟨⟨c,rfl⟩,rfl⟩
 go_wp2_with fail
 refine (PQ.out _).mono ?_
 rintro e w' ⟨rfl,hu,hm⟩
 have HM:=Lib.hid hm
 clear hu hm
 go_wp2_with fail
 refine bodyPost_end (v:=.tuple #[]) (by simp [results,Tryz.results174,go_sem];try rfl) rfl ?_
 exact ⟨rfl,HM.out⟩
theorem sort_none {w:World} (A:Option Addr) (cap:Nat):
 Calls Tryz.prog 174 #[.slice A 0 cap] w fun e w'=>e=.returned (.tuple #[])∧w'=w:=by
 have LN:=Lib.hid (len64_c 0 (by omega))
 have IS:Hid (∀w,Calls Tryz.prog 198 #[.slice A 0 cap,.int .i64 0,.int .i64 0] w fun e w'=>e=.returned (.tuple #[])∧w'=w):=fun w=>by
  clear LN
  go_enter Tryz.func198,Tryz.ntmps198
  go_wp2_with fail
  refine wp_loop_rounds 1 ?_
  rw [rounds_succ]
  go_wp2_with fail
  refine bodyPost_end (v:=.tuple #[]) (by simp [results,Tryz.results198,go_sem];try rfl) rfl ?_
  exact ⟨rfl,rfl⟩
 have PQ:Hid (∀(lim:Int) w,Calls Tryz.prog 189 #[.slice A 0 cap,.int .i64 0,.int .i64 0,.int .i64 lim] w fun e w'=>e=.returned (.tuple #[])∧w'=w):=fun lim w=>by
  clear LN
  go_enter Tryz.func189,Tryz.ntmps189
  go_wp2_with fail
  refine wp_loop_rounds 1 ?_
  rw [rounds_succ]
  go_wp2_with fail
  refine (IS.out _).mono ?_
  rintro e w' ⟨rfl,rfl⟩
  go_wp2_with fail
  refine bodyPost_ret (v:=.tuple #[]) (by simp [results,Tryz.results189,go_sem];try rfl) rfl ?_
  exact ⟨rfl,rfl⟩
 go_enter Tryz.func174,Tryz.ntmps174
 go_wp2_with fail
 refine (LN.out _).mono ?_
 rintro e w' ⟨⟨c,rfl⟩,rfl⟩
 go_wp2_with fail
 refine (PQ.out _ _).mono ?_
 rintro e w' ⟨rfl,rfl⟩
 go_wp2_with fail
 refine bodyPost_end (v:=.tuple #[]) (by simp [results,Tryz.results174,go_sem];try rfl) rfl ?_
 exact ⟨rfl,rfl⟩
end Go.Proofs.YtlafpknoiihaaaaGreatDoor
