import Derived.Test.YtbnpoapmnkfhkaaGreatDoorZt01
import Derived.RegionTactic
set_option maxRecDepth 100000
set_option maxHeartbeats 4000000
set_option linter.unusedVariables false
set_option linter.unusedSimpArgs false
namespace Go.Proofs.YtbnpoapmnkfhkaaGreatDoor
open Go.Proofs.Tryz renaming prog → z, results233 → a, results222 → Z, results203 → Y
open Go.Ending renaming returned → t
open Go.Value renaming int → s, tuple → p, slice → b, bool → V
open Go.Lib renaming hid → r
open Go renaming Calls → o, World → l, results → d, bodyPost_ret → X
open Go.IntKind renaming u32 → g, i64 → f
open Go.RowKit
def U32s (w:l) (gb off k:Nat):Prop:=∀i,i < k→∃v:Nat,v≤4294967295∧w.cell? ⟨gb,off+i,none⟩=some (s g v)∧w.frozen? ⟨gb,off+i,none⟩=false
theorem U32s.set {w:l} {gb off k:Nat} (h:U32s w gb off k) (j v:Nat) (hj:j < k) (hv:v≤4294967295):U32s (w.setCell ⟨gb,off+j,none⟩ (s g v)) gb off k:=by
 intro i hi;by_cases q:i=j
 ·subst q;obtain ⟨u,_,hc,hf⟩:=h i hi;exact ⟨v,hv,World.cell?_setCell_same' _ _ _ (by rw [hc];rfl),by simpa using hf⟩
 ·obtain ⟨u,hu,hc,hf⟩:=h i hi;exact ⟨u,hu,(World.cell?_setCell_other _ _ _ _ (by first | (intro e;simp at e;done) | (intro e;simp at e;omega))).trans hc,by simpa using hf⟩
theorem yx7 (x:Int) (w:l):o z 254 #[s g x] w fun e w'=>e=t (V false)∧w'=w:=by
 have hx:(x != x)=false:=ze;go_in;go_wp2;go_ret;exact ⟨rfl,rfl⟩
theorem yH9 (x y:Nat) (w:l):o z 239 #[s g x,s g y] w fun e w'=>e=t (V (decide (x < y)))∧w'=w:=by
 have N1:=r (yx7 x);go_in;go_wp2_with fail;refine (N1.out _).mono ?_;rintro e w' ⟨rfl,rfl⟩;go_wp2_with fail;go_ret;exact ⟨rfl,rfl⟩
theorem yh6 {w:l} (gb off k cap:Nat) (hk:k≤1000) (hc:k≤cap) (h:U32s w gb off k):
 o z 233 #[b (some ⟨gb,off,none⟩) k cap,s f 0,s f k] w fun e w'=>e=t (p #[])∧U32s w' gb off k∧Mod [gb] w w':=by
 have LS:=r yH9;have H:=r h;clear h;go_in;go_wp2_with fail
 go_loopw [6] (fun i wr=>∃m:Nat,1≤m∧(m≤k∨m=1)∧i=s f m∧Hid (U32s wr gb off k)∧Hid (Mod [gb] w wr)) (fun i _=>k+1 - (intOf i).toNat)
 case atStart=>exact ⟨1,zc,.inr rfl,rfl,H,Mod.refl _ _⟩
 case round=>
  obtain ⟨m,hm1,hm2,rfl,HU,HM⟩:=hrel;by_cases hlt:m < k
  ·have hlt':(m:Int) < k:=zc;obtain ⟨wo,rfl⟩:∃wo:l,wo=wr:=⟨_,rfl⟩;go_wp2_with fail
   go_loopw [7] (fun i wr=>∃j:Nat,j≤m∧i=s f j∧Hid (U32s wr gb off k)∧Hid (Mod [gb] w wr)) (fun i _=>(intOf i).toNat)
   case atStart=>exact ⟨m,zc,rfl,HU,HM⟩
   case round=>
    obtain ⟨j,hj,rfl,HU2,HM2⟩:=hrel;clear HU HM;by_cases h0:0 < j
    ·obtain ⟨q,rfl⟩:∃q,j=q+1:=⟨j - 1,zc⟩;have hd:decide ((0:Int) < ((q+1:Nat):Int))=true:=by rw [decide_eq_true_eq];omega
     obtain ⟨x,hx,cx,fx⟩:=HU2.out (q+1) (zc);obtain ⟨y,hy,cy,fy⟩:=HU2.out q (zc);have hq0:(((q+1:Nat):Int) - 1)=(q:Int):=zc;have hqk:(q:Int)+1 < k:=zc
     have ST:Hid (∀n,U32s (((wr.drewN n).setCell ⟨gb,off+(q+1),none⟩ (s g y)).setCell ⟨gb,off+q,none⟩ (s g x)) gb off k∧Mod [gb] w (((wr.drewN n).setCell ⟨gb,off+(q+1),none⟩ (s g y)).setCell ⟨gb,off+q,none⟩ (s g x))):=fun n=>
      ⟨((show U32s (wr.drewN n) gb off k from HU2.out).set (q+1) y (zc) hy).set q x (zc) hx,((HM2.out.drewN n).setCell _ _ (fun _=>ze)).setCell _ _ (fun _=>ze)⟩
     by_cases hxy:x < y
     ·have LX:Hid (∀W,o z 239 #[s g x,s g y] W fun e w'=>e=t (V true)∧w'=W):=fun W=>by
       have:=LS.out x y W;rw [decide_eq_true hxy] at this;exact this
      clear hxy;go_wp2_with fail
      go_quiet ((go_at_call 239;exact Calls.quiet_of_same (LX.out _)))
      go_wp2_with fail
      go_region
      all_goals
       clear cx fx cy fy LX HU2 HM2;go_wp2_with fail;go_roundw
       case rel=>exact ⟨q,zc,by go_num,(ST.out _).1,(ST.out _).2⟩
       case measure=>simp [intOf]
     ·have LX:Hid (∀W,o z 239 #[s g x,s g y] W fun e w'=>e=t (V false)∧w'=W):=fun W=>by
       have:=LS.out x y W;rw [decide_eq_false hxy] at this;exact this
      clear hxy;go_wp2_with fail
      go_quiet ((go_at_call 239;exact Calls.quiet_of_same (LX.out _)))
      clear cx fx cy fy LX ST;go_wp2_with fail;go_roundw
      case rel=>exact ⟨m+1,zc,zc,by go_num,HU2,HM2.out.drewN _⟩
      case measure=>simp [intOf];omega
    ·obtain rfl:j=0:=zc;go_wp2_with fail
     go_quiet (fail)
     go_wp2_with fail;go_roundw
     case rel=>exact ⟨m+1,zc,zc,by go_num,HU2,by first | exact HM2.out.drewN _ | exact HM2⟩
     case measure=>simp [intOf];omega
  ·have hge:¬(m:Int) < k:=zc;go_wp2_with fail;refine bodyPost_end (v:=p #[]) (by simp [d,a,go_sem];try rfl) rfl ?_;exact ⟨rfl,HU.out,HM.out⟩
theorem zV9 (k:Nat) (hk:k≤12) (w:l):o z 223 #[s .u64 k] w fun e w'=>(∃c:Int,e=t (s f c))∧w'=w:=by
 obtain rfl | rfl | rfl | rfl | rfl | rfl | rfl | rfl | rfl | rfl | rfl | rfl | rfl:k=0∨k=1∨k=2∨k=3∨k=4∨k=5∨k=6∨k=7∨k=8∨k=9∨k=10∨k=11∨k=12:=zc
 all_goals
  go_in;go_wp2;go_ret;exact ⟨⟨_,rfl⟩,rfl⟩
theorem yN5 {w:l} (gb off k cap:Nat) (hk:k≤12) (hc:k≤cap) (h:U32s w gb off k) (lim:Int):
 o z 222 #[b (some ⟨gb,off,none⟩) k cap,s f 0,s f k,s f lim] w fun e w'=>e=t (p #[])∧U32s w' gb off k∧Mod [gb] w w':=by
 have IS:=r (yh6 gb off k cap (zc) hc h);have hk':(k:Int)≤12:=zc;clear h;go_in;go_wp2_with fail;refine wp_loop_rounds 1 ?_;rw [rounds_succ];go_wp2_with fail;refine IS.out.mono ?_;rintro e w' ⟨rfl,hu,hm⟩;have HU:=r hu;have HM:=r hm;clear hu hm;go_wp2_with fail;refine X (v:=p #[]) (by simp [d,Z,go_sem];try rfl) rfl ?_;exact ⟨rfl,HU.out,HM.out⟩
theorem yK1 {w:l} (gb off k cap:Nat) (hk:k≤12) (hc:k≤cap) (h:U32s w gb off k):
 o z 203 #[b (some ⟨gb,off,none⟩) k cap] w fun e w'=>e=t (p #[])∧Mod [gb] w w':=by
 have PQ:=r (yN5 gb off k cap hk hc h);have LN:=r (zV9 k hk);have hk':(k:Int)≤12:=zc;clear h;go_in;go_wp2_with fail;refine (LN.out _).mono ?_;rintro e w' ⟨⟨c,rfl⟩,rfl⟩;go_wp2_with fail;refine (PQ.out _).mono ?_;rintro e w' ⟨rfl,hu,hm⟩;have HM:=r hm;clear hu hm;go_wp2_with fail;refine bodyPost_end (v:=p #[]) (by simp [d,Y,go_sem];try rfl) rfl ?_;exact ⟨rfl,HM.out⟩
theorem zX3 {w:l} (A:Option Addr) (cap:Nat):
 o z 203 #[b A 0 cap] w fun e w'=>e=t (p #[])∧w'=w:=by
 have LN:=r (zV9 0 (zc))
 have IS:Hid (∀w,o z 233 #[b A 0 cap,s f 0,s f 0] w fun e w'=>e=t (p #[])∧w'=w):=fun w=>by
  clear LN;go_in;go_wp2_with fail;refine wp_loop_rounds 1 ?_;rw [rounds_succ];go_wp2_with fail;refine bodyPost_end (v:=p #[]) (by simp [d,a,go_sem];try rfl) rfl ?_;exact ⟨rfl,rfl⟩
 have PQ:Hid (∀(lim:Int) w,o z 222 #[b A 0 cap,s f 0,s f 0,s f lim] w fun e w'=>e=t (p #[])∧w'=w):=fun lim w=>by
  clear LN;go_in;go_wp2_with fail;refine wp_loop_rounds 1 ?_;rw [rounds_succ];go_wp2_with fail;refine (IS.out _).mono ?_;rintro e w' ⟨rfl,rfl⟩;go_wp2_with fail;refine X (v:=p #[]) (by simp [d,Z,go_sem];try rfl) rfl ?_;exact ⟨rfl,rfl⟩
 go_in;go_wp2_with fail;refine (LN.out _).mono ?_;rintro e w' ⟨⟨c,rfl⟩,rfl⟩;go_wp2_with fail;refine (PQ.out _ _).mono ?_;rintro e w' ⟨rfl,rfl⟩;go_wp2_with fail;refine bodyPost_end (v:=p #[]) (by simp [d,Y,go_sem];try rfl) rfl ?_;exact ⟨rfl,rfl⟩
end Go.Proofs.YtbnpoapmnkfhkaaGreatDoor
