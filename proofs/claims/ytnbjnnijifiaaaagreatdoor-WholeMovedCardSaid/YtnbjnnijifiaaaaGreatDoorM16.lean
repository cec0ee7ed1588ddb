/- M16: S3 -/
import Derived.Test.YtnbjnnijifiaaaaGreatDoorM15
import Derived.Deep.CutRange
set_option maxRecDepth 100000
set_option maxHeartbeats 4000000
set_option linter.unusedVariables false
set_option linter.unusedSimpArgs false
namespace Go.Proofs.YtnbjnnijifiaaaaGreatDoor
open Go.RowKit
def PdqC (P:Nat→Prop) (gb off k cap N:Nat):Prop:=∀(w:World) (a b:Nat) (l:Int),a≤b→b≤k→b≤a+N→0≤l→l≤64→U32P P w gb off k→
 Calls Tryz.prog 178 #[.slice (some ⟨gb,off,none⟩) k cap,.int .i64 a,.int .i64 b,.int .i64 l] w (SrtP P w gb off k)
theorem pdq_step {P:Nat→Prop} {gb off k cap N:Nat} (hk:k≤49) (hc:k≤cap) (ih:∀M,M < N→PdqC P gb off k cap M):PdqC P gb off k cap N:=by
 intro w a0 b0 l0 hab0 hb0 hN hl0 hl64 h
 have LS:=Lib.hid less_c
 have IH:=Lib.hid ih
 have INS:Hid (∀(W:World) (a b:Nat),a≤b→b≤k→U32P P W gb off k→_):=fun W a b h1 h2 h3=>insortP_c (w:=W) gb off k cap a b (by omega) hc h1 h2 h3
 have HEAP:Hid (∀(W:World) (a b:Nat),a < b→b≤k→U32P P W gb off k→_):=fun W a b h1 h2 h3=>heapP_c (w:=W) gb off k cap a b (by omega) hc h1 h2 h3
 have BRK:Hid (∀(W:World) (a l:Nat),a+l≤k→8≤l→l≤49→U32P P W gb off k→_):=fun W a l h1 h2 h3 h4=>breakP_c (w:=W) gb off k cap a l (by omega) hc h1 h2 h3 h4
 have PIV:Hid (∀(W:World) (a b:Nat),b≤k→a+8≤b→b < a+50→U32P P W gb off k→_):=fun W a b h1 h2 h3 h4=>pivotP_c (w:=W) gb off k cap a b (by omega) hc h1 h2 h3 h4
 have REV:Hid (∀(W:World) (a b:Nat),b≤k→U32P P W gb off k→_):=fun W a b h1 h2=>revP_c (w:=W) gb off k cap a b (by omega) hc h1 h2
 have PIN:Hid (∀(W:World) (a b:Nat),a < b→b≤k→b < a+50→U32P P W gb off k→_):=fun W a b h1 h2 h3 h4=>pinsP_c (w:=W) gb off k cap a b (by omega) hc h1 h2 h3 h4
 have PEQ:Hid (∀(W:World) (a b p:Nat),a < b→b≤k→a≤p→p < b→U32P P W gb off k→_):=fun W a b p h1 h2 h3 h4 h5=>peqP_c (w:=W) gb off k cap a b p (by omega) hc h1 h2 h3 h4 h5
 have PAR:Hid (∀(W:World) (a b p:Nat),a < b→b≤k→a≤p→p < b→U32P P W gb off k→_):=fun W a b p h1 h2 h3 h4 h5=>partP_c (w:=W) gb off k cap a b p (by omega) hc h1 h2 h3 h4 h5
 have HU:=Lib.hid h
 have HM:Hid (Mod [gb] w w):=Mod.refl _ _
 have hk':(k:Int)≤49:=by omega
 clear h ih
 go_enter Tryz.func178,Tryz.ntmps178
 go_wp2_with fail
 go_loopw [1,2,3,8,9] (fun x y z u v wr=>∃(a b:Nat) (l:Int) (b1 b2:Bool),x=.int .i64 a∧y=.int .i64 b∧z=.int .i64 l∧u=.bool b1∧v=.bool b2∧a≤b∧b≤k∧b≤a+N∧0≤l∧l≤64∧Hid (U32P P wr gb off k)∧Hid (Mod [gb] w wr)) (fun x y _ _ _ _=>(intOf y - intOf x).toNat)
 case atStart=>exact ⟨a0,b0,l0,true,true,rfl,rfl,rfl,rfl,rfl,hab0,hb0,hN,hl0,hl64,HU,HM⟩
 case round=>
  clear HU HM
  clear hab0 hb0 hN hl0 hl64
  obtain ⟨a,b,l,b1,b2,rfl,rfl,rfl,rfl,rfl,hab,hb,hN,hl0,hl64,HU,HM⟩:=hrel
  have hbk:(b:Int)≤49:=by omega
  by_cases h12:(b:Int) - a≤12
  ·have hd:decide ((b:Int) - a≤12)=true:=decide_eq_true h12
   go_wp2_with fail
   refine (INS.out _ a b hab hb HU.out).mono ?_
   rintro e w1 ⟨rfl,hu,hm⟩
   have HU1:=Lib.hid hu
   have HM1:=Lib.hid (HM.out.trans' hm)
   clear hu hm
   go_wp2_with fail
   refine bodyPost_ret (v:=.tuple #[]) (by simp [results,Tryz.results178,go_sem];try rfl) rfl ?_
   exact ⟨rfl,HU1.out,HM1.out⟩
  ·have hd:decide ((b:Int) - a≤12)=false:=decide_eq_false h12
   by_cases hl:l=0
   ·subst hl
    go_wp2_with fail
    refine (HEAP.out _ a b (by omega) hb HU.out).mono ?_
    rintro e w1 ⟨rfl,hu,hm⟩
    have HU1:=Lib.hid hu
    have HM1:=Lib.hid (HM.out.trans' hm)
    clear hu hm
    go_wp2_with fail
    refine bodyPost_ret (v:=.tuple #[]) (by simp [results,Tryz.results178,go_sem];try rfl) rfl ?_
    exact ⟨rfl,HU1.out,HM1.out⟩
   ·have hle:(l==0)=false:=by rw [beq_eq_false_iff_ne];exact hl
    go_upto_region 7 with fail
    go_cut [35] from 34 to 35 (fun v wq=>v=.bool (!b1)∧wq=wr)
    case first=>
     go_wp2_with fail
     go_meet
     exact ⟨rfl,rfl⟩
    case rest=>
    obtain ⟨rfl,hwq⟩:=hcut
    subst hwq
    go_step
    go_cut [3] from 36 to 41 (fun v wq=>∃l':Int,v=.int .i64 l'∧0≤l'∧l'≤64∧Hid (U32P P wq gb off k)∧Hid (Mod [gb] w wq))
    case first=>
     cases b1 with
     | false=>
      have BX:Hid (Calls Tryz.prog 194 #[.slice (some ⟨gb,off,none⟩) k cap,.int .i64 a,.int .i64 b] wc (SrtP P wc gb off k)):=by
       have h:=BRK.out wc a (b - a) (by omega) (by omega) (by omega) HU.out
       rw [show (a:Int)+((b - a:Nat):Int)=b by omega] at h
       exact h
      have hl1:1≤l:=by omega
      go_wp2_with fail
      refine BX.out.mono ?_
      rintro e w1 ⟨rfl,hu,hm⟩
      have HU1:=Lib.hid hu
      have HM1:=Lib.hid (HM.out.trans' hm)
      clear hu hm
      go_wp2_with fail
      go_meet
      exact ⟨l - 1,rfl,by omega,by omega,HU1,HM1⟩
     | true=>
      go_wp2_with fail
      go_meet
      exact ⟨l,rfl,hl0,hl64,HU,HM⟩
    case rest=>
    clear HU HM hl0 hl64 hl hle
    obtain ⟨l',rfl,hl0,hl64,HU,HM⟩:=hcut
    generalize wc=w3 at *
    go_wp2_with fail
    refine (PIV.out _ a b hb (by omega) (by omega) HU.out).mono ?_
    rintro e w4 ⟨p,hh,rfl,hp,hhh,hu,hm⟩
    have HU4:=Lib.hid hu
    have HM4:=Lib.hid (HM.out.trans' (hm.mono (by simp)))
    clear hu hm HU HM
    go_upto_region 11 with fail
    go_cut [50] from 49 to 50 (fun v wq=>v=.bool ((hh:Int)==2)∧wq=w4)
    case first=>
     go_wp2_with fail
     go_meet
     exact ⟨by first | rfl | trace_state,rfl⟩
    case rest=>
    obtain ⟨rfl,hwq⟩:=hcut
    subst hwq
    go_step
    go_cut [11,12] from 50 to 60 (fun v u wq=>∃p' h':Nat,v=.int .i64 p'∧u=.int .i64 h'∧(a≤p'∧p' < b)∧h'≤2∧Hid (U32P P wq gb off k)∧Hid (Mod [gb] w wq))
    case first=>
     by_cases hh2:hh=2
     ·have hq:((hh:Int)==2)=true:=by rw [beq_iff_eq];omega
      clear hh2
      go_wp2_with fail
      refine (REV.out _ a b hb HU4.out).mono ?_
      rintro e w1 ⟨rfl,hu,hm⟩
      have HU1:=Lib.hid hu
      have HM1:=Lib.hid (HM4.out.trans' hm)
      clear hu hm
      go_wp2_with fail
      go_meet
      exact ⟨b - 1 - (p - a),1,by show Value.int _ _=_;congr 1;omega,rfl,by omega,by omega,HU1,HM1⟩
     ·have hq:((hh:Int)==2)=false:=by rw [beq_eq_false_iff_ne];omega
      clear hh2
      go_wp2_with fail
      go_meet
      exact ⟨p,hh,rfl,rfl,hp,hhh,HU4,HM4⟩
    case rest=>
    clear hhh hp HU4 HM4
    obtain ⟨p',h',rfl,rfl,hp,hh',HU,HM⟩:=hcut
    generalize wc=w5 at *
    go_upto_region 15 with fail
    go_cut [68] from 61 to 68 (fun v wq=>∃bb:Bool,v=.bool bb∧wq=w5)
    case first=>
     by_cases hh1:h'=1
     ·have hq:((h':Int)==1)=true:=by rw [beq_iff_eq];omega
      clear hh1
      cases b1<;>cases b2
      all_goals (go_wp2_with fail;go_meet)
      all_goals exact ⟨_,rfl,rfl⟩
     ·have hq:((h':Int)==1)=false:=by rw [beq_eq_false_iff_ne];omega
      clear hh1
      cases b1<;>cases b2
      all_goals (go_wp2_with fail;go_meet)
      all_goals exact ⟨_,rfl,rfl⟩
    case rest=>
    obtain ⟨bb,rfl,hwq⟩:=hcut
    subst hwq
    have hpk:(p':Int) < k:=by omega
    cases bb with
    | true=>
     go_wp2_with fail
     refine (PIN.out _ a b (by omega) hb (by omega) HU.out).mono ?_
     rintro e w1 ⟨b4,rfl,hu,hm⟩
     replace HU:=Lib.hid hu
     replace HM:=Lib.hid (HM.out.trans' hm)
     clear hu hm
     cases b4 with
     | true=>
      go_wp2_with fail
      refine bodyPost_ret (v:=.tuple #[]) (by simp [results,Tryz.results178,go_sem];try rfl) rfl ?_
      exact ⟨rfl,HU.out,HM.out⟩
     | false=>
      go_upto_region 17 with fail
      go_cut [87] from 73 to 87 (fun v wq=>∃(bb:Bool) (nn:Nat),v=.bool bb∧(bb=true→0 < a)∧wq=w1.drewN nn)
      case first=>
       by_cases hc0:0 < a
       ·have hd:decide ((0:Int) < a)=true:=by rw [decide_eq_true_eq];omega
        obtain ⟨q,rfl⟩:∃q,a=q+1:=⟨a - 1,by omega⟩
        obtain ⟨x,hx,cx,fx,px⟩:=HU.out q (by omega)
        obtain ⟨y,hy,cy,fy,py⟩:=HU.out p' (by omega)
        have hq0:(((q+1:Nat):Int) - 1)=(q:Int):=by omega
        have hqk:(q:Int)+1 < k:=by omega
        have hqk2:(q:Int) < k:=by omega
        have hd:decide ((0:Int) < (q:Int)+1)=true:=by rw [decide_eq_true_eq];omega
        by_cases hxy:x < y
        ·have LX:Hid (∀W,Calls Tryz.prog 198 #[.int .u32 x,.int .u32 y] W fun e w'=>e=.returned (.bool true)∧w'=W):=fun W=>by
          have:=LS.out x y W;rw [decide_eq_true hxy] at this;exact this
         clear hxy
         go_wp2_with fail
         go_quiet ((go_at_call 198;exact Calls.quiet_of_same (LX.out _)))
         go_wp2_with fail
         go_meet
         exact ⟨false,_,rfl,(fun _=>hc0),rfl⟩
        ·have LX:Hid (∀W,Calls Tryz.prog 198 #[.int .u32 x,.int .u32 y] W fun e w'=>e=.returned (.bool false)∧w'=W):=fun W=>by
          have:=LS.out x y W;rw [decide_eq_false hxy] at this;exact this
         clear hxy
         go_wp2_with fail
         go_quiet ((go_at_call 198;exact Calls.quiet_of_same (LX.out _)))
         go_wp2_with fail
         go_meet
         exact ⟨true,_,rfl,(fun _=>hc0),rfl⟩
       ·have hd:decide ((0:Int) < a)=false:=by rw [decide_eq_false_iff_not];omega
        go_wp2_with fail
        go_quiet (fail)
        go_wp2_with fail
        go_meet
        exact ⟨false,_,rfl,(fun h=>by cases h),rfl⟩
      case rest=>
       obtain ⟨bb,nn,rfl,hbb,rfl⟩:=hcut
       replace HU:Hid (U32P P (w1.drewN nn) gb off k):=HU
       replace HM:Hid (Mod [gb] w (w1.drewN nn)):=HM.out.drewN nn
       generalize w1.drewN nn=w6 at *
       cases bb with
       | true=>
        have hc0:=hbb rfl
        clear hbb
        go_wp2_with fail
        refine (PEQ.out _ a b p' (by omega) hb hp.1 hp.2 HU.out).mono ?_
        rintro e w7 ⟨m,rfl,hm1,hm2,hu,hm⟩
        replace HU:=Lib.hid hu
        replace HM:=Lib.hid (HM.out.trans' hm)
        clear hu hm
        go_wp2_with fail
        go_roundw
        case rel=>exact ⟨m,b,l',b1,b2,rfl,rfl,rfl,rfl,rfl,hm2,hb,by omega,hl0,hl64,HU,HM⟩
        case measure=>simp [intOf];omega
       | false=>
        clear hbb
        go_wp2_with fail
        refine (PAR.out _ a b p' (by omega) hb hp.1 hp.2 HU.out).mono ?_
        rintro e w7 ⟨m,b5,rfl,hm1,hm2,hu,hm⟩
        replace HU:=Lib.hid hu
        replace HM:=Lib.hid (HM.out.trans' hm)
        clear hu hm
        have hmk:(m:Int)≤49:=by omega
        by_cases hlr:(m:Int) - a < (b:Int) - m
        ·have hd2:decide ((m:Int) - a < (b:Int) - m)=true:=decide_eq_true hlr
         go_wp2_with fail
         refine (IH.out (m - a) (by omega) _ a m l' hm1 (by omega) (by omega) hl0 hl64 HU.out).mono ?_
         rintro e w8 ⟨rfl,hu,hm⟩
         replace HU:=Lib.hid hu
         replace HM:=Lib.hid (HM.out.trans' hm)
         clear hu hm
         go_wp2_with fail
         go_roundw
         case rel=>exact ⟨m+1,b,l',_,b5,by go_num,rfl,rfl,rfl,rfl,by omega,hb,by omega,hl0,hl64,HU,HM⟩
         case measure=>simp [intOf];omega
        ·have hd2:decide ((m:Int) - a < (b:Int) - m)=false:=decide_eq_false hlr
         have BX:Hid (Calls Tryz.prog 178 #[.slice (some ⟨gb,off,none⟩) k cap,.int .i64 ((m:Int)+1),.int .i64 b,.int .i64 l'] w7 (SrtP P w7 gb off k)):=IH.out (b - (m+1)) (by omega) _ (m+1) b l' (by omega) hb (by omega) hl0 hl64 HU.out
         go_wp2_with fail
         refine BX.out.mono ?_
         rintro e w8 ⟨rfl,hu,hm⟩
         replace HU:=Lib.hid hu
         replace HM:=Lib.hid (HM.out.trans' hm)
         clear hu hm
         go_wp2_with fail
         go_roundw
         case rel=>exact ⟨a,m,l',_,b5,rfl,rfl,rfl,rfl,rfl,hm1,by omega,by omega,hl0,hl64,HU,HM⟩
         case measure=>simp [intOf];omega
    | false=>
     go_upto_region 17 with fail
     go_cut [87] from 73 to 87 (fun v wq=>∃(bb:Bool) (nn:Nat),v=.bool bb∧(bb=true→0 < a)∧wq=wc.drewN nn)
     case first=>
      by_cases hc0:0 < a
      ·have hd:decide ((0:Int) < a)=true:=by rw [decide_eq_true_eq];omega
       obtain ⟨q,rfl⟩:∃q,a=q+1:=⟨a - 1,by omega⟩
       obtain ⟨x,hx,cx,fx,px⟩:=HU.out q (by omega)
       obtain ⟨y,hy,cy,fy,py⟩:=HU.out p' (by omega)
       have hq0:(((q+1:Nat):Int) - 1)=(q:Int):=by omega
       have hqk:(q:Int)+1 < k:=by omega
       have hqk2:(q:Int) < k:=by omega
       have hd:decide ((0:Int) < (q:Int)+1)=true:=by rw [decide_eq_true_eq];omega
       by_cases hxy:x < y
       ·have LX:Hid (∀W,Calls Tryz.prog 198 #[.int .u32 x,.int .u32 y] W fun e w'=>e=.returned (.bool true)∧w'=W):=fun W=>by
         have:=LS.out x y W;rw [decide_eq_true hxy] at this;exact this
        clear hxy
        go_wp2_with fail
        go_quiet ((go_at_call 198;exact Calls.quiet_of_same (LX.out _)))
        go_wp2_with fail
        go_meet
        exact ⟨false,_,rfl,(fun _=>hc0),rfl⟩
       ·have LX:Hid (∀W,Calls Tryz.prog 198 #[.int .u32 x,.int .u32 y] W fun e w'=>e=.returned (.bool false)∧w'=W):=fun W=>by
         have:=LS.out x y W;rw [decide_eq_false hxy] at this;exact this
        clear hxy
        go_wp2_with fail
        go_quiet ((go_at_call 198;exact Calls.quiet_of_same (LX.out _)))
        go_wp2_with fail
        go_meet
        exact ⟨true,_,rfl,(fun _=>hc0),rfl⟩
      ·have hd:decide ((0:Int) < a)=false:=by rw [decide_eq_false_iff_not];omega
       go_wp2_with fail
       go_quiet (fail)
       go_wp2_with fail
       go_meet
       exact ⟨false,_,rfl,(fun h=>by cases h),rfl⟩
     case rest=>
      obtain ⟨bb,nn,rfl,hbb,rfl⟩:=hcut
      replace HU:Hid (U32P P (wc.drewN nn) gb off k):=HU
      replace HM:Hid (Mod [gb] w (wc.drewN nn)):=HM.out.drewN nn
      generalize wc.drewN nn=w6 at *
      cases bb with
      | true=>
       have hc0:=hbb rfl
       clear hbb
       go_wp2_with fail
       refine (PEQ.out _ a b p' (by omega) hb hp.1 hp.2 HU.out).mono ?_
       rintro e w7 ⟨m,rfl,hm1,hm2,hu,hm⟩
       replace HU:=Lib.hid hu
       replace HM:=Lib.hid (HM.out.trans' hm)
       clear hu hm
       go_wp2_with fail
       go_roundw
       case rel=>exact ⟨m,b,l',b1,b2,rfl,rfl,rfl,rfl,rfl,hm2,hb,by omega,hl0,hl64,HU,HM⟩
       case measure=>simp [intOf];omega
      | false=>
       clear hbb
       go_wp2_with fail
       refine (PAR.out _ a b p' (by omega) hb hp.1 hp.2 HU.out).mono ?_
       rintro e w7 ⟨m,b5,rfl,hm1,hm2,hu,hm⟩
       replace HU:=Lib.hid hu
       replace HM:=Lib.hid (HM.out.trans' hm)
       clear hu hm
       have hmk:(m:Int)≤49:=by omega
       by_cases hlr:(m:Int) - a < (b:Int) - m
       ·have hd2:decide ((m:Int) - a < (b:Int) - m)=true:=decide_eq_true hlr
        go_wp2_with fail
        refine (IH.out (m - a) (by omega) _ a m l' hm1 (by omega) (by omega) hl0 hl64 HU.out).mono ?_
        rintro e w8 ⟨rfl,hu,hm⟩
        replace HU:=Lib.hid hu
        replace HM:=Lib.hid (HM.out.trans' hm)
        clear hu hm
        go_wp2_with fail
        go_roundw
        case rel=>exact ⟨m+1,b,l',_,b5,by go_num,rfl,rfl,rfl,rfl,by omega,hb,by omega,hl0,hl64,HU,HM⟩
        case measure=>simp [intOf];omega
       ·have hd2:decide ((m:Int) - a < (b:Int) - m)=false:=decide_eq_false hlr
        have BX:Hid (Calls Tryz.prog 178 #[.slice (some ⟨gb,off,none⟩) k cap,.int .i64 ((m:Int)+1),.int .i64 b,.int .i64 l'] w7 (SrtP P w7 gb off k)):=IH.out (b - (m+1)) (by omega) _ (m+1) b l' (by omega) hb (by omega) hl0 hl64 HU.out
        go_wp2_with fail
        refine BX.out.mono ?_
        rintro e w8 ⟨rfl,hu,hm⟩
        replace HU:=Lib.hid hu
        replace HM:=Lib.hid (HM.out.trans' hm)
        clear hu hm
        go_wp2_with fail
        go_roundw
        case rel=>exact ⟨a,m,l',_,b5,rfl,rfl,rfl,rfl,rfl,hm1,by omega,by omega,hl0,hl64,HU,HM⟩
        case measure=>simp [intOf];omega
theorem pdqP_c {P:Nat→Prop} {gb off k cap:Nat} (hk:k≤49) (hc:k≤cap):∀N,PdqC P gb off k cap N:=fun N=>by
 induction N using Nat.strongRecOn with
 | _ N ih=>exact pdq_step hk hc ih
theorem sortP_c {P:Nat→Prop} {w:World} (gb off k cap:Nat) (hk:k≤49) (hc:k≤cap) (h:U32P P w gb off k):
 Calls Tryz.prog 154 #[.slice (some ⟨gb,off,none⟩) k cap] w (SrtP P w gb off k):=by
 have PQ:Hid (∀l:Int,0≤l→l≤64→Calls Tryz.prog 178 #[.slice (some ⟨gb,off,none⟩) k cap,.int .i64 0,.int .i64 k,.int .i64 l] w (SrtP P w gb off k)):=fun l h1 h2=>pdqP_c hk hc k w 0 k l (by omega) (Nat.le_refl _) (by omega) h1 h2 h
 have LN:=Lib.hid (lenP_c k hk)
 have hk':(k:Int)≤49:=by omega
 clear h
 go_enter Tryz.func154,Tryz.ntmps154
 go_wp2_with fail
 refine (LN.out _).mono ?_
 rintro e w1 ⟨⟨c,rfl,hc6,-⟩,rfl⟩
 go_wp2_with fail
 refine (PQ.out c (by omega) (by omega)).mono ?_
 rintro e w2 ⟨rfl,hu,hm⟩
 have HU:=Lib.hid hu
 have HM:=Lib.hid hm
 clear hu hm
 go_wp2_with fail
 refine bodyPost_ret (v:=.tuple #[]) (by simp [results,Tryz.results154,go_sem];try rfl) rfl ?_
 exact ⟨rfl,HU.out,HM.out⟩
end Go.Proofs.YtnbjnnijifiaaaaGreatDoor
