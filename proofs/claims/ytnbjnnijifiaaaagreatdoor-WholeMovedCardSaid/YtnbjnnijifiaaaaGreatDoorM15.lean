/- M15: Sq · Ss · Sr · S1 · Sy · S2 -/
import Derived.Test.YtnbjnnijifiaaaaGreatDoorM13
import Derived.Deep.CutRange
set_option maxRecDepth 100000
set_option maxHeartbeats 4000000
set_option linter.unusedVariables false
set_option linter.unusedSimpArgs false
namespace Go.Proofs.YtnbjnnijifiaaaaGreatDoor
open Go.RowKit
theorem peqP_c {P:Nat→Prop} {w:World} (gb off k cap a b p:Nat) (hk:k≤1000) (hc:k≤cap) (hab:a < b) (hb:b≤k) (hap:a≤p) (hpb:p < b) (h:U32P P w gb off k):
 Calls Tryz.prog 199 #[.slice (some ⟨gb,off,none⟩) k cap,.int .i64 a,.int .i64 b,.int .i64 p] w fun e w'=>∃m:Nat,e=.returned (.int .i64 m)∧a < m∧m≤b∧U32P P w' gb off k∧Mod [gb] w w':=by
 have LS:=Lib.hid less_c
 have HU:=Lib.hid h
 have HM:Hid (Mod [gb] w w):=Mod.refl _ _
 clear h
 have hk':(k:Int)≤1000:=by omega
 have hb':(b:Int)≤k:=by omega
 have hpk:(p:Int) < k:=by omega
 have hak:(a:Int) < k:=by omega
 obtain ⟨w0,hw0⟩:∃w0,w0=w:=⟨_,rfl⟩
 have hb1:(((b - 1:Nat)):Int)=(b:Int) - 1:=by omega
 go_enter Tryz.func199,Tryz.ntmps199
 go_upto_region 1 with fail
 go_cut [18] from 11 to 24 (fun v wq=>Hid (U32P P wq gb off k)∧Hid (Mod [gb] w wq))
 case first=>
  obtain ⟨x,hx,cx,fx,px⟩:=HU.out a (by omega)
  by_cases hij:a=p
  ·have ST:=Lib.hid (HU.out.swap' HM.out (i:=a) (j:=a) (by omega) (by omega) hx hx px px)
   first | subst hij | (have hij':=hij.symm;subst hij')
   clear HU HM
   go_wp2_with fail
   go_region
   all_goals (go_wp2_with fail;go_meet)
   all_goals exact ⟨Lib.hid ST.out.1,Lib.hid ST.out.2⟩
  ·obtain ⟨y,hy,cy,fy,py⟩:=HU.out p (by omega)
   have hij2:¬p=a:=fun e=>hij e.symm
   have ST:=Lib.hid (HU.out.swap' HM.out (i:=a) (j:=p) (by omega) (by omega) hx hy px py)
   clear HU HM
   go_wp2_with fail
   go_region
   all_goals (go_wp2_with fail;go_meet)
   all_goals exact ⟨Lib.hid ST.out.1,Lib.hid ST.out.2⟩
 case rest=>
  clear HU HM
  obtain ⟨HU,HM⟩:=hcut
  generalize wc=w2 at *
  go_wp2_with fail
  go_loopw [9,10] (fun i j wr=>∃m n:Nat,a+1≤m∧m≤n+2∧m≤b∧a≤n∧n+1≤b∧i=.int .i64 m∧(∃jj:Int,j=.int .i64 jj∧jj=n)∧Hid (U32P P wr gb off k)∧Hid (Mod [gb] w wr)) (fun i j _=>(intOf j+1 - intOf i).toNat)
  case atStart=>exact ⟨a+1,b - 1,by omega,by omega,by omega,by omega,by omega,by go_num,⟨_,rfl,by omega⟩,HU,HM⟩
  case round=>
   clear HU HM
   obtain ⟨m0,n0,hm1,hm2,hm3,hn1,hn2,rfl,⟨jj,rfl,rfl⟩,HU,HM⟩:=hrel
   go_wp2_with fail
   go_loopw [9] (fun i wr=>∃m:Nat,m0≤m∧(m≤n0+1∨m=m0)∧i=.int .i64 m∧Hid (U32P P wr gb off k)∧Hid (Mod [gb] w wr)) (fun i _=>(n0+1 - intOf i).toNat)
   case atStart=>exact ⟨m0,by omega,.inr rfl,rfl,HU,HM⟩
   case round=>
    clear HU HM
    obtain ⟨m,hm4,hm5,rfl,HU,HM⟩:=hrel
    go_upto_region 3 with fail
    go_cut [43] from 29 to 43 (fun v wq=>∃(bb:Bool) (nn:Nat),v=.bool bb∧(bb=true→m≤n0)∧wq=wr.drewN nn)
    case first=>
     by_cases hc0:m≤n0
     ·have hd:decide ((m:Int)≤n0)=true:=by rw [decide_eq_true_eq];omega
      obtain ⟨x,hx,cx,fx,px⟩:=HU.out a (by omega)
      obtain ⟨y,hy,cy,fy,py⟩:=HU.out m (by omega)
      have q1:(m:Int) < k:=by omega
      by_cases hxy:x < y
      ·have LX:Hid (∀W,Calls Tryz.prog 198 #[.int .u32 x,.int .u32 y] W fun e w'=>e=.returned (.bool true)∧w'=W):=fun W=>by
        have:=LS.out x y W;rw [decide_eq_true hxy] at this;exact this
       clear hxy
       go_wp2_with fail
       go_quiet ((go_at_call 198;exact Calls.quiet_of_same (LX.out _)))
       go_wp2_with fail
       go_meet
       exact ⟨false,_,rfl,(fun _=>hc0),rfl⟩
      ·have LX:Hid (∀W,Calls Tryz.prog 198 #[.int .u32 x,.int .u32 y] W fun e w'=>e=.returned (.bool false)∧w'=W):=fun W=>by
        have:=LS.out x y W;rw [decide_eq_false hxy] at this;exact this
       clear hxy
       go_wp2_with fail
       go_quiet ((go_at_call 198;exact Calls.quiet_of_same (LX.out _)))
       go_wp2_with fail
       go_meet
       exact ⟨true,_,rfl,(fun _=>hc0),rfl⟩
     ·have hd:decide ((m:Int)≤n0)=false:=by rw [decide_eq_false_iff_not];omega
      go_wp2_with fail
      go_quiet (fail)
      go_wp2_with fail
      go_meet
      exact ⟨false,_,rfl,(fun h=>by cases h),rfl⟩
    case rest=>
     obtain ⟨bb,nn,rfl,hbb,rfl⟩:=hcut
     replace HU:Hid (U32P P (wr.drewN nn) gb off k):=HU
     replace HM:Hid (Mod [gb] w (wr.drewN nn)):=HM.out.drewN nn
     generalize wr.drewN nn=w4 at *
     cases bb with
     | true=>
      have hc0:=hbb rfl
      clear hbb
      go_wp2_with fail
      go_roundw
      case rel=>exact ⟨m+1,by omega,by omega,by go_num,HU,HM⟩
      case measure=>simp [intOf];omega
     | false=>
      clear hbb
      go_wp2_with fail
      go_loopw [10] (fun j wr=>∃n:Nat,(m≤n+1∨n=n0)∧n≤n0∧a≤n∧j=.int .i64 n∧Hid (U32P P wr gb off k)∧Hid (Mod [gb] w wr)) (fun j _=>(intOf j).toNat)
      case atStart=>exact ⟨n0,by omega,by omega,by omega,rfl,HU,HM⟩
      case round=>
       clear HU HM
       obtain ⟨n,hn3,hn4,hn5,rfl,HU,HM⟩:=hrel
       go_upto_region 5 with fail
       go_cut [59] from 46 to 59 (fun v wq=>∃(bb:Bool) (nn:Nat),v=.bool bb∧(bb=true→m≤n)∧wq=wr.drewN nn)
       case first=>
        by_cases hc0:m≤n
        ·have hd:decide ((m:Int)≤n)=true:=by rw [decide_eq_true_eq];omega
         obtain ⟨x,hx,cx,fx,px⟩:=HU.out a (by omega)
         obtain ⟨y,hy,cy,fy,py⟩:=HU.out n (by omega)
         have q1:(n:Int) < k:=by omega
         by_cases hxy:x < y
         ·have LX:Hid (∀W,Calls Tryz.prog 198 #[.int .u32 x,.int .u32 y] W fun e w'=>e=.returned (.bool true)∧w'=W):=fun W=>by
           have:=LS.out x y W;rw [decide_eq_true hxy] at this;exact this
          clear hxy
          go_wp2_with fail
          go_quiet ((go_at_call 198;exact Calls.quiet_of_same (LX.out _)))
          go_wp2_with fail
          go_meet
          exact ⟨true,_,rfl,(fun _=>hc0),rfl⟩
         ·have LX:Hid (∀W,Calls Tryz.prog 198 #[.int .u32 x,.int .u32 y] W fun e w'=>e=.returned (.bool false)∧w'=W):=fun W=>by
           have:=LS.out x y W;rw [decide_eq_false hxy] at this;exact this
          clear hxy
          go_wp2_with fail
          go_quiet ((go_at_call 198;exact Calls.quiet_of_same (LX.out _)))
          go_wp2_with fail
          go_meet
          exact ⟨false,_,rfl,(fun _=>hc0),rfl⟩
        ·have hd:decide ((m:Int)≤n)=false:=by rw [decide_eq_false_iff_not];omega
         go_wp2_with fail
         go_quiet (fail)
         go_wp2_with fail
         go_meet
         exact ⟨false,_,rfl,(fun h=>by cases h),rfl⟩
       case rest=>
        obtain ⟨bb,nn,rfl,hbb,rfl⟩:=hcut
        replace HU:Hid (U32P P (wr.drewN nn) gb off k):=HU
        replace HM:Hid (Mod [gb] w (wr.drewN nn)):=HM.out.drewN nn
        generalize wr.drewN nn=w5 at *
        cases bb with
        | true=>
         have hc0:=hbb rfl
         clear hbb
         go_wp2_with fail
         go_roundw
         case rel=>exact ⟨n - 1,by omega,by omega,by omega,by first | (show Value.int _ _=_;congr 1;omega) | go_num,HU,HM⟩
         case measure=>simp [intOf];omega
        | false=>
         clear hbb
         by_cases hgt:n < m
         ·have hd:decide ((n:Int) < m)=true:=by rw [decide_eq_true_eq];omega
          go_wp2_with fail
          go_ret
          exact ⟨m,rfl,by omega,by omega,HU.out,HM.out⟩
         ·have hd:decide ((n:Int) < m)=false:=by rw [decide_eq_false_iff_not];omega
          go_upto_region 8 with fail
          go_cut [72] from 65 to 78 (fun v wq=>Hid (U32P P wq gb off k)∧Hid (Mod [gb] w wq))
          case first=>
           have q1:(m:Int) < k:=by omega
           have q2:(n:Int) < k:=by omega
           obtain ⟨x,hx,cx,fx,px⟩:=HU.out m (by omega)
           by_cases hij:m=n
           ·have ST:=Lib.hid (HU.out.swap' HM.out (i:=m) (j:=m) (by omega) (by omega) hx hx px px)
            first | subst hij | (have hij':=hij.symm;subst hij')
            clear HU HM
            go_wp2_with fail
            go_region
            all_goals (go_wp2_with fail;go_meet)
            all_goals exact ⟨Lib.hid ST.out.1,Lib.hid ST.out.2⟩
           ·obtain ⟨y,hy,cy,fy,py⟩:=HU.out n (by omega)
            have hij2:¬n=m:=fun e=>hij e.symm
            have ST:=Lib.hid (HU.out.swap' HM.out (i:=m) (j:=n) (by omega) (by omega) hx hy px py)
            clear HU HM
            go_wp2_with fail
            go_region
            all_goals (go_wp2_with fail;go_meet)
            all_goals exact ⟨Lib.hid ST.out.1,Lib.hid ST.out.2⟩
          case rest=>
           clear HU HM
           obtain ⟨HU,HM⟩:=hcut
           generalize wc=w6 at *
           go_wp2_with fail
           go_roundw
           case rel=>exact ⟨m+1,n - 1,by omega,by omega,by omega,by omega,by omega,by go_num,⟨_,rfl,by omega⟩,HU,HM⟩
           case measure=>simp [intOf];omega
theorem partP_c {P:Nat→Prop} {w:World} (gb off k cap a b p:Nat) (hk:k≤1000) (hc:k≤cap) (hab:a < b) (hb:b≤k) (hap:a≤p) (hpb:p < b) (h:U32P P w gb off k):
 Calls Tryz.prog 200 #[.slice (some ⟨gb,off,none⟩) k cap,.int .i64 a,.int .i64 b,.int .i64 p] w fun e w'=>∃(m:Nat) (bb:Bool),e=.returned (.tuple #[.int .i64 m,.bool bb])∧a≤m∧m < b∧U32P P w' gb off k∧Mod [gb] w w':=by
 have LS:=Lib.hid less_c
 have HU:=Lib.hid h
 have HM:Hid (Mod [gb] w w):=Mod.refl _ _
 clear h
 have hk':(k:Int)≤1000:=by omega
 have hb':(b:Int)≤k:=by omega
 have hpk:(p:Int) < k:=by omega
 have hak:(a:Int) < k:=by omega
 obtain ⟨m0,hm0⟩:∃m0,m0=a+1:=⟨_,rfl⟩
 obtain ⟨n0,hn0⟩:∃n0,n0=b - 1:=⟨_,rfl⟩
 go_enter Tryz.func200,Tryz.ntmps200
 go_upto_region 1 with fail
 go_cut [19] from 12 to 25 (fun v wq=>Hid (U32P P wq gb off k)∧Hid (Mod [gb] w wq))
 case first=>
  obtain ⟨x,hx,cx,fx,px⟩:=HU.out a (by omega)
  by_cases hij:a=p
  ·have ST:=Lib.hid (HU.out.swap' HM.out (i:=a) (j:=a) (by omega) (by omega) hx hx px px)
   first | subst hij | (have hij':=hij.symm;subst hij')
   clear HU HM
   go_wp2_with fail
   go_region
   all_goals (go_wp2_with fail;go_meet)
   all_goals exact ⟨Lib.hid ST.out.1,Lib.hid ST.out.2⟩
  ·obtain ⟨y,hy,cy,fy,py⟩:=HU.out p (by omega)
   have hij2:¬p=a:=fun e=>hij e.symm
   have ST:=Lib.hid (HU.out.swap' HM.out (i:=a) (j:=p) (by omega) (by omega) hx hy px py)
   clear HU HM
   go_wp2_with fail
   go_region
   all_goals (go_wp2_with fail;go_meet)
   all_goals exact ⟨Lib.hid ST.out.1,Lib.hid ST.out.2⟩
 case rest=>
  clear HU HM
  obtain ⟨HU,HM⟩:=hcut
  generalize wc=w2 at *
  go_wp2_with fail
  go_loopw [10] (fun i wr=>∃m:Nat,m0≤m∧(m≤n0+1∨m=m0)∧i=.int .i64 m∧Hid (U32P P wr gb off k)∧Hid (Mod [gb] w wr)) (fun i _=>(n0+1 - intOf i).toNat)
  case atStart=>exact ⟨m0,by omega,.inr rfl,by first | rfl | (show Value.int _ _=_;congr 1;omega),HU,HM⟩
  case round=>
   clear HU HM
   obtain ⟨m,hm4,hm5,rfl,HU,HM⟩:=hrel
   go_upto_region 3 with fail
   go_cut [43] from 30 to 43 (fun v wq=>∃(bb:Bool) (nn:Nat),v=.bool bb∧(bb=true→m≤n0)∧wq=wr.drewN nn)
   case first=>
    by_cases hc0:m≤n0
    ·have hd:decide ((m:Int)≤(b:Int) - 1)=true:=by rw [decide_eq_true_eq];omega
     obtain ⟨x,hx,cx,fx,px⟩:=HU.out m (by omega)
     obtain ⟨y,hy,cy,fy,py⟩:=HU.out a (by omega)
     have q1:(m:Int) < k:=by omega
     by_cases hxy:x < y
     ·have LX:Hid (∀W,Calls Tryz.prog 198 #[.int .u32 x,.int .u32 y] W fun e w'=>e=.returned (.bool true)∧w'=W):=fun W=>by
       have:=LS.out x y W;rw [decide_eq_true hxy] at this;exact this
      clear hxy
      go_wp2_with fail
      go_quiet ((go_at_call 198;exact Calls.quiet_of_same (LX.out _)))
      go_wp2_with fail
      go_meet
      exact ⟨true,_,rfl,(fun _=>hc0),rfl⟩
     ·have LX:Hid (∀W,Calls Tryz.prog 198 #[.int .u32 x,.int .u32 y] W fun e w'=>e=.returned (.bool false)∧w'=W):=fun W=>by
       have:=LS.out x y W;rw [decide_eq_false hxy] at this;exact this
      clear hxy
      go_wp2_with fail
      go_quiet ((go_at_call 198;exact Calls.quiet_of_same (LX.out _)))
      go_wp2_with fail
      go_meet
      exact ⟨false,_,rfl,(fun _=>hc0),rfl⟩
    ·have hd:decide ((m:Int)≤(b:Int) - 1)=false:=by rw [decide_eq_false_iff_not];omega
     go_wp2_with fail
     go_quiet (fail)
     go_wp2_with fail
     go_meet
     exact ⟨false,_,rfl,(fun h=>by cases h),rfl⟩
   case rest=>
    obtain ⟨bb,nn,rfl,hbb,rfl⟩:=hcut
    replace HU:Hid (U32P P (wr.drewN nn) gb off k):=HU
    replace HM:Hid (Mod [gb] w (wr.drewN nn)):=HM.out.drewN nn
    generalize wr.drewN nn=w4 at *
    cases bb with
    | true=>
     have hc0:=hbb rfl
     clear hbb
     go_wp2_with fail
     go_roundw
     case rel=>exact ⟨m+1,by omega,by omega,by go_num,HU,HM⟩
     case measure=>simp [intOf];omega
    | false=>
     clear hbb
     go_wp2_with fail
     go_loopw [11] (fun j wr=>∃n:Nat,(m≤n+1∨n=n0)∧n≤n0∧a≤n∧j=.int .i64 n∧Hid (U32P P wr gb off k)∧Hid (Mod [gb] w wr)) (fun j _=>(intOf j).toNat)
     case atStart=>exact ⟨n0,by omega,by omega,by omega,by first | rfl | (show Value.int _ _=_;congr 1;omega),HU,HM⟩
     case round=>
      clear HU HM
      obtain ⟨n,hn3,hn4,hn5,rfl,HU,HM⟩:=hrel
      go_upto_region 5 with fail
      go_cut [60] from 46 to 60 (fun v wq=>∃(bb:Bool) (nn:Nat),v=.bool bb∧(bb=true→m≤n)∧wq=wr.drewN nn)
      case first=>
       by_cases hc0:m≤n
       ·have hd:decide ((m:Int)≤n)=true:=by rw [decide_eq_true_eq];omega
        obtain ⟨x,hx,cx,fx,px⟩:=HU.out n (by omega)
        obtain ⟨y,hy,cy,fy,py⟩:=HU.out a (by omega)
        have q1:(n:Int) < k:=by omega
        by_cases hxy:x < y
        ·have LX:Hid (∀W,Calls Tryz.prog 198 #[.int .u32 x,.int .u32 y] W fun e w'=>e=.returned (.bool true)∧w'=W):=fun W=>by
          have:=LS.out x y W;rw [decide_eq_true hxy] at this;exact this
         clear hxy
         go_wp2_with fail
         go_quiet ((go_at_call 198;exact Calls.quiet_of_same (LX.out _)))
         go_wp2_with fail
         go_meet
         exact ⟨false,_,rfl,(fun _=>hc0),rfl⟩
        ·have LX:Hid (∀W,Calls Tryz.prog 198 #[.int .u32 x,.int .u32 y] W fun e w'=>e=.returned (.bool false)∧w'=W):=fun W=>by
          have:=LS.out x y W;rw [decide_eq_false hxy] at this;exact this
         clear hxy
         go_wp2_with fail
         go_quiet ((go_at_call 198;exact Calls.quiet_of_same (LX.out _)))
         go_wp2_with fail
         go_meet
         exact ⟨true,_,rfl,(fun _=>hc0),rfl⟩
       ·have hd:decide ((m:Int)≤n)=false:=by rw [decide_eq_false_iff_not];omega
        go_wp2_with fail
        go_quiet (fail)
        go_wp2_with fail
        go_meet
        exact ⟨false,_,rfl,(fun h=>by cases h),rfl⟩
      case rest=>
       obtain ⟨bb,nn,rfl,hbb,rfl⟩:=hcut
       replace HU:Hid (U32P P (wr.drewN nn) gb off k):=HU
       replace HM:Hid (Mod [gb] w (wr.drewN nn)):=HM.out.drewN nn
       generalize wr.drewN nn=w5 at *
       cases bb with
       | true=>
        have hc0:=hbb rfl
        clear hbb
        go_wp2_with fail
        go_roundw
        case rel=>exact ⟨n - 1,by omega,by omega,by omega,by first | (show Value.int _ _=_;congr 1;omega) | go_num,HU,HM⟩
        case measure=>simp [intOf];omega
       | false=>
        clear hbb
        by_cases hgt:n < m
        ·have hd:decide ((n:Int) < m)=true:=by rw [decide_eq_true_eq];omega
         go_upto_region 8 with fail
         go_cut [73] from 66 to 79 (fun v wq=>Hid (U32P P wq gb off k)∧Hid (Mod [gb] w wq))
         case first=>
          have q2:(n:Int) < k:=by omega
          obtain ⟨x,hx,cx,fx,px⟩:=HU.out n (by omega)
          by_cases hij:n=a
          ·have ST:=Lib.hid (HU.out.swap' HM.out (i:=n) (j:=n) (by omega) (by omega) hx hx px px)
           first | subst hij | (have hij':=hij.symm;subst hij')
           clear HU HM
           go_wp2_with fail
           go_region
           all_goals (go_wp2_with fail;go_meet)
           all_goals exact ⟨Lib.hid ST.out.1,Lib.hid ST.out.2⟩
          ·obtain ⟨y,hy,cy,fy,py⟩:=HU.out a (by omega)
           have hij2:¬a=n:=fun e=>hij e.symm
           have ST:=Lib.hid (HU.out.swap' HM.out (i:=n) (j:=a) (by omega) (by omega) hx hy px py)
           clear HU HM
           go_wp2_with fail
           go_region
           all_goals (go_wp2_with fail;go_meet)
           all_goals exact ⟨Lib.hid ST.out.1,Lib.hid ST.out.2⟩
         case rest=>
          clear HU HM
          obtain ⟨HU,HM⟩:=hcut
          generalize wc=w6 at *
          go_wp2_with fail
          go_ret2
          exact ⟨n,true,rfl,by omega,by omega,HU.out,HM.out⟩
        ·have hd:decide ((n:Int) < m)=false:=by rw [decide_eq_false_iff_not];omega
         go_upto_region 10 with fail
         go_cut [88] from 81 to 94 (fun v wq=>Hid (U32P P wq gb off k)∧Hid (Mod [gb] w wq))
         case first=>
          have q1:(m:Int) < k:=by omega
          have q2:(n:Int) < k:=by omega
          obtain ⟨x,hx,cx,fx,px⟩:=HU.out m (by omega)
          by_cases hij:m=n
          ·have ST:=Lib.hid (HU.out.swap' HM.out (i:=m) (j:=m) (by omega) (by omega) hx hx px px)
           first | subst hij | (have hij':=hij.symm;subst hij')
           clear HU HM
           go_wp2_with fail
           go_region
           all_goals (go_wp2_with fail;go_meet)
           all_goals exact ⟨Lib.hid ST.out.1,Lib.hid ST.out.2⟩
          ·obtain ⟨y,hy,cy,fy,py⟩:=HU.out n (by omega)
           have hij2:¬n=m:=fun e=>hij e.symm
           have ST:=Lib.hid (HU.out.swap' HM.out (i:=m) (j:=n) (by omega) (by omega) hx hy px py)
           clear HU HM
           go_wp2_with fail
           go_region
           all_goals (go_wp2_with fail;go_meet)
           all_goals exact ⟨Lib.hid ST.out.1,Lib.hid ST.out.2⟩
         case rest=>
          clear HU HM
          obtain ⟨HU,HM⟩:=hcut
          generalize wc=w6 at *
          go_wp2_with fail
          go_loopw [10,11] (fun i j wr=>∃m n:Nat,a+1≤m∧m≤n+2∧m≤b∧a≤n∧n+1≤b∧i=.int .i64 m∧(∃jj:Int,j=.int .i64 jj∧jj=n)∧Hid (U32P P wr gb off k)∧Hid (Mod [gb] w wr)) (fun i j _=>(intOf j+1 - intOf i).toNat)
          case atStart=>exact ⟨m+1,n - 1,by omega,by omega,by omega,by omega,by omega,by go_num,⟨_,rfl,by omega⟩,HU,HM⟩
          case round=>
           clear HU HM
           obtain ⟨m0,n0,hm1,hm2,hm3,hn1,hn2,rfl,⟨jj,rfl,rfl⟩,HU,HM⟩:=hrel
           go_wp2_with fail
           go_loopw [10] (fun i wr=>∃m:Nat,m0≤m∧(m≤n0+1∨m=m0)∧i=.int .i64 m∧Hid (U32P P wr gb off k)∧Hid (Mod [gb] w wr)) (fun i _=>(n0+1 - intOf i).toNat)
           case atStart=>exact ⟨m0,by omega,.inr rfl,by first | rfl | (show Value.int _ _=_;congr 1;omega),HU,HM⟩
           case round=>
            clear HU HM
            obtain ⟨m,hm4,hm5,rfl,HU,HM⟩:=hrel
            go_upto_region 13 with fail
            go_cut [112] from 99 to 112 (fun v wq=>∃(bb:Bool) (nn:Nat),v=.bool bb∧(bb=true→m≤n0)∧wq=wr.drewN nn)
            case first=>
             by_cases hc0:m≤n0
             ·have hd:decide ((m:Int)≤n0)=true:=by rw [decide_eq_true_eq];omega
              obtain ⟨x,hx,cx,fx,px⟩:=HU.out m (by omega)
              obtain ⟨y,hy,cy,fy,py⟩:=HU.out a (by omega)
              have q1:(m:Int) < k:=by omega
              by_cases hxy:x < y
              ·have LX:Hid (∀W,Calls Tryz.prog 198 #[.int .u32 x,.int .u32 y] W fun e w'=>e=.returned (.bool true)∧w'=W):=fun W=>by
                have:=LS.out x y W;rw [decide_eq_true hxy] at this;exact this
               clear hxy
               go_wp2_with fail
               go_quiet ((go_at_call 198;exact Calls.quiet_of_same (LX.out _)))
               go_wp2_with fail
               go_meet
               exact ⟨true,_,rfl,(fun _=>hc0),rfl⟩
              ·have LX:Hid (∀W,Calls Tryz.prog 198 #[.int .u32 x,.int .u32 y] W fun e w'=>e=.returned (.bool false)∧w'=W):=fun W=>by
                have:=LS.out x y W;rw [decide_eq_false hxy] at this;exact this
               clear hxy
               go_wp2_with fail
               go_quiet ((go_at_call 198;exact Calls.quiet_of_same (LX.out _)))
               go_wp2_with fail
               go_meet
               exact ⟨false,_,rfl,(fun _=>hc0),rfl⟩
             ·have hd:decide ((m:Int)≤n0)=false:=by rw [decide_eq_false_iff_not];omega
              go_wp2_with fail
              go_quiet (fail)
              go_wp2_with fail
              go_meet
              exact ⟨false,_,rfl,(fun h=>by cases h),rfl⟩
            case rest=>
             obtain ⟨bb,nn,rfl,hbb,rfl⟩:=hcut
             replace HU:Hid (U32P P (wr.drewN nn) gb off k):=HU
             replace HM:Hid (Mod [gb] w (wr.drewN nn)):=HM.out.drewN nn
             generalize wr.drewN nn=w7 at *
             cases bb with
             | true=>
              have hc0:=hbb rfl
              clear hbb
              go_wp2_with fail
              go_roundw
              case rel=>exact ⟨m+1,by omega,by omega,by go_num,HU,HM⟩
              case measure=>simp [intOf];omega
             | false=>
              clear hbb
              go_wp2_with fail
              go_loopw [11] (fun j wr=>∃n:Nat,(m≤n+1∨n=n0)∧n≤n0∧a≤n∧j=.int .i64 n∧Hid (U32P P wr gb off k)∧Hid (Mod [gb] w wr)) (fun j _=>(intOf j).toNat)
              case atStart=>exact ⟨n0,by omega,by omega,by omega,by first | rfl | (show Value.int _ _=_;congr 1;omega),HU,HM⟩
              case round=>
               clear HU HM
               obtain ⟨n,hn3,hn4,hn5,rfl,HU,HM⟩:=hrel
               go_upto_region 15 with fail
               go_cut [129] from 115 to 129 (fun v wq=>∃(bb:Bool) (nn:Nat),v=.bool bb∧(bb=true→m≤n)∧wq=wr.drewN nn)
               case first=>
                by_cases hc0:m≤n
                ·have hd:decide ((m:Int)≤n)=true:=by rw [decide_eq_true_eq];omega
                 obtain ⟨x,hx,cx,fx,px⟩:=HU.out n (by omega)
                 obtain ⟨y,hy,cy,fy,py⟩:=HU.out a (by omega)
                 have q1:(n:Int) < k:=by omega
                 by_cases hxy:x < y
                 ·have LX:Hid (∀W,Calls Tryz.prog 198 #[.int .u32 x,.int .u32 y] W fun e w'=>e=.returned (.bool true)∧w'=W):=fun W=>by
                   have:=LS.out x y W;rw [decide_eq_true hxy] at this;exact this
                  clear hxy
                  go_wp2_with fail
                  go_quiet ((go_at_call 198;exact Calls.quiet_of_same (LX.out _)))
                  go_wp2_with fail
                  go_meet
                  exact ⟨false,_,rfl,(fun _=>hc0),rfl⟩
                 ·have LX:Hid (∀W,Calls Tryz.prog 198 #[.int .u32 x,.int .u32 y] W fun e w'=>e=.returned (.bool false)∧w'=W):=fun W=>by
                   have:=LS.out x y W;rw [decide_eq_false hxy] at this;exact this
                  clear hxy
                  go_wp2_with fail
                  go_quiet ((go_at_call 198;exact Calls.quiet_of_same (LX.out _)))
                  go_wp2_with fail
                  go_meet
                  exact ⟨true,_,rfl,(fun _=>hc0),rfl⟩
                ·have hd:decide ((m:Int)≤n)=false:=by rw [decide_eq_false_iff_not];omega
                 go_wp2_with fail
                 go_quiet (fail)
                 go_wp2_with fail
                 go_meet
                 exact ⟨false,_,rfl,(fun h=>by cases h),rfl⟩
               case rest=>
                obtain ⟨bb,nn,rfl,hbb,rfl⟩:=hcut
                replace HU:Hid (U32P P (wr.drewN nn) gb off k):=HU
                replace HM:Hid (Mod [gb] w (wr.drewN nn)):=HM.out.drewN nn
                generalize wr.drewN nn=w8 at *
                cases bb with
                | true=>
                 have hc0:=hbb rfl
                 clear hbb
                 go_wp2_with fail
                 go_roundw
                 case rel=>exact ⟨n - 1,by omega,by omega,by omega,by first | (show Value.int _ _=_;congr 1;omega) | go_num,HU,HM⟩
                 case measure=>simp [intOf];omega
                | false=>
                 clear hbb
                 by_cases hgt:n < m
                 ·have hd:decide ((n:Int) < m)=true:=by rw [decide_eq_true_eq];omega
                  go_upto_region 21 with fail
                  go_cut [160] from 153 to 166 (fun v wq=>Hid (U32P P wq gb off k)∧Hid (Mod [gb] w wq))
                  case first=>
                   have q2:(n:Int) < k:=by omega
                   obtain ⟨x,hx,cx,fx,px⟩:=HU.out n (by omega)
                   by_cases hij:n=a
                   ·have ST:=Lib.hid (HU.out.swap' HM.out (i:=n) (j:=n) (by omega) (by omega) hx hx px px)
                    first | subst hij | (have hij':=hij.symm;subst hij')
                    clear HU HM
                    go_wp2_with fail
                    go_region
                    all_goals (go_wp2_with fail;go_meet)
                    all_goals exact ⟨Lib.hid ST.out.1,Lib.hid ST.out.2⟩
                   ·obtain ⟨y,hy,cy,fy,py⟩:=HU.out a (by omega)
                    have hij2:¬a=n:=fun e=>hij e.symm
                    have ST:=Lib.hid (HU.out.swap' HM.out (i:=n) (j:=a) (by omega) (by omega) hx hy px py)
                    clear HU HM
                    go_wp2_with fail
                    go_region
                    all_goals (go_wp2_with fail;go_meet)
                    all_goals exact ⟨Lib.hid ST.out.1,Lib.hid ST.out.2⟩
                  case rest=>
                   clear HU HM
                   obtain ⟨HU,HM⟩:=hcut
                   generalize wc=w9 at *
                   go_wp2_with fail
                   go_ret2
                   exact ⟨n,false,rfl,by omega,by omega,HU.out,HM.out⟩
                 ·have hd:decide ((n:Int) < m)=false:=by rw [decide_eq_false_iff_not];omega
                  go_upto_region 18 with fail
                  go_cut [142] from 135 to 148 (fun v wq=>Hid (U32P P wq gb off k)∧Hid (Mod [gb] w wq))
                  case first=>
                   have q1:(m:Int) < k:=by omega
                   have q2:(n:Int) < k:=by omega
                   obtain ⟨x,hx,cx,fx,px⟩:=HU.out m (by omega)
                   by_cases hij:m=n
                   ·have ST:=Lib.hid (HU.out.swap' HM.out (i:=m) (j:=m) (by omega) (by omega) hx hx px px)
                    first | subst hij | (have hij':=hij.symm;subst hij')
                    clear HU HM
                    go_wp2_with fail
                    go_region
                    all_goals (go_wp2_with fail;go_meet)
                    all_goals exact ⟨Lib.hid ST.out.1,Lib.hid ST.out.2⟩
                   ·obtain ⟨y,hy,cy,fy,py⟩:=HU.out n (by omega)
                    have hij2:¬n=m:=fun e=>hij e.symm
                    have ST:=Lib.hid (HU.out.swap' HM.out (i:=m) (j:=n) (by omega) (by omega) hx hy px py)
                    clear HU HM
                    go_wp2_with fail
                    go_region
                    all_goals (go_wp2_with fail;go_meet)
                    all_goals exact ⟨Lib.hid ST.out.1,Lib.hid ST.out.2⟩
                  case rest=>
                   clear HU HM
                   obtain ⟨HU,HM⟩:=hcut
                   generalize wc=w9 at *
                   go_wp2_with fail
                   go_roundw
                   case rel=>exact ⟨m+1,n - 1,by omega,by omega,by omega,by omega,by omega,by go_num,⟨_,rfl,by omega⟩,HU,HM⟩
                   case measure=>simp [intOf];omega
open Go.RowKit
theorem revP_c {P:Nat→Prop} {w:World} (gb off k cap a b:Nat) (hk:k≤1000) (hc:k≤cap) (hb:b≤k) (h:U32P P w gb off k):
 Calls Tryz.prog 196 #[.slice (some ⟨gb,off,none⟩) k cap,.int .i64 a,.int .i64 b] w (SrtP P w gb off k):=by
 have HU:=Lib.hid h
 have HM:Hid (Mod [gb] w w):=Mod.refl _ _
 clear h
 have hk':(k:Int)≤1000:=by omega
 have hb':(b:Int)≤k:=by omega
 go_enter Tryz.func196,Tryz.ntmps196
 go_wp2_with fail
 go_loopw [6,7] (fun i j wr=>∃(m:Nat) (jj:Int),i=.int .i64 m∧j=.int .i64 jj∧jj < b∧ -1≤jj∧Hid (U32P P wr gb off k)∧Hid (Mod [gb] w wr)) (fun i j _=>(intOf j - intOf i).toNat)
 case atStart=>exact ⟨a,_,rfl,rfl,by omega,by omega,HU,HM⟩
 case round=>
  clear HU HM
  obtain ⟨m,jj,rfl,rfl,hj1,hj2,HU,HM⟩:=hrel
  by_cases hlt:(m:Int) < jj
  ·obtain ⟨n,rfl⟩:∃n:Nat,jj=n:=⟨jj.toNat,by omega⟩
   go_upto_region 3 with fail
   go_cut [21] from 14 to 27 (fun v wq=>Hid (U32P P wq gb off k)∧Hid (Mod [gb] w wq))
   case first=>
    have q1:(m:Int) < k:=by omega
    have q2:(n:Int) < k:=by omega
    obtain ⟨x,hx,cx,fx,px⟩:=HU.out m (by omega)
    by_cases hij:m=n
    ·have ST:=Lib.hid (HU.out.swap' HM.out (i:=m) (j:=m) (by omega) (by omega) hx hx px px)
     first | subst hij | (have hij':=hij.symm;subst hij')
     clear HU HM
     go_wp2_with fail
     go_region
     all_goals (go_wp2_with fail;go_meet)
     all_goals exact ⟨Lib.hid ST.out.1,Lib.hid ST.out.2⟩
    ·obtain ⟨y,hy,cy,fy,py⟩:=HU.out n (by omega)
     have hij2:¬n=m:=fun e=>hij e.symm
     have ST:=Lib.hid (HU.out.swap' HM.out (i:=m) (j:=n) (by omega) (by omega) hx hy px py)
     clear HU HM
     go_wp2_with fail
     go_region
     all_goals (go_wp2_with fail;go_meet)
     all_goals exact ⟨Lib.hid ST.out.1,Lib.hid ST.out.2⟩
   case rest=>
    clear HU HM
    obtain ⟨HU,HM⟩:=hcut
    generalize wc=w4 at *
    go_wp2_with fail
    go_roundw
    case rel=>exact ⟨m+1,_,by go_num,rfl,by omega,by omega,HU,HM⟩
    case measure=>simp [intOf];omega
  ·have hd:decide ((m:Int) < jj)=false:=by rw [decide_eq_false_iff_not];omega
   go_wp2_with fail
   refine bodyPost_end (v:=.tuple #[]) (by simp [results,Tryz.results196,go_sem];try rfl) rfl ?_
   exact ⟨rfl,HU.out,HM.out⟩
theorem pinsP_c {P:Nat→Prop} {w:World} (gb off k cap a b:Nat) (hk:k≤1000) (hc:k≤cap) (hab:a < b) (hb:b≤k) (h50:b < a+50) (h:U32P P w gb off k):
 Calls Tryz.prog 197 #[.slice (some ⟨gb,off,none⟩) k cap,.int .i64 a,.int .i64 b] w fun e w'=>∃bb:Bool,e=.returned (.bool bb)∧U32P P w' gb off k∧Mod [gb] w w':=by
 have LS:=Lib.hid less_c
 have HU:=Lib.hid h
 have HM:Hid (Mod [gb] w w):=Mod.refl _ _
 clear h
 have hk':(k:Int)≤1000:=by omega
 have hb':(b:Int)≤k:=by omega
 have h50':decide ((b:Int) - a < 50)=true:=by rw [decide_eq_true_eq];omega
 go_enter Tryz.func197,Tryz.ntmps197
 go_wp2_with fail
 go_loopw [8,7] (fun j i wr=>j=.int .i64 0∧i=.int .i64 ((a:Int)+1)∧Hid (U32P P wr gb off k)∧Hid (Mod [gb] w wr)) (fun _ _ _=>0)
 case atStart=>exact ⟨rfl,by go_num,HU,HM⟩
 case round=>
  clear HU HM
  obtain ⟨rfl,rfl,HU,HM⟩:=hrel
  go_wp2_with fail
  go_loopw [7] (fun i wr=>∃m:Nat,a+1≤m∧m≤b∧i=.int .i64 m∧Hid (U32P P wr gb off k)∧Hid (Mod [gb] w wr)) (fun i _=>(b - intOf i).toNat)
  case atStart=>exact ⟨a+1,by omega,by omega,by go_num,HU,HM⟩
  case round=>
   clear HU HM
   obtain ⟨m,hm1,hm2,rfl,HU,HM⟩:=hrel
   go_upto_region 5 with fail
   go_cut [32] from 17 to 32 (fun v wq=>∃(bb:Bool) (nn:Nat),v=.bool bb∧(bb=true→m < b)∧wq=wr.drewN nn)
   case first=>
    by_cases hc0:m < b
    ·have hd:decide ((m:Int) < b)=true:=by rw [decide_eq_true_eq];omega
     obtain ⟨q,rfl⟩:∃q,m=q+1:=⟨m - 1,by omega⟩
     obtain ⟨x,hx,cx,fx,px⟩:=HU.out (q+1) (by omega)
     obtain ⟨y,hy,cy,fy,py⟩:=HU.out q (by omega)
     have hq0:(((q+1:Nat):Int) - 1)=(q:Int):=by omega
     have hqk:(q:Int)+1 < k:=by omega
     have hd:decide ((q:Int)+1 < b)=true:=by rw [decide_eq_true_eq];omega
     by_cases hxy:x < y
     ·have LX:Hid (∀W,Calls Tryz.prog 198 #[.int .u32 x,.int .u32 y] W fun e w'=>e=.returned (.bool true)∧w'=W):=fun W=>by
       have:=LS.out x y W;rw [decide_eq_true hxy] at this;exact this
      clear hxy
      go_wp2_with fail
      go_quiet ((go_at_call 198;exact Calls.quiet_of_same (LX.out _)))
      go_wp2_with fail
      go_meet
      exact ⟨false,_,rfl,(fun _=>hc0),rfl⟩
     ·have LX:Hid (∀W,Calls Tryz.prog 198 #[.int .u32 x,.int .u32 y] W fun e w'=>e=.returned (.bool false)∧w'=W):=fun W=>by
       have:=LS.out x y W;rw [decide_eq_false hxy] at this;exact this
      clear hxy
      go_wp2_with fail
      go_quiet ((go_at_call 198;exact Calls.quiet_of_same (LX.out _)))
      go_wp2_with fail
      go_meet
      exact ⟨true,_,rfl,(fun _=>hc0),rfl⟩
    ·have hd:decide ((m:Int) < b)=false:=by rw [decide_eq_false_iff_not];omega
     go_wp2_with fail
     go_quiet (fail)
     go_wp2_with fail
     go_meet
     exact ⟨false,_,rfl,(fun h=>by cases h),rfl⟩
   case rest=>
    obtain ⟨bb,nn,rfl,hbb,rfl⟩:=hcut
    replace HU:Hid (U32P P (wr.drewN nn) gb off k):=HU
    replace HM:Hid (Mod [gb] w (wr.drewN nn)):=HM.out.drewN nn
    generalize wr.drewN nn=w4 at *
    cases bb with
    | true=>
     have hc0:=hbb rfl
     clear hbb
     go_wp2_with fail
     go_roundw
     case rel=>exact ⟨m+1,by omega,by omega,by go_num,HU,HM⟩
     case measure=>simp [intOf];omega
    | false=>
     clear hbb
     by_cases hmb:m=b
     ·have hq:((m:Int)==(b:Int))=true:=by rw [beq_iff_eq];omega
      go_wp2_with fail
      go_ret
      exact ⟨true,rfl,HU.out,HM.out⟩
     ·have hq:((m:Int)==(b:Int))=false:=by rw [beq_eq_false_iff_ne];omega
      go_wp2_with fail
      go_ret
      exact ⟨false,rfl,HU.out,HM.out⟩
def CtP (P:Nat→Prop) (w:World) (gb off k bs s:Nat):Prop:=U32P P w gb off k∧∃t,Blk w bs #[.int .i64 s] t
theorem order2P_c {P:Nat→Prop} {w:World} (gb off k cap bs s a b lo hi:Nat) (hk:k≤1000) (hc:k≤cap) (hs:s≤1000) (hhi:hi≤k) (ha:lo≤a∧a < hi) (hb:lo≤b∧b < hi) (hne:bs≠gb) (h:CtP P w gb off k bs s):
 Calls Tryz.prog 226 #[.slice (some ⟨gb,off,none⟩) k cap,.int .i64 a,.int .i64 b,.pointer (some ⟨bs,0,none⟩)] w fun e w'=>∃x y s':Nat,e=.returned (.tuple #[.int .i64 x,.int .i64 y])∧(lo≤x∧x < hi)∧(lo≤y∧y < hi)∧s'≤s+1∧CtP P w' gb off k bs s'∧Mod [bs] w w':=by
 have LS:=Lib.hid less_c
 obtain ⟨hu,t,hB⟩:=h
 obtain ⟨x,hx,cx,fx,px⟩:=hu b (by omega)
 obtain ⟨y,hy,cy,fy,py⟩:=hu a (by omega)
 have k0:=hB.cell 0
 simp only [List.getElem?_toArray,List.getElem?_cons_zero] at k0
 have kf:=hB.froz 0
 have hgb:=World.block_lt_of_cell? w _ cx
 simp only at hgb
 have HU:=Lib.hid hu
 have HB:=Lib.hid hB
 have HA:=Lib.hid (And.intro ha hb)
 have hak:(a:Int) < k:=by omega
 have hbk:(b:Int) < k:=by omega
 have hs':(s:Int)≤1000:=by omega
 clear hu hB
 by_cases hxy:x < y
 ·have LX:Hid (∀W,Calls Tryz.prog 198 #[.int .u32 x,.int .u32 y] W fun e w'=>e=.returned (.bool true)∧w'=W):=fun W=>by
   have:=LS.out x y W;rw [decide_eq_true hxy] at this;exact this
  clear hxy
  go_enter Tryz.func226,Tryz.ntmps226
  go_wp2_with fail
  go_quiet ((go_at_call 198;exact Calls.quiet_of_same (LX.out _)))
  clear cx cy fx fy
  go_wp2_with fail
  go_ret2
  have m1:Mod [bs] w ((w.drewN nq).setCell ⟨bs,0,none⟩ (.int .i64 (s+1))):=((Mod.refl _ _).drewN _).setCell _ _ (by simp)
  exact ⟨b,a,s+1,rfl,HA.out.2,HA.out.1,by omega,⟨HU.out.mod m1 (by simpa using Ne.symm hne) hgb,t,(HB.out.drewN nq).set 0 (.int .i64 (s+1))⟩,m1⟩
 ·have LX:Hid (∀W,Calls Tryz.prog 198 #[.int .u32 x,.int .u32 y] W fun e w'=>e=.returned (.bool false)∧w'=W):=fun W=>by
   have:=LS.out x y W;rw [decide_eq_false hxy] at this;exact this
  clear hxy
  go_enter Tryz.func226,Tryz.ntmps226
  go_wp2_with fail
  go_quiet ((go_at_call 198;exact Calls.quiet_of_same (LX.out _)))
  clear cx cy fx fy
  go_wp2_with fail
  go_ret2
  exact ⟨a,b,s,rfl,HA.out.1,HA.out.2,by omega,⟨HU.out,t,HB.out⟩,(Mod.refl _ _).drewN _⟩
theorem medianP_c {P:Nat→Prop} {w:World} (gb off k cap bs a b c lo hi:Nat) (hk:k≤1000) (hc:k≤cap) (hhi:hi≤k) (ha:lo≤a∧a < hi) (hb:lo≤b∧b < hi) (hcc:lo≤c∧c < hi) (hne:bs≠gb) (h:CtP P w gb off k bs 0):
 Calls Tryz.prog 215 #[.slice (some ⟨gb,off,none⟩) k cap,.int .i64 a,.int .i64 b,.int .i64 c,.pointer (some ⟨bs,0,none⟩)] w fun e w'=>∃x s':Nat,e=.returned (.int .i64 x)∧(lo≤x∧x < hi)∧s'≤3∧CtP P w' gb off k bs s'∧Mod [bs] w w':=by
 have O2:Hid (∀(W:World) (s a b:Nat),s≤1000→(lo≤a∧a < hi)→(lo≤b∧b < hi)→CtP P W gb off k bs s→_):=fun W s a b h1 h2 h3 h4=>order2P_c (w:=W) gb off k cap bs s a b lo hi hk hc h1 hhi h2 h3 hne h4
 have H:=Lib.hid h
 have HA:=Lib.hid ha
 have HB:=Lib.hid hb
 have HC:=Lib.hid hcc
 clear h ha hb hcc
 go_enter Tryz.func215,Tryz.ntmps215
 go_wp2_with fail
 refine (O2.out _ 0 a b (by omega) HA.out HB.out H.out).mono ?_
 rintro e w1 ⟨x1,y1,s1,rfl,a1,a2,a3,a4,a5⟩
 have A1:=Lib.hid a1
 have A2:=Lib.hid a2
 have A4:=Lib.hid a4
 have A5:=Lib.hid a5
 clear a1 a2 a4 a5 HA HB H
 go_wp2_with fail
 refine (O2.out _ s1 y1 c (by omega) A2.out HC.out A4.out).mono ?_
 rintro e w2 ⟨x2,y2,s2,rfl,b1,b2,b3,b4,b5⟩
 have B1:=Lib.hid b1
 have B4:=Lib.hid b4
 have B5:=Lib.hid (A5.out.trans' b5)
 clear b1 b2 b4 b5 A2 A4 A5 HC
 go_wp2_with fail
 refine (O2.out _ s2 x1 x2 (by omega) A1.out B1.out B4.out).mono ?_
 rintro e w3 ⟨x3,y3,s3,rfl,c1,c2,c3,c4,c5⟩
 have C2:=Lib.hid c2
 have C4:=Lib.hid c4
 have C5:=Lib.hid (B5.out.trans' c5)
 clear c1 c2 c4 c5 B1 B4 B5 A1 O2
 go_wp2_with fail
 go_ret
 exact ⟨y3,s3,rfl,C2.out,by omega,C4.out,C5.out⟩
theorem pivotP_c {P:Nat→Prop} {w:World} (gb off k cap a b:Nat) (hk:k≤1000) (hc:k≤cap) (hb:b≤k) (h8:a+8≤b) (h50:b < a+50) (h:U32P P w gb off k):
 Calls Tryz.prog 195 #[.slice (some ⟨gb,off,none⟩) k cap,.int .i64 a,.int .i64 b] w fun e w'=>∃(p:Nat) (hh:Nat),e=.returned (.tuple #[.int .i64 p,.int .i64 hh])∧(a≤p∧p < b)∧hh≤2∧U32P P w' gb off k∧Mod [] w w':=by
 obtain ⟨l,rfl⟩:∃l,b=a+l:=⟨b - a,by omega⟩
 obtain ⟨q,hq⟩:∃q,q=l / 4:=⟨_,rfl⟩
 obtain ⟨bs,hbs⟩:∃bs,w.heap.size=bs:=⟨_,rfl⟩
 have hgb:gb < w.heap.size:=by
  obtain ⟨v,_,c,_⟩:=h a (by omega)
  have:=World.block_lt_of_cell? w _ c
  exact this
 have hne:bs≠gb:=by omega
 have MD:Hid (∀W,CtP P W gb off k bs 0→Calls Tryz.prog 215 #[.slice (some ⟨gb,off,none⟩) k cap,.int .i64 ((a:Int)+q),.int .i64 ((a:Int)+q *2),.int .i64 ((a:Int)+q *3),.pointer (some ⟨bs,0,none⟩)] W fun e w'=>∃x s':Nat,e=.returned (.int .i64 x)∧(a≤x∧x < a+l)∧s'≤3∧CtP P w' gb off k bs s'∧Mod [bs] W w'):=fun W hW=>medianP_c (w:=W) gb off k cap bs (a+q) (a+q *2) (a+q *3) a (a+l) hk hc hb ⟨by omega,by omega⟩ ⟨by omega,by omega⟩ ⟨by omega,by omega⟩ hne hW
 have CT:Hid (CtP P (w.alloc (.cells #[.int .i64 0] 3)) gb off k bs 0):=⟨h.mod (S:=[]) ((Mod.refl _ _).alloc _) (by simp) hgb,_,Blk.new' w _ _ bs hbs.symm⟩
 have M0:Hid (Mod [] w (w.alloc (.cells #[.int .i64 0] 3))):=(Mod.refl _ _).alloc _
 have hk':(k:Int)≤1000:=by omega
 have e1:((a+l:Nat):Int)=(a:Int)+l:=by omega
 have e2:(a:Int)+l - a=l:=by omega
 have e3:(l:Int) / 4=q:=by omega
 have hl8:(8:Int)≤l:=by omega
 have hl50:decide ((50:Int)≤l)=false:=by rw [decide_eq_false_iff_not];omega
 have hql:(q:Int)≤1000:=by omega
 have hal:(a:Int)+l≤k:=by omega
 rw [e1]
 have HQ:=Lib.hid hq
 clear h hq e1
 go_enter Tryz.func195,Tryz.ntmps195
 go_wp2_with fail
 refine (MD.out _ CT.out).mono ?_
 rintro e w1 ⟨x,s,rfl,hx,hs,ct,m1⟩
 have HX:=Lib.hid hx
 obtain ⟨hu,t,hB⟩:=ct
 have HU:=Lib.hid hu
 have k0:=hB.cell 0
 simp only [List.getElem?_toArray,List.getElem?_cons_zero] at k0
 have M1:=Lib.hid (M0.out.trans m1 (by intro i hi h;simp at h;omega))
 clear hx hu hB m1 MD CT M0
 rcases Nat.eq_zero_or_pos s with hs0 | hs0
 ·subst hs0
  go_wp2_with fail
  go_ret2
  exact ⟨x,1,rfl,HX.out,by omega,HU.out,M1.out⟩
 ·have q1:((s:Int)==0)=false:=by rw [beq_eq_false_iff_ne];omega
  have q2:((s:Int)==12)=false:=by rw [beq_eq_false_iff_ne];omega
  clear hs hs0
  go_wp2_with fail
  go_ret2
  exact ⟨x,0,rfl,HX.out,by omega,HU.out,M1.out⟩
open Go.RowKit
theorem siftP_c {P:Nat→Prop} {w:World} (gb off k cap lo hi first:Nat) (hk:k≤1000) (hc:k≤cap) (hfh:first+hi≤k) (hlo:lo≤1000) (h:U32P P w gb off k):
 Calls Tryz.prog 211 #[.slice (some ⟨gb,off,none⟩) k cap,.int .i64 lo,.int .i64 hi,.int .i64 first] w (SrtP P w gb off k):=by
 have LS:=Lib.hid less_c
 have H:=Lib.hid h
 clear h
 have hk':(k:Int)≤1000:=by omega
 have hfh':(first:Int)+hi≤k:=by omega
 go_enter Tryz.func211,Tryz.ntmps211
 go_wp2_with fail
 go_loopw [8] (fun r wr=>∃m:Nat,m≤1000∧r=.int .i64 m∧Hid (U32P P wr gb off k)∧Hid (Mod [gb] w wr)) (fun r _=>hi - (intOf r).toNat)
 case atStart=>exact ⟨lo,hlo,rfl,H,Mod.refl _ _⟩
 case round=>
  obtain ⟨m,hm,rfl,HU,HM⟩:=hrel
  clear H
  have hm':(m:Int)≤1000:=by omega
  by_cases hlt:2 *m+1 < hi
  ·have hlt':2 *(m:Int)+1 < hi:=by omega
   obtain ⟨x1,hx1,cx1,fx1,px1⟩:=HU.out (first+(2 *m+1)) (by omega)
   have hd0:decide ((hi:Int)≤2 *(m:Int)+1)=false:=by rw [decide_eq_false_iff_not];omega
   have i0:(0:Int)≤(first:Int)+(2 *(m:Int)+1):=by omega
   have i1:(first:Int)+(2 *(m:Int)+1) < k:=by omega
   go_upto_region 3 with fail
   go_cut [36] from 17 to 36 (fun v wx=>∃(bb:Bool) (n:Nat),v=.bool bb∧(bb=true→2 *m+1+1 < hi)∧wx=wr.drewN n)
   case first=>
    by_cases h2:2 *m+1+1 < hi
    ·obtain ⟨x2,hx2,cx2,fx2,px2⟩:=HU.out (first+(2 *m+1)+1) (by omega)
     have hd:decide (2 *(m:Int)+1+1 < hi)=true:=by rw [decide_eq_true_eq];omega
     have i2:(first:Int)+(2 *(m:Int)+1)+1 < k:=by omega
     by_cases hxy:x1 < x2
     ·have LX:Hid (∀W,Calls Tryz.prog 198 #[.int .u32 x1,.int .u32 x2] W fun e w'=>e=.returned (.bool true)∧w'=W):=fun W=>by
       have:=LS.out x1 x2 W;rw [decide_eq_true hxy] at this;exact this
      clear hxy
      go_wp2_with fail
      go_quiet ((go_at_call 198;exact Calls.quiet_of_same (LX.out _)))
      go_wp2_with fail
      go_meet
      exact ⟨true,_,rfl,fun _=>h2,rfl⟩
     ·have LX:Hid (∀W,Calls Tryz.prog 198 #[.int .u32 x1,.int .u32 x2] W fun e w'=>e=.returned (.bool false)∧w'=W):=fun W=>by
       have:=LS.out x1 x2 W;rw [decide_eq_false hxy] at this;exact this
      clear hxy
      go_wp2_with fail
      go_quiet ((go_at_call 198;exact Calls.quiet_of_same (LX.out _)))
      go_wp2_with fail
      go_meet
      exact ⟨false,_,rfl,(fun h=>by cases h),rfl⟩
    ·have hd:decide (2 *(m:Int)+1+1 < hi)=false:=by rw [decide_eq_false_iff_not];omega
     go_wp2_with fail
     go_quiet (fail)
     go_wp2_with fail
     go_meet
     exact ⟨false,_,rfl,(fun h=>by cases h),rfl⟩
   case rest=>
    obtain ⟨bb,n,rfl,hbb,rfl⟩:=hcut
    clear cx1 fx1 hd0 i0 i1 px1 hx1
    replace HU:Hid (U32P P (wr.drewN n) gb off k):=HU
    replace HM:Hid (Mod [gb] w (wr.drewN n)):=HM.out.drewN n
    generalize wr.drewN n=wx at *
    go_step
    go_cut [9] from 37 to 38 (fun v wz=>∃c:Nat,v=.int .i64 c∧2 *m+1≤c∧c < hi∧wz=wx)
    case first=>
     cases bb with
     | true=>
      have h2:=hbb rfl
      go_wp2_with fail
      go_meet
      exact ⟨2 *m+1+1,by go_num,by omega,h2,rfl⟩
     | false=>
      go_wp2_with fail
      go_meet
      exact ⟨2 *m+1,by go_num,by omega,hlt,rfl⟩
    case rest=>
     obtain ⟨c,rfl,hc1,hc2,hwz⟩:=hcut
     subst hwz
     obtain ⟨x,hx,cx,fx,px⟩:=HU.out (first+m) (by omega)
     obtain ⟨y,hy,cy,fy,py⟩:=HU.out (first+c) (by omega)
     clear hbb
     have hc':(c:Int)≤1000:=by omega
     have i1:(first:Int)+(m:Int) < k:=by omega
     have i2:(first:Int)+(c:Int) < k:=by omega
     have ST:=Lib.hid (HU.out.swap HM.out (i:=first+m) (j:=first+c) (by omega) (by omega) hx hy px py)
     by_cases hxy:x < y
     ·have LX:Hid (∀W,Calls Tryz.prog 198 #[.int .u32 x,.int .u32 y] W fun e w'=>e=.returned (.bool true)∧w'=W):=fun W=>by
       have:=LS.out x y W;rw [decide_eq_true hxy] at this;exact this
      clear hxy
      go_wp2_with fail
      go_quiet ((go_at_call 198;exact Calls.quiet_of_same (LX.out _)))
      go_wp2_with fail
      go_region
      all_goals
       clear cx fx cy fy LX HU HM
       go_wp2_with fail
       go_roundw
       case rel=>exact ⟨c,by omega,rfl,(ST.out _).1,(ST.out _).2⟩
       case measure=>simp [intOf];omega
     ·have LX:Hid (∀W,Calls Tryz.prog 198 #[.int .u32 x,.int .u32 y] W fun e w'=>e=.returned (.bool false)∧w'=W):=fun W=>by
       have:=LS.out x y W;rw [decide_eq_false hxy] at this;exact this
      clear hxy
      go_wp2_with fail
      go_quiet ((go_at_call 198;exact Calls.quiet_of_same (LX.out _)))
      clear cx fx cy fy ST
      go_wp2_with fail
      refine bodyPost_ret (v:=.tuple #[]) (by simp [results,Tryz.results211,go_sem];try rfl) rfl ?_
      exact ⟨rfl,HU.out,HM.out.drewN _⟩
  ·have hd0:decide ((hi:Int)≤2 *(m:Int)+1)=true:=by rw [decide_eq_true_eq];omega
   go_wp2_with fail
   refine bodyPost_end (v:=.tuple #[]) (by simp [results,Tryz.results211,go_sem];try rfl) rfl ?_
   exact ⟨rfl,HU.out,HM.out⟩
theorem heapP_c {P:Nat→Prop} {w:World} (gb off k cap a b:Nat) (hk:k≤1000) (hc:k≤cap) (hab:a < b) (hb:b≤k) (h:U32P P w gb off k):
 Calls Tryz.prog 193 #[.slice (some ⟨gb,off,none⟩) k cap,.int .i64 a,.int .i64 b] w (SrtP P w gb off k):=by
 obtain ⟨hi,hhi⟩:∃hi,b=a+hi:=⟨b - a,by omega⟩
 subst hhi
 have SD:Hid (∀(W:World) (lo hi':Nat),lo≤1000→a+hi'≤k→U32P P W gb off k→Calls Tryz.prog 211 #[.slice (some ⟨gb,off,none⟩) k cap,.int .i64 lo,.int .i64 hi',.int .i64 a] W (SrtP P W gb off k)):=fun W lo hi' h1 h2 h3=>siftP_c gb off k cap lo hi' a hk hc h2 h1 h3
 have H:=Lib.hid h
 clear h
 have hk':(k:Int)≤1000:=by omega
 have hb':(a:Int)+hi≤k:=by omega
 have h0:0 < hi:=by omega
 have hs:((a+hi:Nat):Int) - a=hi:=by omega
 rw [show ((a+hi:Nat):Int)=(a:Int)+hi from by omega]
 have hs2:(a:Int)+hi - a=hi:=by omega
 go_enter Tryz.func193,Tryz.ntmps193
 go_wp2_with fail
 go_loopw [9] (fun i wr=>∃(c:Int),i=.int .i64 c∧ -1≤c∧c < hi∧Hid (U32P P wr gb off k)∧Hid (Mod [gb] w wr)) (fun i _=>(intOf i+1).toNat)
 case atStart=>exact ⟨_,rfl,by omega,by omega,H,Mod.refl _ _⟩
 case round=>
  obtain ⟨c,rfl,hc0,hc1,HU,HM⟩:=hrel
  clear H
  by_cases h0c:0≤c
  ·obtain ⟨m,rfl⟩:∃m:Nat,c=m:=⟨c.toNat,by omega⟩
   have SX:=Lib.hid (SD.out wr m hi (by omega) (by omega) HU.out)
   go_wp2_with fail
   refine SX.out.mono ?_
   rintro e w2 ⟨rfl,hu,hm⟩
   have HU2:=Lib.hid hu
   have HM2:=Lib.hid (HM.out.trans' hm)
   clear hu hm SX HU HM
   go_wp2_with fail
   go_roundw
   case rel=>exact ⟨_,rfl,by omega,by omega,HU2,HM2⟩
   case measure=>simp [intOf]
  ·have hd0:decide ((0:Int)≤c)=false:=by rw [decide_eq_false_iff_not];omega
   clear hc0 hc1
   go_wp2_with fail
   go_loopw [10] (fun i wr=>∃(c:Int),i=.int .i64 c∧ -1≤c∧c < hi∧Hid (U32P P wr gb off k)∧Hid (Mod [gb] w wr)) (fun i _=>(intOf i+1).toNat)
   case atStart=>exact ⟨_,rfl,by omega,by omega,HU,HM⟩
   case round=>
    clear HU HM hd0 h0c
    obtain ⟨c,rfl,hc0,hc1,HU,HM⟩:=hrel
    by_cases h0c:0≤c
    ·obtain ⟨m,rfl⟩:∃m:Nat,c=m:=⟨c.toNat,by omega⟩
     obtain ⟨x,hx,cx,fx,px⟩:=HU.out a (by omega)
     obtain ⟨y,hy,cy,fy,py⟩:=HU.out (a+m) (by omega)
     have ST:=Lib.hid (HU.out.swap' HM.out (i:=a) (j:=a+m) (by omega) (by omega) hx hy px py)
     have hak:(a:Int) < k:=by omega
     have ham:(a:Int)+m < k:=by omega
     have SX:Hid (∀W,U32P P W gb off k→Calls Tryz.prog 211 #[.slice (some ⟨gb,off,none⟩) k cap,.int .i64 0,.int .i64 m,.int .i64 a] W (SrtP P W gb off k)):=fun W hW=>SD.out W 0 m (by omega) (by omega) hW
     rcases Nat.eq_zero_or_pos m with hm0 | hm0
     ·subst hm0
      have hxy:x=y:=by rw [Nat.add_zero] at cy;rw [cx] at cy;simp at cy;omega
      subst hxy
      clear cy fy
      simp only [Nat.add_zero] at ST
      have SX:Hid (∀W,U32P P W gb off k→Calls Tryz.prog 211 #[.slice (some ⟨gb,off,none⟩) k cap,.int .i64 0,.int .i64 0,.int .i64 a] W (SrtP P W gb off k)):=SX
      go_wp2_with fail
      go_region
      have HU2:=Lib.hid ST.out.1
      have HM2:=Lib.hid ST.out.2
      clear cx fx ST HU HM
      generalize ((wr.setCell ⟨gb,off+a,none⟩ (.int .u32 x)).setCell ⟨gb,off+a,none⟩ (.int .u32 x)).drew=wz at *
      go_wp2_with fail
      refine (SX.out _ HU2.out).mono ?_
      rintro e w2 ⟨rfl,hu,hm⟩
      have HU3:=Lib.hid hu
      have HM3:=Lib.hid (HM2.out.trans' hm)
      clear hu hm SX HU2 HM2
      go_wp2_with fail
      go_roundw
      case rel=>exact ⟨_,rfl,by omega,by omega,HU3,HM3⟩
      case measure=>simp [intOf]
     ·have hm1:¬m=0:=by omega
      go_wp2_with fail
      go_region
      have HU2:=Lib.hid ST.out.1
      have HM2:=Lib.hid ST.out.2
      clear cx cy fx fy ST HU HM
      generalize ((wr.setCell ⟨gb,off+a,none⟩ (.int .u32 y)).setCell ⟨gb,off+(a+m),none⟩ (.int .u32 x)).drew=wz at *
      go_wp2_with fail
      refine (SX.out _ HU2.out).mono ?_
      rintro e w2 ⟨rfl,hu,hm⟩
      have HU3:=Lib.hid hu
      have HM3:=Lib.hid (HM2.out.trans' hm)
      clear hu hm SX HU2 HM2
      go_wp2_with fail
      go_roundw
      case rel=>exact ⟨_,rfl,by omega,by omega,HU3,HM3⟩
      case measure=>simp [intOf]
    ·have hd0:decide ((0:Int)≤c)=false:=by rw [decide_eq_false_iff_not];omega
     clear hc0 hc1
     go_wp2_with fail
     refine bodyPost_end (v:=.tuple #[]) (by simp [results,Tryz.results193,go_sem];try rfl) rfl ?_
     exact ⟨rfl,HU.out,HM.out⟩
open Go.RowKit
theorem lenP_c (k:Nat) (hk:k≤49) (w:World):Calls Tryz.prog 179 #[.int .u64 k] w fun e w'=>(∃c:Nat,e=.returned (.int .i64 c)∧c≤6∧(1≤k→k < 2 ^ c∧2 ^ c≤2 *k))∧w'=w:=by
 obtain rfl | rfl | rfl | rfl | rfl | rfl | rfl | rfl | rfl | rfl | rfl | rfl | rfl | rfl | rfl | rfl | rfl | rfl | rfl | rfl | rfl | rfl | rfl | rfl | rfl | rfl | rfl | rfl | rfl | rfl | rfl | rfl | rfl | rfl | rfl | rfl | rfl | rfl | rfl | rfl | rfl | rfl | rfl | rfl | rfl | rfl | rfl | rfl | rfl | rfl:k=0∨k=1∨k=2∨k=3∨k=4∨k=5∨k=6∨k=7∨k=8∨k=9∨k=10∨k=11∨k=12∨k=13∨k=14∨k=15∨k=16∨k=17∨k=18∨k=19∨k=20∨k=21∨k=22∨k=23∨k=24∨k=25∨k=26∨k=27∨k=28∨k=29∨k=30∨k=31∨k=32∨k=33∨k=34∨k=35∨k=36∨k=37∨k=38∨k=39∨k=40∨k=41∨k=42∨k=43∨k=44∨k=45∨k=46∨k=47∨k=48∨k=49:=by omega
 ·go_enter Tryz.func179,Tryz.ntmps179
  go_wp2
  go_ret
  exact ⟨⟨0,by kernel_rfl,by decide,by decide⟩,rfl⟩
 ·go_enter Tryz.func179,Tryz.ntmps179
  go_wp2
  go_ret
  exact ⟨⟨1,by kernel_rfl,by decide,by decide⟩,rfl⟩
 ·go_enter Tryz.func179,Tryz.ntmps179
  go_wp2
  go_ret
  exact ⟨⟨2,by kernel_rfl,by decide,by decide⟩,rfl⟩
 ·go_enter Tryz.func179,Tryz.ntmps179
  go_wp2
  go_ret
  exact ⟨⟨2,by kernel_rfl,by decide,by decide⟩,rfl⟩
 ·go_enter Tryz.func179,Tryz.ntmps179
  go_wp2
  go_ret
  exact ⟨⟨3,by kernel_rfl,by decide,by decide⟩,rfl⟩
 ·go_enter Tryz.func179,Tryz.ntmps179
  go_wp2
  go_ret
  exact ⟨⟨3,by kernel_rfl,by decide,by decide⟩,rfl⟩
 ·go_enter Tryz.func179,Tryz.ntmps179
  go_wp2
  go_ret
  exact ⟨⟨3,by kernel_rfl,by decide,by decide⟩,rfl⟩
 ·go_enter Tryz.func179,Tryz.ntmps179
  go_wp2
  go_ret
  exact ⟨⟨3,by kernel_rfl,by decide,by decide⟩,rfl⟩
 ·go_enter Tryz.func179,Tryz.ntmps179
  go_wp2
  go_ret
  exact ⟨⟨4,by kernel_rfl,by decide,by decide⟩,rfl⟩
 ·go_enter Tryz.func179,Tryz.ntmps179
  go_wp2
  go_ret
  exact ⟨⟨4,by kernel_rfl,by decide,by decide⟩,rfl⟩
 ·go_enter Tryz.func179,Tryz.ntmps179
  go_wp2
  go_ret
  exact ⟨⟨4,by kernel_rfl,by decide,by decide⟩,rfl⟩
 ·go_enter Tryz.func179,Tryz.ntmps179
  go_wp2
  go_ret
  exact ⟨⟨4,by kernel_rfl,by decide,by decide⟩,rfl⟩
 ·go_enter Tryz.func179,Tryz.ntmps179
  go_wp2
  go_ret
  exact ⟨⟨4,by kernel_rfl,by decide,by decide⟩,rfl⟩
 ·go_enter Tryz.func179,Tryz.ntmps179
  go_wp2
  go_ret
  exact ⟨⟨4,by kernel_rfl,by decide,by decide⟩,rfl⟩
 ·go_enter Tryz.func179,Tryz.ntmps179
  go_wp2
  go_ret
  exact ⟨⟨4,by kernel_rfl,by decide,by decide⟩,rfl⟩
 ·go_enter Tryz.func179,Tryz.ntmps179
  go_wp2
  go_ret
  exact ⟨⟨4,by kernel_rfl,by decide,by decide⟩,rfl⟩
 ·go_enter Tryz.func179,Tryz.ntmps179
  go_wp2
  go_ret
  exact ⟨⟨5,by kernel_rfl,by decide,by decide⟩,rfl⟩
 ·go_enter Tryz.func179,Tryz.ntmps179
  go_wp2
  go_ret
  exact ⟨⟨5,by kernel_rfl,by decide,by decide⟩,rfl⟩
 ·go_enter Tryz.func179,Tryz.ntmps179
  go_wp2
  go_ret
  exact ⟨⟨5,by kernel_rfl,by decide,by decide⟩,rfl⟩
 ·go_enter Tryz.func179,Tryz.ntmps179
  go_wp2
  go_ret
  exact ⟨⟨5,by kernel_rfl,by decide,by decide⟩,rfl⟩
 ·go_enter Tryz.func179,Tryz.ntmps179
  go_wp2
  go_ret
  exact ⟨⟨5,by kernel_rfl,by decide,by decide⟩,rfl⟩
 ·go_enter Tryz.func179,Tryz.ntmps179
  go_wp2
  go_ret
  exact ⟨⟨5,by kernel_rfl,by decide,by decide⟩,rfl⟩
 ·go_enter Tryz.func179,Tryz.ntmps179
  go_wp2
  go_ret
  exact ⟨⟨5,by kernel_rfl,by decide,by decide⟩,rfl⟩
 ·go_enter Tryz.func179,Tryz.ntmps179
  go_wp2
  go_ret
  exact ⟨⟨5,by kernel_rfl,by decide,by decide⟩,rfl⟩
 ·go_enter Tryz.func179,Tryz.ntmps179
  go_wp2
  go_ret
  exact ⟨⟨5,by kernel_rfl,by decide,by decide⟩,rfl⟩
 ·go_enter Tryz.func179,Tryz.ntmps179
  go_wp2
  go_ret
  exact ⟨⟨5,by kernel_rfl,by decide,by decide⟩,rfl⟩
 ·go_enter Tryz.func179,Tryz.ntmps179
  go_wp2
  go_ret
  exact ⟨⟨5,by kernel_rfl,by decide,by decide⟩,rfl⟩
 ·go_enter Tryz.func179,Tryz.ntmps179
  go_wp2
  go_ret
  exact ⟨⟨5,by kernel_rfl,by decide,by decide⟩,rfl⟩
 ·go_enter Tryz.func179,Tryz.ntmps179
  go_wp2
  go_ret
  exact ⟨⟨5,by kernel_rfl,by decide,by decide⟩,rfl⟩
 ·go_enter Tryz.func179,Tryz.ntmps179
  go_wp2
  go_ret
  exact ⟨⟨5,by kernel_rfl,by decide,by decide⟩,rfl⟩
 ·go_enter Tryz.func179,Tryz.ntmps179
  go_wp2
  go_ret
  exact ⟨⟨5,by kernel_rfl,by decide,by decide⟩,rfl⟩
 ·go_enter Tryz.func179,Tryz.ntmps179
  go_wp2
  go_ret
  exact ⟨⟨5,by kernel_rfl,by decide,by decide⟩,rfl⟩
 ·go_enter Tryz.func179,Tryz.ntmps179
  go_wp2
  go_ret
  exact ⟨⟨6,by kernel_rfl,by decide,by decide⟩,rfl⟩
 ·go_enter Tryz.func179,Tryz.ntmps179
  go_wp2
  go_ret
  exact ⟨⟨6,by kernel_rfl,by decide,by decide⟩,rfl⟩
 ·go_enter Tryz.func179,Tryz.ntmps179
  go_wp2
  go_ret
  exact ⟨⟨6,by kernel_rfl,by decide,by decide⟩,rfl⟩
 ·go_enter Tryz.func179,Tryz.ntmps179
  go_wp2
  go_ret
  exact ⟨⟨6,by kernel_rfl,by decide,by decide⟩,rfl⟩
 ·go_enter Tryz.func179,Tryz.ntmps179
  go_wp2
  go_ret
  exact ⟨⟨6,by kernel_rfl,by decide,by decide⟩,rfl⟩
 ·go_enter Tryz.func179,Tryz.ntmps179
  go_wp2
  go_ret
  exact ⟨⟨6,by kernel_rfl,by decide,by decide⟩,rfl⟩
 ·go_enter Tryz.func179,Tryz.ntmps179
  go_wp2
  go_ret
  exact ⟨⟨6,by kernel_rfl,by decide,by decide⟩,rfl⟩
 ·go_enter Tryz.func179,Tryz.ntmps179
  go_wp2
  go_ret
  exact ⟨⟨6,by kernel_rfl,by decide,by decide⟩,rfl⟩
 ·go_enter Tryz.func179,Tryz.ntmps179
  go_wp2
  go_ret
  exact ⟨⟨6,by kernel_rfl,by decide,by decide⟩,rfl⟩
 ·go_enter Tryz.func179,Tryz.ntmps179
  go_wp2
  go_ret
  exact ⟨⟨6,by kernel_rfl,by decide,by decide⟩,rfl⟩
 ·go_enter Tryz.func179,Tryz.ntmps179
  go_wp2
  go_ret
  exact ⟨⟨6,by kernel_rfl,by decide,by decide⟩,rfl⟩
 ·go_enter Tryz.func179,Tryz.ntmps179
  go_wp2
  go_ret
  exact ⟨⟨6,by kernel_rfl,by decide,by decide⟩,rfl⟩
 ·go_enter Tryz.func179,Tryz.ntmps179
  go_wp2
  go_ret
  exact ⟨⟨6,by kernel_rfl,by decide,by decide⟩,rfl⟩
 ·go_enter Tryz.func179,Tryz.ntmps179
  go_wp2
  go_ret
  exact ⟨⟨6,by kernel_rfl,by decide,by decide⟩,rfl⟩
 ·go_enter Tryz.func179,Tryz.ntmps179
  go_wp2
  go_ret
  exact ⟨⟨6,by kernel_rfl,by decide,by decide⟩,rfl⟩
 ·go_enter Tryz.func179,Tryz.ntmps179
  go_wp2
  go_ret
  exact ⟨⟨6,by kernel_rfl,by decide,by decide⟩,rfl⟩
 ·go_enter Tryz.func179,Tryz.ntmps179
  go_wp2
  go_ret
  exact ⟨⟨6,by kernel_rfl,by decide,by decide⟩,rfl⟩
 ·go_enter Tryz.func179,Tryz.ntmps179
  go_wp2
  go_ret
  exact ⟨⟨6,by kernel_rfl,by decide,by decide⟩,rfl⟩
open Go.RowKit
theorem xorNext_c {w:World} (br:Nat) (v:Int) (ty:TypeId) (h:Blk w br #[.int .u64 v] ty):
 Calls Tryz.prog 213 #[.pointer (some ⟨br,0,none⟩)] w fun e w'=>∃x:Int,e=.returned (.int .u64 x)∧Blk w' br #[.int .u64 x] ty∧Mod [br] w w':=by
 have k0:=h.cell 0
 simp only [List.getElem?_toArray,List.getElem?_cons_zero] at k0
 have kf:=h.froz 0
 have H:=Lib.hid h
 clear h
 go_enter Tryz.func213,Tryz.ntmps213
 go_wp2_with fail
 go_region
 generalize bits BinOp.xor IntKind.u64 v (IntKind.u64.wrap (v *8192))=v1 at *
 have H1:=Lib.hid ((H.out.set 0 (.int .u64 v1)).drew)
 have M1:Hid (Mod [br] w ((w.setCell ⟨br,0,none⟩ (.int .u64 v1)).drew)):=((Mod.refl _ _).setCell _ _ (by simp)).drew
 generalize (w.setCell ⟨br,0,none⟩ (.int .u64 v1)).drew=w1 at *
 clear k0 kf
 have k0:=H1.out.cell 0
 simp only [List.setIfInBounds_toArray,List.set_cons_zero,List.getElem?_toArray,List.getElem?_cons_zero] at k0
 have kf:=H1.out.froz 0
 go_wp2_with fail
 go_region
 generalize bits BinOp.xor IntKind.u64 v1 (v1 / 128)=v2 at *
 have H2:=Lib.hid ((H1.out.set 0 (.int .u64 v2)).drew)
 have M2:Hid (Mod [br] w ((w1.setCell ⟨br,0,none⟩ (.int .u64 v2)).drew)):=(M1.out.setCell _ _ (by simp)).drew
 generalize (w1.setCell ⟨br,0,none⟩ (.int .u64 v2)).drew=w2 at *
 clear k0 kf
 have k0:=H2.out.cell 0
 simp only [List.setIfInBounds_toArray,List.set_cons_zero,List.getElem?_toArray,List.getElem?_cons_zero] at k0
 have kf:=H2.out.froz 0
 go_wp2_with fail
 go_region
 generalize bits BinOp.xor IntKind.u64 v2 (IntKind.u64.wrap (v2 *131072))=v3 at *
 have H3:=Lib.hid ((H2.out.set 0 (.int .u64 v3)).drew)
 have M3:Hid (Mod [br] w ((w2.setCell ⟨br,0,none⟩ (.int .u64 v3)).drew)):=(M2.out.setCell _ _ (by simp)).drew
 generalize (w2.setCell ⟨br,0,none⟩ (.int .u64 v3)).drew=w3 at *
 clear k0 kf
 have k0:=H3.out.cell 0
 simp only [List.setIfInBounds_toArray,List.set_cons_zero,List.getElem?_toArray,List.getElem?_cons_zero] at k0
 have kf:=H3.out.froz 0
 go_wp2_with fail
 go_ret
 refine ⟨v3,rfl,?_,M3.out⟩
 have h:=H3.out
 simp only [List.setIfInBounds_toArray,List.set_cons_zero] at h
 exact h
theorem and_le (x:Int) (m:Nat) (hm:1≤m) (h64:m≤64):∃r:Nat,bits .and .u64 x ((m:Int) - 1)=(r:Int)∧r+1≤m:=by
 have e2:BitVec.ofInt 64 ((m:Int) - 1)=BitVec.ofNat 64 (m - 1):=by
  rw [show (m:Int) - 1=((m - 1:Nat):Int) by omega];exact BitVec.ofInt_natCast ..
 have e3:(BitVec.ofInt 64 x &&& BitVec.ofNat 64 (m - 1)).toNat≤m - 1:=by
  rw [BitVec.toNat_and,BitVec.toNat_ofNat,Nat.mod_eq_of_lt (by omega)]
  exact Nat.and_le_right
 refine ⟨(BitVec.ofInt 64 x &&& BitVec.ofNat 64 (m - 1)).toNat,?_,by omega⟩
 show IntKind.u64.wrap ((BitVec.ofInt 64 x &&& BitVec.ofInt 64 ((m:Int) - 1)).toNat:Int)=_
 rw [e2]
 generalize (BitVec.ofInt 64 x &&& BitVec.ofNat 64 (m - 1)).toNat=r at *
 rw [IntWalk.u64_in _ (by omega)]
theorem nextPow_c (k:Nat) (h8:8≤k) (hk:k≤49) (w:World):Calls Tryz.prog 212 #[.int .i64 k] w fun e w'=>(∃m:Nat,e=.returned (.int .u64 m)∧1≤m∧m≤64∧m≤2 *k)∧w'=w:=by
 have LN:=Lib.hid (lenP_c k hk w)
 have hk':(k:Int)≤49:=by omega
 go_enter Tryz.func212,Tryz.ntmps212
 go_wp2_with fail
 refine LN.out.mono ?_
 rintro e w' ⟨⟨c,rfl,hc,h2⟩,rfl⟩
 obtain ⟨h3,h4⟩:=h2 (by omega)
 clear h2 LN
 have hc3:3 < c:=by
  rcases Nat.lt_or_ge 3 c with h | h
  ·exact h
  ·have:=Nat.pow_le_pow_right (n:=2) (by omega) h;omega
 obtain rfl | rfl | rfl:c=4∨c=5∨c=6:=by omega
 ·have H4:=Lib.hid h4
  clear h3 h4 hc hc3
  go_wp2_with fail
  go_ret
  exact ⟨⟨16,rfl,by omega,by omega,H4.out⟩,rfl⟩
 ·have H4:=Lib.hid h4
  clear h3 h4 hc hc3
  go_wp2_with fail
  go_ret
  exact ⟨⟨32,rfl,by omega,by omega,H4.out⟩,rfl⟩
 ·have H4:=Lib.hid h4
  clear h3 h4 hc hc3
  go_wp2_with fail
  go_ret
  exact ⟨⟨64,rfl,by omega,by omega,H4.out⟩,rfl⟩
open Go.RowKit
theorem breakP_c {P:Nat→Prop} {w:World} (gb off k cap a l:Nat) (hk:k≤1000) (hc:k≤cap) (hb:a+l≤k) (h8:8≤l) (h49:l≤49) (h:U32P P w gb off k):
 Calls Tryz.prog 194 #[.slice (some ⟨gb,off,none⟩) k cap,.int .i64 a,.int .i64 ((a:Int)+l)] w (SrtP P w gb off k):=by
 obtain ⟨q,hq⟩:∃q,q=l / 4:=⟨_,rfl⟩
 obtain ⟨br,hbr⟩:∃br,w.heap.size=br:=⟨_,rfl⟩
 have hgb:gb < w.heap.size:=by
  obtain ⟨v,_,c,_⟩:=h a (by omega)
  have:=World.block_lt_of_cell? w _ c
  exact this
 have hne:br≠gb:=by omega
 have NP:=Lib.hid (nextPow_c l h8 h49)
 have e2:(a:Int)+l - a=l:=by omega
 have e3:(l:Int) / 4=q:=by omega
 have hl8:(8:Int)≤l:=by omega
 have hql:(q:Int)≤1000:=by omega
 have hal:(a:Int)+l≤k:=by omega
 have hk':(k:Int)≤1000:=by omega
 have H:=Lib.hid h
 have HQ:=Lib.hid (show q *2+1 < l∧2≤q by omega)
 have HW:=Lib.hid hgb
 clear h hq hgb
 go_enter Tryz.func194,Tryz.ntmps194
 go_wp2_with fail
 refine (NP.out _).mono ?_
 rintro e w1 ⟨⟨m,rfl,hm1,hm2,hm3⟩,hw1⟩
 have BR:Hid (∃v:Int,∃ty,Blk w1 br #[.int .u64 v] ty):=by subst hw1;exact ⟨_,_,Blk.new' w _ _ br hbr.symm⟩
 have HU:Hid (U32P P w1 gb off k):=by subst hw1;exact H.out.mod (S:=[]) ((Mod.refl _ _).alloc _) (by simp) HW.out
 have HM:Hid (Mod [gb] w w1):=by subst hw1;exact (Mod.refl _ _).alloc _
 have HBW:Hid (w.heap.size≤br):=Nat.le_of_eq hbr
 have HLM:=Lib.hid hm3
 clear hw1 NP H hbr hm3
 go_wp2_with fail
 go_loopw [9] (fun i wr=>∃c:Int,i=.int .i64 c∧(a:Int)+1≤c∧c≤(a:Int)+q *2+2∧Hid (∃v:Int,∃ty,Blk wr br #[.int .u64 v] ty)∧Hid (U32P P wr gb off k)∧Hid (Mod [gb] w wr)) (fun i _=>((a:Int)+q *2+2 - intOf i).toNat)
 case atStart=>
  have h:=HQ.out
  exact ⟨_,rfl,by omega,by omega,BR,HU,HM⟩
 case round=>
  clear BR HU HM
  obtain ⟨c,rfl,hc1,hc2,BR,HU,HM⟩:=hrel
  by_cases hlt:c≤(a:Int)+q *2+1
  ·obtain ⟨i,rfl⟩:∃i:Nat,c=i:=⟨c.toNat,by omega⟩
   have hd:decide ((i:Int)≤(a:Int)+q *2+1)=true:=decide_eq_true hlt
   have hik:i < k:=by have:=HQ.out;omega
   obtain ⟨v,ty,B⟩:=BR.out
   have XN:=Lib.hid (xorNext_c br v ty B)
   clear BR B
   go_wp2_with fail
   refine XN.out.mono ?_
   rintro e w2 ⟨x,rfl,hB,hM⟩
   have BR:Hid (∃v:Int,∃ty,Blk w2 br #[.int .u64 v] ty):=⟨_,_,hB⟩
   replace HU:=Lib.hid (HU.out.mod hM (by simpa using Ne.symm hne) (by have:=HW.out;have:=HM.out.size;omega))
   replace HM:Hid (Mod [gb] w w2):=HM.out.trans hM (by intro j hj h;simp at h;have:=HBW.out;omega)
   obtain ⟨r,hr,hrm⟩:=and_le x m hm1 hm2
   have hm1':(1:Int)≤m:=by omega
   have hm64:(m:Int)≤64:=by omega
   have hr64:(r:Int)≤64:=by omega
   clear hB hM XN
   go_upto_region 8 with fail
   go_cut [43] from 41 to 43 (fun v wq=>v=.bool (decide (l≤r))∧wq=w2)
   case first=>
    go_wp2_with fail
    go_meet
    exact ⟨rfl,rfl⟩
   case rest=>
   obtain ⟨rfl,hwq⟩:=hcut
   subst hwq
   go_step
   go_cut [10] from 44 to 46 (fun v wq=>∃o:Nat,v=.int .i64 o∧o < l∧wq=wc)
   case first=>
    by_cases hlr:l≤r
    ·have hd2:decide (l≤r)=true:=decide_eq_true hlr
     go_wp2_with fail
     go_meet
     exact ⟨r - l,by first | (show Value.int _ _=_;congr 1;omega) | go_num,by have:=HLM.out;omega,rfl⟩
    ·have hd2:decide (l≤r)=false:=decide_eq_false hlr
     go_wp2_with fail
     go_meet
     exact ⟨r,by first | rfl | go_num,by omega,rfl⟩
   case rest=>
   obtain ⟨o,rfl,ho,hwq⟩:=hcut
   clear hr hrm hr64 hm1' hm64
   subst hwq
   generalize wc=w5 at *
   have q1:(i:Int) < k:=by omega
   have q2:(a:Int)+o < k:=by omega
   obtain ⟨x,hx,cx,fx,px⟩:=HU.out i (by omega)
   by_cases hij:i=a+o
   ·have hio:(a:Int)+o=i:=by omega
    clear hij
    have ST:=Lib.hid (HU.out.swap' HM.out (i:=i) (j:=i) (by omega) (by omega) hx hx px px)
    have SM:=Lib.hid (HU.out.swap' (Mod.refl [gb] w5) (i:=i) (j:=i) (by omega) (by omega) hx hx px px).2
    clear HU HM
    go_wp2_with fail
    go_region
    have HU:=Lib.hid ST.out.1
    have HM:=Lib.hid ST.out.2
    clear ST cx fx
    generalize ((w5.setCell ⟨gb,off+i,none⟩ (.int .u32 x)).setCell ⟨gb,off+i,none⟩ (.int .u32 x)).drew=w9 at *
    replace BR:Hid (∃v:Int,∃ty,Blk w9 br #[.int .u64 v] ty):=by
     obtain ⟨v,ty,B⟩:=BR.out
     exact ⟨v,ty,B.mod SM.out (by simpa using hne)⟩
    clear SM
    go_wp2_with fail
    go_roundw
    case rel=>exact ⟨_,rfl,by omega,by omega,BR,HU,HM⟩
    case measure=>simp [intOf];omega
   ·obtain ⟨y,hy,cy,fy,py⟩:=HU.out (a+o) (by omega)
    have hij2:¬a+o=i:=fun e=>hij e.symm
    have ST:=Lib.hid (HU.out.swap' HM.out (i:=i) (j:=(a+o)) (by omega) (by omega) hx hy px py)
    have SM:=Lib.hid (HU.out.swap' (Mod.refl [gb] w5) (i:=i) (j:=(a+o)) (by omega) (by omega) hx hy px py).2
    clear HU HM
    go_wp2_with fail
    go_region
    have HU:=Lib.hid ST.out.1
    have HM:=Lib.hid ST.out.2
    clear ST cx fx cy fy
    generalize ((w5.setCell ⟨gb,off+i,none⟩ (.int .u32 y)).setCell ⟨gb,off+(a+o),none⟩ (.int .u32 x)).drew=w9 at *
    replace BR:Hid (∃v:Int,∃ty,Blk w9 br #[.int .u64 v] ty):=by
     obtain ⟨v,ty,B⟩:=BR.out
     exact ⟨v,ty,B.mod SM.out (by simpa using hne)⟩
    clear SM
    go_wp2_with fail
    go_roundw
    case rel=>exact ⟨_,rfl,by omega,by omega,BR,HU,HM⟩
    case measure=>simp [intOf];omega
  ·have hd:decide (c≤(a:Int)+q *2+1)=false:=decide_eq_false hlt
   go_wp2_with fail
   refine bodyPost_end (v:=.tuple #[]) (by simp [results,Tryz.results194,go_sem];try rfl) rfl ?_
   exact ⟨rfl,HU.out,HM.out⟩
end Go.Proofs.YtnbjnnijifiaaaaGreatDoor
