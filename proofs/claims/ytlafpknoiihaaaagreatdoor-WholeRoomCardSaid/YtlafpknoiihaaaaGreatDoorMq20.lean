/- Mq20: J9 · Ji -/
import Derived.Test.YtlafpknoiihaaaaGreatDoorMq19
import Derived.Test.YtlafpknoiihaaaaGreatDoorMq07
import Derived.Test.YtlafpknoiihaaaaGreatDoorMq17
import Derived.Test.YtlafpknoiihaaaaGreatDoorMq10
import Derived.Deep.RegionHeld3
set_option maxRecDepth 100000
set_option maxHeartbeats 4000000
set_option linter.unusedVariables false
set_option linter.unusedSimpArgs false
namespace Go.Proofs.YtlafpknoiihaaaaGreatDoor
open Go.RowKit
def wideK (o:Nat):Nat→Nat
 | 0=>0
 | k+1=>if o.testBit (k / 2) then wideK o k ||| 2 ^ k else wideK o k
theorem wideK_lt (o:Nat):∀k,wideK o k < 2 ^ k:=by
 intro k
 induction k with
 | zero=>exact Nat.two_pow_pos 0
 | succ k ih=>
  have hp:2 ^ (k+1)=2 *2 ^ k:=by rw [Nat.pow_succ];omega
  rw [wideK]
  split
  ·exact Nat.or_lt_two_pow (by omega) (Nat.pow_lt_pow_right (by omega) (by omega))
  ·omega
theorem wideK_wide:∀o,o < 16→wideK o 8=wideN o:=by decide+kernel
theorem i64_and_nat32 (a b:Nat) (ha:a < 4294967296) (hb:b < 4294967296):bits .and .i64 (a:Int) (b:Int)=((a &&& b:Nat):Int):=by
 have h3:a &&& b < 4294967296:=Nat.lt_of_le_of_lt Nat.and_le_left ha
 have e:(BitVec.ofInt 64 (a:Int) &&& BitVec.ofInt 64 (b:Int)).toNat=a &&& b:=by
  have e1:BitVec.ofInt 64 (a:Int)=BitVec.ofNat 64 a:=BitVec.ofInt_natCast ..
  have e2:BitVec.ofInt 64 (b:Int)=BitVec.ofNat 64 b:=BitVec.ofInt_natCast ..
  rw [e1,e2,BitVec.toNat_and,BitVec.toNat_ofNat,BitVec.toNat_ofNat,Nat.mod_eq_of_lt (by omega),Nat.mod_eq_of_lt (by omega)]
 show IntKind.i64.wrap ((BitVec.ofInt 64 (a:Int) &&& BitVec.ofInt 64 (b:Int)).toNat:Int)=_
 rw [e,IntWalk.i64_in _ (by omega)]
theorem bit64 (x k:Nat) (hx:x < 4294967296):bits .and .i64 ((x:Int) / 2 ^ k) 1=if x.testBit k then 1 else 0:=by
 have e1:(x:Int) / 2 ^ k=((x / 2 ^ k:Nat):Int):=by rw [Int.natCast_ediv];simp
 have h1:x / 2 ^ k < 4294967296:=Nat.lt_of_le_of_lt (Nat.div_le_self _ _) hx
 rw [e1,show (1:Int)=((1:Nat):Int) from rfl,i64_and_nat32 _ _ h1 (by omega),Nat.and_one_is_mod,Nat.testBit_eq_decide_div_mod_eq]
 by_cases q:x / 2 ^ k % 2=1
 ·simp [q]
 ·have:x / 2 ^ k % 2=0:=by omega
  simp [this]
theorem or_zero64 {x:Nat} (hx:x < 4294967296):bits .or .i64 (x:Int) 0=(x:Int):=by
 have e:(BitVec.ofInt 64 (x:Int) ||| BitVec.ofInt 64 0).toNat=x:=by
  have e1:BitVec.ofInt 64 (x:Int)=BitVec.ofNat 64 x:=BitVec.ofInt_natCast ..
  have e2:BitVec.ofInt 64 0=BitVec.ofNat 64 0:=rfl
  rw [e1,e2,BitVec.toNat_or,BitVec.toNat_ofNat,BitVec.toNat_ofNat,Nat.mod_eq_of_lt (by omega)]
  simp
 show IntKind.i64.wrap ((BitVec.ofInt 64 (x:Int) ||| BitVec.ofInt 64 0).toNat:Int)=_
 rw [e,IntWalk.i64_in _ (by omega)]
theorem wide_c (o:Nat) (ho:o < 16) (w:World):Calls Tryz.prog 64 #[.int .i64 o] w fun e w'=>e=.returned (.int .i64 (wideN o:Nat))∧w'=w:=by
 have BB:=Lib.hid (fun k=>bit64 o k (by omega))
 have OR:Hid (∀x v:Nat,x < 4294967296→v < 32→_):=fun x v hx hv=>or_pow (x:=x) (v:=v) hx hv
 have OZ:Hid (∀x:Nat,x < 4294967296→_):=fun x hx=>or_zero64 (x:=x) hx
 have WL:=Lib.hid (wideK_lt o)
 have WS:Hid (∀k,wideK o (k+1)=if o.testBit (k / 2) then wideK o k ||| 2 ^ k else wideK o k):=fun k=>rfl
 have WE:=Lib.hid (wideK_wide o ho)
 have hob:(o:Int) < 16:=by omega
 have W0:Hid (wideK o 0=0):=rfl
 generalize wideK o=X at *
 generalize wideN o=R at *
 clear ho
 go_enter Tryz.func64,Tryz.ntmps64
 go_wp2_with fail
 go_loopw [3,5] (fun p i wr=>∃k:Nat,p=.int .i64 (X k:Nat)∧i=.int .i64 k∧k≤8∧wr=w) (fun _ i _=>8 - (intOf i).toNat)
 case atStart=>exact ⟨0,by rw [W0.out];rfl,rfl,by omega,rfl⟩
 case round=>
  obtain ⟨k,rfl,rfl,hk,hw⟩:=hrel
  subst hw
  have hX:X k < 256:=Nat.lt_of_lt_of_le (WL.out k) (Nat.pow_le_pow_right (by omega) hk)
  have hS:=WS.out k
  obtain rfl | rfl | rfl | rfl | rfl | rfl | rfl | rfl | rfl:k=0∨k=1∨k=2∨k=3∨k=4∨k=5∨k=6∨k=7∨k=8:=by omega
  ·have b:=BB.out 0
   simp only [Nat.reduceDiv] at hS
   have OR1:=OR.out (X 0) 0 (by omega) (by omega)
   have OZ1:=OZ.out (X 0) (by omega)
   generalize hx:X 0=x at *
   cases hb:o.testBit 0
   ·rw [hb] at b hS
    simp only [Bool.false_eq_true,if_false] at b hS
    simp at b OR1
    go_wp2_with fail
    exact ⟨⟨1,by rw [hS],rfl,by omega,by first | trivial | rfl⟩,by simp [intOf]⟩
   ·rw [hb] at b hS
    simp only [if_true] at b hS
    simp at b OR1
    go_wp2_with fail
    exact ⟨⟨1,by (rw [hS];try simp),rfl,by omega,by first | trivial | rfl⟩,by simp [intOf]⟩
  ·have b:=BB.out 0
   simp only [Nat.reduceDiv] at hS
   have OR1:=OR.out (X 1) 1 (by omega) (by omega)
   have OZ1:=OZ.out (X 1) (by omega)
   generalize hx:X 1=x at *
   cases hb:o.testBit 0
   ·rw [hb] at b hS
    simp only [Bool.false_eq_true,if_false] at b hS
    simp at b OR1
    go_wp2_with fail
    exact ⟨⟨2,by rw [hS],rfl,by omega,by first | trivial | rfl⟩,by simp [intOf]⟩
   ·rw [hb] at b hS
    simp only [if_true] at b hS
    simp at b OR1
    go_wp2_with fail
    exact ⟨⟨2,by (rw [hS];try simp),rfl,by omega,by first | trivial | rfl⟩,by simp [intOf]⟩
  ·have b:=BB.out 1
   simp only [Nat.reduceDiv] at hS
   have OR1:=OR.out (X 2) 2 (by omega) (by omega)
   have OZ1:=OZ.out (X 2) (by omega)
   generalize hx:X 2=x at *
   cases hb:o.testBit 1
   ·rw [hb] at b hS
    simp only [Bool.false_eq_true,if_false] at b hS
    simp at b OR1
    go_wp2_with fail
    exact ⟨⟨3,by rw [hS],rfl,by omega,by first | trivial | rfl⟩,by simp [intOf]⟩
   ·rw [hb] at b hS
    simp only [if_true] at b hS
    simp at b OR1
    go_wp2_with fail
    exact ⟨⟨3,by (rw [hS];try simp),rfl,by omega,by first | trivial | rfl⟩,by simp [intOf]⟩
  ·have b:=BB.out 1
   simp only [Nat.reduceDiv] at hS
   have OR1:=OR.out (X 3) 3 (by omega) (by omega)
   have OZ1:=OZ.out (X 3) (by omega)
   generalize hx:X 3=x at *
   cases hb:o.testBit 1
   ·rw [hb] at b hS
    simp only [Bool.false_eq_true,if_false] at b hS
    simp at b OR1
    go_wp2_with fail
    exact ⟨⟨4,by rw [hS],rfl,by omega,by first | trivial | rfl⟩,by simp [intOf]⟩
   ·rw [hb] at b hS
    simp only [if_true] at b hS
    simp at b OR1
    go_wp2_with fail
    exact ⟨⟨4,by (rw [hS];try simp),rfl,by omega,by first | trivial | rfl⟩,by simp [intOf]⟩
  ·have b:=BB.out 2
   simp only [Nat.reduceDiv] at hS
   have OR1:=OR.out (X 4) 4 (by omega) (by omega)
   have OZ1:=OZ.out (X 4) (by omega)
   generalize hx:X 4=x at *
   cases hb:o.testBit 2
   ·rw [hb] at b hS
    simp only [Bool.false_eq_true,if_false] at b hS
    simp at b OR1
    go_wp2_with fail
    exact ⟨⟨5,by rw [hS],rfl,by omega,by first | trivial | rfl⟩,by simp [intOf]⟩
   ·rw [hb] at b hS
    simp only [if_true] at b hS
    simp at b OR1
    go_wp2_with fail
    exact ⟨⟨5,by (rw [hS];try simp),rfl,by omega,by first | trivial | rfl⟩,by simp [intOf]⟩
  ·have b:=BB.out 2
   simp only [Nat.reduceDiv] at hS
   have OR1:=OR.out (X 5) 5 (by omega) (by omega)
   have OZ1:=OZ.out (X 5) (by omega)
   generalize hx:X 5=x at *
   cases hb:o.testBit 2
   ·rw [hb] at b hS
    simp only [Bool.false_eq_true,if_false] at b hS
    simp at b OR1
    go_wp2_with fail
    exact ⟨⟨6,by rw [hS],rfl,by omega,by first | trivial | rfl⟩,by simp [intOf]⟩
   ·rw [hb] at b hS
    simp only [if_true] at b hS
    simp at b OR1
    go_wp2_with fail
    exact ⟨⟨6,by (rw [hS];try simp),rfl,by omega,by first | trivial | rfl⟩,by simp [intOf]⟩
  ·have b:=BB.out 3
   simp only [Nat.reduceDiv] at hS
   have OR1:=OR.out (X 6) 6 (by omega) (by omega)
   have OZ1:=OZ.out (X 6) (by omega)
   generalize hx:X 6=x at *
   cases hb:o.testBit 3
   ·rw [hb] at b hS
    simp only [Bool.false_eq_true,if_false] at b hS
    simp at b OR1
    go_wp2_with fail
    exact ⟨⟨7,by rw [hS],rfl,by omega,by first | trivial | rfl⟩,by simp [intOf]⟩
   ·rw [hb] at b hS
    simp only [if_true] at b hS
    simp at b OR1
    go_wp2_with fail
    exact ⟨⟨7,by (rw [hS];try simp),rfl,by omega,by first | trivial | rfl⟩,by simp [intOf]⟩
  ·have b:=BB.out 3
   simp only [Nat.reduceDiv] at hS
   have OR1:=OR.out (X 7) 7 (by omega) (by omega)
   have OZ1:=OZ.out (X 7) (by omega)
   generalize hx:X 7=x at *
   cases hb:o.testBit 3
   ·rw [hb] at b hS
    simp only [Bool.false_eq_true,if_false] at b hS
    simp at b OR1
    go_wp2_with fail
    exact ⟨⟨8,by rw [hS],rfl,by omega,by first | trivial | rfl⟩,by simp [intOf]⟩
   ·rw [hb] at b hS
    simp only [if_true] at b hS
    simp at b OR1
    go_wp2_with fail
    exact ⟨⟨8,by (rw [hS];try simp),rfl,by omega,by first | trivial | rfl⟩,by simp [intOf]⟩
  ·rw [WE.out]
   go_wp2_with fail
   go_ret
   exact ⟨rfl,rfl⟩
theorem applyTwo_c {lm cc bs n room bo bc g f o:Nat} (h1:1≤f) (h5:f≤5) (hn:n≤16) (hrm:room≤100000) (ho:o < 16) (hw:wideN o < 256)
 {w:World} {L:List Rc} {F:List Nat} {at_ aa bt ba:Nat} {ta tb:List Bool} (HE:EngA w bs n room L F bo bc g) (hR:Rm n f lm room L (budA lm+cc))
 (ea:EdT L f n n 0 ⟨at_,aa⟩ ta) (eb:EdT L f n n 0 ⟨bt,ba⟩ tb):
 Calls Tryz.prog 35 #[.pointer (some ⟨bo,0,none⟩),.int .u8 f,.int .i64 o,.agg #[.int .u8 at_,.int .u32 aa],.agg #[.int .u8 bt,.int .u32 ba]] w (DoR w bs n room L F bo bc g f n 0 (zipO o ta tb) lm cc):=by
 have eT:op3T (wideN o) ta tb (List.replicate (2 ^ n) false)=zipO o ta tb:=op3T_wide ea.len eb.len (by simp)
 rw [←eT]
 have WI:=Lib.hid (fun W=>wide_c o ho W)
 have LT:=Lib.hid HE.lt
 have AT:Hid (∀W,Mod [] w W→Calls Tryz.prog 63 #[.pointer (some ⟨bo,0,none⟩),.int .u8 f,.int .i64 (wideN o:Nat),.int .i64 0,.agg #[.int .u8 at_,.int .u32 aa],.agg #[.int .u8 bt,.int .u32 ba],.agg #[.int .u8 0,.int .u32 0]] W (DoR W bs n room L F bo bc g f n 0 (op3T (wideN o) ta tb (List.replicate (2 ^ n) false)) lm cc)):=fun W m=>
  atA_at h1 h5 hn hrm hw (by omega) (doA h1 h5 hn hrm hw n 0 (by omega)) (HE.mod0 m) (by rw [Nat.sub_zero];exact hR) ea eb (EdT.zero L (by omega))
 generalize op3T (wideN o) ta tb (List.replicate (2 ^ n) false)=T at *
 have hob:(o:Int) < 16:=by omega
 obtain ⟨gk,hgk⟩:∃gk,w.heap.size=gk:=⟨_,rfl⟩
 have BA:=((Blk.new' w #[.int .u8 at_,.int .u32 aa] 66 gk hgk.symm).alloc (.cells #[.int .u8 bt,.int .u32 ba] 66)).alloc (.cells #[.int .u8 0,.int .u32 0] 66)
 have BB:=(Blk.new' (w.alloc (.cells #[.int .u8 at_,.int .u32 aa] 66)) #[.int .u8 bt,.int .u32 ba] 66 (gk+1) (by simp [hgk])).alloc (.cells #[.int .u8 0,.int .u32 0] 66)
 have BR:=Blk.new' ((w.alloc (.cells #[.int .u8 at_,.int .u32 aa] 66)).alloc (.cells #[.int .u8 bt,.int .u32 ba] 66)) #[.int .u8 0,.int .u32 0] 66 (gk+2) (by simp [hgk])
 have M1:Hid (Mod [] w (((w.alloc (.cells #[.int .u8 at_,.int .u32 aa] 66)).alloc (.cells #[.int .u8 bt,.int .u32 ba] 66)).alloc (.cells #[.int .u8 0,.int .u32 0] 66))):=by exact mods
 have HN:Hid (gk+2∉bo::bc::g::F∧w.heap.size≤gk+2):=⟨fun h=>by have:=LT.out _ h;omega,by omega⟩
 have HNA:Hid (gk∉bo::bc::g::F∧gk+1∉bo::bc::g::F):=⟨fun h=>by have:=LT.out _ h;omega,fun h=>by have:=LT.out _ h;omega⟩
 clear HE ea eb hR ho hw eT
 go_enter Tryz.func35,Tryz.ntmps35
 go_upto_region 1 with fail
 generalize ((w.alloc (.cells #[.int .u8 at_,.int .u32 aa] 66)).alloc (.cells #[.int .u8 bt,.int .u32 ba] 66)).alloc (.cells #[.int .u8 0,.int .u32 0] 66)=w1 at *
 obtain ⟨a0,a1⟩:=BA.cells2
 obtain ⟨b0,b1⟩:=BB.cells2
 have hA:=BA.lt
 have hB:=BB.lt
 have nA:¬gk=gk+1+1:=by omega
 have nB:¬gk+1=gk+1+1:=by omega
 have nC:¬gk+1+1=gk:=by omega
 have nD:¬gk+1+1=gk+1:=by omega
 have PA:=Lib.hid BA
 have PB:=Lib.hid BB
 have PR:=Lib.hid BR
 clear BA BB BR
 have AT2:Hid (∀W,Mod [] w1 W→_):=fun W m=>AT.out W (M1.out.trans' m)
 go_wp2_with fail
 go_region_held3 (fun w'=>w'.cell? ⟨gk,0,none⟩=some (.int .u8 at_)∧w'.cell? ⟨gk,1,none⟩=some (.int .u32 aa)∧w'.cell? ⟨gk+1,0,none⟩=some (.int .u8 bt)∧w'.cell? ⟨gk+1,1,none⟩=some (.int .u32 ba)) (go_keep) (first | (go_at_call 64;refine (WI.out _).mono ?_;rintro e' w2 ⟨rfl,rfl⟩) | (go_at_call 63;refine (AT2.out _ (by exact mods)).mono ?_;rintro e' wd ⟨et,ea,L2,F2,rfl,en,gd,ex,hl2⟩;have GD:=Grow.trans (Grow.of_mod (F:=bc::g::F) (show Mod [] w1 _ from by exact mods)) gd;have BA:=PA.out.mod GD.mod (fun h=>HNA.out.1 (List.mem_cons_of_mem _ h));have BB:=PB.out.mod GD.mod (fun h=>HNA.out.2 (List.mem_cons_of_mem _ h));have BR:=PR.out.mod GD.mod (fun h=>HN.out.1 (List.mem_cons_of_mem _ h));obtain ⟨a0,a1⟩:=BA.cells2;obtain ⟨b0,b1⟩:=BB.cells2;obtain ⟨r0,r1⟩:=BR.cells2;obtain ⟨u0,u1,-⟩:=BR.frozs;have hA:=BA.lt;have hB:=BB.lt;have hrl:=BR.lt))
 all_goals
  have EX:=Lib.hid ex
  have H2:=Lib.hid hl2
  clear hl2
  have EN:=Lib.hid en
  have NN:Hid (gk+2∉bc::g::F2):=GD.out PR.out.lt (fun h=>HN.out.1 (List.mem_cons_of_mem _ h))
  have GW:=Lib.hid ((Grow.of_mod (F:=bc::g::F) M1.out).trans GD)
  have PR4:=Lib.hid BR
  clear ex en gd GD BR BA BB
  go_wp2_with fail
  have BW:=(PR4.out.set 0 (.int .u8 et)).set 1 (.int .u32 ea)
  simp only [List.setIfInBounds_toArray,List.set_cons_zero,List.set_cons_succ] at BW
  obtain ⟨z0,z1⟩:=BW.cells2
  have MW:Hid (Mod [gk+2] wd ((wd.setCell ⟨gk+2,0,none⟩ (.int .u8 et)).setCell ⟨gk+2,1,none⟩ (.int .u32 ea))):=by show Mod _ _ _;exact mods
  clear BW
  generalize (wd.setCell ⟨gk+2,0,none⟩ (.int .u8 et)).setCell ⟨gk+2,1,none⟩ (.int .u32 ea)=w5 at *
  refine bodyPost_ret (v:=.tuple #[.agg #[.int .u8 et,.int .u32 ea],.int .u8 0]) (by simp [results,Tryz.results35,go_sem,z0,z1];try rfl) rfl ?_
  exact ⟨et,ea,L2,F2,rfl,EN.out.mod MW.out (fun k hk q=>by simp at q;subst q;exact (List.mem_cons.1 hk).elim (fun e=>HN.out.1 (by simp [e])) NN.out),GW.out.write MW.out (fun k hk=>by simp at hk;subst hk;exact HN.out.2),EX.out,H2.out⟩
open Go.RowKit
theorem wideN_lt:∀o,o < 16→wideN o < 256:=by decide+kernel
theorem apply1R_c {w:World} {bm n room:Nat} {L:List Rc} {Fs p:List Nat} {bs bo bq:Nat} {F:List Nat} {ba bc g f o t1 a1 t2 a2:Nat} {ta tb:List Bool} {lm cc:Nat} (h1:1≤f) (h5:f≤5) (hn:n≤16) (hrm:room≤100000) (ho:o < 16)
 (hE:MgE w bm n room L Fs p [(f,⟨t1,a1⟩),(f,⟨t2,a2⟩)] bs bo bq F ba bc g) (hR:Rm n f lm room L (budA lm+cc)) (ea:EdT L f n n 0 ⟨t1,a1⟩ ta) (eb:EdT L f n n 0 ⟨t2,a2⟩ tb) {cm cf co ca cb:Nat}
 (k0:w.cell? ⟨cm,0,none⟩=some (.pointer (some ⟨bm,0,none⟩))) (k1:w.cell? ⟨cf,0,none⟩=some (.int .u8 f)) (k2:w.cell? ⟨co,0,none⟩=some (.int .i64 o)) (k3:w.cell? ⟨ca,0,none⟩=some (.int .i64 1)) (k4:w.cell? ⟨cb,0,none⟩=some (.int .i64 2))
 (hcm:cm∉bc::g::Fs) (hcf:cf∉bc::g::Fs) (hco:co∉bc::g::Fs) (hca:ca∉bc::g::Fs) (hcb:cb∉bc::g::Fs):
 Calls Tryz.prog 34 #[.pointer (some ⟨cm,0,none⟩),.pointer (some ⟨cf,0,none⟩),.pointer (some ⟨co,0,none⟩),.pointer (some ⟨ca,0,none⟩),.pointer (some ⟨cb,0,none⟩)] w (WkR w bm n room L Fs p [(f,⟨t1,a1⟩),(f,⟨t2,a2⟩)] bs bo bq F ba bc g f (zipO o ta tb) lm cc):=by
 have hbX:bm∉bc::g::Fs:=fun q=>hE.ap.1 (List.mem_cons_of_mem _ q)
 have HE:=Lib.hid hE
 have HFL:=Lib.hid hE.flt
 have HLT:=Lib.hid hE.lt
 obtain ⟨⟨q,g1⟩,-⟩:=hE.m.own
 have d0:=hE.c0
 have hbm:=g1.lt
 obtain ⟨-,d1,d2⟩:=g1.root (by simp) 0 (by simp)
 obtain ⟨-,d3,d4⟩:=g1.root (by simp) 1 (by simp)
 simp only [List.getElem_cons_zero,List.getElem_cons_succ] at d1 d2 d3 d4
 replace d1:w.cell? ⟨bm,266,none⟩=some (.int .u8 t1):=d1
 replace d2:w.cell? ⟨bm,267,none⟩=some (.int .u32 a1):=d2
 replace d3:w.cell? ⟨bm,269,none⟩=some (.int .u8 t2):=d3
 replace d4:w.cell? ⟨bm,270,none⟩=some (.int .u32 a2):=d4
 obtain ⟨X,hX⟩:∃X,bc::g::Fs=X:=⟨_,rfl⟩
 have AP:Hid (∀U,Mod [] w U→Calls Tryz.prog 35 #[.pointer (some ⟨ba,0,none⟩),.int .u8 f,.int .i64 o,.agg #[.int .u8 t1,.int .u32 a1],.agg #[.int .u8 t2,.int .u32 a2]] U fun e w'=>∃(t a:Nat) (L2:List Rc) (F':List Nat),e=.returned (.tuple #[.agg #[.int .u8 t,.int .u32 a],.int .u8 0])∧Mod X U w'∧(EngA w' bs n room (L++L2) F' ba bc g∧(∀k∈bc::g::F',k∈X∨U.heap.size≤k)∧EdT (L++L2) f n n 0 ⟨t,a⟩ (zipO o ta tb)∧Rm n f lm room (L++L2) cc)):=fun U m=>
  (applyTwo_c h1 h5 hn hrm ho (wideN_lt o ho) (hE.e.mod0 m) hR ea eb).mono (by
   rintro e w' ⟨t,a,L2,F',rfl,x1,x2,x3,x4⟩
   rw [hX] at x2
   exact ⟨t,a,L2,F',rfl,x2.mod,x1,x2.own,x3,x4⟩)
 rw [hX] at hbX hcm hcf hco hca hcb
 have l0:=World.block_lt_of_cell? w _ k0
 have l1:=World.block_lt_of_cell? w _ k1
 have l2:=World.block_lt_of_cell? w _ k2
 have l3:=World.block_lt_of_cell? w _ k3
 have l4:=World.block_lt_of_cell? w _ k4
 simp only at l0 l1 l2 l3 l4
 obtain ⟨gk,hgk⟩:∃g,w.heap.size=g:=⟨_,rfl⟩
 have HX:=Lib.hid hX
 clear hE g1 hR ea eb hX
 generalize zipO o ta tb=T at *
 have n0:¬bm=gk:=by omega
 have n1:¬gk=bm:=by omega
 have n2:¬cm=gk:=by omega
 have n3:¬gk=cm:=by omega
 have n4:¬cf=gk:=by omega
 have n5:¬gk=cf:=by omega
 have n6:¬co=gk:=by omega
 have n7:¬gk=co:=by omega
 have n8:¬ca=gk:=by omega
 have n9:¬gk=ca:=by omega
 have nA:¬cb=gk:=by omega
 have nB:¬gk=cb:=by omega
 go_enter Tryz.func34,Tryz.ntmps34
 go_wp2_with fail
 have B3:=Lib.hid (Blk.new' w #[.int .u8 0,.int .u32 0] 66 gk hgk.symm)
 have MQ:Hid (Mod [] w (w.alloc (.cells #[.int .u8 0,.int .u32 0] 66))):=(Mod.refl _ _).alloc _
 have hgX:gk∉X:=fun h=>by rw [←HX.out] at h;have:=HLT.out gk (List.mem_cons_of_mem _ (List.mem_cons_of_mem _ h));omega
 have CA:Hid (∀(b i:Nat) (v:Value),b < w.heap.size→w.cell? ⟨b,i,none⟩=some v→(w.alloc (.cells #[.int .u8 0,.int .u32 0] 66)).cell? ⟨b,i,none⟩=some v):=fun b i v hb hv=>(MQ.out.cell (a:=⟨b,i,none⟩) hb (by simp)).trans hv
 replace k0:=CA.out _ _ _ l0 k0
 replace k1:=CA.out _ _ _ l1 k1
 replace k2:=CA.out _ _ _ l2 k2
 replace k3:=CA.out _ _ _ l3 k3
 replace k4:=CA.out _ _ _ l4 k4
 replace d0:=CA.out _ _ _ hbm d0
 replace d1:=CA.out _ _ _ hbm d1
 replace d2:=CA.out _ _ _ hbm d2
 replace d3:=CA.out _ _ _ hbm d3
 replace d4:=CA.out _ _ _ hbm d4
 replace l0:=Nat.lt_of_lt_of_le l0 MQ.out.size
 replace l1:=Nat.lt_of_lt_of_le l1 MQ.out.size
 replace l2:=Nat.lt_of_lt_of_le l2 MQ.out.size
 replace l3:=Nat.lt_of_lt_of_le l3 MQ.out.size
 replace l4:=Nat.lt_of_lt_of_le l4 MQ.out.size
 replace hbm:=Nat.lt_of_lt_of_le hbm MQ.out.size
 have SZ:Hid ((w.alloc (.cells #[.int .u8 0,.int .u32 0] 66)).heap.size=gk+1):=by show _=_;simp [hgk]
 have HGK:=Lib.hid hgk
 clear hgk CA
 generalize w.alloc (.cells #[.int .u8 0,.int .u32 0] 66)=w0 at *
 go_region_held3 (fun w'=>w'.cell? ⟨cm,0,none⟩=some (.pointer (some ⟨bm,0,none⟩))∧w'.cell? ⟨cf,0,none⟩=some (.int .u8 f)∧w'.cell? ⟨co,0,none⟩=some (.int .i64 o)∧w'.cell? ⟨ca,0,none⟩=some (.int .i64 1)∧w'.cell? ⟨cb,0,none⟩=some (.int .i64 2)∧w'.cell? ⟨bm,0,none⟩=some (.pointer (some ⟨ba,0,none⟩))∧w'.cell? ⟨bm,266,none⟩=some (.int .u8 t1)∧w'.cell? ⟨bm,267,none⟩=some (.int .u32 a1)∧w'.cell? ⟨bm,269,none⟩=some (.int .u8 t2)∧w'.cell? ⟨bm,270,none⟩=some (.int .u32 a2)) (go_keep) (first | (go_at_call 35;refine (AP.out _ (MQ.out.trans' (show Mod [] w0 _ from by exact mods))).mono ?_;rintro e' w2 ⟨t,a,L2,F2,rfl,m_w2,x2⟩;have M_w2:=Mod.trans' (show Mod _ w0 _ from by exact mods) m_w2;have k0:=(M_w2.cell (a:=⟨cm,0,none⟩) l0 (by first | assumption | (simp;done))).trans k0;have k1:=(M_w2.cell (a:=⟨cf,0,none⟩) l1 (by first | assumption | (simp;done))).trans k1;have k2:=(M_w2.cell (a:=⟨co,0,none⟩) l2 (by first | assumption | (simp;done))).trans k2;have k3:=(M_w2.cell (a:=⟨ca,0,none⟩) l3 (by first | assumption | (simp;done))).trans k3;have k4:=(M_w2.cell (a:=⟨cb,0,none⟩) l4 (by first | assumption | (simp;done))).trans k4;have d0:=(M_w2.cell (a:=⟨bm,0,none⟩) hbm (by first | assumption | (simp;done))).trans d0;have d1:=(M_w2.cell (a:=⟨bm,266,none⟩) hbm (by first | assumption | (simp;done))).trans d1;have d2:=(M_w2.cell (a:=⟨bm,267,none⟩) hbm (by first | assumption | (simp;done))).trans d2;have d3:=(M_w2.cell (a:=⟨bm,269,none⟩) hbm (by first | assumption | (simp;done))).trans d3;have d4:=(M_w2.cell (a:=⟨bm,270,none⟩) hbm (by first | assumption | (simp;done))).trans d4;have l0:=Nat.lt_of_lt_of_le l0 M_w2.size;have l1:=Nat.lt_of_lt_of_le l1 M_w2.size;have l2:=Nat.lt_of_lt_of_le l2 M_w2.size;have l3:=Nat.lt_of_lt_of_le l3 M_w2.size;have l4:=Nat.lt_of_lt_of_le l4 M_w2.size;have hbm:=Nat.lt_of_lt_of_le hbm M_w2.size;have BRW:=B3.out.mod M_w2 hgX;obtain ⟨e0,e1⟩:=BRW.cells2;obtain ⟨y0,y1,-⟩:=BRW.frozs;replace BRW:=Lib.hid BRW))
 obtain ⟨s2,f2,ex2,rm2⟩:=x2
 have GG:Hid (Grow w w2 (bc::g::Fs) (bc::g::F2)):=by
  show Grow _ _ _ _
  rw [HX.out]
  exact ⟨(MQ.out.mono (by simp)).trans' M_w2,fun k hk=>(f2 k hk).imp id fun h=>by have h:w0.heap.size≤k:=h;have h1:=SZ.out;have h2:=HGK.out;omega⟩
 have NF':Hid (gk∉bc::g::F2):=fun h=>(f2 _ h).elim hgX (fun h=>by have h:w0.heap.size≤gk:=h;have h1:=SZ.out;omega)
 have MG:=Lib.hid (HE.out.did s2 GG.out)
 have EX:=Lib.hid ex2
 have RR:=Lib.hid rm2
 have BW:=((BRW.out.set 0 (.int .u8 t)).set 1 (.int .u32 a))
 simp only [List.setIfInBounds_toArray,List.set_cons_zero,List.set_cons_succ] at BW
 obtain ⟨z0,z1⟩:=BW.cells2
 have MW:Hid (Mod [gk] w2 ((w2.setCell ⟨gk,0,none⟩ (.int .u8 t)).setCell ⟨gk,1,none⟩ (.int .u32 a))):=((Mod.refl _ _).setCell _ _ (by simp)).setCell _ _ (by simp)
 clear s2 f2 ex2 rm2 m_w2 M_w2 e0 e1 y0 y1 BW AP
 generalize (w2.setCell ⟨gk,0,none⟩ (.int .u8 t)).setCell ⟨gk,1,none⟩ (.int .u32 a)=w4 at *
 go_wp2_with fail
 refine bodyPost_ret (v:=.tuple #[.agg #[.int .u8 t,.int .u32 a],.int .u8 0]) (by simp [results,Tryz.results34,go_sem,z0,z1];try rfl) rfl ?_
 have NA:gk∉bm::ba::bc::g::F2∧gk∉F:=⟨fun h=>by
  rcases List.mem_cons.1 h with e | h
  ·have:=HLT.out bm (by simp);have:=HGK.out;omega
  rcases List.mem_cons.1 h with e | h
  ·have:=HLT.out ba (by simp);have:=HGK.out;omega
  exact NF'.out h,fun h=>by have:=HFL.out _ h;have:=HGK.out;omega⟩
 exact ⟨t,a,L2,F2,rfl,MG.out.mods MW.out (by intro k hk;simp at hk;subst hk;exact NA),EX.out,RR.out,GG.out.write MW.out (by intro k hk;simp at hk;subst hk;exact Nat.le_of_eq HGK.out)⟩
theorem managerApply_c {w:World} {bm n room:Nat} {L:List Rc} {Fs p:List Nat} {bs bo bq:Nat} {F:List Nat} {ba bc g f o t1 a1 t2 a2:Nat} {ta tb:List Bool} {lm cc:Nat} (h1:1≤f) (h5:f≤5) (hn:n≤16) (hrm:room≤100000) (ho:o < 16)
 (hE:MgE w bm n room L Fs p [(f,⟨t1,a1⟩),(f,⟨t2,a2⟩)] bs bo bq F ba bc g) (hR:Rm n f lm room L (budA lm+cc)) (ea:EdT L f n n 0 ⟨t1,a1⟩ ta) (eb:EdT L f n n 0 ⟨t2,a2⟩ tb):
 Calls Tryz.prog 13 #[.pointer (some ⟨bm,0,none⟩),.int .i64 o,.int .i64 1,.int .i64 2] w (PtR w bm n room L Fs p [(f,⟨t1,a1⟩),(f,⟨t2,a2⟩)] bs bo bq F ba bc g f (zipO o ta tb) lm cc 3):=by
 have HE:=Lib.hid hE
 have HLT:=Lib.hid hE.lt
 obtain ⟨gx,hg⟩:∃g,w.heap.size=g:=⟨_,rfl⟩
 have HG:=Lib.hid hg
 have hNX:Hid (∀k,gx≤k→k∉bc::g::Fs):=fun k hk h=>by have:=HLT.out k (List.mem_cons_of_mem _ (List.mem_cons_of_mem _ h));omega
 have B0:=((((Blk.new' w #[.pointer (some ⟨bm,0,none⟩)] 31 gx hg.symm).alloc (.cells #[.int .i64 o] 3)).alloc (.cells #[.int .i64 1] 3)).alloc (.cells #[.int .i64 2] 3)).alloc (.cells #[.int .i64 1,.int .i64 2] 3)
 have B1:=(((Blk.new' (w.alloc (.cells #[.pointer (some ⟨bm,0,none⟩)] 31)) #[.int .i64 o] 3 (gx+1) (by simp [hg])).alloc (.cells #[.int .i64 1] 3)).alloc (.cells #[.int .i64 2] 3)).alloc (.cells #[.int .i64 1,.int .i64 2] 3)
 have B2:=((Blk.new' ((w.alloc (.cells #[.pointer (some ⟨bm,0,none⟩)] 31)).alloc (.cells #[.int .i64 o] 3)) #[.int .i64 1] 3 (gx+1+1) (by simp [hg])).alloc (.cells #[.int .i64 2] 3)).alloc (.cells #[.int .i64 1,.int .i64 2] 3)
 have B3:=(Blk.new' (((w.alloc (.cells #[.pointer (some ⟨bm,0,none⟩)] 31)).alloc (.cells #[.int .i64 o] 3)).alloc (.cells #[.int .i64 1] 3)) #[.int .i64 2] 3 (gx+1+1+1) (by simp [hg])).alloc (.cells #[.int .i64 1,.int .i64 2] 3)
 have B4:=Blk.new' ((((w.alloc (.cells #[.pointer (some ⟨bm,0,none⟩)] 31)).alloc (.cells #[.int .i64 o] 3)).alloc (.cells #[.int .i64 1] 3)).alloc (.cells #[.int .i64 2] 3)) #[.int .i64 1,.int .i64 2] 3 (gx+1+1+1+1) (by simp [hg])
 have MA:Hid (Mod [] w (((((w.alloc (.cells #[.pointer (some ⟨bm,0,none⟩)] 31)).alloc (.cells #[.int .i64 o] 3)).alloc (.cells #[.int .i64 1] 3)).alloc (.cells #[.int .i64 2] 3)).alloc (.cells #[.int .i64 1,.int .i64 2] 3))):=(((((Mod.refl _ _).alloc _).alloc _).alloc _).alloc _).alloc _
 clear hE
 have hS4:=HG.out
 clear hS4
 go_enter Tryz.func13,Tryz.ntmps13
 go_wp2_with fail
 have hsz:(((((w.alloc (.cells #[.pointer (some ⟨bm,0,none⟩)] 31)).alloc (.cells #[.int .i64 o] 3)).alloc (.cells #[.int .i64 1] 3)).alloc (.cells #[.int .i64 2] 3)).alloc (.cells #[.int .i64 1,.int .i64 2] 3)).heap.size=gx+1+1+1+1+1:=by simp [hg]
 generalize ((((w.alloc (.cells #[.pointer (some ⟨bm,0,none⟩)] 31)).alloc (.cells #[.int .i64 o] 3)).alloc (.cells #[.int .i64 1] 3)).alloc (.cells #[.int .i64 2] 3)).alloc (.cells #[.int .i64 1,.int .i64 2] 3)=wA at *
 have ME:=Lib.hid (HE.out.mod0 MA.out)
 have RM:Hid (∀U,U=wA→Calls Tryz.prog 32 #[.pointer (some ⟨bm,0,none⟩),.slice (some ⟨gx+1+1+1+1,0,none⟩) 2 2] U fun e w'=>e=.returned (.tuple #[.int .u8 f,.int .u8 0])∧w'=wA):=fun U e=>by
  subst e
  obtain ⟨⟨q,hq⟩,-⟩:=ME.out.m.own
  obtain ⟨c0,c1⟩:=B4.cells2
  exact room2_c (a:=0) (a2:=1) (e:=⟨t1,a1⟩) (e2:=⟨t2,a2⟩) hq (by simp) (by simpa using c0) (by simpa using c1) (by simp) (by simp)
 have P0:=Lib.hid B0
 have P1:=Lib.hid B1
 have P2:=Lib.hid B2
 have P3:=Lib.hid B3
 have k0:=B0.cell 0
 simp only [List.getElem?_toArray,List.getElem?_cons_zero] at k0
 have l0:=B0.lt
 clear B0 B1 B2 B3 B4 hg
 refine (RM.out _ rfl).mono ?_
 rintro e w1 ⟨rfl,hw⟩
 subst hw
 clear RM
 have nf:¬gx=gx+1+1+1+1+1:=by omega
 have nf2:¬gx+1+1+1+1+1=gx:=by omega
 go_wp2_with fail
 have MF:Hid (Mod [] w1 (w1.alloc (.cells #[.int .u8 f] 25))):=(Mod.refl _ _).alloc _
 have P5:=Lib.hid (Blk.new' w1 #[.int .u8 f] 25 (gx+1+1+1+1+1) hsz.symm)
 clear k0 l0
 generalize w1.alloc (.cells #[.int .u8 f] 25)=w2 at *
 have ME2:=Lib.hid (ME.out.mod0 MF.out)
 have Q0:=Lib.hid (P0.out.mod MF.out (by simp))
 have Q1:=Lib.hid (P1.out.mod MF.out (by simp))
 have Q2:=Lib.hid (P2.out.mod MF.out (by simp))
 have Q3:=Lib.hid (P3.out.mod MF.out (by simp))
 have WK:Hid (∀U,Mod [] w2 U→Calls Tryz.prog 34 #[.pointer (some ⟨gx,0,none⟩),.pointer (some ⟨gx+1+1+1+1+1,0,none⟩),.pointer (some ⟨gx+1,0,none⟩),.pointer (some ⟨gx+1+1,0,none⟩),.pointer (some ⟨gx+1+1+1,0,none⟩)] U (WkR U bm n room L Fs p [(f,⟨t1,a1⟩),(f,⟨t2,a2⟩)] bs bo bq F ba bc g f (zipO o ta tb) lm cc)):=fun U m=>
  apply1R_c h1 h5 hn hrm ho (ME2.out.mod0 m) hR ea eb (by have:=(Q0.out.mod m (by simp)).cell 0;simpa using this) (by have:=(P5.out.mod m (by simp)).cell 0;simpa using this) (by have:=(Q1.out.mod m (by simp)).cell 0;simpa using this) (by have:=(Q2.out.mod m (by simp)).cell 0;simpa using this) (by have:=(Q3.out.mod m (by simp)).cell 0;simpa using this)
   (hNX.out _ (by omega)) (hNX.out _ (by omega)) (hNX.out _ (by omega)) (hNX.out _ (by omega)) (hNX.out _ (by omega))
 have PT:=putAp_c _ ME2.out (by simp) (by omega) WK.out
 have e3:((([(f,(⟨t1,a1⟩:Ed)),(f,⟨t2,a2⟩)].length+1:Nat)):Int)=3:=rfl
 rw [e3] at PT
 replace PT:=Lib.hid PT
 clear WK Q0 Q1 Q2 Q3 P0 P1 P2 P3 P5
 refine PT.out.mono ?_
 rintro e w3 ⟨rfl,ed,L2,F',mg,ex,rr,gr⟩
 have PP:Hid (∃(ed:Ed) (L2:List Rc) (F':List Nat),MgE w3 bm n room (L++L2) F' p ([(f,⟨t1,a1⟩),(f,⟨t2,a2⟩)]++[(f,ed)]) bs bo bq F ba bc g∧EdT (L++L2) f n n 0 ed (zipO o ta tb)∧Rm n f lm room (L++L2) cc∧Grow w w3 (bm::bc::g::Fs) (bm::bc::g::F')):=⟨ed,L2,F',mg,ex,rr,(Grow.of_mod (MA.out.trans' MF.out)).trans gr⟩
 clear mg ex rr gr PT
 go_wp2_with fail
 go_ret2
 exact ⟨rfl,PP.out⟩
end Go.Proofs.YtlafpknoiihaaaaGreatDoor
