import Derived.Test.YtbnpoapmnkfhkaaGreatDoorZt04
import Derived.Deep.RegionLaw
set_option maxRecDepth 100000
set_option maxHeartbeats 4000000
set_option linter.unusedVariables false
set_option linter.unusedSimpArgs false
namespace Go.Proofs.YtbnpoapmnkfhkaaGreatDoor
open Go.Lib renaming hid → y
open Go.World renaming block_lt_of_cell? → v
open List renaming length_map → u, getD_eq_getElem?_getD → s, getElem?_eq_getElem → r, range → j, getElem_map → g
open Go.RowKit
def opR (o:Nat) (p q:Bool):Bool:=((zj8 o (2 *p.toNat+q.toNat):Nat):Int)==1
def ym6 (o:Nat) (la lb:List Bool):List Bool:=(j la.length).map fun x=>opR o (la.getD x false) (lb.getD x false)
theorem yp4 {w:World} {va vb:Value} {la lb:List Bool} {Fa Fb:List Nat} (ha:Rv w va (la.map eb) Fa) (hb:Rv w vb (lb.map eb) Fb) (hl:la.length≤65536) (hlb:lb.length=la.length) (o:Nat) (ho:o≤16):
 Calls Tryz.prog 38 #[.int .i64 o,va,vb] w fun e w'=>∃v',e=.returned v'∧NewV 4 w ((ym6 o la lb).map eb) w' v':=by
 obtain ⟨i0,hi,hz0,hz1,hz2⟩:=info_parts Tryz.infoB;obtain ⟨A,ca,rfl,hca⟩:=ha.shape;obtain ⟨B,cb,rfl,hcb⟩:=hb.shape;have HA:=y ha;have HB:=y hb;simp only [u] at HA HB hca hcb ⊢;rw [hlb] at HB hcb ⊢;obtain ⟨N,hN⟩:∃N,la.length=N:=⟨_,rfl⟩;unfold ym6;have HNb:Hid (lb.length=N):=by show _=_;rw [hlb,hN]
 rw [hN] at HA HB hca hcb hl ⊢;have HN:=y hN;clear ha hb hN hlb;have TR:=y zP8;have VA:Hid (∀(x:Nat) (W:World),x≤3→_):=fun x W hx=>zr6 o x (zc) (zc) W
 obtain ⟨f,hf⟩:∃f:Nat→Bool,f=fun x=>opR o (la.getD x false) (lb.getD x false):=⟨_,rfl⟩
 have HF:Hid (∀x,f x=opR o (la.getD x false) (lb.getD x false)):=fun x=>by rw [hf]
 rw [←hf];clear hf;have hN':(N:Int)≤65536:=zc;go_in;go_wp2_with fail
 go_loopw [7,8] (fun o i wr=>∃k:Nat,k≤N∧i=.int .i64 k∧Hid (NewV 4 w (((j k).map f).map eb) wr o)) (fun _ i _=>N - (intOf i).toNat)
 case atStart=>exact ⟨0,zc,rfl,NewV.nil _ (zg)⟩
 case round=>
  obtain ⟨k,hk,rfl,HV⟩:=hrel;by_cases hlt:k < N
  ·have hlt':(k:Int) < N:=zc;obtain ⟨Fo,so,mo,fo⟩:=HV.out;obtain ⟨Ao,capo,rfl,hcapo⟩:=so.shape;have e0:(((j k).map f).map eb).length=k:=ze;rw [e0] at so hcapo HV ⊢;have SO:=y so;have MO:=y mo;have FO:=y fo;have LO:=y e0;clear so mo fo hcapo e0;have k1:k < la.length:=zQ;have k2:k < lb.length:=by rw [HNb.out];exact hlt
   obtain ⟨b1,o1,rfl,d0⟩:=HA.out.at k (by rw [u];exact k1);have hb1:=v w _ d0;simp only at hb1;have d1:=(MO.out.cell (a:=⟨b1,o1+k,none⟩) hb1 (ze)).trans d0;clear d0;rw [g] at d1;obtain ⟨b2,o2,rfl,d0⟩:=HB.out.at k (by rw [u];exact k2);have hb2:=v w _ d0;simp only at hb2;have d2:=(MO.out.cell (a:=⟨b2,o2+k,none⟩) hb2 (ze)).trans d0;clear d0;rw [g] at d2;have FK:Hid (f k=opR o la[k] lb[k]):=by show _=_;rw [HF.out,s,r k1,s,r k2];rfl
   unfold eb at d1 d2;generalize la[k]=p at *;generalize lb[k]=q at *;have hp:p.toNat≤1:=by cases p<;>decide
   have hq:q.toNat≤1:=by cases q<;>decide
   have T1:=y (TR.out p);have T2:=y (TR.out q)
   have VX:Hid (∀W,Calls Tryz.prog 41 #[.int .i64 o,.int .i64 (IntKind.i64.wrap (IntKind.i64.wrap (2 *(p.toNat:Int))+(q.toNat:Int)))] W fun e w'=>e=.returned (.int .i64 (zj8 o (2 *p.toNat+q.toNat):Nat))∧w'=W):=fun W=>by
    have EW:IntKind.i64.wrap (IntKind.i64.wrap (2 *(p.toNat:Int))+(q.toNat:Int))=((2 *p.toNat+q.toNat:Nat):Int):=by cases p<;>cases q<;>rfl
    rw [EW];exact VA.out (2 *p.toNat+q.toNat) W (zc)
   unfold opR at FK;generalize zj8 o (2 *p.toNat+q.toNat)=z at *;generalize p.toNat=pn at *;generalize q.toNat=qn at *;have hp':(pn:Int)≤1:=zc;have hq':(qn:Int)≤1:=zc;have hbl:=v wr _ d1;have hbm:=v wr _ d2;simp only at hbl hbm;go_wp2_with fail
   go_region_law (first | (go_simp;go_at_call 77;first | (refine (T1.out _).mono ?_;rintro e' w2 ⟨rfl,rfl⟩) | (refine (T2.out _).mono ?_;rintro e' w2 ⟨rfl,rfl⟩)) | (go_simp;go_at_call 41;refine (VX.out _).mono ?_;rintro e' w2 ⟨rfl,rfl⟩) | (refine XT rfl _ _ 47 rfl 4 i0 (.bool false) 1 1 Tryz.underlying47 hi hz0 hz1 hz2 rfl (zi) _ k (((j k).map f).map eb) Fo rfl (SO.out.mod (S:=[]) (zg) (ze)) ⟨_,0,none⟩ 1 1 [.bool ((z:Int)==1)] (zi) rfl rfl (ji) (yi) (zx) (zc) ?_;intro v5 w5 F5 hs5 hm5 hf5;have N5:=y (NewV.app (l:=((j k).map f).map eb) (l2:=[.bool ((z:Int)==1)]) MO.out FO.out LO.out rfl (zg) hs5 hm5 hf5);obtain ⟨a5,cap5,rfl,_⟩:=hs5.shape;clear hs5 hm5 hf5))
   all_goals try go_wp2_with fail
   all_goals
    go_roundw
    case rel=>exact ⟨k+1,zc,by go_num,jQ⟩
    case measure=>simp [intOf];omega
  ·obtain rfl:k=N:=zc;go_wp2_with fail;go_ret;exact ⟨_,rfl,HV.out⟩
open Go.RowKit
theorem zD8 {w:World} {va:Value} {t:List Bool} {n:Nat} {F:List Nat} (ht:Rv w va (t.map eb) F) (htl:t.length=2 ^ n) (hn:n≤16):
 Calls Tryz.prog 76 #[va] w fun e w'=>e=.returned (.int .i64 n)∧w'=w:=by
 obtain ⟨A,cap,rfl,hc⟩:=ht.shape;simp only [u] at hc ⊢;rw [htl] at hc ⊢;clear ht htl;have h16:2 ^ n≤65536:=xo;have SZ:=y (fun k (h:k≤n)=>zx6 k (zc));have LT:=y (fun k (h:k < n)=>Nat.pow_lt_pow_right (a:=2) (zc) h);obtain ⟨N,hN⟩:∃N,2 ^ n=N:=⟨_,rfl⟩;rw [hN] at hc h16 LT ⊢;have HN:=y hN;clear hN;have hn':(n:Int)≤16:=zc;have hN':(N:Int)≤65536:=zc;go_in;go_wp2_with fail
 go_loopw [3] (fun i wr=>∃k:Nat,i=.int .i64 k∧k≤n∧wr=w) (fun i _=>n - (intOf i).toNat)
 case atStart=>exact ⟨0,rfl,zc,rfl⟩
 case round=>
  obtain ⟨k,rfl,hk,hw⟩:=hrel;subst hw;have hk':(k:Int)≤n:=zc;have SK:=y (SZ.out k hk);by_cases hlt:k < n
  ·have h2:=LT.out k hlt;generalize (2:Nat) ^ k=m at *;have h2':(m:Int) < N:=zc;go_wp2_with fail;refine (SK.out _).mono ?_;rintro e w' ⟨rfl,rfl⟩;go_wp2_with fail;go_roundw
   case rel=>exact ⟨k+1,by go_num,zc,zp⟩
   case measure=>simp [intOf];omega
  ·obtain rfl:k=n:=zc;have e:=HN.out;rw [e] at SK;clear e;go_wp2_with fail;refine (SK.out _).mono ?_;rintro e w' ⟨rfl,rfl⟩;go_wp2_with fail;go_ret;exact ⟨rfl,rfl⟩
end Go.Proofs.YtbnpoapmnkfhkaaGreatDoor
