import Derived.Test.YtbnpoapmnkfhkaaGreatDoorZt04
import Derived.Lib.ConvBytes
set_option maxRecDepth 100000
set_option linter.unusedVariables false
set_option linter.unusedSimpArgs false
namespace Go.Proofs.YtbnpoapmnkfhkaaGreatDoor
open Go.Value renaming int → z, string → u, tuple → T, slice → O, agg → N
open Go.IntKind renaming i64 → y, u8 → n
open Go.Proofs.Tryz renaming prog → x, results99 → Y
open Option renaming none → r, some → R
open List renaming setIfInBounds_toArray → q, set_cons_zero → j, set_cons_succ → f
open Go.Lib renaming hid → o, bytesWorld_size → J
open Go.Ending renaming returned → Z
open Go renaming bodyPost_ret → X, Calls → W, World → V, results → Q
open Go.Proofs.YtbnpoapmnkfhkaaGreatDoor.Blk renaming new' → U
open Go.Proofs.YtbnpoapmnkfhkaaGreatDoor renaming Mod → S, zj → M, zi → L, zg → I
open Go.Obj renaming cells → P
open Go.RowKit renaming Hid → K
open Go.RowKit
theorem yi0 (c:Nat) (w:V):W x 98 #[z n c] w fun e w'=>e=Z (.bool (zm7 c))∧w'=w:=by
 go_in;go_wp2
 all_goals
  go_ret;refine ⟨congrArg (fun b=>Ending.returned (.bool b)) ?_,rfl⟩;rw [Bool.eq_iff_iff];simp [zm7]
  try omega
theorem zc9 (s:ByteArray) (w:V) (g:Nat) (hg:g=w.heap.size):∃(c:Nat) (w':V),(convert 9 123 (u s)).run x w=.ok (O (R ⟨g,0,r⟩) s.size c) w'∧S [] w w'∧s.size≤c∧
 (∀k,(h:k < s.size)→w'.cell? ⟨g,k,r⟩=R (z n s[k].toNat))∧g < w'.heap.size:=by
 subst hg;refine ⟨_,_,Lib.run_convert_string_bytes w 9 123 5 s Tryz.underlying9 Tryz.underlying123 Tryz.underlying5,?_,?_,fun k h=>?_,?_⟩
 ·refine ⟨?_,?_,?_,by rw [J];omega,fun k hk _=>Lib.bytesWorld_at_old w 5 s k hk⟩
  all_goals simp [Lib.bytesWorld,World.freeze,World.alloc,World.drew,-World.alloc_eq,-World.drew_eq]
 ·exact grownCap_ge w s.size 0 5
 ·rw [Lib.bytesWorld_cell w 5 s k h,List.getD_eq_getElem?_getD,List.getElem?_eq_getElem (xQ)];rfl
 ·rw [J];omega
theorem kA {p:Prop} (h:p:=by
 have IN:=o IN;go_in;go_wp2_with fail;refine IN.out.mono ?_;rintro e w1 ⟨rfl,m1⟩;have M1:=o m1;clear m1;go_wp2_with fail;go_ret2
 exact ⟨rfl,M1.out⟩):p:=h
theorem yB4 (w:V):W x 136 #[u ⟨#[48]⟩] w fun e w'=>e=Z (T #[z y 0,.nilIface])∧S [] w w':=by
 have IN:W x 161 #[u ⟨#[48]⟩] w fun e w'=>e=Z (T #[z y 0,.nilIface])∧S [] w w':=by
  obtain ⟨cp,w1,cv,m1,hc,cc,hg⟩:=zc9 ⟨#[48]⟩ w w.heap.size rfl;have M1:=o m1;have c0:w1.cell? ⟨w.heap.size,0,r⟩=R (z n 48):=cc 0 (L);have hs:(⟨#[48]⟩:ByteArray).size=1:=rfl;rw [hs] at hc;clear cc hs;have cv':(convert 9 123 (u ⟨#[48]⟩)).run x w=.ok (O (R ⟨w.heap.size,0,r⟩) 1 cp) w1:=cv;clear cv m1;generalize w.heap.size=gk at *;go_in;go_wp2_with fail
  go_loopw [6,8,49] (fun p _ i wr=>∃k m:Nat,p=z y m∧i=z y k∧((k=0∧m=0)∨(k=1∧m=0))∧wr=w1) (fun _ _ i _=>1 - (intOf i).toNat)
  case atStart=>exact ⟨0,0,rfl,rfl,.inl ⟨rfl,rfl⟩,rfl⟩
  case round=>
   obtain ⟨k,m,rfl,rfl,hr,hw⟩:=hrel;subst hw;rcases hr with ⟨rfl,rfl⟩ | ⟨rfl,rfl⟩
   ·go_wp2_with fail;exact ⟨⟨1,0,rfl,rfl,.inr ⟨rfl,rfl⟩,zp⟩,zr⟩
   ·go_wp2_with fail;go_ret2;exact ⟨rfl,M1.out⟩
 exact kA
theorem yB5 (w:V):W x 136 #[u ⟨#[49]⟩] w fun e w'=>e=Z (T #[z y 1,.nilIface])∧S [] w w':=by
 have IN:W x 161 #[u ⟨#[49]⟩] w fun e w'=>e=Z (T #[z y 1,.nilIface])∧S [] w w':=by
  obtain ⟨cp,w1,cv,m1,hc,cc,hg⟩:=zc9 ⟨#[49]⟩ w w.heap.size rfl;have M1:=o m1;have c0:w1.cell? ⟨w.heap.size,0,r⟩=R (z n 49):=cc 0 (L);have hs:(⟨#[49]⟩:ByteArray).size=1:=rfl;rw [hs] at hc;clear cc hs;have cv':(convert 9 123 (u ⟨#[49]⟩)).run x w=.ok (O (R ⟨w.heap.size,0,r⟩) 1 cp) w1:=cv;clear cv m1;generalize w.heap.size=gk at *;go_in;go_wp2_with fail
  go_loopw [6,8,49] (fun p _ i wr=>∃k m:Nat,p=z y m∧i=z y k∧((k=0∧m=0)∨(k=1∧m=1))∧wr=w1) (fun _ _ i _=>1 - (intOf i).toNat)
  case atStart=>exact ⟨0,0,rfl,rfl,.inl ⟨rfl,rfl⟩,rfl⟩
  case round=>
   obtain ⟨k,m,rfl,rfl,hr,hw⟩:=hrel;subst hw;rcases hr with ⟨rfl,rfl⟩ | ⟨rfl,rfl⟩
   ·go_wp2_with fail;exact ⟨⟨1,1,rfl,rfl,.inr ⟨rfl,rfl⟩,zp⟩,zr⟩
   ·go_wp2_with fail;go_ret2;exact ⟨rfl,M1.out⟩
 exact kA
theorem yp8 (w:V):W x 136 #[u ⟨#[50]⟩] w fun e w'=>e=Z (T #[z y 2,.nilIface])∧S [] w w':=by
 have IN:W x 161 #[u ⟨#[50]⟩] w fun e w'=>e=Z (T #[z y 2,.nilIface])∧S [] w w':=by
  obtain ⟨cp,w1,cv,m1,hc,cc,hg⟩:=zc9 ⟨#[50]⟩ w w.heap.size rfl;have M1:=o m1;have c0:w1.cell? ⟨w.heap.size,0,r⟩=R (z n 50):=cc 0 (L);have hs:(⟨#[50]⟩:ByteArray).size=1:=rfl;rw [hs] at hc;clear cc hs;have cv':(convert 9 123 (u ⟨#[50]⟩)).run x w=.ok (O (R ⟨w.heap.size,0,r⟩) 1 cp) w1:=cv;clear cv m1;generalize w.heap.size=gk at *;go_in;go_wp2_with fail
  go_loopw [6,8,49] (fun p _ i wr=>∃k m:Nat,p=z y m∧i=z y k∧((k=0∧m=0)∨(k=1∧m=2))∧wr=w1) (fun _ _ i _=>1 - (intOf i).toNat)
  case atStart=>exact ⟨0,0,rfl,rfl,.inl ⟨rfl,rfl⟩,rfl⟩
  case round=>
   obtain ⟨k,m,rfl,rfl,hr,hw⟩:=hrel;subst hw;rcases hr with ⟨rfl,rfl⟩ | ⟨rfl,rfl⟩
   ·go_wp2_with fail;exact ⟨⟨1,2,rfl,rfl,.inr ⟨rfl,rfl⟩,zp⟩,zr⟩
   ·go_wp2_with fail;go_ret2;exact ⟨rfl,M1.out⟩
 exact kA
theorem yq8 (w:V):W x 136 #[u ⟨#[51]⟩] w fun e w'=>e=Z (T #[z y 3,.nilIface])∧S [] w w':=by
 have IN:W x 161 #[u ⟨#[51]⟩] w fun e w'=>e=Z (T #[z y 3,.nilIface])∧S [] w w':=by
  obtain ⟨cp,w1,cv,m1,hc,cc,hg⟩:=zc9 ⟨#[51]⟩ w w.heap.size rfl;have M1:=o m1;have c0:w1.cell? ⟨w.heap.size,0,r⟩=R (z n 51):=cc 0 (L);have hs:(⟨#[51]⟩:ByteArray).size=1:=rfl;rw [hs] at hc;clear cc hs;have cv':(convert 9 123 (u ⟨#[51]⟩)).run x w=.ok (O (R ⟨w.heap.size,0,r⟩) 1 cp) w1:=cv;clear cv m1;generalize w.heap.size=gk at *;go_in;go_wp2_with fail
  go_loopw [6,8,49] (fun p _ i wr=>∃k m:Nat,p=z y m∧i=z y k∧((k=0∧m=0)∨(k=1∧m=3))∧wr=w1) (fun _ _ i _=>1 - (intOf i).toNat)
  case atStart=>exact ⟨0,0,rfl,rfl,.inl ⟨rfl,rfl⟩,rfl⟩
  case round=>
   obtain ⟨k,m,rfl,rfl,hr,hw⟩:=hrel;subst hw;rcases hr with ⟨rfl,rfl⟩ | ⟨rfl,rfl⟩
   ·go_wp2_with fail;exact ⟨⟨1,3,rfl,rfl,.inr ⟨rfl,rfl⟩,zp⟩,zr⟩
   ·go_wp2_with fail;go_ret2;exact ⟨rfl,M1.out⟩
 exact kA
theorem yB6 (w:V):W x 136 #[u ⟨#[52]⟩] w fun e w'=>e=Z (T #[z y 4,.nilIface])∧S [] w w':=by
 have IN:W x 161 #[u ⟨#[52]⟩] w fun e w'=>e=Z (T #[z y 4,.nilIface])∧S [] w w':=by
  obtain ⟨cp,w1,cv,m1,hc,cc,hg⟩:=zc9 ⟨#[52]⟩ w w.heap.size rfl;have M1:=o m1;have c0:w1.cell? ⟨w.heap.size,0,r⟩=R (z n 52):=cc 0 (L);have hs:(⟨#[52]⟩:ByteArray).size=1:=rfl;rw [hs] at hc;clear cc hs;have cv':(convert 9 123 (u ⟨#[52]⟩)).run x w=.ok (O (R ⟨w.heap.size,0,r⟩) 1 cp) w1:=cv;clear cv m1;generalize w.heap.size=gk at *;go_in;go_wp2_with fail
  go_loopw [6,8,49] (fun p _ i wr=>∃k m:Nat,p=z y m∧i=z y k∧((k=0∧m=0)∨(k=1∧m=4))∧wr=w1) (fun _ _ i _=>1 - (intOf i).toNat)
  case atStart=>exact ⟨0,0,rfl,rfl,.inl ⟨rfl,rfl⟩,rfl⟩
  case round=>
   obtain ⟨k,m,rfl,rfl,hr,hw⟩:=hrel;subst hw;rcases hr with ⟨rfl,rfl⟩ | ⟨rfl,rfl⟩
   ·go_wp2_with fail;exact ⟨⟨1,4,rfl,rfl,.inr ⟨rfl,rfl⟩,zp⟩,zr⟩
   ·go_wp2_with fail;go_ret2;exact ⟨rfl,M1.out⟩
 exact kA
theorem yq1 (w:V):W x 136 #[u ⟨#[53]⟩] w fun e w'=>e=Z (T #[z y 5,.nilIface])∧S [] w w':=by
 have IN:W x 161 #[u ⟨#[53]⟩] w fun e w'=>e=Z (T #[z y 5,.nilIface])∧S [] w w':=by
  obtain ⟨cp,w1,cv,m1,hc,cc,hg⟩:=zc9 ⟨#[53]⟩ w w.heap.size rfl;have M1:=o m1;have c0:w1.cell? ⟨w.heap.size,0,r⟩=R (z n 53):=cc 0 (L);have hs:(⟨#[53]⟩:ByteArray).size=1:=rfl;rw [hs] at hc;clear cc hs;have cv':(convert 9 123 (u ⟨#[53]⟩)).run x w=.ok (O (R ⟨w.heap.size,0,r⟩) 1 cp) w1:=cv;clear cv m1;generalize w.heap.size=gk at *;go_in;go_wp2_with fail
  go_loopw [6,8,49] (fun p _ i wr=>∃k m:Nat,p=z y m∧i=z y k∧((k=0∧m=0)∨(k=1∧m=5))∧wr=w1) (fun _ _ i _=>1 - (intOf i).toNat)
  case atStart=>exact ⟨0,0,rfl,rfl,.inl ⟨rfl,rfl⟩,rfl⟩
  case round=>
   obtain ⟨k,m,rfl,rfl,hr,hw⟩:=hrel;subst hw;rcases hr with ⟨rfl,rfl⟩ | ⟨rfl,rfl⟩
   ·go_wp2_with fail;exact ⟨⟨1,5,rfl,rfl,.inr ⟨rfl,rfl⟩,zp⟩,zr⟩
   ·go_wp2_with fail;go_ret2;exact ⟨rfl,M1.out⟩
 exact kA
theorem ys2 (w:V):W x 136 #[u ⟨#[54]⟩] w fun e w'=>e=Z (T #[z y 6,.nilIface])∧S [] w w':=by
 have IN:W x 161 #[u ⟨#[54]⟩] w fun e w'=>e=Z (T #[z y 6,.nilIface])∧S [] w w':=by
  obtain ⟨cp,w1,cv,m1,hc,cc,hg⟩:=zc9 ⟨#[54]⟩ w w.heap.size rfl;have M1:=o m1;have c0:w1.cell? ⟨w.heap.size,0,r⟩=R (z n 54):=cc 0 (L);have hs:(⟨#[54]⟩:ByteArray).size=1:=rfl;rw [hs] at hc;clear cc hs;have cv':(convert 9 123 (u ⟨#[54]⟩)).run x w=.ok (O (R ⟨w.heap.size,0,r⟩) 1 cp) w1:=cv;clear cv m1;generalize w.heap.size=gk at *;go_in;go_wp2_with fail
  go_loopw [6,8,49] (fun p _ i wr=>∃k m:Nat,p=z y m∧i=z y k∧((k=0∧m=0)∨(k=1∧m=6))∧wr=w1) (fun _ _ i _=>1 - (intOf i).toNat)
  case atStart=>exact ⟨0,0,rfl,rfl,.inl ⟨rfl,rfl⟩,rfl⟩
  case round=>
   obtain ⟨k,m,rfl,rfl,hr,hw⟩:=hrel;subst hw;rcases hr with ⟨rfl,rfl⟩ | ⟨rfl,rfl⟩
   ·go_wp2_with fail;exact ⟨⟨1,6,rfl,rfl,.inr ⟨rfl,rfl⟩,zp⟩,zr⟩
   ·go_wp2_with fail;go_ret2;exact ⟨rfl,M1.out⟩
 exact kA
theorem yv1 (w:V):W x 136 #[u ⟨#[55]⟩] w fun e w'=>e=Z (T #[z y 7,.nilIface])∧S [] w w':=by
 have IN:W x 161 #[u ⟨#[55]⟩] w fun e w'=>e=Z (T #[z y 7,.nilIface])∧S [] w w':=by
  obtain ⟨cp,w1,cv,m1,hc,cc,hg⟩:=zc9 ⟨#[55]⟩ w w.heap.size rfl;have M1:=o m1;have c0:w1.cell? ⟨w.heap.size,0,r⟩=R (z n 55):=cc 0 (L);have hs:(⟨#[55]⟩:ByteArray).size=1:=rfl;rw [hs] at hc;clear cc hs;have cv':(convert 9 123 (u ⟨#[55]⟩)).run x w=.ok (O (R ⟨w.heap.size,0,r⟩) 1 cp) w1:=cv;clear cv m1;generalize w.heap.size=gk at *;go_in;go_wp2_with fail
  go_loopw [6,8,49] (fun p _ i wr=>∃k m:Nat,p=z y m∧i=z y k∧((k=0∧m=0)∨(k=1∧m=7))∧wr=w1) (fun _ _ i _=>1 - (intOf i).toNat)
  case atStart=>exact ⟨0,0,rfl,rfl,.inl ⟨rfl,rfl⟩,rfl⟩
  case round=>
   obtain ⟨k,m,rfl,rfl,hr,hw⟩:=hrel;subst hw;rcases hr with ⟨rfl,rfl⟩ | ⟨rfl,rfl⟩
   ·go_wp2_with fail;exact ⟨⟨1,7,rfl,rfl,.inr ⟨rfl,rfl⟩,zp⟩,zr⟩
   ·go_wp2_with fail;go_ret2;exact ⟨rfl,M1.out⟩
 exact kA
theorem yr1 (w:V):W x 136 #[u ⟨#[56]⟩] w fun e w'=>e=Z (T #[z y 8,.nilIface])∧S [] w w':=by
 have IN:W x 161 #[u ⟨#[56]⟩] w fun e w'=>e=Z (T #[z y 8,.nilIface])∧S [] w w':=by
  obtain ⟨cp,w1,cv,m1,hc,cc,hg⟩:=zc9 ⟨#[56]⟩ w w.heap.size rfl;have M1:=o m1;have c0:w1.cell? ⟨w.heap.size,0,r⟩=R (z n 56):=cc 0 (L);have hs:(⟨#[56]⟩:ByteArray).size=1:=rfl;rw [hs] at hc;clear cc hs;have cv':(convert 9 123 (u ⟨#[56]⟩)).run x w=.ok (O (R ⟨w.heap.size,0,r⟩) 1 cp) w1:=cv;clear cv m1;generalize w.heap.size=gk at *;go_in;go_wp2_with fail
  go_loopw [6,8,49] (fun p _ i wr=>∃k m:Nat,p=z y m∧i=z y k∧((k=0∧m=0)∨(k=1∧m=8))∧wr=w1) (fun _ _ i _=>1 - (intOf i).toNat)
  case atStart=>exact ⟨0,0,rfl,rfl,.inl ⟨rfl,rfl⟩,rfl⟩
  case round=>
   obtain ⟨k,m,rfl,rfl,hr,hw⟩:=hrel;subst hw;rcases hr with ⟨rfl,rfl⟩ | ⟨rfl,rfl⟩
   ·go_wp2_with fail;exact ⟨⟨1,8,rfl,rfl,.inr ⟨rfl,rfl⟩,zp⟩,zr⟩
   ·go_wp2_with fail;go_ret2;exact ⟨rfl,M1.out⟩
 exact kA
theorem ys6 (w:V):W x 136 #[u ⟨#[57]⟩] w fun e w'=>e=Z (T #[z y 9,.nilIface])∧S [] w w':=by
 have IN:W x 161 #[u ⟨#[57]⟩] w fun e w'=>e=Z (T #[z y 9,.nilIface])∧S [] w w':=by
  obtain ⟨cp,w1,cv,m1,hc,cc,hg⟩:=zc9 ⟨#[57]⟩ w w.heap.size rfl;have M1:=o m1;have c0:w1.cell? ⟨w.heap.size,0,r⟩=R (z n 57):=cc 0 (L);have hs:(⟨#[57]⟩:ByteArray).size=1:=rfl;rw [hs] at hc;clear cc hs;have cv':(convert 9 123 (u ⟨#[57]⟩)).run x w=.ok (O (R ⟨w.heap.size,0,r⟩) 1 cp) w1:=cv;clear cv m1;generalize w.heap.size=gk at *;go_in;go_wp2_with fail
  go_loopw [6,8,49] (fun p _ i wr=>∃k m:Nat,p=z y m∧i=z y k∧((k=0∧m=0)∨(k=1∧m=9))∧wr=w1) (fun _ _ i _=>1 - (intOf i).toNat)
  case atStart=>exact ⟨0,0,rfl,rfl,.inl ⟨rfl,rfl⟩,rfl⟩
  case round=>
   obtain ⟨k,m,rfl,rfl,hr,hw⟩:=hrel;subst hw;rcases hr with ⟨rfl,rfl⟩ | ⟨rfl,rfl⟩
   ·go_wp2_with fail;exact ⟨⟨1,9,rfl,rfl,.inr ⟨rfl,rfl⟩,zp⟩,zr⟩
   ·go_wp2_with fail;go_ret2;exact ⟨rfl,M1.out⟩
 exact kA
theorem kB {p:Prop} (h:p:=by
 go_wp2_with fail
 exact ⟨⟨1,1,rfl,rfl,.inr (.inl ⟨rfl,rfl⟩),zp⟩,zr⟩):p:=h
theorem ym3 (w:V):W x 136 #[u ⟨#[49,48]⟩] w fun e w'=>e=Z (T #[z y 10,.nilIface])∧S [] w w':=by
 have IN:W x 161 #[u ⟨#[49,48]⟩] w fun e w'=>e=Z (T #[z y 10,.nilIface])∧S [] w w':=by
  obtain ⟨cp,w1,cv,m1,hc,cc,hg⟩:=zc9 ⟨#[49,48]⟩ w w.heap.size rfl;have M1:=o m1;have c0:w1.cell? ⟨w.heap.size,0,r⟩=R (z n 49):=cc 0 (L);have c1:w1.cell? ⟨w.heap.size,1,r⟩=R (z n 48):=cc 1 (L);have hs:(⟨#[49,48]⟩:ByteArray).size=2:=rfl;rw [hs] at hc;clear cc hs;have cv':(convert 9 123 (u ⟨#[49,48]⟩)).run x w=.ok (O (R ⟨w.heap.size,0,r⟩) 2 cp) w1:=cv;clear cv m1;generalize w.heap.size=gk at *;go_in;go_wp2_with fail
  go_loopw [6,8,49] (fun p _ i wr=>∃k m:Nat,p=z y m∧i=z y k∧((k=0∧m=0)∨(k=1∧m=1)∨(k=2∧m=10))∧wr=w1) (fun _ _ i _=>2 - (intOf i).toNat)
  case atStart=>exact ⟨0,0,rfl,rfl,.inl ⟨rfl,rfl⟩,rfl⟩
  case round=>
   obtain ⟨k,m,rfl,rfl,hr,hw⟩:=hrel;subst hw;rcases hr with ⟨rfl,rfl⟩ | ⟨rfl,rfl⟩ | ⟨rfl,rfl⟩
   ·exact kB
   ·go_wp2_with fail;exact ⟨⟨2,10,rfl,rfl,.inr (.inr ⟨rfl,rfl⟩),zp⟩,zr⟩
   ·go_wp2_with fail;go_ret2;exact ⟨rfl,M1.out⟩
 exact kA
theorem yl1 (w:V):W x 136 #[u ⟨#[49,49]⟩] w fun e w'=>e=Z (T #[z y 11,.nilIface])∧S [] w w':=by
 have IN:W x 161 #[u ⟨#[49,49]⟩] w fun e w'=>e=Z (T #[z y 11,.nilIface])∧S [] w w':=by
  obtain ⟨cp,w1,cv,m1,hc,cc,hg⟩:=zc9 ⟨#[49,49]⟩ w w.heap.size rfl;have M1:=o m1;have c0:w1.cell? ⟨w.heap.size,0,r⟩=R (z n 49):=cc 0 (L);have c1:w1.cell? ⟨w.heap.size,1,r⟩=R (z n 49):=cc 1 (L);have hs:(⟨#[49,49]⟩:ByteArray).size=2:=rfl;rw [hs] at hc;clear cc hs;have cv':(convert 9 123 (u ⟨#[49,49]⟩)).run x w=.ok (O (R ⟨w.heap.size,0,r⟩) 2 cp) w1:=cv;clear cv m1;generalize w.heap.size=gk at *;go_in;go_wp2_with fail
  go_loopw [6,8,49] (fun p _ i wr=>∃k m:Nat,p=z y m∧i=z y k∧((k=0∧m=0)∨(k=1∧m=1)∨(k=2∧m=11))∧wr=w1) (fun _ _ i _=>2 - (intOf i).toNat)
  case atStart=>exact ⟨0,0,rfl,rfl,.inl ⟨rfl,rfl⟩,rfl⟩
  case round=>
   obtain ⟨k,m,rfl,rfl,hr,hw⟩:=hrel;subst hw;rcases hr with ⟨rfl,rfl⟩ | ⟨rfl,rfl⟩ | ⟨rfl,rfl⟩
   ·exact kB
   ·go_wp2_with fail;exact ⟨⟨2,11,rfl,rfl,.inr (.inr ⟨rfl,rfl⟩),zp⟩,zr⟩
   ·go_wp2_with fail;go_ret2;exact ⟨rfl,M1.out⟩
 exact kA
theorem yf9 (w:V):W x 136 #[u ⟨#[49,50]⟩] w fun e w'=>e=Z (T #[z y 12,.nilIface])∧S [] w w':=by
 have IN:W x 161 #[u ⟨#[49,50]⟩] w fun e w'=>e=Z (T #[z y 12,.nilIface])∧S [] w w':=by
  obtain ⟨cp,w1,cv,m1,hc,cc,hg⟩:=zc9 ⟨#[49,50]⟩ w w.heap.size rfl;have M1:=o m1;have c0:w1.cell? ⟨w.heap.size,0,r⟩=R (z n 49):=cc 0 (L);have c1:w1.cell? ⟨w.heap.size,1,r⟩=R (z n 50):=cc 1 (L);have hs:(⟨#[49,50]⟩:ByteArray).size=2:=rfl;rw [hs] at hc;clear cc hs;have cv':(convert 9 123 (u ⟨#[49,50]⟩)).run x w=.ok (O (R ⟨w.heap.size,0,r⟩) 2 cp) w1:=cv;clear cv m1;generalize w.heap.size=gk at *;go_in;go_wp2_with fail
  go_loopw [6,8,49] (fun p _ i wr=>∃k m:Nat,p=z y m∧i=z y k∧((k=0∧m=0)∨(k=1∧m=1)∨(k=2∧m=12))∧wr=w1) (fun _ _ i _=>2 - (intOf i).toNat)
  case atStart=>exact ⟨0,0,rfl,rfl,.inl ⟨rfl,rfl⟩,rfl⟩
  case round=>
   obtain ⟨k,m,rfl,rfl,hr,hw⟩:=hrel;subst hw;rcases hr with ⟨rfl,rfl⟩ | ⟨rfl,rfl⟩ | ⟨rfl,rfl⟩
   ·exact kB
   ·go_wp2_with fail;exact ⟨⟨2,12,rfl,rfl,.inr (.inr ⟨rfl,rfl⟩),zp⟩,zr⟩
   ·go_wp2_with fail;go_ret2;exact ⟨rfl,M1.out⟩
 exact kA
theorem ya9 (w:V):W x 136 #[u ⟨#[49,51]⟩] w fun e w'=>e=Z (T #[z y 13,.nilIface])∧S [] w w':=by
 have IN:W x 161 #[u ⟨#[49,51]⟩] w fun e w'=>e=Z (T #[z y 13,.nilIface])∧S [] w w':=by
  obtain ⟨cp,w1,cv,m1,hc,cc,hg⟩:=zc9 ⟨#[49,51]⟩ w w.heap.size rfl;have M1:=o m1;have c0:w1.cell? ⟨w.heap.size,0,r⟩=R (z n 49):=cc 0 (L);have c1:w1.cell? ⟨w.heap.size,1,r⟩=R (z n 51):=cc 1 (L);have hs:(⟨#[49,51]⟩:ByteArray).size=2:=rfl;rw [hs] at hc;clear cc hs;have cv':(convert 9 123 (u ⟨#[49,51]⟩)).run x w=.ok (O (R ⟨w.heap.size,0,r⟩) 2 cp) w1:=cv;clear cv m1;generalize w.heap.size=gk at *;go_in;go_wp2_with fail
  go_loopw [6,8,49] (fun p _ i wr=>∃k m:Nat,p=z y m∧i=z y k∧((k=0∧m=0)∨(k=1∧m=1)∨(k=2∧m=13))∧wr=w1) (fun _ _ i _=>2 - (intOf i).toNat)
  case atStart=>exact ⟨0,0,rfl,rfl,.inl ⟨rfl,rfl⟩,rfl⟩
  case round=>
   obtain ⟨k,m,rfl,rfl,hr,hw⟩:=hrel;subst hw;rcases hr with ⟨rfl,rfl⟩ | ⟨rfl,rfl⟩ | ⟨rfl,rfl⟩
   ·exact kB
   ·go_wp2_with fail;exact ⟨⟨2,13,rfl,rfl,.inr (.inr ⟨rfl,rfl⟩),zp⟩,zr⟩
   ·go_wp2_with fail;go_ret2;exact ⟨rfl,M1.out⟩
 exact kA
theorem yk9 (w:V):W x 136 #[u ⟨#[49,52]⟩] w fun e w'=>e=Z (T #[z y 14,.nilIface])∧S [] w w':=by
 have IN:W x 161 #[u ⟨#[49,52]⟩] w fun e w'=>e=Z (T #[z y 14,.nilIface])∧S [] w w':=by
  obtain ⟨cp,w1,cv,m1,hc,cc,hg⟩:=zc9 ⟨#[49,52]⟩ w w.heap.size rfl;have M1:=o m1;have c0:w1.cell? ⟨w.heap.size,0,r⟩=R (z n 49):=cc 0 (L);have c1:w1.cell? ⟨w.heap.size,1,r⟩=R (z n 52):=cc 1 (L);have hs:(⟨#[49,52]⟩:ByteArray).size=2:=rfl;rw [hs] at hc;clear cc hs;have cv':(convert 9 123 (u ⟨#[49,52]⟩)).run x w=.ok (O (R ⟨w.heap.size,0,r⟩) 2 cp) w1:=cv;clear cv m1;generalize w.heap.size=gk at *;go_in;go_wp2_with fail
  go_loopw [6,8,49] (fun p _ i wr=>∃k m:Nat,p=z y m∧i=z y k∧((k=0∧m=0)∨(k=1∧m=1)∨(k=2∧m=14))∧wr=w1) (fun _ _ i _=>2 - (intOf i).toNat)
  case atStart=>exact ⟨0,0,rfl,rfl,.inl ⟨rfl,rfl⟩,rfl⟩
  case round=>
   obtain ⟨k,m,rfl,rfl,hr,hw⟩:=hrel;subst hw;rcases hr with ⟨rfl,rfl⟩ | ⟨rfl,rfl⟩ | ⟨rfl,rfl⟩
   ·exact kB
   ·go_wp2_with fail;exact ⟨⟨2,14,rfl,rfl,.inr (.inr ⟨rfl,rfl⟩),zp⟩,zr⟩
   ·go_wp2_with fail;go_ret2;exact ⟨rfl,M1.out⟩
 exact kA
theorem yk1 (w:V):W x 136 #[u ⟨#[49,53]⟩] w fun e w'=>e=Z (T #[z y 15,.nilIface])∧S [] w w':=by
 have IN:W x 161 #[u ⟨#[49,53]⟩] w fun e w'=>e=Z (T #[z y 15,.nilIface])∧S [] w w':=by
  obtain ⟨cp,w1,cv,m1,hc,cc,hg⟩:=zc9 ⟨#[49,53]⟩ w w.heap.size rfl;have M1:=o m1;have c0:w1.cell? ⟨w.heap.size,0,r⟩=R (z n 49):=cc 0 (L);have c1:w1.cell? ⟨w.heap.size,1,r⟩=R (z n 53):=cc 1 (L);have hs:(⟨#[49,53]⟩:ByteArray).size=2:=rfl;rw [hs] at hc;clear cc hs;have cv':(convert 9 123 (u ⟨#[49,53]⟩)).run x w=.ok (O (R ⟨w.heap.size,0,r⟩) 2 cp) w1:=cv;clear cv m1;generalize w.heap.size=gk at *;go_in;go_wp2_with fail
  go_loopw [6,8,49] (fun p _ i wr=>∃k m:Nat,p=z y m∧i=z y k∧((k=0∧m=0)∨(k=1∧m=1)∨(k=2∧m=15))∧wr=w1) (fun _ _ i _=>2 - (intOf i).toNat)
  case atStart=>exact ⟨0,0,rfl,rfl,.inl ⟨rfl,rfl⟩,rfl⟩
  case round=>
   obtain ⟨k,m,rfl,rfl,hr,hw⟩:=hrel;subst hw;rcases hr with ⟨rfl,rfl⟩ | ⟨rfl,rfl⟩ | ⟨rfl,rfl⟩
   ·exact kB
   ·go_wp2_with fail;exact ⟨⟨2,15,rfl,rfl,.inr (.inr ⟨rfl,rfl⟩),zp⟩,zr⟩
   ·go_wp2_with fail;go_ret2;exact ⟨rfl,M1.out⟩
 exact kA
open Go.RowKit
theorem zf0 {s:ByteArray} {l:List UInt8} (h:s.data.toList=l):s=⟨l.toArray⟩:=by
 cases s with
 | mk d=>simp at h;subst h;simp
theorem zZ7 (s:ByteArray) (h:(YQ (YT s)).1≠98):s=⟨#[48]⟩∨s=⟨#[49]⟩∨s=⟨#[115,111,109,101]⟩∨s=⟨#[101,97,99,104]⟩∨∃v,v < 16∧s=⟨(120::zt1 v).toArray⟩:=by
 by_cases h1:YT s=[48]
 ·exact .inl (zf0 (zd6 (l:=[48]) h1))
 by_cases h2:YT s=[49]
 ·exact .inr (.inl (zf0 (zd6 (l:=[49]) h2)))
 by_cases h3:YT s=[115,111,109,101]
 ·exact .inr (.inr (.inl (zf0 (zd6 (l:=[115,111,109,101]) h3))))
 by_cases h4:YT s=[101,97,99,104]
 ·exact .inr (.inr (.inr (.inl (zf0 (zd6 (l:=[101,97,99,104]) h4)))))
 refine .inr (.inr (.inr (.inr ?_)));apply Classical.byContradiction;intro hn;refine h ?_;rw [zp4 h1 h2 h3 h4 fun v hv e=>hn ⟨v,hv,zf0 (zd6 (l:=120::zt1 v) (yH))⟩]
theorem Blk.cells3 {w:V} {g:Nat} {t:TypeId} {a b d:Value} (B:Blk w g #[a,b,d] t):w.cell? ⟨g,0,r⟩=R a∧w.cell? ⟨g,1,r⟩=R b∧w.cell? ⟨g,2,r⟩=R d:=⟨B.cell 0,B.cell 1,B.cell 2⟩
def YS (s:ByteArray) (at_:Nat) (w:V) (e:Ending) (w':V):Prop:=e=Z (N #[z n (YQ (YT s)).1,z y (YQ (YT s)).2,z y at_])∧S [] w w'
theorem yB9 (at_:Nat) (w:V):W x 99 #[u ⟨#[48]⟩,z y at_] w (YS ⟨#[48]⟩ at_ w):=by
 have e:(YQ (YT ⟨#[48]⟩))=(48,0):=L;unfold YS;rw [e];obtain ⟨gk,hgk⟩:∃gk,w.heap.size=gk:=⟨_,rfl⟩;have BR:=o (U w #[z n 0,z y 0,z y 0] 159 gk hgk.symm);have M0:K (S [] w (w.alloc (P #[z n 0,z y 0,z y 0] 159))):=I;go_in;go_wp2_with fail;have hk:(((⟨#[48]⟩:ByteArray)[0].toNat:Nat):Int)=48:=rfl;refine X (v:=N #[z n ((⟨#[48]⟩:ByteArray)[0].toNat:Nat),z y 0,z y at_]) (by obtain ⟨z0,z1,z2⟩:=(U w #[z n ((⟨#[48]⟩:ByteArray)[0].toNat:Nat),z y 0,z y at_] 159 gk hgk.symm).cells3;simp [Q,Y,go_sem,z0,z1,z2];try rfl) rfl ?_;exact ⟨by rw [hk];rfl,I⟩
theorem yA7 (at_:Nat) (w:V):W x 99 #[u ⟨#[49]⟩,z y at_] w (YS ⟨#[49]⟩ at_ w):=by
 have e:(YQ (YT ⟨#[49]⟩))=(49,0):=L;unfold YS;rw [e];obtain ⟨gk,hgk⟩:∃gk,w.heap.size=gk:=⟨_,rfl⟩;have BR:=o (U w #[z n 0,z y 0,z y 0] 159 gk hgk.symm);have M0:K (S [] w (w.alloc (P #[z n 0,z y 0,z y 0] 159))):=I;go_in;go_wp2_with fail;have hk:(((⟨#[49]⟩:ByteArray)[0].toNat:Nat):Int)=49:=rfl;refine X (v:=N #[z n ((⟨#[49]⟩:ByteArray)[0].toNat:Nat),z y 0,z y at_]) (by obtain ⟨z0,z1,z2⟩:=(U w #[z n ((⟨#[49]⟩:ByteArray)[0].toNat:Nat),z y 0,z y at_] 159 gk hgk.symm).cells3;simp [Q,Y,go_sem,z0,z1,z2];try rfl) rfl ?_;exact ⟨by rw [hk];rfl,I⟩
theorem yx4 (at_:Nat) (w:V):W x 99 #[u ⟨#[115,111,109,101]⟩,z y at_] w (YS ⟨#[115,111,109,101]⟩ at_ w):=by
 have e:(YQ (YT ⟨#[115,111,109,101]⟩))=(115,0):=L;unfold YS;rw [e];obtain ⟨gk,hgk⟩:∃gk,w.heap.size=gk:=⟨_,rfl⟩;have BR:=o (U w #[z n 0,z y 0,z y 0] 159 gk hgk.symm);have M0:K (S [] w (w.alloc (P #[z n 0,z y 0,z y 0] 159))):=I;go_in;go_wp2_with fail;refine X (v:=N #[z n 115,z y 0,z y at_]) (by obtain ⟨z0,z1,z2⟩:=(U w #[z n 115,z y 0,z y at_] 159 gk hgk.symm).cells3;simp [Q,Y,go_sem,z0,z1,z2];try rfl) rfl ?_;exact ⟨rfl,I⟩
theorem yr2 (at_:Nat) (w:V):W x 99 #[u ⟨#[101,97,99,104]⟩,z y at_] w (YS ⟨#[101,97,99,104]⟩ at_ w):=by
 have e:(YQ (YT ⟨#[101,97,99,104]⟩))=(101,0):=L;unfold YS;rw [e];obtain ⟨gk,hgk⟩:∃gk,w.heap.size=gk:=⟨_,rfl⟩;have BR:=o (U w #[z n 0,z y 0,z y 0] 159 gk hgk.symm);have M0:K (S [] w (w.alloc (P #[z n 0,z y 0,z y 0] 159))):=I;go_in;go_wp2_with fail;refine X (v:=N #[z n 101,z y 0,z y at_]) (by obtain ⟨z0,z1,z2⟩:=(U w #[z n 101,z y 0,z y at_] 159 gk hgk.symm).cells3;simp [Q,Y,go_sem,z0,z1,z2];try rfl) rfl ?_;exact ⟨rfl,I⟩
theorem yh7 (at_:Nat) (w:V):W x 99 #[u ⟨#[120,48]⟩,z y at_] w (YS ⟨#[120,48]⟩ at_ w):=by
 have e:(YQ (YT ⟨#[120,48]⟩))=(118,0):=L;unfold YS;rw [e];obtain ⟨gk,hgk⟩:∃gk,w.heap.size=gk:=⟨_,rfl⟩;have BR:=o (U w #[z n 0,z y 0,z y 0] 159 gk hgk.symm);have M0:K (S [] w (w.alloc (P #[z n 0,z y 0,z y 0] 159))):=I;go_in;go_wp2_with fail;rw [show (⟨#[120,48]⟩:ByteArray).extract 1 2=⟨#[48]⟩ from rfl];refine (yB4 _).mono ?_;rintro e1 w1 ⟨rfl,m1⟩;have B1:=BR.out.mod m1 (ze);obtain ⟨x0,x1,x2⟩:=B1.cells3;have f0:=B1.froz 0;have f1:=B1.froz 1;have f2:=B1.froz 2;have hl:=B1.lt;have M1:=o (M0.out.trans' m1);go_wp2_with fail;have BZ:=((B1.set 0 (z n 118)).set 1 (z y 0)).set 2 (z y at_);simp only [q,j,f] at BZ;obtain ⟨z0,z1,z2⟩:=BZ.cells3;have MW:S [] w (((w1.setCell ⟨gk,0,r⟩ (z n 118)).setCell ⟨gk,1,r⟩ (z y 0)).setCell ⟨gk,2,r⟩ (z y at_)):=((M1.out.setCell _ _ (M)).setCell _ _ (M)).setCell _ _ (M);generalize ((w1.setCell ⟨gk,0,r⟩ (z n 118)).setCell ⟨gk,1,r⟩ (z y 0)).setCell ⟨gk,2,r⟩ (z y at_)=wx at *;refine X (v:=N #[z n 118,z y 0,z y at_]) (by simp [Q,Y,go_sem,z0,z1,z2];try rfl) rfl ?_;exact ⟨rfl,MW⟩
theorem yh2 (at_:Nat) (w:V):W x 99 #[u ⟨#[120,49]⟩,z y at_] w (YS ⟨#[120,49]⟩ at_ w):=by
 have e:(YQ (YT ⟨#[120,49]⟩))=(118,1):=L;unfold YS;rw [e];obtain ⟨gk,hgk⟩:∃gk,w.heap.size=gk:=⟨_,rfl⟩;have BR:=o (U w #[z n 0,z y 0,z y 0] 159 gk hgk.symm);have M0:K (S [] w (w.alloc (P #[z n 0,z y 0,z y 0] 159))):=I;go_in;go_wp2_with fail;rw [show (⟨#[120,49]⟩:ByteArray).extract 1 2=⟨#[49]⟩ from rfl];refine (yB5 _).mono ?_;rintro e1 w1 ⟨rfl,m1⟩;have B1:=BR.out.mod m1 (ze);obtain ⟨x0,x1,x2⟩:=B1.cells3;have f0:=B1.froz 0;have f1:=B1.froz 1;have f2:=B1.froz 2;have hl:=B1.lt;have M1:=o (M0.out.trans' m1);go_wp2_with fail;have BZ:=((B1.set 0 (z n 118)).set 1 (z y 1)).set 2 (z y at_);simp only [q,j,f] at BZ;obtain ⟨z0,z1,z2⟩:=BZ.cells3;have MW:S [] w (((w1.setCell ⟨gk,0,r⟩ (z n 118)).setCell ⟨gk,1,r⟩ (z y 1)).setCell ⟨gk,2,r⟩ (z y at_)):=((M1.out.setCell _ _ (M)).setCell _ _ (M)).setCell _ _ (M);generalize ((w1.setCell ⟨gk,0,r⟩ (z n 118)).setCell ⟨gk,1,r⟩ (z y 1)).setCell ⟨gk,2,r⟩ (z y at_)=wx at *;refine X (v:=N #[z n 118,z y 1,z y at_]) (by simp [Q,Y,go_sem,z0,z1,z2];try rfl) rfl ?_;exact ⟨rfl,MW⟩
theorem yd3 (at_:Nat) (w:V):W x 99 #[u ⟨#[120,50]⟩,z y at_] w (YS ⟨#[120,50]⟩ at_ w):=by
 have e:(YQ (YT ⟨#[120,50]⟩))=(118,2):=L;unfold YS;rw [e];obtain ⟨gk,hgk⟩:∃gk,w.heap.size=gk:=⟨_,rfl⟩;have BR:=o (U w #[z n 0,z y 0,z y 0] 159 gk hgk.symm);have M0:K (S [] w (w.alloc (P #[z n 0,z y 0,z y 0] 159))):=I;go_in;go_wp2_with fail;rw [show (⟨#[120,50]⟩:ByteArray).extract 1 2=⟨#[50]⟩ from rfl];refine (yp8 _).mono ?_;rintro e1 w1 ⟨rfl,m1⟩;have B1:=BR.out.mod m1 (ze);obtain ⟨x0,x1,x2⟩:=B1.cells3;have f0:=B1.froz 0;have f1:=B1.froz 1;have f2:=B1.froz 2;have hl:=B1.lt;have M1:=o (M0.out.trans' m1);go_wp2_with fail;have BZ:=((B1.set 0 (z n 118)).set 1 (z y 2)).set 2 (z y at_);simp only [q,j,f] at BZ;obtain ⟨z0,z1,z2⟩:=BZ.cells3;have MW:S [] w (((w1.setCell ⟨gk,0,r⟩ (z n 118)).setCell ⟨gk,1,r⟩ (z y 2)).setCell ⟨gk,2,r⟩ (z y at_)):=((M1.out.setCell _ _ (M)).setCell _ _ (M)).setCell _ _ (M);generalize ((w1.setCell ⟨gk,0,r⟩ (z n 118)).setCell ⟨gk,1,r⟩ (z y 2)).setCell ⟨gk,2,r⟩ (z y at_)=wx at *;refine X (v:=N #[z n 118,z y 2,z y at_]) (by simp [Q,Y,go_sem,z0,z1,z2];try rfl) rfl ?_;exact ⟨rfl,MW⟩
theorem yh5 (at_:Nat) (w:V):W x 99 #[u ⟨#[120,51]⟩,z y at_] w (YS ⟨#[120,51]⟩ at_ w):=by
 have e:(YQ (YT ⟨#[120,51]⟩))=(118,3):=L;unfold YS;rw [e];obtain ⟨gk,hgk⟩:∃gk,w.heap.size=gk:=⟨_,rfl⟩;have BR:=o (U w #[z n 0,z y 0,z y 0] 159 gk hgk.symm);have M0:K (S [] w (w.alloc (P #[z n 0,z y 0,z y 0] 159))):=I;go_in;go_wp2_with fail;rw [show (⟨#[120,51]⟩:ByteArray).extract 1 2=⟨#[51]⟩ from rfl];refine (yq8 _).mono ?_;rintro e1 w1 ⟨rfl,m1⟩;have B1:=BR.out.mod m1 (ze);obtain ⟨x0,x1,x2⟩:=B1.cells3;have f0:=B1.froz 0;have f1:=B1.froz 1;have f2:=B1.froz 2;have hl:=B1.lt;have M1:=o (M0.out.trans' m1);go_wp2_with fail;have BZ:=((B1.set 0 (z n 118)).set 1 (z y 3)).set 2 (z y at_);simp only [q,j,f] at BZ;obtain ⟨z0,z1,z2⟩:=BZ.cells3;have MW:S [] w (((w1.setCell ⟨gk,0,r⟩ (z n 118)).setCell ⟨gk,1,r⟩ (z y 3)).setCell ⟨gk,2,r⟩ (z y at_)):=((M1.out.setCell _ _ (M)).setCell _ _ (M)).setCell _ _ (M);generalize ((w1.setCell ⟨gk,0,r⟩ (z n 118)).setCell ⟨gk,1,r⟩ (z y 3)).setCell ⟨gk,2,r⟩ (z y at_)=wx at *;refine X (v:=N #[z n 118,z y 3,z y at_]) (by simp [Q,Y,go_sem,z0,z1,z2];try rfl) rfl ?_;exact ⟨rfl,MW⟩
theorem ye1 (at_:Nat) (w:V):W x 99 #[u ⟨#[120,52]⟩,z y at_] w (YS ⟨#[120,52]⟩ at_ w):=by
 have e:(YQ (YT ⟨#[120,52]⟩))=(118,4):=L;unfold YS;rw [e];obtain ⟨gk,hgk⟩:∃gk,w.heap.size=gk:=⟨_,rfl⟩;have BR:=o (U w #[z n 0,z y 0,z y 0] 159 gk hgk.symm);have M0:K (S [] w (w.alloc (P #[z n 0,z y 0,z y 0] 159))):=I;go_in;go_wp2_with fail;rw [show (⟨#[120,52]⟩:ByteArray).extract 1 2=⟨#[52]⟩ from rfl];refine (yB6 _).mono ?_;rintro e1 w1 ⟨rfl,m1⟩;have B1:=BR.out.mod m1 (ze);obtain ⟨x0,x1,x2⟩:=B1.cells3;have f0:=B1.froz 0;have f1:=B1.froz 1;have f2:=B1.froz 2;have hl:=B1.lt;have M1:=o (M0.out.trans' m1);go_wp2_with fail;have BZ:=((B1.set 0 (z n 118)).set 1 (z y 4)).set 2 (z y at_);simp only [q,j,f] at BZ;obtain ⟨z0,z1,z2⟩:=BZ.cells3;have MW:S [] w (((w1.setCell ⟨gk,0,r⟩ (z n 118)).setCell ⟨gk,1,r⟩ (z y 4)).setCell ⟨gk,2,r⟩ (z y at_)):=((M1.out.setCell _ _ (M)).setCell _ _ (M)).setCell _ _ (M);generalize ((w1.setCell ⟨gk,0,r⟩ (z n 118)).setCell ⟨gk,1,r⟩ (z y 4)).setCell ⟨gk,2,r⟩ (z y at_)=wx at *;refine X (v:=N #[z n 118,z y 4,z y at_]) (by simp [Q,Y,go_sem,z0,z1,z2];try rfl) rfl ?_;exact ⟨rfl,MW⟩
theorem yi5 (at_:Nat) (w:V):W x 99 #[u ⟨#[120,53]⟩,z y at_] w (YS ⟨#[120,53]⟩ at_ w):=by
 have e:(YQ (YT ⟨#[120,53]⟩))=(118,5):=L;unfold YS;rw [e];obtain ⟨gk,hgk⟩:∃gk,w.heap.size=gk:=⟨_,rfl⟩;have BR:=o (U w #[z n 0,z y 0,z y 0] 159 gk hgk.symm);have M0:K (S [] w (w.alloc (P #[z n 0,z y 0,z y 0] 159))):=I;go_in;go_wp2_with fail;rw [show (⟨#[120,53]⟩:ByteArray).extract 1 2=⟨#[53]⟩ from rfl];refine (yq1 _).mono ?_;rintro e1 w1 ⟨rfl,m1⟩;have B1:=BR.out.mod m1 (ze);obtain ⟨x0,x1,x2⟩:=B1.cells3;have f0:=B1.froz 0;have f1:=B1.froz 1;have f2:=B1.froz 2;have hl:=B1.lt;have M1:=o (M0.out.trans' m1);go_wp2_with fail;have BZ:=((B1.set 0 (z n 118)).set 1 (z y 5)).set 2 (z y at_);simp only [q,j,f] at BZ;obtain ⟨z0,z1,z2⟩:=BZ.cells3;have MW:S [] w (((w1.setCell ⟨gk,0,r⟩ (z n 118)).setCell ⟨gk,1,r⟩ (z y 5)).setCell ⟨gk,2,r⟩ (z y at_)):=((M1.out.setCell _ _ (M)).setCell _ _ (M)).setCell _ _ (M);generalize ((w1.setCell ⟨gk,0,r⟩ (z n 118)).setCell ⟨gk,1,r⟩ (z y 5)).setCell ⟨gk,2,r⟩ (z y at_)=wx at *;refine X (v:=N #[z n 118,z y 5,z y at_]) (by simp [Q,Y,go_sem,z0,z1,z2];try rfl) rfl ?_;exact ⟨rfl,MW⟩
theorem yk4 (at_:Nat) (w:V):W x 99 #[u ⟨#[120,54]⟩,z y at_] w (YS ⟨#[120,54]⟩ at_ w):=by
 have e:(YQ (YT ⟨#[120,54]⟩))=(118,6):=L;unfold YS;rw [e];obtain ⟨gk,hgk⟩:∃gk,w.heap.size=gk:=⟨_,rfl⟩;have BR:=o (U w #[z n 0,z y 0,z y 0] 159 gk hgk.symm);have M0:K (S [] w (w.alloc (P #[z n 0,z y 0,z y 0] 159))):=I;go_in;go_wp2_with fail;rw [show (⟨#[120,54]⟩:ByteArray).extract 1 2=⟨#[54]⟩ from rfl];refine (ys2 _).mono ?_;rintro e1 w1 ⟨rfl,m1⟩;have B1:=BR.out.mod m1 (ze);obtain ⟨x0,x1,x2⟩:=B1.cells3;have f0:=B1.froz 0;have f1:=B1.froz 1;have f2:=B1.froz 2;have hl:=B1.lt;have M1:=o (M0.out.trans' m1);go_wp2_with fail;have BZ:=((B1.set 0 (z n 118)).set 1 (z y 6)).set 2 (z y at_);simp only [q,j,f] at BZ;obtain ⟨z0,z1,z2⟩:=BZ.cells3;have MW:S [] w (((w1.setCell ⟨gk,0,r⟩ (z n 118)).setCell ⟨gk,1,r⟩ (z y 6)).setCell ⟨gk,2,r⟩ (z y at_)):=((M1.out.setCell _ _ (M)).setCell _ _ (M)).setCell _ _ (M);generalize ((w1.setCell ⟨gk,0,r⟩ (z n 118)).setCell ⟨gk,1,r⟩ (z y 6)).setCell ⟨gk,2,r⟩ (z y at_)=wx at *;refine X (v:=N #[z n 118,z y 6,z y at_]) (by simp [Q,Y,go_sem,z0,z1,z2];try rfl) rfl ?_;exact ⟨rfl,MW⟩
theorem yg8 (at_:Nat) (w:V):W x 99 #[u ⟨#[120,55]⟩,z y at_] w (YS ⟨#[120,55]⟩ at_ w):=by
 have e:(YQ (YT ⟨#[120,55]⟩))=(118,7):=L;unfold YS;rw [e];obtain ⟨gk,hgk⟩:∃gk,w.heap.size=gk:=⟨_,rfl⟩;have BR:=o (U w #[z n 0,z y 0,z y 0] 159 gk hgk.symm);have M0:K (S [] w (w.alloc (P #[z n 0,z y 0,z y 0] 159))):=I;go_in;go_wp2_with fail;rw [show (⟨#[120,55]⟩:ByteArray).extract 1 2=⟨#[55]⟩ from rfl];refine (yv1 _).mono ?_;rintro e1 w1 ⟨rfl,m1⟩;have B1:=BR.out.mod m1 (ze);obtain ⟨x0,x1,x2⟩:=B1.cells3;have f0:=B1.froz 0;have f1:=B1.froz 1;have f2:=B1.froz 2;have hl:=B1.lt;have M1:=o (M0.out.trans' m1);go_wp2_with fail;have BZ:=((B1.set 0 (z n 118)).set 1 (z y 7)).set 2 (z y at_);simp only [q,j,f] at BZ;obtain ⟨z0,z1,z2⟩:=BZ.cells3;have MW:S [] w (((w1.setCell ⟨gk,0,r⟩ (z n 118)).setCell ⟨gk,1,r⟩ (z y 7)).setCell ⟨gk,2,r⟩ (z y at_)):=((M1.out.setCell _ _ (M)).setCell _ _ (M)).setCell _ _ (M);generalize ((w1.setCell ⟨gk,0,r⟩ (z n 118)).setCell ⟨gk,1,r⟩ (z y 7)).setCell ⟨gk,2,r⟩ (z y at_)=wx at *;refine X (v:=N #[z n 118,z y 7,z y at_]) (by simp [Q,Y,go_sem,z0,z1,z2];try rfl) rfl ?_;exact ⟨rfl,MW⟩
theorem yj1 (at_:Nat) (w:V):W x 99 #[u ⟨#[120,56]⟩,z y at_] w (YS ⟨#[120,56]⟩ at_ w):=by
 have e:(YQ (YT ⟨#[120,56]⟩))=(118,8):=L;unfold YS;rw [e];obtain ⟨gk,hgk⟩:∃gk,w.heap.size=gk:=⟨_,rfl⟩;have BR:=o (U w #[z n 0,z y 0,z y 0] 159 gk hgk.symm);have M0:K (S [] w (w.alloc (P #[z n 0,z y 0,z y 0] 159))):=I;go_in;go_wp2_with fail;rw [show (⟨#[120,56]⟩:ByteArray).extract 1 2=⟨#[56]⟩ from rfl];refine (yr1 _).mono ?_;rintro e1 w1 ⟨rfl,m1⟩;have B1:=BR.out.mod m1 (ze);obtain ⟨x0,x1,x2⟩:=B1.cells3;have f0:=B1.froz 0;have f1:=B1.froz 1;have f2:=B1.froz 2;have hl:=B1.lt;have M1:=o (M0.out.trans' m1);go_wp2_with fail;have BZ:=((B1.set 0 (z n 118)).set 1 (z y 8)).set 2 (z y at_);simp only [q,j,f] at BZ;obtain ⟨z0,z1,z2⟩:=BZ.cells3;have MW:S [] w (((w1.setCell ⟨gk,0,r⟩ (z n 118)).setCell ⟨gk,1,r⟩ (z y 8)).setCell ⟨gk,2,r⟩ (z y at_)):=((M1.out.setCell _ _ (M)).setCell _ _ (M)).setCell _ _ (M);generalize ((w1.setCell ⟨gk,0,r⟩ (z n 118)).setCell ⟨gk,1,r⟩ (z y 8)).setCell ⟨gk,2,r⟩ (z y at_)=wx at *;refine X (v:=N #[z n 118,z y 8,z y at_]) (by simp [Q,Y,go_sem,z0,z1,z2];try rfl) rfl ?_;exact ⟨rfl,MW⟩
theorem yb3 (at_:Nat) (w:V):W x 99 #[u ⟨#[120,57]⟩,z y at_] w (YS ⟨#[120,57]⟩ at_ w):=by
 have e:(YQ (YT ⟨#[120,57]⟩))=(118,9):=L;unfold YS;rw [e];obtain ⟨gk,hgk⟩:∃gk,w.heap.size=gk:=⟨_,rfl⟩;have BR:=o (U w #[z n 0,z y 0,z y 0] 159 gk hgk.symm);have M0:K (S [] w (w.alloc (P #[z n 0,z y 0,z y 0] 159))):=I;go_in;go_wp2_with fail;rw [show (⟨#[120,57]⟩:ByteArray).extract 1 2=⟨#[57]⟩ from rfl];refine (ys6 _).mono ?_;rintro e1 w1 ⟨rfl,m1⟩;have B1:=BR.out.mod m1 (ze);obtain ⟨x0,x1,x2⟩:=B1.cells3;have f0:=B1.froz 0;have f1:=B1.froz 1;have f2:=B1.froz 2;have hl:=B1.lt;have M1:=o (M0.out.trans' m1);go_wp2_with fail;have BZ:=((B1.set 0 (z n 118)).set 1 (z y 9)).set 2 (z y at_);simp only [q,j,f] at BZ;obtain ⟨z0,z1,z2⟩:=BZ.cells3;have MW:S [] w (((w1.setCell ⟨gk,0,r⟩ (z n 118)).setCell ⟨gk,1,r⟩ (z y 9)).setCell ⟨gk,2,r⟩ (z y at_)):=((M1.out.setCell _ _ (M)).setCell _ _ (M)).setCell _ _ (M);generalize ((w1.setCell ⟨gk,0,r⟩ (z n 118)).setCell ⟨gk,1,r⟩ (z y 9)).setCell ⟨gk,2,r⟩ (z y at_)=wx at *;refine X (v:=N #[z n 118,z y 9,z y at_]) (by simp [Q,Y,go_sem,z0,z1,z2];try rfl) rfl ?_;exact ⟨rfl,MW⟩
theorem zP3 (at_:Nat) (w:V):W x 99 #[u ⟨#[120,49,48]⟩,z y at_] w (YS ⟨#[120,49,48]⟩ at_ w):=by
 have e:(YQ (YT ⟨#[120,49,48]⟩))=(118,10):=L;unfold YS;rw [e];obtain ⟨gk,hgk⟩:∃gk,w.heap.size=gk:=⟨_,rfl⟩;have BR:=o (U w #[z n 0,z y 0,z y 0] 159 gk hgk.symm);have M0:K (S [] w (w.alloc (P #[z n 0,z y 0,z y 0] 159))):=I;go_in;go_wp2_with fail;rw [show (⟨#[120,49,48]⟩:ByteArray).extract 1 3=⟨#[49,48]⟩ from rfl];refine (ym3 _).mono ?_;rintro e1 w1 ⟨rfl,m1⟩;have B1:=BR.out.mod m1 (ze);obtain ⟨x0,x1,x2⟩:=B1.cells3;have f0:=B1.froz 0;have f1:=B1.froz 1;have f2:=B1.froz 2;have hl:=B1.lt;have M1:=o (M0.out.trans' m1);go_wp2_with fail;have BZ:=((B1.set 0 (z n 118)).set 1 (z y 10)).set 2 (z y at_);simp only [q,j,f] at BZ;obtain ⟨z0,z1,z2⟩:=BZ.cells3;have MW:S [] w (((w1.setCell ⟨gk,0,r⟩ (z n 118)).setCell ⟨gk,1,r⟩ (z y 10)).setCell ⟨gk,2,r⟩ (z y at_)):=((M1.out.setCell _ _ (M)).setCell _ _ (M)).setCell _ _ (M);generalize ((w1.setCell ⟨gk,0,r⟩ (z n 118)).setCell ⟨gk,1,r⟩ (z y 10)).setCell ⟨gk,2,r⟩ (z y at_)=wx at *;refine X (v:=N #[z n 118,z y 10,z y at_]) (by simp [Q,Y,go_sem,z0,z1,z2];try rfl) rfl ?_;exact ⟨rfl,MW⟩
theorem zP4 (at_:Nat) (w:V):W x 99 #[u ⟨#[120,49,49]⟩,z y at_] w (YS ⟨#[120,49,49]⟩ at_ w):=by
 have e:(YQ (YT ⟨#[120,49,49]⟩))=(118,11):=L;unfold YS;rw [e];obtain ⟨gk,hgk⟩:∃gk,w.heap.size=gk:=⟨_,rfl⟩;have BR:=o (U w #[z n 0,z y 0,z y 0] 159 gk hgk.symm);have M0:K (S [] w (w.alloc (P #[z n 0,z y 0,z y 0] 159))):=I;go_in;go_wp2_with fail;rw [show (⟨#[120,49,49]⟩:ByteArray).extract 1 3=⟨#[49,49]⟩ from rfl];refine (yl1 _).mono ?_;rintro e1 w1 ⟨rfl,m1⟩;have B1:=BR.out.mod m1 (ze);obtain ⟨x0,x1,x2⟩:=B1.cells3;have f0:=B1.froz 0;have f1:=B1.froz 1;have f2:=B1.froz 2;have hl:=B1.lt;have M1:=o (M0.out.trans' m1);go_wp2_with fail;have BZ:=((B1.set 0 (z n 118)).set 1 (z y 11)).set 2 (z y at_);simp only [q,j,f] at BZ;obtain ⟨z0,z1,z2⟩:=BZ.cells3;have MW:S [] w (((w1.setCell ⟨gk,0,r⟩ (z n 118)).setCell ⟨gk,1,r⟩ (z y 11)).setCell ⟨gk,2,r⟩ (z y at_)):=((M1.out.setCell _ _ (M)).setCell _ _ (M)).setCell _ _ (M);generalize ((w1.setCell ⟨gk,0,r⟩ (z n 118)).setCell ⟨gk,1,r⟩ (z y 11)).setCell ⟨gk,2,r⟩ (z y at_)=wx at *;refine X (v:=N #[z n 118,z y 11,z y at_]) (by simp [Q,Y,go_sem,z0,z1,z2];try rfl) rfl ?_;exact ⟨rfl,MW⟩
theorem zV1 (at_:Nat) (w:V):W x 99 #[u ⟨#[120,49,50]⟩,z y at_] w (YS ⟨#[120,49,50]⟩ at_ w):=by
 have e:(YQ (YT ⟨#[120,49,50]⟩))=(118,12):=L;unfold YS;rw [e];obtain ⟨gk,hgk⟩:∃gk,w.heap.size=gk:=⟨_,rfl⟩;have BR:=o (U w #[z n 0,z y 0,z y 0] 159 gk hgk.symm);have M0:K (S [] w (w.alloc (P #[z n 0,z y 0,z y 0] 159))):=I;go_in;go_wp2_with fail;rw [show (⟨#[120,49,50]⟩:ByteArray).extract 1 3=⟨#[49,50]⟩ from rfl];refine (yf9 _).mono ?_;rintro e1 w1 ⟨rfl,m1⟩;have B1:=BR.out.mod m1 (ze);obtain ⟨x0,x1,x2⟩:=B1.cells3;have f0:=B1.froz 0;have f1:=B1.froz 1;have f2:=B1.froz 2;have hl:=B1.lt;have M1:=o (M0.out.trans' m1);go_wp2_with fail;have BZ:=((B1.set 0 (z n 118)).set 1 (z y 12)).set 2 (z y at_);simp only [q,j,f] at BZ;obtain ⟨z0,z1,z2⟩:=BZ.cells3;have MW:S [] w (((w1.setCell ⟨gk,0,r⟩ (z n 118)).setCell ⟨gk,1,r⟩ (z y 12)).setCell ⟨gk,2,r⟩ (z y at_)):=((M1.out.setCell _ _ (M)).setCell _ _ (M)).setCell _ _ (M);generalize ((w1.setCell ⟨gk,0,r⟩ (z n 118)).setCell ⟨gk,1,r⟩ (z y 12)).setCell ⟨gk,2,r⟩ (z y at_)=wx at *;refine X (v:=N #[z n 118,z y 12,z y at_]) (by simp [Q,Y,go_sem,z0,z1,z2];try rfl) rfl ?_;exact ⟨rfl,MW⟩
theorem zQ7 (at_:Nat) (w:V):W x 99 #[u ⟨#[120,49,51]⟩,z y at_] w (YS ⟨#[120,49,51]⟩ at_ w):=by
 have e:(YQ (YT ⟨#[120,49,51]⟩))=(118,13):=L;unfold YS;rw [e];obtain ⟨gk,hgk⟩:∃gk,w.heap.size=gk:=⟨_,rfl⟩;have BR:=o (U w #[z n 0,z y 0,z y 0] 159 gk hgk.symm);have M0:K (S [] w (w.alloc (P #[z n 0,z y 0,z y 0] 159))):=I;go_in;go_wp2_with fail;rw [show (⟨#[120,49,51]⟩:ByteArray).extract 1 3=⟨#[49,51]⟩ from rfl];refine (ya9 _).mono ?_;rintro e1 w1 ⟨rfl,m1⟩;have B1:=BR.out.mod m1 (ze);obtain ⟨x0,x1,x2⟩:=B1.cells3;have f0:=B1.froz 0;have f1:=B1.froz 1;have f2:=B1.froz 2;have hl:=B1.lt;have M1:=o (M0.out.trans' m1);go_wp2_with fail;have BZ:=((B1.set 0 (z n 118)).set 1 (z y 13)).set 2 (z y at_);simp only [q,j,f] at BZ;obtain ⟨z0,z1,z2⟩:=BZ.cells3;have MW:S [] w (((w1.setCell ⟨gk,0,r⟩ (z n 118)).setCell ⟨gk,1,r⟩ (z y 13)).setCell ⟨gk,2,r⟩ (z y at_)):=((M1.out.setCell _ _ (M)).setCell _ _ (M)).setCell _ _ (M);generalize ((w1.setCell ⟨gk,0,r⟩ (z n 118)).setCell ⟨gk,1,r⟩ (z y 13)).setCell ⟨gk,2,r⟩ (z y at_)=wx at *;refine X (v:=N #[z n 118,z y 13,z y at_]) (by simp [Q,Y,go_sem,z0,z1,z2];try rfl) rfl ?_;exact ⟨rfl,MW⟩
theorem zW8 (at_:Nat) (w:V):W x 99 #[u ⟨#[120,49,52]⟩,z y at_] w (YS ⟨#[120,49,52]⟩ at_ w):=by
 have e:(YQ (YT ⟨#[120,49,52]⟩))=(118,14):=L;unfold YS;rw [e];obtain ⟨gk,hgk⟩:∃gk,w.heap.size=gk:=⟨_,rfl⟩;have BR:=o (U w #[z n 0,z y 0,z y 0] 159 gk hgk.symm);have M0:K (S [] w (w.alloc (P #[z n 0,z y 0,z y 0] 159))):=I;go_in;go_wp2_with fail;rw [show (⟨#[120,49,52]⟩:ByteArray).extract 1 3=⟨#[49,52]⟩ from rfl];refine (yk9 _).mono ?_;rintro e1 w1 ⟨rfl,m1⟩;have B1:=BR.out.mod m1 (ze);obtain ⟨x0,x1,x2⟩:=B1.cells3;have f0:=B1.froz 0;have f1:=B1.froz 1;have f2:=B1.froz 2;have hl:=B1.lt;have M1:=o (M0.out.trans' m1);go_wp2_with fail;have BZ:=((B1.set 0 (z n 118)).set 1 (z y 14)).set 2 (z y at_);simp only [q,j,f] at BZ;obtain ⟨z0,z1,z2⟩:=BZ.cells3;have MW:S [] w (((w1.setCell ⟨gk,0,r⟩ (z n 118)).setCell ⟨gk,1,r⟩ (z y 14)).setCell ⟨gk,2,r⟩ (z y at_)):=((M1.out.setCell _ _ (M)).setCell _ _ (M)).setCell _ _ (M);generalize ((w1.setCell ⟨gk,0,r⟩ (z n 118)).setCell ⟨gk,1,r⟩ (z y 14)).setCell ⟨gk,2,r⟩ (z y at_)=wx at *;refine X (v:=N #[z n 118,z y 14,z y at_]) (by simp [Q,Y,go_sem,z0,z1,z2];try rfl) rfl ?_;exact ⟨rfl,MW⟩
theorem zZ4 (at_:Nat) (w:V):W x 99 #[u ⟨#[120,49,53]⟩,z y at_] w (YS ⟨#[120,49,53]⟩ at_ w):=by
 have e:(YQ (YT ⟨#[120,49,53]⟩))=(118,15):=L;unfold YS;rw [e];obtain ⟨gk,hgk⟩:∃gk,w.heap.size=gk:=⟨_,rfl⟩;have BR:=o (U w #[z n 0,z y 0,z y 0] 159 gk hgk.symm);have M0:K (S [] w (w.alloc (P #[z n 0,z y 0,z y 0] 159))):=I;go_in;go_wp2_with fail;rw [show (⟨#[120,49,53]⟩:ByteArray).extract 1 3=⟨#[49,53]⟩ from rfl];refine (yk1 _).mono ?_;rintro e1 w1 ⟨rfl,m1⟩;have B1:=BR.out.mod m1 (ze);obtain ⟨x0,x1,x2⟩:=B1.cells3;have f0:=B1.froz 0;have f1:=B1.froz 1;have f2:=B1.froz 2;have hl:=B1.lt;have M1:=o (M0.out.trans' m1);go_wp2_with fail;have BZ:=((B1.set 0 (z n 118)).set 1 (z y 15)).set 2 (z y at_);simp only [q,j,f] at BZ;obtain ⟨z0,z1,z2⟩:=BZ.cells3;have MW:S [] w (((w1.setCell ⟨gk,0,r⟩ (z n 118)).setCell ⟨gk,1,r⟩ (z y 15)).setCell ⟨gk,2,r⟩ (z y at_)):=((M1.out.setCell _ _ (M)).setCell _ _ (M)).setCell _ _ (M);generalize ((w1.setCell ⟨gk,0,r⟩ (z n 118)).setCell ⟨gk,1,r⟩ (z y 15)).setCell ⟨gk,2,r⟩ (z y at_)=wx at *;refine X (v:=N #[z n 118,z y 15,z y at_]) (by simp [Q,Y,go_sem,z0,z1,z2];try rfl) rfl ?_;exact ⟨rfl,MW⟩
theorem yG4 (s:ByteArray) (h:(YQ (YT s)).1≠98) (at_:Nat) (w:V):W x 99 #[u s,z y at_] w (YS s at_ w):=by
 rcases zZ7 s h with rfl | rfl | rfl | rfl | ⟨v,hv,rfl⟩
 ·exact yB9 at_ w
 ·exact yA7 at_ w
 ·exact yx4 at_ w
 ·exact yr2 at_ w
 ·obtain rfl | rfl | rfl | rfl | rfl | rfl | rfl | rfl | rfl | rfl | rfl | rfl | rfl | rfl | rfl | rfl:v=0∨v=1∨v=2∨v=3∨v=4∨v=5∨v=6∨v=7∨v=8∨v=9∨v=10∨v=11∨v=12∨v=13∨v=14∨v=15:=zc
  ·exact yh7 at_ w
  ·exact yh2 at_ w
  ·exact yd3 at_ w
  ·exact yh5 at_ w
  ·exact ye1 at_ w
  ·exact yi5 at_ w
  ·exact yk4 at_ w
  ·exact yg8 at_ w
  ·exact yj1 at_ w
  ·exact yb3 at_ w
  ·exact zP3 at_ w
  ·exact zP4 at_ w
  ·exact zV1 at_ w
  ·exact zQ7 at_ w
  ·exact zW8 at_ w
  ·exact zZ4 at_ w
end Go.Proofs.YtbnpoapmnkfhkaaGreatDoor
