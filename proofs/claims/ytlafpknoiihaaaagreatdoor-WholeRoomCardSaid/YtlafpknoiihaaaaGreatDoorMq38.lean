/- Mq38: Gh · Gi · Gj · Gk · Gl · Gm -/
import Derived.Test.YtlafpknoiihaaaaGreatDoorMq31
import Derived.Test.YtlafpknoiihaaaaGreatDoorMq36
import Derived.Test.YtlafpknoiihaaaaGreatDoorMq37
import Derived.Test.YtlafpknoiihaaaaGreatDoorMq15
import Derived.Test.YtlafpknoiihaaaaGreatDoorMq27
import Derived.Test.YtlafpknoiihaaaaGreatDoorMq10
set_option maxRecDepth 100000
set_option maxHeartbeats 16000000
set_option linter.unusedVariables false
set_option linter.unusedSimpArgs false
namespace Go.Proofs.YtlafpknoiihaaaaGreatDoor
open Go.RowKit
theorem PgTo.open {w0 w:World} {b:Nat} {g:Bool} {F0:List Nat} {lo hi:Nat} (h:PgTo w0 b F0 g lo hi w):∃bs F,Pg w b g bs F∧lo≤bs.length∧bs.length≤hi∧Mod (b::F0) w0 w∧∀k∈F,k∈F0∨w0.heap.size≤k:=h
theorem PgTo.mod {w0 w:World} {b:Nat} {g:Bool} {F0:List Nat} {lo hi:Nat} (h:PgTo w0 b F0 g lo hi w):Mod (b::F0) w0 w:=by
 obtain ⟨bs,F,h1,h2,h3,h4,h5⟩:=h
 exact h4
theorem wordS {w0 w:World} {b:Nat} {F0:List Nat} {g:Bool} {lo hi:Nat} (h:PgTo w0 b F0 g lo hi w) (s:ByteArray) (hs0:0 < s.size) (hs1:s.size≤20) (hl:hi≤800000):
 Calls Tryz.prog 72 #[.pointer (some ⟨b,0,none⟩),.string s] w fun e w'=>e=.returned (.tuple #[])∧PgTo w0 b F0 true lo (hi+21) w':=by
 obtain ⟨bs,F,h1,h2,h3,h4,h5⟩:=h
 refine (pgWord_c h1 s hs0 (by omega) (by omega)).mono ?_
 rintro e w' ⟨rfl,h⟩
 exact ⟨rfl,(PgTo.trans h4 h5 h).le (by omega) (by omega)⟩
theorem wordL {w0 w:World} {b:Nat} {F0:List Nat} {g:Bool} {lo hi:Nat} (h:PgTo w0 b F0 g lo hi w) (s:ByteArray) (hs0:0 < s.size) (hs1:s.size≤20) (hl:hi≤800000):
 Calls Tryz.prog 72 #[.pointer (some ⟨b,0,none⟩),.string s] w fun e w'=>e=.returned (.tuple #[])∧PgTo w0 b F0 true (lo+s.size) (hi+21) w':=by
 obtain ⟨bs,F,h1,h2,h3,h4,h5⟩:=h
 refine (pgWord_c h1 s hs0 (by omega) (by omega)).mono ?_
 rintro e w' ⟨rfl,h⟩
 exact ⟨rfl,(PgTo.trans h4 h5 h).le (by omega) (by omega)⟩
theorem numS {w0 w:World} {b:Nat} {F0:List Nat} {g:Bool} {lo hi:Nat} (h:PgTo w0 b F0 g lo hi w) (n:Nat) (hn:n < 10) (hl:hi≤800000):
 Calls Tryz.prog 73 #[.pointer (some ⟨b,0,none⟩),.int .i64 n] w fun e w'=>e=.returned (.tuple #[])∧PgTo w0 b F0 true lo (hi+2) w':=by
 obtain ⟨bs,F,h1,h2,h3,h4,h5⟩:=h
 refine (num_c2 h1 n hn (by omega)).mono ?_
 rintro e w' ⟨rfl,h⟩
 exact ⟨rfl,(PgTo.trans h4 h5 h).le (by omega) (by omega)⟩
theorem endS {w0 w:World} {b:Nat} {F0:List Nat} {g:Bool} {lo hi:Nat} (h:PgTo w0 b F0 g lo hi w) (hl:hi≤800000):
 Calls Tryz.prog 76 #[.pointer (some ⟨b,0,none⟩)] w fun e w'=>e=.returned (.tuple #[])∧PgTo w0 b F0 false lo (hi+1) w':=by
 obtain ⟨bs,F,h1,h2,h3,h4,h5⟩:=h
 refine (end_c h1 (by omega)).mono ?_
 rintro e w' ⟨rfl,h⟩
 exact ⟨rfl,(PgTo.trans h4 h5 h).le (by omega) (by omega)⟩
theorem Mng.away {w w':World} {bm n room:Nat} {L:List Rc} {Fs p:List Nat} {H:List (Nat × Ed)} {bs bo bq:Nat} {F S:List Nat} (h:Mng w bm n room L Fs p H bs bo bq F) (m:Mod S w w') (h1:∀k∈F,k∉S) (h2:∀k∈Fs,k∉S):Mng w' bm n room L Fs p H bs bo bq F:=by
 obtain ⟨ba,bg,vk,vq,vg,Fo,q,a1,a2,a3,a4,a5,a6,rfl,a7,a8⟩:=h.m
 exact ⟨⟨ba,bg,vk,vq,vg,Fo,q,a1.mod m (h1 _ (by simp)),a2.mod m (fun k hk=>h1 k (by simp [hk])),a3,a4.mod m (h1 _ (by simp)),a5.mod m (h1 _ (by simp)),a6.mod m (h1 _ (by simp)),rfl,a7,a8⟩,h.s.mod m h2⟩
theorem tsz_nds:∀T:Tr,tsz T=2 *(nds T).length+1:=by
 intro T
 induction T with
 | leaf b=>rfl
 | node t b tl x th y ihx ihy=>simp [tsz,nds];omega
theorem disLen {α:Type} [DecidableEq α]:∀(l out:List α),(dis out l).length≤out.length+l.length:=by
 intro l
 induction l with
 | nil=>intro out;simp [dis]
 | cons x l ih=>
  intro out
  unfold dis
  refine Nat.le_trans (ih _) ?_
  split<;>simp<;>omega
theorem sizeN3 (W:Nat) (p:List Nat) (f:Nat):sizeN 3 W p f≤7:=by
 unfold sizeN
 have h1:=tsz_build (n:=3) f 3 0 (tabL W p 3 0 0)
 have h2:=tsz_nds (buildE f 3 3 0 (tabL W p 3 0 0)).2
 have h3:=disLen (nds (buildE f 3 3 0 (tabL W p 3 0 0)).2) []
 simp at h1 h3
 omega
theorem sizesN3 (W:Nat) (p:List Nat):∀z∈sizesN 3 W p,z < 10:=by
 intro z hz
 simp [sizesN] at hz
 rcases hz with rfl | rfl | rfl | rfl | rfl<;>(have:=sizeN3 W p;first | (have:=this 1;omega) | (have:=this 2;omega) | (have:=this 3;omega) | (have:=this 4;omega) | (have:=this 5;omega))
open Go.RowKit
theorem itoaColon_size (s:ByteArray) (h:s.size=1):(s++(⟨#[58]⟩:ByteArray)).size=2:=by rw [ByteArray.size_append,h];rfl
theorem line_c {w0:World} {bm room b:Nat} {L:List Rc} {Fs p:List Nat} {H:List (Nat × Ed)} {bs bo bq:Nat} {F F0:List Nat} (h:Mng w0 bm 3 room L Fs p H bs bo bq F) (hbF:∀k∈F,k∉b::F0) (hbS:∀k∈Fs,k∉b::F0) (hL:L.length≤1048576) (hnd:L.Nodup) (hG:Good L 3) (hp:Perm p 3) (hH:H.length < 10)
 {a f:Nat} {e:Ed} {T:Tr} (hf:H[a]? =some (f,e)) (hD:Dia L 3 f e T) {W:World} {g:Bool} {lo hi:Nat} (hW:PgTo w0 b F0 g lo hi W) (hhi:hi≤700000):
 Calls Tryz.prog 78 #[.pointer (some ⟨b,0,none⟩),.pointer (some ⟨bm,0,none⟩),.int .i64 ((a+1:Nat):Int)] W fun e' w'=>e'=.returned (.int .u8 0)∧PgTo w0 b F0 false lo (hi+300) w':=by
 have MG:Hid (∀V,Mod (b::F0) w0 V→Mng V bm 3 room L Fs p H bs bo bq F):=fun V md=>h.away md hbF hbS
 have hpv:∀v∈p,v < 16:=fun v hv=>by have:=hp.lt v hv;omega
 have FO:Hid (∀V,Mod (b::F0) w0 V→_):=fun V md=>by
  obtain ⟨⟨q,hq⟩,-⟩:=(MG.out V md).own
  exact form_c hq (by omega) hf
 have CO:Hid (∀V,Mod (b::F0) w0 V→_):=fun V md=>mngCount_c (MG.out V md) hL hnd hG hp.len hpv (by omega) hf hD
 have SI:Hid (∀V,Mod (b::F0) w0 V→_):=fun V md=>mngSize_c (MG.out V md) hL hnd hG hp.len hpv (by omega) hf hD
 have SU:Hid (∀V,Mod (b::F0) w0 V→_):=fun V md=>mngSupport_c (MG.out V md) hL hnd hG hp.len hpv (by omega) hf hD
 have SE:Hid (∀V,Mod (b::F0) w0 V→_):=fun V md=>mngSet_c (MG.out V md) hL hnd hG hp.len hpv (by omega) hf hD
 have OR:Hid (∀V,Mod (b::F0) w0 V→_):=fun V md=>mngOrder_c (MG.out V md) (by rw [hp.len];omega)
 have VA:Hid (∀V,Mod (b::F0) w0 V→_):=fun V md=>mngVars_c (MG.out V md)
 have OO:Hid (∀V v Fv,Rv V v (p.map ei) Fv→_):=fun V v Fv hv=>orderOf_c hv hp (by omega)
 have SS:Hid (∀V bo' q' Fo' g' wd,IsOrd V bo' p q' Fo'→V.cell? ⟨g',0,none⟩=some (.int .u64 (wd:Nat))→wd < 256→Calls Tryz.prog 109 #[.pointer (some ⟨bo',0,none⟩),.agg #[.int .i64 3,.slice (some ⟨g',0,none⟩) 1 1]] V (SizesP V 3 wd p)):=fun V bo' q' Fo' g' wd ho hc hw=>
  sizes_c (n:=3) ho hc (by omega) hp.len hp.lt (by simpa using hw) (fun f h1 h5=>sizes_ok (n:=3) p (by omega) f h1 h5)
 obtain ⟨hl,-⟩:=List.getElem?_eq_some_iff.1 hf
 obtain ⟨m,hm⟩:∃m,a+1=m:=⟨_,rfl⟩
 rw [hm] at FO CO SI SU SE ⊢
 have IT:=Lib.hid (itoa_c m (by omega))
 have NA:=Lib.hid (name_c f hD.f1 (Nat.le_trans hD.f2 (by omega)))
 have P0:=Lib.hid hW
 have HPL:Hid ((p.map ei).length=3):=by show _=_;rw [List.length_map,hp.len]
 clear h hbF hbS hf hD hW hL hnd hG hp hH hl hm MG hpv
 go_enter Tryz.func78,Tryz.ntmps78
 go_wp2_with fail
 refine (FO.out _ P0.out.mod).mono ?_
 rintro e w1 ⟨rfl,m1⟩
 have P1:=Lib.hid (P0.out.later m1)
 clear m1 P0 FO
 go_wp2_with fail
 refine (CO.out _ P1.out.mod).mono ?_
 rintro e w2 ⟨nc,rfl,hnc,m2⟩
 have P2:=Lib.hid (P1.out.later m2)
 clear m2 P1 CO
 go_wp2_with fail
 refine (SI.out _ P2.out.mod).mono ?_
 rintro e w3 ⟨ns,rfl,hns,m3⟩
 have P3:=Lib.hid (P2.out.later m3)
 clear m3 P2 SI
 go_wp2_with fail
 refine (SU.out _ P3.out.mod).mono ?_
 rintro e w4 ⟨nu,rfl,hnu,m4⟩
 have P4:=Lib.hid (P3.out.later m4)
 clear m4 P3 SU
 go_wp2_with fail
 refine (SE.out _ P4.out.mod).mono ?_
 rintro e w5 ⟨gw,wd,rfl,hwd,bw,hgw,m5⟩
 have P5:=Lib.hid (P4.out.later m5)
 obtain ⟨gs,hgs⟩:∃gs,w5.heap.size=gs:=⟨_,rfl⟩
 have B5:=Lib.hid (Blk.new' w5 #[.int .i64 3,.slice (some ⟨gw,0,none⟩) 1 1] 39 gs hgs.symm)
 have BW:=Lib.hid (bw.alloc (.cells #[.int .i64 3,.slice (some ⟨gw,0,none⟩) 1 1] 39))
 have P6:=Lib.hid (P5.out.later (show Mod [] w5 (w5.alloc (.cells #[.int .i64 3,.slice (some ⟨gw,0,none⟩) 1 1] 39)) from by exact mods))
 clear m5 P4 P5 SE bw hgw
 go_wp2_with fail
 clear hgs
 generalize w5.alloc (.cells #[.int .i64 3,.slice (some ⟨gw,0,none⟩) 1 1] 39)=w6 at *
 refine (OR.out _ P6.out.mod).mono ?_
 rintro e w7 ⟨v7,rfl,n7⟩
 have P7:=Lib.hid (P6.out.later n7.mod)
 have B7:=Lib.hid (B5.out.mod n7.mod (by simp))
 have BW7:=Lib.hid (BW.out.mod n7.mod (by simp))
 obtain ⟨Fv,rv7,-⟩:=n7.rv
 have OC:=Lib.hid (OO.out _ _ _ rv7)
 obtain ⟨A7,cap7,rfl⟩:=n7.shape
 rw [HPL.out] at OC ⊢
 clear n7 rv7 P6 B5 BW OR OO
 go_wp2_with fail
 refine OC.out.mono ?_
 rintro e w8 ⟨bo8,q8,F8,rfl,ho8,-,m8,-⟩
 have P8:=Lib.hid (P7.out.later m8)
 have B8:=Lib.hid (B7.out.mod m8 (by simp))
 have BW8:=Lib.hid (BW7.out.mod m8 (by simp))
 have c8:=BW8.out.cell 0
 simp only [List.getElem?_toArray,List.getElem?_cons_zero] at c8
 have SC:=Lib.hid (SS.out _ _ _ _ gw wd ho8 c8 hwd)
 obtain ⟨bsP,FP,pgP,hloP,hhiP,mP,fP⟩:=P8.out.open
 have PGP:=Lib.hid pgP
 have LPP:=Lib.hid pgP.lt
 have MPP:=Lib.hid mP
 have FPP:=Lib.hid fP
 have HLP:=Lib.hid (And.intro hloP hhiP)
 clear pgP mP fP hloP hhiP
 obtain ⟨d0,d1⟩:=B8.out.cells2
 have hdl:=B8.out.lt
 clear c8 ho8 m8 P7 B7 BW7 OC SS
 go_wp2_with fail
 refine SC.out.mono ?_
 rintro e w9 ⟨v9,rfl,n9⟩
 have Q9:=Lib.hid (PgTo.refl (PGP.out.mod n9.mod (by simp)))
 have M9:=Lib.hid (MPP.out.trans' (n9.mod.mono (by simp)))
 have SZN:=Lib.hid (sizesN3 wd p)
 obtain ⟨A9,cap9,rfl⟩:=n9.shape
 have hlen9:((sizesN 3 wd p).map ei).length=5:=by simp [sizesN]
 have LEN9:=Lib.hid (show (sizesN 3 wd p).length=5 by simp [sizesN])
 obtain ⟨FN,sN,mN,fN⟩:=n9
 have RV9:Hid (∀V,Mod (b::FP) w9 V→Rv V (.slice A9 ((sizesN 3 wd p).map ei).length cap9) ((sizesN 3 wd p).map ei) FN):=fun V md=>(Rv.of_sl sN rfl).mod md (fun k hk hm=>by have h1:=fN k hk;have h2:=LPP.out k hm;omega)
 have VB:Hid (∀V,Mod (b::FP) w9 V→_):=fun V md=>VA.out V (M9.out.trans md (by
  intro i hi hm
  rcases List.mem_cons.1 hm with rfl | hm
  ·simp
  ·rcases FPP.out i hm with q | q
   ·simp [q]
   ·omega))
 have FINP:Hid (∀V lo' hi',PgTo w9 b FP false lo' hi' V→PgTo w0 b F0 false lo' hi' V):=fun V lo' hi' h=>PgTo.trans M9.out (fun k hk=>FPP.out k hk) h
 rw [hlen9] at RV9 ⊢
 clear sN mN fN d0 d1 hdl SC P8 hlen9 VA MPP B8 BW8 PGP
 generalize sizesN 3 wd p=szs at *
 generalize bsP.length=n0 at *
 have hn0:n0≤hi:=HLP.out.2
 go_wp2_with fail
 refine (IT.out _).mono ?_
 rintro e w9 ⟨⟨s,rfl,hs⟩,rfl⟩
 have HS2:=Lib.hid (itoaColon_size s hs)
 go_wp2_with fail
 refine (wordS Q9.out _ (by rw [HS2.out];omega) (by rw [HS2.out];omega) (by omega)).mono ?_
 rintro e v1 ⟨rfl,p1⟩
 have P1:=Lib.hid p1
 clear p1 hs Q9
 go_wp2_with fail
 refine (NA.out _).mono ?_
 rintro e v1 ⟨⟨s2,rfl,hs3,hs4⟩,rfl⟩
 go_wp2_with fail
 refine (wordS P1.out _ (by omega) (by omega) (by omega)).mono ?_
 rintro e v2 ⟨rfl,p2⟩
 have P2:=Lib.hid p2
 clear p2 P1
 go_wp2_with fail
 refine (wordS P2.out _ (by decide) (by decide) (by omega)).mono ?_
 rintro e v3 ⟨rfl,p3⟩
 have P3:=Lib.hid p3
 clear p3 P2
 go_wp2_with fail
 refine (numS P3.out nc (by omega) (by omega)).mono ?_
 rintro e v4 ⟨rfl,p4⟩
 have P4:=Lib.hid p4
 clear p4 P3
 go_wp2_with fail
 refine (wordS P4.out _ (by decide) (by decide) (by omega)).mono ?_
 rintro e v5 ⟨rfl,p5⟩
 have P5:=Lib.hid p5
 clear p5 P4
 go_wp2_with fail
 refine (numS P5.out ns (by omega) (by omega)).mono ?_
 rintro e v6 ⟨rfl,p6⟩
 have P6:=Lib.hid p6
 clear p6 P5
 go_wp2_with fail
 refine (wordS P6.out _ (by decide) (by decide) (by omega)).mono ?_
 rintro e v7 ⟨rfl,p7⟩
 have P7:=Lib.hid p7
 clear p7 P6
 go_wp2_with fail
 refine (VB.out _ P7.out.mod).mono ?_
 rintro e v8 ⟨rfl,rfl⟩
 have P8:Hid (PgTo w9 b FP true n0 (n0+200) v8):=P7.out.le (Nat.le_refl _) (by omega)
 clear P7
 go_wp2_with fail
 go_loopw [21,92] (fun _ i wr=>∃k:Nat,i=.int .i64 k∧k≤3∧Hid (PgTo w9 b FP true n0 (n0+200+2 *k) wr)) (fun _ i _=>3 - (intOf i).toNat)
 case atStart=>exact ⟨0,rfl,by omega,P8⟩
 case round=>
  clear P8
  obtain ⟨k,rfl,hk,PR⟩:=hrel
  by_cases hlt:k < 3
  ·have hlt':(k:Int) < 3:=by omega
   have hk0:(0:Int)≤k:=by omega
   cases hb:(bits BinOp.and IntKind.u16 ((nu:Int) / 2 ^ k) 1==1) with
   | false=>
    go_wp2_with fail
    go_roundw
    case rel=>exact ⟨k+1,by first | rfl | go_num,by omega,PR.out.le (Nat.le_refl _) (by omega)⟩
    case measure=>simp [intOf];omega
   | true=>
    go_wp2_with fail
    refine (numS PR.out k (by omega) (by omega)).mono ?_
    rintro e v9 ⟨rfl,p9⟩
    have P9:=Lib.hid p9
    clear p9
    go_wp2_with fail
    go_roundw
    case rel=>exact ⟨k+1,by first | rfl | go_num,by omega,P9.out.le (Nat.le_refl _) (by omega)⟩
    case measure=>simp [intOf];omega
  ·obtain rfl:k=3:=by omega
   clear hk hlt
   go_wp2_with fail
   refine (wordS PR.out _ (by decide) (by decide) (by omega)).mono ?_
   rintro e va ⟨rfl,pa⟩
   have PA:Hid (PgTo w9 b FP true n0 (n0+230) va):=pa.le (Nat.le_refl _) (by omega)
   clear pa PR
   go_wp2_with fail
   go_loopw [23,108] (fun _ i wr=>∃k:Nat,i=.int .i64 k∧k≤5∧Hid (PgTo w9 b FP true n0 (n0+230+2 *k) wr)) (fun _ i _=>5 - (intOf i).toNat)
   case atStart=>exact ⟨0,rfl,by omega,PA⟩
   case round=>
    clear PA
    obtain ⟨k,rfl,hk,PR⟩:=hrel
    by_cases hlt:k < 5
    ·have hlt':(k:Int) < 5:=by omega
     have hk0:(0:Int)≤k:=by omega
     have hkl:k < szs.length:=by rw [LEN9.out];exact hlt
     obtain ⟨gb,off,rfl,hc⟩:=(RV9.out _ PR.out.mod).at k (by simpa using hkl)
     rw [List.getElem_map] at hc
     have hz:=SZN.out szs[k] (List.getElem_mem hkl)
     generalize szs[k]=z at *
     have hc':wr.cell? ⟨gb,off+k,none⟩=some (.int .i64 (z:Int)):=hc
     clear hc hkl
     go_wp2_with fail
     refine (numS PR.out z hz (by omega)).mono ?_
     rintro e v9 ⟨rfl,p9⟩
     have P9:=Lib.hid p9
     clear p9
     go_wp2_with fail
     go_roundw
     case rel=>exact ⟨k+1,by first | rfl | go_num,by omega,P9.out.le (Nat.le_refl _) (by omega)⟩
     case measure=>simp [intOf];omega
    ·obtain rfl:k=5:=by omega
     clear hk hlt
     go_wp2_with fail
     refine (endS PR.out (by omega)).mono ?_
     rintro e vz ⟨rfl,pz⟩
     have PZ:=Lib.hid (FINP.out _ _ _ pz)
     clear pz PR
     go_wp2_with fail
     go_ret
     exact ⟨rfl,PZ.out.le HLP.out.1 (by omega)⟩
open Go.RowKit
theorem Mod.freeze {S:List Nat} {a w:World} (h:Mod S a w) (p:Addr) (n:Nat) (hp:p.block∈S):Mod S a (w.freeze p n):=by
 refine h.trans' ?_
 unfold World.freeze
 split
 ·exact Mod.refl S w
 ·exact ⟨rfl,rfl,rfl,by simp,fun k hk hn=>by
   simp only [Array.getElem?_modify]
   rw [if_neg (by rintro rfl;exact hn hp)]⟩
theorem bString_c {w:World} {b:Nat} {g:Bool} {bs:List Value} {F:List Nat} (h:Pg w b g bs F) (h0:0 < bs.length) (hl:bs.length≤1000000):
 Calls Tryz.prog 46 #[.pointer (some ⟨b,0,none⟩)] w fun e w'=>∃s:ByteArray,e=.returned (.string s)∧s.size=bs.length∧Mod F w w':=by
 obtain ⟨p,v,⟨-,l,rfl⟩,h2,h3,-⟩:=h
 rcases h3.2 with ⟨-,q,-⟩ | ⟨g2,cap,cur,rfl,rfl,hg,hnc,hcm,hcs,htake⟩
 ·omega
 ·rw [Lib.byteCells_length] at h0 hl h2 hnc htake ⊢
  have hcell:∀j x,l[j]? =some x→w.drew.cell? ((⟨g2,0,none⟩:Addr).add j)=some (.int .u8 x.toNat):=fun j x hj=>by
   have h4:=h3.own.cells (g:=g2) rfl j (.int .u8 x.toNat) (by unfold Lib.byteCells;rw [List.getElem?_map,hj];rfl)
   exact h4
  have hsh0:w.shape? g2=some (5,cur.size):=by unfold Blk at hg;simp [World.shape?,hg]
  have hsh:w.drew.shape? g2=some (5,cur.size):=hsh0
  have c1:w.drew.cell? ⟨b,1,none⟩=some (.slice (some ⟨g2,0,none⟩) l.length cap):=by
   have:w.cell? ⟨b,1,none⟩=_:=h2.cell 1
   exact this
  have hSD:(Builtin.unsafeSliceData_ #[96] 162 #[.slice (some ⟨g2,0,none⟩) l.length cap]).run Tryz.prog w.drew=.ok (.pointer (some ⟨g2,0,none⟩)) w.drew:=Lib.run_unsafeSliceData_row _ _ _ _ _ _ (by omega)
  have hUS:(Builtin.unsafeString_ #[162,3] 9 #[.pointer (some ⟨g2,0,none⟩),.int .i64 l.length]).run Tryz.prog w.drew=.ok (.string ⟨l.toArray⟩) (w.drew.freeze ⟨g2,0,none⟩ l.length):=
   Lib.run_unsafeString_row (P:=Tryz.prog) w.drew 162 3 9 5 Tryz.underlying162 (by kernel_rfl) g2 cur.size hsh l (by intro e;rw [e] at h0;simp at h0) (by omega) (by omega) hcell
  have MF:Hid (Mod [g2] w (w.drew.freeze ⟨g2,0,none⟩ l.length)):=Mod.freeze ((Mod.refl [g2] w).drew) _ _ (by simp)
  have HN:Hid ((⟨l.toArray⟩:ByteArray).size=l.length):=by show _=_;simp [ByteArray.size]
  generalize (⟨l.toArray⟩:ByteArray)=s at *
  clear h2 h3 hg hcm hcs htake hcell hsh hsh0
  generalize l.length=n at *
  clear h0 hl hnc
  go_enter Tryz.func46,Tryz.ntmps46
  go_wp2
  go_region
  all_goals
   go_wp2
   go_ret
   exact ⟨s,rfl,HN.out,MF.out⟩
open Go.RowKit
theorem PgTo.rebase {w0 W W':World} {b E:Nat} {F0:List Nat} {g:Bool} {lo hi:Nat} {xs:List Value} {v:Value} (h:PgTo w0 b F0 g lo hi W) (n:NewV E W xs W' v):
 ∃n0 FP FN,lo≤n0∧n0≤hi∧PgTo W' b FP g n0 n0 W'∧(∀V,Mod (b::FP) W' V→Rv V v xs FN)∧(∀V g' lo' hi',PgTo W' b FP g' lo' hi' V→PgTo w0 b F0 g' lo' hi' V)∧(∀V,Mod (b::FP) W' V→Mod (b::F0) w0 V)∧(∀k∈FP,k∈F0∨w0.heap.size≤k):=by
 obtain ⟨bs,F,h1,h2,h3,h4,h5⟩:=h
 obtain ⟨FN,sN,mN,fN⟩:=n
 have hlt:=h1.lt
 refine ⟨bs.length,F,FN,h2,h3,PgTo.refl (h1.mod mN (by simp)),fun V md=>?_,fun V g' lo' hi' hp=>PgTo.trans (h4.trans' (mN.mono (by simp))) h5 hp,fun V md=>?_,h5⟩
 ·exact (Rv.of_sl sN rfl).mod md (fun k hk hm=>by have a1:=fN k hk;have a2:=hlt k hm;omega)
 ·refine (h4.trans' (mN.mono (by simp))).trans md ?_
  intro i hi hm
  rcases List.mem_cons.1 hm with rfl | hm
  ·simp
  ·rcases h5 i hm with q | q
   ·simp [q]
   ·omega
theorem pageReport_c {w0:World} {bm room b:Nat} {L:List Rc} {Fs p:List Nat} {H:List (Nat × Ed)} {bs bo bq:Nat} {F:List Nat} (h:Mng w0 bm 3 room L Fs p H bs bo bq F) (hbF:∀k∈F,k≠b) (hbS:∀k∈Fs,k≠b) (hL:L.length < 10) (hnd:L.Nodup) (hG:Good L 3) (hp:Perm p 3) (hH:H.length < 10)
 (hD:∀(a f:Nat) (e:Ed),H[a]? =some (f,e)→∃T,Dia L 3 f e T) {ts:List (Nat × Tr)} (hts:EdTrees L (H.map (·.2)) ts) (hsz:tszs ts≤1000000) (hall:∀id,2≤id→id < L.length+2→idsAll L ts id)
 {W:World} (hW:PgTo w0 b [] false 0 0 W):
 Calls Tryz.prog 45 #[.pointer (some ⟨b,0,none⟩),.pointer (some ⟨bm,0,none⟩)] W fun e' w'=>e'=.returned (.tuple #[])∧PgTo w0 b [] false 21 10000 w':=by
 obtain ⟨-,-,hFlt⟩:=h.own
 have hSlt:=h.s.lt
 have MG:Hid (∀V,Mod [b] w0 V→Mng V bm 3 room L Fs p H bs bo bq F):=fun V md=>h.away md (fun k hk hm=>hbF k hk (by simpa using hm)) (fun k hk hm=>hbS k hk (by simpa using hm))
 have VA:Hid (∀V,Mod [b] w0 V→_):=fun V md=>mngVars_c (MG.out V md)
 have OR:Hid (∀V,Mod [b] w0 V→_):=fun V md=>mngOrder_c (MG.out V md) (by rw [hp.len];omega)
 have LI:Hid (∀V,Mod [b] w0 V→Calls Tryz.prog 77 #[.pointer (some ⟨bm,0,none⟩)] V fun e w'=>∃v,e=.returned v∧NewV 3 V ((List.range H.length).map fun i=>ei (i+1)) w' v):=fun V md=>by
  obtain ⟨⟨q,hq⟩,-⟩:=(MG.out V md).own
  exact live_c hq (by omega)
 have NO:Hid (∀V,Mod [b] w0 V→_):=fun V md=>mngNodes_c (MG.out V md)
 have CL:Hid (∀V,Mod [b] w0 V→_):=fun V md=>mngCollect_c (MG.out V md) (by omega) hnd (by omega) hts hsz hall
 have LN:Hid (∀(w1:World) (FP:List Nat) (j:Nat) (W1:World) (g:Bool) (lo hi:Nat),Mod [b] w0 w1→(∀k∈FP,k∈[]∨w0.heap.size≤k)→j < H.length→PgTo w1 b FP g lo hi W1→hi≤700000→
  Calls Tryz.prog 78 #[.pointer (some ⟨b,0,none⟩),.pointer (some ⟨bm,0,none⟩),.int .i64 ((j+1:Nat):Int)] W1 fun e' w'=>e'=.returned (.int .u8 0)∧PgTo w1 b FP false lo (hi+300) w'):=fun w1 FP j W1 g lo hi md hfp hj hpg hh=>by
  obtain ⟨T,hT⟩:=hD j H[j].1 H[j].2 (List.getElem?_eq_getElem hj)
  refine line_c (MG.out w1 md) ?_ ?_ (by omega) hnd hG hp (by omega) (List.getElem?_eq_getElem hj) hT hpg hh
  ·intro k hk hm
   rcases List.mem_cons.1 hm with rfl | hm
   ·exact hbF _ hk rfl
   ·rcases hfp k hm with q | q
    ·simp at q
    ·have:=hFlt k hk;omega
  ·intro k hk hm
   rcases List.mem_cons.1 hm with rfl | hm
   ·exact hbS _ hk rfl
   ·rcases hfp k hm with q | q
    ·simp at q
    ·have:=hSlt k hk;omega
 have HPL:Hid ((p.map ei).length=3):=by show _=_;rw [List.length_map,hp.len]
 have HPV:Hid (∀(k:Nat) (hk:k < p.length),p[k] < 3):=fun k hk=>hp.lt _ (List.getElem_mem hk)
 have HPN:=Lib.hid hp.len
 obtain ⟨N,hN⟩:∃N,H.length=N:=⟨_,rfl⟩
 rw [hN] at LI LN hH
 obtain ⟨NL,hNL⟩:∃NL,L.length=NL:=⟨_,rfl⟩
 rw [hNL] at NO hL
 have P0:=Lib.hid hW
 clear h hbF hbS hnd hG hp hD hts hsz hall hW hFlt hSlt MG hN hNL
 go_enter Tryz.func45,Tryz.ntmps45
 go_wp2_with fail
 refine (wordL P0.out ⟨#[118,97,114,115]⟩ (by decide) (by decide) (by omega)).mono ?_
 rintro e v1 ⟨rfl,p1⟩
 have P1:Hid (PgTo w0 b [] true 4 21 v1):=p1.le (by decide) (by omega)
 clear p1 P0
 go_wp2_with fail
 refine (VA.out _ P1.out.mod).mono ?_
 rintro e v2 ⟨rfl,rfl⟩
 go_wp2_with fail
 refine (numS P1.out 3 (by omega) (by omega)).mono ?_
 rintro e v3 ⟨rfl,p3⟩
 have P3:=Lib.hid p3
 clear p3 P1
 go_wp2_with fail
 refine (wordL P3.out ⟨#[111,114,100,101,114]⟩ (by decide) (by decide) (by omega)).mono ?_
 rintro e v4 ⟨rfl,p4⟩
 have P4:Hid (PgTo w0 b [] true 9 100 v4):=p4.le (by decide) (by omega)
 clear p4 P3
 go_wp2_with fail
 refine (OR.out _ P4.out.mod).mono ?_
 rintro e v5 ⟨vo,rfl,n5⟩
 obtain ⟨n0,FP,FN,hn0,hn1,q5,rv5,bk5,md5,-⟩:=P4.out.rebase n5
 obtain ⟨A5,cap5,rfl⟩:=n5.shape
 have Q5:=Lib.hid q5
 have RV5:=Lib.hid rv5
 have BK5:=Lib.hid bk5
 have MD5:=Lib.hid md5
 rw [HPL.out] at RV5 ⊢
 clear q5 rv5 bk5 md5 n5 P4 OR
 go_wp2_with fail
 go_loopw [5,20] (fun _ i wr=>∃k:Nat,i=.int .i64 k∧k≤3∧Hid (PgTo v5 b FP true n0 (n0+2 *k) wr)) (fun _ i _=>3 - (intOf i).toNat)
 case atStart=>exact ⟨0,rfl,by omega,Q5⟩
 case round=>
  clear Q5
  obtain ⟨k,rfl,hk,PR⟩:=hrel
  by_cases hlt:k < 3
  ·have hlt':(k:Int) < 3:=by omega
   have hk0:(0:Int)≤k:=by omega
   have hkl:k < p.length:=by rw [HPN.out];exact hlt
   obtain ⟨gb,off,rfl,hc⟩:=(RV5.out _ PR.out.mod).at k (by simpa using hkl)
   rw [List.getElem_map] at hc
   have hz:=HPV.out k hkl
   generalize p[k]=z at *
   have hc':wr.cell? ⟨gb,off+k,none⟩=some (.int .i64 (z:Int)):=hc
   clear hc hkl
   go_wp2_with fail
   refine (numS PR.out z (by omega) (by omega)).mono ?_
   rintro e v9 ⟨rfl,p9⟩
   have P9:=Lib.hid p9
   clear p9
   go_wp2_with fail
   go_roundw
   case rel=>exact ⟨k+1,by first | rfl | go_num,by omega,P9.out.le (Nat.le_refl _) (by omega)⟩
   case measure=>simp [intOf];omega
  ·obtain rfl:k=3:=by omega
   clear hk hlt
   go_wp2_with fail
   refine (endS PR.out (by omega)).mono ?_
   rintro e v6 ⟨rfl,p6⟩
   have P6:Hid (PgTo w0 b [] false 9 200 v6):=(BK5.out _ _ _ _ p6).le hn0 (by omega)
   clear p6 PR BK5 RV5 MD5 hn0 hn1
   go_wp2_with fail
   refine (LI.out _ P6.out.mod).mono ?_
   rintro e v7 ⟨vl,rfl,n7⟩
   obtain ⟨n2,FL,FM,hn2,hn3,q7,rv7,bk7,md7,fp7⟩:=P6.out.rebase n7
   obtain ⟨A7,cap7,rfl⟩:=n7.shape
   have Q7:=Lib.hid q7
   have RV7:=Lib.hid rv7
   have BK7:=Lib.hid bk7
   have MD7:=Lib.hid md7
   have FP7:=Lib.hid fp7
   rw [List.length_map,List.length_range] at RV7 ⊢
   clear q7 rv7 bk7 md7 n7 P6 LI fp7
   go_wp2_with fail
   go_loopw [8,34] (fun _ i wr=>∃k:Nat,i=.int .i64 k∧k≤N∧Hid (PgTo v7 b FL false n2 (n2+300 *k) wr)) (fun _ i _=>N - (intOf i).toNat)
   case atStart=>exact ⟨0,rfl,by omega,Q7⟩
   case round=>
    clear Q7
    obtain ⟨k,rfl,hk,PR⟩:=hrel
    by_cases hlt:k < N
    ·have hlt':(k:Int) < N:=by omega
     have hk0:(0:Int)≤k:=by omega
     obtain ⟨gb,off,rfl,hc⟩:=(RV7.out _ PR.out.mod).at k (by simpa using hlt)
     rw [List.getElem_map,List.getElem_range] at hc
     have hc':wr.cell? ⟨gb,off+k,none⟩=some (.int .i64 ((k+1:Nat):Int)):=hc
     have LK:=Lib.hid (LN.out v7 FL k wr false n2 (n2+300 *k) (MD7.out _ (Mod.refl _ _)) FP7.out hlt PR.out (by omega))
     obtain ⟨m,hm⟩:∃m,k+1=m:=⟨_,rfl⟩
     have HM:=Lib.hid hm
     rw [hm] at hc' LK
     clear hc hm
     go_wp2_with fail
     refine LK.out.mono ?_
     rintro e v9 ⟨rfl,p9⟩
     have P9:=Lib.hid p9
     clear p9
     go_wp2_with fail
     go_roundw
     case rel=>exact ⟨k+1,by first | rfl | go_num,by omega,P9.out.le (Nat.le_refl _) (by omega)⟩
     case measure=>simp [intOf];omega
    ·obtain rfl:k=N:=by omega
     have P8:Hid (PgTo w0 b [] false 9 4000 wr):=(BK7.out _ _ _ _ PR.out).le hn2 (by omega)
     clear hk hlt PR BK7 MD7 RV7 FP7 LN hn2 hn3
     go_wp2_with fail
     refine (CL.out _ P8.out.mod).mono ?_
     rintro e v9 ⟨rfl,m9⟩
     have P9:=Lib.hid (P8.out.later m9)
     clear m9 P8
     go_wp2_with fail
     refine (wordL P9.out ⟨#[104,97,110,100,108,101,115]⟩ (by decide) (by decide) (by omega)).mono ?_
     rintro e va ⟨rfl,pa⟩
     have PA:Hid (PgTo w0 b [] true 16 5000 va):=pa.le (by decide) (by omega)
     clear pa P9
     go_wp2_with fail
     refine (numS PA.out k (by omega) (by omega)).mono ?_
     rintro e vb ⟨rfl,pb⟩
     have PB:=Lib.hid pb
     clear pb PA
     go_wp2_with fail
     refine (wordL PB.out ⟨#[110,111,100,101,115]⟩ (by decide) (by decide) (by omega)).mono ?_
     rintro e vc ⟨rfl,pc⟩
     have PC:Hid (PgTo w0 b [] true 21 6000 vc):=pc.le (by decide) (by omega)
     clear pc PB
     go_wp2_with fail
     refine (NO.out _ PC.out.mod).mono ?_
     rintro e vd ⟨rfl,rfl⟩
     go_wp2_with fail
     refine (numS PC.out NL (by omega) (by omega)).mono ?_
     rintro e ve ⟨rfl,pe⟩
     have PE:=Lib.hid pe
     clear pe PC
     go_wp2_with fail
     refine (endS PE.out (by omega)).mono ?_
     rintro e vf ⟨rfl,pf⟩
     have PF:=Lib.hid pf
     clear pf PE
     go_wp2_with fail
     go_end0
     exact ⟨rfl,PF.out.le (Nat.le_refl _) (by omega)⟩
open Go.RowKit
theorem report_c {w:World} {bm room:Nat} {L:List Rc} {Fs p:List Nat} {H:List (Nat × Ed)} {bs bo bq:Nat} {F:List Nat} (h:Mng w bm 3 room L Fs p H bs bo bq F) (hL:L.length < 10) (hnd:L.Nodup) (hG:Good L 3) (hp:Perm p 3) (hH:H.length < 10)
 (hD:∀(a f:Nat) (e:Ed),H[a]? =some (f,e)→∃T,Dia L 3 f e T) {ts:List (Nat × Tr)} (hts:EdTrees L (H.map (·.2)) ts) (hsz:tszs ts≤1000000) (hall:∀id,2≤id→id < L.length+2→idsAll L ts id):
 Calls Tryz.prog 20 #[.pointer (some ⟨bm,0,none⟩)] w fun e w'=>∃s:ByteArray,e=.returned (.string s)∧20 < s.size∧Mod [] w w':=by
 obtain ⟨-,-,hFlt⟩:=h.own
 have hSlt:=h.s.lt
 obtain ⟨b,hb⟩:∃b,w.heap.size=b:=⟨_,rfl⟩
 have M0:Hid (Mod [] w (w.alloc (.cells #[.pointer none,.slice none 0 0,.bool false] 100))):=(Mod.refl _ _).alloc _
 have PG:Hid (Pg (w.alloc (.cells #[.pointer none,.slice none 0 0,.bool false] 100)) b false [] []):=⟨_,_,⟨.inl rfl,[],rfl⟩,Blk.new' w _ _ b hb.symm,Sl.nil _ _ _,by simp⟩
 have RP:=Lib.hid (pageReport_c (b:=b) (h.mod M0.out) (fun k hk=>by have:=hFlt k hk;omega) (fun k hk=>by have:=hSlt k hk;omega) hL hnd hG hp hH hD hts hsz hall (PgTo.refl PG.out))
 have HB:=Lib.hid hb
 clear h hFlt hSlt hL hnd hG hp hH hD hts hsz hall PG
 go_enter Tryz.func20,Tryz.ntmps20
 go_wp2_with fail
 generalize w.alloc (.cells #[.pointer none,.slice none 0 0,.bool false] 100)=w0 at *
 refine RP.out.mono ?_
 rintro e w1 ⟨rfl,bs1,F1,pg,hlo,hhi,m1,f1⟩
 have MZ:Hid (Mod [] w w1):=M0.out.trans m1 (by intro i hi hm;have:=HB.out;simp at hm;omega)
 have ST:=Lib.hid (bString_c pg (by omega) (by omega))
 have HL:=Lib.hid hlo
 have FF:Hid (∀k∈F1,w.heap.size≤k):=fun k hk=>by
  rcases f1 k hk with q | q
  ·simp at q
  ·exact Nat.le_trans M0.out.size q
 clear RP pg hlo hhi m1 f1
 go_wp2_with fail
 refine ST.out.mono ?_
 rintro e w2 ⟨s,rfl,hs,m2⟩
 have M2:Hid (Mod [] w w2):=MZ.out.trans m2 (by intro i hi hm;have:=FF.out i hm;omega)
 have HS:=Lib.hid hs
 clear m2 hs
 go_wp2_with fail
 go_ret
 exact ⟨s,rfl,by rw [HS.out];exact HL.out,M2.out⟩
open Go.RowKit
def l1:List Rc:=[⟨1,0,0,⟨0,0⟩,⟨0,1⟩⟩]
def l2:List Rc:=[⟨1,0,0,⟨0,0⟩,⟨0,1⟩⟩,⟨2,2,2,⟨0,1⟩,⟨0,1⟩⟩,⟨2,1,1,⟨0,3⟩,⟨0,3⟩⟩,⟨2,0,0,⟨0,0⟩,⟨0,4⟩⟩]
theorem cube_one:cube3 [] 1=(l1,⟨0,2⟩):=by decide+kernel
theorem cube_two:cube3 l1 2=(l2,⟨0,5⟩):=by decide+kernel
def tA:Tr:=.node 0 0 0 (.leaf false) 0 (.leaf true)
def tB:Tr:=.node 2 2 0 (.leaf true) 0 (.leaf true)
def tC:Tr:=.node 1 1 0 tB 0 tB
def tD:Tr:=.node 0 0 0 (.leaf false) 0 tC
theorem repA:Rep l2 1 2 tA:=Rep.node (L:=l2) (r:=⟨1,0,0,⟨0,0⟩,⟨0,1⟩⟩) rfl rfl .zero .one
theorem repB:Rep l2 2 3 tB:=Rep.node (L:=l2) (r:=⟨2,2,2,⟨0,1⟩,⟨0,1⟩⟩) rfl rfl .one .one
theorem repC:Rep l2 2 4 tC:=Rep.node (L:=l2) (r:=⟨2,1,1,⟨0,3⟩,⟨0,3⟩⟩) rfl rfl repB repB
theorem repD:Rep l2 2 5 tD:=Rep.node (L:=l2) (r:=⟨2,0,0,⟨0,0⟩,⟨0,4⟩⟩) rfl rfl .zero repC
theorem plain0 (f a l n:Nat) (h:f≠5):PlainE f ⟨0,a⟩ l n:=⟨fun _=>rfl,fun h5=>absurd h5 h⟩
theorem leadsN {L:List Rc} {f a l n:Nat} (h:f≠5) {r:Rc} (hr:recAt L a=some r) (hf:r.f=f) (hl:l≤r.top) (h16:r.top≤16):LeadsP L f ⟨0,a⟩ l n:=⟨plain0 f a l n h,.inr ⟨r,hr,hf,hl,Nat.zero_le _,h16⟩⟩
theorem leadsL {L:List Rc} {f a l n:Nat} (h:f≠5) (ha:a < 2):LeadsP L f ⟨0,a⟩ l n:=⟨plain0 f a l n h,.inl ha⟩
theorem goodA (L:List Rc):GoodR L 3 ⟨1,0,0,⟨0,0⟩,⟨0,1⟩⟩:=⟨⟨by decide,by decide,by decide,by decide,by decide,.inl rfl,plain0 _ _ _ _ (by decide),plain0 _ _ _ _ (by decide),by decide,by decide⟩,leadsL (by decide) (by decide),leadsL (by decide) (by decide)⟩
theorem good1:Good l1 3:=by
 intro id r h
 obtain ⟨h1,h2,h3⟩:=recAt_lt h
 have:id=2:=by simp [l1] at h2;omega
 subst this
 obtain rfl:=Option.some.inj h
 exact goodA _
theorem good2:Good l2 3:=by
 intro id r h
 obtain ⟨h1,h2,h3⟩:=recAt_lt h
 have:id=2∨id=3∨id=4∨id=5:=by simp [l2] at h2;omega
 rcases this with rfl | rfl | rfl | rfl
 ·obtain rfl:=Option.some.inj h
  exact goodA _
 ·obtain rfl:=Option.some.inj h
  exact ⟨⟨by decide,by decide,by decide,by decide,by decide,.inl rfl,plain0 _ _ _ _ (by decide),plain0 _ _ _ _ (by decide),by decide,by decide⟩,leadsL (by decide) (by decide),leadsL (by decide) (by decide)⟩
 ·obtain rfl:=Option.some.inj h
  exact ⟨⟨by decide,by decide,by decide,by decide,by decide,.inl rfl,plain0 _ _ _ _ (by decide),plain0 _ _ _ _ (by decide),by decide,by decide⟩,leadsN (by decide) (r:=⟨2,2,2,⟨0,1⟩,⟨0,1⟩⟩) rfl rfl (by decide) (by decide),leadsN (by decide) (r:=⟨2,2,2,⟨0,1⟩,⟨0,1⟩⟩) rfl rfl (by decide) (by decide)⟩
 ·obtain rfl:=Option.some.inj h
  exact ⟨⟨by decide,by decide,by decide,by decide,by decide,.inl rfl,plain0 _ _ _ _ (by decide),plain0 _ _ _ _ (by decide),by decide,by decide⟩,leadsL (by decide) (by decide),leadsN (by decide) (r:=⟨2,1,1,⟨0,3⟩,⟨0,3⟩⟩) rfl rfl (by decide) (by decide)⟩
theorem diaA:Dia l2 3 1 ⟨0,2⟩ tA:=⟨by decide,by decide,leadsN (by decide) (r:=⟨1,0,0,⟨0,0⟩,⟨0,1⟩⟩) rfl rfl (by decide) (by decide),repA,by decide+kernel,by decide+kernel⟩
theorem diaD:Dia l2 3 2 ⟨0,5⟩ tD:=⟨by decide,by decide,leadsN (by decide) (r:=⟨2,0,0,⟨0,0⟩,⟨0,4⟩⟩) rfl rfl (by decide) (by decide),repD,by decide+kernel,by decide+kernel⟩
theorem sameAD:∀x,x < 8→hT 1 3 x 0 tA 0=hT 2 3 x 0 tD 0:=by decide+kernel
theorem nodup2:l2.Nodup:=by decide+kernel
theorem treesAD:EdTrees l2 [⟨0,2⟩,⟨0,5⟩] [(1,tA),(2,tD)]:=⟨rfl,fun i h1 h2=>by
 have:i=0∨i=1:=by simp at h1;omega
 rcases this with rfl | rfl
 ·exact repA
 ·exact repD⟩
theorem allAD:∀id,2≤id→id < l2.length+2→idsAll l2 [(1,tA),(2,tD)] id:=by
 intro id h1 h2
 have:id=2∨id=3∨id=4∨id=5:=by simp [l2] at h2;omega
 rcases this with rfl | rfl | rfl | rfl
 ·exact ⟨(1,tA),by simp,tA,by simp [nds,tA],repA⟩
 ·exact ⟨(2,tD),by simp,tB,by simp [nds,tD,tC,tB],repB⟩
 ·exact ⟨(2,tD),by simp,tC,by simp [nds,tD,tC],repC⟩
 ·exact ⟨(2,tD),by simp,tD,by simp [nds,tD],repD⟩
theorem perm3:Perm (List.range 3) 3:=⟨rfl,by simp,List.nodup_range⟩
theorem alive_c (w:World):Calls Tryz.prog 4 #[] w fun e w'=>e=.returned (.bool true)∧Mod [] w w':=by
 go_enter Tryz.func4,Tryz.ntmps4
 go_wp2_with fail
 refine (managerNew_c 3 1000 (by omega) (by omega) w).mono ?_
 rintro e w1 ⟨bm,bs,bo,bq,Fs,F,rfl,mg1,m1,f1,f2⟩
 have V1:=Lib.hid (managerVar_c 1 (by omega) (by omega) mg1 (by simp) (by simp) (by simp) (by omega) (Good.nil 3))
 rw [cube_one] at V1
 have M1:=Lib.hid m1
 have G1:=Lib.hid f1
 have G2:=Lib.hid f2
 have hbmF:Hid (w.heap.size≤bm):=by
  obtain ⟨ba,bg,vk,vq,vg,Fo,q,-,-,-,-,-,-,hF,-⟩:=mg1.m
  exact f2 bm (by rw [hF];simp)
 clear mg1 m1 f1 f2
 go_wp2_with fail
 refine V1.out.mono ?_
 rintro e w2 ⟨rfl,Fs2,mg2,m2,f3⟩
 have V2:=Lib.hid (managerVar_c 2 (by omega) (by omega) mg2 (by simp) (by simp [l1]) (by simp [l1]) (by omega) good1)
 rw [cube_two] at V2
 have M2:Hid (Mod [] w w2):=M1.out.trans m2 (by
  intro i hi hm
  rcases List.mem_cons.1 hm with rfl | hm
  ·have:=hbmF.out;omega
  ·have:=G1.out i hm;omega)
 have G3:Hid (∀k∈Fs2,w.heap.size≤k):=fun k hk=>by
  rcases f3 k hk with q | q
  ·exact G1.out k q
  ·exact Nat.le_trans M1.out.size q
 clear mg2 m2 f3 V1
 simp only [List.nil_append,List.length_nil,List.length_cons] at V2 ⊢
 go_wp2_with fail
 refine V2.out.mono ?_
 rintro e w3 ⟨rfl,Fs3,mg3,m3,f4⟩
 have M3:Hid (Mod [] w w3):=M2.out.trans m3 (by
  intro i hi hm
  rcases List.mem_cons.1 hm with rfl | hm
  ·have:=hbmF.out;omega
  ·have:=G3.out i hm;omega)
 have MG3:Hid (Mng w3 bm 3 1000 l2 Fs3 (List.range 3) [(1,⟨0,2⟩),(2,⟨0,5⟩)] bs bo bq F):=mg3
 clear mg3 m3 f4 V2
 have SM:=Lib.hid (mngSame_c MG3.out (by decide) good2 (by decide) (a:=0) (a2:=1) rfl rfl (by decide) diaA.root diaD.root sameAD)
 have EQ:Hid (∀V,Mod [] w3 V→_):=fun V md=>by
  obtain ⟨⟨q,hq⟩,-⟩:=(MG3.out.mod md).own
  exact equal_c hq (by decide) (a:=0) (a2:=1) rfl rfl (by decide)
 have RP:Hid (∀V,Mod [] w3 V→_):=fun V md=>report_c (MG3.out.mod md) (by decide) nodup2 good2 perm3 (by decide) (fun a f e ha=>by
  match a,ha with
  | 0,ha=>
   obtain ⟨rfl,rfl⟩:f=1∧e=⟨0,2⟩:=by simp at ha;exact ⟨ha.1.symm,ha.2.symm⟩
   exact ⟨_,diaA⟩
  | 1,ha=>
   obtain ⟨rfl,rfl⟩:f=2∧e=⟨0,5⟩:=by simp at ha;exact ⟨ha.1.symm,ha.2.symm⟩
   exact ⟨_,diaD⟩
  | a+2,ha=>simp at ha) treesAD (by decide+kernel) allAD
 clear MG3
 simp only [Nat.zero_add,Nat.reduceAdd]
 go_wp2_with fail
 refine SM.out.mono ?_
 rintro e w4 ⟨rfl,m4⟩
 have M4:=Lib.hid m4
 clear m4 SM
 go_wp2_with fail
 refine (EQ.out _ M4.out).mono ?_
 rintro e w5 ⟨rfl,m5⟩
 have M5:=Lib.hid (M4.out.trans' m5)
 clear m5 EQ
 go_wp2_with fail
 refine (RP.out _ M5.out).mono ?_
 rintro e w6 ⟨s,rfl,hs,m6⟩
 have M6:=Lib.hid ((M3.out.trans' M5.out).trans' m6)
 have hs':(20:Int) < s.size:=by omega
 clear m6 RP hs
 go_wp2_with fail
 go_ret
 exact ⟨rfl,M6.out⟩
end Go.Proofs.YtlafpknoiihaaaaGreatDoor
