import Derived.Test.YtbnpoapmnkfhkaaGreatDoorZt05
import Derived.Lib.Strings
import Derived.Lib.Slices
import Derived.Lib.Walk
import Derived.Lib.Bytealg
import Derived.Lib.Small
import Derived.Lib.BitFns
import Derived.Deep.CutRange
import Derived.BigQuiet
import Derived.Deep.RegionHeld3
set_option maxHeartbeats 4000000
set_option maxRecDepth 100000
set_option linter.unusedVariables false
set_option linter.unusedSimpArgs false
namespace Go.Proofs.YtbnpoapmnkfhkaaGreatDoor
open Go.Value renaming int → o, string → X, pointer → H, tuple → G
open Go.Lib renaming hid → l, indexByte → d
open Go.IntKind renaming i64 → g, u8 → L
open List renaming setIfInBounds_toArray → f, set_cons_zero → Z, set_cons_succ → Y, getElem?_eq_none → K
open Go.Proofs.Tryz renaming prog → V, results60 → J
open Option renaming none → U, some → N
open Go renaming World → Q, Calls → M, results → F, bodyPost_ret → E
open Prod.mk renaming injEq → P
open Go.Ending renaming returned → O
open Go.RowKit renaming Hid → I
open Go.RowKit
theorem za7 (s:ByteArray) (c:Int) (w:Q):M V 164 #[X s,o L c] w fun e w'=>e=O (o g (d s.data.toList c.toNat.toUInt8))∧w'=w:=by
 go_in;go_wp2;rw [run_callFunc_extern Tryz.func193 (by kernel_rfl) (by kernel_rfl) (by kernel_rfl) (e:=Extern.BytealgIndexByte.indexByte) (by kernel_rfl),Lib.run_indexByteString];simp only [Result.andThen];rw [Oper.upon_value];go_wp2;go_ret;exact ⟨rfl,rfl⟩
theorem zy2 (s:ByteArray) (c:UInt8) (w:Q):M V 163 #[X s,X ⟨#[c]⟩] w fun e w'=>e=O (o g (d s.data.toList c))∧w'=w:=by
 go_in;go_wp2_with (go_at_call 164;refine (za7 _ _ _).mono ?_;rintro e w' ⟨rfl,rfl⟩)
 ·have h:([c]==s.toList)=true:=zm;go_ret;refine ⟨?_,rfl⟩;have e:s.data.toList=[c]:=by rw [←Lib.toList_data];exact (beq_iff_eq.1 h).symm
  rw [e];simp [d]
 ·go_ret;exact ⟨rfl,rfl⟩
theorem zN9 (s:ByteArray) (c:UInt8) (w:Q):M V 100 #[X s,X ⟨#[c]⟩] w fun e w'=>e=O (.bool (decide (0≤d s.data.toList c)))∧w'=w:=by
 have IX:∀w,M V 137 #[X s,X ⟨#[c]⟩] w fun e w'=>e=O (o g (d s.data.toList c))∧w'=w:=fun w=>by
  go_in;go_wp2_with (go_at_call 163;refine (zy2 _ _ _).mono ?_;rintro e w' ⟨rfl,rfl⟩);go_ret;exact ⟨rfl,rfl⟩
 go_in;go_wp2_with (go_at_call 137;refine (IX _).mono ?_;rintro e w' ⟨rfl,rfl⟩);go_ret;exact ⟨rfl,rfl⟩
theorem zA5 (s:ByteArray) (c:Int) (w:Q):M V 138 #[X s,o L c] w fun e w'=>e=O (o g (d s.data.toList c.toNat.toUInt8))∧w'=w:=by
 go_in;go_wp2_with (go_at_call 164;refine (za7 _ _ _).mono ?_;rintro e w' ⟨rfl,rfl⟩);go_ret;exact ⟨rfl,rfl⟩
theorem ye2:∀c,c < 256→(d [32,61,62,94,124,38] c.toUInt8=(Xg c:Int)∨(Xg c=0∧d [32,61,62,94,124,38] c.toUInt8≤0)):=zL
theorem zS9 (c:Nat) (hc:c < 256) (w:Q):M V 101 #[o L c] w fun e w'=>∃z:Int,e=O (o g z)∧w'=w∧(z=Xg c∨(Xg c=0∧z≤0)):=by
 have IB:=l (fun w=>zA5 ⟨#[32,61,62,94,124,38]⟩ c w);have HD:=l (ye2 c hc);have e1:(⟨#[32,61,62,94,124,38]⟩:ByteArray).data.toList=[32,61,62,94,124,38]:=rfl;have e2:((c:Int).toNat)=c:=zc;rw [e1,e2] at IB;generalize d [32,61,62,94,124,38] c.toUInt8=z at *;clear e1 e2;go_in;go_wp2_with fail;refine (IB.out _).mono ?_;rintro e w1 ⟨rfl,rfl⟩;go_wp2_with fail;go_ret;exact ⟨z,rfl,rfl,HD.out⟩
theorem yh1:∀c,c < 256→(decide (0≤d [33,38,124,94,62,61,40,41,46] c.toUInt8)=decide (c∈zN2)):=zL
open Go.RowKit
def yH7 (s:ByteArray) (x a deep:Nat) (w:Q) (e:Ending) (w':Q):Prop:=
 e=O (G #[])∧Blk w' x #[X s,o g ((YL (YT s) a).2:Nat),o L ((YL (YT s) a).1.k:Nat),o g ((YL (YT s) a).1.n:Nat),o g ((YL (YT s) a).1.at_:Nat),o g deep,o g 0,o L 0] 161∧Mod [x] w w'
theorem Blk.cells8p {w:Q} {b:Nat} {t:TypeId} {c0 c1 c2 c3 c4 c5 c6 c7:Value} (h:Blk w b #[c0,c1,c2,c3,c4,c5,c6,c7] t):
 w.cell? ⟨b,0,U⟩=N c0∧w.cell? ⟨b,1,U⟩=N c1∧w.cell? ⟨b,2,U⟩=N c2∧w.cell? ⟨b,3,U⟩=N c3∧w.cell? ⟨b,4,U⟩=N c4∧w.cell? ⟨b,5,U⟩=N c5∧w.cell? ⟨b,6,U⟩=N c6∧w.cell? ⟨b,7,U⟩=N c7:=
 ⟨h.cell 0,h.cell 1,h.cell 2,h.cell 3,h.cell 4,h.cell 5,h.cell 6,h.cell 7⟩
def atW (x:Nat) (w:Q):Nat:=match w.cell? ⟨x,1,U⟩ with | some v=>(intOf v).toNat | none=>0
theorem zs0 {w:Q} {x:Nat} {t:TypeId} {c0 c2 c3 c4 c5 c6 c7:Value} {j:Nat} (h:Blk w x #[c0,o g j,c2,c3,c4,c5,c6,c7] t):atW x w=j:=by
 unfold atW;rw [show w.cell? ⟨x,1,U⟩=N (o g j) from h.cell 1];simp [intOf]
theorem kC {p:Prop} (h:p:=by
 go_wp2_with fail;have HB2:=l (HBI.out.drewN nq);have M2:=l (MI.out.trans' ((Mod.refl [x] _).drewN nq));clear HBI MI c0 c1 c2 c3 c4 c5 c6 c7 hxl f1 fz;generalize World.drewN _ nq=w2 at *;obtain ⟨c0,c1,c2,c3,c4,c5,c6,c7⟩:=HB2.out.cells8p;have hxl:=HB2.out.lt
 go_region_held3 (fun w'=>w'.cell? ⟨x,0,U⟩=N (X s)∧w'.cell? ⟨x,1,U⟩=N (o g i)) (first | go_keep | (refine ⟨?_,?_⟩<;>go_simp)) (first | (go_at_call 99;refine (WO.out _ HOW.out _ _).mono ?_;rintro e' w3 ⟨rfl,m3⟩;have M3:=Mod.trans' (show Mod [] w2 _ from zg) m3;have HB3:=HB2.out.mod M3 (ze);obtain ⟨c0,c1,c2,c3,c4,c5,c6,c7⟩:=HB3.cells8p;have hxl:=HB3.lt;have f2:=HB3.froz 2;have f3:=HB3.froz 3;have f4:=HB3.froz 4))
 all_goals
  replace M3:=l (M2.out.trans' (M3.mono (S':=[x]) (ze)));replace HB3:=l HB3;go_wp2_with fail;have BZ:=((HB3.out.set 2 (o L (YQ (YT (s.extract j i))).1)).set 3 (o g (YQ (YT (s.extract j i))).2)).set 4 (o g j);simp only [f,Z,Y] at BZ;refine E (v:=G #[]) (by simp [F,J,go_sem];try rfl) rfl ?_;have e:=TA;simp only [P,Tk.mk.injEq] at e;obtain ⟨⟨h1,h2,h3⟩,h4⟩:=e;rw [h1,h2,h3,h4]
  exact ⟨rfl,BZ,M3.out.trans' (zg)⟩):p:=h
theorem yF0 {w:Q} {x:Nat} (s:ByteArray) (hs:s.size≤100) (a k n0 pl deep:Nat) (ha:a≤s.size) (h:Blk w x #[X s,o g a,o L k,o g n0,o g pl,o g deep,o g 0,o L 0] 161) (hok:(YL (YT s) a).1.k≠98):
 M V 60 #[H (N ⟨x,0,U⟩)] w (yH7 s x a deep w):=by
 unfold yH7;obtain ⟨n,hn⟩:∃n,s.size=n:=⟨_,rfl⟩;have HT:I ((YT s).length=n):=by show _=_;rw [zd7,hn]
 have HAT:I (∀k,(h:k < s.size)→(YT s)[k]? =N s[k].toNat):=yo0 s;have HEX:I (∀i j,j≤s.size→YT (s.extract i j)=((YT s).drop i).take (j - i)):=zl3 s;have LE:=l yi0;have WO:=l yG4;have HOK:=l hok;rw [hn] at hs ha;have hs':(n:Int)≤100:=zc;clear hok;obtain ⟨rk,rn,rp,ra,hR⟩:∃rk rn rp ra,YL (YT s) a=(⟨rk,rn,rp⟩,ra):=⟨_,_,_,_,rfl⟩;rw [hR] at HOK ⊢;simp only at HOK ⊢;have RR:=l hR;clear hR;generalize YT s=T at *;have HB0:=l h;clear h;go_in;go_wp2_with fail
 go_loopw [25] (fun _ wr=>∃j:Nat,a≤j∧j≤n∧I (YK T a=YK T j)∧I (Blk wr x #[X s,o g j,o L k,o g n0,o g pl,o g deep,o g 0,o L 0] 161)∧I (Mod [x] w wr)) (fun _ wr=>n - atW x wr)
 case atStart=>exact ⟨a,zc,zc,rfl,HB0,Mod.refl _ _⟩
 case round=>
  obtain ⟨j,haj,hjn,HBL,HB,MM⟩:=hrel;obtain ⟨c0,c1,c2,c3,c4,c5,c6,c7⟩:=HB.out.cells8p;have hxl:=HB.out.lt;have f1:=HB.out.froz 1;have hj0:(0:Int)≤j:=zc;by_cases hb:j < n∧∃hj:j < s.size,s[j].toNat=32
  ·obtain ⟨hlt,hjs,h32⟩:=hb;have hlt':(j:Int) < n:=zc;have HC:=l (HAT.out j hjs);have e1:((s[j].toNat:Nat):Int)==32:=by rw [h32];rfl
   go_wp2_with fail
   go_quiet (fail)
   go_wp2_with fail;have TB:=l (zi5 (t:=T) (a:=j) (by rw [HC.out,h32]));have BN:=(HB.out.drewN nq).set 1 (o g ((j:Int)+1));simp only [f,Z,Y] at BN;rw [show ((j:Int)+1)=((j+1:Nat):Int) from rfl] at BN ⊢;refine ⟨⟨j+1,zc,zc,HBL.out.trans TB.out,BN,?_⟩,by rw [zs0 BN,zs0 HB.out];omega⟩;exact MM.out.trans' (((Mod.refl [x] wr).drewN nq).setCell _ _ (ze))
  ·have hbl:YK T j=j:=zb8 (fun q=>hb (by
    have hl:j < T.length:=(List.getElem?_eq_some_iff.1 q).1;rw [HT.out] at hl;have hjs:j < s.size:=zc;refine ⟨hl,hjs,?_⟩;have:=HAT.out j hjs;rw [q] at this
    exact (Option.some.inj this).symm))
   have HJ:I (YK T a=j):=by show _=_;rw [HBL.out,hbl]
   clear hbl;have F2:=HB.out.froz;by_cases hjn2:j < n
   ·have hjs:j < s.size:=zc;have hlt':(j:Int) < n:=zc;obtain ⟨y,hy⟩:∃y,s[j].toNat=y:=⟨_,rfl⟩;have h32:¬y=32:=fun q=>hb ⟨hjn2,hjs,by rw [hy,q]⟩
    have HC:=l (HAT.out j hjs);rw [hy] at HC;have e1:((y:Int)==32)=false:=zo;have e2:((j:Int)==(n:Int))=false:=zo;have hy8:y < 256:=by rw [←hy];exact s[j].toNat_lt
    clear hb;obtain ⟨e,he⟩:∃e,za8 T j=e:=⟨_,rfl⟩;have HLE:=l he;have hl:=XO (t:=T) (a:=j) (yu);rw [he,HT.out] at hl;obtain ⟨hl1,hl2⟩:=hl;clear he
    have EK:I (zm7 y=true→j < e):=fun h=>by
     have h1:=Xo HC.out h;have h2:=XO (t:=T) (a:=j+1) (yu);rw [HLE.out] at h1;omega
    have TA:I (YL T a=if zm7 y then (⟨(YQ (XC T j)).1,(YQ (XC T j)).2,j⟩,e) else (⟨za0 y,0,j⟩,j+1)):=by
     show _=_;unfold YL;rw [HJ.out,HC.out];simp only;rw [HLE.out]
    rw [RR.out] at TA;have LY:=l (LE.out y);cases hly:zm7 y with
    | true=>
     rw [hly] at LY EK TA;simp only [if_true] at TA;have hje:=EK.out rfl;have WW:I (YT (s.extract j e)=XC T j):=by show _=_;rw [HEX.out _ _ (zc),zY6,HLE.out]
     rw [←WW.out] at TA
     have HOW:I ((YQ (YT (s.extract j e))).1≠98):=by
      have:=TA;simp only [P,Tk.mk.injEq] at this;show _≠_;rw [←this.1.1];exact HOK.out
     go_wp2_with fail
     go_quiet (fail)
     go_wp2_with fail;have HB1:=l (HB.out.drewN nq);have MM1:=l (MM.out.trans' ((Mod.refl [x] wr).drewN nq));generalize wr.drewN nq=w1 at *;clear HB MM c0 c1 c2 c3 c4 c5 c6 c7 hxl f1 F2;refine (LY.out _).mono ?_;rintro e9 w9 ⟨rfl,hw9⟩;subst hw9;go_wp2_with fail
     go_loopw [78] (fun _ wi=>∃i:Nat,j≤i∧i≤e∧I (za8 T i=e)∧I (Blk wi x #[X s,o g i,o L k,o g n0,o g pl,o g deep,o g 0,o L 0] 161)∧I (Mod [x] w wi)) (fun _ wi=>n - atW x wi)
     case atStart=>exact ⟨j,zc,zc,HLE,HB1,MM1⟩
     case round=>
      obtain ⟨i,hji,hie,HI,HBI,MI⟩:=hrel;obtain ⟨c0,c1,c2,c3,c4,c5,c6,c7⟩:=HBI.out.cells8p;have hxl:=HBI.out.lt;have f1:=HBI.out.froz 1;have hi0:(0:Int)≤i:=zc;by_cases hlt:i < e
      ·have his:i < s.size:=zc;have hit:(i:Int) < n:=zc;have HCI:=l (HAT.out i his);obtain ⟨z,hz⟩:∃z,s[i].toNat=z:=⟨_,rfl⟩;rw [hz] at HCI
       have hlz:zm7 z=true:=by
        cases q:zm7 z with
        | true=>rfl
        | false=>
         have:=zh0 (t:=T) (a:=i) (by intro c hc;rw [HCI.out] at hc;rw [←Option.some.inj hc];exact q);rw [HI.out] at this;omega
       have HI2:I (za8 T (i+1)=e):=by show _=_;rw [←Xo HCI.out hlz,HI.out]
       have LZ:=l (LE.out z);rw [hlz] at LZ;go_wp2_with fail
       go_quiet ((go_at_call 98;exact Calls.quiet_of_same (LZ.out _)))
       go_wp2_with fail;have BN:=(HBI.out.drewN nq).set 1 (o g ((i:Int)+1));simp only [f,Z,Y] at BN;rw [show ((i:Int)+1)=((i+1:Nat):Int) from rfl] at BN ⊢;refine ⟨⟨i+1,zc,zc,HI2,BN,?_⟩,by rw [zs0 BN,zs0 HBI.out];omega⟩;exact MI.out.trans' (((Mod.refl [x] _).drewN nq).setCell _ _ (ze))
      ·obtain rfl:i=e:=zc;have fz:=HBI.out.froz;by_cases hin:i < n
       ·have his:i < s.size:=zc;have hit:(i:Int) < n:=zc;obtain ⟨z,hz⟩:∃z,s[i].toNat=z:=⟨_,rfl⟩
        have hlz:zm7 z=false:=by
         cases q:zm7 z with
         | false=>rfl
         | true=>
          have h1:=Xo (HAT.out i his) (by rw [hz];exact q);have h2:=XO (t:=T) (a:=i+1) (yu);rw [HI.out] at h1;omega
        have LZ:=l (LE.out z);rw [hlz] at LZ;go_wp2_with fail
        go_quiet ((go_at_call 98;exact Calls.quiet_of_same (LZ.out _)))
        exact kC
       ·have hit:¬(i:Int) < n:=zc;go_wp2_with fail
        go_quiet (fail)
        exact kC
    | false=>
     rw [hly] at LY TA;simp only [Bool.false_eq_true,if_false] at TA
     have HS:I (decide (0≤d (⟨#[33,38,124,94,62,61,40,41,46]⟩:ByteArray).data.toList y.toUInt8)=true):=by
      have e:=TA;simp only [P,Tk.mk.injEq] at e;have h2:=yh1 y hy8;show decide (0≤d [33,38,124,94,62,61,40,41,46] y.toUInt8)=true;rw [h2,decide_eq_true_eq];apply Classical.byContradiction;intro q;have:=HOK.out;rw [e.1.1] at this;unfold za0 at this;rw [if_neg q] at this;exact this rfl
     have HK:za0 y=y:=by
      have:=HOK.out;have e:=TA;simp only [P,Tk.mk.injEq] at e;rw [e.1.1] at this;unfold za0 at this ⊢;split
      ·rfl
      ·rename_i q;rw [if_neg q] at this;exact absurd rfl this
     rw [HK] at TA;clear HK EK;go_wp2_with fail
     go_quiet (fail)
     go_wp2_with fail;have HB1:=l (HB.out.drewN nq);have MM1:=l (MM.out.trans' ((Mod.refl [x] _).drewN nq));generalize wr.drewN nq=w1 at *;clear HB MM c0 c1 c2 c3 c4 c5 c6 c7 hxl f1;refine (LY.out _).mono ?_;rintro e9 w9 ⟨rfl,hw9⟩;replace hw9:=hw9.symm;subst hw9;obtain ⟨c0,c1,c2,c3,c4,c5,c6,c7⟩:=HB1.out.cells8p;have hxl:=HB1.out.lt;have f1:=HB1.out.froz 1;have f2:=HB1.out.froz 2;have f3:=HB1.out.froz 3;have f4:=HB1.out.froz 4;have BS:=((((HB1.out.set 1 (o g ((j:Int)+1))).set 2 (o L y)).set 3 (o g 0)).set 4 (o g j));simp only [f,Z,Y] at BS;have MS:Mod [x] w1 ((((w1.setCell ⟨x,1,U⟩ (o g ((j:Int)+1))).setCell ⟨x,2,U⟩ (o L y)).setCell ⟨x,3,U⟩ (o g 0)).setCell ⟨x,4,U⟩ (o g j)):=zg;go_upto_region 12 with fail;generalize (((w1.setCell ⟨x,1,U⟩ (o g ((j:Int)+1))).setCell ⟨x,2,U⟩ (o L y)).setCell ⟨x,3,U⟩ (o g 0)).setCell ⟨x,4,U⟩ (o g j)=w5 at *;have HB5:=l BS;have M5:=l (MM1.out.trans' MS);clear c0 c1 c2 c3 c4 c5 c6 c7 hxl f1 f2 f3 f4 BS MS;obtain ⟨gk,hgk⟩:∃gk,w5.heap.size=gk:=⟨_,rfl⟩;have CV:=yI9 w5 gk y (y:Int) rfl hgk hy8;have CN:=l (fun W=>zN9 ⟨#[33,38,124,94,62,61,40,41,46]⟩ y.toUInt8 W);rw [HS.out] at CN;go_wp2_with fail;refine (CN.out _).mono ?_;rintro e9 w9 ⟨rfl,hw9⟩;subst hw9;go_wp2_with fail;refine bodyPost_end (v:=G #[]) (by simp [F,J,go_sem];try rfl) rfl ?_;have e:=TA;simp only [P,Tk.mk.injEq] at e;obtain ⟨⟨h1,h2,h3⟩,h4⟩:=e;rw [h1,h2,h3,h4];exact ⟨rfl,HB5.out.mod (S:=[]) (zg) (ze),M5.out.trans' (zg)⟩
   ·obtain rfl:j=n:=zc;have e2:((j:Int)==(j:Int))=true:=ze
    have TA:I (YL T a=(⟨122,0,j⟩,j)):=by
     show _=_;unfold YL;rw [HJ.out,K (yu)]
    rw [RR.out] at TA;clear hb HOK;have f2:=F2 2;have f3:=F2 3;have f4:=F2 4;go_wp2_with fail
    go_quiet (fail)
    go_wp2_with fail;have BZ:=(((HB.out.drewN nq).set 2 (o L 122)).set 3 (o g 0)).set 4 (o g j);simp only [f,Z,Y] at BZ;refine E (v:=G #[]) (by simp [F,J,go_sem];try rfl) rfl ?_;have e:=TA;simp only [P,Tk.mk.injEq] at e;obtain ⟨⟨h1,h2,h3⟩,h4⟩:=e;rw [h1,h2,h3,h4];exact ⟨rfl,BZ,MM.out.trans' (zg)⟩
open Go.RowKit
def PT (w:Q) (x:Nat) (s:ByteArray) (u:Tk) (R:List Tk) (deep:Nat):Prop:=
 ∃a:Nat,Blk w x #[X s,o g a,o L (u.k:Nat),o g (u.n:Nat),o g (u.at_:Nat),o g deep,o g 0,o L 0] 161∧a≤s.size∧(u.k≠122→zj0 (YT s) a=R)∧(u.k=122→R=[]∧(YL (YT s) a).1.k=122)
theorem PT.mod {S:List Nat} {w w':Q} {x:Nat} {s:ByteArray} {u:Tk} {R:List Tk} {deep:Nat} (h:PT w x s u R deep) (m:Mod S w w') (hx:x∉S):PT w' x s u R deep:=by
 obtain ⟨a,b,r⟩:=h;exact ⟨a,b.mod m hx,r⟩
theorem PT.lt {w:Q} {x:Nat} {s:ByteArray} {u:Tk} {R:List Tk} {deep:Nat} (h:PT w x s u R deep):x < w.heap.size:=by obtain ⟨a,b,_⟩:=h;exact b.lt
def ToT (x:Nat) (s:ByteArray) (u:Tk) (R:List Tk) (deep:Nat) (w:Q) (e:Ending) (w':Q):Prop:=e=O (G #[])∧PT w' x s u R deep∧Mod [x] w w'
theorem yl7 {w:Q} {x:Nat} {s:ByteArray} (hs:s.size≤100) {a k n0 pl deep:Nat} {u:Tk} {R:List Tk} (ha:a≤s.size)
 (h:Blk w x #[X s,o g a,o L k,o g n0,o g pl,o g deep,o g 0,o L 0] 161) (ht:zj0 (YT s) a=u::R) (hok:u.k≠98):
 M V 60 #[H (N ⟨x,0,U⟩)] w (ToT x s u R deep w):=by
 have hal:a≤(YT s).length:=by rw [zd7];exact ha
 obtain ⟨R',e,hR⟩:=zS3 hal;rw [ht] at e;obtain ⟨rfl,rfl⟩:=List.cons.inj e;refine (yF0 s hs a k n0 pl deep ha h hok).mono ?_;rintro r w' ⟨rfl,b,m⟩;have hl:=zc4 hal;rw [zd7] at hl;refine ⟨rfl,⟨_,b,hl.2.1,fun q=>?_,fun q=>?_⟩,m⟩
 ·rcases hR with ⟨h1,_⟩ | ⟨_,h2⟩
  ·exact absurd h1 q
  ·exact h2.symm
 ·rcases hR with ⟨_,h2⟩ | ⟨h1,_⟩
  ·refine ⟨h2,?_⟩;have he:=ya2 q;have hb:=zh6 (t:=YT s) (a:=(YL (YT s) a).2) (by rw [zd7];exact hl.2.1);have hn:(YT s)[YK (YT s) (YL (YT s) a).2]? =U:=K (zc);show (YL (YT s) (YL (YT s) a).2).1.k=122;unfold YL at hn ⊢;rw [hn]
  ·exact absurd q h1
theorem zH8 {w:Q} {x:Nat} {s:ByteArray} (hs:s.size≤100) {deep:Nat} {u u':Tk} {R:List Tk} (h:PT w x s u (u'::R) deep) (hok:u'.k≠98):
 M V 60 #[H (N ⟨x,0,U⟩)] w (ToT x s u' R deep w):=by
 obtain ⟨a,b,ha,h1,h2⟩:=h;have hu:u.k≠122:=fun q=>by have:=(h2 q).1;cases this
 exact yl7 hs ha b (h1 hu) hok
theorem yo1 {w:Q} {x:Nat} {s:ByteArray} (hs:s.size≤100) {deep:Nat} {u u':Tk} {R:List Tk} (h:PT w x s u (u'::R) deep) (hok:u'.k≠98) (kd:Nat) (hk:u.k=kd):
 M V 62 #[H (N ⟨x,0,U⟩),o L kd] w (ToT x s u' R deep w):=by
 have ST:=l (zH8 hs h hok);obtain ⟨a,b,-⟩:=h;obtain ⟨c0,c1,c2,c3,c4,c5,c6,c7⟩:=b.cells8p;have hxl:=b.lt;rw [hk] at c2;clear b hk;go_in;go_wp2_with fail;refine ST.out.mono ?_;rintro e w1 ⟨rfl,p1,m1⟩;have P1:=l p1;have M1:=l m1;clear p1 m1;go_wp2_with fail;refine bodyPost_end (v:=G #[]) (by simp [F,Tryz.results62,go_sem];try rfl) rfl ?_;exact ⟨rfl,P1.out,M1.out⟩
theorem yn2 {w:Q} {x:Nat} {s:ByteArray} (hs:s.size≤100) {deep:Nat} {u u':Tk} {R:List Tk} (h:PT w x s u (u'::R) deep) (hok:u'.k≠98) (hd:deep < 200):
 M V 139 #[H (N ⟨x,0,U⟩)] w (ToT x s u' R (deep+1) w):=by
 obtain ⟨a,b,ha,h1,h2⟩:=h;have hu:u.k≠122:=fun q=>by have:=(h2 q).1;cases this
 have ht:=h1 hu;have BN:=b.set 5 (o g ((deep:Int)+1));simp only [f,Z,Y] at BN;have ST:=l (yl7 (deep:=deep+1) hs ha BN ht hok);obtain ⟨c0,c1,c2,c3,c4,c5,c6,c7⟩:=b.cells8p;have hxl:=b.lt;have f5:=b.froz 5;have hdi:(deep:Int) < 200:=zc;have MS:I (Mod [x] w (w.setCell ⟨x,5,U⟩ (o g ((deep:Int)+1)))):=zX;clear b BN ht h1 h2;go_in;go_upto_region 1 with fail;generalize w.setCell ⟨x,5,U⟩ (o g ((deep:Int)+1))=w1 at *;go_wp2_with fail;refine ST.out.mono ?_;rintro e w2 ⟨rfl,p1,m1⟩;have P1:=l p1;have M1:=l (MS.out.trans' m1);obtain ⟨a2,b2,-⟩:=p1;clear c0 c1 c2 c3 c4 c5 c6 c7 hxl f5 m1;obtain ⟨c0,c1,c2,c3,c4,c5,c6,c7⟩:=b2.cells8p;have hxl:=b2.lt;clear b2;go_wp2_with fail;refine bodyPost_end (v:=G #[]) (by simp [F,Tryz.results139,go_sem];try rfl) rfl ?_;exact ⟨rfl,P1.out,M1.out⟩
end Go.Proofs.YtbnpoapmnkfhkaaGreatDoor
