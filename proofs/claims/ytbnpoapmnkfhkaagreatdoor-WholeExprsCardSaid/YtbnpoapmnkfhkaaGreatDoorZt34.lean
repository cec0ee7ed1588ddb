import Derived.Test.YtbnpoapmnkfhkaaGreatDoorZt25
import Derived.Test.YtbnpoapmnkfhkaaGreatDoorZt32
import Derived.Deep.RegionHeld3
import Derived.Laws.Cells
import Derived.BigQuiet
set_option maxRecDepth 100000
set_option maxHeartbeats 8000000
set_option linter.unusedVariables false
set_option linter.unusedSimpArgs false
namespace Go.Proofs.YtbnpoapmnkfhkaaGreatDoor
open Go.Value renaming int → u, slice → d, pointer → R, bool → Φ, tuple → φ, agg → π
open Go.Lib renaming hid → s
open Option renaming none → o, some → Z
open Go.IntKind renaming i64 → c, u8 → H, u32 → C, u64 → Θ, u16 → ι
open Go.Obj renaming cells → Y
open Go.Proofs.Tryz renaming prog → V, underlying22 → ν, results116 → θ, results72 → ζ, results34 → ε
open Nat renaming lt_of_lt_of_le → Q, lt_succ_iff_lt_or_eq → τ, pow_le_pow_right → ρ, le_trans → δ
open Go.Ending renaming returned → O
open Go.RowKit renaming Hid → N
open Go.Proofs.YtbnpoapmnkfhkaaGreatDoor renaming Mod → K, zc → J
open List renaming getElem?_cons_zero → I, getElem?_toArray → E, setIfInBounds_toArray → D, set_cons_zero → Δ, set_cons_succ → Γ, getElem?_cons_succ → ψ, getElem_mem → σ, getElem_map → κ, map_append → η
open Go.Proofs.YtbnpoapmnkfhkaaGreatDoor.Blk renaming new' → G
open Go.Proofs.YtbnpoapmnkfhkaaGreatDoor.Mod renaming refl → Ω, trans' → Ξ, drewN → μ
open Go renaming Calls → Ψ, World → ω, bodyPost_ret → χ, results → ξ
open Go.RowKit
theorem Yg {p:Prop} (h:p:=by
 have h:madeCells #[Value.int Θ 0] 1=#[u Θ 0]:=by kernel_rfl
 have:=zu1 w 1 (J);rw [h] at this
 exact this):p:=h
theorem yc2 (w:ω):Ψ V 116 #[u c 3] w fun e w'=>∃g,e=O (π #[u c 3,d (Z ⟨g,0,o⟩) 1 1])∧Blk w' g #[u Θ 0] 185∧w.heap.size≤g∧K [] w w':=by
 have WO:=s (zC9 3 (J));obtain ⟨gk,hgk⟩:∃gk,w.heap.size=gk:=⟨_,rfl⟩
 have MK:N (∀w:ω,(Instr.makeSlice 86 (u c 1) (u c 1)).run V w=.ok (d (Z ⟨w.heap.size,0,o⟩) 1 1) (w.alloc (Y #[u Θ 0] 185))):=fun w=>by
  exact Yg
 have mk:=MK.out (w.alloc (Y #[u c 0,d o 0 0] 88));clear MK;go_in;go_wp2_with fail;refine (WO.out _).mono ?_;rintro e w1 ⟨rfl,rfl⟩;go_wp2_with fail;have B:=(G w #[u c 3,d (Z ⟨gk+1,0,o⟩) 1 1] 88 gk hgk.symm).alloc (Y #[u Θ 0] 185);have BW:=G (w.alloc (Y #[u c 3,d (Z ⟨gk+1,0,o⟩) 1 1] 88)) #[u Θ 0] 185 (gk+1) (zk);have M:K [] w ((w.alloc (Y #[u c 3,d (Z ⟨gk+1,0,o⟩) 1 1] 88)).alloc (Y #[u Θ 0] 185)):=zg;obtain ⟨z0,z1⟩:=B.cells2;generalize (w.alloc (Y #[u c 3,d (Z ⟨gk+1,0,o⟩) 1 1] 88)).alloc (Y #[u Θ 0] 185)=X at *;refine χ (v:=π #[u c 3,d (Z ⟨gk+1,0,o⟩) 1 1]) (by simp [ξ,θ,go_sem,z0,z1];try rfl) rfl ?_;exact ⟨gk+1,rfl,BW,J,M⟩
theorem or8:∀W < 256,∀x < 8,0≤bits .or Θ ((W:Nat):Int) (IntKind.u64.wrap (2 ^ x))∧bits .or Θ ((W:Nat):Int) (IntKind.u64.wrap (2 ^ x)) < 256:=zL
theorem or8n (W x:Nat) (hW:W < 256) (hx:x < 8):∃W':Nat,bits .or Θ (W:Int) (IntKind.u64.wrap (2 ^ x))=(W':Int)∧W' < 256:=by
 obtain ⟨h1,h2⟩:=or8 W hW x hx;exact ⟨(bits .or Θ (W:Int) (IntKind.u64.wrap (2 ^ x))).toNat,J,J⟩
def yN1 (w:ω) (e:Ending) (w':ω):Prop:=
 ∃g W,e=O (φ #[π #[u c 3,d (Z ⟨g,0,o⟩) 1 1],u H 0])∧W < 256∧Blk w' g #[u Θ (W:Nat)] 185∧w.heap.size≤g∧K [] w w'
theorem Ye {p:Prop} (h:p:=by
 have BG2:=s ((BG.out.set 0 (u Θ (W':Nat))).drew);have MW:=s (((Ω [g] wr).setCell ⟨g,0,o⟩ (u Θ (W':Nat)) (ze)).drew);have B62:=s (B6.out.mod MW.out (by simpa using n2));have B42:=s (B4.out.mod MW.out (by simpa using n1));have M32:=s (M3.out.trans MW.out (wn));go_wp2_with fail;go_roundw
 case rel=>exact ⟨k+1,W',by first | rfl | go_num,rfl,J,HW'.out,BG2,B62,B42,M32⟩
 case measure=>simp [intOf];omega):p:=h
theorem yj8 {w:ω} {A:Option Addr} {n cap:Nat} {xs:List Nat} {F:List Nat} (h:Rv w (d A n cap) (xs.map ei) F) (hF:∀k∈F,k < w.heap.size) (hx:∀x∈xs,x < 8) (hn:n≤100000):
 Ψ V 72 #[u c 3,d A n cap] w (yN1 w):=by
 have MY:=s (zc7 3 (J));have BL:=s yc2;have HR:=s h;have HX:=s hx;have hlen:n=xs.length:=by simpa using h.len.1
 have HL:=s hlen;obtain ⟨gk,hgk⟩:∃gk,w.heap.size=gk:=⟨_,rfl⟩;clear h hx hlen;go_in;go_wp2_with fail;refine (MY.out _).mono ?_;rintro e w1 ⟨rfl,rfl⟩;go_wp2_with fail;refine (BL.out _).mono ?_;rintro e w2 ⟨g,rfl,bg,hg,m2⟩;have hgs0:=m2.size;obtain ⟨gs,hgs⟩:∃gs,w2.heap.size=gs:=⟨_,rfl⟩;have B4:=s (((G w #[u c 0,d o 0 0] 88 gk hgk.symm).mod m2 (ze)).alloc (Y #[u c 3,d (Z ⟨g,0,o⟩) 1 1] 88));have B6:=s (G w2 #[u c 3,d (Z ⟨g,0,o⟩) 1 1] 88 gs hgs.symm);have BG:=s (bg.alloc (Y #[u c 3,d (Z ⟨g,0,o⟩) 1 1] 88));have M3:N (K [] w (w2.alloc (Y #[u c 3,d (Z ⟨g,0,o⟩) 1 1] 88))):=(Ξ (show K [] w _ from zg) m2).alloc _;have hgl:=bg.lt;simp at hg hgs0;have n1:gk≠g:=J;have n2:gs≠g:=J;have n3:gk≠gs:=J;have HG:=s hg;clear bg hg m2 hgs0 BL MY hgl;go_wp2_with fail;generalize w2.alloc (Y #[u c 3,d (Z ⟨g,0,o⟩) 1 1] 88)=w3 at *
 go_loopw [5,8,17] (fun r _ i wr=>∃(k W:Nat),i=u c k∧r=u H 0∧k≤n∧W < 256∧N (Blk wr g #[u Θ W] 185)∧N (Blk wr gs #[u c 3,d (Z ⟨g,0,o⟩) 1 1] 88)∧N (Blk wr gk #[u c 0,d o 0 0] 88)∧N (K [] w wr)) (fun _ _ i _=>n - (intOf i).toNat)
 case atStart=>exact ⟨0,0,rfl,rfl,J,J,BG,B6,B4,M3⟩
 case round=>
  obtain ⟨k,W,rfl,rfl,hk,hW,BG,B6,B4,M3⟩:=hrel;obtain ⟨s0,s1⟩:=B6.out.cells2;have hsl:=B6.out.lt;have hgl:=BG.out.lt;have g0:=BG.out.cell 0;have gf:=BG.out.froz 0;simp only [E,I] at g0;by_cases hlt:k < n
  ·have hlt':(k:Int) < n:=J;have hk0:(0:Int)≤k:=J;have hkx:k < xs.length:=by rw [←HL.out];exact hlt
   obtain ⟨gb,off,rfl,hc⟩:=(HR.out.mod M3.out (ze)).at k (by simpa using hkx);have hx8:=HX.out xs[k] (σ hkx);rw [κ] at hc;generalize xs[k]=x at *;have hc':wr.cell? ⟨gb,off+k,o⟩=Z (u c (x:Int)):=hc;obtain ⟨W',hor,hW'⟩:=or8n W x hW hx8;have HW':=s hW';have hx0:¬((x:Int) < 0):=J;have hx1:¬((8:Int)≤x):=J;have hd:(x:Int) / 64=0:=J;have hm:(x:Int) % 64=x:=J;clear hc hkx hW';go_wp2_with fail
   go_region
   exact Ye
  ·obtain rfl:k=n:=J;obtain ⟨r0,r1⟩:=B4.out.cells2;have hrl:=B4.out.lt;obtain ⟨f0,f1,-⟩:=B4.out.frozs;go_wp2_with fail;have BR:=(B4.out.set 0 (u c 3)).set 1 (d (Z ⟨g,0,o⟩) 1 1);simp only [D,Δ,Γ] at BR;have MR:K [gk] wr ((wr.setCell ⟨gk,0,o⟩ (u c 3)).setCell ⟨gk,1,o⟩ (d (Z ⟨g,0,o⟩) 1 1)):=zg;have BGR:=BG.out.mod MR (by simpa using fun e=>n1 e.symm);have MF:=M3.out.trans MR (yQ);obtain ⟨z0,z1⟩:=BR.cells2;generalize (wr.setCell ⟨gk,0,o⟩ (u c 3)).setCell ⟨gk,1,o⟩ (d (Z ⟨g,0,o⟩) 1 1)=X at *;refine χ (v:=φ #[π #[u c 3,d (Z ⟨g,0,o⟩) 1 1],u H 0]) (by simp [ξ,ζ,go_sem,z0,z1];try rfl) rfl ?_;exact ⟨g,W,rfl,hW,BGR,jc,MF⟩
open Go.RowKit
theorem Yf {p:Prop} (h:p:=by
 refine (zr0 (hS.mod md (ze)) hL hG (J) f hr.f1 hr.f5 e T hr.rep 0 (J) hr.leads y hy).mono ?_;rintro e' w' ⟨rfl,m⟩
 exact ⟨_,rfl,m⟩):p:=h
theorem Yh {p:Prop} (h:p:=by
 obtain ⟨ba,bi,Fa,c0,_⟩:=(hS.mod md (ze)).own
 exact YH b 3 W' c0):p:=h
theorem zB0 {w:ω} {b bo room f:Nat} {p q Fo F:List Nat} {L:List Rc} (hS:IsSt w b 3 L room F) (hL:L.length≤1048576) (hG:Good L 3) (hO:IsOrd w bo p q Fo) (hp:p.length=3) (hpv:∀v∈p,v < 16) {e:Ed} {T:Tr} (hr:Root L 3 f e T):
 Ψ V 34 #[R (Z ⟨b,0,o⟩),R (Z ⟨bo,0,o⟩),u H f,edv e] w (yN1 w):=by
 have VA:N (∀W',K [] w W'→Ψ V 67 #[R (Z ⟨b,0,o⟩)] W' fun e w'=>e=O (u c 3)∧w'=W'):=fun W' md=>by
  exact Yh
 have VO:N (∀W',K [] w W'→Ψ V 31 #[R (Z ⟨bo,0,o⟩)] W' fun e w'=>e=O (u c 3)∧w'=W'):=fun W' md=>by
  have:=Xh (hO.mod md (ze));rw [hp] at this;exact this
 have MY:N (∀W',K [] w W'→_):=fun W' md=>XH 3 f b bo hr.f1 hr.f5 W' (VA.out W' md) (VO.out W' md)
 have LV:N (∀W (x:Nat),x < 8→K [] w W→Ψ V 71 #[R (Z ⟨bo,0,o⟩),u c x] W fun e w'=>∃y:Nat,y < 65536∧e=O (u ι y)∧K [] W w'):=fun W x hx md=>by
  refine (yl9 (hO.mod md (ze)) (J) hpv x (J)).mono ?_;rintro e w' ⟨⟨y,hy,rfl⟩,rfl⟩;exact ⟨y,hy,rfl,Ω _ _⟩
 have HO:N (∀W (y:Nat),y < 65536→K [] w W→Ψ V 70 #[R (Z ⟨b,0,o⟩),u H f,edv e,u c 0,u ι y] W fun e w'=>∃bb,e=O (φ #[Φ bb,u H 0])∧K [] W w'):=fun W y hy md=>by
  exact Yf
 have SO:N (∀W A n cap (xs:List Nat) Fx,Rv W (d A n cap) (xs.map ei) Fx→(∀k∈Fx,k < W.heap.size)→(∀x∈xs,x < 8)→n≤100000→_):=fun W A n cap xs Fx h1 h2 h3 h4=>yj8 h1 h2 h3 h4
 obtain ⟨i0,hi,hz0,hz1,hz2⟩:=info_parts Tryz.info3;obtain ⟨t,a⟩:=e;unfold edv at *;simp only at HO ⊢;obtain ⟨gk,hgk⟩:∃gk,w.heap.size=gk:=⟨_,rfl⟩;clear hS hO hr hG hpv;go_in;go_wp2_with fail;have B0:=s ((G w #[u H t,u C a] 44 gk hgk.symm).alloc (Y #[u c 0,d o 0 0] 88));have B8:=s (G (w.alloc (Y #[u H t,u C a] 44)) #[u c 0,d o 0 0] 88 (gk+1) (zk));have M0:N (K [] w ((w.alloc (Y #[u H t,u C a] 44)).alloc (Y #[u c 0,d o 0 0] 88))):=zg;refine (MY.out _ M0.out).mono ?_;rintro e w1 ⟨rfl,rfl⟩;generalize (w.alloc (Y #[u H t,u C a] 44)).alloc (Y #[u c 0,d o 0 0] 88)=w0 at *;go_wp2_with fail;refine (VA.out _ (ws)).mono ?_;rintro e w1 ⟨rfl,rfl⟩;go_wp2_with fail
 go_loopw [9,11,26] (fun r v i wr=>∃(k:Nat) (xs:List Nat),i=u c k∧r=u H 0∧k≤8∧xs.length≤k∧N (NewV 3 w1 (xs.map ei) wr v)∧N (∀x∈xs,x < 8)) (fun _ _ i _=>8 - (intOf i).toNat)
 case atStart=>exact ⟨0,[],rfl,rfl,J,ze,NewV.nil _ (Ω _ _),by intro x hx;simp at hx⟩
 case round=>
  obtain ⟨k,xs,rfl,rfl,hk,hlen,HN,HX⟩:=hrel;have MR:=s HN.out.mod;have MW:=s (M0.out.trans' MR.out);have BR:=s (B0.out.mod MR.out (ze));have B8R:=s (B8.out.mod MR.out (ze));by_cases hlt:k < 8
  ·have hlt':(k:Int) < 8:=J;have hk0:(0:Int)≤k:=J;have LVK:N (∀W,K [] wr W→_):=fun W md=>LV.out W k hlt (MW.out.trans' md)
   have HOK:N (∀wa W (y:Nat),y < 65536→K [] wr wa→K [] wa W→_):=fun wa W y hy m1 md=>HO.out W y hy (MW.out.trans' (m1.trans' md))
   obtain ⟨d0,d1⟩:=BR.out.cells2;have hbl:=BR.out.lt;clear LV HO VA VO MY;go_wp2_with fail
   go_region_held3 (fun w'=>w'.cell? ⟨gk,0,o⟩=Z (u H t)∧w'.cell? ⟨gk,1,o⟩=Z (u C a)) (go_keep) (first | (go_at_call 71;refine (LVK.out _ (zg)).mono ?_;rintro e' wa ⟨y,hy,rfl,m_wa⟩;have M_wa:=Ξ (show K _ wr _ from zg) m_wa;have d0:=(M_wa.cell (a:=⟨gk,0,o⟩) hbl (zh)).trans d0;have d1:=(M_wa.cell (a:=⟨gk,1,o⟩) hbl (zh)).trans d1;have hbl:=Q hbl M_wa.size;skip) | (go_at_call 70;refine (HOK.out wa _ y hy M_wa (zg)).mono ?_;rintro e' wb ⟨bb,rfl,m_wb⟩;have M_wb:=Ξ (show K _ wa _ from zg) m_wb;have d0:=(M_wb.cell (a:=⟨gk,0,o⟩) hbl (zh)).trans d0;have d1:=(M_wb.cell (a:=⟨gk,1,o⟩) hbl (zh)).trans d1;have hbl:=Q hbl M_wb.size;skip))
   all_goals
    have M2:=s (M_wa.trans' M_wb);have HN2:=s (HN.out.later M2.out);have BR2:=s (BR.out.mod M2.out (ze));clear m_wa m_wb M_wa M_wb d0 d1 hbl;cases bb with
    | false=>
     go_wp2_with fail;go_roundw
     case rel=>exact ⟨k+1,xs,by first | rfl | go_num,rfl,J,J,HN2,HX⟩
     case measure=>simp [intOf];omega
    | true=>
     obtain ⟨Fo',so,mo,fo⟩:=HN2.out;obtain ⟨z,hz⟩:∃z,(xs.map ei).length=z:=⟨_,rfl⟩;have hz8:z≤8:=by simp at hz;omega
     obtain ⟨Ao,capo,rfl,hcapo⟩:=so.shape;rw [hz] at so hcapo HN HN2 ⊢;have SO1:=s so;have MO:=s mo;have FO:=s fo;have LO:=s hz;clear so mo fo hcapo hz;go_wp2_with (at_builtin;refine YF _ rfl _ _ 22 rfl 3 i0 (.int c 0) 1 8 ν hi hz0 hz1 hz2 rfl (zi) _ z (xs.map ei) Fo' rfl (SO1.out.mod (S:=[]) (zg) (ze)) ⟨_,0,o⟩ 1 1 [ei k] (zi) rfl rfl (zM) (yi) (zx) (J) ?_;intro v5 w5 F5 hs5 hm5 hf5;have N5:=s (NewV.app (l:=xs.map ei) (l2:=[ei k]) MO.out FO.out LO.out rfl (zg) hs5 hm5 hf5);obtain ⟨a5,cap5,rfl,_⟩:=hs5.shape;clear hs5 hm5 hf5);go_roundw
     case rel=>
      refine ⟨k+1,xs++[k],by first | rfl | go_num,rfl,J,zj,?_,?_⟩
      ·show NewV _ _ _ _ _;rw [η];exact N5.out
      ·show ∀x∈xs++[k],x < 8;intro x hx;simp at hx;rcases hx with hx | rfl
       ·exact HX.out x hx
       ·exact hlt
     case measure=>simp [intOf];omega
  ·obtain rfl:k=8:=J;obtain ⟨Fo',so,mo,fo⟩:=HN.out;obtain ⟨Ao,capo,rfl,hcapo⟩:=so.shape;have RV:=s (Rv.of_sl so rfl);have FL:=s so.lt;have hzl:(xs.map ei).length≤8:=by simpa using hlen
   clear so mo fo hcapo LV HO VO MY HN;generalize (xs.map ei).length=z at *;go_wp2_with fail;refine (VA.out _ MW.out).mono ?_;rintro e w2 ⟨rfl,rfl⟩;go_wp2_with fail;refine (SO.out _ _ _ _ xs Fo' RV.out FL.out HX.out (J)).mono ?_;rintro e w3 ⟨g,W,rfl,hW,bg,hg,m3⟩;have B3:=s (B8R.out.mod m3 (ze));have MZ:=s (MW.out.trans' m3);have BG:=s bg;have HGG:=s hg;obtain ⟨r0,r1⟩:=B3.out.cells2;have hrl:=B3.out.lt;obtain ⟨f0,f1,-⟩:=B3.out.frozs;have hgr:N (gk+1 < g):=wt;clear bg hg m3 SO VA;go_wp2_with fail;have BX:=(B3.out.set 0 (u c 3)).set 1 (d (Z ⟨g,0,o⟩) 1 1);simp only [D,Δ,Γ] at BX;have MX:K [gk+1] w3 ((w3.setCell ⟨gk+1,0,o⟩ (u c 3)).setCell ⟨gk+1,1,o⟩ (d (Z ⟨g,0,o⟩) 1 1)):=zg;have BGX:=BG.out.mod MX (by have:=hgr.out;simp;omega);have MF:=MZ.out.trans MX (yQ);have hgw:w.heap.size≤g:=δ MW.out.size HGG.out;obtain ⟨z0,z1⟩:=BX.cells2;generalize (w3.setCell ⟨gk+1,0,o⟩ (u c 3)).setCell ⟨gk+1,1,o⟩ (d (Z ⟨g,0,o⟩) 1 1)=X at *;refine χ (v:=φ #[π #[u c 3,d (Z ⟨g,0,o⟩) 1 1],u H 0]) (by simp [ξ,ε,go_sem,z0,z1];try rfl) rfl ?_;exact ⟨g,W,rfl,hW,BGX,hgw,MF⟩
open Go.RowKit
theorem zY5 {w:ω} {bo:Nat} {p q Fo:List Nat} (hO:IsOrd w bo p q Fo) (hp5:p.length≤5) (hpv:∀v∈p,v < 16) (x:Nat) (hx:x < 65536):
 Ψ V 71 #[R (Z ⟨bo,0,o⟩),u c x] w fun e w'=>(∃y:Nat,(y < 2 ^ p.length∧∀l,l < p.length→y.testBit l=x.testBit (p.getD l 0))∧e=O (u ι y))∧w'=w:=by
 have hp:p.length≤16:=J;have VO:=s (Xh hO);have VR:N (∀l,(hl:l < p.length)→_):=fun l hl=>zj2 hO hp l hl
 have PV:N (∀l,(hl:l < p.length)→p[l] < 16):=fun l hl=>hpv _ (σ hl)
 obtain ⟨n,hn⟩:∃n,p.length=n:=⟨_,rfl⟩;rw [hn] at VO hp hp5 ⊢;have HN:=s hn;clear hO hpv hn;go_in;go_wp2_with fail;refine VO.out.mono ?_;rintro e w1 ⟨rfl,rfl⟩;go_wp2_with fail
 go_loopw [5,6,9] (fun a _ i wr=>∃(k y:Nat),i=u c k∧k≤n∧a=u ι y∧N (y < 2 ^ k∧∀l,l < k→y.testBit l=x.testBit (p.getD l 0))∧wr=w1) (fun _ _ i _=>n - (intOf i).toNat)
 case atStart=>exact ⟨0,0,rfl,J,rfl,⟨ze,fun l hl=>J⟩,rfl⟩
 case round=>
  obtain ⟨k,y,rfl,hk,rfl,hy,rfl⟩:=hrel;by_cases hlt:k < n
  ·have hlt':(k:Int) < n:=J;have hk0:(0:Int)≤k:=J;have C1:=s (VR.out k (zQ));have h16:=PV.out k (zQ);have HD:N (p.getD k 0=p[k]'(zQ)):=by show _=_;rw [List.getD_eq_getElem?_getD,List.getElem?_eq_getElem (zQ)];rfl
   generalize p[k]'(zQ)=v at *;go_wp2_with fail;refine C1.out.mono ?_;rintro e w2 ⟨rfl,rfl⟩;go_wp2_with fail;refine ⟨?_,zR⟩;obtain ⟨y',e',q1,q2,q3⟩:=yf1 (x:=x) (v:=v) hy.out.1 (show k < 5 from J) hx;refine ⟨k+1,y',ze,J,by rw [e'],⟨q1,fun l hl=>?_⟩,trivial⟩;by_cases h:l=k
   ·subst h;rw [q2,HD.out]
   ·rw [q3 l (J)];exact hy.out.2 l (J)
  ·obtain rfl:k=n:=J;go_wp2_with fail;go_ret;exact ⟨⟨_,hy.out,rfl⟩,rfl⟩
open Go.RowKit
theorem XF (n:Nat) (hn:n≤5) (w:ω):Ψ V 116 #[u c n] w fun e w'=>∃g,e=O (π #[u c n,d (Z ⟨g,0,o⟩) 1 1])∧Blk w' g #[u Θ 0] 185∧w.heap.size≤g∧K [] w w':=by
 have WO:=s (zC9 n hn);obtain ⟨gk,hgk⟩:∃gk,w.heap.size=gk:=⟨_,rfl⟩
 have MK:N (∀w:ω,(Instr.makeSlice 86 (u c 1) (u c 1)).run V w=.ok (d (Z ⟨w.heap.size,0,o⟩) 1 1) (w.alloc (Y #[u Θ 0] 185))):=fun w=>by
  exact Yg
 have mk:=MK.out (w.alloc (Y #[u c 0,d o 0 0] 88));clear MK;go_in;go_wp2_with fail;refine (WO.out _).mono ?_;rintro e w1 ⟨rfl,rfl⟩;go_wp2_with fail;have B:=(G w #[u c n,d (Z ⟨gk+1,0,o⟩) 1 1] 88 gk hgk.symm).alloc (Y #[u Θ 0] 185);have BW:=G (w.alloc (Y #[u c n,d (Z ⟨gk+1,0,o⟩) 1 1] 88)) #[u Θ 0] 185 (gk+1) (zk);have M:K [] w ((w.alloc (Y #[u c n,d (Z ⟨gk+1,0,o⟩) 1 1] 88)).alloc (Y #[u Θ 0] 185)):=zg;obtain ⟨z0,z1⟩:=B.cells2;generalize (w.alloc (Y #[u c n,d (Z ⟨gk+1,0,o⟩) 1 1] 88)).alloc (Y #[u Θ 0] 185)=X at *;refine χ (v:=π #[u c n,d (Z ⟨gk+1,0,o⟩) 1 1]) (by simp [ξ,θ,go_sem,z0,z1];try rfl) rfl ?_;exact ⟨gk+1,rfl,BW,J,M⟩
def zE7 (w:ω) (nv W:Nat) (e:Ending) (w':ω):Prop:=
 ∃g,e=O (φ #[π #[u c nv,d (Z ⟨g,0,o⟩) 1 1],u H 0])∧Blk w' g #[u Θ (W:Nat)] 185∧w.heap.size≤g∧K [] w w'
theorem yb2 {w:ω} {A:Option Addr} {nv n cap:Nat} {xs:List Nat} {F:List Nat} (h:Rv w (d A n cap) (xs.map ei) F) (hF:∀k∈F,k < w.heap.size) (hv5:nv≤5) (hx:∀x∈xs,x < 2 ^ nv) (hn:n≤100000):
 Ψ V 72 #[u c nv,d A n cap] w (zE7 w nv (zy9 xs)):=by
 have MY:=s (zc7 nv (J));have BL:=s (XF nv hv5);have HR:=s h;have HX:=s hx;have hlen:n=xs.length:=by simpa using h.len.1
 have HL:=s hlen;obtain ⟨gk,hgk⟩:∃gk,w.heap.size=gk:=⟨_,rfl⟩;have hv5':(nv:Int)≤5:=J;obtain ⟨m,hm⟩:∃m,2 ^ nv=m:=⟨_,rfl⟩;have hm32:m≤32:=by have:=ρ (n:=2) (J) hv5;omega
 have hsh:wrap64 (2 ^ nv)=(m:Int):=by
  rw [show ((2:Int) ^ nv)=((2 ^ nv:Nat):Int) from ze,hm];exact IntWalk.wrap64_in _ ⟨J,J⟩
 rw [hm] at HX;clear h hx hlen hm;go_in;go_wp2_with fail;refine (MY.out _).mono ?_;rintro e w1 ⟨rfl,rfl⟩;go_wp2_with fail;refine (BL.out _).mono ?_;rintro e w2 ⟨g,rfl,bg,hg,m2⟩;have hgs0:=m2.size;obtain ⟨gs,hgs⟩:∃gs,w2.heap.size=gs:=⟨_,rfl⟩;have B4:=s (((G w #[u c 0,d o 0 0] 88 gk hgk.symm).mod m2 (ze)).alloc (Y #[u c nv,d (Z ⟨g,0,o⟩) 1 1] 88));have B6:=s (G w2 #[u c nv,d (Z ⟨g,0,o⟩) 1 1] 88 gs hgs.symm);have BG:=s (bg.alloc (Y #[u c nv,d (Z ⟨g,0,o⟩) 1 1] 88));have M3:N (K [] w (w2.alloc (Y #[u c nv,d (Z ⟨g,0,o⟩) 1 1] 88))):=(Ξ (show K [] w _ from zg) m2).alloc _;have hgl:=bg.lt;simp at hg hgs0;have n1:gk≠g:=J;have n2:gs≠g:=J;have n3:gk≠gs:=J;have HG:=s hg;clear bg hg m2 hgs0 BL MY hgl;go_wp2_with fail;generalize w2.alloc (Y #[u c nv,d (Z ⟨g,0,o⟩) 1 1] 88)=w3 at *
 go_loopw [5,8,17] (fun r _ i wr=>∃(k W:Nat),i=u c k∧r=u H 0∧k≤n∧N (W=zy9 (xs.take k))∧N (Blk wr g #[u Θ W] 185)∧N (Blk wr gs #[u c nv,d (Z ⟨g,0,o⟩) 1 1] 88)∧N (Blk wr gk #[u c 0,d o 0 0] 88)∧N (K [] w wr)) (fun _ _ i _=>n - (intOf i).toNat)
 case atStart=>exact ⟨0,0,rfl,rfl,J,rfl,BG,B6,B4,M3⟩
 case round=>
  obtain ⟨k,W,rfl,rfl,hk,hW,BG,B6,B4,M3⟩:=hrel;obtain ⟨s0,s1⟩:=B6.out.cells2;have hsl:=B6.out.lt;have hgl:=BG.out.lt;have g0:=BG.out.cell 0;have gf:=BG.out.froz 0;simp only [E,I] at g0;by_cases hlt:k < n
  ·have hlt':(k:Int) < n:=J;have hk0:(0:Int)≤k:=J;have hkx:k < xs.length:=by rw [←HL.out];exact hlt
   obtain ⟨gb,off,rfl,hc⟩:=(HR.out.mod M3.out (ze)).at k (by simpa using hkx);have hx8:=HX.out xs[k] (σ hkx);have HTK:N (zy9 (xs.take (k+1))=zy9 (xs.take k) ||| 2 ^ xs[k]):=by show _=_;rw [List.take_succ_eq_append_getElem hkx,zW1]
   have hWl:W < 4294967296:=by
    have:=zR9 (m:=32) (l:=xs.take k) (fun x hx=>by have:=HX.out x (List.mem_of_mem_take hx);omega);rw [←hW.out] at this;omega
   rw [κ] at hc;generalize xs[k]=x at *;have hc':wr.cell? ⟨gb,off+k,o⟩=Z (u c (x:Int)):=hc;have hor:=yM9 (x:=W) (v:=x) hWl (J);have HW':N (W ||| 2 ^ x=zy9 (xs.take (k+1))):=by show _=_;rw [HTK.out,←hW.out]
   generalize W ||| 2 ^ x=W' at *;have hx0:¬((x:Int) < 0):=J;have hx1:¬((m:Int)≤x):=J;have hd:(x:Int) / 64=0:=J;have hm:(x:Int) % 64=x:=J;clear hc hkx hWl;go_wp2_with fail
   go_region
   exact Ye
  ·obtain rfl:k=n:=J;obtain ⟨r0,r1⟩:=B4.out.cells2;have hrl:=B4.out.lt;obtain ⟨f0,f1,-⟩:=B4.out.frozs;go_wp2_with fail;have BR:=(B4.out.set 0 (u c nv)).set 1 (d (Z ⟨g,0,o⟩) 1 1);simp only [D,Δ,Γ] at BR;have MR:K [gk] wr ((wr.setCell ⟨gk,0,o⟩ (u c nv)).setCell ⟨gk,1,o⟩ (d (Z ⟨g,0,o⟩) 1 1)):=zg;have BGR:=BG.out.mod MR (by simpa using fun e=>n1 e.symm);have MF:=M3.out.trans MR (yQ);obtain ⟨z0,z1⟩:=BR.cells2;generalize (wr.setCell ⟨gk,0,o⟩ (u c nv)).setCell ⟨gk,1,o⟩ (d (Z ⟨g,0,o⟩) 1 1)=X at *;refine χ (v:=φ #[π #[u c nv,d (Z ⟨g,0,o⟩) 1 1],u H 0]) (by simp [ξ,ζ,go_sem,z0,z1];try rfl) rfl ?_;exact ⟨g,rfl,by have:=hW.out;rw [this,List.take_of_length_le (by have:=HL.out;omega)] at BGR;exact BGR,jc,MF⟩
open Go.RowKit
def LvP (p:List Nat) (n x y:Nat):Prop:=y < 2 ^ n∧∀l,l < n→y.testBit l=x.testBit (p.getD l 0)
theorem zB7 {w:ω} {b bo room f n W t a:Nat} {p q Fo F:List Nat} {L:List Rc} (h1:1≤f) (h5:f≤5) (hn5:n≤5) (hS:Sto w b n room L F) (hL:L.length≤1048576) (hO:IsOrd w bo p q Fo) (hp:Perm p n) (hW:W < 2 ^ (2 ^ n)) (hE:EdT L f n n 0 ⟨t,a⟩ (Xz W p n 0 0)):
 Ψ V 34 #[R (Z ⟨b,0,o⟩),R (Z ⟨bo,0,o⟩),u H f,π #[u H t,u C a]] w (zE7 w n W):=by
 have VA:N (∀W',K [] w W'→Ψ V 67 #[R (Z ⟨b,0,o⟩)] W' fun e w'=>e=O (u c n)∧w'=W'):=fun W' md=>by
  obtain ⟨ba,bi,Fa,c0,_⟩:=(hS.st.mod md (ze)).own;exact YH b n W' c0
 have VO:N (∀W',K [] w W'→Ψ V 31 #[R (Z ⟨bo,0,o⟩)] W' fun e w'=>e=O (u c n)∧w'=W'):=fun W' md=>by
  have:=Xh (hO.mod md (ze));rw [hp.len] at this;exact this
 have MY:N (∀W',K [] w W'→_):=fun W' md=>XH n f b bo h1 h5 W' (VA.out W' md) (VO.out W' md)
 have h32:2 ^ n≤32:=by have:=ρ (n:=2) (J) hn5;omega
 have LV:N (∀U (x:Nat),x < 2 ^ n→K [] w U→Ψ V 71 #[R (Z ⟨bo,0,o⟩),u c x] U fun e w'=>∃y:Nat,LvP p n x y∧e=O (u ι y)∧K [] U w'):=fun U x hx md=>by
  refine (zY5 (hO.mod md (ze)) (jD) (fun v hv=>by have:=hp.lt v hv;omega) x (J)).mono ?_;rintro e w' ⟨⟨y,hy,rfl⟩,rfl⟩;rw [hp.len] at hy;exact ⟨y,hy,rfl,Ω _ _⟩
 have HO:N (∀U (x y:Nat),x < 2 ^ n→LvP p n x y→K [] w U→Ψ V 70 #[R (Z ⟨b,0,o⟩),u H f,π #[u H t,u C a],u c 0,u ι y] U fun e w'=>e=O (φ #[Φ (W.testBit x),u H 0])∧K [] U w'):=fun U x y hx hy md=>by
  have h:=zr0 (hS.st.mod md (ze)) hL hS.good (J) f h1 h5 ⟨t,a⟩ (YE f n n 0 (Xz W p n 0 0)).2 hE.rep.a 0 (J) hE.lead y (by have:=hy.1;omega);have e1:(⟨t,a⟩:Ed).t=(YE f n n 0 (Xz W p n 0 0)).1:=hE.rep.t;rw [e1,yb1 h1 h5 y n 0 _ (J),ye9 hp hx hy.2] at h;exact h
 have SO:N (∀U A nn cap (xs:List Nat) Fx,Rv U (d A nn cap) (xs.map ei) Fx→(∀k∈Fx,k < U.heap.size)→(∀x∈xs,x < 2 ^ n)→nn≤100000→_):=fun U A nn cap xs Fx h1 h2 h3 h4=>yb2 h1 h2 hn5 h3 h4
 have hn5':(n:Int)≤5:=J;obtain ⟨m,hm⟩:∃m,2 ^ n=m:=⟨_,rfl⟩
 have hsh:wrap64 (2 ^ n)=(m:Int):=by
  rw [show ((2:Int) ^ n)=((2 ^ n:Nat):Int) from ze,hm];exact IntWalk.wrap64_in _ ⟨J,J⟩
 rw [hm] at LV HO SO h32 hW;have HW:=s hW;obtain ⟨i0,hi,hz0,hz1,hz2⟩:=info_parts Tryz.info3;obtain ⟨gk,hgk⟩:∃gk,w.heap.size=gk:=⟨_,rfl⟩;clear hS hO hE hp hW hm;go_in;go_wp2_with fail;have B0:=s ((G w #[u H t,u C a] 44 gk hgk.symm).alloc (Y #[u c 0,d o 0 0] 88));have B8:=s (G (w.alloc (Y #[u H t,u C a] 44)) #[u c 0,d o 0 0] 88 (gk+1) (zk));have M0:N (K [] w ((w.alloc (Y #[u H t,u C a] 44)).alloc (Y #[u c 0,d o 0 0] 88))):=zg;refine (MY.out _ M0.out).mono ?_;rintro e w1 ⟨rfl,rfl⟩;generalize (w.alloc (Y #[u H t,u C a] 44)).alloc (Y #[u c 0,d o 0 0] 88)=w0 at *;go_wp2_with fail;refine (VA.out _ (ws)).mono ?_;rintro e w1 ⟨rfl,rfl⟩;go_wp2_with fail;generalize wrap64 (2 ^ n)=M at hsh ⊢;subst hsh
 go_loopw [9,11,26] (fun r v i wr=>∃(k:Nat) (xs:List Nat),i=u c k∧r=u H 0∧k≤m∧xs.length≤k∧N (NewV 3 w1 (xs.map ei) wr v)∧N (∀x,x∈xs↔x < k∧W.testBit x=true)) (fun _ _ i _=>m - (intOf i).toNat)
 case atStart=>exact ⟨0,[],rfl,rfl,J,ze,NewV.nil _ (Ω _ _),by show ∀x:Nat,x∈[]↔x < 0∧W.testBit x=true;intro x;simp⟩
 case round=>
  obtain ⟨k,xs,rfl,rfl,hk,hlen,HN,HX⟩:=hrel;have MR:=s HN.out.mod;have MW:=s (M0.out.trans' MR.out);have BR:=s (B0.out.mod MR.out (ze));have B8R:=s (B8.out.mod MR.out (ze));by_cases hlt:k < m
  ·have hlt':(k:Int) < m:=J;have hk0:(0:Int)≤k:=J;have LVK:N (∀U,K [] wr U→_):=fun U md=>LV.out U k hlt (MW.out.trans' md)
   have HOK:N (∀wa U (y:Nat),LvP p n k y→K [] wr wa→K [] wa U→_):=fun wa U y hy m1 md=>HO.out U k y hlt hy (MW.out.trans' (m1.trans' md))
   obtain ⟨bb,hbb⟩:∃bb,W.testBit k=bb:=⟨_,rfl⟩;rw [hbb] at HOK;have HBB:=s hbb;clear hbb;obtain ⟨d0,d1⟩:=BR.out.cells2;have hbl:=BR.out.lt;clear LV HO VA VO MY;go_wp2_with fail
   go_region_held3 (fun w'=>w'.cell? ⟨gk,0,o⟩=Z (u H t)∧w'.cell? ⟨gk,1,o⟩=Z (u C a)) (go_keep) (first | (go_at_call 71;refine (LVK.out _ (zg)).mono ?_;rintro e' wa ⟨y,hy,rfl,m_wa⟩;have M_wa:=Ξ (show K _ wr _ from zg) m_wa;have d0:=(M_wa.cell (a:=⟨gk,0,o⟩) hbl (zh)).trans d0;have d1:=(M_wa.cell (a:=⟨gk,1,o⟩) hbl (zh)).trans d1;have hbl:=Q hbl M_wa.size;skip) | (go_at_call 70;refine (HOK.out wa _ y hy M_wa (zg)).mono ?_;rintro e' wb ⟨rfl,m_wb⟩;have M_wb:=Ξ (show K _ wa _ from zg) m_wb;have d0:=(M_wb.cell (a:=⟨gk,0,o⟩) hbl (zh)).trans d0;have d1:=(M_wb.cell (a:=⟨gk,1,o⟩) hbl (zh)).trans d1;have hbl:=Q hbl M_wb.size;skip))
   all_goals
    have M2:=s (M_wa.trans' M_wb);have HN2:=s (HN.out.later M2.out);have BR2:=s (BR.out.mod M2.out (ze));clear m_wa m_wb M_wa M_wb d0 d1 hbl;cases bb with
    | false=>
     go_wp2_with fail;go_roundw
     case rel=>
      refine ⟨k+1,xs,by first | rfl | go_num,rfl,J,J,HN2,?_⟩;show ∀x:Nat,x∈xs↔x < k+1∧W.testBit x=true;intro x;rw [HX.out];constructor
      ·exact fun h=>⟨J,h.2⟩
      ·rintro ⟨h,h2⟩;refine ⟨?_,h2⟩;rcases τ.1 h with h | rfl
       ·exact h
       ·rw [HBB.out] at h2;cases h2
     case measure=>simp [intOf];omega
    | true=>
     obtain ⟨Fo',so,mo,fo⟩:=HN2.out;obtain ⟨z,hz⟩:∃z,(xs.map ei).length=z:=⟨_,rfl⟩;have hz8:z≤32:=by simp at hz;omega
     obtain ⟨Ao,capo,rfl,hcapo⟩:=so.shape;rw [hz] at so hcapo HN HN2 ⊢;have SO1:=s so;have MO:=s mo;have FO:=s fo;have LO:=s hz;clear so mo fo hcapo hz;go_wp2_with (at_builtin;refine YF _ rfl _ _ 22 rfl 3 i0 (.int c 0) 1 8 ν hi hz0 hz1 hz2 rfl (zi) _ z (xs.map ei) Fo' rfl (SO1.out.mod (S:=[]) (zg) (ze)) ⟨_,0,o⟩ 1 1 [ei k] (zi) rfl rfl (zM) (yi) (zx) (J) ?_;intro v5 w5 F5 hs5 hm5 hf5;have N5:=s (NewV.app (l:=xs.map ei) (l2:=[ei k]) MO.out FO.out LO.out rfl (zg) hs5 hm5 hf5);obtain ⟨a5,cap5,rfl,_⟩:=hs5.shape;clear hs5 hm5 hf5);go_roundw
     case rel=>
      refine ⟨k+1,xs++[k],by first | rfl | go_num,rfl,J,zj,?_,?_⟩
      ·show NewV _ _ _ _ _;rw [η];exact N5.out
      ·show ∀x:Nat,x∈xs++[k]↔x < k+1∧W.testBit x=true;intro x;rw [List.mem_append,HX.out,List.mem_singleton];constructor
       ·rintro (h | rfl)
        ·exact ⟨J,h.2⟩
        ·exact ⟨J,HBB.out⟩
       ·rintro ⟨h,h2⟩;rcases τ.1 h with h | h
        ·exact .inl ⟨h,h2⟩
        ·exact .inr h
     case measure=>simp [intOf];omega
  ·have hkm:k=m:=J;have hlt':¬(k:Int) < m:=J;have HWL:N (zy9 xs=W):=yg6 HW.out (fun x=>by rw [HX.out,hkm]);have HXM:N (∀x∈xs,x < m):=fun x hx=>by have:=((HX.out x).1 hx).1;omega
   obtain ⟨Fo',so,mo,fo⟩:=HN.out;obtain ⟨Ao,capo,rfl,hcapo⟩:=so.shape;have RV:=s (Rv.of_sl so rfl);have FL:=s so.lt;have hzl:(xs.map ei).length≤32:=by rw [List.length_map];omega
   clear so mo fo hcapo LV HO VO MY HN;generalize (xs.map ei).length=z at *;go_wp2_with fail;refine (VA.out _ MW.out).mono ?_;rintro e w2 ⟨rfl,rfl⟩;go_wp2_with fail;refine (SO.out _ _ _ _ xs Fo' RV.out FL.out HXM.out (J)).mono ?_;rintro e w3 ⟨g,rfl,bg,hg,m3⟩;rw [HWL.out] at bg;have B3:=s (B8R.out.mod m3 (ze));have MZ:=s (MW.out.trans' m3);have BG:=s bg;have HGG:=s hg;obtain ⟨r0,r1⟩:=B3.out.cells2;have hrl:=B3.out.lt;obtain ⟨f0,f1,-⟩:=B3.out.frozs;have hgr:N (gk+1 < g):=wt;clear bg hg m3 SO VA;go_wp2_with fail;have BX:=(B3.out.set 0 (u c n)).set 1 (d (Z ⟨g,0,o⟩) 1 1);simp only [D,Δ,Γ] at BX;have MX:K [gk+1] w3 ((w3.setCell ⟨gk+1,0,o⟩ (u c n)).setCell ⟨gk+1,1,o⟩ (d (Z ⟨g,0,o⟩) 1 1)):=zg;have BGX:=BG.out.mod MX (by have:=hgr.out;simp;omega);have MF:=MZ.out.trans MX (yQ);have hgw:w.heap.size≤g:=δ MW.out.size HGG.out;obtain ⟨z0,z1⟩:=BX.cells2;generalize (w3.setCell ⟨gk+1,0,o⟩ (u c n)).setCell ⟨gk+1,1,o⟩ (d (Z ⟨g,0,o⟩) 1 1)=X at *;refine χ (v:=φ #[π #[u c n,d (Z ⟨g,0,o⟩) 1 1],u H 0]) (by simp [ξ,ε,go_sem,z0,z1];try rfl) rfl ?_;exact ⟨g,rfl,BGX,hgw,MF⟩
open Go.RowKit
theorem zL9 {w:ω} {b n room f bq g:Nat} {q0 q2:Value} {F:List Nat} {L:List Rc} (hS:IsSt w b n L room F) (hL:L.length≤1048576) (hn:n≤16) (hq:Blk w bq #[q0,R (Z ⟨b,0,o⟩),q2] 82) {e:Ed} (h1:1≤f) (h5:f≤5) (hP:LeadsP L f e 0 n)
 (hg:Blk w g #[u H e.t,u C e.a] 44):
 Ψ V 176 #[R (Z ⟨bq,0,o⟩),u H f,u C 0,d (Z ⟨g,0,o⟩) 1 1] w fun e w'=>e=O (u H 0)∧K [] w w':=by
 have LD:N (∀W,K [] w W→Ψ V 86 #[R (Z ⟨b,0,o⟩),u H f,edv e,u c 0] W fun e w'=>e=O (Φ true)∧K [] W w'):=fun W m=>YI (hS.mod m (ze)) hL hn f h1 h5 e 0 (J) hP
 have VA:N (∀W',K [] w W'→Ψ V 67 #[R (Z ⟨b,0,o⟩)] W' fun e w'=>e=O (u c n)∧w'=W'):=fun W' md=>by
  obtain ⟨ba,bi,Fa,c0,_⟩:=(hS.mod md (ze)).own;exact YH b n W' c0
 have IF:=s (YZ f h1 h5);obtain ⟨t,a⟩:=e;unfold edv at LD;simp only at LD hg;have BQ:=s hq;have BG:=s hg;clear hS hq hg hP;go_in;go_wp2_with fail;refine (IF.out _).mono ?_;rintro e w1 ⟨rfl,rfl⟩;go_wp2_with fail
 go_loopw [8,18] (fun r i wr=>∃k:Nat,i=u c k∧r=u H 0∧k≤1∧N (K [] w1 wr)) (fun _ i _=>1 - (intOf i).toNat)
 case atStart=>exact ⟨0,rfl,rfl,J,Ω _ _⟩
 case round=>
  obtain ⟨k,rfl,rfl,hk,HM⟩:=hrel;have q1:=(BQ.out.mod HM.out (ze)).cell 1;simp only [E,I,ψ] at q1;have hql:=(BQ.out.mod HM.out (ze)).lt;by_cases hlt:k < 1
  ·obtain rfl:k=0:=J;obtain ⟨d0,d1⟩:=(BG.out.mod HM.out (ze)).cells2;have hgl:=(BG.out.mod HM.out (ze)).lt;obtain ⟨gs,hgs⟩:∃gs,wr.heap.size=gs:=⟨_,rfl⟩;have hqs:¬bq=gs:=J;have hqs2:¬gs=bq:=J;have M1:N (K [] w1 (wr.alloc (Y #[u H t,u C a] 44))):=HM.out.alloc _;have BE:=G wr #[u H t,u C a] 44 gs hgs.symm;go_wp2_with fail;have q1':=((show K [] wr (wr.alloc (Y #[u H t,u C a] 44)) from zg).cell (a:=⟨bq,1,o⟩) hql (ze)).trans q1;generalize wr.alloc (Y #[u H t,u C a] 44)=w2 at *;obtain ⟨x0,x1⟩:=BE.cells2;have hxl:=BE.lt;have hql2:bq < w2.heap.size:=Nat.lt_trans (J) hxl;clear BE q1 d0 d1
   go_region_held3 (fun w'=>w'.cell? ⟨bq,1,o⟩=Z (R (Z ⟨b,0,o⟩))∧w'.cell? ⟨gs,0,o⟩=Z (u H t)∧w'.cell? ⟨gs,1,o⟩=Z (u C a)) (go_keep) (first | (go_at_call 86;refine (LD.out _ (M1.out.trans' (show K [] w2 _ from zg))).mono ?_;rintro e' w3 ⟨rfl,m_w3⟩;have M_w3:=Ξ (show K _ w2 _ from zg) m_w3;have q1':=(M_w3.cell (a:=⟨bq,1,o⟩) hql2 (zh)).trans q1';have x0:=(M_w3.cell (a:=⟨gs,0,o⟩) hxl (zh)).trans x0;have x1:=(M_w3.cell (a:=⟨gs,1,o⟩) hxl (zh)).trans x1;have hql2:=Q hql2 M_w3.size;have hxl:=Q hxl M_w3.size))
   all_goals
    have M3:=s (M1.out.trans' M_w3);go_wp2_with fail;go_roundw
    case rel=>exact ⟨1,by first | rfl | go_num,rfl,J,M3⟩
    case measure=>simp [intOf]
  ·obtain rfl:k=1:=J;go_wp2_with fail;refine (VA.out _ (by first | exact HM.out | exact HM.out.drewN _)).mono ?_;rintro e w2 ⟨rfl,rfl⟩;go_wp2_with fail;go_ret;exact ⟨rfl,HM.out⟩
open Go.RowKit
theorem Tryz.infoBo:(Tryz.prog.info? 4).map (fun i=>(i.zero,i.size,i.bytes))=Z (Z (Φ false),1,1):=by kernel_rfl
theorem yE9 (w:ω):(Instr.makeSlice 47 (u c 8) (u c 8)).run V w=.ok (d (Z ⟨w.heap.size,0,o⟩) 8 8) (w.alloc (Y (madeCells #[Φ false] 8) 4)):=by
 obtain ⟨i0,hi,hz0,hz1,hz2⟩:=info_parts Tryz.infoBo;have:=run_make (P:=V) w 47 4 i0 _ Tryz.underlying47 hi hz0 c c 8 8 (J) (J) (ye) (J);simpa [hz1,Value.cells] using this
theorem xor8:∀x < 8,∀k < 3,0≤bits .xor c ((x:Nat):Int) (wrap64 (2 ^ k))∧bits .xor c ((x:Nat):Int) (wrap64 (2 ^ k)) < 8:=zL
theorem yL7 (x k:Nat) (hx:x < 8) (hk:k < 3):∃z:Nat,bits .xor c (x:Int) (wrap64 (2 ^ k))=(z:Int)∧z < 8:=by
 obtain ⟨h1,h2⟩:=xor8 x hx k hk;exact ⟨(bits .xor c (x:Int) (wrap64 (2 ^ k))).toNat,J,J⟩
theorem zl1 {w:ω} {b room f bq:Nat} {q0 q2:Value} {F:List Nat} {L:List Rc} (hS:IsSt w b 3 L room F) (hL:L.length≤1048576) (hG:Good L 3) (hq:Blk w bq #[q0,R (Z ⟨b,0,o⟩),q2] 82) {e:Ed} {T:Tr} (hr:Root L 3 f e T):
 Ψ V 152 #[R (Z ⟨bq,0,o⟩),u H f,edv e] w fun e' w'=>∃x:Nat,e'=O (φ #[u ι x,u H 0])∧x < 65536∧K [] w w':=by
 have VA:N (∀W',K [] w W'→Ψ V 67 #[R (Z ⟨b,0,o⟩)] W' fun e w'=>e=O (u c 3)∧w'=W'):=fun W' md=>by
  exact Yh
 have MY:N (∀W g,K [] w W→Blk W g #[u H e.t,u C e.a] 44→_):=fun W g md hg=>zL9 (hS.mod md (ze)) hL (J) (hq.mod md (ze)) hr.f1 hr.f5 hr.leads hg
 have HO:N (∀W (y:Nat),y < 65536→K [] w W→Ψ V 70 #[R (Z ⟨b,0,o⟩),u H f,edv e,u c 0,u ι y] W fun e w'=>∃bb,e=O (φ #[Φ bb,u H 0])∧K [] W w'):=fun W y hy md=>by
  exact Yf
 obtain ⟨t,a⟩:=e;unfold edv at *;simp only at HO MY ⊢;have BQ:=s hq;have hbq:=hq.lt;obtain ⟨gk,hgk⟩:∃gk,w.heap.size=gk:=⟨_,rfl⟩;have MB:N (∀w:ω,_):=fun w=>yE9 w
 clear hS hr hG hq;go_in;go_wp2_with fail;have B0:=(G w #[u H t,u C a] 44 gk hgk.symm).alloc (Y #[u H t,u C a] 44);have B1:=G (w.alloc (Y #[u H t,u C a] 44)) #[u H t,u C a] 44 (gk+1) (zk);have M0:N (K [] w ((w.alloc (Y #[u H t,u C a] 44)).alloc (Y #[u H t,u C a] 44))):=zg;generalize (w.alloc (Y #[u H t,u C a] 44)).alloc (Y #[u H t,u C a] 44)=w0 at *;refine (MY.out _ _ M0.out B1).mono ?_;rintro e w1 ⟨rfl,m1⟩;have M1:=s (M0.out.trans' m1);have BE:=s (B0.mod m1 (ze));have q1:=(BQ.out.mod M1.out (ze)).cell 1;simp only [E,I,ψ] at q1;have hql:=(BQ.out.mod M1.out (ze)).lt;clear B0 B1 m1 MY;go_wp2_with fail;refine (VA.out _ (by first | exact M1.out | exact M1.out.drewN _)).mono ?_;rintro e w2 ⟨rfl,rfl⟩;have MB2:=MB.out w2;obtain ⟨g,hg⟩:∃g,w2.heap.size=g:=⟨_,rfl⟩;rw [hg] at MB2;have R0:N (∃fv:Nat→Bool,Row (w2.alloc (Y (madeCells #[Φ false] 8) 4)) g 4 8 (fun i=>Φ (fv i))):=⟨fun _=>false,Row.made w2 8 (Φ false) 4 g hg.symm⟩;have M2:N (K [] w2 (w2.alloc (Y (madeCells #[Φ false] 8) 4))):=(Ω _ _).alloc _;have hgw:N (w.heap.size < g):=by have:=BE.out.lt;have:=M1.out.size;show _ < _;omega
 clear MB VA;go_wp2_with fail;generalize w2.alloc (Y (madeCells #[Φ false] 8) 4)=w3 at *;have M3:=s (M1.out.trans' M2.out);have BE3:=s (BE.out.mod M2.out (ze));clear q1 hql M0 BE MB2
 go_loopw [11,33] (fun _ i wr=>∃(k:Nat) (fv:Nat→Bool),i=u c k∧k≤8∧N (Row wr g 4 8 (fun i=>Φ (fv i)))∧N (Blk wr gk #[u H t,u C a] 44)∧N (K [] w wr)) (fun _ i _=>8 - (intOf i).toNat)
 case atStart=>
  obtain ⟨fv,hr⟩:=R0.out;exact ⟨0,fv,rfl,J,hr,BE3,M3⟩
 case round=>
  clear R0 M3 BE3 M1 M2;obtain ⟨k,fv,rfl,hk,HR,BE,HM⟩:=hrel;by_cases hlt:k < 8
  ·have hlt':(k:Int) < 8:=J;have hk0:(0:Int)≤k:=J;have HOK:N (∀W,K [] wr W→_):=fun W md=>HO.out W k (J) (HM.out.trans' md)
   have ew:IntKind.u16.wrap (k:Int)=k:=by simp [IntKind.wrap,IntKind.bits,IntKind.signed];omega
   rw [←ew] at HOK;clear ew;obtain ⟨d0,d1⟩:=BE.out.cells2;have hbl:=BE.out.lt;have q1:=(BQ.out.mod HM.out (ze)).cell 1;simp only [E,I,ψ] at q1;have hql:=(BQ.out.mod HM.out (ze)).lt;have g0:=HR.out.cell k hlt;have gf:=HR.out.froz k;have hgl:=HR.out.lt;have hgq:¬g=bq:=qK;have hgq2:¬bq=g:=qK;have hgk1:¬g=gk:=qK;have hgk2:¬gk=g:=qK;go_wp2_with fail
   go_region_held3 (fun w'=>w'.cell? ⟨bq,1,o⟩=Z (R (Z ⟨b,0,o⟩))∧w'.cell? ⟨gk,0,o⟩=Z (u H t)∧w'.cell? ⟨gk,1,o⟩=Z (u C a)) (go_keep) (first | (go_at_call 70;(with_reducible refine (HOK.out _ (zg)).mono ?_);rintro e' w4 ⟨bb,rfl,m_w4⟩;have M_w4:=Ξ (show K _ wr _ from zg) m_w4;have q1:=(M_w4.cell (a:=⟨bq,1,o⟩) hql (zh)).trans q1;have d0:=(M_w4.cell (a:=⟨gk,0,o⟩) hbl (zh)).trans d0;have d1:=(M_w4.cell (a:=⟨gk,1,o⟩) hbl (zh)).trans d1;have hql:=Q hql M_w4.size;have hbl:=Q hbl M_w4.size;have g0:=(m_w4.cell (a:=⟨g,k,o⟩) (zh) (ze)).trans g0;have gf:=(m_w4.froz (a:=⟨g,k,o⟩) (zh) (ze)).trans gf;have hgl:=Q hgl m_w4.size))
   all_goals
    have HR4:N (Row (w4.setCell ⟨g,k,o⟩ (Φ bb)) g 4 8 (fun i=>Φ (if i=k then bb else fv i))):=((HR.out.mod M_w4 (ze)).set k (Φ bb)).congr (fun i hi=>by by_cases q:i=k<;>simp [q]);have MS:K [g] w4 (w4.setCell ⟨g,k,o⟩ (Φ bb)):=(Ω _ _).setCell _ _ (ze);have BE4:=s ((BE.out.mod M_w4 (ze)).mod MS (by simpa using hgk2));have HM4:N (K [] w (w4.setCell ⟨g,k,o⟩ (Φ bb))):=(HM.out.trans' M_w4).trans MS (by intro i hi hm;have:=hgw.out;simp at hm;omega);clear MS m_w4 M_w4 q1 d0 d1 g0 gf hgl hql hbl;go_wp2_with fail;go_roundw
    case rel=>exact ⟨k+1,fun i=>if i=k then bb else fv i,by first | rfl | go_num,J,HR4,BE4,HM4⟩
    case measure=>simp [intOf];omega
  ·obtain rfl:k=8:=J;clear HO;go_wp2_with fail
   go_loopw [12,13,53,58] (fun y _ i _ wx=>∃(j y':Nat),i=u c j∧j≤3∧y=u ι y'∧y' < 65536∧N (Row wx g 4 8 (fun i=>Φ (fv i)))∧N (K [] w wx)) (fun _ _ i _ _=>3 - (intOf i).toNat)
   case atStart=>exact ⟨0,0,rfl,J,rfl,J,HR,HM⟩
   case round=>
    clear HR HM BE;obtain ⟨j,y,rfl,hj,rfl,hy,HR,HM⟩:=hrel;by_cases hjl:j < 3
    ·have hjl':(j:Int) < 3:=J;have hj0:(0:Int)≤j:=J;go_wp2_with fail
     go_loopw [12,14,58] (fun y2 _ i wx=>∃(x y':Nat),i=u c x∧x≤8∧y2=u ι y'∧y' < 65536∧N (Row wx g 4 8 (fun i=>Φ (fv i)))∧N (K [] w wx)) (fun _ _ i _=>8 - (intOf i).toNat)
     case atStart=>exact ⟨0,y,rfl,J,rfl,hy,HR,HM⟩
     case round=>
      clear HR HM;obtain ⟨x,y',rfl,hx,rfl,hy',HR,HM⟩:=hrel;by_cases hxl:x < 8
      ·have hxl':(x:Int) < 8:=J;have hx0:(0:Int)≤x:=J;obtain ⟨z,hz,hz8⟩:=yL7 x j hxl hjl;have hz8':(z:Int) < 8:=J;have hz0:(0:Int)≤z:=J;have g1:=HR.out.cell x hxl;have g2:=HR.out.cell z hz8;have hgl:=HR.out.lt;generalize fv x=b1 at *;generalize fv z=b2 at *;cases b1<;>cases b2
       all_goals
        go_wp2_with fail
        go_quiet (fail)
        go_wp2_with fail
        first
         | exact ⟨⟨x+1,y',ze,J,rfl,hy',HR.out.mod (μ (Ω [] wr) _) (ze),HM.out.trans' (μ (Ω [] wr) _)⟩,zR⟩
         | (
          obtain ⟨y3,e3,hy3⟩:=zq9 .or (y':Int) (IntKind.u16.wrap (2 ^ j))
          exact ⟨⟨j+1,y3,ze,J,by rw [e3],hy3,HR.out.mod (μ (Ω [] wr) _) (ze),HM.out.trans' (μ (Ω [] wr) _)⟩,zR⟩)
      ·obtain rfl:x=8:=J;go_wp2_with fail;go_roundw
       case rel=>exact ⟨j+1,y',by first | rfl | go_num,J,rfl,hy',HR,HM⟩
       case measure=>simp [intOf];omega
    ·obtain rfl:j=3:=J;go_wp2_with fail;go_ret2;exact ⟨_,rfl,hy,HM.out⟩
end Go.Proofs.YtbnpoapmnkfhkaaGreatDoor
