import Derived.Test.YtbnpoapmnkfhkaaGreatDoorZt12
set_option maxHeartbeats 4000000
set_option maxRecDepth 100000
set_option linter.unusedVariables false
set_option linter.unusedSimpArgs false
namespace Go.Proofs.YtbnpoapmnkfhkaaGreatDoor
open Go.Value renaming pointer → r, int → o, slice → C, tuple → B, cells → ω, bool → χ
open Option renaming none → d, some → Y
open Go.Lib renaming hid → Z
open Go.Proofs.Tryz renaming prog → X, zeroCells111_size → Ξ
open Go.IntKind renaming i64 → V, u8 → R, u32 → E
open Go renaming World → U, Calls → M, Value → K
open Go.Ending renaming returned → Q
open Go.Proofs.YtbnpoapmnkfhkaaGreatDoor renaming zc → O, Mod → Θ
open List renaming getD_eq_getElem?_getD → J, range → I, getElem?_eq_some_iff → G, mem_cons_self → Ψ, getElem?_eq_getElem → Φ, getElem?_eq_none → Δ, getElem?_range → Γ, length_map → ψ
open Go.Instr renaming makeSlice → D
open Go.Obj renaming cells → A
open _root_.Array renaming getElem?_setIfInBounds → Ω
open Go.RowKit
def yC3 (w:U) (e:Ending) (w':U):Prop:=∃b,e=Q (B #[r (Y ⟨b,0,d⟩),o R 0])∧Θ [] w w'∧w.heap.size≤b∧b < w'.heap.size
theorem zT3:wrap64 (2 ^ 12)=4096:=by
 have e:(2:Int) ^ 12=4096:=zi;rw [e];unfold wrap64;omega
theorem Tryz.infoKapply:(Tryz.prog.info? 390).map (fun i=>(i.zero,i.size,i.bytes))=Y (Y (.agg #[o R 0,o R 0,o R 0,o R 0,o E 0,o R 0,o E 0,o R 0,o E 0,o R 0,o E 0,o V 0]),12,48):=by kernel_rfl
theorem Zx {p:Prop} (h:p:=by
 clear hi hz0 hz1 hz2;go_in;go_wp2;go_ret2
 exact ⟨_,rfl,((Mod.refl _ _).alloc _).alloc _,ze,ze⟩):p:=h
theorem zp7 (N:Nat) (j:Nat) (hj:j≤20) (h1:1≤N) (hN:N≤1048576) (hs:wrap64 (2 ^ j)=(N:Int)) (w:U):M X 26 #[o V j] w (yC3 w):=by
 obtain ⟨i0,hi,hz0,hz1,hz2⟩:=info_parts Tryz.infoKapply
 have hmk:∀w,(D 151 (o V N) (o V N)).run X w=.ok (C (Y ⟨w.heap.size,0,d⟩) N N) (w.alloc (A (madeCells #[o R 0,o R 0,o R 0,o R 0,o E 0,o R 0,o E 0,o R 0,o E 0,o R 0,o E 0,o V 0] (N *12)) 390)):=by
  intro w;have:=run_make (P:=X) w 151 390 i0 _ Tryz.underlying151 hi hz0 V V N N (O) (O) (ye) (O);simpa [hz1,ω] using this
 exact Zx
theorem zo0 (w:U):M X 26 #[o V 12] w (yC3 w):=zp7 4096 12 (O) (O) (O) zT3 w
theorem Tryz.infoKquant:(Tryz.prog.info? 392).map (fun i=>(i.zero,i.size,i.bytes))=Y (Y (.agg #[o R 0,o R 0,o R 0,o .u16 0,o R 0,o E 0,o R 0,o E 0,o R 0,o E 0,o V 0]),11,40):=by kernel_rfl
theorem zr5 (N:Nat) (j:Nat) (hj:j≤20) (h1:1≤N) (hN:N≤1048576) (hs:wrap64 (2 ^ j)=(N:Int)) (w:U):M X 27 #[o V j] w (yC3 w):=by
 obtain ⟨i0,hi,hz0,hz1,hz2⟩:=info_parts Tryz.infoKquant
 have hmk:∀w,(D 154 (o V N) (o V N)).run X w=.ok (C (Y ⟨w.heap.size,0,d⟩) N N) (w.alloc (A (madeCells #[o R 0,o R 0,o R 0,o .u16 0,o R 0,o E 0,o R 0,o E 0,o R 0,o E 0,o V 0] (N *11)) 392)):=by
  intro w;have:=run_make (P:=X) w 154 392 i0 _ Tryz.underlying154 hi hz0 V V N N (O) (O) (ye) (O);simpa [hz1,ω] using this
 exact Zx
theorem zn3 (w:U):M X 27 #[o V 12] w (yC3 w):=zr5 4096 12 (O) (O) (O) zT3 w
theorem Tryz.infoKfamily:(Tryz.prog.info? 409).map (fun i=>(i.zero,i.size,i.bytes))=Y (Y (.agg #[o R 0,o R 0,o R 0,o R 0,o R 0,o E 0,o R 0,o E 0,o R 0,o E 0,o V 0]),11,40):=by kernel_rfl
theorem zn0 (N:Nat) (j:Nat) (hj:j≤20) (h1:1≤N) (hN:N≤1048576) (hs:wrap64 (2 ^ j)=(N:Int)) (w:U):M X 80 #[o V j] w (yC3 w):=by
 obtain ⟨i0,hi,hz0,hz1,hz2⟩:=info_parts Tryz.infoKfamily
 have hmk:∀w,(D 236 (o V N) (o V N)).run X w=.ok (C (Y ⟨w.heap.size,0,d⟩) N N) (w.alloc (A (madeCells #[o R 0,o R 0,o R 0,o R 0,o R 0,o E 0,o R 0,o E 0,o R 0,o E 0,o V 0] (N *11)) 409)):=by
  intro w;have:=run_make (P:=X) w 236 409 i0 _ Tryz.underlying236 hi hz0 V V N N (O) (O) (ye) (O);simpa [hz1,ω] using this
 exact Zx
theorem zm4 (w:U):M X 80 #[o V 12] w (yC3 w):=zn0 4096 12 (O) (O) (O) zT3 w
theorem zO4 (bs:Nat) (w:U):M X 10 #[r (Y ⟨bs,0,d⟩),o V 12] w fun e w'=>∃b vk,e=Q (B #[r (Y ⟨b,0,d⟩),o R 0])∧Blk w' b #[r (Y ⟨bs,0,d⟩),vk] 73∧Θ [] w w'∧w.heap.size≤b:=by
 have CN:Hid (∀w,_):=zo0;go_in;go_wp2_with fail;refine (CN.out _).mono ?_;rintro e w1 ⟨b1,rfl,m1,h1,h2⟩;go_wp2_with fail;go_ret2;exact ⟨_,_,rfl,Blk.new _ _ _,m1.alloc _,m1.size⟩
theorem X6 {w:U} {b bs:Nat} {vk:K} (h:Blk w b #[r (Y ⟨bs,0,d⟩),vk] 73):M X 28 #[r (Y ⟨b,0,d⟩)] w fun e w'=>e=Q (r (Y ⟨bs,0,d⟩))∧w'=w:=by
 obtain ⟨c0,c1⟩:=h.cells2;go_in;go_wp2_with fail;go_ret;exact ⟨rfl,rfl⟩
theorem Zv {p:Prop} (h:p:=by
 have OS:Hid (∀W,Θ [] w W→M X 28 #[r (Y ⟨bp,0,d⟩)] W fun e w'=>e=Q (r (Y ⟨bs,0,d⟩))∧w'=W):=fun W m=>X6 (h.mod m (ze))
 clear h;go_in;go_wp2_with fail;refine (CN.out _).mono ?_;rintro e w1 ⟨b1,rfl,m1,h1,h2⟩;have M1:=Z m1;clear m1;go_wp2_with fail;refine (OS.out _ M1.out).mono ?_;rintro e w2 ⟨rfl,rfl⟩;go_wp2_with fail;go_ret2
 exact ⟨_,_,rfl,Blk.new _ _ _,M1.out.alloc _,M1.out.size⟩):p:=h
theorem zK4 {w:U} {bp bs:Nat} {vk:K} (h:Blk w bp #[r (Y ⟨bs,0,d⟩),vk] 73):M X 11 #[r (Y ⟨bp,0,d⟩),o V 12] w fun e w'=>∃b vq,e=Q (B #[r (Y ⟨b,0,d⟩),o R 0])∧Blk w' b #[r (Y ⟨bp,0,d⟩),r (Y ⟨bs,0,d⟩),vq] 82∧Θ [] w w'∧w.heap.size≤b:=by
 have CN:Hid (∀w,_):=zn3;exact Zv
theorem zC3 {w:U} {bp bs:Nat} {vk:K} (h:Blk w bp #[r (Y ⟨bs,0,d⟩),vk] 73):M X 43 #[r (Y ⟨bp,0,d⟩),o V 12] w fun e w'=>∃b vq,e=Q (B #[r (Y ⟨b,0,d⟩),o R 0])∧Blk w' b #[r (Y ⟨bp,0,d⟩),r (Y ⟨bs,0,d⟩),vq,o R 0] 197∧Θ [] w w'∧w.heap.size≤b:=by
 have CN:Hid (∀w,_):=zm4;exact Zv
open Go.RowKit
theorem zJ3 (n:Nat) (hn:n≤16) (w:U):M X 79 #[o V n] w fun e w'=>∃v,e=Q (B #[v,χ true])∧NewV 3 w ((I n).map ei) w' v:=by
 have hn':(n:Int)≤16:=O;have hmk:∀w,(D 22 (o V n) (o V n)).run X w=.ok (C (Y ⟨w.heap.size,0,d⟩) n n) (w.alloc (A (madeCells #[o V 0] n) 3)):=fun w=>zG2 w n (O)
 obtain ⟨g,hg⟩:∃g,w.heap.size=g:=⟨_,rfl⟩;go_in;go_wp2_with fail;have HG:=Z hg;have S0:=Z (Sl.made1 w 3 n (o V 0) (zx) g hg.symm);have M0:Hid (Θ [] w (w.alloc (A (madeCells #[o V 0] n) 3))):=(Mod.refl _ _).alloc _;clear hmk hg;generalize w.alloc (A (madeCells #[o V 0] n) 3)=w0 at *
 go_loopw [5,16] (fun _ i wr=>∃k:Nat,∃xs:List Nat,k≤n∧i=o V k∧xs.length=n∧(∀j,j < k→xs[j]? =Y j)∧Sl wr 3 1 (C (Y ⟨g,0,d⟩) n n) n (xs.map ei) [g]∧Θ [] w wr) (fun _ i _=>n - (intOf i).toNat)
 case atStart=>exact ⟨0,List.replicate n 0,O,rfl,ze,O,by simpa [ei] using S0.out,M0.out⟩
 case round=>
  obtain ⟨k,xs,hk,rfl,hxl,hxs,hs,hm⟩:=hrel;have HXL:=Z hxl;have HXS:=Z hxs;have HS:=Z hs;have HM:=Z hm;clear hxl hxs hs hm S0 M0;by_cases hlt:k < n
  ·have hlt':(k:Int) < n:=O;obtain ⟨d0,d1,-⟩:=HS.out.at k (O);rw [Φ (by rw [ψ,HXL.out];omega)] at d0;have hgl:=HS.out.lt g (ze);go_wp2_with fail
   have HS2:Hid (Sl (wr.setCell ⟨g,k,d⟩ (o V k)) 3 1 (C (Y ⟨g,0,d⟩) n n) n ((xs.set k k).map ei) [g]):=by
    show Sl _ _ _ _ _ _ _;rw [List.map_set];exact HS.out.set k (o V k)
   have HM2:Hid (Θ [] w (wr.setCell ⟨g,k,d⟩ (o V k))):=HM.out.setCell _ _ (yq);go_roundw
   case rel=>
    refine ⟨k+1,xs.set k k,O,yw,by rw [List.length_set];exact HXL.out,fun j hj=>?_,HS2.out,HM2.out⟩;rw [List.getElem?_set];split
    ·rename_i e;subst e;rw [if_pos (by rw [HXL.out];exact hlt)]
    ·exact HXS.out j (O)
   case measure=>simp [intOf];omega
  ·have hkn:k=n:=O;subst hkn;go_wp2_with fail;go_ret2
   have e:xs=I k:=List.ext_getElem? fun j=>by
    by_cases hj:j < k
    ·rw [HXS.out j hj,Γ hj]
    ·rw [Δ (by rw [HXL.out];omega),Δ (zj)]
   rw [←e];refine ⟨_,rfl,[g],?_,HM.out,fun q hq=>by simp at hq;rw [hq];exact Nat.le_of_eq HG.out⟩;have:=HS.out;rw [show (xs.map ei).length=k by rw [ψ,HXL.out]];exact this
theorem zI0 (n:Nat) (hn:n≤16) (w:U):M X 42 #[o V n] w (yN6 w (I n)):=by
 have PS:Hid (∀w,_):=zJ3 n hn;go_in;go_wp2_with fail;refine (PS.out _).mono ?_;rintro e w1 ⟨v1,rfl,n1⟩;obtain ⟨A1,c1,hv⟩:=n1.shape;obtain ⟨F1,r1,-⟩:=n1.rv;have hl:((I n).map ei).length=n:=ze;rw [hl] at hv;subst hv;have OO:Hid (∀W,Θ [] w1 W→M X 25 #[C A1 n c1] W (yN6 W (I n))):=fun W m=>zx2 (r1.mod m (ze)) ⟨ze,ze,List.nodup_range⟩ hn
 have M1:=Z n1.mod;clear r1 n1 PS hl;go_wp2_with fail;refine (OO.out _ (zg)).mono ?_;rintro e w2 ⟨bo,q,Fo,rfl,io,inv,m2,fo⟩;have IOR:=Z io;have INV:=Z inv;have FO:Hid (∀k∈Fo,w.heap.size≤k):=fun k hk=>Nat.le_trans M1.out.size (fo k hk)
 have M2:=Z (M1.out.trans' m2);clear io inv fo m2;go_wp2_with fail;go_ret2;exact ⟨bo,q,Fo,rfl,IOR.out,INV.out,M2.out,FO.out⟩
def mgL (q:List K) (H:List (Nat × Ed)) (i:Nat):K:=
 if i < 5 then q.getD i (χ false) else if i < 262 then χ (decide (6≤i∧i≤5+H.length)) else
 match (if i < 265 then d else H[(i - 265) / 3]?) with
 | some (f,e)=>if (i - 262) % 3=0 then o R f else if (i - 262) % 3=1 then o R e.t else o E e.a
 | none=>if (i - 262) % 3=2 then o E 0 else o R 0
theorem Tryz.zeroM:Tryz.zeroCells111=((I 1033).map (mgL [r d,r d,r d,r d,r d] [])).toArray:=by kernel_rfl
structure Mgr (w:U) (b:Nat) (q:List K) (H:List (Nat × Ed)):Prop where
 blk:∃c,Blk w b c 111∧c.size=1033∧∀i,i < 1033→c[i]? =Y (mgL q H i)
theorem Mgr.mod {S:List Nat} {w w':U} {b:Nat} {q:List K} {H:List (Nat × Ed)} (h:Mgr w b q H) (m:Θ S w w') (hb:b∉S):Mgr w' b q H:=by
 obtain ⟨c,h1,h2⟩:=h.blk;exact ⟨c,h1.mod m hb,h2⟩
theorem Mgr.cell {w:U} {b:Nat} {q:List K} {H:List (Nat × Ed)} (h:Mgr w b q H) (i:Nat) (hi:i < 1033):w.cell? ⟨b,i,d⟩=Y (mgL q H i):=by
 obtain ⟨c,h1,h2,h3⟩:=h.blk;rw [h1.cell];exact h3 i hi
theorem Mgr.froz {w:U} {b:Nat} {q:List K} {H:List (Nat × Ed)} (h:Mgr w b q H) (i:Nat):w.frozen? ⟨b,i,d⟩=false:=by
 obtain ⟨c,h1,h2,h3⟩:=h.blk;exact h1.froz i
theorem Mgr.lt {w:U} {b:Nat} {q:List K} {H:List (Nat × Ed)} (h:Mgr w b q H):b < w.heap.size:=by
 obtain ⟨c,h1,h2,h3⟩:=h.blk;exact h1.lt
theorem zk5 (q:List K) (H:List (Nat × Ed)) (i:Nat) (hi:i < 5):mgL q H i=q.getD i (χ false):=by unfold mgL;rw [if_pos hi]
theorem Mgr.ptr {w:U} {b:Nat} {q:List K} {H:List (Nat × Ed)} (h:Mgr w b q H) (hq:q.length=5) (j:Nat) (hj:j < 5) (v:K):Mgr (w.setCell ⟨b,j,d⟩ v) b (q.set j v) H:=by
 obtain ⟨c,h1,h2,h3⟩:=h.blk;refine ⟨_,h1.set j v,by simp [h2],fun i hi=>?_⟩;rw [Ω];by_cases e:j=i
 ·subst e;rw [if_pos rfl,if_pos (O),zk5 _ _ _ hj,J,List.getElem?_set_self (O)];rfl
 ·rw [if_neg e,h3 i hi];by_cases h5:i < 5
  ·rw [zk5 _ _ _ h5,zk5 _ _ _ h5,J,J,List.getElem?_set_ne e]
  ·unfold mgL;rw [if_neg h5,if_neg h5]
theorem Mgr.fresh (w:U) (bm:Nat) (h:bm=w.heap.size) (v:K):Mgr (w.alloc (A (Tryz.zeroCells111.setIfInBounds 3 v) 111)) bm [r d,r d,r d,v,r d] []:=by
 refine ⟨_,Blk.new' w _ _ bm h,by rw [Array.size_setIfInBounds];exact Ξ,fun i hi=>?_⟩;rw [Ω];have hsz:Tryz.zeroCells111.size=1033:=Ξ;by_cases e:3=i
 ·subst e;rw [if_pos rfl,if_pos (O)];rfl
 ·rw [if_neg e,Tryz.zeroM,List.getElem?_toArray,List.getElem?_map,Γ hi];simp only [Option.map_some];by_cases h5:i < 5
  ·rw [zk5 _ _ _ h5,zk5 _ _ _ h5];obtain rfl | rfl | rfl | rfl:i=0∨i=1∨i=2∨i=4:=O
   all_goals rfl
  ·unfold mgL;rw [if_neg h5,if_neg h5]
structure Mng (w:U) (bm n room:Nat) (L:List Rc) (Fs:List Nat) (p:List Nat) (H:List (Nat × Ed)) (bs bo bq:Nat) (F:List Nat):Prop where
 m:∃ba bg vk vq vg Fo q,Mgr w bm [r (Y ⟨ba,0,d⟩),r (Y ⟨bq,0,d⟩),r (Y ⟨bg,0,d⟩),r (Y ⟨bs,0,d⟩),r (Y ⟨bo,0,d⟩)] H∧
  IsOrd w bo p q Fo∧Inv p q∧Blk w ba #[r (Y ⟨bs,0,d⟩),vk] 73∧Blk w bq #[r (Y ⟨ba,0,d⟩),r (Y ⟨bs,0,d⟩),vq] 82∧
  Blk w bg #[r (Y ⟨ba,0,d⟩),r (Y ⟨bs,0,d⟩),vg,o R 0] 197∧F=bm::ba::bq::bg::Fo∧(∀k∈Fs,k∉F)∧bm∉Fo∧bm≠ba∧bm≠bq∧bm≠bg
 s:IsSt w bs n L room Fs
theorem zy8 (n room:Nat) (hn:n≤16) (hr:room≤1048576) (w:U):M X 15 #[o V n,o V room] w fun e w'=>∃bm bs bo bq Fs F,e=Q (B #[r (Y ⟨bm,0,d⟩),o R 0])∧Mng w' bm n room [] Fs (I n) [] bs bo bq F∧Θ [] w w'∧(∀k∈Fs,w.heap.size≤k)∧∀k∈F,w.heap.size≤k:=by
 have SN:Hid (∀w,_):=zz9 n room hn hr;have ON:Hid (∀w,_):=zI0 n hn;go_in;go_wp2_with fail;refine (SN.out _).mono ?_;rintro e w1 ⟨bs,Fs,rfl,s1,m1,f1⟩;have F1:=Z f1;clear f1;go_wp2_with fail;have S1:=Z s1;have M1:=Z m1;have SL:=Z s1.lt;clear s1 m1 SN;obtain ⟨bm,hbm⟩:∃bm,w1.heap.size=bm:=⟨_,rfl⟩;rw [hbm];have BM:=Z (Mgr.fresh w1 bm hbm.symm (r (Y ⟨bs,0,d⟩)));have MA:Hid (Θ [] w1 (w1.alloc (A (Tryz.zeroCells111.setIfInBounds 3 (r (Y ⟨bs,0,d⟩))) 111))):=(Mod.refl _ _).alloc _;have HBM:=Z hbm;have hsz:(w1.alloc (A (Tryz.zeroCells111.setIfInBounds 3 (r (Y ⟨bs,0,d⟩))) 111)).heap.size=bm+1:=by simp [hbm]
 have HSZ:=Z hsz;clear hbm hsz;generalize w1.alloc (A (Tryz.zeroCells111.setIfInBounds 3 (r (Y ⟨bs,0,d⟩))) 111)=wA at *;generalize Value.agg (Tryz.zeroCells111.setIfInBounds 3 (r (Y ⟨bs,0,d⟩)))=vA at *;refine (ON.out _).mono ?_;rintro e w2 ⟨bo,q,Fo,rfl,io,inv,m2,fo⟩;have BM2:=BM.out.mod m2 (ze);have c4:=BM2.cell 4 (O);have f4:=BM2.froz 4;have IOR:=Z io;have INV:=Z inv;have FO:=Z fo;have M2:=Z m2;have hb2:=BM2.lt;have B2:=Z BM2;clear io inv fo m2 BM BM2;go_wp2_with fail;have B3:=Z (B2.out.ptr rfl 4 (O) (r (Y ⟨bo,0,d⟩)));have M3:Hid (Θ [bm] wA (w2.setCell ⟨bm,4,d⟩ (r (Y ⟨bo,0,d⟩)))):=(M2.out.mono (ze)).setCell _ _ (ze);have IO3:Hid (IsOrd (w2.setCell ⟨bm,4,d⟩ (r (Y ⟨bo,0,d⟩))) bo (I n) q Fo):=IOR.out.mod (S:=[bm]) ((Mod.refl _ _).setCell _ _ (ze)) (fun k hk h=>by have h1:=FO.out k hk;have h2:=HSZ.out;simp at h;omega);have IOL:=Z IOR.out.lt;have SZ3:Hid (w2.heap.size≤(w2.setCell ⟨bm,4,d⟩ (r (Y ⟨bo,0,d⟩))).heap.size):=by show _≤_;simp
 have hb3:bm < (w2.setCell ⟨bm,4,d⟩ (r (Y ⟨bo,0,d⟩))).heap.size:=by simpa using hb2
 clear c4 f4 hb2;generalize w2.setCell ⟨bm,4,d⟩ (r (Y ⟨bo,0,d⟩))=w3 at *;refine (zO4 bs w3).mono ?_;rintro e w4 ⟨ba,vk,rfl,ab,m4,ha⟩;have AB:=Z ab;have M4:=Z m4;have HA:=Z ha;have B4:=Z (B3.out.mod m4 (ze));have c0:=B4.out.cell 0 (O);have f0:=B4.out.froz 0;have hb4:=B4.out.lt;have hbe:¬ba=bm:=O;clear ab m4 ha B3 B2;go_wp2_with fail;have B5:=Z (B4.out.ptr rfl 0 (O) (r (Y ⟨ba,0,d⟩)));have M5:Hid (Θ [bm] w4 (w4.setCell ⟨bm,0,d⟩ (r (Y ⟨ba,0,d⟩)))):=(Mod.refl _ _).setCell _ _ (ze);have SZ5:Hid ((w4.setCell ⟨bm,0,d⟩ (r (Y ⟨ba,0,d⟩))).heap.size=w4.heap.size):=yR;have AB5:=Z (AB.out.mod M5.out (by simp [hbe]));have d0:(w4.setCell ⟨bm,0,d⟩ (r (Y ⟨ba,0,d⟩))).cell? ⟨bm,0,d⟩=Y (r (Y ⟨ba,0,d⟩)):=B5.out.cell 0 (O);clear c0 f0 hb4;generalize w4.setCell ⟨bm,0,d⟩ (r (Y ⟨ba,0,d⟩))=w5 at *;refine (zK4 AB5.out).mono ?_;rintro e w6 ⟨bq,vq,rfl,qb,m6,hq⟩;have QB:=Z qb;have M6:=Z m6;have HQ:=Z hq;have AB6:=Z (AB5.out.mod m6 (ze));have B6:=Z (B5.out.mod m6 (ze));have c1:=B6.out.cell 1 (O);have f1:=B6.out.froz 1;have e0:=B6.out.cell 0 (O);have hb6:=B6.out.lt;have hqe:¬bq=bm:=by have:=B5.out.lt;omega
 replace e0:w6.cell? ⟨bm,0,d⟩=Y (r (Y ⟨ba,0,d⟩)):=e0;clear qb m6 hq B5 B4 d0 AB;go_wp2_with fail;have B7:=Z (B6.out.ptr rfl 1 (O) (r (Y ⟨bq,0,d⟩)));have M7:Hid (Θ [bm] w6 (w6.setCell ⟨bm,1,d⟩ (r (Y ⟨bq,0,d⟩)))):=(Mod.refl _ _).setCell _ _ (ze);have SZ7:Hid ((w6.setCell ⟨bm,1,d⟩ (r (Y ⟨bq,0,d⟩))).heap.size=w6.heap.size):=yR;have AB7:=Z (AB6.out.mod M7.out (by simp [hbe]));have QB7:=Z (QB.out.mod M7.out (by simp [hqe]));clear c1 f1 e0 hb6 AB6 QB;generalize w6.setCell ⟨bm,1,d⟩ (r (Y ⟨bq,0,d⟩))=w7 at *;refine (zC3 AB7.out).mono ?_;rintro e w8 ⟨bg,vg,rfl,gb,m8,hg⟩;have GB:=Z gb;have M8:=Z m8;have HG:=Z hg;have AB8:=Z (AB7.out.mod m8 (ze));have QB8:=Z (QB7.out.mod m8 (ze));have B8:=Z (B7.out.mod m8 (ze));have c2:=B8.out.cell 2 (O);have f2:=B8.out.froz 2;have hb8:=B8.out.lt;have hge:¬bg=bm:=by have:=B7.out.lt;omega
 clear gb m8 hg B7 B6 AB7 QB7;go_wp2_with fail;go_ret2;have B9:=B8.out.ptr rfl 2 (O) (r (Y ⟨bg,0,d⟩));have M9:Θ [bm] w8 (w8.setCell ⟨bm,2,d⟩ (r (Y ⟨bg,0,d⟩))):=(Mod.refl _ _).setCell _ _ (ze)
 have MZ:Θ [bm] w3 (w8.setCell ⟨bm,2,d⟩ (r (Y ⟨bg,0,d⟩))):=
  ((((M4.out.mono (S':=[bm]) (ze)).trans' (M5.out.trans' ((M6.out.mono (S':=[bm]) (ze)).trans' (M7.out.trans' ((M8.out.mono (S':=[bm]) (ze)).trans' M9)))))))
 have h1:=MA.out.size;have h2:=HSZ.out;have h3:=HBM.out;have h4:=M2.out.size;have h5:=SZ3.out;have h6:=M4.out.size;have h7:=M6.out.size;have h8:=SZ5.out;have h9:=SZ7.out;have h10:=HA.out;have h11:=HQ.out;have h12:=HG.out;have h13:=M1.out.size;have hFo:∀k∈Fo,bm+1≤k∧k < w2.heap.size:=fun k hk=>⟨by have:=FO.out k hk;omega,IOL.out k hk⟩
 have hFs:∀k∈Fs,k < bm:=fun k hk=>by have:=SL.out k hk;omega
 have MM:Θ [bm] wA (w8.setCell ⟨bm,2,d⟩ (r (Y ⟨bg,0,d⟩))):=M3.out.trans' MZ;have MW:Θ [] w (w8.setCell ⟨bm,2,d⟩ (r (Y ⟨bg,0,d⟩))):=(M1.out.trans' MA.out).trans MM (fun i hi hm=>by simp at hm;omega);refine ⟨bm,bs,bo,bq,Fs,bm::ba::bq::bg::Fo,rfl,⟨⟨ba,bg,vk,vq,vg,Fo,q,B9,IO3.out.mod MZ (fun k hk h=>by have:=hFo k hk;simp at h;omega),INV.out,AB8.out.mod M9 (by simp [hbe]),QB8.out.mod M9 (by simp [hqe]),GB.out.mod M9 (by simp [hge]),rfl,?_,fun h=>by have:=hFo _ h;omega,fun h=>hbe h.symm,fun h=>hqe h.symm,fun h=>hge h.symm⟩,?_⟩,MW,F1.out,?_⟩
 ·intro k hk h;have q1:=hFs k hk;simp at h;rcases h with h | h | h | h | h
  ·omega
  ·omega
  ·omega
  ·omega
  ·have:=hFo k h;omega
 ·exact (S1.out.mod MA.out (ze)).mod MM (fun k hk h=>by have:=hFs k hk;simp at h;omega)
 ·intro k hk;simp at hk;rcases hk with h | h | h | h | h
  ·omega
  ·omega
  ·omega
  ·omega
  ·have:=hFo k h;omega
open Go.RowKit
theorem Mgr.live {w:U} {b:Nat} {q:List K} {H:List (Nat × Ed)} (h:Mgr w b q H) (i:Nat) (h1:1≤i) (h2:i≤256):w.cell? ⟨b,5+i,d⟩=Y (χ (decide (i≤H.length))):=by
 rw [h.cell _ (O)];unfold mgL;rw [if_neg (O),if_pos (O)];rw [show decide (6≤5+i∧5+i≤5+H.length)=decide (i≤H.length) from decide_eq_decide.2 (O)]
theorem Mgr.root {w:U} {b:Nat} {q:List K} {H:List (Nat × Ed)} (h:Mgr w b q H) (hH:H.length≤256) (i:Nat) (hi:i < H.length):
 w.cell? ⟨b,262+(i+1) *3,d⟩=Y (o R (H[i]).1)∧w.cell? ⟨b,262+(i+1) *3+1,d⟩=Y (o R (H[i]).2.t)∧w.cell? ⟨b,262+(i+1) *3+2,d⟩=Y (o E (H[i]).2.a):=by
 obtain ⟨j,hj⟩:∃j,262+(i+1) *3=j:=⟨_,rfl⟩;rw [hj];have hj2:j=265+3 *i:=O;have e0:(j - 265) / 3=i:=by rw [hj2,Nat.add_sub_cancel_left];omega
 have e1:(j+1 - 265) / 3=i:=vm;have e2:(j+2 - 265) / 3=i:=vm;have g:H[i]? =Y H[i]:=Φ hi;refine ⟨?_,?_,?_⟩
 ·rw [h.cell _ (O)];unfold mgL;rw [if_neg (O),if_neg (O),if_neg (O),e0,g];simp only;rw [if_pos (O)]
 ·rw [h.cell _ (O)];unfold mgL;rw [if_neg (O),if_neg (O),if_neg (O),e1,g];simp only;rw [if_neg (O),if_pos (O)]
 ·rw [h.cell _ (O)];unfold mgL;rw [if_neg (O),if_neg (O),if_neg (O),e2,g];simp only;rw [if_neg (O),if_neg (O)]
theorem yp0 {w:U} {b:Nat} {q:List K} {H:List (Nat × Ed)} (h:Mgr w b q H) (hH:H.length < 256):M X 117 #[r (Y ⟨b,0,d⟩)] w fun e w'=>e=Q (o V ((H.length+1:Nat):Int))∧w'=w:=by
 have HM:=Z h;obtain ⟨n,hn⟩:∃n,H.length=n:=⟨_,rfl⟩;rw [hn] at hH ⊢;have HN:=Z hn;clear h hn;go_in;go_wp2_with fail
 go_loop [3] (fun i=>∃k:Nat,1≤k∧k≤n+1∧i=o V k) (fun i=>n+1 - (intOf i).toNat)
 case atStart=>exact ⟨1,O,O,rfl⟩
 case round=>
  obtain ⟨k,h1,h2,rfl⟩:=hrel;have c:=HM.out.live k h1 (O);rw [HN.out] at c;have hk:(k:Int)≤256:=O;have hk2:(k:Int) < 257:=O;by_cases hkn:k≤n
  ·rw [decide_eq_true hkn] at c;go_wp2_with fail
   go_round
   case rel=>exact ⟨k+1,O,O,yw⟩
   case measure=>simp [intOf];omega
  ·rw [decide_eq_false hkn] at c;obtain rfl:k=n+1:=O;go_wp2_with fail;go_ret;exact ⟨yV,rfl⟩
theorem zT7 {w:U} {b:Nat} {q:List K} {H:List (Nat × Ed)} (h:Mgr w b q H) (hH:H.length≤256) (a:Nat) (h1:1≤a) (h2:a≤H.length):M X 47 #[r (Y ⟨b,0,d⟩),o V a] w fun e w'=>e=Q (χ true)∧w'=w:=by
 have c:=h.live a h1 (O);rw [decide_eq_true h2] at c;have ha:(1:Int)≤a:=O;have hb:(a:Int)≤256:=O;have hc:(a:Int) < 257:=O;clear h;go_in;go_wp2_with fail;go_ret;exact ⟨yV,rfl⟩
open Go.RowKit
theorem yu1 (b:Nat) (w:U):M X 49 #[r (Y ⟨b,0,d⟩),C d 0 0] w fun e w'=>e=Q (B #[o R 0,o R 0])∧w'=w:=by
 go_in;go_wp2_with fail;refine wp_loop_rounds 1 ?_;rw [rounds_succ];go_wp2_with fail;refine wp_loop_rounds 1 ?_;rw [rounds_succ];go_wp2_with fail;go_ret2;exact ⟨rfl,rfl⟩
theorem yt4 {w:U} {b:Nat} {q:List K} {H:List (Nat × Ed)} (h:Mgr w b q H) (hH:H.length < 256):M X 81 #[r (Y ⟨b,0,d⟩),C d 0 0] w fun e w'=>e=Q (B #[o R 0,o R 0])∧w'=w:=by
 have FR:=Z (yp0 h hH);have SM:Hid (∀w,_):=yu1 b;obtain ⟨n,hn⟩:∃n,H.length=n:=⟨_,rfl⟩;rw [hn] at FR;have hne:¬((n+1:Nat):Int)=0:=O;clear h hn hH;go_in;go_wp2_with fail;refine FR.out.mono ?_;rintro e w1 ⟨rfl,rfl⟩;go_wp2_with fail;refine (SM.out _).mono ?_;rintro e w1 ⟨rfl,rfl⟩;go_wp2_with fail;go_ret2;exact ⟨rfl,rfl⟩
theorem Zw {p:Prop} (h:p:=by
 rintro e' w1 ⟨rfl,rfl⟩;go_wp2_with fail;rw [rounds_succ];go_wp2_with fail;refine wp_loop_rounds 2 ?_;rw [rounds_succ];go_wp2_with fail;rw [rounds_succ];go_wp2_with fail;go_ret2
 exact ⟨rfl,rfl⟩):p:=h
theorem zk2 {w:U} {b g cap a f:Nat} {e:Ed} {q:List K} {H:List (Nat × Ed)} (h:Mgr w b q H) (hH:H.length≤256) (c0:w.cell? ⟨g,0,d⟩=Y (o V ((a+1:Nat):Int))) (hf:H[a]? =Y (f,e)):
 M X 49 #[r (Y ⟨b,0,d⟩),C (Y ⟨g,0,d⟩) 1 cap] w fun e w'=>e=Q (B #[o R f,o R 0])∧w'=w:=by
 obtain ⟨hl,hg⟩:=G.1 hf;have HA:Hid (∀w':U,w'=w→_):=fun w' e=>e▸zT7 h hH (a+1) (O) (O)
 obtain ⟨d0,-⟩:=h.root hH a hl;rw [hg] at d0;obtain ⟨m,hm⟩:∃m,a+1=m:=⟨_,rfl⟩;rw [hm] at d0 c0 HA;have hm1:(m:Int)≤256:=O;have hm2:(m:Int) < 257:=O;have hm0:(0:Int)≤m:=O;clear h hf hg hl hm;go_in;go_wp2_with fail;refine wp_loop_rounds 2 ?_;rw [rounds_succ];go_wp2_with fail;refine (HA.out _ rfl).mono ?_;exact Zw
theorem yq3 {w:U} {b g cap a a2 f f2:Nat} {e e2:Ed} {q:List K} {H:List (Nat × Ed)} (h:Mgr w b q H) (hH:H.length≤256) (c0:w.cell? ⟨g,0,d⟩=Y (o V ((a+1:Nat):Int))) (c1:w.cell? ⟨g,1,d⟩=Y (o V ((a2+1:Nat):Int)))
 (hf:H[a]? =Y (f,e)) (hf2:H[a2]? =Y (f2,e2)) (hne:¬(f2:Int)=f):
 M X 49 #[r (Y ⟨b,0,d⟩),C (Y ⟨g,0,d⟩) 2 cap] w fun e w'=>e=Q (B #[o R 0,o R 4])∧w'=w:=by
 obtain ⟨hl,hg⟩:=G.1 hf;obtain ⟨hl2,hg2⟩:=G.1 hf2;have HA:Hid (∀w':U,w'=w→_):=fun w' e=>e▸zT7 h hH (a+1) (O) (O)
 have HA2:Hid (∀w':U,w'=w→_):=fun w' e=>e▸zT7 h hH (a2+1) (O) (O)
 obtain ⟨d0,-⟩:=h.root hH a hl;obtain ⟨d2,-⟩:=h.root hH a2 hl2;rw [hg] at d0;rw [hg2] at d2;obtain ⟨m,hm⟩:∃m,a+1=m:=⟨_,rfl⟩;rw [hm] at d0 c0 HA;obtain ⟨m2,hm2⟩:∃m,a2+1=m:=⟨_,rfl⟩;rw [hm2] at d2 c1 HA2;have hm1:(m:Int)≤256:=O;have hm3:(m:Int) < 257:=O;have hm0:(0:Int)≤m:=O;have hk1:(m2:Int)≤256:=O;have hk3:(m2:Int) < 257:=O;have hk0:(0:Int)≤m2:=O;have hd:((f2:Int) != f)=true:=by simpa using hne
 clear h hf hg hl hm hf2 hg2 hl2 hm2;go_in;go_wp2_with fail;refine wp_loop_rounds 3 ?_;rw [rounds_succ];go_wp2_with fail;refine (HA.out _ rfl).mono ?_;rintro e' w1 ⟨rfl,rfl⟩;go_wp2_with fail;rw [rounds_succ];go_wp2_with fail;refine (HA2.out _ rfl).mono ?_;exact Zw
abbrev Ky:=Nat × Nat × List Bool
def ze7 (z:Bool):Nat→Nat→List Bool→List Ky
 | 0,_,_=>[]
 | k+1,l,t=>
  if (if z then decide (true∉t.drop (2 ^ k)) else decide (t.take (2 ^ k)=t.drop (2 ^ k)))=true then ze7 z k (l+1) (t.take (2 ^ k))
  else (k+1,l,t)::(ze7 z k (l+1) (t.take (2 ^ k))++ze7 z k (l+1) (t.drop (2 ^ k)))
theorem zV8 {k l:Nat} {t:List Bool} (h:t.take (2 ^ k)=t.drop (2 ^ k)):ze7 false (k+1) l t=ze7 false k (l+1) (t.take (2 ^ k)):=by
 rw [ze7,if_pos (zn)]
theorem zu7 {k l:Nat} {t:List Bool} (h:¬t.take (2 ^ k)=t.drop (2 ^ k)):ze7 false (k+1) l t=(k+1,l,t)::(ze7 false k (l+1) (t.take (2 ^ k))++ze7 false k (l+1) (t.drop (2 ^ k))):=by
 rw [ze7,if_neg (zn)]
theorem zZ9 {k l:Nat} {t:List Bool} (h:true∉t.drop (2 ^ k)):ze7 true (k+1) l t=ze7 true k (l+1) (t.take (2 ^ k)):=by
 rw [ze7,if_pos (zn)]
theorem zY4 {k l:Nat} {t:List Bool} (h:¬true∉t.drop (2 ^ k)):ze7 true (k+1) l t=(k+1,l,t)::(ze7 true k (l+1) (t.take (2 ^ k))++ze7 true k (l+1) (t.drop (2 ^ k))):=by
 rw [ze7,if_neg (xQ)]
def zL4 (f n:Nat) (y:Ky):Tr:=(YE f n y.1 y.2.1 y.2.2).2
section
variable {n:Nat}
theorem zc0 {k:Nat} {t:List Bool} (h:t.length=2 ^ (k+1)):(t.take (2 ^ k)).length=2 ^ k∧(t.drop (2 ^ k)).length=2 ^ k:=by
 rw [List.length_take,List.length_drop,h,Nat.pow_succ];omega
theorem yz1 {f l:Nat} {x:Nat × Tr} (h:¬(f=2∨f=4)):mkE f l x x=x:=by
 unfold mkE;rw [if_neg h,if_pos rfl]
theorem yA8 {f l:Nat} {x y:Nat × Tr} (h:f=2∨f=4) (hy:y.2=.leaf false):mkE f l x y=x:=by
 unfold mkE;rw [if_pos h,if_pos hy]
theorem zP5 {f l:Nat} {x y:Nat × Tr} (h:f=1∨f=3) (hxy:¬x=y):mkE f l x y=(0,zb3 f l x y):=by
 unfold mkE;rw [if_neg (O),if_neg hxy,if_neg (O),if_neg (O)]
theorem zW5 {f l:Nat} {x y:Nat × Tr} (h:f=2∨f=4) (hy:¬y.2=.leaf false):mkE f l x y=(0,zb3 f l x y):=by
 unfold mkE;rw [if_pos h,if_neg hy]
theorem zR4 {l:Nat} {x y:Nat × Tr} (hxy:¬x=y):mkE 5 l x y=if y.2=.leaf false∧x.1=l+1 then (l,x.2) else (l,.node l l x.1 x.2 y.1 y.2):=by
 unfold mkE;rw [if_neg (O),if_neg hxy];simp only [true_and,if_true];rcases Xf 5 l x y with ⟨_,_,_,_,_,_,_,h,_⟩ | ⟨_,_,_,_,_,_,_,h,_⟩ | h
 ·omega
 ·omega
 ·rw [h]
theorem zy5 {f l:Nat} {x y:Nat × Tr} {T:Tr} (h:T∈nds (zb3 f l x y)):T=zb3 f l x y∨T∈nds x.2∨T∈nds y.2:=by
 rcases Xf f l x y with ⟨t,b,tl,u,th,v,e1,_,_,e3,e⟩ | ⟨t,b,tl,u,th,v,e1,_,_,_,e⟩ | e
 ·rw [e] at h ⊢;simp [nds] at h;rcases h with h | h | h
  ·exact .inl h
  ·right;left;rw [e1];simp [nds,h]
  ·exact .inr (.inr h)
 ·rw [e] at h ⊢;simp [nds] at h;rcases h with h | h | h
  ·exact .inl h
  ·right;left;rw [e1];simp [nds,h]
  ·right;left;rw [e1];simp [nds,h]
 ·rw [e] at h ⊢;simp [nds] at h;rcases h with h | h | h
  ·exact .inl h
  ·exact .inr (.inl h)
  ·exact .inr (.inr h)
theorem Zy {p:Prop} (h:p:=by
 rw [zV8 e];rw [YE,←e,yz1 (O)] at hT
 exact ih _ _ (O) h1 T hT):p:=h
theorem yD5 {f:Nat} (hf:f=1∨f=3):∀(k l:Nat) (t:List Bool),l+k=n→t.length=2 ^ k→∀T∈nds (YE f n k l t).2,∃y∈ze7 false k l t,zL4 f n y=T:=by
 intro k
 induction k with
 | zero=>intro l t h ht T hT;simp [YE,XX,nds] at hT
 | succ k ih=>
  intro l t h ht T hT;obtain ⟨h1,h2⟩:=zc0 ht;by_cases e:t.take (2 ^ k)=t.drop (2 ^ k)
  ·exact Zy
  ·rw [zu7 e];have hne:¬YE f n k (l+1) (t.take (2 ^ k))=YE f n k (l+1) (t.drop (2 ^ k)):=fun q=>e (zb9 (O) (O) k (l+1) _ _ (O) h1 h2 q)
   have hT0:=hT;rw [YE,zP5 hf hne] at hT;rcases zy5 hT with q | q | q
   ·refine ⟨_,Ψ ..,?_⟩;rw [q,zL4,YE,zP5 hf hne]
   ·obtain ⟨y,hy,e⟩:=ih _ _ (O) h1 T q;exact ⟨y,yg,e⟩
   ·obtain ⟨y,hy,e⟩:=ih _ _ (O) h2 T q;exact ⟨y,yg,e⟩
theorem yE1 {f:Nat} (hf:f=2∨f=4):∀(k l:Nat) (t:List Bool),l+k=n→t.length=2 ^ k→∀T∈nds (YE f n k l t).2,∃y∈ze7 true k l t,zL4 f n y=T:=by
 intro k
 induction k with
 | zero=>intro l t h ht T hT;simp [YE,XX,nds] at hT
 | succ k ih=>
  intro l t h ht T hT;obtain ⟨h1,h2⟩:=zc0 ht;have hz:=zo3 (f:=f) (n:=n) (O) (O) k (l+1) (t.drop (2 ^ k)) (O) h2;by_cases e:true∉t.drop (2 ^ k)
  ·rw [zZ9 e];rw [YE,yA8 hf (hz.2 e)] at hT;exact ih _ _ (O) h1 T hT
  ·rw [zY4 e];have hne:¬(YE f n k (l+1) (t.drop (2 ^ k))).2=.leaf false:=fun q=>e (hz.1 q)
   rw [YE,zW5 hf hne] at hT;rcases zy5 hT with q | q | q
   ·refine ⟨_,Ψ ..,?_⟩;rw [q,zL4,YE,zW5 hf hne]
   ·obtain ⟨y,hy,e⟩:=ih _ _ (O) h1 T q;exact ⟨y,yg,e⟩
   ·obtain ⟨y,hy,e⟩:=ih _ _ (O) h2 T q;exact ⟨y,yg,e⟩
theorem cov5:∀(k l:Nat) (t:List Bool),l+k=n→t.length=2 ^ k→∀T∈nds (YE 5 n k l t).2,∃y∈ze7 false k l t,zL4 5 n y=T:=by
 intro k
 induction k with
 | zero=>intro l t h ht T hT;simp [YE,XX,nds] at hT
 | succ k ih=>
  intro l t h ht T hT;obtain ⟨h1,h2⟩:=zc0 ht;by_cases e:t.take (2 ^ k)=t.drop (2 ^ k)
  ·exact Zy
  ·rw [zu7 e];have hne:¬YE 5 n k (l+1) (t.take (2 ^ k))=YE 5 n k (l+1) (t.drop (2 ^ k)):=fun q=>e (zb9 (O) (O) k (l+1) _ _ (O) h1 h2 q)
   rw [YE,zR4 hne] at hT;split at hT
   ·obtain ⟨y,hy,e⟩:=ih _ _ (O) h1 T hT;exact ⟨y,yg,e⟩
   ·rename_i hnz
    simp [nds] at hT;rcases hT with q | q | q
    ·refine ⟨_,Ψ ..,?_⟩;rw [q,zL4,YE,zR4 hne,if_neg hnz]
    ·obtain ⟨y,hy,e⟩:=ih _ _ (O) h1 T q;exact ⟨y,yg,e⟩
    ·obtain ⟨y,hy,e⟩:=ih _ _ (O) h2 T q;exact ⟨y,yg,e⟩
end
open Go.RowKit
theorem yw5 {w:U} {b a a2 f f2:Nat} {e e2:Ed} {q:List K} {H:List (Nat × Ed)} (h:Mgr w b q H) (hH:H.length≤256) (hf:H[a]? =Y (f,e)) (hf2:H[a2]? =Y (f2,e2)) (hne:¬(f2:Int)=f):
 M X 18 #[r (Y ⟨b,0,d⟩),o V ((a+1:Nat):Int),o V ((a2+1:Nat):Int)] w fun e w'=>e=Q (B #[χ false,o R 4])∧Θ [] w w':=by
 obtain ⟨m,hm⟩:∃m:Int,((a+1:Nat):Int)=m:=⟨_,rfl⟩;obtain ⟨m2,hm2⟩:∃m:Int,((a2+1:Nat):Int)=m:=⟨_,rfl⟩;obtain ⟨g,hg⟩:∃g,w.heap.size=g:=⟨_,rfl⟩;rw [hm,hm2];have MA:Hid (Θ [] w (w.alloc (A #[o V m,o V m2] 3))):=(Mod.refl _ _).alloc _;have BA:=Blk.new' w #[o V m,o V m2] 3 g hg.symm;have SM:=Z (yq3 (g:=g) (cap:=2) (h.mod MA.out (ze)) hH (a:=a) (a2:=a2) (vn) (by rw [hm2];have:=BA.cell 1;simpa using this) hf hf2 hne);clear h hf hf2 hne hm hm2 BA;go_in;go_wp2_with fail;refine SM.out.mono ?_;rintro e w1 ⟨rfl,rfl⟩;go_wp2_with fail;go_ret2;exact ⟨rfl,MA.out⟩
end Go.Proofs.YtbnpoapmnkfhkaaGreatDoor
