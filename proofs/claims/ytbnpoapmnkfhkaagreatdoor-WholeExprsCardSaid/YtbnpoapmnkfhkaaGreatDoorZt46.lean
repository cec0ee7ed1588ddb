import Derived.Test.YtbnpoapmnkfhkaaGreatDoorZt24
import Derived.Laws.Cells
import Derived.Test.YtbnpoapmnkfhkaaGreatDoorZt42
import Derived.Test.YtbnpoapmnkfhkaaGreatDoorZt18
set_option maxRecDepth 100000
set_option maxHeartbeats 8000000
set_option linter.unusedVariables false
set_option linter.unusedSimpArgs false
namespace Go.Proofs.YtbnpoapmnkfhkaaGreatDoor
open Go.Lib renaming hid → f
open Go.Proofs.Tryz renaming prog → d, func178 → φ
open Option renaming none → c, some → R
open Go.Result renaming andThen_ok → Z
open Go.Value renaming pointer → Y, int → I, slice → G
open Go renaming World → U
open List renaming range → T, length_map → M, append_toArray → C, size_toArray → Ω, push_toArray → Ψ, prefix_refl → Φ, length_cons → Ξ, cons_append → Θ, getElem_map → Δ, range_succ → Γ, map_append → ω, length_nil → ψ, nil_append → χ
open Go.Sem renaming run_bind → O
open Go.Obj renaming cells → E
open Go.RowKit renaming Hid → B
open Go.RowKit
def zM2 (k:Nat):Array Value:=((T 257).map fun i=>.bool (decide (1≤i∧i≤k))).toArray
theorem Tryz.infoL:(Tryz.prog.info? 106).map (fun i=>i.size)=R 257:=by kernel_rfl
theorem Mgr.loadLive {w:U} {b:Nat} {q:List Value} {H:List (Nat × Ed)} (h:Mgr w b q H) (hH:H.length≤256):
 (loadVar 106 ⟨b,5,c⟩).run d w=.ok (.agg (zM2 H.length)) w:=by
 have hl:(loadCells ⟨b,5,c⟩ 257).run d w=.ok (zM2 H.length) w:=by
  refine run_loadCells (P:=d) w ⟨b,5,c⟩ 257 (fun i=>.bool (decide (1≤i∧i≤H.length))) fun j hj=>?_
  have hadd:(⟨b,5,c⟩:Addr).add j=⟨b,5+j,c⟩:=qY;rw [hadd,h.cell _ (zc)];unfold mgL;rw [if_neg (zc),if_pos (zc)];rw [show decide (6≤5+j∧5+j≤5+H.length)=decide (1≤j∧j≤H.length) from decide_eq_decide.2 (zc)]
 obtain ⟨i,hi,hs⟩:=Option.map_eq_some_iff.1 Tryz.infoL;have hagg:(isAgg 106).run d w=.ok true w:=Tryz.isAgg106 w;simp [loadVar,O,hagg,sizeOf,typeInfo,hi,hs,hl]
theorem zH9 (k j:Nat) (hj:j < 257) (w:U):(Instr.index 106 (.agg (zM2 k)) (I .i64 (j:Int))).run d w=.ok (.bool (decide (1≤j∧j≤k))) w:=by
 have hg:(zM2 k)[j]? =R (.bool (decide (1≤j∧j≤k))):=by
  unfold zM2;rw [List.getElem?_toArray,List.getElem?_map,List.getElem?_range hj];rfl
 have h1:(isAgg 4).run d w=.ok false w:=Tryz.isAgg4 w;have h2:(sizeOf 4).run d w=.ok 1 w:=Tryz.sizeOf4 w;have hu:=run_underlying (P:=d) Tryz.underlying106 w;have hj0:(0:Int)≤j∧(j:Int) < ((257:Nat):Int):=zc;have ha:∀w:U,(asIntOf (I .i64 (j:Int))).run d w=.ok (.i64,(j:Int)) w:=fun w=>rfl
 unfold Instr.index part;rw [O,ha,Z];simp only;rw [O,hu,Z];simp only;rw [if_pos hj0,O,h2,Z,O,h1,Z];simp only [Int.toNat_natCast,Nat.mul_one,hg];rfl
theorem zw5 {P:Program} {o:Oper} {a:Act} {w:U} {K:Act→U→Prop} {Q:Exit→Act→U→Prop} (ty:TypeId) (x:Operand) (ho:o.op=.load ty x)
 (A:Addr) (hx:a.eval x=Y (R A)) (v:Value) (hl:(loadVar ty A).run P w=.ok v w) (h:K (a.put o.dst v) w):o.wp P a w K Q:=by
 unfold Oper.wp execOp;simp only [ho,hx,Instr.loadAt,Instr.sureAddr,O,Sem.run_pure,Z,hl];exact h
theorem yn3 {w:U} {b:Nat} {q:List Value} {H:List (Nat × Ed)} (h:Mgr w b q H) (hH:H.length≤256):
 Calls d 92 #[Y (R ⟨b,0,c⟩)] w fun e w'=>∃v,e=.returned v∧NewV 3 w ((T H.length).map fun i=>ei (i+1)) w' v:=by
 have LV:=h.loadLive hH;have IX:=f (zH9 H.length);clear h;obtain ⟨i0,hi,hz0,hz1,hz2⟩:=info_parts Tryz.info3;have H257:=f hH;generalize hk:H.length=k at *;generalize hA:zM2 k=A at *;clear hA;go_in;go_wp2_with fail;refine zw5 106 _ rfl _ rfl _ LV ?_;go_wp2_with fail
 go_loopw [3,12] (fun v i wr=>∃j:Nat,i=I .i64 j∧j≤257∧B (NewV 3 w ((T (min (j - 1) k)).map fun i=>ei (i+1)) wr v)) (fun _ i _=>257 - (intOf i).toNat)
 case atStart=>exact ⟨0,rfl,zc,by show NewV _ _ _ _ _;simpa using NewV.nil 3 (Mod.refl _ _)⟩
 case round=>
  obtain ⟨j,rfl,hj,HN⟩:=hrel;by_cases hj7:j=257
  ·subst hj7;have e:min (257 - 1) k=k:=by have:=H257.out;omega
   rw [e] at HN;go_wp2_with fail;go_ret;exact ⟨_,rfl,HN.out⟩
  ·have hjl:(j:Int) < 257:=zc;have IJ:=IX.out j (zc) wr;by_cases hjk:1≤j∧j≤k
   ·rw [decide_eq_true hjk] at IJ;obtain ⟨z,rfl⟩:∃z,j=z+1:=⟨j - 1,zc⟩;have e1:min (z+1 - 1) k=z:=zc;have e2:B (min (z+1+1 - 1) k=z+1):=by show _=_;omega
    rw [e1] at HN;obtain ⟨Fo',so,mo,fo⟩:=HN.out;have e0:((T z).map fun i=>ei (i+1)).length=z:=ze;obtain ⟨Ao,capo,rfl,hcapo⟩:=so.shape;rw [e0] at so hcapo HN ⊢;have SO:=f so;have MO:=f mo;have FO:=f fo;have LO:=f e0;have EL:B (((T (z+1)).map fun i=>ei (i+1))=((T z).map fun i=>ei (i+1))++[ei (z+1)]):=by show _=_;rw [Γ,ω];rfl
    generalize ((T z).map fun i=>ei (i+1))=zs at *;have hei:ei (z+1)=I .i64 ((z+1:Nat):Int):=rfl;obtain ⟨y,hy⟩:∃y,z+1=y:=⟨_,rfl⟩;rw [hy] at IJ e2 EL hj hj7 hjl ⊢;have hz:z≤257:=zc;clear hy;clear so mo fo hcapo e0 hjk e1 hH hei;go_wp2_with (at_builtin;refine YF _ rfl _ _ 22 rfl 3 i0 (.int .i64 0) 1 8 Tryz.underlying22 hi hz0 hz1 hz2 rfl (zi) _ z zs Fo' rfl (SO.out.mod (S:=[]) (zg) (ze)) ⟨_,0,c⟩ 1 1 [ei y] (zi) rfl rfl (zM) (yi) (zx) (zc) ?_;intro v5 w5 F5 hs5 hm5 hf5;have N5:=f (NewV.app (l:=zs) (l2:=[ei y]) MO.out FO.out LO.out rfl (zg) hs5 hm5 hf5);obtain ⟨a5,cap5,rfl,_⟩:=hs5.shape;clear hs5 hm5 hf5);go_roundw
    case rel=>
     refine ⟨y+1,by first | rfl | go_num,zc,?_⟩;show NewV _ _ _ _ _;rw [e2.out,EL.out];exact N5.out
    case measure=>simp [intOf];omega
   ·rw [decide_eq_false hjk] at IJ;have e1:B (min (j+1 - 1) k=min (j - 1) k):=by show _=_;omega
    clear hjk;go_wp2_with fail;go_roundw
    case rel=>exact ⟨j+1,by first | rfl | go_num,zc,by rw [e1.out];exact HN⟩
    case measure=>simp [intOf];omega
open Go.RowKit Go.Shelf
attribute [local go_sem] Oper.semAt_some
def eiU (x:Nat):Value:=I .u32 (x:Int)
def ze1 (i:Nat):List Nat:=(T i).map (·+2)
theorem zo2 (i:Nat):ze1 (i+1)=ze1 i++[i+2]:=by
 unfold ze1;rw [Γ,ω];rfl
theorem zU2 {i n:Nat} (h:i≤n):ze1 i <+:ze1 n:=by
 induction n with
 | zero=>
  obtain rfl:i=0:=zc;exact Φ _
 | succ n ih=>
  rcases Nat.lt_or_ge n i with q | q
  ·obtain rfl:i=n+1:=zc;exact Φ _
  ·exact (ih q).trans (by rw [zo2];exact List.prefix_append _ _)
theorem IsAr.keep {X:List Nat} {w w':U} {b:Nat} {L:List Rc} {room:Nat} {F:List Nat} (h:IsAr w b L room F) (m:Keep X w w') (hd:∀k∈F,k∈X):IsAr w' b L room F:=by
 obtain ⟨vc,Fc,hb,hc,rfl,r⟩:=h;exact ⟨vc,Fc,hb.keep m (hd b (ze)),hc.keep (fun k hk=>m k (hd k (zC))),rfl,r⟩
theorem idsU {w:U} {bx b:Nat} {L:List Rc} {room:Nat} {F:List Nat} (hb:Blk w bx #[Y (R ⟨b,0,c⟩)] 135) (ha:IsAr w b L room F) (hL:L.length≤1048576):
 Seq d 178 #[Y (R ⟨bx,0,c⟩)] eiU (bx::F) (ze1 L.length) w:=by
 refine ⟨?_,enters_of φ (by kernel_rfl) rfl,?_⟩
 ·intro k hk;rcases List.mem_cons.1 hk with rfl | hk
  ·exact hb.lt
  ·exact ha.lt k hk
 intro l J Jx W hW hkW hJ hJx hY h0;have cb:=(hb.keep hkW (ze)).cell 0;simp at cb;have haW:=IsAr.keep ha hkW (fun k hk=>zC);obtain ⟨a0,cap0,cA,_⟩:=haW.own;have HA:=f ha;have HBX:=f hb;have HKW:=f hkW;have HY:=f hY;have H0:=f h0;generalize hn:L.length=n at *;have HN:=f hn;clear hb hkW hJ hJx hY h0 hn ha haW;refine (callsIn_wide (n:=0)).1 (callsIn_of_wp φ rfl trivial ?_ rfl);simp only [Tryz.ntmps178,Ω,Ξ,ψ,Nat.reduceAdd,Nat.reduceSub,Array.replicate_succ,Array.replicate_zero,Ψ,C,χ,Θ]
 gi_wp2
 gi_loopw [11] (fun i wr=>∃k:Nat,i=I .i64 k∧k≤n∧J [] (ze1 k) wr∧Keep (bx::F) w wr) (fun i _=>n - (intOf i).toNat)
 case atStart=>exact ⟨0,rfl,Nat.zero_le _,H0.out,HKW.out⟩
 case round=>
  obtain ⟨k,rfl,hk,hJ1,hK1⟩:=hrel;have HK1:=f hK1;by_cases hlt:k < n
  ·have cbr:=(HBX.out.keep hK1 (ze)).cell 0;simp at cbr;have hlt':k < L.length:=zQ;obtain ⟨g,cap,c0,-,-,-,-,-,-,-,c7,-⟩:=(IsAr.keep HA.out hK1 (fun k hk=>zC)).cell k hlt';rw [HN.out] at c0;obtain ⟨rest,hrest⟩:=zU2 (show k+1≤n from hlt);have HS:B (ze1 (k+1)=ze1 k++[k+2]):=zo2 k;rw [HS.out] at hrest;obtain ⟨fn,tmps,assign,body,hy,hR⟩:=HY.out [] (ze1 k) (k+2) rest wr (by rw [←hrest];simp) hJ1 (ze) hK1
   dsimp only [eiU] at hy
   rw [show (((k+2:Nat)):Int)=(k:Int)+2 from zc] at hy;have HR:=f hR;have HP:B (ze1 k++[k+2] <+:ze1 n):=⟨rest,hrest⟩;clear hR hK1 hJ1 hlt' hrest
   gi_wp2
   refine ⟨rfl,?_⟩;refine RoundIn.mono (show RoundIn _ _ _ _ _ _ _ _ _ _ from HR.out) ?_;rintro e V2 ⟨hs2,hk2,(⟨rfl,hj2⟩ | ⟨rfl,hj2⟩)⟩
   ·have hK2:B (Keep (bx::F) w V2):=HK1.out.trans (fun q hq=>hk2 q (by simpa using hq));have HJ2:=f hj2;clear hk2 hj2 hs2
    gi_wp2
    go_roundw
    case rel=>exact ⟨k+1,by go_num,hlt,by rw [HS.out];exact HJ2.out,hK2.out⟩
    case measure=>simp [intOf];omega
   ·have HJ2:=f hj2;clear hk2 hj2 hs2
    gi_wp2
    refine bodyPost_ret (results_none rfl _ _ _) rfl ⟨⟨_,rfl⟩,.inr ⟨_,HP.out,HJ2.out⟩⟩
  ·obtain rfl:k=n:=zc;have HJ1:=f hJ1;clear hJ1 hK1
   gi_wp2
   go_end0
   exact ⟨⟨_,rfl⟩,.inl HJ1.out⟩
theorem yI2 {w:U} {b:Nat} {L:List Rc} {room:Nat} {F:List Nat} (ha:IsAr w b L room F) (hL:L.length≤1048576):
 Calls d 154 #[Y (R ⟨b,0,c⟩)] w fun e w'=>∃gb,w.heap.size≤gb∧e=.returned (.func (.func 178) #[] #[Y (R ⟨gb,0,c⟩)])∧Seq d 178 #[Y (R ⟨gb,0,c⟩)] eiU (gb::F) (ze1 L.length) w'∧Mod [] w w':=by
 have HA:=f ha;have HL:=f hL;clear ha hL;go_in;go_wp2;go_ret;exact ⟨_,Nat.le_refl _,rfl,idsU (Blk.new _ _ _) (HA.out.mod (S:=[]) ((Mod.refl _ _).alloc _) (ze)) HL.out,(Mod.refl _ _).alloc _⟩
open Go.RowKit Go.Shelf
attribute [local go_sem] Oper.semAt_some
structure Sp (w3:U) (X:List Nat) (V:U):Prop where
 mod:Mod [] w3 V
 above:∀k∈X,w3.heap.size≤k
theorem Sp.step {w3:U} {X X':List Nat} {A V:U} (h:Sp w3 X A) (m:Mod X A V) (hX:∀k∈X',(k∈X∨A.heap.size≤k)∧k < V.heap.size):Sp w3 X' V:=by
 refine ⟨h.mod.trans m (fun i hi hm=>by have:=h.above i hm;omega),fun k hk=>?_⟩;rcases (hX k hk).1 with q | q
 ·exact h.above k q
 ·exact Nat.le_trans h.mod.size q
theorem yv8 {w:U} {b n:Nat} {L:List Rc} {room:Nat} {F:List Nat} (h:IsSt w b n L room F) (hL:L.length≤1048576) (hnd:L.Nodup) {A:Option Addr} {k cap:Nat} {es:List Ed} (hes:EdRow w A k cap es) {ts:List (Nat × Tr)} (hts:ze2 L es ts)
 (hk:k≤100000) (hsz:zn8 ts≤1000000) (hall:∀id,2≤id→id < L.length+2→Xm L ts id):
 Calls d 133 #[Y (R ⟨b,0,c⟩),G A k cap] w fun e w'=>e=.returned (I .i64 0)∧Mod [] w w':=by
 have RC:=f (zt7 h hL hnd hes hts hk hsz);have IDS:B (∀W ba Fa,Mod [] w W→IsAr w ba L room Fa→_):=fun W ba Fa m ha=>yI2 (ha.mod m (ze)) hL
 obtain ⟨ba,bi,Fa,c0,c1,c2,hA⟩:=h.own;have HA:=f hA;have HALL:=f hall;have HL:=f hL;have hb:=World.block_lt_of_cell? w _ c1;simp only at hb;clear h hes hts hk hsz hall hnd c0 c2 hA hL;refine (callsIn_wide (n:=0)).1 (callsIn_of_wp_marks Tryz.func133 rfl trivial ?_ rfl);simp only [Tryz.ntmps133,Ω,Ξ,ψ,Nat.reduceAdd,Nat.reduceSub,Array.replicate_succ,Array.replicate_zero,Ψ,C,χ,Θ]
 gi_wp2
 refine ⟨trivial,rfl,?_⟩;refine ((callsIn_wide (n:=0)).2 RC.out).mono ?_;rintro e w2 ⟨bm,nm,rfl,hv2,hnm,hbm,m2⟩;have HV2:=f hv2;have M2:=f m2;have c12:=(m2.cell (a:=⟨b,1,c⟩) hb (ze)).trans c1;have hb2:=Nat.lt_of_lt_of_le hb m2.size;obtain ⟨gs,hgs⟩:∃gs,w2.heap.size=gs:=⟨_,rfl⟩;have gs1:¬b=gs:=zc;have gs2:¬gs=b:=zc;have gs3:¬b=gs+1:=zc;have gs4:¬gs+1=b:=zc;have hb3:b < w2.heap.size+1:=zc;have M3:B (Mod [] w ((w2.alloc (E #[.map (R bm)] 272)).alloc (E #[G c 0 0] 210))):=(M2.out.alloc _).alloc _;have c13:=(M3.out.cell (a:=⟨b,1,c⟩) hb (ze)).trans c1;clear hv2 m2 RC hnm c12
 gi_wp2
 refine ⟨trivial,rfl,?_⟩;have HV3:B (IsVis ((w2.alloc (E #[.map (R bm)] 272)).alloc (E #[G c 0 0] 210)) bm nm (Xm L ts)):=HV2.out.mod (show Mod [] w2 _ from zg) (ze);have B5:B (Blk ((w2.alloc (E #[.map (R bm)] 272)).alloc (E #[G c 0 0] 210)) gs #[.map (R bm)] 272):=(Blk.new' w2 _ _ gs hgs.symm).alloc _;have B6:B (Blk ((w2.alloc (E #[.map (R bm)] 272)).alloc (E #[G c 0 0] 210)) (gs+1) #[G c 0 0] 210):=Blk.new' _ _ _ _ (by simp [hgs]);refine ((callsIn_wide (n:=0)).2 (IDS.out _ ba Fa M3.out HA.out)).mono ?_;rintro e w3 ⟨gb,hgb,rfl,hsq,m3⟩;have S3:=f hsq;have MR3:=f m3;have HV4:=f (HV3.out.mod m3 (ze));have B54:=f (B5.out.mod m3 (ze));have B64:=f (B6.out.mod m3 (ze));have M4:=f (M3.out.trans' m3);have hz4:=m3.size;simp at hz4;clear hsq m3 HV3 B5 B6 M3 c13 IDS HV2
 gi_wp2
 refine zM7 (gf:=178) (lb:=#[Y (R ⟨gb,0,c⟩)]) rfl S3.out rfl (fun X pre V=>Sp w3 X V) (fun _ _ _ _=>False)
  (fun X X' s A V h m hX=>h.step m hX) (fun _ _ _ _ _ _ h _ _=>h) ⟨Mod.refl _ _,ze⟩ ?a1 ?assign ?body ?done ?stop
 case assign=>
  intro l2 x V K hK
  gi_wp2
  dsimp only [eiU] at hK ⊢
  exact hK
 case body=>
  rintro l2 X pre x rest V hL hc hX hkR;have HC:=f hc
  have hx:2≤x∧x < L.length+2:=by
   have:x∈ze1 L.length:=by rw [hL];simp
   unfold ze1 at this;simp at this;obtain ⟨y,h1,rfl⟩:=this;omega
  have LK:=((HV4.out.mod hc.mod (ze)).look x (by have:=HL.out;omega)).1 (HALL.out x hx.1 hx.2);have cb:=(B54.out.mod hc.mod (ze)).cell 0;simp at cb;clear hL hX hkR hc
  gi_wp2
  exact ⟨Nat.le_refl _,fun _ _=>rfl,HC.out⟩
 case done=>
  rintro D X V hD hab hc hkR hK;have HC:=f hc;have cb:=(B64.out.mod hc.mod (ze)).cell 0;simp at cb;have HX:=f hab;have HD:=f hD;have HK2:=f hK;clear hc hab hkR hD hK
  gi_wp2
  gi_loopw [33] (fun i wr=>i=I .i64 0∧wr=V) (fun _ _=>0)
  case atStart=>exact ⟨rfl,rfl⟩
  case round=>
   obtain ⟨rfl,hV⟩:=hrel;subst hV
   gi_wp2
   refine ⟨ze,.inl ⟨_,_,rfl,run_takeDeferred HK2.out,?_⟩⟩;exact ⟨_,results_tmp rfl _ _ _,rfl,M4.out.trans' (HC.out.step (X':=[]) ((Mod.refl X wr).putObj D (.deferred c) (fun _=>HD.out)) (ze)).mod⟩
 case stop=>exact fun _ _ _ _ _ _ _ _ h _ _=>h.elim
open Go.RowKit
def edC (e:Ed):List Value:=[I .u8 e.t,I .u32 e.a]
theorem yw0 (e:Ed):(edC e).length=2:=rfl
theorem Tryz.infoEd:(Tryz.prog.info? 44).map (fun i=>(i.zero,i.size,i.bytes))=R (R (.agg #[I .u8 0,I .u32 0]),2,8):=by kernel_rfl
def NewE (w:U) (es:List Ed) (w':U) (v:Value):Prop:=∃F,Sl w' 44 2 v es.length (zj4 edC es) F∧Mod [] w w'∧∀k∈F,w.heap.size≤k
theorem NewE.row {w w':U} {es:List Ed} {A:Option Addr} {n cap:Nat} (h:NewE w es w' (G A n cap)):EdRow w' A n cap es:=by
 obtain ⟨F,hs,hm,hf⟩:=h;obtain ⟨A',cap',e,hc⟩:=hs.shape;simp only [Value.slice.injEq] at e;obtain ⟨rfl,rfl,rfl⟩:=e;refine ⟨rfl,hc,fun i hi=>?_⟩;obtain ⟨g,cap2,e,rfl,-⟩:=hs.pos (zc);simp only [Value.slice.injEq] at e;obtain ⟨rfl,-,rfl⟩:=e;have h0:=(hs.at (i *2+0) (zc)).1;have h1:=(hs.at (i *2+1) (zc)).1;rw [ze9 yw0 _ _ _ hi (zc)] at h0 h1;refine ⟨g,0,rfl,hs.lt g (ze),?_,?_⟩
 ·rw [Nat.zero_add];exact h0
 ·rw [Nat.zero_add];exact h1
theorem zv8 {w:U} {bm n room:Nat} {L:List Rc} {Fs p:List Nat} {H:List (Nat × Ed)} {bs bo bq:Nat} {F:List Nat} (h:Mng w bm n room L Fs p H bs bo bq F) (hL:L.length≤1048576) (hnd:L.Nodup) (hH:H.length≤256)
 {ts:List (Nat × Tr)} (hts:ze2 L (H.map (·.2)) ts) (hsz:zn8 ts≤1000000) (hall:∀id,2≤id→id < L.length+2→Xm L ts id):
 Calls d 94 #[Y (R ⟨bm,0,c⟩)] w fun e w'=>e=.returned (I .i64 0)∧Mod [] w w':=by
 obtain ⟨ba,bg,vk,vq,vg,Fo,q,g1,-⟩:=h.m;have LV:=f (yn3 g1 hH);have SW:B (∀W A k cap,Mod [] w W→EdRow W A k cap (H.map (·.2))→k≤100000→_):=fun W A k cap md hr hk=>yv8 (h.s.mod md (ze)) hL hnd hr hts hk hsz hall
 have G1:=f g1;have hbm:=g1.lt;obtain ⟨i0,hi,hz0,hz1,hz2⟩:=info_parts Tryz.infoEd;obtain ⟨N,hN⟩:∃N,H.length=N:=⟨_,rfl⟩;have HN:=f hN;have HH:=f hH;rw [hN] at LV hH;clear h g1 hts hsz hall hnd hN;go_in;go_wp2_with fail;refine LV.out.mono ?_;rintro e w1 ⟨v,rfl,n1⟩;have M1:=f n1.mod;obtain ⟨A,capA,rfl⟩:=n1.shape;obtain ⟨Fv,sv,-,fv⟩:=n1;obtain ⟨A',capA',e1,hcapA⟩:=sv.shape;have RV:=f (Rv.of_sl sv rfl);simp only [M,List.length_range] at RV ⊢;clear sv fv LV e1 hcapA;go_wp2_with fail
 go_loopw [3,5,12] (fun v _ i wr=>∃j:Nat,i=I .i64 j∧j≤N∧B (NewE w1 ((H.map (·.2)).take j) wr v)) (fun _ _ i _=>N - (intOf i).toNat)
 case atStart=>exact ⟨0,rfl,zc,⟨[],by simpa [zj4] using Sl.nil w1 44 2,Mod.refl _ _,ze⟩⟩
 case round=>
  obtain ⟨j,rfl,hj,HE⟩:=hrel;have MR:B (Mod [] w1 wr):=by obtain ⟨F2,_,m,_⟩:=HE.out;exact m
  have MW:=f (M1.out.trans' MR.out);by_cases hjl:j < N
  ·have hjl':(j:Int) < N:=zc;have hj0:(0:Int)≤j:=zc;have hjH:j < H.length:=by rw [HN.out];exact hjl
   obtain ⟨gb,off,rfl,hc⟩:=(RV.out.mod MR.out (ze)).at j (by simpa using hjl);rw [Δ,List.getElem_range] at hc;have hc':wr.cell? ⟨gb,off+j,c⟩=R (I .i64 ((j+1:Nat):Int)):=hc;obtain ⟨-,d1,d2⟩:=(G1.out.mod MW.out (ze)).root HH.out j hjH;have hbw:=(G1.out.mod MW.out (ze)).lt
   have TK:B ((H.map (·.2)).take (j+1)=(H.map (·.2)).take j++[H[j].2]):=by
    show _=_;rw [List.take_succ_eq_append_getElem (by simpa using hjH),Δ]
   have TL:B (((H.map (·.2)).take j).length=j):=by show _=_;rw [List.length_take,M];omega
   generalize H[j].2=ej at *;obtain ⟨t,x⟩:=ej;simp only at d1 d2;obtain ⟨m,hm⟩:∃m,j+1=m:=⟨_,rfl⟩;rw [hm] at d1 d2 hc';have hm3:(m:Int) < 257:=zc;have hm0:(0:Int)≤m:=zc;have d2':wr.cell? ⟨bm,262+m *3+1+1,c⟩=R (I .u32 x):=d2;obtain ⟨F2,s2,m2,f2⟩:=HE.out;rw [TL.out] at s2;obtain ⟨Ae,cape,rfl,hcape⟩:=s2.shape;have S2:=f s2;have F2':=f f2;have HM:=f hm;clear hc d2 s2 m2 f2 hcape hm HE hjH;go_wp2_with (at_builtin;refine YF _ rfl _ _ 254 rfl 44 i0 (.agg #[.int .u8 0,.int .u32 0]) 2 8 Tryz.underlying254 hi hz0 hz1 hz2 rfl (zi) _ j (zj4 edC ((H.map (·.2)).take j)) F2 rfl (S2.out.mod (S:=[]) (zg) (ze)) ⟨_,0,c⟩ 1 1 (edC ⟨t,x⟩) (zi) rfl rfl (zM) (by intro u hu;simp [edC] at hu;rcases hu with rfl | rfl<;>rfl) (zx) (zc) ?_;intro v5 w5 F5 hs5 hm5 hf5;have S5:=f hs5;have M5:=f hm5;have F5':=f hf5;obtain ⟨a5,cap5,rfl,_⟩:=hs5.shape;clear hs5 hm5 hf5);go_roundw
   case rel=>
    refine ⟨j+1,by first | rfl | go_num,zc,F5,?_,?_,?_⟩
    ·rw [TK.out,zd9,List.length_append,TL.out];have e:zj4 edC [(⟨t,x⟩:Ed)]=edC ⟨t,x⟩:=by simp [zj4]
     rw [e];exact S5.out
    ·exact (MR.out.alloc _).trans M5.out (by intro i hi hm;have:=F2'.out i hm;omega)
    ·intro k hk;rcases F5'.out k hk with h | h
     ·exact F2'.out k h
     ·have:=MR.out.size;simp at h;omega
   case measure=>simp [intOf];omega
  ·obtain rfl:j=N:=zc;have e:(H.map (·.2)).take j=H.map (·.2):=List.take_of_length_le (by rw [M,HN.out];exact Nat.le_refl _);rw [e] at HE;have HL:B ((H.map (·.2)).length=j):=by show _=_;rw [M];exact HN.out
   obtain ⟨Ae,cape,rfl⟩:∃Ae cape,u3=G Ae j cape:=by
    obtain ⟨F2,s2,-⟩:=HE.out;obtain ⟨Ae,cape,e2,-⟩:=s2.shape;rw [HL.out] at e2;exact ⟨Ae,cape,e2⟩
   have SC:=f (SW.out wr _ j _ MW.out HE.out.row (zc));have p3:=(G1.out.mod MW.out (ze)).cell 3 (zc);replace p3:wr.cell? ⟨bm,3,c⟩=R (Y (R ⟨bs,0,c⟩)):=p3;clear e HL SW;go_wp2_with fail;refine SC.out.mono ?_;rintro e w5 ⟨rfl,m5⟩;have M5:=f (MW.out.trans' m5);clear m5 SC;go_wp2_with fail;go_ret;exact ⟨rfl,M5.out⟩
end Go.Proofs.YtbnpoapmnkfhkaaGreatDoor
