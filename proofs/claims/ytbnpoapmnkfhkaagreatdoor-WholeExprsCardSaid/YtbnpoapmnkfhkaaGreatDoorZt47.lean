import Derived.Test.YtbnpoapmnkfhkaaGreatDoorZt01
import Derived.Lib.Builder
import Derived.Lib.AppendStr
import Derived.Lib.UnsafeStr
import Derived.Laws.Externs
set_option maxHeartbeats 2000000
set_option maxRecDepth 100000
set_option linter.unusedVariables false
set_option linter.unusedSimpArgs false
namespace Go.Proofs.YtbnpoapmnkfhkaaGreatDoor
open Go.Lib renaming hid → z, strCells_length → T, strCells → O, byteCells → I, byteCells_append → G
open Go.Proofs.Tryz renaming prog → y, underlying122 → J, underlying284 → D, underlying123 → C
open Go renaming World → q, Value → R, Calls → M
open Go.Value renaming pointer → Z, string → N, tuple → E, int → B, int → Ξ, bool → χ
open Option renaming none → Y, some → X, map_eq_some_iff → H
open Go.Ending renaming returned → V
open Go.Proofs.YtbnpoapmnkfhkaaGreatDoor.Mod renaming refl → U, trans → Γ, setCell → ψ
open List renaming length_append → L, size_toArray → Ω, append_assoc → Ψ, take_left → Φ, map_cons → Θ, mem_cons → Δ, map_nil → ω
open Go.RowKit
theorem zn5 {P:Program} (w:q) (t u ty e:TypeId) (i:TypeInfo) (ht:P.underlying t=X (.slice e)) (hu:P.underlying u=X .string) (hi:P.info? e=X i) (hz:i.zero=X (.int .u8 0))
 (hsize:i.size=1) (hby:i.bytes=1) (v:R) (n:Nat) (xs:List R) (F:List Nat) (hown:Sl w e 1 v n xs F) (s:ByteArray) (hs:0 < s.size) (h63:n+s.size≤maxLen) (hbytes:n+s.size≤140737488355328):
 ∃v' w' F',(Builtin.append_ #[t,u] ty #[v,N s]).run P w=.ok v' w'∧Sl w' e 1 v' (n+s.size) (xs++O s) F'∧Mod F w w'∧(∀k∈F',k∈F∨w.heap.size≤k):=by
 have hxl:xs.length=n:=by simpa using hown.1
 have hlen:(xs++O s).length=(n+s.size) *1:=by rw [L,hxl,T,Nat.mul_one]
 rcases hown.2 with ⟨rfl,rfl,rfl⟩ | ⟨g,cap,cur,rfl,rfl,hg,hnc,hcm,hcs,htake⟩
 ·obtain ⟨v',w',hr,h2,h3,h4⟩:=Lib.run_append_own_string (P:=P) w w.heap.size t u ty e i ht hu hi hz hsize hby _ 0 xs ⟨hown.1,.inl ⟨rfl,rfl⟩⟩ s h63 hbytes (Nat.le_refl _);rcases h2.2 with ⟨hv,hn⟩ | ⟨g,cap,cur,hv,hb,hg,r⟩
  ·omega
  ·refine ⟨v',w',[g],hr,⟨h2.1,.inr ⟨g,cap,cur,hv,rfl,hg,r⟩⟩,(U _ _).grown h3 (fun k hk=>qX),fun k hk=>?_⟩;simp at hk;subst hk;exact .inr hb
 ·have hcs':cur.size=cap:=by simpa using hcs
  by_cases hroom:n+s.size≤cap
  ·have hr:=Lib.run_append_room_string (P:=P) w t u ty e i ht hu hi hsize g n cap cur hg s hroom (zc);refine ⟨_,_,[g],hr,⟨hlen,.inr ⟨g,cap,_,rfl,rfl,setRow_heap w g cur _ e _ hg,hroom,hcm,?_,?_⟩⟩,(U _ _).grown (row:=X g) ⟨rfl,rfl,rfl,ze,fun k _ hk=>setRow_other w g k _ (fun e=>hk (yA))⟩ (fun k hk _=>yP),fun k hk=>.inl hk⟩
   ·simp only [Ω,L,List.length_take,List.length_drop,Array.length_toList,T];omega
   ·have ht':cur.toList.take n=xs:=by simpa using htake
    rw [ht',←hlen];exact Φ
  ·have holds:∀j u,xs[j]? =X u→w.cell? ((⟨g,0,Y⟩:Addr).add j)=X u:=hown.own.cells (g:=g) rfl;have hsmall:n+s.size≤9223372036854775807:=by simp only [maxLen] at h63;omega
   have hr:=Lib.run_append_grow_string (P:=P) w t u ty e i (B .u8 0) ht hu hi hz ⟨g,0,Y⟩ n cap xs (by rw [hsize];simpa using hxl) holds s (zc) (zc) (by rw [hby];exact growslice_fits (zc) (zc));refine ⟨_,_,[w.heap.size],hr,⟨hlen,.inr ⟨w.heap.size,_,_,rfl,rfl,heap_alloc_new w.drew _,grownCap_ge w (n+s.size) cap e,grownCap_le_maxLen w (n+s.size) cap e h63,?_,?_⟩⟩,((U _ _).drew).alloc _,fun k hk=>jM⟩
   ·have hge:=grownCap_ge w (n+s.size) cap e;have hz1:(Ξ IntKind.u8 0).cells.size=1:=rfl;simp only [Array.size_append,Ω,size_zeroCells,hz1,hxl,T];omega
   ·simp only [Array.toList_append,Ψ];rw [←Ψ,←hlen];exact Φ
theorem zh8 {P:Program} (w:q) {ops:Array Oper} {rest:List Oper} {o:Oper} {a:Act} {Q:Exit→Act→q→Prop} (hgd:o.guard=Y) (sl x:Operand) (t u:TypeId)
 (ho:o.op=.call { callee:=.builtin .append,args:=#[sl,x],argTypes:=#[t,u] })
 (e:TypeId) (i:TypeInfo) (ht:P.underlying t=X (.slice e)) (hu:P.underlying u=X .string) (hi:P.info? e=X i) (hz:i.zero=X (.int .u8 0))
 (hsize:i.size=1) (hby:i.bytes=1) (v:R) (n:Nat) (xs:List R) (F:List Nat) (hs:a.eval sl=v) (hown:Sl w e 1 v n xs F) (s:ByteArray) (hx:a.eval x=N s) (h0:0 < s.size)
 (h63:n+s.size≤maxLen) (hbytes:n+s.size≤140737488355328)
 (h:∀v' w' F',Sl w' e 1 v' (n+s.size) (xs++O s) F'→Mod F w w'→(∀k∈F',k∈F∨w.heap.size≤k)→wpList P ops Q rest (a.put o.dst v') w'):wpList P ops Q (o::rest) a w:=by
 refine wpList_plain hgd fun K hK=>?_
 obtain ⟨v',w',F',hr,h2,h3,h4⟩:=zn5 (P:=P) w t u o.type e i ht hu hi hz hsize hby v n xs F hown s h0 h63 hbytes;unfold Oper.wp execOp;simp only [ho,resolve,invoke,builtin,Sem.run_bind,Sem.run_pure,Result.andThen_ok,List.map_toArray,Θ,ω,hs,hx,hr];exact hK _ _ (h v' w' F' h2 h3 h4)
theorem Tryz.sizeBu:(Tryz.prog.info? 125).map (fun i=>i.size)=X 2:=by kernel_rfl
theorem Tryz.liesBu:liesAt y Tryz.prog.depth 127 (3 / Tryz.prog.cellsOf 127) 0 125 1=true:=by kernel_rfl
theorem Tryz.infoY:(Tryz.prog.info? 5).map (fun i=>(i.zero,i.size,i.bytes))=X (X (B .u8 0),1,1):=by kernel_rfl
theorem zL6 (b:Nat) (w:q) (h0:w.cell? ⟨b,0,Y⟩=X (Z (X ⟨b,0,Y⟩))):
 M y 148 #[Z (X ⟨b,0,Y⟩)] w fun e w'=>e=V (E #[])∧w'=w:=by
 obtain ⟨j,hj,_⟩:=H.1 Tryz.sizeBu;have same:=Lib.run_neq_ptr_same w ⟨b,0,Y⟩ J hj;go_in;go_wp2_with fail
 go_end0
 exact ⟨rfl,rfl⟩
theorem zA8 (b:Nat) (w:q) (h0:w.cell? ⟨b,0,Y⟩=X (Z Y)) (hsh:w.shape? b=X (127,3)) (hfz:w.frozen? ⟨b,0,Y⟩=false):
 M y 148 #[Z (X ⟨b,0,Y⟩)] w fun e w'=>e=V (E #[])∧w'=w.setCell ⟨b,0,Y⟩ (Z (X ⟨b,0,Y⟩)):=by
 obtain ⟨j,hj,hjs⟩:=H.1 Tryz.sizeBu;have there:=Lib.run_to_unsafe w ⟨b,0,Y⟩ J D hj (by rw [hjs];decide) hsh (by show 0 < 3;omega);have back:=Lib.run_from_unsafe w ⟨b,0,Y⟩ D J hj hsh Tryz.liesBu
 have through:(callFunc 171 #[Z (X ⟨b,0,Y⟩)]).run y w=.ok (.value (Z (X ⟨b,0,Y⟩))) w:=by
  rw [run_callFunc_extern Tryz.func171 (by kernel_rfl) (by kernel_rfl) (by kernel_rfl) (e:=Extern.AbiNoEscape.same) (by kernel_rfl),Lib.run_noEscape];rfl
 have HH:=z hsh;clear hj hjs hsh;go_in;go_wp2
 go_end0
 exact ⟨rfl,rfl⟩
def Pg (w:q) (b:Nat) (g:Bool) (bs:List R) (F:List Nat):Prop:=
 ∃p v,((p=Z Y∨p=Z (X ⟨b,0,Y⟩))∧∃l,bs=I l)∧Blk w b #[p,v,χ g] 127∧Sl w 5 1 v bs.length bs F∧b∉F
def PgTo (w:q) (b:Nat) (F:List Nat) (g:Bool) (lo hi:Nat) (w':q):Prop:=
 ∃bs' F',Pg w' b g bs' F'∧lo≤bs'.length∧bs'.length≤hi∧Mod (b::F) w w'∧∀k∈F',k∈F∨w.heap.size≤k
theorem Pg.mod {w w':q} {b:Nat} {g:Bool} {bs:List R} {F S:List Nat} (h:Pg w b g bs F) (m:Mod S w w') (hS:∀k∈b::F,k∉S):Pg w' b g bs F:=by
 obtain ⟨p,v,h1,h2,h3,h4⟩:=h;exact ⟨p,v,h1,h2.mod m (hS b (ze)),h3.mod m (fun k hk=>hS k (zC)),h4⟩
theorem Pg.lt {w:q} {b:Nat} {g:Bool} {bs:List R} {F:List Nat} (h:Pg w b g bs F):∀k∈b::F,k < w.heap.size:=by
 obtain ⟨p,v,h1,h2,h3,h4⟩:=h;intro k hk;rcases Δ.1 hk with rfl | hk
 ·exact h2.lt
 ·exact h3.lt k hk
theorem Pg.begun {w:q} {b:Nat} {g:Bool} {bs:List R} {F:List Nat} (h:Pg w b g bs F):w.cell? ⟨b,2,Y⟩=X (χ g)∧w.frozen? ⟨b,2,Y⟩=false:=by
 obtain ⟨p,v,h1,h2,h3,h4⟩:=h;exact ⟨jH,h2.froz 2⟩
theorem Pg.set {w:q} {b:Nat} {g:Bool} {bs:List R} {F:List Nat} (h:Pg w b g bs F) (g':Bool):Pg (w.setCell ⟨b,2,Y⟩ (χ g')) b g' bs F:=by
 obtain ⟨p,v,h1,h2,h3,h4⟩:=h;exact ⟨p,v,h1,h2.set 2 _,h3.mod ((U [b] w).setCell _ _ (ze)) (fun k hk=>by simp;rintro rfl;exact h4 hk),h4⟩
theorem PgTo.refl {w:q} {b:Nat} {g:Bool} {bs:List R} {F:List Nat} (h:Pg w b g bs F):PgTo w b F g bs.length bs.length w:=⟨bs,F,h,Nat.le_refl _,Nat.le_refl _,U _ _,fun k hk=>.inl hk⟩
theorem PgTo.le {w w':q} {b:Nat} {g:Bool} {F:List Nat} {lo hi lo' hi':Nat} (h:PgTo w b F g lo hi w') (h1:lo'≤lo) (h2:hi≤hi'):PgTo w b F g lo' hi' w':=by
 obtain ⟨bs,F',a,c,d,e⟩:=h;exact ⟨bs,F',a,zc,zc,e⟩
theorem PgTo.trans {w0 w w':q} {b:Nat} {g:Bool} {F F1:List Nat} {lo hi:Nat} (m:Mod (b::F) w0 w) (hf:∀k∈F1,k∈F∨w0.heap.size≤k) (h:PgTo w b F1 g lo hi w'):PgTo w0 b F g lo hi w':=by
 obtain ⟨bs,F',a,c,d,e,f⟩:=h;refine ⟨bs,F',a,c,d,m.trans e ?_,?_⟩
 ·intro i hi hm;rcases Δ.1 hm with rfl | hm
  ·simp
  ·rcases hf i hm with h | h
   ·simp [h]
   ·omega
 ·intro k hk;rcases f k hk with h | h
  ·exact hf k h
  ·exact .inr (Nat.le_trans m.size h)
theorem PgTo.later {w w1 w2:q} {b:Nat} {g:Bool} {F:List Nat} {lo hi:Nat} (h:PgTo w b F g lo hi w1) (m:Mod [] w1 w2):PgTo w b F g lo hi w2:=by
 obtain ⟨bs,F',a,c,d,e,f⟩:=h;exact ⟨bs,F',a.mod m (ze),c,d,e.trans m (ze),f⟩
theorem PgTo.set {w w1:q} {b:Nat} {g:Bool} {F:List Nat} {lo hi:Nat} (h:PgTo w b F g lo hi w1) (g':Bool):PgTo w b F g' lo hi (w1.setCell ⟨b,2,Y⟩ (χ g')):=by
 obtain ⟨bs,F',a,c,d,e,f⟩:=h;exact ⟨bs,F',a.set g',c,d,e.setCell _ _ (ze),f⟩
theorem yp6 {w:q} {b:Nat} {g:Bool} {bs:List R} {F:List Nat} (h:Pg w b g bs F):
 M y 148 #[Z (X ⟨b,0,Y⟩)] w fun e w'=>e=V (E #[])∧(∃v,Blk w' b #[Z (X ⟨b,0,Y⟩),v,χ g] 127∧Sl w' 5 1 v bs.length bs F)∧Mod [b] w w'∧w'.heap.size=w.heap.size:=by
 obtain ⟨p,v,h1,h2,h3,h4⟩:=h;rcases h1 with ⟨rfl | rfl,-⟩
 ·refine (zA8 b w (jH) (by have:=h2;unfold Blk at this;simp [World.shape?,this]) (h2.froz 0)).mono ?_;rintro e w' ⟨rfl,rfl⟩;exact ⟨rfl,⟨v,h2.set 0 _,h3.mod ((U [b] w).setCell _ _ (ze)) (fun k hk=>by simp;rintro rfl;exact h4 hk)⟩,(U [b] w).setCell _ _ (ze),ze⟩
 ·refine (zL6 b w (jH)).mono ?_;rintro e w' ⟨rfl,rfl⟩;exact ⟨rfl,⟨v,h2,h3⟩,U _ _,rfl⟩
theorem zj9 {w:q} {b:Nat} {g:Bool} {bs:List R} {F:List Nat} (h:Pg w b g bs F) (c:Nat) (hc:c < 256) (hl:bs.length≤1000000):
 M y 122 #[Z (X ⟨b,0,Y⟩),B .u8 c] w fun e w'=>e=V .nilIface∧PgTo w b F g (bs.length+1) (bs.length+1) w':=by
 obtain ⟨i0,hi,hz0,hz1,hz2⟩:=info_parts Tryz.infoY
 have HBL:Hid (∃l,bs++[Ξ .u8 (c:Int)]=I l):=by
  obtain ⟨p,v,⟨-,l,rfl⟩,-⟩:=h;refine ⟨l++[UInt8.ofNat c],?_⟩;rw [G];unfold I;simp only [Θ,ω];rw [UInt8.toNat_ofNat',Nat.mod_eq_of_lt hc]
 clear hc;have hbF:b∉F:=wK;have CC:=z (yp6 h);have HLT:=z h.lt;clear h;go_in;go_wp2_with fail;refine CC.out.mono ?_;rintro e w1 ⟨rfl,⟨v,hb,hs⟩,hm,hsz⟩;have c1:w1.cell? ⟨b,1,Y⟩=X v:=yj;have HB:=z hb;have HS:=z hs;have HM:=z hm;have HZ:=z hsz;obtain ⟨A,cap,rfl,hcap⟩:=hs.shape;have HF:=z hbF;have hlt:=hb.lt;clear hb hs hm hsz hcap hbF;obtain ⟨n,hn⟩:∃n,bs.length=n:=⟨_,rfl⟩;have HN:=z hn;rw [hn] at hl HS c1 HB
 try rw [hn]
 clear hn;go_wp2_with (at_builtin;refine YF _ rfl _ _ 123 rfl 5 i0 (B .u8 0) 1 1 C hi hz0 hz1 hz2 rfl (zi) _ n bs F rfl (HS.out.mod (S:=[]) (zg) (ze)) ⟨_,0,Y⟩ 1 1 [B .u8 c] (zi) rfl rfl (zM) (yi) (zx) (zc) ?_;intro v5 w5 F5 hs5 hm5 hf5;have hm6:=z (Γ (S:=F) (Mod.alloc (U _ w1) _) hm5 (fun i _ hm=>hm));have HB5:=z (HB.out.mod hm6.out HF.out);have d1:w5.frozen? ⟨b,1,Y⟩=false:=HB5.out.froz 1;have d2:w5.cell? ⟨b,1,Y⟩=X (.slice A n cap):=(by rw [HB5.out.cell];rfl);obtain ⟨A5,cap5,rfl,_⟩:=hs5.shape;have S5:=z hs5;have F5':=z hf5;clear hs5 hf5 hm5);go_ret;refine ⟨rfl,bs++[B .u8 c],F5,⟨_,_,⟨.inr rfl,HBL.out⟩,HB5.out.set 1 _,?_,?_⟩,by simp [HN.out],by simp [HN.out],?_,?_⟩
 ·have e:(bs++[Ξ .u8 c]).length=n+1:=by simp [HN.out]
  rw [e];refine S5.out.mod ((U [b] _).setCell _ _ (ze)) fun k hk=>?_
  simp;rintro rfl;rcases F5'.out k hk with h | h
  ·exact HF.out h
  ·simp at h;omega
 ·intro hk;rcases F5'.out b hk with h | h
  ·exact HF.out h
  ·simp at h;omega
 ·refine ψ ?_ _ _ (ze);refine Γ (S:=b::F) (Mod.mono HM.out (zv)) hm6.out ?_;intro i _ h;simp [h]
 ·intro k hk;rcases F5'.out k hk with h | h
  ·exact .inl h
  ·right;have:=HZ.out;simp at h;omega
theorem zr4 {w:q} {b:Nat} {g:Bool} {bs:List R} {F:List Nat} (h:Pg w b g bs F) (s:ByteArray) (hs0:0 < s.size) (hs1:s.size≤100) (hl:bs.length≤1000000):
 M y 123 #[Z (X ⟨b,0,Y⟩),N s] w fun e w'=>(∃r,e=V (E #[r,.nilIface]))∧PgTo w b F g (bs.length+s.size) (bs.length+s.size) w':=by
 obtain ⟨i0,hi,hz0,hz1,hz2⟩:=info_parts Tryz.infoY
 have HBL:Hid (∃l,bs++O s=I l):=by
  obtain ⟨p,v,⟨-,l,rfl⟩,-⟩:=h;exact ⟨l++s.data.toList,by rw [G,Lib.strCells_eq]⟩
 have hbF:b∉F:=wK;have CC:=z (yp6 h);clear h;go_in;go_wp2_with fail;refine CC.out.mono ?_;rintro e w1 ⟨rfl,⟨v,hb,hs⟩,hm,hsz⟩;have c1:w1.cell? ⟨b,1,Y⟩=X v:=yj;have HB:=z hb;have HS:=z hs;have HM:=z hm;have HZ:=z hsz;obtain ⟨A,cap,rfl,hcap⟩:=hs.shape;have HF:=z hbF;have hlt:=hb.lt;clear hb hs hm hsz hcap hbF;obtain ⟨n,hn⟩:∃n,bs.length=n:=⟨_,rfl⟩;have HN:=z hn;rw [hn] at hl HS c1 HB
 try rw [hn]
 clear hn;go_wp2_with (at_builtin;refine zh8 _ rfl _ _ 123 9 rfl 5 i0 C Tryz.underlying9 hi hz0 hz1 hz2 _ n bs F rfl (HS.out.mod (S:=[]) (zg) (ze)) s rfl hs0 (zx) (zc) ?_;intro v5 w5 F5 hs5 hm5 hf5;have hm6:=z hm5;have HB5:=z (HB.out.mod hm6.out HF.out);have d1:w5.frozen? ⟨b,1,Y⟩=false:=HB5.out.froz 1;have d2:w5.cell? ⟨b,1,Y⟩=X (.slice A n cap):=(by rw [HB5.out.cell];rfl);obtain ⟨A5,cap5,rfl,_⟩:=hs5.shape;have S5:=z hs5;have F5':=z hf5;clear hs5 hf5 hm5);go_ret2;have e:(bs++O s).length=n+s.size:=by rw [L,HN.out,T]
 refine ⟨⟨_,rfl⟩,bs++O s,F5,⟨_,_,⟨.inr rfl,HBL.out⟩,HB5.out.set 1 _,?_,?_⟩,by rw [e];have:=HN.out;omega,by rw [e];have:=HN.out;omega,?_,?_⟩
 ·rw [e];refine S5.out.mod ((U [b] _).setCell _ _ (ze)) fun k hk=>?_
  simp;rintro rfl;rcases F5'.out k hk with h | h
  ·exact HF.out h
  ·omega
 ·intro hk;rcases F5'.out b hk with h | h
  ·exact HF.out h
  ·omega
 ·refine ψ ?_ _ _ (ze);refine Γ (S:=b::F) (Mod.mono HM.out (zv)) hm6.out ?_;intro i _ h;simp [h]
 ·intro k hk;rcases F5'.out k hk with h | h
  ·exact .inl h
  ·right;have:=HZ.out;omega
open Go.RowKit
theorem yt8 (i:Nat) (hi:i < 10) (w:q):M y 195 #[B .i64 i] w fun e w'=>(∃s:ByteArray,e=V (N s)∧s.size=1)∧w'=w:=by
 obtain rfl | rfl | rfl | rfl | rfl | rfl | rfl | rfl | rfl | rfl:i=0∨i=1∨i=2∨i=3∨i=4∨i=5∨i=6∨i=7∨i=8∨i=9:=zc
 all_goals
  go_in;go_wp2;go_ret;exact ⟨⟨_,rfl,zi⟩,rfl⟩
theorem Yu {p:Prop} (h:p:=by
 go_in;go_wp2_with fail;refine (SM.out _).mono ?_;rintro e w' ⟨⟨s,rfl,hs⟩,rfl⟩;have HS:=z hs;clear hs;go_wp2_with fail;go_ret
 exact ⟨⟨_,rfl,HS.out⟩,rfl⟩):p:=h
theorem zN6 (i:Nat) (hi:i < 10) (w:q):M y 172 #[B .i64 i,B .i64 10] w fun e w'=>(∃s:ByteArray,e=V (N s)∧s.size=1)∧w'=w:=by
 have SM:=z (yt8 i hi);have h0:(0:Int)≤i:=zc;have h1:(i:Int) < 100:=zc;exact Yu
theorem yd7 (i:Nat) (hi:i < 10) (w:q):M y 149 #[B .i64 i] w fun e w'=>(∃s:ByteArray,e=V (N s)∧s.size=1)∧w'=w:=by
 have SM:=z (zN6 i hi);exact Yu
theorem yn6 (i:Nat) (hi:i < 10) (w:q):M y 124 #[B .i64 i] w fun e w'=>(∃s:ByteArray,e=V (N s)∧s.size=1)∧w'=w:=by
 have SM:=z (yd7 i hi);exact Yu
theorem zH2 {w:q} {b:Nat} {g:Bool} {bs:List R} {F:List Nat} (h:Pg w b g bs F) (s:ByteArray) (hs0:0 < s.size) (hs1:s.size≤100) (hl:bs.length≤900000):
 M y 87 #[Z (X ⟨b,0,Y⟩),N s] w fun e w'=>e=V (E #[])∧PgTo w b F true (bs.length+s.size) (bs.length+1+s.size) w':=by
 have WS:Hid (∀(W:q) (bs':List R) (F':List Nat),Pg W b g bs' F'→bs'.length≤1000000→_):=fun W bs' F' h hl=>zr4 h s hs0 hs1 hl
 have c2:=h.begun.1;obtain ⟨gs,hgs⟩:∃gs,s.size=gs:=⟨_,rfl⟩;rw [hgs];rw [hgs] at WS;clear hgs hs0 hs1;cases g with
 | true=>
  have WB:=z (zj9 h 32 (zc) (zc));clear h;go_in;go_wp2_with fail;refine WB.out.mono ?_;rintro e w1 ⟨rfl,bs1,F1,p1,l1,h1,m1,f1⟩;have e1:bs1.length=bs.length+1:=zc;have P1:=z p1;have M1:=z m1;have FF1:=z f1;have E1:=z e1;clear p1 l1 h1 m1 f1 e1;go_wp2_with fail;refine (WS.out _ _ _ P1.out (jI)).mono ?_;rintro e w2 ⟨⟨r,rfl⟩,⟨bs2,F2,p2,l2,h2,m2,f2⟩⟩;have PT:=z (PgTo.trans M1.out FF1.out ⟨bs2,F2,p2,l2,h2,m2,f2⟩);obtain ⟨d1,d2⟩:=p2.begun;clear p2 l2 h2 m2 f2;go_wp2_with fail
  go_end0
  exact ⟨rfl,(PT.out.set true).le (jI) (jI)⟩
 | false=>
  have HP:=z h;clear h;go_in;go_wp2_with fail;refine (WS.out _ _ _ HP.out (zc)).mono ?_;rintro e w2 ⟨⟨r,rfl⟩,⟨bs2,F2,p2,l2,h2,m2,f2⟩⟩;have PT:=z (show PgTo w b F false _ _ w2 from ⟨bs2,F2,p2,l2,h2,m2,f2⟩);obtain ⟨d1,d2⟩:=p2.begun;clear p2 l2 h2 m2 f2;go_wp2_with fail
  go_end0
  exact ⟨rfl,(PT.out.set true).le (zc) (zc)⟩
theorem yJ7 {w:q} {b:Nat} {g:Bool} {bs:List R} {F:List Nat} (h:Pg w b g bs F) (n:Nat) (hn:n < 10) (hl:bs.length≤900000):
 M y 88 #[Z (X ⟨b,0,Y⟩),B .i64 n] w fun e w'=>e=V (E #[])∧PgTo w b F true (bs.length+1) (bs.length+2) w':=by
 have IT:=z (yn6 n hn);have WD:Hid (∀s:ByteArray,s.size=1→_):=fun s hs=>zH2 h s (zc) (zc) hl
 clear h;go_in;go_wp2_with fail;refine (IT.out _).mono ?_;rintro e w1 ⟨⟨s,rfl,hs⟩,rfl⟩;have HS:=z hs;clear hs;go_wp2_with fail;refine (WD.out s HS.out).mono ?_;rintro e w2 ⟨rfl,pt⟩;have PT:=z pt;clear pt;go_wp2_with fail
 go_end0
 exact ⟨rfl,PT.out.le (by have:=HS.out;omega) (by have:=HS.out;omega)⟩
theorem yL1 {w:q} {b:Nat} {g:Bool} {bs:List R} {F:List Nat} (h:Pg w b g bs F) (hl:bs.length≤900000):
 M y 91 #[Z (X ⟨b,0,Y⟩)] w fun e w'=>e=V (E #[])∧PgTo w b F false (bs.length+1) (bs.length+1) w':=by
 have WB:=z (zj9 h 10 (zc) (zc));clear h;go_in;go_wp2_with fail;refine WB.out.mono ?_;rintro e w1 ⟨rfl,bs1,F1,p1,l1,h1,m1,f1⟩;have PT:=z (show PgTo w b F g _ _ w1 from ⟨bs1,F1,p1,l1,h1,m1,f1⟩);obtain ⟨d1,d2⟩:=p1.begun;clear p1 l1 h1 m1 f1;go_wp2_with fail
 go_end0
 exact ⟨rfl,PT.out.set false⟩
theorem yG8 (f:Nat) (h1:1≤f) (h5:f≤5) (w:q):M y 132 #[B .u8 f] w fun e w'=>(∃s:ByteArray,e=V (N s)∧3≤s.size∧s.size≤4)∧w'=w:=by
 obtain rfl | rfl | rfl | rfl | rfl:f=1∨f=2∨f=3∨f=4∨f=5:=zc
 all_goals
  go_in;go_wp2;go_ret;exact ⟨⟨_,rfl,zi,zi⟩,rfl⟩
end Go.Proofs.YtbnpoapmnkfhkaaGreatDoor
