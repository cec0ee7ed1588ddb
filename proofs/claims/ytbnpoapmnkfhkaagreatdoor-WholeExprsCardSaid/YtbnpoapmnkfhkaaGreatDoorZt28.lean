import Derived.Test.YtbnpoapmnkfhkaaGreatDoorZt27
import Derived.Deep.RegionHeld3
import Derived.Deep.CutRange
set_option maxHeartbeats 4000000
set_option maxRecDepth 100000
set_option linter.unusedVariables false
set_option linter.unusedSimpArgs false
namespace Go.Proofs.YtbnpoapmnkfhkaaGreatDoor
open Go.Value renaming int → u, pointer → M, agg → ρ, tuple → π, cells → ξ
open Go.IntKind renaming u8 → Z, u32 → Y, u16 → C, i64 → Ψ
open Go.Lib renaming hid → U
open List renaming getElem?_cons_zero → T, getElem?_cons_succ → R, getElem?_toArray → Q, mem_cons_of_mem → N, length_append → J, take_succ_cons → B, replicate → Θ, mem_cons → Δ, take_zero → ω, setIfInBounds_toArray → χ, set_cons_zero → τ, set_cons_succ → σ
open Option renaming none → O, some → A
open Go.RowKit renaming Hid → I
open Go.Obj renaming cells → H
open Go.Proofs.Tryz renaming prog → G
open Go.AllReady renaming cons → E, nil → D
open Or renaming inl → Ω
open Go.Proofs.YtbnpoapmnkfhkaaGreatDoor.Grow renaming of_mod → Φ, trans → ψ
open Go renaming World → Ξ, Calls → φ
open Bool renaming false_eq_true → Γ
open Go.RowKit
def VQ (L:List Rc) (n:Nat) (j:JbQ) (v:Ed):Prop:=
 ∃k ta,1≤j.f∧j.f≤5∧EdT L j.f n k j.l j.a ta∧EdT L j.f n k j.l v (qtT j.lv (j.kd==1) k j.l ta)
theorem VQ.grow {L:List Rc} {n:Nat} {j:JbQ} {v:Ed} (h:VQ L n j v) (L2:List Rc):VQ (L++L2) n j v:=by
 obtain ⟨k,ta,h1,h5,a,d⟩:=h;exact ⟨k,ta,h1,h5,a.grow L2,d.grow L2⟩
theorem VQ.told {L:List Rc} {n k:Nat} {j:JbQ} {v:Ed} (h:VQ L n j v) {ta:List Bool} (a:EdT L j.f n k j.l j.a ta):EdT L j.f n k j.l v (qtT j.lv (j.kd==1) k j.l ta):=by
 obtain ⟨k',ta',h1,h5,a',d⟩:=h;obtain ⟨rfl,rfl⟩:=a.fun_ h1 h5 a';exact d
structure EngQ (w:Ξ) (bs n room:Nat) (L:List Rc) (F:List Nat) (bo bc g bq bk gq:Nat):Prop where
 a:EngA w bs n room L F bo bc g
 ops:Blk w bq #[M (A ⟨bo,0,O⟩),M (A ⟨bs,0,O⟩),M (A ⟨bk,0,O⟩)] 82
 head:CHead 156 w bk gq 256
 tab:TabP 392 11 w gq 256 (EnQ (VQ L n))
 no:bq∉bo::bc::g::F∧bk∉bo::bc::g::F∧gq∉bo::bc::g::F
 ap:bq≠bk∧bq≠gq∧bk≠gq
section
variable {w w':Ξ} {bs n room:Nat} {L L2:List Rc} {F F':List Nat} {bo bc g bq bk gq:Nat}
theorem EngQ.mod {S:List Nat} (h:EngQ w bs n room L F bo bc g bq bk gq) (m:Mod S w w') (hd:∀k∈bq::bk::gq::bo::bc::g::F,k∉S):EngQ w' bs n room L F bo bc g bq bk gq:=
 ⟨h.a.mod m (fun k hk=>hd k (N _ (N _ (N _ hk)))),h.ops.mod m (hd _ (ze)),h.head.mod m (hd _ (ze)),h.tab.mod m (hd _ (ze)),h.no,h.ap⟩
theorem EngQ.mod0 (h:EngQ w bs n room L F bo bc g bq bk gq) (m:Mod [] w w'):EngQ w' bs n room L F bo bc g bq bk gq:=h.mod m (ze)
theorem EngQ.lt (h:EngQ w bs n room L F bo bc g bq bk gq):∀k∈bq::bk::gq::bo::bc::g::F,k < w.heap.size:=by
 intro k hk;rcases Δ.1 hk with rfl | hk
 ·exact h.ops.lt
 rcases Δ.1 hk with rfl | hk
 ·exact h.head.lt
 rcases Δ.1 hk with rfl | hk
 ·exact h.tab.lt
 exact h.a.lt k hk
theorem EngQ.did (h:EngQ w bs n room L F bo bc g bq bk gq) (s:EngA w' bs n room (L++L2) F' bo bc g) (m:Grow w w' (bc::g::F) (bc::g::F')):EngQ w' bs n room (L++L2) F' bo bc g bq bk gq:=by
 obtain ⟨n1,n2,n3⟩:=h.no;have key:∀x,x < w.heap.size→x∉bo::bc::g::F→x∉bo::bc::g::F':=fun x hx hn q=>(Δ.1 q).elim (fun e=>hn (yA)) (m.out hx (fun q=>hn (N _ q)))
 exact ⟨s,h.ops.mod m.mod (fun q=>n1 (N _ q)),h.head.mod m.mod (fun q=>n2 (N _ q)),(h.tab.mod m.mod (fun q=>n3 (N _ q))).imp fun e he=>he.imp fun j v q=>q.grow L2,⟨key _ h.ops.lt n1,key _ h.head.lt n2,key _ h.tab.lt n3⟩,h.ap⟩
theorem EngQ.grown (h:EngQ w bs n room L F bo bc g bq bk gq) (s:Sto w' bs n room (L++L2) F') (m:Grow w w' F F'):EngQ w' bs n room (L++L2) F' bo bc g bq bk gq:=
 h.did (h.a.grown s m) ((m.cons g).cons bc)
theorem EngQ.got (h:EngQ w bs n room L F bo bc g bq bk gq) (c:CHead 156 w' bk gq 256) (m:Mod [bk] w w'):EngQ w' bs n room L F bo bc g bq bk gq:=
 ⟨h.a.mod m (fun k hk q=>vM),h.ops.mod m (by simpa using h.ap.1),c,h.tab.mod m (by simpa using h.ap.2.2.symm),h.no,h.ap⟩
theorem EngQ.putt (h:EngQ w bs n room L F bo bc g bq bk gq) (c:TabP 392 11 w' gq 256 (EnQ (VQ L n))) (m:Mod [gq] w w'):EngQ w' bs n room L F bo bc g bq bk gq:=
 ⟨h.a.mod m (fun k hk q=>vN),h.ops.mod m (by simpa using h.ap.2.1),h.head.mod m (by simpa using h.ap.2.2),c,h.no,h.ap⟩
end
theorem zE6 {ty m:Nat} (n:Nat) (z:List Value) (hz:z.length=m) (h0:0 < m) {P:List Value→Prop} (hP:P z) (w:Ξ) (gk:Nat) (hgk:w.heap.size=gk):TabP ty m (w.alloc (H (madeCells z.toArray (n *m)) ty)) gk n P:=by
 refine ⟨_,Blk.new' _ _ _ _ hgk.symm,size_madeCells _ _,fun i hi=>⟨z,hz,hP,fun j hj=>?_⟩⟩
 have h1:i *m+j < n *m:=by
  have:i *m+m≤n *m:=vG;omega
 have h2:(i *m+j) % m=j:=by rw [Nat.mul_comm,Nat.mul_add_mod,Nat.mod_eq_of_lt hj]
 simp [madeCells,h1,hz,h2];rw [List.getElem?_eq_getElem (zc)];rfl
theorem yJ1:wrap64 (2 ^ 8)=256:=by
 have e:(2:Int) ^ 8=256:=zi;rw [e];unfold wrap64;omega
def NewC (hd ty m:Nat) (P:List Value→Prop) (w:Ξ) (e:Ending) (w':Ξ):Prop:=
 ∃b g,e=.returned (π #[M (A ⟨b,0,O⟩),u Z 0])∧CHead hd w' b g 256∧TabP ty m w' g 256 P∧Mod [] w w'∧w.heap.size≤b∧w.heap.size≤g∧b≠g
theorem ZX {p:Prop} (h:p:=by
 go_in;go_wp2_with fail;go_ret2
 exact ⟨_,gk,rfl,⟨0,0,Blk.new' _ _ _ _ (by first | exact hsz.symm | rfl)⟩,T0.out.mod (S:=[]) (zg) (ze),M1.out.alloc _,zc,zc,zc⟩):p:=h
theorem zI1 (V:JbA→Ed→Prop) (w:Ξ):φ G 26 #[u Ψ 8] w (NewC 153 390 12 (EnA V) w):=by
 obtain ⟨i0,hi,hz0,hz1,hz2⟩:=info_parts Tryz.infoKapply;obtain ⟨gk,hgk⟩:∃gk,w.heap.size=gk:=⟨_,rfl⟩;have T0:=U (zE6 (ty:=390) (m:=12) (P:=EnA V) 256 [u Z 0,u Z 0,u Z 0,u Z 0,u Y 0,u Z 0,u Y 0,u Z 0,u Y 0,u Z 0,u Y 0,u Ψ 0] rfl (zi) ⟨⟨0,0,0,⟨0,0⟩,⟨0,0⟩,⟨0,0⟩⟩,⟨0,0⟩,0,rfl,.inl rfl⟩ w gk hgk)
 have hmk:(Instr.makeSlice 151 (u Ψ 256) (u Ψ 256)).run G w=.ok (.slice (A ⟨gk,0,O⟩) 256 256) (w.alloc (H (madeCells #[u Z 0,u Z 0,u Z 0,u Z 0,u Y 0,u Z 0,u Y 0,u Z 0,u Y 0,u Z 0,u Y 0,u Ψ 0] (256 *12)) 390)):=by
  rw [←hgk];have:=run_make (P:=G) w 151 390 i0 _ Tryz.underlying151 hi hz0 Ψ Ψ 256 256 (zc) (zc) (ye) (zc);simpa [hz1,ξ] using this
 clear hi hz0 hz1 hz2;have hs:=yJ1;have M1:I (Mod [] w (w.alloc (H (madeCells #[u Z 0,u Z 0,u Z 0,u Z 0,u Y 0,u Z 0,u Y 0,u Z 0,u Y 0,u Z 0,u Y 0,u Ψ 0] (256 *12)) 390))):=(Mod.refl _ _).alloc _;have hsz:(w.alloc (H (madeCells #[u Z 0,u Z 0,u Z 0,u Z 0,u Y 0,u Z 0,u Y 0,u Z 0,u Y 0,u Z 0,u Y 0,u Ψ 0] (256 *12)) 390)).heap.size=gk+1:=zk;generalize w.alloc (H (madeCells #[u Z 0,u Z 0,u Z 0,u Z 0,u Y 0,u Z 0,u Y 0,u Z 0,u Y 0,u Z 0,u Y 0,u Ψ 0] (256 *12)) 390)=wx at *;exact ZX
theorem zM9 (V:JbQ→Ed→Prop) (w:Ξ):φ G 27 #[u Ψ 8] w (NewC 156 392 11 (EnQ V) w):=by
 obtain ⟨i0,hi,hz0,hz1,hz2⟩:=info_parts Tryz.infoKquant;obtain ⟨gk,hgk⟩:∃gk,w.heap.size=gk:=⟨_,rfl⟩;have T0:=U (zE6 (ty:=392) (m:=11) (P:=EnQ V) 256 [u Z 0,u Z 0,u Z 0,u C 0,u Z 0,u Y 0,u Z 0,u Y 0,u Z 0,u Y 0,u Ψ 0] rfl (zi) ⟨⟨0,0,0,0,⟨0,0⟩,⟨0,0⟩⟩,⟨0,0⟩,0,rfl,.inl rfl⟩ w gk hgk)
 have hmk:(Instr.makeSlice 154 (u Ψ 256) (u Ψ 256)).run G w=.ok (.slice (A ⟨gk,0,O⟩) 256 256) (w.alloc (H (madeCells #[u Z 0,u Z 0,u Z 0,u C 0,u Z 0,u Y 0,u Z 0,u Y 0,u Z 0,u Y 0,u Ψ 0] (256 *11)) 392)):=by
  rw [←hgk];have:=run_make (P:=G) w 154 392 i0 _ Tryz.underlying154 hi hz0 Ψ Ψ 256 256 (zc) (zc) (ye) (zc);simpa [hz1,ξ] using this
 clear hi hz0 hz1 hz2;have hs:=yJ1;have M1:I (Mod [] w (w.alloc (H (madeCells #[u Z 0,u Z 0,u Z 0,u C 0,u Z 0,u Y 0,u Z 0,u Y 0,u Z 0,u Y 0,u Ψ 0] (256 *11)) 392))):=(Mod.refl _ _).alloc _;have hsz:(w.alloc (H (madeCells #[u Z 0,u Z 0,u Z 0,u C 0,u Z 0,u Y 0,u Z 0,u Y 0,u Z 0,u Y 0,u Ψ 0] (256 *11)) 392)).heap.size=gk+1:=zk;generalize w.alloc (H (madeCells #[u Z 0,u Z 0,u Z 0,u C 0,u Z 0,u Y 0,u Z 0,u Y 0,u Z 0,u Y 0,u Ψ 0] (256 *11)) 392)=wx at *;exact ZX
theorem zB4 {w:Ξ} {bs n room:Nat} {L:List Rc} {F:List Nat} (h:Sto w bs n room L F):φ G 10 #[M (A ⟨bs,0,O⟩),u Ψ 8] w fun e w'=>∃bo bc g,e=.returned (π #[M (A ⟨bo,0,O⟩),u Z 0])∧EngA w' bs n room L F bo bc g∧Mod [] w w'∧∀k∈[bo,bc,g],w.heap.size≤k:=by
 have CN:=U (zI1 (VA L n));have HS:=U h;have LT:=U h.st.lt;clear h;go_in;go_wp2_with fail;refine (CN.out _).mono ?_;rintro e w1 ⟨b1,g1,rfl,c1,t1,m1,o1,o2,o3⟩;have C1:=U c1;have T1:=U t1;have M1:=U m1;have hb1:=c1.lt;have hg1:=t1.lt;clear c1 t1 m1;go_wp2_with fail;go_ret2;have hs:=M1.out.size;refine ⟨w1.heap.size,b1,g1,rfl,⟨Blk.new _ _ _,C1.out.mod (S:=[]) (zg) (ze),T1.out.mod (S:=[]) (zg) (ze),HS.out.mod (M1.out.alloc _) (ze),⟨fun q=>xg,fun q=>xg,fun q=>xg⟩,zc,zc,zc⟩,M1.out.alloc _,?_⟩;intro k hk;simp at hk;omega
theorem zz7 {w:Ξ} {bs n room:Nat} {L:List Rc} {F:List Nat} {bo bc g:Nat} (h:EngA w bs n room L F bo bc g):φ G 11 #[M (A ⟨bo,0,O⟩),u Ψ 8] w fun e w'=>∃bq bk gq,e=.returned (π #[M (A ⟨bq,0,O⟩),u Z 0])∧EngQ w' bs n room L F bo bc g bq bk gq∧Mod [] w w'∧∀k∈[bq,bk,gq],w.heap.size≤k:=by
 have CN:=U (zM9 (VQ L n));have OS:I (∀W,Mod [] w W→φ G 28 #[M (A ⟨bo,0,O⟩)] W fun e w'=>e=.returned (M (A ⟨bs,0,O⟩))∧w'=W):=fun W m=>X6 (h.ops.mod m (ze))
 have HS:=U h;have LT:=U h.lt;clear h;go_in;go_wp2_with fail;refine (CN.out _).mono ?_;rintro e w1 ⟨b1,g1,rfl,c1,t1,m1,o1,o2,o3⟩;have C1:=U c1;have T1:=U t1;have M1:=U m1;have hb1:=c1.lt;have hg1:=t1.lt;clear c1 t1 m1;go_wp2_with fail;refine (OS.out _ M1.out).mono ?_;rintro e w2 ⟨rfl,rfl⟩;go_wp2_with fail;go_ret2;have hs:=M1.out.size;refine ⟨_,b1,g1,rfl,⟨HS.out.mod0 (M1.out.alloc _),Blk.new _ _ _,C1.out.mod (S:=[]) (zg) (ze),T1.out.mod (S:=[]) (zg) (ze),⟨fun q=>xg,fun q=>xg,fun q=>xg⟩,zc,zc,zc⟩,M1.out.alloc _,?_⟩;intro k hk;simp at hk;omega
open Go.RowKit
theorem Prv.call2 {w0 w w':Ξ} {x y:Nat} {X X':List Nat} {b:Nat} {c:Array Value} {t:TypeId} (h:Prv w0 w (x::y::X) b c t) (g:Grow w w' X X'):Prv w0 w' (x::y::X') b c t:=by
 have h2:Prv w0 w (y::X) b c t:=⟨h.blk,fun q=>h.no (N _ q),h.new⟩;have h3:=h2.call g;exact ⟨h3.blk,fun q=>(Δ.1 q).elim (fun e=>h.no (yA)) h3.no,h3.new⟩
structure SpQ (w0 w:Ξ) (bs n room:Nat) (F0:List Nat) (bo bc g bq bk gq:Nat) (L:List Rc) (F:List Nat):Prop where
 eng:EngQ w bs n room L F bo bc g bq bk gq
 gr:Grow w0 w (bk::gq::bc::g::F0) (bk::gq::bc::g::F)
theorem mem7 {k a b c d e f:Nat} {X:List Nat}:k∈a::b::c::d::e::f::X↔k∈a::d::b::c::e::f::X:=by
 simp only [Δ];constructor<;>rintro (h | h | h | h | h | h | h)<;>simp [h]
section
variable {w0 w w':Ξ} {bs n room:Nat} {F0:List Nat} {bo bc g bq bk gq:Nat} {L L2:List Rc} {F F':List Nat}
theorem SpQ.write {S:List Nat} (h:SpQ w0 w bs n room F0 bo bc g bq bk gq L F) (m:Mod S w w') (h0:∀k∈S,w0.heap.size≤k) (h1:∀k∈S,k∉bq::bo::bk::gq::bc::g::F):SpQ w0 w' bs n room F0 bo bc g bq bk gq L F:=
 ⟨h.eng.mod m (fun k hk hS=>h1 k hS (mem7.1 hk)),h.gr.write m h0⟩
theorem SpQ.grown (h:SpQ w0 w bs n room F0 bo bc g bq bk gq L F) (s:Sto w' bs n room (L++L2) F') (m:Grow w w' F F'):SpQ w0 w' bs n room F0 bo bc g bq bk gq (L++L2) F':=
 ⟨h.eng.grown s m,h.gr.trans ((((m.cons g).cons bc).cons gq).cons bk)⟩
theorem SpQ.ate (h:SpQ w0 w bs n room F0 bo bc g bq bk gq L F) (s:EngA w' bs n room (L++L2) F' bo bc g) (m:Grow w w' (bc::g::F) (bc::g::F')):SpQ w0 w' bs n room F0 bo bc g bq bk gq (L++L2) F':=
 ⟨h.eng.did s m,h.gr.trans ((m.cons gq).cons bk)⟩
theorem SpQ.did (h:SpQ w0 w bs n room F0 bo bc g bq bk gq L F) (s:EngQ w' bs n room (L++L2) F' bo bc g bq bk gq) (m:Grow w w' (bk::gq::bc::g::F) (bk::gq::bc::g::F')):SpQ w0 w' bs n room F0 bo bc g bq bk gq (L++L2) F':=⟨s,h.gr.trans m⟩
theorem SpQ.lt (h:SpQ w0 w bs n room F0 bo bc g bq bk gq L F):∀k∈bq::bo::bk::gq::bc::g::F,k < w.heap.size:=fun k hk=>h.eng.lt k (mem7.2 hk)
end
def qc:Nat→Nat
 | 0=>0
 | k+1=>3+2 *qc k+4 *(2 ^ k - 1)
def zm8 (w:Ξ) (bs n room:Nat) (L:List Rc) (F:List Nat) (bo bc g bq bk gq f k l:Nat) (t:List Bool) (c:Nat) (r:Ending) (w':Ξ):Prop:=
 ∃(et ea:Nat) (L2:List Rc) (F':List Nat),r=.returned (π #[ρ #[u Z et,u Y ea],u Z 0])∧EngQ w' bs n room (L++L2) F' bo bc g bq bk gq∧Grow w w' (bk::gq::bc::g::F) (bk::gq::bc::g::F')∧EdT (L++L2) f n k l ⟨et,ea⟩ t∧L2.length≤c
def DoQ (bs n room bo bc g bq bk gq f kd lv k l:Nat):Prop:=
 ∀(w:Ξ) (L:List Rc) (F:List Nat) (at_ aa bt ba:Nat) (ta:List Bool),EngQ w bs n room L F bo bc g bq bk gq→L.length+(qc k+4 *2 ^ k)≤100000→L.length+(qc k+4 *2 ^ k)≤room→
  EdT L f n k l ⟨at_,aa⟩ ta→EdT L f n k l ⟨bt,ba⟩ (Θ (2 ^ k) true)→
  φ G 346 #[M (A ⟨bq,0,O⟩),ρ #[u Z f,u Z kd,u Z l,u C lv,u Z at_,u Y aa,u Z bt,u Y ba]] w (zm8 w bs n room L F bo bc g bq bk gq f k l (qtT lv (kd==1) k l ta) (qc k))
def SplQ (bs n room bo bc g bq bk gq f kd lv k l:Nat):Prop:=
 ∀(w:Ξ) (L:List Rc) (F:List Nat) (at_ aa bt ba:Nat) (ta:List Bool),EngQ w bs n room L F bo bc g bq bk gq→L.length+(qc k+4 *2 ^ k)≤100000→L.length+(qc k+4 *2 ^ k)≤room→
  EdT L f n k l ⟨at_,aa⟩ ta→EdT L f n k l ⟨bt,ba⟩ (Θ (2 ^ k) true)→
  φ G 350 #[M (A ⟨bq,0,O⟩),ρ #[u Z f,u Z kd,u Z l,u C lv,u Z at_,u Y aa,u Z bt,u Y ba]] w (zm8 w bs n room L F bo bc g bq bk gq f k l (qtT lv (kd==1) k l ta) (qc k))
theorem yi6 (lv:Nat) (each:Bool) (k l:Nat) (t:List Bool):qtT lv each (k+1) l t=if lv.testBit l then za9 (if each then 8 else 14) (qtT lv each k (l+1) (t.take (2 ^ k))) (qtT lv each k (l+1) (t.drop (2 ^ k)))++za9 (if each then 8 else 14) (qtT lv each k (l+1) (t.take (2 ^ k))) (qtT lv each k (l+1) (t.drop (2 ^ k)))
 else qtT lv each k (l+1) (t.take (2 ^ k))++qtT lv each k (l+1) (t.drop (2 ^ k)):=rfl
theorem ZW {p:Prop} (h:p:=by
 rw [eL] at SW E6;rw [←QS.out] at E6;refine bodyPost_ret (v:=π #[ρ #[u Z rt,u Y ra],u Z 0]) (by simp [results,Tryz.results350,go_sem,z0,z1];try rfl) rfl ?_
 exact ⟨rt,ra,_,F6,rfl,SW.out.eng,SW.out.gr,jC,by
  have:=LB.out
  repeat rw [J]
  omega⟩):p:=h
theorem ZU {p:Prop} (h:p:=by
 refine wpAny_done (by kernel_rfl) ?_ _
 all_goals
  go_wp2_with fail;have SG:=SP.out.grown s6 G6;have GC:=(((G6.cons g).cons bc).cons gq).cons bk;have PR6:=PR.out.call2 GC;have MW:=U (((Mod.refl [gr] w8).setCell ⟨gr,0,O⟩ (u Z rt) (ze)).setCell ⟨gr,1,O⟩ (u Y ra) (ze));have BW:=(br.set 0 (u Z rt)).set 1 (u Y ra);simp only [χ,τ,σ] at BW;obtain ⟨z0,z1⟩:=BW.cells2;have SW:=U (SG.write MW.out (qF) (qG));have E6:=U e6;clear r0 r1 u0 u1 BW q0 q0s q1 q2 q3 q4 q5 e6 s6 G6 g6 br;generalize (w8.setCell ⟨gr,0,O⟩ (u Z rt)).setCell ⟨gr,1,O⟩ (u Y ra)=w9 at *;have eL:((((((L++L1)++L2)++L3)++L4)++L5)++L6)=L++(L1++(L2++(L3++(L4++(L5++L6))))):=qH
  exact ZW):p:=h
theorem ZV {p:Prop} (h:p:=by
 refine wpAny_done (by kernel_rfl) ?_ _;go_wp2_with fail;go_meet
 all_goals
  refine ⟨zt,za,L5,F5,rfl,?_⟩;have SG:=SP.out.ate en GD;have GC:=(GD.cons gq).cons bk;have PX2:=PXx.out.call2 GC
  exact ⟨SG.write (S:=[gx]) (zg) (vY) (vZ),(PJ.out.call2 GC).mod (S:=[gx]) (zg) (by simpa using hjx),(PR.out.call2 GC).mod (S:=[gx]) (zg) (by simpa using hrx),⟨Blk.eq ((bx.set 0 (u Z zt)).set 1 (u Y za)) (ze),PX2.no,PXx.out.new⟩,(PXy.out.call2 GC).mod (S:=[gx]) (zg) (by simpa using d4),ez,hl5⟩):p:=h
theorem ZY {p:Prop} (h:p:=by
 cases hh<;>(go_wp2_with fail;go_meet;first | exact ⟨rfl,rfl⟩ | simp)):p:=h
theorem zB6 {bs n room bo bc g bq bk gq f kd lv k l:Nat} (h1:1≤f) (h5:f≤5) (hn:n≤16) (hrm:room≤1048576) (hkd:kd≤1) (hlv:lv < 65536) (hlk:l+(k+1)=n) (ih:DoQ bs n room bo bc g bq bk gq f kd lv k (l+1)):SplQ bs n room bo bc g bq bk gq f kd lv (k+1) l:=by
 intro w L F at_ aa bt ba ta HE hb1 hb2 ea eb;have hpk:4 *2 ^ (k+1)=4 *2 ^ k+4 *2 ^ k:=xA;have hpk0:=Nat.two_pow_pos k;have hqc:qc (k+1)=3+2 *qc k+4 *(2 ^ k - 1):=rfl
 have VW:I (∀(W:Ξ) (L':List Rc) (F':List Nat) (et ea:Nat) (t':List Bool),Sto W bs n room L' F'→L'.length < room→L'.length≤100000→EdT L' f n (k+1) l ⟨et,ea⟩ t'→
  φ G 303 #[M (A ⟨bs,0,O⟩),u Z f,ρ #[u Z et,u Y ea],u Ψ l] W (VwT W bs n room L' F' f k l t')):=fun W L' F' et ea t' s a1 a2 e=>yn1 (e:=⟨et,ea⟩) h1 h5 s a2 a1 hrm hn e
 have MK:I (∀(W:Ξ) (L':List Rc) (F':List Nat) (et ea et2 ea2:Nat) (t' u':List Bool),Sto W bs n room L' F'→L'.length < room→L'.length≤100000→EdT L' f n k (l+1) ⟨et,ea⟩ t'→EdT L' f n k (l+1) ⟨et2,ea2⟩ u'→
  φ G 110 #[M (A ⟨bs,0,O⟩),u Z f,u Ψ l,ρ #[u Z et,u Y ea],ρ #[u Z et2,u Y ea2]] W (MkT W bs n room L' F' f (k+1) l (t'++u'))):=fun W L' F' et ea et2 ea2 t' u' s a1 a2 e e'=>zV7 (lo:=⟨et,ea⟩) (hi:=⟨et2,ea2⟩) h1 h5 s a2 a1 hrm hn e e'
 have DO:I (∀(W:Ξ) (L':List Rc) (F':List Nat) (x1 x2 x3 x4:Nat) (t1:List Bool),EngQ W bs n room L' F' bo bc g bq bk gq→L'.length+(qc k+4 *2 ^ k)≤100000→L'.length+(qc k+4 *2 ^ k)≤room→
  EdT L' f n k (l+1) ⟨x1,x2⟩ t1→EdT L' f n k (l+1) ⟨x3,x4⟩ (Θ (2 ^ k) true)→
  φ G 346 #[M (A ⟨bq,0,O⟩),ρ #[u Z f,u Z kd,u Z ((l:Int)+1),u C lv,u Z x1,u Y x2,u Z x3,u Y x4]] W (zm8 W bs n room L' F' bo bc g bq bk gq f k (l+1) (qtT lv (kd==1) k (l+1) t1) (qc k))):=fun W L' F' x1 x2 x3 x4 t1 a b c d e=>by
  have:=ih W L' F' x1 x2 x3 x4 t1 a b c d e;simpa using this
 have ATC:I (∀(W:Ξ) (L':List Rc) (F':List Nat) (o x1 x2 x3 x4:Nat) (t1 t2:List Bool),o=14∨o=8→EngA W bs n room L' F' bo bc g→L'.length+4 *2 ^ k≤100000→L'.length+4 *2 ^ k≤room→
  EdT L' f n k (l+1) ⟨x1,x2⟩ t1→EdT L' f n k (l+1) ⟨x3,x4⟩ t2→
  φ G 293 #[M (A ⟨bo,0,O⟩),u Z f,u Ψ (Xy o:Nat),u Ψ ((l:Int)+1),ρ #[u Z x1,u Y x2],ρ #[u Z x3,u Y x4],ρ #[u Z 0,u Y 0]] W (DoR W bs n room L' F' bo bc g f k (l+1) (za9 o t1 t2) (4 *(2 ^ k - 1)))):=fun W L' F' o x1 x2 x3 x4 t1 t2 ho a b c d e=>by
  have hw:Xy o < 256:=by
   obtain ⟨-,-,v8,-,-,v14⟩:=wideN_vals;rcases ho with rfl | rfl
   ·rw [v14];omega
   ·rw [v8];omega
  have:=yn4 (k:=k) (l:=l+1) (op:=Xy o) (at_:=x1) (aa:=x2) (bt:=x3) (ba:=x4) (ct:=0) (ca:=0) h1 h5 hn hw (zc) (doA h1 h5 hn hrm hw k (l+1) (zc)) a b c d e (EdT.zero L' (zc));rw [zu0 (o:=o) d.len e.len (ze)] at this;simpa using this
 have hlt:(l:Int) < 16:=zc;have WL:IntKind.u8.wrap ((l:Int)+1)=(l:Int)+1:=IntWalk.u8_in _ ⟨zc,zc⟩;have WI:IntKind.i64.wrap ((l:Int)+1)=(l:Int)+1:=IntWalk.i64_in _ (zc);have LB:I (L.length+(qc (k+1)+4 *2 ^ (k+1))≤100000∧L.length+(qc (k+1)+4 *2 ^ (k+1))≤room∧4 *2 ^ (k+1)=4 *2 ^ k+4 *2 ^ k∧0 < 2 ^ k∧qc (k+1)=3+2 *qc k+4 *(2 ^ k - 1)):=⟨hb1,hb2,hpk,hpk0,hqc⟩;have QS:=U (yi6 lv (kd==1) k l ta);have LQ:I ((qtT lv (kd==1) k (l+1) (ta.take (2 ^ k))).length=2 ^ k):=zq0 _ _ _ (by have:=ea.len;rw [Nat.pow_succ] at this;rw [List.length_take];omega);have hb16:=yf2 lv l hlv;have hlvb:(lv:Int) < 65536:=zc;have E1:=U ea;have E2:=U eb;have HX:=U HE;have LT:=U HE.lt;obtain ⟨gj,hgj⟩:∃gj,w.heap.size=gj:=⟨_,rfl⟩;have V8:=wideN_vals.2.2.1;have V14:=wideN_vals.2.2.2.2.2;clear HE ea eb hb1 hb2 ih hpk hpk0 hlk hqc;go_in;go_upto_region 2 with fail;have BJ0:=Blk.new' w #[u Z f,u Z kd,u Z l,u C lv,u Z at_,u Y aa,u Z bt,u Y ba] 79 gj hgj.symm;have BJ1:=BJ0.alloc (H #[u Z 0,u Y 0] 44);have BR1:=Blk.new' (w.alloc (H #[u Z f,u Z kd,u Z l,u C lv,u Z at_,u Y aa,u Z bt,u Y ba] 79)) #[u Z 0,u Y 0] 44 (gj+1) (yB);have M1:I (Mod [] w ((w.alloc (H #[u Z f,u Z kd,u Z l,u C lv,u Z at_,u Y aa,u Z bt,u Y ba] 79)).alloc (H #[u Z 0,u Y 0] 44))):=zg;have hs1:((w.alloc (H #[u Z f,u Z kd,u Z l,u C lv,u Z at_,u Y aa,u Z bt,u Y ba] 79)).alloc (H #[u Z 0,u Y 0] 44)).heap.size=gj+1+1:=yB;generalize (w.alloc (H #[u Z f,u Z kd,u Z l,u C lv,u Z at_,u Y aa,u Z bt,u Y ba] 79)).alloc (H #[u Z 0,u Y 0] 44)=w1 at *;have HBJ:=U BJ1;have HBR:=U BR1;clear BJ0 BR1;obtain ⟨j0,j1,j2,j3,j4,j5,j6,j7⟩:=XP BJ1;have hjl:=BJ1.lt;clear BJ1;have nA:¬gj=gj+1+1:=zc;have nB:¬gj=gj+1+1+1:=zc;go_cut [7,8] from 17 to 18 (fun p q wx=>∃gl gh,p=M (A ⟨gl,0,O⟩)∧q=M (A ⟨gh,0,O⟩)∧I (Blk wx gl #[u Z f,u Z kd,u Z l,u C lv,u Z at_,u Y aa,u Z bt,u Y ba] 79)∧I (Blk wx gh #[u Z f,u Z kd,u Z l,u C lv,u Z at_,u Y aa,u Z bt,u Y ba] 79)∧gj+1 < gl∧gj+1 < gh∧gl≠gh∧I (Mod [] w1 wx))
 case first=>
  go_region
  all_goals (go_wp2_with fail;go_meet)
  all_goals
   have BN:=((Blk.new' w1 #[u Z f,u Z kd,u Z l,u C lv,u Z at_,u Y aa,u Z bt,u Y ba] 79 (gj+1+1) hs1.symm).alloc (H #[u Z f,u Z kd,u Z l,u C lv,u Z at_,u Y aa,u Z bt,u Y ba] 79));have BN1:=(Blk.new' (w1.alloc (H #[u Z f,u Z kd,u Z l,u C lv,u Z at_,u Y aa,u Z bt,u Y ba] 79)) #[u Z f,u Z kd,u Z l,u C lv,u Z at_,u Y aa,u Z bt,u Y ba] 79 (gj+1+1+1) (by simp [hs1]));have MN:Mod [] w1 ((w1.alloc (H #[u Z f,u Z kd,u Z l,u C lv,u Z at_,u Y aa,u Z bt,u Y ba] 79)).alloc (H #[u Z f,u Z kd,u Z l,u C lv,u Z at_,u Y aa,u Z bt,u Y ba] 79)):=((Mod.refl _ _).alloc _).alloc _
   first
    | exact ⟨_,_,rfl,rfl,BN,BN1,zc,zc,zc,yy⟩
    | exact ⟨_,_,rfl,rfl,BN1,BN,zc,zc,zc,yy⟩
 case rest=>
  obtain ⟨gl,gh,rfl,rfl,BL,BH,hgl,hgh,hlh,M2⟩:=hcut;have BJ:=U (HBJ.out.mod M2.out (ze));have BR:=U (HBR.out.mod M2.out (ze));replace M2:=U (M1.out.trans' M2.out);generalize wc=w2 at *;clear nA nB HBJ HBR M1 hs1 hjl j0 j1 j2 j3 j4 j5 j6 j7;obtain ⟨j0,j1,j2,-⟩:=XP BJ.out;have hjl:¬gj=gl:=zc;have hlj:¬gl=gj:=zc;have hjh:¬gj=gh:=zc;have hhj:¬gh=gj:=zc;have hhl:¬gh=gl:=fun e=>hlh e.symm
  have hrl:¬gj+1=gl:=zc;have hrh:¬gj+1=gh:=zc;have u0:=BL.out.froz 2;have u1:=BH.out.froz 2;have x0:=BL.out.cell 2;have x1:=BH.out.cell 2;simp only [Q,T,R] at x0 x1;have hgll:=BL.out.lt;have hghl:=BH.out.lt;have hgjj:=BJ.out.lt;go_upto_region 3 with fail;go_cut [6] from 19 to 26 (fun p wx=>p=u Ψ l∧I (Blk wx gl #[u Z f,u Z kd,u Z ((l:Int)+1),u C lv,u Z at_,u Y aa,u Z bt,u Y ba] 79)∧I (Blk wx gh #[u Z f,u Z kd,u Z ((l:Int)+1),u C lv,u Z at_,u Y aa,u Z bt,u Y ba] 79)∧I (Mod [gl,gh] w2 wx))
  case first=>
   go_region
   all_goals (go_wp2_with fail;go_meet)
   all_goals
    refine ⟨rfl,?_,?_,zg⟩
    ·first
      | exact Blk.eq ((BL.out.set 2 (u Z ((l:Int)+1))).other ⟨gh,2,O⟩ (u Z ((l:Int)+1)) hlh).drew (ze)
      | exact Blk.eq ((BL.out.other ⟨gh,2,O⟩ (u Z ((l:Int)+1)) hlh).set 2 (u Z ((l:Int)+1))).drew (ze)
    ·first
      | exact Blk.eq ((BH.out.other ⟨gl,2,O⟩ (u Z ((l:Int)+1)) hhl).set 2 (u Z ((l:Int)+1))).drew (ze)
      | exact Blk.eq ((BH.out.set 2 (u Z ((l:Int)+1))).other ⟨gl,2,O⟩ (u Z ((l:Int)+1)) hhl).drew (ze)
  case rest=>
   obtain ⟨rfl,BL2,BH2,M3⟩:=hcut;clear j0 j1 j2 u0 u1 x0 x1 hgll hghl hgjj;have NJ:I (∀b,gj≤b→b∉bq::bo::bk::gq::bc::g::F):=fun b hb h=>by have:=LT.out b (mem7.2 h);omega
   have SP:I (SpQ w wc bs n room F bo bc g bq bk gq L F):=⟨(HX.out.mod0 M2.out).mod M3.out (fun k hk q=>vO),(Φ M2.out).write M3.out (fun k hk=>ym)⟩;have PJ:I (Prv w wc (bq::bo::bk::gq::bc::g::F) gj #[u Z f,u Z kd,u Z l,u C lv,u Z at_,u Y aa,u Z bt,u Y ba] 79):=⟨BJ.out.mod M3.out (yL),NJ.out _ (zc),zc⟩;have PR:I (Prv w wc (bq::bo::bk::gq::bc::g::F) (gj+1) #[u Z 0,u Y 0] 44):=⟨BR.out.mod M3.out (yM),NJ.out _ (zc),zc⟩;have PL:I (Prv w wc (bq::bo::bk::gq::bc::g::F) gl #[u Z f,u Z kd,u Z ((l:Int)+1),u C lv,u Z at_,u Y aa,u Z bt,u Y ba] 79):=⟨BL2.out,NJ.out _ (zc),zc⟩;have PH:I (Prv w wc (bq::bo::bk::gq::bc::g::F) gh #[u Z f,u Z kd,u Z ((l:Int)+1),u C lv,u Z at_,u Y aa,u Z bt,u Y ba] 79):=⟨BH2.out,NJ.out _ (zc),zc⟩;obtain ⟨gr,hgr⟩:∃gr,gj+1=gr:=⟨_,rfl⟩;rw [hgr] at hrl hrh PR ⊢;have JR:I (¬gj=gr):=by show ¬_;omega
   clear BJ BR BL BH BL2 BH2 M2 M3 NJ hgj hgl hgh hgr;generalize wc=wa at *;have LB1:I (L.length < room∧L.length≤100000):=⟨qz,qz⟩;have ST:=U SP.out.eng.a.sto;have hbol:=SP.out.eng.ops.lt;have q0:=SP.out.eng.ops.cell 1;have q1:=PJ.out.blk.cell 0;have q2:=PJ.out.blk.cell 4;have q3:=PJ.out.blk.cell 5;simp only [Q,T,R] at q0 q1 q2 q3;have hgjl:=PJ.out.blk.lt;have nbo:bq∉F:=fun h=>SP.out.eng.no.1 (zn)
   have nj:gj∉F:=fun h=>PJ.out.no (zn)
   have nl:gl∉F:=fun h=>PL.out.no (zn)
   have nh:gh∉F:=fun h=>PH.out.no (zn)
   have d1:¬bq=gl:=fun h=>PL.out.no (zn)
   have d2:¬gl=bq:=fun h=>PL.out.no (zn)
   have d3:¬bq=gh:=fun h=>PH.out.no (zn)
   have d4:¬gh=bq:=fun h=>PH.out.no (zn)
   go_upto_region 5 with fail;go_cut [9] from 28 to 42 (fun p wx=>∃(lt1 la1 ht1 ha1:Nat) (L1:List Rc) (F1:List Nat),p=u Z 0∧I (SpQ w wx bs n room F bo bc g bq bk gq (L++L1) F1)∧I (Prv w wx (bq::bo::bk::gq::bc::g::F1) gj #[u Z f,u Z kd,u Z l,u C lv,u Z at_,u Y aa,u Z bt,u Y ba] 79)∧I (Prv w wx (bq::bo::bk::gq::bc::g::F1) gr #[u Z 0,u Y 0] 44)∧I (Prv w wx (bq::bo::bk::gq::bc::g::F1) gl #[u Z f,u Z kd,u Z ((l:Int)+1),u C lv,u Z lt1,u Y la1,u Z bt,u Y ba] 79)∧I (Prv w wx (bq::bo::bk::gq::bc::g::F1) gh #[u Z f,u Z kd,u Z ((l:Int)+1),u C lv,u Z ht1,u Y ha1,u Z bt,u Y ba] 79)∧I (EdT (L++L1) f n k (l+1) ⟨lt1,la1⟩ (ta.take (2 ^ k)))∧I (EdT (L++L1) f n k (l+1) ⟨ht1,ha1⟩ (ta.drop (2 ^ k)))∧L1.length≤1)
   case first=>
    go_region_held3 (fun w'=>w'.cell? ⟨bq,1,O⟩=A (M (A ⟨bs,0,O⟩))∧w'.cell? ⟨gj,0,O⟩=A (u Z f)∧w'.cell? ⟨gj,4,O⟩=A (u Z at_)∧w'.cell? ⟨gj,5,O⟩=A (u Y aa)) (go_keep) (first | (go_at_call 303;refine (VW.out _ _ _ at_ aa (ta) (ST.out.mod (S:=[]) (zg) (ze)) LB1.out.1 LB1.out.2 E1.out).mono ?_;rintro e' w2 ⟨lt1,la1,ht1,ha1,L1,F1,rfl,s2,g2,e1,e2,hl2⟩;have G2:=ψ (Φ (F:=F) (show Mod [] wa _ from zg)) g2;have q0:=(G2.mod.cell (a:=⟨bq,1,O⟩) hbol nbo).trans q0;have bj2:=Blk.mod PJ.out.blk G2.mod nj;have bl2:=Blk.mod PL.out.blk G2.mod nl;have bh2:=Blk.mod PH.out.blk G2.mod nh;have q1:=bj2.cell 0;have q2:=bj2.cell 4;have q3:=bj2.cell 5;have r0:=bl2.cell 4;have r1:=bl2.cell 5;have r2:=bh2.cell 4;have r3:=bh2.cell 5;have u0:=bl2.froz 4;have u1:=bl2.froz 5;have u2:=bh2.froz 4;have u3:=bh2.froz 5;simp only [Q,T,R] at q1 q2 q3 r0 r1 r2 r3;have hgl2:=bl2.lt;have hgh2:=bh2.lt;have hgj2:=bj2.lt;have hbo2:=Nat.lt_of_lt_of_le hbol G2.mod.size))
    all_goals (go_wp2_with fail;go_meet)
    all_goals
     refine ⟨lt1,la1,ht1,ha1,L1,F1,rfl,?_⟩;have SG:=SP.out.grown s2 G2;have GC:=(((G2.cons g).cons bc).cons gq).cons bk;have PL2:=PL.out.call2 GC;have PH2:=PH.out.call2 GC;refine ⟨SG.write (S:=[gl,gh]) (zg) (xF) (xG),(PJ.out.call2 GC).mod (S:=[gl,gh]) (zg) (yL),(PR.out.call2 GC).mod (S:=[gl,gh]) (zg) (yM),⟨?_,PL2.no,PL.out.new⟩,⟨?_,PH2.no,PH.out.new⟩,e1,e2,hl2⟩
     ·first
       | exact Blk.eq ((((bl2.set 4 (u Z lt1)).set 5 (u Y la1)).other ⟨gh,4,O⟩ (u Z ht1) hlh).other ⟨gh,5,O⟩ (u Y ha1) hlh) (ze)
       | exact Blk.eq ((((bl2.other ⟨gh,4,O⟩ (u Z ht1) hlh).other ⟨gh,5,O⟩ (u Y ha1) hlh).set 4 (u Z lt1)).set 5 (u Y la1)) (ze)
     ·first
       | exact Blk.eq ((((bh2.other ⟨gl,4,O⟩ (u Z lt1) hhl).other ⟨gl,5,O⟩ (u Y la1) hhl).set 4 (u Z ht1)).set 5 (u Y ha1)) (ze)
       | exact Blk.eq ((((bh2.set 4 (u Z ht1)).set 5 (u Y ha1)).other ⟨gl,4,O⟩ (u Z lt1) hhl).other ⟨gl,5,O⟩ (u Y la1) hhl) (ze)
   case rest=>
    clear SP PJ PR PL PH q0 q1 q2 q3 hbol hgjl nbo nj nl nh d1 d2 d3 d4 ST;obtain ⟨lt1,la1,ht1,ha1,L1,F1,rfl,SP,PJ,PR,PL,PH,EL1,EH1,hl1⟩:=hcut;clear wa;generalize wc=wa at *;have EB:=U (E2.out.grow L1);have LB2:I ((L++L1).length < room∧(L++L1).length≤100000):=⟨qC,qC⟩;have ST:=U SP.out.eng.a.sto;have hbol:=SP.out.eng.ops.lt;have q0:=SP.out.eng.ops.cell 1;have q1:=PJ.out.blk.cell 0;have q2:=PJ.out.blk.cell 6;have q3:=PJ.out.blk.cell 7;simp only [Q,T,R] at q0 q1 q2 q3;have hgjl:=PJ.out.blk.lt;have nbo:bq∉F1:=fun h=>SP.out.eng.no.1 (zn)
    have nj:gj∉F1:=fun h=>PJ.out.no (zn)
    have nl:gl∉F1:=fun h=>PL.out.no (zn)
    have nh:gh∉F1:=fun h=>PH.out.no (zn)
    have d1:¬bq=gl:=fun h=>PL.out.no (zn)
    have d2:¬gl=bq:=fun h=>PL.out.no (zn)
    have d3:¬bq=gh:=fun h=>PH.out.no (zn)
    have d4:¬gh=bq:=fun h=>PH.out.no (zn)
    go_upto_region 8 with fail;go_cut [9] from 48 to 62 (fun p wx=>∃(lt2 la2 ht2 ha2:Nat) (L2:List Rc) (F2:List Nat),p=u Z 0∧I (SpQ w wx bs n room F bo bc g bq bk gq ((L++L1)++L2) F2)∧I (Prv w wx (bq::bo::bk::gq::bc::g::F2) gj #[u Z f,u Z kd,u Z l,u C lv,u Z at_,u Y aa,u Z bt,u Y ba] 79)∧I (Prv w wx (bq::bo::bk::gq::bc::g::F2) gr #[u Z 0,u Y 0] 44)∧I (Prv w wx (bq::bo::bk::gq::bc::g::F2) gl #[u Z f,u Z kd,u Z ((l:Int)+1),u C lv,u Z lt1,u Y la1,u Z lt2,u Y la2] 79)∧I (Prv w wx (bq::bo::bk::gq::bc::g::F2) gh #[u Z f,u Z kd,u Z ((l:Int)+1),u C lv,u Z ht1,u Y ha1,u Z ht2,u Y ha2] 79)∧I (EdT ((L++L1)++L2) f n k (l+1) ⟨lt2,la2⟩ (Θ (2 ^ k) true))∧I (EdT ((L++L1)++L2) f n k (l+1) ⟨ht2,ha2⟩ (Θ (2 ^ k) true))∧L2.length≤1)
    case first=>
     go_region_held3 (fun w'=>w'.cell? ⟨bq,1,O⟩=A (M (A ⟨bs,0,O⟩))∧w'.cell? ⟨gj,0,O⟩=A (u Z f)∧w'.cell? ⟨gj,6,O⟩=A (u Z bt)∧w'.cell? ⟨gj,7,O⟩=A (u Y ba)) (go_keep) (first | (go_at_call 303;refine (VW.out _ _ _ bt ba (Θ (2 ^ (k+1)) true) (ST.out.mod (S:=[]) (zg) (ze)) LB2.out.1 LB2.out.2 EB.out).mono ?_;rintro e' w2 ⟨lt2,la2,ht2,ha2,L2,F2,rfl,s2,g2,e1,e2,hl2⟩;have G2:=ψ (Φ (F:=F1) (show Mod [] wa _ from zg)) g2;have q0:=(G2.mod.cell (a:=⟨bq,1,O⟩) hbol nbo).trans q0;have bj2:=Blk.mod PJ.out.blk G2.mod nj;have bl2:=Blk.mod PL.out.blk G2.mod nl;have bh2:=Blk.mod PH.out.blk G2.mod nh;have q1:=bj2.cell 0;have q2:=bj2.cell 6;have q3:=bj2.cell 7;have r0:=bl2.cell 6;have r1:=bl2.cell 7;have r2:=bh2.cell 6;have r3:=bh2.cell 7;have u0:=bl2.froz 6;have u1:=bl2.froz 7;have u2:=bh2.froz 6;have u3:=bh2.froz 7;simp only [Q,T,R] at q1 q2 q3 r0 r1 r2 r3;have hgl2:=bl2.lt;have hgh2:=bh2.lt;have hgj2:=bj2.lt;have hbo2:=Nat.lt_of_lt_of_le hbol G2.mod.size))
     all_goals (go_wp2_with fail;go_meet)
     all_goals
      refine ⟨lt2,la2,ht2,ha2,L2,F2,rfl,?_⟩;have SG:=SP.out.grown s2 G2;have GC:=(((G2.cons g).cons bc).cons gq).cons bk;have PL2:=PL.out.call2 GC;have PH2:=PH.out.call2 GC;refine ⟨SG.write (S:=[gl,gh]) (zg) (xF) (xG),(PJ.out.call2 GC).mod (S:=[gl,gh]) (zg) (yL),(PR.out.call2 GC).mod (S:=[gl,gh]) (zg) (yM),⟨?_,PL2.no,PL.out.new⟩,⟨?_,PH2.no,PH.out.new⟩,by rw [←(zh5 k true).1];exact e1,by rw [←(zh5 k true).2];exact e2,hl2⟩
      ·first
        | exact Blk.eq ((((bl2.set 6 (u Z lt2)).set 7 (u Y la2)).other ⟨gh,6,O⟩ (u Z ht2) hlh).other ⟨gh,7,O⟩ (u Y ha2) hlh) (ze)
        | exact Blk.eq ((((bl2.other ⟨gh,6,O⟩ (u Z ht2) hlh).other ⟨gh,7,O⟩ (u Y ha2) hlh).set 6 (u Z lt2)).set 7 (u Y la2)) (ze)
      ·first
        | exact Blk.eq ((((bh2.other ⟨gl,6,O⟩ (u Z lt2) hhl).other ⟨gl,7,O⟩ (u Y la2) hhl).set 6 (u Z ht2)).set 7 (u Y ha2)) (ze)
        | exact Blk.eq ((((bh2.set 6 (u Z ht2)).set 7 (u Y ha2)).other ⟨gl,6,O⟩ (u Z lt2) hhl).other ⟨gl,7,O⟩ (u Y la2) hhl) (ze)
    case rest=>
     clear SP PJ PR PL PH q0 q1 q2 q3 hbol hgjl nbo nj nl nh d1 d2 d3 d4 ST;obtain ⟨lt2,la2,ht2,ha2,L2,F2,rfl,SP,PJ,PR,PL,PH,EL2,EH2,hl2⟩:=hcut;clear wa;generalize wc=wa at *;have q1:=PJ.out.blk.cell 1;have q2:=PJ.out.blk.cell 3;simp only [Q,T,R] at q1 q2;have hgjl:=PJ.out.blk.lt;have y2:((kd:Int)==2)=false:=zo;have y3:((kd:Int)==3)=false:=zo;go_upto_region 11 with fail;go_cut [10] from 67 to 72 (fun p wx=>p=.bool (lv.testBit l)∧wx=wa)
     case first=>
      cases hbit:lv.testBit l<;>rw [hbit] at hb16<;>simp only [Γ,if_true,if_false] at hb16<;>(go_wp2_with fail;go_meet;first | exact ⟨rfl,rfl⟩ | simp [hbit])
     case rest=>
      obtain ⟨rfl,hw⟩:=hcut;replace hw:=hw.symm;subst hw;clear hb16;obtain ⟨hh,hhb⟩:∃hh,lv.testBit l=hh:=⟨_,rfl⟩;rw [hhb] at QS ⊢;clear hhb;go_upto_region 12 with fail;go_cut [78] from 73 to 78 (fun p wx=>p=.bool false∧wx=wa)
      case first=>
       exact ZY
      case rest=>
       obtain ⟨rfl,hw⟩:=hcut;replace hw:=hw.symm;subst hw;go_upto_region 14 with fail;go_cut [85] from 80 to 85 (fun p wx=>p=.bool false∧wx=wa)
       case first=>
        exact ZY
       case rest=>
        obtain ⟨rfl,hw⟩:=hcut;replace hw:=hw.symm;subst hw;clear q1 q2 hgjl y2 y3;obtain ⟨q0,q1,q2,q3,q4,q5,q6,q7⟩:=XP PL.out.blk;have hgx:=PL.out.blk.lt
        have LBD3:I (((L++L1)++L2).length+(qc k+4 *2 ^ k)≤100000∧((L++L1)++L2).length+(qc k+4 *2 ^ k)≤room):=by
         show _∧_;have:=LB.out
         repeat rw [J]
         omega
        go_wp2_with fail;refine (DO.out _ ((L++L1)++L2) F2 lt1 la1 lt2 la2 (ta.take (2 ^ k)) (SP.out.eng.mod0 (zg)) LBD3.out.1 LBD3.out.2 (EL1.out.grow L2) EL2.out).mono ?_;rintro e wd ⟨xt,xa,L3,F3,rfl,en,gd,ex,hl3⟩;have Ex:=U ex;have SPn:=U (SP.out.did en gd);have PJn:=U (PJ.out.call2 gd);have PRn:=U (PR.out.call2 gd);have PLn:=U (PL.out.call2 gd);have PHn:=U (PH.out.call2 gd);clear q0 q1 q2 q3 q4 q5 q6 q7 hgx en gd ex SP PJ PR PL PH;obtain ⟨gx,hgx⟩:∃gx,wd.heap.size=gx:=⟨_,rfl⟩;have Mx:I (Mod [] wd (wd.alloc (H #[u Z xt,u Y xa] 44))):=zg;have LTn:=U SPn.out.lt;have PXx:I (Prv w (wd.alloc (H #[u Z xt,u Y xa] 44)) (bq::bo::bk::gq::bc::g::F3) gx #[u Z xt,u Y xa] 44):=⟨Blk.new' _ _ _ _ hgx.symm,fun h=>yX,yY⟩;have SP:=U (SPn.out.write (S:=[]) Mx.out (ze) (ze));have PJ:=U (PJn.out.mod Mx.out (ze));have PR:=U (PRn.out.mod Mx.out (ze));have PL:=U (PLn.out.mod Mx.out (ze));have PH:=U (PHn.out.mod Mx.out (ze));have hjx:¬gj=gx:=yZ;have hrx:¬gr=gx:=xd;have hxxl:¬gl=gx:=qD;have hxxh:¬gh=gx:=qE;clear SPn PJn PRn PLn PHn Mx LTn;go_upto_region 17 with fail;generalize hwx:wd.alloc (H #[u Z xt,u Y xa] 44)=wx at *;clear hwx hgx;obtain ⟨q0,q1,q2,q3,q4,q5,q6,q7⟩:=XP PH.out.blk;have hgx:=PH.out.blk.lt
        have LBD4:I ((((L++L1)++L2)++L3).length+(qc k+4 *2 ^ k)≤100000∧(((L++L1)++L2)++L3).length+(qc k+4 *2 ^ k)≤room):=by
         show _∧_;have:=LB.out
         repeat rw [J]
         omega
        go_wp2_with fail;refine (DO.out _ (((L++L1)++L2)++L3) F3 ht1 ha1 ht2 ha2 (ta.drop (2 ^ k)) (SP.out.eng.mod0 (zg)) LBD4.out.1 LBD4.out.2 ((EH1.out.grow L2).grow L3) (EH2.out.grow L3)).mono ?_;rintro e wd ⟨yt,ya,L4,F4,rfl,en,gd,ex,hl4⟩;have Ey:=U ex;have SPn:=U (SP.out.did en gd);have PJn:=U (PJ.out.call2 gd);have PRn:=U (PR.out.call2 gd);have PLn:=U (PL.out.call2 gd);have PHn:=U (PH.out.call2 gd);have PXn:=U (PXx.out.call2 gd);clear PXx;clear q0 q1 q2 q3 q4 q5 q6 q7 hgx en gd ex SP PJ PR PL PH;obtain ⟨gy,hgy⟩:∃gy,wd.heap.size=gy:=⟨_,rfl⟩;have My:I (Mod [] wd (wd.alloc (H #[u Z yt,u Y ya] 44))):=zg;have LTn:=U SPn.out.lt;have PXy:I (Prv w (wd.alloc (H #[u Z yt,u Y ya] 44)) (bq::bo::bk::gq::bc::g::F4) gy #[u Z yt,u Y ya] 44):=⟨Blk.new' _ _ _ _ hgy.symm,fun h=>yX,yY⟩;have SP:=U (SPn.out.write (S:=[]) My.out (ze) (ze));have PJ:=U (PJn.out.mod My.out (ze));have PR:=U (PRn.out.mod My.out (ze));have PL:=U (PLn.out.mod My.out (ze));have PH:=U (PHn.out.mod My.out (ze));have PXx:=U (PXn.out.mod My.out (ze));have hjy:¬gj=gy:=yZ;have hry:¬gr=gy:=xd;have hxyl:¬gl=gy:=qD;have hxyh:¬gh=gy:=qE;have hxy:¬gx=gy:=by have:=PXn.out.blk.lt;omega
        clear PXn;clear SPn PJn PRn PLn PHn My LTn;go_upto_region 22 with fail;generalize hwz:wd.alloc (H #[u Z yt,u Y ya] 44)=wz at *;clear hwz hgy;have EX:=U (Ex.out.grow L4);have LQx:=U (Ex.out.len);obtain ⟨each,hea⟩:∃each,(kd==1)=each:=⟨_,rfl⟩;rw [hea] at QS EX Ey ⊢;cases hh with
        | false=>
         simp only [Γ,if_false] at QS;have q1:=PJ.out.blk.cell 1;simp only [Q,T,R] at q1;go_upto_region 30 with fail;clear q1;have hbol:=SP.out.eng.ops.lt;have q0:=SP.out.eng.ops.cell 0;have q0s:=SP.out.eng.ops.cell 1;have q1:=PJ.out.blk.cell 0;simp only [Q,T,R] at q0 q0s q1;obtain ⟨q2,q3⟩:=PXx.out.blk.cells2;obtain ⟨q4,q5⟩:=PXy.out.blk.cells2;have hgjl:=PJ.out.blk.lt;have hgxl:=PXx.out.blk.lt;have hgyl:=PXy.out.blk.lt;have ST:=U SP.out.eng.a.sto;have nbo:bq∉F4:=fun h=>SP.out.eng.no.1 (zn)
         have nj:gj∉F4:=fun h=>PJ.out.no (zn)
         have nx:gx∉F4:=fun h=>PXx.out.no (zn)
         have ny:gy∉F4:=fun h=>PXy.out.no (zn)
         have nr:gr∉F4:=fun h=>PR.out.no (zn)
         have d1:¬bq=gr:=fun h=>PR.out.no (zn)
         have d2:¬gr=bq:=fun h=>PR.out.no (zn)
         have d3:¬gj=gr:=JR.out;have d6:¬gr=gj:=fun h=>d3 h.symm
         have d4:¬gx=gr:=fun h=>hrx h.symm
         have d5:¬gy=gr:=fun h=>hry h.symm
         have LB6:I (((((L++L1)++L2)++L3)++L4).length < room∧((((L++L1)++L2)++L3)++L4).length≤100000):=by
          show _∧_;have:=LB.out
          repeat rw [J]
          omega
         refine YW 9 5 #[true,true,true,true,true,true,true,true,true,false,false,false,false,false] (by kernel_rfl) (by kernel_rfl) (by kernel_rfl) ?_;simp only [B,ω]
         repeat still_step
         refine wpStill_nil ?_;refine wpAny_ready (rs:=[9]) (by kernel_rfl) (ze) (E rfl (fun K hK=>?_) D);go_simp;go_wp2_with fail;refine (MK.out _ _ _ xt xa yt ya _ _ (ST.out.mod (S:=[]) (zg) (ze)) LB6.out.1 LB6.out.2 EX.out Ey.out).mono ?_;rintro e' w8 ⟨rt,ra,L6,F6,rfl,s6,g6,e6,hl6⟩;go_wp2_with fail;have G6:=ψ (Φ (F:=F4) (show Mod [] wz wz.drew from zg)) g6;have br:=Blk.mod PR.out.blk G6.mod nr;obtain ⟨r0,r1⟩:=br.cells2;obtain ⟨u0,u1,-⟩:=br.frozs;have hgr8:=br.lt;refine wpAny_take (i:=10) (v:=?v10_1) rfl (by kernel_rfl) (by kernel_rfl) (by kernel_rfl) (fun _ _ _ h=>h) (Ω ⟨zE,?h10_1⟩) ?r10_1
         case h10_1=>(intro w;go_simp;try with_reducible rfl)
         refine wpAny_take (i:=11) (v:=?v11_2) rfl (by kernel_rfl) (by kernel_rfl) (by kernel_rfl) (fun _ _ _ h=>h) (Ω ⟨zE,?h11_2⟩) ?r11_2
         case h11_2=>(intro w;go_simp;try with_reducible rfl)
         refine wpAny_ready (rs:=[12]) (by kernel_rfl) (ze) (E rfl (fun K hK=>?_) D);go_simp;refine hK _ _ ?_;clear hK K;refine wpAny_take (i:=13) (v:=?v13_3) rfl (by kernel_rfl) (by kernel_rfl) (by kernel_rfl) (fun _ _ _ h=>h) (Ω ⟨zE,?h13_3⟩) ?r13_3
         case h13_3=>(intro w;go_simp;try with_reducible rfl)
         refine wpAny_done (by kernel_rfl) ?_ _
         all_goals
          go_wp2_with fail;have SG:=SP.out.grown s6 G6;have GC:=(((G6.cons g).cons bc).cons gq).cons bk;have PR6:=PR.out.call2 GC;have MW:=U (((Mod.refl [gr] w8).setCell ⟨gr,0,O⟩ (u Z rt) (ze)).setCell ⟨gr,1,O⟩ (u Y ra) (ze));have BW:=(br.set 0 (u Z rt)).set 1 (u Y ra);simp only [χ,τ,σ] at BW;obtain ⟨z0,z1⟩:=BW.cells2;have SW:=U (SG.write MW.out (qF) (qG));have E6:=U e6;clear r0 r1 u0 u1 BW q0 q0s q1 q2 q3 q4 q5 e6 s6 G6 g6 br;generalize (w8.setCell ⟨gr,0,O⟩ (u Z rt)).setCell ⟨gr,1,O⟩ (u Y ra)=w9 at *;have eL:(((((L++L1)++L2)++L3)++L4)++L6)=L++(L1++(L2++(L3++(L4++L6)))):=qH;exact ZW
        | true=>
         simp only [if_true] at QS;have hea:=hea;cases each with
         | false=>
          simp only [Γ,if_false,if_true] at QS;obtain rfl:kd=0:=by simp at hea;omega
          clear hea;have q1:=PJ.out.blk.cell 1;simp only [Q,T,R] at q1;have hgjl:=PJ.out.blk.lt;go_upto_region 26 with fail;clear q1 hgjl;have hbol:=SP.out.eng.ops.lt;have q0:=SP.out.eng.ops.cell 0;have q0s:=SP.out.eng.ops.cell 1;have q1:=PJ.out.blk.cell 0;simp only [Q,T,R] at q0 q0s q1;obtain ⟨q2,q3⟩:=PXx.out.blk.cells2;obtain ⟨q4,q5⟩:=PXy.out.blk.cells2;have hgjl:=PJ.out.blk.lt;have hgxl:=PXx.out.blk.lt;have hgyl:=PXy.out.blk.lt;have nbo:bq∉bc::g::F4:=fun h=>SP.out.eng.no.1 (N _ h)
          have nj:gj∉bc::g::F4:=fun h=>PJ.out.no (xh)
          have nx:gx∉bc::g::F4:=fun h=>PXx.out.no (xh)
          have ny:gy∉bc::g::F4:=fun h=>PXy.out.no (xh)
          have d1:¬bq=gx:=fun h=>PXx.out.no (zn)
          have d2:¬gx=bq:=fun h=>PXx.out.no (zn)
          have d3:¬gx=gj:=fun h=>hjx h.symm
          have d4:¬gy=gx:=fun h=>hxy h.symm
          have d5:¬gx=gr:=fun h=>hrx h.symm
          have LB5:I (((((L++L1)++L2)++L3)++L4).length+4 *2 ^ k≤100000∧((((L++L1)++L2)++L3)++L4).length+4 *2 ^ k≤room):=by
           show _∧_;have:=LB.out
           repeat rw [J]
           omega
          have ATX:I (∀W,Mod [] wz W→_):=fun W m=>ATC.out W _ F4 14 xt xa yt ya _ _ (zc) (SP.out.eng.a.mod0 m) LB5.out.1 LB5.out.2 EX.out Ey.out
          rw [V14] at ATX;go_cut [9] from 117 to 131 (fun p wx=>∃(zt za:Nat) (L5:List Rc) (F5:List Nat),p=u Z 0∧I (SpQ w wx bs n room F bo bc g bq bk gq (((((L++L1)++L2)++L3)++L4)++L5) F5)∧I (Prv w wx (bq::bo::bk::gq::bc::g::F5) gj #[u Z f,u Z (0:Nat),u Z l,u C lv,u Z at_,u Y aa,u Z bt,u Y ba] 79)∧I (Prv w wx (bq::bo::bk::gq::bc::g::F5) gr #[u Z 0,u Y 0] 44)∧I (Prv w wx (bq::bo::bk::gq::bc::g::F5) gx #[u Z zt,u Y za] 44)∧I (Prv w wx (bq::bo::bk::gq::bc::g::F5) gy #[u Z yt,u Y ya] 44)∧I (EdT (((((L++L1)++L2)++L3)++L4)++L5) f n k (l+1) ⟨zt,za⟩ (za9 14 (qtT lv false k (l+1) (ta.take (2 ^ k))) (qtT lv false k (l+1) (ta.drop (2 ^ k)))))∧L5.length≤4 *(2 ^ k - 1))
          case first=>
           refine YW 12 6 #[true,true,true,true,true,true,true,true,true,true,true,true,false,false,false,false,false,false] (by kernel_rfl) (by kernel_rfl) (by kernel_rfl) ?_;simp only [B,ω]
           repeat still_step
           refine wpStill_nil ?_;refine wpAny_ready (rs:=[12]) (by kernel_rfl) (ze) (E rfl (fun K hK=>?_) D);go_simp;go_wp2_with fail;refine (ATX.out _ (zg)).mono ?_;rintro e' w2 ⟨zt,za,L5,F5,rfl,en,gd,ez,hl5⟩;go_wp2_with fail;have GD:=ψ (Φ (F:=bc::g::F4) (show Mod [] wz wz.drew from zg)) gd;have bx:=Blk.mod PXx.out.blk GD.mod nx;obtain ⟨q2,q3⟩:=bx.cells2;obtain ⟨u0,u1,-⟩:=bx.frozs;have hgx8:=bx.lt;refine wpAny_take (i:=13) (v:=?v13_4) rfl (by kernel_rfl) (by kernel_rfl) (by kernel_rfl) (fun _ _ _ h=>h) (Ω ⟨zE,?h13_4⟩) ?r13_4
           case h13_4=>(intro w;go_simp;try with_reducible rfl)
           refine wpAny_take (i:=14) (v:=?v14_5) rfl (by kernel_rfl) (by kernel_rfl) (by kernel_rfl) (fun _ _ _ h=>h) (Ω ⟨zE,?h14_5⟩) ?r14_5
           case h14_5=>(intro w;go_simp;try with_reducible rfl)
           refine wpAny_take (i:=15) (v:=?v15_6) rfl (by kernel_rfl) (by kernel_rfl) (by kernel_rfl) (fun _ _ _ h=>h) (Ω ⟨zE,?h15_6⟩) ?r15_6
           case h15_6=>(intro w;go_simp;try with_reducible rfl)
           refine wpAny_ready (rs:=[16]) (by kernel_rfl) (ze) (E rfl (fun K hK=>?_) D);go_simp;refine hK _ _ ?_;clear hK K;refine wpAny_take (i:=17) (v:=?v17_7) rfl (by kernel_rfl) (by kernel_rfl) (by kernel_rfl) (fun _ _ _ h=>h) (Ω ⟨zE,?h17_7⟩) ?r17_7
           case h17_7=>(intro w;go_simp;try with_reducible rfl)
           exact ZV
          case rest=>
           clear SP PJ PR PL PH PXx PXy q0 q0s q1 q2 q3 q4 q5 hbol hgjl hgxl hgyl nbo nj nx ny d1 d2 d3 d5 ATX;obtain ⟨zt,za,L5,F5,rfl,SP,PJ,PR,PXx,PXy,EZ,hl5⟩:=hcut;clear wz;generalize wc=wz at *;obtain ⟨q2,q3⟩:=PXx.out.blk.cells2;obtain ⟨q4,q5⟩:=PXy.out.blk.cells2;obtain ⟨u0,u1,-⟩:=PXy.out.blk.frozs;have hgxl:=PXx.out.blk.lt;have hgyl:=PXy.out.blk.lt;go_upto_region 30 with fail;have MY2:I (Mod [gy] wz ((wz.setCell ⟨gy,0,O⟩ (u Z zt)).setCell ⟨gy,1,O⟩ (u Y za))):=zX;have SPn:=U (SP.out.write MY2.out (we) (wg));have PJn:=U (PJ.out.mod MY2.out (by simpa using hjy));have PRn:=U (PR.out.mod MY2.out (by simpa using hry));have PXn:=U (PXx.out.mod MY2.out (by simpa using hxy));have PYn:I (Prv w ((wz.setCell ⟨gy,0,O⟩ (u Z zt)).setCell ⟨gy,1,O⟩ (u Y za)) (bq::bo::bk::gq::bc::g::F5) gy #[u Z zt,u Y za] 44):=⟨Blk.eq ((PXy.out.blk.set 0 (u Z zt)).set 1 (u Y za)) (ze),PXy.out.no,PXy.out.new⟩;clear q2 q3 q4 q5 u0 u1 hgxl hgyl MY2 d4;generalize (wz.setCell ⟨gy,0,O⟩ (u Z zt)).setCell ⟨gy,1,O⟩ (u Y za)=wy at *;clear SP PJ PR PXx PXy wz;have SP:=SPn;have PJ:=PJn;have PR:=PRn;have PXx:=PXn;have PXy:=PYn;clear SPn PJn PRn PXn PYn;generalize wy=wz at *;have hbol:=SP.out.eng.ops.lt;have q0:=SP.out.eng.ops.cell 0;have q0s:=SP.out.eng.ops.cell 1;have q1:=PJ.out.blk.cell 0;simp only [Q,T,R] at q0 q0s q1;obtain ⟨q2,q3⟩:=PXx.out.blk.cells2;obtain ⟨q4,q5⟩:=PXy.out.blk.cells2;have hgjl:=PJ.out.blk.lt;have hgxl:=PXx.out.blk.lt;have hgyl:=PXy.out.blk.lt;have ST:=U SP.out.eng.a.sto;have nbo:bq∉F5:=fun h=>SP.out.eng.no.1 (zn)
           have nj:gj∉F5:=fun h=>PJ.out.no (zn)
           have nx:gx∉F5:=fun h=>PXx.out.no (zn)
           have ny:gy∉F5:=fun h=>PXy.out.no (zn)
           have nr:gr∉F5:=fun h=>PR.out.no (zn)
           have d1:¬bq=gr:=fun h=>PR.out.no (zn)
           have d2:¬gr=bq:=fun h=>PR.out.no (zn)
           have d3:¬gj=gr:=JR.out;have d6:¬gr=gj:=fun h=>d3 h.symm
           have d4:¬gx=gr:=fun h=>hrx h.symm
           have d5:¬gy=gr:=fun h=>hry h.symm
           have LB6:I ((((((L++L1)++L2)++L3)++L4)++L5).length < room∧(((((L++L1)++L2)++L3)++L4)++L5).length≤100000):=by
            show _∧_;have:=LB.out
            repeat rw [J]
            omega
           refine YW 9 5 #[true,true,true,true,true,true,true,true,true,false,false,false,false,false] (by kernel_rfl) (by kernel_rfl) (by kernel_rfl) ?_;simp only [B,ω]
           repeat still_step
           refine wpStill_nil ?_;refine wpAny_ready (rs:=[9]) (by kernel_rfl) (ze) (E rfl (fun K hK=>?_) D);go_simp;go_wp2_with fail;refine (MK.out _ _ _ zt za zt za _ _ (ST.out.mod (S:=[]) (zg) (ze)) LB6.out.1 LB6.out.2 EZ.out EZ.out).mono ?_;rintro e' w8 ⟨rt,ra,L6,F6,rfl,s6,g6,e6,hl6⟩;go_wp2_with fail;have G6:=ψ (Φ (F:=F5) (show Mod [] wz wz.drew from zg)) g6;have br:=Blk.mod PR.out.blk G6.mod nr;obtain ⟨r0,r1⟩:=br.cells2;obtain ⟨u0,u1,-⟩:=br.frozs;have hgr8:=br.lt;refine wpAny_take (i:=10) (v:=?v10_8) rfl (by kernel_rfl) (by kernel_rfl) (by kernel_rfl) (fun _ _ _ h=>h) (Ω ⟨zE,?h10_8⟩) ?r10_8
           case h10_8=>(intro w;go_simp;try with_reducible rfl)
           refine wpAny_take (i:=11) (v:=?v11_9) rfl (by kernel_rfl) (by kernel_rfl) (by kernel_rfl) (fun _ _ _ h=>h) (Ω ⟨zE,?h11_9⟩) ?r11_9
           case h11_9=>(intro w;go_simp;try with_reducible rfl)
           refine wpAny_ready (rs:=[12]) (by kernel_rfl) (ze) (E rfl (fun K hK=>?_) D);go_simp;refine hK _ _ ?_;clear hK K;refine wpAny_take (i:=13) (v:=?v13_10) rfl (by kernel_rfl) (by kernel_rfl) (by kernel_rfl) (fun _ _ _ h=>h) (Ω ⟨zE,?h13_10⟩) ?r13_10
           case h13_10=>(intro w;go_simp;try with_reducible rfl)
           exact ZU
         | true=>
          simp only [Γ,if_false,if_true] at QS;obtain rfl:kd=1:=by simp at hea;omega
          clear hea;have q1:=PJ.out.blk.cell 1;simp only [Q,T,R] at q1;have hgjl:=PJ.out.blk.lt;go_upto_region 26 with fail;clear q1 hgjl;have hbol:=SP.out.eng.ops.lt;have q0:=SP.out.eng.ops.cell 0;have q0s:=SP.out.eng.ops.cell 1;have q1:=PJ.out.blk.cell 0;simp only [Q,T,R] at q0 q0s q1;obtain ⟨q2,q3⟩:=PXx.out.blk.cells2;obtain ⟨q4,q5⟩:=PXy.out.blk.cells2;have hgjl:=PJ.out.blk.lt;have hgxl:=PXx.out.blk.lt;have hgyl:=PXy.out.blk.lt;have nbo:bq∉bc::g::F4:=fun h=>SP.out.eng.no.1 (N _ h)
          have nj:gj∉bc::g::F4:=fun h=>PJ.out.no (xh)
          have nx:gx∉bc::g::F4:=fun h=>PXx.out.no (xh)
          have ny:gy∉bc::g::F4:=fun h=>PXy.out.no (xh)
          have d1:¬bq=gx:=fun h=>PXx.out.no (zn)
          have d2:¬gx=bq:=fun h=>PXx.out.no (zn)
          have d3:¬gx=gj:=fun h=>hjx h.symm
          have d4:¬gy=gx:=fun h=>hxy h.symm
          have d5:¬gx=gr:=fun h=>hrx h.symm
          have LB5:I (((((L++L1)++L2)++L3)++L4).length+4 *2 ^ k≤100000∧((((L++L1)++L2)++L3)++L4).length+4 *2 ^ k≤room):=by
           show _∧_;have:=LB.out
           repeat rw [J]
           omega
          have ATX:I (∀W,Mod [] wz W→_):=fun W m=>ATC.out W _ F4 8 xt xa yt ya _ _ (zc) (SP.out.eng.a.mod0 m) LB5.out.1 LB5.out.2 EX.out Ey.out
          rw [V8] at ATX;go_cut [9] from 117 to 131 (fun p wx=>∃(zt za:Nat) (L5:List Rc) (F5:List Nat),p=u Z 0∧I (SpQ w wx bs n room F bo bc g bq bk gq (((((L++L1)++L2)++L3)++L4)++L5) F5)∧I (Prv w wx (bq::bo::bk::gq::bc::g::F5) gj #[u Z f,u Z (1:Nat),u Z l,u C lv,u Z at_,u Y aa,u Z bt,u Y ba] 79)∧I (Prv w wx (bq::bo::bk::gq::bc::g::F5) gr #[u Z 0,u Y 0] 44)∧I (Prv w wx (bq::bo::bk::gq::bc::g::F5) gx #[u Z zt,u Y za] 44)∧I (Prv w wx (bq::bo::bk::gq::bc::g::F5) gy #[u Z yt,u Y ya] 44)∧I (EdT (((((L++L1)++L2)++L3)++L4)++L5) f n k (l+1) ⟨zt,za⟩ (za9 8 (qtT lv true k (l+1) (ta.take (2 ^ k))) (qtT lv true k (l+1) (ta.drop (2 ^ k)))))∧L5.length≤4 *(2 ^ k - 1))
          case first=>
           refine YW 12 6 #[true,true,true,true,true,true,true,true,true,true,true,true,false,false,false,false,false,false] (by kernel_rfl) (by kernel_rfl) (by kernel_rfl) ?_;simp only [B,ω]
           repeat still_step
           refine wpStill_nil ?_;refine wpAny_ready (rs:=[12]) (by kernel_rfl) (ze) (E rfl (fun K hK=>?_) D);go_simp;go_wp2_with fail;refine (ATX.out _ (zg)).mono ?_;rintro e' w2 ⟨zt,za,L5,F5,rfl,en,gd,ez,hl5⟩;go_wp2_with fail;have GD:=ψ (Φ (F:=bc::g::F4) (show Mod [] wz wz.drew from zg)) gd;have bx:=Blk.mod PXx.out.blk GD.mod nx;obtain ⟨q2,q3⟩:=bx.cells2;obtain ⟨u0,u1,-⟩:=bx.frozs;have hgx8:=bx.lt;refine wpAny_take (i:=13) (v:=?v13_11) rfl (by kernel_rfl) (by kernel_rfl) (by kernel_rfl) (fun _ _ _ h=>h) (Ω ⟨zE,?h13_11⟩) ?r13_11
           case h13_11=>(intro w;go_simp;try with_reducible rfl)
           refine wpAny_take (i:=14) (v:=?v14_12) rfl (by kernel_rfl) (by kernel_rfl) (by kernel_rfl) (fun _ _ _ h=>h) (Ω ⟨zE,?h14_12⟩) ?r14_12
           case h14_12=>(intro w;go_simp;try with_reducible rfl)
           refine wpAny_take (i:=15) (v:=?v15_13) rfl (by kernel_rfl) (by kernel_rfl) (by kernel_rfl) (fun _ _ _ h=>h) (Ω ⟨zE,?h15_13⟩) ?r15_13
           case h15_13=>(intro w;go_simp;try with_reducible rfl)
           refine wpAny_ready (rs:=[16]) (by kernel_rfl) (ze) (E rfl (fun K hK=>?_) D);go_simp;refine hK _ _ ?_;clear hK K;refine wpAny_take (i:=17) (v:=?v17_14) rfl (by kernel_rfl) (by kernel_rfl) (by kernel_rfl) (fun _ _ _ h=>h) (Ω ⟨zE,?h17_14⟩) ?r17_14
           case h17_14=>(intro w;go_simp;try with_reducible rfl)
           exact ZV
          case rest=>
           clear SP PJ PR PL PH PXx PXy q0 q0s q1 q2 q3 q4 q5 hbol hgjl hgxl hgyl nbo nj nx ny d1 d2 d3 d5 ATX;obtain ⟨zt,za,L5,F5,rfl,SP,PJ,PR,PXx,PXy,EZ,hl5⟩:=hcut;clear wz;generalize wc=wz at *;obtain ⟨q2,q3⟩:=PXx.out.blk.cells2;obtain ⟨q4,q5⟩:=PXy.out.blk.cells2;obtain ⟨u0,u1,-⟩:=PXy.out.blk.frozs;have hgxl:=PXx.out.blk.lt;have hgyl:=PXy.out.blk.lt;go_upto_region 30 with fail;have MY2:I (Mod [gy] wz ((wz.setCell ⟨gy,0,O⟩ (u Z zt)).setCell ⟨gy,1,O⟩ (u Y za))):=zX;have SPn:=U (SP.out.write MY2.out (we) (wg));have PJn:=U (PJ.out.mod MY2.out (by simpa using hjy));have PRn:=U (PR.out.mod MY2.out (by simpa using hry));have PXn:=U (PXx.out.mod MY2.out (by simpa using hxy));have PYn:I (Prv w ((wz.setCell ⟨gy,0,O⟩ (u Z zt)).setCell ⟨gy,1,O⟩ (u Y za)) (bq::bo::bk::gq::bc::g::F5) gy #[u Z zt,u Y za] 44):=⟨Blk.eq ((PXy.out.blk.set 0 (u Z zt)).set 1 (u Y za)) (ze),PXy.out.no,PXy.out.new⟩;clear q2 q3 q4 q5 u0 u1 hgxl hgyl MY2 d4;generalize (wz.setCell ⟨gy,0,O⟩ (u Z zt)).setCell ⟨gy,1,O⟩ (u Y za)=wy at *;clear SP PJ PR PXx PXy wz;have SP:=SPn;have PJ:=PJn;have PR:=PRn;have PXx:=PXn;have PXy:=PYn;clear SPn PJn PRn PXn PYn;generalize wy=wz at *;have hbol:=SP.out.eng.ops.lt;have q0:=SP.out.eng.ops.cell 0;have q0s:=SP.out.eng.ops.cell 1;have q1:=PJ.out.blk.cell 0;simp only [Q,T,R] at q0 q0s q1;obtain ⟨q2,q3⟩:=PXx.out.blk.cells2;obtain ⟨q4,q5⟩:=PXy.out.blk.cells2;have hgjl:=PJ.out.blk.lt;have hgxl:=PXx.out.blk.lt;have hgyl:=PXy.out.blk.lt;have ST:=U SP.out.eng.a.sto;have nbo:bq∉F5:=fun h=>SP.out.eng.no.1 (zn)
           have nj:gj∉F5:=fun h=>PJ.out.no (zn)
           have nx:gx∉F5:=fun h=>PXx.out.no (zn)
           have ny:gy∉F5:=fun h=>PXy.out.no (zn)
           have nr:gr∉F5:=fun h=>PR.out.no (zn)
           have d1:¬bq=gr:=fun h=>PR.out.no (zn)
           have d2:¬gr=bq:=fun h=>PR.out.no (zn)
           have d3:¬gj=gr:=JR.out;have d6:¬gr=gj:=fun h=>d3 h.symm
           have d4:¬gx=gr:=fun h=>hrx h.symm
           have d5:¬gy=gr:=fun h=>hry h.symm
           have LB6:I ((((((L++L1)++L2)++L3)++L4)++L5).length < room∧(((((L++L1)++L2)++L3)++L4)++L5).length≤100000):=by
            show _∧_;have:=LB.out
            repeat rw [J]
            omega
           refine YW 9 5 #[true,true,true,true,true,true,true,true,true,false,false,false,false,false] (by kernel_rfl) (by kernel_rfl) (by kernel_rfl) ?_;simp only [B,ω]
           repeat still_step
           refine wpStill_nil ?_;refine wpAny_ready (rs:=[9]) (by kernel_rfl) (ze) (E rfl (fun K hK=>?_) D);go_simp;go_wp2_with fail;refine (MK.out _ _ _ zt za zt za _ _ (ST.out.mod (S:=[]) (zg) (ze)) LB6.out.1 LB6.out.2 EZ.out EZ.out).mono ?_;rintro e' w8 ⟨rt,ra,L6,F6,rfl,s6,g6,e6,hl6⟩;go_wp2_with fail;have G6:=ψ (Φ (F:=F5) (show Mod [] wz wz.drew from zg)) g6;have br:=Blk.mod PR.out.blk G6.mod nr;obtain ⟨r0,r1⟩:=br.cells2;obtain ⟨u0,u1,-⟩:=br.frozs;have hgr8:=br.lt;refine wpAny_take (i:=10) (v:=?v10_15) rfl (by kernel_rfl) (by kernel_rfl) (by kernel_rfl) (fun _ _ _ h=>h) (Ω ⟨zE,?h10_15⟩) ?r10_15
           case h10_15=>(intro w;go_simp;try with_reducible rfl)
           refine wpAny_take (i:=11) (v:=?v11_16) rfl (by kernel_rfl) (by kernel_rfl) (by kernel_rfl) (fun _ _ _ h=>h) (Ω ⟨zE,?h11_16⟩) ?r11_16
           case h11_16=>(intro w;go_simp;try with_reducible rfl)
           refine wpAny_ready (rs:=[12]) (by kernel_rfl) (ze) (E rfl (fun K hK=>?_) D);go_simp;refine hK _ _ ?_;clear hK K;refine wpAny_take (i:=13) (v:=?v13_17) rfl (by kernel_rfl) (by kernel_rfl) (by kernel_rfl) (fun _ _ _ h=>h) (Ω ⟨zE,?h13_17⟩) ?r13_17
           case h13_17=>(intro w;go_simp;try with_reducible rfl)
           exact ZU
end Go.Proofs.YtbnpoapmnkfhkaaGreatDoor
