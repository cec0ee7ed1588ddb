/- Mq37: Bp · Bq -/
import Derived.Test.YtlafpknoiihaaaaGreatDoorMq01
import Derived.Lib.Builder
import Derived.Lib.AppendStr
import Derived.Lib.UnsafeStr
import Derived.Laws.Externs
set_option maxHeartbeats 2000000
set_option maxRecDepth 100000
set_option linter.unusedVariables false
set_option linter.unusedSimpArgs false
namespace Go.Proofs.YtlafpknoiihaaaaGreatDoor
open Go.RowKit
theorem run_append_str {P:Program} (w:World) (t u ty e:TypeId) (i:TypeInfo) (ht:P.underlying t=some (.slice e)) (hu:P.underlying u=some .string) (hi:P.info? e=some i) (hz:i.zero=some (.int .u8 0))
 (hsize:i.size=1) (hby:i.bytes=1) (v:Value) (n:Nat) (xs:List Value) (F:List Nat) (hown:Sl w e 1 v n xs F) (s:ByteArray) (hs:0 < s.size) (h63:n+s.size≤maxLen) (hbytes:n+s.size≤140737488355328):
 ∃v' w' F',(Builtin.append_ #[t,u] ty #[v,.string s]).run P w=.ok v' w'∧Sl w' e 1 v' (n+s.size) (xs++Lib.strCells s) F'∧Mod F w w'∧(∀k∈F',k∈F∨w.heap.size≤k):=by
 have hxl:xs.length=n:=by simpa using hown.1
 have hlen:(xs++Lib.strCells s).length=(n+s.size) *1:=by rw [List.length_append,hxl,Lib.strCells_length,Nat.mul_one]
 rcases hown.2 with ⟨rfl,rfl,rfl⟩ | ⟨g,cap,cur,rfl,rfl,hg,hnc,hcm,hcs,htake⟩
 ·obtain ⟨v',w',hr,h2,h3,h4⟩:=Lib.run_append_own_string (P:=P) w w.heap.size t u ty e i ht hu hi hz hsize hby _ 0 xs ⟨hown.1,.inl ⟨rfl,rfl⟩⟩ s h63 hbytes (Nat.le_refl _)
  rcases h2.2 with ⟨hv,hn⟩ | ⟨g,cap,cur,hv,hb,hg,r⟩
  ·omega
  ·refine ⟨v',w',[g],hr,⟨h2.1,.inr ⟨g,cap,cur,hv,rfl,hg,r⟩⟩,(Mod.refl _ _).grown h3 (fun k hk=>by simp [Value.ownBlock] at hk),fun k hk=>?_⟩
   simp at hk;subst hk;exact .inr hb
 ·have hcs':cur.size=cap:=by simpa using hcs
  by_cases hroom:n+s.size≤cap
  ·have hr:=Lib.run_append_room_string (P:=P) w t u ty e i ht hu hi hsize g n cap cur hg s hroom (by omega)
   refine ⟨_,_,[g],hr,⟨hlen,.inr ⟨g,cap,_,rfl,rfl,setRow_heap w g cur _ e _ hg,hroom,hcm,?_,?_⟩⟩,(Mod.refl _ _).grown (row:=some g) ⟨rfl,rfl,rfl,by simp,fun k _ hk=>setRow_other w g k _ (fun e=>hk (by simp [e]))⟩ (fun k hk _=>by simp at hk;simp [hk]),fun k hk=>.inl hk⟩
   ·simp only [List.size_toArray,List.length_append,List.length_take,List.length_drop,Array.length_toList,Lib.strCells_length]
    omega
   ·have ht':cur.toList.take n=xs:=by simpa using htake
    rw [ht',←hlen]
    exact List.take_left
  ·have holds:∀j u,xs[j]? =some u→w.cell? ((⟨g,0,none⟩:Addr).add j)=some u:=hown.own.cells (g:=g) rfl
   have hsmall:n+s.size≤9223372036854775807:=by simp only [maxLen] at h63;omega
   have hr:=Lib.run_append_grow_string (P:=P) w t u ty e i (.int .u8 0) ht hu hi hz ⟨g,0,none⟩ n cap xs (by rw [hsize];simpa using hxl) holds s (by omega) (by omega) (by rw [hby];exact growslice_fits (by omega) (by omega))
   refine ⟨_,_,[w.heap.size],hr,⟨hlen,.inr ⟨w.heap.size,_,_,rfl,rfl,heap_alloc_new w.drew _,grownCap_ge w (n+s.size) cap e,grownCap_le_maxLen w (n+s.size) cap e h63,?_,?_⟩⟩,((Mod.refl _ _).drew).alloc _,fun k hk=>by simp at hk;subst hk;exact .inr (Nat.le_refl _)⟩
   ·have hge:=grownCap_ge w (n+s.size) cap e
    have hz1:(Value.int IntKind.u8 0).cells.size=1:=rfl
    simp only [Array.size_append,List.size_toArray,size_zeroCells,hz1,hxl,Lib.strCells_length]
    omega
   ·simp only [Array.toList_append,List.append_assoc]
    rw [←List.append_assoc,←hlen]
    exact List.take_left
theorem wpList_append_str {P:Program} (w:World) {ops:Array Oper} {rest:List Oper} {o:Oper} {a:Act} {Q:Exit→Act→World→Prop} (hgd:o.guard=none) (sl x:Operand) (t u:TypeId)
 (ho:o.op=.call { callee:=.builtin .append,args:=#[sl,x],argTypes:=#[t,u] })
 (e:TypeId) (i:TypeInfo) (ht:P.underlying t=some (.slice e)) (hu:P.underlying u=some .string) (hi:P.info? e=some i) (hz:i.zero=some (.int .u8 0))
 (hsize:i.size=1) (hby:i.bytes=1) (v:Value) (n:Nat) (xs:List Value) (F:List Nat) (hs:a.eval sl=v) (hown:Sl w e 1 v n xs F) (s:ByteArray) (hx:a.eval x=.string s) (h0:0 < s.size)
 (h63:n+s.size≤maxLen) (hbytes:n+s.size≤140737488355328)
 (h:∀v' w' F',Sl w' e 1 v' (n+s.size) (xs++Lib.strCells s) F'→Mod F w w'→(∀k∈F',k∈F∨w.heap.size≤k)→wpList P ops Q rest (a.put o.dst v') w'):wpList P ops Q (o::rest) a w:=by
 refine wpList_plain hgd fun K hK=>?_
 obtain ⟨v',w',F',hr,h2,h3,h4⟩:=run_append_str (P:=P) w t u o.type e i ht hu hi hz hsize hby v n xs F hown s h0 h63 hbytes
 unfold Oper.wp execOp
 simp only [ho,resolve,invoke,builtin,Sem.run_bind,Sem.run_pure,Result.andThen_ok,List.map_toArray,List.map_cons,List.map_nil,hs,hx,hr]
 exact hK _ _ (h v' w' F' h2 h3 h4)
theorem Tryz.sizeBu:(Tryz.prog.info? 98).map (fun i=>i.size)=some 2:=by kernel_rfl
theorem Tryz.liesBu:liesAt Tryz.prog Tryz.prog.depth 100 (3 / Tryz.prog.cellsOf 100) 0 98 1=true:=by kernel_rfl
theorem Tryz.infoY:(Tryz.prog.info? 5).map (fun i=>(i.zero,i.size,i.bytes))=some (some (.int .u8 0),1,1):=by kernel_rfl
theorem copyUsed_c (b:Nat) (w:World) (h0:w.cell? ⟨b,0,none⟩=some (.pointer (some ⟨b,0,none⟩))):
 Calls Tryz.prog 126 #[.pointer (some ⟨b,0,none⟩)] w fun e w'=>e=.returned (.tuple #[])∧w'=w:=by
 obtain ⟨j,hj,_⟩:=Option.map_eq_some_iff.1 Tryz.sizeBu
 have same:=Lib.run_neq_ptr_same w ⟨b,0,none⟩ Tryz.underlying95 hj
 go_enter Tryz.func126,Tryz.ntmps126
 go_wp2_with fail
 go_end0
 exact ⟨rfl,rfl⟩
theorem copyFresh_c (b:Nat) (w:World) (h0:w.cell? ⟨b,0,none⟩=some (.pointer none)) (hsh:w.shape? b=some (100,3)) (hfz:w.frozen? ⟨b,0,none⟩=false):
 Calls Tryz.prog 126 #[.pointer (some ⟨b,0,none⟩)] w fun e w'=>e=.returned (.tuple #[])∧w'=w.setCell ⟨b,0,none⟩ (.pointer (some ⟨b,0,none⟩)):=by
 obtain ⟨j,hj,hjs⟩:=Option.map_eq_some_iff.1 Tryz.sizeBu
 have there:=Lib.run_to_unsafe w ⟨b,0,none⟩ Tryz.underlying95 Tryz.underlying242 hj (by rw [hjs];decide) hsh (by show 0 < 3;omega)
 have back:=Lib.run_from_unsafe w ⟨b,0,none⟩ Tryz.underlying242 Tryz.underlying95 hj hsh Tryz.liesBu
 have through:(callFunc 146 #[.pointer (some ⟨b,0,none⟩)]).run Tryz.prog w=.ok (.value (.pointer (some ⟨b,0,none⟩))) w:=by
  rw [run_callFunc_extern Tryz.func146 (by kernel_rfl) (by kernel_rfl) (by kernel_rfl) (e:=Extern.AbiNoEscape.same) (by kernel_rfl),Lib.run_noEscape]
  rfl
 have HH:=Lib.hid hsh
 clear hj hjs hsh
 go_enter Tryz.func126,Tryz.ntmps126
 go_wp2
 go_end0
 exact ⟨rfl,rfl⟩
def Pg (w:World) (b:Nat) (g:Bool) (bs:List Value) (F:List Nat):Prop:=
 ∃p v,((p=.pointer none∨p=.pointer (some ⟨b,0,none⟩))∧∃l,bs=Lib.byteCells l)∧Blk w b #[p,v,.bool g] 100∧Sl w 5 1 v bs.length bs F∧b∉F
def PgTo (w:World) (b:Nat) (F:List Nat) (g:Bool) (lo hi:Nat) (w':World):Prop:=
 ∃bs' F',Pg w' b g bs' F'∧lo≤bs'.length∧bs'.length≤hi∧Mod (b::F) w w'∧∀k∈F',k∈F∨w.heap.size≤k
theorem Pg.mod {w w':World} {b:Nat} {g:Bool} {bs:List Value} {F S:List Nat} (h:Pg w b g bs F) (m:Mod S w w') (hS:∀k∈b::F,k∉S):Pg w' b g bs F:=by
 obtain ⟨p,v,h1,h2,h3,h4⟩:=h
 exact ⟨p,v,h1,h2.mod m (hS b (by simp)),h3.mod m (fun k hk=>hS k (by simp [hk])),h4⟩
theorem Pg.lt {w:World} {b:Nat} {g:Bool} {bs:List Value} {F:List Nat} (h:Pg w b g bs F):∀k∈b::F,k < w.heap.size:=by
 obtain ⟨p,v,h1,h2,h3,h4⟩:=h
 intro k hk
 rcases List.mem_cons.1 hk with rfl | hk
 ·exact h2.lt
 ·exact h3.lt k hk
theorem Pg.begun {w:World} {b:Nat} {g:Bool} {bs:List Value} {F:List Nat} (h:Pg w b g bs F):w.cell? ⟨b,2,none⟩=some (.bool g)∧w.frozen? ⟨b,2,none⟩=false:=by
 obtain ⟨p,v,h1,h2,h3,h4⟩:=h
 exact ⟨by rw [h2.cell];rfl,h2.froz 2⟩
theorem Pg.set {w:World} {b:Nat} {g:Bool} {bs:List Value} {F:List Nat} (h:Pg w b g bs F) (g':Bool):Pg (w.setCell ⟨b,2,none⟩ (.bool g')) b g' bs F:=by
 obtain ⟨p,v,h1,h2,h3,h4⟩:=h
 exact ⟨p,v,h1,h2.set 2 _,h3.mod ((Mod.refl [b] w).setCell _ _ (by simp)) (fun k hk=>by simp;rintro rfl;exact h4 hk),h4⟩
theorem PgTo.refl {w:World} {b:Nat} {g:Bool} {bs:List Value} {F:List Nat} (h:Pg w b g bs F):PgTo w b F g bs.length bs.length w:=⟨bs,F,h,Nat.le_refl _,Nat.le_refl _,Mod.refl _ _,fun k hk=>.inl hk⟩
theorem PgTo.le {w w':World} {b:Nat} {g:Bool} {F:List Nat} {lo hi lo' hi':Nat} (h:PgTo w b F g lo hi w') (h1:lo'≤lo) (h2:hi≤hi'):PgTo w b F g lo' hi' w':=by
 obtain ⟨bs,F',a,c,d,e⟩:=h
 exact ⟨bs,F',a,by omega,by omega,e⟩
theorem PgTo.trans {w0 w w':World} {b:Nat} {g:Bool} {F F1:List Nat} {lo hi:Nat} (m:Mod (b::F) w0 w) (hf:∀k∈F1,k∈F∨w0.heap.size≤k) (h:PgTo w b F1 g lo hi w'):PgTo w0 b F g lo hi w':=by
 obtain ⟨bs,F',a,c,d,e,f⟩:=h
 refine ⟨bs,F',a,c,d,m.trans e ?_,?_⟩
 ·intro i hi hm
  rcases List.mem_cons.1 hm with rfl | hm
  ·simp
  ·rcases hf i hm with h | h
   ·simp [h]
   ·omega
 ·intro k hk
  rcases f k hk with h | h
  ·exact hf k h
  ·exact .inr (Nat.le_trans m.size h)
theorem PgTo.later {w w1 w2:World} {b:Nat} {g:Bool} {F:List Nat} {lo hi:Nat} (h:PgTo w b F g lo hi w1) (m:Mod [] w1 w2):PgTo w b F g lo hi w2:=by
 obtain ⟨bs,F',a,c,d,e,f⟩:=h
 exact ⟨bs,F',a.mod m (by simp),c,d,e.trans m (by simp),f⟩
theorem PgTo.set {w w1:World} {b:Nat} {g:Bool} {F:List Nat} {lo hi:Nat} (h:PgTo w b F g lo hi w1) (g':Bool):PgTo w b F g' lo hi (w1.setCell ⟨b,2,none⟩ (.bool g')):=by
 obtain ⟨bs,F',a,c,d,e,f⟩:=h
 exact ⟨bs,F',a.set g',c,d,e.setCell _ _ (by simp),f⟩
theorem copy_c {w:World} {b:Nat} {g:Bool} {bs:List Value} {F:List Nat} (h:Pg w b g bs F):
 Calls Tryz.prog 126 #[.pointer (some ⟨b,0,none⟩)] w fun e w'=>e=.returned (.tuple #[])∧(∃v,Blk w' b #[.pointer (some ⟨b,0,none⟩),v,.bool g] 100∧Sl w' 5 1 v bs.length bs F)∧Mod [b] w w'∧w'.heap.size=w.heap.size:=by
 obtain ⟨p,v,h1,h2,h3,h4⟩:=h
 rcases h1 with ⟨rfl | rfl,-⟩
 ·refine (copyFresh_c b w (by rw [h2.cell];rfl) (by have:=h2;unfold Blk at this;simp [World.shape?,this]) (h2.froz 0)).mono ?_
  rintro e w' ⟨rfl,rfl⟩
  exact ⟨rfl,⟨v,h2.set 0 _,h3.mod ((Mod.refl [b] w).setCell _ _ (by simp)) (fun k hk=>by simp;rintro rfl;exact h4 hk)⟩,(Mod.refl [b] w).setCell _ _ (by simp),by simp⟩
 ·refine (copyUsed_c b w (by rw [h2.cell];rfl)).mono ?_
  rintro e w' ⟨rfl,rfl⟩
  exact ⟨rfl,⟨v,h2,h3⟩,Mod.refl _ _,rfl⟩
theorem writeByte_c {w:World} {b:Nat} {g:Bool} {bs:List Value} {F:List Nat} (h:Pg w b g bs F) (c:Nat) (hc:c < 256) (hl:bs.length≤1000000):
 Calls Tryz.prog 101 #[.pointer (some ⟨b,0,none⟩),.int .u8 c] w fun e w'=>e=.returned .nilIface∧PgTo w b F g (bs.length+1) (bs.length+1) w':=by
 obtain ⟨i0,hi,hz0,hz1,hz2⟩:=info_parts Tryz.infoY
 have HBL:Hid (∃l,bs++[Value.int .u8 (c:Int)]=Lib.byteCells l):=by
  obtain ⟨p,v,⟨-,l,rfl⟩,-⟩:=h
  refine ⟨l++[UInt8.ofNat c],?_⟩
  rw [Lib.byteCells_append]
  unfold Lib.byteCells
  simp only [List.map_cons,List.map_nil]
  rw [UInt8.toNat_ofNat',Nat.mod_eq_of_lt hc]
 clear hc
 have hbF:b∉F:=by obtain ⟨p,v,h1,h2,h3,h4⟩:=h;exact h4
 have CC:=Lib.hid (copy_c h)
 have HLT:=Lib.hid h.lt
 clear h
 go_enter Tryz.func101,Tryz.ntmps101
 go_wp2_with fail
 refine CC.out.mono ?_
 rintro e w1 ⟨rfl,⟨v,hb,hs⟩,hm,hsz⟩
 have c1:w1.cell? ⟨b,1,none⟩=some v:=by rw [hb.cell];rfl
 have HB:=Lib.hid hb
 have HS:=Lib.hid hs
 have HM:=Lib.hid hm
 have HZ:=Lib.hid hsz
 obtain ⟨A,cap,rfl,hcap⟩:=hs.shape
 have HF:=Lib.hid hbF
 have hlt:=hb.lt
 clear hb hs hm hsz hcap hbF
 obtain ⟨n,hn⟩:∃n,bs.length=n:=⟨_,rfl⟩
 have HN:=Lib.hid hn
 rw [hn] at hl HS c1 HB
 try rw [hn]
 clear hn
 go_wp2_with (at_builtin;refine wpList_append_sl _ rfl _ _ 96 rfl 5 i0 (.int .u8 0) 1 1 Tryz.underlying96 hi hz0 hz1 hz2 rfl (by decide) _ n bs F rfl (HS.out.mod (S:=[]) (by exact mods) (by simp)) ⟨_,0,none⟩ 1 1 [.int .u8 c] (by decide) rfl rfl (by intro j u hu;exact list_new_at _ _ _ _ (by simp) j u hu) (by intro u hu;simp at hu;subst hu;rfl) (by unfold maxLen;omega) (by omega) ?_;intro v5 w5 F5 hs5 hm5 hf5;have hm6:=Lib.hid (Mod.trans (S:=F) (Mod.alloc (Mod.refl _ w1) _) hm5 (fun i _ hm=>hm));have HB5:=Lib.hid (HB.out.mod hm6.out HF.out);have d1:w5.frozen? ⟨b,1,none⟩=false:=HB5.out.froz 1;have d2:w5.cell? ⟨b,1,none⟩=some (.slice A n cap):=(by rw [HB5.out.cell];rfl);obtain ⟨A5,cap5,rfl,_⟩:=hs5.shape;have S5:=Lib.hid hs5;have F5':=Lib.hid hf5;clear hs5 hf5 hm5)
 go_ret
 refine ⟨rfl,bs++[.int .u8 c],F5,⟨_,_,⟨.inr rfl,HBL.out⟩,HB5.out.set 1 _,?_,?_⟩,by simp [HN.out],by simp [HN.out],?_,?_⟩
 ·have e:(bs++[Value.int .u8 c]).length=n+1:=by simp [HN.out]
  rw [e]
  refine S5.out.mod ((Mod.refl [b] _).setCell _ _ (by simp)) fun k hk=>?_
  simp
  rintro rfl
  rcases F5'.out k hk with h | h
  ·exact HF.out h
  ·simp at h;omega
 ·intro hk
  rcases F5'.out b hk with h | h
  ·exact HF.out h
  ·simp at h;omega
 ·refine Mod.setCell ?_ _ _ (by simp)
  refine Mod.trans (S:=b::F) (Mod.mono HM.out (by intro k _ h;simp at h;simp [h])) hm6.out ?_
  intro i _ h;simp [h]
 ·intro k hk
  rcases F5'.out k hk with h | h
  ·exact .inl h
  ·right
   have:=HZ.out
   simp at h;omega
theorem writeString_c {w:World} {b:Nat} {g:Bool} {bs:List Value} {F:List Nat} (h:Pg w b g bs F) (s:ByteArray) (hs0:0 < s.size) (hs1:s.size≤100) (hl:bs.length≤1000000):
 Calls Tryz.prog 102 #[.pointer (some ⟨b,0,none⟩),.string s] w fun e w'=>(∃r,e=.returned (.tuple #[r,.nilIface]))∧PgTo w b F g (bs.length+s.size) (bs.length+s.size) w':=by
 obtain ⟨i0,hi,hz0,hz1,hz2⟩:=info_parts Tryz.infoY
 have HBL:Hid (∃l,bs++Lib.strCells s=Lib.byteCells l):=by
  obtain ⟨p,v,⟨-,l,rfl⟩,-⟩:=h
  exact ⟨l++s.data.toList,by rw [Lib.byteCells_append,Lib.strCells_eq]⟩
 have hbF:b∉F:=by obtain ⟨p,v,h1,h2,h3,h4⟩:=h;exact h4
 have CC:=Lib.hid (copy_c h)
 clear h
 go_enter Tryz.func102,Tryz.ntmps102
 go_wp2_with fail
 refine CC.out.mono ?_
 rintro e w1 ⟨rfl,⟨v,hb,hs⟩,hm,hsz⟩
 have c1:w1.cell? ⟨b,1,none⟩=some v:=by rw [hb.cell];rfl
 have HB:=Lib.hid hb
 have HS:=Lib.hid hs
 have HM:=Lib.hid hm
 have HZ:=Lib.hid hsz
 obtain ⟨A,cap,rfl,hcap⟩:=hs.shape
 have HF:=Lib.hid hbF
 have hlt:=hb.lt
 clear hb hs hm hsz hcap hbF
 obtain ⟨n,hn⟩:∃n,bs.length=n:=⟨_,rfl⟩
 have HN:=Lib.hid hn
 rw [hn] at hl HS c1 HB
 try rw [hn]
 clear hn
 go_wp2_with (at_builtin;refine wpList_append_str _ rfl _ _ 96 9 rfl 5 i0 Tryz.underlying96 Tryz.underlying9 hi hz0 hz1 hz2 _ n bs F rfl (HS.out.mod (S:=[]) (by exact mods) (by simp)) s rfl hs0 (by unfold maxLen;omega) (by omega) ?_;intro v5 w5 F5 hs5 hm5 hf5;have hm6:=Lib.hid hm5;have HB5:=Lib.hid (HB.out.mod hm6.out HF.out);have d1:w5.frozen? ⟨b,1,none⟩=false:=HB5.out.froz 1;have d2:w5.cell? ⟨b,1,none⟩=some (.slice A n cap):=(by rw [HB5.out.cell];rfl);obtain ⟨A5,cap5,rfl,_⟩:=hs5.shape;have S5:=Lib.hid hs5;have F5':=Lib.hid hf5;clear hs5 hf5 hm5)
 go_ret2
 have e:(bs++Lib.strCells s).length=n+s.size:=by rw [List.length_append,HN.out,Lib.strCells_length]
 refine ⟨⟨_,rfl⟩,bs++Lib.strCells s,F5,⟨_,_,⟨.inr rfl,HBL.out⟩,HB5.out.set 1 _,?_,?_⟩,by rw [e];have:=HN.out;omega,by rw [e];have:=HN.out;omega,?_,?_⟩
 ·rw [e]
  refine S5.out.mod ((Mod.refl [b] _).setCell _ _ (by simp)) fun k hk=>?_
  simp
  rintro rfl
  rcases F5'.out k hk with h | h
  ·exact HF.out h
  ·omega
 ·intro hk
  rcases F5'.out b hk with h | h
  ·exact HF.out h
  ·omega
 ·refine Mod.setCell ?_ _ _ (by simp)
  refine Mod.trans (S:=b::F) (Mod.mono HM.out (by intro k _ h;simp at h;simp [h])) hm6.out ?_
  intro i _ h;simp [h]
 ·intro k hk
  rcases F5'.out k hk with h | h
  ·exact .inl h
  ·right
   have:=HZ.out
   omega
open Go.RowKit
theorem small_c (i:Nat) (hi:i < 10) (w:World):Calls Tryz.prog 166 #[.int .i64 i] w fun e w'=>(∃s:ByteArray,e=.returned (.string s)∧s.size=1)∧w'=w:=by
 obtain rfl | rfl | rfl | rfl | rfl | rfl | rfl | rfl | rfl | rfl:i=0∨i=1∨i=2∨i=3∨i=4∨i=5∨i=6∨i=7∨i=8∨i=9:=by omega
 all_goals
  go_enter Tryz.func166,Tryz.ntmps166
  go_wp2
  go_ret
  exact ⟨⟨_,rfl,by decide⟩,rfl⟩
theorem fmtSmall_c (i:Nat) (hi:i < 10) (w:World):Calls Tryz.prog 147 #[.int .i64 i,.int .i64 10] w fun e w'=>(∃s:ByteArray,e=.returned (.string s)∧s.size=1)∧w'=w:=by
 have SM:=Lib.hid (small_c i hi)
 have h0:(0:Int)≤i:=by omega
 have h1:(i:Int) < 100:=by omega
 go_enter Tryz.func147,Tryz.ntmps147
 go_wp2_with fail
 refine (SM.out _).mono ?_
 rintro e w' ⟨⟨s,rfl,hs⟩,rfl⟩
 have HS:=Lib.hid hs
 clear hs
 go_wp2_with fail
 go_ret
 exact ⟨⟨_,rfl,HS.out⟩,rfl⟩
theorem itoaIn_c (i:Nat) (hi:i < 10) (w:World):Calls Tryz.prog 127 #[.int .i64 i] w fun e w'=>(∃s:ByteArray,e=.returned (.string s)∧s.size=1)∧w'=w:=by
 have SM:=Lib.hid (fmtSmall_c i hi)
 go_enter Tryz.func127,Tryz.ntmps127
 go_wp2_with fail
 refine (SM.out _).mono ?_
 rintro e w' ⟨⟨s,rfl,hs⟩,rfl⟩
 have HS:=Lib.hid hs
 clear hs
 go_wp2_with fail
 go_ret
 exact ⟨⟨_,rfl,HS.out⟩,rfl⟩
theorem itoa_c (i:Nat) (hi:i < 10) (w:World):Calls Tryz.prog 103 #[.int .i64 i] w fun e w'=>(∃s:ByteArray,e=.returned (.string s)∧s.size=1)∧w'=w:=by
 have SM:=Lib.hid (itoaIn_c i hi)
 go_enter Tryz.func103,Tryz.ntmps103
 go_wp2_with fail
 refine (SM.out _).mono ?_
 rintro e w' ⟨⟨s,rfl,hs⟩,rfl⟩
 have HS:=Lib.hid hs
 clear hs
 go_wp2_with fail
 go_ret
 exact ⟨⟨_,rfl,HS.out⟩,rfl⟩
theorem pgWord_c {w:World} {b:Nat} {g:Bool} {bs:List Value} {F:List Nat} (h:Pg w b g bs F) (s:ByteArray) (hs0:0 < s.size) (hs1:s.size≤100) (hl:bs.length≤900000):
 Calls Tryz.prog 72 #[.pointer (some ⟨b,0,none⟩),.string s] w fun e w'=>e=.returned (.tuple #[])∧PgTo w b F true (bs.length+s.size) (bs.length+1+s.size) w':=by
 have WS:Hid (∀(W:World) (bs':List Value) (F':List Nat),Pg W b g bs' F'→bs'.length≤1000000→_):=fun W bs' F' h hl=>writeString_c h s hs0 hs1 hl
 have c2:=h.begun.1
 obtain ⟨gs,hgs⟩:∃gs,s.size=gs:=⟨_,rfl⟩
 rw [hgs]
 rw [hgs] at WS
 clear hgs hs0 hs1
 cases g with
 | true=>
  have WB:=Lib.hid (writeByte_c h 32 (by omega) (by omega))
  clear h
  go_enter Tryz.func72,Tryz.ntmps72
  go_wp2_with fail
  refine WB.out.mono ?_
  rintro e w1 ⟨rfl,bs1,F1,p1,l1,h1,m1,f1⟩
  have e1:bs1.length=bs.length+1:=by omega
  have P1:=Lib.hid p1
  have M1:=Lib.hid m1
  have FF1:=Lib.hid f1
  have E1:=Lib.hid e1
  clear p1 l1 h1 m1 f1 e1
  go_wp2_with fail
  refine (WS.out _ _ _ P1.out (by have:=E1.out;omega)).mono ?_
  rintro e w2 ⟨⟨r,rfl⟩,⟨bs2,F2,p2,l2,h2,m2,f2⟩⟩
  have PT:=Lib.hid (PgTo.trans M1.out FF1.out ⟨bs2,F2,p2,l2,h2,m2,f2⟩)
  obtain ⟨d1,d2⟩:=p2.begun
  clear p2 l2 h2 m2 f2
  go_wp2_with fail
  go_end0
  exact ⟨rfl,(PT.out.set true).le (by have:=E1.out;omega) (by have:=E1.out;omega)⟩
 | false=>
  have HP:=Lib.hid h
  clear h
  go_enter Tryz.func72,Tryz.ntmps72
  go_wp2_with fail
  refine (WS.out _ _ _ HP.out (by omega)).mono ?_
  rintro e w2 ⟨⟨r,rfl⟩,⟨bs2,F2,p2,l2,h2,m2,f2⟩⟩
  have PT:=Lib.hid (show PgTo w b F false _ _ w2 from ⟨bs2,F2,p2,l2,h2,m2,f2⟩)
  obtain ⟨d1,d2⟩:=p2.begun
  clear p2 l2 h2 m2 f2
  go_wp2_with fail
  go_end0
  exact ⟨rfl,(PT.out.set true).le (by omega) (by omega)⟩
theorem num_c2 {w:World} {b:Nat} {g:Bool} {bs:List Value} {F:List Nat} (h:Pg w b g bs F) (n:Nat) (hn:n < 10) (hl:bs.length≤900000):
 Calls Tryz.prog 73 #[.pointer (some ⟨b,0,none⟩),.int .i64 n] w fun e w'=>e=.returned (.tuple #[])∧PgTo w b F true (bs.length+1) (bs.length+2) w':=by
 have IT:=Lib.hid (itoa_c n hn)
 have WD:Hid (∀s:ByteArray,s.size=1→_):=fun s hs=>pgWord_c h s (by omega) (by omega) hl
 clear h
 go_enter Tryz.func73,Tryz.ntmps73
 go_wp2_with fail
 refine (IT.out _).mono ?_
 rintro e w1 ⟨⟨s,rfl,hs⟩,rfl⟩
 have HS:=Lib.hid hs
 clear hs
 go_wp2_with fail
 refine (WD.out s HS.out).mono ?_
 rintro e w2 ⟨rfl,pt⟩
 have PT:=Lib.hid pt
 clear pt
 go_wp2_with fail
 go_end0
 exact ⟨rfl,PT.out.le (by have:=HS.out;omega) (by have:=HS.out;omega)⟩
theorem end_c {w:World} {b:Nat} {g:Bool} {bs:List Value} {F:List Nat} (h:Pg w b g bs F) (hl:bs.length≤900000):
 Calls Tryz.prog 76 #[.pointer (some ⟨b,0,none⟩)] w fun e w'=>e=.returned (.tuple #[])∧PgTo w b F false (bs.length+1) (bs.length+1) w':=by
 have WB:=Lib.hid (writeByte_c h 10 (by omega) (by omega))
 clear h
 go_enter Tryz.func76,Tryz.ntmps76
 go_wp2_with fail
 refine WB.out.mono ?_
 rintro e w1 ⟨rfl,bs1,F1,p1,l1,h1,m1,f1⟩
 have PT:=Lib.hid (show PgTo w b F g _ _ w1 from ⟨bs1,F1,p1,l1,h1,m1,f1⟩)
 obtain ⟨d1,d2⟩:=p1.begun
 clear p1 l1 h1 m1 f1
 go_wp2_with fail
 go_end0
 exact ⟨rfl,PT.out.set false⟩
theorem name_c (f:Nat) (h1:1≤f) (h5:f≤5) (w:World):Calls Tryz.prog 110 #[.int .u8 f] w fun e w'=>(∃s:ByteArray,e=.returned (.string s)∧3≤s.size∧s.size≤4)∧w'=w:=by
 obtain rfl | rfl | rfl | rfl | rfl:f=1∨f=2∨f=3∨f=4∨f=5:=by omega
 all_goals
  go_enter Tryz.func110,Tryz.ntmps110
  go_wp2
  go_ret
  exact ⟨⟨_,rfl,by decide,by decide⟩,rfl⟩
end Go.Proofs.YtlafpknoiihaaaaGreatDoor
