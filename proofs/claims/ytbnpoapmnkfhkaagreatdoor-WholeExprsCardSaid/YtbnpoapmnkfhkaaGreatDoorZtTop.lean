import Derived.Test.YtbnpoapmnkfhkaaGreatDoorZt52
import Derived.Test.YtbnpoapmnkfhkaaGreatDoorZt53
import Derived.WalkKit
import Derived.ProofKit
import Derived.OpenShut
import Derived.Carry
import Derived.Deep.Slices
import Derived.Deep.Fields
import Derived.ChangeSame
import Derived.LaidMore
import Derived.Lay
import Derived.SevenTiedAt
import Derived.Stop.Joined
import Derived.Test.YtbnpoapmnkfhkaaGreatDoorCards
import Derived.Test.YtbnpoapmnkfhkaaGreatDoorTie
set_option maxRecDepth 100000
set_option maxHeartbeats 20000000
set_option linter.unusedVariables false
set_option linter.unusedSimpArgs false
open Go.Proofs.Tryz renaming prog → y, f3 → r, checked → o, underlying22 → n, underlying9 → g, params3 → d, func3 → b
open Go.DataW renaming trod_lt → s
namespace Go.Proofs.YtbnpoapmnkfhkaaGreatDoor.wholeExprs
open Go.ChangeShapes Go.WideShapes Go.ChangeAt Go.RowKit Go.Deep
open Go.WideMaps Go.WideElems
open Go.ChangeMaps (setBlock shut_map_nil open_string shut_string keptBut_setBlock frozen?_setBlock heap_setBlock_same)
theorem own:ownKnob Tryz.prog.godebug=none:=by kernel_rfl
theorem zq6:laidOutB y=true:=by kernel_rfl
def zr9:List (String × DataW Unit):=Rows.wholeExprsRow.laid
theorem yE3 (os:Os) (started:os.Started) (H:Type) (enc:TypeId × Value→H):
 ReturnsInHanded {} o os 3 .any (fun w args=>(Rows.wholeExprsSpec.pre enc y r Rows.wholeExprsRow.domain false w args∧laidMetH y zr9 w)∧sizedMet enc y r (OpenSpec.ofChange Rows.wholeExprsSpec) false w args)
  (Rows.wholeExprsSpec.post enc y r false true false false):=by
 refine returnsInHanded_of_change_and (C:=o) (X:=fun w _=>laidMetH y zr9 w) (fun _ _ _ hh h=>h.of_heap hh) own started (by kernel_rfl) b
  (ChangeSpec.witness_shaped (enc:=enc) (C:=o) (os:=os) (X:=fun w _=>laidMetH y zr9 w) false (World.laidAll y os zr9) #[.string ByteArray.empty,.string ByteArray.empty,.slice none 0 0,.int .u8 0] 8 (World.laidAll_os _ _ _)
   (World.shaped_of_ZipB (by kernel_rfl) (by kernel_rfl)) (by kernel_rfl) (by kernel_rfl) (by kernel_rfl)
   (by rw [MakeChecks.laidMetH_plain _ _ _ (by kernel_rfl)];exact laidMet_laidAll _ (by kernel_rfl) (by kernel_rfl))) ?_
 intro W base args ds gs before hval0 hW hcnd _ hLaid _;have hval:∀(j:Nat) t v,Tryz.f3.params[j]? =some t→args[j]? =some v→Value.okWide y W .any base t v:=hval0;have hW':=hW;obtain ⟨p,q,hA0,hV,rfl,hfz,hnd⟩:=hW;have hA:DataW.TrodAll enc y W 0 (fun _=>true) true Tryz.f3.params.toList args.toList ds p:=hA0;rw [d] at hA hval;obtain ⟨v0,vs0,d0,ds0,p0,q0,hargs,rfl,rfl,h0,r0⟩:=trodAll_cons hA;obtain ⟨v1,vs1,d1,ds1,p1,q1,rfl,rfl,rfl,h1,r1⟩:=trodAll_cons r0;obtain ⟨v2,vs2,d2,ds2,p2,q2,rfl,rfl,rfl,h2,r2⟩:=trodAll_cons r1;obtain ⟨v3,vs3,d3,ds3,p3,q3,rfl,rfl,rfl,h3,r3⟩:=trodAll_cons r2;obtain ⟨rfl,rfl,rfl⟩:=trodAll_nil r3;obtain rfl:args=#[v0,v1,v2,v3]:=by cases args;simp_all
 obtain ⟨rfl,rfl⟩:=trodVars_none hV;have k0:=h0;have lt0:∀x∈p0,x.block < W.heap.size:=by obtain ⟨m,hm⟩:=k0;exact s m _ _ _ hm
 obtain ⟨a0,rfl,rfl,rfl,w0⟩:=open_string g (hval 0 9 v0 rfl rfl) h0;have k1:=h1;have lt1:∀x∈p1,x.block < W.heap.size:=by obtain ⟨m,hm⟩:=k1;exact s m _ _ _ hm
 obtain ⟨a1,rfl,rfl,rfl,w1⟩:=open_string g (hval 1 9 v1 rfl rfl) h1;have k2:=h2;have lt2:∀x∈p2,x.block < W.heap.size:=by obtain ⟨m,hm⟩:=k2;exact s m _ _ _ hm
 obtain ⟨a2,len2,cap2,rfl⟩:=okWide_slice n (hval 2 22 v2 rfl rfl)
 obtain ⟨z2,w2,m2⟩:∃zs,IntRow .i64 W a2 len2 cap2 zs∧cap2≤maxLen:=by
  obtain ⟨fuel,hf⟩:=h2;rcases open_ints n Tryz.underlying3 (by kernel_rfl) hf with ⟨hcs,_⟩ | ⟨x,l,c,zs,hcs,_,hl,hm,hz,_,hcell,hwz⟩
  ·simp [Value.cells] at hcs;obtain ⟨rfl,rfl,rfl⟩:=hcs;exact ⟨fun _=>0,⟨zc,fun i hi=>absurd hi (Nat.not_lt_zero _)⟩,Nat.zero_le _⟩
  ·simp [Value.cells] at hcs;obtain ⟨rfl,rfl,rfl⟩:=hcs;obtain ⟨z,hz⟩:=IntRow.of_open hl (by simpa using hz) hcell hwz;exact ⟨z,hz,hm⟩
 have k3:=h3;have lt3:∀x∈p3,x.block < W.heap.size:=by obtain ⟨m,hm⟩:=k3;exact s m _ _ _ hm
 obtain ⟨a3,rfl,rfl,rfl,w3⟩:=open_int Tryz.underlying5 (hval 3 5 v3 rfl rfl) h3;clear hA0 hval0;refine (zl9 W a0 w0 a1 w1 a2 len2 cap2 z2 w2 m2 a3 w3).mono fun e W' ⟨he,hmod⟩=>?_
 have bel:Below W.heap.size W W':=hmod.below _ (Nat.le_refl _) (fun k hk=>by cases hk);subst he;exact ⟨_,rfl,_,_,_,[],_,[],hW',trodAll_mk1 (shut_bool Tryz.underlying4 _),(trodAll_cons_mk (Below.trod zq6 (by kernel_rfl) (of_decide_eq_true (by kernel_rfl)) k0 bel lt0) (trodAll_cons_mk (Below.trod zq6 (by kernel_rfl) (of_decide_eq_true (by kernel_rfl)) k1 bel lt1) (trodAll_cons_mk (Below.trod zq6 (by kernel_rfl) (of_decide_eq_true (by kernel_rfl)) k2 bel lt2) (trodAll_cons_mk (Below.trod zq6 (by kernel_rfl) (of_decide_eq_true (by kernel_rfl)) k3 bel lt3) trodAll_mk0)))),rfl,bel.frame _,fun h=>zU⟩
theorem closed:joinedFacts y 3 r Rows.wholeExprsSpec Rows.wholeExprsRow=true:=by
 simp only [joinedFacts,Bool.and_eq_true]
 repeat' apply And.intro
 all_goals as_aux_lemma=>kernel_rfl
theorem over:Rows.wholeExprsRow.holds Tryz.pinned (OpenSpec.ofChange Rows.wholeExprsSpec):=
 OpenClaim.holds_of_wide 3 r rfl rfl rfl rfl rfl rfl rfl ⟨rfl,rfl,rfl,rfl,rfl⟩ rfl rfl rfl rfl rfl (by kernel_rfl) b closed
  (of_decide_eq_true (by kernel_rfl)) (by unfold Func.isWrapper;first | (rw [if_pos (zL)];kernel_rfl) | (rw [if_neg (zL)];exact ⟨rfl,rfl⟩))
  (fun os started H enc _=>yE3 os started H enc)
theorem card:Rows.WholeExprsCardSaid:=
 Claim7.holds_tied_plain_at .later [] [.data,.data,.data,.sentinel,.sentinel] true (true,"706cbb6f4da8602aeda4b53b0f6416a81972e10fbcc9814e872b12aaa41345d9") true over (fun _ h=>zU) (by kernel_rfl) (fun _ h=>zU) wholeExprs_row_tie rfl ⟨rfl,rfl⟩ (by kernel_rfl) rfl
  (fun f fn hf hfn=>by
   obtain rfl:f=3:=Option.some.inj ((show Tryz.prog.funcNamed "ramage/ramagetop.WholeExprs"=some 3 by kernel_rfl).symm.trans hf) |>.symm;obtain rfl:fn=r:=(Option.some.inj (Tryz.func3.symm.trans hfn)).symm
   exact ⟨by kernel_rfl,fun j t ht=>by
    rw [d] at ht;have hm:t∈[9,9,22,5]:=by simpa using Array.mem_of_getElem? ht
    have hall:([9,9,22,5].all fun u=> !Tryz.prog.wantsStandIn u)=true:=by kernel_rfl
    exact (show Tryz.prog.wantsStandIn t=false by simpa using List.all_eq_true.1 hall t hm)⟩)
  (by kernel_rfl)
end Go.Proofs.YtbnpoapmnkfhkaaGreatDoor.wholeExprs
namespace Go.Proofs.YtbnpoapmnkfhkaaGreatDoor
theorem wholeExprs_holds:Rows.WholeExprsCardSaid:=wholeExprs.card
end Go.Proofs.YtbnpoapmnkfhkaaGreatDoor
#print axioms Go.Proofs.YtbnpoapmnkfhkaaGreatDoor.wholeExprs_holds
