/- Mq40: Args -/
import Derived.Test.YtlafpknoiihaaaaGreatDoorMq01
import Derived.ProofKit
import Derived.OpenShut
import Derived.Deep.Slices
import Derived.Deep.Fields
import Derived.ChangeSame
set_option linter.unusedVariables false
set_option linter.unusedSimpArgs false
namespace Go.Proofs.YtlafpknoiihaaaaGreatDoor
open Go.ChangeShapes Go.WideShapes Go.RowKit Go.Deep
theorem addr_plain {w:World} {a:Addr} {v:Value} (h:w.cell? a=some v):a=⟨a.block,a.off,none⟩∧a.block < w.heap.size:=by
 have hb:=World.block_lt_of_cell? w a h
 unfold World.cell? at h
 obtain ⟨b,o,sp⟩:=a
 split at h
 ·cases sp with
  | none=>exact ⟨rfl,hb⟩
  | some _=>simp at h
 ·simp at h
theorem Recs.of_open {w:World} {a:Addr} {len cap:Nat} {ks:List IntKind} (hne:0 < ks.length) (hl:len≤cap) (h:∀i,i < len→∀j k,ks[j]? =some k→∃n,w.cell? (a.add (i *ks.length+j))=some (.int k n)∧(Lit.int k n).wf=true):
 ∃z,Recs w (some a) len cap ks z:=by
 classical
 let z:Nat→Nat→Int:=fun i j=>if hi:∃n k,w.cell? (a.add (i *ks.length+j))=some (.int k n) then Classical.choose hi else 0
 have hz:∀i j k n,w.cell? (a.add (i *ks.length+j))=some (.int k n)→z i j=n:=by
  intro i j k n hc
  have hi:∃n k,w.cell? (a.add (i *ks.length+j))=some (.int k n):=⟨n,k,hc⟩
  have h1:z i j=Classical.choose hi:=dif_pos hi
  obtain ⟨k',hk'⟩:=Classical.choose_spec hi
  have h2:=hk'.symm.trans hc
  simp at h2
  rw [h1];exact h2.2
 refine ⟨z,hl,fun i hi=>?_⟩
 obtain ⟨n0,hc0,_⟩:=h 0 (by omega) 0 ks[0] (by simp)
 have e0:a.add (0 *ks.length+0)=a:=by unfold Addr.add;simp
 rw [e0] at hc0
 obtain ⟨ha,hb⟩:=addr_plain hc0
 refine ⟨a.block,a.off,by rw [←ha],hb,fun j k hk=>?_⟩
 obtain ⟨n,hc,hwf⟩:=h i hi j k hk
 rw [hz i j k n hc]
 refine ⟨?_,hwf⟩
 rw [←hc,ha,Go.WideShapes.add_plain,Nat.add_assoc]
theorem IntRow.of_open {w:World} {a:Addr} {len cap:Nat} {k:IntKind} {zs:List Int} (hl:len≤cap) (hz:zs.length=cap) (hcell:∀i,i < zs.length→w.cell? (a.add i)=some (.int k (zs.getD i 0))) (hwf:∀n∈zs,(Lit.int k n).wf=true):
 ∃z,IntRow k w (some a) len cap z:=by
 refine ⟨fun i=>zs.getD i 0,hl,fun i hi=>?_⟩
 have hc0:=hcell 0 (by omega)
 have e0:a.add 0=a:=by unfold Addr.add;simp
 rw [e0] at hc0
 obtain ⟨ha,hb⟩:=addr_plain hc0
 refine ⟨a.block,a.off,by rw [←ha],hb,?_,hwf _ ?_⟩
 ·rw [←hcell i (by omega),ha,Go.WideShapes.add_plain]
 ·have e:zs.getD i 0=zs[i]'(by omega):=by simp [List.getD,List.getElem?_eq_getElem (show i < zs.length by omega)]
  show zs.getD i 0∈zs
  rw [e];exact List.getElem_mem _
section
variable {H:Type} {enc:TypeId × Value→H} {P:Program} {w:World} {base:Nat} {spare:Nat→Bool} {held:Bool}
end
end Go.Proofs.YtlafpknoiihaaaaGreatDoor
