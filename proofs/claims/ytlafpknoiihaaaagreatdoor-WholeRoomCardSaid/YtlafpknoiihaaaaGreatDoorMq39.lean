/- Mq39: Jm -/
import Derived.Test.YtlafpknoiihaaaaGreatDoorMq30
import Derived.Test.YtlafpknoiihaaaaGreatDoorMq38
set_option linter.unusedVariables false
set_option linter.unusedSimpArgs false
namespace Go.Proofs.YtlafpknoiihaaaaGreatDoor
open Go.RowKit
theorem wholeRoom_walk (w:World) (n:Int) (wn:(Lit.int .i64 n).wf=true) (o:Int) (wo:(Lit.int .i64 o).wf=true) (f:Int) (wf:(Lit.int .u8 f).wf=true) (a:Int) (wa:(Lit.int .u64 a).wf=true) (b:Int) (wb:(Lit.int .u64 b).wf=true)
 (a0:Option Addr) (len0 cap0:Nat) (z0:Nat→Int) (w0:IntRow .u64 w a0 len0 cap0 z0) (m0:cap0≤maxLen):
 Calls Tryz.prog 3 #[.int .i64 n,.int .i64 o,.int .u8 f,.int .u64 a,.int .u64 b,.slice a0 len0 cap0] w fun e w'=>e=.returned (.bool true)∧Mod [] w w':=by
 have h1:IntKind.u64.min=0:=rfl
 have h2:IntKind.u64.max=18446744073709551615:=rfl
 have h3:IntKind.u8.min=0:=rfl
 have h4:IntKind.u8.max=255:=rfl
 obtain ⟨x,rfl,hx⟩:∃z:Nat,a=(z:Int)∧z < B64:=by
  simp [Lit.wf,h1,h2] at wa
  exact ⟨a.toNat,by omega,by unfold B64;omega⟩
 obtain ⟨y,rfl,hy⟩:∃z:Nat,b=(z:Int)∧z < B64:=by
  simp [Lit.wf,h1,h2] at wb
  exact ⟨b.toNat,by omega,by unfold B64;omega⟩
 obtain ⟨g,rfl,hg⟩:∃g:Nat,f=(g:Int)∧g < 256:=by
  simp [Lit.wf,h3,h4] at wf
  exact ⟨f.toNat,by omega,by omega⟩
 exact room_c alive_c w0 n o g x y hg hx hy
end Go.Proofs.YtlafpknoiihaaaaGreatDoor
