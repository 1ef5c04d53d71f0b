/- A world that holds the listed tables: the witness of law 21's rows; what stands in the variables. -/
import Derived.Test.YtpoigihfeehehaaGreatDoorM31
import Derived.Test.YtpoigihfeehehaaGreatDoorRows
import Derived.Shelf.Vars
import Derived.Lib.LaidIn
import Derived.Lib.LaidCaseMet
import Derived.PinnedBridge
import Derived.Deep.DeepWitnessRowRef
set_option linter.all false
set_option maxRecDepth 100000
set_option maxHeartbeats 32000000
namespace Go.Proofs.YtpoigihfeehehaaGreatDoor
open Go.RowKit Go.Lib Go.Shelf
abbrev A18:List (String×DataW Unit):=[("unicode/utf8.acceptRanges",Rows.laid_unicode_utf8_acceptRanges),("unicode/utf8.first",Rows.laid_unicode_utf8_first)]
noncomputable def Fc (os:Os):World:=
 let w0:=World.holding Tryz.prog os ⟨#[],#[],[]⟩
 let put (h:Array Obj) (g:Nat) (cs:Array Value):Array Obj:=h.modify g fun
  | .cells _ t frozen=>.cells cs t frozen
  |o=>o
 let h3:=put w0.heap 2 ((List.range 16).flatMap fun i=>[Value.int .u8 (Lib.accLo i),Value.int .u8 (Lib.accHi i)]).toArray
 let h4:=put h3 1 (Lib.firstTab.map fun z=>Value.int .u8 z).toArray
 { w0 with heap:=h4 }
theorem Axg (os:Os)(args:Array Value):LaidIn Tryz.prog ((Fc os).forCall (fun _ _=>0) ⟨#[],args,[]⟩).memory [("unicode/utf8.acceptRanges",Rows.laid_unicode_utf8_acceptRanges)] [2]:=
 LaidIn.of_run _ 8 (by kernel_rfl) (by kernel_rfl) (by kernel_rfl) (by kernel_rfl)
theorem Axh (os:Os)(args:Array Value):LaidIn Tryz.prog ((Fc os).forCall (fun _ _=>0) ⟨#[],args,[]⟩).memory [("unicode/utf8.first",Lib.firstData)] [1]:=
 LaidIn.of_run _ 8 (by kernel_rfl) (by kernel_rfl) (by kernel_rfl) (by kernel_rfl)
theorem Am6 (os:Os)(args:Array Value):laidMet Tryz.prog A18 ((Fc os).forCall (fun _ _=>0) ⟨#[],args,[]⟩).memory:=by
 have hB:LaidIn Tryz.prog ((Fc os).forCall (fun _ _=>0) ⟨#[],args,[]⟩).memory [("unicode/utf8.first",Rows.laid_unicode_utf8_first)] [1]:=by
  unfold Rows.laid_unicode_utf8_first;rw[Pinned.utf8First_eq];exact Axh os args
 exact ((Axg os args).append hB (by kernel_rfl)).met
theorem Ae6 {W:World}(hsh:W.ShapedOpen Tryz.prog):Ail W:=by
 intro x hx
 rcases List.mem_append.1 hx with hx|hx
 ·cases hx
 ·simp only[List.mem_singleton]at hx
  subst hx
  obtain⟨zero,t,h0,hz,hb,hc,hu⟩:∃ zero t,((begin Tryz.prog (fun _ _=>0) default).world.heap[0]?).bind Obj.row? =some (zero,t)∧zero.size=1∧Tryz.prog.buildable t=true∧Tryz.prog.cellTypes Tryz.prog.depth t=some [t]∧Tryz.prog.underlying t=some (.int .i64):=⟨#[.int .i64 0],3,by kernel_rfl,rfl,by kernel_rfl,by kernel_rfl,by kernel_rfl⟩
  obtain⟨cs,hh,hs,_⟩:=hsh.1 _ zero t (of_decide_eq_true (by kernel_rfl)) h0
  obtain⟨m,hm⟩:=cell_of_shapedOpen_int hsh (of_decide_eq_true (by kernel_rfl)) h0 hz hb hc hu
  refine⟨cs,t,hh,m,?_⟩
  rw[cell_of_row _ _ _ _ _ _ hh]at hm
  apply Array.ext_getElem?
  intro i
  rcases i with _|i
  ·rw[hm];rfl
  ·rw[Array.getElem?_eq_none (by omega)];rfl
end Go.Proofs.YtpoigihfeehehaaGreatDoor
