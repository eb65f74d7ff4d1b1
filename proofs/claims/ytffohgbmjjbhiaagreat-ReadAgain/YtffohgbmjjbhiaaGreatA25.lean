/- A part of the proof. -/
import Derived.Test.YtffohgbmjjbhiaaGreatA24
import Derived.WalkKit
import Derived.ProofKit
import Derived.OpenShut
import Derived.ShutString
import Derived.ChangeOld
import Derived.Below
set_option linter.all false
section
namespace Go.Proofs.YtffohgbmjjbhiaaGreat
open Go.ChangeShapes Go.WideShapes Go.ChangeAt Go.RowKit Go.Proofs.Z
theorem Tryz.own:ownKnob Tryz.prog.godebug=none:=by kernel_rfl
theorem Tryz.laidOut:laidOutB Tryz.prog=true:=by kernel_rfl
theorem told {f:Nat}{args:List AV}{G:Heap}(he:E pgF f args []=some (.ret (.p (.b true)),G)){w:World}{vargs:List Value}(hr:RL (mW w) (fun _=>none) (inf []) vargs args) :
  Calls Tryz.prog f vargs.toArray w fun e w'=>e=.returned (.bool true)∧Below w.heap.size w w':=by
 refine (E_sound pgF_ok he (m:=mW w) (w:=w) ⟨fun b o v h=>h,fun i j l l' h=>(by cases h),fun id o h=>(by simp at h),fun id loc h=>(by cases h)⟩ hr).mono fun e w' h=>?_
 obtain ⟨m',μ',hI,hS,hO⟩:=h
 refine ⟨?_,⟨hS.fr.os,hS.fr.tape,hS.fr.output,hS.fr.size,fun k hk=>hS.fr.blk k hk (fun id loc h=>(by cases h))⟩⟩
 cases e with
 |returned v =>
  have h:R m' μ' (inf G) v (.p (.b true)):=hO
  cases h with
  |p v x hp=>cases hp;rfl
 |_=>exact hO.elim
end Go.Proofs.YtffohgbmjjbhiaaGreat
end
