/- Rows of slots. -/
import Derived.WalkKit
namespace Go.Proofs.YtfgjkmipfikooaaGreatDoor
theorem sq {α:Type}:(∀(l:List α) (i:Nat) (h:i<l.toArray.size),l.toArray[i]=l[i]'(by simpa using h))∧(∀(a:α) (l:List α) (h:0<(a::l).length),(a::l)[0]=a)∧(∀(a:α) (l:List α) (i:Nat) (h:i + 1<(a::l).length),(a::l)[i + 1]=l[i]'(by simpa using h))∧(∀(l:List α) (i:Nat) (a:α),l.toArray.setIfInBounds i a=(l.set i a).toArray)∧(∀(x:α) (xs:List α) (a:α),(x::xs).set 0 a=a::xs)∧(∀(x:α) (xs:List α) (i:Nat) (a:α),(x::xs).set (i + 1) a=x::xs.set i a):=
 ⟨fun l i h=>by simp,fun _ _ _=>rfl,fun _ _ _ _=>rfl,fun _ _ _=>by simp,fun _ _ _=>rfl,fun _ _ _ _=>rfl⟩
end Go.Proofs.YtfgjkmipfikooaaGreatDoor
