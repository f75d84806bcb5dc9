/- Rows of slots. -/
import Derived.WalkKit
namespace Go.Proofs.YtncnnedlgofccaaGreatDoor
theorem sp:(∀(a:Act) (d:Nat) (v:Value),a.put (some d) v={a with tmps:=a.tmps.setIfInBounds d v})∧(∀(a:Act) (v:Value),a.put none v=a):=⟨fun _ _ _=>rfl,fun _ _=>rfl⟩
abbrev I (x:Int):Value:=.int .i64 x
abbrev Z:Value:=.slice none 0 0
abbrev S0:Value:=.string ⟨#[]⟩
abbrev pP (b i:Nat):Value:=.pointer (some ⟨b,i,none⟩)
abbrev Z80:Array Value:=#[I 0,S0,I 0,I 0,I 0,Z,Z,Z]
abbrev Z40:Array Value:=#[I 0,S0,Z,Z]
abbrev zd:Array Value:=#[I 0,I 0,I 0,I 0]
abbrev Zm0:Array Value:=#[Z,Z]
theorem sq {α:Type}:(∀(l:List α) (i:Nat) (h:i<l.toArray.size),l.toArray[i]=l[i]'(by simpa using h))∧(∀(a:α) (l:List α) (h:0<(a::l).length),(a::l)[0]=a)∧(∀(a:α) (l:List α) (i:Nat) (h:i + 1<(a::l).length),(a::l)[i + 1]=l[i]'(by simpa using h))∧(∀(l:List α) (i:Nat) (a:α),l.toArray.setIfInBounds i a=(l.set i a).toArray)∧(∀(x:α) (xs:List α) (a:α),(x::xs).set 0 a=a::xs)∧(∀(x:α) (xs:List α) (i:Nat) (a:α),(x::xs).set (i + 1) a=x::xs.set i a):=
 ⟨fun l i h=>by simp,fun _ _ _=>rfl,fun _ _ _ _=>rfl,fun _ _ _=>by simp,fun _ _ _=>rfl,fun _ _ _ _=>rfl⟩
end Go.Proofs.YtncnnedlgofccaaGreatDoor
