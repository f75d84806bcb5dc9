/- Steps of regions that draw their order, each by one lemma. -/
import Derived.Test.YtncnnedlgofccaaGreatDoorPTQ
import Derived.Deep.RegionHeld
set_option linter.unusedSimpArgs false
set_option linter.unusedVariables false
namespace Go.Proofs.YtncnnedlgofccaaGreatDoor
open Go.RowKit
section
variable {P:Program}{md:Region.Mode}{ops:Array Oper}{Q:Exit->Act->World->Prop}{S:World->Prop}
theorem dJ (i:Nat){fuel:Nat}{listed:Array Bool}{a:Act}{w:World}{o:Oper}
  (h:∀K':Act->World->Prop,Shut (∀a w,S w->(S w->wpAnyH P md ops Q S fuel (listed.setIfInBounds i true) a w)->K' a w)->if Region.wanted o (yielded ops a.tmps)=true then Oper.wp P o a w K' Q else K' (a.put o.dst undef) w)
  (hr:Region.ready md ops listed=[i]:=by kernel_rfl) (ho:ops[i]? =some o:=by rfl):wpAnyH P md ops Q S (fuel+1) listed a w:=wpAnyH_ready hr (by simp) (AllReadyH.cons ho h AllReadyH.nil)
theorem tq1 (i:Nat)(v:Value){oi:Oper}{fuel:Nat}{listed listed':Array Bool}{a a':Act}{w:World}(hS:S w)(h:wpAnyH P md ops Q S fuel listed' a' w)
  (hi:ops[i]? =some oi:=by rfl) (hs:Region.noSelect ops=true:=by kernel_rfl) (hf:Region.free md ops listed i=true:=by kernel_rfl) (hr:(Region.ready md ops listed).contains i=true:=by kernel_rfl)
  (hQ:∀c a w,Q (.panic c) (a.put oi.dst v) w->Q (.panic c) a w:=by exact fun _ _ _ h=>h) (hw:Region.wanted oi (yielded ops a.tmps)=true:=by kernel_rfl)
  (hy:∀w,S w->(execOp a.eval oi).run P w=.ok (.value v) w:=by intro w' hSw;go_simp)
  (hl:listed.setIfInBounds i true=listed':=by(try simp only [List.setIfInBounds_toArray,List.set_cons_zero,List.set_cons_succ]);rfl)
  (ha:a.put oi.dst v=a':=by(try simp only [sp,sq]);rfl):wpAnyH P md ops Q S (fuel+1) listed a w:=by
 subst hl ha;exact wpAnyH_take hi hs hf hr hQ (.inl ⟨hw,hy⟩) hS h
theorem qC (i:Nat)(v:Value){oi:Oper}{fuel:Nat}{listed listed':Array Bool}{a a':Act}{w:World}(hS:S w)(h:wpAnyH P md ops Q S fuel listed' a' w)
  (hi:ops[i]? =some oi:=by rfl) (hs:Region.noSelect ops=true:=by kernel_rfl) (hf:Region.free md ops listed i=true:=by kernel_rfl) (hr:(Region.ready md ops listed).contains i=true:=by kernel_rfl)
  (hQ:∀c a w,Q (.panic c) (a.put oi.dst v) w->Q (.panic c) a w:=by exact fun _ _ _ h=>h) (hw:Region.wanted oi (yielded ops a.tmps)=true:=by kernel_rfl)
  (hy:∀w,S w->(execOp a.eval oi).run P w=.ok (.value v) w:=by intro w' hSw;obtain⟨h0,h1,h2⟩:=hSw;go_simp)
  (hl:listed.setIfInBounds i true=listed':=by(try simp only [List.setIfInBounds_toArray,List.set_cons_zero,List.set_cons_succ]);rfl)
  (ha:a.put oi.dst v=a':=by(try simp only [sp,sq]);rfl):wpAnyH P md ops Q S (fuel+1) listed a w:=by
 subst hl ha;exact wpAnyH_take hi hs hf hr hQ (.inl ⟨hw,hy⟩) hS h
theorem dY {w:World}{g j:Nat}{cs:Array Value}{t:TypeId}{fr:Nat ×Nat}{v:Value}(hg:w.heap[g]? =some (.cells cs t fr))(e:cs[j]? =some v:=by rfl):w.cell? ⟨g,j,none⟩=some v:=(cell_of_row _ _ _ _ _ _ hg).trans e
theorem eT {listed:Array Bool}{a:Act}{w:World}(fuel:Nat)(h:Q .normal a w)(hr:Region.ready md ops listed=[]:=by kernel_rfl):wpAnyH P md ops Q S fuel listed a w:=wpAnyH_done hr h fuel
end
theorem o9 (w:World)(o:Obj):Below w.heap.size w (w.alloc o):=(Below.refl _ _).alloc (Nat.le_refl _) _
end Go.Proofs.YtncnnedlgofccaaGreatDoor
