/- FJ, MX, FK, FL -/
import Derived.Test.YtfgjkmipfikooaaGreatDoorEB11
set_option linter.unusedSimpArgs false
set_option linter.unusedVariables false
set_option maxRecDepth 100000
set_option maxHeartbeats 4000000
namespace Go.Proofs.YtfgjkmipfikooaaGreatDoor
open Go.RowKit
theorem iP {α β γ:Type}{p:Ps α}{f:α->Ps β}{g:β->Ps γ}{ts r:List aD}{a:α}(h:p ts=.good a r):au (au p f) g ts=au (f a) g r:=by
 unfold au;rw [h]
theorem vE {α β γ:Type}{p:Ps α}{f:α->Ps β}{g:β->Ps γ}{ts:List aD}{d:DX}(h:p ts=.bad d):au (au p f) g ts=.bad d:=aB (aB h)
theorem new1 (w:World)(o1:Obj):Below w.heap.size w (w.alloc o1):=(Below.refl _ _).alloc (Nat.le_refl _) _
theorem new2 (w:World)(o1 o2:Obj):Below w.heap.size w ((w.alloc o1).alloc o2):=(new1 w o1).alloc (by simp) _
theorem ZA (w:World)(o1 o2 o3:Obj):Below w.heap.size w (((w.alloc o1).alloc o2).alloc o3):=(new2 w o1 o2).alloc (by simp;omega) _
theorem Dc (w:World)(o:Obj):(w.alloc o).heap[w.heap.size]? =some o:=heap_alloc_new w o
theorem bV {w:World}{b:Nat}{o o':Obj}(h:w.heap[b]? =some o):(w.alloc o').heap[b]? =some o:=ah h (Turn.alloc (fun _=>False) _ _) id
section
variable {G:Nat->Prop}{w w2:World}{o1 o2 o3 o4:Obj}
theorem bT (t:Turn G (w.alloc o1) w2):Turn G w w2∧w.heap.size+1<=w2.heap.size∧(¬G w.heap.size->w2.heap[w.heap.size]? =some o1):=by
 have hs:=t.size;simp at hs;exact⟨(Turn.alloc G _ _).trans t (fun _ _ h=>h),hs,fun h=>ah (Dc w o1) t h⟩
theorem jC (t:Turn G ((w.alloc o1).alloc o2) w2):Turn G w w2∧w.heap.size+2<=w2.heap.size∧(¬G w.heap.size->w2.heap[w.heap.size]? =some o1)∧(¬G (w.heap.size+1)->w2.heap[w.heap.size+1]? =some o2):=by
 obtain⟨t1,h1,h2⟩:=bT t;obtain⟨t0,h3,h4⟩:=bT t1;simp at h1 h2;exact⟨t0,by omega,h4,h2⟩
theorem zl (t:Turn G (((w.alloc o1).alloc o2).alloc o3) w2):Turn G w w2∧w.heap.size+3<=w2.heap.size∧(¬G w.heap.size->w2.heap[w.heap.size]? =some o1)∧(¬G (w.heap.size+1)->w2.heap[w.heap.size+1]? =some o2)∧(¬G (w.heap.size+1+1)->w2.heap[w.heap.size+1+1]? =some o3):=by
 obtain⟨t1,h1,h2⟩:=bT t;obtain⟨t0,h3,h4,h5⟩:=jC t1;simp at h1 h2;exact⟨t0,by omega,h4,h5,h2⟩
end
theorem qE {G:Nat->Prop}(w:World){w2:World}(cs:Array Value)(t:TypeId)(k n:Nat)(hs:cs.size=n*k)(hn:n<=maxLen)(t2:Turn G (w.alloc (.cells cs t)) w2)(hG:¬G w.heap.size):
  Sl w2 (w.heap.size+1) k (.slice (some ⟨w.heap.size,0,none⟩) n n) cs.toList:=by
 refine⟨_,n,n,rfl,by simpa using hs,Nat.le_refl _,hn,fun _=>⟨w.heap.size,0,rfl,by omega,fun j u hu=>?_⟩⟩;rw [cell_of_row _ _ _ cs t (0,0) ((bT t2).2.2 hG)];simpa using hu
theorem j4 (w:World)(cs:Array Value)(t:TypeId)(k n:Nat)(hs:cs.size=n*k)(hn:n<=maxLen):eD (w.alloc (.cells cs t)) (fun j=>j=w.heap.size) k (.slice (some ⟨w.heap.size,0,none⟩) n n) cs.toList:=by
 refine⟨_,n,n,rfl,by simpa using hs,Nat.le_refl _,hn,fun _=>⟨w.heap.size,0,rfl,rfl,by simp,fun j u hu=>?_⟩⟩;rw [cell_of_row _ _ _ cs t (0,0) (heap_alloc_new w _)];simpa using hu
theorem F4 (w:World)(a:Nat)(ha:a=w.heap.size)(l:List Bt)(cs:Array Value)(t:TypeId)(n:Nat)(hcs:cs.toList=mW l)(hn:n=l.length)(hm:n<=100000):Ss (w.alloc (.cells cs t)) (w.alloc (.cells cs t)).heap.size (.slice (some ⟨a,0,none⟩) n n) l:=by
 subst ha hn
 have h:=iB w cs t 1 l.length (by
  have:=congrArg List.length hcs;simp [mW]at this;omega) (by unfold maxLen;omega)
 rw [hcs]at h;exact h.more (by simp)
theorem aA {bp:Nat}{a b c:World}(h:Turn (fun k=>k=bp) a b)(k:Turn (fun k=>k=bp) b c):Turn (fun k=>k=bp) a c:=h.trans k fun _ _ h=>h
theorem dA {w:World}{b:Nat}{a0 a1 a2 a3:Value}{t:TypeId}(h:w.heap[b]? =some (.cells #[a0,a1,a2,a3] t (0,0))):w.cell? ⟨b,0,none⟩=some a0∧w.cell? ⟨b,1,none⟩=some a1∧w.cell? ⟨b,2,none⟩=some a2∧w.cell? ⟨b,3,none⟩=some a3∧∀i,w.frozen? ⟨b,i,none⟩=false:=
 ⟨(cell_of_row _ _ _ _ _ _ h).trans rfl,(cell_of_row _ _ _ _ _ _ h).trans rfl,(cell_of_row _ _ _ _ _ _ h).trans rfl,(cell_of_row _ _ _ _ _ _ h).trans rfl,fun i=>frozen_of_row _ _ _ _ _ h⟩
theorem aX {w:World}{b:Nat}{a0 a1 a2 a3 a4 a5 a6 a7:Value}{t:TypeId}(h:w.heap[b]? =some (.cells #[a0,a1,a2,a3,a4,a5,a6,a7] t (0,0))):w.cell? ⟨b,0,none⟩=some a0∧w.cell? ⟨b,1,none⟩=some a1∧w.cell? ⟨b,2,none⟩=some a2∧w.cell? ⟨b,3,none⟩=some a3∧
  w.cell? ⟨b,4,none⟩=some a4∧w.cell? ⟨b,5,none⟩=some a5∧w.cell? ⟨b,6,none⟩=some a6∧w.cell? ⟨b,7,none⟩=some a7∧∀i,w.frozen? ⟨b,i,none⟩=false:=
 ⟨(cell_of_row _ _ _ _ _ _ h).trans rfl,(cell_of_row _ _ _ _ _ _ h).trans rfl,(cell_of_row _ _ _ _ _ _ h).trans rfl,(cell_of_row _ _ _ _ _ _ h).trans rfl,(cell_of_row _ _ _ _ _ _ h).trans rfl,(cell_of_row _ _ _ _ _ _ h).trans rfl,(cell_of_row _ _ _ _ _ _ h).trans rfl,(cell_of_row _ _ _ _ _ _ h).trans rfl,fun i=>frozen_of_row _ _ _ _ _ h⟩
theorem cu {w:World}{b:Nat}{a0:Value}{t:TypeId}(h:w.heap[b]? =some (.cells #[a0] t (0,0))):w.cell? ⟨b,0,none⟩=some a0:=(cell_of_row _ _ _ _ _ _ h).trans rfl
abbrev dW (w:World)(b:Nat)(v0 v1 v2 v3:Value):World:=(((w.setCell ⟨b,0,none⟩ v0).setCell ⟨b,1,none⟩ v1).setCell ⟨b,2,none⟩ v2).setCell ⟨b,3,none⟩ v3
theorem eO (w:World)(b:Nat)(v0 v1 v2 v3:Value):Turn (fun k=>k=b) w (dW w b v0 v1 v2 v3):=
 (((ak w b 0 v0).trans (ak _ b 1 v1) (fun _ _ h=>h)).trans (ak _ b 2 v2) (fun _ _ h=>h)).trans (ak _ b 3 v3) (fun _ _ h=>h)
theorem bA {w:World}{b:Nat}{a0 a1 a2 a3:Value}{t:TypeId}(h:w.heap[b]? =some (.cells #[a0,a1,a2,a3] t (0,0)))(v0 v1 v2 v3:Value):(dW w b v0 v1 v2 v3).heap[b]? =some (.cells #[v0,v1,v2,v3] t (0,0)):=
 heap_setCell_same _ b 3 _ _ v3 (heap_setCell_same _ b 2 _ _ v2 (heap_setCell_same _ b 1 _ _ v1 (heap_setCell_same w b 0 _ _ v0 h)))
abbrev Bg (w:World)(b:Nat)(v0 v1 v2 v3 v4 v5 v6 v7:Value):World:=(((((((w.setCell ⟨b,0,none⟩ v0).setCell ⟨b,1,none⟩ v1).setCell ⟨b,2,none⟩ v2).setCell ⟨b,3,none⟩ v3).setCell ⟨b,4,none⟩ v4).setCell ⟨b,5,none⟩ v5).setCell ⟨b,6,none⟩ v6).setCell ⟨b,7,none⟩ v7
theorem bM (w:World)(b:Nat)(v0 v1 v2 v3 v4 v5 v6 v7:Value):Turn (fun k=>k=b) w (Bg w b v0 v1 v2 v3 v4 v5 v6 v7):=
 ((((eO w b v0 v1 v2 v3).trans (ak _ b 4 v4) (fun _ _ h=>h)).trans (ak _ b 5 v5) (fun _ _ h=>h)).trans (ak _ b 6 v6) (fun _ _ h=>h)).trans (ak _ b 7 v7) (fun _ _ h=>h)
theorem aY {w:World}{b:Nat}{a0 a1 a2 a3 a4 a5 a6 a7:Value}{t:TypeId}(h:w.heap[b]? =some (.cells #[a0,a1,a2,a3,a4,a5,a6,a7] t (0,0)))(v0 v1 v2 v3 v4 v5 v6 v7:Value):(Bg w b v0 v1 v2 v3 v4 v5 v6 v7).heap[b]? =some (.cells #[v0,v1,v2,v3,v4,v5,v6,v7] t (0,0)):=by
 have h0:(w.setCell ⟨b,0,none⟩ v0).heap[b]? =some (.cells #[v0,a1,a2,a3,a4,a5,a6,a7] t (0,0)):=heap_setCell_same _ b 0 _ _ v0 h;have h1:((w.setCell ⟨b,0,none⟩ v0).setCell ⟨b,1,none⟩ v1).heap[b]? =some (.cells #[v0,v1,a2,a3,a4,a5,a6,a7] t (0,0)):=heap_setCell_same _ b 1 _ _ v1 h0;have h2:(((w.setCell ⟨b,0,none⟩ v0).setCell ⟨b,1,none⟩ v1).setCell ⟨b,2,none⟩ v2).heap[b]? =some (.cells #[v0,v1,v2,a3,a4,a5,a6,a7] t (0,0)):=heap_setCell_same _ b 2 _ _ v2 h1;have h3:((((w.setCell ⟨b,0,none⟩ v0).setCell ⟨b,1,none⟩ v1).setCell ⟨b,2,none⟩ v2).setCell ⟨b,3,none⟩ v3).heap[b]? =some (.cells #[v0,v1,v2,v3,a4,a5,a6,a7] t (0,0)):=heap_setCell_same _ b 3 _ _ v3 h2;have h4:(((((w.setCell ⟨b,0,none⟩ v0).setCell ⟨b,1,none⟩ v1).setCell ⟨b,2,none⟩ v2).setCell ⟨b,3,none⟩ v3).setCell ⟨b,4,none⟩ v4).heap[b]? =some (.cells #[v0,v1,v2,v3,v4,a5,a6,a7] t (0,0)):=heap_setCell_same _ b 4 _ _ v4 h3;have h5:((((((w.setCell ⟨b,0,none⟩ v0).setCell ⟨b,1,none⟩ v1).setCell ⟨b,2,none⟩ v2).setCell ⟨b,3,none⟩ v3).setCell ⟨b,4,none⟩ v4).setCell ⟨b,5,none⟩ v5).heap[b]? =some (.cells #[v0,v1,v2,v3,v4,v5,a6,a7] t (0,0)):=heap_setCell_same _ b 5 _ _ v5 h4;have h6:(((((((w.setCell ⟨b,0,none⟩ v0).setCell ⟨b,1,none⟩ v1).setCell ⟨b,2,none⟩ v2).setCell ⟨b,3,none⟩ v3).setCell ⟨b,4,none⟩ v4).setCell ⟨b,5,none⟩ v5).setCell ⟨b,6,none⟩ v6).heap[b]? =some (.cells #[v0,v1,v2,v3,v4,v5,v6,a7] t (0,0)):=heap_setCell_same _ b 6 _ _ v6 h5;have h7:((((((((w.setCell ⟨b,0,none⟩ v0).setCell ⟨b,1,none⟩ v1).setCell ⟨b,2,none⟩ v2).setCell ⟨b,3,none⟩ v3).setCell ⟨b,4,none⟩ v4).setCell ⟨b,5,none⟩ v5).setCell ⟨b,6,none⟩ v6).setCell ⟨b,7,none⟩ v7).heap[b]? =some (.cells #[v0,v1,v2,v3,v4,v5,v6,v7] t (0,0)):=heap_setCell_same _ b 7 _ _ v7 h6;exact h7
abbrev Iv (a b:Nat):Nat->Prop:=fun j=>a<=j∧j<b
theorem nY.iv {w:World}{a:Nat}{z:List Value}{t:bC}(h:nY w (fun j=>a<=j) z t):nY w (Iv a w.heap.size) z t:=h.mono fun _ hg h=>⟨h,hg⟩
theorem mX.iv {w:World}{a:Nat}{z:List Value}{t:bF}(h:mX w (fun j=>a<=j) z t):mX w (Iv a w.heap.size) z t:=h.mono fun _ hg h=>⟨h,hg⟩
theorem fA.mk2 {bp:Nat}{a c:World}(t:Turn (fun k=>k=bp) a c)(h:wN c bp):fA bp a c:=⟨t,h⟩
theorem fA.more {bp:Nat}{a b c:World}{G:Nat->Prop}(t:Turn (fun k=>k=bp) a b)(k:Turn G b c)(hG:∀i,i<a.heap.size->G i->i=bp)(h:wN c bp):fA bp a c:=⟨t.trans k hG,h⟩
theorem nY.shape' {w:World}{F:Nat->Prop}{z:List Value}{t:bC}(h:nY w F z t):∃k s A1 n1 c1 A2 n2 c2,z=[.int .i64 k,sv s,.slice A1 n1 c1,.slice A2 n2 c2]:=by
 cases h with
 |mk h1 h2 h3=>
  obtain⟨A1,n1,c1,rfl,_⟩:=h1;obtain⟨A2,n2,c2,rfl,_⟩:=h2;exact⟨_,_,_,_,_,_,_,_,rfl⟩
theorem mX.shape' {w:World}{F:Nat->Prop}{z:List Value}{t:bF}(h:mX w F z t):∃k s a b c A1 n1 c1 A2 n2 c2 A3 n3 c3,z=[.int .i64 k,sv s,.int .i64 a,.int .i64 b,.int .i64 c,.slice A1 n1 c1,.slice A2 n2 c2,.slice A3 n3 c3]:=by
 cases h with
 |mk h1 h2 h3 h4 h5=>
  obtain⟨A1,n1,c1,rfl,_⟩:=h1;obtain⟨A2,n2,c2,rfl,_⟩:=h3;obtain⟨A3,n3,c3,rfl,_⟩:=h4;exact⟨_,_,_,_,_,_,_,_,_,_,_,_,_,_,rfl⟩
theorem rG (w:World)(F:Nat->Prop)(k:Int)(s:Bt):nY w F [.int .i64 k,sv s,.slice none 0 0,.slice none 0 0] (.mk k s [] []):= .mk (eD.nil _ _ _) (eD.nil _ _ _) .nil
def ny (w:World)(g o:Nat):List Value->World
 | []=>w
 |v :: l=>ny (w.setCell ⟨g,o,none⟩ v) g (o+1) l
def Uq (xs:List Value)(o:Nat):List Value->List Value
 | []=>xs
 |v :: l=>Uq (xs.set o v) (o+1) l
theorem gJ (g:Nat):∀(l:List Value) (w:World) (o:Nat),Turn (fun k=>k=g) w (ny w g o l)
 | [],w,_=>Turn.refl _ _
 |v :: l,w,o=>(ak w g o v).trans (gJ g l _ _) (fun _ _ h=>h)
theorem Iw {base g:Nat}{e:TypeId}{k:Nat}{v:Value}{n:Nat}(hg:v.ownBlock=some g):∀(l:List Value) (w:World) (o:Nat) (xs:List Value),w.ownsRow base e k v n xs->(ny w g o l).ownsRow base e k v n (Uq xs o l)
 | [],w,_,xs,h=>h
 |u :: l,w,o,xs,h=>Iw hg l _ _ _ (Uo h hg)
theorem Iy:∀(l olds ys:List Value) (o:Nat),ys.length=o->olds.length=l.length->Uq (ys++olds) o l=ys++l
 | [],[],ys,_,_,_=>rfl
 |v :: l,a :: olds,ys,o,h,h2=>by
  show Uq ((ys++a :: olds).set o v) (o+1) l= _;have e:(ys++a :: olds).set o v=(ys++[v])++olds:=by
   rw [List.set_append_right _ _ (by omega),h,Nat.sub_self];simp
  rw [e,Iy l olds (ys++[v]) (o+1) (by simp [h]) (by simpa using h2)];simp
 | [],_ :: _,_,_,_,h2=>by cases h2
 |_ :: _,[],_,_,_,h2=>by cases h2
theorem BH {w:World}{base g:Nat}{e:TypeId}{k:Nat}{v:Value}{n:Nat}{ys olds z:List Value}(h:w.ownsRow base e k v n (ys++olds))(hg:v.ownBlock=some g)(hz:olds.length=z.length){o:Nat}(ho:ys.length=o):(ny w g o z).ownsRow base e k v n (ys++z):=by
 have:=Iw hg z w o _ h;rwa [Iy z olds ys o ho hz]at this
theorem o8 (w0:World)(bp B:Nat)(ts:List aD)(d:Int)(h:bX w0 bp B ts d)(l:List Bt)(cs:Array Value)(t:TypeId)(n a:Nat)(hcs:cs.toList=mW l:=by rfl)(hn:n=l.length:=by rfl)(ha:a=w0.heap.size:=by simp)(hm:n<=100000:=by decide):
  Calls Tryz.prog 104 #[.pointer (some ⟨bp,0,none⟩),.slice (some ⟨a,0,none⟩) n n] (w0.alloc (.cells cs t)) (aG Vq bp B d w0 (dJ l ts)):=by
 refine(xW _ bp B ts d (h.below (new1 _ _)) _ l (F4 w0 a ha l cs t n hcs hn hm) (by omega)).mono ?_;intro e w' h2;rcases hq:dJ l ts with g |⟨o,r⟩
 ·exact(iO hq).elim
 ·rw [hq]at h2;obtain⟨v,rfl,t2,hP,hR⟩:=h2.aR rfl;exact aG.done rfl (bT t2).1 hP hR
theorem WZ (s:Bt)(ts:List aD):jX [s] ts=aN s ts:=by
 show au (aN s) (fun _=>aJ ()) ts= _;unfold au;cases aN s ts <;> rfl
theorem fG (w0:World)(bp B:Nat)(ts:List aD)(d:Int)(h:bX w0 bp B ts d)(s:Bt)(t:TypeId)(a:Nat)(ha:a=w0.heap.size:=by simp):
  Calls Tryz.prog 150 #[.pointer (some ⟨bp,0,none⟩),.slice (some ⟨a,0,none⟩) 1 1] (w0.alloc (.cells #[sv s] t)) (aG PUnit bp B d w0 (aN s ts)):=by
 refine(Iu _ bp B ts d (h.below (new1 _ _)) _ [s] (F4 w0 a ha [s] #[sv s] t 1 rfl rfl (by decide)) (by simp)).mono ?_;intro e w' h2;rw [WZ]at h2;rcases hq:aN s ts with g |⟨o,r⟩
 ·rw [hq]at h2;obtain⟨rfl,b2,b3⟩:=h2.bY rfl;exact aG.fail rfl ⟨(bT b2).1,b3⟩
 ·rw [hq]at h2;obtain⟨v,rfl,t2,hP,hR⟩:=h2.aR rfl;exact aG.done rfl (bT t2).1 hP hR
theorem lM {w:World}{base:Nat}{e:TypeId}{k:Nat}{v:Value}{n:Nat}{xs:List Value}(h:w.ownsRow base e k v n xs):∃A c,v=.slice A n c∧n<=c∧c<=maxLen:=by
 rcases h.2 with⟨rfl,rfl⟩ |⟨g,cap,cur,rfl,_,_,h1,h2,_⟩
 ·exact⟨_,_,rfl,Nat.le_refl _,Nat.zero_le _⟩
 ·exact⟨_,_,rfl,h1,h2⟩
theorem BI:∀u∈[Value.int .i64 0,.string ⟨#[]⟩,.slice none 0 0,.slice none 0 0],u.oneCell'=true:=by
 intro u hu;simp only [List.mem_cons,List.not_mem_nil,or_false]at hu;rcases hu with rfl |rfl |rfl |rfl <;> rfl
theorem BJ:∀u∈[Value.int .i64 0,.string ⟨#[]⟩,.int .i64 0,.int .i64 0,.int .i64 0,.slice none 0 0,.slice none 0 0,.slice none 0 0],u.oneCell'=true:=by
 intro u hu;simp only [List.mem_cons,List.not_mem_nil,or_false]at hu;rcases hu with rfl |rfl |rfl |rfl |rfl |rfl |rfl |rfl <;> rfl
theorem Mx (k:Int)(s:Bt)(A1 A2:Option Addr)(n1 c1 n2 c2:Nat):∀u∈ #[Value.int .i64 k,sv s,.slice A1 n1 c1,.slice A2 n2 c2].toList,u.oneCell'=true:=by
 intro u hu;simp only [List.mem_cons,List.not_mem_nil,or_false]at hu;rcases hu with rfl |rfl |rfl |rfl <;> rfl
def gQ {α:Type}(P:World->Value->α->Prop)(G:Nat->Prop)(bp B:Nat)(d:Int)(w:World)(q:Pr α)(e:Ending)(w':World):Prop:=
 match q with
  |.good x r=>∃v,e=.returned v∧Turn G w w'∧P w' v x∧bX w' bp B r d
  |.bad g=>e=Da g∧Turn G w w'∧wN w' bp
section
variable {α:Type}{P:World->Value->α->Prop}{G:Nat->Prop}{bp B:Nat}{d:Int}{w w':World}{q:Pr α}{e:Ending}
theorem gQ.bY {g:DX}(h:gQ P G bp B d w q e w')(hq:q=.bad g):e=Da g∧Turn G w w'∧wN w' bp:=by
 subst hq;exact h
theorem gQ.aR {x:α}{r:List aD}(h:gQ P G bp B d w q e w')(hq:q=.good x r):∃v,e=.returned v∧Turn G w w'∧P w' v x∧bX w' bp B r d:=by
 subst hq;exact h
theorem gQ.fail {g:DX}(hq:q=.bad g)(t:Turn G w w')(hb:wN w' bp):gQ P G bp B d w q (Da g) w':=by
 subst hq;exact⟨rfl,t,hb⟩
theorem gQ.done {x:α}{r:List aD}{v:Value}(hq:q=.good x r)(t:Turn G w w')(hP:P w' v x)(hR:bX w' bp B r d):gQ P G bp B d w q (.returned v) w':=by
 subst hq;exact⟨v,rfl,t,hP,hR⟩
end
theorem Df:ku Tryz.prog 49 57 (.agg #[.int .i64 0,.string ⟨#[]⟩,.slice none 0 0,.slice none 0 0]) 4 72:=⟨Tryz.underlying49,by kernel_rfl,rfl,by omega⟩
theorem Iz:ku Tryz.prog 50 52 (.agg #[.int .i64 0,.string ⟨#[]⟩,.int .i64 0,.int .i64 0,.int .i64 0,.slice none 0 0,.slice none 0 0,.slice none 0 0]) 8 120:=⟨Tryz.underlying50,by kernel_rfl,rfl,by omega⟩
section
variable {P:Program}{ops:Array Oper}{Q:Exit->Act->World->Prop}{md:Region.Mode}{S:World->Prop}{x:Nat}
def AnyX (P:Program)(md:Region.Mode)(ops:Array Oper)(Q:Exit->Act->World->Prop)(S:World->Prop)(x:Nat):Nat->Array Bool->Act->World->Prop
 |0,listed,a,w=>Region.ready md ops listed=[]∧Q .normal a w
 |fuel+1,listed,a,w=>
  (Region.ready md ops listed=[]->Q .normal a w)∧
  ∀i∈Region.ready md ops listed,wpOp P ops Q i (fun a' w'=>((listed.setIfInBounds i true).getD x true=false->S w')∧AnyX P md ops Q S x fuel (listed.setIfInBounds i true) a' w') a w
theorem IB:∀(fuel:Nat) (listed:Array Bool) (a:Act) (w:World),AnyX P md ops Q S x fuel listed a w->wpAny P md ops Q fuel listed a w
 |0,_,_,_,h=>h
 |fuel+1,_,_,_,h=>⟨h.1,fun i hi=>wpOp_mono (fun a' w' h'=>IB fuel _ a' w' h'.2) (h.2 i hi)⟩
def waits (md:Region.Mode)(ops:Array Oper)(x i:Nat):Bool:=match ops[x]? with
 |none=>false
 |some o=>(x != i) && o.after.any fun e=>Region.binds md e && e.on==i
theorem KJ {i:Nat}(h:waits md ops x i=true):x≠i∧∃o,ops[x]? =some o∧∃e∈o.after,Region.binds md e=true∧e.on=i:=by
 unfold waits at h;split at h
 ·cases h
 ·rename_i o ho
  simp only [Bool.and_eq_true,bne_iff_ne,Array.any_eq_true',beq_iff_eq]at h;obtain⟨h1,e,he,h2,h3⟩:=h;exact⟨h1,o,ho,e,he,h2,h3⟩
theorem Dh {i:Nat}{oi:Oper}{v:Value}(hi:ops[i]? =some oi)(hsel:∀(j:Nat) (o:Oper) cs b,ops[j]? =some o->o.op≠ .select cs b)
  (hQ:∀c a w,Q (.panic c) (a.put oi.dst v) w->Q (.panic c) a w) (hx:waits md ops x i=true):
  ∀(fuel:Nat) (listed:Array Bool) (a:Act) (w:World),
   (∀j oj,ops[j]? =some oj->j≠i->listed.getD j true=false->(∀e∈oj.after,Region.binds md e=true->e.on≠i)->oi.apart ops oj=true)->
   i∈Region.ready md ops listed->YieldsIf P ops S oi v a->S w->listed.getD x true=false->
   AnyX P md ops Q S x fuel (listed.setIfInBounds i true) (a.put oi.dst v) w->AnyX P md ops Q S x (fuel+1) listed a w:=by
 obtain⟨hxi,ox,hox,ex,hex,hbx,acL⟩:=KJ hx;intro fuel;induction fuel with
 |zero=>
  intro listed a w _ hr hy hS hl H;refine⟨fun h=>(by rw [h]at hr;cases hr),fun j hj=>?_⟩;by_cases hji:j=i
  ·subst hji;exact hy.wpOp hi hS ⟨fun _=>hS,H⟩
  ·have:=ready_mono hj hji;rw [H.1]at this;cases this
 |succ fuel ih=>
  intro listed a w hfree hr hy hS hl H;refine⟨fun h=>(by rw [h]at hr;cases hr),fun j hj=>?_⟩;by_cases hji:j=i
  ·subst hji;exact hy.wpOp hi hS ⟨fun _=>hS,H⟩
  ·have h1:=H.2 j (ready_mono hj hji);obtain⟨hjun,oj,hoj,hall⟩:=mem_ready.1 hj;have hnot:∀e∈oj.after,Region.binds md e=true->e.on≠i:=fun e he hb heq=>by
    have h1:=hall e he hb;have h0:=(mem_ready.1 hr).1;rw [heq]at h1;rcases Nat.lt_or_ge i listed.size with h' |h'
    ·simp [h']at h0 h1;rw [h0]at h1;cases h1
    ·simp [Array.getElem?_eq_none h']at h1
   have hjx:j≠x:=fun e=>by
    subst e;rw [hox]at hoj;injection hoj with hoj;subst hoj;exact hnot ex hex hbx acL
   have hl2:(listed.setIfInBounds j true).getD x true=false:=by rw [getD_set_ne true hjx];exact hl
   have hl3:((listed.setIfInBounds i true).setIfInBounds j true).getD x true=false:=by rw [getD_set_ne true hjx,getD_set_ne true (Ne.symm hxi)];exact hl
   have h2:=wpOp_putIf hoj (hfree j oj hoj hji hjun hnot) (fun cs b=>hsel i oi cs b hi) (fun cs b=>hsel j oj cs b hoj) hQ hy h1
   have hfree':∀k ok,ops[k]? =some ok->k≠i->(listed.setIfInBounds j true).getD k true=false->
     (∀e∈ok.after,Region.binds md e=true->e.on≠i)->oi.apart ops ok=true:=fun k ok hk hki hun hno=>by
    refine hfree k ok hk hki ?_ hno;by_cases hjk:j=k
    ·subst hjk;exact hjun
    ·rw [getD_set_ne true hjk]at hun;exact hun
   refine wpOp_mono (fun a' w' h3=>⟨fun _=>h3.2.1 hl3,ih (listed.setIfInBounds j true) a' w' hfree' (ready_mono hr (Ne.symm hji)) h3.1 (h3.2.1 hl3) hl2 ?_⟩) h2;rw [Array.setIfInBounds_comm _ _ hji];exact h3.2.2
theorem Ow {i:Nat}{oi:Oper}{v:Value}(hi:ops[i]? =some oi)(hsel:∀(j:Nat) (o:Oper) cs b,ops[j]? =some o->o.op≠ .select cs b)
  (hQ:∀c a w,Q (.panic c) (a.put oi.dst v) w->Q (.panic c) a w) (hx:x≠i):
  ∀(fuel:Nat) (listed:Array Bool) (a:Act) (w:World),
   (∀j oj,ops[j]? =some oj->j≠i->listed.getD j true=false->(∀e∈oj.after,Region.binds md e=true->e.on≠i)->oi.apart ops oj=true)->
   i∈Region.ready md ops listed->YieldsIf P ops (fun _=>True) oi v a->(listed.getD x true=false->S w)->
   AnyX P md ops Q S x fuel (listed.setIfInBounds i true) (a.put oi.dst v) w->AnyX P md ops Q S x (fuel+1) listed a w:=by
 intro fuel;induction fuel with
 |zero=>
  intro listed a w _ hr hy hS H;refine⟨fun h=>(by rw [h]at hr;cases hr),fun j hj=>?_⟩;by_cases hji:j=i
  ·subst hji;exact hy.wpOp hi trivial ⟨fun h=>hS (by rw [getD_set_ne true (Ne.symm hx)]at h;exact h),H⟩
  ·have:=ready_mono hj hji;rw [H.1]at this;cases this
 |succ fuel ih=>
  intro listed a w hfree hr hy hS H;refine⟨fun h=>(by rw [h]at hr;cases hr),fun j hj=>?_⟩;by_cases hji:j=i
  ·subst hji;exact hy.wpOp hi trivial ⟨fun h=>hS (by rw [getD_set_ne true (Ne.symm hx)]at h;exact h),H⟩
  ·have h1:=H.2 j (ready_mono hj hji);obtain⟨hjun,oj,hoj,hall⟩:=mem_ready.1 hj;have hnot:∀e∈oj.after,Region.binds md e=true->e.on≠i:=fun e he hb heq=>by
    have h1:=hall e he hb;have h0:=(mem_ready.1 hr).1;rw [heq]at h1;rcases Nat.lt_or_ge i listed.size with h' |h'
    ·simp [h']at h0 h1;rw [h0]at h1;cases h1
    ·simp [Array.getElem?_eq_none h']at h1
   have h2:=wpOp_putIf hoj (hfree j oj hoj hji hjun hnot) (fun cs b=>hsel i oi cs b hi) (fun cs b=>hsel j oj cs b hoj) hQ hy h1
   have hfree':∀k ok,ops[k]? =some ok->k≠i->(listed.setIfInBounds j true).getD k true=false->
     (∀e∈ok.after,Region.binds md e=true->e.on≠i)->oi.apart ops ok=true:=fun k ok hk hki hun hno=>by
    refine hfree k ok hk hki ?_ hno;by_cases hjk:j=k
    ·subst hjk;exact hjun
    ·rw [getD_set_ne true hjk]at hun;exact hun
   have hsw:∀(w':World),(((listed.setIfInBounds i true).setIfInBounds j true).getD x true=false->S w')->(listed.setIfInBounds j true).getD x true=false->S w':=fun w' h h0=>h (by
    rw [Array.setIfInBounds_comm _ _ (Ne.symm hji),getD_set_ne true (Ne.symm hx)];exact h0)
   refine wpOp_mono (fun a' w' h3=>⟨hsw w' h3.2.1,ih (listed.setIfInBounds j true) a' w' hfree' (ready_mono hr (Ne.symm hji)) h3.1 (hsw w' h3.2.1) ?_⟩) h2;rw [Array.setIfInBounds_comm _ _ hji];exact h3.2.2
def av (P:Program)(md:Region.Mode)(ops:Array Oper)(Q:Exit->Act->World->Prop)(S:World->Prop)(x:Nat)(fuel:Nat)(listed:Array Bool)(a:Act)(w:World)(rs:List Nat):Prop:=
 ∀i∈rs,wpOp P ops Q i (fun a' w'=>((listed.setIfInBounds i true).getD x true=false->S w')∧AnyX P md ops Q S x fuel (listed.setIfInBounds i true) a' w') a w
theorem av.nil {fuel:Nat}{listed:Array Bool}{a:Act}{w:World}:av P md ops Q S x fuel listed a w []:=fun _ h=>by cases h
theorem av.cons {fuel:Nat}{listed:Array Bool}{a:Act}{w:World}{i:Nat}{o:Oper}{rs:List Nat}(ho:ops[i]? =some o)
  (h:∀K':Act->World->Prop,Shut (∀a w,S w->AnyX P md ops Q S x fuel (listed.setIfInBounds i true) a w->K' a w)->if Region.wanted o (yielded ops a.tmps)=true then Oper.wp P o a w K' Q else K' (a.put o.dst undef) w)
  (hs:av P md ops Q S x fuel listed a w rs):av P md ops Q S x fuel listed a w (i :: rs):=fun j hj=>by
 rcases List.mem_cons.1 hj with rfl |hj
 ·exact wpOp_step ho (fun K' hK=>h K' (fun a w hS hW=>hK a w ⟨fun _=>hS,hW⟩))
 ·exact hs j hj
theorem av.past {fuel:Nat}{listed:Array Bool}{a:Act}{w:World}{i:Nat}{o:Oper}{rs:List Nat}(ho:ops[i]? =some o)(hl:(listed.setIfInBounds i true).getD x true=true)
  (h:∀K':Act->World->Prop,Shut (∀a w,AnyX P md ops Q S x fuel (listed.setIfInBounds i true) a w->K' a w)->if Region.wanted o (yielded ops a.tmps)=true then Oper.wp P o a w K' Q else K' (a.put o.dst undef) w)
  (hs:av P md ops Q S x fuel listed a w rs):av P md ops Q S x fuel listed a w (i :: rs):=fun j hj=>by
 rcases List.mem_cons.1 hj with rfl |hj
 ·exact wpOp_step ho (fun K' hK=>h K' (fun a w hW=>hK a w ⟨fun h0=>(by rw [hl]at h0;cases h0),hW⟩))
 ·exact hs j hj
theorem ay {rs:List Nat}{fuel:Nat}{listed:Array Bool}{a:Act}{w:World}(hr:Region.ready md ops listed=rs)(hne:rs≠[])
  (h:av P md ops Q S x fuel listed a w rs):AnyX P md ops Q S x (fuel+1) listed a w:=⟨fun h0=>absurd (hr▸h0) hne,hr▸h⟩
theorem aV {listed:Array Bool}{a:Act}{w:World}(hr:Region.ready md ops listed=[])(h:Q .normal a w):∀fuel,AnyX P md ops Q S x fuel listed a w
 |0=>⟨hr,h⟩
 |_+1=>⟨fun _=>h,by rw [hr];simp⟩
theorem dn (S:World->Prop)(x:Nat){id:Nat}{a:Act}{w:World}(hm:P.follows .mixedOrders=true)
  (h:AnyX P .any ops Q S x ops.size (Array.replicate ops.size false) a w.drew):(Code.region id ops true).wp P Q a w:=
 wp_region_any hm (IB _ _ _ _ h)
theorem tx (i:Nat)(v:Value){oi:Oper}{fuel:Nat}{listed listed':Array Bool}{a a':Act}{w:World}(hS:S w)(h:AnyX P md ops Q S x fuel listed' a' w)
  (hi:ops[i]? =some oi:=by rfl) (hs:Region.noSelect ops=true:=by kernel_rfl) (hf:Region.free md ops listed i=true:=by kernel_rfl) (hr:(Region.ready md ops listed).contains i=true:=by kernel_rfl)
  (hx:waits md ops x i=true:=by kernel_rfl) (hlx:listed.getD x true=false:=by kernel_rfl)
  (hQ:∀c a w,Q (.panic c) (a.put oi.dst v) w->Q (.panic c) a w:=by exact fun _ _ _ h=>h) (hw:Region.wanted oi (yielded ops a.tmps)=true:=by kernel_rfl)
  (hy:∀w,S w->(execOp a.eval oi).run P w=.ok (.value v) w:=by intro w' hSw;go_simp)
  (hl:listed.setIfInBounds i true=listed':=by(try simp only [List.setIfInBounds_toArray,List.set_cons_zero,List.set_cons_succ]);rfl)
  (ha:a.put oi.dst v=a':=by(try simp only [Act.put,sq]);rfl):AnyX P md ops Q S x (fuel+1) listed a w:=by
 subst hl ha;exact Dh hi (Region.noSelect_spec hs) hQ hx fuel listed a w (Region.free_spec hi hf) (by simpa using hr) (.inl ⟨hw,hy⟩) hS hlx h
theorem tt (i:Nat)(v:Value){oi:Oper}{fuel:Nat}{listed listed':Array Bool}{a a':Act}{w:World}(hS:listed.getD x true=false->S w)(h:AnyX P md ops Q S x fuel listed' a' w)
  (hi:ops[i]? =some oi:=by rfl) (hs:Region.noSelect ops=true:=by kernel_rfl) (hf:Region.free md ops listed i=true:=by kernel_rfl) (hr:(Region.ready md ops listed).contains i=true:=by kernel_rfl)
  (hx:x≠i:=by decide)
  (hQ:∀c a w,Q (.panic c) (a.put oi.dst v) w->Q (.panic c) a w:=by exact fun _ _ _ h=>h) (hw:Region.wanted oi (yielded ops a.tmps)=true:=by kernel_rfl)
  (hy:∀w,True->(execOp a.eval oi).run P w=.ok (.value v) w:=by intro w' hSw;go_simp)
  (hl:listed.setIfInBounds i true=listed':=by(try simp only [List.setIfInBounds_toArray,List.set_cons_zero,List.set_cons_succ]);rfl)
  (ha:a.put oi.dst v=a':=by(try simp only [Act.put,sq]);rfl):AnyX P md ops Q S x (fuel+1) listed a w:=by
 subst hl ha;exact Ow hi (Region.noSelect_spec hs) hQ hx fuel listed a w (Region.free_spec hi hf) (by simpa using hr) (.inl ⟨hw,hy⟩) hS h
theorem nM (i:Nat)(v:Value){F:World->Prop}(f:∀w',S w'->F w'){oi:Oper}{fuel:Nat}{listed listed':Array Bool}{a a':Act}{w:World}(hS:S w)(h:AnyX P md ops Q S x fuel listed' a' w)
  (hi:ops[i]? =some oi:=by rfl) (hs:Region.noSelect ops=true:=by kernel_rfl) (hf:Region.free md ops listed i=true:=by kernel_rfl) (hr:(Region.ready md ops listed).contains i=true:=by kernel_rfl)
  (hx:waits md ops x i=true:=by kernel_rfl) (hlx:listed.getD x true=false:=by kernel_rfl)
  (hQ:∀c a w,Q (.panic c) (a.put oi.dst v) w->Q (.panic c) a w:=by exact fun _ _ _ h=>h) (hw:Region.wanted oi (yielded ops a.tmps)=true:=by kernel_rfl)
  (hy:∀w,F w->(execOp a.eval oi).run P w=.ok (.value v) w:=by intro w' hSw;go_simp)
  (hl:listed.setIfInBounds i true=listed':=by(try simp only [List.setIfInBounds_toArray,List.set_cons_zero,List.set_cons_succ]);rfl)
  (ha:a.put oi.dst v=a':=by(try simp only [Act.put,sq]);rfl):AnyX P md ops Q S x (fuel+1) listed a w:=by
 subst hl ha;exact Dh hi (Region.noSelect_spec hs) hQ hx fuel listed a w (Region.free_spec hi hf) (by simpa using hr) (.inl ⟨hw,fun w h=>hy w (f w h)⟩) hS hlx h
end
section
variable {P:Program}{fn:Func}{R:Ending->World->Prop}
theorem qF {tmps Vs:Array Value}(h:results fn tmps=results fn Vs):∀(ds:List Deferred) (u:FrameMode) (w:World),Leaves P fn tmps R ds u w->Leaves P fn Vs R ds u w
 | [],.returning,w,⟨v,h1,h2⟩=>⟨v,by rw [<-h];exact h1,h2⟩
 | [],.panicking _,w,h1=>h1
 | [],.run,_,h1=>h1
 |d :: ds,u,w,⟨h1,fv,cap,f,args,h2,h3,h4⟩=>⟨h1,fv,cap,f,args,h2,h3,h4.mono fun e u' w' h5=>by
   cases e with
   |returned v=>exact qF h ds _ _ h5
   |panicked c=>exact qF h ds _ _ h5
   |outgrown=>exact h5⟩
theorem gW {t0:Tmp}{T:TypeId}{dst:Option Tmp}{v:Value}(hr:fn.results= #[.cell t0 T])(hd:dst≠some t0)(c:List PanicEntry)(a:Act)(w:World)(h:bodyPostD P fn R (.panic c) (a.put dst v) w):bodyPostD P fn R (.panic c) a w:=by
 cases dst with
 |none=>exact h
 |some d=>
  have hne:d≠t0:=fun e=>hd (by rw [e]);have e:results fn (a.tmps.setIfInBounds d v)=results fn a.tmps:=by
   simp [results,hr,Array.getElem?_setIfInBounds_ne hne]
  exact qF e a.defers _ _ h
end
def xX (d:Int)(typ:Ps bC):Prop:=∀(w:World) (bp B:Nat) (ts:List aD),bX w bp B ts d->
 Calls Tryz.prog 54 #[.pointer (some ⟨bp,0,none⟩)] w (aG (PTy w.heap.size) bp B d w (typ ts))
structure nA (pb tb base bp:Nat) (w:World) (l1:List Bt) (l2:List bC) (v1 v2:Value):Prop where
 box:w.heap[pb]? =some (.cells #[.pointer (some ⟨bp,0,none⟩)] 91 (0,0))
 blk:w.heap[tb]? =some (.cells #[.int .i64 5,sv [],v1,v2] 57 (0,0))
 xY:gX w base 9 v1 l1
 kid:iN nY 4 57 w base (fun j=>base<=j∧v1.ownBlock≠some j) v2 l2
 ne:∀g,v1.ownBlock=some g->v2.ownBlock≠some g
structure xZ (pb tb base bp:Nat) (w:World):Prop where
 EU:bp<pb
 IC:bp<tb
 KL:pb<base
 Ox:tb<base
 ne:pb≠tb
 JV:base<=w.heap.size
theorem xZ.turn {pb tb base bp:Nat}{w w':World}{G:Nat->Prop}(h:xZ pb tb base bp w)(t:Turn G w w'):xZ pb tb base bp w':={ h with JV:=Nat.le_trans h.JV t.size}
theorem nA.turn {pb tb base bp:Nat}{w w':World}{l1:List Bt}{l2:List bC}{v1 v2:Value}(h:nA pb tb base bp w l1 l2 v1 v2)(p:xZ pb tb base bp w)(t:Turn (fun k=>k=bp) w w'):nA pb tb base bp w' l1 l2 v1 v2:=by
 have:=p.EU;have:=p.IC;have:=p.KL;have:=p.Ox;exact⟨ah h.box t (by omega),ah h.blk t (by omega),h.xY.turn t (fun g hg e=>by have:=(h.xY.lt g hg).1;omega),h.kid.turn bL t (fun g hg e=>by have:=(h.kid.lt g hg).1;omega) (fun g _ hg e=>by have:=hg.1;omega),h.ne⟩
theorem nA.name {pb tb base bp:Nat}{w w7:World}{l1:List Bt}{l2:List bC}{v1 v2 v7:Value}{o:Obj}{s:Bt}(h:nA pb tb base bp w l1 l2 v1 v2)(p:xZ pb tb base bp w)
  (h7:gX w7 base 9 v7 (l1++[s])) (hg:(w.alloc o).grownBy w7 v1.ownBlock) (hbk:v7.ownBlock=v1.ownBlock∨v7.ownBlock=some (w.alloc o).heap.size):
  nA pb tb base bp (w7.setCell ⟨tb,2,none⟩ v7) (l1++[s]) l2 v7 v2∧Turn (fun j=>v1.ownBlock=some j∨j=tb) w (w7.setCell ⟨tb,2,none⟩ v7):=by
 have:=p.KL;have:=p.Ox;have hne:=p.ne;have hbs:=p.JV;have t7:Turn (fun j=>v1.ownBlock=some j) w w7:=(Turn.alloc _ _ _).trans (Turn.bP hg (fun k h=>h)) (fun _ _ h=>h);have t8:=ak w7 tb 2 v7;have hs:(w.alloc o).heap.size=w.heap.size+1:=by simp
 have hlt:=h.xY.lt;have hk:=h.kid;have hkl:=hk.lt
 have k1:iN nY 4 57 w base (fun j=>(base<=j∧v1.ownBlock≠some j)∧v7.ownBlock≠some j) v2 l2:=hk.mono bL fun g hg h=>⟨h,fun e=>by
  rcases hbk with hb |hb
  ·rw [hb]at e;exact h.2 e
  ·rw [hb,hs]at e;injection e with e;omega⟩
 have k7:=k1.turn bL t7 (fun g hg e=>h.ne g e hg) (fun g _ hg e=>hg.1.2 e);have k8:=k7.turn bL t8 (fun g hg e=>by have:=(hkl g hg).1;omega) (fun g _ hg e=>by have:=hg.1.1;omega);refine⟨⟨ah (ah h.box t7 (fun e=>by have:=(hlt _ e).1;omega)) t8 hne,heap_setCell_same _ _ 2 _ _ _ (ah h.blk t7 (fun e=>by have:=(hlt _ e).1;omega)),h7.turn t8 (fun g hg e=>by have:=(h7.lt g hg).1;omega),k8.mono bL fun g _ h=>⟨h.1.1,h.2⟩,fun g e=>?_⟩,(t7.mono (G:=fun j=>v1.ownBlock=some j∨j=tb) fun _ _ h=>.inl h).trans t8 (fun _ _ h=>.inr h)⟩;rcases hbk with hb |hb
 ·rw [hb]at e;exact h.ne g e
 ·rw [hb,hs]at e;injection e with e;intro e2;have:=(hkl g e2).2;omega
theorem nA.type {pb tb base bp:Nat}{w w6 w8:World}{l1:List Bt}{l2:List bC}{v1 v2 v7:Value}{z:List Value}{x:bC}(h:nA pb tb base bp w l1 l2 v1 v2)(p:xZ pb tb base bp w)
  (t:Turn (fun k=>k=bp) w w6) (hx:nY w6 (fun j=>w.heap.size<=j) z x) (t8:Turn (fun j=>v2.ownBlock=some j∨j=tb) w6 w8) {ys:List Value}{n7:Nat}(hy:w.ownsRow base 57 4 v2 l2.length ys) (hr:dH (nY w (uI (fun j=>base<=j∧v1.ownBlock≠some j) v2)) 4 ys l2)
  (h7:w8.ownsRow base 57 4 v7 n7 (ys++z)) (hbk:v7.ownBlock=v2.ownBlock∨∃m,w6.heap.size<=m∧v7.ownBlock=some m) (hb:w8.heap[tb]? =some (.cells #[.int .i64 5,sv [],v1,v7] 57 (0,0))):
  nA pb tb base bp w8 l1 (l2++[x]) v1 v7:=by
 have:=p.KL;have:=p.Ox;have hne:=p.ne;have hbs:=p.JV;have:=p.EU;have:=p.IC;have h6:=h.turn p t;have hlt:=h.xY.lt;have hkl:=h.kid.lt;have hs6:=t.size;refine⟨ah h6.box t8 (fun e=>?_),hb,h6.xY.turn t8 (fun g hg e=>?_),?_,fun g e=>?_⟩
 ·rcases e with e |e
  ·have:=(hkl _ e).1;omega
  ·exact hne e
 ·rcases e with e |e
  ·exact h.ne g hg e
  ·have:=(hlt g hg).1;omega
 ·exact iN.push bL (F:=fun j=>base<=j∧v1.ownBlock≠some j) hy hr t hx t8 (fun j _ e=>by
   rcases e with e |e
   ·exact .inl e
   ·exact .inr ⟨fun h=>by have:=h.1;omega,by omega⟩) hbk h7 (by omega) (fun h=>by have:=h.1;omega) (fun j hj=>⟨by omega,fun e=>by have:=(hlt j e).2;omega⟩)
 ·have hg1:=(hlt g e).2;rcases hbk with hb |⟨m,hm,hb⟩
  ·rw [hb];exact h.ne g e
  ·rw [hb];intro e2;injection e2 with e2;omega
def MB (pb tb base bp:Nat)(w:World)(l:List (Bt ×bC)):Prop:=∃v1 v2,nA pb tb base bp w (l.map (·.1)) (l.map (·.2)) v1 v2
theorem nA.Vt {pb tb base bp g:Nat}{w w6 w7:World}{l1:List Bt}{l2:List bC}{v1 v2 v7:Value}{z:List Value}{x:bC}(h:nA pb tb base bp w l1 l2 v1 v2)(p:xZ pb tb base bp w)
  (t:Turn (fun k=>k=bp) w w6) (hx:nY w6 (fun j=>w.heap.size<=j) z x) {ys zs:List Value}{n7:Nat}(hy:w.ownsRow base 57 4 v2 l2.length ys) (hr:dH (nY w (uI (fun j=>base<=j∧v1.ownBlock≠some j) v2)) 4 ys l2) (hzs:zs.length=4)
  (h7:w7.ownsRow base 57 4 v7 n7 (ys++zs)) (hg:w6.grownBy w7 v2.ownBlock) (hbk:v7.ownBlock=v2.ownBlock∨v7.ownBlock=some w6.heap.size) (hv:v7.ownBlock=some g):
  (nA pb tb base bp ((ny w7 g (l2.length*4) z).setCell ⟨tb,3,none⟩ v7) l1 (l2++[x]) v1 v7∧Turn (fun k=>k=bp∨tb<=k) w ((ny w7 g (l2.length*4) z).setCell ⟨tb,3,none⟩ v7))∧
  (nA pb tb base bp (ny (w7.setCell ⟨tb,3,none⟩ v7) g (l2.length*4) z) l1 (l2++[x]) v1 v7∧Turn (fun k=>k=bp∨tb<=k) w (ny (w7.setCell ⟨tb,3,none⟩ v7) g (l2.length*4) z)):=by
 have:=p.KL;have q1:=p.Ox;have hne:=p.ne;have hbs:=p.JV;have:=p.EU;have:=p.IC;have hz:z.length=4:=by
  obtain⟨_,_,_,_,_,_,_,_,rfl⟩:=hx.shape';rfl
 have hyl:ys.length=l2.length*4:=hy.1;have hs6:=t.size;have ji:=h7.lt g hv;have h6:=h.turn p t;have tg:=Turn.bP hg (F:=fun j=>v2.ownBlock=some j) (fun k h=>h);have hkl:=h.kid.lt;have hgn:∀j,j<w6.heap.size->j=g->v2.ownBlock=some j:=fun j hj e=>by
  subst e;rcases hbk with hb |hb
  ·rw [<-hb];exact hv
  ·rw [hb]at hv;injection hv with hv;omega
 have hbk':v7.ownBlock=v2.ownBlock∨∃m,w6.heap.size<=m∧v7.ownBlock=some m:=hbk.imp id fun e=>⟨_,Nat.le_refl _,e⟩
 have jq:=ah h6.blk tg (fun e=>by have:=(hkl _ e).1;omega);have tp:=fun(w:World)=>gJ g z w (l2.length*4);have ts:=fun(w:World)=>ak w tb 3 v7
 have tA:Turn (fun j=>v2.ownBlock=some j∨j=tb) w6 ((ny w7 g (l2.length*4) z).setCell ⟨tb,3,none⟩ v7):=
  ((tg.mono (G:=fun j=>v2.ownBlock=some j∨j=tb) fun _ _ h=>.inl h).trans (tp w7) (fun i hi e=>.inl (hgn i hi e))).trans (ts _) (fun _ _ h=>.inr h)
 have tB:Turn (fun j=>v2.ownBlock=some j∨j=tb) w6 (ny (w7.setCell ⟨tb,3,none⟩ v7) g (l2.length*4) z):=
  ((tg.mono (G:=fun j=>v2.ownBlock=some j∨j=tb) fun _ _ h=>.inl h).trans (ts _) (fun _ _ h=>.inr h)).trans (tp _) (fun i hi e=>.inl (hgn i hi e))
 have hw:∀w8,Turn (fun j=>v2.ownBlock=some j∨j=tb) w6 w8->Turn (fun k=>k=bp∨tb<=k) w w8:=fun w8 t8=>(t.mono (G:=fun k=>k=bp∨tb<=k) fun _ _ h=>.inl h).trans t8 (fun i _ e=>by
  rcases e with e |e
  ·have:=(hkl i e).1;exact .inr (by omega)
  ·exact .inr (by omega))
 have hyA:((ny w7 g (l2.length*4) z).setCell ⟨tb,3,none⟩ v7).ownsRow base 57 4 v7 n7 (ys++z):=dL (BH h7 hv (by omega) hyl) (ts _) (fun k hk e=>by rw [hv]at hk;injection hk with hk;omega);have hyB:(ny (w7.setCell ⟨tb,3,none⟩ v7) g (l2.length*4) z).ownsRow base 57 4 v7 n7 (ys++z):=BH (dL h7 (ts _) (fun k hk e=>by rw [hv]at hk;injection hk with hk;omega)) hv (by omega) hyl;exact⟨⟨h.type p t hx tA hy hr hyA hbk' (heap_setCell_same _ _ 3 _ _ _ (ah jq (tp _) (by omega))),hw _ tA⟩,⟨h.type p t hx tB hy hr hyB hbk' (ah (heap_setCell_same _ _ 3 _ _ _ jq) (tp _) (by omega)),hw _ tB⟩⟩
theorem Oy (d:Int)(typ:Ps bC)(wP:xX d typ)(w:World)(bp B pb tb base:Nat)(ts:List aD)(l:List (Bt ×bC))(hl:l.length<=8193)(h:bX w bp B ts d)(hI:MB pb tb base bp w l)(hP:xZ pb tb base bp w):
  Calls Tryz.prog 167 #[.pointer (some ⟨tb,0,none⟩),.pointer (some ⟨pb,0,none⟩)] w (eH (MB pb tb base bp) (fun k=>k=bp∨tb<=k) bp B d w (rF (mJ typ) l ts)):=by
 obtain⟨v1,v2,hH⟩:=hI;have p1:=hP.EU;have p2:=hP.IC;have p3:=hP.KL;have p4:=hP.Ox;have p5:=hP.ne;have p6:=hP.JV;have HN:=aZ (gV w.drew bp B ts d h);have hbx:=cu hH.box;obtain⟨t0,t1,t2,t3,tz⟩:=dA hH.blk;obtain⟨A1,c1,hv1,hn1,hm1⟩:=hH.xY.ss.open_;obtain⟨A2,c2,hv2,hn2,hm2⟩:=hH.kid.shape;simp only [List.length_map]at hv1 hn1 hv2 hn2;subst hv1 hv2;have HH:=aZ hH;have HP:=aZ hP;obtain⟨Q,hQ⟩:∃Q,rF (mJ typ) l ts=Q:=⟨_,rfl⟩
 rw [hQ];have HQ:bR (au (mJ typ) (fun x=>aJ (l++[x])) ts=Q):=aZ hQ;clear hH hP h hm1 hm2 hQ;have P0:=aZ (fun(w':World) (h:Turn (fun j=>j=bp∨base<=j) w w')=>aO hbx h (by omega));have P2:=aZ (fun(w':World) (h:Turn (fun j=>j=bp∨base<=j) w w')=>aO t2 h (by omega));have HD0:bR (Turn (fun j=>j=bp∨base<=j) w w.drew):=aZ ⟨rfl,rfl,rfl,Nat.le_refl _,fun _ _ _=>rfl⟩;have mP:bR (Turn (fun j=>j=bp) w w.drew):=aZ ⟨rfl,rfl,rfl,Nat.le_refl _,fun _ _ _=>rfl⟩;go_enter Tryz.func167,Tryz.ntmps167;go_wp2_with fail;refine dn (S:=fun w'=>Turn (fun j=>j=bp∨base<=j) w w') (x:=9) (by kernel_rfl) ?_
 try simp only [Act.put,sq]
 refine tx 0 (.pointer (some ⟨tb,2,none⟩)) HD0.o ?_;refine nM 1 (.slice A1 l.length c1) P2.o HD0.o ?_;refine nM 2 (.pointer (some ⟨bp,0,none⟩)) P0.o HD0.o ?_;refine tx 3 (.pointer (some ⟨bp,0,none⟩)) HD0.o ?_;refine tx 4 (.pointer (some ⟨bp,0,none⟩)) HD0.o ?_;refine ay (rs:=[5]) (by kernel_rfl) (by simp) ?_;refine av.cons rfl (fun K hK=>?_) (av.nil);go_simp;refine(HN.o).mono ?_;rintro e w2 h2;rcases hq:nameP ts with g |⟨s,r⟩
 ·obtain⟨rfl,t2,b2⟩:=h2.bY hq;have HT:=aZ (((mP.o.trans t2 (fun _ _ h=>h)).mono (G:=fun k=>k=bp∨tb<=k) (fun _ _ h=>.inl h)));have HB:=aZ b2;have om:=aZ (HQ.o.symm.trans (aB (aB hq)));clear h2 t2 b2 hq;exact⟨rfl,eH.fail om.o HT.o HB.o⟩
 ·obtain⟨v,rfl,Vu,rfl,k2⟩:=h2.aR hq;have Di:=mP.o.trans Vu (fun _ _ h=>h);have HT2:=aZ (Di.mono (G:=fun j=>j=bp∨base<=j) (fun _ _ h=>.inl h));have Xa:=aZ Di;have nL:=aZ k2;have Rf:=aZ (HH.o.turn HP.o Di);have MC:=aZ (HP.o.turn Di);have om:bR (au (au (aN [58]) fun _=>au typ fun t=>aJ (s,t)) (fun x=>aJ (l++[x])) r=Q):=aZ ((iP (p:=nameP) hq).symm.trans HQ.o);clear h2 Vu k2 hq Di;refine hK.out _ _ HT2.o ?_;clear hK K
  try simp only [Act.put,sq]
  refine ay (rs:=[6]) (by kernel_rfl) (by simp) ?_;refine av.cons rfl (fun K hK=>?_) (av.nil);go_simp;have HT3:=aZ (HT2.o.trans (Turn.alloc (fun j=>j=bp∨base<=j) w2 (.cells #[sv s] 9)) (fun _ _ h=>h));refine hK.out _ _ HT3.o ?_;clear hK K
  try simp only [Act.put,sq]
  refine ay (rs:=[7]) (by kernel_rfl) (by simp) ?_;refine av.cons rfl (fun K hK=>?_) (av.nil);have fI:=aZ (Rf.o.xY.alloc (.cells #[sv s] 9));have Gt:=aZ (rY w2 s 9);have hlen:(mW (l.map (·.1))).length=l.length:=by simp [mW]
  refine gG rfl (.tmp 3) (.tmp 8) _ rfl base oQ (.slice A1 l.length c1) (.slice (some ⟨w2.heap.size,0,none⟩) 1 1) rfl rfl fI.o.row Gt.o (xE _) (by simp [mW,maxLen];omega) (by simp [mW];omega) (by have:=MC.o.JV;simp;omega) (fun v7 w7 n7 aQ ji gq=>?_);obtain⟨A7,c7,rfl,_,_⟩:=lM aQ;obtain⟨ZB,ZC⟩:=Rf.o.name MC.o (o:= .cells #[sv s] 9) (s:=s) (w7:=w7) ⟨n7,by rw [mF];exact aQ⟩ ji gq;have KM:=aZ ZB;have qc:=aZ ZC;have kQ:=aZ (HT3.o.trans (Turn.bP ji (F:=fun j=>j=bp∨base<=j) (fun k e=>.inr (fI.o.lt k e).1)) (fun _ _ h=>h));have t7:w7.cell? ⟨tb,2,none⟩=some (.slice A1 l.length c1):=P2.o _ kQ.o;have z7:∀i,w7.frozen? ⟨tb,i,none⟩=false:=fun i=>by
   have hb:=ah (ah Rf.o.blk (Turn.alloc (fun _=>False) w2 (.cells #[sv s] 9)) id) (Turn.bP ji (F:=fun j=>base<=j) (fun k e=>(fI.o.lt k e).1)) (by omega);exact frozen_of_row _ _ _ _ _ hb
  clear ZB ZC aQ ji gq hlen;refine hK.out _ _ kQ.o ?_;clear hK K
  try simp only [Act.put,sq]
  refine tx 8 (.pointer (some ⟨tb,2,none⟩)) kQ.o ?_;refine ay (rs:=[9]) (by kernel_rfl) (by simp) ?_;refine av.past rfl (by kernel_rfl) (fun K hK=>?_) (av.nil);go_simp;refine hK.out _ _ ?_;clear hK K
  try simp only [Act.put,sq]
  refine aV (by kernel_rfl) ?_ _;have P9:=MC.o.turn qc.o
  have tX:=nL.o.turn qc.o (fun e=>by rcases e with e |e;(have:=(Rf.o.xY.lt _ e).1;omega);omega) (fun k hk e=>by
   have:=nL.o.1;rcases e with e |e
   ·have:=(Rf.o.xY.lt _ e).1;omega
   ·omega)
  have DW:=aZ ((Xa.o.mono (G:=fun k=>k=bp∨tb<=k) (fun _ _ h=>.inl h)).trans qc.o (fun i _ e=>by
   rcases e with e |e
   ·have:=(Rf.o.xY.lt i e).1;exact .inr (by omega)
   ·exact .inr (by omega)))
  have Dj:=aZ P9;have vV:=aZ tX;have HW:=aZ (fG _ bp B r d tX [58] 9 _ rfl);generalize w7.setCell ⟨tb,2,none⟩ _=w8 at*
  have ZE:=cu KM.o.box;clear P9 tX kQ qc t7 z7 HT3 Gt fI HT2 Rf MC nL P0 P2 hbx t0 t1 t2 t3 tz;go_wp2_with fail;refine(HW.o).mono ?_;rintro e w9 h9;rcases hq:aN [58] r with g |⟨u,r9⟩
  ·obtain⟨rfl,t9,b9⟩:=h9.bY hq;have HT:=aZ (DW.o.trans t9 (fun _ _ h=>.inl h));have HB:=aZ b9;have nK:=aZ (om.o.symm.trans (aB (aB hq)));clear h9 t9 b9 hq;go_wp2_with fail;exact⟨rfl,eH.fail nK.o HT.o HB.o⟩
  ·obtain⟨v,rfl,t9,-,k9⟩:=h9.aR hq;have hH9:=KM.o.turn Dj.o t9;have YC:=aZ hH9;have ZF:=aZ (Dj.o.turn t9);have AZ:=aZ (DW.o.trans t9 (fun _ _ h=>.inl h));have Gz:=aZ k9;have nK:bR (au (au typ fun t=>aJ (s,t)) (fun x=>aJ (l++[x])) r9=Q):=aZ ((iP (p:=aN [58]) hq).symm.trans om.o);have ZG:=cu hH9.box;obtain⟨s0,s1,s2,s3,sz⟩:=dA hH9.blk;have P0:=aZ (fun(w':World) (h:Turn (fun j=>j=bp∨base<=j) w9 w')=>aO ZG h (by omega));have P3:=aZ (fun(w':World) (h:Turn (fun j=>j=bp∨base<=j) w9 w')=>aO s3 h (by omega));have HD0:bR (Turn (fun j=>j=bp∨base<=j) w9 w9.drew):=aZ ⟨rfl,rfl,rfl,Nat.le_refl _,fun _ _ _=>rfl⟩;have mP:bR (Turn (fun j=>j=bp) w9 w9.drew):=aZ ⟨rfl,rfl,rfl,Nat.le_refl _,fun _ _ _=>rfl⟩;clear h9 t9 k9 hq hH9 ZE ZG s0 s1 s2 s3 sz;go_wp2_with fail;refine dn (S:=fun w'=>Turn (fun j=>j=bp∨base<=j) w9 w') (x:=10) (by kernel_rfl) ?_
   try simp only [Act.put,sq]
   refine tx 0 (.pointer (some ⟨tb,3,none⟩)) HD0.o ?_;refine nM 1 (.slice A2 l.length c2) P3.o HD0.o ?_;refine nM 2 (.pointer (some ⟨bp,0,none⟩)) P0.o HD0.o ?_;refine tx 4 (.int .i64 l.length) HD0.o ?_;refine ay (rs:=[3,5]) (by kernel_rfl) (by simp) ?_;refine av.cons rfl (fun K hK=>?_) (av.cons rfl (fun K hK=>?_) av.nil)
   ·have uJ:=mP;have El:=aZ (wP w9.drew bp B r9 Gz.o);go_simp;refine(El.o).mono ?_;rintro e oU h10;rcases hq:typ r9 with g |⟨x,tN⟩
    ·obtain⟨rfl,t10,b10⟩:=h10.bY hq;have HT:=aZ (AZ.o.trans (uJ.o.trans t10 (fun _ _ h=>h)) (fun _ _ h=>.inl h));have HB:=aZ b10;have jO:=aZ (nK.o.symm.trans (aB (aB hq)));clear h10 t10 b10 hq;exact⟨rfl,eH.fail jO.o HT.o HB.o⟩
    ·obtain⟨v,rfl,t10,⟨z,rfl,hz⟩,k10⟩:=h10.aR hq;obtain⟨kz,sz,pq,pE,pF,pG,pI,pJ,rfl⟩:=hz.shape';have nC:=aZ (uJ.o.trans t10 (fun _ _ h=>h));have wQ:=aZ (nC.o.mono (G:=fun j=>j=bp∨base<=j) (fun _ _ h=>.inl h));have wR:=aZ k10;have jO:bR (Pr.good (l++[(s,x)]) tN=Q):=aZ ((iP (p:=typ) hq).symm.trans nK.o);have HZ:=aZ (hz.mono (G:=fun j=>w9.heap.size<=j) (fun _ _ h=>Nat.le_trans uJ.o.size h));clear h10 t10 k10 hq hz;refine hK.out _ _ wQ.o ?_;clear hK K
     try simp only [Act.put,sq]
     refine ay (rs:=[5]) (by kernel_rfl) (by simp) ?_;refine av.cons rfl (fun K hK=>?_) (av.nil);go_simp;have kL:=aZ (nC.o.trans (Turn.alloc (fun j=>j=bp) oU (.cells #[.int .i64 0,.string ⟨#[]⟩,.slice none 0 0,.slice none 0 0] 57)) (fun _ _ h=>h));have Xb:=aZ (kL.o.mono (G:=fun j=>j=bp∨base<=j) (fun _ _ h=>.inl h));have KN:=aZ (HZ.o.turn (Turn.alloc (fun _=>False) oU (.cells #[.int .i64 0,.string ⟨#[]⟩,.slice none 0 0,.slice none 0 0] 57)) (fun _ _ _=>id));have sK:=aZ (wR.o.below (new1 oU (.cells #[.int .i64 0,.string ⟨#[]⟩,.slice none 0 0,.slice none 0 0] 57)));have HSL:=aZ (iB oU #[.int .i64 0,.string ⟨#[]⟩,.slice none 0 0,.slice none 0 0] 57 4 1 rfl (by decide));refine hK.out _ _ Xb.o ?_;clear hK K
     try simp only [Act.put,sq]
     refine ay (rs:=[6]) (by kernel_rfl) (by simp) ?_;refine av.cons rfl (fun K hK=>?_) (av.nil);obtain⟨ys,hy,hr⟩:=YC.o.kid;have hyl:ys.length=l.length*4:=by have:=hy.1;simpa using this
     have fI:=aZ (dL hy kL.o (fun g hg e=>by have:=(hy.lt g hg).1;omega));refine gG rfl (.tmp 17) (.tmp 21) _ rfl base Df (.slice A2 l.length c2) _ rfl rfl fI.o HSL.o BI (by simp [maxLen];omega) (by simp;omega) (by have:=ZF.o.JV;have:=kL.o.size;omega) (fun v7 w7 n7 aQ ji gq=>?_);have EW:n7=l.length+1:=by have:=aQ.1;rw [List.length_append,hyl]at this;simp at this;omega
     subst EW;obtain⟨g7,c7,rfl,hgb,hgs,Rh,ME⟩:=dR aQ (by omega);have he:=YC.o.Vt ZF.o kL.o KN.o hy hr (by rfl) aQ ji gq rfl;simp only [List.length_map]at he;have HE:=aZ he;have kR:=aZ ((kL.o.mono (G:=fun j=>j=bp∨base<=j) (fun _ _ h=>.inl h)).trans (Turn.bP ji (F:=fun j=>j=bp∨base<=j) (fun k e=>.inr (hy.lt k e).1)) (fun _ _ h=>h));have oK:=aZ (sK.o.turn (Turn.bP ji (F:=fun j=>base<=j) (fun k e=>(hy.lt k e).1)) (by omega) (fun k hk e=>by have:=sK.o.1;omega));have jq:w7.heap[tb]? =some (.cells #[.int .i64 5,sv [],_,.slice A2 l.length c2] 57 (0,0)):=ah YC.o.blk kR.o (by omega);obtain⟨e0,e1,e2,e3,ez⟩:=dA jq;have o0:=bf aQ rfl (i:=l.length*4) (u:= .int .i64 0) (by rw [List.getElem?_append_right (by omega),hyl,Nat.sub_self];rfl);have o1:=bf aQ rfl (i:=l.length*4+1) (u:= .string ⟨#[]⟩) (by rw [List.getElem?_append_right (by omega),hyl,Nat.add_sub_cancel_left];rfl);have o2:=bf aQ rfl (i:=l.length*4+2) (u:= .slice none 0 0) (by rw [List.getElem?_append_right (by omega),hyl,Nat.add_sub_cancel_left];rfl);have o3:=bf aQ rfl (i:=l.length*4+3) (u:= .slice none 0 0) (by rw [List.getElem?_append_right (by omega),hyl,Nat.add_sub_cancel_left];rfl);obtain⟨o0,q0⟩:=o0;obtain⟨o1,q1⟩:=o1;obtain⟨o2,q2⟩:=o2;obtain⟨o3,q3⟩:=o3;have hne1:¬g7=tb:=by omega
     have hne2:¬tb=g7:=by omega
     clear he aQ ji gq jq hy hr e0 e1 e2;refine hK.out _ _ kR.o ?_;clear hK K
     try simp only [Act.put,sq]
     refine tt 7 (.pointer (some ⟨g7,l.length*4,none⟩)) (fun _=>kR.o) (hy:=by intro w' hSw;go_simp <;> (intro h;omega)) ?_;refine tt 9 (.pointer (some ⟨tb,3,none⟩)) (fun _=>kR.o) ?_;refine ay (rs:=[8,10]) (by kernel_rfl) (by simp) ?_;refine av.cons rfl (fun K hK=>?_) (av.past rfl (by kernel_rfl) (fun K hK=>?_) av.nil)
     ·go_simp;have tO:=aZ (kR.o.trans (gJ g7 [.int .i64 kz,sv sz,.slice pq pE pF,.slice pG pI pJ] w7 (l.length*4)) (fun _ _ h=>.inr (by omega)));refine hK.out _ _ tO.o ?_;clear hK K
      try simp only [Act.put,sq]
      refine ay (rs:=[10]) (by kernel_rfl) (by simp) ?_;refine av.past rfl (by kernel_rfl) (fun K hK=>?_) (av.nil);go_simp;refine hK.out _ _ ?_;clear hK K
      try simp only [Act.put,sq]
      refine aV (by kernel_rfl) ?_ _;have Xc:=oK.o.turn (((gJ g7 [.int .i64 kz,sv sz,.slice pq pE pF,.slice pG pI pJ] w7 (l.length*4)).mono (G:=fun k=>k=g7∨k=tb) (fun _ _ h=>.inl h)).trans (ak _ tb 3 (.slice (some ⟨g7,0,none⟩) (l.length+1) c7)) (fun _ _ h=>.inr h)) (fun e=>by rcases e with e |e <;> omega) (fun k hk e=>by have:=sK.o.1;rcases e with e |e <;> omega);go_wp2_with fail;go_end0;exact eH.done jO.o.symm (AZ.o.trans HE.o.1.2 (fun _ _ h=>h)) ⟨_,_,by rw [List.map_append,List.map_append];exact HE.o.1.1⟩ Xc
     ·go_simp;refine hK.out _ _ ?_;clear hK K
      try simp only [Act.put,sq]
      refine ay (rs:=[8]) (by kernel_rfl) (by simp) ?_;refine av.past rfl (by kernel_rfl) (fun K hK=>?_) (av.nil);go_simp;refine hK.out _ _ ?_;clear hK K
      try simp only [Act.put,sq]
      refine aV (by kernel_rfl) ?_ _;have Xc:=oK.o.turn (((ak w7 tb 3 (.slice (some ⟨g7,0,none⟩) (l.length+1) c7)).mono (G:=fun k=>k=g7∨k=tb) (fun _ _ h=>.inr h)).trans (gJ g7 [.int .i64 kz,sv sz,.slice pq pE pF,.slice pG pI pJ] _ (l.length*4)) (fun _ _ h=>.inl h)) (fun e=>by rcases e with e |e <;> omega) (fun k hk e=>by have:=sK.o.1;rcases e with e |e <;> omega);go_wp2_with fail;go_end0;exact eH.done jO.o.symm (AZ.o.trans HE.o.2.2 (fun _ _ h=>h)) ⟨_,_,by rw [List.map_append,List.map_append];exact HE.o.2.1⟩ Xc
   ·skip
    go_simp;have Kw:=aZ (HD0.o.trans (Turn.alloc (fun j=>j=bp∨base<=j) w9.drew (.cells #[.int .i64 0,.string ⟨#[]⟩,.slice none 0 0,.slice none 0 0] 57)) (fun _ _ h=>h));have El:=aZ (wP _ bp B r9 (bX.below (w:=w9.drew) Gz.o (new1 w9.drew (.cells #[.int .i64 0,.string ⟨#[]⟩,.slice none 0 0,.slice none 0 0] 57))));have uJ:=aZ (mP.o.trans (Turn.alloc (fun j=>j=bp) w9.drew (.cells #[.int .i64 0,.string ⟨#[]⟩,.slice none 0 0,.slice none 0 0] 57)) (fun _ _ h=>h));refine hK.out _ _ Kw.o ?_;clear hK K
    try simp only [Act.put,sq]
    refine ay (rs:=[3]) (by kernel_rfl) (by simp) ?_;refine av.cons rfl (fun K hK=>?_) (av.nil);go_simp;refine(El.o).mono ?_;rintro e oU h10;rcases hq:typ r9 with g |⟨x,tN⟩
    ·obtain⟨rfl,t10,b10⟩:=h10.bY hq;have HT:=aZ (AZ.o.trans (uJ.o.trans t10 (fun _ _ h=>h)) (fun _ _ h=>.inl h));have HB:=aZ b10;have jO:=aZ (nK.o.symm.trans (aB (aB hq)));clear h10 t10 b10 hq;exact⟨rfl,eH.fail jO.o HT.o HB.o⟩
    ·obtain⟨v,rfl,t10,⟨z,rfl,hz⟩,k10⟩:=h10.aR hq;obtain⟨kz,sz,pq,pE,pF,pG,pI,pJ,rfl⟩:=hz.shape';have nC:=aZ (uJ.o.trans t10 (fun _ _ h=>h));have wQ:=aZ (nC.o.mono (G:=fun j=>j=bp∨base<=j) (fun _ _ h=>.inl h));have wR:=aZ k10;have jO:bR (Pr.good (l++[(s,x)]) tN=Q):=aZ ((iP (p:=typ) hq).symm.trans nK.o);have HZ:=aZ (hz.mono (G:=fun j=>w9.heap.size<=j) (fun _ _ h=>Nat.le_trans uJ.o.size h));have kL:=nC;have KN:=HZ;have sK:=wR;have HSL:=aZ (qE w9.drew #[.int .i64 0,.string ⟨#[]⟩,.slice none 0 0,.slice none 0 0] 57 4 1 rfl (by decide) t10 (by have:=ZF.o.JV;have hs:w9.drew.heap.size=w9.heap.size:=rfl;omega));clear h10 t10 k10 hq hz;refine hK.out _ _ wQ.o ?_;clear hK K
     try simp only [Act.put,sq]
     refine ay (rs:=[6]) (by kernel_rfl) (by simp) ?_;refine av.cons rfl (fun K hK=>?_) (av.nil);obtain⟨ys,hy,hr⟩:=YC.o.kid;have hyl:ys.length=l.length*4:=by have:=hy.1;simpa using this
     have fI:=aZ (dL hy kL.o (fun g hg e=>by have:=(hy.lt g hg).1;omega));refine gG rfl (.tmp 17) (.tmp 21) _ rfl base Df (.slice A2 l.length c2) _ rfl rfl fI.o HSL.o BI (by simp [maxLen];omega) (by simp;omega) (by have:=ZF.o.JV;have:=kL.o.size;omega) (fun v7 w7 n7 aQ ji gq=>?_);have EW:n7=l.length+1:=by have:=aQ.1;rw [List.length_append,hyl]at this;simp at this;omega
     subst EW;obtain⟨g7,c7,rfl,hgb,hgs,Rh,ME⟩:=dR aQ (by omega);have he:=YC.o.Vt ZF.o kL.o KN.o hy hr (by rfl) aQ ji gq rfl;simp only [List.length_map]at he;have HE:=aZ he;have kR:=aZ ((kL.o.mono (G:=fun j=>j=bp∨base<=j) (fun _ _ h=>.inl h)).trans (Turn.bP ji (F:=fun j=>j=bp∨base<=j) (fun k e=>.inr (hy.lt k e).1)) (fun _ _ h=>h));have oK:=aZ (sK.o.turn (Turn.bP ji (F:=fun j=>base<=j) (fun k e=>(hy.lt k e).1)) (by omega) (fun k hk e=>by have:=sK.o.1;omega));have jq:w7.heap[tb]? =some (.cells #[.int .i64 5,sv [],_,.slice A2 l.length c2] 57 (0,0)):=ah YC.o.blk kR.o (by omega);obtain⟨e0,e1,e2,e3,ez⟩:=dA jq;have o0:=bf aQ rfl (i:=l.length*4) (u:= .int .i64 0) (by rw [List.getElem?_append_right (by omega),hyl,Nat.sub_self];rfl);have o1:=bf aQ rfl (i:=l.length*4+1) (u:= .string ⟨#[]⟩) (by rw [List.getElem?_append_right (by omega),hyl,Nat.add_sub_cancel_left];rfl);have o2:=bf aQ rfl (i:=l.length*4+2) (u:= .slice none 0 0) (by rw [List.getElem?_append_right (by omega),hyl,Nat.add_sub_cancel_left];rfl);have o3:=bf aQ rfl (i:=l.length*4+3) (u:= .slice none 0 0) (by rw [List.getElem?_append_right (by omega),hyl,Nat.add_sub_cancel_left];rfl);obtain⟨o0,q0⟩:=o0;obtain⟨o1,q1⟩:=o1;obtain⟨o2,q2⟩:=o2;obtain⟨o3,q3⟩:=o3;have hne1:¬g7=tb:=by omega
     have hne2:¬tb=g7:=by omega
     clear he aQ ji gq jq hy hr e0 e1 e2;refine hK.out _ _ kR.o ?_;clear hK K
     try simp only [Act.put,sq]
     refine tt 7 (.pointer (some ⟨g7,l.length*4,none⟩)) (fun _=>kR.o) (hy:=by intro w' hSw;go_simp <;> (intro h;omega)) ?_;refine tt 9 (.pointer (some ⟨tb,3,none⟩)) (fun _=>kR.o) ?_;refine ay (rs:=[8,10]) (by kernel_rfl) (by simp) ?_;refine av.cons rfl (fun K hK=>?_) (av.past rfl (by kernel_rfl) (fun K hK=>?_) av.nil)
     ·go_simp;have tO:=aZ (kR.o.trans (gJ g7 [.int .i64 kz,sv sz,.slice pq pE pF,.slice pG pI pJ] w7 (l.length*4)) (fun _ _ h=>.inr (by omega)));refine hK.out _ _ tO.o ?_;clear hK K
      try simp only [Act.put,sq]
      refine ay (rs:=[10]) (by kernel_rfl) (by simp) ?_;refine av.past rfl (by kernel_rfl) (fun K hK=>?_) (av.nil);go_simp;refine hK.out _ _ ?_;clear hK K
      try simp only [Act.put,sq]
      refine aV (by kernel_rfl) ?_ _;have Xc:=oK.o.turn (((gJ g7 [.int .i64 kz,sv sz,.slice pq pE pF,.slice pG pI pJ] w7 (l.length*4)).mono (G:=fun k=>k=g7∨k=tb) (fun _ _ h=>.inl h)).trans (ak _ tb 3 (.slice (some ⟨g7,0,none⟩) (l.length+1) c7)) (fun _ _ h=>.inr h)) (fun e=>by rcases e with e |e <;> omega) (fun k hk e=>by have:=sK.o.1;rcases e with e |e <;> omega);go_wp2_with fail;go_end0;exact eH.done jO.o.symm (AZ.o.trans HE.o.1.2 (fun _ _ h=>h)) ⟨_,_,by rw [List.map_append,List.map_append];exact HE.o.1.1⟩ Xc
     ·go_simp;refine hK.out _ _ ?_;clear hK K
      try simp only [Act.put,sq]
      refine ay (rs:=[8]) (by kernel_rfl) (by simp) ?_;refine av.past rfl (by kernel_rfl) (fun K hK=>?_) (av.nil);go_simp;refine hK.out _ _ ?_;clear hK K
      try simp only [Act.put,sq]
      refine aV (by kernel_rfl) ?_ _;have Xc:=oK.o.turn (((ak w7 tb 3 (.slice (some ⟨g7,0,none⟩) (l.length+1) c7)).mono (G:=fun k=>k=g7∨k=tb) (fun _ _ h=>.inr h)).trans (gJ g7 [.int .i64 kz,sv sz,.slice pq pE pF,.slice pG pI pJ] _ (l.length*4)) (fun _ _ h=>.inl h)) (fun e=>by rcases e with e |e <;> omega) (fun k hk e=>by have:=sK.o.1;rcases e with e |e <;> omega);go_wp2_with fail;go_end0;exact eH.done jO.o.symm (AZ.o.trans HE.o.2.2 (fun _ _ h=>h)) ⟨_,_,by rw [List.map_append,List.map_append];exact HE.o.2.1⟩ Xc
theorem nD {l:List Bt}{ts r:List aD}{i:Nat}(h:dJ l ts=.good (some i) r):i<l.length:=by
 unfold dJ at h;split at h
 ·cases h
 ·rename_i j hj
  injection h with h1 _;injection h1 with h1;subst h1;exact(List.findIdx?_eq_some_iff_getElem.1 hj).1
theorem kS {bp a:Nat}{w w1:World}{v0 v1 v2 v3:Value}(h:Turn (fun k=>k=bp) w w1)(ha:w.heap.size<=a):Turn (fun k=>k=bp) w (dW w1 a v0 v1 v2 v3):=h.trans (eO w1 a v0 v1 v2 v3) (fun i hi e=>by omega)
theorem bX.yc {bp B a:Nat}{w1:World}{ts:List aD}{d:Int}{v0 v1 v2 v3:Value}(h:bX w1 bp B ts d)(ha:bp<a):bX (dW w1 a v0 v1 v2 v3) bp B ts d:=h.turn (eO _ _ _ _ _ _) (by omega) (fun k hk e=>by have:=h.1;omega)
theorem Ri {typ:Ps bC}(ht:Sf typ):Sf (mJ typ):=Sf.then_ Sf.name fun s=>Sf.then_ (Sf.want _) fun _=>Sf.then_ ht fun t=>Sf.ret _
theorem nA.MF {pb tb base bp:Nat}{w w':World}{l1:List Bt}{l2:List bC}{v1 v2:Value}(h:nA pb tb base bp w l1 l2 v1 v2)(t:Turn (fun k=>k=bp) w w')(h1:bp<pb)(h2:bp<tb)(h3:bp<base):nA pb tb base bp w' l1 l2 v1 v2:=
 ⟨ah h.box t (by omega),ah h.blk t (by omega),h.xY.turn t (fun g hg e=>by have:=(h.xY.lt g hg).1;omega),h.kid.turn bL t (fun g hg e=>by have:=(h.kid.lt g hg).1;omega) (fun g _ hg e=>by have:=hg.1;omega),h.ne⟩
theorem IE (d:Int)(typ:Ps bC)(wP:xX d typ)(hsf:Sf typ)(w:World)(bp B:Nat)(ts:List aD)(h:bX w bp B ts d):
  Calls Tryz.prog 113 #[.pointer (some ⟨bp,0,none⟩)] w (aG (PTy w.heap.size) bp B d w (jT typ ts)):=by
 have hlt:=h.lt;have hB:=h.1;obtain⟨Q,hQ⟩:∃Q,jT typ ts=Q:=⟨_,rfl⟩
 rw [hQ];have HQ:=aZ hQ;have HC:=aZ (o8 ((w.alloc (.cells #[.pointer (some ⟨bp,0,none⟩)] 91)).alloc (.cells #[.int .i64 0,.string ⟨#[]⟩,.slice none 0 0,.slice none 0 0] 57)) bp B ts d (h.below (new2 _ _ _)) KC #[.string ⟨#[97,110,121]⟩,.string ⟨#[110,117,108,108]⟩,.string ⟨#[98,111,111,108]⟩,.string ⟨#[105,110,116]⟩,.string ⟨#[115,116,114]⟩] 9 5 (w.heap.size+1+1));clear h hQ;go_enter Tryz.func113,Tryz.ntmps113;go_wp2_with fail;refine(HC.o).mono ?_;rintro e w1 h1;rcases hq:dJ KC ts with g |⟨o,r1⟩
 ·obtain⟨rfl,tn,bn⟩:=h1.bY hq;exact(iO hq).elim
 ·obtain⟨v1,rfl,tn,hP,kn⟩:=h1.aR hq;obtain⟨tm,hsz,hbx,hrs⟩:=jC tn;have vo:=aZ (hbx (by omega));have Ms:=aZ (hrs (by omega));obtain rfl:=hP;have hq1:=aZ hq;clear hbx hrs;have hs1:=tm.size;have HT1:=aZ (tm);have qj:=aZ kn;clear h1 tn kn hq;rcases o with _ |i
  ·have HQa:bR (au (dJ [[40],[123]]) (fun c=>match c with |none=>au nameP fun s=>aJ (.mk 8 s [] []) |some 0=>au typ fun t=>au (aN [41]) fun _=>aJ t |some _=>au (fF [125]) fun e=>if e then aJ (.mk 5 [] [] [])else au (jN (mJ typ)) fun l=>au (aN [125]) fun _=>aJ (.mk 5 [] (l.map (·.1)) (l.map (·.2)))) r1=Q):=aZ ((aj hq1.o).symm.trans HQ.o);have Zz:=aZ (o8 w1 bp B r1 d qj.o [[40],[123]] #[.string ⟨#[40]⟩,.string ⟨#[123]⟩] 9 2 w1.heap.size);have hbx:=cu vo.o;go_wp2_with fail;refine(Zz.o).mono ?_;rintro e w2 h2;rcases hq:dJ [[40],[123]] r1 with g |⟨o,r2⟩
   ·obtain⟨rfl,tn,bn⟩:=h2.bY hq;exact(iO hq).elim
   ·obtain⟨v2,rfl,tn,rfl,kn⟩:=h2.aR hq;have hs2:=tn.size;have HT2:=aZ (aA HT1.o tn);have nL:=aZ kn;have MG:=aZ (ah vo.o tn (by omega));have rH:=aZ (ah Ms.o tn (by omega));have hq2:=aZ hq;clear h2 tn kn hq;have Xd:=cu MG.o;clear hbx;rcases o with _ |j
    ·have Vv:bR (au nameP (fun s=>aJ (bC.mk 8 s [] [])) r2=Q):=aZ ((aj hq2.o).symm.trans HQa.o);have HN:=aZ (gV w2 bp B r2 d nL.o);go_wp2_with fail;refine(HN.o).mono ?_;rintro e w3 h3;rcases hq:nameP r2 with g |⟨s,r3⟩
     ·obtain⟨rfl,tn,bn⟩:=h3.bY hq;have HB:=aZ (fA.mk2 (aA HT2.o tn) bn);have dU:=aZ (Vv.o.symm.trans (aB hq));clear h3 tn bn hq;go_wp2_with fail;exact⟨rfl,aG.fail dU.o HB.o⟩
     ·obtain⟨v3,rfl,tn,rfl,kn⟩:=h3.aR hq;have hs3:=tn.size;have HT3:=aZ (aA HT2.o tn);have lZ:=aZ kn;have jO:bR (aJ (bC.mk 8 s [] []) r3=Q):=aZ ((aj hq).symm.trans Vv.o);have ae2:=aZ (ah MG.o tn (by omega));have EX:=aZ (ah rH.o tn (by omega));clear h3 tn kn hq;obtain⟨c0,c1,c2,c3,cz⟩:=dA EX.o;go_wp2_with fail;refine bodyPost_ret (bD rfl rfl (bA EX.o _ _ _ _) Tryz.underlying57 rfl (by kernel_rfl)) rfl ?_;exact aG.done jO.o.symm (kS HT3.o (by omega)) ⟨_,rfl,rG _ _ 8 s⟩ (lZ.o.yc (by omega))
    ·have hj:=nD hq2.o;simp only [List.length_cons,List.length_nil]at hj;obtain rfl |rfl:j=0∨j=1:=by omega
     ·have Vv:bR (au typ (fun t=>au (aN [41]) fun _=>aJ t) r2=Q):=aZ ((aj hq2.o).symm.trans HQa.o);have HN:=aZ (wP w2 bp B r2 nL.o);go_wp2_with fail;refine(HN.o).mono ?_;rintro e w4 h4;rcases hq:typ r2 with g |⟨t,r4⟩
      ·obtain⟨rfl,tn,bn⟩:=h4.bY hq;have HB:=aZ (fA.mk2 (aA HT2.o tn) bn);have dU:=aZ (Vv.o.symm.trans (aB hq));clear h4 tn bn hq;go_wp2_with fail;exact⟨rfl,aG.fail dU.o HB.o⟩
      ·obtain⟨v4,rfl,tn,⟨z,rfl,hz⟩,kn⟩:=h4.aR hq;obtain⟨kz,sz,pq,pE,pF,pG,pI,pJ,rfl⟩:=hz.shape';have ZH:=tn.size;have HZ:=aZ hz.iv;clear hz;have hs4:=tn.size;have iX:=aZ (aA HT2.o tn);have mR:=aZ kn;have iF:bR (au (aN [41]) (fun _=>aJ t) r4=Q):=aZ ((aj hq).symm.trans Vv.o);have Vw:=aZ (ah MG.o tn (by omega));have uK:=aZ (ah rH.o tn (by omega));clear h4 tn kn hq;have HN:=aZ (fG (w4.alloc (.cells #[.int .i64 kz,sv sz,.slice pq pE pF,.slice pG pI pJ] 57)) bp B r4 d (mR.o.below (new1 _ _)) [41] 9 (w4.heap.size+1));have Rj:=cu Vw.o;have agS:=World.block_lt_of_cell? _ _ Rj;go_wp2_with fail;refine(HN.o).mono ?_;rintro e w5 h5;rcases hq:aN [41] r4 with g |⟨u,r5⟩
       ·obtain⟨rfl,tn,bn⟩:=h5.bY hq;have tn:=(bT tn).1;have HB:=aZ (fA.mk2 (aA iX.o tn) bn);have dU:=aZ (iF.o.symm.trans (aB hq));clear h5 tn bn hq;go_wp2_with fail;exact⟨rfl,aG.fail dU.o HB.o⟩
       ·obtain⟨v5,rfl,tn,-,kn⟩:=h5.aR hq;obtain⟨tm,hsz5,hbt⟩:=bT tn;have nJ:=aZ (hbt (by omega));have zZ:=aZ (HZ.o.turn tm (fun g _ h e=>by have:=h.1;omega));clear hbt;have hs5:=tm.size;have iQ:=aZ (aA iX.o tm);have ql:=aZ kn;have jF:bR (aJ t r5=Q):=aZ ((aj hq).symm.trans iF.o);have ae3:=aZ (ah Vw.o tm (by omega));have Vx:=aZ (ah uK.o tm (by omega));clear h5 tn kn hq;obtain⟨c0,c1,c2,c3,cz⟩:=dA Vx.o;obtain⟨e0,e1,e2,e3,ez⟩:=dA nJ.o;go_wp2_with fail;refine bodyPost_ret (bD rfl rfl (bA Vx.o _ _ _ _) Tryz.underlying57 rfl (by kernel_rfl)) rfl ?_;exact aG.done jF.o.symm (kS iQ.o (by omega)) ⟨_,rfl,(zZ.o.turn (eO _ _ _ _ _ _) (fun g _ h e=>by have:=h.1;omega)).mono (fun g _ h=>by have:=h.1;omega)⟩ (ql.o.yc (by omega))
     ·have Vv:bR (au (fF [125]) (fun e=>if e then aJ (bC.mk 5 [] [] [])else au (jN (mJ typ)) fun l=>au (aN [125]) fun _=>aJ (.mk 5 [] (l.map (·.1)) (l.map (·.2)))) r2=Q):=aZ ((aj hq2.o).symm.trans HQa.o);have HN:=aZ (lF (w2.alloc (.cells #[.int .i64 5,.string ⟨#[]⟩,.slice none 0 0,.slice none 0 0] 57)) bp B r2 d (nL.o.below (new1 _ _)) [125]);have agT:=World.block_lt_of_cell? _ _ Xd;go_wp2_with fail;refine(HN.o).mono ?_;rintro e w6 h6;rcases hq:fF [125] r2 with g |⟨b,r6⟩
      ·obtain⟨rfl,tn,bn⟩:=h6.bY hq;exact(je hq).elim
      ·obtain⟨v6,rfl,tn,rfl,kn⟩:=h6.aR hq;obtain⟨tm,agU,hbt⟩:=bT tn;have nJ:=aZ (hbt (by omega));have hq6:=aZ hq;clear hbt;have hs6:=tm.size;have pK:=aZ (aA HT2.o tm);have z8:=aZ kn;have Vy:=aZ (ah MG.o tm (by omega));have Rk:=aZ (ah rH.o tm (by omega));clear h6 tn kn hq;cases b
       ·have HQc:bR (au (jN (mJ typ)) (fun l=>au (aN [125]) fun _=>aJ (.mk 5 [] (l.map (·.1)) (l.map (·.2)))) r6=Q):=aZ ((aj hq6.o).symm.trans Vv.o);have Mh:∀(fn:Fn) (first cap:Array Value) (w:World),(Instr.makeFunc fn first cap).run Tryz.prog w=.ok (.func fn first cap) w:=fun _ _ _ _=>rfl;have hpp:xZ w.heap.size w2.heap.size (w2.heap.size+1) bp w6:=⟨by omega,by omega,by omega,by omega,by omega,by omega⟩
        have hpi:MB w.heap.size w2.heap.size (w2.heap.size+1) bp w6 []:=⟨_,_,Vy.o,nJ.o,gX.nil _ _ _,iN.nil _ _ _ _ _ _,fun _ h=>by cases h⟩
        have Rl:=aZ (lW (mJ typ) (Ri hsf) 167 #[.pointer (some ⟨w2.heap.size,0,none⟩),.pointer (some ⟨w.heap.size,0,none⟩)] (MB w.heap.size w2.heap.size (w2.heap.size+1) bp) (fun k=>k=bp∨w2.heap.size<=k) d w6 bp B r6 (.inl rfl)
         (fun a b l t h=>by obtain⟨x,y,h⟩:=h;have hs:=t.size;exact⟨x,y,h.MF t (by omega) (by omega) (by omega)⟩) (fun g h=>.inr (by omega))
         (fun w1 r l hl hw hi hk=>Oy d typ wP w1 bp B _ _ _ r l hl hk hi ⟨hpp.EU,hpp.IC,hpp.KL,hpp.Ox,hpp.ne,by have:=hpp.JV;omega⟩) (fun _=>by kernel_rfl) z8.o hpi)
        clear hpi;have hbx:=cu Vy.o;go_wp2_with fail;refine(Rl.o).mono ?_;rintro e w7 h7;rcases hq:jN (mJ typ) r6 with g |⟨l,r7⟩
        ·obtain⟨rfl,tn,bn⟩:=h7.bY hq;have HB:=aZ (fA.mk2 (pK.o.trans tn (fun i hi e=>by rcases e with e |e <;> omega)) bn);have dU:=aZ (HQc.o.symm.trans (aB hq));clear h7 tn bn hq;go_wp2_with fail;exact⟨rfl,aG.fail dU.o HB.o⟩
        ·obtain⟨rfl,tn,⟨x1,x2,hI⟩,kn⟩:=h7.aR hq;have hs7:=tn.size;have kQ:=aZ (pK.o.trans tn (fun i hi e=>by rcases e with e |e <;> omega));have oK:=aZ kn;have Bh:bR (au (aN [125]) (fun _=>aJ (.mk 5 [] (l.map (·.1)) (l.map (·.2)))) r7=Q):=aZ ((aj hq).symm.trans HQc.o);have HI7:=aZ hI;have wS:=aZ (ah Rk.o tn (by omega));have HN:=aZ (fG w7 bp B r7 d kn [125] 9 w7.heap.size);have agW:=cu hI.box;clear h7 tn kn hq hI hbx;go_wp2_with fail;refine(HN.o).mono ?_;rintro e w8 h8;rcases hq:aN [125] r7 with g |⟨u,r8⟩
         ·obtain⟨rfl,tn,bn⟩:=h8.bY hq;have HB:=aZ (fA.mk2 (aA kQ.o tn) bn);have dU:=aZ (Bh.o.symm.trans (aB hq));clear h8 tn bn hq;go_wp2_with fail;exact⟨rfl,aG.fail dU.o HB.o⟩
         ·obtain⟨v8,rfl,tn,-,kn⟩:=h8.aR hq;have hI8:=HI7.o.MF tn (by omega) (by omega) (by omega);have YD:=aZ hI8;have zm:=tn.size;have qc:=aZ (aA kQ.o tn);have vV:=aZ kn;have Tp:bR (aJ (.mk 5 [] (l.map (·.1)) (l.map (·.2))) r8=Q):=aZ ((aj hq).symm.trans Bh.o);have Vz:=aZ (ah wS.o tn (by omega));clear h8 tn kn hq;obtain⟨A1,d1,hv1,hd1,_⟩:=lM YD.o.xY.row;obtain⟨A2,d2,hv2,hd2,_⟩:=YD.o.kid.shape;rw [List.length_map]at hv1 hv2;subst hv1 hv2;obtain⟨e0,e1,e2,e3,ez⟩:=dA YD.o.blk;obtain⟨c0,c1,c2,c3,cz⟩:=dA Vz.o;go_wp2_with fail;have tF:=eO w8 (w.heap.size+1) (.int .i64 5) (sv []) (.slice A1 l.length d1) (.slice A2 l.length d2);obtain⟨xs,k1,k2⟩:=YD.o.kid.sl bL;have kN:=eD.own YD.o.xY.row (F:=fun j=>w2.heap.size+1<=j) (fun g hg=>(YD.o.xY.lt g hg).1);refine bodyPost_ret (bD rfl rfl (bA Vz.o _ _ _ _) Tryz.underlying57 rfl (by kernel_rfl)) rfl ?_;exact aG.done Tp.o.symm (kS qc.o (by omega)) ⟨_,rfl,.mk ((kN.turn tF (fun g _ h e=>by omega)).mono (fun g _ h=>by omega)) ((k1.turn tF (fun g _ h e=>by rcases h with h |h;omega;(have:=h.1;omega))).mono (fun g _ h=>by rcases h with h |h;omega;(have:=h.1;omega))) (sI (eX bL (fun g _ h=>by rcases h with h |h;omega;(have:=h.1;omega)) (bU bL tF (fun g _ h e=>by rcases h with h |h;omega;(have:=h.1;omega)) k2)))⟩ (vV.o.yc (by omega))
       ·have HQc:bR (Pr.good (bC.mk 5 [] [] []) r6=Q):=aZ ((aj hq6.o).symm.trans Vv.o);obtain⟨c0,c1,c2,c3,cz⟩:=dA Rk.o;obtain⟨e0,e1,e2,e3,ez⟩:=dA nJ.o;go_wp2_with fail;refine bodyPost_ret (bD rfl rfl (bA Rk.o _ _ _ _) Tryz.underlying57 rfl (by kernel_rfl)) rfl ?_;exact aG.done HQc.o.symm (kS pK.o (by omega)) ⟨_,rfl,rG _ _ 5 []⟩ (z8.o.yc (by omega))
  ·have hi:=nD hq1.o;have om:bR (Pr.good (bC.mk i [] [] []) r1=Q):=aZ ((aj hq1.o).symm.trans HQ.o);obtain⟨c0,c1,c2,c3,cz⟩:=dA Ms.o;go_wp2_with fail;refine bodyPost_ret (bD rfl rfl (bA Ms.o _ _ _ _) Tryz.underlying57 rfl (by kernel_rfl)) rfl ?_;exact aG.done om.o.symm (kS HT1.o (by omega)) ⟨_,rfl,rG _ _ i []⟩ (qj.o.yc (by omega))
end Go.Proofs.YtfgjkmipfikooaaGreatDoor
