/- YB, ZF, FB, HD, RA, RB, Shelf, WG -/
import Derived.Test.YtmbppnbekkbibaaGreatDoorLB01
import Derived.Shelf.Strings.Builder1
import Derived.Shelf.Strings.Builder2
import Derived.Shelf.Strings.OnBuilder
import Derived.Shelf.Small.Strs
import Derived.Shelf.Strings.BuilderF
import Derived.Shelf.Strings.BuilderK
import Derived.Shelf.Strconv.Atoi
import Derived.Shelf.Strconv.Itoa0
import Derived.Shelf.Strconv.Itoa1
import Derived.Shelf.LaysM
import Derived.Shelf.Strconv.Itoa2
import Derived.Shelf.Strconv.Itoa3
import Derived.Shelf.Strconv.AtoiErrFast
import Derived.Shelf.Strconv.ParseIntEmpty
import Derived.Shelf.Strconv.AtoiFail
import Derived.Shelf.Strconv.Clone
import Derived.Shelf.Strconv.SyntaxError
import Derived.Shelf.LaysC
import Derived.Shelf.Strconv.ToError
import Derived.Shelf.Strconv.Lower
import Derived.Shelf.Strconv.ParseUint10
import Derived.Shelf.Strconv.ParseUint10Empty
import Derived.Shelf.Strconv.ParseUint10Any
import Derived.Shelf.Strconv.ParseInt10
import Derived.Shelf.Strconv.AtoiLong
import Derived.Shelf.Strconv.AtoiInnerAll
import Derived.Shelf.Strconv.RangeError
import Derived.Shelf.Strconv.ToErrorRange
import Derived.Shelf.Strconv.AtoiAll
import Derived.Shelf.Strconv.ErrVarAll
import Derived.Shelf.Strings.Search1
import Derived.Shelf.Strings.Search2
import Derived.Shelf.Strings.Search3
import Derived.Shelf.Strings.Count
import Derived.Shelf.Strings.Shaped
import Derived.Shelf.GgClosure.StringsIndexFunc
import Derived.Shelf.Strings.Split
import Derived.Shelf.Strings.Fields
import Derived.Shelf.Strings.SplitShaped
import Derived.Shelf.Unicode.Latin
import Derived.Shelf.Unicode.Is16White
import Derived.Shelf.Unicode.IsSpaceAny
import Derived.Shelf.Unicode.Is16WhiteD
import Derived.Shelf.Unicode.IsSpaceAnyD
import Derived.Shelf.Strings.FieldsAny
import Derived.Shelf.Strings.FieldsFuncAny
import Derived.Shelf.Unicode.Is16Any
import Derived.Shelf.Unicode.Is32Any
import Derived.Shelf.Unicode.ExclAny
import Derived.Shelf.Slices.Turned
import Derived.Test.YtmbppnbekkbibaaGreatDoorProg
import Derived.WalkKit
import Derived.WalkSpells
import Derived.WalkLawsBesides
import Derived.RegionTactic
import Derived.Deep.QuietTactic
set_option linter.unusedSimpArgs false
set_option linter.unusedVariables false
set_option maxHeartbeats 400000
section
namespace Go.Proofs.YtmbppnbekkbibaaGreatDoor
open Go.RowKit
theorem bQ.imp {α:Type} {R S:List Value→α→Prop} {k:Nat} (hS:∀z c,R z c→S z c):∀ {xs:List Value} {ys:List α},bQ R k xs ys→bQ S k xs ys
 | _, _, .nil=> .nil
 | _, _, .cons h1 h2 h3=> .cons h1 (hS _ _ h2) (bQ.imp hS h3)
theorem bQ.at {α:Type} {R:List Value→α→Prop} {k:Nat}:∀ {xs:List Value} {ys:List α},bQ R k xs ys→∀(i:Nat) (hi:i<ys.length),R ((xs.drop (i*k)).take k) ys[i]
 | _, _, .nil,i,hi=>by simp at hi
 | _, _, .cons (x:=x) (y:=y) h1 h2 h3,i,hi=>by
  rcases i with _ | i
  ·rw [Nat.zero_mul,List.drop_zero, ←h1,List.take_left];exact h2
  ·have:(x++y).drop ((i+1)*k)=y.drop (i*k):=by
    rw [show(i+1)*k=x.length+i*k by rw [h1,Nat.add_mul,Nat.one_mul,Nat.add_comm], ←List.drop_drop,List.drop_left]
   rw [this];exact bQ.at h3 i (by simpa using hi)
theorem bQ.and {α:Type} {R S:List Value→α→Prop} {k:Nat}:∀ {xs:List Value} {ys:List α},bQ (fun z c=>R z c∧S z c) k xs ys→bQ R k xs ys∧bQ S k xs ys
 | _, _, .nil=>⟨.nil, .nil⟩
 | _, _, .cons h1 h2 h3=>⟨.cons h1 h2.1 (bQ.and h3).1, .cons h1 h2.2 (bQ.and h3).2⟩
theorem bQ.app {α:Type} {R:List Value→α→Prop} {k:Nat} {xt:List Value} {yt:List α} (h:bQ R k xt yt):∀ {xs:List Value} {ys:List α},bQ R k xs ys→bQ R k (xs++xt) (ys++yt)
 | _, _, .nil=>h
 | _, _, .cons h1 h2 h3=>by rw [List.append_assoc,List.cons_append];exact .cons h1 h2 (bQ.app h h3)
def JR (w:World) (B:Nat) (z:List Value) (i:kG):Prop:=∃vn,z=[sv i.from_,vn, .int .i64 i.line, .int .i64 i.col]∧Ss w B vn i.names
def Jz (w:World) (B:Nat) (z:List Value) (v:xW):Prop:=∃y,z=sv v.name :: y∧zw w B y v.bound
def zV (w:World) (B:Nat) (z:List Value) (d:jJ):Prop:=
 ∃vv xv vt xt y,z=[sv d.name, .bool d.exp,vv,sv d.param,vt]++(y++[.int .i64 d.line, .int .i64 d.col])∧Sl w B 5 vv xv∧bQ (Jz w B) 5 xv d.vars∧Sl w B 4 vt xt∧jL w B xt d.types∧xV w B y d.body
def Ea (w:World) (B:Nat) (z:List Value) (m:eH):Prop:=
 ∃vi xi vd xd,z=[vi,vd]∧Sl w B 4 vi xi∧bQ (JR w B) 4 xi m.imps∧Sl w B 15 vd xd∧bQ (zV w B) 15 xd m.decls
section
variable {w w':World} {B B':Nat} {z:List Value}
theorem JR.keep {i:kG} (h:JR w B z i) (hb:Below B w w'):JR w' B z i:=by
 obtain⟨vn,e,h1⟩:=h;exact⟨vn,e,h1.below hb⟩
theorem JR.more {i:kG} (h:JR w B z i) (hb:B≤B'):JR w B' z i:=by
 obtain⟨vn,e,h1⟩:=h;exact⟨vn,e,h1.more hb⟩
theorem Jz.keep {i:xW} (h:Jz w B z i) (hb:Below B w w'):Jz w' B z i:=by
 obtain⟨vn,e,h1⟩:=h;exact⟨vn,e,h1.keep hb⟩
theorem Jz.more {i:xW} (h:Jz w B z i) (hb:B≤B'):Jz w B' z i:=by
 obtain⟨vn,e,h1⟩:=h;exact⟨vn,e,h1.more hb⟩
theorem zV.keep {i:jJ} (h:zV w B z i) (hb:Below B w w'):zV w' B z i:=by
 obtain⟨vv,xv,vt,xt,y,e,h1,h2,h3,h4,h5⟩:=h;exact⟨vv,xv,vt,xt,y,e,Sl.below h1 hb,h2.imp fun _ _ h=>h.keep hb,Sl.below h3 hb,h4.keep hb,h5.keep hb⟩
theorem zV.more {i:jJ} (h:zV w B z i) (hb:B≤B'):zV w B' z i:=by
 obtain⟨vv,xv,vt,xt,y,e,h1,h2,h3,h4,h5⟩:=h;exact⟨vv,xv,vt,xt,y,e,Sl.more h1 hb,h2.imp fun _ _ h=>h.more hb,Sl.more h3 hb,h4.more hb,h5.more hb⟩
theorem Ea.keep {i:eH} (h:Ea w B z i) (hb:Below B w w'):Ea w' B z i:=by
 obtain⟨vi,xi,vd,xd,e,h1,h2,h3,h4⟩:=h;exact⟨vi,xi,vd,xd,e,Sl.below h1 hb,h2.imp fun _ _ h=>h.keep hb,Sl.below h3 hb,h4.imp fun _ _ h=>h.keep hb⟩
theorem Ea.more {i:eH} (h:Ea w B z i) (hb:B≤B'):Ea w B' z i:=by
 obtain⟨vi,xi,vd,xd,e,h1,h2,h3,h4⟩:=h;exact⟨vi,xi,vd,xd,e,Sl.more h1 hb,h2.imp fun _ _ h=>h.more hb,Sl.more h3 hb,h4.imp fun _ _ h=>h.more hb⟩
theorem Ea.far {i:eH} (h:Ea w B z i) (hB:B≤w.heap.size) (hb:Below w.heap.size w w'):Ea w' w'.heap.size z i:=
 (h.keep (hb.mono hB)).more (Nat.le_trans hB hb.size)
theorem zV.far {i:jJ} (h:zV w B z i) (hB:B≤w.heap.size) (hb:Below w.heap.size w w'):zV w' w'.heap.size z i:=
 (h.keep (hb.mono hB)).more (Nat.le_trans hB hb.size)
theorem zV.len {d:jJ} (h:zV w B z d):z.length=15:=by
 obtain⟨vv,xv,vt,xt,y,rfl, _, _, _, _,h5⟩:=h;have:=h5.len;simp only [List.length_append,List.length_cons,List.length_nil];omega
theorem Jz.len {d:xW} (h:Jz w B z d):z.length=5:=by
 obtain⟨y,rfl,h5⟩:=h;have:=h5.len;simp only [List.length_cons];omega
theorem zV.parts {d:jJ} (h:zV w B z d):
  ∃A1 c1 A2 c2 k s n l c A3 n3 c3 A4 n4 c4 A5 n5 c5 xv xt,z=[sv d.name, .bool d.exp, .slice A1 d.vars.length c1,sv d.param, .slice A2 d.types.length c2, .int .i64 k, .string s, .int .i64 n, .int .i64 l, .int .i64 c, .slice A3 n3 c3, .slice A4 n4 c4, .slice A5 n5 c5, .int .i64 d.line, .int .i64 d.col]∧
   Sl w B 5 (.slice A1 d.vars.length c1) xv∧bQ (Jz w B) 5 xv d.vars∧Sl w B 4 (.slice A2 d.types.length c2) xt∧jL w B xt d.types∧xV w B [.int .i64 k, .string s, .int .i64 n, .int .i64 l, .int .i64 c, .slice A3 n3 c3, .slice A4 n4 c4, .slice A5 n5 c5] d.body:=by
 obtain⟨vv,xv,vt,xt,y,rfl,h1,h2,h3,h4,h5⟩:=h;obtain⟨A1,c1,rfl⟩:=bP h1 (by omega) (m:=d.vars.length) h2.len;obtain⟨A2,c2,rfl⟩:=bP h3 (by omega) (m:=d.types.length) h4.length;obtain⟨k,s,n,l,c,A3,n3,c3,A4,n4,c4,A5,n5,c5,rfl⟩:=h5.shape;exact⟨A1,c1,A2,c2,k,s,n,l,c,A3,n3,c3,A4,n4,c4,A5,n5,c5,xv,xt,rfl,h1,h2,h3,h4,h5⟩
theorem Ea.parts {m:eH} (h:Ea w B z m):
  ∃A1 c1 A2 c2 xi xd,z=[.slice A1 m.imps.length c1, .slice A2 m.decls.length c2]∧Sl w B 4 (.slice A1 m.imps.length c1) xi∧bQ (JR w B) 4 xi m.imps∧Sl w B 15 (.slice A2 m.decls.length c2) xd∧bQ (zV w B) 15 xd m.decls:=by
 obtain⟨vi,xi,vd,xd,rfl,h1,h2,h3,h4⟩:=h;obtain⟨A1,c1,rfl⟩:=bP h1 (by omega) (m:=m.imps.length) h2.len;obtain⟨A2,c2,rfl⟩:=bP h3 (by omega) (m:=m.decls.length) h4.len;exact⟨A1,c1,A2,c2,xi,xd,rfl,h1,h2,h3,h4⟩
end
theorem JU {z xs:List Value} {i k j:Nat} {v:Value} (hz:(xs.drop (i*k)).take k=z) (hj:z[j]? =some v):xs[i*k+j]? =some v:=by
 subst hz;rw [List.getElem?_take]at hj;split at hj
 ·rw [List.getElem?_drop]at hj;exact hj
 ·cases hj
theorem Ep {α:Type} {R:List Value→α→Prop} {w:World} {B k:Nat} {A:Option Addr} {n c:Nat} {xs:List Value} {l:List α} (hs:Sl w B k (.slice A n c) xs) (hr:bQ R k xs l) (hk:0<k) {i:Nat} (hi:i<l.length) (hn:n=l.length):
  ∃b o z,A=some ⟨b,o,none⟩∧b<B∧R z l[i]∧∀(j:Nat) v,z[j]? =some v→w.cell? ⟨b,o+i*k+j,none⟩=some v:=by
 subst hn;obtain⟨b1,o1,rfl,hb1,hc1⟩:=sK hs hi hk;exact⟨b1,o1, _,rfl,hb1,hr.at i hi,fun j v hv=>by have:=hc1 j v (JU rfl hv);rwa [←Nat.add_assoc]at this⟩
end Go.Proofs.YtmbppnbekkbibaaGreatDoor
end
section
namespace Go.Proofs.YtmbppnbekkbibaaGreatDoor
open Go.RowKit
def dx (w:World) (F:Nat→Prop) (k:Nat) (v:Value) (xs:List Value):Prop:=
 ∃(A:Option Addr) (n c:Nat),v= .slice A n c∧xs.length=n*k∧n≤c∧c≤maxLen∧
  (0<n→∃b off,A=some ⟨b,off,none⟩∧F b∧b<w.heap.size∧∀(j:Nat) u,xs[j]? =some u→w.cell? ⟨b,off+j,none⟩=some u)
section
variable {w w':World} {F G:Nat→Prop} {B k:Nat} {v:Value} {xs:List Value}
theorem dx.turn (h:dx w F k v xs) (t:Turn G w w') (hd:∀g,g<w.heap.size→F g→¬G g):dx w' F k v xs:=by
 obtain⟨A,n,c,hv,hl,hn,hc,hx⟩:=h;refine⟨A,n,c,hv,hl,hn,hc,fun h0=> ?_⟩;obtain⟨b,off,hA,hb,hs,hcell⟩:=hx h0;refine⟨b,off,hA,hb,t.lt hs,fun j u hu=> ?_⟩;rw [←hcell j u hu];have h1:=t.block hs (hd b hs hb);simp only [World.cell?,h1]
theorem dx.mono (h:dx w F k v xs) (hF:∀g,g<w.heap.size→F g→G g):dx w G k v xs:=by
 obtain⟨A,n,c,hv,hl,hn,hc,hx⟩:=h;refine⟨A,n,c,hv,hl,hn,hc,fun h0=> ?_⟩;obtain⟨b,off,hA,hb,hs,hcell⟩:=hx h0;exact⟨b,off,hA,hF b hs hb,hs,hcell⟩
theorem dx.of (h:Sl w B k v xs) (hB:B≤w.heap.size):dx w (· <B) k v xs:=by
 obtain⟨A,n,c,hv,hl,hn,hc,hx⟩:=h;refine⟨A,n,c,hv,hl,hn,hc,fun h0=> ?_⟩;obtain⟨b,off,hA,hb,hcell⟩:=hx h0;exact⟨b,off,hA,hb,Nat.lt_of_lt_of_le hb hB,hcell⟩
theorem dx.to (h:dx w F k v xs) (hF:∀g,g<w.heap.size→F g→g<B):Sl w B k v xs:=by
 obtain⟨A,n,c,hv,hl,hn,hc,hx⟩:=h;refine⟨A,n,c,hv,hl,hn,hc,fun h0=> ?_⟩;obtain⟨b,off,hA,hb,hs,hcell⟩:=hx h0;exact⟨b,off,hA,hF b hs hb,hcell⟩
theorem dx.all (h:dx w F k v xs):Sl w w.heap.size k v xs:=h.to fun _ hg _=>hg
theorem dx.nil (w:World) (F:Nat→Prop) (k:Nat):dx w F k (.slice none 0 0) []:=
 ⟨none,0,0,rfl,by simp,Nat.le_refl _,Nat.zero_le _,fun h=>absurd h (by omega)⟩
theorem dx.own {base:Nat} {e:TypeId} {n:Nat} (h:w.ownsRow base e k v n xs) (hF:∀g,v.ownBlock=some g→F g):dx w F k v xs:=by
 have h1:=Sl.qX h;obtain⟨A,n',c,hv,hl,hn,hc,hx⟩:=h1;refine⟨A,n',c,hv,hl,hn,hc,fun h0=> ?_⟩;obtain⟨b,off,hA,hb,hcell⟩:=hx h0;exact⟨b,off,hA,hF b (by subst hv hA;rfl),hb,hcell⟩
theorem dx.below (h:dx w F k v xs) (hb:Below w.heap.size w w'):dx w' F k v xs:=h.turn (Turn.of_below (F:=fun _=>False) hb) fun _ _ _ h=>h
end
mutual
inductive lW (w:World) (F:Nat→Prop):List Value→cZ→Prop
 | mk {k:Int} {nm:Bt} {vn vk:Value} {ns:List Bt} {ks:List cZ} {xk:List Value}:dx w F 1 vn (mZ ns)→dx w F 4 vk xk→jq w F xk ks→lW w F [.int .i64 k,sv nm,vn,vk] (.mk k nm ns ks)
inductive jq (w:World) (F:Nat→Prop):List Value→List cZ→Prop
 | nil:jq w F [] []
 | cons {x y:List Value} {c:cZ} {l:List cZ}:lW w F x c→jq w F y l→jq w F (x++y) (c :: l)
end
mutual
inductive qy (w:World) (F:Nat→Prop):List Value→bT→Prop
 | mk {k n line col:Int} {text:Bt} {vt vn vk:Value} {ts:List cZ} {xt:List Value} {ns:List Bt} {ks:List bT} {xk:List Value}:dx w F 4 vt xt→jq w F xt ts→dx w F 1 vn (mZ ns)→dx w F 8 vk xk→jr w F xk ks→
   qy w F [.int .i64 k,sv text, .int .i64 n, .int .i64 line, .int .i64 col,vt,vn,vk] (.mk k text n line col ts ns ks)
inductive jr (w:World) (F:Nat→Prop):List Value→List bT→Prop
 | nil:jr w F [] []
 | cons {x y:List Value} {c:bT} {l:List bT}:qy w F x c→jr w F y l→jr w F (x++y) (c :: l)
end
section
variable {w w':World} {F G:Nat→Prop} {B:Nat}
mutual
theorem lW.turn {x:List Value} {c:cZ} (h:lW w F x c) (t:Turn G w w') (hd:∀g,g<w.heap.size→F g→¬G g):lW w' F x c:=
 match h with
 | .mk h1 h2 h3=> .mk (h1.turn t hd) (h2.turn t hd) (h3.turn t hd)
theorem jq.turn {x:List Value} {l:List cZ} (h:jq w F x l) (t:Turn G w w') (hd:∀g,g<w.heap.size→F g→¬G g):jq w' F x l:=
 match h with
 | .nil=> .nil
 | .cons h1 h2=> .cons (h1.turn t hd) (h2.turn t hd)
end
mutual
theorem lW.mono {x:List Value} {c:cZ} (h:lW w F x c) (hF:∀g,g<w.heap.size→F g→G g):lW w G x c:=
 match h with
 | .mk h1 h2 h3=> .mk (h1.mono hF) (h2.mono hF) (h3.mono hF)
theorem jq.mono {x:List Value} {l:List cZ} (h:jq w F x l) (hF:∀g,g<w.heap.size→F g→G g):jq w G x l:=
 match h with
 | .nil=> .nil
 | .cons h1 h2=> .cons (h1.mono hF) (h2.mono hF)
end
mutual
theorem lW.of {x:List Value} {c:cZ} (h:zw w B x c) (hB:B≤w.heap.size):lW w (· <B) x c:=
 match h with
 | .mk h1 h2 h3=> .mk (dx.of h1 hB) (dx.of h2 hB) (jq.of h3 hB)
theorem jq.of {x:List Value} {l:List cZ} (h:jL w B x l) (hB:B≤w.heap.size):jq w (· <B) x l:=
 match h with
 | .nil=> .nil
 | .cons h1 h2=> .cons (lW.of h1 hB) (jq.of h2 hB)
end
mutual
theorem lW.to {x:List Value} {c:cZ} (h:lW w F x c) (hF:∀g,g<w.heap.size→F g→g<B):zw w B x c:=
 match h with
 | .mk h1 h2 h3=> .mk (h1.to hF) (h2.to hF) (h3.to hF)
theorem jq.to {x:List Value} {l:List cZ} (h:jq w F x l) (hF:∀g,g<w.heap.size→F g→g<B):jL w B x l:=
 match h with
 | .nil=> .nil
 | .cons h1 h2=> .cons (h1.to hF) (h2.to hF)
end
mutual
theorem qy.turn {x:List Value} {c:bT} (h:qy w F x c) (t:Turn G w w') (hd:∀g,g<w.heap.size→F g→¬G g):qy w' F x c:=
 match h with
 | .mk h1 h2 h3 h4 h5=> .mk (h1.turn t hd) (h2.turn t hd) (h3.turn t hd) (h4.turn t hd) (h5.turn t hd)
theorem jr.turn {x:List Value} {l:List bT} (h:jr w F x l) (t:Turn G w w') (hd:∀g,g<w.heap.size→F g→¬G g):jr w' F x l:=
 match h with
 | .nil=> .nil
 | .cons h1 h2=> .cons (h1.turn t hd) (h2.turn t hd)
end
mutual
theorem qy.mono {x:List Value} {c:bT} (h:qy w F x c) (hF:∀g,g<w.heap.size→F g→G g):qy w G x c:=
 match h with
 | .mk h1 h2 h3 h4 h5=> .mk (h1.mono hF) (h2.mono hF) (h3.mono hF) (h4.mono hF) (h5.mono hF)
theorem jr.mono {x:List Value} {l:List bT} (h:jr w F x l) (hF:∀g,g<w.heap.size→F g→G g):jr w G x l:=
 match h with
 | .nil=> .nil
 | .cons h1 h2=> .cons (h1.mono hF) (h2.mono hF)
end
mutual
theorem qy.of {x:List Value} {c:bT} (h:xV w B x c) (hB:B≤w.heap.size):qy w (· <B) x c:=
 match h with
 | .mk h1 h2 h3 h4 h5=> .mk (dx.of h1 hB) (jq.of h2 hB) (dx.of h3 hB) (dx.of h4 hB) (jr.of h5 hB)
theorem jr.of {x:List Value} {l:List bT} (h:lC w B x l) (hB:B≤w.heap.size):jr w (· <B) x l:=
 match h with
 | .nil=> .nil
 | .cons h1 h2=> .cons (qy.of h1 hB) (jr.of h2 hB)
end
mutual
theorem qy.to {x:List Value} {c:bT} (h:qy w F x c) (hF:∀g,g<w.heap.size→F g→g<B):xV w B x c:=
 match h with
 | .mk h1 h2 h3 h4 h5=> .mk (h1.to hF) (h2.to hF) (h3.to hF) (h4.to hF) (h5.to hF)
theorem jr.to {x:List Value} {l:List bT} (h:jr w F x l) (hF:∀g,g<w.heap.size→F g→g<B):lC w B x l:=
 match h with
 | .nil=> .nil
 | .cons h1 h2=> .cons (h1.to hF) (h2.to hF)
end
theorem lW.all {x:List Value} {c:cZ} (h:lW w F x c):zw w w.heap.size x c:=h.to fun _ hg _=>hg
theorem jq.all {x:List Value} {c:List cZ} (h:jq w F x c):jL w w.heap.size x c:=h.to fun _ hg _=>hg
theorem qy.all {x:List Value} {c:bT} (h:qy w F x c):xV w w.heap.size x c:=h.to fun _ hg _=>hg
theorem jr.all {x:List Value} {c:List bT} (h:jr w F x c):lC w w.heap.size x c:=h.to fun _ hg _=>hg
theorem lW.RL {x:List Value} {c:cZ} (h:lW w F x c) (hb:Below w.heap.size w w'):lW w' F x c:=h.turn (Turn.of_below (F:=fun _=>False) hb) fun _ _ _ h=>h
theorem jq.RL {x:List Value} {c:List cZ} (h:jq w F x c) (hb:Below w.heap.size w w'):jq w' F x c:=h.turn (Turn.of_below (F:=fun _=>False) hb) fun _ _ _ h=>h
theorem qy.RL {x:List Value} {c:bT} (h:qy w F x c) (hb:Below w.heap.size w w'):qy w' F x c:=h.turn (Turn.of_below (F:=fun _=>False) hb) fun _ _ _ h=>h
theorem jr.RL {x:List Value} {c:List bT} (h:jr w F x c) (hb:Below w.heap.size w w'):jr w' F x c:=h.turn (Turn.of_below (F:=fun _=>False) hb) fun _ _ _ h=>h
theorem jq.snoc {y:List Value} {c:cZ} (hc:lW w F y c):∀ {x:List Value} {l:List cZ},jq w F x l→jq w F (x++y) (l++[c])
 | _, _, .nil=>by simpa using jq.cons hc .nil
 | _, _, .cons h1 h2=>by rw [List.append_assoc,List.cons_append];exact .cons h1 (jq.snoc hc h2)
theorem jr.snoc {y:List Value} {c:bT} (hc:qy w F y c):∀ {x:List Value} {l:List bT},jr w F x l→jr w F (x++y) (l++[c])
 | _, _, .nil=>by simpa using jr.cons hc .nil
 | _, _, .cons h1 h2=>by rw [List.append_assoc,List.cons_append];exact .cons h1 (jr.snoc hc h2)
theorem jr.at:∀ {x:List Value} {l:List bT},jr w F x l→∀(i:Nat) (hi:i<l.length),qy w F ((x.drop (i*8)).take 8) l[i]
 | _, _, .nil,i,hi=>by simp at hi
 | _, _, .cons (x:=x) (y:=y) h1 h2,i,hi=>by
  have h5:=h1.all.len;rcases i with _ | i
  ·rw [Nat.zero_mul,List.drop_zero, ←h5,List.take_left];exact h1
  ·have:(x++y).drop ((i+1)*8)=y.drop (i*8):=by
    rw [show(i+1)*8=x.length+i*8 by omega, ←List.drop_drop,List.drop_left]
   rw [this];exact jr.at h2 i (by simpa using hi)
end
end Go.Proofs.YtmbppnbekkbibaaGreatDoor
end
section
namespace Go.Proofs.YtmbppnbekkbibaaGreatDoor
open Go.RowKit
theorem vP {α:Type} {R:List Value→α→Prop} {k:Nat} {z:List Value} {c:α} (hz:z.length=k) (h:R z c):bQ R k z [c]:=by
 have:=bQ.cons (R:=R) hz h .nil;rwa [List.append_nil]at this
def jU (F:Nat→Prop) (v:Value):Nat→Prop:=fun j=>v.ownBlock≠some j∧F j
structure ng {α:Type} (R:World→(Nat→Prop)→List Value→α→Prop) (k:Nat):Prop where
 turn:∀ {w w':World} {F G:Nat→Prop} {z:List Value} {x:α},R w F z x→Turn G w w'→(∀g,g<w.heap.size→F g→¬G g)→R w' F z x
 mono:∀ {w:World} {F G:Nat→Prop} {z:List Value} {x:α},R w F z x→(∀g,g<w.heap.size→F g→G g)→R w G z x
 len:∀ {w:World} {F:Nat→Prop} {z:List Value} {x:α},R w F z x→z.length=k
 one:∀ {w:World} {F:Nat→Prop} {z:List Value} {x:α},R w F z x→∀u∈z,u.oneCell'=true
section
variable {α:Type} {R:World→(Nat→Prop)→List Value→α→Prop} {k:Nat} (hR:ng R k)
def dN (R:World→(Nat→Prop)→List Value→α→Prop) (k:Nat) (e:TypeId) (w:World) (base:Nat) (F:Nat→Prop) (v:Value) (l:List α):Prop:=
 ∃ys,w.ownsRow base e k v l.length ys∧bQ (R w (jU F v)) k ys l
theorem dN.nil (R:World→(Nat→Prop)→List Value→α→Prop) (k:Nat) (e:TypeId) (w:World) (base:Nat) (F:Nat→Prop):dN R k e w base F (.slice none 0 0) []:=⟨[],World.ownsRow_nil _ _ _ _, .nil⟩
theorem dN.lt {e:TypeId} {w:World} {base:Nat} {F:Nat→Prop} {v:Value} {l:List α} (h:dN R k e w base F v l):∀g,v.ownBlock=some g→base≤g∧g<w.heap.size:=by
 obtain⟨ys,h1, _⟩:=h;exact h1.lt
theorem dN.shape {e:TypeId} {w:World} {base:Nat} {F:Nat→Prop} {v:Value} {l:List α} (h:dN R k e w base F v l):∃A c,v= .slice A l.length c∧l.length≤c∧c≤maxLen:=by
 obtain⟨ys,h1, _⟩:=h;rcases h1.2 with⟨rfl,h0⟩ | ⟨g,cap,cur,rfl,hb,hg,hc,hm, _⟩
 ·exact⟨none,0,by rw [h0],by omega,Nat.zero_le _⟩
 ·exact⟨_, _,rfl,hc,hm⟩
include hR
theorem bg {w w':World} {F G:Nat→Prop} (t:Turn G w w') (hd:∀g,g<w.heap.size→F g→¬G g) {ys:List Value} {l:List α} (h:bQ (R w F) k ys l):bQ (R w' F) k ys l:=h.imp fun _ _ h=>hR.turn h t hd
theorem dn {w:World} {F G:Nat→Prop} (hd:∀g,g<w.heap.size→F g→G g) {ys:List Value} {l:List α} (h:bQ (R w F) k ys l):bQ (R w G) k ys l:=h.imp fun _ _ h=>hR.mono h hd
theorem dN.turn {e:TypeId} {w w':World} {base:Nat} {F:Nat→Prop} {v:Value} {l:List α} {G:Nat→Prop} (h:dN R k e w base F v l) (t:Turn G w w') (ho:∀g,v.ownBlock=some g→¬G g) (hd:∀g,g<w.heap.size→F g→¬G g):dN R k e w' base F v l:=by
 obtain⟨ys,h1,h2⟩:=h;exact⟨ys,bK h1 t ho,bg hR t (fun g hg h=>hd g hg h.2) h2⟩
theorem dN.mono {e:TypeId} {w:World} {base:Nat} {F G:Nat→Prop} {v:Value} {l:List α} (h:dN R k e w base F v l) (hd:∀g,g<w.heap.size→F g→G g):dN R k e w base G v l:=by
 obtain⟨ys,h1,h2⟩:=h;exact⟨ys,h1,dn hR (fun g hg h=>⟨h.1,hd g hg h.2⟩) h2⟩
theorem dN.push {e:TypeId} {w w6 w7:World} {base bp:Nat} {F:Nat→Prop} {v v7:Value} {l:List α} {x:α} {z ys:List Value} {n7:Nat} (h1:w.ownsRow base e k v l.length ys) (h2:bQ (R w (jU F v)) k ys l)
  (t:Turn (fun j=>j=bp) w w6) (hx:R w6 (fun j=>w.heap.size≤j) z x) {G:Nat→Prop} (t7:Turn G w6 w7) (hG:∀j,j<w6.heap.size→G j→v.ownBlock=some j∨(¬F j∧j<w.heap.size)) (hbk:v7.ownBlock=v.ownBlock∨∃m,w6.heap.size≤m∧v7.ownBlock=some m) (h7:w7.ownsRow base e k v7 n7 (ys++z)) (hk:0<k)
  (hbp:¬F bp) (hF:∀j,w.heap.size≤j→F j):dN R k e w7 base F v7 (l++[x]):=by
 have hlt:=h1.lt;have hs6:=t.size;have hn:n7=(l++[x]).length:=by
  have e1:=h7.1;have e2:=h1.1;have e3:=hR.len hx;rw [List.length_append,e2,e3]at e1;rw [List.length_append,List.length_singleton];have:n7*k=(l.length+1)*k:=by rw [←e1,Nat.add_mul,Nat.one_mul]
  exact Nat.eq_of_mul_eq_mul_right hk this
 subst hn;have hnew:∀j,j<w6.heap.size→v7.ownBlock=some j→v.ownBlock=some j:=fun j hj e=>by
  rcases hbk with hb | ⟨m,hm,hb⟩
  ·rw [hb]at e;exact e
  ·rw [hb]at e;injection e with e;omega
 refine⟨_,h7,bQ.app (vP (hR.len hx) ?_) (h2.imp fun _ _ h=> ?_)⟩
 ·have h3:R w6 (fun j=>j<w6.heap.size∧w.heap.size≤j) z x:=hR.mono hx fun j hj h=>⟨hj,h⟩
  refine hR.mono (hR.turn h3 t7 (fun j _ h e=>by rcases hG j h.1 e with e | e;(have:=(hlt j e).2;omega);(have:=e.2;omega))) fun j _ h=>⟨fun e=> ?_,hF j h.2⟩
  have:=(hlt j (hnew j h.1 e)).2;omega
 ·have h3:R w (fun j=>j<w.heap.size∧jU F v j) _ _:=hR.mono h fun j hj h=>⟨hj,h⟩
  refine hR.mono (hR.turn (hR.turn h3 t (fun j _ h e=>by subst e;exact hbp h.2.2)) t7 (fun j _ h e=>by rcases hG j (by have:=h.1;omega) e with e | e;exact h.2.1 e;exact e.1 h.2.2)) fun j _ h=>⟨fun e=>h.2.1 (hnew j (by have:=h.1;omega) e),h.2.2⟩
theorem dN.sl {e:TypeId} {w:World} {base:Nat} {F:Nat→Prop} {v:Value} {l:List α} (h:dN R k e w base F v l):∃xs,dx w (fun j=>base≤j∨F j) k v xs∧bQ (R w (fun j=>base≤j∨F j)) k xs l:=by
 obtain⟨ys,h1,h2⟩:=h;exact⟨ys,dx.own h1 (fun g hg=> .inl (h1.lt g hg).1),dn hR (fun g _ h=> .inr h.2) h2⟩
end
theorem Gf {w:World} {base g i:Nat} {e:TypeId} {k:Nat} {v u:Value} {n:Nat} {xs:List Value} (h:w.ownsRow base e k v n xs) (hg:v.ownBlock=some g):(w.setCell ⟨g,i,none⟩ u).ownsRow base e k v n (xs.set i u):=by
 obtain⟨h0,h⟩:=h;refine⟨by rw [List.length_set];exact h0, ?_⟩;rcases h with⟨rfl, _⟩ | ⟨g',cap,cur,rfl,hb,hh,hn,hc,hs,ht⟩
 ·cases hg
 ·have:g'=g:=by injection hg
  subst this;refine .inr ⟨g',cap,cur.setIfInBounds i u,rfl,hb,heap_setCell_same _ _ i _ _ u hh,hn,hc,by simpa using hs, ?_⟩;rw [Array.toList_setIfInBounds,List.take_set,ht]
theorem aQ {w:World} {base g:Nat} {e:TypeId} {k:Nat} {v u:Value} {n:Nat} {xs:List Value} (h:w.ownsRow base e k v n xs) (hg:v.ownBlock=some g) {i:Nat} (hi:xs[i]? =some u):w.cell? ⟨g,i,none⟩=some u∧w.frozen? ⟨g,i,none⟩=false:=by
 refine⟨by have:=h.cells hg i u hi;rwa [mY,Nat.zero_add]at this, ?_⟩;rcases h.2 with⟨rfl, _⟩ | ⟨g',cap,cur,rfl,hb,hh, _⟩
 ·cases hg
 ·have:g'=g:=by injection hg
  subst this;exact frozen_of_row _ _ _ _ _ hh
theorem nR {w:World} {F:Nat→Prop}:∀ {xs:List Value} {l:List cZ},bQ (lW w F) 4 xs l→jq w F xs l
 | _, _, .nil=> .nil
 | _, _, .cons _ h2 h3=> .cons h2 (nR h3)
theorem jR {w:World} {F:Nat→Prop}:∀ {xs:List Value} {l:List bT},bQ (qy w F) 8 xs l→jr w F xs l
 | _, _, .nil=> .nil
 | _, _, .cons _ h2 h3=> .cons h2 (jR h3)
theorem aX:ng lW 4 where
 turn h t hd:=h.turn t hd
 mono h hF:=h.mono hF
 len h:=h.all.len
 one h:=by
  obtain⟨k,s,A1,n1,c1,A2,n2,c2,rfl⟩:=h.all.shape;intro u hu;simp only [List.mem_cons,List.not_mem_nil,or_false]at hu;rcases hu with rfl | rfl | rfl | rfl <;> rfl
theorem aR:ng qy 8 where
 turn h t hd:=h.turn t hd
 mono h hF:=h.mono hF
 len h:=h.all.len
 one h:=by
  obtain⟨k,s,a,b,c,A1,n1,c1,A2,n2,c2,A3,n3,c3,rfl⟩:=h.all.shape;intro u hu;simp only [List.mem_cons,List.not_mem_nil,or_false]at hu;rcases hu with rfl | rfl | rfl | rfl | rfl | rfl | rfl | rfl <;> rfl
end Go.Proofs.YtmbppnbekkbibaaGreatDoor
end
section
namespace Go.Proofs.YtmbppnbekkbibaaGreatDoor
open Go.RowKit
def Ba (w:World) (F:Nat→Prop) (z:List Value) (i:kG):Prop:=∃vn,z=[sv i.from_,vn, .int .i64 i.line, .int .i64 i.col]∧dx w F 1 vn (mZ i.names)
def Cb (w:World) (F:Nat→Prop) (z:List Value) (v:xW):Prop:=∃y,z=sv v.name :: y∧lW w F y v.bound
def Cc (w:World) (F:Nat→Prop) (z:List Value) (d:jJ):Prop:=
 ∃vv xv vt xt y,z=[sv d.name, .bool d.exp,vv,sv d.param,vt]++(y++[.int .i64 d.line, .int .i64 d.col])∧dx w F 5 vv xv∧bQ (Cb w F) 5 xv d.vars∧dx w F 4 vt xt∧jq w F xt d.types∧qy w F y d.body
def sO (w:World) (F:Nat→Prop) (z:List Value) (m:eH):Prop:=
 ∃vi xi vd xd,z=[vi,vd]∧dx w F 4 vi xi∧bQ (Ba w F) 4 xi m.imps∧dx w F 15 vd xd∧bQ (Cc w F) 15 xd m.decls
section
variable {w w':World} {F G:Nat→Prop} {z:List Value} {B:Nat}
theorem Ba.turn {i:kG} (h:Ba w F z i) (t:Turn G w w') (hd:∀g,g<w.heap.size→F g→¬G g):Ba w' F z i:=by
 obtain⟨vn,e,h1⟩:=h;exact⟨vn,e,h1.turn t hd⟩
theorem Ba.mono {i:kG} (h:Ba w F z i) (hF:∀g,g<w.heap.size→F g→G g):Ba w G z i:=by
 obtain⟨vn,e,h1⟩:=h;exact⟨vn,e,h1.mono hF⟩
theorem Ba.to {i:kG} (h:Ba w F z i) (hF:∀g,g<w.heap.size→F g→g<B):JR w B z i:=by
 obtain⟨vn,e,h1⟩:=h;exact⟨vn,e,h1.to hF⟩
theorem Cb.turn {i:xW} (h:Cb w F z i) (t:Turn G w w') (hd:∀g,g<w.heap.size→F g→¬G g):Cb w' F z i:=by
 obtain⟨vn,e,h1⟩:=h;exact⟨vn,e,h1.turn t hd⟩
theorem Cb.mono {i:xW} (h:Cb w F z i) (hF:∀g,g<w.heap.size→F g→G g):Cb w G z i:=by
 obtain⟨vn,e,h1⟩:=h;exact⟨vn,e,h1.mono hF⟩
theorem Cb.to {i:xW} (h:Cb w F z i) (hF:∀g,g<w.heap.size→F g→g<B):Jz w B z i:=by
 obtain⟨vn,e,h1⟩:=h;exact⟨vn,e,h1.to hF⟩
theorem Cc.turn {i:jJ} (h:Cc w F z i) (t:Turn G w w') (hd:∀g,g<w.heap.size→F g→¬G g):Cc w' F z i:=by
 obtain⟨vv,xv,vt,xt,y,e,h1,h2,h3,h4,h5⟩:=h;exact⟨vv,xv,vt,xt,y,e,h1.turn t hd,h2.imp fun _ _ h=>h.turn t hd,h3.turn t hd,h4.turn t hd,h5.turn t hd⟩
theorem Cc.mono {i:jJ} (h:Cc w F z i) (hF:∀g,g<w.heap.size→F g→G g):Cc w G z i:=by
 obtain⟨vv,xv,vt,xt,y,e,h1,h2,h3,h4,h5⟩:=h;exact⟨vv,xv,vt,xt,y,e,h1.mono hF,h2.imp fun _ _ h=>h.mono hF,h3.mono hF,h4.mono hF,h5.mono hF⟩
theorem Cc.to {i:jJ} (h:Cc w F z i) (hF:∀g,g<w.heap.size→F g→g<B):zV w B z i:=by
 obtain⟨vv,xv,vt,xt,y,e,h1,h2,h3,h4,h5⟩:=h;exact⟨vv,xv,vt,xt,y,e,h1.to hF,h2.imp fun _ _ h=>h.to hF,h3.to hF,h4.to hF,h5.to hF⟩
theorem sO.turn {i:eH} (h:sO w F z i) (t:Turn G w w') (hd:∀g,g<w.heap.size→F g→¬G g):sO w' F z i:=by
 obtain⟨vi,xi,vd,xd,e,h1,h2,h3,h4⟩:=h;exact⟨vi,xi,vd,xd,e,h1.turn t hd,h2.imp fun _ _ h=>h.turn t hd,h3.turn t hd,h4.imp fun _ _ h=>h.turn t hd⟩
theorem sO.mono {i:eH} (h:sO w F z i) (hF:∀g,g<w.heap.size→F g→G g):sO w G z i:=by
 obtain⟨vi,xi,vd,xd,e,h1,h2,h3,h4⟩:=h;exact⟨vi,xi,vd,xd,e,h1.mono hF,h2.imp fun _ _ h=>h.mono hF,h3.mono hF,h4.imp fun _ _ h=>h.mono hF⟩
theorem sO.to {i:eH} (h:sO w F z i) (hF:∀g,g<w.heap.size→F g→g<B):Ea w B z i:=by
 obtain⟨vi,xi,vd,xd,e,h1,h2,h3,h4⟩:=h;exact⟨vi,xi,vd,xd,e,h1.to hF,h2.imp fun _ _ h=>h.to hF,h3.to hF,h4.imp fun _ _ h=>h.to hF⟩
theorem Ba.all {i:kG} (h:Ba w F z i):JR w w.heap.size z i:=h.to fun _ hg _=>hg
theorem Cb.all {i:xW} (h:Cb w F z i):Jz w w.heap.size z i:=h.to fun _ hg _=>hg
theorem Cc.all {i:jJ} (h:Cc w F z i):zV w w.heap.size z i:=h.to fun _ hg _=>hg
theorem sO.all {i:eH} (h:sO w F z i):Ea w w.heap.size z i:=h.to fun _ hg _=>hg
theorem Ba.shape' {i:kG} (h:Ba w F z i):∃A n c,z=[sv i.from_, .slice A n c, .int .i64 i.line, .int .i64 i.col]:=by
 obtain⟨vn,rfl,A,n,c,rfl, _⟩:=h;exact⟨A,n,c,rfl⟩
theorem Cb.shape' {i:xW} (h:Cb w F z i):∃k s A1 n1 c1 A2 n2 c2,z=[sv i.name, .int .i64 k,sv s, .slice A1 n1 c1, .slice A2 n2 c2]:=by
 obtain⟨y,rfl,h⟩:=h;generalize i.bound=b at h;cases h with
 | mk h1 h2 h3=>
  obtain⟨A1,n1,c1,rfl, _⟩:=h1;obtain⟨A2,n2,c2,rfl, _⟩:=h2;exact⟨_, _, _, _, _, _, _, _,rfl⟩
theorem Cc.shape' {i:jJ} (h:Cc w F z i):∃A1 n1 c1 A2 n2 c2 k s a b c A3 n3 c3 A4 n4 c4 A5 n5 c5,z=[sv i.name, .bool i.exp, .slice A1 n1 c1,sv i.param, .slice A2 n2 c2, .int .i64 k,sv s, .int .i64 a, .int .i64 b, .int .i64 c, .slice A3 n3 c3, .slice A4 n4 c4, .slice A5 n5 c5, .int .i64 i.line, .int .i64 i.col]:=by
 obtain⟨vv,xv,vt,xt,y,rfl,⟨A1,n1,c1,rfl, _⟩, _,⟨A2,n2,c2,rfl, _⟩, _,h⟩:=h;generalize i.body=x at h;cases h with
 | mk h1 h2 h3 h4 h5=>
  obtain⟨A3,n3,c3,rfl, _⟩:=h1;obtain⟨A4,n4,c4,rfl, _⟩:=h3;obtain⟨A5,n5,c5,rfl, _⟩:=h4;exact⟨_, _, _, _, _, _, _, _, _, _, _, _, _, _, _, _, _, _, _, _,rfl⟩
end
theorem gY:ng Ba 4 where
 turn h t hd:=h.turn t hd
 mono h hF:=h.mono hF
 len h:=by obtain⟨A,n,c,rfl⟩:=h.shape';rfl
 one h:=by
  obtain⟨A,n,c,rfl⟩:=h.shape';intro u hu;simp only [List.mem_cons,List.not_mem_nil,or_false]at hu;rcases hu with rfl | rfl | rfl | rfl <;> rfl
theorem gq:ng Cb 5 where
 turn h t hd:=h.turn t hd
 mono h hF:=h.mono hF
 len h:=by obtain⟨k,s,A1,n1,c1,A2,n2,c2,rfl⟩:=h.shape';rfl
 one h:=by
  obtain⟨k,s,A1,n1,c1,A2,n2,c2,rfl⟩:=h.shape';intro u hu;simp only [List.mem_cons,List.not_mem_nil,or_false]at hu;rcases hu with rfl | rfl | rfl | rfl | rfl <;> rfl
theorem mE:ng Cc 15 where
 turn h t hd:=h.turn t hd
 mono h hF:=h.mono hF
 len h:=by obtain⟨A1,n1,c1,A2,n2,c2,k,s,a,b,c,A3,n3,c3,A4,n4,c4,A5,n5,c5,rfl⟩:=h.shape';rfl
 one h:=by
  obtain⟨A1,n1,c1,A2,n2,c2,k,s,a,b,c,A3,n3,c3,A4,n4,c4,A5,n5,c5,rfl⟩:=h.shape';intro u hu;simp only [List.mem_cons,List.not_mem_nil,or_false]at hu;rcases hu with rfl | rfl | rfl | rfl | rfl | rfl | rfl | rfl | rfl | rfl | rfl | rfl | rfl | rfl | rfl <;> rfl
end Go.Proofs.YtmbppnbekkbibaaGreatDoor
end
section
namespace Go.Proofs.YtmbppnbekkbibaaGreatDoor
abbrev zx:=Nat ×Nat ×Int
inductive Pr (α:Type) where
 | bad (d:zx):Pr α
 | good (a:α) (r:List aF):Pr α
abbrev Ps (α:Type):=List aF→Pr α
def aG {α:Type} (a:α):Ps α:=fun ts=> .good a ts
def ak {α β:Type} (p:Ps α) (f:α→Ps β):Ps β:=fun ts=>match p ts with
 | .bad d=> .bad d
 | .good a r=>f a r
theorem aj {α β:Type} {p:Ps α} {f:α→Ps β} {ts r:List aF} {a:α} (h:p ts= .good a r):ak p f ts=f a r:=by unfold ak;rw [h]
theorem aB {α β:Type} {p:Ps α} {f:α→Ps β} {ts:List aF} {d:zx} (h:p ts= .bad d):ak p f ts= .bad d:=by unfold ak;rw [h]
def aS (ts:List aF):aF:=ts.headD ⟨0,[],0,0⟩
def jl {α:Type} (e:Int):Ps α:=fun ts=> .bad ((aS ts).line,(aS ts).col,e)
def mR (t:aF) (s:Bt):Bool:=(t.kind==2 || t.kind==5) && t.text==s
def bR (l:List Bt):Ps (Option Nat):=fun ts=>match l.findIdx? (mR (aS ts))with
 | none=> .good none ts
 | some i=> .good (some i) (ts.drop 1)
def dI (s:Bt):Ps Bool:=fun ts=>if mR (aS ts) s then .good true (ts.drop 1)else .good false ts
theorem wV {t:aF} {s:Bt} (h:mR t s=true) (r:List aF):dI s (t :: r)= .good true r:=by
 unfold dI;rw [if_pos (show mR (aS (t :: r)) s=true from h)];rfl
theorem uO {t:aF} {s:Bt} (h:mR t s=false) (r:List aF):dI s (t :: r)= .good false (t :: r):=by
 unfold dI;rw [if_neg (show ¬mR (aS (t :: r)) s=true from fun e=>by rw [show mR (aS (t :: r)) s=mR t s from rfl,h]at e;cases e)]
theorem Ce {t:aF} {l:List Bt} {i:Nat} (h:l.findIdx? (mR t)=some i) (r:List aF):bR l (t :: r)= .good (some i) r:=by
 unfold bR;rw [show l.findIdx? (mR (aS (t :: r)))=some i from h];rfl
theorem wW {t:aF} {l:List Bt} (h:l.findIdx? (mR t)=none) (r:List aF):bR l (t :: r)= .good none (t :: r):=by
 unfold bR;rw [show l.findIdx? (mR (aS (t :: r)))=none from h]
def aI (s:Bt):Ps Unit:=ak (dI s) fun b=>if b then aG ()else jl 7
def je:List Bt→Ps Unit
 | []=>aG ()
 | s :: l=>ak (aI s) fun _=>je l
def dL (k:Int):Ps Bt:=fun ts=>if(aS ts).kind=k then .good (aS ts).text (if k=0 then ts else ts.drop 1)else .bad ((aS ts).line,(aS ts).col,7)
def nameP:Ps Bt:=dL 1
def oQ {α:Type} (one:Ps α):Nat→List α→Ps (List α)
 | 0,l=>aG l
 | f+1,l=>ak (dI [44]) fun b=>if b then ak one fun a=>oQ one f (l++[a])else aG l
def iD {α:Type} (one:Ps α):Ps (List α):=ak one fun a ts=>oQ one ts.length [a] ts
section
variable (typ:Ps cZ)
def Er:List Bt:=[[97,110,121],[110,117,108,108],[98,111,111,108],[105,110,116],[115,116,114]]
def lD:Ps (Bt ×cZ):=ak nameP fun s=>ak (aI [58]) fun _=>ak typ fun t=>aG (s,t)
def mF:Ps cZ:=ak (bR Er) fun b=>match b with
 | some k=>aG (.mk k [] [] [])
 | none=>ak (bR [[40],[123]]) fun c=>match c with
  | none=>ak nameP fun s=>aG (.mk 8 s [] [])
  | some 0=>ak typ fun t=>ak (aI [41]) fun _=>aG t
  | some _=>ak (dI [125]) fun e=>if e then aG (.mk 5 [] [] [])else
    ak (iD (lD typ)) fun l=>ak (aI [125]) fun _=>aG (.mk 5 [] (l.map (·.1)) (l.map (·.2)))
def mU:Nat→List cZ→Ps (List cZ)
 | 0,l=>aG l
 | f+1,l=>ak (dI [124]) fun b=>if b then ak (mF typ) fun a=>mU f (l++[a])else aG l
def fU:List cZ→cZ
 | [t]=>t
 | l=> .mk 7 [] [] l
def Es:Ps cZ:=ak (mF typ) fun a=>ak (fun ts=>mU typ ts.length [a] ts) fun l=>ak (dI [45,62]) fun b=>
 if b then ak typ fun r=>aG (.mk 6 [] [] [fU l,r])else aG (fU l)
def l7:cZ:= .mk 0 [] [] []
def gP (l none_:List cZ):Ps (List cZ):=ak (dI [58]) fun b=>if b then ak typ fun t=>aG (l++[t])else aG (l++none_)
def jV (none_:List cZ):Ps (Bt ×List cZ):=ak (aI [40]) fun _=>ak nameP fun s=>ak (gP typ [] [l7]) fun l=>ak (aI [41]) fun _=>ak (gP typ l none_) fun m=>aG (s,m)
variable (expr unary:Ps bT)
def aJ (k:Int) (text:Bt) (n:Int) (at_:aF) (types:List cZ) (names:List Bt) (kids:List bT):bT:= .mk k text n at_.line at_.col types names kids
def bG:List Bt→List bT→Ps (List bT)
 | [],l=>aG l
 | s :: r,l=>ak (if s=[]then aG ()else aI s) fun _=>ak expr fun x=>bG r (l++[x])
def jK:Ps aF:=fun ts=> .good (aS ts) ts
def jW (f:aF→List aF→Bool):Ps Bool:=fun ts=> .good (f (aS ts) ts) ts
def jv (ops:List Bt) (sub:Ps bT):Nat→bT→Ps bT
 | 0,a=>aG a
 | f+1,a=>ak jK fun h=>ak (bR ops) fun i=>match i with
  | none=>aG a
  | some i=>ak sub fun b=>jv ops sub f (aJ 14 (ops.getD i []) 0 h [] [] [a,b])
def xX (ops:List Bt) (sub:Ps bT):Ps bT:=ak sub fun a ts=>jv ops sub ts.length a ts
def oU:List Bt:=[[60],[60,61],[61,61],[105,115],[97,115]]
def Et (sub:Ps bT):Ps bT:=ak sub fun a=>ak jK fun h=>ak (bR oU) fun i=>match i with
 | none=>aG a
 | some i=>
  if i=3 then ak (bR zU) fun t=>match t with
   | some t=>aG (aJ 12 [] t h [] [] [a])
   | none=>jl 7
  else if i=4 then ak typ fun t=>aG (aJ 13 [] 0 h [t] [] [a])
  else ak sub fun b=>aG (aJ 14 (oU.getD i []) 0 h [] [] [a,b])
def Bb:List (List Bt):=[[[111,114]],[[97,110,100]],[],[[43,43]],[[43],[45],[94]],[[42],[47],[37],[38],[60,60],[62,62]]]
def iH:Nat→Ps bT
 | 0=>unary
 | f+1=>if f=3 then Et typ (iH f)else xX (Bb.getD (5 - f) []) (iH f)
def vQ:Ps bT:=ak jK fun h=>ak (bR [[108,101,116],[105,102],[102,110]]) fun i=>match i with
 | none=>iH typ unary 6
 | some 0=>ak nameP fun s=>ak (gP typ [] []) fun t=>ak (bG expr [[61],[59]] []) fun k=>aG (aJ 5 s 0 h t [] k)
 | some 1=>ak (bG expr [[],[116,104,101,110],[101,108,115,101]] []) fun k=>aG (aJ 11 [] 0 h [] [] k)
 | some _=>ak (jV typ []) fun s=>ak (bG expr [[61,62]] []) fun k=>aG (aJ 6 s.1 0 h s.2 [] k)
def iM:Ps (Bt ×bT):=ak nameP fun s=>ak (aI [58]) fun _=>ak expr fun x=>aG (s,x)
def sP (h:aF):Ps bT:=ak (jW fun t _=>mR t [125]) fun e=>if e then aG (aJ 8 [] 0 h [] [] [])else
 ak (jW fun t ts=>t.kind==1 && mR (aS (ts.drop 1)) [58]) fun c=>
  if c then ak (iD (iM expr)) fun l=>aG (aJ 8 [] 0 h [] (l.map (·.1)) (l.map (·.2)))
  else ak (bG expr [[]] []) fun k=>ak (aI [119,105,116,104]) fun _=>ak nameP fun s=>ak (bG expr [[58]] k) fun m=>aG (aJ 10 s 0 h [] [] m)
def kJ (h:aF):Ps bT:=ak nameP fun s=>ak (dI [91]) fun b=>if b then ak (iD typ) fun l=>ak (aI [93]) fun _=>aG (aJ 19 s 0 h l [] [])else aG (aJ 4 s 0 h [] [] [])
def qZ:List Bt:=[[102,97,108,115,101],[116,114,117,101],[110,117,108,108],[114,101,97,100],[112,114,105,110,116],[40],[123]]
def oV:Ps bT:=ak jK fun h=>
 if h.kind=3 then ak (dL 3) fun s=>aG (aJ 0 [] (eU s).1 h [] [] [])
 else if h.kind=4 then ak (dL 4) fun s=>aG (aJ 1 s 0 h [] [] [])
 else ak (bR qZ) fun i=>match i with
  | none=>kJ typ h
  | some 0=>aG (aJ 2 [] 0 h [] [] [])
  | some 1=>aG (aJ 2 [] 1 h [] [] [])
  | some 2=>aG (aJ 3 [] 0 h [] [] [])
  | some 3=>ak (je [[40],[41]]) fun _=>aG (aJ 18 [] 0 h [] [] [])
  | some 4=>ak (bG expr [[40]] []) fun k=>ak (aI [41]) fun _=>aG (aJ 17 [] 0 h [] [] k)
  | some 5=>ak expr fun x=>ak (aI [41]) fun _=>aG x
  | some _=>ak (sP expr h) fun x=>ak (aI [125]) fun _=>aG x
def gZ:Nat→bT→Ps bT
 | 0,a=>aG a
 | f+1,a=>ak jK fun h=>ak (bR [[40],[46]]) fun i=>match i with
  | none=>aG a
  | some 0=>ak (bG expr [[]] [a]) fun k=>ak (aI [41]) fun _=>gZ f (aJ 7 [] 0 h [] [] k)
  | some _=>ak nameP fun s=>gZ f (aJ 9 s 0 h [] [] [a])
def oW:Ps bT:=ak (oV typ expr) fun a ts=>gZ expr ts.length a ts
def oZ:Ps bT:=ak jK fun h=>ak (bR [[45],[110,111,116]]) fun i=>match i with
 | none=>oW typ expr
 | some 0=>ak unary fun x=>aG (aJ 16 [] 0 h [] [] [x])
 | some _=>ak unary fun x=>aG (aJ 15 [] 0 h [] [] [x])
end
structure Wi where
 typ:Ps cZ
 expr:Ps bT
 unary:Ps bT
def dU:Nat→Wi
 | 0=>⟨jl 6,jl 6,jl 6⟩
 | n+1=>⟨Es (dU n).typ,vQ (dU n).typ (dU n).expr (dU n).unary,oZ (dU n).typ (dU n).expr (dU n).unary⟩
def xY:Ps xW:=ak nameP fun s=>ak (dI [60,58]) fun b=>if b then ak (dU 100).typ fun t=>aG ⟨s,t⟩else aG ⟨s,l7⟩
def o8:Ps (List xW):=ak (dI [91]) fun b=>if b then ak (iD xY) fun l=>ak (aI [93]) fun _=>aG l else aG []
def jw (h:aF):Ps kG:=ak nameP fun s=>ak (aI [58]) fun _=>ak (iD nameP) fun l=>ak (aI [59]) fun _=>aG ⟨s,l,h.line,h.col⟩
def mG:Ps jJ:=ak (dI [101,120,112,111,114,116]) fun e=>ak jK fun h=>ak (aI [102,110]) fun _=>ak nameP fun s=>ak o8 fun v=>
 ak (jV (dU 100).typ [l7]) fun p=>ak (aI [61]) fun _=>ak (dU 100).expr fun b=>ak (aI [59]) fun _=>aG ⟨s,e,v,p.1,p.2,b,h.line,h.col⟩
def jy:Nat→List kG→Ps (List kG)
 | 0,l=>aG l
 | f+1,l=>ak jK fun h=>ak (dI [105,109,112,111,114,116]) fun b=>if b then ak (jw h) fun i=>jy f (l++[i])else aG l
def dV:Nat→List jJ→Ps (List jJ)
 | 0,l=>aG l
 | f+1,l=>ak (jW fun t _=>t.kind==0) fun b=>if b then aG l else ak mG fun d=>dV f (l++[d])
def Gg:Ps (List kG):=fun ts=>jy ts.length [] ts
def Eu:Ps (List jJ):=fun ts=>dV ts.length [] ts
def bC:Ps eH:=ak Gg fun i=>ak Eu fun d=>aG ⟨i,d⟩
def cK {α:Type} (p:Ps α) (s:Bt):Option α ×zx:=
 if(dS s).2.2.2=0 then(match ak p (fun x=>ak (dL 0) fun _=>aG x) (dS s).1 with
  | .bad d=>(none,d)
  | .good x _=>(some x,(0,0,0)))
 else(none,(dS s).2)
end Go.Proofs.YtmbppnbekkbibaaGreatDoor
end
section
namespace Go.Proofs.YtmbppnbekkbibaaGreatDoor
def Wf (ts:List aF):Prop:=∃a e,ts=a++[e]∧e.kind=0∧∀t∈a,t.kind≠0∧(t.kind=2→t.text≠[58])
theorem Wf.one {e:aF} (h:e.kind=0):Wf [e]:=⟨[],e,rfl,h,by simp⟩
theorem Wf.pos {ts:List aF} (h:Wf ts):1≤ts.length:=by obtain⟨a,e,rfl, _⟩:=h;simp
theorem Wf.cases {ts:List aF} (h:Wf ts):(∃e,ts=[e]∧e.kind=0)∨∃t r,ts=t :: r∧t.kind≠0∧(t.kind=2→t.text≠[58])∧Wf r:=by
 obtain⟨a,e,rfl,h0,h1⟩:=h;cases a with
 | nil=>exact .inl ⟨e,rfl,h0⟩
 | cons t a=>exact .inr ⟨t,a++[e],rfl,(h1 t (by simp)).1,(h1 t (by simp)).2,a,e,rfl,h0,fun x hx=>h1 x (by simp [hx])⟩
theorem Wf.pq {ts:List aF} (h:Wf ts):aS ts∈ts:=by
 rcases h.cases with⟨e,rfl, _⟩ | ⟨t,r,rfl, _⟩ <;> simp [aS]
theorem Wf.drop {ts:List aF} (h:Wf ts) (hk:(aS ts).kind≠0):Wf (ts.drop 1):=by
 rcases h.cases with⟨e,rfl,h0⟩ | ⟨t,r,rfl, _, _,hr⟩
 ·exact absurd h0 (by simpa [aS]using hk)
 ·simpa using hr
theorem Cg {t:aF} {s:Bt} (h:mR t s=true):t.kind≠0:=by
 unfold mR at h;intro h0;rw [h0]at h;simp at h
def Sf {α:Type} (p:Ps α):Prop:=∀ts,Wf ts→match p ts with
 | .bad d=>(∃t∈ts,d.1=t.line∧d.2.1=t.col)∧(d.2.2=6∨d.2.2=7)
 | .good _ r=>Wf r∧r<:+ts
section
variable {α β:Type}
theorem Sf.bad {p:Ps α} (h:Sf p) {ts:List aF} (hw:Wf ts) {d:zx} (hp:p ts= .bad d):(∃t∈ts,d.1=t.line∧d.2.1=t.col)∧(d.2.2=6∨d.2.2=7):=by
 have:=h ts hw;rwa [hp]at this
theorem Sf.good {p:Ps α} (h:Sf p) {ts:List aF} (hw:Wf ts) {a:α} {r:List aF} (hp:p ts= .good a r):Wf r∧r<:+ts:=by
 have:=h ts hw;rwa [hp]at this
theorem Sf.ret (a:α):Sf (aG a):=fun ts hw=>⟨hw,List.suffix_refl _⟩
theorem Sf.then_ {p:Ps α} {f:α→Ps β} (h:Sf p) (hf:∀a,Sf (f a)):Sf (ak p f):=by
 intro ts hw;unfold ak;rcases hp:p ts with d | ⟨a,r⟩
 ·exact h.bad hw hp
 ·obtain⟨hr,hs⟩:=h.good hw hp;have h2:=hf a r hr;simp only;rcases hq:f a r with d | ⟨b,r2⟩
  ·rw [hq]at h2;obtain⟨⟨t,ht,e⟩,h3⟩:=h2;exact⟨⟨t,hs.subset ht,e⟩,h3⟩
  ·rw [hq]at h2;exact⟨h2.1,h2.2.trans hs⟩
theorem Sf.fail {e:Int} (he:e=6∨e=7):Sf (jl (α:=α) e):=fun ts hw=>⟨⟨_,hw.pq,rfl,rfl⟩,he⟩
theorem xZ (ts:List aF):ts.drop 1<:+ts:=List.drop_suffix 1 ts
theorem Sf.dJ (l:List Bt):Sf (bR l):=by
 intro ts hw;unfold bR;rcases h:l.findIdx? (mR (aS ts))with _ | i
 ·exact⟨hw,List.suffix_refl _⟩
 ·obtain⟨hi,h1, _⟩:=List.findIdx?_eq_some_iff_getElem.1 h;exact⟨hw.drop (Cg h1),xZ ts⟩
theorem Sf.has (s:Bt):Sf (dI s):=by
 intro ts hw;unfold dI;by_cases h:mR (aS ts) s=true
 ·rw [if_pos h];exact⟨hw.drop (Cg h),xZ ts⟩
 ·rw [if_neg h];exact⟨hw,List.suffix_refl _⟩
theorem Sf.want (s:Bt):Sf (aI s):=Sf.then_ (Sf.has s) fun b=>by
 cases b
 ·exact Sf.fail (.inr rfl)
 ·exact Sf.ret ()
theorem Sf.wants:∀l:List Bt,Sf (je l)
 | []=>Sf.ret ()
 | s :: l=>Sf.then_ (Sf.want s) fun _=>Sf.wants l
theorem Sf.kind (k:Int):Sf (dL k):=by
 intro ts hw;unfold dL;by_cases h:(aS ts).kind=k
 ·rw [if_pos h];by_cases h0:k=0
  ·rw [if_pos h0];exact⟨hw,List.suffix_refl _⟩
  ·rw [if_neg h0];exact⟨hw.drop (by rw [h];exact h0),xZ ts⟩
 ·rw [if_neg h];exact⟨⟨_,hw.pq,rfl,rfl⟩, .inr rfl⟩
theorem Sf.name:Sf nameP:=Sf.kind 1
theorem Sf.here:Sf jK:=fun ts hw=>⟨hw,List.suffix_refl _⟩
theorem Sf.seen (f:aF→List aF→Bool):Sf (jW f):=fun ts hw=>⟨hw,List.suffix_refl _⟩
theorem Sf.fuel {p:List aF→Ps α} (h:∀ts,Sf (p ts)):Sf (fun ts=>p ts ts):=fun ts hw=>h ts ts hw
theorem Sf.zD {one:Ps α} (h:Sf one):∀(f:Nat) (l:List α),Sf (oQ one f l)
 | 0,l=>Sf.ret l
 | f+1,l=>Sf.then_ (Sf.has _) fun b=>by
  cases b
  ·exact Sf.ret l
  ·exact Sf.then_ h fun a=>Sf.zD h f _
theorem Sf.sep {one:Ps α} (h:Sf one):Sf (iD one):=Sf.then_ h fun a=>Sf.fuel (p:=fun ts=>oQ one ts.length [a]) fun ts=>Sf.zD h _ _
end
section
variable {typ:Ps cZ} (ht:Sf typ) {expr unary:Ps bT} (he:Sf expr) (hu:Sf unary)
include ht
theorem Sf.zF:Sf (mF typ):=by
 refine Sf.then_ (Sf.dJ _) fun b=> ?_;rcases b with _ | k
 ·refine Sf.then_ (Sf.dJ _) fun c=> ?_;rcases c with _ | _ | k
  ·exact Sf.then_ Sf.name fun s=>Sf.ret _
  ·exact Sf.then_ ht fun t=>Sf.then_ (Sf.want _) fun _=>Sf.ret _
  ·refine Sf.then_ (Sf.has _) fun e=> ?_;cases e
   ·exact Sf.then_ (Sf.sep (Sf.then_ Sf.name fun s=>Sf.then_ (Sf.want _) fun _=>Sf.then_ ht fun t=>Sf.ret _)) fun l=>Sf.then_ (Sf.want _) fun _=>Sf.ret _
   ·exact Sf.ret _
 ·exact Sf.ret _
theorem Sf.alt:∀(f:Nat) (l:List cZ),Sf (mU typ f l)
 | 0,l=>Sf.ret l
 | f+1,l=>Sf.then_ (Sf.has _) fun b=>by
  cases b
  ·exact Sf.ret l
  ·exact Sf.then_ (Sf.zF ht) fun a=>Sf.alt f _
theorem Sf.JV:Sf (Es typ):=Sf.then_ (Sf.zF ht) fun a=>Sf.then_ (Sf.fuel (p:=fun ts=>mU typ ts.length [a]) fun ts=>Sf.alt ht _ _) fun l=>Sf.then_ (Sf.has _) fun b=>by
 cases b
 ·exact Sf.ret _
 ·exact Sf.then_ ht fun r=>Sf.ret _
theorem Sf.note (l n:List cZ):Sf (gP typ l n):=Sf.then_ (Sf.has _) fun b=>by
 cases b
 ·exact Sf.ret _
 ·exact Sf.then_ ht fun r=>Sf.ret _
theorem Sf.head (n:List cZ):Sf (jV typ n):=Sf.then_ (Sf.want _) fun _=>Sf.then_ Sf.name fun s=>Sf.then_ (Sf.note ht _ _) fun l=>Sf.then_ (Sf.want _) fun _=>Sf.then_ (Sf.note ht _ _) fun m=>Sf.ret _
omit ht
include he
theorem Sf.kids:∀(a:List Bt) (l:List bT),Sf (bG expr a l)
 | [],l=>Sf.ret l
 | s :: r,l=>Sf.then_ (by split;exact Sf.ret ();exact Sf.want s) fun _=>Sf.then_ he fun x=>Sf.kids r _
omit he
theorem Sf.left {sub:Ps bT} (hs:Sf sub) (ops:List Bt):∀(f:Nat) (a:bT),Sf (jv ops sub f a)
 | 0,a=>Sf.ret a
 | f+1,a=>Sf.then_ Sf.here fun h=>Sf.then_ (Sf.dJ _) fun i=>by
  rcases i with _ | i
  ·exact Sf.ret a
  ·exact Sf.then_ hs fun b=>Sf.left hs ops f _
theorem Sf.Ch {sub:Ps bT} (hs:Sf sub) (ops:List Bt):Sf (xX ops sub):=Sf.then_ hs fun a=>Sf.fuel (p:=fun ts=>jv ops sub ts.length a) fun ts=>Sf.left hs _ _ _
include ht
theorem Sf.cmp {sub:Ps bT} (hs:Sf sub):Sf (Et typ sub):=Sf.then_ hs fun a=>Sf.then_ Sf.here fun h=>Sf.then_ (Sf.dJ _) fun i=>by
 rcases i with _ | i
 ·exact Sf.ret a
 ·simp only;split
  ·refine Sf.then_ (Sf.dJ _) fun t=> ?_;rcases t with _ | t
   ·exact Sf.fail (.inr rfl)
   ·exact Sf.ret _
  ·split
   ·exact Sf.then_ ht fun t=>Sf.ret _
   ·exact Sf.then_ hs fun b=>Sf.ret _
include hu
theorem Sf.rank:∀f:Nat,Sf (iH typ unary f)
 | 0=>hu
 | f+1=>by
  unfold iH;split
  ·exact Sf.cmp ht (Sf.rank f)
  ·exact Sf.Ch (Sf.rank f) _
include he
theorem Sf.x9:Sf (vQ typ expr unary):=Sf.then_ Sf.here fun h=>Sf.then_ (Sf.dJ _) fun i=>by
 rcases i with _ | _ | _ | i
 ·exact Sf.rank ht hu 6
 ·exact Sf.then_ Sf.name fun s=>Sf.then_ (Sf.note ht _ _) fun t=>Sf.then_ (Sf.kids he _ _) fun k=>Sf.ret _
 ·exact Sf.then_ (Sf.kids he _ _) fun k=>Sf.ret _
 ·exact Sf.then_ (Sf.head ht _) fun s=>Sf.then_ (Sf.kids he _ _) fun k=>Sf.ret _
omit hu ht
theorem Sf.ru:Sf (iM expr):=Sf.then_ Sf.name fun s=>Sf.then_ (Sf.want _) fun _=>Sf.then_ he fun x=>Sf.ret _
theorem Sf.Ib (h:aF):Sf (sP expr h):=Sf.then_ (Sf.seen _) fun e=>by
 cases e
 ·rw [if_neg Bool.false_ne_true];refine Sf.then_ (Sf.seen _) fun c=> ?_;cases c
  ·exact Sf.then_ (Sf.kids he _ _) fun k=>Sf.then_ (Sf.want _) fun _=>Sf.then_ Sf.name fun s=>Sf.then_ (Sf.kids he _ _) fun m=>Sf.ret _
  ·exact Sf.then_ (Sf.sep (Sf.ru he)) fun l=>Sf.ret _
 ·exact Sf.ret _
include ht
omit he
theorem Sf.named (h:aF):Sf (kJ typ h):=Sf.then_ Sf.name fun s=>Sf.then_ (Sf.has _) fun b=>by
 cases b
 ·exact Sf.ret _
 ·exact Sf.then_ (Sf.sep ht) fun l=>Sf.then_ (Sf.want _) fun _=>Sf.ret _
include he
theorem Sf.atom:Sf (oV typ expr):=Sf.then_ Sf.here fun h=>by
 split
 ·exact Sf.then_ (Sf.kind 3) fun s=>Sf.ret _
 ·split
  ·exact Sf.then_ (Sf.kind 4) fun s=>Sf.ret _
  ·refine Sf.then_ (Sf.dJ _) fun i=> ?_;rcases i with _ | _ | _ | _ | _ | _ | _ | i
   ·exact Sf.named ht h
   ·exact Sf.ret _
   ·exact Sf.ret _
   ·exact Sf.ret _
   ·exact Sf.then_ (Sf.wants _) fun _=>Sf.ret _
   ·exact Sf.then_ (Sf.kids he _ _) fun k=>Sf.then_ (Sf.want _) fun _=>Sf.ret _
   ·exact Sf.then_ he fun k=>Sf.then_ (Sf.want _) fun _=>Sf.ret _
   ·exact Sf.then_ (Sf.Ib he h) fun k=>Sf.then_ (Sf.want _) fun _=>Sf.ret _
omit ht
theorem Sf.ni:∀(f:Nat) (a:bT),Sf (gZ expr f a)
 | 0,a=>Sf.ret a
 | f+1,a=>Sf.then_ Sf.here fun h=>Sf.then_ (Sf.dJ _) fun i=>by
  rcases i with _ | _ | i
  ·exact Sf.ret a
  ·exact Sf.then_ (Sf.kids he _ _) fun k=>Sf.then_ (Sf.want _) fun _=>Sf.ni f _
  ·exact Sf.then_ Sf.name fun k=>Sf.ni f _
include ht
theorem Sf.post:Sf (oW typ expr):=Sf.then_ (Sf.atom ht he) fun a=>Sf.fuel (p:=fun ts=>gZ expr ts.length a) fun ts=>Sf.ni he _ _
include hu
theorem Sf.rA:Sf (oZ typ expr unary):=Sf.then_ Sf.here fun h=>Sf.then_ (Sf.dJ _) fun i=>by
 rcases i with _ | _ | i
 ·exact Sf.post ht he
 ·exact Sf.then_ hu fun x=>Sf.ret _
 ·exact Sf.then_ hu fun x=>Sf.ret _
end
theorem Sf.zG:∀n:Nat,Sf (dU n).typ∧Sf (dU n).expr∧Sf (dU n).unary
 | 0=>⟨Sf.fail (.inl rfl),Sf.fail (.inl rfl),Sf.fail (.inl rfl)⟩
 | n+1=>by
  obtain⟨h1,h2,h3⟩:=Sf.zG n;exact⟨Sf.JV h1,Sf.x9 h1 h2 h3,Sf.rA h1 h2 h3⟩
theorem Sf.var:Sf xY:=Sf.then_ Sf.name fun s=>Sf.then_ (Sf.has _) fun b=>by
 cases b
 ·exact Sf.ret _
 ·exact Sf.then_ (Sf.zG 100).1 fun t=>Sf.ret _
theorem Sf.vars:Sf o8:=Sf.then_ (Sf.has _) fun b=>by
 cases b
 ·exact Sf.ret _
 ·exact Sf.then_ (Sf.sep Sf.var) fun l=>Sf.then_ (Sf.want _) fun _=>Sf.ret _
theorem Sf.import_ (h:aF):Sf (jw h):=Sf.then_ Sf.name fun s=>Sf.then_ (Sf.want _) fun _=>Sf.then_ (Sf.sep Sf.name) fun l=>Sf.then_ (Sf.want _) fun _=>Sf.ret _
theorem Sf.decl:Sf mG:=Sf.then_ (Sf.has _) fun e=>Sf.then_ Sf.here fun h=>Sf.then_ (Sf.want _) fun _=>Sf.then_ Sf.name fun s=>Sf.then_ Sf.vars fun v=>
 Sf.then_ (Sf.head (Sf.zG 100).1 _) fun p=>Sf.then_ (Sf.want _) fun _=>Sf.then_ (Sf.zG 100).2.1 fun b=>Sf.then_ (Sf.want _) fun _=>Sf.ret _
theorem Sf.imps:∀(f:Nat) (l:List kG),Sf (jy f l)
 | 0,l=>Sf.ret l
 | f+1,l=>Sf.then_ Sf.here fun h=>Sf.then_ (Sf.has _) fun b=>by
  cases b
  ·exact Sf.ret l
  ·exact Sf.then_ (Sf.import_ h) fun i=>Sf.imps f _
theorem Sf.decls:∀(f:Nat) (l:List jJ),Sf (dV f l)
 | 0,l=>Sf.ret l
 | f+1,l=>Sf.then_ (Sf.seen _) fun b=>by
  cases b
  ·exact Sf.then_ Sf.decl fun d=>Sf.decls f _
  ·exact Sf.ret l
theorem Sf.module:Sf bC:=Sf.then_ (Sf.fuel (p:=fun ts=>jy ts.length []) fun ts=>Sf.imps _ _) fun i=>Sf.then_ (Sf.fuel (p:=fun ts=>dV ts.length []) fun ts=>Sf.decls _ _) fun d=>Sf.ret _
end Go.Proofs.YtmbppnbekkbibaaGreatDoor
end
section
namespace Go.Proofs
open Go.Shelf
def Tryz.lays137_ren:Go.Shelf.Ren:=⟨fun | 137=>150 | 217=>174 | 266=>192 | n=>n,fun | 9=>9 | 5=>5 | 3=>3 | n=>n,fun | n=>n⟩
theorem Tryz.lays137:Go.Proofs.Lays.n137 Tryz.prog Tryz.lays137_ren:={
 mixed:=by kernel_rfl
 f137:=Tryz.func150.trans (congrArg some (by kernel_rfl))
 f217:=Tryz.func174.trans (congrArg some (by kernel_rfl))
 f266:=Tryz.func192.trans (congrArg some (by kernel_rfl))
 t3:=Tryz.underlying3
 a3:=Tryz.isAgg3
 z3:=Tryz.sizeOf3
 v3:=Tryz.zeroValue3
 t5:=Tryz.underlying5
 a5:=Tryz.isAgg5
 z5:=Tryz.sizeOf5
 v5:=Tryz.zeroValue5
 t9:=Tryz.underlying9
 a9:=Tryz.isAgg9
 z9:=Tryz.sizeOf9
 v9:=Tryz.zeroValue9}
open Go.RowKit in
theorem Tryz.strings_IndexByte (s:ByteArray) (c:Int) (w:World):
  Calls Tryz.prog 150 #[.string s, .int .u8 c] w fun e w'=>e= .returned (.int .i64 (Lib.indexByte s.data.toList c.toNat.toUInt8))∧w'=w:=Any.strings_IndexByte Tryz.lays137 s c w
def Tryz.laysM171_ren:Go.Shelf.Ren:=⟨fun | 171=>182 | 243=>197 | 246=>212 | 283=>225 | 284=>226 | 285=>227 | 286=>228 | 129=>238 | 317=>237 | 318=>239 | 319=>240 | 320=>241 | 337=>248 | 338=>249 | n=>n,fun | 3=>3 | 9=>9 | 2=>2 | 4=>4 | 171=>276 | 0=>0 | 53=>219 | 37=>163 | 5=>5 | 173=>279 | 212=>303 | 51=>227 | 20=>20 | 213=>304 | 46=>272 | 232=>333 | 233=>334 | n=>n,fun | 17=>5 | 18=>6 | 19=>7 | n=>n⟩
theorem Tryz.laysM171:Go.Proofs.LaysM.n171 Tryz.prog Tryz.laysM171_ren:={
 mixed:=by kernel_rfl
 f129:=Tryz.func238.trans (congrArg some (by kernel_rfl))
 f171:=Tryz.func182.trans (congrArg some (by kernel_rfl))
 f243:=Tryz.func197.trans (congrArg some (by kernel_rfl))
 f246:=Tryz.func212.trans (congrArg some (by kernel_rfl))
 f283:=Tryz.func225.trans (congrArg some (by kernel_rfl))
 f284:=Tryz.func226.trans (congrArg some (by kernel_rfl))
 f285:=Tryz.func227.trans (congrArg some (by kernel_rfl))
 f286:=Tryz.func228.trans (congrArg some (by kernel_rfl))
 f317:=Tryz.func237.trans (congrArg some (by kernel_rfl))
 f318:=Tryz.func239.trans (congrArg some (by kernel_rfl))
 f319:=Tryz.func240.trans (congrArg some (by kernel_rfl))
 f320:=Tryz.func241.trans (congrArg some (by kernel_rfl))
 f337:=Tryz.func248.trans (congrArg some (by kernel_rfl))
 f338:=Tryz.func249.trans (congrArg some (by kernel_rfl))
 t0:=Tryz.underlying0
 a0:=Tryz.isAgg0
 z0:=Tryz.sizeOf0
 v0:=Tryz.zeroValue0
 t2:=Tryz.underlying2
 a2:=Tryz.isAgg2
 z2:=Tryz.sizeOf2
 v2:=Tryz.zeroValue2
 t3:=Tryz.underlying3
 a3:=Tryz.isAgg3
 z3:=Tryz.sizeOf3
 v3:=Tryz.zeroValue3
 t4:=Tryz.underlying4
 a4:=Tryz.isAgg4
 z4:=Tryz.sizeOf4
 v4:=Tryz.zeroValue4
 t5:=Tryz.underlying5
 a5:=Tryz.isAgg5
 z5:=Tryz.sizeOf5
 v5:=Tryz.zeroValue5
 t9:=Tryz.underlying9
 a9:=Tryz.isAgg9
 z9:=Tryz.sizeOf9
 v9:=Tryz.zeroValue9
 t20:=Tryz.underlying20
 a20:=Tryz.isAgg20
 z20:=Tryz.sizeOf20
 v20:=Tryz.zeroValue20
 t37:=Tryz.underlying163
 a37:=Tryz.isAgg163
 z37:=Tryz.sizeOf163
 v37:=Tryz.zeroValue163
 t46:=Tryz.underlying272
 a46:=Tryz.isAgg272
 z46:=Tryz.sizeOf272
 v46:=Tryz.zeroValue272
 t51:=Tryz.underlying227
 a51:=Tryz.isAgg227
 z51:=Tryz.sizeOf227
 v51:=Tryz.zeroValue227
 t53:=Tryz.underlying219
 a53:=Tryz.isAgg219
 z53:=Tryz.sizeOf219
 v53:=Tryz.zeroValue219
 t171:=Tryz.underlying276
 a171:=Tryz.isAgg276
 z171:=Tryz.sizeOf276
 v171:=Tryz.zeroValue276
 t173:=Tryz.underlying279
 a173:=Tryz.isAgg279
 z173:=Tryz.sizeOf279
 v173:=Tryz.zeroValue279
 t212:=Tryz.underlying303
 a212:=Tryz.isAgg303
 z212:=Tryz.sizeOf303
 v212:=Tryz.zeroValue303
 t213:=Tryz.underlying304
 a213:=Tryz.isAgg304
 z213:=Tryz.sizeOf304
 t232:=Tryz.underlying333
 a232:=Tryz.isAgg333
 z232:=Tryz.sizeOf333
 v232:=Tryz.zeroValue333
 t233:=Tryz.underlying334
 a233:=Tryz.isAgg334
 z233:=Tryz.sizeOf334
 v233:=Tryz.zeroValue334
 g17:=by kernel_rfl
 g18:=by kernel_rfl
 g19:=by kernel_rfl
 i0:=by kernel_rfl
 i2:=by kernel_rfl
 i3:=by kernel_rfl
 i4:=by kernel_rfl
 i5:=by kernel_rfl
 i9:=by kernel_rfl
 i20:=by kernel_rfl
 i37:=by kernel_rfl
 i46:=by kernel_rfl
 i51:=by kernel_rfl
 i53:=by kernel_rfl
 i171:=by kernel_rfl
 i173:=by kernel_rfl
 i212:=by kernel_rfl
 i232:=by kernel_rfl
 i233:=by kernel_rfl
 m17:=by kernel_rfl
 m18:=by kernel_rfl
 m19:=by kernel_rfl}
open Go.RowKit Go.Sort Go.Lib in
theorem Tryz.strconv_Itoa (n:Int) (h0: -9223372036854775808≤n) (h1:n≤9223372036854775807) (w:World) (htab:Lib.TabIs Tryz.prog w "internal/strconv.uint64pow10" .u64 Lib.pow10Tab):
  Calls Tryz.prog 182 #[.int .i64 n] w fun e w'=>e= .returned (.string ⟨(Lib.itoa n).toArray⟩)∧∃k os,w'=grow (w.drewN k) os:=Any.strconv_Itoa Tryz.laysM171 n h0 h1 w htab
def Tryz.laysC172_ren:Go.Shelf.Ren:=⟨fun | 172=>173 | 244=>190 | 245=>191 | 247=>204 | 279=>205 | 280=>206 | 281=>207 | 282=>208 | 287=>222 | 316=>223 | 171=>182 | 205=>224 | 321=>235 | 322=>236 | 243=>197 | 246=>212 | 283=>225 | 284=>226 | 285=>227 | 286=>228 | 129=>238 | 317=>237 | 318=>239 | 319=>240 | 320=>241 | 337=>248 | 338=>249 | n=>n,fun | 9=>9 | 3=>3 | 75=>205 | 76=>206 | 4=>4 | 5=>5 | 167=>246 | 37=>163 | 0=>0 | 85=>247 | 2=>2 | 168=>249 | 53=>219 | 175=>270 | 46=>272 | 210=>274 | 127=>222 | 145=>300 | 143=>298 | 21=>21 | 171=>276 | 173=>279 | 212=>303 | 51=>227 | 20=>20 | 213=>304 | 232=>333 | 233=>334 | 80=>147 | n=>n,fun | 15=>3 | 16=>4 | 17=>5 | 18=>6 | 19=>7 | n=>n⟩
theorem Tryz.laysC172:Go.Proofs.LaysC.n172 Tryz.prog Tryz.laysC172_ren:={
 mixed:=by kernel_rfl
 f129:=Tryz.func238.trans (congrArg some (by kernel_rfl))
 f171:=Tryz.func182.trans (congrArg some (by kernel_rfl))
 f172:=Tryz.func173.trans (congrArg some (by kernel_rfl))
 f205:=Tryz.func224.trans (congrArg some (by kernel_rfl))
 f243:=Tryz.func197.trans (congrArg some (by kernel_rfl))
 f244:=Tryz.func190.trans (congrArg some (by kernel_rfl))
 f245:=Tryz.func191.trans (congrArg some (by kernel_rfl))
 f246:=Tryz.func212.trans (congrArg some (by kernel_rfl))
 f247:=Tryz.func204.trans (congrArg some (by kernel_rfl))
 f279:=Tryz.func205.trans (congrArg some (by kernel_rfl))
 f280:=Tryz.func206.trans (congrArg some (by kernel_rfl))
 f281:=Tryz.func207.trans (congrArg some (by kernel_rfl))
 f282:=Tryz.func208.trans (congrArg some (by kernel_rfl))
 f283:=Tryz.func225.trans (congrArg some (by kernel_rfl))
 f284:=Tryz.func226.trans (congrArg some (by kernel_rfl))
 f285:=Tryz.func227.trans (congrArg some (by kernel_rfl))
 f286:=Tryz.func228.trans (congrArg some (by kernel_rfl))
 f287:=Tryz.func222.trans (congrArg some (by kernel_rfl))
 f316:=Tryz.func223.trans (congrArg some (by kernel_rfl))
 f317:=Tryz.func237.trans (congrArg some (by kernel_rfl))
 f318:=Tryz.func239.trans (congrArg some (by kernel_rfl))
 f319:=Tryz.func240.trans (congrArg some (by kernel_rfl))
 f320:=Tryz.func241.trans (congrArg some (by kernel_rfl))
 f321:=Tryz.func235.trans (congrArg some (by kernel_rfl))
 f322:=Tryz.func236.trans (congrArg some (by kernel_rfl))
 f337:=Tryz.func248.trans (congrArg some (by kernel_rfl))
 f338:=Tryz.func249.trans (congrArg some (by kernel_rfl))
 t0:=Tryz.underlying0
 a0:=Tryz.isAgg0
 z0:=Tryz.sizeOf0
 v0:=Tryz.zeroValue0
 t2:=Tryz.underlying2
 a2:=Tryz.isAgg2
 z2:=Tryz.sizeOf2
 v2:=Tryz.zeroValue2
 t3:=Tryz.underlying3
 a3:=Tryz.isAgg3
 z3:=Tryz.sizeOf3
 v3:=Tryz.zeroValue3
 t4:=Tryz.underlying4
 a4:=Tryz.isAgg4
 z4:=Tryz.sizeOf4
 v4:=Tryz.zeroValue4
 t5:=Tryz.underlying5
 a5:=Tryz.isAgg5
 z5:=Tryz.sizeOf5
 v5:=Tryz.zeroValue5
 t9:=Tryz.underlying9
 a9:=Tryz.isAgg9
 z9:=Tryz.sizeOf9
 v9:=Tryz.zeroValue9
 t20:=Tryz.underlying20
 a20:=Tryz.isAgg20
 z20:=Tryz.sizeOf20
 v20:=Tryz.zeroValue20
 t21:=Tryz.underlying21
 a21:=Tryz.isAgg21
 z21:=Tryz.sizeOf21
 v21:=Tryz.zeroValue21
 t37:=Tryz.underlying163
 a37:=Tryz.isAgg163
 z37:=Tryz.sizeOf163
 v37:=Tryz.zeroValue163
 t46:=Tryz.underlying272
 a46:=Tryz.isAgg272
 z46:=Tryz.sizeOf272
 v46:=Tryz.zeroValue272
 t51:=Tryz.underlying227
 a51:=Tryz.isAgg227
 z51:=Tryz.sizeOf227
 v51:=Tryz.zeroValue227
 t53:=Tryz.underlying219
 a53:=Tryz.isAgg219
 z53:=Tryz.sizeOf219
 v53:=Tryz.zeroValue219
 t75:=Tryz.underlying205
 a75:=Tryz.isAgg205
 z75:=Tryz.sizeOf205
 v75:=Tryz.zeroValue205
 t76:=Tryz.underlying206
 a76:=Tryz.isAgg206
 z76:=Tryz.sizeOf206
 v76:=Tryz.zeroValue206
 t85:=Tryz.underlying247
 a85:=Tryz.isAgg247
 z85:=Tryz.sizeOf247
 v85:=Tryz.zeroValue247
 t127:=Tryz.underlying222
 a127:=Tryz.isAgg222
 z127:=Tryz.sizeOf222
 v127:=Tryz.zeroValue222
 t143:=Tryz.underlying298
 a143:=Tryz.isAgg298
 z143:=Tryz.sizeOf298
 v143:=Tryz.zeroValue298
 t145:=Tryz.underlying300
 a145:=Tryz.isAgg300
 z145:=Tryz.sizeOf300
 v145:=Tryz.zeroValue300
 t167:=Tryz.underlying246
 a167:=Tryz.isAgg246
 z167:=Tryz.sizeOf246
 v167:=Tryz.zeroValue246
 t168:=Tryz.underlying249
 a168:=Tryz.isAgg249
 z168:=Tryz.sizeOf249
 v168:=Tryz.zeroValue249
 t171:=Tryz.underlying276
 a171:=Tryz.isAgg276
 z171:=Tryz.sizeOf276
 v171:=Tryz.zeroValue276
 t173:=Tryz.underlying279
 a173:=Tryz.isAgg279
 z173:=Tryz.sizeOf279
 v173:=Tryz.zeroValue279
 t175:=Tryz.underlying270
 a175:=Tryz.isAgg270
 z175:=Tryz.sizeOf270
 v175:=Tryz.zeroValue270
 t210:=Tryz.underlying274
 a210:=Tryz.isAgg274
 z210:=Tryz.sizeOf274
 v210:=Tryz.zeroValue274
 t212:=Tryz.underlying303
 a212:=Tryz.isAgg303
 z212:=Tryz.sizeOf303
 v212:=Tryz.zeroValue303
 t213:=Tryz.underlying304
 a213:=Tryz.isAgg304
 z213:=Tryz.sizeOf304
 t232:=Tryz.underlying333
 a232:=Tryz.isAgg333
 z232:=Tryz.sizeOf333
 v232:=Tryz.zeroValue333
 t233:=Tryz.underlying334
 a233:=Tryz.isAgg334
 z233:=Tryz.sizeOf334
 v233:=Tryz.zeroValue334
 g15:=by kernel_rfl
 g16:=by kernel_rfl
 g17:=by kernel_rfl
 g18:=by kernel_rfl
 g19:=by kernel_rfl
 t80:=Tryz.underlying147
 a80:=Tryz.isAgg147
 z80:=Tryz.sizeOf147
 v80:=Tryz.zeroValue147
 i0:=by kernel_rfl
 i2:=by kernel_rfl
 i3:=by kernel_rfl
 i4:=by kernel_rfl
 i5:=by kernel_rfl
 i9:=by kernel_rfl
 i20:=by kernel_rfl
 i21:=by kernel_rfl
 i37:=by kernel_rfl
 i46:=by kernel_rfl
 i51:=by kernel_rfl
 i53:=by kernel_rfl
 i75:=by kernel_rfl
 i76:=by kernel_rfl
 i80:=by kernel_rfl
 i85:=by kernel_rfl
 i127:=by kernel_rfl
 i143:=by kernel_rfl
 i145:=by kernel_rfl
 i167:=by kernel_rfl
 i168:=by kernel_rfl
 i171:=by kernel_rfl
 i173:=by kernel_rfl
 i175:=by kernel_rfl
 i210:=by kernel_rfl
 i212:=by kernel_rfl
 i232:=by kernel_rfl
 i233:=by kernel_rfl
 m15:=by kernel_rfl
 m16:=by kernel_rfl
 m17:=by kernel_rfl
 m18:=by kernel_rfl
 m19:=by kernel_rfl
 c0:=by kernel_rfl
 c2:=by kernel_rfl
 c3:=by kernel_rfl
 c4:=by kernel_rfl
 c5:=by kernel_rfl
 c9:=by kernel_rfl
 c20:=by kernel_rfl
 c21:=by kernel_rfl
 c37:=by kernel_rfl
 c46:=by kernel_rfl
 c51:=by kernel_rfl
 c53:=by kernel_rfl
 c75:=by kernel_rfl
 c76:=by kernel_rfl
 c80:=by kernel_rfl
 c85:=by kernel_rfl
 c127:=by kernel_rfl
 c143:=by kernel_rfl
 c145:=by kernel_rfl
 c167:=by kernel_rfl
 c168:=by kernel_rfl
 c171:=by kernel_rfl
 c173:=by kernel_rfl
 c175:=by kernel_rfl
 c210:=by kernel_rfl
 c212:=by kernel_rfl
 c213:=by kernel_rfl
 c232:=by kernel_rfl
 c233:=by kernel_rfl}
open Go.RowKit in
theorem Tryz.strconv_Atoi_ok (s:ByteArray) (hmax:s.size≤9223372036854775806) (v:Int) (h:Lib.atoiAll s.data.toList= .ok v) (w:World):
  Calls Tryz.prog 173 #[.string s] w fun e w'=>e= .returned (.tuple #[.int .i64 v, .nilIface])∧(w'=w∨∃t,w'=Lib.bytesWorld w 5 t):=Any.strconv_Atoi_ok Tryz.laysC172 s hmax v h w
open Go.RowKit in
theorem Tryz.strconv_Atoi_syntax_var (s:ByteArray) (hlim:s.size≤281474976710656) (h:Lib.atoiAll s.data.toList=Lib.NumEnd.syntax) (tp:TypeId) (p:Value) (w:World) (hvar:w.var? Tryz.prog "strconv.ErrSyntax" =some #[.iface tp p]):
  Calls Tryz.prog 173 #[.string s] w fun e w'=>∃N,e= .returned (.tuple #[.int .i64 0, .iface 249 (.pointer (some ⟨N,0,none⟩))])∧w.heap.size≤N∧w'.heap[N]? =some (.cells #[.string ⟨#[65,116,111,105]⟩, .string s, .iface tp p] 274 (0,0))∧Below w.heap.size w w':=Any.strconv_Atoi_syntax_var Tryz.laysC172 s hlim h tp p w hvar
open Go.RowKit in
theorem Tryz.strconv_Atoi_range_var (s:ByteArray) (hlim:s.size≤281474976710656) (h:Lib.atoiAll s.data.toList= .range) (tp:TypeId) (p:Value) (w:World) (hvar:w.var? Tryz.prog "strconv.ErrRange" =some #[.iface tp p]):
  Calls Tryz.prog 173 #[.string s] w fun e w'=>∃N,e= .returned (.tuple #[.int .i64 (Lib.atoiSat s.data.toList), .iface 249 (.pointer (some ⟨N,0,none⟩))])∧w.heap.size≤N∧w'.heap[N]? =some (.cells #[.string ⟨#[65,116,111,105]⟩, .string s, .iface tp p] 274 (0,0))∧Below w.heap.size w w':=Any.strconv_Atoi_range_var Tryz.laysC172 s hlim h tp p w hvar
def Tryz.lays157_ren:Go.Shelf.Ren:=⟨fun | 157=>164 | 229=>186 | 199=>187 | 261=>200 | 311=>216 | 312=>217 | n=>n,fun | 9=>9 | 31=>25 | 3=>3 | 5=>5 | 4=>4 | 119=>217 | 0=>0 | 40=>209 | 152=>240 | 21=>21 | 154=>242 | 51=>227 | 141=>244 | 196=>262 | 193=>259 | 198=>265 | 49=>263 | 194=>260 | 201=>268 | 226=>295 | 46=>272 | 227=>296 | n=>n,fun | 0=>0 | 6=>1 | n=>n⟩
theorem Tryz.lays157:Go.Proofs.Lays.n157 Tryz.prog Tryz.lays157_ren:={
 mixed:=by kernel_rfl
 f157:=Tryz.func164.trans (congrArg some (by kernel_rfl))
 f199:=Tryz.func187.trans (congrArg some (by kernel_rfl))
 f229:=Tryz.func186.trans (congrArg some (by kernel_rfl))
 f261:=Tryz.func200.trans (congrArg some (by kernel_rfl))
 f311:=Tryz.func216.trans (congrArg some (by kernel_rfl))
 f312:=Tryz.func217.trans (congrArg some (by kernel_rfl))
 t0:=Tryz.underlying0
 a0:=Tryz.isAgg0
 z0:=Tryz.sizeOf0
 v0:=Tryz.zeroValue0
 t3:=Tryz.underlying3
 a3:=Tryz.isAgg3
 z3:=Tryz.sizeOf3
 v3:=Tryz.zeroValue3
 t4:=Tryz.underlying4
 a4:=Tryz.isAgg4
 z4:=Tryz.sizeOf4
 v4:=Tryz.zeroValue4
 t5:=Tryz.underlying5
 a5:=Tryz.isAgg5
 z5:=Tryz.sizeOf5
 v5:=Tryz.zeroValue5
 t9:=Tryz.underlying9
 a9:=Tryz.isAgg9
 z9:=Tryz.sizeOf9
 v9:=Tryz.zeroValue9
 t21:=Tryz.underlying21
 a21:=Tryz.isAgg21
 z21:=Tryz.sizeOf21
 v21:=Tryz.zeroValue21
 t31:=Tryz.underlying25
 a31:=Tryz.isAgg25
 z31:=Tryz.sizeOf25
 v31:=Tryz.zeroValue25
 t40:=Tryz.underlying209
 a40:=Tryz.isAgg209
 z40:=Tryz.sizeOf209
 v40:=Tryz.zeroValue209
 t46:=Tryz.underlying272
 a46:=Tryz.isAgg272
 z46:=Tryz.sizeOf272
 v46:=Tryz.zeroValue272
 t49:=Tryz.underlying263
 a49:=Tryz.isAgg263
 z49:=Tryz.sizeOf263
 v49:=Tryz.zeroValue263
 t51:=Tryz.underlying227
 a51:=Tryz.isAgg227
 z51:=Tryz.sizeOf227
 v51:=Tryz.zeroValue227
 t119:=Tryz.underlying217
 a119:=Tryz.isAgg217
 z119:=Tryz.sizeOf217
 t141:=Tryz.underlying244
 a141:=Tryz.isAgg244
 z141:=Tryz.sizeOf244
 v141:=Tryz.zeroValue244
 t152:=Tryz.underlying240
 a152:=Tryz.isAgg240
 z152:=Tryz.sizeOf240
 v152:=Tryz.zeroValue240
 t154:=Tryz.underlying242
 a154:=Tryz.isAgg242
 z154:=Tryz.sizeOf242
 v154:=Tryz.zeroValue242
 t193:=Tryz.underlying259
 a193:=Tryz.isAgg259
 z193:=Tryz.sizeOf259
 v193:=Tryz.zeroValue259
 t194:=Tryz.underlying260
 a194:=Tryz.isAgg260
 z194:=Tryz.sizeOf260
 v194:=Tryz.zeroValue260
 t196:=Tryz.underlying262
 a196:=Tryz.isAgg262
 z196:=Tryz.sizeOf262
 v196:=Tryz.zeroValue262
 t198:=Tryz.underlying265
 a198:=Tryz.isAgg265
 z198:=Tryz.sizeOf265
 v198:=Tryz.zeroValue265
 t201:=Tryz.underlying268
 a201:=Tryz.isAgg268
 z201:=Tryz.sizeOf268
 v201:=Tryz.zeroValue268
 t226:=Tryz.underlying295
 a226:=Tryz.isAgg295
 z226:=Tryz.sizeOf295
 v226:=Tryz.zeroValue295
 t227:=Tryz.underlying296
 a227:=Tryz.isAgg296
 z227:=Tryz.sizeOf296
 v227:=Tryz.zeroValue296
 g0:=by kernel_rfl
 g6:=by kernel_rfl}
open Go.RowKit Go.Lib in
theorem Tryz.strings_Fields (s:ByteArray) (w:World) (hs:s.size<4294967281) (hascii:∀(j:Nat) b,s.data.toList[j]? =some b→b.toNat<128) (htab:Lib.TabIs Tryz.prog w "strings.asciiSpace" .u8 Lib.asciiSpaceTab):
  Calls Tryz.prog 164 #[.string s] w fun e w'=>
   e= .returned (.slice (some ⟨w.heap.size,0,none⟩) (Lib.fields s.data.toList).length (Lib.fields s.data.toList).length)∧w'=w.alloc (.cells ((Lib.fields s.data.toList).map fun l=>Value.string ⟨l.toArray⟩).toArray 9):=Any.strings_Fields Tryz.lays157 (by kernel_rfl) (by kernel_rfl) s w hs hascii htab
end Go.Proofs
end
section
namespace Go.Proofs.YtmbppnbekkbibaaGreatDoor
open Go.RowKit
theorem below_grow (w:World) (k:Nat) (os:Array Obj):Below w.heap.size w (Sort.grow (w.drewN k) os):=
 ⟨rfl,rfl,rfl,by simp [Sort.grow],fun i hi=>by simp only [Sort.grow,World.heap_drewN];rw [Array.getElem?_append,if_pos hi]⟩
theorem Oa (s:ByteArray):s.toList=s.data.toList:=ByteArray.toList_eq s
structure mH (w:World):Prop where
 tab:Lib.TabIs Tryz.prog w "internal/strconv.uint64pow10" .u64 Lib.pow10Tab
 syn:∃tp p,w.var? Tryz.prog "strconv.ErrSyntax" =some #[.iface tp p]
 rng:∃tp p,w.var? Tryz.prog "strconv.ErrRange" =some #[.iface tp p]
theorem kY {w w':World} {name:String} {cs:Array Value} (h:w.var? Tryz.prog name=some cs) (hb:Below w.heap.size w w'):w'.var? Tryz.prog name=some cs:=by
 unfold World.var? at h ⊢;cases hg:Tryz.prog.globalNamed name with
 | none=>rw [hg]at h;cases h
 | some g=>
  rw [hg]at h;simp only [Option.bind_some]at h ⊢;by_cases hlt:g<w.heap.size
  ·rw [hb.block g hlt];exact h
  ·rw [Array.getElem?_eq_none (by omega)]at h;cases h
theorem mH.below {w w':World} (h:mH w) (hb:Below w.heap.size w w'):mH w':=by
 obtain⟨h1,⟨tp,p,h2⟩,⟨tp',p',h3⟩⟩:=h;exact⟨kY h1 hb,⟨tp,p,kY h2 hb⟩,⟨tp',p',kY h3 hb⟩⟩
theorem mH.drewN {w:World} (h:mH w) (n:Nat):mH (w.drewN n):=h.below ⟨rfl,rfl,rfl,Nat.le_refl _,fun _ _=>rfl⟩
theorem JW (n:Int) (w:World) (hn:In64 n) (htab:Lib.TabIs Tryz.prog w "internal/strconv.uint64pow10" .u64 Lib.pow10Tab):
  Calls Tryz.prog 160 #[.int .i64 n] w fun e w'=>e= .returned (sv (Lib.itoa n))∧Below w.heap.size w w':=by
 go_enter Tryz.func160,Tryz.ntmps160;go_wp2_with (go_at_call 182;refine(Tryz.strconv_Itoa n hn.1 hn.2 _ htab).mono ?_;rintro e w' ⟨rfl,k,os,rfl⟩);go_ret;exact⟨rfl,below_grow _ _ _⟩
theorem JX (n:Int) (w:World) (hn:In64 n) (hL:mH w):
  Calls Tryz.prog 160 #[.int .i64 n] w fun e w'=>e= .returned (sv (Lib.itoa n))∧Below w.heap.size w w':=JW n w hn hL.tab
theorem JY (s:ByteArray) (w:World) (hs:s.size≤281474976710656) (hL:mH w):
  Calls Tryz.prog 173 #[.string s] w fun e w'=>∃v x,e= .returned (.tuple #[.int .i64 v,x])∧Below w.heap.size w w'∧
   ((Lib.atoiAll s.data.toList= .ok v∧x= .nilIface)∨((∀u,Lib.atoiAll s.data.toList≠ .ok u)∧∃t y,x= .iface t y)):=by
 obtain⟨_,⟨tp,p,h2⟩,⟨tp',p',h3⟩⟩:=hL;rcases h:Lib.atoiAll s.data.toList with v | _ | _
 ·refine(Tryz.strconv_Atoi_ok s (by omega) v h w).mono ?_;rintro e w' ⟨rfl,hw⟩;refine⟨v, _,rfl, ?_, .inl ⟨rfl,rfl⟩⟩;rcases hw with rfl | ⟨t,rfl⟩
  ·exact Below.refl _ _
  ·exact Lib.bytesWorld_below w _ t
 ·refine(Tryz.strconv_Atoi_syntax_var s hs h tp p w h2).mono ?_;rintro e w' ⟨N,rfl, _, _,hb⟩;exact⟨_, _,rfl,hb, .inr ⟨fun u hu=>(by cases hu), _, _,rfl⟩⟩
 ·refine(Tryz.strconv_Atoi_range_var s hs h tp' p' w h3).mono ?_;rintro e w' ⟨N,rfl, _, _,hb⟩;exact⟨_, _,rfl,hb, .inr ⟨fun u hu=>(by cases hu), _, _,rfl⟩⟩
theorem Ic {l:List UInt8} (h:∀u,Lib.atoiAll l≠ .ok u):eU l=(0,false):=by
 rw [jQ];cases ha:Lib.atoiAll l with
 | ok u=>exact absurd ha (h u)
 | _=>rfl
theorem Ie {l:List UInt8} {v:Int} (h:Lib.atoiAll l= .ok v) (h0:v<0):eU l=(0,false):=by
 rw [jQ,h];dsimp only;rw [if_pos (.inl h0)]
theorem Ev {l:List UInt8} {v:Int} (h:Lib.atoiAll l= .ok v) (h0:Lib.itoa v≠l):eU l=(0,false):=by
 rw [jQ,h];dsimp only;rw [if_pos (.inr h0)]
theorem Ew {l:List UInt8} {v:Int} (h:Lib.atoiAll l= .ok v) (h0:0≤v) (h1:Lib.itoa v=l):eU l=(v,true):=by
 rw [jQ,h];dsimp only;rw [if_neg];rintro(h | h)
 ·omega
 ·exact h h1
theorem Bc {a c:Int} {b d:Bool} (h:(a,b)=(c,d)):Ending.returned (.tuple #[.int .i64 a, .bool b])= .returned (.tuple #[.int .i64 c, .bool d]):=by
 cases h;rfl
theorem zW (s:ByteArray) (w:World) (hs:s.size≤281474976710656) (hL:mH w):
  Calls Tryz.prog 148 #[.string s] w fun e w'=>e= .returned (.tuple #[.int .i64 (eU s.data.toList).1, .bool (eU s.data.toList).2])∧Below w.heap.size w w':=by
 go_enter Tryz.func148,Tryz.ntmps148;go_wp2_with fail;refine(JY s _ hs hL).mono ?_;rintro e w1 ⟨v,x,rfl,hb1,hx⟩;have hL1:=hL.below hb1;rcases hx with⟨ha,rfl⟩ | ⟨ha,t,y,rfl⟩
 ·by_cases h0:v<0
  ·have HV:=hid (Ie ha h0);clear ha;go_wp2_with fail
   go_ret2
   exact⟨Bc (by rw [HV.out]),hb1⟩
  ·have hv:In64 v:=by
    have:=Gc ha;unfold In64;omega
   have HA:=hid ha;clear ha;go_wp2_with (go_at_call 160;refine(JX v _ hv hL1).mono ?_;rintro e w2 ⟨rfl,hb2⟩)
   ·rename_i h
    have hne:Lib.itoa v≠s.data.toList:=by
     rcases h with h | h
     ·omega
     ·simpa [Oa]using h
    go_ret2
    exact⟨Bc (by rw [Ev HA.out hne]),hb1.trans (hb2.mono hb1.size)⟩
   ·rename_i h
    have he:Lib.itoa v=s.data.toList:=by simpa [Oa]using h.2
    go_ret2
    exact⟨Bc (by rw [Ew HA.out h.1 he]),hb1.trans (hb2.mono hb1.size)⟩
 ·have HV:=hid (Ic ha);clear ha;go_wp2_with fail
  go_ret2
  exact⟨Bc (by rw [HV.out]),hb1⟩
end Go.Proofs.YtmbppnbekkbibaaGreatDoor
end
