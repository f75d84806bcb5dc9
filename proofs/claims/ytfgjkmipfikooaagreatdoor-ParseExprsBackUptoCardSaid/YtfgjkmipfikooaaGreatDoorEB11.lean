/- RA, RB, FA, FB, FC, FD, FE, FF, FG -/
import Derived.Test.YtfgjkmipfikooaaGreatDoorEB07
set_option linter.unusedSimpArgs false
set_option linter.unusedVariables false
set_option maxRecDepth 100000
set_option maxHeartbeats 4000000
namespace Go.Proofs.YtfgjkmipfikooaaGreatDoor
open Go.RowKit
abbrev DX:=Nat ×Nat ×Int
inductive Pr (α:Type) where
 |bad (d:DX):Pr α
 |good (a:α) (r:List aD):Pr α
abbrev Ps (α:Type):=List aD->Pr α
def aJ {α:Type}(a:α):Ps α:=fun ts=>.good a ts
def au {α β:Type}(p:Ps α)(f:α->Ps β):Ps β:=fun ts=>match p ts with
 |.bad d=>.bad d
 |.good a r=>f a r
theorem aj {α β:Type}{p:Ps α}{f:α->Ps β}{ts r:List aD}{a:α}(h:p ts=.good a r):au p f ts=f a r:=by unfold au;rw [h]
theorem aB {α β:Type}{p:Ps α}{f:α->Ps β}{ts:List aD}{d:DX}(h:p ts=.bad d):au p f ts=.bad d:=by unfold au;rw [h]
def aW (ts:List aD):aD:=ts.headD ⟨0,[],0,0⟩
def mh {α:Type}(e:Int):Ps α:=fun ts=>.bad ((aW ts).line,(aW ts).col,e)
def lV (t:aD)(s:Bt):Bool:=(t.kind==2 || t.kind==5) && t.text==s
def dJ (l:List Bt):Ps (Option Nat):=fun ts=>match l.findIdx? (lV (aW ts))with
 |none=>.good none ts
 |some i=>.good (some i) (ts.drop 1)
def fF (s:Bt):Ps Bool:=fun ts=>if lV (aW ts) s then .good true (ts.drop 1)else .good false ts
theorem vB {t:aD}{s:Bt}(h:lV t s=true)(r:List aD):fF s (t :: r)=.good true r:=by
 unfold fF;rw [if_pos (show lV (aW (t :: r)) s=true from h)];rfl
theorem zh {t:aD}{s:Bt}(h:lV t s=false)(r:List aD):fF s (t :: r)=.good false (t :: r):=by
 unfold fF;rw [if_neg (show ¬lV (aW (t :: r)) s=true from fun e=>by rw [show lV (aW (t :: r)) s=lV t s from rfl,h]at e;cases e)]
theorem xV {t:aD}{l:List Bt}{i:Nat}(h:l.findIdx? (lV t)=some i)(r:List aD):dJ l (t :: r)=.good (some i) r:=by
 unfold dJ;rw [show l.findIdx? (lV (aW (t :: r)))=some i from h];rfl
theorem BG {t:aD}{l:List Bt}(h:l.findIdx? (lV t)=none)(r:List aD):dJ l (t :: r)=.good none (t :: r):=by
 unfold dJ;rw [show l.findIdx? (lV (aW (t :: r)))=none from h]
def aN (s:Bt):Ps Unit:=au (fF s) fun b=>if b then aJ ()else mh 7
def jX:List Bt->Ps Unit
 | []=>aJ ()
 |s :: l=>au (aN s) fun _=>jX l
def fK (k:Int):Ps Bt:=fun ts=>if(aW ts).kind=k then .good (aW ts).text (if k=0 then ts else ts.drop 1)else .bad ((aW ts).line,(aW ts).col,7)
def nameP:Ps Bt:=fK 1
def sG {α:Type}(one:Ps α):Nat->List α->Ps (List α)
 |0,l=>aJ l
 |f+1,l=>au (fF [44]) fun b=>if b then au one fun a=>sG one f (l++[a])else aJ l
def jN {α:Type}(one:Ps α):Ps (List α):=au one fun a ts=>sG one ts.length [a] ts
section
variable (typ:Ps bC)
def KC:List Bt:=[[97,110,121],[110,117,108,108],[98,111,111,108],[105,110,116],[115,116,114]]
def mJ:Ps (Bt ×bC):=au nameP fun s=>au (aN [58]) fun _=>au typ fun t=>aJ (s,t)
def jT:Ps bC:=au (dJ KC) fun b=>match b with
 |some k=>aJ (.mk k [] [] [])
 |none=>au (dJ [[40],[123]]) fun c=>match c with
  |none=>au nameP fun s=>aJ (.mk 8 s [] [])
  |some 0=>au typ fun t=>au (aN [41]) fun _=>aJ t
  |some _=>au (fF [125]) fun e=>if e then aJ (.mk 5 [] [] [])else
    au (jN (mJ typ)) fun l=>au (aN [125]) fun _=>aJ (.mk 5 [] (l.map (·.1)) (l.map (·.2)))
def qP:Nat->List bC->Ps (List bC)
 |0,l=>aJ l
 |f+1,l=>au (fF [124]) fun b=>if b then au (jT typ) fun a=>qP f (l++[a])else aJ l
def iW:List bC->bC
 | [t]=>t
 |l=>.mk 7 [] [] l
def FZ:Ps bC:=au (jT typ) fun a=>au (fun ts=>qP typ ts.length [a] ts) fun l=>au (fF [45,62]) fun b=>
 if b then au typ fun r=>aJ (.mk 6 [] [] [iW l,r])else aJ (iW l)
def sH:bC:= .mk 0 [] [] []
def jd (l none_:List bC):Ps (List bC):=au (fF [58]) fun b=>if b then au typ fun t=>aJ (l++[t])else aJ (l++none_)
def kZ (none_:List bC):Ps (Bt ×List bC):=au (aN [40]) fun _=>au nameP fun s=>au (jd typ [] [sH]) fun l=>au (aN [41]) fun _=>au (jd typ l none_) fun m=>aJ (s,m)
variable (expr unary:Ps bF)
def aL (k:Int)(text:Bt)(n:Int)(at_:aD)(types:List bC)(names:List Bt)(kids:List bF):bF:= .mk k text n at_.line at_.col types names kids
def bK:List Bt->List bF->Ps (List bF)
 | [],l=>aJ l
 |s :: r,l=>au (if s=[]then aJ ()else aN s) fun _=>au expr fun x=>bK r (l++[x])
def fH:Ps aD:=fun ts=>.good (aW ts) ts
def lg (f:aD->List aD->Bool):Ps Bool:=fun ts=>.good (f (aW ts) ts) ts
def mq (ops:List Bt)(sub:Ps bF):Nat->bF->Ps bF
 |0,a=>aJ a
 |f+1,a=>au fH fun h=>au (dJ ops) fun i=>match i with
  |none=>aJ a
  |some i=>au sub fun b=>mq ops sub f (aL 14 (ops.getD i []) 0 h [] [] [a,b])
def zY (ops:List Bt)(sub:Ps bF):Ps bF:=au sub fun a ts=>mq ops sub ts.length a ts
def qC:List Bt:=[[60],[60,61],[61,61],[105,115],[97,115]]
def Ei (sub:Ps bF):Ps bF:=au sub fun a=>au fH fun h=>au (dJ qC) fun i=>match i with
 |none=>aJ a
 |some i=>
  if i=3 then au (dJ mg) fun t=>match t with
   |some t=>aJ (aL 12 [] t h [] [] [a])
   |none=>mh 7
  else if i=4 then au typ fun t=>aJ (aL 13 [] 0 h [t] [] [a])
  else au sub fun b=>aJ (aL 14 (qC.getD i []) 0 h [] [] [a,b])
def wK:List (List Bt):=[[[111,114]],[[97,110,100]],[],[[43,43]],[[43],[45],[94]],[[42],[47],[37],[38],[60,60],[62,62]]]
def jl:Nat->Ps bF
 |0=>unary
 |f+1=>if f=3 then Ei typ (jl f)else zY (wK.getD (5 - f) []) (jl f)
def rA:Ps bF:=au fH fun h=>au (dJ [[108,101,116],[105,102],[102,110]]) fun i=>match i with
 |none=>jl typ unary 6
 |some 0=>au nameP fun s=>au (jd typ [] []) fun t=>au (bK expr [[61],[59]] []) fun k=>aJ (aL 5 s 0 h t [] k)
 |some 1=>au (bK expr [[],[116,104,101,110],[101,108,115,101]] []) fun k=>aJ (aL 11 [] 0 h [] [] k)
 |some _=>au (kZ typ []) fun s=>au (bK expr [[61,62]] []) fun k=>aJ (aL 6 s.1 0 h s.2 [] k)
def iE:Ps (Bt ×bF):=au nameP fun s=>au (aN [58]) fun _=>au expr fun x=>aJ (s,x)
def rC (h:aD):Ps bF:=au (lg fun t _=>lV t [125]) fun e=>if e then aJ (aL 8 [] 0 h [] [] [])else
 au (lg fun t ts=>t.kind==1 && lV (aW (ts.drop 1)) [58]) fun c=>
  if c then au (jN (iE expr)) fun l=>aJ (aL 8 [] 0 h [] (l.map (·.1)) (l.map (·.2)))
  else au (bK expr [[]] []) fun k=>au (aN [119,105,116,104]) fun _=>au nameP fun s=>au (bK expr [[58]] k) fun m=>aJ (aL 10 s 0 h [] [] m)
def lK (h:aD):Ps bF:=au nameP fun s=>au (fF [91]) fun b=>if b then au (jN typ) fun l=>au (aN [93]) fun _=>aJ (aL 19 s 0 h l [] [])else aJ (aL 4 s 0 h [] [] [])
def wL:List Bt:=[[102,97,108,115,101],[116,114,117,101],[110,117,108,108],[114,101,97,100],[112,114,105,110,116],[40],[123]]
def iJ:Ps bF:=au fH fun h=>
 if h.kind=3 then au (fK 3) fun s=>aJ (aL 0 [] (fP s).1 h [] [] [])
 else if h.kind=4 then au (fK 4) fun s=>aJ (aL 1 s 0 h [] [] [])
 else au (dJ wL) fun i=>match i with
  |none=>lK typ h
  |some 0=>aJ (aL 2 [] 0 h [] [] [])
  |some 1=>aJ (aL 2 [] 1 h [] [] [])
  |some 2=>aJ (aL 3 [] 0 h [] [] [])
  |some 3=>au (jX [[40],[41]]) fun _=>aJ (aL 18 [] 0 h [] [] [])
  |some 4=>au (bK expr [[40]] []) fun k=>au (aN [41]) fun _=>aJ (aL 17 [] 0 h [] [] k)
  |some 5=>au expr fun x=>au (aN [41]) fun _=>aJ x
  |some _=>au (rC expr h) fun x=>au (aN [125]) fun _=>aJ x
def jB:Nat->bF->Ps bF
 |0,a=>aJ a
 |f+1,a=>au fH fun h=>au (dJ [[40],[46]]) fun i=>match i with
  |none=>aJ a
  |some 0=>au (bK expr [[]] [a]) fun k=>au (aN [41]) fun _=>jB f (aL 7 [] 0 h [] [] k)
  |some _=>au nameP fun s=>jB f (aL 9 s 0 h [] [] [a])
def nW:Ps bF:=au (iJ typ expr) fun a ts=>jB expr ts.length a ts
def nR:Ps bF:=au fH fun h=>au (dJ [[45],[110,111,116]]) fun i=>match i with
 |none=>nW typ expr
 |some 0=>au unary fun x=>aJ (aL 16 [] 0 h [] [] [x])
 |some _=>au unary fun x=>aJ (aL 15 [] 0 h [] [] [x])
end
structure acI where
 typ:Ps bC
 expr:Ps bF
 unary:Ps bF
def aU:Nat->acI
 |0=>⟨mh 6,mh 6,mh 6⟩
 |n+1=>⟨FZ (aU n).typ,rA (aU n).typ (aU n).expr (aU n).unary,nR (aU n).typ (aU n).expr (aU n).unary⟩
def CX:Ps Bv:=au nameP fun s=>au (fF [60,58]) fun b=>if b then au (aU 100).typ fun t=>aJ ⟨s,t⟩else aJ ⟨s,sH⟩
def uH:Ps (List Bv):=au (fF [91]) fun b=>if b then au (jN CX) fun l=>au (aN [93]) fun _=>aJ l else aJ []
def oh (h:aD):Ps uU:=au nameP fun s=>au (aN [58]) fun _=>au (jN nameP) fun l=>au (aN [59]) fun _=>aJ ⟨s,l,h.line,h.col⟩
def tJ:Ps nV:=au (fF [101,120,112,111,114,116]) fun e=>au fH fun h=>au (aN [102,110]) fun _=>au nameP fun s=>au uH fun v=>
 au (kZ (aU 100).typ [sH]) fun p=>au (aN [61]) fun _=>au (aU 100).expr fun b=>au (aN [59]) fun _=>aJ ⟨s,e,v,p.1,p.2,b,h.line,h.col⟩
def qD:Nat->List uU->Ps (List uU)
 |0,l=>aJ l
 |f+1,l=>au fH fun h=>au (fF [105,109,112,111,114,116]) fun b=>if b then au (oh h) fun i=>qD f (l++[i])else aJ l
def iM:Nat->List nV->Ps (List nV)
 |0,l=>aJ l
 |f+1,l=>au (lg fun t _=>t.kind==0) fun b=>if b then aJ l else au tJ fun d=>iM f (l++[d])
def Mw:Ps (List uU):=fun ts=>qD ts.length [] ts
def KD:Ps (List nV):=fun ts=>iM ts.length [] ts
def fq:Ps yS:=au Mw fun i=>au KD fun d=>aJ ⟨i,d⟩
def bZ {α:Type}(p:Ps α)(s:Bt):Option α ×DX:=
 if(iU s).2.2.2=0 then(match au p (fun x=>au (fK 0) fun _=>aJ x) (iU s).1 with
  |.bad d=>(none,d)
  |.good x _=>(some x,(0,0,0)))
 else(none,(iU s).2)
def Wf (ts:List aD):Prop:=∃a e,ts=a++[e]∧e.kind=0∧∀t∈a,t.kind≠0∧(t.kind=2->t.text≠[58])
theorem Wf.one {e:aD}(h:e.kind=0):Wf [e]:=⟨[],e,rfl,h,by simp⟩
theorem Wf.pos {ts:List aD}(h:Wf ts):1<=ts.length:=by obtain⟨a,e,rfl,_⟩:=h;simp
theorem Wf.cases {ts:List aD}(h:Wf ts):(∃e,ts=[e]∧e.kind=0)∨∃t r,ts=t :: r∧t.kind≠0∧(t.kind=2->t.text≠[58])∧Wf r:=by
 obtain⟨a,e,rfl,h0,h1⟩:=h;cases a with
 |nil=>exact .inl ⟨e,rfl,h0⟩
 |cons t a=>exact .inr ⟨t,a++[e],rfl,(h1 t (by simp)).1,(h1 t (by simp)).2,a,e,rfl,h0,fun x hx=>h1 x (by simp [hx])⟩
theorem Wf.CY {ts:List aD}(h:Wf ts):aW ts∈ts:=by
 rcases h.cases with⟨e,rfl,_⟩ |⟨t,r,rfl,_⟩ <;> simp [aW]
theorem Wf.drop {ts:List aD}(h:Wf ts)(hk:(aW ts).kind≠0):Wf (ts.drop 1):=by
 rcases h.cases with⟨e,rfl,h0⟩ |⟨t,r,rfl,_,_,hr⟩
 ·exact absurd h0 (by simpa [aW]using hk)
 ·simpa using hr
theorem Iq {t:aD}{s:Bt}(h:lV t s=true):t.kind≠0:=by
 unfold lV at h;intro h0;rw [h0]at h;simp at h
def Sf {α:Type}(p:Ps α):Prop:=∀ts,Wf ts->match p ts with
 |.bad d=>(∃t∈ts,d.1=t.line∧d.2.1=t.col)∧(d.2.2=6∨d.2.2=7)
 |.good _ r=>Wf r∧r<:+ts
section
variable {α β:Type}
theorem Sf.bad {p:Ps α}(h:Sf p){ts:List aD}(hw:Wf ts){d:DX}(hp:p ts=.bad d):(∃t∈ts,d.1=t.line∧d.2.1=t.col)∧(d.2.2=6∨d.2.2=7):=by
 have:=h ts hw;rwa [hp]at this
theorem Sf.good {p:Ps α}(h:Sf p){ts:List aD}(hw:Wf ts){a:α}{r:List aD}(hp:p ts=.good a r):Wf r∧r<:+ts:=by
 have:=h ts hw;rwa [hp]at this
theorem Sf.ret (a:α):Sf (aJ a):=fun ts hw=>⟨hw,List.suffix_refl _⟩
theorem Sf.then_ {p:Ps α}{f:α->Ps β}(h:Sf p)(hf:∀a,Sf (f a)):Sf (au p f):=by
 intro ts hw;unfold au;rcases hp:p ts with d |⟨a,r⟩
 ·exact h.bad hw hp
 ·obtain⟨hr,hs⟩:=h.good hw hp;have h2:=hf a r hr;simp only;rcases hq:f a r with d |⟨b,r2⟩
  ·rw [hq]at h2;obtain⟨⟨t,ht,e⟩,h3⟩:=h2;exact⟨⟨t,hs.subset ht,e⟩,h3⟩
  ·rw [hq]at h2;exact⟨h2.1,h2.2.trans hs⟩
theorem Sf.fail {e:Int}(he:e=6∨e=7):Sf (mh (α:=α) e):=fun ts hw=>⟨⟨_,hw.CY,rfl,rfl⟩,he⟩
theorem CZ (ts:List aD):ts.drop 1<:+ts:=List.drop_suffix 1 ts
theorem Sf.jZ (l:List Bt):Sf (dJ l):=by
 intro ts hw;unfold dJ;rcases h:l.findIdx? (lV (aW ts))with _ |i
 ·exact⟨hw,List.suffix_refl _⟩
 ·obtain⟨hi,h1,_⟩:=List.findIdx?_eq_some_iff_getElem.1 h;exact⟨hw.drop (Iq h1),CZ ts⟩
theorem Sf.has (s:Bt):Sf (fF s):=by
 intro ts hw;unfold fF;by_cases h:lV (aW ts) s=true
 ·rw [if_pos h];exact⟨hw.drop (Iq h),CZ ts⟩
 ·rw [if_neg h];exact⟨hw,List.suffix_refl _⟩
theorem Sf.want (s:Bt):Sf (aN s):=Sf.then_ (Sf.has s) fun b=>by
 cases b
 ·exact Sf.fail (.inr rfl)
 ·exact Sf.ret ()
theorem Sf.wants:∀l:List Bt,Sf (jX l)
 | []=>Sf.ret ()
 |s :: l=>Sf.then_ (Sf.want s) fun _=>Sf.wants l
theorem Sf.kind (k:Int):Sf (fK k):=by
 intro ts hw;unfold fK;by_cases h:(aW ts).kind=k
 ·rw [if_pos h];by_cases h0:k=0
  ·rw [if_pos h0];exact⟨hw,List.suffix_refl _⟩
  ·rw [if_neg h0];exact⟨hw.drop (by rw [h];exact h0),CZ ts⟩
 ·rw [if_neg h];exact⟨⟨_,hw.CY,rfl,rfl⟩,.inr rfl⟩
theorem Sf.name:Sf nameP:=Sf.kind 1
theorem Sf.here:Sf fH:=fun ts hw=>⟨hw,List.suffix_refl _⟩
theorem Sf.seen (f:aD->List aD->Bool):Sf (lg f):=fun ts hw=>⟨hw,List.suffix_refl _⟩
theorem Sf.fuel {p:List aD->Ps α}(h:∀ts,Sf (p ts)):Sf (fun ts=>p ts ts):=fun ts hw=>h ts ts hw
theorem Sf.Un {one:Ps α}(h:Sf one):∀(f:Nat) (l:List α),Sf (sG one f l)
 |0,l=>Sf.ret l
 |f+1,l=>Sf.then_ (Sf.has _) fun b=>by
  cases b
  ·exact Sf.ret l
  ·exact Sf.then_ h fun a=>Sf.Un h f _
theorem Sf.sep {one:Ps α}(h:Sf one):Sf (jN one):=Sf.then_ h fun a=>Sf.fuel (p:=fun ts=>sG one ts.length [a]) fun ts=>Sf.Un h _ _
end
section
variable {typ:Ps bC}(ht:Sf typ) {expr unary:Ps bF}(he:Sf expr) (hu:Sf unary)
include ht
theorem Sf.KE:Sf (jT typ):=by
 refine Sf.then_ (Sf.jZ _) fun b=>?_;rcases b with _ |k
 ·refine Sf.then_ (Sf.jZ _) fun c=>?_;rcases c with _ |_ |k
  ·exact Sf.then_ Sf.name fun s=>Sf.ret _
  ·exact Sf.then_ ht fun t=>Sf.then_ (Sf.want _) fun _=>Sf.ret _
  ·refine Sf.then_ (Sf.has _) fun e=>?_;cases e
   ·exact Sf.then_ (Sf.sep (Sf.then_ Sf.name fun s=>Sf.then_ (Sf.want _) fun _=>Sf.then_ ht fun t=>Sf.ret _)) fun l=>Sf.then_ (Sf.want _) fun _=>Sf.ret _
   ·exact Sf.ret _
 ·exact Sf.ret _
theorem Sf.alt:∀(f:Nat) (l:List bC),Sf (qP typ f l)
 |0,l=>Sf.ret l
 |f+1,l=>Sf.then_ (Sf.has _) fun b=>by
  cases b
  ·exact Sf.ret l
  ·exact Sf.then_ (Sf.KE ht) fun a=>Sf.alt f _
theorem Sf.WU:Sf (FZ typ):=Sf.then_ (Sf.KE ht) fun a=>Sf.then_ (Sf.fuel (p:=fun ts=>qP typ ts.length [a]) fun ts=>Sf.alt ht _ _) fun l=>Sf.then_ (Sf.has _) fun b=>by
 cases b
 ·exact Sf.ret _
 ·exact Sf.then_ ht fun r=>Sf.ret _
theorem Sf.note (l n:List bC):Sf (jd typ l n):=Sf.then_ (Sf.has _) fun b=>by
 cases b
 ·exact Sf.ret _
 ·exact Sf.then_ ht fun r=>Sf.ret _
theorem Sf.head (n:List bC):Sf (kZ typ n):=Sf.then_ (Sf.want _) fun _=>Sf.then_ Sf.name fun s=>Sf.then_ (Sf.note ht _ _) fun l=>Sf.then_ (Sf.want _) fun _=>Sf.then_ (Sf.note ht _ _) fun m=>Sf.ret _
omit ht
include he
theorem Sf.kids:∀(a:List Bt) (l:List bF),Sf (bK expr a l)
 | [],l=>Sf.ret l
 |s :: r,l=>Sf.then_ (by split;exact Sf.ret ();exact Sf.want s) fun _=>Sf.then_ he fun x=>Sf.kids r _
omit he
theorem Sf.left {sub:Ps bF}(hs:Sf sub)(ops:List Bt):∀(f:Nat) (a:bF),Sf (mq ops sub f a)
 |0,a=>Sf.ret a
 |f+1,a=>Sf.then_ Sf.here fun h=>Sf.then_ (Sf.jZ _) fun i=>by
  rcases i with _ |i
  ·exact Sf.ret a
  ·exact Sf.then_ hs fun b=>Sf.left hs ops f _
theorem Sf.Ra {sub:Ps bF}(hs:Sf sub)(ops:List Bt):Sf (zY ops sub):=Sf.then_ hs fun a=>Sf.fuel (p:=fun ts=>mq ops sub ts.length a) fun ts=>Sf.left hs _ _ _
include ht
theorem Sf.cmp {sub:Ps bF}(hs:Sf sub):Sf (Ei typ sub):=Sf.then_ hs fun a=>Sf.then_ Sf.here fun h=>Sf.then_ (Sf.jZ _) fun i=>by
 rcases i with _ |i
 ·exact Sf.ret a
 ·simp only;split
  ·refine Sf.then_ (Sf.jZ _) fun t=>?_;rcases t with _ |t
   ·exact Sf.fail (.inr rfl)
   ·exact Sf.ret _
  ·split
   ·exact Sf.then_ ht fun t=>Sf.ret _
   ·exact Sf.then_ hs fun b=>Sf.ret _
include hu
theorem Sf.rank:∀f:Nat,Sf (jl typ unary f)
 |0=>hu
 |f+1=>by
  unfold jl;split
  ·exact Sf.cmp ht (Sf.rank f)
  ·exact Sf.Ra (Sf.rank f) _
include he
theorem Sf.Rb:Sf (rA typ expr unary):=Sf.then_ Sf.here fun h=>Sf.then_ (Sf.jZ _) fun i=>by
 rcases i with _ |_ |_ |i
 ·exact Sf.rank ht hu 6
 ·exact Sf.then_ Sf.name fun s=>Sf.then_ (Sf.note ht _ _) fun t=>Sf.then_ (Sf.kids he _ _) fun k=>Sf.ret _
 ·exact Sf.then_ (Sf.kids he _ _) fun k=>Sf.ret _
 ·exact Sf.then_ (Sf.head ht _) fun s=>Sf.then_ (Sf.kids he _ _) fun k=>Sf.ret _
omit hu ht
theorem Sf.F3:Sf (iE expr):=Sf.then_ Sf.name fun s=>Sf.then_ (Sf.want _) fun _=>Sf.then_ he fun x=>Sf.ret _
theorem Sf.wM (h:aD):Sf (rC expr h):=Sf.then_ (Sf.seen _) fun e=>by
 cases e
 ·rw [if_neg Bool.false_ne_true];refine Sf.then_ (Sf.seen _) fun c=>?_;cases c
  ·exact Sf.then_ (Sf.kids he _ _) fun k=>Sf.then_ (Sf.want _) fun _=>Sf.then_ Sf.name fun s=>Sf.then_ (Sf.kids he _ _) fun m=>Sf.ret _
  ·exact Sf.then_ (Sf.sep (Sf.F3 he)) fun l=>Sf.ret _
 ·exact Sf.ret _
include ht
omit he
theorem Sf.named (h:aD):Sf (lK typ h):=Sf.then_ Sf.name fun s=>Sf.then_ (Sf.has _) fun b=>by
 cases b
 ·exact Sf.ret _
 ·exact Sf.then_ (Sf.sep ht) fun l=>Sf.then_ (Sf.want _) fun _=>Sf.ret _
include he
theorem Sf.atom:Sf (iJ typ expr):=Sf.then_ Sf.here fun h=>by
 split
 ·exact Sf.then_ (Sf.kind 3) fun s=>Sf.ret _
 ·split
  ·exact Sf.then_ (Sf.kind 4) fun s=>Sf.ret _
  ·refine Sf.then_ (Sf.jZ _) fun i=>?_;rcases i with _ |_ |_ |_ |_ |_ |_ |i
   ·exact Sf.named ht h
   ·exact Sf.ret _
   ·exact Sf.ret _
   ·exact Sf.ret _
   ·exact Sf.then_ (Sf.wants _) fun _=>Sf.ret _
   ·exact Sf.then_ (Sf.kids he _ _) fun k=>Sf.then_ (Sf.want _) fun _=>Sf.ret _
   ·exact Sf.then_ he fun k=>Sf.then_ (Sf.want _) fun _=>Sf.ret _
   ·exact Sf.then_ (Sf.wM he h) fun k=>Sf.then_ (Sf.want _) fun _=>Sf.ret _
omit ht
theorem Sf.Ir:∀(f:Nat) (a:bF),Sf (jB expr f a)
 |0,a=>Sf.ret a
 |f+1,a=>Sf.then_ Sf.here fun h=>Sf.then_ (Sf.jZ _) fun i=>by
  rcases i with _ |_ |i
  ·exact Sf.ret a
  ·exact Sf.then_ (Sf.kids he _ _) fun k=>Sf.then_ (Sf.want _) fun _=>Sf.Ir f _
  ·exact Sf.then_ Sf.name fun k=>Sf.Ir f _
include ht
theorem Sf.post:Sf (nW typ expr):=Sf.then_ (Sf.atom ht he) fun a=>Sf.fuel (p:=fun ts=>jB expr ts.length a) fun ts=>Sf.Ir he _ _
include hu
theorem Sf.KF:Sf (nR typ expr unary):=Sf.then_ Sf.here fun h=>Sf.then_ (Sf.jZ _) fun i=>by
 rcases i with _ |_ |i
 ·exact Sf.post ht he
 ·exact Sf.then_ hu fun x=>Sf.ret _
 ·exact Sf.then_ hu fun x=>Sf.ret _
end
theorem Sf.O8:∀n:Nat,Sf (aU n).typ∧Sf (aU n).expr∧Sf (aU n).unary
 |0=>⟨Sf.fail (.inl rfl),Sf.fail (.inl rfl),Sf.fail (.inl rfl)⟩
 |n+1=>by
  obtain⟨h1,h2,h3⟩:=Sf.O8 n;exact⟨Sf.WU h1,Sf.Rb h1 h2 h3,Sf.KF h1 h2 h3⟩
theorem Sf.var:Sf CX:=Sf.then_ Sf.name fun s=>Sf.then_ (Sf.has _) fun b=>by
 cases b
 ·exact Sf.ret _
 ·exact Sf.then_ (Sf.O8 100).1 fun t=>Sf.ret _
theorem Sf.vars:Sf uH:=Sf.then_ (Sf.has _) fun b=>by
 cases b
 ·exact Sf.ret _
 ·exact Sf.then_ (Sf.sep Sf.var) fun l=>Sf.then_ (Sf.want _) fun _=>Sf.ret _
theorem Sf.import_ (h:aD):Sf (oh h):=Sf.then_ Sf.name fun s=>Sf.then_ (Sf.want _) fun _=>Sf.then_ (Sf.sep Sf.name) fun l=>Sf.then_ (Sf.want _) fun _=>Sf.ret _
theorem Sf.decl:Sf tJ:=Sf.then_ (Sf.has _) fun e=>Sf.then_ Sf.here fun h=>Sf.then_ (Sf.want _) fun _=>Sf.then_ Sf.name fun s=>Sf.then_ Sf.vars fun v=>
 Sf.then_ (Sf.head (Sf.O8 100).1 _) fun p=>Sf.then_ (Sf.want _) fun _=>Sf.then_ (Sf.O8 100).2.1 fun b=>Sf.then_ (Sf.want _) fun _=>Sf.ret _
theorem Sf.imps:∀(f:Nat) (l:List uU),Sf (qD f l)
 |0,l=>Sf.ret l
 |f+1,l=>Sf.then_ Sf.here fun h=>Sf.then_ (Sf.has _) fun b=>by
  cases b
  ·exact Sf.ret l
  ·exact Sf.then_ (Sf.import_ h) fun i=>Sf.imps f _
theorem Sf.decls:∀(f:Nat) (l:List nV),Sf (iM f l)
 |0,l=>Sf.ret l
 |f+1,l=>Sf.then_ (Sf.seen _) fun b=>by
  cases b
  ·exact Sf.then_ Sf.decl fun d=>Sf.decls f _
  ·exact Sf.ret l
theorem Sf.module:Sf fq:=Sf.then_ (Sf.fuel (p:=fun ts=>qD ts.length []) fun ts=>Sf.imps _ _) fun i=>Sf.then_ (Sf.fuel (p:=fun ts=>iM ts.length []) fun ts=>Sf.decls _ _) fun d=>Sf.ret _
def Oq (ts:List aD):Prop:=ts.length<=8193∧∀t∈ts,t.text.length<=100000
theorem Oq.tail {t:aD}{r:List aD}(h:Oq (t :: r)):Oq r:=⟨by have:=h.1;simp at this;omega,fun x hx=>h.2 x (by simp [hx])⟩
def rD (B:Nat)(w:World):Prop:=∀w':World,(∀k,k<B->w'.heap[k]? =w.heap[k]?)->qy w'
theorem C8 {w w':World}{name:String}{cs:Array Value}(h:w.var? Tryz.prog name=some cs)(hb:∀k,k<w.heap.size->w'.heap[k]? =w.heap[k]?):w'.var? Tryz.prog name=some cs:=by
 unfold World.var? at h ⊢;cases hg:Tryz.prog.globalNamed name with
 |none=>rw [hg]at h;cases h
 |some g=>
  rw [hg]at h;simp only [Option.bind_some]at h ⊢;by_cases hlt:g<w.heap.size
  ·rw [hb g hlt];exact h
  ·rw [Array.getElem?_eq_none (by omega)]at h;cases h
theorem rD.of {w:World}(h:qy w):rD w.heap.size w:=fun w' hb=>by
 obtain⟨h1,⟨tp,p,h2⟩,⟨tp',p',h3⟩⟩:=h;exact⟨C8 h1 hb,⟨tp,p,C8 h2 hb⟩,⟨tp',p',C8 h3 hb⟩⟩
theorem rD.here {B:Nat}{w:World}(h:rD B w):qy w:=h w (fun _ _=>rfl)
theorem rD.below {B:Nat}{w w':World}(h:rD B w)(hb:Below B w w'):rD B w':=fun w2 h2=>h w2 fun k hk=>(h2 k hk).trans (hb.block k hk)
def C9 (B:Nat)(w:World)(v:Value):Prop:=∀b o n c,v=.slice (some ⟨b,o,none⟩) n c->b<B∧∃cs,w.heap[b]? =some (.cells cs 154 (0,0))
theorem C9.below {B:Nat}{w w':World}{v:Value}(h:C9 B w v)(hb:Below B w w'):C9 B w' v:=fun b o n c e=>by
 obtain⟨h1,cs,h2⟩:=h b o n c e;exact⟨h1,cs,(hb.block b h1).trans h2⟩
theorem C9.behind {B:Nat}{w:World}{b o n c n' c':Nat}{A':Option Addr}(h:C9 B w (.slice (some ⟨b,o,none⟩) n c))(hA:∀b' o',A'=some ⟨b',o',none⟩->b'=b):C9 B w (.slice A' n' c'):=fun b1 o1 n1 c1 e=>by
 injection e with e _ _;rw [hA b1 o1 e];exact h b o n c rfl
def bX (w:World)(bp B:Nat)(ts:List aD)(d:Int):Prop:=B<=bp∧Oq ts∧Wf ts∧∃v,w.heap[bp]? =some (.cells #[v,.int .i64 d] 151 (0,0))∧Sl w B 4 v (eF ts)∧rD B w∧C9 B w v
section
variable {w w':World}{bp B:Nat}{ts:List aD}{d:Int}{G:Nat->Prop}
theorem bX.lt (h:bX w bp B ts d):bp<w.heap.size:=by
 obtain⟨_,_,_,v,h,_⟩:=h;exact block_lt h
theorem bX.wf (h:bX w bp B ts d):Wf ts:=h.2.2.1
theorem bX.turn (h:bX w bp B ts d)(t:Turn G w w')(hk:¬G bp)(hB:∀k,k<B->¬G k):bX w' bp B ts d:=by
 have hlt:=h.lt;obtain⟨h1,h2,h5,v,h3,h4,h6,h7⟩:=h;have hb:=t.below (B:=B) (by omega) hB;exact⟨h1,h2,h5,v,ah h3 t hk,Sl.below h4 hb,h6.below hb,h7.below hb⟩
theorem bX.laid (h:bX w bp B ts d):rD B w:=h.2.2.2.choose_spec.2.2.1
theorem bX.tok (h:bX w bp B ts d){v:Value}{d':Int}(hb:w.heap[bp]? =some (.cells #[v,.int .i64 d'] 151 (0,0))):C9 B w v:=by
 obtain⟨_,_,_,v',h1,_,_,h7⟩:=h;rw [hb]at h1;injection h1 with h1;injection h1 with h1 _;have h2:[v,Value.int .i64 d']=[v',Value.int .i64 d]:=congrArg Array.toList h1;injection h2 with h2 _;rw [h2];exact h7
theorem bX.apart (h:bX w bp B ts d)(t:Turn G w w')(hk:¬G bp)(hT:∀g,G g->g<w.heap.size->∃cs T,w.heap[g]? =some (.cells cs T (0,0))∧T≠154)(hL:rD B w'):bX w' bp B ts d:=by
 obtain⟨h1,h2,h5,v,h3,h4,h6,h7⟩:=h;have hg:∀b o n c,v=.slice (some ⟨b,o,none⟩) n c->¬G b:=fun b o n c e hG=>by
  obtain⟨hb,cs,hcs⟩:=h7 b o n c e;obtain⟨cs',T,hT1,Wv⟩:=hT b hG (block_lt hcs);rw [hcs]at hT1;injection hT1 with hT1;injection hT1 with _ hT1;exact Wv hT1.symm
 refine⟨h1,h2,h5,v,ah h3 t hk,?_,hL,fun b o n c e=>?_⟩
 ·obtain⟨A,n,c,rfl,hl,hn,hc,hx⟩:=h4;refine⟨A,n,c,rfl,hl,hn,hc,fun h0=>?_⟩;obtain⟨b,o,rfl,Uh,hcell⟩:=hx h0;refine⟨b,o,rfl,Uh,fun j u hu=>?_⟩;obtain⟨_,cs,hcs⟩:=h7 b o n c rfl;have e0:=cell_of_row w b (o+j) _ _ _ hcs;have e1:=cell_of_row w' b (o+j) _ _ _ (ah hcs t (hg b o n c rfl));rw [e1,<-e0];exact hcell j u hu
 ·obtain⟨hb,cs,hcs⟩:=h7 b o n c e;exact⟨hb,cs,ah hcs t (hg b o n c e)⟩
theorem bX.below (h:bX w bp B ts d)(hb:Below w.heap.size w w'):bX w' bp B ts d:=h.turn (Turn.of_below (F:=fun _=>False) hb) id (fun _ _=>id)
theorem bX.open_ (h:bX w bp B ts d):
  ∃b o c t r,ts=t :: r∧r.length+1<=c∧c<=2 ^ 63 - 1∧Oq (t :: r)∧B<=bp∧b<B∧w.heap[bp]? =some (.cells #[.slice (some ⟨b,o,none⟩) (r.length+1) c,.int .i64 d] 151 (0,0))∧Sl w B 4 (.slice (some ⟨b,o,none⟩) (r.length+1) c) (eF (t :: r))∧
   w.cell? ⟨bp,0,none⟩=some (.slice (some ⟨b,o,none⟩) (r.length+1) c)∧w.cell? ⟨bp,1,none⟩=some (.int .i64 d)∧(∀i,w.frozen? ⟨bp,i,none⟩=false)∧
   w.cell? ⟨b,o,none⟩=some (.int .i64 t.kind)∧w.cell? ⟨b,o+1,none⟩=some (sv t.text)∧w.cell? ⟨b,o+2,none⟩=some (.int .i64 t.line)∧w.cell? ⟨b,o+3,none⟩=some (.int .i64 t.col):=by
 obtain⟨hB,hL,hw,v,hb,hv,_⟩:=h;have hv':=hv;obtain⟨A,n,c,rfl,hl,hn,hc,hx⟩:=hv';obtain⟨t,r,rfl⟩:∃t r,ts=t :: r:=by
  rcases hw.cases with⟨e,rfl,_⟩ |⟨t,r,rfl,_⟩
  ·exact⟨e,[],rfl⟩
  ·exact⟨t,r,rfl⟩
 obtain rfl:n=r.length+1:=by rw [tu]at hl;simp at hl;omega
 obtain⟨b,o,rfl,Uh,hcell⟩:=hx (by omega);unfold maxLen at hc;have c0:=hcell 0 _ (show(eF (t :: r))[0]? =some (.int .i64 t.kind)from rfl);have c1:=hcell 1 _ (show(eF (t :: r))[1]? =some (sv t.text)from rfl);have c2:=hcell 2 _ (show(eF (t :: r))[2]? =some (.int .i64 t.line)from rfl);have c3:=hcell 3 _ (show(eF (t :: r))[3]? =some (.int .i64 t.col)from rfl);rw [Nat.add_zero]at c0;exact⟨b,o,c,t,r,rfl,hn,hc,hL,hB,Uh,hb,hv,(cell_of_row _ _ _ _ _ _ hb).trans rfl,(cell_of_row _ _ _ _ _ _ hb).trans rfl,fun i=>frozen_of_row _ _ _ _ _ hb,c0,c1,c2,c3⟩
theorem bX.text {b o:Nat}{s:Bt}(h:bX w bp B ts d)(hc:w.cell? ⟨b,o,none⟩=some (sv s)):b≠bp:=by
 rintro rfl;obtain⟨_,_,_,v,h,hv,_⟩:=h;obtain⟨A,n,c,rfl,_⟩:=hv;rw [cell_of_row _ _ _ _ _ _ h]at hc;rcases o with _ |_ |o
 ·cases hc
 ·cases hc
 ·cases hc
theorem ER {b o c:Nat}{t:aD}{r:List aD}(h:Sl w B 4 (.slice (some ⟨b,o,none⟩) (r.length+1) c) (eF (t :: r))):
  ∃A',(∀b' o',A'=some ⟨b',o',none⟩->b'=b)∧Sl w B 4 (.slice A' r.length (c - 1)) (eF r)∧∀w,(Instr.slice 142 (.slice (some ⟨b,o,none⟩) (r.length+1) c) (some (.int .i64 1)) none none).run Tryz.prog w=.ok (.slice A' r.length (c - 1)) w:=by
 obtain⟨A,n,c',hv,hl,hn,hc,hx⟩:=h;injection hv with hv1 hv2 hv3;subst hv1 hv2 hv3;obtain⟨b',o',hA,hb,hcell⟩:=hx (by omega);injection hA with hA;injection hA with hA1 hA2;subst hA1 hA2;refine⟨if c=1 then some ⟨b,o,none⟩else some ⟨b,o+4,none⟩,fun b' o' e=>?_,⟨_,_,_,rfl,by rw [tu],by omega,by unfold maxLen at*;omega,fun h0=>?_⟩,fun w=>?_⟩
 ·split at e <;> (injection e with e;injection e with e _;exact e.symm)
 ·rw [if_neg (by omega)];refine⟨b,o+4,rfl,hb,fun j u hu=>?_⟩;have:(eF (t :: r))[4+j]? =some u:=by
   rw [show eF (t :: r)=uq t++eF r from rfl,List.getElem?_append_right (by show 4<=4+j;omega)];rw [show 4+j - (uq t).length=j by show 4+j - 4=j;omega];exact hu
  have:=hcell _ u this;rwa [<-Nat.add_assoc]at this
 ·have h0:(0:Int)<=((1:Nat):Int):=by omega
  have h1:¬((r.length:Int)+1<1):=by omega
  go_simp
end
abbrev Da (d:DX):Ending:= .panicked [{ v:= .iface 146 (.agg #[.int .i64 0,.int .i64 d.1,.int .i64 d.2.1,.int .i64 d.2.2]),recovered:=false}]
def wN (w:World)(bp:Nat):Prop:=∃v d,w.heap[bp]? =some (.cells #[v,.int .i64 d] 151 (0,0))
def fA (bp:Nat)(w w':World):Prop:=Turn (fun k=>k=bp) w w'∧wN w' bp
theorem bX.bp {w:World}{bp B:Nat}{ts:List aD}{d:Int}(h:bX w bp B ts d):wN w bp:=by
 obtain⟨_,_,_,v,h,_⟩:=h;exact⟨v,d,h⟩
theorem wN.turn {w w':World}{bp:Nat}{G:Nat->Prop}(h:wN w bp)(t:Turn G w w')(hk:¬G bp):wN w' bp:=by
 obtain⟨v,d,h⟩:=h;exact⟨v,d,ah h t hk⟩
theorem fA.below {bp:Nat}{a b c:World}(t:Turn (fun k=>k=bp) a b)(h:wN b bp)(hb:Below b.heap.size b c):fA bp a c:=⟨t.trans (Turn.of_below (F:=fun k=>k=bp) hb) (fun _ _ h=>h),h.turn (Turn.of_below (F:=fun _=>False) hb) id⟩
def aG {α:Type}(P:World->Value->α->Prop)(bp B:Nat)(d:Int)(w:World)(q:Pr α)(e:Ending)(w':World):Prop:=
 match q with
  |.good x r=>∃v,e=.returned v∧Turn (fun k=>k=bp) w w'∧P w' v x∧bX w' bp B r d
  |.bad g=>e=Da g∧fA bp w w'
section
variable {α:Type}{P:World->Value->α->Prop}{bp B:Nat}{d:Int}{w w':World}{q:Pr α}{e:Ending}
theorem aG.bY {g:DX}(h:aG P bp B d w q e w')(hq:q=.bad g):e=Da g∧fA bp w w':=by
 subst hq;exact h
theorem aG.aR {x:α}{r:List aD}(h:aG P bp B d w q e w')(hq:q=.good x r):∃v,e=.returned v∧Turn (fun k=>k=bp) w w'∧P w' v x∧bX w' bp B r d:=by
 subst hq;exact h
theorem aG.fail {g:DX}(hq:q=.bad g)(t:fA bp w w'):aG P bp B d w q (Da g) w':=by
 subst hq;exact⟨rfl,t⟩
theorem aG.done {x:α}{r:List aD}{v:Value}(hq:q=.good x r)(t:Turn (fun k=>k=bp) w w')(hP:P w' v x)(hR:bX w' bp B r d):aG P bp B d w q (.returned v) w':=by
 subst hq;exact⟨v,rfl,t,hP,hR⟩
end
def PTy (base:Nat)(w:World)(v:Value)(t:bC):Prop:=∃z,v=.agg z.toArray∧nY w (fun j=>base<=j) z t
def Rc (base:Nat)(w:World)(v:Value)(t:bF):Prop:=∃z,v=.agg z.toArray∧mX w (fun j=>base<=j) z t
theorem zX {α:Type}{R:List Value->α->Prop}{k:Nat}{z:List Value}{c:α}(hz:z.length=k)(h:R z c):dH R k z [c]:=by
 have:=dH.cons (R:=R) hz h .nil;rwa [List.append_nil]at this
def uI (F:Nat->Prop)(v:Value):Nat->Prop:=fun j=>v.ownBlock≠some j∧F j
structure vU {α:Type}(R:World->(Nat->Prop)->List Value->α->Prop) (k:Nat):Prop where
 turn:∀{w w':World}{F G:Nat->Prop}{z:List Value}{x:α},R w F z x->Turn G w w'->(∀g,g<w.heap.size->F g->¬G g)->R w' F z x
 mono:∀{w:World}{F G:Nat->Prop}{z:List Value}{x:α},R w F z x->(∀g,g<w.heap.size->F g->G g)->R w G z x
 len:∀{w:World}{F:Nat->Prop}{z:List Value}{x:α},R w F z x->z.length=k
 one:∀{w:World}{F:Nat->Prop}{z:List Value}{x:α},R w F z x->∀u∈z,u.oneCell'=true
section
variable {α:Type}{R:World->(Nat->Prop)->List Value->α->Prop}{k:Nat}(hR:vU R k)
def iN (R:World->(Nat->Prop)->List Value->α->Prop)(k:Nat)(e:TypeId)(w:World)(base:Nat)(F:Nat->Prop)(v:Value)(l:List α):Prop:=
 ∃ys,w.ownsRow base e k v l.length ys∧dH (R w (uI F v)) k ys l
theorem iN.nil (R:World->(Nat->Prop)->List Value->α->Prop)(k:Nat)(e:TypeId)(w:World)(base:Nat)(F:Nat->Prop):iN R k e w base F (.slice none 0 0) []:=⟨[],World.ownsRow_nil _ _ _ _,.nil⟩
theorem iN.lt {e:TypeId}{w:World}{base:Nat}{F:Nat->Prop}{v:Value}{l:List α}(h:iN R k e w base F v l):∀g,v.ownBlock=some g->base<=g∧g<w.heap.size:=by
 obtain⟨ys,h1,_⟩:=h;exact h1.lt
theorem iN.shape {e:TypeId}{w:World}{base:Nat}{F:Nat->Prop}{v:Value}{l:List α}(h:iN R k e w base F v l):∃A c,v=.slice A l.length c∧l.length<=c∧c<=maxLen:=by
 obtain⟨ys,h1,_⟩:=h;rcases h1.2 with⟨rfl,h0⟩ |⟨g,cap,cur,rfl,hb,hg,hc,hm,_⟩
 ·exact⟨none,0,by rw [h0],by omega,Nat.zero_le _⟩
 ·exact⟨_,_,rfl,hc,hm⟩
include hR
theorem bU {w w':World}{F G:Nat->Prop}(t:Turn G w w')(hd:∀g,g<w.heap.size->F g->¬G g){ys:List Value}{l:List α}(h:dH (R w F) k ys l):dH (R w' F) k ys l:=h.imp fun _ _ h=>hR.turn h t hd
theorem eX {w:World}{F G:Nat->Prop}(hd:∀g,g<w.heap.size->F g->G g){ys:List Value}{l:List α}(h:dH (R w F) k ys l):dH (R w G) k ys l:=h.imp fun _ _ h=>hR.mono h hd
theorem iN.turn {e:TypeId}{w w':World}{base:Nat}{F:Nat->Prop}{v:Value}{l:List α}{G:Nat->Prop}(h:iN R k e w base F v l)(t:Turn G w w')(ho:∀g,v.ownBlock=some g->¬G g)(hd:∀g,g<w.heap.size->F g->¬G g):iN R k e w' base F v l:=by
 obtain⟨ys,h1,h2⟩:=h;exact⟨ys,dL h1 t ho,bU hR t (fun g hg h=>hd g hg h.2) h2⟩
theorem iN.mono {e:TypeId}{w:World}{base:Nat}{F G:Nat->Prop}{v:Value}{l:List α}(h:iN R k e w base F v l)(hd:∀g,g<w.heap.size->F g->G g):iN R k e w base G v l:=by
 obtain⟨ys,h1,h2⟩:=h;exact⟨ys,h1,eX hR (fun g hg h=>⟨h.1,hd g hg h.2⟩) h2⟩
theorem iN.push {e:TypeId}{w w6 w7:World}{base bp:Nat}{F:Nat->Prop}{v v7:Value}{l:List α}{x:α}{z ys:List Value}{n7:Nat}(h1:w.ownsRow base e k v l.length ys)(h2:dH (R w (uI F v)) k ys l)
  (t:Turn (fun j=>j=bp) w w6) (hx:R w6 (fun j=>w.heap.size<=j) z x) {G:Nat->Prop}(t7:Turn G w6 w7) (hG:∀j,j<w6.heap.size->G j->v.ownBlock=some j∨(¬F j∧j<w.heap.size)) (hbk:v7.ownBlock=v.ownBlock∨∃m,w6.heap.size<=m∧v7.ownBlock=some m) (h7:w7.ownsRow base e k v7 n7 (ys++z)) (hk:0<k)
  (hbp:¬F bp) (hF:∀j,w.heap.size<=j->F j):iN R k e w7 base F v7 (l++[x]):=by
 have hlt:=h1.lt;have hs6:=t.size;have hn:n7=(l++[x]).length:=by
  have e1:=h7.1;have e2:=h1.1;have e3:=hR.len hx;rw [List.length_append,e2,e3]at e1;rw [List.length_append,List.length_singleton];have:n7*k=(l.length+1)*k:=by rw [<-e1,Nat.add_mul,Nat.one_mul]
  exact Nat.eq_of_mul_eq_mul_right hk this
 subst hn;have hnew:∀j,j<w6.heap.size->v7.ownBlock=some j->v.ownBlock=some j:=fun j hj e=>by
  rcases hbk with hb |⟨m,hm,hb⟩
  ·rw [hb]at e;exact e
  ·rw [hb]at e;injection e with e;omega
 refine⟨_,h7,dH.app (zX (hR.len hx) ?_) (h2.imp fun _ _ h=>?_)⟩
 ·have h3:R w6 (fun j=>j<w6.heap.size∧w.heap.size<=j) z x:=hR.mono hx fun j hj h=>⟨hj,h⟩
  refine hR.mono (hR.turn h3 t7 (fun j _ h e=>by rcases hG j h.1 e with e |e;(have:=(hlt j e).2;omega);(have:=e.2;omega))) fun j _ h=>⟨fun e=>?_,hF j h.2⟩
  have:=(hlt j (hnew j h.1 e)).2;omega
 ·have h3:R w (fun j=>j<w.heap.size∧uI F v j) _ _:=hR.mono h fun j hj h=>⟨hj,h⟩
  refine hR.mono (hR.turn (hR.turn h3 t (fun j _ h e=>by subst e;exact hbp h.2.2)) t7 (fun j _ h e=>by rcases hG j (by have:=h.1;omega) e with e |e;exact h.2.1 e;exact e.1 h.2.2)) fun j _ h=>⟨fun e=>h.2.1 (hnew j (by have:=h.1;omega) e),h.2.2⟩
theorem iN.sl {e:TypeId}{w:World}{base:Nat}{F:Nat->Prop}{v:Value}{l:List α}(h:iN R k e w base F v l):∃xs,eD w (fun j=>base<=j∨F j) k v xs∧dH (R w (fun j=>base<=j∨F j)) k xs l:=by
 obtain⟨ys,h1,h2⟩:=h;exact⟨ys,eD.own h1 (fun g hg=>.inl (h1.lt g hg).1),eX hR (fun g _ h=>.inr h.2) h2⟩
end
theorem Uo {w:World}{base g i:Nat}{e:TypeId}{k:Nat}{v u:Value}{n:Nat}{xs:List Value}(h:w.ownsRow base e k v n xs)(hg:v.ownBlock=some g):(w.setCell ⟨g,i,none⟩ u).ownsRow base e k v n (xs.set i u):=by
 obtain⟨h0,h⟩:=h;refine⟨by rw [List.length_set];exact h0,?_⟩;rcases h with⟨rfl,_⟩ |⟨g',cap,cur,rfl,hb,hh,hn,hc,hs,ht⟩
 ·cases hg
 ·have:g'=g:=by injection hg
  subst this;refine .inr ⟨g',cap,cur.setIfInBounds i u,rfl,hb,heap_setCell_same _ _ i _ _ u hh,hn,hc,by simpa using hs,?_⟩;rw [Array.toList_setIfInBounds,List.take_set,ht]
theorem bf {w:World}{base g:Nat}{e:TypeId}{k:Nat}{v u:Value}{n:Nat}{xs:List Value}(h:w.ownsRow base e k v n xs)(hg:v.ownBlock=some g){i:Nat}(hi:xs[i]? =some u):w.cell? ⟨g,i,none⟩=some u∧w.frozen? ⟨g,i,none⟩=false:=by
 refine⟨by have:=h.cells hg i u hi;rwa [jv,Nat.zero_add]at this,?_⟩;rcases h.2 with⟨rfl,_⟩ |⟨g',cap,cur,rfl,hb,hh,_⟩
 ·cases hg
 ·have:g'=g:=by injection hg
  subst this;exact frozen_of_row _ _ _ _ _ hh
theorem sI {w:World}{F:Nat->Prop}:∀{xs:List Value}{l:List bC},dH (nY w F) 4 xs l->lI w F xs l
 |_,_,.nil=>.nil
 |_,_,.cons _ h2 h3=>.cons h2 (sI h3)
theorem mQ {w:World}{F:Nat->Prop}:∀{xs:List Value}{l:List bF},dH (mX w F) 8 xs l->jL w F xs l
 |_,_,.nil=>.nil
 |_,_,.cons _ h2 h3=>.cons h2 (mQ h3)
theorem bL:vU nY 4 where
 turn h t hd:=h.turn t hd
 mono h hF:=h.mono hF
 len h:=h.all.len
 one h:=by
  obtain⟨k,s,A1,n1,c1,A2,n2,c2,rfl⟩:=h.all.shape;intro u hu;simp only [List.mem_cons,List.not_mem_nil,or_false]at hu;rcases hu with rfl |rfl |rfl |rfl <;> rfl
theorem bg:vU mX 8 where
 turn h t hd:=h.turn t hd
 mono h hF:=h.mono hF
 len h:=h.all.len
 one h:=by
  obtain⟨k,s,a,b,c,A1,n1,c1,A2,n2,c2,A3,n3,c3,rfl⟩:=h.all.shape;intro u hu;simp only [List.mem_cons,List.not_mem_nil,or_false]at hu;rcases hu with rfl |rfl |rfl |rfl |rfl |rfl |rfl |rfl <;> rfl
def sJ (t:aD):Value:= .agg #[.int .i64 t.kind,sv t.text,.int .i64 t.line,.int .i64 t.col]
theorem l8 (w:World)(bp B:Nat)(ts:List aD)(d:Int)(h:bX w bp B ts d):
  Calls Tryz.prog 89 #[.pointer (some ⟨bp,0,none⟩)] w fun e w'=>e=.returned (sJ (aW ts))∧Below w.heap.size w w':=by
 have hlt:=h.lt;obtain⟨b,o,c,t,r,rfl,hc,hcm,hl,hB,hb,hbk,hs,d0,d1,z0,c0,c1,c2,c3⟩:=h.open_;have hbs:b<w.heap.size:=by omega
 clear h hs hbk;rw [show aW (t :: r)=t from rfl];unfold sJ;go_enter Tryz.func89,Tryz.ntmps89;go_wp2_with fail;refine bodyPost_ret (bD rfl rfl (heap_alloc_new w _) Tryz.underlying154 rfl (by kernel_rfl)) rfl ?_;exact⟨rfl,(Below.refl _ _).alloc (Nat.le_refl _) _⟩
theorem KG (w:World)(t:aD)(s:Bt):Calls Tryz.prog 161 #[sJ t,sv s] w fun e w'=>e=.returned (.bool (lV t s))∧Below w.heap.size w w':=by
 obtain⟨k,x,l,c⟩:=t;unfold sJ lV;simp only;by_cases h2:k=2
 ·subst h2;cases hq:(x==s)
  ·rw [show((2:Int)==2 || (2:Int)==5)=true from rfl,Bool.true_and];go_enter Tryz.func161,Tryz.ntmps161;go_wp2_with fail;go_ret;exact⟨rfl,(Below.refl _ _).alloc (Nat.le_refl _) _⟩
  ·rw [show((2:Int)==2 || (2:Int)==5)=true from rfl,Bool.true_and];go_enter Tryz.func161,Tryz.ntmps161;go_wp2_with fail;go_ret;exact⟨rfl,(Below.refl _ _).alloc (Nat.le_refl _) _⟩
 ·by_cases h5:k=5
  ·subst h5;cases hq:(x==s)
   ·rw [show((5:Int)==2 || (5:Int)==5)=true from rfl,Bool.true_and];go_enter Tryz.func161,Tryz.ntmps161;go_wp2_with fail;go_ret;exact⟨rfl,(Below.refl _ _).alloc (Nat.le_refl _) _⟩
   ·rw [show((5:Int)==2 || (5:Int)==5)=true from rfl,Bool.true_and];go_enter Tryz.func161,Tryz.ntmps161;go_wp2_with fail;go_ret;exact⟨rfl,(Below.refl _ _).alloc (Nat.le_refl _) _⟩
  ·rw [beq_false_of_ne h2,beq_false_of_ne h5,Bool.false_or,Bool.false_and];go_enter Tryz.func161,Tryz.ntmps161;go_wp2_with fail;go_ret;exact⟨rfl,(Below.refl _ _).alloc (Nat.le_refl _) _⟩
theorem vC (w:World)(bp B:Nat)(ts:List aD)(d:Int)(g:Int)(h:bX w bp B ts d):
  Calls Tryz.prog 149 #[.pointer (some ⟨bp,0,none⟩),.int .i64 g] w fun e w'=>e=Da ((aW ts).line,(aW ts).col,g)∧Below w.heap.size w w':=by
 have HN:=aZ (l8 w bp B ts d h);have WV:=aZ (fun(w1:World) (hb:Below w.heap.size w w1)=>l8 w1 bp B ts d (h.below hb));clear h;generalize aW ts=t at*
 go_enter Tryz.func149,Tryz.ntmps149;go_wp2_with fail;refine HN.o.mono ?_;rintro e w1 ⟨rfl,hb⟩;have HB:=aZ hb;have f2:∀w:World,(Instr.field 154 (sJ t) 2).run Tryz.prog w=.ok (.int .i64 t.line) w:=fun _=>by kernel_rfl
 have f3:∀w:World,(Instr.field 154 (sJ t) 3).run Tryz.prog w=.ok (.int .i64 t.col) w:=fun _=>by kernel_rfl
 clear hb;go_wp2_with fail;refine(WV.o _ HB.o).mono ?_;rintro e w2 ⟨rfl,hb⟩;have HB2:=aZ (HB.o.trans (hb.mono HB.o.size));clear hb;go_wp2_with fail;exact⟨rfl,rfl,HB2.o⟩
theorem Ot (w:World)(bp B:Nat)(ts:List aD)(d:Int)(h:bX w bp B ts d)(p:Nat)(hp:w.cell? ⟨p,0,none⟩=some (.pointer (some ⟨bp,0,none⟩)))(s:Bt):
  Calls Tryz.prog 160 #[sv s,.pointer (some ⟨p,0,none⟩)] w fun e w'=>e=.returned (.bool (lV (aW ts) s))∧Below w.heap.size w w':=by
 have HN:=aZ (l8 w bp B ts d h);clear h;generalize aW ts=t at*
 have HI:=aZ (fun w1=>KG w1 t s);go_enter Tryz.func160,Tryz.ntmps160;go_wp2_with fail;refine HN.o.mono ?_;rintro e w1 ⟨rfl,hb⟩;have HB:=aZ hb;clear hb hp;go_wp2_with fail;refine(HI.o _).mono ?_;rintro e w2 ⟨rfl,hb⟩;have HB2:=aZ (HB.o.trans (hb.mono HB.o.size));clear hb;go_wp2_with fail;go_ret;exact⟨rfl,HB2.o⟩
def WW (o:Option Nat):Int:=match o with |some i=>(i:Int) |none=> -1
theorem Ou {p:Bt->Bool}{l:List Bt}{k:Nat}(hk:k<l.length)(h:(l.take k).findIdx? p=none):(l.take (k+1)).findIdx? p=if p l[k]then some k else none:=by
 rw [List.take_succ_eq_append_getElem hk,List.findIdx?_append,h];have:(l.take k).length=k:=by rw [List.length_take];omega
 cases hp:p l[k] <;> simp [hp,this]
theorem KH {p:Bt->Bool}{l:List Bt}{k j:Nat}(h:(l.take k).findIdx? p=some j):l.findIdx? p=some j:=by
 rw [<-List.take_append_drop k l,List.findIdx?_append,h];rfl
theorem KI (w:World)(bp B:Nat)(ts:List aD)(d:Int)(h:bX w bp B ts d)(p:Nat)(hp:w.cell? ⟨p,0,none⟩=some (.pointer (some ⟨bp,0,none⟩)))(v:Value)(l:List Bt)(hv:Ss w w.heap.size v l)(hl:l.length<=100000):
  Calls Tryz.prog 159 #[v,.func (.func 160) #[] #[.pointer (some ⟨p,0,none⟩)]] w fun e w'=>e=.returned (.int .i64 (WW (l.findIdx? (lV (aW ts)))))∧Below w.heap.size w w':=by
 obtain⟨A,c,rfl,hn,hc,hx⟩:=hv.open_;unfold maxLen at hc;have hx:0<l.length->∃b off,A=some ⟨b,off,none⟩∧b<w.heap.size∧∀(j:Nat) (s:Bt),l[j]? =some s->w.cell? ⟨b,off+j,none⟩=some (sv s):=fun h0=>by
  obtain⟨b,o,h1,h2,h3⟩:=hx h0;refine⟨b,o,h1,h2,fun j s hj=>?_⟩;obtain⟨hj1,rfl⟩:=List.getElem?_eq_some_iff.1 hj;exact h3 j hj1
 have HT:=aZ (fun(w1:World) (hb:Below w.heap.size w w1) (s:Bt)=>Ot w1 bp B ts d (h.below hb) p (kb hb hp) s);have HX:=aZ hx;clear h hp hv hx;generalize aW ts=t at*
 obtain⟨m,hm⟩:∃m,l.length=m:=⟨_,rfl⟩
 rw [hm]at hn HX hl;rw [hm];have HM:=aZ hm;clear hm;go_enter Tryz.func159,Tryz.ntmps159;go_wp2_with fail;go_loopw [8] (fun v8 wr=>∃k:Nat,v8=.int .i64 k∧k<=m∧(l.take k).findIdx? (lV t)=none∧Below w.heap.size w wr) (fun v8 _=>m - (intOf v8).toNat)
 case atStart=>exact⟨0,rfl,by omega,rfl,Below.refl _ _⟩
 case round=>
  obtain⟨k,rfl,hk,hinv,hbr⟩:=hrel;have HB:=aZ hbr;by_cases hlt:k<m
  ·have hlt':k<l.length:=by rw [HM.o];exact hlt
   obtain⟨b,o,rfl,hb,hcell⟩:=HX.o (by omega);obtain⟨s,hs⟩:∃s,l[k]? =some s:=⟨_,List.getElem?_eq_getElem hlt'⟩
   have hst:=Ou hlt' hinv;rw [(List.getElem?_eq_some_iff.1 hs).2]at hst;have d0:=kb hbr (hcell k s hs);have HC:=aZ (HT.o wr hbr s);clear hs;have HI:=aZ hinv;clear hinv hbr;cases hq:lV t s
   ·rw [hq]at HC hst;have HS:=aZ hst;clear hst hq;go_wp2_with fail;refine HC.o.mono ?_;rintro e w2 ⟨rfl,hb2⟩;have HB2:=aZ (HB.o.trans (hb2.mono HB.o.size));clear hb2 d0;go_wp2_with fail
    go_roundw
    case rel=>exact⟨k+1,rfl,by omega,HS.o,HB2.o⟩
    case measure=>simp [intOf];omega
   ·rw [hq]at HC hst;have HS:=aZ (KH hst);clear hst hq;go_wp2_with fail;refine HC.o.mono ?_;rintro e w2 ⟨rfl,hb2⟩;have HB2:=aZ (HB.o.trans (hb2.mono HB.o.size));clear hb2 d0;go_wp2_with fail;go_ret;exact⟨by rw [HS.o];rfl,HB2.o⟩
  ·obtain rfl:k=m:=by omega
   rw [List.take_of_length_le (by rw [HM.o];exact Nat.le_refl _)]at hinv;have HI:=aZ hinv;clear hinv hbr;go_wp2_with fail;go_ret;exact⟨by rw [HI.o];rfl,HB.o⟩
theorem aO {w w':World}{G:Nat->Prop}{b o:Nat}{v:Value}(h:w.cell? ⟨b,o,none⟩=some v)(t:Turn G w w')(hd:¬G b):w'.cell? ⟨b,o,none⟩=some v:=by
 have hb:=t.block (World.block_lt_of_cell? w _ h) hd;simp only [World.cell?,hb]at h ⊢;exact h
def Vq (w:World)(v:Value)(o:Option Nat):Prop:=v=.tuple #[.int .i64 ((o.getD 0:Nat):Int),.bool o.isSome]
theorem xW (w:World)(bp B:Nat)(ts:List aD)(d:Int)(h:bX w bp B ts d)(v:Value)(l:List Bt)(hv:Ss w w.heap.size v l)(hl:l.length<=100000):
  Calls Tryz.prog 104 #[.pointer (some ⟨bp,0,none⟩),v] w (aG Vq bp B d w (dJ l ts)):=by
 have hlt:=h.lt;obtain⟨W,hW⟩:∃W,w.alloc (.cells #[.pointer (some ⟨bp,0,none⟩)] 202)=W:=⟨_,rfl⟩
 have hb1:Below w.heap.size w W:=by rw [<-hW];exact(Below.refl _ _).alloc (Nat.le_refl _) _
 have hbt:W.heap[w.heap.size]? =some (.cells #[.pointer (some ⟨bp,0,none⟩)] 202 (0,0)):=by rw [<-hW];exact heap_alloc_new _ _
 have hbc:W.cell? ⟨w.heap.size,0,none⟩=some (.pointer (some ⟨bp,0,none⟩)):=(cell_of_row _ _ _ _ _ _ hbt).trans rfl;have hT:=h.below hb1;have HI:=aZ (KI W bp B ts d hT w.heap.size hbc v l (Sl.more (Sl.below hv hb1) hb1.size) hl);have HB:=aZ hb1;have HT:=aZ hT;have HW:=aZ hW;have HBC:=aZ hbc;obtain⟨A,c,rfl,hn,hc,hx0⟩:=hv.open_;clear hx0;unfold maxLen at hc;have hw:=h.wf;clear h hv hb1 hT hW hbt hbc;rcases hq:l.findIdx? (lV (aW ts))with _ |i
 ·rw [hq]at HI;have HQ:bR (dJ l ts=.good none ts):=aZ (by unfold dJ;rw [hq]);have Ej:=aZ hw;clear hq hw;generalize l.length=m at*
  go_enter Tryz.func104,Tryz.ntmps104;go_wp2_with fail;rw [HW.o];refine HI.o.mono ?_;rintro e w2 ⟨rfl,hb⟩;have HB2:=aZ (HB.o.trans (hb.mono HB.o.size));have HT2:=aZ (HT.o.below hb);clear hb;unfold WW;go_wp2_with fail
  go_ret2
  exact aG.done HQ.o (Turn.of_below HB2.o) rfl HT2.o
 ·rw [hq]at HI;obtain⟨t,r,rfl⟩:∃t r,ts=t :: r:=by
   rcases hw.cases with⟨e,rfl,_⟩ |⟨t,r,rfl,_⟩
   ·exact⟨e,[],rfl⟩
   ·exact⟨t,r,rfl⟩
  have HQ:bR (dJ l (t :: r)=.good (some i) r):=aZ (by unfold dJ;rw [hq];rfl);have Ej:=aZ hw;clear hq hw;generalize l.length=m at*
  go_enter Tryz.func104,Tryz.ntmps104;go_wp2_with fail;rw [HW.o];refine HI.o.mono ?_;rintro e w2 ⟨rfl,hb⟩;have HB2:=aZ (HB.o.trans (hb.mono HB.o.size));have HT2:=aZ (HT.o.below hb);have p0:=kb hb HBC.o;clear hb;unfold WW;obtain⟨b,o,c2,t',r',he,hc2,hcm2,hok,hB2,Uh,hbk,hsl,d0,d1,z0,c0,c1,c2',c3⟩:=HT2.o.open_;injection he with he1 he2;subst he1 he2;obtain⟨A',Zv,hA',hrun⟩:=ER hsl;have nJ:=aZ ((HT2.o.tok hbk).behind (n':=r.length) (c':=c2 - 1) Zv);clear Zv;have HA:=aZ hA';have WX:=aZ hbk;have Mg:=aZ hok;have hne:¬w.heap.size=bp:=by omega
  have P0:=aZ (fun(w':World) (h:Turn (fun j=>j=bp) w2 w')=>aO p0 h hne);have D0:=aZ d0;have HD0:bR (Turn (fun j=>j=bp) w2 w2.drew):=aZ ⟨rfl,rfl,rfl,Nat.le_refl _,fun _ _ _=>rfl⟩;clear hsl hbk hok hA' c0 c1 c2' c3 d1 p0;go_wp2_with fail;refine wp_region_held_drew (S:=fun w'=>Turn (fun j=>j=bp) w2 w') (by kernel_rfl) HD0.o (fun _=>?_)
  try simp only [Act.put,sq]
  refine jE 0 (.pointer (some ⟨bp,0,none⟩)) P0.o HD0.o ?_;refine jE 1 (.pointer (some ⟨bp,0,none⟩)) P0.o HD0.o ?_;refine tk 2 (.pointer (some ⟨bp,0,none⟩)) HD0.o ?_;refine tk 3 (.pointer (some ⟨bp,0,none⟩)) HD0.o ?_;refine wpAnyH_ready (rs:=[4]) (by kernel_rfl) (by simp) ?_;refine AllReadyH.cons rfl (fun K hK=>?_) AllReadyH.nil;go_simp;refine hK.out _ _ HD0.o (fun _=>?_);clear hK K
  try simp only [Act.put,sq]
  refine wpAnyH_ready (rs:=[5]) (by kernel_rfl) (by simp) ?_;refine AllReadyH.cons rfl (fun K hK=>?_) AllReadyH.nil;go_simp;refine hK.out _ _ HD0.o (fun _=>?_);clear hK K
  try simp only [Act.put,sq]
  refine tk 6 (.pointer (some ⟨bp,0,none⟩)) HD0.o ?_;refine tk 7 (.pointer (some ⟨bp,0,none⟩)) HD0.o ?_;refine wpAnyH_ready (rs:=[8]) (by kernel_rfl) (by simp) ?_;refine AllReadyH.cons rfl (fun K hK=>?_) AllReadyH.nil
  try rw [if_pos (by kernel_rfl)]
  go_simp;have rz:bR (Turn (fun j=>j=bp) w2 (w2.drew.setCell ⟨bp,0,none⟩ (.slice A' r.length (c2 - 1)))):=aZ (HD0.o.trans (ak _ _ _ _) (fun _ _ h=>h));refine hK.out _ _ rz.o (fun _=>?_);clear hK K
  try simp only [Act.put,sq]
  refine wpAnyH_done (by kernel_rfl) ?_ _;go_wp2_with fail
  go_ret2
  refine aG.done HQ.o ((Turn.of_below (F:=fun k=>k=bp) HB2.o).trans rz.o (fun _ _ h=>h)) rfl ⟨hB2,Mg.o.tail,((Sf.jZ l).good Ej.o HQ.o).1,_,heap_setCell_same _ bp 0 _ _ _ WX.o,?_⟩;have hbw:=(rz.o).below (B:=B) (by have:=HB2.o.size;omega) (fun k hk e=>by omega);exact⟨Sl.below HA.o hbw,HT2.o.laid.below hbw,nJ.o.below hbw⟩
def Zw (w:World)(v:Value)(b:Bool):Prop:=v=.bool b
def Zx (w:World)(v:Value)(b:Bt):Prop:=v=sv b
def PUnit (w:World)(v:Value)(b:Unit):Prop:=True
theorem Ov (s:Bt)(ts:List aD):fF s ts=au (dJ [s]) (fun o=>aJ o.isSome) ts:=by
 unfold fF au dJ;cases h:lV (aW ts) s <;> simp [h,aJ]
theorem iO {l:List Bt}{ts:List aD}{g:DX}(h:dJ l ts=.bad g):False:=by
 unfold dJ at h;split at h <;> cases h
theorem lF (w:World)(bp B:Nat)(ts:List aD)(d:Int)(h:bX w bp B ts d)(s:Bt):
  Calls Tryz.prog 90 #[.pointer (some ⟨bp,0,none⟩),sv s] w (aG Zw bp B d w (fF s ts)):=by
 obtain⟨W,hW⟩:∃W,w.alloc (.cells #[sv s] 9)=W:=⟨_,rfl⟩
 have hb1:Below w.heap.size w W:=by rw [<-hW];exact(Below.refl _ _).alloc (Nat.le_refl _) _
 have hs:Ss W W.heap.size (.slice (some ⟨w.heap.size,0,none⟩) 1 1) [s]:=by rw [<-hW];exact(rY w s _).more (by simp)
 have HT:=aZ (xW W bp B ts d (h.below hb1) _ [s] hs (by simp));have HB:=aZ hb1;have HW:=aZ hW;obtain⟨Q,hQ⟩:∃Q,fF s ts=Q:=⟨_,rfl⟩
 rw [hQ];rw [Ov]at hQ;have HQ:=aZ hQ;clear hQ hs hb1 hW h;go_enter Tryz.func90,Tryz.ntmps90;go_wp2_with fail;rw [HW.o];refine HT.o.mono ?_;rintro e w2 h2;rcases hq:dJ [s] ts with g |⟨o,r⟩
 ·exact(iO hq).elim
 obtain⟨v,rfl,t2,rfl,hR⟩:=h2.aR hq;have nK:=aZ (HQ.o.symm.trans (aj hq));have HT2:=aZ ((Turn.of_below (F:=fun k=>k=bp) HB.o).trans t2 (fun _ _ h=>h));have HR:=aZ hR;clear h2 t2 hR hq;go_wp2_with fail;go_ret;exact aG.done nK.o HT2.o rfl HR.o
theorem Iu (w:World)(bp B:Nat)(ts:List aD)(d:Int)(h:bX w bp B ts d)(v:Value)(l:List Bt)(hv:Ss w w.heap.size v l)(hl:l.length<=100000):
  Calls Tryz.prog 150 #[.pointer (some ⟨bp,0,none⟩),v] w (aG PUnit bp B d w (jX l ts)):=by
 obtain⟨A,c,rfl,hn,hc,hx⟩:=hv.open_;unfold maxLen at hc;have hx:0<l.length->∃b off,A=some ⟨b,off,none⟩∧b<w.heap.size∧∀(j:Nat) (s:Bt),l[j]? =some s->w.cell? ⟨b,off+j,none⟩=some (sv s):=fun h0=>by
  obtain⟨b,o,h1,h2,h3⟩:=hx h0;refine⟨b,o,h1,h2,fun j s hj=>?_⟩;obtain⟨hj1,rfl⟩:=List.getElem?_eq_some_iff.1 hj;exact h3 j hj1
 have HX:=aZ hx;have H0:=aZ h;obtain⟨Q,hQ⟩:∃Q,jX l ts=Q:=⟨_,rfl⟩
 rw [hQ];have HQ:=aZ hQ;clear h hv hx hQ;obtain⟨m,hm⟩:∃m,l.length=m:=⟨_,rfl⟩
 rw [hm]at hn HX hl;rw [hm];have HM:=aZ hm;clear hm;go_enter Tryz.func150,Tryz.ntmps150;go_wp2_with fail;go_loopw [8] (fun v8 wr=>∃(k:Nat) (r:List aD),v8=.int .i64 k∧k<=m∧jX (l.drop k) r=Q∧Turn (fun j=>j=bp) w wr∧bX wr bp B r d) (fun v8 _=>m - (intOf v8).toNat)
 case atStart=>exact⟨0,ts,rfl,by omega,HQ.o,Turn.refl _ _,H0.o⟩
 case round=>
  obtain⟨k,r,rfl,hk,hinv,htr,hR⟩:=hrel;have HT:=aZ htr;by_cases hlt:k<m
  ·have hlt':k<l.length:=by rw [HM.o];exact hlt
   obtain⟨b,o,rfl,hb,hcell⟩:=HX.o (by omega);obtain⟨s,hs⟩:∃s,l[k]? =some s:=⟨_,List.getElem?_eq_getElem hlt'⟩
   have YB:=hcell k s hs;have d0:=aO YB htr (H0.o.text YB);obtain⟨hj1,hj2⟩:=List.getElem?_eq_some_iff.1 hs;have hd:l.drop k=s :: l.drop (k+1):=by rw [<-hj2];exact List.drop_eq_getElem_cons hlt'
   rw [hd]at hinv;have HI:bR (au (aN s) (fun _=>jX (l.drop (k+1))) r=Q):=aZ hinv;have HH:=aZ (lF wr bp B r d hR s);have HF:=aZ (fun(w1:World) (r1:List aD) (h1:bX w1 bp B r1 d)=>vC w1 bp B r1 d 7 h1);clear hs hj1 hj2 hd hinv htr YB hR hlt' hcell;rcases hq:fF s r with g |⟨o1,r1⟩
   ·exfalso;unfold fF at hq;split at hq <;> cases hq
   cases o1
   ·have om:bR (aN s r=mh 7 r1):=aZ (by unfold aN;rw [aj hq];rfl);go_wp2_with fail;refine HH.o.mono ?_;rintro e w2 h2;obtain⟨v,rfl,t2,rfl,hR⟩:=h2.aR hq;have HT2:=aZ (HT.o.trans t2 (fun _ _ h=>h));have HR:=aZ hR;clear h2 t2 hR hq;go_wp2_with fail;refine(HF.o _ _ HR.o).mono ?_;rintro e w3 ⟨rfl,hb3⟩;have HT3:=aZ (fA.below HT2.o HR.o.bp hb3);clear hb3;go_wp2_with fail;exact⟨rfl,aG.fail (HI.o.symm.trans (aB (om.o.trans rfl))) HT3.o⟩
   ·have om:bR (aN s r=.good () r1):=aZ (by unfold aN;rw [aj hq];rfl);go_wp2_with fail;refine HH.o.mono ?_;rintro e w2 h2;obtain⟨v,rfl,t2,rfl,hR⟩:=h2.aR hq;have HT2:=aZ (HT.o.trans t2 (fun _ _ h=>h));have HR:=aZ hR;clear h2 t2 hR hq;go_wp2_with fail
    go_roundw
    case rel=>exact⟨k+1,r1,rfl,by omega,(aj om.o).symm.trans HI.o,HT2.o,HR.o⟩
    case measure=>simp [intOf];omega
  ·obtain rfl:k=m:=by omega
   rw [List.drop_of_length_le (by rw [HM.o];exact Nat.le_refl _)]at hinv;have HI:=aZ hinv;have HR:=aZ hR;clear hinv htr hR;go_wp2_with fail;go_end0;exact aG.done HI.o.symm HT.o trivial HR.o
theorem rE (w:World)(bp B:Nat)(ts:List aD)(d:Int)(h:bX w bp B ts d)(k:Int):
  Calls Tryz.prog 88 #[.pointer (some ⟨bp,0,none⟩),.int .i64 k] w (aG Zx bp B d w (fK k ts)):=by
 have HN:=aZ (l8 w bp B ts d h);have HF:=aZ (fun(w1:World) (h1:bX w1 bp B ts d)=>vC w1 bp B ts d 7 h1);have H0:=aZ h;have hlt:=h.lt;have hwf:=h.wf;clear h;by_cases hk:(aW ts).kind=k
 ·by_cases h0:k=0
  ·subst h0;have HQ:bR (fK 0 ts=.good (aW ts).text ts):=aZ (by unfold fK;rw [if_pos hk];rfl);clear hwf;generalize aW ts=t at*
   obtain⟨tk_,tx,tl,tc⟩:=t;simp only at hk;subst hk;unfold sJ at HN;go_enter Tryz.func88,Tryz.ntmps88;go_wp2_with fail;refine HN.o.mono ?_;rintro e w1 ⟨rfl,hb⟩;have HB:=aZ hb;have HR:=aZ (H0.o.below hb);clear hb;go_wp2_with fail;go_ret;exact aG.done HQ.o (Turn.of_below (HB.o.alloc HB.o.size _)) rfl (HR.o.below ((Below.refl _ _).alloc (Nat.le_refl _) _))
  ·obtain⟨t,r,rfl⟩:∃t r,ts=t :: r:=by
    rcases hwf.cases with⟨e,rfl,_⟩ |⟨t,r,rfl,_⟩
    ·exact⟨e,[],rfl⟩
    ·exact⟨t,r,rfl⟩
   have HQ:bR (fK k (t :: r)=.good t.text r):=aZ (by unfold fK;rw [if_pos hk,if_neg h0];rfl);have Ej:=aZ hwf;clear hwf;rw [show aW (t :: r)=t from rfl]at*
   obtain⟨tk_,tx,tl,tc⟩:=t;simp only at hk;subst hk;unfold sJ at HN;go_enter Tryz.func88,Tryz.ntmps88;go_wp2_with fail;refine HN.o.mono ?_;rintro e w1 ⟨rfl,hb⟩;have HB:=aZ hb;have hR:=H0.o.below hb;have Vr:=aZ hR.laid;have hlt1:=hR.lt;obtain⟨b,o,c2,t',r',he,hc2,hcm2,hok,hB2,Uh,hbk,hsl,d0,d1,z0,c0,c1,c2',c3⟩:=hR.open_;injection he with he1 he2;subst he1 he2;obtain⟨A',Zv,hA',hrun⟩:=ER hsl;have nJ:=aZ ((hR.tok hbk).behind (n':=r.length) (c':=c2 - 1) Zv);clear Zv;have HA:=aZ hA';have WX:=aZ hbk;have Mg:=aZ hok;have hbs:b<w1.heap.size:=by omega
   clear hb hR hsl hbk hok hA' c0 c1 c2' c3 d1;go_wp2_with fail;go_ret;have t2:=ak w1 bp 0 (.slice A' r.length (c2 - 1));have hb2:=heap_setCell_same w1 bp 0 _ _ (.slice A' r.length (c2 - 1)) WX.o;generalize hw2:w1.setCell _ _=w2 at*
   have hlt2:=block_lt hb2;have hbl:Below w2.heap.size w2 (w2.alloc (.cells #[.int .i64 tk_,.string ⟨tx.toArray⟩,.int .i64 tl,.int .i64 tc] 154)):=(Below.refl _ _).alloc (Nat.le_refl _) _;have t3:=t2.trans (Turn.of_below (F:=fun j=>j=bp) hbl) (fun _ _ h=>h);refine aG.done HQ.o ((Turn.of_below (F:=fun k=>k=bp) HB.o).trans t3 (fun _ _ h=>h)) rfl ⟨hB2,Mg.o.tail,((Sf.kind _).good Ej.o HQ.o).1,_,(hbl.block _ hlt2).trans hb2,?_⟩;have hbw:=t3.below (B:=B) (by omega) (fun k hk e=>by omega);exact⟨Sl.below HA.o hbw,Vr.o.below hbw,nJ.o.below hbw⟩
 ·have HQ:bR (fK k ts=.bad ((aW ts).line,(aW ts).col,7)):=aZ (by unfold fK;rw [if_neg hk]);clear hwf;generalize aW ts=t at*
  obtain⟨tk_,tx,tl,tc⟩:=t;simp only at hk;unfold sJ at HN;go_enter Tryz.func88,Tryz.ntmps88;go_wp2_with fail;refine HN.o.mono ?_;rintro e w1 ⟨rfl,hb⟩;have HB:=aZ hb;have HR:=aZ (H0.o.below hb);clear hb;go_wp2_with fail;refine(HF.o _ (HR.o.below ((Below.refl _ _).alloc (Nat.le_refl _) _))).mono ?_;rintro e w3 ⟨rfl,hb3⟩;have HT3:=aZ (fA.below (Turn.of_below (F:=fun j=>j=bp) (HB.o.alloc HB.o.size _)) (HR.o.below ((Below.refl _ _).alloc (Nat.le_refl _) _)).bp hb3);clear hb3;go_wp2_with fail;exact⟨rfl,aG.fail HQ.o HT3.o⟩
theorem gV (w:World)(bp B:Nat)(ts:List aD)(d:Int)(h:bX w bp B ts d):
  Calls Tryz.prog 106 #[.pointer (some ⟨bp,0,none⟩)] w (aG Zx bp B d w (nameP ts)):=by
 have HK:=aZ (rE w bp B ts d h 1);clear h;obtain⟨Q,hQ⟩:∃Q,nameP ts=Q:=⟨_,rfl⟩
 rw [show fK 1 ts=Q from hQ]at HK;rw [hQ];clear hQ;go_enter Tryz.func106,Tryz.ntmps106;go_wp2_with fail;refine HK.o.mono ?_;rintro e w2 h2;rcases Q with g |⟨x,r⟩
 ·obtain⟨rfl,t2⟩:=h2.bY rfl;have HT:=aZ t2;clear t2 h2;go_wp2_with fail;exact⟨rfl,aG.fail rfl HT.o⟩
 ·obtain⟨v,rfl,t2,rfl,hR⟩:=h2.aR rfl;have HT:=aZ t2;have HR:=aZ hR;clear t2 h2 hR;go_wp2_with fail;go_ret;exact aG.done rfl HT.o rfl HR.o
theorem bX.deep {w w':World}{bp B:Nat}{ts:List aD}{d e:Int}(h:bX w bp B ts d)(hw:w'=w.setCell ⟨bp,1,none⟩ (.int .i64 e)):bX w' bp B ts e:=by
 subst hw;have hlt:=h.lt;obtain⟨h1,h2,h5,v,h3,h4,h6,h7⟩:=h;have hb:=(ak w bp 1 (.int .i64 e)).below (B:=B) (by omega) (fun k hk e=>by omega);exact⟨h1,h2,h5,v,heap_setCell_same _ bp 1 _ _ _ h3,Sl.below h4 hb,h6.below hb,h7.below hb⟩
theorem zi (w:World)(bp B:Nat)(ts:List aD)(d:Int)(h:bX w bp B ts d)(h0:0<=d)(h1:d<100):
  Calls Tryz.prog 102 #[.pointer (some ⟨bp,0,none⟩)] w fun e w'=>e=.returned (.func (.func 158) #[] #[.pointer (some ⟨w.heap.size,0,none⟩)])∧Turn (fun k=>k=bp) w w'∧w'.cell? ⟨w.heap.size,0,none⟩=some (.pointer (some ⟨bp,0,none⟩))∧bX w' bp B ts (d+1):=by
 have H0:=aZ h;have hlt:=h.lt;obtain⟨b,o,c,t,r,rfl,hc,hcm,hl,hB,hb,hbk,hs,d0,d1,z0,c0,c1,c2,c3⟩:=h.open_;have hne:¬d=100:=by omega
 have Mh:∀(fn:Fn) (first cap:Array Value) (w:World),(Instr.makeFunc fn first cap).run Tryz.prog w=.ok (.func fn first cap) w:=fun _ _ _ _=>rfl;clear h hs hbk d0 c0 c1 c2 c3;go_enter Tryz.func102,Tryz.ntmps102;go_wp2_with fail;go_ret;have t1:=ak w bp 1 (.int .i64 (d+1));have hR:=H0.o.deep (e:=d+1) (w':=w.setCell ⟨bp,1,none⟩ (.int .i64 (d+1))) rfl;have hs:(w.setCell ⟨bp,1,none⟩ (.int .i64 (d+1))).heap.size=w.heap.size:=by simp
 refine⟨rfl,t1.trans (Turn.alloc _ _ _) (fun _ _ h=>h),?_,hR.below ((Below.refl _ _).alloc (Nat.le_refl _) _)⟩;have hn:=heap_alloc_new (w.setCell ⟨bp,1,none⟩ (.int .i64 (d+1))) (.cells #[.pointer (some ⟨bp,0,none⟩)] 91);rw [hs]at hn;exact(cell_of_row _ _ _ _ _ _ hn).trans rfl
theorem wO (w:World)(bp B:Nat)(ts:List aD)(h:bX w bp B ts 100):
  Calls Tryz.prog 102 #[.pointer (some ⟨bp,0,none⟩)] w fun e w'=>e=Da ((aW ts).line,(aW ts).col,6)∧fA bp w w':=by
 have H0:=aZ h;have HF:=aZ (fun(w1:World) (h1:bX w1 bp B ts 100)=>vC w1 bp B ts 100 6 h1);have hlt:=h.lt;obtain⟨b,o,c,t,r,he,hc,hcm,hl,hB,hb,hbk,hs,d0,d1,z0,c0,c1,c2,c3⟩:=h.open_;clear h hs hbk d0 c0 c1 c2 c3 he;go_enter Tryz.func102,Tryz.ntmps102;go_wp2_with fail;refine(HF.o _ (H0.o.below ((Below.refl _ _).alloc (Nat.le_refl _) _))).mono ?_;rintro e w3 ⟨rfl,hb3⟩;have HT3:=aZ (fA.below (Turn.of_below (F:=fun j=>j=bp) ((Below.refl _ _).alloc (Nat.le_refl _) _)) (H0.o.below ((Below.refl _ _).alloc (Nat.le_refl _) _)).bp hb3);clear hb3;go_wp2_with fail;exact⟨rfl,rfl,HT3.o⟩
theorem ES (w:World)(bp x:Nat)(v:Value)(d:Int)(u:FrameMode)(h:w.heap[bp]? =some (.cells #[v,.int .i64 d] 151 (0,0)))(hx:w.cell? ⟨x,0,none⟩=some (.pointer (some ⟨bp,0,none⟩))):
  CallsD Tryz.prog 158 #[.pointer (some ⟨x,0,none⟩)] u w fun e u' w'=>u'=u∧(e=.returned (.tuple #[])∧w'=w.setCell ⟨bp,1,none⟩ (.int .i64 (wrap64 (d - 1)))):=by
 have d1:w.cell? ⟨bp,1,none⟩=some (.int .i64 d):=(cell_of_row _ _ _ _ _ _ h).trans rfl;have z0:∀i,w.frozen? ⟨bp,i,none⟩=false:=fun i=>frozen_of_row _ _ _ _ _ h;clear h
 go_enter_d Tryz.func158,Tryz.ntmps158
 go_wp2_with fail;go_end0;exact⟨rfl,rfl⟩
def leftOf (w:World)(bp:Nat):Nat:=match w.cell? ⟨bp,0,none⟩with |some (.slice _ n _)=>n |_=>0
theorem bX.left {w:World}{bp B:Nat}{ts:List aD}{d:Int}(h:bX w bp B ts d):leftOf w bp=ts.length:=by
 obtain⟨b,o,c,t,r,rfl,hc,hcm,hl,hB,hb,hbk,hs,d0,d1,z0,c0,c1,c2,c3⟩:=h.open_;unfold leftOf;rw [d0];rfl
def eH {α:Type}(Inv:World->List α->Prop)(G:Nat->Prop)(bp B:Nat)(d:Int)(w:World)(q:Pr (List α))(e:Ending)(w':World):Prop:=match q with
 |.good l r=>e=.returned (.tuple #[])∧Turn G w w'∧Inv w' l∧bX w' bp B r d
 |.bad g=>e=Da g∧Turn G w w'∧wN w' bp
section
variable {α:Type}{Inv:World->List α->Prop}{G:Nat->Prop}{bp B:Nat}{d:Int}{w w':World}{q:Pr (List α)}{e:Ending}
theorem eH.bY {g:DX}(h:eH Inv G bp B d w q e w')(hq:q=.bad g):e=Da g∧Turn G w w'∧wN w' bp:=by
 subst hq;exact h
theorem eH.aR {x:List α}{r:List aD}(h:eH Inv G bp B d w q e w')(hq:q=.good x r):e=.returned (.tuple #[])∧Turn G w w'∧Inv w' x∧bX w' bp B r d:=by
 subst hq;exact h
theorem eH.fail {g:DX}(hq:q=.bad g)(t:Turn G w w')(hb:wN w' bp):eH Inv G bp B d w q (Da g) w':=by
 subst hq;exact⟨rfl,t,hb⟩
theorem eH.done {x:List α}{r:List aD}(hq:q=.good x r)(t:Turn G w w')(hI:Inv w' x)(hR:bX w' bp B r d):eH Inv G bp B d w q (.returned (.tuple #[])) w':=by
 subst hq;exact⟨rfl,t,hI,hR⟩
end
def rF {α:Type}(one:Ps α)(l:List α):Ps (List α):=au one fun x=>aJ (l++[x])
theorem ET {α:Type}{one:Ps α}{l:List α}{ts:List aD}{g:DX}(h:one ts=.bad g):rF one l ts=.bad g:=aB h
theorem Db {α:Type}{one:Ps α}{l:List α}{ts r:List aD}{x:α}(h:one ts=.good x r):rF one l ts=.good (l++[x]) r:=aj h
theorem je {s:Bt}{ts:List aD}{g:DX}(h:fF s ts=.bad g):False:=by
 unfold fF at h;split at h <;> cases h
theorem vD {s:Bt}{ts r:List aD}(h:fF s ts=.good true r)(hw:1<=ts.length):r.length<ts.length:=by
 unfold fF at h;split at h
 ·injection h with _ h;subst h;rw [List.length_drop];omega
 ·injection h with h;cases h
theorem lW {α:Type}(one:Ps α)(hone:Sf one)(K:Nat)(caps:Array Value)(Inv:World->List α->Prop)(G:Nat->Prop)(d:Int)(w:World)(bp B:Nat)(ts:List aD)(hG:G bp)
  (hInv:∀(w1 w2:World) (l:List α),Turn (fun k=>k=bp) w1 w2->Inv w1 l->Inv w2 l) (hnew:∀g,w.heap.size<=g->G g)
  (HC:∀(w1:World) (r:List aD) (l:List α),l.length<=8193->w.heap.size<=w1.heap.size->Inv w1 l->bX w1 bp B r d->Calls Tryz.prog K caps w1 (eH Inv G bp B d w1 (rF one l r)))
  (hent:∀w:World,(callFunc K caps).run Tryz.prog w=.ok (.enter K caps) w) (h:bX w bp B ts d) (hI:Inv w []):
  Calls Tryz.prog 151 #[.pointer (some ⟨bp,0,none⟩),.func (.func K) #[] caps] w (eH Inv G bp B d w (jN one ts)):=by
 have HC0:=aZ (HC w ts [] (by simp) (Nat.le_refl _) hI h);have hn:=h.2.1.1;have HN:=aZ hn;have Y9:=aZ HC;have Zy:=aZ hInv;obtain⟨Q,hQ⟩:∃Q,jN one ts=Q:=⟨_,rfl⟩
 rw [hQ];have HQ:=aZ hQ;have HW0:=aZ h.wf;clear HC hI hQ hInv h hn;go_enter Tryz.func151,Tryz.ntmps151;go_wp2_with fail;refine HC0.o.mono ?_;rintro e w1 h1;rcases hq:one ts with g |⟨x,r1⟩
 ·obtain⟨rfl,t1,b1⟩:=h1.bY (ET hq);have HT:=aZ t1;have HB:=aZ b1;have om:=aZ (HQ.o.symm.trans (show jN one ts=.bad g from aB hq));clear h1 t1 b1 hq;go_wp2_with fail;exact⟨rfl,eH.fail om.o HT.o HB.o⟩
 ·obtain⟨rfl,t1,i1,k1⟩:=h1.aR (Db hq);have HT1:=aZ t1;have HI1:=aZ i1;have qj:=aZ k1;have rz:=aZ ((hone.good HW0.o hq).2.length_le);have om:=aZ ((show jN one ts=sG one r1.length [x] r1 from aj hq).symm.trans HQ.o);clear h1 t1 i1 k1 hq;go_wp2_with fail;go_loopw [6] (fun _ wr=>∃(f:Nat) (l:List α) (r:List aD),sG one f l r=Q∧r.length<=f∧l.length+r.length<=ts.length+1∧Turn G w wr∧Inv wr l∧bX wr bp B r d) (fun _ wr=>leftOf wr bp)
  case atStart=>exact⟨_,_,r1,om.o,Nat.le_refl _,by have:=rz.o;simp only [List.length_singleton];omega,HT1.o,HI1.o,qj.o⟩
  case round=>
   obtain⟨f,l,r,hs,hf,hlr,ht,hi,hk⟩:=hrel;have hwf:=hk.wf;have hpos:=hwf.pos;obtain⟨f,rfl⟩:∃f',f=f'+1:=⟨f - 1,by omega⟩
   have HS:bR (au (fF [44]) (fun b=>if b then au one fun a=>sG one f (l++[a])else aJ l) r=Q):=aZ hs;have HLEN:=aZ hk.left;have HF:=aZ hf;have HT:=aZ ht;have HI:=aZ hi;have Ej:=aZ hwf;have HH:=aZ (lF wr bp B r d hk [44]);have HP:=aZ hpos;have Tn:=aZ hlr;clear hs hf ht hi hk hwf hpos hlr;rcases hq:fF [44] r with g |⟨b,r2⟩
   ·exact(je hq).elim
   cases b
   ·have nK:bR (Pr.good l r2=Q):=aZ ((aj hq).symm.trans HS.o);go_wp2_with fail;refine HH.o.mono ?_;rintro e w2 h2;obtain⟨v,rfl,t2,rfl,k2⟩:=h2.aR hq;have HT2:=aZ (HT.o.trans t2 (fun j _ hj=>by subst hj;exact hG));have HI2:=aZ (Zy.o _ _ _ t2 HI.o);have nL:=aZ k2;clear h2 t2 k2 hq;go_wp2_with fail;go_end0;exact eH.done nK.o.symm HT2.o HI2.o nL.o
   ·have nK:bR (au one (fun a=>sG one f (l++[a])) r2=Q):=aZ ((aj hq).symm.trans HS.o);have HL2:=aZ (vD hq HP.o);go_wp2_with fail;refine HH.o.mono ?_;rintro e w2 h2;obtain⟨v,rfl,t2,rfl,k2⟩:=h2.aR hq;have HT2:=aZ (HT.o.trans t2 (fun j _ hj=>by subst hj;exact hG));have Zz:=aZ (Y9.o w2 r2 l (by have:=Tn.o;have:=HL2.o;have:=HN.o;omega) (HT2.o.size) (Zy.o _ _ _ t2 HI.o) k2);have acK:=aZ k2.wf;clear h2 t2 k2 hq;go_wp2_with fail;refine Zz.o.mono ?_;rintro e w3 h3;rcases hq3:one r2 with g |⟨y,r3⟩
    ·obtain⟨rfl,t3,b3⟩:=h3.bY (ET hq3);have HT3:=aZ (HT2.o.trans t3 (fun _ _ h=>h));have HB3:=aZ b3;have jO:=aZ (nK.o.symm.trans (aB hq3));clear h3 t3 b3 hq3;go_wp2_with fail;exact⟨rfl,eH.fail jO.o HT3.o HB3.o⟩
    ·obtain⟨rfl,t3,i3,k3⟩:=h3.aR (Db hq3);have HT3:=aZ (HT2.o.trans t3 (fun _ _ h=>h));have HI3:=aZ i3;have lZ:=aZ k3;have jO:bR (sG one f (l++[y]) r3=Q):=aZ ((aj hq3).symm.trans nK.o);have WY:=aZ ((hone.good acK.o hq3).2.length_le);clear h3 t3 i3 k3 hq3;go_wp2_with fail
     go_roundw
     case rel=>exact⟨f,_,r3,jO.o,by have:=WY.o;have:=HL2.o;have:=HF.o;omega,by have:=WY.o;have:=HL2.o;have:=Tn.o;simp only [List.length_append,List.length_singleton];omega,HT3.o,HI3.o,lZ.o⟩
     case measure=>rw [lZ.o.left,HLEN.o];have:=WY.o;have:=HL2.o;omega
end Go.Proofs.YtfgjkmipfikooaaGreatDoor
