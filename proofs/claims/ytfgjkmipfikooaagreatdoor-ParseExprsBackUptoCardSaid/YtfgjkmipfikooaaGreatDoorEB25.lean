/- ZD, RX, RY -/
import Derived.Test.YtfgjkmipfikooaaGreatDoorEB24
set_option linter.unusedSimpArgs false
set_option linter.unusedVariables false
namespace Go.Proofs.YtfgjkmipfikooaaGreatDoor
theorem dP (s:Sg)(l:List Sg):cK (dN (s :: l))=cK s.flat++cK (dN l):=by
 unfold dN;rw [List.flatMap_cons,kT]
theorem bJ:cK (dN [])=[]:=rfl
theorem eY (s:Sg)(l:List Sg):iV (dN (s :: l))=iV s.flat+iV (dN l):=by
 unfold dN;rw [List.flatMap_cons,jJ]
theorem bS:iV (dN [])=0:=rfl
theorem nX (l:List Pc):iV (Sg.u l).flat=iV l:=rfl
theorem MX (l:List Pc):iV (Sg.v l).flat=iV l:=rfl
theorem aa5 (l:List Pc):iV (Sg.e l).flat=iV l:=rfl
theorem aa6 (k:Int)(t:Bt):iV (Sg.w (.tok k t)).flat=1:=by unfold iV aM;simp [Sg.flat,Pc.tK]
theorem kG (k:Int)(t:Bt):iV (Sg.p (.tok k t)).flat=1:=by unfold iV aM;simp [Sg.flat,Pc.tK]
theorem nU:iV (Sg.p .sp).flat=0:=rfl
theorem kW (l:List Pc):cK (Sg.u l).flat=cK l:=rfl
theorem Gg (l:List Pc):cK (Sg.v l).flat=cK l:=rfl
theorem Yg (l:List Pc):cK (Sg.e l).flat=cK l:=rfl
theorem Yh (k:Int)(t:Bt)(h:k≠4):cK (Sg.w (.tok k t)).flat=t:=by
 show cK [Pc.tok k t]=t;rw [eB,oL,List.append_nil];show jw (k,t)=t;unfold jw;rw [if_neg h]
theorem ko (t:Bt):cK (Sg.p (.tok 1 t)).flat=t:=by show cK [Pc.tok 1 t]=t;rw [eB,oL,List.append_nil];rfl
theorem jQ (t:Bt):cK (Sg.p (.tok 2 t)).flat=t:=by show cK [Pc.tok 2 t]=t;rw [eB,oL,List.append_nil];rfl
theorem UZ (t:Bt):cK (Sg.p (.tok 3 t)).flat=t:=by show cK [Pc.tok 3 t]=t;rw [eB,oL,List.append_nil];rfl
theorem U0 (t:Bt):cK (Sg.p (.tok 4 t)).flat=mE t:=by show cK [Pc.tok 4 t]= _;rw [eB,oL,List.append_nil];rfl
theorem iT (t:Bt):cK (Sg.p (.tok 5 t)).flat=t:=by show cK [Pc.tok 5 t]=t;rw [eB,oL,List.append_nil];rfl
theorem lH:cK (Sg.p .sp).flat=[32]:=rfl
def l9 (l:List bC)(i:Nat):List Pc:=match l[i]? with |some t=>dN [.p (.tok 5 [58]),.p .sp,.u (dZ t)] |none=>[]
def Ph (t:Bt):Int:=if t∈fQ then 2 else 5
def bQ (k:Int)(text:Bt)(n:Int)(types:List bC)(names:List Bt)(s:List (List Pc)):List Sg:=
 if k=7 then [.u (s.getD 0 []),.p (.tok 5 [40]),.u (s.getD 1 []),.p (.tok 5 [41])]
 else if k=9 then [.u (s.getD 0 []),.p (.tok 5 [46]),.p (.tok 1 text)]
 else if k=10 then [.p (.tok 5 [123]),.u (s.getD 0 []),.p .sp,.p (.tok 2 [119,105,116,104]),.p .sp,.p (.tok 1 text),.p (.tok 5 [58]),.p .sp,.u (s.getD 1 []),.p (.tok 5 [125])]
 else if k=8 then [.p (.tok 5 [123]),.e (gB kD (List.zipWith ig names s)),.p (.tok 5 [125])]
 else if k=17 then [.p (.tok 2 [112,114,105,110,116]),.p (.tok 5 [40]),.u (s.getD 0 []),.p (.tok 5 [41])]
 else if k=5 then [.p (.tok 5 [40]),.p (.tok 2 [108,101,116]),.p .sp,.p (.tok 1 text),.v (l9 types 0),.p .sp,.p (.tok 5 [61]),.p .sp,.u (s.getD 0 []),.p (.tok 5 [59]),.p .sp,.u (s.getD 1 []),.p (.tok 5 [41])]
 else if k=6 then [.p (.tok 5 [40]),.p (.tok 2 [102,110]),.p .sp,.p (.tok 5 [40]),.p (.tok 1 text),.v (l9 types 0),.p (.tok 5 [41]),.v (l9 types 1),.p .sp,.p (.tok 5 [61,62]),.p .sp,.u (s.getD 0 []),.p (.tok 5 [41])]
 else if k=11 then [.p (.tok 5 [40]),.p (.tok 2 [105,102]),.p .sp,.u (s.getD 0 []),.p .sp,.p (.tok 2 [116,104,101,110]),.p .sp,.u (s.getD 1 []),.p .sp,.p (.tok 2 [101,108,115,101]),.p .sp,.u (s.getD 2 []),.p (.tok 5 [41])]
 else if k=12 then [.p (.tok 5 [40]),.u (s.getD 0 []),.p .sp,.p (.tok 2 [105,115]),.p .sp,.p (.tok 2 (mg.getD n.toNat [])),.p (.tok 5 [41])]
 else if k=13 then [.p (.tok 5 [40]),.u (s.getD 0 []),.p .sp,.p (.tok 2 [97,115]),.p .sp,.u ((types.map dZ).getD 0 []),.p (.tok 5 [41])]
 else if k=14 then [.p (.tok 5 [40]),.u (s.getD 0 []),.p .sp,.w (.tok (Ph text) text),.p .sp,.u (s.getD 1 []),.p (.tok 5 [41])]
 else if k=15 then [.p (.tok 5 [40]),.p (.tok 2 [110,111,116]),.p .sp,.u (s.getD 0 []),.p (.tok 5 [41])]
 else if k=16 then [.p (.tok 5 [40]),.p (.tok 5 [45]),.u (s.getD 0 []),.p (.tok 5 [41])]
 else if k=0 then [.p (.tok 3 (Lib.itoa n))]
 else if k=1 then [.p (.tok 4 text)]
 else if k=2 then [.p (.tok 2 (if n=0 then [102,97,108,115,101]else [116,114,117,101]))]
 else if k=3 then [.p (.tok 2 [110,117,108,108])]
 else if k=18 then [.p (.tok 2 [114,101,97,100]),.p (.tok 5 [40]),.p (.tok 5 [41])]
 else if k=19 then [.p (.tok 1 text),.p (.tok 5 [91]),.u (gB kD (types.map dZ)),.p (.tok 5 [93])]
 else [.p (.tok 1 text)]
mutual
def bO:bF->List Pc
 |.mk k text n _ _ types names kids=>dN (bQ k text n types names (cZ kids))
def cZ:List bF->List (List Pc)
 | []=>[]
 |x :: l=>bO x :: cZ l
end
theorem gK:∀l:List bF,cZ l=l.map bO
 | []=>by simp [cZ]
 |t :: l=>by simp [cZ,gK l]
theorem vL {l:List bC}(h:∀t∈l,aK 16 t=true)(i:Nat):VP (l9 l i)∧cK (l9 l i)=jR l i∧iV (l9 l i)<=6*dh l:=by
 unfold l9 jR;cases hl:l[i]? with
 |none=>exact⟨Yf,rfl,by simp [iV,aM]⟩
 |some t=>
  have hm:=List.mem_of_getElem? hl;obtain⟨a1,a2,a3⟩:=vJ 16 t (h t hm);have hc:=uZ hm;refine⟨UY rfl ?_,?_,?_⟩
  ·intro s hs;simp only [List.mem_cons,List.not_mem_nil,or_false]at hs;rcases hs with rfl |rfl |rfl
   ·exact mU (.inr (by decide))
   ·trivial
   ·exact a1
  ·simp only [dP,bJ,iT,lH,kW,a2,List.append_nil];rfl
  ·simp only [eY,bS,kG,nU,nX];omega
theorem U1:∀t∈opsL,(Sg.w (.tok (Ph t) t)).Is:=by
 intro t ht;have h:∀t∈opsL,fu t=.inr (Ph t,t,t.length)∧1<=Ph t∧Ph t<=5∧Ph t≠4∧(t≠[40]∧t≠[91]∧t≠[123]∧t≠[41]∧t≠[93]∧t≠[125]):=by decide
 obtain⟨h1,h2,h3,h4,h5⟩:=h t ht;refine⟨⟨?_,h2,h3⟩,Ll.one (.inr h5)⟩;unfold Good jw;rw [if_neg h4];exact h1
theorem U2:∀t∈opsL,Ph t≠4:=by decide
theorem OY {ts:List bC}(h:∀t∈ts,aK 16 t=true):(∀p∈ts.map dZ,WP p)∧(ts.map dZ).map cK=ts.map cO∧rR (ts.map dZ)+4*ts.length<=6*dh ts:=by
 induction ts with
 |nil=>exact⟨by simp,rfl,by simp [rR,dh]⟩
 |cons x l ih=>
  obtain⟨a1,a2,a3⟩:=vJ 16 x (h x (by simp));obtain⟨b1,b2,b3⟩:=ih fun t ht=>h t (by simp [ht]);refine⟨?_,?_,?_⟩
  ·intro p hp;rw [List.map_cons]at hp;rcases List.mem_cons.1 hp with rfl |hp
   ·exact a1
   ·exact b1 p hp
  ·rw [List.map_cons,List.map_cons,List.map_cons,a2,b2]
  ·rw [List.map_cons,iY,dh,List.length_cons];omega
theorem Yi {n:Int}(h0:0<=n)(h1:n<=9223372036854775807):(Sg.p (.tok 3 (Lib.itoa n))).Is:=⟨Jp h0 h1,by omega,by omega⟩
theorem MZ {s:Bt}(h:yR s=true):s.length<=256∧∀c∈s,32<=c.toNat∨c.toNat=9∨c.toNat=10:=by
 unfold yR at h;rw [Bool.and_eq_true,decide_eq_true_eq,List.all_eq_true]at h;refine⟨h.1,fun c hc=>?_⟩;have:=h.2 c hc;simp only [Bool.not_eq_true',Bool.and_eq_false_iff,decide_eq_false_iff_not,bne_eq_false_iff_eq]at this;rcases this with(h |h) |h
 ·left;have:¬c.toNat<32:=fun hh=>h (UInt8.lt_iff_toNat_lt.2 hh);omega
 ·subst h;exact .inr (.inl rfl)
 ·subst h;exact .inr (.inr rfl)
theorem Yj {s:Bt}(h:yR s=true):(Sg.p (.tok 4 s)).Is:=⟨Jq (MZ h).1 (MZ h).2,by omega,by omega⟩
theorem Lx:∀j,j<6->mg.getD j []∈fQ:=by decide
theorem fV:∀(m:Nat) (x:bF),dx m x=true->WP (bO x)∧cK (bO x)=fT x∧iV (bO x)+4<=12*gT x
 |0,x,h=>by cases h
 |m+1,x,h=>by
  have all:∀ks:List bF,(∀t∈ks,dx m t=true)->(∀p∈cZ ks,WP p)∧(cZ ks).map cK=fU ks∧rR (cZ ks)+4*ks.length<=12*fJ ks:=by
   intro ks hk;induction ks with
   |nil=>exact⟨by simp [cZ],by simp [cZ,fU],by simp [cZ,rR,fJ]⟩
   |cons x l ih=>
    obtain⟨a1,a2,a3⟩:=fV m x (hk x (by simp));obtain⟨b1,b2,b3⟩:=ih fun t ht=>hk t (by simp [ht]);refine⟨?_,?_,?_⟩
    ·intro p hp;rw [cZ]at hp;rcases List.mem_cons.1 hp with rfl |hp
     ·exact a1
     ·exact b1 p hp
    ·rw [cZ,fU,List.map_cons,a2,b2]
    ·rw [cZ,iY,fJ,List.length_cons];omega
  have tl:∀ks:List bF,(cZ ks).length=ks.length:=fun ks=>by rw [gK,List.length_map]
  have k5:∀{t:Bt},t∈fD.map (fun c=>[c])->(Sg.p (.tok 5 t)).Is:=fun h=>mU (.inr h);cases vK h with
  | @int n li co h0 h1=>
   refine⟨eP rfl (by intro s hs;simp only [cZ,bQ,Int.reduceEq,if_true,if_false,List.mem_cons,List.not_mem_nil,or_false]at hs;subst hs;exact Yi h0 h1),?_,?_⟩
   ·rw [bO,fT];simp only [bQ,dY,iC,Int.reduceEq,if_true,if_false,dP,bJ,UZ,List.append_nil]
   ·rw [bO,gT];simp only [bQ,Int.reduceEq,if_true,if_false,eY,bS,kG,fJ,dh];omega
  | @str t li co h0=>
   refine⟨eP rfl (by intro s hs;simp only [cZ,bQ,Int.reduceEq,if_true,if_false,List.mem_cons,List.not_mem_nil,or_false]at hs;subst hs;exact Yj h0),?_,?_⟩
   ·rw [bO,fT];simp only [bQ,dY,iC,Int.reduceEq,if_true,if_false,dP,bJ,U0,List.append_nil]
   ·rw [bO,gT];simp only [bQ,Int.reduceEq,if_true,if_false,eY,bS,kG,fJ,dh];omega
  | @bool n li co h0=>
   rcases h0 with rfl |rfl
   all_goals
    refine⟨eP rfl (by intro s hs;simp only [cZ,bQ,Int.reduceEq,if_true,if_false,List.mem_cons,List.not_mem_nil,or_false]at hs;subst hs;exact jr (by decide)),?_,?_⟩
    ·rw [bO,fT];simp only [bQ,dY,iC,Int.reduceEq,if_true,if_false,dP,bJ,jQ,List.append_nil]
    ·rw [bO,gT];simp only [bQ,Int.reduceEq,if_true,if_false,eY,bS,kG,fJ,dh];omega
  | @null li co=>
   refine⟨eP rfl (by intro s hs;simp only [cZ,bQ,Int.reduceEq,if_true,if_false,List.mem_cons,List.not_mem_nil,or_false]at hs;subst hs;exact jr (by decide)),?_,?_⟩
   ·rw [bO,fT];simp only [bQ,dY,iC,Int.reduceEq,if_true,if_false,dP,bJ,jQ,List.append_nil]
   ·rw [bO,gT];simp only [bQ,Int.reduceEq,if_true,if_false,eY,bS,kG,fJ,dh];omega
  | @name t li co h0=>
   refine⟨eP rfl (by intro s hs;simp only [cZ,bQ,Int.reduceEq,if_true,if_false,List.mem_cons,List.not_mem_nil,or_false]at hs;subst hs;exact oC h0),?_,?_⟩
   ·rw [bO,fT];simp only [bQ,dY,iC,Int.reduceEq,if_true,if_false,dP,bJ,ko,List.append_nil]
   ·rw [bO,gT];simp only [bQ,Int.reduceEq,if_true,if_false,eY,bS,kG,fJ,dh];omega
  | @JD li co=>
   refine⟨eP rfl (by
    intro s hs;simp only [cZ,bQ,Int.reduceEq,if_true,if_false,List.mem_cons,List.not_mem_nil,or_false]at hs;rcases hs with rfl |rfl |rfl
    ·exact jr (by decide)
    ·exact k5 (by decide)
    ·exact k5 (by decide)),?_,?_⟩
   ·rw [bO,fT];simp only [bQ,dY,iC,Int.reduceEq,if_true,if_false,dP,bJ,jQ,iT,List.append_nil];rfl
   ·rw [bO,gT];simp only [bQ,Int.reduceEq,if_true,if_false,eY,bS,kG,fJ,dh];omega
  | @inst t li co x ts h0 h1=>
   obtain⟨a1,a2,a3⟩:=OY h1;have h2:=sS ((x :: ts).map dZ);rw [List.length_map]at h2
   refine⟨eP rfl (by
    intro s hs;simp only [cZ,bQ,Int.reduceEq,if_true,if_false,List.mem_cons,List.not_mem_nil,or_false]at hs;rcases hs with rfl |rfl |rfl |rfl
    ·exact oC h0
    ·exact k5 (by decide)
    ·exact Dz _ (by simp) a1
    ·exact k5 (by decide)),?_,?_⟩
   ·rw [bO,fT];simp only [bQ,dY,iC,cat,Int.reduceEq,if_true,if_false,dP,bJ,ko,iT,kW,pR,a2,List.append_nil,List.flatMap_cons,List.flatMap_nil,id_eq];rfl
   ·rw [bO,gT];simp only [bQ,Int.reduceEq,if_true,if_false,eY,bS,kG,nX,fJ];omega
  | @wM li co ns ks hn hk hl=>
   obtain⟨a1,a2,a3⟩:=all ks hk;have h1:=sS (List.zipWith ig ns (cZ ks));have h2:=wX ns (cZ ks);have h3:=qU ig ns (cZ ks);rw [tl]at h2 h3
   refine⟨eP rfl (by
    intro s hs;simp only [bQ,Int.reduceEq,if_true,if_false,List.mem_cons,List.not_mem_nil,or_false]at hs;rcases hs with rfl |rfl |rfl
    ·exact k5 (by decide)
    ·exact Jy _ (Lr fun n hnn p hp=>JB (List.all_eq_true.1 hn n hnn) (a1 p hp))
    ·exact k5 (by decide)),?_,?_⟩
   ·rw [bO,fT];simp only [bQ,dY,cat,Int.reduceEq,if_true,if_false,dP,bJ,iT,Yg,pR,DI DC,a2,List.append_nil,List.flatMap_cons,List.flatMap_nil,id_eq];rfl
   ·rw [bO,gT];simp only [bQ,Int.reduceEq,if_true,if_false,eY,bS,kG,aa5,dh];omega
  | @call li co a b ha hb=>
   obtain⟨a1,a2,a3⟩:=fV m a ha;obtain⟨b1,b2,b3⟩:=fV m b hb
   refine⟨eP rfl (by
    intro s hs;simp only [cZ,bQ,Int.reduceEq,if_true,if_false,List.mem_cons,List.not_mem_nil,or_false,List.getD_cons_zero,List.getD_cons_succ]at hs;rcases hs with rfl |rfl |rfl |rfl
    ·exact a1
    ·exact k5 (by decide)
    ·exact b1
    ·exact k5 (by decide)),?_,?_⟩
   ·rw [bO,fT];simp only [cZ,fU,bQ,dY,cat,Int.reduceEq,if_true,if_false,dP,bJ,iT,kW,a2,b2,List.append_nil,List.flatMap_cons,List.flatMap_nil,id_eq,List.getD_cons_zero,List.getD_cons_succ]
   ·rw [bO,gT];simp only [cZ,bQ,Int.reduceEq,if_true,if_false,eY,bS,kG,nX,dh,fJ,List.getD_cons_zero,List.getD_cons_succ];omega
  | @sel t li co a h0 ha=>
   obtain⟨a1,a2,a3⟩:=fV m a ha
   refine⟨eP rfl (by
    intro s hs;simp only [cZ,bQ,Int.reduceEq,if_true,if_false,List.mem_cons,List.not_mem_nil,or_false,List.getD_cons_zero,List.getD_cons_succ]at hs;rcases hs with rfl |rfl |rfl
    ·exact a1
    ·exact k5 (by decide)
    ·exact oC h0),?_,?_⟩
   ·rw [bO,fT];simp only [cZ,fU,bQ,dY,cat,Int.reduceEq,if_true,if_false,dP,bJ,ko,iT,kW,a2,List.append_nil,List.flatMap_cons,List.flatMap_nil,id_eq,List.getD_cons_zero,List.getD_cons_succ]
   ·rw [bO,gT];simp only [cZ,bQ,Int.reduceEq,if_true,if_false,eY,bS,kG,nX,dh,fJ,List.getD_cons_zero,List.getD_cons_succ];omega
  | @with_ t li co a b h0 ha hb=>
   obtain⟨a1,a2,a3⟩:=fV m a ha;obtain⟨b1,b2,b3⟩:=fV m b hb
   refine⟨eP rfl (by
    intro s hs;simp only [cZ,bQ,Int.reduceEq,if_true,if_false,List.mem_cons,List.not_mem_nil,or_false,List.getD_cons_zero,List.getD_cons_succ]at hs;rcases hs with rfl |rfl |rfl |rfl |rfl |rfl |rfl |rfl |rfl |rfl
    ·exact k5 (by decide)
    ·exact a1
    ·trivial
    ·exact jr (by decide)
    ·trivial
    ·exact oC h0
    ·exact k5 (by decide)
    ·trivial
    ·exact b1
    ·exact k5 (by decide)),?_,?_⟩
   ·rw [bO,fT];simp only [cZ,fU,bQ,dY,cat,Int.reduceEq,if_true,if_false,dP,bJ,ko,jQ,iT,lH,kW,a2,b2,List.append_nil,List.flatMap_cons,List.flatMap_nil,id_eq,List.getD_cons_zero,List.getD_cons_succ];rfl
   ·rw [bO,gT];simp only [cZ,bQ,Int.reduceEq,if_true,if_false,eY,bS,kG,nU,nX,dh,fJ,List.getD_cons_zero,List.getD_cons_succ];omega
  | @DJ li co a ha=>
   obtain⟨a1,a2,a3⟩:=fV m a ha
   refine⟨eP rfl (by
    intro s hs;simp only [cZ,bQ,Int.reduceEq,if_true,if_false,List.mem_cons,List.not_mem_nil,or_false,List.getD_cons_zero,List.getD_cons_succ]at hs;rcases hs with rfl |rfl |rfl |rfl
    ·exact jr (by decide)
    ·exact k5 (by decide)
    ·exact a1
    ·exact k5 (by decide)),?_,?_⟩
   ·rw [bO,fT];simp only [cZ,fU,bQ,dY,cat,Int.reduceEq,if_true,if_false,dP,bJ,jQ,iT,kW,a2,List.append_nil,List.flatMap_cons,List.flatMap_nil,id_eq,List.getD_cons_zero,List.getD_cons_succ];rfl
   ·rw [bO,gT];simp only [cZ,bQ,Int.reduceEq,if_true,if_false,eY,bS,kG,nX,dh,fJ,List.getD_cons_zero,List.getD_cons_succ];omega
  | @SH t li co a b h0 ha hb=>
   obtain⟨a1,a2,a3⟩:=fV m a ha;obtain⟨b1,b2,b3⟩:=fV m b hb;obtain⟨v1,v2,v3⟩:=vL (l:=[]) (by simp) 0
   refine⟨eP rfl (by
    intro s hs;simp only [cZ,bQ,Int.reduceEq,if_true,if_false,List.mem_cons,List.not_mem_nil,or_false,List.getD_cons_zero,List.getD_cons_succ]at hs;rcases hs with rfl |rfl |rfl |rfl |rfl |rfl |rfl |rfl |rfl |rfl |rfl |rfl |rfl
    ·exact k5 (by decide)
    ·exact jr (by decide)
    ·trivial
    ·exact oC h0
    ·exact v1
    ·trivial
    ·exact k5 (by decide)
    ·trivial
    ·exact a1
    ·exact k5 (by decide)
    ·trivial
    ·exact b1
    ·exact k5 (by decide)),?_,?_⟩
   ·rw [bO,fT];simp only [cZ,fU,bQ,dY,cat,Int.reduceEq,if_true,if_false,dP,bJ,ko,jQ,iT,lH,kW,Gg,a2,b2,v2,List.append_nil,List.flatMap_cons,List.flatMap_nil,id_eq,List.getD_cons_zero,List.getD_cons_succ];rfl
   ·rw [bO,gT];simp only [cZ,bQ,Int.reduceEq,if_true,if_false,eY,bS,kG,nU,nX,MX,dh,fJ,List.getD_cons_zero,List.getD_cons_succ]at v3 ⊢;omega
  | @SI t li co x a b h0 hx ha hb=>
   obtain⟨a1,a2,a3⟩:=fV m a ha;obtain⟨b1,b2,b3⟩:=fV m b hb;obtain⟨v1,v2,v3⟩:=vL (l:=[x]) (by simpa using hx) 0
   refine⟨eP rfl (by
    intro s hs;simp only [cZ,bQ,Int.reduceEq,if_true,if_false,List.mem_cons,List.not_mem_nil,or_false,List.getD_cons_zero,List.getD_cons_succ]at hs;rcases hs with rfl |rfl |rfl |rfl |rfl |rfl |rfl |rfl |rfl |rfl |rfl |rfl |rfl
    ·exact k5 (by decide)
    ·exact jr (by decide)
    ·trivial
    ·exact oC h0
    ·exact v1
    ·trivial
    ·exact k5 (by decide)
    ·trivial
    ·exact a1
    ·exact k5 (by decide)
    ·trivial
    ·exact b1
    ·exact k5 (by decide)),?_,?_⟩
   ·rw [bO,fT];simp only [cZ,fU,bQ,dY,cat,Int.reduceEq,if_true,if_false,dP,bJ,ko,jQ,iT,lH,kW,Gg,a2,b2,v2,List.append_nil,List.flatMap_cons,List.flatMap_nil,id_eq,List.getD_cons_zero,List.getD_cons_succ];rfl
   ·rw [bO,gT];simp only [cZ,bQ,Int.reduceEq,if_true,if_false,eY,bS,kG,nU,nX,MX,dh,fJ,List.getD_cons_zero,List.getD_cons_succ]at v3 ⊢;omega
  | @fn1 t li co x a h0 hx ha=>
   obtain⟨a1,a2,a3⟩:=fV m a ha;obtain⟨v1,v2,v3⟩:=vL (l:=[x]) (by simpa using hx) 0;obtain⟨u1,u2,u3⟩:=vL (l:=[x]) (by simpa using hx) 1;have u4:iV (l9 [x] 1)=0:=rfl
   refine⟨eP rfl (by
    intro s hs;simp only [cZ,bQ,Int.reduceEq,if_true,if_false,List.mem_cons,List.not_mem_nil,or_false,List.getD_cons_zero,List.getD_cons_succ]at hs;rcases hs with rfl |rfl |rfl |rfl |rfl |rfl |rfl |rfl |rfl |rfl |rfl |rfl |rfl
    ·exact k5 (by decide)
    ·exact jr (by decide)
    ·trivial
    ·exact k5 (by decide)
    ·exact oC h0
    ·exact v1
    ·exact k5 (by decide)
    ·exact u1
    ·trivial
    ·exact mU (.inl (by decide))
    ·trivial
    ·exact a1
    ·exact k5 (by decide)),?_,?_⟩
   ·rw [bO,fT];simp only [cZ,fU,bQ,dY,cat,Int.reduceEq,if_true,if_false,dP,bJ,ko,jQ,iT,lH,kW,Gg,a2,u2,v2,List.append_nil,List.flatMap_cons,List.flatMap_nil,id_eq,List.getD_cons_zero,List.getD_cons_succ];rfl
   ·rw [bO,gT];simp only [cZ,bQ,Int.reduceEq,if_true,if_false,eY,bS,kG,nU,nX,MX,dh,fJ,List.getD_cons_zero,List.getD_cons_succ]at v3 ⊢;omega
  | @fn2 t li co x y a h0 hx hy ha=>
   obtain⟨a1,a2,a3⟩:=fV m a ha;obtain⟨v1,v2,v3⟩:=vL (l:=[x]) (by simpa using hx) 0;obtain⟨u1,u2,u3⟩:=vL (l:=[y]) (by simpa using hy) 0;have e0:l9 [x,y] 0=l9 [x] 0:=rfl;have e1:l9 [x,y] 1=l9 [y] 0:=rfl;have e2:jR [x,y] 0=jR [x] 0:=rfl;have e3:jR [x,y] 1=jR [y] 0:=rfl
   refine⟨eP rfl (by
    intro s hs;simp only [cZ,bQ,Int.reduceEq,if_true,if_false,List.mem_cons,List.not_mem_nil,or_false,List.getD_cons_zero,List.getD_cons_succ]at hs;rcases hs with rfl |rfl |rfl |rfl |rfl |rfl |rfl |rfl |rfl |rfl |rfl |rfl |rfl
    ·exact k5 (by decide)
    ·exact jr (by decide)
    ·trivial
    ·exact k5 (by decide)
    ·exact oC h0
    ·exact v1
    ·exact k5 (by decide)
    ·exact u1
    ·trivial
    ·exact mU (.inl (by decide))
    ·trivial
    ·exact a1
    ·exact k5 (by decide)),?_,?_⟩
   ·rw [bO,fT];simp only [cZ,fU,bQ,dY,cat,Int.reduceEq,if_true,if_false,dP,bJ,ko,jQ,iT,lH,kW,Gg,a2,e0,e1,e2,e3,u2,v2,List.append_nil,List.flatMap_cons,List.flatMap_nil,id_eq,List.getD_cons_zero,List.getD_cons_succ];rfl
   ·rw [bO,gT];simp only [cZ,bQ,Int.reduceEq,if_true,if_false,eY,bS,kG,nU,nX,MX,dh,fJ,e0,e1,List.getD_cons_zero,List.getD_cons_succ]at u3 v3 ⊢;omega
  | @if_ li co a b c ha hb hc=>
   obtain⟨a1,a2,a3⟩:=fV m a ha;obtain⟨b1,b2,b3⟩:=fV m b hb;obtain⟨c1,c2,c3⟩:=fV m c hc
   refine⟨eP rfl (by
    intro s hs;simp only [cZ,bQ,Int.reduceEq,if_true,if_false,List.mem_cons,List.not_mem_nil,or_false,List.getD_cons_zero,List.getD_cons_succ]at hs;rcases hs with rfl |rfl |rfl |rfl |rfl |rfl |rfl |rfl |rfl |rfl |rfl |rfl |rfl
    ·exact k5 (by decide)
    ·exact jr (by decide)
    ·trivial
    ·exact a1
    ·trivial
    ·exact jr (by decide)
    ·trivial
    ·exact b1
    ·trivial
    ·exact jr (by decide)
    ·trivial
    ·exact c1
    ·exact k5 (by decide)),?_,?_⟩
   ·rw [bO,fT];simp only [cZ,fU,bQ,dY,cat,Int.reduceEq,if_true,if_false,dP,bJ,ko,jQ,iT,lH,kW,a2,b2,c2,List.append_nil,List.flatMap_cons,List.flatMap_nil,id_eq,List.getD_cons_zero,List.getD_cons_succ];rfl
   ·rw [bO,gT];simp only [cZ,bQ,Int.reduceEq,if_true,if_false,eY,bS,kG,nU,nX,dh,fJ,List.getD_cons_zero,List.getD_cons_succ];omega
  | @is_ n li co a h0 h5 ha=>
   obtain⟨a1,a2,a3⟩:=fV m a ha;have hw:mg.getD n.toNat []∈fQ:=Lx _ (by omega)
   refine⟨eP rfl (by
    intro s hs;simp only [cZ,bQ,Int.reduceEq,if_true,if_false,List.mem_cons,List.not_mem_nil,or_false,List.getD_cons_zero]at hs;rcases hs with rfl |rfl |rfl |rfl |rfl |rfl |rfl
    ·exact k5 (by decide)
    ·exact a1
    ·trivial
    ·exact jr (by decide)
    ·trivial
    ·exact jr hw
    ·exact k5 (by decide)),?_,?_⟩
   ·rw [bO,fT];simp only [cZ,fU,bQ,dY,cat,Int.reduceEq,if_true,if_false,dP,bJ,ko,jQ,iT,lH,kW,a2,List.append_nil,List.flatMap_cons,List.flatMap_nil,id_eq,List.getD_cons_zero];rfl
   ·rw [bO,gT];simp only [cZ,bQ,Int.reduceEq,if_true,if_false,eY,bS,kG,nU,nX,dh,fJ,List.getD_cons_zero];omega
  | @as_ li co x a hx ha=>
   obtain⟨a1,a2,a3⟩:=fV m a ha;obtain⟨x1,x2,x3⟩:=vJ 16 x hx
   refine⟨eP rfl (by
    intro s hs;simp only [cZ,bQ,Int.reduceEq,if_true,if_false,List.mem_cons,List.not_mem_nil,or_false,List.getD_cons_zero,List.map_cons,List.map_nil]at hs;rcases hs with rfl |rfl |rfl |rfl |rfl |rfl |rfl
    ·exact k5 (by decide)
    ·exact a1
    ·trivial
    ·exact jr (by decide)
    ·trivial
    ·exact x1
    ·exact k5 (by decide)),?_,?_⟩
   ·rw [bO,fT];simp only [cZ,fU,bQ,dY,cat,Int.reduceEq,if_true,if_false,dP,bJ,ko,jQ,iT,lH,kW,a2,x2,List.append_nil,List.flatMap_cons,List.flatMap_nil,id_eq,List.getD_cons_zero,List.map_cons,List.map_nil];rfl
   ·rw [bO,gT];simp only [cZ,bQ,Int.reduceEq,if_true,if_false,eY,bS,kG,nU,nX,dh,fJ,List.getD_cons_zero,List.map_cons,List.map_nil];omega
  | @op_ t li co a b h0 ha hb=>
   obtain⟨a1,a2,a3⟩:=fV m a ha;obtain⟨b1,b2,b3⟩:=fV m b hb;have h4:=U2 t h0
   refine⟨eP rfl (by
    intro s hs;simp only [cZ,bQ,Int.reduceEq,if_true,if_false,List.mem_cons,List.not_mem_nil,or_false,List.getD_cons_zero,List.getD_cons_succ]at hs;rcases hs with rfl |rfl |rfl |rfl |rfl |rfl |rfl
    ·exact k5 (by decide)
    ·exact a1
    ·trivial
    ·exact U1 t h0
    ·trivial
    ·exact b1
    ·exact k5 (by decide)),?_,?_⟩
   ·rw [bO,fT];simp only [cZ,fU,bQ,dY,cat,Int.reduceEq,if_true,if_false,dP,bJ,ko,jQ,iT,lH,kW,Yh _ _ h4,a2,b2,List.append_nil,List.flatMap_cons,List.flatMap_nil,id_eq,List.getD_cons_zero,List.getD_cons_succ]
   ·rw [bO,gT];simp only [cZ,bQ,Int.reduceEq,if_true,if_false,eY,bS,kG,aa6,nU,nX,dh,fJ,List.getD_cons_zero,List.getD_cons_succ];omega
  | @not_ li co a ha=>
   obtain⟨a1,a2,a3⟩:=fV m a ha
   refine⟨eP rfl (by
    intro s hs;simp only [cZ,bQ,Int.reduceEq,if_true,if_false,List.mem_cons,List.not_mem_nil,or_false,List.getD_cons_zero]at hs;rcases hs with rfl |rfl |rfl |rfl |rfl
    ·exact k5 (by decide)
    ·exact jr (by decide)
    ·trivial
    ·exact a1
    ·exact k5 (by decide)),?_,?_⟩
   ·rw [bO,fT];simp only [cZ,fU,bQ,dY,cat,Int.reduceEq,if_true,if_false,dP,bJ,ko,jQ,iT,lH,kW,a2,List.append_nil,List.flatMap_cons,List.flatMap_nil,id_eq,List.getD_cons_zero];rfl
   ·rw [bO,gT];simp only [cZ,bQ,Int.reduceEq,if_true,if_false,eY,bS,kG,nU,nX,dh,fJ,List.getD_cons_zero];omega
  | @SK li co a ha=>
   obtain⟨a1,a2,a3⟩:=fV m a ha
   refine⟨eP rfl (by
    intro s hs;simp only [cZ,bQ,Int.reduceEq,if_true,if_false,List.mem_cons,List.not_mem_nil,or_false,List.getD_cons_zero]at hs;rcases hs with rfl |rfl |rfl |rfl
    ·exact k5 (by decide)
    ·exact k5 (by decide)
    ·exact a1
    ·exact k5 (by decide)),?_,?_⟩
   ·rw [bO,fT];simp only [cZ,fU,bQ,dY,cat,Int.reduceEq,if_true,if_false,dP,bJ,ko,jQ,iT,lH,kW,a2,List.append_nil,List.flatMap_cons,List.flatMap_nil,id_eq,List.getD_cons_zero]
   ·rw [bO,gT];simp only [cZ,bQ,Int.reduceEq,if_true,if_false,eY,bS,kG,nU,nX,dh,fJ,List.getD_cons_zero];omega
def rV:Nat->List Bt
 |0=>[]
 |f+1=>rV f++(if f=3 then qC else wK.getD (5 - f) [])
def JJ:List Bt:=[[91],[40],[46]]
def M0:List Bt:=JJ++rV 6
def DR:List Bt:=[[108,101,116],[105,102],[102,110],[45],[110,111,116]]
theorem left_stop {ops:List Bt}{sub:Ps bF}{r:List aD}(h:dF ops r)(f:Nat)(a:bF):mq ops sub f a r=.good a r:=by
 cases f with
 |zero=>rfl
 |succ f=>
  unfold mq;rw [aj (show fH r=.good (aW r) r from rfl),aj (kF h)];rfl
theorem OZ {expr:Ps bF}{r:List aD}(h:dF [[40],[46]] r)(f:Nat)(a:bF):jB expr f a r=.good a r:=by
 cases f with
 |zero=>rfl
 |succ f=>
  unfold jB;rw [aj (show fH r=.good (aW r) r from rfl),aj (kF h)];rfl
theorem yJ {typ:Ps bC}{unary:Ps bF}{ts r:List aD}{a:bF}{g:Nat}(h:jl typ unary g ts=.good a r):∀f:Nat,g<=f->dF (rV f) r->jl typ unary f ts=.good a r
 |0,hf,hr=>by
  obtain rfl:g=0:=by omega
  exact h
 |f+1,hf,hr=>by
  by_cases hg:g=f+1
  ·rw [<-hg];exact h
  ·have ih:=yJ h f (by omega) (hr.sub (by simp [rV] <;> (intro s hs;exact .inl hs)));unfold jl;unfold rV at hr;by_cases h3:f=3
   ·rw [if_pos h3];rw [if_pos h3]at hr;unfold Ei;rw [aj ih,aj (show fH r=.good (aW r) r from rfl),aj (kF (hr.sub (by simp+contextual)))];rfl
   ·rw [if_neg h3];rw [if_neg h3]at hr;unfold zY;rw [aj ih];exact left_stop (hr.sub (by simp+contextual)) _ a
theorem pV {typ:Ps bC}{unary:Ps bF}{ts r:List aD}{a:bF}(h:unary ts=.good a r){f:Nat}(hr:dF (rV f) r):jl typ unary f ts=.good a r:=yJ (g:=0) h f (Nat.zero_le _) hr
def Tw (t:Bt):Nat ×Nat:=
 if t=[111,114]then(5,0)else if t=[97,110,100]then(4,0)else if t=[60]then(3,0)else if t=[60,61]then(3,1)else if t=[61,61]then(3,2)else if t=[43,43]then(2,0)
 else if t=[43]then(1,0)else if t=[45]then(1,1)else if t=[94]then(1,2)else if t=[42]then(0,0)else if t=[47]then(0,1)else if t=[37]then(0,2)else if t=[38]then(0,3)else if t=[60,60]then(0,4)else(0,5)
def SN (f:Nat):List Bt:=if f=3 then qC else wK.getD (5 - f) []
theorem JK:∀t∈opsL,(Tw t).1<=5∧((Tw t).1=3->(Tw t).2<3)∧(SN (Tw t).1).findIdx? (isK (Ph t) t)=some (Tw t).2∧(SN (Tw t).1).getD (Tw t).2 []=t∧(rV (Tw t).1).all (fun s=> !isK (Ph t) t s)=true∧JJ.all (fun s=> !isK (Ph t) t s)=true:=by decide
theorem zI:∀{f g:Nat},f<=g->∀s∈rV f,s∈rV g
 |f,0,h,s,hs=>by
  obtain rfl:f=0:=by omega
  exact hs
 |f,g+1,h,s,hs=>by
  by_cases he:f=g+1
  ·rw [<-he];exact hs
  ·rw [rV];exact List.mem_append_left _ (zI (by omega) s hs)
theorem U3 {typ:Ps bC}{unary:Ps bF}{t:Bt}(ht:t∈opsL){o:aD}(ho1:o.kind=Ph t)(ho2:o.text=t){m0 m1 r:List aD}{a0 a1:bF}
  (h0:unary (m0++(o :: (m1++r)))=.good a0 (o :: (m1++r))) (h1:unary (m1++r)=.good a1 r) (hr:dF (rV 6) r):
  jl typ unary 6 (m0++(o :: (m1++r)))=.good (aL 14 t 0 o [] [] [a0,a1]) r:=by
 obtain⟨g5,g3,gf,gd,gu,_⟩:=JK t ht;generalize hg:(Tw t).1=g at*
 generalize hi:(Tw t).2=i at*
 have hrg:dF (rV g) r:=hr.sub (zI (by omega));have k0:=pV (typ:=typ) h0 (f:=g) (aS ho1 ho2 gu);have k1:=pV (typ:=typ) h1 (f:=g) hrg;refine yJ (g:=g+1) ?_ 6 (by omega) hr;unfold jl;unfold SN at gf gd;have hra:dF (if g=3 then qC else wK.getD (5 - g) []) r:=hr.sub fun s hs=>zI (show g+1<=6 by omega) s (by rw [rV];exact List.mem_append_right _ hs);by_cases h3:g=3
 ·rw [if_pos h3]at gf gd ⊢;have hi3:=g3 h3;unfold Ei;rw [aj k0,aj (show fH (o :: (m1++r))=.good o (o :: (m1++r))from rfl),aj (fO ho1 ho2 gf _)];simp only;rw [if_neg (by omega),if_neg (by omega),aj k1,gd];rfl
 ·rw [if_neg h3]at gf gd hra ⊢;unfold zY;rw [aj k0,List.length_cons];unfold mq;rw [aj (show fH (o :: (m1++r))=.good o (o :: (m1++r))from rfl),aj (fO ho1 ho2 gf _)];simp only;rw [aj k1,gd];exact left_stop hra _ _
def qI (l:List KT):Prop:=∃k s r,l=(k,s) :: r∧DR.all (fun s'=> !isK k s s')=true∧(k=1->r=[]∨∃s2 r2,r=(5,s2) :: r2∧s2≠[58])
theorem qI.more {l r:List KT}(h:qI l){s:Bt}(hs:s≠[58]):qI (l++(5,s) :: r):=by
 obtain⟨k,s0,r0,rfl,h1,h2⟩:=h;refine⟨k,s0,r0++(5,s) :: r,rfl,h1,fun h=>?_⟩;rcases h2 h with rfl |⟨s2,r2,rfl,h3⟩
 ·exact .inr ⟨s,r,rfl,hs⟩
 ·exact .inr ⟨s2,_,rfl,h3⟩
theorem qI.one {k:Int}{s:Bt}{r:List KT}(h1:DR.all (fun s'=> !isK k s s')=true)(h2:k≠1):qI ((k,s) :: r):=⟨k,s,r,rfl,h1,fun h=>absurd h h2⟩
theorem qI.next {l:List KT}{m r:List aD}(h:qI l)(hm:m.map jK=l):dF DR (m++r):=by
 obtain⟨k,s0,r0,rfl,h1,_⟩:=h;obtain⟨t,m',rfl,ht1,ht2,_⟩:=aI hm;exact aS ht1 ht2 h1
section
variable (li co:Int)
theorem LA (n:Int):aM (bO (.mk 0 [] n li co [] [] []))=[(3,Lib.itoa n)]:=by rw [bO];rfl
theorem LB (t:Bt):aM (bO (.mk 1 t 0 li co [] [] []))=[(4,t)]:=by rw [bO];rfl
theorem Gh (n:Int):aM (bO (.mk 2 [] n li co [] [] []))=[(2,if n=0 then [102,97,108,115,101]else [116,114,117,101])]:=by rw [bO];rfl
theorem Gi:aM (bO (.mk 3 [] 0 li co [] [] []))=[(2,[110,117,108,108])]:=by rw [bO];rfl
theorem Gj (t:Bt):aM (bO (.mk 4 t 0 li co [] [] []))=[(1,t)]:=by rw [bO];rfl
theorem Gl:aM (bO (.mk 18 [] 0 li co [] [] []))=[(2,[114,101,97,100]),(5,[40]),(5,[41])]:=by rw [bO];rfl
theorem Gm (t:Bt)(ts:List bC):aM (bO (.mk 19 t 0 li co ts [] []))=(1,t) :: (5,[91]) :: (aM (gB kD (ts.map dZ))++[(5,[93])]):=by
 rw [bO];simp [bQ,dN,Sg.flat,fM,bH,iA]
theorem zJ (t:Bt)(ts:List bC)(a b:bF):aM (bO (.mk 5 t 0 li co ts [] [a,b]))=(5,[40]) :: (2,[108,101,116]) :: (1,t) :: (aM (l9 ts 0)++(5,[61]) :: (aM (bO a)++(5,[59]) :: (aM (bO b)++[(5,[41])]))):=by
 rw [bO,gK];simp [bQ,dN,Sg.flat,fM,bH,iA,jg]
theorem Fu (t:Bt)(ts:List bC)(a:bF):aM (bO (.mk 6 t 0 li co ts [] [a]))=(5,[40]) :: (2,[102,110]) :: (5,[40]) :: (1,t) :: (aM (l9 ts 0)++(5,[41]) :: (aM (l9 ts 1)++(5,[61,62]) :: (aM (bO a)++[(5,[41])]))):=by
 rw [bO,gK];simp [bQ,dN,Sg.flat,fM,bH,iA,jg]
theorem Gn (a b:bF):aM (bO (.mk 7 [] 0 li co [] [] [a,b]))=aM (bO a)++(5,[40]) :: (aM (bO b)++[(5,[41])]):=by
 rw [bO,gK];simp [bQ,dN,Sg.flat,fM,bH,iA,jg]
theorem LC (ns:List Bt)(ks:List bF):aM (bO (.mk 8 [] 0 li co [] ns ks))=(5,[123]) :: (aM (gB kD (List.zipWith ig ns (ks.map bO)))++[(5,[125])]):=by
 rw [bO,gK];simp [bQ,dN,Sg.flat,fM,bH,iA,jg]
theorem LD (t:Bt)(a:bF):aM (bO (.mk 9 t 0 li co [] [] [a]))=aM (bO a)++[(5,[46]),(1,t)]:=by
 rw [bO,gK];simp [bQ,dN,Sg.flat,fM,bH,iA,jg]
theorem Gp (t:Bt)(a b:bF):aM (bO (.mk 10 t 0 li co [] [] [a,b]))=(5,[123]) :: (aM (bO a)++(2,[119,105,116,104]) :: (1,t) :: (5,[58]) :: (aM (bO b)++[(5,[125])])):=by
 rw [bO,gK];simp [bQ,dN,Sg.flat,fM,bH,iA,jg]
theorem SQ (a b c:bF):aM (bO (.mk 11 [] 0 li co [] [] [a,b,c]))=(5,[40]) :: (2,[105,102]) :: (aM (bO a)++(2,[116,104,101,110]) :: (aM (bO b)++(2,[101,108,115,101]) :: (aM (bO c)++[(5,[41])]))):=by
 rw [bO,gK];simp [bQ,dN,Sg.flat,fM,bH,iA,jg]
theorem SS (n:Int)(a:bF):aM (bO (.mk 12 [] n li co [] [] [a]))=(5,[40]) :: (aM (bO a)++[(2,[105,115]),(2,mg.getD n.toNat []),(5,[41])]):=by
 rw [bO,gK];simp [bQ,dN,Sg.flat,fM,bH,iA,jg]
theorem SV (x:bC)(a:bF):aM (bO (.mk 13 [] 0 li co [x] [] [a]))=(5,[40]) :: (aM (bO a)++(2,[97,115]) :: (aM (dZ x)++[(5,[41])])):=by
 rw [bO,gK];simp [bQ,dN,Sg.flat,fM,bH,iA,jg]
theorem SX (t:Bt)(a b:bF):aM (bO (.mk 14 t 0 li co [] [] [a,b]))=(5,[40]) :: (aM (bO a)++(Ph t,t) :: (aM (bO b)++[(5,[41])])):=by
 rw [bO,gK];simp [bQ,dN,Sg.flat,fM,bH,iA,jg]
theorem LG (a:bF):aM (bO (.mk 15 [] 0 li co [] [] [a]))=(5,[40]) :: (2,[110,111,116]) :: (aM (bO a)++[(5,[41])]):=by
 rw [bO,gK];simp [bQ,dN,Sg.flat,fM,bH,iA,jg]
theorem LH (a:bF):aM (bO (.mk 16 [] 0 li co [] [] [a]))=(5,[40]) :: (5,[45]) :: (aM (bO a)++[(5,[41])]):=by
 rw [bO,gK];simp [bQ,dN,Sg.flat,fM,bH,iA,jg]
theorem DT (a:bF):aM (bO (.mk 17 [] 0 li co [] [] [a]))=(2,[112,114,105,110,116]) :: (5,[40]) :: (aM (bO a)++[(5,[41])]):=by
 rw [bO,gK];simp [bQ,dN,Sg.flat,fM,bH,iA,jg]
end
theorem rW:∀(h:Nat) (x:bF),dx h x=true->qI (aM (bO x))
 |0,x,h=>by cases h
 |n+1,x,h=>by
  cases vK h with
  |int _ _=>rw [LA];exact .one rfl (by decide)
  |str _=>rw [LB];exact .one rfl (by decide)
  |bool h0=>rw [Gh];rcases h0 with rfl |rfl <;> exact .one (by decide) (by decide)
  |null=>rw [Gi];exact .one (by decide) (by decide)
  |name _=>rw [Gj];exact⟨1,_,[],rfl,rfl,fun _=>.inl rfl⟩
  |SH _ _ _=>rw [zJ];exact .one (by decide) (by decide)
  |SI _ _ _ _=>rw [zJ];exact .one (by decide) (by decide)
  |fn1 _ _ _=>rw [Fu];exact .one (by decide) (by decide)
  |fn2 _ _ _ _=>rw [Fu];exact .one (by decide) (by decide)
  |call ha _=>rw [Gn];exact(rW n _ ha).more (by decide)
  |wM _ _ _=>rw [LC];exact .one (by decide) (by decide)
  |sel _ ha=>rw [LD];exact(rW n _ ha).more (by decide)
  |with_ _ _ _=>rw [Gp];exact .one (by decide) (by decide)
  |if_ _ _ _=>rw [SQ];exact .one (by decide) (by decide)
  |is_ _ _ _=>rw [SS];exact .one (by decide) (by decide)
  |as_ _ _=>rw [SV];exact .one (by decide) (by decide)
  |op_ _ _ _=>rw [SX];exact .one (by decide) (by decide)
  |not_ _=>rw [LG];exact .one (by decide) (by decide)
  |SK _=>rw [LH];exact .one (by decide) (by decide)
  |DJ _=>rw [DT];exact .one (by decide) (by decide)
  |JD=>rw [Gl];exact .one (by decide) (by decide)
  |inst _ _=>rw [Gm];exact⟨1,_,_,rfl,rfl,fun _=>.inr ⟨[91],_,rfl,by decide⟩⟩
def JL (N h:Nat):Prop:=∀x,dx h x=true->∀m r,m.map jK=aM (bO x)->dF [[91]] r->∃a f,fE a=fE x∧r.length<=f∧nW (aU N).typ (aU N).expr (m++r)=jB (aU N).expr f a r
theorem DU {l:List Bt}{x:bF}{h:Nat}(hx:dx h x=true){m r:List aD}(hm:m.map jK=aM (bO x))(hl:∀s∈l,s∈DR):dJ l (m++r)=.good none (m++r):=kF (((rW h x hx).next hm).sub hl)
theorem lQ {N h:Nat}(H:JL N h){x:bF}(hx:dx h x=true){m r:List aD}(hm:m.map jK=aM (bO x))(hr:dF JJ r):∃a,fE a=fE x∧(aU (N+1)).unary (m++r)=.good a r:=by
 obtain⟨a,f,ha,hf,hp⟩:=H x hx m r hm (hr.sub (by simp [JJ]));refine⟨a,ha,?_⟩;show nR _ _ _ _= _;unfold nR;rw [aj (show fH (m++r)=.good (aW (m++r)) (m++r)from rfl),aj (DU hx hm (by simp [DR]))];show nW _ _ _= _;rw [hp];exact OZ (hr.sub (by simp [JJ])) f a
theorem fZ {N h:Nat}(H:JL N h){x:bF}(hx:dx h x=true){m r:List aD}(hm:m.map jK=aM (bO x))(hr:dF M0 r):∃a,fE a=fE x∧(aU (N+2)).expr (m++r)=.good a r:=by
 obtain⟨a,ha,hp⟩:=lQ H hx hm (hr.sub (fun s hs=>List.mem_append_left _ hs));refine⟨a,ha,?_⟩;show rA _ _ _ _= _;unfold rA;rw [aj (show fH (m++r)=.good (aW (m++r)) (m++r)from rfl),aj (DU hx hm (by simp [DR]))];exact pV (f:=6) hp (hr.sub (fun s hs=>List.mem_append_right _ hs))
theorem jk {N:Nat}{o c:aD}{ts r:List aD}{a:bF}(ho:o.kind=5)(ho2:o.text=[40])(hc:c.kind=5)(hc2:c.text=[41])(h:(aU N).expr (ts++(c :: r))=.good a (c :: r)):∃f,r.length<=f∧nW (aU N).typ (aU N).expr (o :: (ts++(c :: r)))=jB (aU N).expr f a r:=by
 refine⟨r.length,Nat.le_refl _,?_⟩;unfold nW;have ha:iJ (aU N).typ (aU N).expr (o :: (ts++(c :: r)))=.good a r:=by
  unfold iJ;rw [aj (show fH (o :: (ts++(c :: r)))=.good o (o :: (ts++(c :: r)))from rfl),if_neg (by rw [ho];decide),if_neg (by rw [ho];decide),aj (fO ho ho2 (i:=5) (by decide) _)];show au (aU N).expr _ _= _;rw [aj h,aj (iG (.inr hc) hc2 _)];rfl
 rw [aj ha]
theorem jV {N:Nat}{ts r:List aD}{a:bF}(h:iJ (aU N).typ (aU N).expr ts=.good a r):∃f,r.length<=f∧nW (aU N).typ (aU N).expr ts=jB (aU N).expr f a r:=by
 refine⟨r.length,Nat.le_refl _,?_⟩;unfold nW;rw [aj h]
theorem lC {expr:Ps bF}{s:Bt}(hs:s≠[]){l:List bF}{t:aD}{ts r:List aD}{a:bF}(h1:t.kind=2∨t.kind=5)(h2:t.text=s)(h:expr ts=.good a r)(rest:List Bt):bK expr (s :: rest) l (t :: ts)=bK expr rest (l++[a]) r:=by
 rw [bK,if_neg hs,aj (iG h1 h2 _),aj h]
theorem zK {expr:Ps bF}{l:List bF}{ts r:List aD}{a:bF}(h:expr ts=.good a r)(rest:List Bt):bK expr ([] :: rest) l ts=bK expr rest (l++[a]) r:=by
 rw [bK,if_pos rfl];show au _ _ _= _;rw [aj (show aJ () ts=.good () ts from rfl),aj h]
theorem Fv {typ:Ps bC}{l n:List bC}{r:List aD}(h:lV (aW r) [58]=false):jd typ l n r=.good (l++n) r:=by
 unfold jd;rw [aj (sV h)];rfl
theorem vM {N:Nat}(hN:16<=N){x:bC}(hx:aK 16 x=true){l n:List bC}{m r:List aD}(hm:m.map jK=(5,[58]) :: aM (dZ x))(hr:dF yH r):jd (aU N).typ l n (m++r)=.good (l++[x]) r:=by
 obtain⟨o,m',rfl,ho1,ho2,hm⟩:=aI hm;unfold jd;rw [List.cons_append,aj (wZ (.inr ho1) ho2 _)];simp only [if_true];rw [aj (yI 16 x hx N hN m' r hm hr)];rfl
theorem LJ (i:Nat):aM (l9 [] i)=[]:=by cases i <;> rfl
theorem zL (x:bC)(l:List bC):aM (l9 (x :: l) 0)=(5,[58]) :: aM (dZ x):=by
 show aM (dN [.p (.tok 5 [58]),.p .sp,.u (dZ x)])= _;simp [dN,Sg.flat,fM,jg,bH,iA]
theorem LK (x y:bC):aM (l9 [x,y] 1)=(5,[58]) :: aM (dZ y):=by
 show aM (dN [.p (.tok 5 [58]),.p .sp,.u (dZ y)])= _;simp [dN,Sg.flat,fM,jg,bH,iA]
theorem LM (x:bC):aM (l9 [x] 1)=[]:=rfl
theorem AL (N:Nat):∀(ns:List Bt) (ks:List bF),(List.zipWith ig ns (ks.map bO)).map aM=(ns.zip ks).map fun x=>((1,x.1) :: (5,[58]) :: aM (bO x.2):List KT)
 | [],ks=>by simp
 |n :: ns,[]=>by simp
 |n :: ns,k :: ks=>by
  rw [List.map_cons,List.zipWith_cons_cons,List.map_cons,AL N ns ks];rfl
theorem LP {n:Int}(h0:0<=n)(h1:n<=9223372036854775807):(fP (Lib.itoa n)).1=n:=by
 obtain⟨u,rfl⟩:=Int.eq_ofNat_of_zero_le h0;have hp:yO (Lib.decDigits u)=some u:=rX.2 ⟨by omega,rfl⟩;have hi:Lib.itoa (u:Int)=Lib.decDigits u:=by simp [Lib.itoa]
 unfold fP;rw [hi,hp]
theorem JM {t:aD}{k:Int}(hk:k≠0)(h1:t.kind=k){s:Bt}(h2:t.text=s)(r:List aD):fK k (t :: r)=.good s r:=by
 unfold fK;rw [if_pos (show(aW (t :: r)).kind=k from h1),if_neg hk];show Pr.good t.text r= _;rw [h2]
theorem iw {c:aD}(h1:c.kind=5)(h2:c.text=[41])(r:List aD):dF M0 (c :: r):=aS h1 h2 (by decide)
theorem AO:∀{h:Nat}{x:bF},dx h x=true->∀{t:aD}{m:List aD},(t :: m).map jK=aM (bO x)->lV t [125]=false
 |0,x,h,t,m,_=>by cases h
 |n+1,x,h,t,m,hm=>by
  have done:∀(k:Int) (s:Bt) (l:List KT),(t :: m).map jK=(k,s) :: l->isK k s [125]=false->lV t [125]=false:=by
   intro k s l h1 h2;obtain⟨t',m',he,t1,t2,_⟩:=aI h1;injection he with he _;subst he;rw [oD t1 t2];exact h2
  have more:∀(y:bF) (l:List KT),dx n y=true->(t :: m).map jK=aM (bO y)++l->lV t [125]=false:=by
   intro y l hy h1;obtain⟨m1,m2,he,h3,_⟩:=bG h1;cases m1 with
   |nil=>
    obtain⟨k,s,r,hk,_⟩:=rW n y hy;rw [hk]at h3;cases h3
   |cons t' m1=>
    injection he with he _;subst he;exact AO hy h3
  cases vK h with
  |int _ _=>rw [LA]at hm;exact done _ _ _ hm rfl
  |str _=>rw [LB]at hm;exact done _ _ _ hm rfl
  |bool h0=>rw [Gh]at hm;rcases h0 with rfl |rfl <;> exact done _ _ _ hm (by decide)
  |null=>rw [Gi]at hm;exact done _ _ _ hm (by decide)
  |name _=>rw [Gj]at hm;exact done _ _ _ hm rfl
  |SH _ _ _=>rw [zJ]at hm;exact done _ _ _ hm (by decide)
  |SI _ _ _ _=>rw [zJ]at hm;exact done _ _ _ hm (by decide)
  |fn1 _ _ _=>rw [Fu]at hm;exact done _ _ _ hm (by decide)
  |fn2 _ _ _ _=>rw [Fu]at hm;exact done _ _ _ hm (by decide)
  |call ha _=>rw [Gn]at hm;exact more _ _ ha hm
  |wM _ _ _=>rw [LC]at hm;exact done _ _ _ hm (by decide)
  |sel _ ha=>rw [LD]at hm;exact more _ _ ha hm
  |with_ _ _ _=>rw [Gp]at hm;exact done _ _ _ hm (by decide)
  |if_ _ _ _=>rw [SQ]at hm;exact done _ _ _ hm (by decide)
  |is_ _ _ _=>rw [SS]at hm;exact done _ _ _ hm (by decide)
  |as_ _ _=>rw [SV]at hm;exact done _ _ _ hm (by decide)
  |op_ _ _ _=>rw [SX]at hm;exact done _ _ _ hm (by decide)
  |not_ _=>rw [LG]at hm;exact done _ _ _ hm (by decide)
  |SK _=>rw [LH]at hm;exact done _ _ _ hm (by decide)
  |DJ _=>rw [DT]at hm;exact done _ _ _ hm (by decide)
  |JD=>rw [Gl]at hm;exact done _ _ _ hm (by decide)
  |inst _ _=>rw [Gm]at hm;exact done _ _ _ hm rfl
end Go.Proofs.YtfgjkmipfikooaaGreatDoor
