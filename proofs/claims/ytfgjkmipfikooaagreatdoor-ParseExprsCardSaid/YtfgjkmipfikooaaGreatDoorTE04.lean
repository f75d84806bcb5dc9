/- GF -/
import Derived.Test.YtfgjkmipfikooaaGreatDoorTE03
import Derived.DeepKeys4
set_option linter.unusedSimpArgs false
set_option linter.unusedVariables false
set_option maxRecDepth 100000
set_option maxHeartbeats 2000000
namespace Go.Proofs.YtfgjkmipfikooaaGreatDoor
open Go.RowKit
theorem dI {fn:Func}{t u v x:Tmp}(h:fn.results= #[.tmp t,.tmp u,.tmp v,.tmp x])(tmps:Array Value)(P:Program)(w:World):
  (results fn tmps).run P w=.ok (.tuple #[tmps.getD t undef,tmps.getD u undef,tmps.getD v undef,tmps.getD x undef]) w:=by
 simp [results,h]
def DT:Int ⊕ (Int ×Bt ×Nat)->Value
 |.inl e=>.tuple #[.int .i64 0,sv [],.int .i64 0,.int .i64 e]
 |.inr (kd,t,n)=>.tuple #[.int .i64 kd,sv t,.int .i64 n,.int .i64 0]
def JQ (s:Bt):Int ⊕ (Int ×Bt ×Nat):=
 if 32<dG bf s then .inl 2 else if s.take (dG bf s)∈dY then .inr (2,s.take (dG bf s),dG bf s)else .inr (1,s.take (dG bf s),dG bf s)
def Ej (s:Bt):Int ⊕ (Int ×Bt ×Nat):=if(dx (s.take (dG bK s))).2 then .inr (3,s.take (dG bK s),dG bK s)else .inl 3
theorem zS (s:Bt)(n:Nat):Value.string (ByteArray.extract ⟨s.toArray⟩ 0 n)=sv (s.take n):=by
 rw [fP,List.drop_zero]
theorem Ud (w:World)(bl bp:Nat)(s:Bt)(p:Nat ×Nat)(dO:Value)(hL:eB w bl bp s p dO)(hs:s.length<=100000)(hX:mK w):
  Calls Tryz.prog 190 #[.pointer (some ⟨bl,0,none⟩)] w fun e w'=>e=.returned (DT (JQ s))∧Below w.heap.size w w':=by
 have c0:=hL.c0;have hsz:=bZ s;have hle:=mq bf s;have he:=zS s (dG bf s);have hR:JQ s=if 32<dG bf s then .inl 2 else if s.take (dG bf s)∈dY then .inr (2,s.take (dG bf s),dG bf s)else .inr (1,s.take (dG bf s),dG bf s):=rfl
 have hrow:=I5 s w (by omega);have eu:=aZ hrow;clear hrow;generalize dG bf s=n at*
 by_cases h32:32<n
 ·rw [if_pos h32]at hR;rw [hR];clear hR;go_enter Tryz.func190,Tryz.ntmps190;go_wp2_with fail;refine eu.o.mono ?_;rintro e w1 ⟨rfl,rfl⟩;go_wp2_with fail;refine bodyPost_ret (dI rfl _ _ _) rfl ?_;exact⟨rfl,Below.refl _ _⟩
 ·rw [if_neg h32]at hR;by_cases hw:s.take n∈dY
  ·rw [if_pos hw]at hR;rw [hR];clear hR;go_enter Tryz.func190,Tryz.ntmps190;go_wp2_with fail;refine eu.o.mono ?_;rintro e w1 ⟨rfl,rfl⟩;go_wp2_with fail;refine(BK _ hX.t).mono ?_;rintro e w2 ⟨v2,rfl,agx,hb2⟩;go_wp2_with fail;refine(o9 v2 dY (s.take n) _ agx).mono ?_;rintro e w3 ⟨rfl,rfl⟩;rw [decide_eq_true hw];go_wp2_with fail;refine bodyPost_ret (dI rfl _ _ _) rfl ?_;exact⟨rfl,hb2⟩
  ·rw [if_neg hw]at hR;rw [hR];clear hR;go_enter Tryz.func190,Tryz.ntmps190;go_wp2_with fail;refine eu.o.mono ?_;rintro e w1 ⟨rfl,rfl⟩;go_wp2_with fail;refine(BK _ hX.t).mono ?_;rintro e w2 ⟨v2,rfl,agx,hb2⟩;go_wp2_with fail;refine(o9 v2 dY (s.take n) _ agx).mono ?_;rintro e w3 ⟨rfl,rfl⟩;rw [decide_eq_false hw];go_wp2_with fail;refine bodyPost_ret (dI rfl _ _ _) rfl ?_;exact⟨rfl,hb2⟩
theorem O7 (w:World)(bl bp:Nat)(s:Bt)(p:Nat ×Nat)(dO:Value)(hL:eB w bl bp s p dO)(hs:s.length<=100000)(hX:mK w):
  Calls Tryz.prog 191 #[.pointer (some ⟨bl,0,none⟩)] w fun e w'=>e=.returned (DT (Ej s))∧Below w.heap.size w w':=by
 have c0:=hL.c0;have hsz:=bZ s;have hle:=mq bK s;have he:=zS s (dG bK s);have hR:Ej s=if(dx (s.take (dG bK s))).2 then .inr (3,s.take (dG bK s),dG bK s)else .inl 3:=rfl
 have eu:=aZ (Ua s w (by omega));generalize dG bK s=n at*
 have hpz:(ByteArray.mk (s.take n).toArray).size<=281474976710656:=by rw [bZ,List.length_take];omega
 have HP:=aZ (IY ⟨(s.take n).toArray⟩ w hpz hX.1);clear hpz;have hpv:dx (ByteArray.mk (s.take n).toArray).data.toList=dx (s.take n):=rfl;rw [hpv]at HP;clear hpv;generalize dx (s.take n)=r at*
 obtain⟨i,q⟩:=r;simp only at hR HP;rw [hR];clear hR;go_enter Tryz.func191,Tryz.ntmps191;go_wp2_with fail;refine eu.o.mono ?_;rintro e w1 ⟨rfl,rfl⟩;go_wp2_with fail;refine HP.o.mono ?_;rintro e w2 ⟨rfl,hb2⟩;have c02:=(hb2.cell (p:=⟨bl,0,none⟩) hL.lt).trans c0;cases q
 ·go_wp2_with fail;refine bodyPost_ret (dI rfl _ _ _) rfl ?_;exact⟨rfl,hb2⟩
 ·go_wp2_with fail
  go_quiet (fail)
  go_wp2_with fail;refine bodyPost_ret (dI rfl _ _ _) rfl ?_;exact⟨rfl,hb2.trans (aP w2 _ |>.mono hb2.size)⟩
theorem zT:ng Tryz.prog 112 5 (.int .u8 0) 1 1:=⟨Tryz.underlying112,by kernel_rfl,rfl,by decide⟩
theorem abv {P:Program}(w:World)(src dst e:TypeId)(hs:P.underlying src=some .string)(hd:P.underlying dst=some (.slice e))(he:P.underlying e=some (.int .u8))(s:Bt):
  ∃C w5,(convert src dst (sv s)).run P w=.ok (.slice (some ⟨w.heap.size,0,none⟩) s.length C) w5∧Below w.heap.size w w5∧w.heap.size<w5.heap.size∧
   ∀j (hj:j<s.length),w5.cell? ⟨w.heap.size,j,none⟩=some (.int .u8 (s[j].toNat:Int)):=by
 have hsz:=bZ s;have hrun:=Lib.run_convert_string_bytes (P:=P) w src dst e ⟨s.toArray⟩ hs hd he;have hcell:=Lib.bytesWorld_cell w e ⟨s.toArray⟩;have hsize:=Lib.bytesWorld_size w e ⟨s.toArray⟩;have hold:=Lib.bytesWorld_at_old w e ⟨s.toArray⟩;rw [hsz]at hrun hcell;refine⟨_,_,hrun,⟨rfl,rfl,rfl,by rw [hsize];omega,fun k hk=>hold k hk⟩,by rw [hsize];omega,fun j hj=>?_⟩;rw [hcell j hj];have e:(ByteArray.mk s.toArray).data.toList=s:=rfl;rw [e];simp [List.getD_eq_getElem?_getD,List.getElem?_eq_getElem hj]
theorem byte_of {X:UInt8}{n:Nat}(hn:n<256)(h:X.toNat=n):X=UInt8.ofNat n:=by
 apply UInt8.toNat_inj.1;rw [UInt8.toNat_ofNat',h];omega
theorem Ue (X:UInt8):(X=92∧wo X=some 92∧Lib.indexByte [92,34,110,116] X=0)∨(X=34∧wo X=some 34∧Lib.indexByte [92,34,110,116] X=1)∨(X=110∧wo X=some 10∧Lib.indexByte [92,34,110,116] X=2)∨(X=116∧wo X=some 9∧Lib.indexByte [92,34,110,116] X=3)∨
  (wo X=none∧Lib.indexByte [92,34,110,116] X= -1):=by
 by_cases h1:X=92
 ·subst h1;exact .inl ⟨rfl,rfl,rfl⟩
 by_cases h2:X=34
 ·subst h2;exact .inr (.inl ⟨rfl,rfl,rfl⟩)
 by_cases h3:X=110
 ·subst h3;exact .inr (.inr (.inl ⟨rfl,rfl,rfl⟩))
 by_cases h4:X=116
 ·subst h4;exact .inr (.inr (.inr (.inl ⟨rfl,rfl,rfl⟩)))
 refine .inr (.inr (.inr (.inr ⟨?_,?_⟩)))
 ·unfold wo;rw [if_neg (fun h=>h1 (byte_of (by decide) h)),if_neg (fun h=>h2 (byte_of (by decide) h)),if_neg (fun h=>h3 (byte_of (by decide) h)),if_neg (fun h=>h4 (byte_of (by decide) h))]
 ·have e1:((92:UInt8)==X)=false:=by rw [beq_eq_false_iff_ne];exact fun h=>h1 h.symm
  have e2:((34:UInt8)==X)=false:=by rw [beq_eq_false_iff_ne];exact fun h=>h2 h.symm
  have e3:((110:UInt8)==X)=false:=by rw [beq_eq_false_iff_ne];exact fun h=>h3 h.symm
  have e4:((116:UInt8)==X)=false:=by rw [beq_eq_false_iff_ne];exact fun h=>h4 h.symm
  simp [Lib.indexByte,e1,e2,e3,e4]
theorem ofNat_toNat (X:UInt8):UInt8.ofNat ((X.toNat:Int)).toNat=X:=by simp
theorem nu (X:UInt8):((X.toNat:Int)).toNat.toUInt8=X:=by simp
def wE:Option (Bt ×Nat)->Value
 |none=>.tuple #[sv [],.int .i64 0]
 |some (t,n)=>.tuple #[sv t,.int .i64 n]
def Wu (w5:World)(ans:Option (Bt ×Nat))(r:Bt)(k:Nat)(v4 v5:Value)(wr:World):Prop:=
 ∃(back:Bool) (o:Bt),v5=.bool back∧nL wr w5.heap.size 5 v4 o∧dL back o k (r.drop k)=ans∧o.length<=k∧Below w5.heap.size w5 wr
theorem O8 (w:World)(s:Bt)(hs:s.length<=100000)(h1:1<=s.length):
  Calls Tryz.prog 213 #[sv s] w fun e w'=>e=.returned (wE (lI s))∧Below w.heap.size w w':=by
 have hsz:=bZ s;have he:Value.string (ByteArray.extract ⟨s.toArray⟩ 1 s.length)=sv (s.drop 1):=by rw [fP,List.take_length]
 have hq0:dL false [] 0 ((s.drop 1).drop 0)=lI s:=rfl;have hrl:(s.drop 1).length<=100000:=by rw [List.length_drop];omega
 generalize s.drop 1=r at*
 obtain⟨C,w5,Lg,hb5,agt,hcells⟩:=abv (P:=Tryz.prog) w 9 112 5 Tryz.underlying9 Tryz.underlying112 Tryz.underlying5 r;have HC:=aZ hcells;have vw:=aZ hq0;clear hcells hq0;generalize lI s=ans at*
 go_enter Tryz.func213,Tryz.ntmps213;go_wp2_with fail;go_loopw [4,5,13] (fun v4 v5 v13 wr=>∃k:Nat,v13=.int .i64 k∧k<=r.length∧Wu w5 ans r k v4 v5 wr) (fun _ _ v13 _=>r.length - (intOf v13).toNat)
 case atStart=>exact⟨0,rfl,by omega,false,[],rfl,nL.nil _ _ _,vw.o,Nat.le_refl _,Below.refl _ _⟩
 case round=>
  obtain⟨k,rfl,hk,back,o,rfl,hown,hq,hol,hbr⟩:=hrel;have hfin:Below w.heap.size w wr:=hb5.trans (hbr.mono hb5.size);by_cases hlt:k<r.length
  ·rw [List.drop_eq_getElem_cons hlt,dL]at hq;have d1:=(hbr.cell (p:=⟨w.heap.size,k,none⟩) agt).trans (HC.o k hlt);generalize r[k]=X at*
   clear Lg;by_cases h32:X.toNat<32
   ·rw [if_pos h32]at hq;subst hq;go_wp2_with fail
    go_ret2
    exact⟨rfl,hfin⟩
   rw [if_neg h32]at hq;have hXs:((X.toNat:Int)).toNat.toUInt8=X:=by simp
   cases back with
   |true=>
    rw [if_pos rfl]at hq;rcases Ue X with⟨hX,e1,e2⟩ |⟨hX,e1,e2⟩ |⟨hX,e1,e2⟩ |⟨hX,e1,e2⟩ |⟨e1,e2⟩
    all_goals have E2:=aZ e2
    all_goals clear e2 hXs
    all_goals try clear hX
    ·rw [e1]at hq;have hq2:dL false (o++[92]) (k+1) (r.drop (k+1))=ans:=hq;have i0:((ByteArray.mk #[92,34,10,9])[0]'(by decide)).toNat=92:=rfl;have HQ:=aZ hq2;clear hq hq2 e1
     go_wp2_with (first
      |(go_at_call 214;refine(Tryz.strings_IndexByte _ _ _).mono ?_;rintro e w1 ⟨rfl,rfl⟩;rw [nu,E2.o])
      |(at_builtin;refine nM rfl _ (.tmp 34) _ rfl w5.heap.size zT _ _ rfl rfl (hown.alloc _) (EH _ (92:Int) _ (by decide)) (by simp;omega) (jy hbr.size _) (fun v7 w7 aT jB gQ=>?_);have iU:=pY (hbr.alloc hbr.size _) (hown.alloc _) jB (Nat.le_refl _) (jy hbr.size _);clear jB gQ))
     go_roundw
     case rel=>exact⟨k+1,rfl,by omega,false,o++[92],rfl,aT,HQ.o,by simp;omega,iU⟩
     case measure=>simp [intOf];omega
    ·rw [e1]at hq;have hq2:dL false (o++[34]) (k+1) (r.drop (k+1))=ans:=hq;have i0:((ByteArray.mk #[92,34,10,9])[1]'(by decide)).toNat=34:=rfl;have HQ:=aZ hq2;clear hq hq2 e1
     go_wp2_with (first
      |(go_at_call 214;refine(Tryz.strings_IndexByte _ _ _).mono ?_;rintro e w1 ⟨rfl,rfl⟩;rw [nu,E2.o])
      |(at_builtin;refine nM rfl _ (.tmp 34) _ rfl w5.heap.size zT _ _ rfl rfl (hown.alloc _) (EH _ (34:Int) _ (by decide)) (by simp;omega) (jy hbr.size _) (fun v7 w7 aT jB gQ=>?_);have iU:=pY (hbr.alloc hbr.size _) (hown.alloc _) jB (Nat.le_refl _) (jy hbr.size _);clear jB gQ))
     go_roundw
     case rel=>exact⟨k+1,rfl,by omega,false,o++[34],rfl,aT,HQ.o,by simp;omega,iU⟩
     case measure=>simp [intOf];omega
    ·rw [e1]at hq;have hq2:dL false (o++[10]) (k+1) (r.drop (k+1))=ans:=hq;have i0:((ByteArray.mk #[92,34,10,9])[2]'(by decide)).toNat=10:=rfl;have HQ:=aZ hq2;clear hq hq2 e1
     go_wp2_with (first
      |(go_at_call 214;refine(Tryz.strings_IndexByte _ _ _).mono ?_;rintro e w1 ⟨rfl,rfl⟩;rw [nu,E2.o])
      |(at_builtin;refine nM rfl _ (.tmp 34) _ rfl w5.heap.size zT _ _ rfl rfl (hown.alloc _) (EH _ (10:Int) _ (by decide)) (by simp;omega) (jy hbr.size _) (fun v7 w7 aT jB gQ=>?_);have iU:=pY (hbr.alloc hbr.size _) (hown.alloc _) jB (Nat.le_refl _) (jy hbr.size _);clear jB gQ))
     go_roundw
     case rel=>exact⟨k+1,rfl,by omega,false,o++[10],rfl,aT,HQ.o,by simp;omega,iU⟩
     case measure=>simp [intOf];omega
    ·rw [e1]at hq;have hq2:dL false (o++[9]) (k+1) (r.drop (k+1))=ans:=hq;have i0:((ByteArray.mk #[92,34,10,9])[3]'(by decide)).toNat=9:=rfl;have HQ:=aZ hq2;clear hq hq2 e1
     go_wp2_with (first
      |(go_at_call 214;refine(Tryz.strings_IndexByte _ _ _).mono ?_;rintro e w1 ⟨rfl,rfl⟩;rw [nu,E2.o])
      |(at_builtin;refine nM rfl _ (.tmp 34) _ rfl w5.heap.size zT _ _ rfl rfl (hown.alloc _) (EH _ (9:Int) _ (by decide)) (by simp;omega) (jy hbr.size _) (fun v7 w7 aT jB gQ=>?_);have iU:=pY (hbr.alloc hbr.size _) (hown.alloc _) jB (Nat.le_refl _) (jy hbr.size _);clear jB gQ))
     go_roundw
     case rel=>exact⟨k+1,rfl,by omega,false,o++[9],rfl,aT,HQ.o,by simp;omega,iU⟩
     case measure=>simp [intOf];omega
    ·rw [e1]at hq;have hq2:none=ans:=hq;subst hq2;clear hq e1;go_wp2_with (go_at_call 214;refine(Tryz.strings_IndexByte _ _ _).mono ?_;rintro e w1 ⟨rfl,rfl⟩;rw [nu,E2.o])
     go_ret2
     exact⟨rfl,hfin⟩
   |false=>
    rw [if_neg (by simp)]at hq;clear hXs;by_cases h92:X.toNat=92
    ·rw [if_pos h92]at hq;have HQ:=aZ hq;clear hq;go_wp2_with fail
     go_roundw
     case rel=>exact⟨k+1,rfl,by omega,true,o,rfl,hown,HQ.o,by omega,hbr⟩
     case measure=>simp [intOf];omega
    rw [if_neg h92]at hq;by_cases CP:X.toNat=34
    ·rw [if_pos CP]at hq;subst hq;have hso:=H7 (P:=Tryz.prog) hown.bs 112 5 9 Tryz.underlying112 Tryz.underlying5 Tryz.underlying9;go_wp2_with fail
     go_ret2
     exact⟨by simp [wE],hfin⟩
    rw [if_neg CP]at hq;have HQ:=aZ hq;clear hq
    go_wp2_with (first
     |(at_builtin;refine nM rfl _ (.tmp 20) _ rfl w5.heap.size zT _ _ rfl rfl (hown.alloc _) (EH _ (X.toNat:Int) _ (by have:=X.toNat_lt;omega)) (by simp;omega) (jy hbr.size _) (fun v7 w7 aT jB gQ=>?_);have iU:=pY (hbr.alloc hbr.size _) (hown.alloc _) jB (Nat.le_refl _) (jy hbr.size _);clear jB gQ))
    rw [ofNat_toNat]at aT
    go_roundw
    case rel=>exact⟨k+1,rfl,by omega,false,o++[X],rfl,aT,HQ.o,by simp;omega,iU⟩
    case measure=>simp [intOf];omega
  ·obtain rfl:k=r.length:=by omega
   rw [List.drop_length]at hq;have hq2:none=ans:=by rw [<-hq];cases back <;> rfl
   subst hq2;clear hq Lg;go_wp2_with fail
   go_ret2
   exact⟨rfl,hfin⟩
open Go.Maps (has IsMap Keyed)
def Ib (s:Bt):Int ⊕ (Int ×Bt ×Nat):=
 match lI s with
 |none=>.inl 4
 |some (t,n)=>if 256<t.length then .inl 2 else .inr (4,t,n)
theorem abw (w:World)(bl bp:Nat)(s:Bt)(p:Nat ×Nat)(dO:Value)(hL:eB w bl bp s p dO)(hs:s.length<=100000)(h1:1<=s.length):
  Calls Tryz.prog 192 #[.pointer (some ⟨bl,0,none⟩)] w fun e w'=>e=.returned (DT (Ib s))∧Below w.heap.size w w':=by
 have c0:=hL.c0;have HP:=aZ (O8 w s hs h1);cases hq:lI s with
 |none=>
  have hR:Ib s=.inl 4:=by unfold Ib;rw [hq]
  rw [hR];rw [hq]at HP;clear hR hq;go_enter Tryz.func192,Tryz.ntmps192;go_wp2_with fail;refine HP.o.mono ?_;rintro e w1 ⟨rfl,hb1⟩;unfold wE;go_wp2_with fail;refine bodyPost_ret (dI rfl _ _ _) rfl ?_;exact⟨rfl,hb1⟩
 |some r=>
  obtain⟨t,n⟩:=r;have hle:=sK hq;have hn:¬(n:Int)=0:=by omega
  have hsz:=bZ t;have hR:Ib s=if 256<t.length then .inl 2 else .inr (4,t,n):=by unfold Ib;rw [hq]
  rw [hq]at HP;clear hq hle;by_cases Wv:256<t.length
  ·rw [if_pos Wv]at hR;rw [hR];clear hR;go_enter Tryz.func192,Tryz.ntmps192;go_wp2_with fail;refine HP.o.mono ?_;rintro e w1 ⟨rfl,hb1⟩;unfold wE;go_wp2_with fail;refine bodyPost_ret (dI rfl _ _ _) rfl ?_;exact⟨rfl,hb1⟩
  ·rw [if_neg Wv]at hR;rw [hR];clear hR;go_enter Tryz.func192,Tryz.ntmps192;go_wp2_with fail;refine HP.o.mono ?_;rintro e w1 ⟨rfl,hb1⟩;unfold wE;go_wp2_with fail;refine bodyPost_ret (dI rfl _ _ _) rfl ?_;exact⟨rfl,hb1⟩
def wF (a b:UInt8):Value:= .agg #[.int .u8 (a.toNat:Int),.int .u8 (b.toNat:Int)]
theorem zU:Keyed Tryz.prog 224:=Keyed.of_law (deep_law_laid (m:=2) (by kernel_rfl) (by omega) (of_decide_eq_true (by kernel_rfl)) (by kernel_rfl) (by kernel_rfl))
theorem Uf (w:World):(zeroValue 4).run Tryz.prog w=.ok (.bool false) w:=by kernel_rfl
theorem wf_u8 (a:UInt8):(Lit.int .u8 (a.toNat:Int)).wf=true:=by
 have e1:IntKind.u8.min=0:=by decide
 have e2:IntKind.u8.max=255:=by decide
 have:=a.toNat_lt;simp [Lit.wf,e1,e2];omega
theorem Ra (d:Nat)(a:UInt8):Tryz.prog.keyLits (d+1) 5 [.int .u8 (a.toNat:Int)]=some [.int .u8 (a.toNat:Int)]:=by
 simp [Program.keyLits,Tryz.underlying5,wf_u8]
theorem Li (a b:UInt8):∃kl,keyOf Tryz.prog 224 (wF a b)=some kl:=by
 obtain⟨d,hd⟩:∃d,Tryz.prog.types.size=d+1:=⟨Tryz.prog.types.size - 1,by kernel_rfl⟩
 have h2:Tryz.prog.cellsOf 224=2:=by kernel_rfl
 have h3:Tryz.prog.cellsOf 5=1:=by kernel_rfl
 have hk:Tryz.prog.keyType 224=true:=by kernel_rfl
 have hf:(wF a b).formed Tryz.prog 224=true:=by simp [Value.formed,Tryz.underlying224,h2,wF]
 refine⟨.string (keyBytes [.int .u8 (a.toNat:Int),.int .u8 (b.toNat:Int)]),?_⟩;have e:Tryz.prog.keyLits (d+1+1) 224 [.int .u8 (a.toNat:Int),.int .u8 (b.toNat:Int)]=some [.int .u8 (a.toNat:Int),.int .u8 (b.toNat:Int)]:=by
  rw [Program.keyLits.eq_def];simp only [Tryz.underlying224];simp [h2,h3,List.range_succ,Ra d a,Ra d b]
 simp only [keyOf,Tryz.underlying224,hk,hf,Bool.and_self,if_true,hd];have e2:(wF a b).cells.toList=[.int .u8 (a.toNat:Int),.int .u8 (b.toNat:Int)]:=rfl;rw [e2,e];rfl
def El (D:DataW Unit)(l:List Bt):Prop:=∀(a b:UInt8) (kl:Lit),keyOf Tryz.prog 224 (wF a b)=some kl->∀z,D.atKey kl z=if [a,b]∈l then .lit (.bool true)else z
def lu (w:World)(bp:Nat)(l:List Bt):Prop:=∃(n:Nat) (D:DataW Unit),n<=l.length∧w.ownsMap Tryz.prog 224 (plainElem Tryz.prog 4) bp n D∧El D l
theorem lu.turn {w w':World}{bp:Nat}{l:List Bt}{G:Nat->Prop}(h:lu w bp l)(t:Turn G w w')(hd:¬G bp):lu w' bp l:=by
 obtain⟨n,D,h0,h1,h2⟩:=h;exact⟨n,D,h0,Wi h1 t hd,h2⟩
theorem Lj {v:Value}{x:Bool}{ps:List MemPlace}(h:plainElem (H:=Unit) Tryz.prog 4 v=some (.lit (.bool x),ps)):v=.bool x:=by
 unfold plainElem at h;rw [Tryz.underlying4]at h;cases v <;> simp at h;rw [h.1]
theorem O9 {w:World}{bp:Nat}{l:List Bt}(h:lu w bp l)(a b:UInt8):(Instr.lookup 196 (.map (some bp)) (wF a b) false).run Tryz.prog w=.ok (.bool (decide ([a,b]∈l))) w:=by
 obtain⟨n,D,_,hown,hD⟩:=h;obtain⟨kl,hk⟩:=Li a b;obtain⟨v,ps,hrun,hR⟩:=hown.lookup zU Tryz.underlying196 (Uf w) (plainElem_bool Tryz.underlying4 false) hk;rw [hrun];rw [hD a b kl hk]at hR;by_cases hin:[a,b]∈l
 ·rw [if_pos hin]at hR;rw [Lj hR,decide_eq_true hin]
 ·rw [if_neg hin]at hR;rw [Lj hR,decide_eq_false hin]
def CZ (s:Bt):Int ⊕ (Int ×Bt ×Nat):=if s.take 2∈cu then .inr (5,s.take 2,2)else if s.headD 0∈dZ then .inr (5,s.take 1,1)else .inl 5
theorem I6 {l:Bt}{c:UInt8}:0<=Lib.indexByte l c↔c∈l:=by
 induction l with
 |nil=>simp [Lib.indexByte]
 |cons b l ih=>
  rw [Lib.indexByte];by_cases h:b=c
  ·subst h;simp
  ·have hb:(b==c)=false:=by rw [beq_eq_false_iff_ne];exact h
   rw [hb];simp only [Bool.false_eq_true,if_false];have hge:=Lib.indexByte_ge l c;by_cases h1:Lib.indexByte l c= -1
   ·have h2:(Lib.indexByte l c== -1)=true:=by rw [beq_iff_eq];exact h1
    rw [if_pos h2];constructor
    ·intro hh;omega
    ·intro hh;rcases List.mem_cons.1 hh with hh |hh
     ·exact absurd hh.symm h
     ·have:=ih.2 hh;omega
   ·have h2:¬(Lib.indexByte l c== -1)=true:=by rw [beq_iff_eq];exact h1
    rw [if_neg h2];constructor
    ·intro hh;exact List.mem_cons_of_mem _ (ih.1 (by omega))
    ·intro hh;rcases List.mem_cons.1 hh with hh |hh
     ·exact absurd hh.symm h
     ·have:=ih.2 hh;omega
theorem zV:(⟨dZ.toArray⟩:ByteArray).data.toList=dZ:=rfl
theorem Ww (w:World)(bl bp:Nat)(c:UInt8)(r:Bt)(p:Nat ×Nat)(dO:Value)(hL:eB w bl bp (c :: r) p dO)(hs:(c :: r).length<=100000)(hP:lu w bp cu):
  Calls Tryz.prog 193 #[.pointer (some ⟨bl,0,none⟩)] w fun e w'=>e=.returned (DT (CZ (c :: r)))∧Below w.heap.size w w':=by
 have c0:=hL.c0;have c3:=hL.c3;have hsz:=bZ (c :: r);cases r with
 |nil=>
  have hnp:(c :: ([]:Bt)).take 2 ∉ cu:=fun h=>by
   have hall:∀m∈cu,m.length=2:=by decide
   have:=hall _ h;simp at this
  have hix:=dW (c :: []) 0 (by simp);have he1:Value.string (ByteArray.extract ⟨(c :: ([]:Bt)).toArray⟩ 0 1)=sv [c]:=zS _ 1;have hR:CZ (c :: [])=if c∈dZ then .inr (5,[c],1)else .inl 5:=by unfold CZ;rw [if_neg hnp];rfl
  obtain⟨ans,uK⟩:∃ans,ans=CZ (c :: []):=⟨_,rfl⟩
  rw [<-uK];rw [<-uK]at hR;clear hnp uK;go_enter Tryz.func193,Tryz.ntmps193;go_wp2_with fail
  go_quiet (fail)
  go_wp2_with fail;refine(Tryz.strings_IndexByte ⟨dZ.toArray⟩ _ _).mono ?_;rintro e w1 ⟨rfl,rfl⟩;rw [nu,zV];have hi:=I6 (l:=dZ) (c:=c);generalize Lib.indexByte dZ c=ix at*
  by_cases hc:c∈dZ
  ·have abx:¬(ix<0):=by have:=hi.2 hc;omega
   rw [if_pos hc]at hR;subst hR;clear hi;go_wp2_with fail
   go_quiet (fail)
   go_wp2_with fail;refine bodyPost_ret (dI rfl _ _ _) rfl ?_;exact⟨rfl,((aP w _).trans (aP _ _ |>.mono (Nat.le_refl _)))⟩
  ·have abx:ix<0:=by
    rcases Int.lt_or_le ix 0 with h |h
    ·exact h
    ·exact absurd (hi.1 h) hc
   rw [if_neg hc]at hR;subst hR;clear hi;go_wp2_with fail;refine bodyPost_ret (dI rfl _ _ _) rfl ?_;exact⟨rfl,aP w _⟩
 |cons d r=>
  have hl1:(1:Int)<(r.length:Int)+1+1:=by omega
  have hl0:(0:Int)<(r.length:Int)+1+1:=by omega
  have hix:=dW (c :: d :: r) 0 (by simp);have ajA:=dW (c :: d :: r) 1 (by simp);have he1:Value.string (ByteArray.extract ⟨(c :: d :: r).toArray⟩ 0 1)=sv [c]:=zS _ 1;have he2:Value.string (ByteArray.extract ⟨(c :: d :: r).toArray⟩ 0 2)=sv [c,d]:=zS _ 2
  have adt:∀n,(Instr.lookup 196 (.map (some bp)) (.agg #[.int .u8 (c.toNat:Int),.int .u8 (d.toNat:Int)]) false).run Tryz.prog (w.drewN n)=.ok (.bool (decide ([c,d]∈cu))) (w.drewN n):=
   fun n=>O9 (hP.turn (Turn.drewN (fun _=>False) w n) id) c d
  have hR0:CZ (c :: d :: r)=if [c,d]∈cu then .inr (5,[c,d],2)else if c∈dZ then .inr (5,[c],1)else .inl 5:=rfl
  by_cases hp:[c,d]∈cu
  ·rw [if_pos hp]at hR0;rw [decide_eq_true hp]at adt;rw [hR0];clear hR0 hp;go_enter Tryz.func193,Tryz.ntmps193;go_wp2_with fail
   go_quiet (fail)
   go_wp2_with fail
   go_quiet (fail)
   go_wp2_with fail;refine bodyPost_ret (dI rfl _ _ _) rfl ?_;exact⟨rfl,(aP w _).trans (aP _ _ |>.mono (Nat.le_refl _))⟩
  ·rw [if_neg hp]at hR0;rw [decide_eq_false hp]at adt;obtain⟨ans,uK⟩:∃ans,ans=CZ (c :: d :: r):=⟨_,rfl⟩
   rw [<-uK];have hR:=uK.trans hR0;clear hR0 hp uK;go_enter Tryz.func193,Tryz.ntmps193;go_wp2_with fail
   go_quiet (fail)
   go_wp2_with fail;refine(Tryz.strings_IndexByte ⟨dZ.toArray⟩ _ _).mono ?_;rintro e w1 ⟨rfl,rfl⟩;rw [nu,zV];have hi:=I6 (l:=dZ) (c:=c);generalize Lib.indexByte dZ c=ix at*
   by_cases hc:c∈dZ
   ·have abx:¬(ix<0):=by have:=hi.2 hc;omega
    rw [if_pos hc]at hR;subst hR;clear hi;go_wp2_with fail
    go_quiet (fail)
    go_wp2_with fail;refine bodyPost_ret (dI rfl _ _ _) rfl ?_;exact⟨rfl,((aP w _).trans (aP _ _ |>.mono (Nat.le_refl _)))⟩
   ·have abx:ix<0:=by
     rcases Int.lt_or_le ix 0 with h |h
     ·exact h
     ·exact absurd (hi.1 h) hc
    rw [if_neg hc]at hR;subst hR;clear hi;go_wp2_with fail;refine bodyPost_ret (dI rfl _ _ _) rfl ?_;exact⟨rfl,aP w _⟩
open Go.Maps (has IsMap Keyed)
theorem Wx (c:UInt8)(r:Bt):dV (c :: r)=if dS c then JQ (c :: r)else if bK c then Ej (c :: r)else if c.toNat=34 then Ib (c :: r)else CZ (c :: r):=rfl
theorem Wy (w:World)(bl bp:Nat)(c:UInt8)(r:Bt)(p:Nat ×Nat)(dO:Value)(hL:eB w bl bp (c :: r) p dO)(hs:(c :: r).length<=100000)(hX:mK w)(hP:lu w bp cu):
  Calls Tryz.prog 147 #[.pointer (some ⟨bl,0,none⟩)] w fun e w'=>e=.returned (DT (dV (c :: r)))∧Below w.heap.size w w':=by
 have c0:=hL.c0;have hsz:=bZ (c :: r);have hix:(ByteArray.mk (c :: r).toArray)[0]'(by rw [bZ];simp)=c:=dW (c :: r) 0 (by simp);have hl0:(0:Int)<(r.length:Int)+1:=by omega
 have HN:=aZ (Ud w bl bp (c :: r) p dO hL hs hX);have HU:=aZ (O7 w bl bp (c :: r) p dO hL hs hX);have HS:=aZ (abw w bl bp (c :: r) p dO hL hs (by simp));have HG:=aZ (Ww w bl bp c r p dO hL hs hP);have heq:=Wx c r;generalize JQ (c :: r)=xn at*
 generalize Ej (c :: r)=xu at*
 generalize Ib (c :: r)=xs at*
 generalize CZ (c :: r)=xg at*
 cases h1:dS c
 ·rw [h1,if_neg (by simp)]at heq;cases h2:bK c
  ·rw [h2,if_neg (by simp)]at heq;by_cases h3:c.toNat=34
   ·rw [if_pos h3]at heq;rw [heq];clear heq HN HU HG;have H3:=aZ h3;clear h3;go_enter Tryz.func147,Tryz.ntmps147;go_wp2_with fail;refine(jr c _).mono ?_;rintro e w1 ⟨rfl,rfl⟩;rw [h1];go_wp2_with fail;refine(pW c _).mono ?_;rintro e w1 ⟨rfl,rfl⟩;rw [h2];have h3:=H3.o;go_wp2_with fail;refine HS.o.mono ?_;rintro e w2 ⟨rfl,hb2⟩;clear HS;rcases xs with e |⟨kd,t,n⟩
    all_goals
     simp only [DT];go_wp2_with fail;refine bodyPost_ret (dI rfl _ _ _) rfl ?_;exact⟨rfl,hb2⟩
   ·rw [if_neg h3]at heq;rw [heq];clear heq HN HU HS;go_enter Tryz.func147,Tryz.ntmps147;go_wp2_with fail;refine(jr c _).mono ?_;rintro e w1 ⟨rfl,rfl⟩;rw [h1];go_wp2_with fail;refine(pW c _).mono ?_;rintro e w1 ⟨rfl,rfl⟩;rw [h2];go_wp2_with fail;refine HG.o.mono ?_;rintro e w2 ⟨rfl,hb2⟩;clear HG;rcases xg with e |⟨kd,t,n⟩
    all_goals
     simp only [DT];go_wp2_with fail;refine bodyPost_ret (dI rfl _ _ _) rfl ?_;exact⟨rfl,hb2⟩
  ·rw [h2,if_pos rfl]at heq;rw [heq];clear heq HN HS HG;go_enter Tryz.func147,Tryz.ntmps147;go_wp2_with fail;refine(jr c _).mono ?_;rintro e w1 ⟨rfl,rfl⟩;rw [h1];go_wp2_with fail;refine(pW c _).mono ?_;rintro e w1 ⟨rfl,rfl⟩;rw [h2];go_wp2_with fail;refine HU.o.mono ?_;rintro e w2 ⟨rfl,hb2⟩;clear HU;rcases xu with e |⟨kd,t,n⟩
   all_goals
    simp only [DT];go_wp2_with fail;refine bodyPost_ret (dI rfl _ _ _) rfl ?_;exact⟨rfl,hb2⟩
 ·rw [h1,if_pos rfl]at heq;rw [heq];clear heq HU HS HG;go_enter Tryz.func147,Tryz.ntmps147;go_wp2_with fail;refine(jr c _).mono ?_;rintro e w1 ⟨rfl,rfl⟩;rw [h1];go_wp2_with fail;refine HN.o.mono ?_;rintro e w2 ⟨rfl,hb2⟩;clear HN;rcases xn with e |⟨kd,t,n⟩
  all_goals
   simp only [DT];go_wp2_with fail;refine bodyPost_ret (dI rfl _ _ _) rfl ?_;exact⟨rfl,hb2⟩
end Go.Proofs.YtfgjkmipfikooaaGreatDoor
