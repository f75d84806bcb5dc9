/- XT, XU, XZ, HG -/
import Derived.Test.YtfgjkmipfikooaaGreatDoorTEQ
import Derived.Test.YtfgjkmipfikooaaGreatDoorTE20
import Derived.Test.YtfgjkmipfikooaaGreatDoorTE04
import Derived.Test.YtfgjkmipfikooaaGreatDoorTE01
import Derived.Test.YtfgjkmipfikooaaGreatDoorTE05
import Derived.Test.YtfgjkmipfikooaaGreatDoorTE15
set_option linter.unusedSimpArgs false
set_option linter.unusedVariables false
set_option maxRecDepth 100000
set_option maxHeartbeats 8000000
namespace Go.Proofs.YtfgjkmipfikooaaGreatDoor
open Go.RowKit
theorem QD (w:World)(s:Bt)(hs:s.length<=281474976710656):Calls Tryz.prog 154 #[sv s] w fun e w'=>e=.returned (.int .i64 (bJ s:Nat))∧w'=w:=by
 have hsz:=bZ s;obtain⟨ans,uK⟩:∃a,a=bJ s:=⟨_,rfl⟩
 rw [<-uK];have h0:ans=0+dJ false (s.drop 0):=by rw [List.drop_zero,uK];unfold bJ;omega
 have H0:=aZ h0;clear uK h0;go_enter Tryz.func154,Tryz.ntmps154;go_wp2_with fail
 go_loop [3] (fun v3=>∃i:Nat,v3=.int .i64 i∧i<=s.length∧ans=i+dJ false (s.drop i)) (fun v3=>s.length - (intOf v3).toNat)
 case atStart=>exact⟨0,rfl,by omega,H0.o⟩
 case round=>
  obtain⟨i,rfl,hi,hsk⟩:=hrel;by_cases hlt:i<s.length
  ·obtain⟨e1,e2,e3,e4,e5⟩:=Jw hlt;have hix:=dW s i hlt;generalize hc:s[i]=c at*
   have HC:=aZ hc;clear hc;by_cases Q8:c.toNat=35
   ·have HSK:=aZ (hsk.trans (congrArg (i+ ·) (e2 Q8)));clear hsk e1 e2 e3 e4 e5;go_wp2_with fail
    go_loop [3] (fun v3=>∃k:Nat,v3=.int .i64 k∧i<=k∧k<=s.length∧ans=k+dJ true (s.drop k)) (fun v3=>s.length - (intOf v3).toNat)
    case atStart=>exact⟨i,rfl,by omega,by omega,HSK.o⟩
    case round=>
     obtain⟨k,rfl,hik,hk,Vn⟩:=hrel;by_cases hlt1:k<s.length
     ·obtain⟨f1,f2,f3,f4,f5⟩:=Jw hlt1;have ajA:=dW s k hlt1;have hki:s[k].toNat=10->i<k:=by
       intro h;rcases Nat.lt_or_ge i k with h1 |h1
       ·exact h1
       ·obtain rfl:i=k:=by omega
        rw [HC.o]at h;omega
      generalize s[k]=d at*
      by_cases h10:d.toNat=10
      ·have HN:=aZ (Vn.trans (congrArg (k+ ·) (f3 h10)));have hki:=hki h10;clear Vn f1 f2 f3 f4 f5 hix HC;go_wp2_with fail
       go_round
       case rel=>exact⟨k,rfl,by omega,HN.o⟩
       case measure=>simp [intOf];omega
      ·have HN:=aZ (show ans=(k+1)+dJ true (s.drop (k+1)) by rw [Vn,f4 h10];omega);clear Vn f1 f2 f3 f4 f5 hix hki HC;go_wp2_with fail
       go_round
       case rel=>exact⟨k+1,rfl,by omega,by omega,HN.o⟩
       case measure=>simp [intOf];omega
     ·obtain rfl:k=s.length:=by omega
      have HN:=aZ (show ans=s.length+dJ false (s.drop s.length) by rw [Vn,GK,GK]);clear Vn;go_wp2_with fail
      go_round
      case rel=>exact⟨s.length,rfl,by omega,HN.o⟩
      case measure=>simp [intOf];omega
   ·have hb:(bV c=true∧(c.toNat=32∨c.toNat=9∨c.toNat=10∨c.toNat=13))∨(bV c=false∧c.toNat≠32∧c.toNat≠9∧c.toNat≠10∧c.toNat≠13):=by
     unfold bV;simp only [Bool.or_eq_true,Bool.or_eq_false_iff,decide_eq_true_eq,decide_eq_false_iff_not];omega
    clear e2 e3 e4 HC;rcases hb with⟨hb,hc⟩ |⟨hb,h1,h2,h3,h4⟩
    ·have HN:=aZ (show ans=(i+1)+dJ false (s.drop (i+1)) by rw [hsk,e1 hb];omega);clear hsk e1 e5 hb;rcases hc with hc |hc |hc |hc
     ·go_wp2_with fail
      go_round
      case rel=>exact⟨i+1,rfl,by omega,HN.o⟩
      case measure=>simp [intOf];omega
     ·go_wp2_with fail
      go_round
      case rel=>exact⟨i+1,rfl,by omega,HN.o⟩
      case measure=>simp [intOf];omega
     ·go_wp2_with fail
      go_round
      case rel=>exact⟨i+1,rfl,by omega,HN.o⟩
      case measure=>simp [intOf];omega
     ·go_wp2_with fail
      go_round
      case rel=>exact⟨i+1,rfl,by omega,HN.o⟩
      case measure=>simp [intOf];omega
    ·have HN:=aZ (show ans=i by rw [hsk,e5 hb Q8];omega);have b1:((c.toNat:Int) != 32)=true:=by rw [bne_iff_ne];omega
     have b2:((c.toNat:Int) != 9)=true:=by rw [bne_iff_ne];omega
     have b3:((c.toNat:Int) != 10)=true:=by rw [bne_iff_ne];omega
     have b4:((c.toNat:Int) != 13)=true:=by rw [bne_iff_ne];omega
     clear hsk e1 e5 hb;go_wp2_with fail;go_ret;have hr:=HN.o;subst hr;exact⟨rfl,rfl⟩
  ·obtain rfl:i=s.length:=by omega
   have HN:=aZ (show ans=s.length by rw [hsk,GK];omega);clear hsk;go_wp2_with fail;go_ret;have hr:=HN.o;subst hr;exact⟨rfl,rfl⟩
def rP (c:UInt8)(s:Bt):Nat:=if s.take 2∈cu then 2 else if c∈dZ then 1 else 0
theorem NI {c:UInt8}{s:Bt}(h:s.take 2∈cu):rP c s=2:=by unfold rP;rw [if_pos h]
theorem sign_one {c:UInt8}{s:Bt}(h:s.take 2 ∉ cu)(h1:c∈dZ):rP c s=1:=by unfold rP;rw [if_neg h,if_pos h1]
theorem Jz {c:UInt8}{s:Bt}(h:s.take 2 ∉ cu)(h1:c ∉ dZ):rP c s=0:=by unfold rP;rw [if_neg h,if_neg h1]
theorem Vo (w:World)(c:UInt8)(r:Bt)(hs:(c :: r).length<=281474976710656):Calls Tryz.prog 197 #[sv (c :: r)] w fun e w'=>e=.returned (.int .i64 (rP c (c :: r):Nat))∧Below w.heap.size w w':=by
 obtain⟨s,hsc⟩:∃s,s=c :: r:=⟨_,rfl⟩
 have hsz:=bZ s;have hl1:1<=s.length:=by rw [hsc];simp
 have Vp:(ByteArray.mk s.toArray)[0]'(by omega)=c:=by
  have:=dW s 0 (by omega);rw [this];simp [hsc]
 have hone:¬ 2<=s.length->s.take 2 ∉ cu:=by
  intro h hm;have:=BG _ hm;rw [List.length_take]at this;omega
 rw [<-hsc]at hs ⊢;clear hsc;have hss:Ss (w.alloc (.cells (pU cu).toArray 9)) (w.alloc (.cells (pU cu).toArray 9)).heap.size (.slice (some ⟨w.heap.size,0,none⟩) 8 8) cu:=by
  have:=gX w (pU cu).toArray 9 1 8 (by simp [eX];rfl) (by decide);rw [World.size_alloc];simpa [Ss]using this
 have hb:Below w.heap.size w (w.alloc (.cells (pU cu).toArray 9)):=(Below.refl _ _).alloc (Nat.le_refl _) _;have hex:2<=s.length->ByteArray.extract ⟨s.toArray⟩ 0 2=⟨(s.take 2).toArray⟩:=by
  intro _;have h:=fP s 0 2;rw [List.drop_zero]at h;injection h
 have anG:=aZ hone;have sJ:=aZ hex;clear hone hex;have hlp:cu.length=8:=rfl;have hls:dZ.length=20:=rfl;have HT:=aZ (fun h=>NI (c:=c) (s:=s) h);have HO:=aZ (fun h h1=>sign_one (c:=c) (s:=s) h h1);have HN:=aZ (fun h h1=>Jz (c:=c) (s:=s) h h1);generalize rP c s=ans at*
 go_enter Tryz.func197,Tryz.ntmps197;go_wp2_with fail;generalize hw:w.alloc (.cells #[.string ⟨#[45,62]⟩,.string ⟨#[61,62]⟩,.string ⟨#[60,58]⟩,.string ⟨#[60,60]⟩,.string ⟨#[60,61]⟩,.string ⟨#[62,62]⟩,.string ⟨#[61,61]⟩,.string ⟨#[43,43]⟩] 9)=w1 at*
 have hw':w.alloc (.cells (pU cu).toArray 9)=w1:=hw;rw [hw']at hss hb;clear hw hw';obtain⟨A,cc,hA,hn,hcc,hx⟩:=hss.open_;obtain⟨b,o,hbo,hb2,hcell⟩:=hx (by rw [hlp];omega);subst hbo;simp only [Value.slice.injEq,Option.some.injEq,Addr.mk.injEq]at hA;obtain⟨⟨rfl,rfl,_⟩,h8a,h8b⟩:=hA;clear hx hcc hn h8a h8b;generalize cu=P at*
 go_loopw [4] (fun v4 wr=>∃k:Nat,v4=.int .i64 k∧k<=8∧s.take 2 ∉ P.take k∧Below w1.heap.size w1 wr) (fun v4 _=>8 - (intOf v4).toNat)
 case atStart=>exact⟨0,rfl,by omega,by simp,Below.refl _ _⟩
 case round=>
  obtain⟨k,rfl,hk,hnot,hbr⟩:=hrel;by_cases hlt:k<8
  ·have hlt':(k:Int)<8:=by omega
   have d1:=(hbr.cell (p:=⟨w.heap.size,0+k,none⟩) hb2).trans (hcell k (by omega));rw [Nat.zero_add]at d1;have hin:s.take 2=P[k]->s.take 2∈P:=fun h=>by rw [h];exact List.getElem_mem _
   have hout:s.take 2≠P[k]->s.take 2 ∉ P.take (k+1):=fun h=>yK (by omega) hnot h;have HIN:=aZ hin;have aiA:=aZ hout;have aiB:=aZ hnot;clear hin hout hnot hcell;generalize hX:P[k]=X at*
   by_cases h2:2<=s.length
   ·have hex:=sJ.o h2;have hd2:decide ((2:Int)<=s.length)=true:=by rw [decide_eq_true_eq];omega
    by_cases hq:s.take 2=X
    ·have hq':(s.take 2==X)=true:=by rw [beq_iff_eq];exact hq
     have hres:=HT.o (HIN.o hq);clear hq hX;go_wp2_with fail
     go_quiet (fail)
     go_wp2_with fail;go_ret;exact⟨by first |rfl |(rw [hres];rfl),hb.trans ((hbr.trans ((aP wr _).mono hbr.size)).mono hb.size)⟩
    ·have hq':(s.take 2==X)=false:=by rw [beq_eq_false_iff_ne];exact hq
     have hr:=aZ (aiA.o hq);clear hq hX;go_wp2_with fail
     go_quiet (fail)
     go_wp2_with fail
     go_roundw
     case rel=>exact⟨k+1,rfl,by omega,hr.o,hbr.trans ((aP wr _).mono hbr.size)⟩
     case measure=>simp [intOf];omega
   ·have hr:=aZ (fun h=>anG.o h2 (List.mem_of_mem_take (i:=k+1) h));have hd2:decide ((2:Int)<=s.length)=false:=by rw [decide_eq_false_iff_not];omega
    clear hX;go_wp2_with fail
    go_quiet (fail)
    go_wp2_with fail
    go_roundw
    case rel=>exact⟨k+1,rfl,by omega,hr.o,hbr.trans ((aP wr _).mono hbr.size)⟩
    case measure=>simp [intOf];omega
  ·have vE:¬(k:Int)<8:=by omega
   rw [List.take_of_length_le (by omega)]at hnot;have aiB:=aZ hnot;clear hnot HT anG sJ hcell;go_wp2_with fail;rw [show Value.string ⟨#[40,41,123,125,91,93,44,58,59,61,43,45,42,47,37,38,94,60,124,46]⟩=sv dZ from rfl];have hsq:=bZ dZ;generalize dZ=Q at*
   go_loopw [6] (fun v6 w2=>∃k:Nat,v6=.int .i64 k∧k<=20∧c ∉ Q.take k∧Below wr.heap.size wr w2) (fun v6 _=>20 - (intOf v6).toNat)
   case atStart=>exact⟨0,rfl,by omega,by simp,Below.refl _ _⟩
   case round=>
    obtain⟨k,rfl,hk2,hnot,uo⟩:=hrel;by_cases hlt:k<20
    ·have hlt':(k:Int)<20:=by omega
     have hix:=dW Q k (by omega);have hin:c=Q[k]->c∈Q:=fun h=>by rw [h];exact List.getElem_mem _
     have hout:c≠Q[k]->c ∉ Q.take (k+1):=fun h=>yK (by omega) hnot h;have HIN:=aZ hin;have aiA:=aZ hout;have avk:=aZ hnot;clear hin hout hnot;generalize hX:Q[k]=X at*
     by_cases hq:c=X
     ·have hres:=HO.o aiB.o (HIN.o hq);have hq':(c.toNat:Int)=X.toNat:=by rw [hq]
      clear hq hX;go_wp2_with fail
      go_quiet (fail)
      go_wp2_with fail;go_ret;exact⟨by first |rfl |(rw [hres];rfl),hb.trans ((hbr.trans ((uo.trans ((aP _ _).mono uo.size)).mono hbr.size)).mono hb.size)⟩
     ·have hq':¬(c.toNat:Int)=X.toNat:=by intro h;exact hq (UInt8.toNat_inj.1 (by omega))
      have hr:=aZ (aiA.o hq);clear hq hX;go_wp2_with fail
      go_quiet (fail)
      go_wp2_with fail
      go_roundw
      case rel=>exact⟨k+1,rfl,by omega,hr.o,uo.trans ((aP _ _).mono uo.size)⟩
      case measure=>simp [intOf];omega
    ·have vE:¬(k:Int)<20:=by omega
     rw [List.take_of_length_le (by omega)]at hnot;have hres:=HN.o aiB.o hnot;clear hnot;go_wp2_with fail;go_ret;exact⟨by first |rfl |(rw [hres];rfl),hb.trans ((hbr.trans (uo.mono hbr.size)).mono hb.size)⟩
theorem NJ (w:World)(s:Bt)(hs:s.length<=281474976710656)(h1:1<=s.length):Calls Tryz.prog 196 #[sv s] w fun e w'=>e=.returned (wE (lI s))∧w'=w:=by
 have hsz:=bZ s;generalize uK:lI s=ans;go_enter Tryz.func196,Tryz.ntmps196;go_wp2_with fail
 go_loop [4,5,6] (fun v4 v5 v6=>∃(i:Nat) (o:Bt),v5=.int .i64 i∧v4=sv o∧1<=i∧i<=s.length∧o.length<=i∧dL false o (i - 1) (s.drop i)=ans) (fun _ v5 _=>s.length - (intOf v5).toNat)
 case atStart=>exact⟨1,[],rfl,rfl,by omega,h1,by simp,uK⟩
 case round=>
  obtain⟨i,o,rfl,rfl,hi1,hi,hol,hq⟩:=hrel;have ax2:¬ 9223372036854775807<o.length+1:=by omega
  by_cases hlt:i<s.length
  ·obtain⟨e1,e2,e3,e4,_,_⟩:=GL hlt o (i - 1);have hix:=dW s i hlt;have hex:ByteArray.extract ⟨s.toArray⟩ i (i+1)=⟨[s[i]].toArray⟩:=by
    have h:=fP s i (i+1);rw [List.take_succ_eq_append_getElem hlt,List.drop_append_of_le_length (by rw [List.length_take];omega),List.drop_of_length_le (by rw [List.length_take];omega),List.nil_append]at h;injection h
   generalize hc:s[i]=c at*
   clear hc;have E1:=aZ e1;have E2:=aZ e2;have E3:=aZ e3;have E4:=aZ e4;have HQ:=aZ hq;clear e1 e2 e3 e4 hq;by_cases CP:c.toNat=34
   ·have hr:ans=some (o,i+1):=by rw [<-HQ.o,E1.o CP];congr 2;omega
    subst hr;clear E1 E2 E3 E4;go_wp2_with fail
    go_ret2
    exact⟨rfl,rfl⟩
   ·by_cases h32:c.toNat<32
    ·have hr:ans=none:=by rw [<-HQ.o,E2.o h32]
     subst hr;clear E1 E2 E3 E4;go_wp2_with fail
     go_ret2
     exact⟨rfl,rfl⟩
    ·by_cases h92:c.toNat=92
     ·have hr:=HQ.o;rw [E4.o h92,show i - 1+1=i from by omega]at hr;have HR:=aZ hr;clear hr E1 E2 E3 E4 HQ hex;by_cases hlt2:i+1<s.length
      ·obtain⟨_,_,_,_,e5,e6⟩:=GL hlt2 o i;have abx:=dW s (i+1) hlt2;have aiC:ByteArray.extract ⟨s.toArray⟩ (i+1) (i+2)=⟨[s[i+1]].toArray⟩:=by
        have h:=fP s (i+1) (i+2);rw [List.take_succ_eq_append_getElem hlt2,List.drop_append_of_le_length (by rw [List.length_take];omega),List.drop_of_length_le (by rw [List.length_take];omega),List.nil_append]at h;injection h
       generalize hd:s[i+1]=d at*
       clear hd;have E5:=aZ e5;have E6:=aZ e6;clear e5 e6;have key:∀e,wo d=some e->∃(j:Nat) (o':Bt),Value.int .i64 ((i+2:Nat):Int)=.int .i64 j∧Value.string ((⟨o.toArray⟩:ByteArray)++⟨[e].toArray⟩)=sv o'∧1<=j∧j<=s.length∧o'.length<=j∧dL false o' (j - 1) (s.drop j)=ans:=by
        intro e he;refine⟨i+2,o++[e],rfl,IJ _ _,by omega,by omega,by simp;omega,?_⟩;rw [<-HR.o,E5.o e he];rfl
       have KEY:=aZ key;clear key E5;rcases QC d with⟨hd,he⟩ |⟨hd,he⟩ |⟨hd,he⟩ |⟨hd,he⟩ |⟨⟨k1,k2,k3,k4⟩,he⟩
       ·have hd2:d=92:=UInt8.toNat_inj.1 hd;have K:=aZ (KEY.o _ he);clear KEY E6 he;go_wp2_with fail
        go_round
        case rel=>exact K.o
        case measure=>simp [intOf];omega
       ·have hd2:d=34:=UInt8.toNat_inj.1 hd;have K:=aZ (KEY.o _ he);clear KEY E6 he;go_wp2_with fail
        go_round
        case rel=>exact K.o
        case measure=>simp [intOf];omega
       ·have K:=aZ (KEY.o _ he);clear KEY E6 he aiC;go_wp2_with fail
        go_round
        case rel=>exact K.o
        case measure=>simp [intOf];omega
       ·have K:=aZ (KEY.o _ he);clear KEY E6 he aiC;go_wp2_with fail
        go_round
        case rel=>exact K.o
        case measure=>simp [intOf];omega
       ·have hr:ans=none:=by rw [<-HR.o,E6.o he]
        subst hr;clear KEY E6 he aiC;go_wp2_with fail
        go_ret2
        exact⟨rfl,rfl⟩
      ·have hr:ans=none:=by
        rw [<-HR.o,show i+1=s.length from by omega,Jy]
       subst hr;clear HR;go_wp2_with fail
       go_ret2
       exact⟨rfl,rfl⟩
     ·have hr:=HQ.o;rw [E3.o (by omega) CP h92,show i - 1+1=i from by omega]at hr
      have key:∃(j:Nat) (o':Bt),Value.int .i64 ((i+1:Nat):Int)=.int .i64 j∧Value.string ((⟨o.toArray⟩:ByteArray)++⟨[c].toArray⟩)=sv o'∧1<=j∧j<=s.length∧o'.length<=j∧dL false o' (j - 1) (s.drop j)=ans:=
       ⟨i+1,o++[c],rfl,IJ _ _,by omega,by omega,by simp;omega,by rw [show i+1 - 1=i from by omega];exact hr⟩
      have KEY:=aZ key;clear key hr E1 E2 E3 E4 HQ;go_wp2_with fail
      go_round
      case rel=>exact KEY.o
      case measure=>simp [intOf];omega
  ·obtain rfl:i=s.length:=by omega
   rw [Jy]at hq;subst hq;go_wp2_with fail
   go_ret2
   exact⟨rfl,rfl⟩
theorem QE {w:World}{base:Nat}{e:TypeId}{k n:Nat}{v:Value}{xs:List Value}(h:w.ownsRow base e k v n xs):∃A c,v=.slice A n c∧n<=maxLen:=by
 rcases h.2 with⟨rfl,rfl⟩ |⟨g,cap,cur,rfl,hg,hb,hn,hm,r⟩
 ·exact⟨none,0,rfl,Nat.zero_le _⟩
 ·exact⟨_,cap,rfl,Nat.le_trans hn hm⟩
theorem bG {P:Program}{fn:Func}{p t1 t2:Tmp}{ty:TypeId}(h:fn.results= #[.cell p ty,.tmp t1,.tmp t2])(tmps:Array Value)(w:World)(g:Nat)(t:TypeId)(cs:Array Value)(fr:Nat ×Nat)(d:TypeDesc)
  (hp:tmps.getD p undef=.pointer (some ⟨g,0,none⟩)) (hg:w.heap[g]? =some (.cells cs t fr))
  (hu:P.underlying ty=some d) (hd:(match d with |.struct _ |.array _ _=>true |_=>false)=true) (hi:(P.info? ty).map (·.size)=some cs.size):
  (results fn tmps).run P w=.ok (.tuple #[.agg cs,tmps.getD t1 undef,tmps.getD t2 undef]) w:=by
 have hp':tmps[p]?.getD undef=.pointer (some ⟨g,0,none⟩):=by simpa using hp
 simp [results,h,hp',asAddr,run_loadVar_row w g t ty cs fr d hg hu hd hi,Result.andThen]
def QF:Int ⊕ (Int ×Bt ×Nat)->Value
 |.inl e=>.tuple #[.agg #[.int .i64 0,sv [],.int .i64 0,.int .i64 0],.int .i64 0,.int .i64 e]
 |.inr (kd,t,n)=>.tuple #[.agg #[.int .i64 kd,sv t,.int .i64 0,.int .i64 0],.int .i64 n,.int .i64 0]
theorem mH {w:World}{b:Nat}(h:w.heap[b]? =some (.cells #[.int .i64 0,sv [],.int .i64 0,.int .i64 0] 154 (0,0))):
  (w.cell? ⟨b,0,none⟩=some (.int .i64 0)∧w.cell? ⟨b,1,none⟩=some (sv [])∧w.cell? ⟨b,2,none⟩=some (.int .i64 0)∧w.cell? ⟨b,3,none⟩=some (.int .i64 0))∧
  (w.frozen? ⟨b,0,none⟩=false∧w.frozen? ⟨b,1,none⟩=false∧w.frozen? ⟨b,2,none⟩=false∧w.frozen? ⟨b,3,none⟩=false):=
 ⟨⟨(cell_of_row _ _ _ _ _ (0,0) h).trans rfl,(cell_of_row _ _ _ _ _ (0,0) h).trans rfl,(cell_of_row _ _ _ _ _ (0,0) h).trans rfl,(cell_of_row _ _ _ _ _ (0,0) h).trans rfl⟩,bE h 0,bE h 1,bE h 2,bE h 3⟩
theorem dM {w W:World}(hb:Below w.heap.size w W)(v0 v1 v2 v3:Value):Below w.heap.size w (JO W w.heap.size v0 v1 v2 v3):=
 hb.trans ((sP W w.heap.size v0 v1 v2 v3).below hb.size (fun k hk h=>by omega))
theorem IB (w:World)(c:UInt8)(r:Bt)(hs:(c :: r).length<=281474976710656)(hl:dS c=true):
  Calls Tryz.prog 155 #[sv (c :: r)] w fun e w'=>e=.returned (QF (dV (c :: r)))∧Below w.heap.size w w':=by
 obtain⟨s,hsc⟩:∃s,s=c :: r:=⟨_,rfl⟩
 have hsz:=bZ s;have hl1:1<=s.length:=by rw [hsc];simp
 have Vp:(ByteArray.mk s.toArray)[0]'(by omega)=c:=by
  have:=dW s 0 (by omega);rw [this];simp [hsc]
 have hd:=Kw c hl
 have hA:dV s=if 32<dG bf s then .inl 2 else if s.take (dG bf s)∈dY then .inr (2,s.take (dG bf s),dG bf s)else .inr (1,s.take (dG bf s),dG bf s):=by
  rw [hsc,dV,if_pos hl]
 rw [<-hsc]at hs ⊢;clear hsc;have HA:=aZ hA;clear hA;generalize dV s=ans at*
 have hd0:=heap_alloc_new w (.cells #[.int .i64 0,sv [],.int .i64 0,.int .i64 0] 154);have hb0:Below w.heap.size w (w.alloc (.cells #[.int .i64 0,sv [],.int .i64 0,.int .i64 0] 154)):=(Below.refl _ _).alloc (Nat.le_refl _) _;go_enter Tryz.func155,Tryz.ntmps155;go_wp2_with fail;generalize w.alloc (.cells #[.int .i64 0,sv [],.int .i64 0,.int .i64 0] 154)=w0 at*
 refine(lX c _).mono ?_;rintro e w0 ⟨rfl,rfl⟩;go_wp2_with fail;refine(nH c _).mono ?_;rintro e w0 ⟨rfl,rfl⟩;rw [hd];clear Vp;go_wp2_with fail
 go_loop [7] (fun v7=>∃i:Nat,v7=.int .i64 i∧i<=s.length∧∀j (hj:j<s.length),j<i->bf s[j]=true) (fun v7=>s.length - (intOf v7).toNat)
 case atStart=>exact⟨0,rfl,by omega,fun j hj h=>by omega⟩
 case round=>
  obtain⟨i,rfl,hi,hall⟩:=hrel;by_cases hlt:i<s.length
  ·have hix:=dW s i hlt;have hnext:bf s[i]=true->∀j (hj:j<s.length),j<i+1->bf s[j]=true:=by
    intro h j hj hji;rcases Nat.lt_or_ge j i with h1 |h1
    ·exact hall j hj h1
    ·obtain rfl:j=i:=by omega
     exact h
   have hstop:bf s[i]=false->dG bf s=i:=fun h=>EC _ s i hi hall (.inr ⟨hlt,h⟩);have kF:=aZ hnext;have vM:=aZ hstop;clear hall hnext hstop;generalize hX:s[i]=X at*
   clear hX;go_wp2_with fail;refine(lX X _).mono ?_;rintro e w0 ⟨rfl,rfl⟩;go_wp2_with fail;refine(nH X _).mono ?_;rintro e w0 ⟨rfl,rfl⟩;have hin:bf X=(dS X || bK X):=rfl;cases hq1:dS X
   ·cases hq2:bK X
    ·have hq:=vM.o (by rw [hin,hq1,hq2];rfl);rw [hq]at HA;clear kF vM hix hq;generalize i=n at*
     have hex:ByteArray.extract ⟨s.toArray⟩ 0 n=⟨(s.take n).toArray⟩:=by
      have h:=fP s 0 n;rw [List.drop_zero]at h;injection h
     have hA:=HA.o;clear HA;by_cases h32:32<n
     ·rw [if_pos h32]at hA;obtain⟨⟨e0,e1,e2,e3⟩,g0,g1,g2,g3⟩:=mH hd0;go_wp2_with fail;refine bodyPost_ret (bG rfl _ _ w.heap.size _ _ _ _ rfl (dF hd0 _ _ _ _) Tryz.underlying154 rfl (by kernel_rfl)) rfl ?_;exact⟨by first |rfl |(rw [hA];rfl),dM hb0 _ _ _ _⟩
     ·rw [if_neg h32]at hA;generalize s.take n=x at*
      go_wp2_with fail;refine(Jv _ x).mono ?_;rintro e w2 ⟨rfl,hb2⟩;have hd2:=ah hd0 (Turn.of_below (F:=fun _=>False) hb2) id;have hB2:=V6 hb0 hb2;obtain⟨⟨e0,e1,e2,e3⟩,g0,g1,g2,g3⟩:=mH hd2;by_cases hw:x∈dY
      ·rw [if_pos hw]at hA;rw [decide_eq_true hw];go_wp2_with fail;refine bodyPost_ret (bG rfl _ _ w.heap.size _ _ _ _ rfl (dF hd2 _ _ _ _) Tryz.underlying154 rfl (by kernel_rfl)) rfl ?_;exact⟨by first |rfl |(rw [hA];rfl),dM hB2 _ _ _ _⟩
      ·rw [if_neg hw]at hA;rw [decide_eq_false hw];go_wp2_with fail;refine bodyPost_ret (bG rfl _ _ w.heap.size _ _ _ _ rfl (dF hd2 _ _ _ _) Tryz.underlying154 rfl (by kernel_rfl)) rfl ?_;exact⟨by first |rfl |(rw [hA];rfl),dM hB2 _ _ _ _⟩
    ·have HN:=aZ (kF.o (by rw [hin,hq1,hq2];rfl));clear kF vM hix;go_wp2_with fail
     go_round
     case rel=>exact⟨i+1,rfl,by omega,HN.o⟩
     case measure=>simp [intOf];omega
   ·cases hq2:bK X
    ·have HN:=aZ (kF.o (by rw [hin,hq1];rfl));clear kF vM hix;go_wp2_with fail
     go_round
     case rel=>exact⟨i+1,rfl,by omega,HN.o⟩
     case measure=>simp [intOf];omega
    ·have HN:=aZ (kF.o (by rw [hin,hq1];rfl));clear kF vM hix;go_wp2_with fail
     go_round
     case rel=>exact⟨i+1,rfl,by omega,HN.o⟩
     case measure=>simp [intOf];omega
  ·have hi2:i=s.length:=by omega
   have hq:=EC _ s i hi hall (.inl hi2);rw [hq]at HA;clear hall hq;have hlt':¬(i:Int)<s.length:=by omega
   clear hi2;generalize i=n at*
   have hex:ByteArray.extract ⟨s.toArray⟩ 0 n=⟨(s.take n).toArray⟩:=by
    have h:=fP s 0 n;rw [List.drop_zero]at h;injection h
   have hA:=HA.o;clear HA;by_cases h32:32<n
   ·rw [if_pos h32]at hA;obtain⟨⟨e0,e1,e2,e3⟩,g0,g1,g2,g3⟩:=mH hd0;go_wp2_with fail;refine bodyPost_ret (bG rfl _ _ w.heap.size _ _ _ _ rfl (dF hd0 _ _ _ _) Tryz.underlying154 rfl (by kernel_rfl)) rfl ?_;exact⟨by first |rfl |(rw [hA];rfl),dM hb0 _ _ _ _⟩
   ·rw [if_neg h32]at hA;generalize s.take n=x at*
    go_wp2_with fail;refine(Jv _ x).mono ?_;rintro e w2 ⟨rfl,hb2⟩;have hd2:=ah hd0 (Turn.of_below (F:=fun _=>False) hb2) id;have hB2:=V6 hb0 hb2;obtain⟨⟨e0,e1,e2,e3⟩,g0,g1,g2,g3⟩:=mH hd2;by_cases hw:x∈dY
    ·rw [if_pos hw]at hA;rw [decide_eq_true hw];go_wp2_with fail;refine bodyPost_ret (bG rfl _ _ w.heap.size _ _ _ _ rfl (dF hd2 _ _ _ _) Tryz.underlying154 rfl (by kernel_rfl)) rfl ?_;exact⟨by first |rfl |(rw [hA];rfl),dM hB2 _ _ _ _⟩
    ·rw [if_neg hw]at hA;rw [decide_eq_false hw];go_wp2_with fail;refine bodyPost_ret (bG rfl _ _ w.heap.size _ _ _ _ rfl (dF hd2 _ _ _ _) Tryz.underlying154 rfl (by kernel_rfl)) rfl ?_;exact⟨by first |rfl |(rw [hA];rfl),dM hB2 _ _ _ _⟩
theorem KA (w:World)(c:UInt8)(r:Bt)(hs:(c :: r).length<=281474976710656)(hl:dS c=false)(hd:bK c=true):
  Calls Tryz.prog 155 #[sv (c :: r)] w fun e w'=>e=.returned (QF (dV (c :: r)))∧Below w.heap.size w w':=by
 obtain⟨s,hsc⟩:∃s,s=c :: r:=⟨_,rfl⟩
 have hsz:=bZ s;have hl1:1<=s.length:=by rw [hsc];simp
 have Vp:(ByteArray.mk s.toArray)[0]'(by omega)=c:=by
  have:=dW s 0 (by omega);rw [this];simp [hsc]
 have hA:dV s=if(dx (s.take (dG bK s))).2 then .inr (3,s.take (dG bK s),dG bK s)else .inl 3:=by
  rw [hsc,dV,if_neg (by simp [hl]),if_pos hd]
 rw [<-hsc]at hs ⊢;clear hsc;have HA:=aZ hA;clear hA;generalize dV s=ans at*
 have hd0:=heap_alloc_new w (.cells #[.int .i64 0,sv [],.int .i64 0,.int .i64 0] 154);have hb0:Below w.heap.size w (w.alloc (.cells #[.int .i64 0,sv [],.int .i64 0,.int .i64 0] 154)):=(Below.refl _ _).alloc (Nat.le_refl _) _;go_enter Tryz.func155,Tryz.ntmps155;go_wp2_with fail;generalize w.alloc (.cells #[.int .i64 0,sv [],.int .i64 0,.int .i64 0] 154)=w0 at*
 refine(lX c _).mono ?_;rintro e w0 ⟨rfl,rfl⟩;go_wp2_with fail;refine(nH c _).mono ?_;rintro e w0 ⟨rfl,rfl⟩;rw [hd];clear Vp;go_wp2_with fail
 go_loop [7] (fun v7=>∃i:Nat,v7=.int .i64 i∧i<=s.length∧∀j (hj:j<s.length),j<i->bK s[j]=true) (fun v7=>s.length - (intOf v7).toNat)
 case atStart=>exact⟨0,rfl,by omega,fun j hj h=>by omega⟩
 case round=>
  obtain⟨i,rfl,hi,hall⟩:=hrel;by_cases hlt:i<s.length
  ·have hix:=dW s i hlt;have hnext:bK s[i]=true->∀j (hj:j<s.length),j<i+1->bK s[j]=true:=by
    intro h j hj hji;rcases Nat.lt_or_ge j i with h1 |h1
    ·exact hall j hj h1
    ·obtain rfl:j=i:=by omega
     exact h
   have hstop:bK s[i]=false->dG bK s=i:=fun h=>EC _ s i hi hall (.inr ⟨hlt,h⟩);have kF:=aZ hnext;have vM:=aZ hstop;clear hall hnext hstop;generalize hX:s[i]=X at*
   clear hX;go_wp2_with fail;refine(lX X _).mono ?_;rintro e w0 ⟨rfl,rfl⟩;go_wp2_with fail;refine(nH X _).mono ?_;rintro e w0 ⟨rfl,rfl⟩;cases hq2:bK X
   ·cases hq1:dS X
    ·have hq:=vM.o hq2;rw [hq]at HA;clear kF vM hix hq;generalize i=n at*
     have hex:ByteArray.extract ⟨s.toArray⟩ 0 n=⟨(s.take n).toArray⟩:=by
      have h:=fP s 0 n;rw [List.drop_zero]at h;injection h
     have hA:=HA.o;clear HA;have hxl:(s.take n).length<=281474976710656:=by rw [List.length_take];omega
     generalize s.take n=x at*
     have hP:=pO ⟨x.toArray⟩ w0 (by rw [bZ];exact hxl);go_wp2_with fail;refine hP.mono ?_;rintro e w2 ⟨rfl,rfl⟩;simp only [show(ByteArray.mk x.toArray).data.toList=x from rfl];generalize dx x=pv at*
     obtain⟨pn,pb⟩:=pv;obtain⟨⟨e0,e1,e2,e3⟩,g0,g1,g2,g3⟩:=mH hd0;simp only at hA ⊢;cases pb with
     |true=>
      rw [if_pos rfl]at hA;go_wp2_with fail;refine bodyPost_ret (bG rfl _ _ w.heap.size _ _ _ _ rfl (dF hd0 _ _ _ _) Tryz.underlying154 rfl (by kernel_rfl)) rfl ?_;exact⟨by first |rfl |(rw [hA];rfl),dM hb0 _ _ _ _⟩
     |false=>
      rw [if_neg (by simp)]at hA;go_wp2_with fail;refine bodyPost_ret (bG rfl _ _ w.heap.size _ _ _ _ rfl (dF hd0 _ _ _ _) Tryz.underlying154 rfl (by kernel_rfl)) rfl ?_;exact⟨by first |rfl |(rw [hA];rfl),dM hb0 _ _ _ _⟩
    ·have hq:=vM.o hq2;rw [hq]at HA;clear kF vM hix hq;generalize i=n at*
     have hex:ByteArray.extract ⟨s.toArray⟩ 0 n=⟨(s.take n).toArray⟩:=by
      have h:=fP s 0 n;rw [List.drop_zero]at h;injection h
     have hA:=HA.o;clear HA;have hxl:(s.take n).length<=281474976710656:=by rw [List.length_take];omega
     generalize s.take n=x at*
     have hP:=pO ⟨x.toArray⟩ w0 (by rw [bZ];exact hxl);go_wp2_with fail;refine hP.mono ?_;rintro e w2 ⟨rfl,rfl⟩;simp only [show(ByteArray.mk x.toArray).data.toList=x from rfl];generalize dx x=pv at*
     obtain⟨pn,pb⟩:=pv;obtain⟨⟨e0,e1,e2,e3⟩,g0,g1,g2,g3⟩:=mH hd0;simp only at hA ⊢;cases pb with
     |true=>
      rw [if_pos rfl]at hA;go_wp2_with fail;refine bodyPost_ret (bG rfl _ _ w.heap.size _ _ _ _ rfl (dF hd0 _ _ _ _) Tryz.underlying154 rfl (by kernel_rfl)) rfl ?_;exact⟨by first |rfl |(rw [hA];rfl),dM hb0 _ _ _ _⟩
     |false=>
      rw [if_neg (by simp)]at hA;go_wp2_with fail;refine bodyPost_ret (bG rfl _ _ w.heap.size _ _ _ _ rfl (dF hd0 _ _ _ _) Tryz.underlying154 rfl (by kernel_rfl)) rfl ?_;exact⟨by first |rfl |(rw [hA];rfl),dM hb0 _ _ _ _⟩
   ·cases hq1:dS X
    ·have HN:=aZ (kF.o hq2);clear kF vM hix;go_wp2_with fail
     go_round
     case rel=>exact⟨i+1,rfl,by omega,HN.o⟩
     case measure=>simp [intOf];omega
    ·have HN:=aZ (kF.o hq2);clear kF vM hix;go_wp2_with fail
     go_round
     case rel=>exact⟨i+1,rfl,by omega,HN.o⟩
     case measure=>simp [intOf];omega
  ·have hi2:i=s.length:=by omega
   have hq:=EC _ s i hi hall (.inl hi2);rw [hq]at HA;clear hall hq;have hlt':¬(i:Int)<s.length:=by omega
   clear hi2;generalize i=n at*
   have hex:ByteArray.extract ⟨s.toArray⟩ 0 n=⟨(s.take n).toArray⟩:=by
    have h:=fP s 0 n;rw [List.drop_zero]at h;injection h
   have hA:=HA.o;clear HA;have hxl:(s.take n).length<=281474976710656:=by rw [List.length_take];omega
   generalize s.take n=x at*
   have hP:=pO ⟨x.toArray⟩ w0 (by rw [bZ];exact hxl);go_wp2_with fail;refine hP.mono ?_;rintro e w2 ⟨rfl,rfl⟩;simp only [show(ByteArray.mk x.toArray).data.toList=x from rfl];generalize dx x=pv at*
   obtain⟨pn,pb⟩:=pv;obtain⟨⟨e0,e1,e2,e3⟩,g0,g1,g2,g3⟩:=mH hd0;simp only at hA ⊢;cases pb with
   |true=>
    rw [if_pos rfl]at hA;go_wp2_with fail;refine bodyPost_ret (bG rfl _ _ w.heap.size _ _ _ _ rfl (dF hd0 _ _ _ _) Tryz.underlying154 rfl (by kernel_rfl)) rfl ?_;exact⟨by first |rfl |(rw [hA];rfl),dM hb0 _ _ _ _⟩
   |false=>
    rw [if_neg (by simp)]at hA;go_wp2_with fail;refine bodyPost_ret (bG rfl _ _ w.heap.size _ _ _ _ rfl (dF hd0 _ _ _ _) Tryz.underlying154 rfl (by kernel_rfl)) rfl ?_;exact⟨by first |rfl |(rw [hA];rfl),dM hb0 _ _ _ _⟩
theorem KC (w:World)(c:UInt8)(r:Bt)(hs:(c :: r).length<=281474976710656)(hl:dS c=false)(hd:bK c=false)(CP:c.toNat=34):
  Calls Tryz.prog 155 #[sv (c :: r)] w fun e w'=>e=.returned (QF (dV (c :: r)))∧Below w.heap.size w w':=by
 obtain⟨s,hsc⟩:∃s,s=c :: r:=⟨_,rfl⟩
 have hsz:=bZ s;have hl1:1<=s.length:=by rw [hsc];simp
 have Vp:(ByteArray.mk s.toArray)[0]'(by omega)=c:=by
  have:=dW s 0 (by omega);rw [this];simp [hsc]
 have hA:dV s=Ib s:=by
  unfold Ib;rw [hsc,dV,if_neg (by simp [hl]),if_neg (by simp [hd]),if_pos CP];cases lI (c :: r)with
  |none=>rfl
  |some x=>rfl
 unfold Ib at hA;have ax3:((c.toNat:Int)==34)=true:=by rw [beq_iff_eq];omega
 clear CP;have hqn:∀t n,lI s=some (t,n)->0<n:=by
  intro t n h;unfold lI at h;have:=(sK h).1;simp only at this;omega
 rw [<-hsc]at hs ⊢;clear hsc;have HQ:=aZ (NJ (w.alloc (.cells #[.int .i64 0,sv [],.int .i64 0,.int .i64 0] 154)) s hs hl1);generalize lI s=q at*
 generalize dV s=ans at*
 have hd0:=heap_alloc_new w (.cells #[.int .i64 0,sv [],.int .i64 0,.int .i64 0] 154);have hb0:Below w.heap.size w (w.alloc (.cells #[.int .i64 0,sv [],.int .i64 0,.int .i64 0] 154)):=(Below.refl _ _).alloc (Nat.le_refl _) _;go_enter Tryz.func155,Tryz.ntmps155;go_wp2_with fail;generalize w.alloc (.cells #[.int .i64 0,sv [],.int .i64 0,.int .i64 0] 154)=w0 at*
 refine(lX c _).mono ?_;rintro e w0 ⟨rfl,rfl⟩;go_wp2_with fail;refine(nH c _).mono ?_;rintro e w0 ⟨rfl,rfl⟩;rw [hd];go_wp2_with fail;refine HQ.o.mono ?_;rintro e w2 ⟨rfl,rfl⟩;clear HQ;obtain⟨⟨e0,e1,e2,e3⟩,g0,g1,g2,g3⟩:=mH hd0;rcases q with _ |⟨t,n⟩
 ·simp only at hA;unfold wE;go_wp2_with fail;refine bodyPost_ret (bG rfl _ _ w.heap.size _ _ _ _ rfl (dF hd0 _ _ _ _) Tryz.underlying154 rfl (by kernel_rfl)) rfl ?_;exact⟨by first |rfl |(rw [hA];rfl),dM hb0 _ _ _ _⟩
 ·simp only at hA;have hn:=hqn t n rfl;have hn0:¬(n:Int)=0:=by omega
  have hst:=bZ t;clear hqn;unfold wE;by_cases Wv:256<t.length
  ·rw [if_pos Wv]at hA;go_wp2_with fail;refine bodyPost_ret (bG rfl _ _ w.heap.size _ _ _ _ rfl (dF hd0 _ _ _ _) Tryz.underlying154 rfl (by kernel_rfl)) rfl ?_;exact⟨by first |rfl |(rw [hA];rfl),dM hb0 _ _ _ _⟩
  ·rw [if_neg Wv]at hA;go_wp2_with fail;refine bodyPost_ret (bG rfl _ _ w.heap.size _ _ _ _ rfl (dF hd0 _ _ _ _) Tryz.underlying154 rfl (by kernel_rfl)) rfl ?_;exact⟨by first |rfl |(rw [hA];rfl),dM hb0 _ _ _ _⟩
theorem NK (w:World)(c:UInt8)(r:Bt)(hs:(c :: r).length<=281474976710656)(hl:dS c=false)(hd:bK c=false)(CP:¬c.toNat=34):
  Calls Tryz.prog 155 #[sv (c :: r)] w fun e w'=>e=.returned (QF (dV (c :: r)))∧Below w.heap.size w w':=by
 obtain⟨s,hsc⟩:∃s,s=c :: r:=⟨_,rfl⟩
 have hsz:=bZ s;have hl1:1<=s.length:=by rw [hsc];simp
 have Vp:(ByteArray.mk s.toArray)[0]'(by omega)=c:=by
  have:=dW s 0 (by omega);rw [this];simp [hsc]
 have hA:dV s=if rP c s=0 then .inl 5 else .inr (5,s.take (rP c s),rP c s):=by
  rw [hsc,dV,if_neg (by simp [hl]),if_neg (by simp [hd]),if_neg CP];by_cases hp:(c :: r).take 2∈cu
  ·rw [if_pos hp,NI hp,if_neg (by omega)]
  ·rw [if_neg hp];by_cases h1:c∈dZ
   ·rw [if_pos h1,sign_one hp h1,if_neg (by omega)];rfl
   ·rw [if_neg h1,Jz hp h1,if_pos rfl]
 have HG:=aZ (Vo (w.alloc (.cells #[.int .i64 0,sv [],.int .i64 0,.int .i64 0] 154)) c r hs);have hgl:rP c s<=s.length:=by
  unfold rP;split
  ·rename_i h
   have:=BG _ h;rw [List.length_take]at this;omega
  ·split
   ·exact hl1
   ·omega
 rw [<-hsc]at hs HG ⊢;clear hsc;generalize rP c s=n at*
 generalize dV s=ans at*
 have hd0:=heap_alloc_new w (.cells #[.int .i64 0,sv [],.int .i64 0,.int .i64 0] 154);have hb0:Below w.heap.size w (w.alloc (.cells #[.int .i64 0,sv [],.int .i64 0,.int .i64 0] 154)):=(Below.refl _ _).alloc (Nat.le_refl _) _;go_enter Tryz.func155,Tryz.ntmps155;go_wp2_with fail;generalize w.alloc (.cells #[.int .i64 0,sv [],.int .i64 0,.int .i64 0] 154)=w0 at*
 refine(lX c _).mono ?_;rintro e w0 ⟨rfl,rfl⟩;go_wp2_with fail;refine(nH c _).mono ?_;rintro e w0 ⟨rfl,rfl⟩;rw [hd];go_wp2_with fail;refine HG.o.mono ?_;rintro e w2 ⟨rfl,hb2⟩;clear HG;have hd2:=ah hd0 (Turn.of_below (F:=fun _=>False) hb2) id;have hB2:=V6 hb0 hb2;obtain⟨⟨e0,e1,e2,e3⟩,g0,g1,g2,g3⟩:=mH hd2;have hex:ByteArray.extract ⟨s.toArray⟩ 0 n=⟨(s.take n).toArray⟩:=by
  have h:=fP s 0 n;rw [List.drop_zero]at h;injection h
 by_cases h0:n=0
 ·subst h0;rw [if_pos rfl]at hA;go_wp2_with fail;refine bodyPost_ret (bG rfl _ _ w.heap.size _ _ _ _ rfl (dF hd2 _ _ _ _) Tryz.underlying154 rfl (by kernel_rfl)) rfl ?_;exact⟨by first |rfl |(rw [hA];rfl),dM hB2 _ _ _ _⟩
 ·rw [if_neg h0]at hA;have hn0:¬(n:Int)=0:=by omega
  go_wp2_with fail;refine bodyPost_ret (bG rfl _ _ w.heap.size _ _ _ _ rfl (dF hd2 _ _ _ _) Tryz.underlying154 rfl (by kernel_rfl)) rfl ?_;exact⟨by first |rfl |(rw [hA];rfl),dM hB2 _ _ _ _⟩
theorem QG (w:World)(s:Bt)(hs:s.length<=281474976710656)(h1:1<=s.length):
  Calls Tryz.prog 155 #[sv s] w fun e w'=>e=.returned (QF (dV s))∧Below w.heap.size w w':=by
 cases s with
 |nil=>simp at h1
 |cons c r=>
  cases hl:dS c with
  |true=>exact IB w c r hs hl
  |false=>
   cases hd:bK c with
   |true=>exact KA w c r hs hl hd
   |false=>
    by_cases CP:c.toNat=34
    ·exact KC w c r hs hl hd CP
    ·exact NK w c r hs hl hd CP
theorem Cz {w:World}{b:Nat}(h:w.heap[b]? =some (.cells #[.int .i64 0,.int .i64 0,.int .i64 0,.int .i64 0] 45 (0,0))):
  (w.cell? ⟨b,0,none⟩=some (.int .i64 0)∧w.cell? ⟨b,1,none⟩=some (.int .i64 0)∧w.cell? ⟨b,2,none⟩=some (.int .i64 0)∧w.cell? ⟨b,3,none⟩=some (.int .i64 0))∧
  (w.frozen? ⟨b,0,none⟩=false∧w.frozen? ⟨b,1,none⟩=false∧w.frozen? ⟨b,2,none⟩=false∧w.frozen? ⟨b,3,none⟩=false):=
 ⟨⟨(cell_of_row _ _ _ _ _ (0,0) h).trans rfl,(cell_of_row _ _ _ _ _ (0,0) h).trans rfl,(cell_of_row _ _ _ _ _ (0,0) h).trans rfl,(cell_of_row _ _ _ _ _ (0,0) h).trans rfl⟩,bE h 0,bE h 1,bE h 2,bE h 3⟩
theorem Bo {s:Bt}(a:Nat):ByteArray.extract ⟨s.toArray⟩ a s.length=⟨(s.drop a).toArray⟩:=by
 have h:=fP s a s.length;rw [List.take_length]at h;injection h
structure afZ (s:Bt) (ans:List aI ×(Nat ×Nat ×Int)) (w0 wr:World) (f a:Nat) (p:Nat ×Nat) (out:List aI) (v:Value):Prop where
 row:wr.ownsRow w0.heap.size 154 4 v out.length (dw out)
 le:a<=s.length
 fuel:s.length - a<f
 eq:oF f (s.drop a) p out=ans
 b1:p.1<=1+a
 b2:p.2<=1+a
 b3:1<=p.2
 Uk:out.length<=8192
 bel:Below w0.heap.size w0 wr
theorem aae (w:World)(s:Bt):Calls Tryz.prog 93 #[sv s] w fun e w'=>Rc (fQ s) w e w':=by
 have hsz:=bZ s;by_cases hlong:65536<s.length
 ·have ha:fQ s=([],(1,1,2)):=by unfold fQ;rw [if_pos hlong]
  rw [ha];go_enter Tryz.func93,Tryz.ntmps93;go_wp2_with fail;refine bodyPost_ret (eO rfl _ _ w.heap.size _ _ _ _ rfl (heap_alloc_new w _) Tryz.underlying45 rfl (by kernel_rfl)) rfl ?_;exact⟨_,0,rfl,World.ownsRow_nil _ _ _ _,(Below.refl _ _).alloc (Nat.le_refl _) _⟩
 ·have ha:fQ s=oF (s.length+1) s (1,1) []:=by unfold fQ;rw [if_neg hlong]
  rw [ha];clear ha;generalize uK:oF (s.length+1) s (1,1) []=ans;have arR:=aZ uK;clear uK;have hd0:=heap_alloc_new w (.cells #[.int .i64 0,.int .i64 0,.int .i64 0,.int .i64 0] 45);have hb0:Below w.heap.size w (w.alloc (.cells #[.int .i64 0,.int .i64 0,.int .i64 0,.int .i64 0] 45)):=(Below.refl _ _).alloc (Nat.le_refl _) _;have hs0:(w.alloc (.cells #[.int .i64 0,.int .i64 0,.int .i64 0,.int .i64 0] 45)).heap.size=w.heap.size+1:=by simp
  go_enter Tryz.func93,Tryz.ntmps93;go_wp2_with fail;generalize w.alloc (.cells #[.int .i64 0,.int .i64 0,.int .i64 0,.int .i64 0] 45)=w0 at*
  have HD0:=aZ hd0;clear hd0;go_loopw [4,5,6,7,8,9,10,11,12] (fun v4 v5 v6 v7 v8 v9 v10 v11 v12 wr=>∃(f a:Nat) (p:Nat ×Nat) (out:List aI),v5=.int .i64 p.1∧v6=.int .i64 p.2∧v7=.int .i64 a∧afZ s ans w0 wr f a p out v4) (fun _ _ _ v7 _ _ _ _ _ _=>s.length+1 - (intOf v7).toNat)
  case atStart=>exact⟨s.length+1,0,(1,1),[],rfl,rfl,rfl,⟨World.ownsRow_nil _ _ _ _,by omega,by omega,arR.o,by omega,by omega,by omega,by simp,Below.refl _ _⟩⟩
  case round=>
   obtain⟨f,a,p,out,rfl,rfl,rfl,hR⟩:=hrel;obtain⟨f',rfl⟩:∃f',f=f'+1:=⟨f - 1,by have:=hR.fuel;omega⟩
   obtain⟨hrow,hle,hfuel,heq,hb1,hb2,hb3,avl,hbel⟩:=hR;rw [oF]at heq;obtain⟨x,hx⟩:∃x,x=s.drop a:=⟨_,rfl⟩
   have hxl:x.length=s.length - a:=by rw [hx,List.length_drop]
   have hsk:bJ x<=x.length:=zL false x;have arS:ByteArray.extract ⟨s.toArray⟩ a s.length=⟨x.toArray⟩:=by rw [Bo,hx]
   have hget:∀i (h1:a<=i) (h2:i<s.length),s[i]=x[i - a]'(by omega):=by
    intro i h1 h2;subst hx;rw [List.getElem_drop];congr 1;omega
   have hy:x.drop (bJ x)=s.drop (a+bJ x):=by rw [hx,List.drop_drop]
   rw [<-hx]at heq;have HX:=aZ hx;clear hx;obtain⟨A,c,rfl,hoc⟩:=QE hrow;unfold maxLen at hoc;have eu:=aZ hrow;have HEQ:=aZ heq;have aiD:=aZ hget;have HY:=aZ hy;clear hrow heq hget hy;go_wp2_with fail;refine(QD _ x (by omega)).mono ?_;rintro e wr ⟨rfl,rfl⟩;generalize hm:bJ x=m at*
   clear hm;clear arS;obtain⟨q,hq⟩:∃q,q=fK p (x.take m):=⟨_,rfl⟩
   have hql:=nO (x.take m) hb3;rw [<-hq]at hql;have HQ:=aZ hq;clear hq;rw [List.length_take,Nat.min_eq_left hsk]at hql;go_wp2_with fail
   go_loop [5,6,9] (fun v5 v6 v9=>∃i:Nat,v9=.int .i64 i∧a<=i∧i<=a+m∧v5=.int .i64 (fK p (x.take (i - a))).1∧v6=.int .i64 (fK p (x.take (i - a))).2) (fun _ _ v9=>a+m - (intOf v9).toNat)
   case atStart=>exact⟨a,rfl,by omega,by omega,by rw [Nat.sub_self];rfl,by rw [Nat.sub_self];rfl⟩
   case round=>
    obtain⟨i,rfl,hi1,hi2,rfl,rfl⟩:=hrel;by_cases hlt:i<a+m
    ·have hix:=dW s i (by omega);rw [aiD.o i hi1 (by omega)]at hix;have hstep:=IQ (p:=p) (s:=x) (k:=i - a) (by omega);rw [show i - a+1=i+1 - a by omega]at hstep;have hbd:=nO (x.take (i - a)) hb3;rw [List.length_take,Nat.min_eq_left (by omega)]at hbd;generalize x[i - a]=X at*
     generalize fK p (x.take (i - a))=r at*
     obtain⟨r1,r2⟩:=r;simp only at hbd ⊢;unfold rU at hstep;by_cases h10:X.toNat=10
     ·rw [if_pos h10]at hstep
      have key:∃i_1:Nat,Value.int .i64 ((i+1:Nat):Int)=.int .i64 i_1∧a<=i_1∧i_1<=a+m∧Value.int .i64 ((r1+1:Nat):Int)=.int .i64 (fK p (x.take (i_1 - a))).1∧Value.int .i64 ((1:Nat):Int)=.int .i64 (fK p (x.take (i_1 - a))).2:=
       ⟨i+1,rfl,by omega,by omega,by rw [hstep],by rw [hstep]⟩
      have KEY:=aZ key;clear key hstep;go_wp2_with fail
      go_round
      case rel=>exact KEY.o
      case measure=>simp [intOf];omega
     ·rw [if_neg h10]at hstep
      have key:∃i_1:Nat,Value.int .i64 ((i+1:Nat):Int)=.int .i64 i_1∧a<=i_1∧i_1<=a+m∧Value.int .i64 r1=.int .i64 (fK p (x.take (i_1 - a))).1∧Value.int .i64 ((r2+1:Nat):Int)=.int .i64 (fK p (x.take (i_1 - a))).2:=
       ⟨i+1,rfl,by omega,by omega,by rw [hstep],by rw [hstep]⟩
      have KEY:=aZ key;clear key hstep;go_wp2_with fail
      go_round
      case rel=>exact KEY.o
      case measure=>simp [intOf];omega
    ·have him:i=a+m:=by omega
     have hia:i - a=m:=by omega
     rw [hia,<-HQ.o];have hlt2:¬(i:Int)<(a:Int)+m:=by omega
     clear hia him hi1 hi2 hlt;obtain⟨q1,q2⟩:=q;simp only at hql ⊢;have heq:=HEQ.o;have hhq:=HQ.o;rw [<-hhq,HY.o]at heq;simp only at heq;have aag:=aZ heq;have jI:=aZ hhq;clear heq hhq HEQ HQ;have aiE:=aZ hbel;obtain⟨at_,hat⟩:∃b:Nat,b=a+m:=⟨_,rfl⟩
     have hyl:(s.drop at_).length=s.length - at_:=by rw [List.length_drop]
     have aiF:ByteArray.extract ⟨s.toArray⟩ at_ s.length=⟨(s.drop at_).toArray⟩:=Bo at_;rw [<-hat]at aag;by_cases hend:at_=s.length
     ·have hae:(s.length:Int)<=(a:Int)+m:=by omega
      have hr:=aag.o;have hnil:s.drop at_=[]:=by rw [hend,List.drop_length]
      rw [hnil,if_pos rfl]at hr;have HR:=aZ hr;have BL:Sl (wr.alloc (.cells #[.int .i64 0,sv [],.int .i64 q1,.int .i64 q2] 154)) (wr.heap.size+1) 4 (.slice (some ⟨wr.heap.size,0,none⟩) 1 1) (ny ⟨0,[],q1,q2⟩):=gX wr _ _ 4 1 rfl (by decide);have fM:=eu.o.alloc (.cells #[.int .i64 0,sv [],.int .i64 q1,.int .i64 q2] 154);have h63:out.length*4+(ny ⟨0,[],q1,q2⟩).length<=maxLen:=by show out.length*4+4<=maxLen;unfold maxLen;omega
      have hbytes:(out.length*4+(ny ⟨0,[],q1,q2⟩).length)*40<=140737488355328:=by show(out.length*4+4)*40<= _;omega
      have JU:=aiE.o.alloc aiE.o.size (.cells #[.int .i64 0,sv [],.int .i64 q1,.int .i64 q2] 154);clear hr hnil aiF hyl aag aiD HY HX;go_wp2_with (at_builtin;refine eU rfl (.tmp 44) (.tmp 48) _ rfl w0.heap.size EY _ _ rfl rfl fM BL (zW ⟨0,[],q1,q2⟩) h63 hbytes (jy hbel.size _) (fun v' w9 n' fI vB kT=>?_);have xQ:=below_app JU fM vB (Nat.le_refl _) (jy hbel.size _);have hd9:=ah HD0.o (Turn.of_below (F:=fun _=>False) xQ) id;obtain⟨⟨e0,e1,e2,e3⟩,g0,g1,g2,g3⟩:=Cz hd9;clear vB kT fM BL);refine bodyPost_ret (eO rfl _ _ w.heap.size _ _ _ _ rfl (dF hd9 _ _ _ _) Tryz.underlying45 rfl (by kernel_rfl)) rfl ?_;have hr:=HR.o;have t9:=sP w9 w.heap.size (.int .i64 0) (.int .i64 0) (.int .i64 0) (.int .i64 0);have aiG:=dN fI t9 (fun g hg h=>by have:=(fI.lt g hg).1;omega);have hfin:=dM (hb0.trans (xQ.mono (by omega))) (.int .i64 0) (.int .i64 0) (.int .i64 0) (.int .i64 0);rw [<-hr];refine⟨v',n',rfl,?_,hfin⟩;simp only [nK];exact zJ aiG (by omega)
     ·have hae:¬(s.length:Int)<=(a:Int)+m:=by omega
      have hne:s.drop at_≠[]:=by intro h;rw [h]at hyl;simp at hyl;omega
      have hr:=aag.o;rw [if_neg hne]at hr;have HR:=aZ hr;have anH:1<=(s.drop at_).length:=by omega
      have anI:∀kd t n,dV (s.drop at_)=.inr (kd,t,n)->1<=n∧n<=s.length - at_∧fK (q1,q2) ((s.drop at_).take n)=(q1,q2+n):=by
       intro kd t n h;have h1:=zM h;refine⟨h1.1,by rw [hyl]at h1;exact h1.2,?_⟩;rw [NG _ (Kz h),List.length_take,Nat.min_eq_left h1.2]
      have Tn:∀e,dV (s.drop at_)=.inl e->e≠0:=fun e h=>xD h;have ac0:=aZ anI;have HDD:∀n,(s.drop at_).drop n=s.drop (at_+n):=fun n=>by rw [List.drop_drop]
      have HDR:=aZ HDD;have hcast:((at_:Nat):Int)=(a:Int)+m:=by omega
      clear hr hne aag aiD HY HX anI HDD;generalize s.drop at_=y at*
      rw [hat]at aiF;have hT:=QG wr y (by omega) anH;have HT:=aZ hT;clear hT anH hyl;go_wp2_with fail;refine HT.o.mono ?_;rintro e w5 ⟨rfl,hb5⟩;clear HT aiF;have Em:=aiE.o.trans (hb5.mono hbel.size);have aah:=own_below eu.o hb5;have hd5:=ah HD0.o (Turn.of_below (F:=fun _=>False) Em) id;clear eu hb5;cases hn:dV y with
      |inl e=>
       have hr:=HR.o;rw [hn]at hr;simp only at hr;have HR2:=aZ hr;have he:=Tn e hn;have heb:(e==0)=false:=by rw [beq_eq_false_iff_ne];exact he
       have hB6:=Em.alloc Em.size (.cells #[.int .i64 0,sv [],.int .i64 0,.int .i64 0] 154);have hd6:=ah HD0.o (Turn.of_below (F:=fun _=>False) hB6) id;obtain⟨⟨e0,e1,e2,e3⟩,g0,g1,g2,g3⟩:=Cz hd6;unfold QF;simp only [];clear hr HR ac0 Tn hn aah hd5 HDR;go_wp2_with fail;refine bodyPost_ret (eO rfl _ _ w.heap.size _ _ _ _ rfl (dF hd6 _ _ _ _) Tryz.underlying45 rfl (by kernel_rfl)) rfl ?_;rw [<-HR2.o];exact⟨_,0,rfl,World.ownsRow_nil _ _ _ _,dM (hb0.trans (hB6.mono (by omega))) _ _ _ _⟩
      |inr xx=>
       obtain⟨kd,t,n⟩:=xx;have hr:=HR.o;rw [hn]at hr;simp only at hr;obtain⟨n1,n2,n3⟩:=ac0.o kd t n hn;unfold QF;simp only [];by_cases h8:out.length=8192
       ·rw [if_pos h8]at hr;have HR2:=aZ hr;have h8b:((out.length:Int)==8192)=true:=by rw [beq_iff_eq];omega
        have hB6:=Em.alloc Em.size (.cells #[.int .i64 kd,sv t,.int .i64 0,.int .i64 0] 154);have hd6:=ah HD0.o (Turn.of_below (F:=fun _=>False) hB6) id;obtain⟨⟨e0,e1,e2,e3⟩,g0,g1,g2,g3⟩:=Cz hd6;clear hr HR ac0 Tn hn aah hd5 HDR n3 h8;go_wp2_with fail;refine bodyPost_ret (eO rfl _ _ w.heap.size _ _ _ _ rfl (dF hd6 _ _ _ _) Tryz.underlying45 rfl (by kernel_rfl)) rfl ?_;rw [<-HR2.o];exact⟨_,0,rfl,World.ownsRow_nil _ _ _ _,dM (hb0.trans (hB6.mono (by omega))) _ _ _ _⟩
       ·rw [if_neg h8,n3,HDR.o]at hr;have h8b:((out.length:Int)==8192)=false:=by rw [beq_eq_false_iff_ne];omega
        have hB6:=Em.alloc Em.size (.cells #[.int .i64 kd,sv t,.int .i64 q1,.int .i64 q2] 154);have hB7:=hB6.alloc hB6.size (.cells #[.int .i64 kd,sv t,.int .i64 q1,.int .i64 q2] 154);have fM:=(aah.alloc (.cells #[.int .i64 kd,sv t,.int .i64 q1,.int .i64 q2] 154)).alloc (.cells #[.int .i64 kd,sv t,.int .i64 q1,.int .i64 q2] 154);have BL:Sl ((w5.alloc (.cells #[.int .i64 kd,sv t,.int .i64 q1,.int .i64 q2] 154)).alloc (.cells #[.int .i64 kd,sv t,.int .i64 q1,.int .i64 q2] 154)) ((w5.alloc (.cells #[.int .i64 kd,sv t,.int .i64 q1,.int .i64 q2] 154)).heap.size+1) 4 (.slice (some ⟨(w5.alloc (.cells #[.int .i64 kd,sv t,.int .i64 q1,.int .i64 q2] 154)).heap.size,0,none⟩) 1 1) (ny ⟨kd,t,q1,q2⟩):=gX _ _ _ 4 1 rfl (by decide);have s6:(w5.alloc (.cells #[.int .i64 kd,sv t,.int .i64 q1,.int .i64 q2] 154)).heap.size=w5.heap.size+1:=by simp
        rw [s6]at BL;have h63:out.length*4+(ny ⟨kd,t,q1,q2⟩).length<=maxLen:=by show out.length*4+4<=maxLen;unfold maxLen;omega
        have hbytes:(out.length*4+(ny ⟨kd,t,q1,q2⟩).length)*40<=140737488355328:=by show(out.length*4+4)*40<= _;omega
        have key:∀v' w9 n',w9.ownsRow w0.heap.size 154 4 v' n' (dw out++ny ⟨kd,t,q1,q2⟩)->Below w0.heap.size w0 w9->afZ s ans w0 w9 f' (at_+n) (q1,q2+n) (out++[⟨kd,t,q1,q2⟩]) v':=by
         intro v' w9 n' h1 h2;have h3:n'=(out++[(⟨kd,t,q1,q2⟩:aI)]).length:=by
          have h4:=h1.1;rw [List.length_append,lC]at h4;have h5:(ny ⟨kd,t,q1,q2⟩).length=4:=rfl;rw [List.length_append,List.length_singleton];omega
         subst h3;rw [<-nK]at h1;exact⟨h1,by omega,by omega,hr,by simp only;omega,by simp only;omega,by simp only;omega,by simp;omega,h2⟩
        have KEY:=aZ key;have hcm:(a:Int)+m+n=((at_+n:Nat):Int):=by omega
        have HCM:=aZ hcm;have hw1:IntKind.i64.wrap ((a:Int)+m+n)=(a:Int)+m+n:=by rw [K5];exact II (by unfold In64;omega)
        have hw2:IntKind.i64.wrap ((q2:Int)+n)=(q2:Int)+n:=by rw [K5];exact II (by unfold In64;omega)
        clear hcm;clear hr HR ac0 Tn hn hd5 HDR n3 h8 key;go_wp2_with (at_builtin;refine eU rfl (.tmp 76) (.tmp 78) _ rfl w0.heap.size EY _ _ rfl rfl fM BL (zW ⟨kd,t,q1,q2⟩) h63 hbytes hB7.size (fun v' w9 n' fI vB kT=>?_);have xQ:=below_app hB7 fM vB (Nat.le_refl _) hB7.size;have hK:=aZ (KEY.o v' w9 n' fI xQ);clear vB kT fM BL fI);go_wp2_with fail
        go_roundw
        case rel=>exact⟨f',at_+n,(q1,q2+n),_,rfl,rfl,by rw [<-HCM.o],hK.o⟩
        case measure=>simp [intOf];omega
def KD (pb ib base bp:Nat)(s0:Bt)(t:aI)(w:World)(l:List Bt):Prop:=
 w.heap[pb]? =some (.cells #[.pointer (some ⟨bp,0,none⟩)] 91 (0,0))∧∃v,w.heap[ib]? =some (.cells #[sv s0,v,.int .i64 t.line,.int .i64 t.col] 85 (0,0))∧gZ w base 9 v l
theorem KD.turn {pb ib base bp:Nat}{s0:Bt}{t:aI}{w w':World}{l:List Bt}{G:Nat->Prop}(h:KD pb ib base bp s0 t w l)(tn:Turn G w w')(h1:¬G pb)(h2:¬G ib)(h3:∀j,base<=j->j<w.heap.size->¬G j):KD pb ib base bp s0 t w' l:=by
 obtain⟨hb,v,hn,hr⟩:=h;exact⟨ah hb tn h1,v,ah hn tn h2,hr.turn tn (fun g hg=>h3 g (hr.lt g hg).1 (hr.lt g hg).2)⟩
theorem yL (d:Int)(w:World)(bp B pb ib base:Nat)(s0:Bt)(t:aI)(ts:List aI)(l:List Bt)(hl:l.length<=8193)(h:bX w bp B ts d)(hI:KD pb ib base bp s0 t w l)(p1:bp<pb)(p2:bp<ib)(p3:pb<base)(p4:ib<base)(p5:pb≠ib)(p6:base<=w.heap.size):
  Calls Tryz.prog 152 #[.pointer (some ⟨ib,0,none⟩),.pointer (some ⟨pb,0,none⟩)] w (dX (KD pb ib base bp s0 t) (fun k=>k=bp∨k=ib∨base<=k) bp B d w (sU nameP l ts)):=by
 have hlt:=h.lt;obtain⟨Q,hQ⟩:∃Q,sU nameP l ts=Q:=⟨_,rfl⟩
 rw [hQ];have HQ:bN (aj nameP (fun x=>aF (l++[x])) ts=Q):=aZ hQ;have HN:=aZ (gL w.drew bp B ts d h);obtain⟨Qp,vk,hblk,hrow⟩:=hI;obtain⟨A1,c1,rfl,hn1,hm1⟩:=hrow.ss.open_;have hbx:=cZ Qp;obtain⟨t0,t1,t2,t3,tz⟩:=aX hblk;have Vf:=aZ Qp;have nU:=aZ hblk;have arV:=aZ hrow;have vS:=aZ hrow.lt;have P0:=aZ (fun(w':World) (h:Turn (fun j=>j=bp∨base<=j) w w')=>aN hbx h (by omega));have P2:=aZ (fun(w':World) (h:Turn (fun j=>j=bp∨base<=j) w w')=>aN t1 h (by omega));have HD0:bN (Turn (fun j=>j=bp∨base<=j) w w.drew):=aZ ⟨rfl,rfl,rfl,Nat.le_refl _,fun _ _ _=>rfl⟩;have nC:bN (Turn (fun j=>j=bp) w w.drew):=aZ ⟨rfl,rfl,rfl,Nat.le_refl _,fun _ _ _=>rfl⟩;clear h hQ Qp hblk hrow hbx t0 t1 t2 t3 tz hm1;go_enter Tryz.func152,Tryz.ntmps152;go_wp2_with fail;refine bP (S:=fun w'=>Turn (fun j=>j=bp∨base<=j) w w') (x:=9) (by kernel_rfl) ?_
 try simp only [Act.put,sq]
 refine tx 0 (.pointer (some ⟨ib,1,none⟩)) HD0.o ?_;refine jG 1 (.slice A1 l.length c1) P2.o HD0.o ?_;refine jG 2 (.pointer (some ⟨bp,0,none⟩)) P0.o HD0.o ?_;refine tx 3 (.pointer (some ⟨bp,0,none⟩)) HD0.o ?_;refine tx 4 (.pointer (some ⟨bp,0,none⟩)) HD0.o ?_;refine ay (rs:=[5]) (by kernel_rfl) (by simp) ?_;refine av.cons rfl (fun K hK=>?_) (av.nil);go_simp;refine(HN.o).mono ?_;rintro e w2 h2;rcases hq:nameP ts with g |⟨s,r⟩
 ·obtain⟨rfl,t2,b2⟩:=h2.bY hq;exact⟨rfl,dX.fail (HQ.o.symm.trans (aC hq)) (((nC.o.trans t2 (fun _ _ h=>h)).mono (G:=fun k=>k=bp∨k=ib∨base<=k) (fun _ _ h=>.inl h))) b2⟩
 ·obtain⟨v,rfl,t2w,rfl,k2⟩:=h2.aQ hq;have zD:=nC.o.trans t2w (fun _ _ h=>h);have HT2:=aZ (zD.mono (G:=fun j=>j=bp∨base<=j) (fun _ _ h=>.inl h));have gW:=aZ k2;have hs2:=zD.size;have eu:=aZ ((arV.o.turn zD (fun g hg e=>by have:=(vS.o g hg).1;omega)).alloc (.cells #[sv s] 9));have anJ:=aZ (bQ (o':= .cells #[sv s] 9) (ah nU.o zD (by omega)));have anK:=aZ (bQ (o':= .cells #[sv s] 9) (ah Vf.o zD (by omega)));have mM:bN (Pr.good (l++[s]) r=Q):=aZ ((au hq).symm.trans HQ.o);clear h2 t2w k2 hq zD;refine hK.out _ _ HT2.o ?_;clear hK K
  try simp only [Act.put,sq]
  refine ay (rs:=[6]) (by kernel_rfl) (by simp) ?_;refine av.cons rfl (fun K hK=>?_) (av.nil);go_simp;have HT3:=aZ (HT2.o.trans (Turn.alloc (fun j=>j=bp∨base<=j) w2 (.cells #[sv s] 9)) (fun _ _ h=>h));refine hK.out _ _ HT3.o ?_;clear hK K
  try simp only [Act.put,sq]
  refine ay (rs:=[7]) (by kernel_rfl) (by simp) ?_;refine av.cons rfl (fun K hK=>?_) (av.nil);have DU:=aZ (yU w2 s 9);have hlen:(pU l).length=l.length:=by simp [pU]
  refine fT rfl (.tmp 3) (.tmp 8) _ rfl base wC (.slice A1 l.length c1) (.slice (some ⟨w2.heap.size,0,none⟩) 1 1) rfl rfl eu.o.row DU.o (xE _) (by simp [pU,maxLen];omega) (by simp [pU];omega) (by simp;omega) (fun v7 w7 n7 aT jB gQ=>?_);obtain⟨A7,c7,rfl,_,_⟩:=iK aT;have tg:=Turn.bB jB (F:=fun j=>base<=j) (fun k e=>(vS.o k e).1);have iX:=aZ (HT3.o.trans (tg.mono (G:=fun j=>j=bp∨base<=j) (fun _ _ h=>.inr h)) (fun _ _ h=>h));have iU:=ah anJ.o tg (by omega);have anL:=aZ (ah anK.o tg (by omega));have kr:=aZ ((gW.o.below (new1 _ _)).turn tg (by omega) (fun k hk e=>by have:=gW.o.1;omega));have t7:w7.cell? ⟨ib,1,none⟩=some (.slice A1 l.length c1):=(cell_of_row _ _ _ _ _ _ iU).trans rfl;have z7:∀i,w7.frozen? ⟨ib,i,none⟩=false:=fun i=>frozen_of_row _ _ _ _ _ iU;have Ih:=aZ iU;have HN7:bN (gZ w7 base 9 (.slice A7 n7 c7) (l++[s])):=aZ ⟨n7,by rw [ni];exact aT⟩;clear aT jB gQ hlen tg iU;refine hK.out _ _ iX.o ?_;clear hK K
  try simp only [Act.put,sq]
  refine tx 8 (.pointer (some ⟨ib,1,none⟩)) iX.o ?_;refine ay (rs:=[9]) (by kernel_rfl) (by simp) ?_;refine av.past rfl (by kernel_rfl) (fun K hK=>?_) (av.nil);go_simp;refine hK.out _ _ ?_;clear hK K
  try simp only [Act.put,sq]
  refine aR (by kernel_rfl) ?_ _;have tl:=ak w7 ib 1 (.slice A7 n7 c7);go_end0;exact dX.done mM.o.symm ((iX.o.mono (G:=fun k=>k=bp∨k=ib∨base<=k) (fun _ _ h=>by rcases h with h |h;exact .inl h;exact .inr (.inr h))).trans tl (fun i hi e=>.inr (.inl e))) ⟨ah anL.o tl p5,_,heap_setCell_same _ _ 1 _ _ _ Ih.o,HN7.o.turn tl (fun g hg e=>by have:=(HN7.o.lt g hg).1;omega)⟩ (kr.o.turn tl (by omega) (fun k hk e=>by have:=kr.o.1;omega))
def arW (base:Nat)(w:World)(v:Value)(i:yY):Prop:=∃z:List Value,v=.agg z.toArray∧NC w (fun j=>base<=j) z i
theorem GR {bp a:Nat}{w w1:World}{v0 v1 v2 v3:Value}(h:Turn (fun k=>k=bp) w w1)(ha:w.heap.size<=a):Turn (fun k=>k=bp) w (dK w1 a v0 v1 v2 v3):=h.trans (dD w1 a v0 v1 v2 v3) (fun i hi e=>by omega)
theorem KE (w:World)(bp B:Nat)(ts:List aI)(h:bX w bp B ts 0)(t:aI):Calls Tryz.prog 91 #[.pointer (some ⟨bp,0,none⟩),uL t] w (aL (arW w.heap.size) bp B 0 w (o8 t ts)):=by
 unfold uL;have hlt:=h.lt;have hB:=h.1;obtain⟨Q,hQ⟩:∃Q,o8 t ts=Q:=⟨_,rfl⟩
 rw [hQ];have HQ:bN (aj nameP (fun s=>aj (aH [58]) fun _=>aj (iw nameP) fun l=>aj (aH [59]) fun _=>aF (⟨s,l,t.line,t.col⟩:yY)) ts=Q):=aZ hQ;obtain⟨W0,hW0⟩:∃W0,(((w.alloc (.cells #[.pointer (some ⟨bp,0,none⟩)] 91)).alloc (.cells #[.int .i64 t.kind,sv t.text,.int .i64 t.line,.int .i64 t.col] 154)).alloc (.cells #[.string ⟨#[]⟩,.slice none 0 0,.int .i64 0,.int .i64 0] 85))=W0:=⟨_,rfl⟩
 obtain⟨tw,hs0,hb0,aai,aiH⟩:=BN (G:=fun _=>False) (Turn.refl _ (((w.alloc (.cells #[.pointer (some ⟨bp,0,none⟩)] 91)).alloc (.cells #[.int .i64 t.kind,sv t.text,.int .i64 t.line,.int .i64 t.col] 154)).alloc (.cells #[.string ⟨#[]⟩,.slice none 0 0,.int .i64 0,.int .i64 0] 85)));rw [hW0]at tw hs0 hb0 aai aiH;have hs0:W0.heap.size=w.heap.size+3:=by rw [<-hW0];simp
 have hb0:=hb0 id;have aai:=aai id;have hbx:=cZ hb0;obtain⟨t0,t1,t2,t3,tz⟩:=aX aai;have Es:=aZ hb0;have OE:=aZ (aiH id);have Vq:=aZ (tw.mono (G:=fun k=>k=bp) (fun _ _ h=>h.elim));have LQ:=aZ (h.turn tw id (fun _ _=>id));have P0:=aZ (fun(w':World) (h:Turn (fun j=>j=bp) W0 w')=>aN hbx h (by omega));have PL:=aZ (fun(w':World) (h:Turn (fun j=>j=bp) W0 w')=>aN t2 h (by omega));have PC:=aZ (fun(w':World) (h:Turn (fun j=>j=bp) W0 w')=>aN t3 h (by omega));have HD0:bN (Turn (fun j=>j=bp) W0 W0.drew):=aZ ⟨rfl,rfl,rfl,Nat.le_refl _,fun _ _ _=>rfl⟩;have HW0:=aZ hW0;have hmf:∀(fn:Fn) (first cap:Array Value) (w:World),(Instr.makeFunc fn first cap).run Tryz.prog w=.ok (.func fn first cap) w:=fun _ _ _ _=>rfl;clear h hQ tw hb0 aai aiH hbx t0 t1 t2 t3 tz hW0;go_enter Tryz.func91,Tryz.ntmps91;go_wp2_with fail;rw [HW0.o];refine bP (S:=fun w'=>Turn (fun j=>j=bp) W0 w') (x:=10) (by kernel_rfl) ?_
 try simp only [Act.put,sq]
 refine jG 0 (.pointer (some ⟨bp,0,none⟩)) P0.o HD0.o ?_;refine tx 1 (.pointer (some ⟨bp,0,none⟩)) HD0.o ?_;refine tx 2 (.pointer (some ⟨bp,0,none⟩)) HD0.o ?_;refine tx 4 (.pointer (some ⟨w.heap.size+1,2,none⟩)) HD0.o ?_;refine jG 5 (.int .i64 t.line) PL.o HD0.o ?_;refine tx 6 (.pointer (some ⟨w.heap.size+1,3,none⟩)) HD0.o ?_;refine jG 7 (.int .i64 t.col) PC.o HD0.o ?_;refine ay (rs:=[3,9]) (by kernel_rfl) (by simp) ?_;refine av.cons rfl (fun K hK=>?_) (av.cons rfl (fun K hK=>?_) av.nil)
 ·go_simp;refine(gL W0.drew bp B ts 0 LQ.o).mono ?_;rintro e w1 h1;rcases hq:nameP ts with g |⟨s,r1⟩
  ·obtain⟨rfl,tn,bn⟩:=h1.bY hq;have dP:=aZ (HQ.o.symm.trans (aC hq));exact⟨rfl,aL.fail dP.o (eP.mk2 (aB Vq.o (aB HD0.o tn)) bn)⟩
  ·obtain⟨v1,rfl,tn,rfl,kn⟩:=h1.aQ hq;have wI:=aZ (aB HD0.o tn);have hs1:=tn.size;simp at hs1;have mM:bN (aj (aH [58]) (fun _=>aj (iw nameP) fun l=>aj (aH [59]) fun _=>aF (⟨s,l,t.line,t.col⟩:yY)) r1=Q):=aZ ((au hq).symm.trans HQ.o);have HT1:=aZ (aB (aB Vq.o wI.o) (Turn.alloc (fun k=>k=bp) w1 (.cells #[sv s,.slice none 0 0,.int .i64 t.line,.int .i64 t.col] 85)));have iI:=aZ (kn.below (new1 w1 (.cells #[sv s,.slice none 0 0,.int .i64 t.line,.int .i64 t.col] 85)));have qL:=aZ (bQ (o':=(.cells #[sv s,.slice none 0 0,.int .i64 t.line,.int .i64 t.col] 85)) (ah OE.o wI.o (by omega)));have uN:=aZ (bQ (o':=(.cells #[sv s,.slice none 0 0,.int .i64 t.line,.int .i64 t.col] 85)) (ah Es.o wI.o (by omega)));have aiI:=aZ (wJ w1 (.cells #[sv s,.slice none 0 0,.int .i64 t.line,.int .i64 t.col] 85));have Vl:=cZ (ah Es.o wI.o (by omega));have arX:w.heap.size<w1.heap.size:=by omega
   clear h1 tn kn hq;refine hK.out _ _ wI.o ?_;clear hK K
   try simp only [Act.put,sq]
   refine tt 8 (.agg #[sv s,.slice none 0 0,.int .i64 t.line,.int .i64 t.col]) (fun _=>wI.o) ?_;refine ay (rs:=[9]) (by kernel_rfl) (by simp) ?_;refine av.cons rfl (fun K hK=>?_) (av.nil);go_simp;have HS2:=aZ (aB wI.o (Turn.alloc (fun k=>k=bp) w1 (.cells #[.string ⟨#[]⟩,.slice none 0 0,.int .i64 0,.int .i64 0] 85)));refine hK.out _ _ HS2.o ?_;clear hK K
   try simp only [Act.put,sq]
   refine ay (rs:=[10]) (by kernel_rfl) (by simp) ?_;refine av.past rfl (by kernel_rfl) (fun K hK=>?_) (av.nil);go_simp;refine hK.out _ _ ?_;clear hK K
   try simp only [Act.put,sq]
   refine aR (by kernel_rfl) ?_ _;have HN:=aZ (fF (w1.alloc (.cells #[sv s,.slice none 0 0,.int .i64 t.line,.int .i64 t.col] 85)) bp B r1 0 iI.o [58] 9 (w1.heap.size+1));go_wp2_with fail;refine(HN.o).mono ?_;rintro e w4 h4;rcases hq:aH [58] r1 with g |⟨u,r4⟩
   ·obtain⟨rfl,tn,bn⟩:=h4.bY hq;have HB:=aZ (eP.mk2 (aB HT1.o tn) bn);have dP:=aZ (mM.o.symm.trans (aC hq));clear h4 tn bn hq;go_wp2_with fail;exact⟨rfl,aL.fail dP.o HB.o⟩
   ·obtain⟨v4,rfl,tn,-,kn⟩:=h4.aQ hq;have hs4:=tn.size;simp at hs4;have fD:=aZ (aB HT1.o tn);have hb4:=ah uN.o tn (by omega);have hi4:=ah aiI.o tn (by omega);have HI4:bN (KD w.heap.size (w1.heap.size) w4.heap.size bp s t w4 []):=aZ ⟨hb4,_,hi4,gZ.nil _ _ _⟩;have jF:=aZ (ah qL.o tn (by omega));have WT:=cZ hb4;have gq:bN (aj (iw nameP) (fun l=>aj (aH [59]) fun _=>aF (⟨s,l,t.line,t.col⟩:yY)) r4=Q):=aZ ((au hq).symm.trans mM.o)
    have WV:=aZ (lU nameP Sf.name 152 #[.pointer (some ⟨w1.heap.size,0,none⟩),.pointer (some ⟨w.heap.size,0,none⟩)] (KD w.heap.size (w1.heap.size) w4.heap.size bp s t) (fun k=>k=bp∨k=w1.heap.size∨w4.heap.size<=k) 0 w4 bp B r4 (.inl rfl)
     (fun a b l tn h=>h.turn tn (by omega) (by omega) (fun j hj _ e=>by omega)) (fun g h=>.inr (.inr h))
     (fun w1 r l hl hw hi hk=>yL 0 w1 bp B _ _ _ s t r l hl hk hi (by omega) (by omega) (by omega) (by omega) (by omega) hw) (fun _=>by kernel_rfl) kn HI4.o)
    clear h4 tn kn hq hb4 hi4;go_wp2_with fail;refine(WV.o).mono ?_;rintro e w5 h5;rcases hq:iw nameP r4 with g |⟨l,r5⟩
    ·obtain⟨rfl,tn,bn⟩:=h5.bY hq;have HB:=aZ (eP.mk2 (fD.o.trans tn (fun i hi e=>by rcases e with e |e |e;exact e;omega;omega)) bn);have dP:=aZ (gq.o.symm.trans (aC hq));clear h5 tn bn hq;go_wp2_with fail;exact⟨rfl,aL.fail dP.o HB.o⟩
    ·obtain⟨rfl,tn,ZO,kn⟩:=h5.aQ hq;have hs5:=tn.size;have fG:=aZ (fD.o.trans tn (fun i hi e=>by rcases e with e |e |e;exact e;omega;omega));have jJ:=aZ (ah jF.o tn (fun e=>by rcases e with e |e |e <;> omega));have VW:=aZ ZO;have Qv:=cZ ZO.1;have iL:bN (aj (aH [59]) (fun _=>aF (⟨s,l,t.line,t.col⟩:yY)) r5=Q):=aZ ((au hq).symm.trans gq.o);have Ro:=aZ (fF w5 bp B r5 0 kn [59] 9 w5.heap.size);clear h5 tn ZO kn hq WT;go_wp2_with fail;refine(Ro.o).mono ?_;rintro e w6 h6;rcases hq:aH [59] r5 with g |⟨u,r6⟩
     ·obtain⟨rfl,tn,bn⟩:=h6.bY hq;have HB:=aZ (eP.mk2 (aB fG.o tn) bn);have dP:=aZ (iL.o.symm.trans (aC hq));clear h6 tn bn hq;go_wp2_with fail;exact⟨rfl,aL.fail dP.o HB.o⟩
     ·obtain⟨v6,rfl,tn,-,kn⟩:=h6.aQ hq;have hs6:=tn.size;have jP:=aZ (aB fG.o tn);have nT:=aZ kn;have sF:=aZ (ah jJ.o tn (by omega));have xM:bN (Pr.good (⟨s,l,t.line,t.col⟩:yY) r6=Q):=aZ ((au hq).symm.trans iL.o);obtain⟨_,v,hi6,V3⟩:=VW.o.turn tn (by omega) (by omega) (fun j hj hl e=>by omega);obtain⟨A6,c6,rfl,_,_⟩:=V3.ss.open_;have Zp:=aZ V3;obtain⟨f0,f1,f2,f3,fz⟩:=aX hi6;obtain⟨c0',c1',c2',c3',cz'⟩:=aX sF.o;clear h6 tn kn hq hi6 V3 Qv;go_wp2_with fail;have tF:=dD w6 (w.heap.size+2) (sv s) (.slice A6 l.length c6) (.int .i64 t.line) (.int .i64 t.col);refine bodyPost_ret (aM rfl rfl (aY sF.o _ _ _ _) Tryz.underlying85 rfl (by kernel_rfl)) rfl ?_;obtain⟨n6,ho6⟩:=Zp.o;have aiJ:=ho6.lt;exact aL.done xM.o.symm (GR jP.o (by omega)) ⟨_,rfl,_,rfl,(cO.own (F:=fun j=>w4.heap.size<=j) ho6 (fun g hg=>(aiJ g hg).1)).turn tF (fun g _ h e=>by omega) |>.mono (fun g _ h=>by omega)⟩ (nT.o.turn tF (by omega) (fun k hk e=>by have:=nT.o.1;omega))
 ·go_simp;have bA:=aZ (aB HD0.o (Turn.alloc (fun k=>k=bp) W0.drew (.cells #[.string ⟨#[]⟩,.slice none 0 0,.int .i64 0,.int .i64 0] 85)));have HKB:=aZ (bX.below (w:=W0.drew) LQ.o (new1 W0.drew (.cells #[.string ⟨#[]⟩,.slice none 0 0,.int .i64 0,.int .i64 0] 85)));refine hK.out _ _ bA.o ?_;clear hK K
  try simp only [Act.put,sq]
  refine ay (rs:=[3]) (by kernel_rfl) (by simp) ?_;refine av.cons rfl (fun K hK=>?_) (av.nil);go_simp;refine(gL _ bp B ts 0 HKB.o).mono ?_;rintro e w1 h1;rcases hq:nameP ts with g |⟨s,r1⟩
  ·obtain⟨rfl,tn,bn⟩:=h1.bY hq;have dP:=aZ (HQ.o.symm.trans (aC hq));exact⟨rfl,aL.fail dP.o (eP.mk2 (aB Vq.o (aB bA.o tn)) bn)⟩
  ·obtain⟨v1,rfl,tn,rfl,kn⟩:=h1.aQ hq;have wI:=aZ (aB bA.o tn);have hs1:=tn.size;simp at hs1;have mM:bN (aj (aH [58]) (fun _=>aj (iw nameP) fun l=>aj (aH [59]) fun _=>aF (⟨s,l,t.line,t.col⟩:yY)) r1=Q):=aZ ((au hq).symm.trans HQ.o);have hi1:w1.heap[w.heap.size+3]? =some (.cells #[.string ⟨#[]⟩,.slice none 0 0,.int .i64 0,.int .i64 0] 85 (0,0)):=by
    have:=ah (wJ W0.drew _) tn (by show ¬W0.heap.size=bp;omega);rwa [show W0.drew.heap.size=w.heap.size+3 from hs0]at this
   have tP:=dD w1 (w.heap.size+3) (sv s) (.slice none 0 0) (.int .i64 t.line) (.int .i64 t.col);have HT1:=aZ ((aB Vq.o wI.o).trans tP (fun i hi e=>by omega));have iI:=aZ (kn.turn tP (by omega) (fun k hk e=>by have:=LQ.o.1;omega));have qL:=aZ (ah (ah OE.o wI.o (by omega)) tP (by omega));have hb1:=ah Es.o wI.o (by omega);have uN:=aZ (ah hb1 tP (by omega));have aiI:=aZ (aY hi1 (sv s) (.slice none 0 0) (.int .i64 t.line) (.int .i64 t.col));obtain⟨i0,i1,i2,i3,iz⟩:=aX hi1;have Vl:=cZ hb1;have arX:w.heap.size<w1.heap.size:=by omega
   have hne1:¬w.heap.size+3=w.heap.size:=by omega
   have hne2:¬w.heap.size=w.heap.size+3:=by omega
   clear h1 tn kn hq hi1 tP hb1;refine hK.out _ _ wI.o ?_;clear hK K
   try simp only [Act.put,sq]
   refine tt 8 (.agg #[sv s,.slice none 0 0,.int .i64 t.line,.int .i64 t.col]) (fun _=>wI.o) ?_;refine ay (rs:=[10]) (by kernel_rfl) (by simp) ?_;refine av.past rfl (by kernel_rfl) (fun K hK=>?_) (av.nil);go_simp;refine hK.out _ _ ?_;clear hK K
   try simp only [Act.put,sq]
   refine aR (by kernel_rfl) ?_ _;have HN:=aZ (fF (dK w1 (w.heap.size+3) (sv s) (.slice none 0 0) (.int .i64 t.line) (.int .i64 t.col)) bp B r1 0 iI.o [58] 9 (w1.heap.size));go_wp2_with fail;refine(HN.o).mono ?_;rintro e w4 h4;rcases hq:aH [58] r1 with g |⟨u,r4⟩
   ·obtain⟨rfl,tn,bn⟩:=h4.bY hq;have HB:=aZ (eP.mk2 (aB HT1.o tn) bn);have dP:=aZ (mM.o.symm.trans (aC hq));clear h4 tn bn hq;go_wp2_with fail;exact⟨rfl,aL.fail dP.o HB.o⟩
   ·obtain⟨v4,rfl,tn,-,kn⟩:=h4.aQ hq;have hs4:=tn.size;simp at hs4;have fD:=aZ (aB HT1.o tn);have hb4:=ah uN.o tn (by omega);have hi4:=ah aiI.o tn (by omega);have HI4:bN (KD w.heap.size (w.heap.size+3) w4.heap.size bp s t w4 []):=aZ ⟨hb4,_,hi4,gZ.nil _ _ _⟩;have jF:=aZ (ah qL.o tn (by omega));have WT:=cZ hb4;have gq:bN (aj (iw nameP) (fun l=>aj (aH [59]) fun _=>aF (⟨s,l,t.line,t.col⟩:yY)) r4=Q):=aZ ((au hq).symm.trans mM.o)
    have WV:=aZ (lU nameP Sf.name 152 #[.pointer (some ⟨w.heap.size+3,0,none⟩),.pointer (some ⟨w.heap.size,0,none⟩)] (KD w.heap.size (w.heap.size+3) w4.heap.size bp s t) (fun k=>k=bp∨k=w.heap.size+3∨w4.heap.size<=k) 0 w4 bp B r4 (.inl rfl)
     (fun a b l tn h=>h.turn tn (by omega) (by omega) (fun j hj _ e=>by omega)) (fun g h=>.inr (.inr h))
     (fun w1 r l hl hw hi hk=>yL 0 w1 bp B _ _ _ s t r l hl hk hi (by omega) (by omega) (by omega) (by omega) (by omega) hw) (fun _=>by kernel_rfl) kn HI4.o)
    clear h4 tn kn hq hb4 hi4;go_wp2_with fail;refine(WV.o).mono ?_;rintro e w5 h5;rcases hq:iw nameP r4 with g |⟨l,r5⟩
    ·obtain⟨rfl,tn,bn⟩:=h5.bY hq;have HB:=aZ (eP.mk2 (fD.o.trans tn (fun i hi e=>by rcases e with e |e |e;exact e;omega;omega)) bn);have dP:=aZ (gq.o.symm.trans (aC hq));clear h5 tn bn hq;go_wp2_with fail;exact⟨rfl,aL.fail dP.o HB.o⟩
    ·obtain⟨rfl,tn,ZO,kn⟩:=h5.aQ hq;have hs5:=tn.size;have fG:=aZ (fD.o.trans tn (fun i hi e=>by rcases e with e |e |e;exact e;omega;omega));have jJ:=aZ (ah jF.o tn (fun e=>by rcases e with e |e |e <;> omega));have VW:=aZ ZO;have Qv:=cZ ZO.1;have iL:bN (aj (aH [59]) (fun _=>aF (⟨s,l,t.line,t.col⟩:yY)) r5=Q):=aZ ((au hq).symm.trans gq.o);have Ro:=aZ (fF w5 bp B r5 0 kn [59] 9 w5.heap.size);clear h5 tn ZO kn hq WT;go_wp2_with fail;refine(Ro.o).mono ?_;rintro e w6 h6;rcases hq:aH [59] r5 with g |⟨u,r6⟩
     ·obtain⟨rfl,tn,bn⟩:=h6.bY hq;have HB:=aZ (eP.mk2 (aB fG.o tn) bn);have dP:=aZ (iL.o.symm.trans (aC hq));clear h6 tn bn hq;go_wp2_with fail;exact⟨rfl,aL.fail dP.o HB.o⟩
     ·obtain⟨v6,rfl,tn,-,kn⟩:=h6.aQ hq;have hs6:=tn.size;have jP:=aZ (aB fG.o tn);have nT:=aZ kn;have sF:=aZ (ah jJ.o tn (by omega));have xM:bN (Pr.good (⟨s,l,t.line,t.col⟩:yY) r6=Q):=aZ ((au hq).symm.trans iL.o);obtain⟨_,v,hi6,V3⟩:=VW.o.turn tn (by omega) (by omega) (fun j hj hl e=>by omega);obtain⟨A6,c6,rfl,_,_⟩:=V3.ss.open_;have Zp:=aZ V3;obtain⟨f0,f1,f2,f3,fz⟩:=aX hi6;obtain⟨c0',c1',c2',c3',cz'⟩:=aX sF.o;clear h6 tn kn hq hi6 V3 Qv;go_wp2_with fail;have tF:=dD w6 (w.heap.size+2) (sv s) (.slice A6 l.length c6) (.int .i64 t.line) (.int .i64 t.col);refine bodyPost_ret (aM rfl rfl (aY sF.o _ _ _ _) Tryz.underlying85 rfl (by kernel_rfl)) rfl ?_;obtain⟨n6,ho6⟩:=Zp.o;have aiJ:=ho6.lt;exact aL.done xM.o.symm (GR jP.o (by omega)) ⟨_,rfl,_,rfl,(cO.own (F:=fun j=>w4.heap.size<=j) ho6 (fun g hg=>(aiJ g hg).1)).turn tF (fun g _ h e=>by omega) |>.mono (fun g _ h=>by omega)⟩ (nT.o.turn tF (by omega) (fun k hk e=>by have:=nT.o.1;omega))
end Go.Proofs.YtfgjkmipfikooaaGreatDoor
