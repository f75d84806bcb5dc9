/- JI, NF, JJ, JK, JL, JM, JN -/
import Derived.Test.YtmbppnbekkbibaaGreatDoorLB13
import Derived.Test.YtmbppnbekkbibaaGreatDoorLB05
set_option linter.unusedSimpArgs false
set_option linter.unusedVariables false
set_option maxRecDepth 100000
set_option maxHeartbeats 8000000
namespace Go.Proofs.YtmbppnbekkbibaaGreatDoor
open Go.RowKit
theorem Ls {w:World} {B:Nat} {F:Nat→Prop} {A:Option Addr} {n c:Nat} {xs:List Value} {l:List kG} (hs:Sl w B 4 (.slice A n c) xs) (hr:bQ (Ba w F) 4 xs l) {i:Nat} (hi:i<l.length) (hn:n=l.length):
  ∃b o A1 n1 c1,A=some ⟨b,o,none⟩∧b<B∧w.cell? ⟨b,o+i*4,none⟩=some (sv l[i].from_)∧w.cell? ⟨b,o+i*4+1,none⟩=some (.slice A1 n1 c1)∧w.cell? ⟨b,o+i*4+2,none⟩=some (.int .i64 l[i].line)∧w.cell? ⟨b,o+i*4+3,none⟩=some (.int .i64 l[i].col)∧dx w F 1 (.slice A1 n1 c1) (mZ l[i].names):=by
 obtain⟨b,o,z,hA,hb,⟨vn,rfl,hv⟩,hc⟩:=Ep hs hr (by omega) hi hn;obtain⟨A1,n1,c1,rfl⟩:=eX hv.all;exact⟨b,o,A1,n1,c1,hA,hb,by simpa using hc 0 _ rfl,hc 1 _ rfl,hc 2 _ rfl,hc 3 _ rfl,hv⟩
theorem GL {α:Type} (f:α→Nat) {x:α}:∀ {l:List α},x∈l→f x≤(l.map f).sum
 | [],h=>by cases h
 | y :: l,h=>by
  rw [List.map_cons,List.sum_cons];rcases List.mem_cons.1 h with rfl | h
  ·omega
  ·have:=GL f h;omega
theorem nO {w:World} {F:Nat→Prop} {A1 A2:Option Addr} {n1 c1 n2 c2:Nat} {m:eH} (h:sO w F [.slice A1 n1 c1, .slice A2 n2 c2] m):∃xi xd,dx w F 4 (.slice A1 n1 c1) xi∧bQ (Ba w F) 4 xi m.imps∧dx w F 15 (.slice A2 n2 c2) xd∧bQ (Cc w F) 15 xd m.decls:=by
 obtain⟨vi,xi,vd,xd,he,s1,r1,s2,r2⟩:=h;injection he with e1 he;injection he with e2 _;subst e1 e2;exact⟨xi,xd,s1,r1,s2,r2⟩
theorem Dw {w:World} {B:Nat} {A1 A2:Option Addr} {n1 c1 n2 c2:Nat} {m:eH} (h:Ea w B [.slice A1 n1 c1, .slice A2 n2 c2] m):∃xi xd,Sl w B 4 (.slice A1 n1 c1) xi∧bQ (JR w B) 4 xi m.imps∧Sl w B 15 (.slice A2 n2 c2) xd∧bQ (zV w B) 15 xd m.decls:=by
 obtain⟨vi,xi,vd,xd,he,s1,r1,s2,r2⟩:=h;injection he with e1 he;injection he with e2 _;subst e1 e2;exact⟨xi,xd,s1,r1,s2,r2⟩
theorem Fy {B lb mb:Nat} {vN vM a b c:Value} {names:List Bt} {mods:List eH} (w:World) (Jh:List kT) (h:L2 B lb mb vN vM a b c names mods w [] Jh) (hB:B≤w.heap.size) (hl:names.length=mods.length) (h16:mods.length≤16)
  (nP:∀m∈mods,tZ m≤100000∧og 100000 m) (ZW:Jh.length≤1000000):
  Calls Tryz.prog 33 #[.pointer (some ⟨lb,0,none⟩)] w fun e w'=>e= .returned (.tuple #[])∧L2 B lb mb vN vM a b c names mods w' (dz names mods 0 Jh mods).1 (dz names mods 0 Jh mods).2∧Turn (fun j=>j=lb∨B≤j) w w':=by
 have hmm:= @run_makeMap Tryz.prog;have H0:=hid h;obtain⟨vS,vB,F,hblk, _, _,hfix, _, _⟩:=h;obtain⟨AM,cM,rfl,Tf,KF⟩:=nH hfix;obtain⟨p0,p1,p2,p3,p4,p5,p6,p7,pz⟩:=aH hblk;have HM:=hid nP;clear hblk hfix nP p0 p2 p3 p4 p5 p6 p7 pz;go_enter Tryz.func33,Tryz.ntmps33;go_wp2_with fail;clear p1;go_loopw [15] (fun v15 wr=>∃(i:Nat) (sc:List (List jN)) (bad:List kT),v15= .int .i64 i∧i≤mods.length∧dz names mods 0 Jh mods=(sc++(dz names mods i bad (mods.drop i)).1,(dz names mods i bad (mods.drop i)).2)∧sc.length=i∧bad.length≤1000000+i*100000∧L2 B lb mb vN (.slice AM mods.length cM) a b c names mods wr sc bad∧Turn (fun j=>j=lb∨B≤j) w wr) (fun v15 _=>mods.length - (intOf v15).toNat)
 case atStart=>exact⟨0,[],Jh,rfl,by omega,by rw [List.drop_zero];simp,rfl,by omega,H0.out,Turn.refl _ _⟩
 case round=>
  obtain⟨i,sc,bad,rfl,hi,hsp,hsc,hbl,hL,hT⟩:=hrel;by_cases hlt:i<mods.length
  ·have hdrop:mods.drop i=mods[i] :: mods.drop (i+1):=List.drop_eq_getElem_cons hlt;rw [hdrop]at hsp;obtain⟨vS,vB,F,hblk,hbad,hrow,hfix,hF,hap⟩:=hL;obtain⟨bm,om,A1,c1,A2,c2,rfl,Ti,m0,m1,hmo⟩:=uf hfix hlt rfl;obtain⟨hsz1,Fz⟩:=HM.out mods[i] (List.getElem_mem hlt);obtain⟨m,hm⟩:∃m,mods[i]=m:=⟨_,rfl⟩
   rw [hm]at m0 m1 hmo hsp hsz1 Fz;obtain⟨W,hW⟩:∃W,((wr.alloc (.cells #[.slice A1 m.imps.length c1, .slice A2 m.decls.length c2] 40)).alloc (.map #[] 0)).alloc (.cells #[.slice none 0 0, .map (some (wr.heap.size+1))] 121)=W:=⟨_,rfl⟩
   have hBr:B≤wr.heap.size:=Nat.le_trans hB hT.size;obtain⟨hC,hS,hWs,hmk,hbW⟩:=Jf hBr hblk hbad hfix _ W hW;obtain⟨AS,cS,rfl,hcS,ab2⟩:=hrow.shape;have ab3:=hrow.lt;obtain⟨_, _,hs1, _,hs2, _⟩:=nO hmo;have hk1:=(cB hs1.all).2;have hk2:=(cB hs2.all).2;have ZX:sc.length≤16:=by omega
   have OB:=hid hsc;have HS:=hid hS;have HC:=hid hC;have XK:=hid hmk;have Ug:=hid hbW;have dP:=hid hrow;have HF:=hid hF;have HAP:=hid hap;have QL:=hid (hmo.turn (Turn.of_below (F:=fun _=>False) hbW) (fun _ _ _=>id));have HW:=hid hW;have QM:=hid hsp;have HT:=hid (hT.trans (Turn.of_below (F:=fun j=>j=lb∨B≤j) hbW) (fun _ _ h=>h));have Sj:=hid Fz;have ZY:=hid hsz1;have Uh:=hblk;clear hS hC hmk hbW hrow hF hap hmo hW hsp hT Fz hm hdrop hblk hbad hfix hs1 hs2 hsz1 hsc;obtain⟨w0,rfl⟩:∃w0,w0=wr:=⟨_,rfl⟩
   obtain⟨q0,q1,q2,q3,q4,q5,q6,q7,qz⟩:=aH Uh;go_wp2_with fail;rw [HW.out];clear q0 q1 q2 q3 q4 q5 q6 q7 qz Uh m0 m1;go_loopw [26] (fun v26 wq=>∃k:Nat,v26= .int .i64 k∧k≤m.imps.length∧S2 B lb mb (w0.heap.size+1+1) (w0.heap.size+1) vN (.slice (some ⟨bm,om,none⟩) mods.length cM) (.slice AS sc.length cS) a b c names mods W vB wq ((m.imps.take k).foldl (fP names mods i) ([],bad))∧cO B lb W wq) (fun v26 _=>m.imps.length - (intOf v26).toNat)
   case atStart=>exact⟨0,rfl,by omega,HS.out,cO.below (Below.refl _ _)⟩
   case round=>
    obtain⟨k,rfl,hk,hS,hK⟩:=hrel;by_cases hlk:k<m.imps.length
    ·have JH:=hK.mo QL.out;obtain⟨xi,xd,s1,r1,s2,r2⟩:=nO JH;obtain⟨b0,o0,An,nn,cn,rfl,hb0,d0,d1,d2,d3,MQ⟩:=Ls s1.all r1 hlk rfl;have hnx:(m.imps.take (k+1)).foldl (fP names mods i) ([],bad)=fP names mods i ((m.imps.take k).foldl (fP names mods i) ([],bad)) m.imps[k]:=by rw [List.take_succ_eq_append_getElem hlk,List.foldl_append];rfl
     have hIn:=Sj.out.1 _ (List.getElem_mem hlk);have lU:=qp names mods i (m.imps.take k) ([],bad);have hts:=Lr kM m.imps k;have hme:=GL kM (List.getElem_mem hlk);have hsz:=ZY.out;unfold tZ at hsz;obtain⟨stk,Bv⟩:∃s,(m.imps.take k).foldl (fP names mods i) ([],bad)=s:=⟨_,rfl⟩
     rw [Bv]at hnx lU hS;obtain⟨x,hx⟩:∃x,m.imps[k]=x:=⟨_,rfl⟩
     rw [hx]at hnx hIn d0 d2 d3 MQ hme;have Dx:stk.1.length≤100000∧stk.2.length≤bad.length+100000:=⟨by have:=lU.1;dsimp only at this;rw [List.length_nil]at this;omega,by have:=lU.2;dsimp only at this;omega⟩
     have hxn:x.names.length≤100000:=by have:kM x=x.names.length+1:=rfl;omega
     obtain⟨W5,wT⟩:∃W5,wr.alloc (.cells #[sv x.from_, .slice An nn cn, .int .i64 x.line, .int .i64 x.col] 88)=W5:=⟨_,rfl⟩
     have hb5:Below wr.heap.size wr W5:=by rw [←wT];exact new1 _ _
     have HI:=hid (KE HC.out W5 stk (hS.below hb5) i x (.slice An nn cn) ((cO.below (B:=B) (lb:=lb) hb5).sl MQ) hIn hl h16 (by omega) (by omega));have Lu:=hid wT;have OG:=hid hb5;have l9:=hid hK;have rY:=hid hnx;have h1:=(cB MQ.all).2;clear JH s1 r1 s2 r2 hnx hIn lU hts hme hsz hS hK Bv hx wT hb5 MQ Dx;go_wp2_with fail;rw [Lu.out];refine(HI.out).mono ?_;rintro e w6 ⟨rfl,Au,yL⟩;have Aw:=hid Au;have lX:=hid yL;clear Au yL d0 d1 d2 d3;go_wp2_with fail
     go_roundw
     case rel=>exact⟨k+1,rfl,by omega,by rw [rY.out];exact Aw.out,(l9.out.trans (cO.below OG.out)).trans lX.out⟩
     case measure=>simp [intOf];omega
    ·obtain rfl:k=m.imps.length:=by omega
     rw [List.take_length]at hS;have lU:=qp names mods i m.imps ([],bad);have hsz:=ZY.out;unfold tZ at hsz;obtain⟨st1,QN⟩:∃s,m.imps.foldl (fP names mods i) ([],bad)=s:=⟨_,rfl⟩
     rw [QN]at lU hS;have Dx:st1.1.length≤100000∧st1.2.length≤bad.length+(m.imps.map kM).sum:=⟨by have:=lU.1;dsimp only at this;rw [List.length_nil]at this;omega,by have:=lU.2;dsimp only at this;omega⟩
     obtain⟨z0,z1,zz⟩:=eD (hK.blk XK.out rfl);have hzl:=block_lt (hK.blk XK.out rfl);have wG:=hid hS;have lF:=hid hK;have XL:=hid QN;have Bz:=hid Dx;have Ui:=hid hsz;clear hS hK QN lU Dx hsz hk hlk;obtain⟨w1,rfl⟩:∃w1,w1=wr:=⟨_,rfl⟩
     go_wp2_with fail;clear z0 z1 zz hzl;go_loopw [39] (fun v39 wq=>∃k:Nat,v39= .int .i64 k∧k≤m.decls.length∧S2 B lb mb (w0.heap.size+1+1) (w0.heap.size+1) vN (.slice (some ⟨bm,om,none⟩) mods.length cM) (.slice AS sc.length cS) a b c names mods W vB wq (jC i 0 st1 (m.decls.take k))∧cO B lb W wq) (fun v39 _=>m.decls.length - (intOf v39).toNat)
     case atStart=>exact⟨0,rfl,by omega,wG.out,lF.out⟩
     case round=>
      obtain⟨k,rfl,hk,hS,hK⟩:=hrel;by_cases hlk:k<m.decls.length
      ·have JH:=(hK.mo QL.out).all;obtain⟨xi,xd,s1,r1,s2,r2⟩:=Dw JH;obtain⟨b0,o0,JI,c1',OM,c2',kk,ss,n1,l1,cc,A3,n3,c3,A4,n4,c4,A5,n5,c5,rfl,hb0,d0,d1,d2,d3,d4,d5,d6,d7,d8,d9,RV,RX,RY,Ku,Kv⟩:=Gt s2 r2 hlk rfl;have hnx:jC i 0 st1 (m.decls.take (k+1))=decl1 i (jC i 0 st1 (m.decls.take k)) k m.decls[k]:=by
        rw [List.take_succ_eq_append_getElem hlk,wh,List.length_take,Nat.min_eq_left (by omega),Nat.zero_add]
       have hIn:=Sj.out.2 _ (List.getElem_mem hlk);have lU:=rV i (m.decls.take k) 0 st1;rw [List.length_take]at lU;obtain⟨stk,Bv⟩:∃s,jC i 0 st1 (m.decls.take k)=s:=⟨_,rfl⟩
       rw [Bv]at hnx lU hS;obtain⟨d,hd⟩:∃d,m.decls[k]=d:=⟨_,rfl⟩
       rw [hd]at hnx hIn d0 d1 d2 d3 d4 Ku Kv;obtain⟨nm,ex,vs,pr,ts,bd,ln,cl⟩:=d;simp only at d0 d1 d2 d3 d4 Ku Kv hIn;generalize vs.length=vl at*
       generalize ts.length=tl at*
       have Dx:stk.1.length≤1000000∧stk.2.length≤100000000:=by have:=Bz.out;have:=Ui.out;omega
       obtain⟨W5,wT⟩:∃W5,wr.alloc (.cells #[sv nm, .bool ex, .slice JI vl c1',sv pr, .slice OM tl c2', .int .i64 kk, .string ss, .int .i64 n1, .int .i64 l1, .int .i64 cc, .slice A3 n3 c3, .slice A4 n4 c4, .slice A5 n5 c5, .int .i64 ln, .int .i64 cl] 51)=W5:=⟨_,rfl⟩
       have hb5:Below wr.heap.size wr W5:=by rw [←wT];exact new1 _ _
       have hdb:=oF wr (.cells #[sv nm, .bool ex, .slice JI vl c1',sv pr, .slice OM tl c2', .int .i64 kk, .string ss, .int .i64 n1, .int .i64 l1, .int .i64 cc, .slice A3 n3 c3, .slice A4 n4 c4, .slice A5 n5 c5, .int .i64 ln, .int .i64 cl] 51);rw [wT]at hdb;have hS5:=hS.below hb5;cases hq:lH nm stk.1 with
       | true=>
        have hst:decl1 i stk k ⟨nm,ex,vs,pr,ts,bd,ln,cl⟩=(stk.1,stk.2++[⟨i,ln,cl,8⟩]):=by unfold decl1;rw [if_pos hq]
        have HST:=hid (hnx.trans hst);have HP:=hid (CX hS5 ⟨nm,i,k⟩ (by show nm.length≤maxLen;unfold maxLen;omega) hq);have mX:=hid hdb;have l9:=hid (hK.trans (cO.below hb5));have Lu:=hid wT;clear hst hnx hq hdb hK hS hS5 hb5 wT JH s1 r1 s2 r2 Bv hd lU;go_wp2_with fail;rw [Lu.out];refine(HP.out).mono ?_;rintro e w6 ⟨rfl,Au,yL⟩;have Ji:=hid (yJ HC.out Au (by omega) ⟨(i:Nat),ln,cl,8⟩);have lX:=hid yL;have hd6:=yL.blk mX.out rfl;have e13:=(cell_of_row w6 _ 13 _ _ _ hd6).trans rfl;have e14:=(cell_of_row w6 _ 14 _ _ _ hd6).trans rfl;have hdl:=block_lt hd6;clear Au yL hd6 d0 d1 d2 d3 d4 d5 d6 d7 d8 d9 RV RX RY Ku Kv;go_wp2_with fail;refine(Ji.out).mono ?_;rintro e w7 ⟨rfl,Tp,Tq⟩;have fQ:=hid Tp;have jP:=hid Tq;clear Tp Tq e13 e14;go_wp2_with fail
        go_roundw
        case rel=>exact⟨k+1,rfl,by omega,by rw [HST.out];exact fQ.out,(l9.out.trans lX.out).trans jP.out⟩
        case measure=>simp [intOf];omega
       | false=>
        have hst:decl1 i stk k ⟨nm,ex,vs,pr,ts,bd,ln,cl⟩=(stk.1++[⟨nm,i,k⟩],stk.2):=by unfold decl1;rw [if_neg (by rw [hq];simp)]
        have HST:=hid (hnx.trans hst);have HP:=hid (CY HC.out hS5 ⟨nm,i,k⟩ (by show nm.length≤maxLen;unfold maxLen;omega) hq (by omega));have l9:=hid (hK.trans (cO.below hb5));have Lu:=hid wT;clear hst hnx hq hdb hK hS hS5 hb5 wT JH s1 r1 s2 r2 Bv hd lU;go_wp2_with fail;rw [Lu.out];refine(HP.out).mono ?_;rintro e w6 ⟨rfl,Au,yL⟩;have Aw:=hid Au;have lX:=hid yL;clear Au yL d0 d1 d2 d3 d4 d5 d6 d7 d8 d9 RV RX RY Ku Kv;go_wp2_with fail
        go_roundw
        case rel=>exact⟨k+1,rfl,by omega,by rw [HST.out];exact Aw.out,l9.out.trans lX.out⟩
        case measure=>simp [intOf];omega
      ·obtain rfl:k=m.decls.length:=by omega
       rw [List.take_length]at hS;have lU:=rV i m.decls 0 st1;obtain⟨st2,QO⟩:∃s,jC i 0 st1 m.decls=s:=⟨_,rfl⟩
       rw [QO]at hS lU;have XM:=hid QO;have WS:st2.2.length≤bad.length+100000:=by have:=Bz.out;have:=Ui.out;omega
       obtain⟨w9,rfl⟩:∃w9,w9=wr:=⟨_,rfl⟩
       obtain⟨A,nE,kE,uW,Lv,OO,OP,QS,qO,Uj,Z0,Uk⟩:=Jg HC.out hBr (by omega) Ug.out dP.out HF.out HAP.out hS;have hdr:∀(G:Nat→Prop) (X:World),Turn G X X.drew:=fun _ _=>⟨rfl,rfl,rfl,Nat.le_refl _,fun _ _ _=>rfl⟩
       have ab5:w0.heap.size+3≤w9.heap.size:=by have:=hS.size;omega
       obtain⟨ys,hy,hr⟩:=qO.turn gB (hdr (fun _=>False) w9) (fun _ _=>id) (fun _ _ _=>id);have hyl:=hy.1;have Ul:=gB.turn Uj (hdr (fun _=>False) w9) (fun _ _ _=>id);obtain⟨k0,k1,k2,k3,k4,k5,k6,k7,kz⟩:=aH Lv;obtain⟨s0,s1,sz⟩:=eD QS;have jf:Hid (w9.drew.cell? ⟨lb,2,none⟩=some (.slice AS sc.length cS)∧w9.drew.cell? ⟨w0.heap.size+1+1,0,none⟩=some (.slice A nE kE)):=hid ⟨k2,s0⟩;have Um:=hid hK.1;have VW:=hid Lv;have Lx:=hid OO;have GN:=hid OP;have Un:=hid QS;have HY:=hid hy;have HR:=hid hr;have HES:=hid Ul;have Z4:=hid Z0;have QT:=hid Uk;clear hS hK lU QO Lv OO OP QS qO Uj Z0 Uk hy hr Ul k0 k1 k2 k3 k4 k5 k6 k7 kz s0 s1 sz;go_wp2_with fail;refine bH (S:=fun w'=>w'.cell? ⟨lb,2,none⟩=some (.slice AS sc.length cS)∧w'.cell? ⟨w0.heap.size+1+1,0,none⟩=some (.slice A nE kE)) (x:=15) (by kernel_rfl) ?_
       try simp only [Act.put,List.getElem_toArray,List.getElem_cons_zero,List.getElem_cons_succ,List.setIfInBounds_toArray,List.set_cons_zero,List.set_cons_succ]
       refine tx 0 (.pointer (some ⟨lb,0,none⟩)) jf.out ?_;refine tx 1 (.pointer (some ⟨lb,0,none⟩)) jf.out ?_;refine tx 2 (.pointer (some ⟨lb,0,none⟩)) jf.out ?_;refine tx 3 (.pointer (some ⟨lb,0,none⟩)) jf.out ?_;refine tx 4 (.pointer (some ⟨lb,2,none⟩)) jf.out ?_;refine jO 5 (.slice AS sc.length cS) (fun _ h=>h.1) jf.out ?_;refine tx 6 (.pointer (some ⟨w0.heap.size+1+1,0,none⟩)) jf.out ?_;refine tx 7 (.pointer (some ⟨w0.heap.size+1+1,0,none⟩)) jf.out ?_;refine tx 8 (.pointer (some ⟨w0.heap.size+1+1,0,none⟩)) jf.out ?_;refine jO 9 (.slice A nE kE) (fun _ h=>h.2) jf.out ?_;refine av (rs:=[10]) (by kernel_rfl) (by simp) ?_;refine au.cons rfl (fun K hK=> ?_) au.nil;go_simp;have t4:Turn (fun _=>False) w9 (w9.drew.alloc (.cells #[.slice A nE kE] 42)):=(hdr (fun _=>False) w9).trans (Turn.alloc (fun _=>False) w9.drew _) (fun _ _ h=>h);have hb4:=ah VW.out t4 id;have hs4:=ah Un.out t4 id;have xC:=hid hb4;have ab7:=hid hs4;have gG:=hid t4;have Gs:=hid (bK HY.out (Turn.alloc (fun _=>False) w9.drew (.cells #[.slice A nE kE] 42)) (fun _ _=>id));have HSL:=hid (fT w9.drew #[.slice A nE kE] 42 1 1 rfl (by decide));have u6:Hid ((w9.drew.alloc (.cells #[.slice A nE kE] 42)).cell? ⟨lb,2,none⟩=some (.slice AS sc.length cS)∧(w9.drew.alloc (.cells #[.slice A nE kE] 42)).cell? ⟨w0.heap.size+1+1,0,none⟩=some (.slice A nE kE)):=hid ⟨(aH hb4).2.2.1,(eD hs4).1⟩;clear t4 hb4 hs4;refine hK.out _ _ u6.out ?_;clear hK K
       try simp only [Act.put,List.getElem_toArray,List.getElem_cons_zero,List.getElem_cons_succ,List.setIfInBounds_toArray,List.set_cons_zero,List.set_cons_succ]
       refine av (rs:=[11]) (by kernel_rfl) (by simp) ?_;refine au.cons rfl (fun K hK=> ?_) au.nil;refine cu rfl (.tmp 65) (.tmp 70) _ rfl B SQ (.slice AS sc.length cS) _ rfl rfl Gs.out HSL.out (fun u hu=>by(obtain rfl:u= _:=List.mem_singleton.1 hu);rfl) (by simp [maxLen];omega) (by simp;omega) (by simp;omega) (fun v7 w7 n7 aK gD dK=> ?_);obtain⟨A7,c7,rfl, _, _⟩:=eu aK;obtain⟨qh,yO,t7⟩:=qo gB HY.out HR.out HES.out gD dK aK (by omega);have fI:=ah (show w9.drew.heap[lb]? = _ from VW.out) t7 (fun e=>(QT.out _ e).2.2.2.1 rfl);have hs7:=ah (show w9.drew.heap[w0.heap.size+1+1]? = _ from Un.out) t7 (fun e=>(QT.out _ e).2.2.2.2 rfl);have qM:=hid fI;have iE:=hid t7;have qP:=hid qh;have PG:=hid dK;have XO:=hid yO;have qz:=(aH fI).2.2.2.2.2.2.2.2;have fQ:Hid (w7.cell? ⟨lb,2,none⟩=some (.slice AS sc.length cS)∧w7.cell? ⟨w0.heap.size+1+1,0,none⟩=some (.slice A nE kE)):=hid ⟨(aH fI).2.2.1,(eD hs7).1⟩;have Nb:=(aH fI).2.2.1;have Zy:=block_lt fI;clear t7 fI hs7 aK dK gD qh yO;refine hK.out _ _ fQ.out ?_;clear hK K
       try simp only [Act.put,List.getElem_toArray,List.getElem_cons_zero,List.getElem_cons_succ,List.setIfInBounds_toArray,List.set_cons_zero,List.set_cons_succ]
       refine tt 12 (.pointer (some ⟨lb,0,none⟩)) (fun _=>fQ.out) ?_;refine tt 13 (.pointer (some ⟨lb,0,none⟩)) (fun _=>fQ.out) ?_;refine tt 14 (.pointer (some ⟨lb,2,none⟩)) (fun _=>fQ.out) ?_;refine av (rs:=[15]) (by kernel_rfl) (by simp) ?_;refine au.past rfl (by kernel_rfl) (fun K hK=> ?_) au.nil;go_simp;refine hK.out _ _ ?_;clear hK K
       try simp only [Act.put,List.getElem_toArray,List.getElem_cons_zero,List.getElem_cons_succ,List.setIfInBounds_toArray,List.set_cons_zero,List.set_cons_succ]
       refine aN (by kernel_rfl) ?_ _;go_wp2_with fail
       go_roundw
       case rel=>
        have tl:=ay w7 lb 2 (.slice A7 n7 c7);have hvs:=QT.out;have hro:=qP.out;have hlo:=hro.lt;have ab8:w9.heap.size≤w7.heap.size:=iE.out.size;have tD:Turn (fun j=>(Value.slice AS sc.length cS).ownBlock=some j) w9 w7:=(hdr _ w9).trans iE.out (fun _ _ h=>h);refine⟨i+1,sc++[st2.1],st2.2,rfl,by omega, ?_,by rw [List.length_append,List.length_singleton,OB.out],by omega,⟨_,uW,fun j=>F j∨(Value.slice A nE kE).ownBlock=some j,heap_setCell_same _ _ 2 _ _ _ qM.out,(Lx.out.turn tD (fun g hg e=>(hvs g e).1 hg)).turn tl (fun g hg e=> ?_),hro.turn gB tl (fun g hg e=> ?_) (fun g _ hg e=> ?_),(GN.out.turn tD (fun j e=> .inr (hvs j e).2.2.1)).turn tl (fun j e=> .inl e),fun j hj=> ?_,fun g hg e=> ?_⟩, ?_⟩
        ·rw [QM.out];have e1:yD names mods i m bad=st2:=by unfold yD;rw [XL.out,XM.out]
         rw [dz,e1];simp
        ·have:=(Lx.out.lt g hg).1;have:=GN.out.1;omega
        ·have:=(hlo g hg).1;have:=GN.out.1;omega
        ·have:=Z4.out g hg;have:=GN.out.1;omega
        ·have:=Z4.out j hj;exact⟨by simp;omega,this.2⟩
        ·rcases PG.out with h7 | h7
         ·rw [h7]at hg;exact(hvs g hg).1 e
         ·rw [h7]at hg;injection hg with hg;have:=(Lx.out.lt g e).2;simp at hg;omega
        ·exact((HT.out.trans Um.out (fun _ _ h=>h)).trans tD (fun j _ e=> .inr (hvs j e).2.2.1)).trans tl (fun _ _ e=> .inl e)
       case measure=>simp [intOf];omega
  ·obtain rfl:i=mods.length:=by omega
   rw [List.drop_length]at hsp;have QM:=hid hsp;have HL:=hid hL;have HT:=hid hT;clear hsp hL hT;go_wp2_with fail;go_end0;refine⟨rfl, ?_,HT.out⟩;rw [QM.out];simp only [dz,List.append_nil];exact HL.out
theorem uI:∀(n:Nat) (l:List Nat),l.Nodup→(∀j∈l,j<n)→l.length≤n
 | 0,l, _,h=>by
  cases l with
  | nil=>simp
  | cons a l=>exact absurd (h a (by simp)) (by omega)
 | n+1,l,hd,h=>by
  by_cases hn:n∈l
  ·have h1:=uI n (l.erase n) (hd.erase n) fun j hj=>by
    have:=(hd.mem_erase_iff.1 hj)
    have:=h j this.2;omega
   rw [List.length_erase_of_mem hn]at h1;omega
  ·have:=uI n l hd fun j hj=>by
    have h2:=h j hj;have:j≠n:=fun e=>hn (e▸hj);omega
   omega
theorem oJ.trans {names:List Bt} {mods:List eH} {i j k:Nat} (h:oJ names mods i j) (h2:oJ names mods j k):oJ names mods i k:=by
 induction h2 with
 | refl=>exact h
 | step _ hk ih=>exact .step ih hk
structure Nv (names:List Bt) (mods:List eH) (n i:Nat) (l l':List Nat):Prop where
 ext:∃e,l'=l++e
 nd:l'.Nodup
 lt:∀j∈l',j<n
 mem:i∈l'
 new:∀j∈l',j ∉ l→(∀k∈pO names mods j,k∈l')∧oJ names mods i j
structure zO (names:List Bt) (mods:List eH) (n i:Nat) (l l':List Nat) (k:Nat):Prop where
 ext:∃e,l'=(l++[i])++e
 nd:l'.Nodup
 lt:∀j∈l',j<n
 got:∀(q:Nat) (x:Nat),q<k→(pO names mods i)[q]? =some x→x∈l'
 new:∀j∈l',j ∉ l++[i]→(∀k∈pO names mods j,k∈l')∧oJ names mods i j
section
variable {names:List Bt} {mods:List eH} {n i:Nat} {l l' l2:List Nat} {k x:Nat}
theorem Nv.had (hd:l.Nodup) (hl:∀j∈l,j<n) (h:i∈l):Nv names mods n i l l:=⟨⟨[],by simp⟩,hd,hl,h,fun j hj hn=>absurd hj hn⟩
theorem zO.start (hd:l.Nodup) (hl:∀j∈l,j<n) (hi:i<n) (h:i ∉ l):zO names mods n i l (l++[i]) 0:=
 ⟨⟨[],by simp⟩,by rw [List.nodup_append];exact⟨hd,by simp,fun a ha b hb=>by(obtain rfl:b=i:=by simpa using hb);rintro rfl;exact h ha⟩,fun j hj=>by
  rcases List.mem_append.1 hj with hj | hj
  ·exact hl j hj
  ·obtain rfl:j=i:=by simpa using hj
   exact hi,fun q x hq=>by omega,fun j hj hn=>absurd hj hn⟩
theorem zO.next (h:zO names mods n i l l' k) (hx:(pO names mods i)[k]? =some x) (h2:Nv names mods n x l' l2):zO names mods n i l l2 (k+1):=by
 obtain⟨e1,he1⟩:=h.ext;obtain⟨e2,he2⟩:=h2.ext;have hsub:∀j∈l',j∈l2:=fun j hj=>by rw [he2];exact List.mem_append_left _ hj
 refine⟨⟨e1++e2,by rw [he2,he1,List.append_assoc]⟩,h2.nd,h2.lt,fun q y hq hy=> ?_,fun j hj hn=> ?_⟩
 ·by_cases hqk:q=k
  ·subst hqk;rw [hx]at hy;injection hy with hy;subst hy;exact h2.mem
  ·exact hsub y (h.got q y (by omega) hy)
 ·by_cases hj':j∈l'
  ·obtain⟨h3,h4⟩:=h.new j hj' hn;exact⟨fun q hq=>hsub q (h3 q hq),h4⟩
  ·obtain⟨h3,h4⟩:=h2.new j hj hj';exact⟨h3,(oJ.step (oJ.refl i) (List.mem_of_getElem? hx)).trans h4⟩
theorem zO.done (h:zO names mods n i l l' k) (hk:(pO names mods i).length≤k):Nv names mods n i l l':=by
 obtain⟨e1,he1⟩:=h.ext;have hi:i∈l':=by rw [he1];simp
 refine⟨⟨i :: e1,by rw [he1];simp⟩,h.nd,h.lt,hi,fun j hj hn=> ?_⟩;by_cases hji:j=i
 ·subst hji;refine⟨fun q hq=> ?_,oJ.refl j⟩;obtain⟨p,hp,rfl⟩:=List.getElem_of_mem hq;exact h.got p _ (by omega) (List.getElem?_eq_getElem hp)
 ·exact h.new j hj (by simp [hn,hji])
theorem Nv.all (h:Nv names mods n i [] l') (j:Nat):j∈l'↔oJ names mods i j:=by
 refine⟨fun hj=>(h.new j hj (by simp)).2,fun hw=> ?_⟩;induction hw with
 | refl=>exact h.mem
 | step _ hk ih=>exact(h.new _ ih (by simp)).1 _ hk
end
theorem jD.turn {w w':World} {b:Nat} {l:List Nat} {G:Nat→Prop} (h:jD w b l) (t:Turn G w w') (hd:¬G b):jD w' b l:=MapAt.turn h t hd
def mP (B lb mb sk vb lv fb:Nat) (vN vM:Value) (names:List Bt) (mods:List eH) (w:World) (l:List Nat):Prop:=
 w.heap[vb]? =some (.cells #[.map (some sk)] 124 (0,0))∧w.heap[lv]? =some (.cells #[.pointer (some ⟨lb,0,none⟩)] 76 (0,0))∧w.heap[fb]? =some (.cells #[.func (.func 122) #[] #[.pointer (some ⟨vb,0,none⟩), .pointer (some ⟨lv,0,none⟩), .pointer (some ⟨fb,0,none⟩)]] 113 (0,0))∧
  jD w sk l∧nG w B lb mb vN vM names mods∧∃vS a b c vB,mM w lb vN vM vS a b c (.map (some mb)) vB
section
variable {B lb mb sk vb lv fb:Nat} {vN vM:Value} {names:List Bt} {mods:List eH} {w w':World} {l l':List Nat}
theorem mP.turn (h:mP B lb mb sk vb lv fb vN vM names mods w l) (t:Turn (fun j=>j=sk) w w') (hs:jD w' sk l') (h1:vb≠sk∧lv≠sk∧fb≠sk∧lb≠sk∧B≤sk):mP B lb mb sk vb lv fb vN vM names mods w' l':=by
 obtain⟨k1,k2,k3,k4,k5,vS,a,b,c,vB,k6⟩:=h;exact⟨ah k1 t h1.1,ah k2 t h1.2.1,ah k3 t h1.2.2.1,hs,k5.turn t (fun j e=> .inr (by omega)),vS,a,b,c,vB,ah k6 t h1.2.2.2.1⟩
theorem mP.below (h:mP B lb mb sk vb lv fb vN vM names mods w l) (hb:Below w.heap.size w w') (h1:vb≠sk∧lv≠sk∧fb≠sk∧lb≠sk∧B≤sk):mP B lb mb sk vb lv fb vN vM names mods w' l:=
 h.turn (Turn.of_below hb) (h.2.2.2.1.turn (Turn.of_below (F:=fun _=>False) hb) id) h1
end
def Nw (B lb mb sk vb lv fb:Nat) (vN vM:Value) (names:List Bt) (mods:List eH) (f:Nat):Prop:=∀(w:World) (l:List Nat) (i:Nat),mP B lb mb sk vb lv fb vN vM names mods w l→l.Nodup→(∀j∈l,j<mods.length)→i<mods.length→mods.length≤l.length+f→
 Calls Tryz.prog 122 #[.int .i64 i, .pointer (some ⟨vb,0,none⟩), .pointer (some ⟨lv,0,none⟩), .pointer (some ⟨fb,0,none⟩)] w fun e w'=>e= .returned (.tuple #[])∧Turn (fun j=>j=sk) w w'∧∃l',jD w' sk l'∧Nv names mods mods.length i l l'
theorem next_lt {names:List Bt} {mods:List eH} (hl:names.length=mods.length) (h0:0<mods.length) (s:Bt):fM names s<mods.length:=by
 unfold fM;cases h:names.findIdx? (· ==s)with
 | none=>exact h0
 | some i=>rw [←hl];exact(List.findIdx?_eq_some_iff_getElem.1 h).1
theorem AB {B lb mb sk vb lv fb:Nat} {vN vM:Value} {names:List Bt} {mods:List eH} (h16:mods.length≤16) (w:World) (l:List Nat) (i:Nat) (h:mP B lb mb sk vb lv fb vN vM names mods w l) (hd:l.Nodup) (hlt:∀j∈l,j<mods.length) (hi:i∈l):
  Calls Tryz.prog 122 #[.int .i64 i, .pointer (some ⟨vb,0,none⟩), .pointer (some ⟨lv,0,none⟩), .pointer (some ⟨fb,0,none⟩)] w fun e w'=>e= .returned (.tuple #[])∧Turn (fun j=>j=sk) w w'∧∃l',jD w' sk l'∧Nv names mods mods.length i l l':=by
 obtain⟨k1,k2,k3,k4,k5,k6⟩:=h;have dM:=uZ k4 (i:=i) (by have:=hlt i hi;omega);rw [decide_eq_true hi]at dM;have c1:=aZ k1;have hl1:=block_lt k1;have HS:=hid k4;have HD:=hid (Nv.had (names:=names) (mods:=mods) hd hlt hi);clear k1 k2 k3 k4 k5 k6 hd hlt hi;go_enter Tryz.func122,Tryz.ntmps122;go_wp2_with fail;refine bodyPost_ret (results_none rfl _ _ _) rfl ?_;exact⟨rfl,Turn.refl _ _,l,HS.out,HD.out⟩
theorem FB {B lb mb sk vb lv fb:Nat} {vN vM:Value} {names:List Bt} {mods:List eH} (h16:mods.length≤16):Nw B lb mb sk vb lv fb vN vM names mods 0:=by
 intro w l i h hd hlt hi hf;have hin:i∈l:=by
  by_cases hin:i∈l
  ·exact hin
  ·have h1:=zO.start (names:=names) (mods:=mods) hd hlt hi hin;have:=uI _ _ h1.nd h1.lt;rw [List.length_append,List.length_singleton]at this;omega
 exact AB h16 w l i h hd hlt hin
theorem FC {B lb mb sk vb lv fb:Nat} {vN vM:Value} {names:List Bt} {mods:List eH} (hC:vb≠sk∧lv≠sk∧fb≠sk∧lb≠sk∧B≤sk) (h16:mods.length≤16) (hl:names.length=mods.length) (nP:∀m∈mods,og 100000 m) (f:Nat)
  (ih:Nw B lb mb sk vb lv fb vN vM names mods f):Nw B lb mb sk vb lv fb vN vM names mods (f+1):=by
 intro w l i h hd hlt hi hf;by_cases hin:i∈l
 ·exact AB h16 w l i h hd hlt hin
 have IH:=hid ih;have hk0:=zO.start (names:=names) (mods:=mods) hd hlt hi hin;have hlen:l.length<mods.length:=by
  have:=uI _ _ hk0.nd hk0.lt;rw [List.length_append,List.length_singleton]at this;omega
 obtain⟨k1,k2,k3,k4,k5,vS,a,b,c,vB,k6⟩:=h;have dM:=uZ k4 (i:=i) (by omega);rw [decide_eq_false hin]at dM;obtain⟨w1,hrun,hs1,t1⟩:=Ko k4 (i:=i) (by omega) (by unfold maxLen;omega);have hv1:=mP.turn ⟨k1,k2,k3,k4,k5,vS,a,b,c,vB,k6⟩ t1 hs1 hC;have c1:=aZ k1;have hl1:=block_lt k1;obtain⟨g1,g2,g3,g4,g5,OQ,a',b',c',uW,g6⟩:=hv1;obtain⟨AM,cM,rfl,Tf,KF⟩:=nH g5;obtain⟨bm,om,A1,n1,A2,n2,rfl,Ti,m0,m1,hmo⟩:=uf g5 hi rfl;obtain⟨p0,p1,p2,p3,p4,p5,p6,p7,pz⟩:=aH g6;have d2:=aZ g2;have hl2:=block_lt g2;have VY:=block_lt g6;have MJ:=hid (show mP B lb mb sk vb lv fb vN (.slice (some ⟨bm,om,none⟩) mods.length cM) names mods w1 (l++[i])from⟨g1,g2,g3,g4,g5,OQ,a',b',c',uW,g6⟩);have hnm:=nP mods[i] (List.getElem_mem hi);have hgd:mods.getD i iI=mods[i]:=by rw [List.getD_eq_getElem?_getD,List.getElem?_eq_getElem hi];rfl
 obtain⟨m,hm⟩:∃m,mods[i]=m:=⟨_,rfl⟩
 rw [hm]at m0 m1 hmo hnm hgd;obtain⟨_, _,zP, _, _, _⟩:=nO hmo;have hk1:=(cB zP.all).2;have QL:=hid hmo;have Sj:=hid hnm;have HT1:=hid t1;have EX:=hid hk0;have HHR:=hid hrun;have hrun':=hrun;have ZM:(i:Int)<mods.length:=by omega
 have Jj:Hid (∀q (hq:q<m.imps.length),(pO names mods i)[q]? =some (fM names m.imps[q].from_)):=hid fun q hq=>by unfold pO;rw [hgd,List.getElem?_map,List.getElem?_eq_getElem hq];rfl
 have Sb:Hid ((pO names mods i).length=m.imps.length):=hid (by unfold pO;rw [hgd,List.length_map]);clear hd hlt hin k1 k2 k3 k4 k5 k6 hs1 t1 g1 g2 g3 g4 g5 g6 hm hgd hmo hnm zP hk0 nP m1 hrun p0 p2 p3 p4 p5 p6 p7 pz;go_enter Tryz.func122,Tryz.ntmps122;go_wp2_with fail;clear c1 hl1 d2 hl2 p1 VY m0 dM hrun';go_loopw [22] (fun v22 wq=>∃(k:Nat) (lk:List Nat),v22= .int .i64 k∧k≤m.imps.length∧zO names mods mods.length i l lk k∧mP B lb mb sk vb lv fb vN (.slice (some ⟨bm,om,none⟩) mods.length cM) names mods wq lk∧Turn (fun j=>j=sk) w1 wq) (fun v22 _=>m.imps.length - (intOf v22).toNat)
 case atStart=>exact⟨0,l++[i],rfl,by omega,EX.out,MJ.out,Turn.refl _ _⟩
 case round=>
  obtain⟨k,lk,rfl,hk,hD,hV,hT⟩:=hrel;by_cases hlk:k<m.imps.length
  ·have JH:=QL.out.turn hT (fun g _ hf hg=>by have:=hf.1;have:=hC.2.2.2.2;omega);obtain⟨xi,xd,s1,r1,s2,r2⟩:=nO JH;obtain⟨b0,o0,An,nn,cn,rfl,hb0,d0,d1,d2,d3,MQ⟩:=Ls s1.all r1 hlk rfl;have hIn:=(Sj.out.1 _ (List.getElem_mem hlk)).1;have hnl:=Jj.out k hlk;obtain⟨x,hx⟩:∃x,m.imps[k]=x:=⟨_,rfl⟩
   rw [hx]at hIn hnl d0 d2 d3;obtain⟨fr,nms,ln,cl⟩:=x;simp only at hIn hnl d0 d2 d3;obtain⟨W5,wT⟩:∃W5,wr.alloc (.cells #[sv fr, .slice An nn cn, .int .i64 ln, .int .i64 cl] 88)=W5:=⟨_,rfl⟩
   have hb5:Below wr.heap.size wr W5:=by rw [←wT];exact new1 _ _
   have hx5:=oF wr (.cells #[sv fr, .slice An nn cn, .int .i64 ln, .int .i64 cl] 88);rw [wT]at hx5;have hb6:Below wr.heap.size wr W5.drew:=hb5.trans ((bF W5 1).mono hb5.size);have hV6:=hV.below hb6 hC;obtain⟨g1,g2,g3,g4,g5,OQ,a',b',c',uW,g6⟩:=hV6;have dM:=xB g5.2.2.2.2.1 (s:=fr) (by unfold maxLen;omega);have e1:=(aH g6).2.2.2.2.2.2.1;have jf:Hid (W5.drew.cell? ⟨fb,0,none⟩=some (.func (.func 122) #[] #[.pointer (some ⟨vb,0,none⟩), .pointer (some ⟨lv,0,none⟩), .pointer (some ⟨fb,0,none⟩)])∧W5.drew.cell? ⟨lv,0,none⟩=some (.pointer (some ⟨lb,0,none⟩))∧W5.drew.cell? ⟨lb,6,none⟩=some (.map (some mb))∧W5.drew.cell? ⟨wr.heap.size,0,none⟩=some (sv fr)∧(Instr.lookup 77 (.map (some mb)) (sv fr) false).run Tryz.prog W5.drew= .ok (.int .i64 (fM names fr:Nat)) W5.drew):=hid ⟨aZ g3,aZ g2,e1,(bM (show W5.drew.heap[wr.heap.size]? = _ from hx5)).1,dM⟩;have hfl:=next_lt hl (by omega) fr;obtain⟨e,he⟩:=hD.ext;have acd:l.length+1≤lk.length:=by rw [he];simp
   have HI:=hid (IH.out W5.drew lk (fM names fr) ⟨g1,g2,g3,g4,g5,OQ,a',b',c',uW,g6⟩ hD.nd hD.lt hfl (by omega));have P5:=hid hD;have rY:=hid hnl;have XP:=hid hIn;have Ny:=hid hx5;have HSN:Hid (wr.heap.size≠sk):=hid (by have:=MapAt.lt hV.2.2.2.1;omega);have Lu:=hid wT;have fO:=hid (hT.trans (Turn.of_below (F:=fun j=>j=sk) hb6) (fun _ _ h=>h));have HV6:=hid (show mP B lb mb sk vb lv fb vN (.slice (some ⟨bm,om,none⟩) mods.length cM) names mods W5.drew lk from⟨g1,g2,g3,g4,g5,OQ,a',b',c',uW,g6⟩);have h1:=(cB MQ.all).2;clear JH s1 r1 s2 r2 hIn hnl hx wT hb5 hb6 hx5 MQ hV hD hT g1 g2 g3 g4 g5 g6 e1 dM he;go_wp2_with fail;rw [Lu.out];refine wp_region_held_drew (S:=fun w'=>w'.cell? ⟨fb,0,none⟩=some (.func (.func 122) #[] #[.pointer (some ⟨vb,0,none⟩), .pointer (some ⟨lv,0,none⟩), .pointer (some ⟨fb,0,none⟩)])∧w'.cell? ⟨lv,0,none⟩=some (.pointer (some ⟨lb,0,none⟩))∧w'.cell? ⟨lb,6,none⟩=some (.map (some mb))∧w'.cell? ⟨wr.heap.size,0,none⟩=some (sv fr)∧(Instr.lookup 77 (.map (some mb)) (sv fr) false).run Tryz.prog w'= .ok (.int .i64 (fM names fr:Nat)) w') (by kernel_rfl) jf.out (fun _=> ?_)
   try simp only [Act.put,List.getElem_toArray,List.getElem_cons_zero,List.getElem_cons_succ,List.setIfInBounds_toArray,List.set_cons_zero,List.set_cons_succ]
   refine sZ 0 (.func (.func 122) #[] #[.pointer (some ⟨vb,0,none⟩), .pointer (some ⟨lv,0,none⟩), .pointer (some ⟨fb,0,none⟩)]) (fun _ h=>h.1) jf.out ?_;refine sZ 1 (.pointer (some ⟨lb,0,none⟩)) (fun _ h=>h.2.1) jf.out ?_;refine tk 2 (.pointer (some ⟨lb,0,none⟩)) jf.out ?_;refine tk 3 (.pointer (some ⟨lb,6,none⟩)) jf.out ?_;refine sZ 4 (.map (some mb)) (fun _ h=>h.2.2.1) jf.out ?_;refine tk 5 (.pointer (some ⟨wr.heap.size,0,none⟩)) jf.out ?_;refine sZ 6 (sv fr) (fun _ h=>h.2.2.2.1) jf.out ?_;refine sZ 7 (.int .i64 (fM names fr:Nat)) (fun _ h=>h.2.2.2.2) jf.out ?_;refine wpAnyH_ready (rs:=[8]) (by kernel_rfl) (by simp) ?_;refine AllReadyH.cons rfl (fun K hK=> ?_) AllReadyH.nil;go_simp;refine(HI.out).mono ?_;rintro e w7 ⟨rfl,t7,l2,hs7,Uo⟩;have hV7:=HV6.out.turn t7 hs7 hC;have hx7:=ah (show W5.drew.heap[wr.heap.size]? = _ from Ny.out) t7 (fun e=>HSN.out e);obtain⟨g1,g2,g3,g4,g5,OQ,a',b',c',uW,g6⟩:=hV7;have dM:=xB g5.2.2.2.2.1 (s:=fr) (by have:=XP.out;unfold maxLen;omega);have e1:=(aH g6).2.2.2.2.2.2.1;refine hK.out _ _ ⟨aZ g3,aZ g2,e1,(bM hx7).1,dM⟩ (fun _=> ?_);clear hK K
   try simp only [Act.put,List.getElem_toArray,List.getElem_cons_zero,List.getElem_cons_succ,List.setIfInBounds_toArray,List.set_cons_zero,List.set_cons_succ]
   refine wpAnyH_done (by kernel_rfl) ?_ _;have XQ:=hid (show mP B lb mb sk vb lv fb vN (.slice (some ⟨bm,om,none⟩) mods.length cM) names mods w7 l2 from⟨g1,g2,g3,g4,g5,OQ,a',b',c',uW,g6⟩);have iE:=hid (fO.out.trans t7 (fun _ _ h=>h));have HD7:=hid (P5.out.next rY.out Uo);clear g1 g2 g3 g4 g5 g6 dM e1 hx7 t7 hs7 Uo d0 d1 d2 d3;go_wp2_with fail
   go_roundw
   case rel=>exact⟨k+1,l2,rfl,by omega,HD7.out,XQ.out,iE.out⟩
   case measure=>simp [intOf];omega
  ·obtain rfl:k=m.imps.length:=by omega
   have XQ:=hid hV;have iE:=hid hT;have HD7:=hid hD;clear hV hT hD;go_wp2_with fail;go_end0;exact⟨rfl,HT1.out.trans iE.out (fun _ _ h=>h),lk,XQ.out.2.2.2.1,HD7.out.done (by rw [Sb.out];omega)⟩
theorem AJ {B lb mb sk vb lv fb:Nat} {vN vM:Value} {names:List Bt} {mods:List eH} (hC:vb≠sk∧lv≠sk∧fb≠sk∧lb≠sk∧B≤sk) (h16:mods.length≤16) (hl:names.length=mods.length) (nP:∀m∈mods,og 100000 m):
  ∀f,Nw B lb mb sk vb lv fb vN vM names mods f
 | 0=>FB h16
 | f+1=>FC hC h16 hl nP f (AJ hC h16 hl nP f)
theorem Jk {B lb mb:Nat} {vN vM vS a b c vB:Value} {names:List Bt} {mods:List eH} (w:World) (i:Nat) (hfix:nG w B lb mb vN vM names mods) (hblk:mM w lb vN vM vS a b c (.map (some mb)) vB) (hB:B≤w.heap.size) (h16:mods.length≤16) (hl:names.length=mods.length) (nP:∀m∈mods,og 100000 m) (hi:i<mods.length):
  Calls Tryz.prog 66 #[.pointer (some ⟨lb,0,none⟩), .int .i64 i] w fun e w'=>∃sk l',e= .returned (.map (some sk))∧Below w.heap.size w w'∧jD w' sk l'∧∀j,j∈l'↔oJ names mods i j:=by
 have hmm:= @run_makeMap Tryz.prog;have hsf:=fun(a:Addr) (c:Array Value) (w:World)=>run_store Tryz.prog w a (.func (.func 122) #[] c) .plain rfl;have hlb:=hfix.1;obtain⟨W,hW⟩:∃W,(((w.alloc (.cells #[.pointer (some ⟨lb,0,none⟩)] 76)).alloc (.map #[] 0)).alloc (.cells #[.map (some (w.heap.size+1))] 124)).alloc (.cells #[.func (.func 122) #[] #[.pointer (some ⟨w.heap.size+1+1,0,none⟩), .pointer (some ⟨w.heap.size,0,none⟩), .pointer (some ⟨w.heap.size+1+1+1,0,none⟩)]] 113)=W:=⟨_,rfl⟩
 have hb4:Below w.heap.size w W:=by rw [←hW];exact Wz _ _ _ _ _
 obtain⟨t3,h3,q0,q1,q2⟩:=nW (G:=fun _=>False) (Turn.of_below (F:=fun _=>False) (new1 (((w.alloc (.cells #[.pointer (some ⟨lb,0,none⟩)] 76)).alloc (.map #[] 0)).alloc (.cells #[.map (some (w.heap.size+1))] 124)) (.cells #[.func (.func 122) #[] #[.pointer (some ⟨w.heap.size+1+1,0,none⟩), .pointer (some ⟨w.heap.size,0,none⟩), .pointer (some ⟨w.heap.size+1+1+1,0,none⟩)]] 113)));have q3:=oF (((w.alloc (.cells #[.pointer (some ⟨lb,0,none⟩)] 76)).alloc (.map #[] 0)).alloc (.cells #[.map (some (w.heap.size+1))] 124)) (.cells #[.func (.func 122) #[] #[.pointer (some ⟨w.heap.size+1+1,0,none⟩), .pointer (some ⟨w.heap.size,0,none⟩), .pointer (some ⟨w.heap.size+1+1+1,0,none⟩)]] 113);have hs3:(((w.alloc (.cells #[.pointer (some ⟨lb,0,none⟩)] 76)).alloc (.map #[] 0)).alloc (.cells #[.map (some (w.heap.size+1))] 124)).heap.size=w.heap.size+1+1+1:=by simp
 have hs1:(w.alloc (.cells #[.pointer (some ⟨lb,0,none⟩)] 76)).heap.size=w.heap.size+1:=by simp
 have hmk:=((MapAt.made (w.alloc (.cells #[.pointer (some ⟨lb,0,none⟩)] 76)) 3 4).turn (Turn.alloc (fun _=>False) _ (.cells #[.map (some (w.heap.size+1))] 124)) id).turn (Turn.alloc (fun _=>False) _ (.cells #[.func (.func 122) #[] #[.pointer (some ⟨w.heap.size+1+1,0,none⟩), .pointer (some ⟨w.heap.size,0,none⟩), .pointer (some ⟨w.heap.size+1+1+1,0,none⟩)]] 113)) id;rw [hs3]at q3;rw [hs1]at hmk;rw [hW]at q0 q2 q3 hmk;have t0:Turn (fun _=>False) w W:=Turn.of_below hb4;have hsn:jD W (w.heap.size+1) []:=by
  unfold jD;have e3:yF (([]:List Nat).map fun i=>Lit.int .i64 ((i:Nat):Int))=fun _=>none:=by funext k;simp [yF]
  rw [e3];exact hmk
 have hv:mP B lb mb (w.heap.size+1) (w.heap.size+1+1) w.heap.size (w.heap.size+1+1+1) vN vM names mods W []:=⟨q2 id,q0 id,q3,hsn,hfix.turn t0 (fun _ h=>h.elim),vS,a,b,c,vB,ah hblk t0 id⟩
 have hC:(w.heap.size+1+1≠w.heap.size+1∧w.heap.size≠w.heap.size+1∧w.heap.size+1+1+1≠w.heap.size+1∧lb≠w.heap.size+1∧B≤w.heap.size+1):=⟨by omega,by omega,by omega,by omega,by omega⟩
 have HI:=hid (AJ hC h16 hl nP mods.length W [] i hv (by simp) (by simp) hi (by simp));have HB:=hid hb4;have Z6:=hid (q2 id);have HW:=hid hW;clear hW hb4 t3 h3 q0 q1 q2 q3 hs3 hs1 hmk t0 hsn hv hC hfix hblk;go_enter Tryz.func66,Tryz.ntmps66;go_wp2_with fail;rw [HW.out];refine(HI.out).mono ?_;rintro e w2 ⟨rfl,t2,l',hs2,hd⟩;have hb2:=aZ (ah Z6.out t2 (by omega));have hbl:=block_lt (ah Z6.out t2 (by omega));have HS:=hid hs2;have HD:=hid hd;have HB2:=hid (HB.out.trans (t2.below HB.out.size (fun k hk e=>by omega)));clear t2 hs2 hd;go_wp2_with fail;go_ret;exact⟨_,l',rfl,HB2.out,HS.out,fun j=>HD.out.all j⟩
theorem BF {B lb mb:Nat} {vN vM a b c:Value} {names:List Bt} {mods:List eH} {w:World} {sc:List (List jN)} {bad:List kT} (h:L2 B lb mb vN vM a b c names mods w sc bad) (hB:B≤w.heap.size) (hlen:bad.length≤1000000000000) (d:kT):
  Calls Tryz.prog 62 #[.pointer (some ⟨lb,0,none⟩), .int .i64 d.module, .int .i64 d.line, .int .i64 d.col, .int .i64 d.e] w fun e w'=>e= .returned (.tuple #[])∧L2 B lb mb vN vM a b c names mods w' sc (bad++[d])∧cO B lb w w':=by
 obtain⟨vS,vB,F,hblk,hbad,hrow,hfix,hF,hap⟩:=h;have hlb:=hfix.1;have hlo:=hrow.lt;have hbl:=hbad.lt;refine(uX w lb B vN vM vS a b c (.map (some mb)) vB bad d hblk hbad hlen hlb hB).mono ?_;rintro e w' ⟨rfl,uW,k1,k2,k3,k4⟩;have hG:∀j,(j=lb∨vB.ownBlock=some j)→j=lb∨B≤j:=fun j e=>by
  rcases e with e | e
  ·exact .inl e
  ·exact .inr (hbl j e).1
 have hsz:=k4.size;refine⟨rfl,⟨vS,uW,fun j=>j<w.heap.size∧F j,k1,k2,(hrow.turn gB k4 (fun g hg e=> ?_) (fun j _ hj e=> ?_)).mono gB (fun j hj h=>⟨(hF j h).1,h⟩),hfix.turn k4 hG,fun j hj=> ?_,fun g hg=> ?_⟩,cO.of k4 hG fun j cs T hj hc=> ?_⟩
 ·rcases e with e | e
  ·have:=(hlo g hg).1;omega
  ·exact hap g hg e
 ·rcases e with e | e
  ·have:=(hF j hj).2.1;omega
  ·exact(hF j hj).2.2 e
 ·have h0:=hF j hj.2;refine⟨by omega,h0.2.1,fun e=> ?_⟩;rcases k3 with k | ⟨n,hn,k⟩
  ·rw [k]at e;exact h0.2.2 e
  ·rw [k]at e;injection e with e;omega
 ·rcases k3 with k | ⟨n,hn,k⟩
  ·rw [k];exact hap g hg
  ·rw [k];intro e;injection e with e;have:=(hlo g hg).2;omega
 ·rcases hj with rfl | hj
  ·exact .inr (.inr (.inr (tJ hblk hc)))
  ·exact .inr (.inl (pV hbad hj hc))
theorem L2.below {B lb mb:Nat} {vN vM a b c:Value} {names:List Bt} {mods:List eH} {w w':World} {sc:List (List jN)} {bad:List kT} (h:L2 B lb mb vN vM a b c names mods w sc bad) (hb:Below w.heap.size w w'):L2 B lb mb vN vM a b c names mods w' sc bad:=by
 obtain⟨vS,vB,F,h1,h2,h3,h4,h5,h6⟩:=h;have t0:Turn (fun _=>False) w w':=Turn.of_below hb;exact⟨vS,vB,fun j=>j<w.heap.size∧F j,ah h1 t0 id,h2.turn t0 (fun _ _=>id),(h3.turn gB t0 (fun _ _=>id) (fun _ _ _=>id)).mono gB (fun j hj h=>⟨(h5 j h).1,h⟩),h4.turn t0 (fun _ h=>h.elim),fun j hj=>by have:=h5 j hj.2;exact⟨Nat.lt_of_lt_of_le this.1 hb.size,this.2⟩,h6⟩
theorem L2.fix {B lb mb:Nat} {vN vM a b c:Value} {names:List Bt} {mods:List eH} {w:World} {sc:List (List jN)} {bad:List kT} (h:L2 B lb mb vN vM a b c names mods w sc bad):nG w B lb mb vN vM names mods:=by
 obtain⟨vS,vB,F,h1,h2,h3,h4,h5,h6⟩:=h;exact h4
theorem L2.blk {B lb mb:Nat} {vN vM a b c:Value} {names:List Bt} {mods:List eH} {w:World} {sc:List (List jN)} {bad:List kT} (h:L2 B lb mb vN vM a b c names mods w sc bad):∃vS vB,mM w lb vN vM vS a b c (.map (some mb)) vB:=by
 obtain⟨vS,vB,F,h1,h2,h3,h4,h5,h6⟩:=h;exact⟨vS,vB,h1⟩
open Classical in
theorem FD (names:List Bt) (mods:List eH) (i:Nat) (x:kG):(iR names mods i x).length≤1:=by
 unfold iR;split <;> simp
theorem rW (names:List Bt) (mods:List eH) (i:Nat):∀l:List kG,(l.flatMap (iR names mods i)).length≤l.length
 | []=>by simp
 | x :: l=>by
  have h1:=FD names mods i x;have h2:=rW names mods i l;rw [List.flatMap_cons,List.length_append,List.length_cons];omega
theorem LA (l:List kG):l.length≤(l.map kM).sum:=by
 induction l with
 | nil=>simp
 | cons x l ih=>rw [List.map_cons,List.sum_cons,List.length_cons];unfold kM at*;omega
open Classical in
theorem FE {B lb mb:Nat} {vN vM a b c:Value} {names:List Bt} {mods:List eH} (w:World) (sc:List (List jN)) (h:L2 B lb mb vN vM a b c names mods w sc []) (hB:B≤w.heap.size) (hl:names.length=mods.length) (h16:mods.length≤16)
  (nP:∀m∈mods,tZ m≤100000∧og 100000 m):
  Calls Tryz.prog 34 #[.pointer (some ⟨lb,0,none⟩)] w fun e w'=>e= .returned (.tuple #[])∧L2 B lb mb vN vM a b c names mods w' sc (fC names mods 0 mods)∧cO B lb w w':=by
 have H0:=hid h;have hfix:=h.fix;obtain⟨vS,vB,hblk⟩:=h.blk;obtain⟨AM,cM,rfl,Tf,KF⟩:=nH hfix;obtain⟨p0,p1,p2,p3,p4,p5,p6,p7,pz⟩:=aH hblk;have HM:=hid nP;clear hblk hfix nP p0 p2 p3 p4 p5 p6 p7 pz h;go_enter Tryz.func34,Tryz.ntmps34;go_wp2_with fail;clear p1;go_loopw [12] (fun v12 wr=>∃(i:Nat) (bad:List kT),v12= .int .i64 i∧i≤mods.length∧fC names mods 0 mods=bad++fC names mods i (mods.drop i)∧bad.length≤i*100000∧L2 B lb mb vN (.slice AM mods.length cM) a b c names mods wr sc bad∧cO B lb w wr) (fun v12 _=>mods.length - (intOf v12).toNat)
 case atStart=>exact⟨0,[],rfl,by omega,by rw [List.drop_zero];simp,by simp,H0.out,cO.below (Below.refl _ _)⟩
 case round=>
  obtain⟨i,bad,rfl,hi,hsp,hbl,hL,hT⟩:=hrel;by_cases hlt:i<mods.length
  ·have hdrop:mods.drop i=mods[i] :: mods.drop (i+1):=List.drop_eq_getElem_cons hlt;rw [hdrop,fC]at hsp;obtain⟨bm,om,A1,c1,A2,c2,rfl,Ti,m0,m1,hmo⟩:=uf hL.fix hlt rfl;obtain⟨hsz1,Fz⟩:=HM.out mods[i] (List.getElem_mem hlt);obtain⟨m,hm⟩:∃m,mods[i]=m:=⟨_,rfl⟩
   rw [hm]at m0 m1 hmo hsp hsz1 Fz;obtain⟨W,hW⟩:∃W,wr.alloc (.cells #[.slice A1 m.imps.length c1, .slice A2 m.decls.length c2] 40)=W:=⟨_,rfl⟩
   have hbW:Below wr.heap.size wr W:=by rw [←hW];exact new1 _ _
   have hmk:=oF wr (.cells #[.slice A1 m.imps.length c1, .slice A2 m.decls.length c2] 40);rw [hW]at hmk;obtain⟨_, _,hs1, _, _, _⟩:=nO hmo;have hk1:=(cB hs1.all).2;have hml:m.imps.length≤100000:=by have:=LA m.imps;unfold tZ at hsz1;omega
   have hBr:B≤wr.heap.size:=Nat.le_trans hB hT.1.size;have Uq:=hid (hL.below hbW);have XK:=hid hmk;have QL:=hid (hmo.turn (Turn.of_below (F:=fun _=>False) hbW) (fun _ _ _=>id));have HW:=hid hW;have QM:=hid hsp;have HT:=hid (hT.trans (cO.below hbW));have Sj:=hid Fz;have hWs:wr.heap.size+1=W.heap.size:=by rw [←hW];simp
   have Ur:=hL.blk;obtain⟨OQ,uW,hblk⟩:=Ur;clear hL hmk hbW hmo hW hsp hT Fz hm hdrop hs1 hsz1;obtain⟨w0,rfl⟩:∃w0,w0=wr:=⟨_,rfl⟩
   go_wp2_with fail;rw [HW.out];clear m0 m1 hblk;go_loopw [20] (fun v20 wq=>∃k:Nat,v20= .int .i64 k∧k≤m.imps.length∧L2 B lb mb vN (.slice (some ⟨bm,om,none⟩) mods.length cM) a b c names mods wq sc (bad++(m.imps.take k).flatMap (iR names mods i))∧cO B lb W wq) (fun v20 _=>m.imps.length - (intOf v20).toNat)
   case atStart=>exact⟨0,rfl,by omega,by simpa using Uq.out,cO.below (Below.refl _ _)⟩
   case round=>
    obtain⟨k,rfl,hk,hL,hK⟩:=hrel;by_cases hlk:k<m.imps.length
    ·have JH:=hK.mo QL.out;obtain⟨xi,xd,s1,r1,s2,r2⟩:=nO JH;obtain⟨b0,o0,An,nn,cn,rfl,hb0,d0,d1,d2,d3,MQ⟩:=Ls s1.all r1 hlk rfl;have hnx:bad++(m.imps.take (k+1)).flatMap (iR names mods i)=(bad++(m.imps.take k).flatMap (iR names mods i))++iR names mods i m.imps[k]:=by rw [List.take_succ_eq_append_getElem hlk,List.flatMap_append,List.append_assoc];simp
     have hIn:=(Sj.out.1 _ (List.getElem_mem hlk)).1;have lU:=rW names mods i (m.imps.take k);rw [List.length_take]at lU;obtain⟨bk,hbk⟩:∃s,bad++(m.imps.take k).flatMap (iR names mods i)=s:=⟨_,rfl⟩
     have ach:bk.length≤100000000:=by rw [←hbk,List.length_append];omega
     rw [hbk]at hnx hL;obtain⟨x,hx⟩:∃x,m.imps[k]=x:=⟨_,rfl⟩
     rw [hx]at hnx hIn d0 d2 d3;obtain⟨fr,nms,ln,cl⟩:=x;simp only at hIn d0 d2 d3;obtain⟨W5,wT⟩:∃W5,wr.alloc (.cells #[sv fr, .slice An nn cn, .int .i64 ln, .int .i64 cl] 88)=W5:=⟨_,rfl⟩
     have hb5:Below wr.heap.size wr W5:=by rw [←wT];exact new1 _ _
     have hx5:=oF wr (.cells #[sv fr, .slice An nn cn, .int .i64 ln, .int .i64 cl] 88);rw [wT]at hx5;have hb6:Below wr.heap.size wr W5.drew:=hb5.trans ((bF W5 1).mono hb5.size);have hL6:=hL.below hb6;obtain⟨vS2,sw,g6⟩:=hL6.blk;have dM:=xB hL6.fix.2.2.2.2.1 (s:=fr) (by unfold maxLen;omega);have e1:=(aH g6).2.2.2.2.2.2.1;have jf:Hid (W5.drew.cell? ⟨lb,6,none⟩=some (.map (some mb))∧W5.drew.cell? ⟨wr.heap.size,0,none⟩=some (sv fr)∧(Instr.lookup 77 (.map (some mb)) (sv fr) false).run Tryz.prog W5.drew= .ok (.int .i64 (fM names fr:Nat)) W5.drew):=hid ⟨e1,(bM (show W5.drew.heap[wr.heap.size]? = _ from hx5)).1,dM⟩;have hfl:=next_lt hl (by omega) fr;have Z7:B≤W5.drew.heap.size:=by have:=hK.1.size;have:=hb6.size;omega
     have HI:=hid (Jk W5.drew (fM names fr) hL6.fix g6 Z7 h16 hl (fun m hm=>(HM.out m hm).2) hfl);have XR:=hid hL6;have XP:=hid hIn;have Ny:=hid (show W5.drew.heap[wr.heap.size]? = _ from hx5);have Lu:=hid wT;have lX:=hid (hK.trans (cO.below hb6));have rY:=hid hnx;have h1:=(cB MQ.all).2;have hxl:=block_lt (show W5.drew.heap[wr.heap.size]? = _ from hx5);clear JH s1 r1 s2 r2 hIn hx wT hb5 hb6 hx5 MQ hL hK g6 e1 dM hnx hbk lU hL6;go_wp2_with fail;rw [Lu.out];refine wp_region_held_drew (S:=fun w'=>w'.cell? ⟨lb,6,none⟩=some (.map (some mb))∧w'.cell? ⟨wr.heap.size,0,none⟩=some (sv fr)∧(Instr.lookup 77 (.map (some mb)) (sv fr) false).run Tryz.prog w'= .ok (.int .i64 (fM names fr:Nat)) w') (by kernel_rfl) jf.out (fun _=> ?_)
     try simp only [Act.put,List.getElem_toArray,List.getElem_cons_zero,List.getElem_cons_succ,List.setIfInBounds_toArray,List.set_cons_zero,List.set_cons_succ]
     refine tk 0 (.pointer (some ⟨lb,0,none⟩)) jf.out ?_;refine tk 1 (.pointer (some ⟨lb,0,none⟩)) jf.out ?_;refine tk 2 (.pointer (some ⟨lb,0,none⟩)) jf.out ?_;refine tk 3 (.pointer (some ⟨lb,6,none⟩)) jf.out ?_;refine sZ 4 (.map (some mb)) (fun _ h=>h.1) jf.out ?_;refine tk 5 (.pointer (some ⟨wr.heap.size,0,none⟩)) jf.out ?_;refine sZ 6 (sv fr) (fun _ h=>h.2.1) jf.out ?_;refine sZ 7 (.int .i64 (fM names fr:Nat)) (fun _ h=>h.2.2) jf.out ?_;refine tk 9 (.int .i64 i) jf.out ?_;refine wpAnyH_ready (rs:=[8]) (by kernel_rfl) (by simp) ?_;refine AllReadyH.cons rfl (fun K hK=> ?_) AllReadyH.nil;go_simp;refine(HI.out).mono ?_;rintro e w7 ⟨sk,l',rfl,fI,hs7,hall⟩;have hL7:=XR.out.below fI;obtain⟨vS3,vB3,g7⟩:=hL7.blk;have dM:=xB hL7.fix.2.2.2.2.1 (s:=fr) (by have:=XP.out;unfold maxLen;omega);have hx7:=(fI.block _ hxl).trans Ny.out;have fQ:Hid (w7.cell? ⟨lb,6,none⟩=some (.map (some mb))∧w7.cell? ⟨wr.heap.size,0,none⟩=some (sv fr)∧(Instr.lookup 77 (.map (some mb)) (sv fr) false).run Tryz.prog w7= .ok (.int .i64 (fM names fr:Nat)) w7):=hid ⟨(aH g7).2.2.2.2.2.2.1,(bM hx7).1,dM⟩;have GQ:=uZ hs7 (i:=i) (by omega);have qQ:=hid hL7;have LB:=hid hx7;have jP:=hid (lX.out.trans (cO.below fI));refine hK.out _ _ fQ.out (fun _=> ?_);clear hK K
     try simp only [Act.put,List.getElem_toArray,List.getElem_cons_zero,List.getElem_cons_succ,List.setIfInBounds_toArray,List.set_cons_zero,List.set_cons_succ]
     have hB7:B≤w7.heap.size:=Nat.le_trans Z7 fI.size;clear hL7 g7 dM hs7 fI hx7 d0 d1 d2 d3;by_cases hw:i∈l'
     ·have hcy:iR names mods i ⟨fr,nms,ln,cl⟩=[⟨i,ln,cl,13⟩]:=by unfold iR;exact if_pos (show oJ names mods (fM names fr) i from(hall i).1 hw)
      have XT:=hid (rY.out.trans (by rw [hcy]));rw [decide_eq_true hw]at GQ;have Ji:=hid (BF qQ.out hB7 (by omega) ⟨(i:Nat),ln,cl,13⟩);refine wpAnyH_ready (rs:=[10]) (by kernel_rfl) (by simp) ?_;refine AllReadyH.cons rfl (fun K hK=> ?_) AllReadyH.nil;go_simp;refine hK.out _ _ fQ.out (fun _=> ?_);clear hK K
      try simp only [Act.put,List.getElem_toArray,List.getElem_cons_zero,List.getElem_cons_succ,List.setIfInBounds_toArray,List.set_cons_zero,List.set_cons_succ]
      refine wpAnyH_done (by kernel_rfl) ?_ _;obtain⟨x0,x1,x2,x3,xz⟩:=bM LB.out;have acn:=block_lt LB.out;clear hcy hw hall GQ;go_wp2_with fail;refine(Ji.out).mono ?_;rintro e w8 ⟨rfl,JB,MH⟩;have HL8:=hid JB;have qG:=hid MH;clear JB MH x0 x1 x2 x3 xz;go_wp2_with fail
      go_roundw
      case rel=>exact⟨k+1,rfl,by omega,by rw [XT.out];exact HL8.out,jP.out.trans qG.out⟩
      case measure=>simp [intOf];omega
     ·have hcy:iR names mods i ⟨fr,nms,ln,cl⟩=[]:=by unfold iR;exact if_neg (show ¬oJ names mods (fM names fr) i from fun h=>hw ((hall i).2 h))
      have XT:=hid (rY.out.trans (by rw [hcy,List.append_nil]));rw [decide_eq_false hw]at GQ;refine wpAnyH_ready (rs:=[10]) (by kernel_rfl) (by simp) ?_;refine AllReadyH.cons rfl (fun K hK=> ?_) AllReadyH.nil;go_simp;refine hK.out _ _ fQ.out (fun _=> ?_);clear hK K
      try simp only [Act.put,List.getElem_toArray,List.getElem_cons_zero,List.getElem_cons_succ,List.setIfInBounds_toArray,List.set_cons_zero,List.set_cons_succ]
      refine wpAnyH_done (by kernel_rfl) ?_ _;clear hcy hw hall GQ;go_wp2_with fail
      go_roundw
      case rel=>exact⟨k+1,rfl,by omega,by rw [XT.out];exact qQ.out,jP.out⟩
      case measure=>simp [intOf];omega
    ·obtain rfl:k=m.imps.length:=by omega
     rw [List.take_length]at hL;have lU:=rW names mods i m.imps;have Dx:(bad++m.imps.flatMap (iR names mods i)).length≤(i+1)*100000:=by rw [List.length_append];omega
     have qQ:=hid hL;have jP:=hid hK;have Bz:=hid Dx;clear hL hK lU Dx;go_wp2_with fail
     go_roundw
     case rel=>exact⟨i+1, _,rfl,by omega,by rw [QM.out,List.append_assoc],Bz.out,qQ.out,HT.out.trans jP.out⟩
     case measure=>simp [intOf];omega
  ·obtain rfl:i=mods.length:=by omega
   rw [List.drop_length]at hsp;have QM:=hid hsp;have HL:=hid hL;have HT:=hid hT;clear hsp hL hT;go_wp2_with fail;go_end0;refine⟨rfl, ?_,HT.out⟩;rw [QM.out];simp only [fC,List.append_nil];exact HL.out
theorem L2.main {B lb mb:Nat} {vN vM a b c a' b' c':Value} {names:List Bt} {mods:List eH} {w:World} {sc:List (List jN)} {bad:List kT} (h:L2 B lb mb vN vM a b c names mods w sc bad):
  L2 B lb mb vN vM a' b' c' names mods (((w.setCell ⟨lb,3,none⟩ a').setCell ⟨lb,4,none⟩ b').setCell ⟨lb,5,none⟩ c') sc bad∧Turn (fun j=>j=lb) w (((w.setCell ⟨lb,3,none⟩ a').setCell ⟨lb,4,none⟩ b').setCell ⟨lb,5,none⟩ c'):=by
 obtain⟨vS,vB,F,h1,h2,h3,h4,h5,h6⟩:=h;have hlb:=h4.1;have t:=((ay w lb 3 a').trans (ay _ lb 4 b') (fun _ _ h=>h)).trans (ay _ lb 5 c') (fun _ _ h=>h);refine⟨⟨vS,vB,fun j=>j<w.heap.size∧F j,heap_setCell_same _ _ 5 _ _ _ (heap_setCell_same _ _ 4 _ _ _ (heap_setCell_same _ _ 3 _ _ _ h1)),h2.turn t (fun g hg e=>by have:=(h2.lt g hg).1;omega),(h3.turn gB t (fun g hg e=>by have:=(h3.lt g hg).1;omega) (fun j _ hj e=>by have:=(h5 j hj).2.1;omega)).mono gB (fun j hj h=>⟨(h5 j h).1,h⟩),h4.turn t (fun j e=> .inl e),fun j hj=> ?_,h6⟩,t⟩;have:=h5 j hj.2;exact⟨Nat.lt_of_lt_of_le this.1 t.size,this.2⟩
theorem Jl {names:List Bt} {mods:List eH} (h:names.findIdx? (· ==iw)=none):iV names mods=(Km,[⟨0,1,1,14⟩]):=by unfold iV;rw [h]
theorem Nz {names:List Bt} {mods:List eH} {i:Nat} (h:names.findIdx? (· ==iw)=some i) (hd:kL (mods.getD i iI) iw=none):iV names mods=(Km,[⟨i,1,1,14⟩]):=by unfold iV;rw [h];simp only [hd]
theorem Jm {names:List Bt} {mods:List eH} {i k:Nat} {d:jJ} (h:names.findIdx? (· ==iw)=some i) (hd:kL (mods.getD i iI) iw=some k) (hk:(mods.getD i iI).decls[k]? =some d):iV names mods=(⟨iw,i,k⟩,if d.vars.isEmpty then []else [⟨i,d.line,d.col,14⟩]):=by unfold iV;rw [h];simp only [hd,hk]
def M2 (B lb mb:Nat) (vN vM:Value) (names:List Bt) (mods:List eH) (w:World) (sc:List (List jN)) (r:jN ×List kT):Prop:=L2 B lb mb vN vM (sv r.1.name) (.int .i64 r.1.module) (.int .i64 r.1.decl) names mods w sc r.2
theorem LC {B lb mb:Nat} {vN vM:Value} {names:List Bt} {mods:List eH} (w:World) (sc:List (List jN)) (h:L2 B lb mb vN vM (sv []) (.int .i64 0) (.int .i64 0) names mods w sc []) (hB:B≤w.heap.size) (hl:names.length=mods.length) (h16:mods.length≤16):
  Calls Tryz.prog 35 #[.pointer (some ⟨lb,0,none⟩)] w fun e w'=>e= .returned (.tuple #[])∧M2 B lb mb vN vM names mods w' sc (iV names mods)∧Turn (fun j=>j=lb∨B≤j) w w':=by
 have hfix:=h.fix;obtain⟨vS,vB,hblk⟩:=h.blk;obtain⟨AM,cM,rfl,Tf,KF⟩:=nH hfix;obtain⟨p0,p1,p2,p3,p4,p5,p6,p7,pz⟩:=aH hblk;have dM:(Instr.lookup 77 (.map (some mb)) (.string ⟨#[109,97,105,110]⟩) true).run Tryz.prog w= .ok (.tuple #[.int .i64 (fM names iw:Nat), .bool (names.findIdx? (· ==iw)).isSome]) w:=rH hfix.2.2.2.2.1 (s:=iw) (by decide);have H0:=hid h;have Us:=block_lt hblk;cases hf:names.findIdx? (· ==iw)with
 | none=>
  have HM:=hid (Jl (mods:=mods) hf);rw [hf,show fM names iw=0 by unfold fM;rw [hf];rfl]at dM;have HF:=hid (BF H0.out hB (by simp) ⟨0,1,1,14⟩);clear hf h hfix hblk p0 p1 p2 p3 p4 p5 p7 pz;go_enter Tryz.func35,Tryz.ntmps35;go_wp2_with fail;refine(HF.out).mono ?_;rintro e w2 ⟨rfl,hL,hK⟩;have HL:=hid hL;have HK:=hid hK.1;clear hL hK;go_wp2_with fail;refine bodyPost_ret (results_none rfl _ _ _) rfl ?_;exact⟨rfl,by rw [HM.out];exact HL.out,HK.out⟩
 | some i=>
  have hfl:i<mods.length:=by rw [←hl];exact(List.findIdx?_eq_some_iff_getElem.1 hf).1
  have hfI:(i:Int)<mods.length:=by omega
  rw [hf,show fM names iw=i by unfold fM;rw [hf];rfl]at dM;have PI:mods.getD i iI=mods[i]:=by rw [List.getD_eq_getElem?_getD,List.getElem?_eq_getElem hfl];rfl
  obtain⟨bm,om,A1,c1,A2,c2,rfl,Ti,m0,m1,hmo⟩:=uf hfix hfl rfl;obtain⟨m,hm⟩:∃m,mods[i]=m:=⟨_,rfl⟩
  rw [hm]at m0 m1 hmo PI;obtain⟨xi,xd, _, _,s2,r2⟩:=Dw hmo.all;have hml:=(cB s2).2;have HD:=hid (Aj w _ m iw hmo.all);have QL:=hid hmo;have HFE:=hid hf;have PU:=hid PI;clear hf h hfix hmo PI hm;cases hd:kL m iw with
  | none=>
   have HM:=hid (Nz (mods:=mods) HFE.out (by rw [PU.out];exact hd));have hdn:rJ m.decls iw= -1:=by unfold rJ;unfold kL at hd;rw [hd]
   rw [hdn]at HD;clear hd hdn hblk p0 p2 p3 p4 p5 p7 pz s2 r2;go_enter Tryz.func35,Tryz.ntmps35;go_wp2_with fail;refine(HD.out).mono ?_;rintro e w1 ⟨rfl,hb1⟩;have HF:=hid (BF (H0.out.below hb1) (Nat.le_trans hB hb1.size) (by simp) ⟨(i:Nat),1,1,14⟩);have HB1:=hid hb1;clear hb1 p1 p6 m0 m1 dM;go_wp2_with fail;refine(HF.out).mono ?_;rintro e w2 ⟨rfl,hL,hK⟩;have HL:=hid hL;have HK:=hid ((cO.below HB1.out).trans hK).1;clear hL hK;go_wp2_with fail;refine bodyPost_ret (results_none rfl _ _ _) rfl ?_;exact⟨rfl,by rw [HM.out];exact HL.out,HK.out⟩
  | some kd=>
   have hkd:=C9 hd;have hdn:rJ m.decls iw=kd:=by unfold rJ;unfold kL at hd;rw [hd]
   have hdk:(mods.getD i iI).decls[kd]? =some m.decls[kd]:=by rw [PU.out];exact List.getElem?_eq_getElem hkd
   have HM:=hid (Jm HFE.out (by rw [PU.out];exact hd) hdk);rw [hdn]at HD;have HS2:=hid s2;have HR2:=hid r2;have Tn:(kd:Int)<m.decls.length:=by omega
   have Bz:=hid hblk;clear hd hdn hdk hblk p0 p2 p3 p4 p5 p7 pz s2 r2;go_enter Tryz.func35,Tryz.ntmps35;go_wp2_with fail;refine(HD.out).mono ?_;rintro e w1 ⟨rfl,hb1⟩;obtain⟨k0,k1,k2,k3,k4,k5,k6,k7,kz⟩:=aH ((hb1.block _ Us).trans Bz.out);have hl1:=block_lt ((hb1.block _ Us).trans Bz.out);have VH:=(hb1.cell (p:=⟨bm,om+i*2+1,none⟩) Ti).trans m1;obtain⟨bq,oq,JI,c1',OM,c2',kk,ss,n1,l1,cc,A3,n3,c3,A4,n4,c4,A5,n5,c5,rfl,hbq,d0,d1,d2,d3,d4,d5,d6,d7,d8,d9,RV,RX,RY,Ku,Kv⟩:=Gt (Sl.more (Sl.below HS2.out hb1) hb1.size) (HR2.out.imp fun _ _ h=>(h.keep hb1).more hb1.size) hkd rfl;obtain⟨d,hde⟩:∃d,m.decls[kd]=d:=⟨_,rfl⟩
   rw [hde]at d0 d1 d2 d3 d4 Ku Kv;have Eb:=HM.out;rw [hde]at Eb;have HMM:=hid Eb;obtain⟨nm,ex,vs,pr,ts,bd,ln,cl⟩:=d;simp only at d0 d1 d2 d3 d4 Ku Kv;obtain⟨vl,hvl⟩:∃n,vs.length=n:=⟨_,rfl⟩
   obtain⟨tl,htl⟩:∃n,ts.length=n:=⟨_,rfl⟩
   rw [hvl]at d2;rw [htl]at d4;obtain⟨W5,wT⟩:∃W5,w1.alloc (.cells #[sv nm, .bool ex, .slice JI vl c1',sv pr, .slice OM tl c2', .int .i64 kk, .string ss, .int .i64 n1, .int .i64 l1, .int .i64 cc, .slice A3 n3 c3, .slice A4 n4 c4, .slice A5 n5 c5, .int .i64 ln, .int .i64 cl] 51)=W5:=⟨_,rfl⟩
   have hb5:Below w1.heap.size w1 W5:=by rw [←wT];exact new1 _ _
   have LD:=hb1.trans (hb5.mono hb1.size);have hL5:=H0.out.below LD;have HL5:=hid hL5;have XU:=hid LD;have HB1:=hid hb1;have Lu:=hid wT;by_cases hv:vl=0
   ·have XV:=hid (show(if vs.isEmpty=true then([]:List kT)else [⟨(i:Nat),ln,cl,14⟩])=[]from if_pos (by cases vs;rfl;simp at hvl;omega));subst hv;obtain⟨vS5,vB5,g5⟩:=hL5.blk;obtain⟨y0,y1,y2,y3,y4,y5,y6,y7,yz⟩:=aH g5;have yl:=block_lt g5;clear hb1 hb5 LD wT hL5 hde Eb hvl htl p1 p6 m0 m1 dM g5;go_wp2_with fail;go_end0;obtain⟨hm1,hm2⟩:=(H0.out.below HB1.out).main (a':=sv iw) (b':= .int .i64 i) (c':= .int .i64 kd);refine⟨rfl, ?_,((cO.below (B:=B) (lb:=lb) HB1.out).1.trans hm2 (fun _ _ e=> .inl e)).trans (Turn.of_below (F:=fun j=>j=lb∨B≤j) (new1 _ _)) (fun _ _ h=>h)⟩;rw [HMM.out];unfold M2;simp only;rw [XV.out];exact hm1.below (new1 _ _)
   ·have XV:=hid (show(if vs.isEmpty=true then([]:List kT)else [⟨(i:Nat),ln,cl,14⟩])=[⟨(i:Nat),ln,cl,14⟩]from if_neg (by cases vs;simp at hvl;omega;simp));have hvI:(0:Int)<vl:=by omega
    have HF:=hid (BF hL5 (Nat.le_trans hB LD.size) (by simp) ⟨(i:Nat),ln,cl,14⟩);clear hb1 hb5 LD wT hL5 hde Eb hvl htl p1 p6 m0 m1 dM hv;go_wp2_with fail;rw [Lu.out];refine(HF.out).mono ?_;rintro e w6 ⟨rfl,hL,hK⟩;obtain⟨vS6,vB6,g6⟩:=hL.blk;obtain⟨y0,y1,y2,y3,y4,y5,y6,y7,yz⟩:=aH g6;have yl:=block_lt g6;have XR:=hid hL;have lX:=hid ((cO.below XU.out).trans hK).1;clear hL hK g6 k0 k1 k2 k3 k4 k5 k6 k7 kz VH d0 d1 d2 d3 d4 d5 d6 d7 d8 d9 RV RX RY Ku Kv;go_wp2_with fail;go_end0;obtain⟨hm1,hm2⟩:=XR.out.main (a':=sv iw) (b':= .int .i64 i) (c':= .int .i64 kd);refine⟨rfl, ?_,lX.out.trans hm2 (fun _ _ e=> .inl e)⟩;rw [HMM.out];unfold M2;simp only;rw [XV.out];exact hm1
theorem iB:ng sO 2 where
 turn h t hd:=h.turn t hd
 mono h hF:=h.mono hF
 len h:=by obtain⟨vi,xi,vd,xd,rfl, _⟩:=h;rfl
 one h:=by
  obtain⟨A1,c1,A2,c2, _, _,rfl, _⟩:=h.all.parts;intro u hu;simp only [List.mem_cons,List.not_mem_nil,or_false]at hu;rcases hu with rfl | rfl <;> rfl
theorem LG {α:Type} {R:World→(Nat→Prop)→List Value→α→Prop} {k:Nat} (hR:ng R k) {e:TypeId} {Y w9:World} {base:Nat} {F:Nat→Prop} {v v9:Value} {l:List α} {x:α} {z ys:List Value} {n9:Nat} (h1:Y.ownsRow base e k v l.length ys) (h2:bQ (R Y (jU F v)) k ys l)
  (hx:R Y (jU F v) z x) (hg:Y.grownBy w9 v.ownBlock) (hbk:v9.ownBlock=v.ownBlock∨v9.ownBlock=some Y.heap.size) (h9:w9.ownsRow base e k v9 n9 (ys++z)) (hk:0<k):dN R k e w9 base F v9 (l++[x])∧n9=l.length+1∧Turn (fun j=>v.ownBlock=some j) Y w9:=by
 have t9:=Turn.aP hg (F:=fun j=>v.ownBlock=some j) (fun _ h=>h);have hn:n9=(l++[x]).length:=by
  have e1:=h9.1;have e2:=h1.1;have e3:=hR.len hx;rw [List.length_append,e2,e3]at e1;rw [List.length_append,List.length_singleton];have:n9*k=(l.length+1)*k:=by rw [←e1,Nat.add_mul,Nat.one_mul]
  exact Nat.eq_of_mul_eq_mul_right hk this
 subst hn;have hm:∀ {z:List Value} {x:α},R Y (jU F v) z x→R w9 (jU F v9) z x:=fun h=>by
  have h3:R Y (fun j=>j<Y.heap.size∧jU F v j) _ _:=hR.mono h fun j hj h=>⟨hj,h⟩
  refine hR.mono (hR.turn h3 t9 (fun j _ h e=>h.2.1 e)) fun j _ h=>⟨fun e=> ?_,h.2.2⟩
  rcases hbk with hb | hb
  ·rw [hb]at e;exact h.2.1 e
  ·rw [hb]at e;injection e with e;have:=h.1;omega
 exact⟨⟨_,h9,bQ.app (vP (hR.len hx) (hm hx)) (h2.imp fun _ _ h=>hm h)⟩,by simp,t9⟩
def P1 (base lb mb:Nat) (names gW:List Bt) (mods:List eH) (bad:List kT) (w:World):Prop:=∃(vN vM vB:Value) (F:Nat→Prop),mM w lb vN vM (.slice none 0 0) (sv []) (.int .i64 0) (.int .i64 0) (.map (some mb)) vB∧mJ w base vB bad∧iC w base 9 vN names∧dN sO 2 40 w base F vM mods∧pU w mb gW∧
 (∀j,F j→j<w.heap.size∧base≤j∧vB.ownBlock≠some j∧vN.ownBlock≠some j)∧(∀g,vN.ownBlock=some g→vB.ownBlock≠some g∧vM.ownBlock≠some g)∧(∀g,vM.ownBlock=some g→vB.ownBlock≠some g)∧(bad=[]→vB= .slice none 0 0)
section
variable {base lb mb:Nat} {names gW:List Bt} {mods:List eH} {bad:List kT} {w w':World}
theorem P1.qN (h:P1 base lb mb names gW mods bad w) (t:Turn (fun _=>False) w w'):P1 base lb mb names gW mods bad w':=by
 obtain⟨vN,vM,vB,F,h1,h2,h3,h4,h5,h6,h7,h8,h9⟩:=h;exact⟨vN,vM,vB,fun j=>j<w.heap.size∧F j,ah h1 t id,h2.turn t (fun _ _=>id),h3.turn t (fun _ _=>id),(h4.turn iB t (fun _ _=>id) (fun _ _ _=>id)).mono iB (fun j hj h=>⟨(h6 j h).1,h⟩),MapAt.turn h5 t id,fun j hj=>by have:=h6 j hj.2;exact⟨Nat.lt_of_lt_of_le this.1 t.size,this.2⟩,h7,h8,h9⟩
theorem P1.below (h:P1 base lb mb names gW mods bad w) (hb:Below w.heap.size w w'):P1 base lb mb names gW mods bad w':=h.qN (Turn.of_below hb)
theorem P1.blk (h:P1 base lb mb names gW mods bad w):∃vN vM vB,mM w lb vN vM (.slice none 0 0) (sv []) (.int .i64 0) (.int .i64 0) (.map (some mb)) vB:=by
 obtain⟨vN,vM,vB,F,h1, _⟩:=h;exact⟨vN,vM,vB,h1⟩
theorem P1.nm (h:P1 base lb mb names gW mods bad w):pU w mb gW:=by
 obtain⟨vN,vM,vB,F,h1,h2,h3,h4,h5, _⟩:=h;exact h5
theorem yU (h:P1 base lb mb names gW mods bad w) (hlb:lb<base) (hmb:mb<base) (hne:mb≠lb) (hB:base≤w.heap.size) (hlen:bad.length≤1000000000000) (d:kT):
  Calls Tryz.prog 62 #[.pointer (some ⟨lb,0,none⟩), .int .i64 d.module, .int .i64 d.line, .int .i64 d.col, .int .i64 d.e] w fun e w'=>e= .returned (.tuple #[])∧P1 base lb mb names gW mods (bad++[d]) w'∧cO base lb w w':=by
 obtain⟨vN,vM,vB,F,h1,h2,h3,h4,h5,h6,h7,h8,h9⟩:=h;have hN:=h3.lt;have hM:=h4.lt;have hBl:=h2.lt;refine(uX w lb base vN vM _ _ _ _ (.map (some mb)) vB bad d h1 h2 hlen hlb hB).mono ?_;rintro e w' ⟨rfl,uW,k1,k2,k3,k4⟩;have hsz:=k4.size;have hG:∀j,(j=lb∨vB.ownBlock=some j)→j=lb∨base≤j:=fun j e=>by
  rcases e with e | e
  ·exact .inl e
  ·exact .inr (hBl j e).1
 have hv':∀g,g<w.heap.size→vB.ownBlock≠some g→uW.ownBlock≠some g:=fun g hg hn=>by
  rcases k3 with k | ⟨n,hn',k⟩
  ·rw [k];exact hn
  ·rw [k];intro e;injection e with e;omega
 refine⟨rfl,⟨vN,vM,uW,fun j=>j<w.heap.size∧F j,k1,k2,h3.turn k4 (fun g hg e=> ?_),(h4.turn iB k4 (fun g hg e=> ?_) (fun j _ hj e=> ?_)).mono iB (fun j hj h=>⟨(h6 j h).1,h⟩),MapAt.turn h5 k4 (fun e=> ?_),fun j hj=> ?_,fun g hg=>⟨hv' g (hN g hg).2 (h7 g hg).1,(h7 g hg).2⟩,fun g hg=>hv' g (hM g hg).2 (h8 g hg),fun e=>by simp at e⟩,cO.of k4 hG fun j cs T hj hc=> ?_⟩
 ·rcases e with e | e
  ·have:=(hN g hg).1;omega
  ·exact(h7 g hg).1 e
 ·rcases e with e | e
  ·have:=(hM g hg).1;omega
  ·exact h8 g hg e
 ·rcases e with e | e
  ·have:=(h6 j hj).2.1;omega
  ·exact(h6 j hj).2.2.1 e
 ·rcases e with e | e
  ·exact hne e
  ·have:=(hBl _ e).1;omega
 ·have h0:=h6 j hj.2;exact⟨by omega,h0.2.1,hv' j h0.1 h0.2.2.1,h0.2.2.2⟩
 ·rcases hj with rfl | hj
  ·exact .inr (.inr (.inr (tJ h1 hc)))
  ·exact .inr (.inl (pV h2 hj hc))
theorem P1.put {s:Bt} (h:P1 base lb mb names gW mods bad w) (hlb:lb<base) (hmb:mb<base) (hne:mb≠lb) (t:Turn (fun j=>j=mb) w w') (hm:pU w' mb (gW++[s])):P1 base lb mb names (gW++[s]) mods bad w':=by
 obtain⟨vN,vM,vB,F,h1,h2,h3,h4,h5,h6,h7,h8,h9⟩:=h;exact⟨vN,vM,vB,fun j=>j<w.heap.size∧F j,ah h1 t (fun e=>hne e.symm),h2.turn t (fun g hg e=>by have:=(h2.lt g hg).1;omega),h3.turn t (fun g hg e=>by have:=(h3.lt g hg).1;omega),(h4.turn iB t (fun g hg e=>by have:=(h4.lt g hg).1;omega) (fun j _ hj e=>by have:=(h6 j hj).2.1;omega)).mono iB (fun j hj h=>⟨(h6 j h).1,h⟩),hm,fun j hj=>by have:=h6 j hj.2;exact⟨Nat.lt_of_lt_of_le this.1 t.size,this.2⟩,h7,h8,h9⟩
theorem yV {D X kR Y:World} {vN vM:Value} {F F2:Nat→Prop} {z:List Value} {m:eH} (tX:Turn (fun _=>False) D X) (hg:X.grownBy kR vN.ownBlock) (tY:Turn (fun _=>False) kR Y) (h4:dN sO 2 40 D base F vM mods) (hz:sO D F2 z m)
  (hF:∀j,F j→vN.ownBlock≠some j) (hF2:∀j,j<D.heap.size→F2 j→vN.ownBlock≠some j∧vM.ownBlock≠some j) (hNM:∀g,vN.ownBlock=some g→vM.ownBlock≠some g):
  dN sO 2 40 Y base (fun j=>j<D.heap.size∧(F j∨F2 j)) vM mods∧sO Y (jU (fun j=>j<D.heap.size∧(F j∨F2 j)) vM) z m:=by
 have t1:Turn (fun j=>vN.ownBlock=some j) D Y:=((tX.mono (G:=fun j=>vN.ownBlock=some j) (fun _ _ h=>h.elim)).trans (Turn.aP hg (F:=fun j=>vN.ownBlock=some j) (fun _ h=>h)) (fun _ _ h=>h)).trans tY (fun _ _ h=>h.elim);refine⟨(h4.mono iB (G:=fun j=>j<D.heap.size∧(F j∨F2 j)) fun j hj h=>⟨hj, .inl h⟩).turn iB t1 (fun g hg e=>hNM g e hg) (fun j _ hj e=> ?_),(iB.mono hz fun j hj h=>⟨(hF2 j hj h).2,hj, .inr h⟩).turn t1 fun j _ hj e=> ?_⟩
 ·rcases hj.2 with h | h
  ·exact hF j h e
  ·exact(hF2 j hj.1 h).1 e
 ·rcases hj.2.2 with h | h
  ·exact hF j h e
  ·exact(hF2 j hj.2.1 h).1 e
theorem LH {D X kR Y FH:World} {vN vM vB Eh Ei:Value} {F F2:Nat→Prop} {s:Bt} {m:eH} (hlb:lb<base) (hmb:mb<base) (hne:mb≠lb) (h1:mM D lb vN vM (.slice none 0 0) (sv []) (.int .i64 0) (.int .i64 0) (.map (some mb)) vB) (h2:mJ D base vB bad) (h3:iC D base 9 vN names) (h4:dN sO 2 40 D base F vM mods)
  (h5:pU D mb gW) (h6:∀j,F j→j<D.heap.size∧base≤j∧vB.ownBlock≠some j∧vN.ownBlock≠some j) (h7:∀g,vN.ownBlock=some g→vB.ownBlock≠some g∧vM.ownBlock≠some g) (h8:∀g,vM.ownBlock=some g→vB.ownBlock≠some g) (h9:bad=[]→vB= .slice none 0 0)
  (hF2:∀j,j<D.heap.size→F2 j→base≤j∧vB.ownBlock≠some j∧vN.ownBlock≠some j)
  (tX:Turn (fun _=>False) D X) (hgN:X.grownBy kR vN.ownBlock) (hbN:Eh.ownBlock=vN.ownBlock∨Eh.ownBlock=some X.heap.size) (hN:iC kR base 9 Eh (names++[s])) (tY:Turn (fun _=>False) kR Y)
  (VZ:Y.grownBy FH vM.ownBlock) (V3:Ei.ownBlock=vM.ownBlock∨Ei.ownBlock=some Y.heap.size) (hM:dN sO 2 40 FH base (fun j=>j<D.heap.size∧(F j∨F2 j)) Ei (mods++[m])):
  P1 base lb mb (names++[s]) gW (mods++[m]) bad ((FH.setCell ⟨lb,0,none⟩ Eh).setCell ⟨lb,1,none⟩ Ei)∧Turn (fun j=>j=lb∨vN.ownBlock=some j∨vM.ownBlock=some j) D ((FH.setCell ⟨lb,0,none⟩ Eh).setCell ⟨lb,1,none⟩ Ei):=by
 have tN:Turn (fun j=>vN.ownBlock=some j) X kR:=Turn.aP hgN (fun _ h=>h);have tM:Turn (fun j=>vM.ownBlock=some j) Y FH:=Turn.aP VZ (fun _ h=>h);have tDY:Turn (fun j=>vN.ownBlock=some j) D Y:=((tX.mono (G:=fun j=>vN.ownBlock=some j) (fun _ _ h=>h.elim)).trans tN (fun _ _ h=>h)).trans tY (fun _ _ h=>h.elim);have tD:Turn (fun j=>vN.ownBlock=some j∨vM.ownBlock=some j) D FH:=(tDY.mono (G:=fun j=>vN.ownBlock=some j∨vM.ownBlock=some j) (fun _ _ h=> .inl h)).trans tM (fun _ _ h=> .inr h);have tl:Turn (fun j=>j=lb) FH ((FH.setCell ⟨lb,0,none⟩ Eh).setCell ⟨lb,1,none⟩ Ei):=(ay FH lb 0 Eh).trans (ay _ lb 1 Ei) (fun _ _ h=>h);have lN:=h3.lt;have lM:=h4.lt;have lB:=h2.lt;have lN':=hN.lt;have lM':=hM.lt;have sX:=tX.size;have sN:=tN.size;have sY:=tY.size;have sM:=tM.size;have sl:=tl.size;have XW:=ah h1 tD (fun e=>by rcases e with e | e;(have:=(lN _ e).1;omega);(have:=(lM _ e).1;omega));have V4:∀g,Eh.ownBlock=some g→(vN.ownBlock=some g∧g<D.heap.size)∨(g=X.heap.size∧g<Y.heap.size):=fun g hg=>by
  rcases hbN with h | h
  ·rw [h]at hg;exact .inl ⟨hg,(lN g hg).2⟩
  ·have hg':=hg;rw [h]at hg;injection hg with hg;have:=(lN' g hg').2;exact .inr ⟨hg.symm,by omega⟩
 have XY:∀g,Ei.ownBlock=some g→(vM.ownBlock=some g∧g<D.heap.size)∨g=Y.heap.size:=fun g hg=>by
  rcases V3 with h | h
  ·rw [h]at hg;exact .inl ⟨hg,(lM g hg).2⟩
  ·rw [h]at hg;injection hg with hg;exact .inr hg.symm
 refine⟨⟨Eh,Ei,vB,fun j=>j<D.heap.size∧(F j∨F2 j),heap_setCell_same _ _ 1 _ _ _ (heap_setCell_same _ _ 0 _ _ _ XW),(h2.turn tD (fun g hg e=> ?_)).turn tl (fun g hg e=>by have:=(lB g hg).1;omega),((hN.turn tY (fun _ _=>id)).turn tM (fun g hg e=> ?_)).turn tl (fun g hg e=>by have:=(lN' g hg).1;omega),hM.turn iB tl (fun g hg e=>by have:=(lM' g hg).1;omega) (fun j _ hj e=> ?_),MapAt.turn (MapAt.turn h5 tD (fun e=> ?_)) tl hne,fun j hj=> ?_,fun g hg=>⟨fun e=> ?_,fun e=> ?_⟩,fun g hg e=> ?_,h9⟩,(tD.mono (G:=fun j=>j=lb∨vN.ownBlock=some j∨vM.ownBlock=some j) (fun _ _ h=> .inr h)).trans tl (fun _ _ h=> .inl h)⟩
 ·rcases e with e | e
  ·exact(h7 g e).1 hg
  ·exact h8 g e hg
 ·rcases V4 g hg with h | h
  ·exact(h7 g h.1).2 e
  ·have:=(lM g e).2;omega
 ·rcases hj.2 with h | h
  ·have:=(h6 j h).2.1;omega
  ·have:=(hF2 j hj.1 h).1;omega
 ·rcases e with e | e
  ·have:=(lN _ e).1;omega
  ·have:=(lM _ e).1;omega
 ·have h0:base≤j∧vB.ownBlock≠some j∧vN.ownBlock≠some j:=by
   rcases hj.2 with h | h
   ·exact(h6 j h).2
   ·exact hF2 j hj.1 h
  refine⟨by omega,h0.1,h0.2.1,fun e=> ?_⟩;rcases V4 j e with h | h
  ·exact h0.2.2 h.1
  ·omega
 ·rcases V4 g hg with h | h
  ·exact(h7 g h.1).1 e
  ·have:=(lB g e).2;omega
 ·rcases V4 g hg with h | h
  ·rcases XY g e with h' | h'
   ·exact(h7 g h.1).2 h'.1
   ·omega
  ·rcases XY g e with h' | h'
   ·omega
   ·omega
 ·rcases XY g hg with h | h
  ·exact h8 g h.1 e
  ·have:=(lB g e).2;omega
end
end Go.Proofs.YtmbppnbekkbibaaGreatDoor
