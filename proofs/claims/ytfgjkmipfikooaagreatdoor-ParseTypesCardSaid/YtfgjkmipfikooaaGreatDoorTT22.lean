/- IM, XW -/
import Derived.Test.YtfgjkmipfikooaaGreatDoorTT17
import Derived.Test.YtfgjkmipfikooaaGreatDoorTT21
import Derived.Test.YtfgjkmipfikooaaGreatDoorTT03
import Derived.Test.YtfgjkmipfikooaaGreatDoorCards
import Derived.Test.YtfgjkmipfikooaaGreatDoorTie
import Derived.ProofKit
import Derived.OpenShut
import Derived.LaidMore
import Derived.LaidSub
import Derived.Stop.Joined
import Derived.Stop.LaidErr
import Derived.Lib.LaidTab
import Derived.Deep.DeepHandedRow
import Derived.Deep.DeepWitnessRowRef
set_option linter.unusedSimpArgs false
set_option linter.unusedVariables false
set_option maxRecDepth 100000
set_option maxHeartbeats 8000000
namespace Go.Proofs.YtfgjkmipfikooaaGreatDoor
open Go.RowKit
theorem FM (a:ByteArray) (w:World) (ha:a.size≤281474976710656) (hX:jS w):Calls Tryz.prog 6 #[.string a] w fun e w'=>e= .returned (.bool true)∧Below w.heap.size w w':=by
 obtain⟨s,hs0,hsl⟩:∃s:Bt,Value.string a=sv s∧s.length≤281474976710656:=⟨a.data.toList,by show Value.string a=Value.string ⟨a.data.toList.toArray⟩;simp,by
  have e:a.data.toList.length=a.size:=Array.length_toList;omega⟩
 rw [hs0];clear hs0 ha;have hsz:=bP s;have HX:=hid hX;clear hX;obtain⟨D,hD⟩:∃D,(bS (bR 100).typ s).2=D:=⟨_,rfl⟩
 obtain⟨V,hV⟩:∃V,o9 (bR 100).typ s mR=V:=⟨_,rfl⟩
 have HP:=hid (fun(w1:World) (h:jS w1)=>ES w1 s h);have HR:=hid (fun(w1:World)=>EO w1 s);rw [hD,hV]at HP HR;clear hD hV;go_enter Tryz.func6,Tryz.ntmps6;go_wp2_with fail;refine(Hu w HX.out).mono ?_;rintro e w1 ⟨rfl,hb1⟩;by_cases h5:(70000:Int)<s.length
 ·go_wp2_with fail;go_ret;exact⟨rfl,hb1⟩
 have hp1:=HP.out w1 (HX.out.below hb1);have HP1:=hid hp1;have HB1:=hid hb1;clear HX hp1 hb1 HP;go_wp2_with fail;refine(HP1.out).mono ?_;rintro e w2 ⟨hb2,z1,rfl,hz1⟩;obtain⟨k1,s1,Z7,Z8,Z9,Ab1,nb1,cb1,rfl⟩:=hz1.shape';obtain⟨W2,hW2⟩:∃W2,(w2.alloc (.cells #[.int .i64 k1,sv s1, .slice Z7 Z8 Z9, .slice Ab1 nb1 cb1] 57)).alloc (.cells #[.int .i64 0, .int .i64 D.1, .int .i64 D.2.1, .int .i64 D.2.2] 45)=W2:=⟨_,rfl⟩
 have hbw2:Below w2.heap.size w2 W2:=by rw [←hW2];exact new2 _ _ _
 obtain⟨_, _,hx2,hd2⟩:=gG (G:=fun _=>False) (Turn.refl _ ((w2.alloc (.cells #[.int .i64 k1,sv s1, .slice Z7 Z8 Z9, .slice Ab1 nb1 cb1] 57)).alloc (.cells #[.int .i64 0, .int .i64 D.1, .int .i64 D.2.1, .int .i64 D.2.2] 45)));rw [hW2]at hx2 hd2;have Y3:W2.heap.size=w2.heap.size+2:=by rw [←hW2];simp
 have HB2:=hid (HB1.out.trans ((hb2.trans (hbw2.mono hb2.size)).mono HB1.out.size));have Jd:=hid (hx2 id);have HD2:=hid (hd2 id);have HZ1:=hid (fun(w':World) (h:Below W2.heap.size W2 w')=>(hz1.turn (Turn.of_below (F:=fun _=>False) (hbw2.trans (h.mono hbw2.size))) (fun _ _ _=>id)).all);have HR2:=hid (HR.out W2);have HW2:=hid hW2;clear hb2 hz1 hbw2 hx2 hd2 hW2 HP1 HR;rw [show pR D= .agg #[.int .i64 0, .int .i64 D.1, .int .i64 D.2.1, .int .i64 D.2.2]from rfl];go_wp2_with fail;rw [HW2.out];refine(HR2.out).mono ?_;rintro e w3 ⟨hb3,z2,rfl,hz2⟩;obtain⟨k2,s2,Aa2,na2,ca2,Ab2,nb2,cb2,rfl⟩:=hz2.shape';have hs3:=hb3.size;obtain⟨W3,hW3⟩:∃W3,(w3.alloc (.cells #[.int .i64 k2,sv s2, .slice Aa2 na2 ca2, .slice Ab2 nb2 cb2] 57)).alloc (.cells #[.int .i64 0, .int .i64 D.1, .int .i64 D.2.1, .int .i64 D.2.2] 45)=W3:=⟨_,rfl⟩
 have nV:Below w3.heap.size w3 W3:=by rw [←hW3];exact new2 _ _ _
 obtain⟨_, _,hx3,hd3⟩:=gG (G:=fun _=>False) (Turn.refl _ ((w3.alloc (.cells #[.int .i64 k2,sv s2, .slice Aa2 na2 ca2, .slice Ab2 nb2 cb2] 57)).alloc (.cells #[.int .i64 0, .int .i64 D.1, .int .i64 D.2.1, .int .i64 D.2.2] 45)));rw [hW3]at hx3 hd3;have Zi:W3.heap.size=w3.heap.size+2:=by rw [←hW3];simp
 have xw:Below W2.heap.size W2 W3:=hb3.trans (nV.mono hs3);have HB3:=hid (HB2.out.trans (xw.mono HB2.out.size));have CQ:=hid xw;have Rm:=hid (hx3 id);have HD3:=hid (hd3 id);have adw:=hid ((xw.block (w2.heap.size+1) (by omega)).trans HD2.out);have HZ2:=hid (fun(w':World) (h:Below W3.heap.size W3 w')=>(hz2.turn (Turn.of_below (F:=fun _=>False) (nV.trans (h.mono nV.size))) (fun _ _ _=>id)).all);have HW3:=hid hW3;have Zp:=(hb3.block w2.heap.size (by omega)).trans Jd.out;obtain⟨g0,g1,g2,g3,gz⟩:=aP Zp;have gl:w2.heap.size<w3.heap.size:=by omega
 have gl2:w2.heap.size<w3.heap.size+1:=by omega
 have gl3:w2.heap.size<w3.heap.size+1+1:=by omega
 clear hb3 hz2 nV hx3 hd3 xw hW3 Zp HR2 Jd;rw [show pR D= .agg #[.int .i64 0, .int .i64 D.1, .int .i64 D.2.1, .int .i64 D.2.2]from rfl];obtain⟨W4,Ce⟩:∃W4,W3.alloc (.cells #[.int .i64 k1,sv s1, .slice Z7 Z8 Z9, .slice Ab1 nb1 cb1] 57)=W4:=⟨_,rfl⟩
 obtain⟨W5,Zq⟩:∃W5,W4.alloc (.cells #[.int .i64 k2,sv s2, .slice Aa2 na2 ca2, .slice Ab2 nb2 cb2] 57)=W5:=⟨_,rfl⟩
 have b4:Below W3.heap.size W3 W4:=by rw [←Ce];exact new1 _ _
 have b5:Below W4.heap.size W4 W5:=by rw [←Zq];exact new1 _ _
 have s4:W4.heap.size=W3.heap.size+1:=by rw [←Ce];simp
 have p4:W4.heap[W3.heap.size]? =some (.cells #[.int .i64 k1,sv s1, .slice Z7 Z8 Z9, .slice Ab1 nb1 cb1] 57 (0,0)):=by rw [←Ce];exact qR _ _
 have p5:W5.heap[W4.heap.size]? =some (.cells #[.int .i64 k2,sv s2, .slice Aa2 na2 ca2, .slice Ab2 nb2 cb2] 57 (0,0)):=by rw [←Zq];exact qR _ _
 have VT:Below W3.heap.size W3 W5:=b4.trans (b5.mono b4.size);have HBE:=hid (HB3.out.trans (VT.mono HB3.out.size));have OO:=hid ((VT.block _ (by omega)).trans adw.out);have jW:=hid ((VT.block _ (by omega)).trans HD3.out);have hc:=Oz W5 W3.heap.size W4.heap.size _ _ V (HZ1.out W5 (CQ.out.trans (VT.mono CQ.out.size))) (HZ2.out W5 VT) ((b5.block _ (by omega)).trans p4) p5;rw [s4,Zi]at hc;rw [←Zq, ←Ce, ←HW3.out]at hc;have HC:=hid hc;have PY:=hid Ce;have HW5:=hid Zq;clear b4 b5 p4 p5 VT hc Ce Zq HZ1 HZ2;go_wp2_with fail;refine HC.out.mono ?_;rintro e w7 ⟨rfl,hb⟩;rw [HW3.out,PY.out,HW5.out]at hb;have zY:=hid (HBE.out.trans (hb.mono HBE.out.size));obtain⟨d0,d1,d2,d3,dz⟩:=aP ((hb.block _ (block_lt OO.out)).trans OO.out);obtain⟨e0,e1,e2,e3,ez⟩:=aP ((hb.block _ (block_lt jW.out)).trans jW.out);have hsame:=fun u:World=>KP D u;clear hb g0 g1 g2 g3 gz gl gl2 gl3;go_wp2_with fail;go_ret;exact⟨rfl,zY.out⟩
section
open Go.ChangeShapes Go.WideShapes Go.ChangeAt Go.RowKit
theorem own:ownKnob Tryz.prog.godebug=none:=by kernel_rfl
theorem Jp: "*" ++ "errors.errorString" = "*errors.errorString" :=by decide
theorem OA (u:TypeId) (h:Tryz.prog.typeName? 3 u=some "*errors.errorString"):u=344:=
 typeName_ptr_named (nm:= "errors.errorString") (by rw [Jp];kernel_rfl) (by kernel_rfl) (by decide) u (by rw [Jp];exact h)
theorem K7 {l:List (String ×DataW Unit)} {W:World} (hp:(l.all fun x=>x.2.handleName?.isNone)=true)
  (h1:(l.filter fun x=>x.1== "internal/strconv.uint64pow10")=[("internal/strconv.uint64pow10",Lib.tabData .u64 Lib.pow10Tab)])
  (h2:(l.filter fun x=>x.1== "strconv.ErrSyntax")=[("strconv.ErrSyntax",Rows.laid_strconv_ErrSyntax)])
  (h3:(l.filter fun x=>x.1== "strconv.ErrRange")=[("strconv.ErrRange",Rows.laid_strconv_ErrRange)])
  (h:laidMetH Tryz.prog l W):mI W:=by
 have g1:=laidMetH.filter (fun x=>x.1== "internal/strconv.uint64pow10") h;have g2:=laidMetH.filter (fun x=>x.1== "strconv.ErrSyntax") h;have g3:=laidMetH.filter (fun x=>x.1== "strconv.ErrRange") h;rw [h1]at g1;rw [h2]at g2;rw [h3]at g3;rw [MakeChecks.laidMetH_plain _ _ _ (by kernel_rfl)]at g1;rw [MakeChecks.laidMetH_plain _ _ _ (by kernel_rfl)]at g2;rw [MakeChecks.laidMetH_plain _ _ _ (by kernel_rfl)]at g3;obtain⟨a2, _,e2, _⟩:=laid_sentinel g2 (g:=4) (by kernel_rfl) (by kernel_rfl) Tryz.underlying116 OA Tryz.underlying344 Tryz.underlying346 rfl rfl Tryz.underlying9 (by kernel_rfl) (by kernel_rfl);obtain⟨a3, _,e3, _⟩:=laid_sentinel g3 (g:=5) (by kernel_rfl) (by kernel_rfl) Tryz.underlying116 OA Tryz.underlying344 Tryz.underlying346 rfl rfl Tryz.underlying9 (by kernel_rfl) (by kernel_rfl);refine⟨?_,⟨_, _,e2⟩,⟨_, _,e3⟩⟩;exact Lib.tabIs_of_head (g:=3) (by kernel_rfl) (by kernel_rfl) Tryz.underlying308 Tryz.underlying238 (by kernel_rfl) (by kernel_rfl) g1
theorem K8 {l:List (String ×DataW Unit)} {W:World}
  (h1:(l.filter fun x=>x.1== "strings.asciiSpace")=[("strings.asciiSpace",Lib.tabData .u8 Lib.asciiSpaceTab)])
  (h:laidMetH Tryz.prog l W):Lib.TabIs Tryz.prog W "strings.asciiSpace" .u8 Lib.asciiSpaceTab:=by
 have g1:=laidMetH.filter (fun x=>x.1== "strings.asciiSpace") h;rw [h1]at g1;rw [MakeChecks.laidMetH_plain _ _ _ (by kernel_rfl)]at g1;exact Lib.tabIs_of_head (g:=0) (by kernel_rfl) (by kernel_rfl) Tryz.underlying235 Tryz.underlying5 (by kernel_rfl) (by kernel_rfl) g1
end
end Go.Proofs.YtfgjkmipfikooaaGreatDoor
