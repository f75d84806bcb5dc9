/- IM, XW -/
import Derived.Test.YtfgjkmipfikooaaGreatDoorTE24
import Derived.Test.YtfgjkmipfikooaaGreatDoorTE28
import Derived.Test.YtfgjkmipfikooaaGreatDoorCards
import Derived.Test.YtfgjkmipfikooaaGreatDoorTie
import Derived.LaidMore
import Derived.Stop.LaidErr
import Derived.Deep.DeepWitnessRowRef
set_option linter.unusedSimpArgs false
set_option linter.unusedVariables false
set_option maxRecDepth 100000
set_option maxHeartbeats 8000000
namespace Go.Proofs.YtfgjkmipfikooaaGreatDoor
open Go.RowKit
theorem OO (a:ByteArray)(w:World)(ha:a.size<=281474976710656)(hX:mK w):Calls Tryz.prog 5 #[.string a] w fun e w'=>e=.returned (.bool true)∧Below w.heap.size w w':=by
 obtain⟨s,hs0,hsl⟩:∃s:Bt,Value.string a=sv s∧s.length<=281474976710656:=⟨a.data.toList,by show Value.string a=Value.string ⟨a.data.toList.toArray⟩;simp,by
  have e:a.data.toList.length=a.size:=Array.length_toList;omega⟩
 rw [hs0];clear hs0 ha;have hsz:=bZ s;have HX:=aZ hX;clear hX;obtain⟨D,hD⟩:∃D,(dn (cB 100).expr s).2=D:=⟨_,rfl⟩
 obtain⟨V,hV⟩:∃V,vN (cB 100).expr s rR=V:=⟨_,rfl⟩
 have HP:=aZ (fun(w1:World) (h:mK w1)=>N8 w1 s h);have HR:=aZ (fun(w1:World)=>NZ w1 s);rw [hD,hV]at HP HR;clear hD hV;go_enter Tryz.func5,Tryz.ntmps5;go_wp2_with fail;refine(QV w HX.o).mono ?_;rintro e w1 ⟨rfl,hb1⟩;by_cases h5:(70000:Int)<s.length
 ·go_wp2_with fail;go_ret;exact⟨rfl,hb1⟩
 have hp1:=HP.o w1 (HX.o.below hb1);have VZ:=aZ hp1;have HB1:=aZ hb1;clear HX hp1 hb1 HP;go_wp2_with fail;refine(VZ.o).mono ?_;rintro e w2 ⟨hb2,z1,rfl,hz1⟩;obtain⟨k1,s1,m1,l1,o1,Aa1,na1,ca1,Ab1,lF,cb1,Ac1,nc1,cc1,rfl⟩:=hz1.shape';obtain⟨W2,hW2⟩:∃W2,(w2.alloc (.cells #[.int .i64 k1,sv s1,.int .i64 m1,.int .i64 l1,.int .i64 o1,.slice Aa1 na1 ca1,.slice Ab1 lF cb1,.slice Ac1 nc1 cc1] 52)).alloc (.cells #[.int .i64 0,.int .i64 D.1,.int .i64 D.2.1,.int .i64 D.2.2] 45)=W2:=⟨_,rfl⟩
 have hbw2:Below w2.heap.size w2 W2:=by rw [<-hW2];exact new2 _ _ _
 obtain⟨_,_,hx2,hd2⟩:=iJ (G:=fun _=>False) (Turn.refl _ ((w2.alloc (.cells #[.int .i64 k1,sv s1,.int .i64 m1,.int .i64 l1,.int .i64 o1,.slice Aa1 na1 ca1,.slice Ab1 lF cb1,.slice Ac1 nc1 cc1] 52)).alloc (.cells #[.int .i64 0,.int .i64 D.1,.int .i64 D.2.1,.int .i64 D.2.2] 45)));rw [hW2]at hx2 hd2;have aoi:W2.heap.size=w2.heap.size+2:=by rw [<-hW2];simp
 have HB2:=aZ (HB1.o.trans ((hb2.trans (hbw2.mono hb2.size)).mono HB1.o.size));have Tv:=aZ (hx2 id);have HD2:=aZ (hd2 id);have HZ1:=aZ (fun(w':World) (h:Below W2.heap.size W2 w')=>(hz1.turn (Turn.of_below (F:=fun _=>False) (hbw2.trans (h.mono hbw2.size))) (fun _ _ _=>id)).all);have HR2:=aZ (HR.o W2);have HW2:=aZ hW2;clear hb2 hz1 hbw2 hx2 hd2 hW2 VZ HR;rw [show vZ D=.agg #[.int .i64 0,.int .i64 D.1,.int .i64 D.2.1,.int .i64 D.2.2]from rfl];go_wp2_with fail;rw [HW2.o];refine(HR2.o).mono ?_;rintro e w3 ⟨hb3,z2,rfl,hz2⟩;obtain⟨k2,s2,m2,l2,o2,Aa2,na2,ca2,Ab2,lG,cb2,Ac2,nc2,cc2,rfl⟩:=hz2.shape';have hs3:=hb3.size;obtain⟨W3,hW3⟩:∃W3,(w3.alloc (.cells #[.int .i64 k2,sv s2,.int .i64 m2,.int .i64 l2,.int .i64 o2,.slice Aa2 na2 ca2,.slice Ab2 lG cb2,.slice Ac2 nc2 cc2] 52)).alloc (.cells #[.int .i64 0,.int .i64 D.1,.int .i64 D.2.1,.int .i64 D.2.2] 45)=W3:=⟨_,rfl⟩
 have uq:Below w3.heap.size w3 W3:=by rw [<-hW3];exact new2 _ _ _
 obtain⟨_,_,hx3,hd3⟩:=iJ (G:=fun _=>False) (Turn.refl _ ((w3.alloc (.cells #[.int .i64 k2,sv s2,.int .i64 m2,.int .i64 l2,.int .i64 o2,.slice Aa2 na2 ca2,.slice Ab2 lG cb2,.slice Ac2 nc2 cc2] 52)).alloc (.cells #[.int .i64 0,.int .i64 D.1,.int .i64 D.2.1,.int .i64 D.2.2] 45)));rw [hW3]at hx3 hd3;have atf:W3.heap.size=w3.heap.size+2:=by rw [<-hW3];simp
 have pG:Below W2.heap.size W2 W3:=hb3.trans (uq.mono hs3);have HB3:=aZ (HB2.o.trans (pG.mono HB2.o.size));have Ot:=aZ pG;have HX3:=aZ (hx3 id);have HD3:=aZ (hd3 id);have atm:=aZ ((pG.block (w2.heap.size+1) (by omega)).trans HD2.o);have HZ2:=aZ (fun(w':World) (h:Below W3.heap.size W3 w')=>(hz2.turn (Turn.of_below (F:=fun _=>False) (uq.trans (h.mono uq.size))) (fun _ _ _=>id)).all);have HW3:=aZ hW3;have aoC:=(hb3.block w2.heap.size (by omega)).trans Tv.o;obtain⟨g0,g1,g2,g3,g4,g5,g6,g7,gz⟩:=aD aoC;have gl:w2.heap.size<w3.heap.size:=by omega
 have gl2:w2.heap.size<w3.heap.size+1:=by omega
 have gl3:w2.heap.size<w3.heap.size+1+1:=by omega
 clear hb3 hz2 uq hx3 hd3 pG hW3 aoC HR2 Tv;rw [show vZ D=.agg #[.int .i64 0,.int .i64 D.1,.int .i64 D.2.1,.int .i64 D.2.2]from rfl];have HBE:=aZ HB3.o;have HDA:=aZ atm.o;have nC:=aZ HD3.o;have hc:=VN V W3 _ _ (HZ1.o W3 Ot.o) (HZ2.o W3 (Below.refl _ _));rw [<-HW3.o]at hc;have HC:=aZ hc;clear hc HZ1 HZ2;go_wp2_with fail;refine HC.o.mono ?_;rintro e w7 ⟨rfl,hb⟩;rw [HW3.o]at hb;have Ih:=aZ (HBE.o.trans (hb.mono HBE.o.size));obtain⟨d0,d1,d2,d3,dz⟩:=aX ((hb.block _ (block_lt HDA.o)).trans HDA.o);obtain⟨e0,e1,e2,e3,ez⟩:=aX ((hb.block _ (block_lt nC.o)).trans nC.o);have hsame:=fun u:World=>VI D u;clear hb g0 g1 g2 g3 g4 g5 g6 g7 gz gl gl2 gl3;go_wp2_with fail;go_ret;exact⟨rfl,Ih.o⟩
section
open Go.ChangeShapes Go.WideShapes Go.ChangeAt Go.RowKit
theorem own:ownKnob Tryz.prog.godebug=none:=by kernel_rfl
theorem TJ: "*" ++ "errors.errorString" = "*errors.errorString" :=by decide
theorem aa5 (u:TypeId) (h:Tryz.prog.typeName? 3 u=some "*errors.errorString"):u=344:=
 typeName_ptr_named (nm:= "errors.errorString") (by rw [TJ];kernel_rfl) (by kernel_rfl) (by decide) u (by rw [TJ];exact h)
theorem V4 {l:List (String ×DataW Unit)}{W:World}(hp:(l.all fun x=>x.2.handleName?.isNone)=true)
  (h1:(l.filter fun x=>x.1== "internal/strconv.uint64pow10")=[("internal/strconv.uint64pow10",Lib.tabData .u64 Lib.pow10Tab)])
  (h2:(l.filter fun x=>x.1== "strconv.ErrSyntax")=[("strconv.ErrSyntax",Rows.laid_strconv_ErrSyntax)])
  (h3:(l.filter fun x=>x.1== "strconv.ErrRange")=[("strconv.ErrRange",Rows.laid_strconv_ErrRange)])
  (h:laidMetH Tryz.prog l W):qX W:=by
 have g1:=laidMetH.filter (fun x=>x.1== "internal/strconv.uint64pow10") h;have g2:=laidMetH.filter (fun x=>x.1== "strconv.ErrSyntax") h;have g3:=laidMetH.filter (fun x=>x.1== "strconv.ErrRange") h;rw [h1]at g1;rw [h2]at g2;rw [h3]at g3;rw [MakeChecks.laidMetH_plain _ _ _ (by kernel_rfl)]at g1;rw [MakeChecks.laidMetH_plain _ _ _ (by kernel_rfl)]at g2;rw [MakeChecks.laidMetH_plain _ _ _ (by kernel_rfl)]at g3;obtain⟨a2, _,e2, _⟩:=laid_sentinel g2 (g:=4) (by kernel_rfl) (by kernel_rfl) Tryz.underlying116 aa5 Tryz.underlying344 Tryz.underlying346 rfl rfl Tryz.underlying9 (by kernel_rfl) (by kernel_rfl);obtain⟨a3, _,e3, _⟩:=laid_sentinel g3 (g:=5) (by kernel_rfl) (by kernel_rfl) Tryz.underlying116 aa5 Tryz.underlying344 Tryz.underlying346 rfl rfl Tryz.underlying9 (by kernel_rfl) (by kernel_rfl);refine⟨?_,⟨_, _,e2⟩,⟨_, _,e3⟩⟩;exact Lib.tabIs_of_head (g:=3) (by kernel_rfl) (by kernel_rfl) Tryz.underlying308 Tryz.underlying238 (by kernel_rfl) (by kernel_rfl) g1
theorem V5 {l:List (String ×DataW Unit)}{W:World}
  (h1:(l.filter fun x=>x.1== "strings.asciiSpace")=[("strings.asciiSpace",Lib.tabData .u8 Lib.asciiSpaceTab)])
  (h:laidMetH Tryz.prog l W):Lib.TabIs Tryz.prog W "strings.asciiSpace" .u8 Lib.asciiSpaceTab:=by
 have g1:=laidMetH.filter (fun x=>x.1== "strings.asciiSpace") h;rw [h1]at g1;rw [MakeChecks.laidMetH_plain _ _ _ (by kernel_rfl)]at g1;exact Lib.tabIs_of_head (g:=0) (by kernel_rfl) (by kernel_rfl) Tryz.underlying235 Tryz.underlying5 (by kernel_rfl) (by kernel_rfl) g1
end
end Go.Proofs.YtfgjkmipfikooaaGreatDoor
