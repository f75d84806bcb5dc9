/- GI -/
import Derived.Test.YtfgjkmipfikooaaGreatDoorEB04
import Derived.Laws.CopyOwn
set_option linter.unusedSimpArgs false
set_option linter.unusedVariables false
set_option maxRecDepth 100000
set_option maxHeartbeats 4000000
namespace Go.Proofs.YtfgjkmipfikooaaGreatDoor
open Go.RowKit
theorem xK (w:World):(callFunc 272 #[]).run Tryz.prog w=.ok (.value (.tuple #[])) w:=run_call_mark0 Tryz.func272 (by kernel_rfl) (by kernel_rfl) (by kernel_rfl) .disable (by kernel_rfl) w
theorem zU (w:World):(callFunc 274 #[]).run Tryz.prog w=.ok (.value (.tuple #[])) w:=run_call_mark0 Tryz.func274 (by kernel_rfl) (by kernel_rfl) (by kernel_rfl) .enable (by kernel_rfl) w
theorem FL (a:Addr)(w:World):(callFunc 275 #[.pointer (some a)]).run Tryz.prog w=.ok (.value (.tuple #[])) w:=run_call_marked Tryz.func275 (by kernel_rfl) (by kernel_rfl) (by kernel_rfl) .acquire (by kernel_rfl) a w
theorem xL (a:Addr)(w:World):(callFunc 277 #[.pointer (some a)]).run Tryz.prog w=.ok (.value (.tuple #[])) w:=run_call_marked Tryz.func277 (by kernel_rfl) (by kernel_rfl) (by kernel_rfl) .releaseMerge (by kernel_rfl) a w
theorem Cr (a:Addr)(x:Value)(u:FrameMode)(w:World)(hc:w.cell? a=some x)(hz:w.frozen? a=false):
  CallsD Tryz.prog 248 #[.pointer (some a),.bool true] u w fun e u' w'=>u'=u∧(e=.returned (.tuple #[])∧w'=w.drew.setCell a (.int .u32 1)):=by
 have hc':w.drew.cell? a=some x:=by go_simp
 have hz':w.drew.frozen? a=false:=by go_simp
 have hst:=run_call_store (P:=Tryz.prog) Tryz.func263 (by kernel_rfl) (by kernel_rfl) (by kernel_rfl) (by kernel_rfl) (k:= .u32) (y:=1) hc' hz'
 go_enter_d Tryz.func248,Tryz.ntmps248
 go_wp2
 go_region_calls
 all_goals (go_end0;exact⟨rfl,rfl⟩)
theorem unlock_deferred (a:Addr)(u:FrameMode)(w:World)(hc:w.cell? a=some (.int .i32 1))(hz:w.frozen? a=false):
  CallsD Tryz.prog 247 #[.pointer (some a)] u w fun e u' w'=>u'=u∧(e=.returned (.tuple #[])∧w'=w.setCell a (.int .i32 0)):=by
 have hd:=xK;have he:=zU;have hr:=xL;have hadd:=run_call_add (P:=Tryz.prog) Tryz.func278 (by kernel_rfl) (by kernel_rfl) (by kernel_rfl) .i32 (by kernel_rfl) (y:= -1) (s:=0) hc hz (by simp [go_sem];rfl);have hcv:=run_convert_to_unsafe (P:=Tryz.prog) (src:=332) (dst:=221) Tryz.underlying332 Tryz.underlying221 (by kernel_rfl) hc
 go_enter_d Tryz.func247,Tryz.ntmps247
 go_wp2
 go_end0
 go_wp2
 go_end0;exact⟨rfl,rfl⟩
theorem lock_free (a:Addr)(w:World)(hc:w.cell? a=some (.int .i32 0))(hz:w.frozen? a=false):
  Calls Tryz.prog 246 #[.pointer (some a)] w fun e w'=>e=.returned (.tuple #[])∧w'=w.setCell a (.int .i32 1):=by
 have hd:=xK;have he:=zU;have ha:=FL;have hcas:=run_call_cas_hit (P:=Tryz.prog) Tryz.func273 (by kernel_rfl) (by kernel_rfl) (by kernel_rfl) .i32 (by kernel_rfl) (y:=1) hc hz;have hc':(w.setCell a (.int .i32 1)).cell? a=some (.int .i32 1):=World.cell?_setCell_same w a _ hc;have hcv:=run_convert_to_unsafe (P:=Tryz.prog) (src:=332) (dst:=221) Tryz.underlying332 Tryz.underlying221 (by kernel_rfl) hc';go_enter Tryz.func246,Tryz.ntmps246
 go_wp2
 first |go_end0 |(simp only [Exit.inBlock,Exit.then];refine bodyPost_ret (results_none rfl _ _ _) rfl ?_) |refine bodyPost_ret (results_none rfl _ _ _) rfl ?_
 go_wp2
 go_end0;exact⟨rfl,rfl⟩
def wG (w:World)(b:Nat)(d st:Int)(rv ov:Value):Prop:=w.heap[b]? =some (.cells #[.int .u32 d,.int .i32 st,.int .u32 0,rv,ov] 255 (0,0))
def qh:List Bt:=[[92],[92,92],[34],[92,34],[10],[92,110],[9],[92,116]]
def kY:List (UInt8 ×Bt):=[(9,[92,116]),(10,[92,110]),(34,[92,34]),(92,[92,92])]
def Hw:Value:= .slice none 0 0
def qJ (w:World)(base bs:Nat)(m:List Bt)(l:List (UInt8 ×Bt)):Prop:=
 ∃(cs:Array Value) (tr:Value),w.heap[bs]? =some (.cells cs 295 (0,0))∧cs.size=257∧cs[256]? =some tr∧gX w base 9 tr m∧base<=bs∧tr.ownBlock≠some bs∧
  ∀c:UInt8,(l.lookup c=none->cs[c.toNat]? =some Hw)∧(∀u,l.lookup c=some u->∃g k,cs[c.toNat]? =some (.slice (some ⟨g,0,none⟩) u.length k)∧base<=g∧g<w.heap.size∧g≠bs∧tr.ownBlock≠some g∧∀(j:Nat) (hj:j<u.length),w.cell? ⟨g,j,none⟩=some (.int .u8 (u[j].toNat:Int)))
theorem qJ.below {w w':World}{base bs:Nat}{m:List Bt}{l:List (UInt8 ×Bt)}(h:qJ w base bs m l)(hb:Below w.heap.size w w'):qJ w' base bs m l:=by
 obtain⟨cs,tr,h1,h2,h3,h4,h5,h6,h7⟩:=h;refine⟨cs,tr,(hb.block bs (block_lt h1)).trans h1,h2,h3,h4.below hb,h5,h6,fun c=>⟨(h7 c).1,fun u hu=>?_⟩⟩;obtain⟨g,k,a1,a0,a2,a3,a4,a7⟩:=(h7 c).2 u hu;exact⟨g,k,a1,a0,Nat.lt_of_lt_of_le a2 hb.size,a3,a4,fun j hj=>(hb.cell (p:=⟨g,j,none⟩) a2).trans (a7 j hj)⟩
theorem qJ.grow {w w9:World}{base bs:Nat}{m m':List Bt}{l:List (UInt8 ×Bt)}{cs:Array Value}{tr Ti:Value}(h:qJ w base bs m l)(hcs:w.heap[bs]? =some (.cells cs 295 (0,0)))(htr:cs[256]? =some tr)
  (hg:w.grownBy w9 tr.ownBlock) (ho:gX w9 base 9 Ti m') (hb:Ti.ownBlock=tr.ownBlock∨Ti.ownBlock=some w.heap.size):qJ (w9.setCell ⟨bs,256,none⟩ Ti) base bs m' l:=by
 obtain⟨cs0,tr0,h1,h2,h3,h4,h5,h6,h7⟩:=h;rw [hcs]at h1;simp only [Option.some.injEq,Obj.cells.injEq]at h1;obtain⟨rfl,_⟩:=h1;rw [htr]at h3;injection h3 with h3;subst h3;have hbs:bs<w.heap.size:=block_lt hcs;have wD:w9.heap[bs]? =some (.cells cs 295 (0,0)):=(hg.block bs hbs h6.symm).trans hcs;have hne:Ti.ownBlock≠some bs:=by
  rcases hb with hb |hb
  ·rw [hb];exact h6
  ·rw [hb];intro h;injection h with h;omega
 have ht:=ak w9 bs 256 Ti;refine⟨cs.setIfInBounds 256 Ti,Ti,heap_setCell_same w9 bs 256 _ _ Ti wD,by simp [h2],?_,ho.turn ht (fun g hg h=>hne (by rw [hg,h])),h5,hne,fun c=>?_⟩
 ·rw [Array.getElem?_setIfInBounds_self];simp [h2]
 ·have hc:=c.toNat_lt;have hcs':(cs.setIfInBounds 256 Ti)[c.toNat]? =cs[c.toNat]? :=by rw [Array.getElem?_setIfInBounds_ne (by omega)]
  rw [hcs'];refine⟨(h7 c).1,fun u hu=>?_⟩;obtain⟨g,k,a1,a0,a2,a3,a4,a7⟩:=(h7 c).2 u hu;refine⟨g,k,a1,a0,by simp only [World.size_setCell];exact Nat.lt_of_lt_of_le a2 hg.size,a3,?_,fun j hj=>?_⟩
  ·rcases hb with hb |hb
   ·rw [hb];exact a4
   ·rw [hb];intro h;injection h with h;omega
  ·rw [World.cell?_setCell_other _ _ _ _ (by intro h;have:=congrArg Addr.block h;simp at this;omega)];have:w9.cell? ⟨g,j,none⟩=w.cell? ⟨g,j,none⟩:=by simp only [World.cell?,hg.block g a2 a4.symm]
   rw [this];exact a7 j hj
theorem qJ.put {w:World}{base bs:Nat}{m:List Bt}{l:List (UInt8 ×Bt)}(h:qJ w base bs m l)(c:UInt8)(u:Bt)(hl:l.lookup c=none){w':World}(hb:Below w.heap.size w w'){k:Nat}
  (hlt:w.heap.size<w'.heap.size) (hc:∀(j:Nat) (hj:j<u.length),w'.cell? ⟨w.heap.size,j,none⟩=some (.int .u8 (u[j].toNat:Int))):
  qJ (w'.setCell ⟨bs,c.toNat,none⟩ (.slice (some ⟨w.heap.size,0,none⟩) u.length k)) base bs m (l++[(c,u)]):=by
 have h':=h.below hb;obtain⟨cs0,tr0,g1,_,g3,g4,_,_,_⟩:=h;have hbs:bs<w.heap.size:=block_lt g1;obtain⟨cs,tr,h1,h2,h3,h4,h5,h6,h7⟩:=h';have hsame:some (Obj.cells cs 295 (0,0))=some (Obj.cells cs0 295 (0,0)):=by rw [<-h1,<-g1,hb.block bs hbs]
 injection hsame with hsame;injection hsame with hsame;subst hsame;rw [h3]at g3;injection g3 with g3;subst g3;have hcl:=c.toNat_lt;have ht:=ak w' bs c.toNat (.slice (some ⟨w.heap.size,0,none⟩) u.length k);refine⟨cs.setIfInBounds c.toNat (.slice (some ⟨w.heap.size,0,none⟩) u.length k),tr,heap_setCell_same w' bs c.toNat _ _ _ h1,by simp [h2],?_,h4.turn ht (fun g hg h=>h6 (by rw [hg,h])),h5,h6,fun d=>?_⟩
 ·rw [Array.getElem?_setIfInBounds_ne (by omega)];exact h3
 ·have hd:=d.toNat_lt;rw [List.lookup_append];by_cases hcd:d=c
  ·subst hcd;rw [hl];have:List.lookup d [(d,u)]=some u:=by simp [List.lookup]
   rw [this];constructor
   ·intro h;simp at h
   intro u' hu';simp at hu';subst hu';refine⟨w.heap.size,k,?_,by omega,by simp only [World.size_setCell];exact hlt,by omega,fun h=>?_,fun j hj=>?_⟩
   ·rw [Array.getElem?_setIfInBounds_self];simp [h2];omega
   ·have:=(g4.lt _ h).2;omega
   ·rw [World.cell?_setCell_other _ _ _ _ (by intro h;have:=congrArg Addr.block h;simp at this;omega)];exact hc j hj
  ·have hdc:(d==c)=false:=by rw [beq_eq_false_iff_ne];exact hcd
   have hno:List.lookup d [(c,u)]=none:=by simp [List.lookup,hdc]
   rw [hno,Option.or_none];have hcs':(cs.setIfInBounds c.toNat (.slice (some ⟨w.heap.size,0,none⟩) u.length k))[d.toNat]? =cs[d.toNat]? :=by
    rw [Array.getElem?_setIfInBounds_ne (by intro h;exact hcd (UInt8.toNat_inj.1 h.symm))]
   rw [hcs'];refine⟨(h7 d).1,fun u' hu'=>?_⟩;obtain⟨g,k',a1,a0,a2,a3,a4,a7⟩:=(h7 d).2 u' hu';refine⟨g,k',a1,a0,by simp only [World.size_setCell];exact a2,a3,a4,fun j hj=>?_⟩;rw [World.cell?_setCell_other _ _ _ _ (by intro h;have:=congrArg Addr.block h;simp at this;omega)];exact a7 j hj
theorem uE {w:World}{base bs:Nat}{m:List Bt}{l:List (UInt8 ×Bt)}(h:qJ w base bs m l)(c:UInt8)(hl:l.lookup c=none):w.cell? ⟨bs,c.toNat,none⟩=some (.slice none 0 0)∧w.frozen? ⟨bs,c.toNat,none⟩=false:=by
 obtain⟨cs,tr,h1,h2,h3,h4,h5,h6,h7⟩:=h;exact⟨(cell_of_row _ _ _ _ _ (0,0) h1).trans ((h7 c).1 hl),bI h1 _⟩
theorem Mi {w:World}{base bs:Nat}{m:List Bt}{l:List (UInt8 ×Bt)}(h:qJ w base bs m l):∃cs tr,w.heap[bs]? =some (.cells cs 295 (0,0))∧cs[256]? =some tr∧w.cell? ⟨bs,256,none⟩=some tr∧w.frozen? ⟨bs,256,none⟩=false∧gX w base 9 tr m∧tr.ownBlock≠some bs:=by
 obtain⟨cs,tr,h1,h2,h3,h4,h5,h6,h7⟩:=h;exact⟨cs,tr,h1,h3,(cell_of_row _ _ _ _ _ (0,0) h1).trans h3,bI h1 _,h4,h6⟩
theorem Qq:Tryz.zeroCells295=(List.replicate 257 Hw).toArray:=by kernel_rfl
theorem TL (w1:World)(base:Nat)(v:Value)(h1:v.oneCell'=true)(hown:gX w1 base 9 v [])(hbase:base<=w1.heap.size):
  ∃W2,(storeCells ⟨w1.heap.size,0,none⟩ (Tryz.zeroCells295.toList.set 256 v)).run Tryz.prog (w1.alloc (.cells Tryz.zeroCells295 295))=.ok () W2∧qJ W2 base w1.heap.size [] []∧Below w1.heap.size w1 W2:=by
 rw [Qq];obtain⟨N,hN⟩:∃N,N=257:=⟨_,rfl⟩
 rw [<-hN];have hg:=heap_alloc_new w1 (.cells (List.replicate N Hw).toArray 295)
 have hrun:=run_storeCells_from (P:=Tryz.prog) w1.heap.size 295 ((List.replicate N Hw).set 256 v) 0 _ _ hg (by simp) (by
  intro x hx;rcases List.mem_or_eq_of_mem_set hx with hx |hx
  ·rw [List.mem_replicate]at hx;rw [hx.2];rfl
  ·rw [hx];exact h1)
 have hal:Below w1.heap.size w1 (w1.alloc (.cells (List.replicate N Hw).toArray 295)):=(Below.refl _ _).alloc (Nat.le_refl _) _;rw [List.take_zero,List.nil_append]at hrun;have hbel:Below w1.heap.size w1 ((w1.alloc (.cells (List.replicate N Hw).toArray 295)).setRow w1.heap.size ((List.replicate N Hw).set 256 v).toArray):=by
  refine⟨hal.os,hal.tape,hal.output,by simp,fun k hk=>?_⟩;rw [setRow_other _ _ _ _ (by omega)];exact hal.block k hk
 refine⟨_,hrun,?_,hbel⟩;refine⟨((List.replicate N Hw).set 256 v).toArray,v,setRow_heap _ _ _ _ _ _ hg,by rw [List.size_toArray,List.length_set,List.length_replicate,hN],?_,hown.below hbel,hbase,fun h=>?_,fun c=>⟨fun _=>?_,fun u hu=>by simp at hu⟩⟩
 ·rw [List.getElem?_toArray,List.getElem?_set_self (by simp;omega)]
 ·have:=(hown.lt _ h).2;omega
 ·have hc:=c.toNat_lt;rw [List.getElem?_toArray,List.getElem?_set_ne (by omega),List.getElem?_replicate,if_pos (by omega)]
theorem Wu (k i:Nat)(hk:k<4)(hi:i+2*k=6):∃(c:UInt8) (u:Bt),(∀h:i<qh.length,qh[i]=[c])∧(∀h:i+1<qh.length,qh[i+1]=u)∧(kY.take k).lookup c=none∧kY.take (k+1)=kY.take k++[(c,u)]∧u.length<=2:=by
 have:(k=0∧i=6)∨(k=1∧i=4)∨(k=2∧i=2)∨(k=3∧i=0):=by omega
 rcases this with⟨rfl,rfl⟩ |⟨rfl,rfl⟩ |⟨rfl,rfl⟩ |⟨rfl,rfl⟩
 ·exact⟨9,[92,116],fun _=>rfl,fun _=>rfl,rfl,rfl,by decide⟩
 ·exact⟨10,[92,110],fun _=>rfl,fun _=>rfl,rfl,rfl,by decide⟩
 ·exact⟨34,[92,34],fun _=>rfl,fun _=>rfl,rfl,rfl,by decide⟩
 ·exact⟨92,[92,92],fun _=>rfl,fun _=>rfl,rfl,rfl,by decide⟩
theorem qY {w:World}{base:Nat}{e:TypeId}{v:Value}{m:List Bt}(h:gX w base e v m)(hm:0<m.length):∃g c n,v=.slice (some ⟨g,0,none⟩) n c:=by
 obtain⟨g,c,hv,_⟩:=dR h.row hm;exact⟨g,c,_,hv⟩
theorem Qr (w:World)(c:Nat)(hc:c<=1000000):∃w1,(Instr.makeSlice 25 (.int .i64 0) (.int .i64 c)).run Tryz.prog w=.ok (.slice (some ⟨w.heap.size,0,none⟩) 0 c) w1∧
  gX w1 w.heap.size 9 (.slice (some ⟨w.heap.size,0,none⟩) 0 c) []∧Below w.heap.size w w1:=by
 obtain⟨ht,hinfo,_,_⟩:=oQ;obtain⟨i,hi,hz,hs,hb⟩:=info_parts hinfo;obtain⟨w1,hmk,hown0,hg0⟩:=run_make_own (P:=Tryz.prog) (w:=w) w.heap.size 25 9 i _ 1 ht hi hz hs .i64 .i64 c (by rw [hb];omega) (by unfold maxLen;omega) (Nat.le_refl _);exact⟨w1,hmk,⟨0,hown0⟩,BQ hg0⟩
theorem NG (w:World)(b:Nat)(ov:Value)(hR:wG w b 0 1 .nilIface ov)(hv:Ss w w.heap.size ov qh):
  Calls Tryz.prog 231 #[.pointer (some ⟨b,0,none⟩)] w fun e w'=>∃bs,e=.returned (.iface 296 (.pointer (some ⟨bs,0,none⟩)))∧qJ w' w.heap.size bs (kY.map fun p=>[p.1]) kY∧Below w.heap.size w w':=by
 have c4:w.cell? ⟨b,4,none⟩=some ov:=(cell_of_row _ _ _ _ _ (0,0) hR).trans rfl;obtain⟨A,c,rfl,hn,hc,hx⟩:=hv.open_;have hol:qh.length=8:=rfl;rw [hol]at hn c4;unfold maxLen at hc;obtain⟨g,o,rfl,hg,hcell⟩:=hx (by rw [hol];omega);have d0:w.cell? ⟨g,o,none⟩=some (sv [92]):=hcell 0 (by rw [hol];omega);have d1:w.cell? ⟨g,o+1,none⟩=some (sv [92,92]):=hcell 1 (by rw [hol];omega);have d2:w.cell? ⟨g,o+2,none⟩=some (sv [34]):=hcell 2 (by rw [hol];omega);have d3:w.cell? ⟨g,o+3,none⟩=some (sv [92,34]):=hcell 3 (by rw [hol];omega);have d4:w.cell? ⟨g,o+4,none⟩=some (sv [10]):=hcell 4 (by rw [hol];omega);have d5:w.cell? ⟨g,o+5,none⟩=some (sv [92,110]):=hcell 5 (by rw [hol];omega);have d6:w.cell? ⟨g,o+6,none⟩=some (sv [9]):=hcell 6 (by rw [hol];omega);have d7:w.cell? ⟨g,o+7,none⟩=some (sv [92,116]):=hcell 7 (by rw [hol];omega);have HC:=aZ hcell;obtain⟨w1,hmk,hown1,hb1⟩:=Qr w 4 (by omega);have HMK:=aZ hmk;have HOWN:=aZ hown1;clear hmk hown1;clear hx hcell hv;go_enter Tryz.func231,Tryz.ntmps231;go_wp2_with fail
 go_loop [4,5] (fun v4 v5=>(v5=.int .i64 0∧v4=.bool true)∨(v4=.bool false∧(v5=.int .i64 2∨v5=.int .i64 4∨v5=.int .i64 6∨v5=.int .i64 8))) (fun _ v5=>8 - (intOf v5).toNat)
 case atStart=>exact .inl ⟨rfl,rfl⟩
 case round=>
  rcases hrel with⟨rfl,rfl⟩ |⟨rfl,hv5⟩
  ·go_wp2_with fail
   go_round
   case rel=>exact .inr ⟨rfl,.inl rfl⟩
   case measure=>simp [intOf]
  ·rcases hv5 with rfl |rfl |rfl |rfl
   ·go_wp2_with fail
    go_round
    case rel=>exact .inr ⟨rfl,.inr (.inl rfl)⟩
    case measure=>simp [intOf]
   ·go_wp2_with fail
    go_round
    case rel=>exact .inr ⟨rfl,.inr (.inr (.inl rfl))⟩
    case measure=>simp [intOf]
   ·go_wp2_with fail
    go_round
    case rel=>exact .inr ⟨rfl,.inr (.inr (.inr rfl))⟩
    case measure=>simp [intOf]
   ·clear d0 d1 d2 d3 d4 d5 d6 d7;have hmk:(Instr.makeSlice 25 (.int .i64 0) (.int .i64 4)).run Tryz.prog w=.ok (.slice (some ⟨w.heap.size,0,none⟩) 0 4) w1:=HMK.o;obtain⟨W2,hst,Wv,hb2⟩:=TL w1 w.heap.size (.slice (some ⟨w.heap.size,0,none⟩) 0 4) rfl HOWN.o hb1.size;have HT2:=aZ Wv;have hB2:=U6 hb1 hb2;clear Wv HOWN;go_wp2_with fail;generalize hbs:w1.heap.size=bs at*
    have HD:=aZ HC.o;have hTn:=aZ (show w.heap.size<=bs by rw [<-hbs];exact hb1.size);clear hst hmk HMK HC hbs hb1 hb2;go_loopw [12,13,14] (fun v12 v13 v14 wr=>Below w.heap.size w wr∧((∃k i:Nat,k<4∧i+2*k=6∧v12=.int .i64 i∧qJ wr w.heap.size bs ((kY.take k).map fun p=>[p.1]) (kY.take k))∨(v12=.int .i64 (-2)∧qJ wr w.heap.size bs (kY.map fun p=>[p.1]) kY))) (fun v12 _ _ _=>(intOf v12+2).toNat)
    case atStart=>exact⟨hB2,.inl ⟨0,6,by omega,rfl,rfl,HT2.o⟩⟩
    case round=>
     obtain⟨hbr,hrel⟩:=hrel;rcases hrel with⟨k,i,hk,hik,rfl,hT⟩ |⟨rfl,hT⟩
     ·obtain⟨c0,u0,hc0,hu0,hlk,htk,hul⟩:=Wu k i hk hik;have hi8:i+1<8:=by omega
      have hc256:(c0.toNat:Int)<256:=by have:=c0.toNat_lt;omega
      have hp:∀j (hj:j<qh.length),wr.cell? ⟨g,o+j,none⟩=some (sv qh[j]):=fun j hj=>(hbr.cell (p:=⟨g,o+j,none⟩) hg).trans (HD.o j hj);have p0:wr.cell? ⟨g,o+i,none⟩=some (sv [c0]):=by rw [hp i (by rw [hol];omega),hc0]
      have p1:wr.cell? ⟨g,o+(i+1),none⟩=some (sv u0):=by rw [hp (i+1) (by rw [hol];omega),hu0]
      have hix:(ByteArray.mk [c0].toArray)[0]'(by rw [aT];simp)=c0:=gL [c0] 0 (by simp);obtain⟨x1,x2⟩:=uE hT c0 hlk;obtain⟨cs,tr,t1,t3,t4,t5,t6,t7⟩:=Mi hT;have Ct:Below wr.heap.size wr ((wr.alloc (.cells #[.int .u8 (c0.toNat:Int)] 5)).alloc (.cells #[sv [c0]] 9)):=((Below.refl _ _).alloc (Nat.le_refl _) _).alloc (by simp) _;have hcv:(convert 112 9 (.slice (some ⟨wr.heap.size,0,none⟩) 1 1)).run Tryz.prog (wr.alloc (.cells #[.int .u8 (c0.toNat:Int)] 5))=.ok (sv [c0]) (wr.alloc (.cells #[.int .u8 (c0.toNat:Int)] 5)):=by
       have h:=mK (P:=Tryz.prog) (yN wr (c0.toNat:Int) 5 (by have:=c0.toNat_lt;omega)) 112 5 9 Tryz.underlying112 Tryz.underlying5 Tryz.underlying9;simpa using h
      have hTB:=hT.below Ct;have t6B:=t6.below Ct;have t1B:=(Ct.block bs (block_lt t1)).trans t1;have hsB:=rY (wr.alloc (.cells #[.int .u8 (c0.toNat:Int)] 5)) [c0] 9;have s6:(wr.alloc (.cells #[.int .u8 (c0.toNat:Int)] 5)).heap.size=wr.heap.size+1:=by simp
      rw [s6]at hsB;have Y5:w.heap.size<=((wr.alloc (.cells #[.int .u8 (c0.toNat:Int)] 5)).alloc (.cells #[sv [c0]] 9)).heap.size:=Nat.le_trans hbr.size Ct.size;have hlen:((kY.take k).map fun p=>[p.1]).length+[[c0]].length<=8796093022208:=by simp [kY];omega
      have nJ:=aZ hTB;have Cu:=aZ htk;clear hp hc0 hu0 hTB htk;have NH:=aZ hlk;have hnil:∀u:World,(binOp .eql 112 (.slice none 0 0) (.slice none 0 0)).run Tryz.prog u=.ok (.bool true) u:=fun _=>by kernel_rfl
      have hBB:=hbr.trans (Ct.mono hbr.size);clear hlk;go_wp2_with (at_builtin;refine uh rfl (.tmp 119) (.tmp 123) _ rfl w.heap.size oQ _ _ rfl rfl t6B hsB hlen Y5 (fun v9 w9 iI wD nQ=>?_);obtain⟨g9,c9,n9,rfl⟩:=qY iI (by simp);have hT9:=nJ.o.grow t1B t3 wD iI nQ;have Cv:=wo hBB t6B wD (Nat.le_refl _) Y5;have Ww:=(wD.block bs (block_lt t1B) t7.symm).trans t1B;have q1:w9.cell? ⟨bs,256,none⟩=some tr:=(cell_of_row _ _ _ _ _ (0,0) Ww).trans t3;have q2:w9.frozen? ⟨bs,256,none⟩=false:=bI Ww 256;obtain⟨oU,Y6⟩:∃oU,w9.setCell ⟨bs,256,none⟩ (.slice (some ⟨g9,0,none⟩) n9 c9)=oU:=⟨_,rfl⟩;have vO:Below w.heap.size w oU:=Y6▸Cv.trans ((ak w9 bs 256 (.slice (some ⟨g9,0,none⟩) n9 c9)).below Cv.size (fun k hk h=>by have:=hTn.o;omega));rw [Y6]at hT9;have AZ:=aZ hT9;have ab9:=Lib.run_convert_string_bytes (P:=Tryz.prog) oU 9 112 5 ⟨u0.toArray⟩ Tryz.underlying9 Tryz.underlying112 Tryz.underlying5;rw [aT u0]at ab9;have hbw:=Lib.bytesWorld_below oU 5 ⟨u0.toArray⟩;obtain⟨y1,y2⟩:=uE (hT9.below hbw) c0 NH.o;have hcells:=fun j hj=>Lib.bytesWorld_cell oU 5 ⟨u0.toArray⟩ j hj;have hsz2:=Lib.bytesWorld_size oU 5 ⟨u0.toArray⟩;have Wx:=aZ hcells;have acd:=aZ hsz2;clear hT9 wD iI nQ Cv Ww hcells hsz2;generalize grownCap oU u0.length 0 5=kc at*;generalize afE:Lib.bytesWorld oU 5 ⟨u0.toArray⟩=Qg at*);go_wp2_with fail
      have hput:=AZ.o.put c0 u0 NH.o hbw (k:=kc) (by rw [acd.o];omega) (fun j hj=>by
       rw [Wx.o j (by rw [aT];exact hj)];simp [hj])
      have hfin:Below w.heap.size w (Qg.setCell ⟨bs,c0.toNat,none⟩ (.slice (some ⟨oU.heap.size,0,none⟩) u0.length kc)):=
       (vO.trans (hbw.mono vO.size)).trans ((ak Qg bs c0.toNat _).below (Nat.le_trans vO.size hbw.size) (fun k hk h=>by have:=hTn.o;omega))
      have hmap:((kY.take k).map fun p=>[p.1])++[[c0]]=(kY.take (k+1)).map fun p=>[p.1]:=by rw [Cu.o,List.map_append];rfl
      rw [<-Cu.o,hmap]at hput;refine⟨⟨hfin,?_⟩,?_⟩
      ·by_cases hk3:k=3
       ·subst hk3;obtain rfl:i=0:=by omega
        exact .inr ⟨rfl,hput⟩
       ·exact .inl ⟨k+1,i - 2,by omega,by omega,by congr 1;omega,hput⟩
      ·simp [intOf];omega
     ·go_wp2_with fail;go_ret;exact⟨bs,rfl,hT,hbr⟩
theorem uX (c:UInt8):(kY.lookup c=none∧jm c=[c]∧c.toNat≠9∧c.toNat≠10∧c.toNat≠34∧c.toNat≠92)∨(∃a b,kY.lookup c=some [a,b]∧jm c=[a,b]∧(c=9∨c=10∨c=34∨c=92)):=by
 by_cases h1:c=9
 ·subst h1;exact .inr ⟨92,116,rfl,rfl,.inl rfl⟩
 ·by_cases h2:c=10
  ·subst h2;exact .inr ⟨92,110,rfl,rfl,.inr (.inl rfl)⟩
  ·by_cases h3:c=34
   ·subst h3;exact .inr ⟨92,34,rfl,rfl,.inr (.inr (.inl rfl))⟩
   ·by_cases h4:c=92
    ·subst h4;exact .inr ⟨92,92,rfl,rfl,.inr (.inr (.inr rfl))⟩
    ·have e1:c.toNat≠9:=fun h=>h1 (UInt8.toNat_inj.1 h);have e2:c.toNat≠10:=fun h=>h2 (UInt8.toNat_inj.1 h);have e3:c.toNat≠34:=fun h=>h3 (UInt8.toNat_inj.1 h);have e4:c.toNat≠92:=fun h=>h4 (UInt8.toNat_inj.1 h);refine .inl ⟨?_,?_,e1,e2,e3,e4⟩
     ·simp [kY,List.lookup,beq_eq_false_iff_ne.2 h1,beq_eq_false_iff_ne.2 h2,beq_eq_false_iff_ne.2 h3,beq_eq_false_iff_ne.2 h4]
     ·unfold jm;rw [if_neg e4,if_neg e3,if_neg e2,if_neg e1]
def sD (s:Bt):Nat:=(s.map fun c=>if(kY.lookup c).isSome then 1 else 0).sum
theorem uY (c:UInt8)(s:Bt):sD (c :: s)=(if(kY.lookup c).isSome then 1 else 0)+sD s:=rfl
theorem NI (c:UInt8)(s:Bt):sD (s++[c])=sD s+(if(kY.lookup c).isSome then 1 else 0):=by
 unfold sD;rw [List.map_append,List.sum_append];simp
theorem xM (s:Bt):sD s<=s.length:=by
 induction s with
 |nil=>simp [sD]
 |cons c s ih=>rw [uY,List.length_cons];split <;> omega
theorem FM (s:Bt):(s.flatMap jm).length=s.length+sD s:=by
 induction s with
 |nil=>rfl
 |cons c s ih=>
  rw [List.flatMap_cons,List.length_append,ih,uY,List.length_cons];rcases uX c with⟨h1,h2,_⟩ |⟨a,b,h1,h2,_⟩
  ·rw [h1,h2];simp;omega
  ·rw [h1,h2];simp;omega
theorem Hy (s:Bt)(h:sD s=0):s.flatMap jm=s:=by
 induction s with
 |nil=>rfl
 |cons c s ih=>
  rw [uY]at h;rw [List.flatMap_cons,ih (by omega)];rcases uX c with⟨h1,h2,_⟩ |⟨a,b,h1,h2,_⟩
  ·rw [h2];rfl
  ·rw [h1]at h;simp at h
def oV (s:Bt)(k:Nat):Nat:=((kY.take k).map fun p=>Lib.countByte s p.1).sum
theorem EH (s:Bt):oV s 4=sD s:=by
 induction s with
 |nil=>rfl
 |cons c s ih=>
  rw [uY,<-ih];have hc:∀d:UInt8,Lib.countByte (c :: s) d=Lib.countByte s d+(if c=d then 1 else 0):=by
   intro d;unfold Lib.countByte;rw [List.count_cons];by_cases h:c=d
   ·rw [if_pos h,if_pos (by rw [beq_iff_eq];exact h)]
   ·rw [if_neg h,if_neg (by rw [beq_iff_eq];exact h)]
  have h4:∀x,oV x 4=Lib.countByte x 9+(Lib.countByte x 10+(Lib.countByte x 34+Lib.countByte x 92)):=fun x=>rfl;rw [h4,h4,hc,hc,hc,hc];rcases uX c with⟨h1,h2,e1,e2,e3,e4⟩ |⟨a,b,h1,h2,h3⟩
  ·have q1:¬c=9:=fun h=>e1 (by rw [h];rfl);have q2:¬c=10:=fun h=>e2 (by rw [h];rfl);have q3:¬c=34:=fun h=>e3 (by rw [h];rfl);have q4:¬c=92:=fun h=>e4 (by rw [h];rfl);rw [h1,if_neg q1,if_neg q2,if_neg q3,if_neg q4];simp
  ·rw [h1];rcases h3 with rfl |rfl |rfl |rfl <;> simp <;> omega
theorem TM (s:Bt)(k:Nat)(hk:k<=4):oV s k<=s.length:=by
 have h4:=EH s;have hle:=xM s;have h:∀k,k<4->oV s k<=oV s (k+1):=by
  intro k hk;unfold oV;rw [List.take_succ_eq_append_getElem (show k<kY.length from hk),List.map_append,List.sum_append];omega
 have h0:oV s 0<=oV s 1:=h 0 (by omega);have h1:oV s 1<=oV s 2:=h 1 (by omega);have h2:oV s 2<=oV s 3:=h 2 (by omega);have h3:oV s 3<=oV s 4:=h 3 (by omega);have:k=0∨k=1∨k=2∨k=3∨k=4:=by omega
 rcases this with rfl |rfl |rfl |rfl |rfl <;> omega
theorem lU {w:World}{b:Nat}{d st:Int}{rv ov:Value}(h:wG w b d st rv ov):
  (w.cell? ⟨b,0,none⟩=some (.int .u32 d)∧w.cell? ⟨b,1,none⟩=some (.int .i32 st)∧w.cell? ⟨b,3,none⟩=some rv∧w.cell? ⟨b,4,none⟩=some ov)∧∀i,w.frozen? ⟨b,i,none⟩=false:=
 ⟨⟨(cell_of_row _ _ _ _ _ (0,0) h).trans rfl,(cell_of_row _ _ _ _ _ (0,0) h).trans rfl,(cell_of_row _ _ _ _ _ (0,0) h).trans rfl,(cell_of_row _ _ _ _ _ (0,0) h).trans rfl⟩,fun i=>bI h i⟩
theorem xO {w:World}{b:Nat}{d st:Int}{rv ov:Value}(h:wG w b d st rv ov):
  (∀x,wG (w.setCell ⟨b,0,none⟩ (.int .u32 x)) b x st rv ov)∧(∀x,wG (w.setCell ⟨b,1,none⟩ (.int .i32 x)) b d x rv ov)∧(∀x,wG (w.setCell ⟨b,3,none⟩ x) b d st x ov)∧(∀x,wG (w.setCell ⟨b,4,none⟩ x) b d st rv x):=
 ⟨fun x=>heap_setCell_same w b 0 _ _ _ h,fun x=>heap_setCell_same w b 1 _ _ _ h,fun x=>heap_setCell_same w b 3 _ _ _ h,fun x=>heap_setCell_same w b 4 _ _ _ h⟩
theorem qJ.turn {w w':World}{base bs b:Nat}{m:List Bt}{l:List (UInt8 ×Bt)}(h:qJ w base bs m l)(ht:Turn (fun k=>k=b) w w')(hb:b<base):qJ w' base bs m l:=by
 obtain⟨cs,tr,h1,h2,h3,h4,h5,h6,h7⟩:=h;refine⟨cs,tr,(ht.block (block_lt h1) (by omega)).trans h1,h2,h3,h4.turn ht (fun g hg h=>by have:=(h4.lt g hg).1;omega),h5,h6,fun c=>⟨(h7 c).1,fun u hu=>?_⟩⟩;obtain⟨g,k,a1,a0,a2,a3,a4,a7⟩:=(h7 c).2 u hu;refine⟨g,k,a1,a0,Nat.lt_of_lt_of_le a2 ht.size,a3,a4,fun j hj=>?_⟩;have:w'.cell? ⟨g,j,none⟩=w.cell? ⟨g,j,none⟩:=by simp only [World.cell?,ht.block a2 (show ¬g=b by omega)]
 rw [this];exact a7 j hj
def Built (w':World)(base b:Nat)(d st:Int):Prop:=∃bs,wG w' b d st (.iface 296 (.pointer (some ⟨bs,0,none⟩))) (.slice none 0 0)∧qJ w' base bs (kY.map fun p=>[p.1]) kY
theorem Ed (w:World)(b:Nat)(ov:Value)(hR:wG w b 0 1 .nilIface ov)(hv:Ss w w.heap.size ov qh):
  Calls Tryz.prog 220 #[.pointer (some ⟨b,0,none⟩)] w fun e w'=>e=.returned (.tuple #[])∧Built w' w.heap.size b 0 1∧Turn (fun k=>k=b) w w':=by
 have hb:b<w.heap.size:=block_lt hR;have hov:∃A n c,ov=.slice A n c:=by obtain⟨A,c,h,_⟩:=hv.open_;exact⟨A,_,c,h⟩
 go_enter Tryz.func220,Tryz.ntmps220;go_wp2_with fail;refine(NG w b ov hR hv).mono ?_;rintro e w1 ⟨bs,rfl,hT,hb1⟩;have TN:wG w1 b 0 1 .nilIface ov:=(hb1.block b hb).trans hR;obtain⟨⟨c0,c1,c3,c4⟩,fr⟩:=lU TN;have hR2:=(xO TN).2.2.1 (.iface 296 (.pointer (some ⟨bs,0,none⟩)));have hR3:=(xO hR2).2.2.2 (.slice none 0 0);obtain⟨⟨k0,k1,k3,k4⟩,fr2⟩:=lU hR2;have f3:=fr 3;have f4:=fr2 4;have t1:=ak w1 b 3 (.iface 296 (.pointer (some ⟨bs,0,none⟩)));have t2:=ak (w1.setCell ⟨b,3,none⟩ (.iface 296 (.pointer (some ⟨bs,0,none⟩)))) b 4 (.slice none 0 0);have t3:=t1.trans t2 (fun _ _ h=>h);have hT3:=hT.turn t3 hb;obtain⟨A,n,c,rfl⟩:=hov;go_wp2_with fail;go_end0;exact⟨rfl,⟨bs,hR3,hT3⟩,(Turn.of_below hb1).trans t3 (fun _ _ h=>h)⟩
theorem Qt (w:World)(b:Nat)(ov:Value)(hR:wG w b 0 0 .nilIface ov)(hv:Ss w w.heap.size ov qh)(hd:∀g,ov.ownBlock=some g->g≠b):
  Calls Tryz.prog 230 #[.pointer (some ⟨b,0,none⟩),.func (.func 220) #[.pointer (some ⟨b,0,none⟩)] #[]] w fun e w'=>e=.returned (.tuple #[])∧Built w' w.heap.size b 1 0∧Turn (fun k=>k=b) w w':=by
 have hb:b<w.heap.size:=block_lt hR;obtain⟨⟨c0,c1,c3,c4⟩,fr⟩:=lU hR;have f1:=fr 1;have TN:=(xO hR).2.1 1;have t1:=ak w b 1 (.int .i32 1);have hv1:Ss (w.setCell ⟨b,1,none⟩ (.int .i32 1)) (w.setCell ⟨b,1,none⟩ (.int .i32 1)).heap.size ov qh:=by
  have h:(w.setCell ⟨b,1,none⟩ (.int .i32 1)).heap.size=w.heap.size:=by simp
  rw [h];exact Sl.U7 hv (fun g hg hlt=>t1.block hlt (hd g hg))
 obtain⟨⟨k0,k1,k3,k4⟩,fr1⟩:=lU TN;obtain⟨w1,hw1⟩:∃w1,w.setCell ⟨b,1,none⟩ (.int .i32 1)=w1:=⟨_,rfl⟩
 have hs1:w1.heap.size=w.heap.size:=by rw [<-hw1];simp
 rw [hw1]at TN t1 hv1 k0 k1 k3 k4 fr1;have hl:=run_call_load (P:=Tryz.prog) Tryz.func245 (by kernel_rfl) (by kernel_rfl) (by kernel_rfl) .u32 (by kernel_rfl) (w:=w1) (a:=⟨b,0,none⟩) (x:=0) k0;have hnot:∀(x:Bool) (w:World),(Op.unary .not (.bool x)).run Tryz.prog w=.ok (.bool (!x)) w:=fun _ _=>rfl;have HR1:=aZ TN;have Tj:=aZ hv1;have T1:=aZ t1;clear TN hv1 t1 hv hR
 go_enter_defers Tryz.func230,Tryz.ntmps230
 go_wp2_with (first |(go_at_call 246;refine(lock_free ⟨b,1,none⟩ _ c1 f1).mono ?_;rintro e w' ⟨rfl,rfl⟩;rw [hw1]) |(go_at_call 229;go_in) |(go_at_call 220;refine(Ed w1 b ov HR1.o Tj.o).mono ?_;rintro e w2 ⟨rfl,hB,ht⟩));obtain⟨bs,hR2,Wv⟩:=hB;have hR3:wG w2.drew b 0 1 (.iface 296 (.pointer (some ⟨bs,0,none⟩))) (.slice none 0 0):=hR2;obtain⟨⟨a0,a1,a3,a4⟩,fa⟩:=lU hR2;have hR4:=(xO hR3).1 1;obtain⟨⟨m0,m1,m3,m4⟩,fm⟩:=lU hR4;have kK:=(xO hR4).2.1 0
 have t2:Turn (fun k=>k=b) w2 ((w2.drew.setCell ⟨b,0,none⟩ (.int .u32 1)).setCell ⟨b,1,none⟩ (.int .i32 0)):=
  ((Turn.of_below (aH (B:=w2.heap.size) w2 1)).trans (ak w2.drew b 0 (.int .u32 1)) (fun _ _ h=>h)).trans (ak _ b 1 (.int .i32 0)) (fun _ _ h=>h)
 rw [hs1]at Wv;have hT5:=Wv.turn t2 hb;have fa0:=fa 0;have fm1:=fm 1
 go_wp2
 refine leaves_cons (f:=248) (args:= #[.pointer (some ⟨b,0,none⟩),.bool true]) (by simp) (by simp [go_sem]) ?_;refine(Cr ⟨b,0,none⟩ (.int .u32 0) .returning w2 a0 fa0).mono ?_;rintro e u' w'' ⟨rfl,rfl,rfl⟩;refine leaves_cons (f:=247) (args:= #[.pointer (some ⟨b,1,none⟩)]) (by simp [settle]) (by simp [go_sem]) ?_;refine(unlock_deferred ⟨b,1,none⟩ _ _ m1 fm1).mono ?_;rintro e u' w'' ⟨rfl,rfl,rfl⟩;have hfin:Built ((w2.drew.setCell ⟨b,0,none⟩ (.int .u32 1)).setCell ⟨b,1,none⟩ (.int .i32 0)) w.heap.size b 1 0:=⟨bs,kK,hT5⟩
 have htn:=(T1.o.trans ht (fun _ _ h=>h)).trans t2 (fun _ _ h=>h);simp [Leaves,settle,results,Tryz.results230];exact⟨hfin,htn⟩
theorem Qu (w:World)(b:Nat)(ov:Value)(hR:wG w b 0 0 .nilIface ov)(hv:Ss w w.heap.size ov qh)(hd:∀g,ov.ownBlock=some g->g≠b):
  Calls Tryz.prog 219 #[.pointer (some ⟨b,0,none⟩),.func (.func 220) #[.pointer (some ⟨b,0,none⟩)] #[]] w fun e w'=>e=.returned (.tuple #[])∧Built w' w.heap.size b 1 0∧Turn (fun k=>k=b) w w':=by
 obtain⟨⟨c0,c1,c3,c4⟩,fr⟩:=lU hR;have hl:=run_call_load (P:=Tryz.prog) Tryz.func245 (by kernel_rfl) (by kernel_rfl) (by kernel_rfl) .u32 (by kernel_rfl) c0;have hnot:∀(x:Bool) (w:World),(Op.unary .not (.bool x)).run Tryz.prog w=.ok (.bool (!x)) w:=fun _ _=>rfl;have HS:=aZ (Qt w b ov hR hv hd);clear hR hv hd c1 c3 c4 fr;go_enter Tryz.func219,Tryz.ntmps219;go_wp2_with (first |(go_at_call 230;refine HS.o.mono ?_;rintro e w2 ⟨rfl,hB,ht⟩) |(go_at_call 229;go_in));go_end0;exact⟨rfl,hB,ht⟩
theorem Kj (w:World)(ov:Value)(hv:Ss w w.heap.size ov qh):
  Calls Tryz.prog 204 #[ov] w fun e w'=>∃b ov',e=.returned (.pointer (some ⟨b,0,none⟩))∧wG w' b 0 0 .nilIface ov'∧Ss w' w'.heap.size ov' qh∧(∀g,ov'.ownBlock=some g->g≠b)∧w.heap.size<=b∧Below w.heap.size w w':=by
 have hol:qh.length=8:=rfl;have hv0:=hv;obtain⟨A,c,rfl,hn,hc,hx⟩:=hv0.open_;rw [hol]at hn hv ⊢;unfold maxLen at hc;clear hx hv0;go_enter Tryz.func204,Tryz.ntmps204;go_wp2_with (at_builtin;refine uh rfl _ (.tmp 8) _ rfl w.heap.size oQ _ _ rfl rfl (gX.nil w w.heap.size 9) hv (by rw [hol];simp) (Nat.le_refl _) (fun v1 w1 hown1 hg1 hbk1=>?_);have hb1:=wo (Below.refl w.heap.size w) (gX.nil w w.heap.size 9) hg1 (Nat.le_refl _) (Nat.le_refl _);rw [List.nil_append]at hown1;obtain⟨g1,c1,n1,rfl⟩:=qY hown1 (by rw [hol];omega);clear hg1 hbk1);go_ret;have hal:Below w1.heap.size w1 (w1.alloc (.cells #[.int .u32 0,.int .i32 0,.int .u32 0,.nilIface,.slice (some ⟨g1,0,none⟩) n1 c1] 255)):=(Below.refl _ _).alloc (Nat.le_refl _) _;refine⟨w1.heap.size,.slice (some ⟨g1,0,none⟩) n1 c1,rfl,heap_alloc_new w1 _,(hown1.below hal).ss,fun g hg=>?_,hb1.size,hb1.trans (hal.mono hb1.size)⟩;have:=(hown1.lt g hg).2;omega
theorem Cw (w:World)(n:Nat)(hn:n<=10000000):∃w1,(Instr.makeSlice 112 (.int .i64 n) (.int .i64 n)).run Tryz.prog w=.ok (.slice (some ⟨w.heap.size,0,none⟩) n n) w1∧
  (∃cur:List Value,w1.heap[w.heap.size]? =some (.cells cur.toArray 5 (0,0))∧cur.length=n)∧Below w.heap.size w w1:=by
 obtain⟨ht,hinfo,_,_⟩:=uV;obtain⟨i,hi,hz,hs,hb⟩:=info_parts hinfo;have hr:=run_make (P:=Tryz.prog) w 112 5 i _ ht hi hz .i64 .i64 n n (by omega) (Int.le_refl _) (by rw [hb];omega) (by omega);simp only [Int.toNat_natCast]at hr;refine⟨_,hr,⟨(madeCells (Value.int IntKind.u8 0).cells (n*i.size)).toList,by rw [Array.toArray_toList];exact heap_alloc_new w _,by rw [Array.length_toList,size_madeCells,hs,Nat.mul_one]⟩,(Below.refl _ _).alloc (Nat.le_refl _) _⟩
theorem FN {w:World}{base bs:Nat}{m:List Bt}{l:List (UInt8 ×Bt)}(h:qJ w base bs m l)(c:UInt8)(u:Bt)(hl:l.lookup c=some u):
  ∃g k,w.cell? ⟨bs,c.toNat,none⟩=some (.slice (some ⟨g,0,none⟩) u.length k)∧g<w.heap.size∧∀(j:Nat) (hj:j<u.length),w.cell? ⟨g,j,none⟩=some (.int .u8 (u[j].toNat:Int)):=by
 obtain⟨cs,tr,h1,h2,h3,h4,h5,h6,h7⟩:=h;obtain⟨g,k,a1,a0,a2,a3,a4,a7⟩:=(h7 c).2 u hl;exact⟨g,k,(cell_of_row _ _ _ _ _ (0,0) h1).trans a1,a2,a7⟩
theorem yX {s:Bt}{i:Nat}(h:i<s.length):(s.take (i+1)).flatMap jm=(s.take i).flatMap jm++jm s[i]:=by
 rw [List.take_succ_eq_append_getElem h,List.flatMap_append];simp
theorem NJ {s:Bt}{i:Nat}(h:i<s.length):sD (s.take (i+1))=sD (s.take i)+(if(kY.lookup s[i]).isSome then 1 else 0):=by
 rw [List.take_succ_eq_append_getElem h,NI]
theorem NK (s:Bt)(i:Nat):((s.take i).flatMap jm).length+((s.drop i).flatMap jm).length=(s.flatMap jm).length:=by
 rw [<-List.length_append,<-List.flatMap_append,List.take_append_drop]
theorem NM (s:Bt)(k i:Nat)(hk:k<4)(hi:i+2*k=6):∃(c:UInt8) (a b:UInt8),(kY.map fun p=>[p.1])[k]? =some [c]∧kY.lookup c=some [a,b]∧oV s (k+1)=oV s k+Lib.countByte s c:=by
 have hs:∀k (h:k<kY.length),oV s (k+1)=oV s k+Lib.countByte s kY[k].1:=by
  intro k h;unfold oV;rw [List.take_succ_eq_append_getElem h,List.map_append,List.sum_append];simp
 have:(k=0∧i=6)∨(k=1∧i=4)∨(k=2∧i=2)∨(k=3∧i=0):=by omega
 rcases this with⟨rfl,rfl⟩ |⟨rfl,rfl⟩ |⟨rfl,rfl⟩ |⟨rfl,rfl⟩
 ·exact⟨9,92,116,rfl,rfl,hs 0 (by decide)⟩
 ·exact⟨10,92,110,rfl,rfl,hs 1 (by decide)⟩
 ·exact⟨34,92,34,rfl,rfl,hs 2 (by decide)⟩
 ·exact⟨92,92,92,rfl,rfl,hs 3 (by decide)⟩
theorem EI {w:World}{b:Nat}{l:Bt}{t:TypeId}{n:Nat}(hn:n=l.length)(h:w.heap[b]? =some (.cells (bv l).toArray t (0,0)))(hl:l.length<=maxLen):Bs w w.heap.size (.slice (some ⟨b,0,none⟩) n n) l:=by
 subst hn;refine⟨_,l.length,l.length,rfl,by simp [mD],Nat.le_refl _,hl,fun _=>⟨b,0,rfl,block_lt h,fun j u hu=>?_⟩⟩;rw [Nat.zero_add,cell_of_row _ _ _ _ _ (0,0) h];simpa using hu
theorem EJ (s:Bt)(i:Nat)(h:i<s.length):((s.take i).flatMap jm).length+(jm s[i]).length<=(s.flatMap jm).length:=by
 have h1:=NK s (i+1);rw [yX h,List.length_append]at h1;omega
theorem qK {l m:List Value}{j:Nat}{v:Value}(h:l.take j=m)(hj:j<l.length):(l.set j v).take (j+1)=m++[v]:=by
 have hs:j<(l.set j v).length:=by rw [List.length_set];exact hj
 rw [List.take_succ_eq_append_getElem hs,List.getElem_set_self,List.take_set_of_le (Nat.le_refl j),h]
theorem zV {l m cs:List Value}{j:Nat}(h:l.take j=m)(hj:j+cs.length<=l.length):(splice l j cs).take (j+cs.length)=m++cs:=by
 unfold splice;rw [<-List.append_assoc,h];have:(m++cs).length=j+cs.length:=by rw [List.length_append,<-h,List.length_take];omega
 rw [<-this,List.take_left]
theorem TP (a:Addr)(n k:Nat)(u:World):(binOp .neq 112 (.slice (some a) n k) (.slice none 0 0)).run Tryz.prog u=.ok (.bool true) u:=by kernel_rfl
theorem Qv (u:World):(binOp .neq 112 (.slice none 0 0) (.slice none 0 0)).run Tryz.prog u=.ok (.bool false) u:=by kernel_rfl
theorem TQ (w:World)(base bs:Nat)(s:Bt)(hT:qJ w base bs (kY.map fun p=>[p.1]) kY)(hs:s.length<=1000000):
  Calls Tryz.prog 317 #[.pointer (some ⟨bs,0,none⟩),sv s] w fun e w'=>e=.returned (sv (s.flatMap jm))∧Below w.heap.size w w':=by
 have hsz:=aT s;obtain⟨cs,tr,t1,t3,t4,t5,t6,t7⟩:=Mi hT;have hml:(kY.map fun p=>[p.1]).length=4:=rfl;obtain⟨g,ct,rfl,_,hgl,_,hcm⟩:=dR t6.row (by rw [hml];omega);rw [hml]at t4;unfold maxLen at hcm;have hcell:∀j u,(mW (kY.map fun p=>[p.1]))[j]? =some u->w.cell? ⟨g,j,none⟩=some u:=by
  intro j u hu;have:=t6.row.cells (g:=g) rfl j u hu;rwa [jv,Nat.zero_add]at this
 have TR:=block_lt t1;have hnl:=FM s;have afK:=xM s;have Y8:=aZ hcell;have HT:=aZ hT;have JR:=aZ hnl;have hne:=TP;have hns:=Qv;clear hcell t5 t1 t3 t6 t7 hT hml hnl;by_cases h32:(32:Int)<=s.length
 ·go_enter Tryz.func317,Tryz.ntmps317;go_wp2_with fail;go_loopw [5,6,8,9,32] (fun v5 v6 v8 v9 v32 wr=>∃k n:Nat,k<=4∧v32=.int .i64 k∧v5=.int .i64 n∧n=s.length+oV s k∧v6=.bool (decide (oV s k≠0))∧Below w.heap.size w wr) (fun _ _ _ _ v32 _=>4 - (intOf v32).toNat)
  case atStart=>exact⟨0,s.length,by omega,rfl,rfl,rfl,rfl,Below.refl _ _⟩
  case round=>
   obtain⟨k,n,hk,rfl,rfl,hn,rfl,hbr⟩:=hrel;by_cases hk4:k<4
   ·obtain⟨c0,a0,b0,hm0,hl0,hkk⟩:=NM s k (6 - 2*k) hk4 (by omega);have afL:(k:Int)<4:=by omega
    have hc256:(c0.toNat:Int)<256:=by have:=c0.toNat_lt;omega
    have p0:wr.cell? ⟨g,k,none⟩=some (sv [c0]):=(hbr.cell (p:=⟨g,k,none⟩) hgl).trans (Y8.o k _ (by unfold mW;rw [List.getElem?_map,hm0];rfl));have hix:(ByteArray.mk [c0].toArray)[0]'(by rw [aT];simp)=c0:=gL [c0] 0 (by simp);obtain⟨g0,k0,y1,_,_⟩:=FN (HT.o.below hbr) c0 [a0,b0] hl0;have hcl:Lib.countByte s c0<=s.length:=List.count_le_length;have HKK:=aZ hkk;have HN:=aZ hn;clear hkk hn hm0 hl0;go_wp2_with fail;refine(Tryz.strings_Count_one ⟨s.toArray⟩ c0 _).mono ?_;rintro e wr ⟨rfl,rfl⟩;simp only [show(ByteArray.mk s.toArray).data.toList=s from rfl];generalize hcn:Lib.countByte s c0=m at*
    by_cases hm:m=0
    ·subst hm;go_wp2_with fail
     go_roundw
     case rel=>exact⟨k+1,n,by omega,rfl,rfl,by rw [HKK.o,HN.o];omega,by rw [HKK.o];simp,hbr⟩
     case measure=>simp [intOf];omega
    ·have hm0:¬(m:Int)=0:=by omega
     have hm1:((m:Int) != 0)=true:=by rw [bne_iff_ne];exact hm0
     have hkle:=TM s k (by omega);have hn2:n<=2*s.length:=by have:=HN.o;omega
     have hmb:((m:Int)*1)=m:=Int.mul_one _;have hnm:n+m=s.length+oV s (k+1):=by rw [HKK.o,HN.o];omega
     have hkz:decide (oV s (k+1)≠0)=true:=by rw [decide_eq_true_eq,HKK.o];omega
     have O4:=aZ hnm;have HKZ:=aZ hkz;clear hnm hkz;go_wp2_with fail
     go_quiet (fail)
     go_wp2_with fail
     go_roundw
     case rel=>exact⟨k+1,n+m,by omega,rfl,rfl,O4.o,by rw [HKZ.o],hbr.trans (aH _ _)⟩
     case measure=>simp [intOf];omega
   ·obtain rfl:k=4:=by omega
    have afN:¬((4:Nat):Int)<4:=by omega
    rw [EH]at hn ⊢;by_cases hz:sD s=0
    ·have HE:=aZ (Hy s hz);rw [decide_eq_false (by simp [hz])];clear hne hns;go_wp2_with fail;go_ret;exact⟨by rw [HE.o];rfl,hbr⟩
    ·rw [decide_eq_true (show sD s≠0 from hz)];have hnf:n=(s.flatMap jm).length:=by rw [JR.o];exact hn
     obtain⟨w1,hmk,⟨Qw,hcur,hcl⟩,hb1⟩:=Cw wr n (by omega);have Qx:=aZ hnf;have Hz:=aZ hcur;have hB1:Below w.heap.size w w1:=hbr.trans (hb1.mono hbr.size);obtain⟨bb,yY⟩:∃bb,bb=wr.heap.size:=⟨_,rfl⟩
     have hbb:w.heap.size<=bb:=by rw [yY];exact hbr.size
     rw [<-yY]at Hz hmk;have Wy:=aZ yY;clear yY;have hnb:n<=2000000:=by omega
     clear hn hnf hcur hz;go_wp2_with fail;clear hmk hb1;go_loopw [13,14,15] (fun v13 v14 v15 wr=>∃(i j:Nat) (cur:List Value),v14=.int .i64 i∧v13=.int .i64 j∧i<=s.length∧j=((s.take i).flatMap jm).length∧wr.heap[bb]? =some (.cells cur.toArray 5 (0,0))∧cur.length=n∧cur.take j=bv ((s.take i).flatMap jm)∧Below w.heap.size w wr) (fun _ v14 _ _=>s.length - (intOf v14).toNat)
     case atStart=>exact⟨0,0,Qw,rfl,rfl,by omega,rfl,Hz.o,hcl,rfl,hB1⟩
     case round=>
      obtain⟨i,j,cur,rfl,rfl,hi,hj,hcur,hcn,htk,hbq⟩:=hrel;have kL:=aZ (HT.o.below hbq);by_cases hlt:i<s.length
      ·have hix:=gL s i hlt;have hft:=yX hlt;have hroom:=EJ s i hlt;rw [<-hj,<-Qx.o]at hroom;have hc256:((s[i]).toNat:Int)<256:=by have:=(s[i]).toNat_lt;omega
       have hes:=uX s[i];generalize hX:s[i]=X at*
       clear hX;have Kk:=aZ hft;have HJ:=aZ hj;have Cu:=aZ htk;have Qy:=aZ hcur;have Gw:=aZ hcn;clear hft hj htk;rcases hes with⟨hl0,hw0,_,_,_,_⟩ |⟨a,b,hl0,hw0,_⟩
       ·rw [hw0]at hroom;simp only [List.length_singleton]at hroom;have y1:=(uE kL.o X hl0).1;have hjn:j<n:=by omega
        have z1:wr.cell? ⟨bb,j,none⟩=some (cur[j]'(by omega)):=(cell_of_row _ _ _ _ _ (0,0) hcur).trans (by simp [hcn,hjn]);have z2:=bI hcur j;have hnew:=heap_setCell_same wr bb j _ _ (.int .u8 (X.toNat:Int)) hcur;rw [List.setIfInBounds_toArray]at hnew;have Qz:=aZ hnew;have hbn:=hbq.trans ((ak wr bb j (.int .u8 (X.toNat:Int))).below hbq.size (fun k hk h=>by omega));have htn:=qK (v:= .int .u8 (X.toNat:Int)) Cu.o (by omega);have xB:=aZ htn;have HW0:=aZ hw0;clear hnew htn hcur hw0 hl0 JR;generalize cur[j]=cj at*
        go_wp2_with fail
        go_roundw
        case rel=>exact⟨i+1,j+1,_,rfl,rfl,by omega,by rw [Kk.o,HW0.o,List.length_append,<-HJ.o];rfl,Qz.o,by rw [List.length_set];exact Gw.o,by rw [xB.o,Kk.o,HW0.o,qV];rfl,hbn⟩
        case measure=>simp [intOf];omega
       ·rw [hw0]at hroom;simp only [List.length_cons,List.length_nil]at hroom;obtain⟨g0,k0,y1,_,y3⟩:=FN kL.o X [a,b] hl0;have hjn:j<n:=by omega
        have acg:j<=n:=by omega
        have hnj:¬n=j:=by omega
        have hwj:IntKind.i64.wrap ((j:Int)+2)=(j:Int)+2:=by rw [GA];exact Eu (by unfold In64;omega)
        have O6:=aZ hbq;have H6:([a,b]:Bt).length=2:=rfl;rw [H6]at y1;have hS0:wr.drew.cell? ⟨bs,X.toNat,none⟩=some (.slice (some ⟨g0,0,none⟩) 2 k0):=y1;have hsrc:∀(q:Nat) v,[Value.int .u8 (a.toNat:Int),.int .u8 (b.toNat:Int)][q]? =some v->wr.drew.cell? ((⟨g0,0,none⟩:Addr).add q)=some v:=by
         intro q v hv;rw [jv,Nat.zero_add];rcases q with _ |_ |q
         ·exact(y3 0 (by simp)).trans hv
         ·exact(y3 1 (by simp)).trans hv
         ·simp at hv
        have hbd:Below w.heap.size w wr.drew:=hbq.trans (aH wr 1);have Wz:=aZ hsrc;have HW0:=aZ hw0;clear hsrc y3 hw0 hl0 JR hcur;go_wp2_with fail;refine wp_region_held_drew (S:=fun w'=>w'.cell? ⟨bs,X.toNat,none⟩=some (.slice (some ⟨g0,0,none⟩) 2 k0)) (by kernel_rfl) hS0 (fun _=>?_)
        try simp only [Act.put,sq]
        refine wpAnyH_take (i:=0) (v:=(.int .i64 j)) rfl (by kernel_rfl) (by kernel_rfl) (by kernel_rfl) (fun _ _ _ h=>h) (Or.inl ⟨by kernel_rfl,by intro w hSw;obtain eu:=hSw;go_simp⟩) hS0 ?_
        try simp only [Act.put,sq]
        refine wpAnyH_take (i:=1) (v:=(.slice (some ⟨bb,0,none⟩) n n)) rfl (by kernel_rfl) (by kernel_rfl) (by kernel_rfl) (fun _ _ _ h=>h) (Or.inl ⟨by kernel_rfl,by intro w hSw;obtain eu:=hSw;go_simp⟩) hS0 ?_
        try simp only [Act.put,sq]
        refine wpAnyH_take (i:=2) (v:=(.int .i64 j)) rfl (by kernel_rfl) (by kernel_rfl) (by kernel_rfl) (fun _ _ _ h=>h) (Or.inl ⟨by kernel_rfl,by intro w hSw;obtain eu:=hSw;go_simp⟩) hS0 ?_
        try simp only [Act.put,sq]
        refine wpAnyH_take (i:=3) (v:=(.slice (some ⟨bb,j,none⟩) (n - j) (n - j))) rfl (by kernel_rfl) (by kernel_rfl) (by kernel_rfl) (fun _ _ _ h=>h) (Or.inl ⟨by kernel_rfl,by intro w hSw;obtain eu:=hSw;go_simp⟩) hS0 ?_
        try simp only [Act.put,sq]
        refine wpAnyH_take (i:=4) (v:=(.pointer (some ⟨bs,0,none⟩))) rfl (by kernel_rfl) (by kernel_rfl) (by kernel_rfl) (fun _ _ _ h=>h) (Or.inl ⟨by kernel_rfl,by intro w hSw;obtain eu:=hSw;go_simp⟩) hS0 ?_
        try simp only [Act.put,sq]
        refine wpAnyH_take (i:=5) (v:=(.int .u8 (X.toNat:Int))) rfl (by kernel_rfl) (by kernel_rfl) (by kernel_rfl) (fun _ _ _ h=>h) (Or.inl ⟨by kernel_rfl,by intro w hSw;obtain eu:=hSw;go_simp⟩) hS0 ?_
        try simp only [Act.put,sq]
        refine wpAnyH_take (i:=6) (v:=(.pointer (some ⟨bs,0,none⟩))) rfl (by kernel_rfl) (by kernel_rfl) (by kernel_rfl) (fun _ _ _ h=>h) (Or.inl ⟨by kernel_rfl,by intro w hSw;obtain eu:=hSw;go_simp⟩) hS0 ?_
        try simp only [Act.put,sq]
        refine wpAnyH_take (i:=7) (v:=(.pointer (some ⟨bs,0,none⟩))) rfl (by kernel_rfl) (by kernel_rfl) (by kernel_rfl) (fun _ _ _ h=>h) (Or.inl ⟨by kernel_rfl,by intro w hSw;obtain eu:=hSw;go_simp⟩) hS0 ?_
        try simp only [Act.put,sq]
        refine wpAnyH_take (i:=8) (v:=(.pointer (some ⟨bs,X.toNat,none⟩))) rfl (by kernel_rfl) (by kernel_rfl) (by kernel_rfl) (fun _ _ _ h=>h) (Or.inl ⟨by kernel_rfl,by intro w hSw;obtain eu:=hSw;go_simp⟩) hS0 ?_
        try simp only [Act.put,sq]
        refine wpAnyH_take (i:=9) (v:=(.slice (some ⟨g0,0,none⟩) 2 k0)) rfl (by kernel_rfl) (by kernel_rfl) (by kernel_rfl) (fun _ _ _ h=>h) (Or.inl ⟨by kernel_rfl,by intro w hSw;obtain eu:=hSw;go_simp⟩) hS0 ?_
        try simp only [Act.put,sq]
        refine wpAnyH_ready (rs:=[10]) (by kernel_rfl) (by simp) ?_;refine AllReadyH.cons rfl (fun K hK=>?_) AllReadyH.nil;refine step_copy_splice rfl (.tmp 105) (.tmp 111) _ _ rfl 5 Tryz.underlying112 (by kernel_rfl) _ _ _ _ _ _ rfl rfl bb j cur 5 Qy.o [.int .u8 (a.toNat:Int),.int .u8 (b.toNat:Int)] (by show 2=min 2 (n - j);omega) (fun _=>⟨rfl,_,rfl,Wz.o⟩) (by rw [Gw.o];simp only [List.length_cons,List.length_nil];omega) (by intro v hv;simp at hv;rcases hv with rfl |rfl <;> rfl) w.heap.size w hbd hbb (fun w5 hw5 hb5=>?_);have hS1:w5.cell? ⟨bs,X.toNat,none⟩=some (.slice (some ⟨g0,0,none⟩) 2 k0):=by
         exact(hb5.cell (p:=⟨bs,X.toNat,none⟩) TR).trans ((O6.o.cell (p:=⟨bs,X.toNat,none⟩) TR).symm.trans y1)
        refine hK.out _ _ hS1 (fun _=>?_);clear hK K
        try simp only [Act.put,sq]
        refine wpAnyH_take (i:=11) (v:=(.int .i64 ((j:Int)+2))) rfl (by kernel_rfl) (by kernel_rfl) (by kernel_rfl) (fun _ _ _ h=>h) (Or.inl ⟨by kernel_rfl,by intro w hSw;obtain eu:=hSw;go_simp⟩) hS1 ?_
        try simp only [Act.put,sq]
        refine wpAnyH_take (i:=12) (v:=(.int .i64 ((j:Int)+2))) rfl (by kernel_rfl) (by kernel_rfl) (by kernel_rfl) (fun _ _ _ h=>h) (Or.inl ⟨by kernel_rfl,by intro w hSw;obtain eu:=hSw;go_simp⟩) hS1 ?_
        try simp only [Act.put,sq]
        refine wpAnyH_done (by kernel_rfl) ?_ _;have QA:=zV (cs:=[Value.int .u8 (a.toNat:Int),.int .u8 (b.toNat:Int)]) Cu.o (by rw [Gw.o];simp;omega);have WA:=aZ QA;clear QA;go_wp2_with fail
        go_roundw
        case rel=>exact⟨i+1,j+2,_,rfl,rfl,by omega,by rw [Kk.o,HW0.o,List.length_append,<-HJ.o];rfl,hw5.out,by rw [length_splice _ _ _ (by rw [Gw.o];simp;omega)];exact Gw.o,by rw [Kk.o,HW0.o,qV];exact WA.o,hb5⟩
        case measure=>simp [intOf];omega
      ·obtain rfl:i=s.length:=by omega
       rw [List.take_length]at hj htk;rw [<-Qx.o]at hj;subst hj;rw [List.take_of_length_le (by omega)]at htk;rw [htk]at hcur;have hcv:=mK (P:=Tryz.prog) (EI Qx.o hcur (by rw [<-Qx.o];unfold maxLen;omega)) 112 5 9 Tryz.underlying112 Tryz.underlying5 Tryz.underlying9;clear hcur htk hcn JR Qx;go_wp2_with fail;go_ret;exact⟨rfl,hbq⟩
 ·go_enter Tryz.func317,Tryz.ntmps317;go_wp2_with fail
  go_loop [5,6,10,11] (fun v5 v6 v10 v11=>∃i n:Nat,v10=.int .i64 i∧v5=.int .i64 n∧i<=s.length∧n=s.length+sD (s.take i)∧v6=.bool (decide (sD (s.take i)≠0))) (fun _ _ v10 _=>s.length - (intOf v10).toNat)
  case atStart=>exact⟨0,s.length,rfl,rfl,by omega,rfl,rfl⟩
  case round=>
   obtain⟨i,n,rfl,rfl,hi,hn,rfl⟩:=hrel;by_cases hlt:i<s.length
   ·have hix:=gL s i hlt;have hft:=NJ hlt;have hle1:=xM (s.take i);have hnb:n<=2000000:=by rw [List.length_take]at hle1;omega
    have hc256:((s[i]).toNat:Int)<256:=by have:=(s[i]).toNat_lt;omega
    have hes:=uX s[i];generalize hX:s[i]=X at*
    clear hX;have HN:=aZ hn;clear hn;rcases hes with⟨hl0,hw0,_,_,_,_⟩ |⟨a,b,hl0,hw0,_⟩
    ·have y1:=(uE HT.o X hl0).1;rw [hl0]at hft;have Kk:=aZ hft;clear hft hl0 hw0 JR;go_wp2_with fail
     go_round
     case rel=>exact⟨i+1,n,rfl,rfl,by omega,by rw [Kk.o];exact HN.o,by rw [Kk.o];rfl⟩
     case measure=>simp [intOf];omega
    ·obtain⟨g0,k0,y1,_,_⟩:=FN HT.o X [a,b] hl0;have H6:([a,b]:Bt).length=2:=rfl;rw [H6]at y1;rw [hl0]at hft;have Kk:=aZ hft;have hdz:decide (sD (s.take (i+1))≠0)=true:=by rw [decide_eq_true_eq,Kk.o];simp
     have HDZ:=aZ hdz;clear hft hl0 hw0 JR hdz;go_wp2_with fail
     go_round
     case rel=>exact⟨i+1,n+1,rfl,rfl,by omega,by rw [Kk.o,HN.o];simp;omega,by rw [HDZ.o]⟩
     case measure=>simp [intOf];omega
   ·obtain rfl:i=s.length:=by omega
    rw [List.take_length]at hn ⊢;by_cases hz:sD s=0
    ·have HE:=aZ (Hy s hz);rw [decide_eq_false (by simp [hz])];clear hne hns;go_wp2_with fail;go_ret;exact⟨by rw [HE.o];rfl,Below.refl _ _⟩
    ·rw [decide_eq_true (show sD s≠0 from hz)];have hnf:n=(s.flatMap jm).length:=by rw [JR.o];exact hn
     obtain⟨w1,hmk,⟨Qw,hcur,hcl⟩,hb1⟩:=Cw w n (by omega);have Qx:=aZ hnf;have Hz:=aZ hcur;have hB1:Below w.heap.size w w1:=hb1;obtain⟨bb,yY⟩:∃bb,bb=w.heap.size:=⟨_,rfl⟩
     have hbb:w.heap.size<=bb:=by rw [yY];exact Nat.le_refl _
     rw [<-yY]at Hz hmk;have Wy:=aZ yY;clear yY;have hnb:n<=2000000:=by omega
     clear hn hnf hcur hz;go_wp2_with fail;clear hmk hb1;go_loopw [13,14,15] (fun v13 v14 v15 wr=>∃(i j:Nat) (cur:List Value),v14=.int .i64 i∧v13=.int .i64 j∧i<=s.length∧j=((s.take i).flatMap jm).length∧wr.heap[bb]? =some (.cells cur.toArray 5 (0,0))∧cur.length=n∧cur.take j=bv ((s.take i).flatMap jm)∧Below w.heap.size w wr) (fun _ v14 _ _=>s.length - (intOf v14).toNat)
     case atStart=>exact⟨0,0,Qw,rfl,rfl,by omega,rfl,Hz.o,hcl,rfl,hB1⟩
     case round=>
      obtain⟨i,j,cur,rfl,rfl,hi,hj,hcur,hcn,htk,hbq⟩:=hrel;have kL:=aZ (HT.o.below hbq);by_cases hlt:i<s.length
      ·have hix:=gL s i hlt;have hft:=yX hlt;have hroom:=EJ s i hlt;rw [<-hj,<-Qx.o]at hroom;have hc256:((s[i]).toNat:Int)<256:=by have:=(s[i]).toNat_lt;omega
       have hes:=uX s[i];generalize hX:s[i]=X at*
       clear hX;have Kk:=aZ hft;have HJ:=aZ hj;have Cu:=aZ htk;have Qy:=aZ hcur;have Gw:=aZ hcn;clear hft hj htk;rcases hes with⟨hl0,hw0,_,_,_,_⟩ |⟨a,b,hl0,hw0,_⟩
       ·rw [hw0]at hroom;simp only [List.length_singleton]at hroom;have y1:=(uE kL.o X hl0).1;have hjn:j<n:=by omega
        have z1:wr.cell? ⟨bb,j,none⟩=some (cur[j]'(by omega)):=(cell_of_row _ _ _ _ _ (0,0) hcur).trans (by simp [hcn,hjn]);have z2:=bI hcur j;have hnew:=heap_setCell_same wr bb j _ _ (.int .u8 (X.toNat:Int)) hcur;rw [List.setIfInBounds_toArray]at hnew;have Qz:=aZ hnew;have hbn:=hbq.trans ((ak wr bb j (.int .u8 (X.toNat:Int))).below hbq.size (fun k hk h=>by omega));have htn:=qK (v:= .int .u8 (X.toNat:Int)) Cu.o (by omega);have xB:=aZ htn;have HW0:=aZ hw0;clear hnew htn hcur hw0 hl0 JR;generalize cur[j]=cj at*
        go_wp2_with fail
        go_roundw
        case rel=>exact⟨i+1,j+1,_,rfl,rfl,by omega,by rw [Kk.o,HW0.o,List.length_append,<-HJ.o];rfl,Qz.o,by rw [List.length_set];exact Gw.o,by rw [xB.o,Kk.o,HW0.o,qV];rfl,hbn⟩
        case measure=>simp [intOf];omega
       ·rw [hw0]at hroom;simp only [List.length_cons,List.length_nil]at hroom;obtain⟨g0,k0,y1,_,y3⟩:=FN kL.o X [a,b] hl0;have hjn:j<n:=by omega
        have acg:j<=n:=by omega
        have hnj:¬n=j:=by omega
        have hwj:IntKind.i64.wrap ((j:Int)+2)=(j:Int)+2:=by rw [GA];exact Eu (by unfold In64;omega)
        have O6:=aZ hbq;have H6:([a,b]:Bt).length=2:=rfl;rw [H6]at y1;have hS0:wr.drew.cell? ⟨bs,X.toNat,none⟩=some (.slice (some ⟨g0,0,none⟩) 2 k0):=y1;have hsrc:∀(q:Nat) v,[Value.int .u8 (a.toNat:Int),.int .u8 (b.toNat:Int)][q]? =some v->wr.drew.cell? ((⟨g0,0,none⟩:Addr).add q)=some v:=by
         intro q v hv;rw [jv,Nat.zero_add];rcases q with _ |_ |q
         ·exact(y3 0 (by simp)).trans hv
         ·exact(y3 1 (by simp)).trans hv
         ·simp at hv
        have hbd:Below w.heap.size w wr.drew:=hbq.trans (aH wr 1);have Wz:=aZ hsrc;have HW0:=aZ hw0;clear hsrc y3 hw0 hl0 JR hcur;go_wp2_with fail;refine wp_region_held_drew (S:=fun w'=>w'.cell? ⟨bs,X.toNat,none⟩=some (.slice (some ⟨g0,0,none⟩) 2 k0)) (by kernel_rfl) hS0 (fun _=>?_)
        try simp only [Act.put,sq]
        refine wpAnyH_take (i:=0) (v:=(.int .i64 j)) rfl (by kernel_rfl) (by kernel_rfl) (by kernel_rfl) (fun _ _ _ h=>h) (Or.inl ⟨by kernel_rfl,by intro w hSw;obtain eu:=hSw;go_simp⟩) hS0 ?_
        try simp only [Act.put,sq]
        refine wpAnyH_take (i:=1) (v:=(.slice (some ⟨bb,0,none⟩) n n)) rfl (by kernel_rfl) (by kernel_rfl) (by kernel_rfl) (fun _ _ _ h=>h) (Or.inl ⟨by kernel_rfl,by intro w hSw;obtain eu:=hSw;go_simp⟩) hS0 ?_
        try simp only [Act.put,sq]
        refine wpAnyH_take (i:=2) (v:=(.int .i64 j)) rfl (by kernel_rfl) (by kernel_rfl) (by kernel_rfl) (fun _ _ _ h=>h) (Or.inl ⟨by kernel_rfl,by intro w hSw;obtain eu:=hSw;go_simp⟩) hS0 ?_
        try simp only [Act.put,sq]
        refine wpAnyH_take (i:=3) (v:=(.slice (some ⟨bb,j,none⟩) (n - j) (n - j))) rfl (by kernel_rfl) (by kernel_rfl) (by kernel_rfl) (fun _ _ _ h=>h) (Or.inl ⟨by kernel_rfl,by intro w hSw;obtain eu:=hSw;go_simp⟩) hS0 ?_
        try simp only [Act.put,sq]
        refine wpAnyH_take (i:=4) (v:=(.pointer (some ⟨bs,0,none⟩))) rfl (by kernel_rfl) (by kernel_rfl) (by kernel_rfl) (fun _ _ _ h=>h) (Or.inl ⟨by kernel_rfl,by intro w hSw;obtain eu:=hSw;go_simp⟩) hS0 ?_
        try simp only [Act.put,sq]
        refine wpAnyH_take (i:=5) (v:=(.int .u8 (X.toNat:Int))) rfl (by kernel_rfl) (by kernel_rfl) (by kernel_rfl) (fun _ _ _ h=>h) (Or.inl ⟨by kernel_rfl,by intro w hSw;obtain eu:=hSw;go_simp⟩) hS0 ?_
        try simp only [Act.put,sq]
        refine wpAnyH_take (i:=6) (v:=(.pointer (some ⟨bs,0,none⟩))) rfl (by kernel_rfl) (by kernel_rfl) (by kernel_rfl) (fun _ _ _ h=>h) (Or.inl ⟨by kernel_rfl,by intro w hSw;obtain eu:=hSw;go_simp⟩) hS0 ?_
        try simp only [Act.put,sq]
        refine wpAnyH_take (i:=7) (v:=(.pointer (some ⟨bs,0,none⟩))) rfl (by kernel_rfl) (by kernel_rfl) (by kernel_rfl) (fun _ _ _ h=>h) (Or.inl ⟨by kernel_rfl,by intro w hSw;obtain eu:=hSw;go_simp⟩) hS0 ?_
        try simp only [Act.put,sq]
        refine wpAnyH_take (i:=8) (v:=(.pointer (some ⟨bs,X.toNat,none⟩))) rfl (by kernel_rfl) (by kernel_rfl) (by kernel_rfl) (fun _ _ _ h=>h) (Or.inl ⟨by kernel_rfl,by intro w hSw;obtain eu:=hSw;go_simp⟩) hS0 ?_
        try simp only [Act.put,sq]
        refine wpAnyH_take (i:=9) (v:=(.slice (some ⟨g0,0,none⟩) 2 k0)) rfl (by kernel_rfl) (by kernel_rfl) (by kernel_rfl) (fun _ _ _ h=>h) (Or.inl ⟨by kernel_rfl,by intro w hSw;obtain eu:=hSw;go_simp⟩) hS0 ?_
        try simp only [Act.put,sq]
        refine wpAnyH_ready (rs:=[10]) (by kernel_rfl) (by simp) ?_;refine AllReadyH.cons rfl (fun K hK=>?_) AllReadyH.nil;refine step_copy_splice rfl (.tmp 105) (.tmp 111) _ _ rfl 5 Tryz.underlying112 (by kernel_rfl) _ _ _ _ _ _ rfl rfl bb j cur 5 Qy.o [.int .u8 (a.toNat:Int),.int .u8 (b.toNat:Int)] (by show 2=min 2 (n - j);omega) (fun _=>⟨rfl,_,rfl,Wz.o⟩) (by rw [Gw.o];simp only [List.length_cons,List.length_nil];omega) (by intro v hv;simp at hv;rcases hv with rfl |rfl <;> rfl) w.heap.size w hbd hbb (fun w5 hw5 hb5=>?_);have hS1:w5.cell? ⟨bs,X.toNat,none⟩=some (.slice (some ⟨g0,0,none⟩) 2 k0):=by
         exact(hb5.cell (p:=⟨bs,X.toNat,none⟩) TR).trans ((O6.o.cell (p:=⟨bs,X.toNat,none⟩) TR).symm.trans y1)
        refine hK.out _ _ hS1 (fun _=>?_);clear hK K
        try simp only [Act.put,sq]
        refine wpAnyH_take (i:=11) (v:=(.int .i64 ((j:Int)+2))) rfl (by kernel_rfl) (by kernel_rfl) (by kernel_rfl) (fun _ _ _ h=>h) (Or.inl ⟨by kernel_rfl,by intro w hSw;obtain eu:=hSw;go_simp⟩) hS1 ?_
        try simp only [Act.put,sq]
        refine wpAnyH_take (i:=12) (v:=(.int .i64 ((j:Int)+2))) rfl (by kernel_rfl) (by kernel_rfl) (by kernel_rfl) (fun _ _ _ h=>h) (Or.inl ⟨by kernel_rfl,by intro w hSw;obtain eu:=hSw;go_simp⟩) hS1 ?_
        try simp only [Act.put,sq]
        refine wpAnyH_done (by kernel_rfl) ?_ _;have QA:=zV (cs:=[Value.int .u8 (a.toNat:Int),.int .u8 (b.toNat:Int)]) Cu.o (by rw [Gw.o];simp;omega);have WA:=aZ QA;clear QA;go_wp2_with fail
        go_roundw
        case rel=>exact⟨i+1,j+2,_,rfl,rfl,by omega,by rw [Kk.o,HW0.o,List.length_append,<-HJ.o];rfl,hw5.out,by rw [length_splice _ _ _ (by rw [Gw.o];simp;omega)];exact Gw.o,by rw [Kk.o,HW0.o,qV];exact WA.o,hb5⟩
        case measure=>simp [intOf];omega
      ·obtain rfl:i=s.length:=by omega
       rw [List.take_length]at hj htk;rw [<-Qx.o]at hj;subst hj;rw [List.take_of_length_le (by omega)]at htk;rw [htk]at hcur;have hcv:=mK (P:=Tryz.prog) (EI Qx.o hcur (by rw [<-Qx.o];unfold maxLen;omega)) 112 5 9 Tryz.underlying112 Tryz.underlying5 Tryz.underlying9;clear hcur htk hcn JR Qx;go_wp2_with fail;go_ret;exact⟨rfl,hbq⟩
theorem H7 (w:World)(b:Nat)(ov:Value)(s:Bt)(hR:wG w b 0 0 .nilIface ov)(hv:Ss w w.heap.size ov qh)(hd:∀g,ov.ownBlock=some g->g≠b)(hs:s.length<=1000000):
  Calls Tryz.prog 205 #[.pointer (some ⟨b,0,none⟩),sv s] w fun e w'=>e=.returned (sv (s.flatMap jm))∧Turn (fun k=>k=b) w w':=by
 have Mh:∀(fn:Fn) (first cap:Array Value) (w:World),(Instr.makeFunc fn first cap).run Tryz.prog w=.ok (.func fn first cap) w:=fun _ _ _ _=>rfl;have HO:=aZ (Qu w b ov hR hv hd);clear hR hv hd;go_enter Tryz.func205,Tryz.ntmps205;go_wp2_with fail;refine HO.o.mono ?_;rintro e w1 ⟨rfl,⟨bs,TN,hT1⟩,ht1⟩;obtain⟨⟨c0,c1,c3,c4⟩,fr⟩:=lU TN;clear HO;go_wp2_with fail;refine(TQ w1 _ bs s hT1 hs).mono ?_;rintro e w2 ⟨rfl,hb2⟩;have htn:=ht1.trans (Turn.of_below (F:=fun k=>k=b) hb2) (fun _ _ h=>h);go_wp2_with fail;go_ret;exact⟨rfl,htn⟩
theorem NP (w:World)(s:Bt)(hs:s.length<=1000000):Calls Tryz.prog 174 #[sv s] w fun e w'=>e=.returned (sv (mE s))∧Below w.heap.size w w':=by
 have hss:Ss (w.alloc (.cells (mW qh).toArray 9)) (w.alloc (.cells (mW qh).toArray 9)).heap.size (.slice (some ⟨w.heap.size,0,none⟩) 8 8) qh:=by
  have:=iB w (mW qh).toArray 9 1 8 (by simp [dV];rfl) (by decide);rw [World.size_alloc];simpa [Ss]using this
 have hb:Below w.heap.size w (w.alloc (.cells (mW qh).toArray 9)):=(Below.refl _ _).alloc (Nat.le_refl _) _;have hfl:(s.flatMap jm).length<=2*s.length:=by have h1:=FM s;have h2:=xM s;omega
 have hq:sv (mE s)=Value.string ((⟨#[34]⟩:ByteArray)++⟨(s.flatMap jm).toArray⟩++⟨#[34]⟩):=by
  rw [show(⟨#[34]⟩:ByteArray)=⟨([34]:Bt).toArray⟩from rfl,aF,aF];rfl
 rw [hq];clear hq;obtain⟨x,hx⟩:∃x,s.flatMap jm=x:=⟨_,rfl⟩
 have HR:=aZ (fun w b ov h1 h2 h3=>H7 w b ov s h1 h2 h3 hs);rw [hx]at HR hfl ⊢;clear hx;have hxs:=aT x;go_enter Tryz.func174,Tryz.ntmps174;go_wp2_with fail;generalize hw:w.alloc (.cells #[.string ⟨#[92]⟩,.string ⟨#[92,92]⟩,.string ⟨#[34]⟩,.string ⟨#[92,34]⟩,.string ⟨#[10]⟩,.string ⟨#[92,110]⟩,.string ⟨#[9]⟩,.string ⟨#[92,116]⟩] 9)=w1 at*
 have hw':w.alloc (.cells (mW qh).toArray 9)=w1:=hw;rw [hw']at hss hb;clear hw hw';refine(Kj w1 _ hss).mono ?_;rintro e w2 ⟨b,ov,rfl,hR,hv,hd,hbw,hb2⟩;go_wp2_with fail;refine(HR.o w2 b ov hR hv hd).mono ?_;rintro e w3 ⟨rfl,ht3⟩;have hfin:Below w.heap.size w w3:=(U6 hb hb2).trans (ht3.below (Nat.le_trans hb.size hb2.size) (fun k hk h=>by have:=hb.size;omega));go_wp2_with fail;go_ret;exact⟨rfl,hfin⟩
end Go.Proofs.YtfgjkmipfikooaaGreatDoor
