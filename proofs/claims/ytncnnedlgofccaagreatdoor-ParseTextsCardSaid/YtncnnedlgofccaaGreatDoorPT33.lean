/- GM -/
import Derived.Test.YtncnnedlgofccaaGreatDoorPT32
import Derived.Shelf.Strings.IndexFuncSpace
set_option linter.unusedSimpArgs false
set_option linter.unusedVariables false
set_option maxRecDepth 100000
set_option maxHeartbeats 2000000
namespace Go.Proofs.YtncnnedlgofccaaGreatDoor
open Go.RowKit
def okS (s:Bt):Bool:=s.all (fun c=> !(decide (c<32) && c != 9 && c != 10))
def zW (n:Nat):Bool:=decide (n<32) && n != 9 && n != 10
theorem Vt (s:ByteArray)(i:Nat)(h:(s.get! i).toNat<128):Utf8.decode s i=((s.get! i).toNat,1):=by
 unfold Utf8.decode;simp only [Nat.add_zero];rw [if_pos h]
theorem rT (s:ByteArray)(i k:Nat)(h:(decide (i+k<s.size) && (s.get! (i+k)).toNat / 64==2)=true):128<=(s.get! (i+k)).toNat:=by
 rw [Bool.and_eq_true,beq_iff_eq]at h;omega
theorem Qr (s:ByteArray)(i:Nat)(h:128<=(s.get! i).toNat):128<=(Utf8.decode s i).1∧∀j,j<(Utf8.decode s i).2->128<=(s.get! (i+j)).toNat:=by
 have h0:∀j,j<1->128<=(s.get! (i+j)).toNat:=by
  intro j hj;obtain rfl:j=0:=by omega
  exact h
 unfold Utf8.decode;simp only [Nat.add_zero];rw [if_neg (by omega)];split
 ·rename_i h1
  rw [Bool.and_eq_true]at h1;have a1:=rT s i 1 h1.2;split
  ·rename_i h2
   refine⟨h2,fun j hj=>?_⟩;have hj:j<2:=hj;obtain rfl |rfl:j=0∨j=1:=by omega
   ·exact h
   ·exact a1
  ·exact⟨by decide,h0⟩
 split
 ·rename_i h1
  rw [Bool.and_eq_true,Bool.and_eq_true]at h1;have a1:=rT s i 1 h1.1.2;have a2:=rT s i 2 h1.2;split
  ·rename_i h2
   rw [Bool.and_eq_true,decide_eq_true_eq]at h2;refine⟨by have:=h2.1;omega,fun j hj=>?_⟩;have hj:j<3:=hj;obtain rfl |rfl |rfl:j=0∨j=1∨j=2:=by omega
   ·exact h
   ·exact a1
   ·exact a2
  ·exact⟨by decide,h0⟩
 split
 ·rename_i h1
  rw [Bool.and_eq_true,Bool.and_eq_true,Bool.and_eq_true]at h1;have a1:=rT s i 1 h1.1.1.2;have a2:=rT s i 2 h1.1.2;have a3:=rT s i 3 h1.2;split
  ·rename_i h2
   rw [Bool.and_eq_true,decide_eq_true_eq]at h2;refine⟨by have:=h2.1;omega,fun j hj=>?_⟩;have hj:j<4:=hj;obtain rfl |rfl |rfl |rfl:j=0∨j=1∨j=2∨j=3:=by omega
   ·exact h
   ·exact a1
   ·exact a2
   ·exact a3
  ·exact⟨by decide,h0⟩
 ·exact⟨by decide,h0⟩
theorem get_at (s:Bt)(i:Nat)(h:i<s.length):((⟨s.toArray⟩:ByteArray).get! i)=s[i]:=by
 show s.toArray[i]! =s[i];rw [getElem!_pos s.toArray i (by simpa using h)];simp
theorem Qt (c:UInt8):zW c.toNat=(decide (c<32) && c != 9 && c != 10):=by
 have h1:(decide (c.toNat<32))=decide (c<32):=by
  rw [decide_eq_decide,UInt8.lt_iff_toNat_lt];rfl
 have h2:∀d:UInt8,(c.toNat != d.toNat)=(c != d):=by
  intro d;by_cases h:c=d
  ·subst h;simp
  ·have:c.toNat≠d.toNat:=fun e=>h (UInt8.toNat_inj.1 e);simp [bne,beq_eq_false_iff_ne.2 h,beq_eq_false_iff_ne.2 this]
 unfold zW;rw [h1,show(9:Nat)=(9:UInt8).toNat from rfl,show(10:Nat)=(10:UInt8).toNat from rfl,h2,h2]
def Jo (s:Bt)(p:Nat):Prop:=∀j,j<p->∀h:j<s.length,zW s[j].toNat=false
theorem XL {s:Bt}{p:Nat}(h:Jo s p)(hp:p<s.length)(hb:zW (Utf8.decode ⟨s.toArray⟩ p).1=false):Jo s (p+(Utf8.decode ⟨s.toArray⟩ p).2):=by
 intro j hj hl;rcases Nat.lt_or_ge j p with h1 |h1
 ·exact h j h1 hl
 ·rcases Nat.lt_or_ge ((⟨s.toArray⟩:ByteArray).get! p).toNat 128 with h2 |h2
  ·rw [Vt _ _ h2]at hj hb;have hj:j<p+1:=hj;obtain rfl:j=p:=by omega
   rw [get_at s j hl]at hb;exact hb
  ·have h3:=(Qr _ _ h2).2 (j - p) (by omega);rw [show p+(j - p)=j by omega,get_at s j hl]at h3;have:decide (s[j].toNat<32)=false:=decide_eq_false (by omega);unfold zW;rw [this];rfl
theorem adC {s:Bt}{p:Nat}(hp:p<s.length)(hb:zW (Utf8.decode ⟨s.toArray⟩ p).1=true):s.all (fun c=> !(decide (c<32) && c != 9 && c != 10))=false:=by
 rcases Nat.lt_or_ge ((⟨s.toArray⟩:ByteArray).get! p).toNat 128 with h2 |h2
 ·rw [Vt _ _ h2,get_at s p hp]at hb;cases ha:s.all (fun c=> !(decide (c<32) && c != 9 && c != 10))with
  |false=>rfl
  |true=>
   have:=List.all_eq_true.1 ha _ (List.getElem_mem hp);rw [<-Qt]at this;have hb:zW s[p].toNat=true:=hb;rw [hb]at this;cases this
 ·have h3:=(Qr _ _ h2).1;unfold zW at hb;rw [decide_eq_false (by omega)]at hb;cases hb
theorem adD {s:Bt}{p:Nat}(h:Jo s p)(hp:s.length<=p):s.all (fun c=> !(decide (c<32) && c != 9 && c != 10))=true:=by
 rw [List.all_eq_true];intro c hc;obtain⟨j,hj,rfl⟩:=List.getElem_of_mem hc;rw [<-Qt,h j (by omega) hj];rfl
theorem adE (R:Nat)(w:World)(h1:R<=1114111):Calls Tryz.prog 200 #[.int .i32 (R:Int)] w fun e w'=>e=.returned (.bool (zW R))∧w'=w:=by
 by_cases h32:R<32
 ·have g1:decide ((R:Int)<32)=true:=by simp;omega
  by_cases h9:R=9
  ·subst h9;go_enter Tryz.func200,Tryz.ntmps200;go_wp2_with fail;go_ret;exact⟨rfl,rfl⟩
  ·by_cases h10:R=10
   ·subst h10;go_enter Tryz.func200,Tryz.ntmps200;go_wp2_with fail;go_ret;exact⟨rfl,rfl⟩
   ·have g2:((R:Int) != 9)=true:=by rw [bne_iff_ne];omega
    have g3:((R:Int) != 10)=true:=by rw [bne_iff_ne];omega
    have HT:bq (zW R=true):=aO (by unfold zW;simp [h32,h9,h10]);rw [HT.o];clear h32 h9 h10 h1;go_enter Tryz.func200,Tryz.ntmps200;go_wp2_with fail;go_ret;exact⟨rfl,rfl⟩
 ·have g1:decide ((R:Int)<32)=false:=by simp;omega
  have HT:bq (zW R=false):=aO (by unfold zW;simp [h32]);rw [HT.o];clear h32 h1;go_enter Tryz.func200,Tryz.ntmps200;go_wp2_with fail;go_ret;exact⟨rfl,rfl⟩
def ajV (s:Bt)(w:World)(e:Ending)(w':World):Prop:=(∃k:Int,e=.returned (I k)∧(if okS s then k= -1 else 0<=k))∧Below w.heap.size w w'
set_option maxRecDepth 1000000 in
theorem MU (s:Bt)(w:World):
  Calls Tryz.prog 225 #[sv s,.func (.func 200) #[] #[],.bool true] w (ajV s w):=by
 have hsz:=cO s;obtain⟨bs,hbs⟩:∃bs:ByteArray,bs=⟨s.toArray⟩:=⟨_,rfl⟩
 have HBS:=aO hbs;rw [<-hbs]at hsz;show Calls Tryz.prog 225 #[.string ⟨s.toArray⟩,.func (.func 200) #[] #[],.bool true] w _;rw [<-hbs];clear hbs;go_enter Tryz.func225,Tryz.ntmps225;go_wp2_with fail
 go_loopg [] s.length (fun g wx=>∃pos:Nat,wx.heap[w.heap.size]? =some (.stringIter bs pos)∧Below w.heap.size w wx∧Jo s pos∧s.length<=pos+g)
 case atStart=>exact⟨0,World.iter_heap w bs 0,(Below.refl _ w).alloc (Nat.le_refl _) _,fun j hj=>by omega,by omega⟩
 case round=>
  obtain⟨pos,hit,hbw,hleft,hfu⟩:=hrel;have aDk:w.heap.size<wr.heap.size:=(Array.getElem?_eq_some_iff.1 hit).1;by_cases hp:pos<bs.size
  ·obtain⟨g,rfl⟩:∃g,gk=g+1:=⟨gk - 1,by omega⟩
   have hnx:∀ty,(Instr.next (pP w.heap.size 0) true ty).run Tryz.prog wr= _:=fun ty=>Lib.run_next_any_at wr w.heap.size bs pos ty hit hp;have hwd:=Lib.width_pos bs pos;have hr1:=Lib.rune_le bs pos;have hst:∀R K,Utf8.decode bs pos=(R,K)->(zW R=false->Jo s (pos+K))∧(zW R=true->okS s=false):=by
    intro R K h;rw [HBS.o]at h;have hps:pos<s.length:=by omega
    constructor
    ·intro hb;have:=XL hleft hps (by rw [h];exact hb);rw [h]at this;exact this
    ·intro hb;exact adC hps (by rw [h];exact hb)
   obtain⟨R,hR⟩:∃R,(Utf8.decode bs pos).1=R:=⟨_,rfl⟩
   obtain⟨K,hK⟩:∃K,(Utf8.decode bs pos).2=K:=⟨_,rfl⟩
   have hst:=hst R K (by rw [<-hR,<-hK]);rw [hR,hK]at hnx;rw [hR]at hr1;rw [hK]at hwd;have hit2:=Lib.iterAt_heap wr w.heap.size bs pos (pos+K) hit;have hbw2:=Lib.below_iterAt hbw (k:=w.heap.size) (Nat.le_refl _) bs (pos+K);obtain⟨W,hWd⟩:∃W,wr.iterAt w.heap.size bs (pos+K)=W:=⟨_,rfl⟩
   rw [hWd]at hnx hit2 hbw2;have HC:=aO (adE R W hr1);have HB2:=aO hbw2;have HIT:=aO hit2;cases hb:zW R with
   |true=>
    rw [hb]at HC;have HE:=aO (hst.2 hb);clear hst hb hR hK hleft;go_wp2_with fail;refine HC.o.mono ?_;rintro e w2 ⟨rfl,rfl⟩;go_wp2_with fail;go_ret;exact⟨⟨pos,rfl,by rw [HE.o];simp⟩,HB2.o⟩
   |false=>
    rw [hb]at HC;have HE:=aO (hst.1 hb);clear hst hb hR hK hleft;go_wp2_with fail;refine HC.o.mono ?_;rintro e w2 ⟨rfl,rfl⟩;go_wp2_with fail
    go_roundg g
    case measure=>omega
    case rel=>exact⟨pos+K,HIT.o,HB2.o,HE.o,by omega⟩
  ·have hnx:∀ty,(Instr.next (pP w.heap.size 0) true ty).run Tryz.prog wr= _:=fun ty=>Lib.run_next_end_at wr w.heap.size bs pos ty hit hp;have HE:bq (okS s=true):=aO (adD hleft (by omega));have HB:=aO hbw;clear hleft hbw;go_wp2_with fail;go_ret;exact⟨⟨-1,rfl,by rw [HE.o];simp⟩,HB.o⟩
theorem FV (s:Bt)(w:World):
  Calls Tryz.prog 199 #[sv s,.func (.func 200) #[] #[]] w fun e w'=>e=.returned (.bool (!okS s))∧Below w.heap.size w w':=by
 have HI:bq (∀w1,Calls Tryz.prog 213 #[sv s,.func (.func 200) #[] #[]] w1 (ajV s w1)):=aO (by
  intro w1;have HJ:=aO (MU s w1);go_enter Tryz.func213,Tryz.ntmps213;go_wp2_with fail;refine HJ.o.mono ?_;rintro e w2 ⟨⟨k,rfl,hk⟩,hbel⟩;have HK:=aO hk;clear hk;go_wp2_with fail;go_ret;exact⟨⟨k,rfl,HK.o⟩,hbel⟩)
 cases hb:okS s
 all_goals
  go_enter Tryz.func199,Tryz.ntmps199;go_wp2_with fail;refine(HI.o w).mono ?_;rintro e w2 ⟨⟨k,rfl,hk⟩,hbel⟩;rw [hb]at hk;simp only [Bool.false_eq_true,if_false,if_true]at hk;have HB:=aO hbel;clear hbel hb HI
 ·have hg:decide (0<=k)=true:=by simpa using hk
  go_wp2_with fail;go_ret;exact⟨rfl,HB.o⟩
 ·subst hk;go_wp2_with fail;go_ret;exact⟨rfl,HB.o⟩
theorem adF (s:Bt)(w:World)(hs:s.length<=maxLen):
  Calls Tryz.prog 172 #[sv s] w fun e w'=>e=.returned (.bool (Lp s))∧Below w.heap.size w w':=by
 have hsz:=cO s;unfold maxLen at hs;by_cases hl:s.length<=256
 ·have hg:decide ((s.length:Int)<=256)=true:=by simp;omega
  have HT:bq (Lp s=okS s):=aO (by unfold Lp okS;rw [decide_eq_true hl];rfl);rw [HT.o];have HC:=aO (FV s w);clear hl;generalize okS s=b at*
  go_enter Tryz.func172,Tryz.ntmps172;go_wp2_with fail;refine HC.o.mono ?_;rintro e w2 ⟨rfl,hb⟩;go_wp2_with fail;go_ret;cases b <;> exact⟨rfl,hb⟩
 ·have hg:decide ((s.length:Int)<=256)=false:=by simp;omega
  have HT:bq (Lp s=false):=aO (by unfold Lp;rw [decide_eq_false hl];rfl);rw [HT.o];clear hl;go_enter Tryz.func172,Tryz.ntmps172;go_wp2_with fail;go_ret;exact⟨rfl,Below.refl _ _⟩
def adG:Bt:=[111,114,32,97,110,100,32,60,32,60,61,32,61,61,32,43,43,32,43,32,45,32,94,32,42,32,47,32,37,32,38,32,60,60,32,62,62]
theorem SV:Lib.fields adG=opsL:=by kernel_rfl
theorem XM:(adG.all fun b=>decide (b.toNat<128))=true:=by kernel_rfl
theorem Qu:(⟨adG.toArray⟩:ByteArray).data.toList=adG:=rfl
theorem afO (w:World)(hL:mW w):Calls Tryz.prog 173 #[] w fun e w'=>∃v,e=.returned v∧Ss w' w'.heap.size v opsL∧Below w.heap.size w w':=by
 go_enter Tryz.func173,Tryz.ntmps173;go_wp2_with fail;refine(Tryz.strings_Fields ⟨adG.toArray⟩ _ ?h1 ?h2 hL.2).mono ?_
 case h1=>decide
 case h2=>
  intro j b hb;rw [Qu]at hb;exact of_decide_eq_true (List.all_eq_true.1 XM b (List.mem_of_getElem? hb))
 rintro e w1 ⟨rfl,rfl⟩;rw [Qu,SV];have hss:Ss (w.alloc (.cells (opsL.map fun l=>Value.string ⟨l.toArray⟩).toArray 9)) (w.alloc (.cells (opsL.map fun l=>Value.string ⟨l.toArray⟩).toArray 9)).heap.size (.slice (some ⟨w.heap.size,0,none⟩) opsL.length opsL.length) opsL:=by
  have:=iN w (opsL.map fun l=>Value.string ⟨l.toArray⟩).toArray 9 1 opsL.length (by simp);rw [World.size_alloc];simpa [Ss,qW]using this
 have hb:Below w.heap.size w (w.alloc (.cells (opsL.map fun l=>Value.string ⟨l.toArray⟩).toArray 9)):=o9 _ _;generalize(w.alloc (.cells (opsL.map fun l=>Value.string ⟨l.toArray⟩).toArray 9))=w2 at*
 generalize opsL.length=n at*
 go_wp2_with fail;go_ret;exact⟨_,rfl,hss,hb⟩
end Go.Proofs.YtncnnedlgofccaaGreatDoor
