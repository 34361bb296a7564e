import Derived.Test.YtnpaoepkpdileaaGreatDoorF21
import Derived.Test.YtnpaoepkpdileaaGreatDoorF13
set_option maxRecDepth 100000
set_option maxHeartbeats 64000000
set_option linter.all false
namespace Go.Proofs.YtnpaoepkpdileaaGreatDoor
open Go.RowKit
def bG (w:World) (B:Nat) (A:Option Addr) (L:List (Itm×aS)):Prop:=∀ k (hk:k < L.length),∃ ad:Addr,A=some ad∧ad.block < B∧∀ j,j < 13→w.cell? ((ad.add (k * 13)).add j)=(aG (L[k]'hk).1 (L[k]'hk).2)[j]?
theorem add_block (a:Addr) (n:Nat):(a.add n).block=a.block:=by unfold Addr.add;split <;> rfl
theorem bG.keep {w w' :World} {B B' :Nat} {A:Option Addr} {L:List (Itm×aS)} (h:bG w B A L) (hb:Below B' w w') (hB:B≤B'):bG w' B A L:=fun k hk=>by
 obtain ⟨ad,e,hl,hc⟩:=h k hk;exact ⟨ad,e,hl,fun j hj=>(hb.cell (by rw [add_block,add_block];omega)).trans (hc j hj)⟩
theorem bG.more {w:World} {B B' :Nat} {A:Option Addr} {L:List (Itm×aS)} (h:bG w B A L) (hB:B≤B'):bG w B' A L:=fun k hk=>by
 obtain ⟨ad,e,hl,hc⟩:=h k hk;exact ⟨ad,e,by omega,hc⟩
theorem bG.nil {w:World} {B:Nat} {A:Option Addr} :bG w B A []:=fun k hk=>by simp at hk
theorem lN {w:World} {a:Addr} {i:Itm} {r:aS} (h:∀ j,j < 13→w.cell? (a.add j)=(aG i r)[j]?):
  w.cell? a=some (.string r.gv)∧w.cell? ⟨a.block,a.off+1,none⟩=some (.string r.pa)∧w.cell? ⟨a.block,a.off+2,none⟩=some (.int .i64 r.dd)∧w.cell? ⟨a.block,a.off+3,none⟩=some (.int .i64 r.di)∧w.cell? ⟨a.block,a.off+4,none⟩=some (.string r.nm)∧w.cell? ⟨a.block,a.off+5,none⟩=some (.int .i64 i.dev)∧w.cell? ⟨a.block,a.off+6,none⟩=some (.int .i64 i.ino)∧w.cell? ⟨a.block,a.off+7,none⟩=some (.int .i64 r.ro)∧w.cell? ⟨a.block,a.off+8,none⟩=some (.int .i64 i.kind)∧w.cell? ⟨a.block,a.off+9,none⟩=some (.int .i64 r.mo)∧w.cell? ⟨a.block,a.off+10,none⟩=some (.int .i64 i.uid)∧w.cell? ⟨a.block,a.off+11,none⟩=some (.int .i64 i.gid)∧w.cell? ⟨a.block,a.off+12,none⟩=some (.int .i64 r.pe):=
 ⟨h 0 (by omega),h 1 (by omega),h 2 (by omega),h 3 (by omega),h 4 (by omega),h 5 (by omega),h 6 (by omega),h 7 (by omega),h 8 (by omega),h 9 (by omega),h 10 (by omega),h 11 (by omega),h 12 (by omega)⟩
def qy (fd op nu:Int) (tx:ByteArray) (ot:Int) (k:Nat):Bool:=(List.range k).any fun j=>aj fd op nu tx ot ((j:Int)+1) == 0
theorem om (fd op nu:Int) (tx:ByteArray) (ot:Int) (k:Nat):qy fd op nu tx ot (k+1)=(qy fd op nu tx ot k || (aj fd op nu tx ot ((k:Int)+1) == 0)):=by
 unfold qy;rw [List.range_succ,List.any_append];simp
theorem kD (fd op nu:Int) (tx:ByteArray) (ot:Int):qy fd op nu tx ot 5=bI fd op nu tx ot:=by
 unfold qy bI;simp [List.range_succ,deq,Bool.or_assoc]
def irZ:aS:=⟨⟨#[]⟩,⟨#[]⟩,0,0,⟨#[]⟩,0,0,0⟩
theorem jM {fd op nu:Int} {tx:ByteArray} {ot:Int} (h:bI fd op nu tx ot=true):(1≤fd∧fd≤22)∧(1≤op∧op≤8)∧(ot=0∨((1≤ot∧ot≤22)∧ot≠13∧ot≠14)):=by
 obtain ⟨l,hl⟩:=lK h;obtain ⟨c1,c2,c3,c4,c5,c6,c7⟩:=iJ hl;refine ⟨gz c1,c3,?_⟩;rcases c2 with c2 | c2
 · exact .inl c2
 · have:=mK (iw c2.2.2);exact .inr ⟨gz c2.1,this.1,this.2⟩
theorem CE (w:World) (fd op nu:Int) (tx:ByteArray) (ot:Int) (c:Ctx) (r:cZ) (it:Value):
  dH ((w.alloc (.cells (bO fd op nu tx ot) 55)).alloc (.cells (dR c r it) 36)) w.heap.size fd op nu tx ot∧
  cB ((w.alloc (.cells (bO fd op nu tx ot) 55)).alloc (.cells (dR c r it) 36)) (w.heap.size+1) c r it∧
  Below w.heap.size w ((w.alloc (.cells (bO fd op nu tx ot) 55)).alloc (.cells (dR c r it) 36))∧((w.alloc (.cells (bO fd op nu tx ot) 55)).alloc (.cells (dR c r it) 36)).heap.size=w.heap.size+1+1:=by
 refine ⟨(Blk.new w _ _).alloc _,?_,((Below.refl _ _).alloc (Nat.le_refl _) _).alloc (by simp) _,by simp⟩;have:=Blk.new (w.alloc (.cells (bO fd op nu tx ot) 55)) (dR c r it) 36;simpa using this
theorem uY {L:List (Itm×aS)} {p:Itm→Bool} (h:∀ j (hj:j < L.length),p (L[j]'hj).1=false):(L.map (·.1)).any p=false:=by
 rw [List.any_eq_false];intro x hx;obtain ⟨y,hy,rfl⟩:=List.mem_map.1 hx;obtain ⟨j,hj,rfl⟩:=List.getElem_of_mem hy;rw [h j hj];decide
theorem jB {L:List (Itm×aS)} {p:Itm→Bool} {j:Nat} (hj:j < L.length) (h:p (L[j]'hj).1=true):(L.map (·.1)).any p=true:=by
 rw [List.any_eq_true];exact ⟨_,List.mem_map.2 ⟨_,List.getElem_mem hj,rfl⟩,h⟩
theorem dC {P:Program} {ops:Array Oper} {rest:List Oper} {o:Oper} {a:Act} {w:World} {Q:Exit→Act→World→Prop} (hgd:Region.wanted o (yielded ops a.tmps)=true) (ty:TypeId) (x:Operand) (ho:o.op= .load ty x)
  {g:Nat} {t:TypeId} {cs:Array Value} (hg:Blk w g t cs) (hx:a.eval x= .pointer (some ⟨g,0,none⟩)) (d:TypeDesc)
  (hu:P.underlying ty=some d) (hd:(match d with | .struct _ | .array _ _=>true | _=>false)=true) (hi:(P.info? ty).map (·.size)=some cs.size)
  (h:wpList P ops Q rest (a.put o.dst (.agg cs)) w):wpList P ops Q (o :: rest) a w:=
 wpList_step fun K hK=>by simp only [hgd,if_true];exact wp_load_row ty x ho g hx t cs (0,0) d hg hu hd hi (hK _ _ h)
attribute [local irreducible] dR bD dx aj qy bI bA gW
theorem uZ (c:Ctx) (r:cZ) (A:Option Addr) (n cp:Nat) (L:List (Itm×aS)) (hn:n=L.length) (hlen:n≤1000000) (fd op nu:Int) (tx:ByteArray) (ot:Int) (hx:tx.size≤maxLen) (w:World) (hL:bG w w.heap.size A L):
  Calls Tryz.prog 8 #[kz fd op nu tx ot,rV c r (.slice A n cp)] w fun e w' =>e= .returned (.bool (gW c (L.map (·.1)) fd op nu tx ot))∧Below w.heap.size w w' :=by
 obtain ⟨hT,hC,hB,hS⟩:=CE w fd op nu tx ot c r (.slice A n cp);have HK:=Hd (fun l W=>uS fd op nu tx ot l hx W);have HLN:=Hd hn;have HE1:=Hd (show bI fd op nu tx ot=false→gW c (L.map (·.1)) fd op nu tx ot=false from fun h=>by unfold gW;rw [if_pos h]);have HE2:=Hd (show bI fd op nu tx ot=true→(dx fd=false∧dx ot=false)→gW c (L.map (·.1)) fd op nu tx ot=bA c fd op nu tx ot Itm.none from fun h k=>by unfold gW;rw [if_neg (by rw [h];decide),if_pos k]);have HE3:=Hd (show bI fd op nu tx ot=true→¬ (dx fd=false∧dx ot=false)→gW c (L.map (·.1)) fd op nu tx ot=(L.map (·.1)).any fun i=>eQ i && bA c fd op nu tx ot i from fun h k=>by unfold gW;rw [if_neg (by rw [h];decide),if_neg k]);have HT:=Hd hT;have HC:=Hd hC;have HB:=Hd hB;have HLI:=Hd hL;have HS:=Hd hS;clear hT hC hB hL hn hS;go_in;go_wp2_with fail;generalize (w.alloc (.cells (bO fd op nu tx ot) 55)).alloc (.cells (dR c r (.slice A n cp)) 36)=W at *;go_loopw [5,6] (fun b i wr=>∃ k:Nat,k≤5∧i= .int .i64 ((k:Int)+1)∧b= .bool (qy fd op nu tx ot k)∧Below W.heap.size W wr) (fun _ i _=>7 - (intOf i).toNat);case atStart=>exact ⟨0,by omega,rfl,by unfold qy;rfl,Below.refl _ _⟩
 case round=>
  obtain ⟨k,hk,rfl,rfl,hb⟩:=hrel;by_cases hlt:k < 5
  · have HA:=Hd (om fd op nu tx ot k);have HBR:=Hd hb;obtain ⟨q0,q1,q2,q3,q4⟩:=bY (HT.o.below hb);clear hb;cases hkn:qy fd op nu tx ot k
    · rw [hkn] at HA;clear hkn;go_wp2_with fail;refine (HK.o _ _).mono ?_;rintro e w1 ⟨rfl,hb1⟩;have HB1:=Hd (aa HBR.o hb1);clear hb1 q0 q1 q2 q3 q4;go_wp2_with fail;go_roundw;case rel=>exact ⟨k+1,by omega,by go_num,by rw [HA.o];simp,HB1.o⟩
      case measure=>simp [intOf];omega
    · rw [hkn] at HA;clear hkn;go_wp2_with fail;go_roundw;case rel=>exact ⟨k+1,by omega,by go_num,by rw [HA.o];simp,HBR.o⟩
      case measure=>simp [intOf];omega
  · have hk5:k=5:=(by omega);subst hk5;rw [kD];have hT1:dH wr w.heap.size fd op nu tx ot:=HT.o.below hb;have hC1:cB wr (w.heap.size+1) c r (.slice A n cp):=HC.o.below hb;have Hw:=Hd (bG.keep (HLI.o.keep HB.o (Nat.le_refl _)) hb (by have:=HB.o.size;omega));have hbw:=HB.o.trans (hb.mono HB.o.size);have HBW:=Hd hbw;have HT1:=Hd hT1;have HC1:=Hd hC1;clear hb hbw HT HC HLI HK hk hlt;cases hs:bI fd op nu tx ot
    · have HF:=Hd (HE1.o hs);clear hs hT1 hC1;go_wp2_with fail;go_ret;exact ⟨bR HF.o.symm,HBW.o⟩
    · obtain ⟨rf,ro,rt⟩:=jM hs;have HV:=Hd (fun i ir W=>zV c r (.slice A n cp) fd op nu tx ot i ir rf ro rt W);have HI1:=Hd (fun W=>yD fd W);have HI2:=Hd (fun W=>yD ot W);have HSO:=Hd hs;have q0:=hT1.c0;have q4:=hT1.c4;have qi:=hC1.items;clear rf ro rt hs hT1 hC1;go_wp2_with fail;refine (HI1.o _).mono ?_;rintro e w1 ⟨rfl,rfl⟩;cases hf:dx fd
      · cases ht:dx ot
        · have HF:=Hd (HE2.o HSO.o ⟨hf,ht⟩);rw [ht] at HI2;clear hf ht;go_wp2_with fail;refine (HI2.o _).mono ?_;rintro e w1 ⟨rfl,rfl⟩;obtain ⟨k0,k1,k2,k3,k4⟩:=bY HT1.o;go_wp2_with (((with_reducible refine ax ?_ 36 (.tmp 3) ?_ HC1.o ?_ _ Tryz.underlying36 ?_ ?_ ?_);(iterate 4 rfl);exact dY _ _ _));refine (HV.o Itm.none irZ _).mono ?_;rintro e w2 ⟨rfl,hb2⟩;have HB2:=Hd (HBW.o.trans (hb2.mono HBW.o.size));go_wp2_with fail;go_ret;exact ⟨bR HF.o.symm,HB2.o⟩
        · have HF:=Hd (HE3.o HSO.o (fun h=>by rw [ht] at h;cases h.2));rw [ht] at HI2;clear hf ht;go_wp2_with fail;refine (HI2.o _).mono ?_;rintro e w1 ⟨rfl,rfl⟩;go_wp2_with fail;go_loopw [39] (fun i wr' =>∃ k:Nat,k≤L.length∧i= .int .i64 (k:Int)∧Hid (∀ j (hj:j < L.length),j < k→(eQ (L[j]'hj).1 && bA c fd op nu tx ot (L[j]'hj).1)=false)∧Below wr.heap.size wr wr') (fun i _=>L.length - (intOf i).toNat);case atStart=>exact ⟨0,Nat.zero_le _,rfl,fun j _ hj=>by omega,Below.refl _ _⟩
          case round=>
            obtain ⟨k,hk,rfl,hno,hb⟩:=hrel;have HBR:=Hd (HBW.o.trans (hb.mono HBW.o.size));have hln:n=L.length:=HLN.o;subst hln;by_cases hlt:k < L.length
            · obtain ⟨ad,e,Bh,hcl⟩:=(Hw.o.keep hb HBW.o.size) k hlt;cases e;obtain ⟨i0,i1,i2,i3,i4,i5,i6,i7,i8,i9,i10,i11,i12⟩:=lN hcl;have HTR:=Hd (show dH wr w.heap.size fd op nu tx ot from HT1.o.below hb);have HCR:=Hd (show cB wr (w.heap.size+1) c r _ from HC1.o.below hb);have HOLD:=Hd hb;clear hcl hb q0 q4 qi;generalize hy:L[k]'hlt=y at *;have HY:=Hd hy;clear hy;obtain ⟨⟨dev,ino,uid,gid,kind⟩,⟨gv,pa,dd,di,nm,ro,mo,pe⟩⟩:=y;simp only at i0 i1 i2 i3 i4 i5 i6 i7 i8 i9 i10 i11 i12;by_cases hd:dev=0
              · subst hd;by_cases hi:ino=0
                · subst hi;have HAL:=Hd (HBR.o.trans (((Below.refl wr.heap.size wr).alloc (Nat.le_refl _) (.cells (aG ⟨0,0,uid,gid,kind⟩ ⟨gv,pa,dd,di,nm,ro,mo,pe⟩) 77)).mono HBR.o.size));have HB6:=Hd (HOLD.o.trans (((Below.refl wr.heap.size wr).alloc (Nat.le_refl _) (.cells (aG ⟨0,0,uid,gid,kind⟩ ⟨gv,pa,dd,di,nm,ro,mo,pe⟩) 77)).mono HOLD.o.size));have HN:=Hd (show ∀ j (hj:j < L.length),j < k+1→(eQ (L[j]'hj).1 && bA c fd op nu tx ot (L[j]'hj).1)=false from fun j hj hjk=>by
                    by_cases e:j=k
                    · subst e;rw [HY.o];rfl
                    · exact hno.o j hj (by omega))
                  unfold aG at *;go_wp2_with fail;go_roundw;case rel=>exact ⟨k+1,by omega,by go_num,HN,HB6.o⟩
                  case measure=>simp [intOf];omega
                · have hib:(ino == 0)=false:=(by simpa using hi);have hal:Below wr.heap.size wr (wr.alloc (.cells (aG ⟨0,ino,uid,gid,kind⟩ ⟨gv,pa,dd,di,nm,ro,mo,pe⟩) 77)):=(Below.refl _ _).alloc (Nat.le_refl _) _;obtain ⟨t0,t1,t2,t3,t4⟩:=bY (HTR.o.below hal);have HC2:=Hd (show cB _ (w.heap.size+1) c r _ from HCR.o.below hal);have HAL:=Hd (HBR.o.trans (hal.mono HBR.o.size));have HV1:=Hd (HV.o ⟨0,ino,uid,gid,kind⟩ ⟨gv,pa,dd,di,nm,ro,mo,pe⟩ (wr.alloc (.cells (aG ⟨0,ino,uid,gid,kind⟩ ⟨gv,pa,dd,di,nm,ro,mo,pe⟩) 77)));clear hal;unfold aG at *;go_wp2_with (((with_reducible refine dC ?_ 36 (.tmp 3) ?_ HC2.o ?_ _ Tryz.underlying36 ?_ ?_ ?_);(iterate 4 rfl);exact dY _ _ _));refine HV1.o.mono ?_;rintro e w5 ⟨rfl,hb5⟩;have HB5:=Hd (HAL.o.trans (hb5.mono HAL.o.size));have HB6:=Hd (show Below _ _ w5 from HOLD.o.trans (((Below.refl _ _).alloc (Nat.le_refl _) _).mono HOLD.o.size |>.trans (hb5.mono (by have:=HOLD.o.size;simp at this ⊢;omega))));clear hb5 t0 t1 t2 t3 t4;cases hh:bA c fd op nu tx ot ⟨0,ino,uid,gid,kind⟩
                  · have HN:=Hd (show ∀ j (hj:j < L.length),j < k+1→(eQ (L[j]'hj).1 && bA c fd op nu tx ot (L[j]'hj).1)=false from fun j hj hjk=>by
                      by_cases e:j=k
                      · subst e;rw [HY.o,hh];simp
                      · exact hno.o j hj (by omega))
                    clear hh;go_wp2_with fail;go_roundw;case rel=>exact ⟨k+1,by omega,by go_num,HN,HB6.o⟩
                    case measure=>simp [intOf];omega
                  · have ve:=Hd (HF.o.trans (jB hlt (by rw [HY.o,hh];unfold eQ;simp [hi])));clear hh;go_wp2_with fail;go_ret;exact ⟨bR ve.o.symm,HB5.o⟩
              · have hdb:(dev == 0)=false:=(by simpa using hd);have hal:Below wr.heap.size wr (wr.alloc (.cells (aG ⟨dev,ino,uid,gid,kind⟩ ⟨gv,pa,dd,di,nm,ro,mo,pe⟩) 77)):=(Below.refl _ _).alloc (Nat.le_refl _) _;obtain ⟨t0,t1,t2,t3,t4⟩:=bY (HTR.o.below hal);have HC2:=Hd (show cB _ (w.heap.size+1) c r _ from HCR.o.below hal);have HAL:=Hd (HBR.o.trans (hal.mono HBR.o.size));have HV1:=Hd (HV.o ⟨dev,ino,uid,gid,kind⟩ ⟨gv,pa,dd,di,nm,ro,mo,pe⟩ (wr.alloc (.cells (aG ⟨dev,ino,uid,gid,kind⟩ ⟨gv,pa,dd,di,nm,ro,mo,pe⟩) 77)));clear hal;unfold aG at *;go_wp2_with (((with_reducible refine dC ?_ 36 (.tmp 3) ?_ HC2.o ?_ _ Tryz.underlying36 ?_ ?_ ?_);(iterate 4 rfl);exact dY _ _ _));refine HV1.o.mono ?_;rintro e w5 ⟨rfl,hb5⟩;have HB5:=Hd (HAL.o.trans (hb5.mono HAL.o.size));have HB6:=Hd (show Below _ _ w5 from HOLD.o.trans (((Below.refl _ _).alloc (Nat.le_refl _) _).mono HOLD.o.size |>.trans (hb5.mono (by have:=HOLD.o.size;simp at this ⊢;omega))));clear hb5 t0 t1 t2 t3 t4;cases hh:bA c fd op nu tx ot ⟨dev,ino,uid,gid,kind⟩
                · have HN:=Hd (show ∀ j (hj:j < L.length),j < k+1→(eQ (L[j]'hj).1 && bA c fd op nu tx ot (L[j]'hj).1)=false from fun j hj hjk=>by
                    by_cases e:j=k
                    · subst e;rw [HY.o,hh];simp
                    · exact hno.o j hj (by omega))
                  clear hh;go_wp2_with fail;go_roundw;case rel=>exact ⟨k+1,by omega,by go_num,HN,HB6.o⟩
                  case measure=>simp [intOf];omega
                · have ve:=Hd (HF.o.trans (jB hlt (by rw [HY.o,hh];unfold eQ;simp [hd])));clear hh;go_wp2_with fail;go_ret;exact ⟨bR ve.o.symm,HB5.o⟩
            · have HNO:=Hd (HF.o.trans (uY fun j hj=>hno.o j hj (by omega)));clear hb q0 q4 qi;go_wp2_with fail;go_ret;exact ⟨bR HNO.o.symm,HBR.o⟩
      · have HF:=Hd (HE3.o HSO.o (fun h=>by rw [hf] at h;cases h.1));clear hf;go_wp2_with fail;go_loopw [39] (fun i wr' =>∃ k:Nat,k≤L.length∧i= .int .i64 (k:Int)∧Hid (∀ j (hj:j < L.length),j < k→(eQ (L[j]'hj).1 && bA c fd op nu tx ot (L[j]'hj).1)=false)∧Below wr.heap.size wr wr') (fun i _=>L.length - (intOf i).toNat);case atStart=>exact ⟨0,Nat.zero_le _,rfl,fun j _ hj=>by omega,Below.refl _ _⟩
        case round=>
          obtain ⟨k,hk,rfl,hno,hb⟩:=hrel;have HBR:=Hd (HBW.o.trans (hb.mono HBW.o.size));have hln:n=L.length:=HLN.o;subst hln;by_cases hlt:k < L.length
          · obtain ⟨ad,e,Bh,hcl⟩:=(Hw.o.keep hb HBW.o.size) k hlt;cases e;obtain ⟨i0,i1,i2,i3,i4,i5,i6,i7,i8,i9,i10,i11,i12⟩:=lN hcl;have HTR:=Hd (show dH wr w.heap.size fd op nu tx ot from HT1.o.below hb);have HCR:=Hd (show cB wr (w.heap.size+1) c r _ from HC1.o.below hb);have HOLD:=Hd hb;clear hcl hb q0 q4 qi;generalize hy:L[k]'hlt=y at *;have HY:=Hd hy;clear hy;obtain ⟨⟨dev,ino,uid,gid,kind⟩,⟨gv,pa,dd,di,nm,ro,mo,pe⟩⟩:=y;simp only at i0 i1 i2 i3 i4 i5 i6 i7 i8 i9 i10 i11 i12;by_cases hd:dev=0
            · subst hd;by_cases hi:ino=0
              · subst hi;have HAL:=Hd (HBR.o.trans (((Below.refl wr.heap.size wr).alloc (Nat.le_refl _) (.cells (aG ⟨0,0,uid,gid,kind⟩ ⟨gv,pa,dd,di,nm,ro,mo,pe⟩) 77)).mono HBR.o.size));have HB6:=Hd (HOLD.o.trans (((Below.refl wr.heap.size wr).alloc (Nat.le_refl _) (.cells (aG ⟨0,0,uid,gid,kind⟩ ⟨gv,pa,dd,di,nm,ro,mo,pe⟩) 77)).mono HOLD.o.size));have HN:=Hd (show ∀ j (hj:j < L.length),j < k+1→(eQ (L[j]'hj).1 && bA c fd op nu tx ot (L[j]'hj).1)=false from fun j hj hjk=>by
                  by_cases e:j=k
                  · subst e;rw [HY.o];rfl
                  · exact hno.o j hj (by omega))
                unfold aG at *;go_wp2_with fail;go_roundw;case rel=>exact ⟨k+1,by omega,by go_num,HN,HB6.o⟩
                case measure=>simp [intOf];omega
              · have hib:(ino == 0)=false:=(by simpa using hi);have hal:Below wr.heap.size wr (wr.alloc (.cells (aG ⟨0,ino,uid,gid,kind⟩ ⟨gv,pa,dd,di,nm,ro,mo,pe⟩) 77)):=(Below.refl _ _).alloc (Nat.le_refl _) _;obtain ⟨t0,t1,t2,t3,t4⟩:=bY (HTR.o.below hal);have HC2:=Hd (show cB _ (w.heap.size+1) c r _ from HCR.o.below hal);have HAL:=Hd (HBR.o.trans (hal.mono HBR.o.size));have HV1:=Hd (HV.o ⟨0,ino,uid,gid,kind⟩ ⟨gv,pa,dd,di,nm,ro,mo,pe⟩ (wr.alloc (.cells (aG ⟨0,ino,uid,gid,kind⟩ ⟨gv,pa,dd,di,nm,ro,mo,pe⟩) 77)));clear hal;unfold aG at *;go_wp2_with (((with_reducible refine dC ?_ 36 (.tmp 3) ?_ HC2.o ?_ _ Tryz.underlying36 ?_ ?_ ?_);(iterate 4 rfl);exact dY _ _ _));refine HV1.o.mono ?_;rintro e w5 ⟨rfl,hb5⟩;have HB5:=Hd (HAL.o.trans (hb5.mono HAL.o.size));have HB6:=Hd (show Below _ _ w5 from HOLD.o.trans (((Below.refl _ _).alloc (Nat.le_refl _) _).mono HOLD.o.size |>.trans (hb5.mono (by have:=HOLD.o.size;simp at this ⊢;omega))));clear hb5 t0 t1 t2 t3 t4;cases hh:bA c fd op nu tx ot ⟨0,ino,uid,gid,kind⟩
                · have HN:=Hd (show ∀ j (hj:j < L.length),j < k+1→(eQ (L[j]'hj).1 && bA c fd op nu tx ot (L[j]'hj).1)=false from fun j hj hjk=>by
                    by_cases e:j=k
                    · subst e;rw [HY.o,hh];simp
                    · exact hno.o j hj (by omega))
                  clear hh;go_wp2_with fail;go_roundw;case rel=>exact ⟨k+1,by omega,by go_num,HN,HB6.o⟩
                  case measure=>simp [intOf];omega
                · have ve:=Hd (HF.o.trans (jB hlt (by rw [HY.o,hh];unfold eQ;simp [hi])));clear hh;go_wp2_with fail;go_ret;exact ⟨bR ve.o.symm,HB5.o⟩
            · have hdb:(dev == 0)=false:=(by simpa using hd);have hal:Below wr.heap.size wr (wr.alloc (.cells (aG ⟨dev,ino,uid,gid,kind⟩ ⟨gv,pa,dd,di,nm,ro,mo,pe⟩) 77)):=(Below.refl _ _).alloc (Nat.le_refl _) _;obtain ⟨t0,t1,t2,t3,t4⟩:=bY (HTR.o.below hal);have HC2:=Hd (show cB _ (w.heap.size+1) c r _ from HCR.o.below hal);have HAL:=Hd (HBR.o.trans (hal.mono HBR.o.size));have HV1:=Hd (HV.o ⟨dev,ino,uid,gid,kind⟩ ⟨gv,pa,dd,di,nm,ro,mo,pe⟩ (wr.alloc (.cells (aG ⟨dev,ino,uid,gid,kind⟩ ⟨gv,pa,dd,di,nm,ro,mo,pe⟩) 77)));clear hal;unfold aG at *;go_wp2_with (((with_reducible refine dC ?_ 36 (.tmp 3) ?_ HC2.o ?_ _ Tryz.underlying36 ?_ ?_ ?_);(iterate 4 rfl);exact dY _ _ _));refine HV1.o.mono ?_;rintro e w5 ⟨rfl,hb5⟩;have HB5:=Hd (HAL.o.trans (hb5.mono HAL.o.size));have HB6:=Hd (show Below _ _ w5 from HOLD.o.trans (((Below.refl _ _).alloc (Nat.le_refl _) _).mono HOLD.o.size |>.trans (hb5.mono (by have:=HOLD.o.size;simp at this ⊢;omega))));clear hb5 t0 t1 t2 t3 t4;cases hh:bA c fd op nu tx ot ⟨dev,ino,uid,gid,kind⟩
              · have HN:=Hd (show ∀ j (hj:j < L.length),j < k+1→(eQ (L[j]'hj).1 && bA c fd op nu tx ot (L[j]'hj).1)=false from fun j hj hjk=>by
                  by_cases e:j=k
                  · subst e;rw [HY.o,hh];simp
                  · exact hno.o j hj (by omega))
                clear hh;go_wp2_with fail;go_roundw;case rel=>exact ⟨k+1,by omega,by go_num,HN,HB6.o⟩
                case measure=>simp [intOf];omega
              · have ve:=Hd (HF.o.trans (jB hlt (by rw [HY.o,hh];unfold eQ;simp [hd])));clear hh;go_wp2_with fail;go_ret;exact ⟨bR ve.o.symm,HB5.o⟩
          · have HNO:=Hd (HF.o.trans (uY fun j hj=>hno.o j hj (by omega)));clear hb q0 q4 qi;go_wp2_with fail;go_ret;exact ⟨bR HNO.o.symm,HBR.o⟩
end Go.Proofs.YtnpaoepkpdileaaGreatDoor
namespace Go.Proofs.YtnpaoepkpdileaaGreatDoor
open Go.RowKit
abbrev ry:Array Value:=#[.string ⟨#[]⟩, .string ⟨#[]⟩, .int .i64 0, .int .i64 0, .string ⟨#[]⟩, .int .i64 0, .int .i64 0, .int .i64 0, .int .i64 0, .int .i64 0, .int .i64 0, .int .i64 0, .int .i64 0]
theorem mM (i:Itm) (r:aS):(aG i r).all (·.oneCell')=true:=by simp [aG,Value.oneCell']
section
variable {w wr w' :World} {base g gc:Nat} {b b' :Int} {i:Itm} {r:aS}
end
attribute [local irreducible] aG
end Go.Proofs.YtnpaoepkpdileaaGreatDoor
