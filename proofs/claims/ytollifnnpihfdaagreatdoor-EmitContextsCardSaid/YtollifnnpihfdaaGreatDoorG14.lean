import Derived.Test.YtollifnnpihfdaaGreatDoorG13
set_option maxRecDepth 100000
set_option maxHeartbeats 64000000
set_option linter.all false
namespace Go.Proofs.YtollifnnpihfdaaGreatDoor
open Go.RowKit
def aU (w:World) (B:Nat) (A:Option Addr) (L:List (Itm×aD)):Prop:=∀ k (hk:k < L.length),∃ ad:Addr,A=some ad∧ad.block < B∧∀ j,j < 13→w.cell? ((ad.add (k * 13)).add j)=(az (L[k]'hk).1 (L[k]'hk).2)[j]?
theorem add_block (a:Addr) (n:Nat):(a.add n).block=a.block:=by unfold Addr.add;split <;> rfl
theorem aU.keep {w w' :World} {B B' :Nat} {A:Option Addr} {L:List (Itm×aD)} (h:aU w B A L) (hb:Below B' w w') (hB:B≤B'):aU w' B A L:=fun k hk=>by
 obtain ⟨ad,e,hl,hc⟩:=h k hk;exact ⟨ad,e,hl,fun j hj=>(hb.cell (by rw [add_block,add_block];omega)).trans (hc j hj)⟩
theorem aU.more {w:World} {B B' :Nat} {A:Option Addr} {L:List (Itm×aD)} (h:aU w B A L) (hB:B≤B'):aU w B' A L:=fun k hk=>by
 obtain ⟨ad,e,hl,hc⟩:=h k hk;exact ⟨ad,e,by omega,hc⟩
theorem aU.nil {w:World} {B:Nat} {A:Option Addr} :aU w B A []:=fun k hk=>by simp at hk
theorem oo {w:World} {a:Addr} {i:Itm} {r:aD} (h:∀ j,j < 13→w.cell? (a.add j)=(az i r)[j]?):
  w.cell? a=some (.string r.gv)∧w.cell? ⟨a.block,a.off+1,none⟩=some (.string r.pa)∧w.cell? ⟨a.block,a.off+2,none⟩=some (.int .i64 r.dd)∧w.cell? ⟨a.block,a.off+3,none⟩=some (.int .i64 r.di)∧w.cell? ⟨a.block,a.off+4,none⟩=some (.string r.nm)∧w.cell? ⟨a.block,a.off+5,none⟩=some (.int .i64 i.dev)∧w.cell? ⟨a.block,a.off+6,none⟩=some (.int .i64 i.ino)∧w.cell? ⟨a.block,a.off+7,none⟩=some (.int .i64 r.ro)∧w.cell? ⟨a.block,a.off+8,none⟩=some (.int .i64 i.kind)∧w.cell? ⟨a.block,a.off+9,none⟩=some (.int .i64 r.mo)∧w.cell? ⟨a.block,a.off+10,none⟩=some (.int .i64 i.uid)∧w.cell? ⟨a.block,a.off+11,none⟩=some (.int .i64 i.gid)∧w.cell? ⟨a.block,a.off+12,none⟩=some (.int .i64 r.pe):=
 ⟨h 0 (by omega),h 1 (by omega),h 2 (by omega),h 3 (by omega),h 4 (by omega),h 5 (by omega),h 6 (by omega),h 7 (by omega),h 8 (by omega),h 9 (by omega),h 10 (by omega),h 11 (by omega),h 12 (by omega)⟩
def vY (fd op nu:Int) (tx:ByteArray) (ot:Int) (k:Nat):Bool:=(List.range k).any fun j=>ai fd op nu tx ot ((j:Int)+1) == 0
theorem rQ (fd op nu:Int) (tx:ByteArray) (ot:Int) (k:Nat):vY fd op nu tx ot (k+1)=(vY fd op nu tx ot k || (ai fd op nu tx ot ((k:Int)+1) == 0)):=by
 unfold vY;rw [List.range_succ,List.any_append];simp
theorem mJ (fd op nu:Int) (tx:ByteArray) (ot:Int):vY fd op nu tx ot 5=bU fd op nu tx ot:=by
 unfold vY bU;simp [List.range_succ,deq,Bool.or_assoc]
def irZ:aD:=⟨⟨#[]⟩,⟨#[]⟩,0,0,⟨#[]⟩,0,0,0⟩
theorem lC {fd op nu:Int} {tx:ByteArray} {ot:Int} (h:bU fd op nu tx ot=true):(1≤fd∧fd≤22)∧(1≤op∧op≤8)∧(ot=0∨((1≤ot∧ot≤22)∧ot≠13∧ot≠14)):=by
 obtain ⟨l,hl⟩:=og h;obtain ⟨c1,c2,c3,c4,c5,c6,c7⟩:=mH hl;refine ⟨mG c1,c3,?_⟩;rcases c2 with c2 | c2
 · exact .inl c2
 · have:=pR (jk c2.2.2);exact .inr ⟨mG c2.1,this.1,this.2⟩
theorem JG (w:World) (fd op nu:Int) (tx:ByteArray) (ot:Int) (c:Ctx) (r:aN) (it:Value):
  dW ((w.alloc (.cells (bP fd op nu tx ot) 85)).alloc (.cells (aV c r it) 54)) w.heap.size fd op nu tx ot∧
  aR ((w.alloc (.cells (bP fd op nu tx ot) 85)).alloc (.cells (aV c r it) 54)) (w.heap.size+1) c r it∧
  Below w.heap.size w ((w.alloc (.cells (bP fd op nu tx ot) 85)).alloc (.cells (aV c r it) 54))∧((w.alloc (.cells (bP fd op nu tx ot) 85)).alloc (.cells (aV c r it) 54)).heap.size=w.heap.size+1+1:=by
 refine ⟨(Blk.new w _ _).alloc _,?_,((Below.refl _ _).alloc (Nat.le_refl _) _).alloc (by simp) _,by simp⟩;have:=Blk.new (w.alloc (.cells (bP fd op nu tx ot) 85)) (aV c r it) 54;simpa using this
theorem zh {L:List (Itm×aD)} {p:Itm→Bool} (h:∀ j (hj:j < L.length),p (L[j]'hj).1=false):(L.map (·.1)).any p=false:=by
 rw [List.any_eq_false];intro x hx;obtain ⟨y,hy,rfl⟩:=List.mem_map.1 hx;obtain ⟨j,hj,rfl⟩:=List.getElem_of_mem hy;rw [h j hj];decide
theorem kJ {L:List (Itm×aD)} {p:Itm→Bool} {j:Nat} (hj:j < L.length) (h:p (L[j]'hj).1=true):(L.map (·.1)).any p=true:=by
 rw [List.any_eq_true];exact ⟨_,List.mem_map.2 ⟨_,List.getElem_mem hj,rfl⟩,h⟩
theorem gm {P:Program} {ops:Array Oper} {rest:List Oper} {o:Oper} {a:Act} {w:World} {Q:Exit→Act→World→Prop} (hgd:Region.wanted o (yielded ops a.tmps)=true) (ty:TypeId) (x:Operand) (ho:o.op= .load ty x)
  {g:Nat} {t:TypeId} {cs:Array Value} (hg:Blk w g t cs) (hx:a.eval x= .pointer (some ⟨g,0,none⟩)) (d:TypeDesc)
  (hu:P.underlying ty=some d) (hd:(match d with | .struct _ | .array _ _=>true | _=>false)=true) (hi:(P.info? ty).map (·.size)=some cs.size)
  (h:wpList P ops Q rest (a.put o.dst (.agg cs)) w):wpList P ops Q (o :: rest) a w:=
 wpList_step fun K hK=>by simp only [hgd,if_true];exact wp_load_row ty x ho g hx t cs (0,0) d hg hu hd hi (hK _ _ h)
attribute [local irreducible] aV bI dA ai vY bU bC jZ
theorem JH (c:Ctx) (r:aN) (A:Option Addr) (n cp:Nat) (L:List (Itm×aD)) (hn:n=L.length) (hlen:n≤1000000) (fd op nu:Int) (tx:ByteArray) (ot:Int) (hx:tx.size≤maxLen) (w:World) (hL:aU w w.heap.size A L):
  Calls Tryz.prog 258 #[nL fd op nu tx ot,rq c r (.slice A n cp)] w fun e w' =>e= .returned (.bool (jZ c (L.map (·.1)) fd op nu tx ot))∧Below w.heap.size w w' :=by
 obtain ⟨hT,hC,hB,hS⟩:=JG w fd op nu tx ot c r (.slice A n cp);have HK:=Hd (fun l W=>Gp fd op nu tx ot l hx W);have HLN:=Hd hn;have HE1:=Hd (show bU fd op nu tx ot=false→jZ c (L.map (·.1)) fd op nu tx ot=false from fun h=>by unfold jZ;rw [if_pos h]);have HE2:=Hd (show bU fd op nu tx ot=true→(dA fd=false∧dA ot=false)→jZ c (L.map (·.1)) fd op nu tx ot=bC c fd op nu tx ot Itm.none from fun h k=>by unfold jZ;rw [if_neg (by rw [h];decide),if_pos k]);have HE3:=Hd (show bU fd op nu tx ot=true→¬ (dA fd=false∧dA ot=false)→jZ c (L.map (·.1)) fd op nu tx ot=(L.map (·.1)).any fun i=>fO i && bC c fd op nu tx ot i from fun h k=>by unfold jZ;rw [if_neg (by rw [h];decide),if_neg k]);have HT:=Hd hT;have HC:=Hd hC;have HB:=Hd hB;have HLI:=Hd hL;have HS:=Hd hS;clear hT hC hB hL hn hS;go_in;go_wp2_with fail;generalize (w.alloc (.cells (bP fd op nu tx ot) 85)).alloc (.cells (aV c r (.slice A n cp)) 54)=W at *;go_loopw [5,6] (fun b i wr=>∃ k:Nat,k≤5∧i= .int .i64 ((k:Int)+1)∧b= .bool (vY fd op nu tx ot k)∧Below W.heap.size W wr) (fun _ i _=>7 - (intOf i).toNat);case atStart=>exact ⟨0,by omega,rfl,by unfold vY;rfl,Below.refl _ _⟩
 case round=>
  obtain ⟨k,hk,rfl,rfl,hb⟩:=hrel;by_cases hlt:k < 5
  · have HA:=Hd (rQ fd op nu tx ot k);have HBR:=Hd hb;obtain ⟨q0,q1,q2,q3,q4⟩:=dX (HT.o.below hb);clear hb;cases hkn:vY fd op nu tx ot k
    · rw [hkn] at HA;clear hkn;go_wp2_with fail;refine (HK.o _ _).mono ?_;rintro e w1 ⟨rfl,hb1⟩;have HB1:=Hd (aa HBR.o hb1);clear hb1 q0 q1 q2 q3 q4;go_wp2_with fail;go_roundw;case rel=>exact ⟨k+1,by omega,by go_num,by rw [HA.o];simp,HB1.o⟩
      case measure=>simp [intOf];omega
    · rw [hkn] at HA;clear hkn;go_wp2_with fail;go_roundw;case rel=>exact ⟨k+1,by omega,by go_num,by rw [HA.o];simp,HBR.o⟩
      case measure=>simp [intOf];omega
  · have hk5:k=5:=(by omega);subst hk5;rw [mJ];have hT1:dW wr w.heap.size fd op nu tx ot:=HT.o.below hb;have hC1:aR wr (w.heap.size+1) c r (.slice A n cp):=HC.o.below hb;have Qx:=Hd (aU.keep (HLI.o.keep HB.o (Nat.le_refl _)) hb (by have:=HB.o.size;omega));have hbw:=HB.o.trans (hb.mono HB.o.size);have HBW:=Hd hbw;have HT1:=Hd hT1;have HC1:=Hd hC1;clear hb hbw HT HC HLI HK hk hlt;cases hs:bU fd op nu tx ot
    · have HF:=Hd (HE1.o hs);clear hs hT1 hC1;go_wp2_with fail;go_ret;exact ⟨aX HF.o.symm,HBW.o⟩
    · obtain ⟨rf,ro,rt⟩:=lC hs;have HV:=Hd (fun i ir W=>Gu c r (.slice A n cp) fd op nu tx ot i ir rf ro rt W);have HI1:=Hd (fun W=>Fs fd W);have HI2:=Hd (fun W=>Fs ot W);have HSO:=Hd hs;have q0:=hT1.c0;have q4:=hT1.c4;have qi:=hC1.items;clear rf ro rt hs hT1 hC1;go_wp2_with fail;refine (HI1.o _).mono ?_;rintro e w1 ⟨rfl,rfl⟩;cases hf:dA fd
      · cases ht:dA ot
        · have HF:=Hd (HE2.o HSO.o ⟨hf,ht⟩);rw [ht] at HI2;clear hf ht;go_wp2_with fail;refine (HI2.o _).mono ?_;rintro e w1 ⟨rfl,rfl⟩;obtain ⟨k0,k1,k2,k3,k4⟩:=dX HT1.o;go_wp2_with (((with_reducible refine aP ?_ 54 (.tmp 3) ?_ HC1.o ?_ _ Tryz.underlying54 ?_ ?_ ?_);(iterate 4 rfl);exact dK _ _ _));refine (HV.o Itm.none irZ _).mono ?_;rintro e w2 ⟨rfl,hb2⟩;have HB2:=Hd (HBW.o.trans (hb2.mono HBW.o.size));go_wp2_with fail;go_ret;exact ⟨aX HF.o.symm,HB2.o⟩
        · have HF:=Hd (HE3.o HSO.o (fun h=>by rw [ht] at h;cases h.2));rw [ht] at HI2;clear hf ht;go_wp2_with fail;refine (HI2.o _).mono ?_;rintro e w1 ⟨rfl,rfl⟩;go_wp2_with fail;go_loopw [39] (fun i wr' =>∃ k:Nat,k≤L.length∧i= .int .i64 (k:Int)∧Hid (∀ j (hj:j < L.length),j < k→(fO (L[j]'hj).1 && bC c fd op nu tx ot (L[j]'hj).1)=false)∧Below wr.heap.size wr wr') (fun i _=>L.length - (intOf i).toNat);case atStart=>exact ⟨0,Nat.zero_le _,rfl,fun j _ hj=>by omega,Below.refl _ _⟩
          case round=>
            obtain ⟨k,hk,rfl,hno,hb⟩:=hrel;have HBR:=Hd (HBW.o.trans (hb.mono HBW.o.size));have hln:n=L.length:=HLN.o;subst hln;by_cases hlt:k < L.length
            · obtain ⟨ad,e,xJ,hcl⟩:=(Qx.o.keep hb HBW.o.size) k hlt;cases e;obtain ⟨i0,i1,i2,i3,i4,i5,i6,i7,i8,i9,i10,i11,i12⟩:=oo hcl;have HTR:=Hd (show dW wr w.heap.size fd op nu tx ot from HT1.o.below hb);have HCR:=Hd (show aR wr (w.heap.size+1) c r _ from HC1.o.below hb);have HOLD:=Hd hb;clear hcl hb q0 q4 qi;generalize hy:L[k]'hlt=y at *;have HY:=Hd hy;clear hy;obtain ⟨⟨dev,ino,uid,gid,kind⟩,⟨gv,pa,dd,di,nm,ro,mo,pe⟩⟩:=y;simp only at i0 i1 i2 i3 i4 i5 i6 i7 i8 i9 i10 i11 i12;by_cases hd:dev=0
              · subst hd;by_cases hi:ino=0
                · subst hi;have HAL:=Hd (HBR.o.trans (((Below.refl wr.heap.size wr).alloc (Nat.le_refl _) (.cells (az ⟨0,0,uid,gid,kind⟩ ⟨gv,pa,dd,di,nm,ro,mo,pe⟩) 73)).mono HBR.o.size));have HB6:=Hd (HOLD.o.trans (((Below.refl wr.heap.size wr).alloc (Nat.le_refl _) (.cells (az ⟨0,0,uid,gid,kind⟩ ⟨gv,pa,dd,di,nm,ro,mo,pe⟩) 73)).mono HOLD.o.size));have HN:=Hd (show ∀ j (hj:j < L.length),j < k+1→(fO (L[j]'hj).1 && bC c fd op nu tx ot (L[j]'hj).1)=false from fun j hj hjk=>by
                    by_cases e:j=k
                    · subst e;rw [HY.o];rfl
                    · exact hno.o j hj (by omega))
                  unfold az at *;go_wp2_with fail;go_roundw;case rel=>exact ⟨k+1,by omega,by go_num,HN,HB6.o⟩
                  case measure=>simp [intOf];omega
                · have hib:(ino == 0)=false:=(by simpa using hi);have hal:Below wr.heap.size wr (wr.alloc (.cells (az ⟨0,ino,uid,gid,kind⟩ ⟨gv,pa,dd,di,nm,ro,mo,pe⟩) 73)):=(Below.refl _ _).alloc (Nat.le_refl _) _;obtain ⟨t0,t1,t2,t3,t4⟩:=dX (HTR.o.below hal);have HC2:=Hd (show aR _ (w.heap.size+1) c r _ from HCR.o.below hal);have HAL:=Hd (HBR.o.trans (hal.mono HBR.o.size));have HV1:=Hd (HV.o ⟨0,ino,uid,gid,kind⟩ ⟨gv,pa,dd,di,nm,ro,mo,pe⟩ (wr.alloc (.cells (az ⟨0,ino,uid,gid,kind⟩ ⟨gv,pa,dd,di,nm,ro,mo,pe⟩) 73)));clear hal;unfold az at *;go_wp2_with (((with_reducible refine gm ?_ 54 (.tmp 3) ?_ HC2.o ?_ _ Tryz.underlying54 ?_ ?_ ?_);(iterate 4 rfl);exact dK _ _ _));refine HV1.o.mono ?_;rintro e w5 ⟨rfl,hb5⟩;have HB5:=Hd (HAL.o.trans (hb5.mono HAL.o.size));have HB6:=Hd (show Below _ _ w5 from HOLD.o.trans (((Below.refl _ _).alloc (Nat.le_refl _) _).mono HOLD.o.size |>.trans (hb5.mono (by have:=HOLD.o.size;simp at this ⊢;omega))));clear hb5 t0 t1 t2 t3 t4;cases hh:bC c fd op nu tx ot ⟨0,ino,uid,gid,kind⟩
                  · have HN:=Hd (show ∀ j (hj:j < L.length),j < k+1→(fO (L[j]'hj).1 && bC c fd op nu tx ot (L[j]'hj).1)=false from fun j hj hjk=>by
                      by_cases e:j=k
                      · subst e;rw [HY.o,hh];simp
                      · exact hno.o j hj (by omega))
                    clear hh;go_wp2_with fail;go_roundw;case rel=>exact ⟨k+1,by omega,by go_num,HN,HB6.o⟩
                    case measure=>simp [intOf];omega
                  · have zi:=Hd (HF.o.trans (kJ hlt (by rw [HY.o,hh];unfold fO;simp [hi])));clear hh;go_wp2_with fail;go_ret;exact ⟨aX zi.o.symm,HB5.o⟩
              · have hdb:(dev == 0)=false:=(by simpa using hd);have hal:Below wr.heap.size wr (wr.alloc (.cells (az ⟨dev,ino,uid,gid,kind⟩ ⟨gv,pa,dd,di,nm,ro,mo,pe⟩) 73)):=(Below.refl _ _).alloc (Nat.le_refl _) _;obtain ⟨t0,t1,t2,t3,t4⟩:=dX (HTR.o.below hal);have HC2:=Hd (show aR _ (w.heap.size+1) c r _ from HCR.o.below hal);have HAL:=Hd (HBR.o.trans (hal.mono HBR.o.size));have HV1:=Hd (HV.o ⟨dev,ino,uid,gid,kind⟩ ⟨gv,pa,dd,di,nm,ro,mo,pe⟩ (wr.alloc (.cells (az ⟨dev,ino,uid,gid,kind⟩ ⟨gv,pa,dd,di,nm,ro,mo,pe⟩) 73)));clear hal;unfold az at *;go_wp2_with (((with_reducible refine gm ?_ 54 (.tmp 3) ?_ HC2.o ?_ _ Tryz.underlying54 ?_ ?_ ?_);(iterate 4 rfl);exact dK _ _ _));refine HV1.o.mono ?_;rintro e w5 ⟨rfl,hb5⟩;have HB5:=Hd (HAL.o.trans (hb5.mono HAL.o.size));have HB6:=Hd (show Below _ _ w5 from HOLD.o.trans (((Below.refl _ _).alloc (Nat.le_refl _) _).mono HOLD.o.size |>.trans (hb5.mono (by have:=HOLD.o.size;simp at this ⊢;omega))));clear hb5 t0 t1 t2 t3 t4;cases hh:bC c fd op nu tx ot ⟨dev,ino,uid,gid,kind⟩
                · have HN:=Hd (show ∀ j (hj:j < L.length),j < k+1→(fO (L[j]'hj).1 && bC c fd op nu tx ot (L[j]'hj).1)=false from fun j hj hjk=>by
                    by_cases e:j=k
                    · subst e;rw [HY.o,hh];simp
                    · exact hno.o j hj (by omega))
                  clear hh;go_wp2_with fail;go_roundw;case rel=>exact ⟨k+1,by omega,by go_num,HN,HB6.o⟩
                  case measure=>simp [intOf];omega
                · have zi:=Hd (HF.o.trans (kJ hlt (by rw [HY.o,hh];unfold fO;simp [hd])));clear hh;go_wp2_with fail;go_ret;exact ⟨aX zi.o.symm,HB5.o⟩
            · have HNO:=Hd (HF.o.trans (zh fun j hj=>hno.o j hj (by omega)));clear hb q0 q4 qi;go_wp2_with fail;go_ret;exact ⟨aX HNO.o.symm,HBR.o⟩
      · have HF:=Hd (HE3.o HSO.o (fun h=>by rw [hf] at h;cases h.1));clear hf;go_wp2_with fail;go_loopw [39] (fun i wr' =>∃ k:Nat,k≤L.length∧i= .int .i64 (k:Int)∧Hid (∀ j (hj:j < L.length),j < k→(fO (L[j]'hj).1 && bC c fd op nu tx ot (L[j]'hj).1)=false)∧Below wr.heap.size wr wr') (fun i _=>L.length - (intOf i).toNat);case atStart=>exact ⟨0,Nat.zero_le _,rfl,fun j _ hj=>by omega,Below.refl _ _⟩
        case round=>
          obtain ⟨k,hk,rfl,hno,hb⟩:=hrel;have HBR:=Hd (HBW.o.trans (hb.mono HBW.o.size));have hln:n=L.length:=HLN.o;subst hln;by_cases hlt:k < L.length
          · obtain ⟨ad,e,xJ,hcl⟩:=(Qx.o.keep hb HBW.o.size) k hlt;cases e;obtain ⟨i0,i1,i2,i3,i4,i5,i6,i7,i8,i9,i10,i11,i12⟩:=oo hcl;have HTR:=Hd (show dW wr w.heap.size fd op nu tx ot from HT1.o.below hb);have HCR:=Hd (show aR wr (w.heap.size+1) c r _ from HC1.o.below hb);have HOLD:=Hd hb;clear hcl hb q0 q4 qi;generalize hy:L[k]'hlt=y at *;have HY:=Hd hy;clear hy;obtain ⟨⟨dev,ino,uid,gid,kind⟩,⟨gv,pa,dd,di,nm,ro,mo,pe⟩⟩:=y;simp only at i0 i1 i2 i3 i4 i5 i6 i7 i8 i9 i10 i11 i12;by_cases hd:dev=0
            · subst hd;by_cases hi:ino=0
              · subst hi;have HAL:=Hd (HBR.o.trans (((Below.refl wr.heap.size wr).alloc (Nat.le_refl _) (.cells (az ⟨0,0,uid,gid,kind⟩ ⟨gv,pa,dd,di,nm,ro,mo,pe⟩) 73)).mono HBR.o.size));have HB6:=Hd (HOLD.o.trans (((Below.refl wr.heap.size wr).alloc (Nat.le_refl _) (.cells (az ⟨0,0,uid,gid,kind⟩ ⟨gv,pa,dd,di,nm,ro,mo,pe⟩) 73)).mono HOLD.o.size));have HN:=Hd (show ∀ j (hj:j < L.length),j < k+1→(fO (L[j]'hj).1 && bC c fd op nu tx ot (L[j]'hj).1)=false from fun j hj hjk=>by
                  by_cases e:j=k
                  · subst e;rw [HY.o];rfl
                  · exact hno.o j hj (by omega))
                unfold az at *;go_wp2_with fail;go_roundw;case rel=>exact ⟨k+1,by omega,by go_num,HN,HB6.o⟩
                case measure=>simp [intOf];omega
              · have hib:(ino == 0)=false:=(by simpa using hi);have hal:Below wr.heap.size wr (wr.alloc (.cells (az ⟨0,ino,uid,gid,kind⟩ ⟨gv,pa,dd,di,nm,ro,mo,pe⟩) 73)):=(Below.refl _ _).alloc (Nat.le_refl _) _;obtain ⟨t0,t1,t2,t3,t4⟩:=dX (HTR.o.below hal);have HC2:=Hd (show aR _ (w.heap.size+1) c r _ from HCR.o.below hal);have HAL:=Hd (HBR.o.trans (hal.mono HBR.o.size));have HV1:=Hd (HV.o ⟨0,ino,uid,gid,kind⟩ ⟨gv,pa,dd,di,nm,ro,mo,pe⟩ (wr.alloc (.cells (az ⟨0,ino,uid,gid,kind⟩ ⟨gv,pa,dd,di,nm,ro,mo,pe⟩) 73)));clear hal;unfold az at *;go_wp2_with (((with_reducible refine gm ?_ 54 (.tmp 3) ?_ HC2.o ?_ _ Tryz.underlying54 ?_ ?_ ?_);(iterate 4 rfl);exact dK _ _ _));refine HV1.o.mono ?_;rintro e w5 ⟨rfl,hb5⟩;have HB5:=Hd (HAL.o.trans (hb5.mono HAL.o.size));have HB6:=Hd (show Below _ _ w5 from HOLD.o.trans (((Below.refl _ _).alloc (Nat.le_refl _) _).mono HOLD.o.size |>.trans (hb5.mono (by have:=HOLD.o.size;simp at this ⊢;omega))));clear hb5 t0 t1 t2 t3 t4;cases hh:bC c fd op nu tx ot ⟨0,ino,uid,gid,kind⟩
                · have HN:=Hd (show ∀ j (hj:j < L.length),j < k+1→(fO (L[j]'hj).1 && bC c fd op nu tx ot (L[j]'hj).1)=false from fun j hj hjk=>by
                    by_cases e:j=k
                    · subst e;rw [HY.o,hh];simp
                    · exact hno.o j hj (by omega))
                  clear hh;go_wp2_with fail;go_roundw;case rel=>exact ⟨k+1,by omega,by go_num,HN,HB6.o⟩
                  case measure=>simp [intOf];omega
                · have zi:=Hd (HF.o.trans (kJ hlt (by rw [HY.o,hh];unfold fO;simp [hi])));clear hh;go_wp2_with fail;go_ret;exact ⟨aX zi.o.symm,HB5.o⟩
            · have hdb:(dev == 0)=false:=(by simpa using hd);have hal:Below wr.heap.size wr (wr.alloc (.cells (az ⟨dev,ino,uid,gid,kind⟩ ⟨gv,pa,dd,di,nm,ro,mo,pe⟩) 73)):=(Below.refl _ _).alloc (Nat.le_refl _) _;obtain ⟨t0,t1,t2,t3,t4⟩:=dX (HTR.o.below hal);have HC2:=Hd (show aR _ (w.heap.size+1) c r _ from HCR.o.below hal);have HAL:=Hd (HBR.o.trans (hal.mono HBR.o.size));have HV1:=Hd (HV.o ⟨dev,ino,uid,gid,kind⟩ ⟨gv,pa,dd,di,nm,ro,mo,pe⟩ (wr.alloc (.cells (az ⟨dev,ino,uid,gid,kind⟩ ⟨gv,pa,dd,di,nm,ro,mo,pe⟩) 73)));clear hal;unfold az at *;go_wp2_with (((with_reducible refine gm ?_ 54 (.tmp 3) ?_ HC2.o ?_ _ Tryz.underlying54 ?_ ?_ ?_);(iterate 4 rfl);exact dK _ _ _));refine HV1.o.mono ?_;rintro e w5 ⟨rfl,hb5⟩;have HB5:=Hd (HAL.o.trans (hb5.mono HAL.o.size));have HB6:=Hd (show Below _ _ w5 from HOLD.o.trans (((Below.refl _ _).alloc (Nat.le_refl _) _).mono HOLD.o.size |>.trans (hb5.mono (by have:=HOLD.o.size;simp at this ⊢;omega))));clear hb5 t0 t1 t2 t3 t4;cases hh:bC c fd op nu tx ot ⟨dev,ino,uid,gid,kind⟩
              · have HN:=Hd (show ∀ j (hj:j < L.length),j < k+1→(fO (L[j]'hj).1 && bC c fd op nu tx ot (L[j]'hj).1)=false from fun j hj hjk=>by
                  by_cases e:j=k
                  · subst e;rw [HY.o,hh];simp
                  · exact hno.o j hj (by omega))
                clear hh;go_wp2_with fail;go_roundw;case rel=>exact ⟨k+1,by omega,by go_num,HN,HB6.o⟩
                case measure=>simp [intOf];omega
              · have zi:=Hd (HF.o.trans (kJ hlt (by rw [HY.o,hh];unfold fO;simp [hd])));clear hh;go_wp2_with fail;go_ret;exact ⟨aX zi.o.symm,HB5.o⟩
          · have HNO:=Hd (HF.o.trans (zh fun j hj=>hno.o j hj (by omega)));clear hb q0 q4 qi;go_wp2_with fail;go_ret;exact ⟨aX HNO.o.symm,HBR.o⟩
end Go.Proofs.YtollifnnpihfdaaGreatDoor
namespace Go.Proofs.YtollifnnpihfdaaGreatDoor
open Go.RowKit
abbrev Gv (c:Ctx) (r:aN):Array Value:=#[.int .i64 (c.p 0), .int .i64 (c.p 1), .int .i64 (c.p 2), .int .i64 (c.p 3), .int .i64 (c.p 4), .int .i64 (c.p 5), .int .i64 (c.p 6), .int .i64 (c.p 7), .int .i64 r.d, .int .i64 r.i, .string c.comm, .string c.exe,r.o.v, .bool r.u]
abbrev Gw:Array Value:=#[.int .i64 0, .int .i64 0, .int .i64 0, .int .i64 0, .int .i64 0, .int .i64 0, .int .i64 0, .int .i64 0, .int .i64 0, .int .i64 0, .string ⟨#[]⟩, .string ⟨#[]⟩, .slice none 0 0, .bool false]
attribute [local irreducible] aV az bI
theorem Sj (w:World) (c:Ctx) (r:aN) (it:Value) (i:Itm) (ir:aD) (W:World) (hW:W=((w.alloc (.cells (aV c r it) 54)).alloc (.cells (az i ir) 73)).alloc (.cells (Gv c r) 47)):
  aR W w.heap.size c r it∧fZ W (w.heap.size+1) i ir∧Blk W (w.heap.size+1+1) 47 (Gv c r)∧Below w.heap.size w W:=by
 subst hW;have h3:=Blk.new ((w.alloc (.cells (aV c r it) 54)).alloc (.cells (az i ir) 73)) (Gv c r) 47;refine ⟨(uQ w c r it _).alloc _,(xK w i ir _).alloc _,by simpa using h3,(((Below.refl _ _).alloc (Nat.le_refl _) _).alloc (by simp) _).alloc (by simp;omega) _⟩
theorem wm (c:Ctx) (r:aN) (it:Value) (i:Itm) (ir:aD) (f:Int) (hf:1≤f∧f≤22) (h13:f≠13) (h14:f≠14) (w:World):Calls Tryz.prog 263 #[.int .i64 f,rq c r it,jJ i ir] w fun e w' =>e= .returned (.int .i64 (yF c i f))∧Below w.heap.size w w' :=by
 have HC:=uQ w c r it (.cells (az i ir) 73);have q1:=HC.p0;have q2:=HC.p1;have q3:=HC.p2;have q4:=HC.p3;have q5:=HC.p4;have q6:=HC.p5;have q7:=HC.p6;have q8:=HC.p7;have q9:=HC.c9;have q10:=HC.c10;have q11:=HC.comm;have q12:=HC.exe;have q13:=HC.c13;have q14:=HC.c14;clear HC;obtain ⟨hC,hI,hP,hB⟩:=Sj w c r it i ir _ rfl;have HB:=Hd hB;have s0:=hP.cell 0;have s1:=hP.cell 1;have s2:=hP.cell 2;have s3:=hP.cell 3;have s4:=hP.cell 4;have s5:=hP.cell 5;have s6:=hP.cell 6;have s7:=hP.cell 7;have a0:=hC.a0;have a1:=hC.a1;have a2:=hC.a2;have a3:=hC.a3;have ex:=hC.ex;have ty:=hC.ty;have i0:=hI.ino;have i1:=hI.dev;have i2:=hI.uid;have i3:=hI.gid;have i4:=hI.kind;clear hC hI hP hB;have hcs:f=1∨f=2∨f=3∨f=4∨f=5∨f=6∨f=7∨f=8∨f=9∨f=10∨f=11∨f=12∨f=15∨(f=16∧0≤c.ex)∨(f=16∧c.ex < 0)∨f=17∨f=18∨f=19∨f=20∨f=21∨f=22:=by omega
 clear hf h13 h14;rcases hcs with rfl | rfl | rfl | rfl | rfl | rfl | rfl | rfl | rfl | rfl | rfl | rfl | rfl | ⟨rfl,hx⟩ | ⟨rfl,hx⟩ | rfl | rfl | rfl | rfl | rfl | rfl;all_goals
  go_in;go_wp2_with fail;go_ret;exact ⟨bJ (by unfold yF;simp;try (first | omega | (split <;> omega))),HB.o⟩
theorem JJ (c:Ctx) (r:aN) (it:Value) (f:Int) (w:World):Calls Tryz.prog 235 #[.int .i64 f,rq c r it] w fun e w' =>e= .returned (.bool (fV c f))∧Below w.heap.size w w' :=by
 have HC:aR (w.alloc (.cells (aV c r it) 54)) w.heap.size c r it:=Blk.new w _ _;have HB:=Hd ((Below.refl w.heap.size w).alloc (Nat.le_refl _) (.cells (aV c r it) 54));have q0:=HC.ph;have q1:=HC.ty;clear HC;by_cases h:15≤f∧f≤21
 · have HE:=Hd (show fV c f=(c.ph == 2) by rw [mI h,deq]);go_in;go_wp2_with fail;go_ret;exact ⟨aX HE.o.symm,HB.o⟩
 · by_cases h22:f=22
   · subst h22;(have HE:=Hd (show fV c 22=(c.ty != 0) by rw [rO];by_cases h:c.ty=0 <;> simp [h]));clear h;go_in;go_wp2_with fail;go_ret;exact ⟨aX HE.o.symm,HB.o⟩
   · have HE:=Hd (show fV c f=true by unfold fV;rw [if_neg h];simp [h22]);have b:(f != 22)=true:=(by simpa using h22);have hc:f < 15∨21 < f:=(by omega);clear h h22;rcases hc with h | h;all_goals
      go_in;go_wp2_with fail;go_ret;exact ⟨aX HE.o.symm,HB.o⟩
end Go.Proofs.YtollifnnpihfdaaGreatDoor
