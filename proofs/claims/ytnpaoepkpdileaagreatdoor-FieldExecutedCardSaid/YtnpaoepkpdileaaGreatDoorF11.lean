import Derived.Test.YtnpaoepkpdileaaGreatDoorF09
set_option maxRecDepth 100000
set_option maxHeartbeats 64000000
set_option linter.all false
namespace Go.Proofs.YtnpaoepkpdileaaGreatDoor
open Go.RowKit
abbrev bO (fd op nu:Int) (tx:ByteArray) (ot:Int):Array Value:=#[.int .i64 fd, .int .i64 op, .int .i64 nu, .string tx, .int .i64 ot]
abbrev kz (fd op nu:Int) (tx:ByteArray) (ot:Int):Value:= .agg (bO fd op nu tx ot)
theorem bz {x y:Int} (h:x=y):Ending.returned (.int .i64 x)=Ending.returned (.int .i64 y):=by rw [h]
theorem jL {s:ByteArray} (h:s.size=0):s.toList= []:=by
 rw [ByteArray.toList_eq];exact List.eq_nil_of_length_eq_zero (by rw [Array.length_toList];exact h)
theorem dU {s:ByteArray} (h:s.size≠0):s.toList≠ []:=by
 rw [ByteArray.toList_eq];intro e;exact h (by have:=congrArg List.length e;rw [Array.length_toList] at this;exact this)
attribute [local irreducible] dK bD dL dx
theorem uS (fd op nu:Int) (tx:ByteArray) (ot l:Int) (hx:tx.size≤maxLen) (w:World):Calls Tryz.prog 19 #[kz fd op nu tx ot, .int .i64 l] w fun e w' =>e= .returned (.int .i64 (aj fd op nu tx ot l))∧Below w.heap.size w w' :=by
 unfold maxLen at hx;have CA:=Hd (fun W=>uN l fd W);have CO:=Hd (fun W=>uN l ot W);have WF:=Hd (fun W=>uL fd W);have WO:=Hd (fun W=>uL ot W);have CT:=Hd (fun W=>nT fd W);have HB:=Hd ((Below.refl w.heap.size w).alloc (Nat.le_refl _) (.cells (bO fd op nu tx ot) 55));go_in;go_wp2_with fail;refine (CA.o _).mono ?_;rintro e w1 ⟨rfl,rfl⟩;cases ha:dK l fd
 · go_wp2_with fail;go_ret;exact ⟨bz (show _=_ from (show aj _ _ _ _ _ _=120 by unfold aj;simp [ha]).symm),HB.o⟩
 · by_cases h0:ot=0
   · subst h0;by_cases ho:op < 1
     · go_wp2_with fail;go_ret;exact ⟨bz (show _=_ from (show aj _ _ _ _ _ _=121 by unfold aj;simp [ha,ho]).symm),HB.o⟩
     · by_cases hp:8 < op
       · go_wp2_with fail;go_ret;exact ⟨bz (show _=_ from (show aj _ _ _ _ _ _=121 by unfold aj;simp [ha,ho,hp]).symm),HB.o⟩
       · by_cases h2:op≤2
         · have h12:op=1∨op=2:=(by omega);have HQ:=Hd h2;rcases h12 with rfl | rfl;all_goals
             go_wp2_with fail;refine (CT.o _).mono ?_;rintro e w1 ⟨rfl,rfl⟩;cases ht:bD fd
             · have HT:=Hd ht;by_cases hz:tx.size=0
               · have e0:=jL hz;have e1:tx.toList.isEmpty=true:=(by rw [e0];rfl);go_wp2_with fail;refine (CT.o _).mono ?_;rintro e w1 ⟨rfl,rfl⟩;rw [HT.o];go_wp2_with fail;go_ret;exact ⟨bz (show _=_ from (show aj _ _ _ _ _ _=0 by unfold aj;simp [ha,ht,hz]).symm),HB.o⟩
               · have e0:=dU hz;have e1:tx.toList.isEmpty=false:=(by simpa using e0);go_wp2_with fail;refine (CT.o _).mono ?_;rintro e w1 ⟨rfl,rfl⟩;rw [HT.o];go_wp2_with fail;go_ret;exact ⟨bz (show _=_ from (show aj _ _ _ _ _ _=122 by unfold aj;simp [ha,ht,hz]).symm),HB.o⟩
             · have HT:=Hd ht;by_cases hnu:nu≠0
               · go_wp2_with fail;go_ret;exact ⟨bz (show _=_ from (show aj _ _ _ _ _ _=122 by unfold aj;simp [ha,ht,hnu]).symm),HB.o⟩
               · have hnu:nu=0:=(by simpa using hnu);subst hnu;by_cases hz:tx.size=0
                 · have e0:=jL hz;have e1:tx.toList.isEmpty=true:=(by rw [e0];rfl);go_wp2_with fail;go_ret;exact ⟨bz (show _=_ from (show aj _ _ _ _ _ _=122 by unfold aj;simp [ha,ht,hz]).symm),HB.o⟩
                 · have e0:=dU hz;have e1:tx.toList.isEmpty=false:=(by simpa using e0);by_cases hg:640 < tx.size
                   · go_wp2_with fail;go_ret;exact ⟨bz (show _=_ from (show aj _ _ _ _ _ _=122 by unfold aj;simp [ha,ht,hz,hg]).symm),HB.o⟩
                   · go_wp2_with fail;refine (CT.o _).mono ?_;rintro e w1 ⟨rfl,rfl⟩;rw [HT.o];go_wp2_with fail;go_ret;exact ⟨bz (show _=_ from (show aj _ _ _ _ _ _=0 by unfold aj;simp [ha,ht,hz,hg]).symm),HB.o⟩
         · have h2:2 < op:=(by omega);have n1:(op != 1)=true:=(by simp;omega);have n2:(op != 2)=true:=(by simp;omega);go_wp2_with fail;refine (CT.o _).mono ?_;rintro e w1 ⟨rfl,rfl⟩;cases ht:bD fd
           · have HT:=Hd ht;go_wp2_with fail;refine (CT.o _).mono ?_;rintro e w1 ⟨rfl,rfl⟩;rw [HT.o];by_cases hz:tx.size=0
             · have e0:=jL hz;have e1:tx.toList.isEmpty=true:=(by rw [e0];rfl);go_wp2_with fail;refine (CT.o _).mono ?_;rintro e w1 ⟨rfl,rfl⟩;rw [HT.o];go_wp2_with fail;go_ret;exact ⟨bz (show _=_ from (show aj _ _ _ _ _ _=0 by unfold aj;simp [ha,ht,ho,hp,h2,hz]).symm),HB.o⟩
             · have e0:=dU hz;have e1:tx.toList.isEmpty=false:=(by simpa using e0);go_wp2_with fail;refine (CT.o _).mono ?_;rintro e w1 ⟨rfl,rfl⟩;rw [HT.o];go_wp2_with fail;go_ret;exact ⟨bz (show _=_ from (show aj _ _ _ _ _ _=122 by unfold aj;simp [ha,ht,ho,hp,h2,hz]).symm),HB.o⟩
           · go_wp2_with fail;go_ret;exact ⟨bz (show _=_ from (show aj _ _ _ _ _ _=121 by unfold aj;simp [ha,ht,ho,hp,h2]).symm),HB.o⟩
   · go_wp2_with fail;refine (CO.o _).mono ?_;rintro e w1 ⟨rfl,rfl⟩;cases hb:dK l ot
     · go_wp2_with fail;go_ret;exact ⟨bz (show _=_ from (show aj _ _ _ _ _ _=120 by unfold aj;simp [ha,h0,hb]).symm),HB.o⟩
     · go_wp2_with fail;refine (WF.o _).mono ?_;rintro e w1 ⟨rfl,rfl⟩;cases hc:dL fd
       · go_wp2_with fail;go_ret;exact ⟨bz (show _=_ from (show aj _ _ _ _ _ _=120 by unfold aj;simp [ha,h0,hb,hc]).symm),HB.o⟩
       · go_wp2_with fail;refine (WO.o _).mono ?_;rintro e w1 ⟨rfl,rfl⟩;cases hd:dL ot
         · go_wp2_with fail;go_ret;exact ⟨bz (show _=_ from (show aj _ _ _ _ _ _=120 by unfold aj;simp [ha,h0,hb,hc,hd]).symm),HB.o⟩
         · have HT:=Hd (iw hc);by_cases ho:op < 1
           · go_wp2_with fail;go_ret;exact ⟨bz (show _=_ from (show aj _ _ _ _ _ _=121 by unfold aj;simp [ha,h0,hb,hc,hd,HT.o,ho]).symm),HB.o⟩
           · by_cases hp:8 < op
             · go_wp2_with fail;go_ret;exact ⟨bz (show _=_ from (show aj _ _ _ _ _ _=121 by unfold aj;simp [ha,h0,hb,hc,hd,HT.o,ho,hp]).symm),HB.o⟩
             · by_cases h2:op≤2
               · have h12:op=1∨op=2:=(by omega);rcases h12 with rfl | rfl;all_goals
                   by_cases hnu:nu≠0
                   · go_wp2_with fail;go_ret;exact ⟨bz (show _=_ from (show aj _ _ _ _ _ _=122 by unfold aj;simp [ha,h0,hb,hc,hd,HT.o,hnu]).symm),HB.o⟩
                   · have hnu:nu=0:=(by simpa using hnu);subst hnu;by_cases hz:tx.size=0
                     · have e0:=jL hz;have e1:tx.toList.isEmpty=true:=(by rw [e0];rfl);go_wp2_with fail;refine (CT.o _).mono ?_;rintro e w1 ⟨rfl,rfl⟩;rw [HT.o];go_wp2_with fail;refine (CT.o _).mono ?_;rintro e w1 ⟨rfl,rfl⟩;rw [HT.o];go_wp2_with fail;go_ret;exact ⟨bz (show _=_ from (show aj _ _ _ _ _ _=0 by unfold aj;simp [ha,h0,hb,hc,hd,HT.o,hz]).symm),HB.o⟩
                     · have e0:=dU hz;have e1:tx.toList.isEmpty=false:=(by simpa using e0);go_wp2_with fail;go_ret;exact ⟨bz (show _=_ from (show aj _ _ _ _ _ _=122 by unfold aj;simp [ha,h0,hb,hc,hd,HT.o,hz]).symm),HB.o⟩
               · have h2:2 < op:=(by omega);have n1:(op != 1)=true:=(by simp;omega);have n2:(op != 2)=true:=(by simp;omega);go_wp2_with fail;refine (CT.o _).mono ?_;rintro e w1 ⟨rfl,rfl⟩;rw [HT.o];go_wp2_with fail;go_ret;exact ⟨bz (show _=_ from (show aj _ _ _ _ _ _=121 by unfold aj;simp [ha,h0,hb,hc,hd,HT.o,ho,hp,h2]).symm),HB.o⟩
end Go.Proofs.YtnpaoepkpdileaaGreatDoor
