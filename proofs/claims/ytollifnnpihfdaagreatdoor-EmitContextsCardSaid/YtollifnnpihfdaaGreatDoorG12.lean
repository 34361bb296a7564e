import Derived.Test.YtollifnnpihfdaaGreatDoorG10
set_option maxRecDepth 100000
set_option maxHeartbeats 64000000
set_option linter.all false
namespace Go.Proofs.YtollifnnpihfdaaGreatDoor
open Go.RowKit
attribute [local irreducible] dS bI dU dA
theorem zg (fd op nu:Int) (tx:ByteArray) (ot l:Int) (hx:tx.size≤maxLen) (w:World):Calls Tryz.prog 153 #[nL fd op nu tx ot, .int .i64 l] w fun e w' =>e= .returned (.int .i64 (ai fd op nu tx ot l))∧Below w.heap.size w w' :=by
 unfold maxLen at hx;have CA:=Hd (fun W=>y8 l fd W);have CO:=Hd (fun W=>y8 l ot W);have WF:=Hd (fun W=>yY fd W);have WO:=Hd (fun W=>yY ot W);have CT:=Hd (fun W=>yV fd W);have HB:=Hd ((Below.refl w.heap.size w).alloc (Nat.le_refl _) (.cells (bP fd op nu tx ot) 85));go_in;go_wp2_with fail;refine (CA.o _).mono ?_;rintro e w1 ⟨rfl,rfl⟩;cases ha:dS l fd
 · go_wp2_with fail;go_ret;exact ⟨bJ (show _=_ from (show ai _ _ _ _ _ _=120 by unfold ai;simp [ha]).symm),HB.o⟩
 · by_cases h0:ot=0
   · subst h0;by_cases ho:op < 1
     · go_wp2_with fail;go_ret;exact ⟨bJ (show _=_ from (show ai _ _ _ _ _ _=121 by unfold ai;simp [ha,ho]).symm),HB.o⟩
     · by_cases hp:8 < op
       · go_wp2_with fail;go_ret;exact ⟨bJ (show _=_ from (show ai _ _ _ _ _ _=121 by unfold ai;simp [ha,ho,hp]).symm),HB.o⟩
       · by_cases h2:op≤2
         · have h12:op=1∨op=2:=(by omega);have HQ:=Hd h2;rcases h12 with rfl | rfl;all_goals
             go_wp2_with fail;refine (CT.o _).mono ?_;rintro e w1 ⟨rfl,rfl⟩;cases ht:bI fd
             · have HT:=Hd ht;by_cases hz:tx.size=0
               · have e0:=jB hz;have e1:tx.toList.isEmpty=true:=(by rw [e0];rfl);go_wp2_with fail;refine (CT.o _).mono ?_;rintro e w1 ⟨rfl,rfl⟩;rw [HT.o];go_wp2_with fail;go_ret;exact ⟨bJ (show _=_ from (show ai _ _ _ _ _ _=0 by unfold ai;simp [ha,ht,hz]).symm),HB.o⟩
               · have e0:=dB hz;have e1:tx.toList.isEmpty=false:=(by simpa using e0);go_wp2_with fail;refine (CT.o _).mono ?_;rintro e w1 ⟨rfl,rfl⟩;rw [HT.o];go_wp2_with fail;go_ret;exact ⟨bJ (show _=_ from (show ai _ _ _ _ _ _=122 by unfold ai;simp [ha,ht,hz]).symm),HB.o⟩
             · have HT:=Hd ht;by_cases hnu:nu≠0
               · go_wp2_with fail;go_ret;exact ⟨bJ (show _=_ from (show ai _ _ _ _ _ _=122 by unfold ai;simp [ha,ht,hnu]).symm),HB.o⟩
               · have hnu:nu=0:=(by simpa using hnu);subst hnu;by_cases hz:tx.size=0
                 · have e0:=jB hz;have e1:tx.toList.isEmpty=true:=(by rw [e0];rfl);go_wp2_with fail;go_ret;exact ⟨bJ (show _=_ from (show ai _ _ _ _ _ _=122 by unfold ai;simp [ha,ht,hz]).symm),HB.o⟩
                 · have e0:=dB hz;have e1:tx.toList.isEmpty=false:=(by simpa using e0);by_cases hg:640 < tx.size
                   · go_wp2_with fail;go_ret;exact ⟨bJ (show _=_ from (show ai _ _ _ _ _ _=122 by unfold ai;simp [ha,ht,hz,hg]).symm),HB.o⟩
                   · go_wp2_with fail;refine (CT.o _).mono ?_;rintro e w1 ⟨rfl,rfl⟩;rw [HT.o];go_wp2_with fail;go_ret;exact ⟨bJ (show _=_ from (show ai _ _ _ _ _ _=0 by unfold ai;simp [ha,ht,hz,hg]).symm),HB.o⟩
         · have h2:2 < op:=(by omega);have n1:(op != 1)=true:=(by simp;omega);have n2:(op != 2)=true:=(by simp;omega);go_wp2_with fail;refine (CT.o _).mono ?_;rintro e w1 ⟨rfl,rfl⟩;cases ht:bI fd
           · have HT:=Hd ht;go_wp2_with fail;refine (CT.o _).mono ?_;rintro e w1 ⟨rfl,rfl⟩;rw [HT.o];by_cases hz:tx.size=0
             · have e0:=jB hz;have e1:tx.toList.isEmpty=true:=(by rw [e0];rfl);go_wp2_with fail;refine (CT.o _).mono ?_;rintro e w1 ⟨rfl,rfl⟩;rw [HT.o];go_wp2_with fail;go_ret;exact ⟨bJ (show _=_ from (show ai _ _ _ _ _ _=0 by unfold ai;simp [ha,ht,ho,hp,h2,hz]).symm),HB.o⟩
             · have e0:=dB hz;have e1:tx.toList.isEmpty=false:=(by simpa using e0);go_wp2_with fail;refine (CT.o _).mono ?_;rintro e w1 ⟨rfl,rfl⟩;rw [HT.o];go_wp2_with fail;go_ret;exact ⟨bJ (show _=_ from (show ai _ _ _ _ _ _=122 by unfold ai;simp [ha,ht,ho,hp,h2,hz]).symm),HB.o⟩
           · go_wp2_with fail;go_ret;exact ⟨bJ (show _=_ from (show ai _ _ _ _ _ _=121 by unfold ai;simp [ha,ht,ho,hp,h2]).symm),HB.o⟩
   · have b0:(ot != 0)=true:=(by simpa using h0);go_wp2_with fail;refine (CO.o _).mono ?_;rintro e w1 ⟨rfl,rfl⟩;cases hb:dS l ot
     · go_wp2_with fail;go_ret;exact ⟨bJ (show _=_ from (show ai _ _ _ _ _ _=120 by unfold ai;simp [ha,h0,hb]).symm),HB.o⟩
     · go_wp2_with fail;refine (WF.o _).mono ?_;rintro e w1 ⟨rfl,rfl⟩;cases hc:dU fd
       · go_wp2_with fail;go_ret;exact ⟨bJ (show _=_ from (show ai _ _ _ _ _ _=120 by unfold ai;simp [ha,h0,hb,hc]).symm),HB.o⟩
       · go_wp2_with fail;refine (WO.o _).mono ?_;rintro e w1 ⟨rfl,rfl⟩;cases hd:dU ot
         · go_wp2_with fail;go_ret;exact ⟨bJ (show _=_ from (show ai _ _ _ _ _ _=120 by unfold ai;simp [ha,h0,hb,hc,hd]).symm),HB.o⟩
         · have HT:=Hd (jk hc);by_cases ho:op < 1
           · go_wp2_with fail;go_ret;exact ⟨bJ (show _=_ from (show ai _ _ _ _ _ _=121 by unfold ai;simp [ha,h0,hb,hc,hd,HT.o,ho]).symm),HB.o⟩
           · by_cases hp:8 < op
             · go_wp2_with fail;go_ret;exact ⟨bJ (show _=_ from (show ai _ _ _ _ _ _=121 by unfold ai;simp [ha,h0,hb,hc,hd,HT.o,ho,hp]).symm),HB.o⟩
             · by_cases h2:op≤2
               · have h12:op=1∨op=2:=(by omega);rcases h12 with rfl | rfl;all_goals
                   by_cases hnu:nu≠0
                   · go_wp2_with fail;go_ret;exact ⟨bJ (show _=_ from (show ai _ _ _ _ _ _=122 by unfold ai;simp [ha,h0,hb,hc,hd,HT.o,hnu]).symm),HB.o⟩
                   · have hnu:nu=0:=(by simpa using hnu);subst hnu;by_cases hz:tx.size=0
                     · have e0:=jB hz;have e1:tx.toList.isEmpty=true:=(by rw [e0];rfl);go_wp2_with fail;refine (CT.o _).mono ?_;rintro e w1 ⟨rfl,rfl⟩;rw [HT.o];go_wp2_with fail;go_ret;exact ⟨bJ (show _=_ from (show ai _ _ _ _ _ _=0 by unfold ai;simp [ha,h0,hb,hc,hd,HT.o,hz]).symm),HB.o⟩
                     · have e0:=dB hz;have e1:tx.toList.isEmpty=false:=(by simpa using e0);go_wp2_with fail;go_ret;exact ⟨bJ (show _=_ from (show ai _ _ _ _ _ _=122 by unfold ai;simp [ha,h0,hb,hc,hd,HT.o,hz]).symm),HB.o⟩
               · have h2:2 < op:=(by omega);have n1:(op != 1)=true:=(by simp;omega);have n2:(op != 2)=true:=(by simp;omega);go_wp2_with fail;refine (CT.o _).mono ?_;rintro e w1 ⟨rfl,rfl⟩;rw [HT.o];go_wp2_with fail;go_ret;exact ⟨bJ (show _=_ from (show ai _ _ _ _ _ _=121 by unfold ai;simp [ha,h0,hb,hc,hd,HT.o,ho,hp,h2]).symm),HB.o⟩
end Go.Proofs.YtollifnnpihfdaaGreatDoor
