import Derived.Test.YtollifnnpihfdaaGreatDoorW29
import Derived.Test.YtollifnnpihfdaaGreatDoorW32
set_option maxRecDepth 100000
set_option maxHeartbeats 64000000
set_option linter.all false
namespace Go.Proofs.YtollifnnpihfdaaGreatDoor
open Go.RowKit
attribute [local irreducible] dY cB
theorem fU {z:Int} (h:z < 0∨22≤z):dE z=⟨⟨#[]⟩,0,0,0,0⟩:=h.elim qG lN
theorem EL (z:Int) (w:World) (hc:Calls10 w):Calls Tryz.prog 92 #[.int .i64 z] w fun e w' =>e= .returned (.string (dE z).name)∧w=w' :=by
 by_cases h:z < 0∨22≤z
 · rw [fU h];exact uP z h w
 · obtain ⟨n,rfl⟩:=Int.eq_ofNat_of_zero_le (show 0≤z by omega);rw [jW];exact Ji n (by omega) w hc
end Go.Proofs.YtollifnnpihfdaaGreatDoor
namespace Go.Proofs.YtollifnnpihfdaaGreatDoor
open Go.RowKit
abbrev Bn (z:Int) (a:Nat→Int) (P:Option Addr) (np cp:Nat) (A:Option Addr) (na ca:Nat):Value:=
 .agg #[.int .i64 z, .int .i64 (a 0), .int .i64 (a 1), .int .i64 (a 2), .int .i64 (a 3), .slice P np cp, .slice A na ca]
def oD (m:Nat) (a:Nat→Int):Bool:=(List.range 4).all fun j=>decide (j < m) || a j == 0
theorem xV {m:Nat} {a:Nat→Int} {j:Nat} (h1:m≤j) (h2:j < 4) (h:a j≠0):oD m a=false:=by
 unfold oD;rw [List.all_eq_false];exact ⟨j,by simpa using h2,by simp;exact ⟨h1,h⟩⟩
theorem uQ {m:Nat} {a:Nat→Int} (h:∀ j,m≤j→j < 4→a j=0):oD m a=true:=by
 unfold oD;rw [List.all_eq_true];intro j hj;simp at hj;by_cases hm:j < m
 · simp [hm]
 · simp [h j (by omega) hj]
def mU (z:Int) (a:Nat→Int) (ps gs:List ByteArray):Int:=
 if (dE z).name.size=0 then 100 else if oD (dE z).nums a=false then 101
 else if ps.length≠(dE z).kF∨gs.length < (dE z).least∨(dE z).most < gs.length then 101
 else if iT ps 128=true∨iT gs 64=true then 102 else 0
theorem uR {z:Int} {a:Nat→Int} {ps gs:List ByteArray} {nm:ByteArray} {m p l u:Nat} (h:dE z=⟨nm,m,p,l,u⟩):mU z a ps gs=
 if nm.size=0 then 100 else if oD m a=false then 101 else if ps.length≠p∨gs.length < l∨u < gs.length then 101 else if iT ps 128=true∨iT gs 64=true then 102 else 0:=by unfold mU;rw [h]
theorem EM {w:World} {g:Nat} {t:TypeId} {z:Int} {a:Nat→Int} {x y:Value} (h:Blk w g t #[.int .i64 z, .int .i64 (a 0), .int .i64 (a 1), .int .i64 (a 2), .int .i64 (a 3),x,y]) (k:Nat) (hk:k < 4):w.cell? ⟨g,1+k,none⟩=some (.int .i64 (a k)):=by
 rw [h.cell]
 match k,hk with
 | 0,_=>rfl
 | 1,_=>rfl
 | 2,_=>rfl
 | 3,_=>rfl
attribute [local irreducible] dY cB dE mU oD iT
end Go.Proofs.YtollifnnpihfdaaGreatDoor
namespace Go.Proofs.YtollifnnpihfdaaGreatDoor
open Go.RowKit
theorem lQ {s:ByteArray} (h:s.size=0):s.toList= []:=by
 rw [ByteArray.toList_eq];exact List.eq_nil_of_length_eq_zero (by rw [Array.length_toList];exact h)
theorem iU {s:ByteArray} (h:s.size≠0):s.toList≠ []:=by
 rw [ByteArray.toList_eq];intro e;exact h (by have:=congrArg List.length e;rw [Array.length_toList] at this;exact this)
attribute [local irreducible] dY cB dE mU oD iT
theorem xW (z:Int) (a:Nat→Int) (P:Option Addr) (cp:Nat) (A:Option Addr) (ca:Nat) (ps gs:List ByteArray) (w:World) (B:Nat) (hB:B≤w.heap.size) (hP:bB w B P ps) (hA:bB w B A gs) (hlp:ps.length≤1000) (hlg:gs.length≤1000) (hsp:∀ s∈ps,s.size≤maxLen) (hsg:∀ s∈gs,s.size≤maxLen):
   Calls Tryz.prog 83 #[Bn z a P ps.length cp A gs.length ca] w fun e w' =>e= .returned (.int .i64 (mU z a ps gs))∧Below w.heap.size w w' :=by
 have HP:=Hd hP;have HA:=Hd hA;have HSP:=Hd hsp;have HSG:=Hd hsg;clear hP hA hsp hsg;have HG:=Hd (KD z);have hsm:(dE z).nums≤2∧(dE z).kF≤2∧(dE z).least≤1∧(dE z).most≤4∧(dE z).name.size≤8:=by
   by_cases hz:z < 0∨22≤z
   · rw [fU hz];decide
   · obtain ⟨n,rfl⟩:=Int.eq_ofNat_of_zero_le (show 0≤z by omega);rw [jW];exact ry n
 generalize hr:dE z=r at *;have HR:=Hd (uR (a:=a) (ps:=ps) (gs:=gs) hr);clear hr;obtain ⟨nm,m,p,l,u⟩:=r;obtain ⟨s1,s2,s3,s4,_⟩:=hsm;by_cases hnm:nm.size=0
 · have e0:nm.toList.isEmpty=true:=(by rw [lQ hnm];rfl);have e1:=lQ hnm;have HN:=Hd hnm;clear hnm;go_in;go_wp2_with fail;refine (HG.o _).mono ?_;rintro e w1 ⟨rfl,hb⟩;unfold ky.val;go_wp2_with fail;go_ret;exact ⟨by rw [HR.o,if_pos HN.o];rfl,(nH hb).alloc (nH hb).size _⟩
 · have e0:nm.toList.isEmpty=false:=(by simpa using iU hnm);have e1:=iU hnm;go_in;go_wp2_with fail;refine (HG.o _).mono ?_;rintro e w1 ⟨rfl,hb⟩;unfold ky.val;have HG1:=(Blk.new w _ _).keep (boxed hb) (by omega);have HB1:=nH hb;clear hb;go_wp2_with fail;have HG2:=HG1.alloc (.cells #[.string nm, .int .i64 (m:Int), .int .i64 (p:Int), .int .i64 (l:Int), .int .i64 (u:Int)] 147);have HRW:=Blk.new w1 #[.string nm, .int .i64 (m:Int), .int .i64 (p:Int), .int .i64 (l:Int), .int .i64 (u:Int)] 147;have HB:=Hd (HB1.alloc HB1.size (.cells #[.string nm, .int .i64 (m:Int), .int .i64 (p:Int), .int .i64 (l:Int), .int .i64 (u:Int)] 147));clear HG1 HB1;generalize w1.alloc (.cells #[.string nm, .int .i64 (m:Int), .int .i64 (p:Int), .int .i64 (l:Int), .int .i64 (u:Int)] 147)=w2 at *;generalize w1.heap.size=g1 at *;have q5:=HG2.cell 5;have q6:=HG2.cell 6;have HQ:=Hd (fun k hk=>EM HG2 k hk);have r1:=HRW.cell 1;have r2:=HRW.cell 2;have r3:=HRW.cell 3;have r4:=HRW.cell 4;clear HRW HG2;have HP1:=Hd (HP.o.keep HB.o hB);have HA1:=Hd (HA.o.keep HB.o hB);go_loop [4] (fun i=>∃ k:Nat,m≤k∧k≤4∧i= .int .i64 k∧Hid (∀ j,m≤j→j < k→a j=0)) (fun i=>4 - (intOf i).toNat);case atStart=>exact ⟨m,Nat.le_refl _,by omega,rfl,fun j h1 h2=>by omega⟩
   case round=>
     obtain ⟨k,hk0,hk,rfl,hno⟩:=hrel;by_cases hlt:k < 4
     · have hcell:=HQ.o k (by omega);by_cases ha:a k=0
       · have HN:=Hd (show ∀ j,m≤j→j < k+1→a j=0 from fun j h1 h2=>by
           by_cases e:j=k
           · rw [e];exact ha
           · exact hno.o j h1 (by omega))
         rw [ha] at hcell;clear ha;go_wp2_with fail
         go_round
         case rel=>exact ⟨k+1,by omega,by omega,by go_num,HN.o⟩
         case measure=>simp [intOf];omega
       · have HZ:=Hd (xV (m:=m) (a:=a) (j:=k) (by omega) (by omega) ha);have hab:(a k != 0)=true:=(by simpa using ha);clear ha;generalize a k=v at *;go_wp2_with fail;go_ret;exact ⟨by rw [HR.o,if_neg hnm,if_pos HZ.o];rfl,HB.o⟩
     · have HZ:=Hd (uQ (m:=m) (a:=a) fun j h1 h2=>hno.o j h1 (by omega));clear hno;go_wp2_with fail;(all_goals try (go_ret;exact ⟨by rw [HR.o,if_neg hnm,if_neg (by rw [HZ.o];simp),if_pos (by omega)];rfl,HB.o⟩));have HK:=Hd (show ¬ (ps.length≠p∨gs.length < l∨u < gs.length) by omega);go_loop [5] (fun i=>∃ k:Nat,k≤ps.length∧i= .int .i64 k∧Hid (∀ j (hj:j < ps.length),j < k→ps[j].size≤128)) (fun i=>ps.length - (intOf i).toNat);case atStart=>exact ⟨0,Nat.zero_le _,rfl,fun j _ hj=>by omega⟩
       case round=>
         obtain ⟨k,hk,rfl,hno⟩:=hrel;by_cases hlt:k < ps.length
         · obtain ⟨ad,e,JY,hc⟩:=HP1.o k hlt;cases e;have hsz:=HSP.o _ (List.getElem_mem hlt);unfold maxLen at hsz;by_cases ho:128 < ps[k].size
           · have HL:=Hd (uG hlt ho);generalize ps[k]=s at *;go_wp2_with fail;go_ret;exact ⟨by rw [HR.o,if_neg hnm,if_neg (by rw [HZ.o];simp),if_neg HK.o,if_pos (.inl HL.o)];rfl,HB.o⟩
           · have HN:=Hd (show ∀ j (hj:j < ps.length),j < k+1→ps[j].size≤128 from fun j hj hjk=>by
               by_cases e:j=k
               · subst e;omega
               · exact hno.o j hj (by omega))
             generalize ps[k]=s at *;go_wp2_with fail
             go_round
             case rel=>exact ⟨k+1,by omega,by go_num,HN.o⟩
             case measure=>simp [intOf];omega
         · have L1:=Hd (qx fun j hj=>hno.o j hj (by omega));clear hno;go_wp2_with fail;go_loop [6] (fun i=>∃ k:Nat,k≤gs.length∧i= .int .i64 k∧Hid (∀ j (hj:j < gs.length),j < k→gs[j].size≤64)) (fun i=>gs.length - (intOf i).toNat);case atStart=>exact ⟨0,Nat.zero_le _,rfl,fun j _ hj=>by omega⟩
           case round=>
             obtain ⟨k,hk,rfl,hno⟩:=hrel;by_cases hlt:k < gs.length
             · obtain ⟨ad,e,JY,hc⟩:=HA1.o k hlt;cases e;have hsz:=HSG.o _ (List.getElem_mem hlt);unfold maxLen at hsz;by_cases ho:64 < gs[k].size
               · have HL:=Hd (uG hlt ho);generalize gs[k]=s at *;go_wp2_with fail;go_ret;exact ⟨by rw [HR.o,if_neg hnm,if_neg (by rw [HZ.o];simp),if_neg HK.o,if_pos (.inr HL.o)];rfl,HB.o⟩
               · have HN:=Hd (show ∀ j (hj:j < gs.length),j < k+1→gs[j].size≤64 from fun j hj hjk=>by
                  by_cases e:j=k
                  · subst e;omega
                  · exact hno.o j hj (by omega))
                 generalize gs[k]=s at *;go_wp2_with fail
                 go_round
                 case rel=>exact ⟨k+1,by omega,by go_num,HN.o⟩
                 case measure=>simp [intOf];omega
             · have L2:=Hd (qx fun j hj=>hno.o j hj (by omega));clear hno;go_wp2_with fail;go_ret;exact ⟨by rw [HR.o,if_neg hnm,if_neg (by rw [HZ.o];simp),if_neg HK.o,if_neg (by rw [L1.o,L2.o];simp)];rfl,HB.o⟩
end Go.Proofs.YtollifnnpihfdaaGreatDoor
namespace Go.Proofs.YtollifnnpihfdaaGreatDoor
open Go.RowKit
abbrev clC (z:Int) (a:Nat→Int) (P:Option Addr) (np cp:Nat) (G:Option Addr) (ng cg:Nat):Array Value:=#[.int .i64 z, .int .i64 (a 0), .int .i64 (a 1), .int .i64 (a 2), .int .i64 (a 3), .slice P np cp, .slice G ng cg]
def Jj (w:World) (e:Ending) (w' :World):Prop:=(∃ b:Bool,e= .returned (.bool b))∧w=w'
theorem Bo (n:Int) (w:World):Calls Tryz.prog 138 #[.int .i64 n] w (Jj w):=by
 by_cases h:0≤n
 · go_in;go_wp2_with fail;go_ret;exact ⟨⟨_,rfl⟩,rfl⟩
 · go_in;go_wp2_with fail;go_ret;exact ⟨⟨_,rfl⟩,rfl⟩
def jK (z:Int):Nat:=if z=8∨z=13 then 2 else 1
theorem kz (z:Int):(dE z).kF≤jK z:=by
 by_cases h:0≤z∧z < 22
 · obtain ⟨h0,h1⟩:=h;obtain ⟨k,rfl⟩:∃ k:Nat,z=k:=⟨z.toNat,by omega⟩;have hk:k < 22:=(by omega);have H:∀ q:Fin 22,(dE (q.val:Int)).kF≤jK (q.val:Int):=(by decide+kernel);exact H ⟨k,hk⟩
 · rw [fU (by omega)];exact Nat.zero_le _
def Bp (z:Int) (w:World) (e:Ending) (w' :World):Prop:=∃ (g n:Nat) (p:Nat→Int) (pc:Array Value),e= .returned (.slice (some ⟨g,0,none⟩) n n)∧jK z≤n∧n≤2∧w.heap.size≤g∧Blk w' g 3 pc∧(∀ k,k < n→pc[k]? =some (.int .i64 (p k)))∧Below w.heap.size w w'
theorem dB {w w0:World} {z:Int} (hb:Below w.heap.size w w0) (p:Int) (hz:jK z≤1):Bp z w (.returned (.slice (some ⟨w0.heap.size,0,none⟩) 1 1)) (w0.alloc (.cells #[.int .i64 p] 3)):=
 ⟨w0.heap.size,1,fun _=>p,_,rfl,hz,by omega,hb.size,Blk.new w0 #[.int .i64 p] 3,fun k hk=>by
  obtain rfl:k=0:=by omega
  rfl,hb.alloc hb.size _⟩
theorem qH {w w0:World} {z:Int} (hb:Below w.heap.size w w0) (p q:Int):Bp z w (.returned (.slice (some ⟨w0.heap.size,0,none⟩) 2 2)) (w0.alloc (.cells #[.int .i64 p, .int .i64 q] 3)):=
 ⟨w0.heap.size,2,fun k=>if k=0 then p else q,_,rfl,by unfold jK;split <;> omega,by omega,hb.size,Blk.new w0 #[.int .i64 p, .int .i64 q] 3,fun k hk=>by
  have h2:k=0∨k=1:=by omega
  rcases h2 with rfl | rfl
  · rfl
  · rfl,hb.alloc hb.size _⟩
theorem xX (z:Int) (a:Nat→Int) (P:Option Addr) (np cp:Nat) (G:Option Addr) (ng cg:Nat) (w:World):Calls Tryz.prog 136 #[.agg (clC z a P np cp G ng cg)] w (WbP w):=by
 have S0:=Hd (RdW.new w 51 (clC z a P np cp G ng cg));go_in;go_upto_region 1 with fail;generalize w.alloc (.cells (clC z a P np cp G ng cg) 51)=w0 at *;have c0:w0.cell? ⟨w.heap.size,0,none⟩=some (.int .i64 z):=S0.o.x.cell 0;have c1:w0.cell? ⟨w.heap.size,1,none⟩=some (.int .i64 (a 0)):=S0.o.x.cell 1;by_cases h6:z=6;case pos=>
  subst h6;go_wp2_with fail;go_ret;exact ⟨⟨_,rfl⟩,S0.o.b⟩
 case neg=>
  have p6:=(aM h6).1;by_cases h1:z=1;case pos=>
   subst h1;go_wp2_with fail;go_ret;exact ⟨⟨_,rfl⟩,S0.o.b⟩
  case neg=>
   have p1:=(aM h1).1;by_cases h14:z=14;case pos=>
    subst h14;go_wp2_with fail;go_ret;exact ⟨⟨_,rfl⟩,S0.o.b⟩
   case neg=>
    have p14:=(aM h14).1;by_cases h15:z=15;case pos=>
     subst h15;go_wp2_with fail;go_ret;exact ⟨⟨_,rfl⟩,S0.o.b⟩
    case neg=>
     have p15:=(aM h15).1;by_cases h16:z=16;case pos=>
      subst h16;go_wp2_with fail;go_ret;exact ⟨⟨_,rfl⟩,S0.o.b⟩
     case neg=>
      have p16:=(aM h16).1;by_cases h17:z=17;case pos=>
       subst h17;go_wp2_with fail;go_ret;exact ⟨⟨_,rfl⟩,S0.o.b⟩
      case neg=>
       have p17:=(aM h17).1;by_cases h21:z=21;case pos=>
        subst h21;go_wp2_with fail;go_ret;exact ⟨⟨_,rfl⟩,S0.o.b⟩
       case neg=>
        have p21:=(aM h21).1;go_wp2_with fail;go_ret;exact ⟨⟨_,rfl⟩,S0.o.b⟩
theorem Bq (z:Int) (a:Nat→Int) (P:Option Addr) (np cp:Nat) (G:Option Addr) (ng cg:Nat) (w:World):Calls Tryz.prog 134 #[.agg (clC z a P np cp G ng cg)] w (Bp z w):=by
 have S0:=Hd (RdW.new w 51 (clC z a P np cp G ng cg));go_in;go_upto_region 1 with fail;generalize w.alloc (.cells (clC z a P np cp G ng cg) 51)=w0 at *;have c0:w0.cell? ⟨w.heap.size,0,none⟩=some (.int .i64 z):=S0.o.x.cell 0;have c1:w0.cell? ⟨w.heap.size,1,none⟩=some (.int .i64 (a 0)):=S0.o.x.cell 1;by_cases h1:z=1;case pos=>
  subst h1;go_wp2_with fail;go_ret;exact dB S0.o.b _ (by decide)
 case neg=>
  have p1:=(aM h1).1;by_cases h6:z=6;case pos=>
   subst h6;cases b1:(bits BinOp.and IntKind.i64 (a 0) 1 == 0) with
   | true=>
    cases b2:(bits BinOp.and IntKind.i64 (a 0) 22 == 0) with
    | true=>
     go_wp2_with fail;go_ret;exact dB S0.o.b _ (by decide)
    | false=>
     go_wp2_with fail;go_ret;exact dB S0.o.b _ (by decide)
   | false=>
    cases b2:(bits BinOp.and IntKind.i64 (a 0) 22 == 0) with
    | true=>
     go_wp2_with fail;go_ret;exact dB S0.o.b _ (by decide)
    | false=>
     go_wp2_with fail;go_ret;exact dB S0.o.b _ (by decide)
  case neg=>
   have p6:=(aM h6).1;by_cases h8:z=8;case pos=>
    subst h8;go_wp2_with fail;go_ret;exact qH S0.o.b _ _
   case neg=>
    have p8:=(aM h8).1;by_cases h13:z=13;case pos=>
     subst h13;go_wp2_with fail;go_ret;exact qH S0.o.b _ _
    case neg=>
     have p13:=(aM h13).1;by_cases h14:z=14;case pos=>
      subst h14;go_wp2_with fail;go_ret;exact dB S0.o.b _ (by decide)
     case neg=>
      have p14:=(aM h14).1;by_cases h15:z=15;case pos=>
       subst h15;go_wp2_with fail;go_ret;exact dB S0.o.b _ (by decide)
      case neg=>
       have p15:=(aM h15).1;by_cases h17:z=17;case pos=>
        subst h17;go_wp2_with fail;go_ret;exact dB S0.o.b _ (by decide)
       case neg=>
        have p17:=(aM h17).1;by_cases h16:z=16;case pos=>
         subst h16;go_wp2_with fail;go_ret;exact dB S0.o.b _ (by decide)
        case neg=>
         have p16:=(aM h16).1;go_wp2_with fail;go_ret;exact dB S0.o.b _ (by unfold jK;rw [if_neg (fun h=>h.elim h8 h13)];exact Nat.le_refl 1)
structure WkA (w:World) (base:Nat) (u:Wu) (ps gs:List ByteArray):Prop where
 P:bB w base u.P ps
 G:bB w base u.G gs
 np:u.np=ps.length
 ng:u.ng=gs.length
 lp:ps.length≤jK u.z
 hp:∀ s∈ps,s.size≤128
 hg:∀ s∈gs,s.size≤64
 ck:mU u.z u.a ps gs=0
theorem WkA.keep {w w' :World} {base:Nat} {u:Wu} {ps gs:List ByteArray} (h:WkA w base u ps gs) (hb:Below base w w'):WkA w' base u ps gs:=⟨h.P.keep hb (Nat.le_refl _),h.G.keep hb (Nat.le_refl _),h.np,h.ng,h.lp,h.hp,h.hg,h.ck⟩
theorem fV {z:Int} {a:Nat→Int} {ps gs:List ByteArray} (h:mU z a ps gs=0):ps.length=(dE z).kF∧(dE z).least≤gs.length∧gs.length≤(dE z).most∧iT ps 128=false∧iT gs 64=false∧(dE z).name.size≠0:=by
 unfold mU at h;split at h
 · cases h
 · split at h
   · cases h
   · split at h
     · cases h
     · split at h
       · cases h
       · rename_i h1 h2 h3 h4;simp only [not_or,Bool.not_eq_true,Decidable.not_not,Nat.not_lt] at h3 h4;exact ⟨h3.1,h3.2.1,h3.2.2,h4.1,h4.2,h1⟩
theorem oF (ad:Addr):ad.add 0=ad:=by unfold Addr.add;rw [if_pos rfl]
def BfP (w:World) (e:Ending) (w' :World):Prop:=(∃ k:Int,e= .returned (.int .i64 k))∧Below w.heap.size w w'
theorem Br (base gw m:Nat) (u:Wu) (v:Wv) (ds:List Dm) (ms:List Mt) (fs:List Fo) (ps gs:List ByteArray) (w:World) (h:WkS w base gw u v ds ms fs m) (ha:WkA w base u ps gs):
  Calls Tryz.prog 85 #[.pointer (some ⟨gw,0,none⟩)] w (BfP w):=by
 have HW:=Hd h;have HA:=Hd ha;have S0:=Hd (RdW.new w 48 #[.int .i64 (u.a 0), .int .i64 (u.a 1), .int .i64 (u.a 2), .int .i64 (u.a 3)]);have x20:w.cell? ⟨gw,20,none⟩=some (.int .i64 (u.a 0)):=h.X.cell 20;have x21:w.cell? ⟨gw,21,none⟩=some (.int .i64 (u.a 1)):=h.X.cell 21;have x22:w.cell? ⟨gw,22,none⟩=some (.int .i64 (u.a 2)):=h.X.cell 22;have x23:w.cell? ⟨gw,23,none⟩=some (.int .i64 (u.a 3)):=h.X.cell 23;clear h ha;go_in;go_upto_region 2 with fail;clear x20 x21 x22 x23;generalize w.alloc (.cells #[.int .i64 (u.a 0), .int .i64 (u.a 1), .int .i64 (u.a 2), .int .i64 (u.a 3)] 48)=w0 at *;have W0:=Hd (HW.o.below S0.o.b);have x19:w0.cell? ⟨gw,19,none⟩=some (.int .i64 u.z):=W0.o.X.cell 19;have y0:w0.cell? ⟨w.heap.size,0,none⟩=some (.int .i64 (u.a 0)):=S0.o.x.cell 0;have y1:w0.cell? ⟨w.heap.size,1,none⟩=some (.int .i64 (u.a 1)):=S0.o.x.cell 1;by_cases hz:u.z=6;case pos=>
  rw [hz] at x19;by_cases h1:u.a 0 < 0;case pos=>
   go_wp2_with fail;go_ret;exact ⟨⟨_,rfl⟩,S0.o.b⟩
  case neg=>
   by_cases h2:63 < u.a 0;case pos=>
    go_wp2_with fail;go_ret;exact ⟨⟨_,rfl⟩,S0.o.b⟩
   case neg=>
    cases h3:(bits BinOp.and IntKind.i64 (u.a 0) 3 == 0) with
    | true=>
     go_wp2_with fail;go_ret;exact ⟨⟨_,rfl⟩,S0.o.b⟩
    | false=>
     go_wp2_with fail;refine (Bo (u.a 1) w0).mono ?_;rintro e w2 ⟨⟨b,rfl⟩,rfl⟩;cases b with
     | false=>
      go_wp2_with fail;go_ret;exact ⟨⟨_,rfl⟩,S0.o.b⟩
     | true=>
      have x17:w0.cell? ⟨gw,17,none⟩=some (.slice u.O u.no u.co):=W0.o.X.cell 17;by_cases h4:(8:Int)≤(u.no:Int);case pos=>
       go_wp2_with fail;go_ret;exact ⟨⟨_,rfl⟩,S0.o.b⟩
      case neg=>
       go_wp2_with fail;go_ret;exact ⟨⟨_,rfl⟩,S0.o.b⟩
 case neg=>
  have p6:=(aM hz).1;clear hz;by_cases hz:u.z=9;case pos=>
   rw [hz] at x19;have hz9:=(fV HA.o.ck).2.1;rw [hz,show (dE 9).least=1 by decide+kernel] at hz9;have hg0:0 < gs.length:=(by omega);obtain ⟨ad,eG,hab,hcx⟩:=HA.o.G 0 hg0;have HS:=Hd (HA.o.hg _ (List.getElem_mem hg0));generalize gs[0]'hg0=s at *;have hcy:w0.cell? ad=some (.string s):=(S0.o.b.cell (by have:=HW.o.big;have h3:=hab;omega)).trans (oF ad ▸ hcx);have x25:w0.cell? ⟨gw,25,none⟩=some (.slice (some ad) u.ng u.cg):=(by rw [← eG];exact W0.o.X.cell 25);have g1:(0:Int) < (u.ng:Int):=(by rw [HA.o.ng];omega);clear hcx eG hab hz9;cases he:s.toList.isEmpty with
   | true=>
    go_wp2_with fail;go_ret;exact ⟨⟨_,rfl⟩,S0.o.b⟩
   | false=>
    go_wp2_with fail;go_loopw [4] (fun i wr=>∃ k:Nat,k≤s.size∧i= .int .i64 k∧wr=w0) (fun i _=>s.size - (intOf i).toNat);case atStart=>exact ⟨0,Nat.zero_le _,rfl,rfl⟩
    case round=>
     obtain ⟨k,hk,rfl,rfl⟩:=hrel;have WK:=Hd (bz hk (by have:=HS.o;omega));by_cases hlt:k < s.size;case neg=>
      have k1:¬ (k:Int) < (s.size:Int):=(by omega);go_wp2_with fail;go_ret;exact ⟨⟨_,rfl⟩,S0.o.b⟩
     case pos=>
      have k1:(k:Int) < (s.size:Int):=(by omega);have k2:(0:Int)≤(k:Int):=(by omega);cases hz:((s[k].toNat:Int) == 0);case true=>
       go_wp2_with fail;go_ret;exact ⟨⟨_,rfl⟩,S0.o.b⟩
      case false=>
       obtain ⟨wk1,wk2⟩:=WK.o;go_wp2_with fail;clear wk1 wk2;go_roundw;case rel=>exact ⟨k+1,hlt,rfl,by first | rfl | trivial⟩
       case measure=>exact aN hlt _ rfl
  case neg=>
   have p9:=(aM hz).1;clear hz;by_cases hz:u.z=11;case pos=>
    rw [hz] at x19;go_wp2_with fail;refine (Bo (u.a 0) w0).mono ?_;rintro e w2 ⟨⟨b,rfl⟩,rfl⟩;cases b with
    | false=>
     go_wp2_with fail;go_ret;exact ⟨⟨_,rfl⟩,S0.o.b⟩
    | true=>
     go_wp2_with fail;go_ret;exact ⟨⟨_,rfl⟩,S0.o.b⟩
   case neg=>
    have p11:=(aM hz).1;clear hz;by_cases hz:u.z=14;case pos=>
     rw [hz] at x19;go_wp2_with fail;refine (Bo (u.a 0) w0).mono ?_;rintro e w2 ⟨⟨b,rfl⟩,rfl⟩;cases b with
     | false=>
      go_wp2_with fail;go_ret;exact ⟨⟨_,rfl⟩,S0.o.b⟩
     | true=>
      go_wp2_with fail;go_ret;exact ⟨⟨_,rfl⟩,S0.o.b⟩
    case neg=>
     have p14:=(aM hz).1;clear hz;by_cases hz:u.z=15;case pos=>
      rw [hz] at x19;by_cases h1:u.a 0 < 0;case pos=>
       go_wp2_with fail;go_ret;exact ⟨⟨_,rfl⟩,S0.o.b⟩
      case neg=>
       by_cases h2:4294967295 < u.a 0;case pos=>
        go_wp2_with fail;go_ret;exact ⟨⟨_,rfl⟩,S0.o.b⟩
       case neg=>
        by_cases h3:u.a 1 < 0;case pos=>
         go_wp2_with fail;go_ret;exact ⟨⟨_,rfl⟩,S0.o.b⟩
        case neg=>
         by_cases h4:4294967295 < u.a 1;case pos=>
          go_wp2_with fail;go_ret;exact ⟨⟨_,rfl⟩,S0.o.b⟩
         case neg=>
          go_wp2_with fail;go_ret;exact ⟨⟨_,rfl⟩,S0.o.b⟩
     case neg=>
      have p15:=(aM hz).1;clear hz;by_cases hz:u.z=17;case pos=>
       rw [hz] at x19;have x8:w0.cell? ⟨gw,8,none⟩=some (.int .i64 u.p.eu):=W0.o.X.cell 8;cases h1:(u.p.eu == 0) with
       | true=>
        go_wp2_with fail;go_ret;exact ⟨⟨_,rfl⟩,S0.o.b⟩
       | false=>
        go_wp2_with fail;go_ret;exact ⟨⟨_,rfl⟩,S0.o.b⟩
      case neg=>
       have p17:=(aM hz).1;clear hz;by_cases hz:u.z=21;case pos=>
        rw [hz] at x19;by_cases h1:u.a 0 < 0;case pos=>
         go_wp2_with fail;go_ret;exact ⟨⟨_,rfl⟩,S0.o.b⟩
        case neg=>
         go_wp2_with fail;go_ret;exact ⟨⟨_,rfl⟩,S0.o.b⟩
       case neg=>
        have p21:=(aM hz).1;clear hz;go_wp2_with fail;go_ret;exact ⟨⟨_,rfl⟩,S0.o.b⟩
theorem kC {P:Program} {ops:Array Oper} {rest:List Oper} {o:Oper} {a:Act} {w:World} {Q:Exit→Act→World→Prop} (hgd:o.guard=none) (t:TypeId) (parts:Array (Nat×Operand)) (ho:o.op= .build t parts)
  (cells:Array Value) (hf:P.built t (parts.map fun (i,x)=>(i,a.eval x)).toList=some cells) (h:wpList P ops Q rest (a.put o.dst (.agg cells)) w):wpList P ops Q (o :: rest) a w:=
 wpList_plain hgd fun _ hK=>wp_build t parts ho (by rw [hf];rfl) (by rw [hf];exact hK _ _ h)
theorem Bt {fn:Func} {p:Nat} (h:fn.results=#[.cell p 73]) (tmps:Array Value) (w:World) (g:Nat) (y:Itm) (r:bF) (hp:tmps.getD p undef= .pointer (some ⟨g,0,none⟩)) (hg:Blk w g 73 (aZ y r)):
  (results fn tmps).run Tryz.prog w= .ok (.agg (aZ y r)) w:=
 results_cell_row h tmps w g _ (aZ y r) (0,0) _ hp hg Tryz.underlying73 rfl (jq y r)
def kQ (gv:ByteArray) (x:Fo) (nd:Nd) (pm:Int):Itm×bF:=(⟨x.fd,x.fi,nd.uid,nd.gid,nd.kind⟩,⟨gv,x.pa,x.dd,x.di,x.nm,1,nd.mode,pm⟩)
theorem xY (gv:ByteArray) (x:Fo) (nd:Nd) (pm:Int):Tryz.prog.built 73 [(0, .string gv),(1, .string x.pa),(2, .agg #[.int .i64 x.dd, .int .i64 x.di]),(3, .string x.nm),(4, .agg #[.int .i64 x.fd, .int .i64 x.fi]),(5, .int .i64 1),(6, .int .i64 nd.kind),(7, .int .i64 nd.mode),(8, .int .i64 nd.uid),(9, .int .i64 nd.gid),(10, .int .i64 pm)]=some (aZ (kQ gv x nd pm).1 (kQ gv x nd pm).2):=by
 kernel_rfl
theorem uS (gv:ByteArray) (pm:Int):Tryz.prog.built 73 [(0, .string gv),(5, .int .i64 1),(10, .int .i64 pm)]=some (aZ ⟨0,0,0,0,0⟩ ⟨gv,⟨#[]⟩,0,0,⟨#[]⟩,1,0,pm⟩):=by
 kernel_rfl
def Jk (gv:ByteArray) (x:Fo) (w:World) (e:Ending) (w' :World):Prop:=∃ (y:Itm) (r:bF),e= .returned (.agg (aZ y r))∧r.gv=gv∧r.pa=x.pa∧r.nm=x.nm∧Below w.heap.size w w'
theorem Bu (gv:ByteArray) (pm:Int) (x:Fo) (ds:List Dm) (A:Option Addr) (n c:Nat) (hn:n=ds.length) (Am:Option Addr) (nm cm:Nat) (w:World) (h:bV w w.heap.size A ds):
  Calls Tryz.prog 137 #[.agg #[slV A n c,slV Am nm cm], .string gv, .int .i64 pm, .agg (foC x)] w (Jk gv x w):=by
 have HN:=Hd hn;have s1:(w.alloc (.cells #[slV A n c,slV Am nm cm] 31)).heap.size=w.heap.size+1:=by simp
 have s2:((w.alloc (.cells #[slV A n c,slV Am nm cm] 31)).alloc (.cells (foC x) 223)).heap.size=w.heap.size+1+1:=by simp
 have b2:=Blk.new (w.alloc (.cells #[slV A n c,slV Am nm cm] 31)) (foC x) 223;rw [s1] at b2;have b3:=Blk.new ((w.alloc (.cells #[slV A n c,slV Am nm cm] 31)).alloc (.cells (foC x) 223)) ko 73;rw [s2] at b3;have BB:=Hd (show Below w.heap.size w (((w.alloc (.cells #[slV A n c,slV Am nm cm] 31)).alloc (.cells (foC x) 223)).alloc (.cells ko 73)) from (((Below.refl _ _).alloc (Nat.le_refl _) _).alloc (by rw [s1];omega) _).alloc (by rw [s2];omega) _);have V0:=Hd (show Blk (((w.alloc (.cells #[slV A n c,slV Am nm cm] 31)).alloc (.cells (foC x) 223)).alloc (.cells ko 73)) w.heap.size 31 #[slV A n c,slV Am nm cm] from ((Blk.new w #[slV A n c,slV Am nm cm] 31).alloc _).alloc _);have X0:=Hd (show Blk (((w.alloc (.cells #[slV A n c,slV Am nm cm] 31)).alloc (.cells (foC x) 223)).alloc (.cells ko 73)) (w.heap.size+1) 223 (foC x) from b2.alloc _);have R0:=Hd b3;have HF:=Hd (h.below BB.o);clear h hn b2 b3 s1 s2;go_in;go_upto_region 1 with fail;generalize ((w.alloc (.cells #[slV A n c,slV Am nm cm] 31)).alloc (.cells (foC x) 223)).alloc (.cells ko 73)=w0 at *;have v0:=V0.o.cell 0;have x3:w0.cell? ⟨w.heap.size+1,3,none⟩=some (.int .i64 x.fd):=X0.o.cell 3;have x4:w0.cell? ⟨w.heap.size+1,4,none⟩=some (.int .i64 x.fi):=X0.o.cell 4;go_wp2_with fail;refine (bM x.fd x.fi ds A n c HN.o w0 HF.o).mono ?_;intro e w1 hp;obtain ⟨nd,An,nn,nc,bb,rfl,hb⟩:=hp.any;have hba:=aa hb ((Below.refl w1.heap.size w1).alloc (Nat.le_refl _) (.cells (ndC nd (.slice An nn nc)) 145));have X1:=Hd (X0.o.below hba);have R1:=Hd (R0.o.below hba);have N1:=Hd (Blk.new w1 (ndC nd (.slice An nn nc)) 145);have B1:=Hd (aa BB.o hba);clear hba hb V0 X0 R0 BB HF v0 x3 x4;go_upto_region 2 with fail;generalize w1.alloc (.cells (ndC nd (.slice An nn nc)) 145)=w2 at *;generalize w1.heap.size=gn at *;have x0:w2.cell? ⟨w.heap.size+1,0,none⟩=some (.int .i64 x.dd):=X1.o.cell 0;have x1:w2.cell? ⟨w.heap.size+1,1,none⟩=some (.int .i64 x.di):=X1.o.cell 1;have x2:w2.cell? ⟨w.heap.size+1,2,none⟩=some (.string x.nm):=X1.o.cell 2;have x3:w2.cell? ⟨w.heap.size+1,3,none⟩=some (.int .i64 x.fd):=X1.o.cell 3;have x4:w2.cell? ⟨w.heap.size+1,4,none⟩=some (.int .i64 x.fi):=X1.o.cell 4;have x7:w2.cell? ⟨w.heap.size+1,7,none⟩=some (.string x.pa):=X1.o.cell 7;have n1:w2.cell? ⟨gn,1,none⟩=some (.int .i64 nd.kind):=N1.o.cell 1;have n2:w2.cell? ⟨gn,2,none⟩=some (.int .i64 nd.mode):=N1.o.cell 2;have n3:w2.cell? ⟨gn,3,none⟩=some (.int .i64 nd.uid):=N1.o.cell 3;have n4:w2.cell? ⟨gn,4,none⟩=some (.int .i64 nd.gid):=N1.o.cell 4;go_wp2_with (first | ((with_reducible refine kC ?_ 73 _ ?_ (aZ (kQ gv x nd pm).1 (kQ gv x nd pm).2) ?_ ?_);rfl;rfl;(go_simp;exact xY gv x nd pm)) | ((with_reducible refine ae ?_ 73 (.tmp 8) (.tmp 37) ?_ R1.o (aZ (kQ gv x nd pm).1 (kQ gv x nd pm).2) ?_ ?_ ?_ ?_ ?_ ?_);(iterate 4 rfl);(exact jq _ _);rfl;(exact jT _ _)));refine bodyPost_ret (Bt (fn:=Tryz.f137) rfl _ _ (w.heap.size+1+1) (kQ gv x nd pm).1 (kQ gv x nd pm).2 rfl (Blk.row R1.o _)) rfl ?_;exact ⟨(kQ gv x nd pm).1,(kQ gv x nd pm).2,rfl,rfl,rfl,rfl,ai B1.o (by omega) _⟩
theorem uT (k md:Int) (s:ByteArray):Tryz.prog.built 145 [(1, .int .i64 k),(2, .int .i64 md),(6, .string s)]=some (ndC ⟨0,k,md,0,0,0,s, []⟩ (.slice none 0 0)):=by kernel_rfl
theorem uU (k md:Int):Tryz.prog.built 145 [(1, .int .i64 k),(2, .int .i64 md)]=some (ndC ⟨0,k,md,0,0,0,⟨#[]⟩, []⟩ (.slice none 0 0)):=by kernel_rfl
theorem WkA.arg {w:World} {base:Nat} {u:Wu} {ps gs:List ByteArray} (h:WkA w base u ps gs) (hz:u.z=9∨u.z=19):∃ (ad:Addr) (s:ByteArray),u.G=some ad∧ad.block < base∧w.cell? ad=some (.string s)∧s.size≤64∧(0:Int) < (u.ng:Int):=by
 have h1:=(fV h.ck).2.1;have h2:(dE u.z).least=1:=by
  rcases hz with hz | hz <;> rw [hz]
  · decide+kernel
  · decide+kernel
 rw [h2] at h1;have h3:0 < gs.length:=h1;obtain ⟨ad,e,hb,hc⟩:=h.G 0 h3;exact ⟨ad,gs[0]'h3,e,hb,oF ad ▸ hc,h.hg _ (List.getElem_mem h3),by rw [h.ng];omega⟩
theorem zA (base gw m:Nat) (u:Wu) (v:Wv) (ds:List Dm) (ms:List Mt) (fs:List Fo) (ps gs:List ByteArray) (hn:0 < fs.length) (hm:0 < m) (w:World) (ha:WkA w base u ps gs) (h:WkS w base gw u v ds ms fs m):
  Calls Tryz.prog 145 #[.pointer (some ⟨gw,0,none⟩)] w (WkP w base gw u fs m):=by
 have HW:=Hd h;have H0:=Hd hn;obtain ⟨gF,hF,_,_,hnF⟩:=aU h.O.ff hn;have HF:=Hd hF;have k1:(0:Int) < (v.nF:Int):=by rw [hnF];omega
 have k1a:0 < v.nF:=by omega
 have k1b:v.nF≠0:=by omega
 have k1c:¬ v.nF≤0:=by omega
 have HNM:=Hd (h.O.fk _ (List.getElem_mem H0.o));obtain ⟨a,ha⟩:∃ a,a=fs[0]'H0.o:=⟨_,rfl⟩;have HE0:=Hd ha.symm;have HNA:=Hd (show a.nm.size≤12∧a.pa.size≤640 by rw [ha];exact HNM.o);clear ha;have x26:w.cell? ⟨gw,26,none⟩=some (.slice (some ⟨gF,0,none⟩) v.nF v.cF):=by rw [← HF.o];exact h.X.cell 26
 have y00:w.cell? ⟨gF,0,none⟩=some (.int .i64 a.dd):=by have h9:=h.fnd HF.o H0.o 0 (by omega);rw [HE0.o] at h9;exact h9
 have y01:w.cell? ⟨gF,1,none⟩=some (.int .i64 a.di):=by have h9:=h.fnd HF.o H0.o 1 (by omega);rw [HE0.o] at h9;exact h9
 have y02:w.cell? ⟨gF,2,none⟩=some (.string a.nm):=by have h9:=h.fnd HF.o H0.o 2 (by omega);rw [HE0.o] at h9;exact h9
 have y03:w.cell? ⟨gF,3,none⟩=some (.int .i64 a.fd):=by have h9:=h.fnd HF.o H0.o 3 (by omega);rw [HE0.o] at h9;exact h9
 have y04:w.cell? ⟨gF,4,none⟩=some (.int .i64 a.fi):=by have h9:=h.fnd HF.o H0.o 4 (by omega);rw [HE0.o] at h9;exact h9
 have y05:w.cell? ⟨gF,5,none⟩=some (.bool a.ex):=by have h9:=h.fnd HF.o H0.o 5 (by omega);rw [HE0.o] at h9;exact h9
 have y06:w.cell? ⟨gF,6,none⟩=some (.bool a.sl):=by have h9:=h.fnd HF.o H0.o 6 (by omega);rw [HE0.o] at h9;exact h9
 have y07:w.cell? ⟨gF,7,none⟩=some (.string a.pa):=by have h9:=h.fnd HF.o H0.o 7 (by omega);rw [HE0.o] at h9;exact h9
 have S0:=Hd (RdW.new w 223 (foC a));clear h hn hF hnF HNM;go_in;go_upto_region 2 with fail;clear x26 k1 k1a k1b k1c y00 y01 y02 y03 y04 y05 y06 y07;generalize w.alloc (.cells (foC a) 223)=w0 at *;have HM:=Hd hm;have HA:=Hd ha;clear hm ha;have b5:w0.cell? ⟨w.heap.size,5,none⟩=some (.bool a.ex):=S0.o.x.cell 5;cases hc:a.ex;case true=>
  rw [hc] at b5;go_wp2_with fail;go_ret;exact ⟨_,v,ds,ms,rfl,HW.o.below S0.o.b,S0.o.b.mono HW.o.big⟩
 rw [hc] at b5;clear hc;go_upto_region 4 with fail;clear b5;have b6:w0.cell? ⟨w.heap.size,6,none⟩=some (.bool a.sl):=S0.o.x.cell 6;have x19:w0.cell? ⟨gw,19,none⟩=some (.int .i64 u.z):=(HW.o.below S0.o.b).X.cell 19;go_cut [13] (fun bv wx=>(∃ bb:Bool,bv= .bool bb)∧w0=wx);case first=>
  cases hsl:a.sl;case true=>
   rw [hsl] at b6;go_wp2_with fail;go_meet;exact ⟨⟨_,rfl⟩,rfl⟩
  case false=>
   rw [hsl] at b6;go_wp2_with fail;go_meet;exact ⟨⟨_,rfl⟩,rfl⟩
 case rest=>
 obtain ⟨⟨bb,rfl⟩,rfl⟩:=hcut;cases bb;case true=>
  go_wp2_with fail;go_ret;exact ⟨_,v,ds,ms,rfl,HW.o.below S0.o.b,S0.o.b.mono HW.o.big⟩
 have b0:w0.cell? ⟨w.heap.size,0,none⟩=some (.int .i64 a.dd):=S0.o.x.cell 0;have b1:w0.cell? ⟨w.heap.size,1,none⟩=some (.int .i64 a.di):=S0.o.x.cell 1;go_wp2_with fail;clear b0 b1 b6 x19;refine (uM base gw m u v ds ms fs a.dd a.di 2 w0 (HW.o.below S0.o.b)).mono ?_;rintro e w3 ⟨⟨bm,rfl⟩,hb⟩;replace S0:=Hd (S0.o.below hb);clear hb;cases bm;case false=>
  go_wp2_with fail;go_ret;exact ⟨_,v,ds,ms,rfl,HW.o.below S0.o.b,S0.o.b.mono HW.o.big⟩
 have x19:w3.cell? ⟨gw,19,none⟩=some (.int .i64 u.z):=(HW.o.below S0.o.b).X.cell 19;by_cases hz:u.z=9;case pos=>
  obtain ⟨ad,s,eG,hab,hcs,hss,g1⟩:=HA.o.arg (.inl hz);have HSS:=Hd hss;have hcy:w3.cell? ad=some (.string s):=(S0.o.b.cell (by have:=HW.o.big;omega)).trans hcs;have x25:w3.cell? ⟨gw,25,none⟩=some (.slice (some ad) u.ng u.cg):=by rw [← eG];exact (HW.o.below S0.o.b).X.cell 25
  clear hcs eG hss hab;obtain ⟨p1,p2⟩:=bE hz;clear hz;go_wp2_with ((with_reducible refine kC ?_ 145 _ ?_ (ndC ⟨0,3,511,0,0,0,s, []⟩ (.slice none 0 0)) ?_ ?_);rfl;rfl;(go_simp;exact uT 3 511 s));clear hcy x25 g1 p1 p2 x19;refine (pF base gw m u v ds ms fs 0 0 rfl H0.o HM.o ⟨0,3,511,0,0,0,s, []⟩ none 0 0 (by have:=HSS.o;show s.size≤maxLen;unfold maxLen;omega) w3 (HW.o.below S0.o.b)).mono ?_;rintro e w8 ⟨kk,v7,d7,rfl,hw7,hb7,_,_,_⟩;have W7:=Hd hw7;have B7:=Hd ((S0.o.b.mono HW.o.big).trans hb7);clear hw7 hb7;go_wp2_with fail;go_ret;exact ⟨kk,v7,d7,ms,rfl,W7.o,B7.o⟩
 obtain ⟨p1,p2⟩:=aM hz;clear hz;have x20:w3.cell? ⟨gw,20,none⟩=some (.int .i64 (u.a 0)):=(HW.o.below S0.o.b).X.cell 20;go_wp2_with ((with_reducible refine kC ?_ 145 _ ?_ (ndC ⟨0,2,u.a 0,0,0,0,⟨#[]⟩, []⟩ (.slice none 0 0)) ?_ ?_);rfl;rfl;(go_simp;exact uU 2 (u.a 0)));clear p1 p2 x19 x20;refine (pF base gw m u v ds ms fs 0 0 rfl H0.o HM.o ⟨0,2,u.a 0,0,0,0,⟨#[]⟩, []⟩ none 0 0 (by show (0:Nat)≤maxLen;exact Nat.zero_le _) w3 (HW.o.below S0.o.b)).mono ?_;rintro e w8 ⟨kk,v7,d7,rfl,hw7,hb7,_,_,_⟩;have W7:=Hd hw7;have B7:=Hd ((S0.o.b.mono HW.o.big).trans hb7);clear hw7 hb7;go_wp2_with fail;go_ret;exact ⟨kk,v7,d7,ms,rfl,W7.o,B7.o⟩
def BS (ex:Int):ByteArray:=if ex < 0 then ⟨#[110,111]⟩ else ⟨#[121,101,115]⟩
def qK (m:Mk) (key:ByteArray):List Pr:= [txP ⟨#[99,97,108,108]⟩ (dE m.r.n).name,txP ⟨#[115,117,99,99,101,115,115]⟩ (BS m.cx.ex),nuP ⟨#[101,120,105,116]⟩ m.cx.ex,nuP ⟨#[97,48]⟩ (m.cx.a 0),nuP ⟨#[97,49]⟩ (m.cx.a 1),nuP ⟨#[97,50]⟩ (m.cx.a 2),nuP ⟨#[97,51]⟩ (m.cx.a 3),nuP ⟨#[105,116,101,109,115]⟩ (m.is.length:Int),nuP ⟨#[112,112,105,100]⟩ (m.cx.p 1),nuP ⟨#[112,105,100]⟩ (m.cx.p 0),nuP ⟨#[97,117,105,100]⟩ (m.cx.p 6),nuP ⟨#[117,105,100]⟩ (m.cx.p 2),nuP ⟨#[103,105,100]⟩ (m.cx.p 4),nuP ⟨#[101,117,105,100]⟩ (m.cx.p 3),nuP ⟨#[101,103,105,100]⟩ (m.cx.p 5),nuP ⟨#[115,101,115]⟩ (m.cx.p 7),soP ⟨#[99,111,109,109]⟩ m.cx.comm,soP ⟨#[101,120,101]⟩ m.cx.exe,soP ⟨#[107,101,121]⟩ key]
def FJ (k:Nat):ByteArray:=⟨#[97,48+UInt8.ofNat k]⟩
def yA (args:List ByteArray):List Pr:=nuP ⟨#[97,114,103,99]⟩ args.length :: (args.take 4).mapIdx (fun k s=>txP (FJ k) s)
def BU (m:Mk) (s:ByteArray):List Pr:= [txP ⟨#[104,111,115,116]⟩ s,nuP ⟨#[112,111,114,116]⟩ (m.cx.a 0)]
def yB (s:ByteArray):List Pr:= [soP ⟨#[99,119,100]⟩ s]
def pM (k:Int):ByteArray:=if k=1 then ⟨#[102,105,108,101]⟩ else if k=2 then ⟨#[100,105,114]⟩ else if k=3 then ⟨#[108,105,110,107]⟩ else ⟨#[110,111,110,101]⟩
def pO (k:Int):ByteArray:=if k=1 then ⟨#[110,111,114,109,97,108]⟩ else if k=2 then ⟨#[99,114,101,97,116,101]⟩ else if k=3 then ⟨#[100,101,108,101,116,101]⟩ else ⟨#[110,111,110,101]⟩
def wS (i:Nat) (y:Itm) (r:bF):List Pr:= [nuP ⟨#[105,116,101,109]⟩ i,txP ⟨#[110,97,109,101]⟩ r.gv,soP ⟨#[112,97,116,104]⟩ r.pa,nuP ⟨#[100,101,118]⟩ y.dev,nuP ⟨#[105,110,111,100,101]⟩ y.ino,nuP ⟨#[109,111,100,101]⟩ r.mo,nuP ⟨#[111,117,105,100]⟩ y.uid,nuP ⟨#[111,103,105,100]⟩ y.gid,txP ⟨#[107,105,110,100]⟩ (pM y.kind),txP ⟨#[114,111,108,101]⟩ (pO r.ro),nuP ⟨#[112,101,114,109]⟩ r.pe]
def yC (m:Mk) (key:ByteArray) (args:List ByteArray) (cwd:ByteArray):List (Int×List Pr):=
 [(1300,qK m key)] ++ (if m.r.n=1 then [(1309,yA args)] else []) ++ (if m.r.n=19∧args.length=1 then [(1306,BU m (args.headD ⟨#[]⟩))] else [])
  ++ (if m.is.length=0 then [] else [(1307,yB cwd)]) ++ m.is.mapIdx (fun i p=>(1302,wS i p.1 p.2))
def df (m:Mk):List Rc→List (Int×List Pr)→List Rc
 | L, []=>L
 | L,x :: r=>df m (jL m L x.1 x.2) r
def evR (m:Mk) (key:ByteArray) (args:List ByteArray) (cwd:ByteArray):List Rc:=
 let L:=df m [] (yC m key args cwd)
 if L= [] then [] else L ++ [⟨1320,m.ti,0, []⟩]
theorem fF (m:Mk):∀ (a b:List (Int×List Pr)) (L:List Rc),df m L (a ++ b)=df m (df m L a) b
 | [],_,_=>rfl
 | x :: a,b,L=>fF m a b _
end Go.Proofs.YtollifnnpihfdaaGreatDoor
