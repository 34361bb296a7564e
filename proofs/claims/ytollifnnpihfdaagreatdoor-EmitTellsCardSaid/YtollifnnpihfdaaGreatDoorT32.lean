import Derived.RangeFuncNested
import Derived.RangeFuncBound
import Derived.Shelf.RegionOpen
import Derived.OwnWalkIn
import Derived.LoopNIn
import Derived.LoopIn
import Derived.StillTailTactics
import Derived.Lib.TrailingZeros
import Derived.Test.YtollifnnpihfdaaGreatDoorT22
set_option maxRecDepth 100000
set_option maxHeartbeats 64000000
set_option linter.all false
namespace Go.Proofs.YtollifnnpihfdaaGreatDoor
open Go.RowKit
attribute [local irreducible] dS cO
theorem dR {z:Int} (h:z < 0∨22≤z):bZ z=⟨⟨#[]⟩,0,0,0,0⟩:=h.elim qO lX
theorem EX (z:Int) (w:World) (hc:Calls10 w):Calls Tryz.prog 92 #[.int .i64 z] w fun e w' =>e= .returned (.string (bZ z).name)∧w=w' :=by
 by_cases h:z < 0∨22≤z
 · rw [dR h];exact uZ z h w
 · obtain ⟨n,rfl⟩:=Int.eq_ofNat_of_zero_le (show 0≤z by omega);rw [iY];exact Jn n (by omega) w hc
end Go.Proofs.YtollifnnpihfdaaGreatDoor
namespace Go.Proofs.YtollifnnpihfdaaGreatDoor
open Go.RowKit
abbrev BC (z:Int) (a:Nat→Int) (P:Option Addr) (np cp:Nat) (A:Option Addr) (na ca:Nat):Value:=
 .agg #[.int .i64 z, .int .i64 (a 0), .int .i64 (a 1), .int .i64 (a 2), .int .i64 (a 3), .slice P np cp, .slice A na ca]
def oI (m:Nat) (a:Nat→Int):Bool:=(List.range 4).all fun j=>decide (j < m) || a j == 0
theorem yo {m:Nat} {a:Nat→Int} {j:Nat} (h1:m≤j) (h2:j < 4) (h:a j≠0):oI m a=false:=by
 unfold oI;rw [List.all_eq_false];exact ⟨j,by simpa using h2,by simp;exact ⟨h1,h⟩⟩
theorem ve {m:Nat} {a:Nat→Int} (h:∀ j,m≤j→j < 4→a j=0):oI m a=true:=by
 unfold oI;rw [List.all_eq_true];intro j hj;simp at hj;by_cases hm:j < m
 · simp [hm]
 · simp [h j (by omega) hj]
def mY (z:Int) (a:Nat→Int) (ps gs:List ByteArray):Int:=
 if (bZ z).name.size=0 then 100 else if oI (bZ z).nums a=false then 101
 else if ps.length≠(bZ z).kN∨gs.length < (bZ z).least∨(bZ z).most < gs.length then 101
 else if iX ps 128=true∨iX gs 64=true then 102 else 0
theorem vg {z:Int} {a:Nat→Int} {ps gs:List ByteArray} {nm:ByteArray} {m p l u:Nat} (h:bZ z=⟨nm,m,p,l,u⟩):mY z a ps gs=
 if nm.size=0 then 100 else if oI m a=false then 101 else if ps.length≠p∨gs.length < l∨u < gs.length then 101 else if iX ps 128=true∨iX gs 64=true then 102 else 0:=by unfold mY;rw [h]
theorem EY {w:World} {g:Nat} {t:TypeId} {z:Int} {a:Nat→Int} {x y:Value} (h:Blk w g t #[.int .i64 z, .int .i64 (a 0), .int .i64 (a 1), .int .i64 (a 2), .int .i64 (a 3),x,y]) (k:Nat) (hk:k < 4):w.cell? ⟨g,1+k,none⟩=some (.int .i64 (a k)):=by
 rw [h.cell]
 match k,hk with
 | 0,_=>rfl
 | 1,_=>rfl
 | 2,_=>rfl
 | 3,_=>rfl
attribute [local irreducible] dS cO bZ mY oI iX
end Go.Proofs.YtollifnnpihfdaaGreatDoor
namespace Go.Proofs.YtollifnnpihfdaaGreatDoor
open Go.RowKit
theorem lY {s:ByteArray} (h:s.size=0):s.toList= []:=by
 rw [ByteArray.toList_eq];exact List.eq_nil_of_length_eq_zero (by rw [Array.length_toList];exact h)
theorem iZ {s:ByteArray} (h:s.size≠0):s.toList≠ []:=by
 rw [ByteArray.toList_eq];intro e;exact h (by have:=congrArg List.length e;rw [Array.length_toList] at this;exact this)
attribute [local irreducible] dS cO bZ mY oI iX
theorem yt (z:Int) (a:Nat→Int) (P:Option Addr) (cp:Nat) (A:Option Addr) (ca:Nat) (ps gs:List ByteArray) (w:World) (B:Nat) (hB:B≤w.heap.size) (hP:bD w B P ps) (hA:bD w B A gs) (hlp:ps.length≤1000) (hlg:gs.length≤1000) (hsp:∀ s∈ps,s.size≤maxLen) (hsg:∀ s∈gs,s.size≤maxLen):
   Calls Tryz.prog 83 #[BC z a P ps.length cp A gs.length ca] w fun e w' =>e= .returned (.int .i64 (mY z a ps gs))∧Below w.heap.size w w' :=by
 have HP:=Hd hP;have HA:=Hd hA;have HSP:=Hd hsp;have HSG:=Hd hsg;clear hP hA hsp hsg;have HG:=Hd (Jo z);have hsm:(bZ z).nums≤2∧(bZ z).kN≤2∧(bZ z).least≤1∧(bZ z).most≤4∧(bZ z).name.size≤8:=by
   by_cases hz:z < 0∨22≤z
   · rw [dR hz];decide
   · obtain ⟨n,rfl⟩:=Int.eq_ofNat_of_zero_le (show 0≤z by omega);rw [iY];exact rH n
 generalize hr:bZ z=r at *;have HR:=Hd (vg (a:=a) (ps:=ps) (gs:=gs) hr);clear hr;obtain ⟨nm,m,p,l,u⟩:=r;obtain ⟨s1,s2,s3,s4,_⟩:=hsm;by_cases hnm:nm.size=0
 · have e0:nm.toList.isEmpty=true:=(by rw [lY hnm];rfl);have e1:=lY hnm;have HN:=Hd hnm;clear hnm;go_in;go_wp2_with fail;refine (HG.o _).mono ?_;rintro e w1 ⟨rfl,hb⟩;unfold ko.val;go_wp2_with fail;go_ret;exact ⟨by rw [HR.o,if_pos HN.o];rfl,(nM hb).alloc (nM hb).size _⟩
 · have e0:nm.toList.isEmpty=false:=(by simpa using iZ hnm);have e1:=iZ hnm;go_in;go_wp2_with fail;refine (HG.o _).mono ?_;rintro e w1 ⟨rfl,hb⟩;unfold ko.val;have HG1:=(Blk.new w _ _).keep (boxed hb) (by omega);have HB1:=nM hb;clear hb;go_wp2_with fail;have HG2:=HG1.alloc (.cells #[.string nm, .int .i64 (m:Int), .int .i64 (p:Int), .int .i64 (l:Int), .int .i64 (u:Int)] 147);have HRW:=Blk.new w1 #[.string nm, .int .i64 (m:Int), .int .i64 (p:Int), .int .i64 (l:Int), .int .i64 (u:Int)] 147;have HB:=Hd (HB1.alloc HB1.size (.cells #[.string nm, .int .i64 (m:Int), .int .i64 (p:Int), .int .i64 (l:Int), .int .i64 (u:Int)] 147));clear HG1 HB1;generalize w1.alloc (.cells #[.string nm, .int .i64 (m:Int), .int .i64 (p:Int), .int .i64 (l:Int), .int .i64 (u:Int)] 147)=w2 at *;generalize w1.heap.size=g1 at *;have q5:=HG2.cell 5;have q6:=HG2.cell 6;have HQ:=Hd (fun k hk=>EY HG2 k hk);have r1:=HRW.cell 1;have r2:=HRW.cell 2;have r3:=HRW.cell 3;have r4:=HRW.cell 4;clear HRW HG2;have HP1:=Hd (HP.o.keep HB.o hB);have HA1:=Hd (HA.o.keep HB.o hB);go_loop [4] (fun i=>∃ k:Nat,m≤k∧k≤4∧i= .int .i64 k∧Hid (∀ j,m≤j→j < k→a j=0)) (fun i=>4 - (intOf i).toNat);case atStart=>exact ⟨m,Nat.le_refl _,by omega,rfl,fun j h1 h2=>by omega⟩
   case round=>
     obtain ⟨k,hk0,hk,rfl,hno⟩:=hrel;by_cases hlt:k < 4
     · have hcell:=HQ.o k (by omega);by_cases ha:a k=0
       · have HN:=Hd (show ∀ j,m≤j→j < k+1→a j=0 from fun j h1 h2=>by
           by_cases e:j=k
           · rw [e];exact ha
           · exact hno.o j h1 (by omega))
         rw [ha] at hcell;clear ha;go_wp2_with fail
         go_round
         case rel=>exact ⟨k+1,by omega,by omega,by go_num,HN.o⟩
         case measure=>simp [intOf];omega
       · have HZ:=Hd (yo (m:=m) (a:=a) (j:=k) (by omega) (by omega) ha);have hab:(a k != 0)=true:=(by simpa using ha);clear ha;generalize a k=v at *;go_wp2_with fail;go_ret;exact ⟨by rw [HR.o,if_neg hnm,if_pos HZ.o];rfl,HB.o⟩
     · have HZ:=Hd (ve (m:=m) (a:=a) fun j h1 h2=>hno.o j h1 (by omega));clear hno;go_wp2_with fail;(all_goals try (go_ret;exact ⟨by rw [HR.o,if_neg hnm,if_neg (by rw [HZ.o];simp),if_pos (by omega)];rfl,HB.o⟩));have HK:=Hd (show ¬ (ps.length≠p∨gs.length < l∨u < gs.length) by omega);go_loop [5] (fun i=>∃ k:Nat,k≤ps.length∧i= .int .i64 k∧Hid (∀ j (hj:j < ps.length),j < k→ps[j].size≤128)) (fun i=>ps.length - (intOf i).toNat);case atStart=>exact ⟨0,Nat.zero_le _,rfl,fun j _ hj=>by omega⟩
       case round=>
         obtain ⟨k,hk,rfl,hno⟩:=hrel;by_cases hlt:k < ps.length
         · obtain ⟨ad,e,J5,hc⟩:=HP1.o k hlt;cases e;have hsz:=HSP.o _ (List.getElem_mem hlt);unfold maxLen at hsz;by_cases ho:128 < ps[k].size
           · have HL:=Hd (uQ hlt ho);generalize ps[k]=s at *;go_wp2_with fail;go_ret;exact ⟨by rw [HR.o,if_neg hnm,if_neg (by rw [HZ.o];simp),if_neg HK.o,if_pos (.inl HL.o)];rfl,HB.o⟩
           · have HN:=Hd (show ∀ j (hj:j < ps.length),j < k+1→ps[j].size≤128 from fun j hj hjk=>by
               by_cases e:j=k
               · subst e;omega
               · exact hno.o j hj (by omega))
             generalize ps[k]=s at *;go_wp2_with fail
             go_round
             case rel=>exact ⟨k+1,by omega,by go_num,HN.o⟩
             case measure=>simp [intOf];omega
         · have L1:=Hd (qJ fun j hj=>hno.o j hj (by omega));clear hno;go_wp2_with fail;go_loop [6] (fun i=>∃ k:Nat,k≤gs.length∧i= .int .i64 k∧Hid (∀ j (hj:j < gs.length),j < k→gs[j].size≤64)) (fun i=>gs.length - (intOf i).toNat);case atStart=>exact ⟨0,Nat.zero_le _,rfl,fun j _ hj=>by omega⟩
           case round=>
             obtain ⟨k,hk,rfl,hno⟩:=hrel;by_cases hlt:k < gs.length
             · obtain ⟨ad,e,J5,hc⟩:=HA1.o k hlt;cases e;have hsz:=HSG.o _ (List.getElem_mem hlt);unfold maxLen at hsz;by_cases ho:64 < gs[k].size
               · have HL:=Hd (uQ hlt ho);generalize gs[k]=s at *;go_wp2_with fail;go_ret;exact ⟨by rw [HR.o,if_neg hnm,if_neg (by rw [HZ.o];simp),if_neg HK.o,if_pos (.inr HL.o)];rfl,HB.o⟩
               · have HN:=Hd (show ∀ j (hj:j < gs.length),j < k+1→gs[j].size≤64 from fun j hj hjk=>by
                  by_cases e:j=k
                  · subst e;omega
                  · exact hno.o j hj (by omega))
                 generalize gs[k]=s at *;go_wp2_with fail
                 go_round
                 case rel=>exact ⟨k+1,by omega,by go_num,HN.o⟩
                 case measure=>simp [intOf];omega
             · have L2:=Hd (qJ fun j hj=>hno.o j hj (by omega));clear hno;go_wp2_with fail;go_ret;exact ⟨by rw [HR.o,if_neg hnm,if_neg (by rw [HZ.o];simp),if_neg HK.o,if_neg (by rw [L1.o,L2.o];simp)];rfl,HB.o⟩
end Go.Proofs.YtollifnnpihfdaaGreatDoor
namespace Go.Proofs.YtollifnnpihfdaaGreatDoor
open Go.ChangeShapes Go.WideShapes Go.RowKit
theorem ma (a:Addr) (n:Nat):(a.add n).block=a.block:=by unfold Addr.add;split <;> rfl
abbrev MC (t:Tst):Array Value:=Jc t.fd t.op t.nu t.tx t.ot
def iH (w:World) (B:Nat) (A:Option Addr) (ts:List Tst):Prop:=∀ k (hk:k < ts.length),∃ ad:Addr,A=some ad∧ad.block < B∧∀ j,j < 5→w.cell? ((ad.add (k * 5)).add j)=(MC (ts[k]'hk))[j]?
theorem iH.keep {w w' :World} {B B' :Nat} {A:Option Addr} {ts:List Tst} (h:iH w B A ts) (hb:Below B' w w') (hB:B≤B'):iH w' B A ts:=fun k hk=>by
 obtain ⟨ad,e,hl,hc⟩:=h k hk;exact ⟨ad,e,hl,fun j hj=>(hb.cell (by rw [ma,ma];omega)).trans (hc j hj)⟩
theorem iH.more {w:World} {B B' :Nat} {A:Option Addr} {ts:List Tst} (h:iH w B A ts) (hB:B≤B'):iH w B' A ts:=fun k hk=>by
 obtain ⟨ad,e,hl,hc⟩:=h k hk;exact ⟨ad,e,by omega,hc⟩
abbrev ME (r:Rul) (v:Value):Array Value:=#[.int .i64 r.li, .int .i64 r.ac, .int .u64 (r.ca:Int),v, .int .i64 r.wa, .string r.pa, .int .i64 r.pe, .string r.ke]
section
variable {w:World} {g:Nat} {r:Rul} {v:Value}
end
structure Mid (lo hi:Nat) (A B:World):Prop where
 low:Below lo A B
 high:∀ b,hi≤b→b < A.heap.size→B.heap[b]? =A.heap[b]?
theorem jb {lo l:Nat} (A:World) (o:Obj) (h:lo≤l) (hl:l < A.heap.size):Below lo A (A.putObj l o):=
 (Below.refl lo A).grown (grownBy_putObj' A l o) (by omega) (fun k e=>by cases e;exact h)
variable {F:Fence} {n:Nat} {P:Program}
end Go.Proofs.YtollifnnpihfdaaGreatDoor
namespace Go.Proofs.YtollifnnpihfdaaGreatDoor
open Go.RowKit
abbrev noT:Value:= .slice none 0 0
section
variable {w wr w' :World} {g n c k k' :Nat} {A:Option Addr} {ws:List ByteArray} {b b' :Bool} {r r' :Rul}
end
structure MkR (r:Rul):Prop where
 ca:r.ca < 18446744073709551616
 pa:r.pa.size≤10
 ke:r.ke.size≤10
 ts:∀ t∈r.ts,(-13≤t.nu∧t.nu≤4294967295)∧t.tx.size≤5
section
variable {w wr w' :World} {base g gc:Nat} {b b' :Int} {r r' :Rul} {tv:Value}
end
structure Ru where
 r:Rul
 A:Option Addr
 c:Nat
theorem Tryz.Fx:(Tryz.prog.info? 90).map (fun i=>(i.zero,i.size,i.bytes))=some (some (.agg (ME JM noT)),8,96):=by kernel_rfl
def ERu:El Ru where
 C x:= [.int .i64 x.r.li, .int .i64 x.r.ac, .int .u64 (x.r.ca:Int), .slice x.A x.r.ts.length x.c, .int .i64 x.r.wa, .string x.r.pa, .int .i64 x.r.pe, .string x.r.ke]
 e:=90
 sl:=38
 sz:=8
 bs:=96
 len _:=rfl
 one x u hu:=by simp at hu;rcases hu with rfl | rfl | rfl | rfl | rfl | rfl | rfl | rfl <;> rfl
 pos:=by omega
 small:=by omega
 hu:=Tryz.underlying38
 info:=by
  obtain ⟨i0,h1,h2,h3,h4⟩:=info_parts Tryz.Fx;exact ⟨i0,_,h1,h2,h3,h4,rfl⟩
def GdR (r:Rul):Prop:=MkR r∧r.ts.length≤3
structure xm (w:World) (B:Nat) (A:Option Addr) (xs:List Ru):Prop where
 at_:AtE ERu w B A xs
 few:xs.length≤1000
 ts:∀ x∈xs,iH w B x.A x.r.ts∧GdR x.r
section
variable {w w' :World} {B B' base:Nat} {A:Option Addr} {v v' :Value} {xs:List Ru}
theorem xm.keep (h:xm w B A xs) (hb:Below B' w w') (hB:B≤B'):xm w' B A xs:=⟨h.at_.keep hb hB,h.few,fun x hx=>⟨(h.ts x hx).1.keep hb hB,(h.ts x hx).2⟩⟩
theorem xm.more (h:xm w B A xs) (hB:B≤B'):xm w B' A xs:=⟨h.at_.more hB,h.few,fun x hx=>⟨(h.ts x hx).1.more hB,(h.ts x hx).2⟩⟩
end
def eH (w:World) (base:Nat) (v:Value) (L:List Rc):Prop:=∃ xs:List Rm,xs.map (·.r)=L∧ay ER w base v xs∧∀ x∈xs,ay EP w base x.sl x.r.ps
section
variable {w w' :World} {base:Nat} {v v' :Value} {L:List Rc}
theorem eH.nil (w:World) (base:Nat):eH w base (.slice none 0 0) []:=⟨[],rfl,ay.nil _ _,fun _ h=>by cases h⟩
theorem eH.below (h:eH w base v L) (hb:Below w.heap.size w w'):eH w' base v L:=by
 obtain ⟨xs,e,ho,hp⟩:=h;exact ⟨xs,e,ho.below hb,fun x hx=>(hp x hx).below hb⟩
theorem eH.cell (h:eH w base v L) {g i:Nat} {t:TypeId} {cs:Array Value} (hg:Blk w g t cs) (h1:(77:Nat)≠t) (h2:(79:Nat)≠t) (u:Value):eH (w.setCell ⟨g,i,none⟩ u) base v L:=by
 obtain ⟨xs,e,ho,hp⟩:=h;exact ⟨xs,e,ho.bV (az ho hg h1) u,fun x hx=>(hp x hx).bV (az (hp x hx) hg h2) u⟩
theorem eH.app (h:eH w base v L) (x:Rm) {xs:List Rm} (e:xs.map (·.r)=L) (ho:ay ER w base v xs) (hp:∀ x∈xs,ay EP w base x.sl x.r.ps) (hx:ay EP w base x.sl x.r.ps) (hn:ay ER w' base v' (xs ++ [x])) (hg:w.grownBy w' v.ownBlock):eH w' base v' (L ++ [x.r]):=by
 refine ⟨xs ++ [x],by rw [List.map_append,e];rfl,hn,fun y hy=>?_⟩;have k:∀ {y:Rm},ay EP w base y.sl y.r.ps→ay EP w' base y.sl y.r.ps:=fun {y} hy=>hy.far hg (fun k e r=>aC hy ho (show (79:Nat)≠77 by decide) k e r);rcases List.mem_append.1 hy with hy | hy
 · exact k (hp y hy)
 · rw [List.mem_singleton.1 hy];exact k hx
end
structure Mk where
 A:Option Addr
 n:Nat
 c:Nat
 v2:Value
 cx:Ctx
 r:eD
 Ai:Option Addr
 ni:Nat
 ci:Nat
 ti:Int
 rs:List Ru
 is:List (Itm×bB)
def Mk.C (m:Mk) (v:Value):Array Value:=#[.slice m.A m.n m.c,m.v2, .int .i64 m.cx.ph, .int .i64 (m.cx.p 0), .int .i64 (m.cx.p 1), .int .i64 (m.cx.p 2), .int .i64 (m.cx.p 3), .int .i64 (m.cx.p 4), .int .i64 (m.cx.p 5), .int .i64 (m.cx.p 6), .int .i64 (m.cx.p 7), .int .i64 m.r.d, .int .i64 m.r.i, .string m.cx.comm, .string m.cx.exe,m.r.o.v, .bool m.r.u, .int .i64 m.r.n, .int .i64 (m.cx.a 0), .int .i64 (m.cx.a 1), .int .i64 (m.cx.a 2), .int .i64 (m.cx.a 3),m.r.ps.v,m.r.gs.v, .int .i64 m.cx.ex, .slice m.Ai m.ni m.ci, .int .i64 m.cx.ty, .int .i64 m.ti,v]
abbrev Mk.X (m:Mk):Array Value:=gB m.cx m.r (.slice m.Ai m.ni m.ci)
abbrev Mk.P (m:Mk):Array Value:=#[.slice m.A m.n m.c,m.v2]
def Mk.ex (m:Mk) (t:Int):Bool:=pU (m.rs.map (·.r)) m.cx m.r.n (m.is.map (·.1)) t
theorem Mk.FB (m:Mk) (t:Int):m.ex t=pU (m.rs.map (·.r)) m.cx m.r.n (m.is.map (·.1)) t:=rfl
theorem Mk.list (m:Mk) (v:Value):(m.C v).toList= [.slice m.A m.n m.c,m.v2] ++ (m.X.toList ++ [.int .i64 m.ti,v]):=rfl
theorem Mk.sub (m:Mk) (v:Value) (j:Nat) (u:Value) (h:m.X.toList[j]? =some u):(m.C v)[2+j]? =some u:=by
 rw [← Array.getElem?_toList,m.list,List.getElem?_append_right (by simp)];have hj:j < m.X.toList.length:=(List.getElem?_eq_some_iff.1 h).1;rw [List.getElem?_append_left (by simpa using hj)];simpa using h
theorem Mk.c27 (m:Mk) (v:Value):(m.C v)[27]? =some (.int .i64 m.ti):=rfl
theorem Mk.c28 (m:Mk) (v:Value):(m.C v)[28]? =some v:=rfl
theorem Mk.set (m:Mk) (v u:Value):(m.C v).setIfInBounds 28 u=m.C u:=rfl
def MG (m:Mk):Prop:=∀ (t:Int) (w:World),xm w w.heap.size m.A m.rs→bY w w.heap.size m.Ai m.is→
 Calls Tryz.prog 94 #[.agg m.P, .agg m.X, .int .i64 t] w fun e w' =>e= .returned (.bool (m.ex t))∧Below w.heap.size w w'
structure Mk.Ok (m:Mk):Prop where
 hn:m.n=m.rs.length
 hi:m.ni=m.is.length
 few:m.ni≤1000
 xc:MG m
structure EvG (m:Mk) (w:World) (base g:Nat) (L:List Rc):Prop where
 blk:∃ v,Blk w g 124 (m.C v)∧eH w base v L
 hg:base≤g
 rules:xm w base m.A m.rs
 items:bY w base m.Ai m.is
 ok:m.Ok
 few:L.length≤2000
def jR (m:Mk) (L:List Rc) (t:Int) (ps:List Pr):List Rc:=if m.ex t=true then L else L ++ [⟨t,m.ti,0,ps⟩]
section
variable {m:Mk} {w w' :World} {base g:Nat} {L:List Rc}
theorem EvG.below (h:EvG m w base g L) (hb:Below w.heap.size w w'):EvG m w' base g L:=by
 obtain ⟨v,h1,h2⟩:=h.blk;have hl:base≤w.heap.size:=Nat.le_trans h.hg (Nat.le_of_lt h1.lt);exact ⟨⟨v,h1.below hb,h2.below hb⟩,h.hg,h.rules.keep hb hl,h.items.keep hb hl,h.ok,h.few⟩
theorem EvG.lt (h:EvG m w base g L):g < w.heap.size:=by
 obtain ⟨v,h1,_⟩:=h.blk;exact h1.lt
end
theorem zW {m:Mk} {w:World} {g:Nat} {v:Value} (h:Blk w g 124 (m.C v)):(loadVar 54 ⟨g,2,none⟩).run Tryz.prog w= .ok (.agg m.X) w:=
 qF (fun j u hu=>by rw [Hm,h.cell];exact m.sub v j u hu) Tryz.underlying54 rfl (qI _ _ _)
theorem FC {m:Mk} {w:World} {g:Nat} {v:Value} (h:Blk w g 124 (m.C v)):(loadVar 41 ⟨g,0,none⟩).run Tryz.prog w= .ok (.agg m.P) w:=
 qF (fun j u hu=>by
  rw [Hm,h.cell]
  match j with
  | 0=>simp at hu;subst hu;rfl
  | 1=>simp at hu;subst hu;rfl
  | j+2=>simp at hu) Tryz.underlying41 rfl (by show _=some 2;kernel_rfl)
theorem ig.num {w:World} {g:Nat} {c:Ctx} {r:eD} {it:Value} (h:ig w g c r it):w.cell? ⟨g,15,none⟩=some (.int .i64 r.n):=h.cell 15
theorem yJ (c:Ctx) (r:eD) (it:Value) (t:Int):(gB c r it).setIfInBounds 24 (.int .i64 t)=gB { c with ty:=t } r it:=rfl
theorem FM (a:Addr) (w:World):(loadVar 86 a).run Tryz.prog w=(load a).run Tryz.prog w:=by
 unfold loadVar;simp [go_sem]
theorem FN (a:Addr) (w:World):(loadVar 88 a).run Tryz.prog w=(load a).run Tryz.prog w:=by
 unfold loadVar;simp [go_sem]
theorem FO (a:Addr) (w:World):(loadVar 38 a).run Tryz.prog w=(load a).run Tryz.prog w:=by
 unfold loadVar;simp [go_sem]
attribute [-go_sem] loadVar
attribute [local go_sem] BV BZ FM FN FO
attribute [local irreducible] gB hasB ic xS vO
end Go.Proofs.YtollifnnpihfdaaGreatDoor
namespace Go.Proofs.YtollifnnpihfdaaGreatDoor
open Go.RowKit
attribute [-go_sem] loadVar
attribute [local go_sem] BV BZ FM FN FO
attribute [local irreducible] gB zT
theorem Cg {t:Int} (h:zU t=true):t=1005∨t=1300∨t=1306∨t=1307∨t=1302∨t=1309:=by
 unfold zU at h;simp only [Bool.or_eq_true,beq_iff_eq] at h;omega
theorem FP {t:Int} (h:zU t=false):(t == 1005)=false∧(t == 1300)=false∧(t == 1306)=false∧(t == 1307)=false∧(t == 1302)=false∧(t == 1309)=false:=by
 unfold zU at h;simp only [Bool.or_eq_false_iff] at h;obtain ⟨⟨⟨⟨⟨h1,h2⟩,h3⟩,h4⟩,h5⟩,h6⟩:=h;exact ⟨h1,h2,h3,h4,h5,h6⟩
end Go.Proofs.YtollifnnpihfdaaGreatDoor
namespace Go.Proofs.YtollifnnpihfdaaGreatDoor
open Go.RowKit
theorem KT (a:Addr) (w:World):(loadVar 203 a).run Tryz.prog w=(load a).run Tryz.prog w:=by
 unfold loadVar;simp [go_sem]
attribute [-go_sem] loadVar
attribute [local go_sem] BV BZ FM FN FO KT
attribute [local irreducible] gB hasB ic xS vO
end Go.Proofs.YtollifnnpihfdaaGreatDoor
namespace Go.Proofs.YtollifnnpihfdaaGreatDoor
def Ch (ex:Int):ByteArray:=if ex < 0 then ⟨#[110,111]⟩ else ⟨#[121,101,115]⟩
def jS (m:Mk) (key:ByteArray):List Pr:= [txP ⟨#[99,97,108,108]⟩ (bZ m.r.n).name,txP ⟨#[115,117,99,99,101,115,115]⟩ (Ch m.cx.ex),nuP ⟨#[101,120,105,116]⟩ m.cx.ex,nuP ⟨#[97,48]⟩ (m.cx.a 0),nuP ⟨#[97,49]⟩ (m.cx.a 1),nuP ⟨#[97,50]⟩ (m.cx.a 2),nuP ⟨#[97,51]⟩ (m.cx.a 3),nuP ⟨#[105,116,101,109,115]⟩ (m.is.length:Int),nuP ⟨#[112,112,105,100]⟩ (m.cx.p 1),nuP ⟨#[112,105,100]⟩ (m.cx.p 0),nuP ⟨#[97,117,105,100]⟩ (m.cx.p 6),nuP ⟨#[117,105,100]⟩ (m.cx.p 2),nuP ⟨#[103,105,100]⟩ (m.cx.p 4),nuP ⟨#[101,117,105,100]⟩ (m.cx.p 3),nuP ⟨#[101,103,105,100]⟩ (m.cx.p 5),nuP ⟨#[115,101,115]⟩ (m.cx.p 7),soP ⟨#[99,111,109,109]⟩ m.cx.comm,soP ⟨#[101,120,101]⟩ m.cx.exe,soP ⟨#[107,101,121]⟩ key]
def FQ (k:Nat):ByteArray:=⟨#[97,48+UInt8.ofNat k]⟩
def yL (args:List ByteArray):List Pr:=nuP ⟨#[97,114,103,99]⟩ args.length :: (args.take 4).mapIdx (fun k s=>txP (FQ k) s)
def Ci (m:Mk) (s:ByteArray):List Pr:= [txP ⟨#[104,111,115,116]⟩ s,nuP ⟨#[112,111,114,116]⟩ (m.cx.a 0)]
def Cj (s:ByteArray):List Pr:= [soP ⟨#[99,119,100]⟩ s]
def pX (k:Int):ByteArray:=if k=1 then ⟨#[102,105,108,101]⟩ else if k=2 then ⟨#[100,105,114]⟩ else if k=3 then ⟨#[108,105,110,107]⟩ else ⟨#[110,111,110,101]⟩
def pY (k:Int):ByteArray:=if k=1 then ⟨#[110,111,114,109,97,108]⟩ else if k=2 then ⟨#[99,114,101,97,116,101]⟩ else if k=3 then ⟨#[100,101,108,101,116,101]⟩ else ⟨#[110,111,110,101]⟩
def oQ (i:Nat) (y:Itm) (r:bB):List Pr:= [nuP ⟨#[105,116,101,109]⟩ i,txP ⟨#[110,97,109,101]⟩ r.gv,soP ⟨#[112,97,116,104]⟩ r.pa,nuP ⟨#[100,101,118]⟩ y.dev,nuP ⟨#[105,110,111,100,101]⟩ y.ino,nuP ⟨#[109,111,100,101]⟩ r.mo,nuP ⟨#[111,117,105,100]⟩ y.uid,nuP ⟨#[111,103,105,100]⟩ y.gid,txP ⟨#[107,105,110,100]⟩ (pX y.kind),txP ⟨#[114,111,108,101]⟩ (pY r.ro),nuP ⟨#[112,101,114,109]⟩ r.pe]
def yM (m:Mk) (key:ByteArray) (args:List ByteArray) (cwd:ByteArray):List (Int×List Pr):=
 [(1300,jS m key)] ++ (if m.r.n=1 then [(1309,yL args)] else []) ++ (if m.r.n=19∧args.length=1 then [(1306,Ci m (args.headD ⟨#[]⟩))] else [])
  ++ (if m.is.length=0 then [] else [(1307,Cj cwd)]) ++ m.is.mapIdx (fun i p=>(1302,oQ i p.1 p.2))
def dn (m:Mk):List Rc→List (Int×List Pr)→List Rc
 | L, []=>L
 | L,x :: r=>dn m (jR m L x.1 x.2) r
def evR (m:Mk) (key:ByteArray) (args:List ByteArray) (cwd:ByteArray):List Rc:=
 let L:=dn m [] (yM m key args cwd)
 if L= [] then [] else L ++ [⟨1320,m.ti,0, []⟩]
theorem fJ (m:Mk):∀ (a b:List (Int×List Pr)) (L:List Rc),dn m L (a ++ b)=dn m (dn m L a) b
 | [],_,_=>rfl
 | x :: a,b,L=>fJ m a b _
open Go.RowKit
theorem ay.lit {α:Type} (E:El α) (w:World) (base:Nat) (cs:Array Value) (x:α) (h:cs.toList=E.C x) (hb:base≤w.heap.size):ay E (w.alloc (.cells cs E.e)) base (.slice (some ⟨w.heap.size,0,none⟩) 1 1) [x]:=by
 have h1:=World.ownsRow_lit (base:=base) (e:=E.e) (size:=E.sz) w cs 1 hb (by unfold maxLen;omega) (by rw [← Array.length_toList,h,E.len];omega);have e: [x].flatMap E.C=cs.toList:=by rw [h];simp
 unfold ay;rw [e];exact h1
attribute [-go_sem] loadVar
attribute [local go_sem] BV BZ FM FN FO KT
end Go.Proofs.YtollifnnpihfdaaGreatDoor
namespace Go.Proofs.YtollifnnpihfdaaGreatDoor
open Go.RowKit
def KX {α:Type} (F:Fence) (n:Nat) (P:Program) (g:Nat) (lb:Array Value) (enc:α→Value) (G:α→Prop) (lo hi:Nat) (R:World→World→Prop) (S Sp:List α→Prop) (N:Nat) (w:World):Prop:=
 ∀ (l:Nat) (J Jx:List α→World→Prop) (W:World),Below w.heap.size w W→(∀ pre A B,J pre A→Mid lo hi A B→J pre B)→(∀ pre A B,Jx pre A→Mid lo hi A B→Jx pre B)→
  (∀ pre x A,G x→J pre A→pre.length < N→YieldAt F (n - 1) P l #[enc x] A fun e B=>
   (e= .returned (.bool true)∧J (pre ++ [x]) B∧R A B)∨(e= .returned (.bool false)∧Jx (pre ++ [x]) B))→
  J [] W→
  CallsIn F n P g (#[.func (.yield l) #[] #[]] ++ lb) W fun e B=>(∃ v,e= .returned v)∧((∃ xs,S xs∧J xs B)∨(∃ pre,Sp pre∧Jx pre B))
variable {F:Fence} {n:Nat} {P:Program}
end Go.Proofs.YtollifnnpihfdaaGreatDoor
namespace Go.Proofs.YtollifnnpihfdaaGreatDoor
open Go.RowKit
section
variable {F:Fence} {n:Nat} {P:Program} {Q:Exit→Act→World→Prop} {a:Act} {w:World} {b:Frame} {k:List Item} {cs:List Frame}
theorem dI {c:Code} :step P (lone (b.atR a (.code (.scope c) :: k)) cs w)= .next (lone (b.atR a (.code c :: .inScope c :: k)) cs w):=
 step_lone_go (by simp [stepG,stepG.exec,Frame.atR])
theorem lh {c:Code} :step P (lone (b.atR a (.inScope c :: k)) cs w)= .next (lone (b.atR a k) cs w):=
 step_lone_go (by simp [stepG,stepG.exec,Frame.atR])
theorem jL (id:Nat) (c:Code) (k:List Item):exitTo id (.inScope c :: k)=exitTo id k:=by simp [exitTo]
theorem iI {c:Code} (h:c.wpIn F n P (Exit.noGoto Q) a w):(Code.scope c).wpIn F n P Q a w:=by
 intro b k cs hro hb hr;have h0:(lone (b.atR a (.code (.scope c) :: k)) cs w).fenced P F:=fenced_calm hb hr rfl;obtain ⟨e,a₁,w₁,hq,harr⟩:=h b (.inScope c :: k) cs hro hb hr;cases e with
 | normal=>exact ⟨.normal,a₁,w₁,hq, .head h0 dI (StepsIn.trans harr (.one (fenced_calm hb hr rfl) lh))⟩
 | exit id=>exact ⟨.exit id,a₁,w₁,hq, .of_steps (.one h0 dI) ⟨fun k' hk=>harr.1 k' (by rw [jL];exact hk),fun hr hk=>harr.2 hr (by rw [jL];exact hk)⟩⟩
 | goto l=>exact hq.elim
 | ret=>exact ⟨_,a₁,w₁,hq, .of_steps (.one h0 dI) harr⟩
 | panic ch=>exact ⟨_,a₁,w₁,hq, .of_steps (.one h0 dI) harr⟩
 | outgrown=>exact ⟨_,a₁,w₁,hq, .of_steps (.one h0 dI) harr⟩
end
theorem nG {l n:Nat} {P:Program} {ops:Array Oper} {Q:Exit→Act→World→Prop} (hlo:¬ LetsOut Q) (hd:∀ (i:Nat) (o:Oper) c,ops[i]? =some o→o.op≠ .defer c):
  ∀ (L:List Nat) (a:Act) (w:World),wpOps P ops Q L a w→wpOpsIn (Fence.wide.inRound l) n P ops Q L a w:=by
 intro L;induction L with
 | nil=>exact fun a w h=>h
 | cons i rest ih=>
  intro a w h;simp only [wpOps] at h;simp only [wpOpsIn];cases ho:ops[i]? with
  | none=>rw [ho] at h;exact ih a w h
  | some o=>
   rw [ho] at h;by_cases hw:Region.wanted o (yielded ops a.tmps)=true
   · simp only [hw,if_true] at h ⊢;rcases h with h | ⟨_,h⟩
     · refine ⟨fun _ _=>trivial,?_⟩;rw [Oper.semAt_eq _ _ _ (fun c=>hd i o c ho)];unfold Oper.wp at h;revert h;generalize (execOp a.eval o).run P w=r;intro h;unfold Oper.upon at h;unfold Oper.uponIn;split at h
       · exact ih _ _ h
       · exact ih _ _ h
       · exact ih _ _ h
       · refine ⟨fun h=>by simp [Fence.wide] at h,?_⟩;refine CallsIn.inRound l (callsIn_wide.2 (h.mono ?_));intro e w' hr;cases e with
         | returned v=>exact ih _ _ hr
         | panicked ch=>exact hr
         | outgrown=>exact hr
       · refine ⟨fun h=>by simp [Fence.wide] at h,?_⟩;intro c cs _;obtain ⟨v,w',hr,hs⟩:=h c cs;exact ⟨v,w',ih _ _ hr,stepsIn_wide.2 hs⟩
       · exact h
       · exact h.elim
     · exact absurd h hlo
   · simp only [hw,if_false,Bool.false_eq_true] at h ⊢;exact ⟨fun _ _=>trivial,ih _ _ h⟩
def qX (o:Oper):Bool:=match o.op with | .defer _=>false | _=>true
theorem jd {l n:Nat} {P:Program} {id:Nat} {ops:Array Oper} {Q:Exit→Act→World→Prop} {a:Act} {w:World} (S:World→Prop) (hlo:¬ LetsOut Q) (hd:ops.toList.all qX=true) (hm:P.follows .mixedOrders=true) (hS:S w.drew)
  (h:S w.drew→wpAnyH P .any ops Q S ops.size (Array.replicate ops.size false) a w.drew):(Code.region id ops true).wpIn (Fence.wide.inRound l) n P Q a w:=
 wpIn_region_draw fun t=>by
  simp only [Region.schedule,hm,Bool.true_or,if_true];refine nG hlo (fun i o c ho e=>?_) _ _ _ (wpAny_sound ops.size t _ a _ (wpAny_of_held _ _ _ _ (h hS)));have h1:=List.all_eq_true.1 hd o (by rw [Array.getElem?_eq_some_iff] at ho;obtain ⟨h1,rfl⟩:=ho;exact Array.mem_toList_iff.2 (Array.getElem_mem h1));unfold qX at h1;rw [e] at h1;cases h1
end Go.Proofs.YtollifnnpihfdaaGreatDoor
