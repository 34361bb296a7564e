import Derived.Test.YtollifnnpihfdaaGreatDoorB16
import Derived.Test.YtollifnnpihfdaaGreatDoorB09
set_option maxRecDepth 100000
set_option maxHeartbeats 64000000
set_option linter.all false
namespace Go.Proofs.YtollifnnpihfdaaGreatDoor
def dl (n:Nat):Nat:=(Lib.decDigits n).length
structure Tst where
 fd:Int
 op:Int
 nu:Int
 tx:ByteArray
 ot:Int
structure Rul where
 li:Int
 ac:Int
 ca:Nat
 ts:List Tst
 wa:Int
 pa:ByteArray
 pe:Int
 ke:ByteArray
def Ls:Rul:=⟨0,0,0, [],0,⟨#[]⟩,0,⟨#[]⟩⟩
open Go.ChangeShapes Go.WideShapes Go.RowKit
theorem ny (a:Addr) (n:Nat):(a.add n).block=a.block:=by unfold Addr.add;split <;> rfl
abbrev OH (t:Tst):Array Value:=KG t.fd t.op t.nu t.tx t.ot
def iZ (w:World) (B:Nat) (A:Option Addr) (ts:List Tst):Prop:=∀ k (hk:k < ts.length),∃ ad:Addr,A=some ad∧ad.block < B∧∀ j,j < 5→w.cell? ((ad.add (k * 5)).add j)=(OH (ts[k]'hk))[j]?
theorem iZ.keep {w w' :World} {B B' :Nat} {A:Option Addr} {ts:List Tst} (h:iZ w B A ts) (hb:Below B' w w') (hB:B≤B'):iZ w' B A ts:=fun k hk=>by
 obtain ⟨ad,e,hl,hc⟩:=h k hk;exact ⟨ad,e,hl,fun j hj=>(hb.cell (by rw [ny,ny];omega)).trans (hc j hj)⟩
theorem iZ.more {w:World} {B B' :Nat} {A:Option Addr} {ts:List Tst} (h:iZ w B A ts) (hB:B≤B'):iZ w B' A ts:=fun k hk=>by
 obtain ⟨ad,e,hl,hc⟩:=h k hk;exact ⟨ad,e,by omega,hc⟩
abbrev OI (r:Rul) (v:Value):Array Value:=#[.int .i64 r.li, .int .i64 r.ac, .int .u64 (r.ca:Int),v, .int .i64 r.wa, .string r.pa, .int .i64 r.pe, .string r.ke]
section
variable {w:World} {g:Nat} {r:Rul} {v:Value}
end
def Tst.ev (c:Ctx) (is:List Itm) (t:Tst):Bool:=zz c is t.fd t.op t.nu t.tx t.ot
def xN (c:Ctx) (n:Int) (is:List Itm) (hit:Bool) (r:Rul):Bool:=(r.ca == 0 || hasB r.ca n) && ((r.wa == 0 || hit) && r.ts.all (Tst.ev c is))
def BO (rs:List Rul) (l:Int) (c:Ctx) (n:Int) (is:List Itm):Option Nat:=rs.findIdx? fun r=>r.li == l && xN c n is false r
def BQ (t:Int):Bool:=t == 1005 || t == 1300 || t == 1306 || t == 1307 || t == 1302 || t == 1309
def rF (rs:List Rul) (c:Ctx) (n:Int) (is:List Itm) (t:Int):Bool:=
 BQ t && match BO rs 5 { c with ty:=t } n is with | some i=>(rs[i]?.map (fun r=>r.ac == 1)).getD false | none=>false
def nuP (s:ByteArray) (n:Int):Pr:=⟨s,1,n,⟨#[]⟩⟩
def txP (s t:ByteArray):Pr:=if 640 < t.size then ⟨s,3,0,⟨#[]⟩⟩ else ⟨s,2,0,t⟩
def soP (s t:ByteArray):Pr:=if t.size=0 then ⟨s,3,0,⟨#[]⟩⟩ else txP s t
theorem Ac {s t:ByteArray} (h:640 < t.size):txP s t=⟨s,3,0,⟨#[]⟩⟩:=if_pos h
theorem xO {s t:ByteArray} (h:¬ 640 < t.size):txP s t=⟨s,2,0,t⟩:=if_neg h
theorem oF {t:ByteArray} (h:¬ t.size=0):t.toList.isEmpty=false:=by
 cases hq:t.toList.isEmpty with
 | false=>rfl
 | true=>
  have e:=congrArg List.length (List.isEmpty_iff.1 hq);rw [ByteArray.toList_eq,Array.length_toList] at e;exact absurd e h
theorem Lt (s:ByteArray) (n:Int) (w:World):Calls Tryz.prog 48 #[.string s, .int .i64 n] w fun e w' =>e= .returned (prV (nuP s n))∧Below w.heap.size w w' :=eF s n w
theorem kg (s t:ByteArray) (w:World):Calls Tryz.prog 47 #[.string s, .string t] w fun e w' =>e= .returned (prV (txP s t))∧Below w.heap.size w w' :=by
 by_cases h:640 < t.size
 · rw [Ac h];have h1:(640:Int) < (t.size:Int):=(by omega);go_in;go_wp2_with fail;refine bodyPost_ret (kY (fn:=Tryz.f47) rfl _ _ w.heap.size ⟨s,3,0,⟨#[]⟩⟩ rfl (Blk.new w _ _)) rfl ?_;exact ⟨rfl,(Below.refl _ _).alloc (Nat.le_refl _) _⟩
 · rw [xO h];exact Gt s t (by omega) w
theorem qo (s t:ByteArray) (w:World):Calls Tryz.prog 50 #[.string s, .string t] w fun e w' =>e= .returned (prV (soP s t))∧Below w.heap.size w w' :=by
 unfold soP;by_cases h:t.size=0
 · obtain rfl:t=⟨#[]⟩:=by
    cases t with | mk d=>cases d with | mk l=>cases l with | nil=>rfl | cons a l=>simp [ByteArray.size] at h
   exact Gu s w
 · rw [if_neg h];have h1:=oF h;go_in;go_wp2_with fail;refine (kg s t _).mono ?_;rintro e w1 ⟨rfl,hb1⟩;have HX:=Blk.below (Blk.new w #[.string ⟨#[]⟩, .int .i64 0, .int .i64 0, .string ⟨#[]⟩] 79) hb1;go_wp2_with ((with_reducible refine ae ?_ 79 (.tmp 4) (.tmp 11) ?_ HX (prA (txP s t)) ?_ ?_ ?_ ?_ ?_ ?_);(iterate 4 rfl);(exact KE _);rfl;(exact Gs _));refine bodyPost_ret (kY (fn:=Tryz.f50) rfl _ _ w.heap.size (txP s t) rfl (Blk.row HX _)) rfl ?_;exact ⟨rfl,ai (aa ((Below.refl _ _).alloc (Nat.le_refl _) _) (by exact hb1)) (Nat.le_refl _) _⟩
theorem DV (a:Addr) (w:World):(loadVar 3 a).run Tryz.prog w=(load a).run Tryz.prog w:=by
 unfold loadVar;simp [go_sem]
theorem DW (a:Addr) (w:World):(loadVar 9 a).run Tryz.prog w=(load a).run Tryz.prog w:=by
 unfold loadVar;simp [go_sem]
theorem BS {w:World} {g:Nat} {c:Ctx} {r:eH} {it:Value} (h:iK w g c r it):(loadVar 54 ⟨g,0,none⟩).run Tryz.prog w= .ok (.agg (gT c r it)) w:=run_loadVar_row w g _ _ _ _ _ h Tryz.underlying54 rfl (sD _ _ _)
theorem Ie {w:World} {g:Nat} {i:Itm} {r:bE} (h:iL w g i r):(loadVar 73 ⟨g,0,none⟩).run Tryz.prog w= .ok (.agg (bf i r)) w:=run_loadVar_row w g _ _ _ _ _ h Tryz.underlying73 rfl (jQ _ _)
attribute [local irreducible] gT bf pJ KH MG iJ
attribute [-go_sem] loadVar
attribute [local go_sem] DV DW
end Go.Proofs.YtollifnnpihfdaaGreatDoor
namespace Go.Proofs.YtollifnnpihfdaaGreatDoor
open Go.RowKit
abbrev pcC (c:Ctx) (r:eH):Array Value:=#[.int .i64 (c.p 0), .int .i64 (c.p 1), .int .i64 (c.p 2), .int .i64 (c.p 3), .int .i64 (c.p 4), .int .i64 (c.p 5), .int .i64 (c.p 6), .int .i64 (c.p 7), .int .i64 r.d, .int .i64 r.i, .string c.comm, .string c.exe,r.o.v, .bool r.u]
abbrev zpC:Array Value:=#[.int .i64 0, .int .i64 0, .int .i64 0, .int .i64 0, .int .i64 0, .int .i64 0, .int .i64 0, .int .i64 0, .int .i64 0, .int .i64 0, .string ⟨#[]⟩, .string ⟨#[]⟩, .slice none 0 0, .bool false]
theorem Ec (c:Ctx) (r:eH) (it:Value) (j:Nat) (u:Value) (h:(pcC c r).toList[j]? =some u):(gT c r it)[1+j]? =some u:=by
 have hl:(gT c r it).toList= [.int .i64 c.ph] ++ ((pcC c r).toList ++ [.int .i64 r.n, .int .i64 (c.a 0), .int .i64 (c.a 1), .int .i64 (c.a 2), .int .i64 (c.a 3),r.ps.v,r.gs.v, .int .i64 c.ex,it, .int .i64 c.ty]):=rfl;rw [← Array.getElem?_toList,hl,List.getElem?_append_right (by simp)];have hj:=(List.getElem?_eq_some_iff.1 h).1;rw [List.getElem?_append_left (by simpa using hj)];simpa using h
theorem Ed (c:Ctx) (r:eH):(Tryz.prog.info? 47).map (·.size)=some (pcC c r).size:=by show _=some 14;kernel_rfl
theorem Ca (c:Ctx) (r:eH):zpC.size=(pcC c r).size:=rfl
theorem Cb (c:Ctx) (r:eH):(pcC c r).all (·.oneCell')=true:=by simp [Value.oneCell']
theorem Ee {w:World} {g:Nat} {c:Ctx} {r:eH} {it:Value} (h:Blk w g 54 (gT c r it)):(loadVar 47 ⟨g,1,none⟩).run Tryz.prog w= .ok (.agg (pcC c r)) w:=
 si (fun j u hu=>by rw [JF,h.cell];exact Ec c r it j u hu) Tryz.underlying47 rfl (Ed c r)
attribute [local irreducible] gT
attribute [-go_sem] loadVar
attribute [local go_sem] lv3
end Go.Proofs.YtollifnnpihfdaaGreatDoor
namespace Go.Proofs.YtollifnnpihfdaaGreatDoor
open Go.RowKit
theorem enc4 (x:Int):(Utf8.encode x).size≤4:=by
 unfold Utf8.encode;dsimp only
 repeat' split
 all_goals simp [ByteArray.size]
def fC:Nat→Int→ByteArray→ByteArray
 | 0,m,T=>Utf8.encode (wrap32 (wrap64 (48+m))) ++ T
 | f+1,m,T=>if 10≤m then fC f (wrap64 (m.tdiv 10)) (Utf8.encode (48+m % 10) ++ T) else Utf8.encode (wrap32 (wrap64 (48+m))) ++ T
theorem yD (m:Int):(Utf8.encode (48+m % 10)).size=1:=by
 rw [wN (m % 10) (by omega) (by omega)];rfl
theorem aP:∀ (f:Nat) (m:Int) (T:ByteArray),(fC f m T).size≤T.size+f+4
 | 0,m,T=>by
  unfold fC;rw [ByteArray.size_append];have:=enc4 (wrap32 (wrap64 (48+m)));omega
 | f+1,m,T=>by
  unfold fC;split
  · have h:=aP f (wrap64 (m.tdiv 10)) (Utf8.encode (48+m % 10) ++ T);rw [ByteArray.size_append,yD] at h;omega
  · rw [ByteArray.size_append];have:=enc4 (wrap32 (wrap64 (48+m)));omega
theorem yE (x:Int):wrap64 x≤9223372036854775807:=by unfold wrap64;omega
theorem yF {f:Nat} {m:Int} {T:ByteArray} (h:10≤m):fC (f+1) m T=fC f (wrap64 (m.tdiv 10)) (Utf8.encode (48+m % 10) ++ T):=by
 show (if _ then _ else _)=_;rw [if_pos h]
theorem sV {f:Nat} {m:Int} {T:ByteArray} (h:¬ 10≤m):fC f m T=Utf8.encode (wrap32 (wrap64 (48+m))) ++ T:=by
 cases f with
 | zero=>rfl
 | succ f=>show (if _ then _ else _)=_;rw [if_neg h]
theorem AZ {f:Nat} {m:Int} (h:f=20∨m < 10 ^ f) (h10:10≤m):∃ g,f=g+1∧wrap64 (m.tdiv 10) < 10 ^ g∧(wrap64 (m.tdiv 10)).toNat < m.toNat:=by
 have hd:m.tdiv 10=m / 10:=Int.tdiv_eq_ediv_of_nonneg (by omega);have hw:=yE (m / 10);rw [hd];by_cases hb:m < 92233720368547758080
 · have e:wrap64 (m / 10)=m / 10:=(by unfold wrap64;omega);rw [e];rcases h with rfl | h
   · exact ⟨19,rfl,by omega,by omega⟩
   · cases f with
     | zero=>simp at h;omega
     | succ g=>exact ⟨g,rfl,by rw [Int.pow_succ] at h;omega,by omega⟩
 · rcases h with rfl | h
   · exact ⟨19,rfl,by omega,by omega⟩
   · cases f with
     | zero=>simp at h;omega
     | succ g=>
      refine ⟨g,rfl,?_,by omega⟩;have h2:(10:Int) ^ (g+1)=10 ^ g * 10:=Int.pow_succ ..;omega
attribute [local irreducible] Utf8.encode fC
theorem oK (n:Int) (w:World):Calls Tryz.prog 114 #[.int .i64 n] w fun e w' =>e= .returned (.string (fC 20 n ⟨#[]⟩))∧w=w' :=by
 go_in
 go_wp2
 go_loop [0,3] (fun x v=>∃ (m:Int) (T:ByteArray) (f:Nat),x= .int .i64 m∧v= .string T∧T.size≤20∧T.size+f=20∧Hid (f=20∨m < 10 ^ f)∧Hid (fC f m T=fC 20 n ⟨#[]⟩)) (fun x _=>(intOf x).toNat);case atStart=>exact ⟨n,⟨#[]⟩,20,rfl,rfl,by decide,rfl,Hd (.inl rfl),Hd rfl⟩
 case round=>
  obtain ⟨m,T,f,rfl,rfl,hT,hf,hm,hd⟩:=hrel;have h1:=yD m;have h4:=enc4 (wrap32 (wrap64 (48+m)));by_cases hlt:10≤m
  · obtain ⟨g,rfl,hg,hk⟩:=AZ hm.o hlt;have HD:=Hd (yF (f:=g) (T:=T) hlt);have HG:=Hd hg;have HK:=Hd hk;clear hg hk
    go_wp2
    go_round
    case rel=>exact ⟨_,_,g,rfl,rfl,by rw [ByteArray.size_append,h1];omega,by rw [ByteArray.size_append,h1];omega,Hd (.inr HG.o),Hd (HD.o.symm.trans hd.o)⟩
    case measure=>exact HK.o
  · have HD:=Hd (sV (f:=f) (T:=T) hlt)
    go_wp2
    go_ret;exact ⟨Jk (HD.o.symm.trans hd.o),rfl⟩
def uG (n:Int):ByteArray:=if 0≤n then fC 20 n ⟨#[]⟩ else if wrap64 (-n) < 0 then ⟨#[45]⟩ ++ fC 20 (wrap64 (-(wrap64 (n.tdiv 10)))) ⟨#[]⟩ ++ fC 20 (wrap64 (-(n.tmod 10))) ⟨#[]⟩ else ⟨#[45]⟩ ++ fC 20 (wrap64 (-n)) ⟨#[]⟩
theorem lH (n:Int):(uG n).size≤26:=by
 unfold uG;split
 · exact Nat.le_trans (aP 20 n ⟨#[]⟩) (by show 0+20+4≤26;omega)
 · split
   · have h1:=aP 20 (wrap64 (-(wrap64 (n.tdiv 10)))) ⟨#[]⟩;have h2:(fC 20 (wrap64 (-(n.tmod 10))) ⟨#[]⟩).size=1:=by
      have e1: -9≤n.tmod 10∧n.tmod 10≤0:=by
       have k1:=Int.tmod_nonneg 10 (show 0≤ -n by omega);have k2:=Int.tmod_lt_of_pos (-n) (show (0:Int) < 10 by omega);rw [Int.neg_tmod] at k1 k2;omega
      have e2:wrap64 (-(n.tmod 10))= -(n.tmod 10):=(by unfold wrap64;omega);rw [e2,sV (by omega),show wrap32 (wrap64 (48+ -(n.tmod 10)))=48+ -(n.tmod 10) by unfold wrap32 wrap64;omega,wN _ (by omega) (by omega)];rfl
     rw [ByteArray.size_append,ByteArray.size_append,h2];show 1+_+1≤26;have h3:(⟨#[]⟩:ByteArray).size=0:=rfl;omega
   · have h1:=aP 20 (wrap64 (-n)) ⟨#[]⟩;rw [ByteArray.size_append];show 1+_≤26;have h3:(⟨#[]⟩:ByteArray).size=0:=rfl;omega
theorem LP (n:Int) (w:World):Calls Tryz.prog 176 #[.int .i64 n] w fun e w' =>e= .returned (.string (uG n))∧w=w' :=by
 have z1:=aP 20 (wrap64 (-(wrap64 (n.tdiv 10)))) ⟨#[]⟩;have z2:=aP 20 (wrap64 (-(n.tmod 10))) ⟨#[]⟩;have z3:=aP 20 (wrap64 (-n)) ⟨#[]⟩;have z0:(⟨#[]⟩:ByteArray).size=0:=rfl;rw [z0] at z1 z2 z3;by_cases h0:0≤n
 · have HN:=Hd (show uG n=fC 20 n ⟨#[]⟩ by unfold uG;rw [if_pos h0]);go_in;go_wp2_with fail;refine (oK n w).mono ?_;rintro e w' ⟨rfl,rfl⟩;go_wp2_with fail;go_ret;exact ⟨Jk HN.o.symm,rfl⟩
 · by_cases h1:wrap64 (-n) < 0
   · have HN:=Hd (show uG n=⟨#[45]⟩ ++ fC 20 (wrap64 (-(wrap64 (n.tdiv 10)))) ⟨#[]⟩ ++ fC 20 (wrap64 (-(n.tmod 10))) ⟨#[]⟩ by unfold uG;rw [if_neg h0,if_pos h1]);go_in;go_wp2_with fail;refine (oK _ w).mono ?_;rintro e w' ⟨rfl,rfl⟩;go_wp2_with fail;refine (oK _ w).mono ?_;rintro e w' ⟨rfl,rfl⟩;go_wp2_with fail;go_ret;exact ⟨Jk HN.o.symm,rfl⟩
   · have HN:=Hd (show uG n=⟨#[45]⟩ ++ fC 20 (wrap64 (-n)) ⟨#[]⟩ by unfold uG;rw [if_neg h0,if_neg h1]);go_in;go_wp2_with fail;refine (oK _ w).mono ?_;rintro e w' ⟨rfl,rfl⟩;go_wp2_with fail;go_ret;exact ⟨Jk HN.o.symm,rfl⟩
end Go.Proofs.YtollifnnpihfdaaGreatDoor
namespace Go.Proofs.YtollifnnpihfdaaGreatDoor
open Go.RowKit
theorem oL (t:ByteArray):(df t).size≤2 * t.size+2:=by
 unfold df;split
 · exact Nat.zero_le _
 · show (oV t.data.toList).toArray.size≤_;have e2:t.data.toList.length=t.size:=Array.length_toList;rw [List.size_toArray, ← e2];unfold oV;split
   · simp;omega
   · rw [List.length_cons,kQ];omega
def I5 (kd nu:Int) (tx:ByteArray):ByteArray:=if kd=1 then uG nu else if kd=2 then df tx else ⟨#[40,110,117,108,108,41]⟩
def prT (nm:ByteArray) (kd nu:Int) (tx:ByteArray):ByteArray:=nm ++ ⟨#[61]⟩ ++ I5 kd nu tx
theorem jb {nm:ByteArray} {kd nu:Int} {tx:ByteArray} (h:bV nm kd nu tx=0):(1≤kd∧kd≤3)∧tx.size≤640:=by
 unfold bV at h;split at h
 · cases h
 · split at h
   · cases h
   · rename_i hk;split at h
     · cases h
     · rename_i hl;exact ⟨by omega,by omega⟩
theorem EE (nm:ByteArray):nm ++ ⟨#[61,40,110,117,108,108,41]⟩=nm ++ ⟨#[61]⟩ ++ ⟨#[40,110,117,108,108,41]⟩:=by
 rw [ByteArray.append_assoc];rfl
abbrev LQ (nm:ByteArray) (kd nu:Int) (tx:ByteArray):Array Value:=#[.string nm, .int .i64 kd, .int .i64 nu, .string tx]
attribute [local irreducible] df uG bV
theorem LU (nm:ByteArray) (kd nu:Int) (tx:ByteArray) (w:World) (hm:nm.size≤16) (hc:bV nm kd nu tx=0):
   Calls Tryz.prog 116 #[.agg (LQ nm kd nu tx)] w fun e w' =>e= .returned (.tuple #[.string (prT nm kd nu tx), .int .i64 0])∧Below w.heap.size w w' :=by
 obtain ⟨c2,c3⟩:=jb hc;have hcs:kd=1∨kd=2∨kd=3:=by omega
 have B0:=Hd ((Below.refl w.heap.size w).alloc (Nat.le_refl _) (.cells (LQ nm kd nu tx) 79));have P0:=Hd (Blk.new w (LQ nm kd nu tx) 79);have hvc:=Hd (Br nm kd nu tx · (by unfold maxLen;omega) (by unfold maxLen;omega));rw [hc] at hvc;have HQ:=Hd (il tx (by omega));have hz:=oL tx;have hz2:=lH nu;clear hc c2;rcases hcs with hk | hk | hk;all_goals subst hk
 · go_in;go_wp2_with fail;refine (hvc.o _).mono ?_;rintro e w1 ⟨rfl,hb⟩;have l0:=(P0.o.below hb).cell 0;have l1:=(P0.o.below hb).cell 1;have l2:=(P0.o.below hb).cell 2;have HB:=Hd (aa B0.o hb);clear hb;go_wp2_with fail;go_quiet ((go_at_call 176;exact Calls.quiet_of_same ((LP nu _).mono fun _ _ h=>⟨h.1,h.2.symm⟩)));clear l0 l1 l2;go_wp2_with fail;go_ret2;exact ⟨rfl,below_drewN HB.o _⟩
 · go_in;go_wp2_with fail;refine (hvc.o _).mono ?_;rintro e w1 ⟨rfl,hb⟩;have l0:=(P0.o.below hb).cell 0;have l1:=(P0.o.below hb).cell 1;have l3:=(P0.o.below hb).cell 3;have HB:=Hd (aa B0.o hb);have HP:=Hd (P0.o.below hb);clear hb;go_wp2_with fail;refine (Gz tx _ (by unfold maxLen;omega)).mono ?_;rintro e w2 ⟨rfl,hb2⟩;rw [HQ.o];clear l0 l1 l3;have l0:=(HP.o.below hb2).cell 0;go_wp2_with fail;go_ret2;exact ⟨rfl,aa HB.o hb2⟩
 · go_in;go_wp2_with fail;refine (hvc.o _).mono ?_;rintro e w1 ⟨rfl,hb⟩;have l0:=(P0.o.below hb).cell 0;have l1:=(P0.o.below hb).cell 1;have HB:=Hd (aa B0.o hb);clear hb;go_wp2_with fail;go_ret2;exact ⟨tup (EE nm) rfl,HB.o⟩
end Go.Proofs.YtollifnnpihfdaaGreatDoor
namespace Go.Proofs.YtollifnnpihfdaaGreatDoor
open Go.RowKit
structure Kd where
 nm:ByteArray
 ty:Int
 sg:Bool
abbrev kdA (k:Kd):Array Value:=#[.string k.nm, .int .i64 k.ty, .bool k.sg]
def kdL:List Kd:= [⟨⟨#[85,83,69,82]⟩,1005,true⟩,⟨⟨#[68,65,69,77,79,78]⟩,1200,true⟩,⟨⟨#[83,89,83,67,65,76,76]⟩,1300,false⟩,⟨⟨#[80,65,84,72]⟩,1302,false⟩,⟨⟨#[67,79,78,70,73,71]⟩,1305,true⟩,⟨⟨#[83,79,67,75,65,68,68,82]⟩,1306,false⟩,⟨⟨#[67,87,68]⟩,1307,false⟩,⟨⟨#[69,88,69,67,86,69]⟩,1309,false⟩,⟨⟨#[69,79,69]⟩,1320,false⟩,⟨⟨#[76,79,83,83]⟩,1331,true⟩]
abbrev kdT:Array Value:=#[.string ⟨#[85,83,69,82]⟩, .int .i64 1005, .bool true, .string ⟨#[68,65,69,77,79,78]⟩, .int .i64 1200, .bool true, .string ⟨#[83,89,83,67,65,76,76]⟩, .int .i64 1300, .bool false, .string ⟨#[80,65,84,72]⟩, .int .i64 1302, .bool false, .string ⟨#[67,79,78,70,73,71]⟩, .int .i64 1305, .bool true, .string ⟨#[83,79,67,75,65,68,68,82]⟩, .int .i64 1306, .bool false, .string ⟨#[67,87,68]⟩, .int .i64 1307, .bool false, .string ⟨#[69,88,69,67,86,69]⟩, .int .i64 1309, .bool false, .string ⟨#[69,79,69]⟩, .int .i64 1320, .bool false, .string ⟨#[76,79,83,83]⟩, .int .i64 1331, .bool true]
def kdZ:Kd:=⟨⟨#[]⟩,0,false⟩
def kdK (k:Nat):Kd:=kdL.getD k kdZ
theorem Ba {W:World} {g:Nat} (h:Blk W g 255 kdT) {k:Nat} (hk:k < 10):W.cell? ⟨g,k * 3,none⟩=some (.string (kdK k).nm)∧W.cell? ⟨g,k * 3+1,none⟩=some (.int .i64 (kdK k).ty)∧W.cell? ⟨g,k * 3+2,none⟩=some (.bool (kdK k).sg):=by
 rw [h.cell,h.cell,h.cell]
 match k,hk with
 | 0,_=>exact ⟨rfl,rfl,rfl⟩
 | 1,_=>exact ⟨rfl,rfl,rfl⟩
 | 2,_=>exact ⟨rfl,rfl,rfl⟩
 | 3,_=>exact ⟨rfl,rfl,rfl⟩
 | 4,_=>exact ⟨rfl,rfl,rfl⟩
 | 5,_=>exact ⟨rfl,rfl,rfl⟩
 | 6,_=>exact ⟨rfl,rfl,rfl⟩
 | 7,_=>exact ⟨rfl,rfl,rfl⟩
 | 8,_=>exact ⟨rfl,rfl,rfl⟩
 | 9,_=>exact ⟨rfl,rfl,rfl⟩
 | k+10,h=>exact absurd h (by omega)
theorem LV {j k:Nat} (hj:j < 10) (hk:k < j):(kdK k).ty≠(kdK j).ty:=by
 have H:∀ (a:Fin 10) (b:Fin 10),b.val < a.val→(kdK b.val).ty≠(kdK a.val).ty:=by decide+kernel
 exact H ⟨j,hj⟩ ⟨k,by omega⟩ hk
theorem I7 (k:Kd):(Tryz.prog.info? 255).map (·.size)=some (kdA k).size:=by show _=some 3;kernel_rfl
theorem I8 (k:Kd):(kdA k).all (·.oneCell')=true:=by simp [Value.oneCell']
theorem EF {fn:Func} {i j:Nat} (h:fn.results=#[.cell i 255, .tmp j]) (tmps:Array Value) (w:World) (g:Nat) (p:Kd) (hp:tmps.getD i undef= .pointer (some ⟨g,0,none⟩)) (hg:Blk w g 255 (kdA p)):
  (results fn tmps).run Tryz.prog w= .ok (.tuple #[.agg (kdA p),tmps.getD j undef]) w:=by
 have hp' :tmps[i]?.getD undef= .pointer (some ⟨g,0,none⟩):=by simpa using hp
 simp [results,h,hp',asAddr,run_loadVar_row w g 255 255 (kdA p) (0,0) _ hg Tryz.underlying255 rfl (I7 p)]
theorem I9 (w:World):Calls Tryz.prog 238 #[] w fun e w' =>e= .returned (.slice (some ⟨w.heap.size,0,none⟩) 10 10)∧w' =w.alloc (.cells kdT 255):=by
 go_in;go_wp2_with fail;go_ret;exact ⟨rfl,rfl⟩
theorem yG (j:Nat) (hj:j < 10) (w:World):Calls Tryz.prog 174 #[.int .i64 (kdK j).ty] w fun e w' =>e= .returned (.tuple #[.agg (kdA (kdK j)), .bool true])∧Below w.heap.size w w' :=by
 have Z0:=Hd (Blk.new w (kdA kdZ) 255);have B0:=Hd ((Below.refl w.heap.size w).alloc (Nat.le_refl _) (.cells (kdA kdZ) 255));have HJ:=Hd hj;have HNE:=Hd (fun k (hk:k < j)=>LV hj hk);clear hj;go_in;go_upto_region 1 with fail;generalize hw0:w.alloc (.cells (kdA kdZ) 255)=w0 at *;rw [show w.alloc (.cells #[.string ⟨#[]⟩, .int .i64 0, .bool false] 255)=w0 from hw0];clear hw0;go_wp2_with fail;refine (I9 w0).mono ?_;rintro e w1 ⟨rfl,rfl⟩;have hb1:=(Below.refl w0.heap.size w0).alloc (Nat.le_refl _) (.cells kdT 255);have K1:=Hd (Blk.new w0 kdT 255);have Z1:=Hd (Z0.o.below hb1);have B1:=Hd (B0.o.trans (hb1.mono B0.o.size));clear hb1 Z0 B0;go_wp2_with fail;generalize w0.alloc (.cells kdT 255)=W at *;generalize w0.heap.size=g1 at *;go_loopw [5] (fun i wr=>∃ k:Nat,k≤j∧i= .int .i64 (k:Int)∧wr=W) (fun i _=>j - (intOf i).toNat);case atStart=>exact ⟨0,Nat.zero_le _,rfl,rfl⟩
 case round=>
  obtain ⟨k,hk,rfl,rfl⟩:=hrel;have k0:(0:Int)≤(k:Int):=by omega
  have k9:(k:Int) < 10:=by have:=HJ.o;omega
  obtain ⟨c0,c1,c2⟩:=Ba K1.o (show k < 10 by have:=HJ.o;omega);obtain ⟨q7,q8⟩:=bq (show k≤1000000 by omega) (Nat.le_refl _);by_cases hlt:k < j
  · have b1:((kdK k).ty == (kdK j).ty)=false:=(by simpa using HNE.o k hlt);go_wp2_with fail;go_roundw;case rel=>exact ⟨k+1,hlt,by go_num,by first | trivial | rfl⟩
    case measure=>exact aN hlt _ rfl
  · obtain rfl:k=j:=(by omega);have b1:((kdK k).ty == (kdK k).ty)=true:=(by simp);go_wp2_with ((with_reducible refine ae ?_ 255 (.tmp 2) (.tmp 23) ?_ Z1.o (kdA (kdK k)) ?_ ?_ ?_ ?_ ?_ ?_);(iterate 4 rfl);(exact I7 _);rfl;(exact I8 _));refine bodyPost_ret (EF (fn:=Tryz.f174) rfl _ _ w.heap.size (kdK k) rfl (Blk.row Z1.o _)) rfl ?_;exact ⟨rfl,ai B1.o (Nat.le_refl _) _⟩
theorem EG (j:Nat) (hj:j < 10) (w:World):Calls Tryz.prog 113 #[.int .i64 (kdK j).ty] w fun e w' =>e= .returned (.string (kdK j).nm)∧Below w.heap.size w w' :=by
 go_in;go_wp2_with fail;refine (yG j hj w).mono ?_;rintro e w1 ⟨rfl,hb⟩;have HB:=Hd (hb.alloc hb.size (.cells (kdA (kdK j)) 255));clear hb;go_wp2_with fail;go_ret;exact ⟨rfl,HB.o⟩
attribute [local irreducible] fC
theorem Ja (n:Int) (w:World) (h0:0≤n) (h1:n≤999):Calls Tryz.prog 115 #[.int .i64 n] w fun e w' =>e= .returned (.string (fC 20 (n / 100) ⟨#[]⟩ ++ fC 20 (n / 10 % 10) ⟨#[]⟩ ++ fC 20 (n % 10) ⟨#[]⟩))∧w=w' :=by
 have z0:(⟨#[]⟩:ByteArray).size=0:=rfl;have z1:=aP 20 (n / 100) ⟨#[]⟩;have z2:=aP 20 (n / 10 % 10) ⟨#[]⟩;have z3:=aP 20 (n % 10) ⟨#[]⟩;rw [z0] at z1 z2 z3;go_in;go_wp2_with fail;refine (oK (n / 100) w).mono ?_;rintro e w' ⟨rfl,rfl⟩;go_wp2_with fail;refine (oK (n / 10 % 10) w).mono ?_;rintro e w' ⟨rfl,rfl⟩;go_wp2_with fail;refine (oK (n % 10) w).mono ?_;rintro e w' ⟨rfl,rfl⟩;go_wp2_with fail;go_ret;exact ⟨rfl,rfl⟩
end Go.Proofs.YtollifnnpihfdaaGreatDoor
namespace Go.Proofs.YtollifnnpihfdaaGreatDoor
open Go.RowKit
structure RcG (r:Rc):Prop where
 ty:∃ j,j < 10∧r.ty=(kdK j).ty
 ti:0≤r.ti∧r.ti≤1099511627776
 se:0≤r.se∧r.se≤1073741824
 len:r.ps.length≤24
 ok:∀ p∈r.ps,bV p.nm p.kd p.nu p.tx=0∧p.nm.size≤16
 ne:∀ i (hi:i < r.ps.length) k (hk:k < i),((r.ps[k]'(by omega)).nm.toList == (r.ps[i]'hi).nm.toList)=false
attribute [local irreducible] bV
theorem Bb (r:Rc) (hr:RcG r) (A:Option Addr) (n c:Nat) (hn:n=r.ps.length) (w:World) (h:AtE EP w w.heap.size A r.ps):
  Calls Tryz.prog 112 #[.agg (rcC r (.slice A n c))] w fun e w' =>e= .returned (.int .i64 0)∧Below w.heap.size w w' :=by
 obtain ⟨j,hj,ej⟩:=hr.ty;have HF:=Hd (fun W=>yG j hj W);rw [← ej] at HF;obtain ⟨i0,i1⟩:=hr.ti;obtain ⟨s0,s1⟩:=hr.se;have n24:(n:Int)≤24:=by have:=hr.len;omega
 have B0:=Hd ((Below.refl w.heap.size w).alloc (Nat.le_refl _) (.cells (rcC r (.slice A n c)) 77));have V0:=Hd (Blk.new w (rcC r (.slice A n c)) 77);have D0:=Hd (h.keep B0.o (Nat.le_refl _));have HN:=Hd hn;have HR:=Hd hr;clear h hn hr ej;go_in;go_upto_region 1 with fail;generalize w.alloc (.cells (rcC r (.slice A n c)) 77)=w0 at *;have x0:w0.cell? ⟨w.heap.size,0,none⟩=some (.int .i64 r.ty):=V0.o.cell 0;go_wp2_with fail;refine (HF.o w0).mono ?_;rintro e w1 ⟨rfl,hb⟩;have hb2:=hb.alloc hb.size (.cells (kdA (kdK j)) 255);have V2:=Hd (V0.o.below hb2);have D2:=Hd (D0.o.keep hb2 B0.o.size);have B2:=Hd (B0.o.trans (hb2.mono B0.o.size));clear x0 hb hb2 V0 D0 B0 HF;go_upto_region 2 with fail;generalize w1.alloc (.cells (kdA (kdK j)) 255)=W at *;have x1:W.cell? ⟨w.heap.size,1,none⟩=some (.int .i64 r.ti):=V2.o.cell 1;have x2:W.cell? ⟨w.heap.size,2,none⟩=some (.int .i64 r.se):=V2.o.cell 2;have x3:W.cell? ⟨w.heap.size,3,none⟩=some (.slice A n c):=V2.o.cell 3;go_wp2_with fail;clear x1 x2 x3 i0 i1 s0 s1 n24;go_loopw [5] (fun i wr=>∃ k:Nat,k≤n∧i= .int .i64 (k:Int)∧Hid (Below W.heap.size W wr)) (fun i _=>n - (intOf i).toNat);case atStart=>exact ⟨0,Nat.zero_le _,rfl,Hd (Below.refl _ _)⟩
 case round=>
  obtain ⟨k,hk,rfl,hb⟩:=hrel;have V3:=Hd (V2.o.below hb.o);have D3:=Hd (D2.o.keep hb.o B2.o.size);have x3:wr.cell? ⟨w.heap.size,3,none⟩=some (.slice A n c):=V3.o.cell 3;by_cases hlt:k < n;case pos=>
   have hkx:k < r.ps.length:=(by rw [← HN.o];exact hlt);have kn:(k:Int) < (n:Int):=(by omega);have k0:(0:Int)≤(k:Int):=(by omega);obtain ⟨q7,q8⟩:=bq (show k≤1000000 by have:=HR.o.len;omega) (Nat.le_refl _);obtain ⟨ad,ea,E5,hcx⟩:=D3.o k hkx;obtain ⟨p0,p1,p2,p3⟩:=nT (a:=ad.add (k * 4)) hcx;have HK:=Hd (HR.o.ok _ (List.getElem_mem hkx));have HCK:=Hd (fun W=>Br (r.ps[k]'hkx).nm (r.ps[k]'hkx).kd (r.ps[k]'hkx).nu (r.ps[k]'hkx).tx W (by have:=HK.o.2;unfold maxLen;omega) (by have:=(jb HK.o.1).2;unfold maxLen;omega));rw [HK.o.1] at HCK;have HNE:=Hd (fun q (hq:q < k)=>HR.o.ne k hkx q hq);have HNM:=Hd (show ∀ w',Below wr.heap.size wr w' →w'.cell? (ad.add (k * 4))=some (.string (r.ps[k]'hkx).nm) from fun w' hb' =>(hb'.cell (by rw [ak];have:=B2.o.size;have:=hb.o.size;omega)).trans p0);have HPS:=Hd (show ∀ w',Below wr.heap.size wr w' →∀ q (hq:q < k),w'.cell? (ad.add (q * 4))=some (.string (r.ps[q]'(by omega)).nm) from fun w' hb' q hq=>by
    obtain ⟨ad',ea',Pw,Px⟩:=(D3.o.keep hb' (by have:=B2.o.size;have:=hb.o.size;omega)) q (by omega);rw [ea] at ea';injection ea' with ea';rw [ea'];exact (nT (a:=ad'.add (q * 4)) Px).1)
   rw [ea] at x3;have X3:=Hd (show ∀ w',Below wr.heap.size wr w' →w'.cell? ⟨w.heap.size,3,none⟩=some (.slice (some ad) n c) from fun w' hb' =>((V3.o.below hb').cell 3).trans (by rw [← ea];rfl));clear hcx ea;generalize r.ps[k]=p at *;go_wp2_with fail;refine (HCK.o wr).mono ?_;rintro e w3 ⟨rfl,hb3⟩;have HB3:=Hd hb3;clear hb3 x3 p0 p1 p2 p3;go_wp2_with fail;go_loopw [7] (fun i wy=>∃ q:Nat,q≤k∧i= .int .i64 (q:Int)∧Hid (Below wr.heap.size wr wy)) (fun i _=>k - (intOf i).toNat);case atStart=>exact ⟨0,Nat.zero_le _,rfl,HB3⟩
   case round=>
    obtain ⟨q,hq,rfl,hy⟩:=hrel;have x3:=X3.o _ hy.o;have nk:=HNM.o _ hy.o;by_cases hql:q < k;case pos=>
     have qk:(q:Int) < (k:Int):=(by omega);have qn:(q:Int) < (n:Int):=(by omega);have qz:(0:Int)≤(q:Int):=(by omega);have nq:=HPS.o _ hy.o q hql;have ne:=HNE.o q hql;obtain ⟨q9,q10⟩:=bq (show q≤1000000 by have:=HR.o.len;omega) (Nat.le_refl _);go_wp2_with fail;go_quiet (fail);go_wp2_with fail;go_roundw;case rel=>exact ⟨q+1,hql,by go_num,Hd (below_drewN hy.o _)⟩
     case measure=>exact aN hql _ rfl
    case neg=>
     have qk:¬ (q:Int) < (k:Int):=(by omega);clear x3 nk;go_wp2_with fail;go_roundw;case rel=>exact ⟨k+1,hlt,by go_num,Hd (aa hb.o hy.o)⟩
     case measure=>exact aN hlt _ rfl
  case neg=>
   have kn:¬ (k:Int) < (n:Int):=(by omega);go_wp2_with fail;go_ret;exact ⟨rfl,B2.o.trans (hb.o.mono B2.o.size)⟩
end Go.Proofs.YtollifnnpihfdaaGreatDoor
namespace Go.Proofs.YtollifnnpihfdaaGreatDoor
open Go.RowKit
def thT (n:Int):ByteArray:=fC 20 (n / 100) ⟨#[]⟩ ++ fC 20 (n / 10 % 10) ⟨#[]⟩ ++ fC 20 (n % 10) ⟨#[]⟩
def hdT (nm:ByteArray) (ti se:Int):ByteArray:=((((((((⟨#[116,121,112,101,61]⟩ ++ nm) ++ ⟨#[32,109,115,103,61,97,117,100,105,116,40]⟩) ++ fC 20 (ti / 1000) ⟨#[]⟩) ++ ⟨#[46]⟩) ++ thT (ti % 1000)) ++ ⟨#[58]⟩) ++ fC 20 se ⟨#[]⟩) ++ ⟨#[41,58]⟩)
def adT (T:ByteArray) (p:Pr):ByteArray:=T ++ (⟨#[32]⟩ ++ prT p.nm p.kd p.nu p.tx)
def qH (nm:ByteArray) (r:Rc):ByteArray:=r.ps.foldl adT (hdT nm r.ti r.se)
theorem sW {p:Pr} (h:bV p.nm p.kd p.nu p.tx=0) (hn:p.nm.size≤16):(prT p.nm p.kd p.nu p.tx).size≤1310:=by
 have h1:=(jb h).2;have h2:=lH p.nu;have h3:=oL p.tx;unfold prT I5;rw [ByteArray.size_append,ByteArray.size_append];show _+1+_≤_;split
 · omega
 · split
   · omega
   · show _+1+6≤_;omega
theorem sZ (nm:ByteArray) (ti se:Int) (h:nm.size≤8):(hdT nm ti se).size≤200:=by
 unfold hdT thT;simp only [ByteArray.size_append];have z0:(⟨#[]⟩:ByteArray).size=0:=rfl;have a1:=aP 20 (ti / 1000) ⟨#[]⟩;have a2:=aP 20 (ti % 1000 / 100) ⟨#[]⟩;have a3:=aP 20 (ti % 1000 / 10 % 10) ⟨#[]⟩;have a4:=aP 20 (ti % 1000 % 10) ⟨#[]⟩;have a5:=aP 20 se ⟨#[]⟩;show 5+_+11+_+1+_+1+_+2≤200;omega
theorem EH (j:Nat):(kdK j).nm.size≤8:=by
 by_cases h:j < 10
 · exact (show ∀ a:Fin 10,(kdK a.val).nm.size≤8 by decide+kernel) ⟨j,h⟩
 · unfold kdK;rw [List.getD_eq_getElem?_getD,List.getElem?_eq_none (by show 10≤j;omega)];decide
attribute [local irreducible] bV fC prT hdT
theorem Jb (r:Rc) (hr:RcG r) (j:Nat) (hj:j < 10) (ej:r.ty=(kdK j).ty) (A:Option Addr) (n c:Nat) (hn:n=r.ps.length) (w:World) (h:AtE EP w w.heap.size A r.ps):
  Calls Tryz.prog 65 #[.agg (rcC r (.slice A n c))] w fun e w' =>e= .returned (.tuple #[.string (qH (kdK j).nm r), .int .i64 0])∧Below w.heap.size w w' :=by
 have HF:=Hd (fun W=>EG j hj W);rw [← ej] at HF;have HCK:=Hd (fun (W:World) (hW:AtE EP W W.heap.size A r.ps)=>Bb r hr A n c hn W hW);have B0:=Hd ((Below.refl w.heap.size w).alloc (Nat.le_refl _) (.cells (rcC r (.slice A n c)) 77));have V0:=Hd (Blk.new w (rcC r (.slice A n c)) 77);have D0:=Hd (h.keep B0.o (Nat.le_refl _));have HN:=Hd hn;have HR:=Hd hr;have HZ:=Hd (sZ (kdK j).nm r.ti r.se (EH j));have HNZ:=Hd (EH j);clear h hn hr ej hj;go_in;go_upto_region 1 with fail;generalize w.alloc (.cells (rcC r (.slice A n c)) 77)=w0 at *;have x0:w0.cell? ⟨w.heap.size,0,none⟩=some (.int .i64 r.ty):=V0.o.cell 0;have x1:w0.cell? ⟨w.heap.size,1,none⟩=some (.int .i64 r.ti):=V0.o.cell 1;have x2:w0.cell? ⟨w.heap.size,2,none⟩=some (.int .i64 r.se):=V0.o.cell 2;have x3:w0.cell? ⟨w.heap.size,3,none⟩=some (.slice A n c):=V0.o.cell 3;go_wp2_with fail;refine (HCK.o w0 (D0.o.more B0.o.size)).mono ?_;rintro e w1 ⟨rfl,hb⟩;have V1:=Hd (V0.o.below hb);have D1:=Hd (D0.o.keep hb B0.o.size);have B1:=Hd (B0.o.trans (hb.mono B0.o.size));clear x0 x1 x2 x3 hb V0 D0 B0 HCK;go_upto_region 4 with fail;go_cut [5] (fun v wx=>v= .string (hdT (kdK j).nm r.ti r.se)∧Below w1.heap.size w1 wx);case first=>
  obtain ⟨i0,i1⟩:=HR.o.ti;have e1:IntKind.i64.wrap (r.ti.tdiv 1000)=r.ti / 1000:=by rw [Int.tdiv_eq_ediv_of_nonneg i0];exact IntWalk.i64_in _ (by omega)
  have e3:r.ti.tmod 1000=r.ti % 1000:=Int.tmod_eq_emod_of_nonneg i0;have e4:IntKind.i64.wrap (r.ti % 1000)=r.ti % 1000:=IntWalk.i64_in _ (by omega);have HD1:=Hd (fun W=>oK (r.ti / 1000) W);have HD3:=Hd (show ∀ W,Calls Tryz.prog 115 #[.int .i64 (r.ti % 1000)] W fun e w' =>e= .returned (.string (thT (r.ti % 1000)))∧W=w' from fun W=>Ja (r.ti % 1000) W (by omega) (by omega));have HD5:=Hd (fun W=>oK r.se W);have HEQ:=Hd (show hdT (kdK j).nm r.ti r.se=(((((((((⟨#[116,121,112,101,61]⟩ ++ (kdK j).nm) ++ ⟨#[32,109,115,103,61,97,117,100,105,116,40]⟩) ++ fC 20 (r.ti / 1000) ⟨#[]⟩) ++ ⟨#[46]⟩) ++ thT (r.ti % 1000)) ++ ⟨#[58]⟩) ++ fC 20 r.se ⟨#[]⟩) ++ ⟨#[41,58]⟩):ByteArray) by unfold hdT;rfl);have s1:(fC 20 (r.ti / 1000) ⟨#[]⟩).size≤24:=aP 20 (r.ti / 1000) ⟨#[]⟩;have s5:(fC 20 r.se ⟨#[]⟩).size≤24:=aP 20 r.se ⟨#[]⟩;have s3:(thT (r.ti % 1000)).size≤72:=by
   have a2:(fC 20 (r.ti % 1000 / 100) ⟨#[]⟩).size≤24:=aP 20 (r.ti % 1000 / 100) ⟨#[]⟩;have a3:(fC 20 (r.ti % 1000 / 10 % 10) ⟨#[]⟩).size≤24:=aP 20 (r.ti % 1000 / 10 % 10) ⟨#[]⟩;have a4:(fC 20 (r.ti % 1000 % 10) ⟨#[]⟩).size≤24:=aP 20 (r.ti % 1000 % 10) ⟨#[]⟩;unfold thT;rw [ByteArray.size_append,ByteArray.size_append];omega
  have kz:=HNZ.o;generalize fC 20 (r.ti / 1000) ⟨#[]⟩=D1 at *;generalize fC 20 r.se ⟨#[]⟩=D5 at *;generalize thT (r.ti % 1000)=D3 at *;generalize (kdK j).nm=NM at *;refine wp_region_held_drew (S:=(fun W' =>Below w1.heap.size w1 W')) (by kernel_rfl) (Below.refl _ _).drew (fun hHeld=>?_);refine tk hHeld 0 ?_ ?_ (tk hHeld 1 ?_ ?_ (tk hHeld 5 ?_ ?_ (tk hHeld 6 ?_ ?_ (tk hHeld 7 ?_ ?_ (tk hHeld 11 ?_ ?_ (tk hHeld 12 ?_ ?_ (tk hHeld 13 ?_ ?_ (tk hHeld 17 ?_ ?_ (tk hHeld 18 ?_ ?_ ?_)))))))));iterate 10
   rotate_left
   · intro w' hSw;have x0:w'.cell? ⟨w.heap.size,0,none⟩=some (.int .i64 r.ty):=(V1.o.below hSw).cell 0;have x1:w'.cell? ⟨w.heap.size,1,none⟩=some (.int .i64 r.ti):=(V1.o.below hSw).cell 1;have x2:w'.cell? ⟨w.heap.size,2,none⟩=some (.int .i64 r.se):=(V1.o.below hSw).cell 2;go_simp;first | (with_reducible rfl) | (rw [if_neg (by first | omega | (simp;omega))])
  refine rdy1 2 (fun K hK=>?_);go_simp;go_at_call 113;refine (HF.o _).mono ?_;rintro e w2 ⟨rfl,hb2⟩;have hh:=hHeld.trans (hb2.mono hHeld.size);go_simp;refine hK.o _ _ hh (fun hHeld=>?_);clear hK K hb2 hh;refine tk hHeld 3 ?_ ?_ (tk hHeld 4 ?_ ?_ ?_);iterate 2
   rotate_left
   · intro w' hSw;go_simp;first | (with_reducible rfl) | (rw [if_neg (by first | omega | (simp;omega))])
  refine rdy1 8 (fun K hK=>?_);go_simp;go_at_call 114;refine (HD1.o _).mono ?_;rintro e w2 ⟨rfl,rfl⟩;go_simp;refine hK.o _ _ hHeld (fun hHeld=>?_);clear hK K;refine tk hHeld 9 ?_ ?_ (tk hHeld 10 ?_ ?_ ?_);iterate 2
   rotate_left
   · intro w' hSw;go_simp;first | (with_reducible rfl) | (rw [if_neg (by first | omega | (simp;omega))])
  refine rdy1 14 (fun K hK=>?_);go_simp;go_at_call 115;refine (HD3.o _).mono ?_;rintro e w2 ⟨rfl,rfl⟩;go_simp;refine hK.o _ _ hHeld (fun hHeld=>?_);clear hK K;refine tk hHeld 15 ?_ ?_ (tk hHeld 16 ?_ ?_ ?_);iterate 2
   rotate_left
   · intro w' hSw;go_simp;first | (with_reducible rfl) | (rw [if_neg (by first | omega | (simp;omega))])
  refine rdy1 19 (fun K hK=>?_);go_simp;go_at_call 114;refine (HD5.o _).mono ?_;rintro e w2 ⟨rfl,rfl⟩;go_simp;refine hK.o _ _ hHeld (fun hHeld=>?_);clear hK K;refine tk hHeld 20 ?_ ?_ (tk hHeld 21 ?_ ?_ (tk hHeld 22 ?_ ?_ ?_));iterate 3
   rotate_left
   · intro w' hSw;go_simp;first | (with_reducible rfl) | (rw [if_neg (by first | omega | (simp;omega))])
  refine wpAnyH_done (by kernel_rfl) ?_ _;go_simp;go_wp2_with fail;go_meet;exact ⟨by rw [HEQ.o],hHeld⟩
 case rest=>
  obtain ⟨rfl,hb⟩:=hcut;have V4:=Hd (V1.o.below hb);have D4:=Hd (D1.o.keep hb B1.o.size);have B4:=Hd (B1.o.trans (hb.mono B1.o.size));clear hb V1 D1 B1 HF;have HLN:=Hd (show qH (kdK j).nm r=r.ps.foldl adT (hdT (kdK j).nm r.ti r.se) from rfl);generalize hdT (kdK j).nm r.ti r.se=HT at *;go_wp2_with fail;go_loopw [5,6] (fun v i wr=>∃ (k:Nat) (T:ByteArray),k≤n∧i= .int .i64 (k:Int)∧v= .string T∧Hid (T.size≤200+1320 * k)∧Hid (T=(r.ps.take k).foldl adT HT)∧Hid (Below wc.heap.size wc wr)) (fun _ i _=>n - (intOf i).toNat);case atStart=>exact ⟨0,HT,Nat.zero_le _,rfl,rfl,Hd (by have:=HZ.o;omega),Hd rfl,Hd (Below.refl _ _)⟩
  case round=>
   obtain ⟨k,T,hk,rfl,rfl,hz,hT,hb⟩:=hrel;have x3:wr.cell? ⟨w.heap.size,3,none⟩=some (.slice A n c):=(V4.o.below hb.o).cell 3;by_cases hlt:k < n;case pos=>
     have hkx:k < r.ps.length:=(by rw [← HN.o];exact hlt);have kn:(k:Int) < (n:Int):=(by omega);have k0:(0:Int)≤(k:Int):=(by omega);obtain ⟨q7,q8⟩:=bq (show k≤1000000 by have:=HR.o.len;omega) (Nat.le_refl _);obtain ⟨ad,ea,E5,hcx⟩:=(D4.o.keep hb.o B4.o.size) k hkx;obtain ⟨p0,p1,p2,p3⟩:=nT (a:=ad.add (k * 4)) hcx;have HK:=Hd (HR.o.ok _ (List.getElem_mem hkx));have HNX:=Hd (show (r.ps.take (k+1)).foldl adT HT=adT T (r.ps[k]'hkx) by rw [List.take_succ_eq_append_getElem hkx,List.foldl_append, ← hT.o];rfl);rw [ea] at x3;clear hcx ea;generalize r.ps[k]=p at *;have HFA:=Hd (fun W=>LU p.nm p.kd p.nu p.tx W HK.o.2 HK.o.1);have zp:=sW HK.o.1 HK.o.2;have hTz:T.size≤40000:=(by have:=hz.o;have:=HR.o.len;have:=HN.o;omega);go_wp2_with fail;refine (HFA.o wr).mono ?_;rintro e w3 ⟨rfl,hb3⟩;have HB3:=Hd (aa hb.o hb3);clear hb3 x3 p0 p1 p2 p3;go_wp2_with fail;go_roundw;case rel=>exact ⟨k+1,_,hlt,by go_num,rfl,Hd (by have:=hz.o;rw [ByteArray.size_append,ByteArray.size_append];show _+(1+_)≤_;omega),Hd HNX.o.symm,HB3⟩
     case measure=>exact aN hlt _ rfl
   case neg=>
     have kn:¬ (k:Int) < (n:Int):=(by omega);have HL:=Hd (show T=r.ps.foldl adT HT by rw [hT.o,List.take_of_length_le (by have:=HN.o;omega)]);go_wp2_with fail;go_ret2;exact ⟨tup (by rw [HL.o];exact HLN.o.symm) rfl,B4.o.trans (hb.o.mono B4.o.size)⟩
def nmT (t:Int):ByteArray:=((kdL.find? fun k=>k.ty == t).getD kdZ).nm
theorem yH (j:Nat) (h:j < 10):nmT (kdK j).ty=(kdK j).nm:=(show ∀ a:Fin 10,nmT (kdK a.val).ty=(kdK a.val).nm by decide+kernel) ⟨j,h⟩
def oM (r:Rc):Nat:=(qH (nmT r.ty) r).size+1
def kP (L:List Rc):Nat:=(L.map oM).sum
theorem jV:∀ (ps:List Pr) (T:ByteArray),(ps.foldl adT T).size=T.size+(ps.map fun p=>1+(prT p.nm p.kd p.nu p.tx).size).sum
 | [],T=>by simp
 | p :: ps,T=>by
  rw [List.foldl_cons,jV ps,List.map_cons,List.sum_cons];unfold adT;rw [ByteArray.size_append,ByteArray.size_append];show _+(1+_)+_=_;omega
theorem EI {r:Rc} (h:RcG r):oM r≤40000:=by
 obtain ⟨j,hj,ej⟩:=h.ty;unfold oM qH;rw [jV,ej,yH j hj];have h1:=sZ (kdK j).nm r.ti r.se (EH j);have h2:∀ ps:List Pr,(∀ p∈ps,bV p.nm p.kd p.nu p.tx=0∧p.nm.size≤16)→(ps.map fun p=>1+(prT p.nm p.kd p.nu p.tx).size).sum≤1311 * ps.length:=by
  intro ps;induction ps with
  | nil=>intro _;simp
  | cons p ps ih=>
   intro hp;have k1:=ih (fun q hq=>hp q (List.mem_cons_of_mem _ hq));have k2:=hp p (List.mem_cons_self ..);have k3:=sW k2.1 k2.2;rw [List.map_cons,List.sum_cons,List.length_cons];omega
 have h3:=h2 r.ps h.ok;have h4:=h.len;omega
theorem yI:∀ L:List Rc,(∀ r∈L,RcG r)→kP L≤40000 * L.length
 | [],_=>by simp [kP]
 | r :: L,h=>by
  have k1:=yI L (fun x hx=>h x (List.mem_cons_of_mem _ hx));have k2:=EI (h r (List.mem_cons_self ..));unfold kP at *;rw [List.map_cons,List.sum_cons,List.length_cons];omega
theorem yJ (L:List Rc) {k:Nat} (hk:k < L.length):kP (L.take (k+1))=kP (L.take k)+oM (L[k]'hk):=by
 unfold kP;rw [List.take_succ_eq_append_getElem hk,List.map_append,List.sum_append];simp
attribute [local irreducible] oM kP qH
theorem Cm (xs:List Rm) (hg:∀ x∈xs,RcG x.r) (A:Option Addr) (n c:Nat) (hn:n=xs.length) (hl:n≤10) (w:World) (h:AtE ER w w.heap.size A xs) (hp:∀ x∈xs,AtE EP w w.heap.size x.A x.r.ps):
  Calls Tryz.prog 26 #[.slice A n c] w fun e w' =>e= .returned (.int .i64 (kP (xs.map (·.r)):Int))∧Below w.heap.size w w' :=by
 have HN:=Hd hn;have HL:=Hd hl;have HD:=Hd h;have HP:=Hd hp;have HG:=Hd hg;have HBN:=Hd (show ∀ k,kP ((xs.map (·.r)).take k)≤400000 from fun k=>by
  have h1:=yI ((xs.map (·.r)).take k) (fun r hr=>by obtain ⟨x,hx,rfl⟩:=List.mem_map.1 (List.mem_of_mem_take hr);exact hg x hx);rw [List.length_take,List.length_map] at h1;omega)
 clear h hn hl hp hg;go_in;go_wp2_with fail;go_loopw [3,4] (fun v i wr=>∃ k:Nat,k≤n∧i= .int .i64 (k:Int)∧v= .int .i64 (kP ((xs.map (·.r)).take k):Int)∧Hid (Below w.heap.size w wr)) (fun _ i _=>n - (intOf i).toNat);case atStart=>exact ⟨0,Nat.zero_le _,rfl,by rw [List.take_zero];unfold kP;rfl,Hd (Below.refl _ _)⟩
 case round=>
  obtain ⟨k,hk,rfl,rfl,hb⟩:=hrel;by_cases hlt:k < n;case pos=>
   have hkx:k < xs.length:=(by rw [← HN.o];exact hlt);have kn:(k:Int) < (n:Int):=(by omega);have k0:(0:Int)≤(k:Int):=(by omega);obtain ⟨q7,q8⟩:=bq (show k≤1000000 by have:=HL.o;omega) (Nat.le_refl _);obtain ⟨ad,rfl,E5,hcx⟩:=(HD.o.keep hb.o (Nat.le_refl _)) k hkx;obtain ⟨s0,s1,s2,s3⟩:=nU (a:=ad.add (k * 4)) hcx;have HX:=Hd (HG.o _ (List.getElem_mem hkx));have HXP:=Hd ((HP.o _ (List.getElem_mem hkx)).below hb.o);have HNX:=Hd (show kP ((xs.map (·.r)).take (k+1))=kP ((xs.map (·.r)).take k)+oM (xs[k]'hkx).r by rw [yJ _ (by simpa using hkx),List.getElem_map]);have b1:=HBN.o k;have b2:=HBN.o (k+1);rw [HNX.o] at b2;clear hcx;generalize xs[k]=x at *;obtain ⟨j,hj,ej⟩:=HX.o.ty;have HF:=Hd (fun W (hW:AtE EP W W.heap.size x.A x.r.ps)=>Jb x.r HX.o j hj ej x.A x.r.ps.length x.c rfl W hW);rw [← yH j hj, ← ej] at HF;have HSZ:=Hd (show ((qH (nmT x.r.ty) x.r).size:Int)+1=(oM x.r:Int) by unfold oM;omega);generalize kP ((xs.map (·.r)).take k)=N at *;clear hj ej;go_wp2_with fail;refine (HF.o wr HXP.o).mono ?_;rintro e w3 ⟨rfl,hb3⟩;have HB3:=Hd (aa hb.o hb3);have hsz:=HSZ.o;generalize (qH (nmT x.r.ty) x.r)=T at *;clear hb3 s0 s1 s2 s3;go_wp2_with fail;go_roundw;(case rel=>exact ⟨k+1,hlt,by go_num,by rw [HNX.o];congr 1 <;> omega,HB3⟩);case measure=>exact aN hlt _ rfl
  case neg=>
   have kn:¬ (k:Int) < (n:Int):=(by omega);have HE:=Hd (show (xs.map (·.r)).take k=xs.map (·.r) from List.take_of_length_le (by rw [List.length_map];have:=HN.o;omega));rw [HE.o];go_wp2_with fail;go_ret;exact ⟨rfl,hb.o⟩
end Go.Proofs.YtollifnnpihfdaaGreatDoor
