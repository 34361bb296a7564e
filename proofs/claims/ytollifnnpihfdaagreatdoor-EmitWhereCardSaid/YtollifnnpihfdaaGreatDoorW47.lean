import Derived.Test.YtollifnnpihfdaaGreatDoorW32
set_option maxRecDepth 100000
set_option maxHeartbeats 64000000
set_option linter.all false
namespace Go.Proofs.YtollifnnpihfdaaGreatDoor
open Go.RowKit Go.Shelf
attribute [local go_sem] Oper.semAt_some
inductive Chn (f:List Dv) (ms:List Mt):List (Int×Int)→Int→Int→Prop
 | top:onF ms 0=none→bI f 0 1=true→Chn f ms [(0,1)] 0 1
 | over {l:List (Int×Int)} {dev a b:Int} :bI f dev 1=true→dev≠0→onF ms dev=some (a,b)→Chn f ms l a b→Chn f ms ((dev,1) :: l) dev 1
 | step {l:List (Int×Int)} {dev ino:Int} {n:Nd} :aF f dev ino=some n→n.kind=2→ino≠1→Chn f ms l dev n.par→Chn f ms ((dev,ino) :: l) dev ino
theorem oN {f:List Dv} {dev ino:Int} (h:bI f dev ino=true):∃ n,aF f dev ino=some n∧n.kind=2:=by
 unfold bI at h;cases hq:aF f dev ino with
 | none=>rw [hq] at h;cases h
 | some n=>rw [hq] at h;exact ⟨n,rfl,by simpa using h⟩
theorem Chn.head {f:List Dv} {ms:List Mt} {l:List (Int×Int)} {d i:Int} (h:Chn f ms l d i):∃ n,aF f d i=some n∧n.kind=2∧n.ino=i∧∃ r,l=(d,i) :: r:=by
 have k:∀ {n:Nd} {d i:Int},aF f d i=some n→n.ino=i:=fun h=>by
  obtain ⟨_,_,_,h4⟩:=aG h;exact h4
 cases h with
 | top h1 h2=>
  obtain ⟨n,e1,e2⟩:=oN h2;exact ⟨n,e1,e2,k e1,_,rfl⟩
 | over h1 h2 h3 h4=>
  obtain ⟨n,e1,e2⟩:=oN h1;exact ⟨n,e1,e2,k e1,_,rfl⟩
 | step h1 h2 h3 h4=>exact ⟨_,h1,h2,k h1,_,rfl⟩
theorem Chn.yN {f:List Dv} {ms:List Mt} {l:List (Int×Int)} {d i:Int} (h:Chn f ms l d i) (hi:i≠1):∃ (n:Nd) (r:List (Int×Int)),aF f d i=some n∧Chn f ms r d n.par∧l=(d,i) :: r:=by
 cases h with
 | top h1 h2=>exact absurd rfl hi
 | over h1 h2 h3 h4=>exact absurd rfl hi
 | step h1 h2 h3 h4=>exact ⟨_,_,h1,h4,rfl⟩
theorem Chn.Ct {f:List Dv} {ms:List Mt} {l:List (Int×Int)} {d:Int} (h:Chn f ms l d 1):(d=0∧onF ms 0=none∧l= [(0,1)])∨(d≠0∧∃ (a b:Int) (r:List (Int×Int)),onF ms d=some (a,b)∧Chn f ms r a b∧l=(d,1) :: r):=by
 cases h with
 | top h1 h2=>exact .inl ⟨rfl,h1,rfl⟩
 | over h1 h2 h3 h4=>exact .inr ⟨h2,_,_,_,h3,h4,rfl⟩
 | step h1 h2 h3 h4=>exact absurd rfl h3
theorem vT {ms:List Mt} {dev a b:Int} (h:onF ms dev=some (a,b)):onR ms dev=(a,b,true):=by unfold onR;rw [h]
theorem vU {ms:List Mt} {dev:Int} (h:onF ms dev=none):onR ms dev=(0,0,false):=by unfold onR;rw [h]
structure jw (base lo:Nat) (A B:World):Prop where
 low:Below base A B
 cells:∀ b,lo≤b→∀ (t:TypeId) (cs:Array Value),t≠9→Blk A b t cs→Blk B b t cs
theorem jw.trans {base lo:Nat} {A B C:World} (h:jw base lo A B) (k:jw base lo B C):jw base lo A C:=⟨h.low.trans k.low,fun b hb t cs ht hq=>k.cells b hb t cs ht (h.cells b hb t cs ht hq)⟩
theorem jw.obj {base lo:Nat} (A:World) (l:Nat) (o o' :Obj) (hl:base≤l) (h:A.heap[l]? =some o) (ho:o.isCells=false):jw base lo A (A.putObj l o'):=
 ⟨iW A o' hl (Array.getElem?_eq_some_iff.1 h).1,fun b _ t cs _ hq=>by
  have hne:l≠b:=fun e=>by
   subst e;have hq' :A.heap[l]? =some (.cells cs t (0,0)):=hq;rw [h] at hq';injection hq' with hq';rw [hq'] at ho;cases ho
  exact (World.putObj_heap_other hne.symm).trans hq⟩
theorem jw.below {base lo:Nat} {A B:World} (hb:Below A.heap.size A B) (h:base≤A.heap.size):jw base lo A B:=⟨hb.mono h,fun b _ t cs _ hq=>Blk.below hq hb⟩
theorem fH {lo hi:Nat} {A B:World} (hb:Below A.heap.size A B) (h:lo≤A.heap.size):Mid lo hi A B:=⟨hb.mono h,fun b _ hlt=>hb.block b hlt⟩
theorem ny {W:World} {lo hi B i:Nat} (v:Value) (h1:lo≤B) (h2:B < hi):Mid lo hi W (W.setCell ⟨B,i,none⟩ v):=
 ⟨(Below.refl lo W).setCell (p:=⟨B,i,none⟩) h1 v,fun b hb _=>Below.heap_setCell W ⟨B,i,none⟩ v b (by show b≠B;omega)⟩
def oZ (ds:List Dm) (k:Nat):Nat:=((ds.take k).map (fun d=>d.xs.length)).sum
theorem vV (ds:List Dm) (h:∀ d∈ds,d.xs.length≤1000) (k:Nat):oZ ds k≤1000 * k:=by
 unfold oZ;induction ds generalizing k with
 | nil=>simp
 | cons d ds ih=>
  cases k with
  | zero=>simp
  | succ k=>
   have h1:=ih (fun x hx=>h x (List.mem_cons_of_mem _ hx)) k;have h2:=h d (List.mem_cons_self ..);simp only [List.take_succ_cons,List.map_cons,List.sum_cons];omega
theorem vW (ds:List Dm):oZ ds 0=0:=by unfold oZ;simp
theorem vX (ds:List Dm) {k:Nat} (hk:k < ds.length):oZ ds (k+1)=oZ ds k+(ds[k]'hk).xs.length:=by
 unfold oZ;rw [List.take_add_one,List.getElem?_eq_getElem hk];simp only [Option.toList,List.map_append,List.sum_append,List.map_cons,List.map_nil,List.sum_cons,List.sum_nil,Nat.add_zero]
theorem yO (ds:List Dm):oZ ds ds.length=wO (ds.map Dm.dv):=by
 unfold oZ wO;rw [List.take_length,List.map_map];congr 1;apply List.map_congr_left;intro d _;simp [Dm.dv]
theorem JO {a b:Nat} (h:a+b≤1000000):wrap64 ((a:Int)+(b:Int))=((a+b:Nat):Int)∧IntKind.i64.wrap ((a:Int)+(b:Int))=((a+b:Nat):Int):=
 ⟨(IntWalk.wrap64_in _ (by omega)).trans (Int.natCast_add a b).symm,(IntWalk.i64_in _ (by omega)).trans (Int.natCast_add a b).symm⟩
structure ChS (w wr:World) (base B:Nat) (A:Option Addr) (n c:Nat) (ds:List Dm) (Am:Option Addr) (nm cm:Nat) (ms:List Mt) (d i:Int):Prop where
 V:Blk wr B 31 #[slV A n c,slV Am nm cm]
 U:Blk wr (B+1) 44 #[.int .i64 d, .int .i64 i]
 F:bV wr base A ds
 M:AtE EMt wr base Am ms
 hb:base≤B
section
variable {w wr w' :World} {base B:Nat} {A Am:Option Addr} {n c nm cm:Nat} {ds:List Dm} {ms:List Mt} {d i d' i' :Int}
theorem ChS.lt (h:ChS w wr base B A n c ds Am nm cm ms d i):B+1 < wr.heap.size:=h.U.lt
theorem ChS.grow (h:ChS w wr base B A n c ds Am nm cm ms d i) (hb:Below wr.heap.size wr w'):ChS w w' base B A n c ds Am nm cm ms d i:=by
 have:=h.lt;have:=h.hb;exact ⟨h.V.below hb,h.U.below hb,h.F.keep hb (by omega),h.M.keep hb (by omega),h.hb⟩
theorem ChS.held (h:ChS w wr base B A n c ds Am nm cm ms d i) (hb:jw base B wr w'):ChS w w' base B A n c ds Am nm cm ms d i:=
 ⟨hb.cells _ (Nat.le_refl _) _ _ (by decide) h.V,hb.cells _ (Nat.le_succ _) _ _ (by decide) h.U,h.F.keep hb.low (Nat.le_refl _),h.M.keep hb.low (Nat.le_refl _),h.hb⟩
theorem ChS.files (h:ChS w wr base B A n c ds Am nm cm ms d i):bV wr wr.heap.size A ds:=h.F.more (by have:=h.lt;have:=h.hb;omega)
theorem ChS.aR (h:ChS w wr base B A n c ds Am nm cm ms d i):AtE EMt wr wr.heap.size Am ms:=h.M.more (by have:=h.lt;have:=h.hb;omega)
theorem ChS.ino (h:ChS w wr base B A n c ds Am nm cm ms d i) (k:Int):ChS w (wr.setCell ⟨B+1,1,none⟩ (.int .i64 k)) base B A n c ds Am nm cm ms d k:=by
 have hb:=h.hb;have hl:=(Below.refl base wr).setCell (p:=⟨B+1,1,none⟩) (by show base≤B+1;omega) (.int .i64 k);exact ⟨h.V.af _ (by show B≠B+1;omega),h.U.put 1 _,h.F.keep hl (Nat.le_refl _),h.M.keep hl (Nat.le_refl _),hb⟩
theorem ChS.dev (h:ChS w wr base B A n c ds Am nm cm ms d i) (k:Int):ChS w (wr.setCell ⟨B+1,0,none⟩ (.int .i64 k)) base B A n c ds Am nm cm ms k i:=by
 have hb:=h.hb;have hl:=(Below.refl base wr).setCell (p:=⟨B+1,0,none⟩) (by show base≤B+1;omega) (.int .i64 k);exact ⟨h.V.af _ (by show B≠B+1;omega),h.U.put 0 _,h.F.keep hl (Nat.le_refl _),h.M.keep hl (Nat.le_refl _),hb⟩
end
attribute [local irreducible] oZ wO
theorem vY (n' B base:Nat) (hn1:1≤n') (ds:List Dm) (A:Option Addr) (n c:Nat) (hn:n=ds.length) (ms:List Mt) (Am:Option Addr) (nm cm:Nat) (hnm:nm=ms.length) (hl:nm≤1000) (d0 i0:Int) (l0:List (Int×Int)) (hch:Chn (ds.map Dm.dv) ms l0 d0 i0) (hlen:l0.length≤wO (ds.map Dm.dv)) (w:World) (hS:ChS w w base B A n c ds Am nm cm ms d0 i0):
  KS Fence.wide n' Tryz.prog 160 #[.pointer (some ⟨B,0,none⟩), .pointer (some ⟨B+1,0,none⟩)] (fun x:Int×Int=>flV x.1 x.2) (fun _=>True) B (B+2) (jw base B)
   (fun xs=>xs=l0) (fun pre=>∃ rest,pre ++ rest=l0) l0.length w:=by
 intro l J Jx W hW hJ hJx hY h0;have S0:=Hd (hS.grow hW);have HN:=Hd hn;have HNM:=Hd hnm;have HL:=Hd hl;have HCH:=Hd hch;have HLEN:=Hd (show l0.length≤oZ ds n by rw [hn,yO];exact hlen);clear hS hn hnm hl hch hlen hW;refine callsIn_of_wp Tryz.func160 rfl trivial ?_ rfl;simp only [Tryz.ntmps160,List.size_toArray,List.length_cons,List.length_nil,Nat.reduceAdd,Nat.reduceSub,Array.replicate_succ,Array.replicate_zero,List.push_toArray,List.append_toArray,List.nil_append,List.cons_append];have v0:=S0.o.V.cell 0;refine iF ?_
 gi_wp2
 clear v0
 gi_loopw [4,14] (fun s i wr=>∃ k:Nat,k≤n∧s= .int .i64 (oZ ds k:Nat)∧i= .int .i64 (k:Int)∧Hid (Below W.heap.size W wr)) (fun _ i _=>n - (intOf i).toNat)
 case atStart=>exact ⟨0,Nat.zero_le _,by rw [vW];rfl,rfl,Hd (Below.refl _ _)⟩
 case round=>
  obtain ⟨k,hk,rfl,rfl,hbw⟩:=hrel;have nD:=S0.o.F.few;have hn:=HN.o;by_cases hlt:k < n;case pos=>
   have hkl:k < ds.length:=(by omega);have k0:(0:Int)≤(k:Int):=(by omega);have kn:(k:Int) < (n:Int):=(by omega);obtain ⟨ad,rfl,hab,hcx⟩:=(S0.o.grow hbw.o).F.at_ k hkl;obtain ⟨s0,s1⟩:=bK (a:=ad.add (k * 2)) hcx;have HSN:=Hd (vX ds hkl);have HSL:=Hd (show oZ ds k+ds[k].xs.length≤1000000 by
    have h1:=vV ds (fun d hd=>(S0.o.F.nodes d hd).2) (k+1);rw [HSN.o] at h1;exact Nat.le_trans h1 (by omega))
   clear hcx;generalize ds[k]=x at *;have hk9:k≤1000000:=(by omega);obtain ⟨w1,w2⟩:=JO HSL.o;obtain ⟨q7,q8⟩:=bz hk9 (Nat.le_refl _);have B1:=Hd (hbw.o.alloc hbw.o.size (.cells #[.int .i64 x.nx, .slice x.A x.xs.length x.c] 142))
   gi_wp2
   clear w1 w2 q7 q8;go_roundw;case rel=>exact ⟨k+1,hlt,by rw [HSN.o,Int.natCast_add],by go_num,B1⟩
   case measure=>exact aN hlt _ rfl
  case neg=>
   obtain rfl:k=n:=(by omega);have kn:¬ (k:Int) < (k:Int):=(by omega);have S1:=Hd (S0.o.grow hbw.o);have HJ1:=hJ [] W wr h0 (fH hbw.o (by have:=S0.o.lt;omega));have HSA:=Hd (show oZ ds k≤1000000 from Nat.le_trans (vV ds (fun d hd=>(S0.o.F.nodes d hd).2) k) (by omega));clear hbw h0 S0 hn nD
   gi_wp2
   refine wpIn_label ?_
   gi_wp2
   generalize hW1:wr=W1 at *;clear hW1
   gi_loopw [25] (fun i wr=>∃ (pre rest:List (Int×Int)) (d e:Int),pre ++ rest=l0∧Hid (Chn (ds.map Dm.dv) ms rest d e)∧i= .int .i64 (pre.length:Nat)∧Hid (ChS w wr base B A k c ds Am nm cm ms d e)∧J pre wr) (fun i _=>l0.length - (intOf i).toNat)
   case atStart=>exact ⟨[],l0,d0,i0,rfl,HCH,rfl,S1,HJ1⟩
   case round=>
    clear HCH S1 HJ1;obtain ⟨pre,rest,d,e,hl0,hch,rfl,S2,hj⟩:=hrel;obtain ⟨nd,hq,hk2,KU,rest',hr⟩:=hch.o.head;have hlt:pre.length < l0.length:=(by rw [← hl0,hr,List.length_append,List.length_cons];omega);have h9:l0.length≤oZ ds k:=HLEN.o;have HKT:=Hd (Nat.lt_of_lt_of_le hlt h9);have kn:(pre.length:Int) < (oZ ds k:Int):=(by omega);have HNX:=Hd (show pre ++ [(d,e)] ++ rest' =l0 by rw [← hl0,hr,List.append_assoc];rfl);have v0:=S2.o.V.cell 0;have u0:=S2.o.U.cell 0;have u1:=S2.o.U.cell 1;have HLT:=Hd hlt;have HQ:=Hd hq;have HIN:=Hd KU;have HK2:=Hd hk2;clear h9 hlt hq KU hk2
    gi_wp2_with fail
    clear v0 u0 u1;refine ⟨trivial,(callsIn_wide.2 (Gl d e ds A k c HN.o _ S2.o.files)).mono ?_⟩;intro en w1 hp;rw [HQ.o] at hp;obtain ⟨A1,c1,rfl,_,hb,_⟩:=hp;have S3:=Hd ((S2.o.grow hb).grow ((Below.refl w1.heap.size w1).alloc (Nat.le_refl _) (.cells (ndC nd (.slice A1 nd.es.length c1)) 145)));have X3:=Hd (Blk.new w1 (ndC nd (.slice A1 nd.es.length c1)) 145);have hj3:J pre (w1.alloc (.cells (ndC nd (.slice A1 nd.es.length c1)) 145)):=hJ pre _ _ hj (fH (hb.alloc hb.size (.cells (ndC nd (.slice A1 nd.es.length c1)) 145)) (by have:=S2.o.lt;omega));have HBN:=Hd (show B+1 < w1.heap.size from Nat.lt_of_lt_of_le S2.o.lt hb.size);obtain ⟨fn,tmps,assign,body,hy,hR⟩:=hY pre (d,e) _ trivial hj3 HLT.o;clear hb hj3 S2 hj;have u0:=S3.o.U.cell 0;have u1:=S3.o.U.cell 1;have x1:=X3.o.cell 1;have x1' :(w1.alloc (.cells (ndC nd (.slice A1 nd.es.length c1)) 145)).cell? ⟨w1.heap.size,1,none⟩=some (.int .i64 2):=(by rw [← HK2.o];exact x1);clear x1
    gi_wp2
    clear u0 u1 x1' hy;generalize hW3:w1.alloc (.cells (ndC nd (.slice A1 nd.es.length c1)) 145)=W3 at *;clear hW3;refine hR.mono ?_;clear hR;rintro en W4 (⟨rfl,hj4,hh4⟩ | ⟨rfl,JP⟩);case inr=>
     gi_wp2
     rw [Exit.noGoto_ret];refine bodyPost_ret (results_none rfl _ _ _) rfl ?_;exact ⟨⟨_,rfl⟩, .inr ⟨_,⟨rest',HNX.o⟩,JP⟩⟩
    case inl=>
     have S4:=Hd (S3.o.held hh4);have X4:=Hd (hh4.cells _ (by have:=HBN.o;omega) _ _ (by decide) X3.o);clear hh4 S3 X3;have x0:=X4.o.cell 0;have x5:=X4.o.cell 5;by_cases he1:e=1;case neg=>
      have hb1:=(aM (show nd.ino≠1 by rw [HIN.o];exact he1)).2;obtain ⟨nd',r',hq',hr',hl'⟩:=hch.o.yN he1;rw [HQ.o] at hq';injection hq' with hq';subst hq';have HN2:=Hd (show pre ++ [(d,e)] ++ r' =l0 by rw [← hl0,hl',List.append_assoc];rfl);have HC2:=Hd hr';have S5:=Hd (S4.o.ino nd.par);have hj5:=hJ _ _ _ hj4 (ny (lo:=B) (hi:=B+2) (i:=1) (.int .i64 nd.par) (show B≤B+1 by omega) (show B+1 < B+2 by omega):Mid B (B+2) W4 (W4.setCell ⟨B+1,1,none⟩ (.int .i64 nd.par)));have g1:=S4.o.U.cell 1;have f1:=S4.o.U.free 1;have HPL:=Hd (show ((pre ++ [(d,e)]).length:Nat)=pre.length+1 by simp);obtain ⟨q7,q8⟩:=bz (show pre.length≤1000000 by have:=HKT.o;have:=HSA.o;omega) (Nat.le_refl _);clear hr' hl' he1 hj4
      gi_wp2
      clear q7 q8 g1 f1 hb1;go_roundw;case rel=>exact ⟨pre ++ [(d,e)],r',d,nd.par,HN2.o,HC2,by rw [HPL.o];rfl,S5,hj5⟩
      case measure=>exact aN HLT.o _ rfl
     case pos=>
      have hb1:=(bE (show nd.ino=1 by rw [HIN.o];exact he1)).2;subst he1;have v0:=S4.o.V.cell 0;have v1:=S4.o.V.cell 1;have u0:=S4.o.U.cell 0
      gi_wp2_with fail
      refine ⟨trivial,(callsIn_wide.2 (vS d (slV A k c) ms Am nm cm HNM.o HL.o _ S4.o.aR)).mono ?_⟩;rintro en w5 ⟨rfl,hb⟩;have S5:=Hd (S4.o.grow hb);have hj5:=hJ _ _ _ hj4 (fH (lo:=B) (hi:=B+2) hb (by have:=S4.o.lt;omega));clear hb v0 v1 u0 hb1 x0 x5;rcases hch.o.Ct with ⟨rfl,hno,hl'⟩ | ⟨hd0,a,b,r',hon,hr',hl'⟩;case inl=>
       have HXS:=Hd (show pre ++ [(0,1)]=l0 by rw [← hl0,hl']);rw [vU hno];have hj6:=hJ _ _ _ hj5 (fH (lo:=B) (hi:=B+2) ((Below.refl w5.heap.size w5).alloc (Nat.le_refl _) (.cells #[.int .i64 0, .int .i64 0] 44)) (by have:=S5.o.lt;omega));clear hno hl'
       gi_wp2
       rw [Exit.noGoto_ret];refine bodyPost_ret (results_none rfl _ _ _) rfl ?_;exact ⟨⟨_,rfl⟩, .inl ⟨_,HXS.o,hj6⟩⟩
      case inr=>
       have HN2:=Hd (show pre ++ [(d,1)] ++ r' =l0 by rw [← hl0,hl',List.append_assoc];rfl);have HC2:=Hd hr';rw [vT hon];have b0:=(aM hd0).1;have S6:=Hd (S5.o.grow ((Below.refl w5.heap.size w5).alloc (Nat.le_refl _) (.cells #[.int .i64 a, .int .i64 b] 44)));have hj6:=hJ _ _ _ hj5 (fH (lo:=B) (hi:=B+2) ((Below.refl w5.heap.size w5).alloc (Nat.le_refl _) (.cells #[.int .i64 a, .int .i64 b] 44)) (by have:=S5.o.lt;omega));have X6:=Hd (Blk.new w5 #[.int .i64 a, .int .i64 b] 44);have S8:=Hd ((S6.o.dev a).ino b);have hj8:=hJ _ _ _ (hJ _ _ _ hj6 (ny (lo:=B) (hi:=B+2) (i:=0) (.int .i64 a) (show B≤B+1 by omega) (show B+1 < B+2 by omega))) (ny (lo:=B) (hi:=B+2) (i:=1) (.int .i64 b) (show B≤B+1 by omega) (show B+1 < B+2 by omega));have HPL:=Hd (show ((pre ++ [(d,(1:Int))]).length:Nat)=pre.length+1 by simp);have g0:=S6.o.U.cell 0;have g1:=S6.o.U.cell 1;have f0:=S6.o.U.free 0;have f1:=S6.o.U.free 1;have z0:=X6.o.cell 0;have z1:=X6.o.cell 1;obtain ⟨q7,q8⟩:=bz (show pre.length≤1000000 by have:=HKT.o;have:=HSA.o;omega) (Nat.le_refl _);clear hr' hl' hd0 hon hj4 hj5 hj6
       gi_wp2
       clear q7 q8 g0 g1 f0 f1 z0 z1 b0;go_roundw;case rel=>exact ⟨pre ++ [(d,1)],r',a,b,HN2.o,HC2,by rw [HPL.o];rfl,S8,hj8⟩
       case measure=>exact aN HLT.o _ rfl
end Go.Proofs.YtollifnnpihfdaaGreatDoor
namespace Go.Proofs.YtollifnnpihfdaaGreatDoor
def jy (f:List Dv) (l:List (Int×Int)):List ByteArray:=(l.filter (fun x=>x.2 != 1)).map (fun x=>dS f x.1 x.2)
theorem qL (f:List Dv) (d:Int) (l:List (Int×Int)):jy f ((d,1) :: l)=jy f l:=by
 unfold jy;rw [List.filter_cons_of_neg (by simp)]
theorem oO (f:List Dv) {d i:Int} (h:i≠1) (l:List (Int×Int)):jy f ((d,i) :: l)=dS f d i :: jy f l:=by
 unfold jy;rw [List.filter_cons_of_pos (by simpa using h)];rfl
theorem qM (f:List Dv) (l k:List (Int×Int)):jy f (l ++ k)=jy f l ++ jy f k:=by
 unfold jy;rw [List.filter_append,List.map_append]
theorem kM.chn {f:List Dv} {ms:List Mt} {h:Nat} {dev ino:Int} {L:List ByteArray} (w:kM f ms h dev ino L):
  ∃ l:List (Int×Int),Chn f ms (l ++ [(0,1)]) dev ino∧(l ++ [(0,1)]).length=h∧(∀ x∈l,x≠(0,1))∧L=(jy f l).reverse:=by
 induction w with
 | top h1 h2=>exact ⟨[], .top h1 h2,rfl,(fun x hx=>by cases hx),rfl⟩
 | @over h dev a b L h1 h2 h3 _ ih=>
  obtain ⟨l,k1,k2,k3,k4⟩:=ih;refine ⟨(dev,1) :: l, .over h1 h2 h3 k1,by simp at k2 ⊢;omega,fun x hx=>?_,by rw [qL];exact k4⟩;rcases List.mem_cons.1 hx with rfl | hx
  · intro e;injection e with e _;exact h2 e
  · exact k3 x hx
 | @step h dev ino n L h1 h2 h3 h4 _ ih=>
  obtain ⟨l,k1,k2,k3,k4⟩:=ih;refine ⟨(dev,ino) :: l, .step h1 h2 h3 k1,by simp at k2 ⊢;omega,fun x hx=>?_,by rw [oO f h3,List.reverse_cons, ← k4]⟩;rcases List.mem_cons.1 hx with rfl | hx
  · intro e;injection e with _ e;exact h3 e
  · exact k3 x hx
open Go.RowKit
variable {F:Fence} {n:Nat} {P:Program}
theorem oP {α:Type} {g:Operand} {ps:Array Tmp} {assign body:Code} {Q:Exit→Act→World→Prop} {a:Act} {w:World}
   (hro:F.round=none) (h1:1≤n) {gf:Nat} {lb:Array Value} (hg:a.eval g= .func (.func gf) #[] lb) (hFg:F.fn gf) (eg:∀ args w,(callFunc gf args).run P w= .ok (.enter gf args) w)
   {enc:α→Value} {G:α→Prop} {S Sp:List α→Prop} {N lo hi:Nat} (hlh:lo≤hi) (hhi:hi≤w.heap.size) (R:World→World→Prop) (hRt:∀ {A B C:World},R A B→R B C→R A C) (hRp:∀ (A:World) (l:Nat) (o o' :Obj),w.heap.size≤l→A.heap[l]? =some o→o.isCells=false→R A (A.putObj l o')) (hseq:KS F (n - 1) P gf lb enc G lo hi R S Sp N w) (hps:ps.size=1)
   (I:List α→World→Prop) (Ix:Code→List α→World→Prop) (hI:∀ pre A B,I pre A→Mid lo hi A B→I pre B) (hIx:∀ c pre A B,Ix c pre A→Mid lo hi A B→Ix c pre B) (hIp:∀ pre A l o o',I pre A→w.heap.size≤l→A.heap[l]? =some o→o.isCells=false→I pre (A.putObj l o')) (Ht:∀ c pre A l o o',Ix c pre A→w.heap.size≤l→A.heap[l]? =some o→o.isCells=false→Ix c pre (A.putObj l o')) (h0:I [] w) (Ax:α→Act→World→Prop) (hAx:∀ x a' A l o o',Ax x a' A→A.heap[l]? =some o→o.isCells=false→Ax x a' (A.putObj l o'))
   (hassign:∀ (l:Nat) (pre:List α) (x:α) (W:World) (K:Act→World→Prop),I pre W→hi≤W.heap.size→(∀ a' W',KeepsOthers W W' →R W W' →I pre W' →Ax x a' W' →K a' W')→
     assign.wpIn (F.inRound l) (n - 1 - 1) P (Exit.then K (fun _ _ _=>False)) { tmps:=(ps.zip #[enc x]).foldl (fun t (p,v)=>t.setIfInBounds p v) a.tmps,defers:= [] } W)
   (hbody:∀ (l:Nat) (pre:List α) (x:α) (a' :Act) (W:World),G x→I pre W→Ax x a' W→(∃ r,W.heap[l]? =some (.loop r))→w.heap.size≤l→hi≤W.heap.size→pre.length < N→body.wpIn (F.inRound l) (n - 1 - 1) P (ownPostK R I Ix (pre ++ [x]) W) a' W)
   (hdone:∀ (D:Nat) (xs:List α) (W:World),w.heap.size≤D→S xs→I xs W→W.heap[D]? =some (.deferred (some []))→Q .normal { a with defers:= { target:= .collected D,args:=#[] } :: a.defers } W)
   (hstop:∀ (D:Nat) (c:Code) (pre:List α) (W:World),w.heap.size≤D→Sp pre→Ix c pre W→W.heap[D]? =some (.deferred (some []))→c.wpIn F n P Q { a with defers:= { target:= .collected D,args:=#[] } :: a.defers } W):
   (Code.rangeFunc g ps assign body).wpIn F n P Q a w:=by
 refine wpIn_rangeFunc fun fn hfn=>?_;rw [hro];generalize hk:w.heap.size=k at *;let Hu:LoopState→Option Code→Loop:=fun st pe=> { state:=st,pending:=pe,fn,tmps:=a.tmps,params:=ps,assign,body,defers:=k };obtain ⟨r,hr⟩:∃ r,r=Hu:=⟨_,rfl⟩;have e1:=World.alloc_heap_new w (.deferred (some []));have e2:=World.alloc_heap_new (w.alloc (.deferred (some []))) (.loop (r .ready none));have e3:=Below.heap_alloc (w.alloc (.deferred (some []))) (.loop (r .ready none)) k (by simp;omega);have hB:Below k w ((w.alloc (.deferred (some []))).alloc (.loop (r .ready none))):=((Below.refl k w).alloc (by omega) _).alloc (by simp;omega) _;have hrun:=run_enterLoop_outer (P:=P) (w:=w) fn a.tmps ps assign body;rw [World.size_alloc,hk] at e2;rw [hk] at e1 hrun;have e4:((w.alloc (.deferred (some []))).alloc (.loop (r .ready none))).heap[k]? =some (.deferred (some [])):=e3.trans e1;have hrun' :(Instr.enterLoop fn a.tmps ps assign body none).run P w= .ok (k+1, [{ target:= .collected k,args:=#[] }]) ((w.alloc (.deferred (some []))).alloc (.loop (r .ready none))):=by rw [hr];exact hrun
 generalize (w.alloc (.deferred (some []))).alloc (.loop (r .ready none))=W1 at *;refine ⟨k+1,_,W1, { target:= .fn (.func gf) lb,args:=#[.func (.yield (k+1)) #[] #[]] },W1,gf,#[.func (.yield (k+1)) #[] #[]] ++ lb,W1,hrun',?_,?_,?_,fun _=>h1,?_⟩
 · simp only [resolve,hg];simp [go_sem]
 · intro f' hf';simp [Target.leads] at hf';subst hf';exact hFg
 · simp [invoke,go_sem,eg]
 refine (hseq (k+1) (fun pre W=>I pre W∧W.heap[k+1]? =some (.loop (r .ready none))∧W.heap[k]? =some (.deferred (some [])))
   (fun pre W=>∃ c,Ix c pre W∧W.heap[k+1]? =some (.loop (r .done (some c)))∧W.heap[k]? =some (.deferred (some []))) W1 (by rw [hk];exact hB) ?_ ?_ ?_ ⟨hI [] w W1 h0 ⟨hB.mono (by omega),fun b _ hb=>hB.block b (by omega)⟩,e2,e4⟩).mono ?_
 · rintro pre A B ⟨a1,a2,a3⟩ hm;exact ⟨hI pre A B a1 hm,(hm.high (k+1) (by omega) (Array.getElem?_eq_some_iff.1 a2).1).trans a2,(hm.high k (by omega) (Array.getElem?_eq_some_iff.1 a3).1).trans a3⟩
 · rintro pre A B ⟨c,a1,a2,a3⟩ hm;exact ⟨c,hIx c pre A B a1 hm,(hm.high (k+1) (by omega) (Array.getElem?_eq_some_iff.1 a2).1).trans a2,(hm.high k (by omega) (Array.getElem?_eq_some_iff.1 a3).1).trans a3⟩
 · rintro pre x A hGx ⟨a1,a2,a3⟩ hlen;have hlt:k+1 < A.heap.size:=(Array.getElem?_eq_some_iff.1 a2).1;have hy:=run_yield (P:=P) (args:=#[enc x]) a2 (by rw [hr];simp [Hu,hps]);have hy' :(Instr.yield (k+1) #[enc x]).run P A= .ok (.round (k+1) fn ((ps.zip #[enc x]).foldl (fun t (p,v)=>t.setIfInBounds p v) a.tmps) assign body) A:=by
     rw [hy,hr]
   refine ⟨fn,_,assign,body,hy',roundIn_of_wpIn hfn (hassign (k+1) pre x A _ a1 (by omega) ?_)⟩;clear hy hy';intro a' Aa hka hra hia hax;replace a2:=hka.same _ _ a2 rfl;replace a3:=hka.same _ _ a3 rfl;replace hlt:k+1 < Aa.heap.size:=(Array.getElem?_eq_some_iff.1 a2).1;have hb:=run_beginRound (P:=P) a2 (by rw [hr]);have p1:(Aa.putObj (k+1) (.loop { r .ready none with state:= .busy })).heap[k+1]? =some (.loop { r .ready none with state:= .busy }):=World.putObj_heap_same hlt;have p2:(Aa.putObj (k+1) (.loop { r .ready none with state:= .busy })).heap[k]? =some (.deferred (some [])):=(World.putObj_heap_other (by omega)).trans a3;have p3:I pre (Aa.putObj (k+1) (.loop { r .ready none with state:= .busy })):=hIp pre Aa _ _ _ hia (by omega) a2 rfl;have p4:R A (Aa.putObj (k+1) (.loop { r .ready none with state:= .busy })):=hRt hra (hRp Aa _ _ _ (by omega) a2 rfl);have p6:Ax x a' (Aa.putObj (k+1) (.loop { r .ready none with state:= .busy })):=hAx x a' Aa _ _ _ hax a2 rfl;have p5:hi≤(Aa.putObj (k+1) (.loop { r .ready none with state:= .busy })).heap.size:=by
     have:=(Array.getElem?_eq_some_iff.1 p1).1;omega
   have q1:({ r .ready none with state:= .busy } :Loop)=r .busy none:=(by rw [hr]);rw [q1] at hb p1 p2 p3 p4 p5 p6;generalize Aa.putObj (k+1) (.loop (r .busy none))=A1 at *;have q2:∀ (jump:Option Code),({ r .busy none with state:=(if jump.isNone then .ready else .done),pending:=jump } :Loop)=r (if jump.isNone then .ready else .done) jump:=fun jump=>by rw [hr]
   have fin:∀ (jump:Option Code) (C:World),KeepsOthers A1 C→(Instr.endRound (k+1) jump).run P C= .ok (.bool jump.isNone) (C.putObj (k+1) (.loop (r (if jump.isNone then .ready else .done) jump)))∧k+1 < C.heap.size∧
      (C.putObj (k+1) (.loop (r (if jump.isNone then .ready else .done) jump))).heap[k+1]? =some (.loop (r (if jump.isNone then .ready else .done) jump))∧
      (C.putObj (k+1) (.loop (r (if jump.isNone then .ready else .done) jump))).heap[k]? =some (.deferred (some []))∧R C (C.putObj (k+1) (.loop (r (if jump.isNone then .ready else .done) jump)))∧C.heap[k+1]? =some (.loop (r .busy none)):=fun jump C hC=>by
     have c1:=hC.same _ _ p1 rfl;have c2:=hC.same _ _ p2 rfl;have c3:=(Array.getElem?_eq_some_iff.1 c1).1;have c4:=run_endRound (P:=P) jump c1;refine ⟨?_,c3,World.putObj_heap_same c3,(World.putObj_heap_other (by omega)).trans c2,hRp C _ _ _ (by omega) c1 rfl,c1⟩;rw [← q2 jump];exact c4
   refine ⟨A1,hb,?_⟩;refine wpIn_mono (hbody (k+1) pre x a' A1 hGx p3 p6 ⟨_,p1⟩ (by omega) p5 hlen) ?_;rintro e a3' C hp;cases e with
   | normal=>
     obtain ⟨b1,b2,b3⟩:=hp;obtain ⟨f1,f2,f3,f4,f5,f6⟩:=fin none C b1;exact ⟨_,_,f1, .inl ⟨rfl,⟨hIp _ C _ _ _ b3 (by omega) f6 rfl,f3,f4⟩,hRt (hRt p4 b2) f5⟩⟩
   | ret=>
     obtain ⟨b1,b3⟩:=hp;obtain ⟨f1,f2,f3,f4,f5,f6⟩:=fin (some .ret) C b1;exact ⟨_,_,f1, .inr ⟨rfl, .ret,Ht _ _ C _ _ _ b3 (by omega) f6 rfl,f3,f4⟩⟩
   | exit id=>
     obtain ⟨b1,b3⟩:=hp;obtain ⟨f1,f2,f3,f4,f5,f6⟩:=fin (some (.exit id)) C b1;exact ⟨_,_,f1, .inr ⟨rfl, .exit id,Ht _ _ C _ _ _ b3 (by omega) f6 rfl,f3,f4⟩⟩
   | goto t=>
     obtain ⟨b1,b3⟩:=hp;obtain ⟨f1,f2,f3,f4,f5,f6⟩:=fin (some (.goto t)) C b1;exact ⟨_,_,f1, .inr ⟨rfl, .goto t,Ht _ _ C _ _ _ b3 (by omega) f6 rfl,f3,f4⟩⟩
   | panic ch=>exact hp.elim
   | outgrown=>exact hp.elim
 · rintro e B ⟨⟨v,rfl⟩,(⟨xs,s1,s2,s3,s4⟩ | ⟨pre,s1,c,s2,s3,s4⟩)⟩
   · have hlt:=(Array.getElem?_eq_some_iff.1 s3).1;have hend:=run_endLoop (P:=P) s3 (by rw [hr];simp [Hu]);exact ⟨none,_,by rw [hend,hr],hdone k xs _ (Nat.le_refl _) s1 (hIp _ B _ _ _ s2 (by omega) s3 rfl) ((World.putObj_heap_other (by omega)).trans s4)⟩
   · have hlt:=(Array.getElem?_eq_some_iff.1 s3).1;have hend:=run_endLoop (P:=P) s3 (by rw [hr];simp [Hu]);exact ⟨some c,_,by rw [hend,hr],hstop k c pre _ (Nat.le_refl _) s1 (Ht _ _ B _ _ _ s2 (by omega) s3 rfl) ((World.putObj_heap_other (by omega)).trans s4)⟩
end Go.Proofs.YtollifnnpihfdaaGreatDoor
namespace Go.Proofs.YtollifnnpihfdaaGreatDoor
open Go.RowKit Go.Shelf
attribute [local go_sem] Oper.semAt_some
def KpB (D:Nat) (g:Option Nat) (A B:World):Prop:=∀ b o,(b=D∨some b=g)→A.heap[b]? =some o→o.isCells=true→B.heap[b]? =some o
theorem KpB.trans {D:Nat} {g:Option Nat} {A B C:World} (h:KpB D g A B) (k:KpB D g B C):KpB D g A C:=fun b o hb ho hc=>k b o hb (h b o hb ho hc) hc
theorem KpB.obj {D:Nat} {g:Option Nat} (W:World) (l:Nat) (o o' :Obj) (h:W.heap[l]? =some o) (ho:o.isCells=false):KpB D g W (W.putObj l o'):=fun b q _ hq hc=>by
 have hne:l≠b:=fun e=>by
  subst e;rw [h] at hq;injection hq with hq;rw [hq] at ho;rw [ho] at hc;cases hc
 exact (World.putObj_heap_other hne.symm).trans hq
theorem KpB.blk {D:Nat} {g:Option Nat} {A B:World} {t:TypeId} {cs:Array Value} (h:KpB D g A B) (k:Blk A D t cs):Blk B D t cs:=h D _ (.inl rfl) k rfl
theorem KpB.strs {D:Nat} {A0:Option Addr} {A B:World} {m m' :Nat} {L:List ByteArray} (h:KpB D (A0.map Addr.block) A B) (k:bB A m A0 L) (hm:m≤m'):bB B m' A0 L:=fun j hj=>by
 obtain ⟨ad,e,hl,hc⟩:=k j hj;refine ⟨ad,e,by omega,?_⟩;have hb:(ad.add j).block=ad.block:=gV ad j;have hk:=h ad.block;obtain ⟨o,ho,hoc⟩:=cells_of_cell hc;rw [hb] at ho;have:=hk o (.inr (by rw [e];rfl)) ho hoc;rw [← hc];exact World.cell?_of_block (by rw [hb,this,ho])
theorem Gp (A:Option Addr) (n c:Nat) (w:World):Calls Tryz.prog 98 #[.slice A n c] w fun e w' =>e= .returned (.func (.func 161) #[] #[.pointer (some ⟨w.heap.size,0,none⟩)])∧w' =w.alloc (.cells #[.slice A n c] 49):=by
 go_in
 go_wp2
 go_ret;exact ⟨rfl,rfl⟩
theorem yP {L:List ByteArray} {k:Nat} (hk:k < L.length):(L.drop k).reverse=(L.drop (k+1)).reverse ++ [L[k]]:=by
 rw [List.drop_eq_getElem_cons hk,List.reverse_cons]
abbrev BkS:Type:= { x:Int×ByteArray // x.2.size≤12 }
def bkT (xs:List BkS):List ByteArray:=xs.map (fun x=>x.1.2)
theorem vZ (xs ys:List BkS):bkT (xs ++ ys)=bkT xs ++ bkT ys:=List.map_append
theorem wh (xs:List BkS):∀ s∈bkT xs,s.size≤12:=fun s hs=>by
 obtain ⟨x,_,rfl⟩:=List.mem_map.1 hs;exact x.2
theorem yQ (n' D:Nat) (hn1:1≤n') (A:Option Addr) (n c:Nat) (L:List ByteArray) (hn:n=L.length) (hl:n≤1000000) (hsm:∀ s∈L,s.size≤12) (m:Nat) (w:World) (hD:Blk w D 49 #[.slice A n c]) (hm:m≤w.heap.size) (hA:bB w m A L):
  SeqStopsK Fence.wide n' Tryz.prog 161 #[.pointer (some ⟨D,0,none⟩)] (fun x:BkS=>#[.int .i64 x.1.1, .string x.1.2]) (KpB D (A.map Addr.block))
   (fun xs=>bkT xs=L.reverse) (fun _=>True) n w:=by
 intro l J Jx W hW hJ hJx hY h0;have D0:=Hd (hD.below hW);have A0:=Hd (hA.keep hW (by omega));have HN:=Hd hn;have HL:=Hd hl;have HSM:=Hd hsm;clear hD hA hn hl hm hW hsm;refine callsIn_of_wp Tryz.func161 rfl trivial ?_ rfl;simp only [Tryz.ntmps161,List.size_toArray,List.length_cons,List.length_nil,Nat.reduceAdd,Nat.reduceSub,Array.replicate_succ,Array.replicate_zero,List.push_toArray,List.append_toArray,List.nil_append,List.cons_append];have v0:=D0.o.cell 0;have q0:wrap64 ((n:Int) - 1)=(n:Int) - 1:=IntWalk.wrap64_in _ (by have:=HL.o;omega);have q1:IntKind.i64.wrap ((n:Int) - 1)=(n:Int) - 1:=IntWalk.i64_in _ (by have:=HL.o;omega)
 gi_wp2
 clear v0 q0 q1
 gi_loopw [3] (fun i wr=>∃ (k:Nat) (pre:List BkS),k≤n∧pre.length+k=n∧i= .int .i64 ((k:Int) - 1)∧bkT pre=(L.drop k).reverse∧Hid (Blk wr D 49 #[.slice A n c])∧Hid (bB wr m A L)∧J pre wr) (fun i _=>(intOf i+1).toNat)
 case atStart=>exact ⟨n, [],Nat.le_refl _,by simp,rfl,by rw [HN.o];simp [bkT],D0,A0,h0⟩
 case round=>
  obtain ⟨k,pre,hk,hp,rfl,hpm,hD,hA,hj⟩:=hrel;cases k with
  | zero=>
   have kn:¬ (0:Int)≤((0:Nat):Int) - 1:=by omega
   gi_wp2
   refine bodyPost_end (results_none rfl _ _ _) rfl ?_;exact ⟨⟨_,rfl⟩, .inl ⟨pre,by rw [hpm];rfl,hj⟩⟩
  | succ k=>
   rw [show ((k+1:Nat):Int) - 1=(k:Int) by omega];have kn:(0:Int)≤(k:Int):=(by omega);have hkn:k < n:=(by omega);have hkl:k < L.length:=(by rw [← HN.o];exact hkn);have knn:(k:Int) < (n:Int):=(by omega);have v0:=hD.o.cell 0;obtain ⟨ad,rfl,hab,hcx⟩:=hA.o k hkl;have EX:L[k].size≤12:=HSM.o _ (List.getElem_mem hkl);obtain ⟨fn,tmps,assign,body,hy,hR⟩:=hY pre ⟨((k:Int),L[k]),EX⟩ wr hj (by omega);have HDR:=Hd (yP hkl);have HPM:=Hd hpm;have q0:wrap64 ((k:Int) - 1)=(k:Int) - 1:=IntWalk.wrap64_in _ (by have:=HL.o;omega);have q1:IntKind.i64.wrap ((k:Int) - 1)=(k:Int) - 1:=IntWalk.i64_in _ (by have:=HL.o;omega);generalize hx:L[k]=x at *
   gi_wp2_with fail
   clear v0 hcx hy;refine hR.mono ?_;clear hR;rintro en W4 (⟨rfl,hj4,hh4⟩ | ⟨rfl,JP⟩);case inr=>
    gi_wp2
    refine bodyPost_ret (results_none rfl _ _ _) rfl ?_;exact ⟨⟨_,rfl⟩, .inr ⟨_,trivial,JP⟩⟩
   case inl=>
    have D4:=Hd (hh4.blk hD.o);have A4:=Hd (hh4.strs hA.o (Nat.le_refl _))
    gi_wp2
    go_roundw;case rel=>exact ⟨k,pre ++ [⟨((k:Int),x),EX⟩],by omega,by rw [List.length_append];simp;omega,rfl,by rw [vZ,HPM.o,HDR.o];rfl,D4,A4,hj4⟩
    case measure=>show ((k:Int) - 1+1).toNat < ((k:Int)+1).toNat;omega
end Go.Proofs.YtollifnnpihfdaaGreatDoor
