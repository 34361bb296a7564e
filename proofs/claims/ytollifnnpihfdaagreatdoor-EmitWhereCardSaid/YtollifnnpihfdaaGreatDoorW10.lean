import Derived.Test.YtollifnnpihfdaaGreatDoorW08
import Derived.Test.YtollifnnpihfdaaGreatDoorW09
set_option maxRecDepth 100000
set_option maxHeartbeats 64000000
set_option linter.all false
namespace Go.Proofs.YtollifnnpihfdaaGreatDoor
open Go.RowKit
theorem sS (l:List En) (ino:Int) (k:Nat) (hk:k < l.length):kG (l.take (k+1)) ino=kG (l.take k) ino+(if l[k].ino == ino then 1 else 0):=by
 unfold kG;rw [List.take_succ_eq_append_getElem hk,List.countP_append];congr 1;simp [List.countP_cons]
theorem sU (l:List Nd) (ino:Int) (k:Nat) (hk:k < l.length):iG (l.take (k+1)) ino=iG (l.take k) ino+kG l[k].es ino:=by
 unfold iG;rw [List.take_succ_eq_append_getElem hk,List.map_append,List.sum_append];simp
theorem aN {n q:Nat} (h:q < n) (i:Value) (hi:i= .int .i64 ((q:Int)+1)):n - (intOf i).toNat < n - (intOf (.int .i64 (q:Int))).toNat:=by
 subst hi;simp [intOf];omega
theorem dA {q:Nat} (h:q≤100000000):wrap64 ((q:Int)+1)=(q:Int)+1∧IntKind.i64.wrap ((q:Int)+1)=(q:Int)+1:=⟨IntWalk.wrap64_in _ (by omega),IntWalk.i64_in _ (by omega)⟩
theorem aT (w:World) (cs ds:Array Value) (s t:TypeId):Below w.heap.size w ((w.alloc (.cells cs s)).alloc (.cells ds t)):=((Below.refl w.heap.size w).alloc (Nat.le_refl _) _).alloc (by simp) _
theorem Aq (dev ino:Int) (ds:List Dm) (A:Option Addr) (n c:Nat) (hn:n=ds.length) (w:World) (h:bV w w.heap.size A ds):
  Calls Tryz.prog 261 #[fsV A n c,flV dev ino] w fun e w' =>e= .returned (.int .i64 (gY (ds.map Dm.dv) dev ino))∧Below w.heap.size w w' :=by
 have HN:=Hd hn;have B0:=Hd (aT w #[.slice A n c] #[.int .i64 dev, .int .i64 ino] 28 44);have F0:=Hd (h.below B0.o);have HI:=Hd (jX dev ino ds A n c hn _ F0.o);have HL:=Hd (show gY (ds.map Dm.dv) dev ino=match eQ (ds.map Dm.dv) dev with | none=>0 | some d=>match iK d.ns ino with | none=>0 | some _=>(iG d.ns ino:Int) from rfl);have V0:=Hd ((Blk.new w #[.slice A n c] 28).alloc (.cells #[.int .i64 dev, .int .i64 ino] 44));have U0:=Hd (show Blk ((w.alloc (.cells #[.slice A n c] 28)).alloc (.cells #[.int .i64 dev, .int .i64 ino] 44)) (w.heap.size+1) 44 #[.int .i64 dev, .int .i64 ino] by
  have h:=Blk.new (w.alloc (.cells #[.slice A n c] 28)) #[.int .i64 dev, .int .i64 ino] 44;simpa using h)
 clear h hn;go_in;go_wp2_with fail;refine HI.o.mono ?_;rintro e w1 ⟨rfl,hb⟩;have B1:=Hd (B0.o.trans (hb.mono B0.o.size));have F1:=Hd (F0.o.below hb);have V1:=Hd (V0.o.below hb);have U1:=Hd (U0.o.below hb);clear hb HI B0 F0 V0 U0;cases hi:eT (ds.map Dm.dv) dev ino with
 | none=>
  have HR:=Hd (show gY (ds.map Dm.dv) dev ino=0 by
   rw [HL.o];unfold eT at hi;cases hd:eQ (ds.map Dm.dv) dev with
   | none=>rfl
   | some d=>rw [hd] at hi;have hi:iK d.ns ino=none:=hi;simp only [hi])
  have i1:Di none < 0:=by decide
  clear hi;go_wp2_with fail;go_ret;exact ⟨by rw [HR.o];rfl,B1.o⟩
 | some k=>
  obtain ⟨j,hj,hk,rfl,hq⟩:=dL hi;clear hq;have HR:=Hd (show gY (ds.map Dm.dv) (j:Int) ino=(iG (ds[j].xs.map (·.nd)) ino:Int) by
   rw [HL.o,dC (by omega) (by rw [Int.toNat_natCast];exact hj)];have hi:iK (ds[j].xs.map (·.nd)) ino=some k:=by
    unfold eT at hi;rw [dC (by omega) (by rw [Int.toNat_natCast];exact hj)] at hi;exact hi
   have e:ds[Int.toNat (j:Int)].dv.ns=ds[j].xs.map (fun x=>x.nd):=rfl;simp only [e,hi])
  have j1:(j:Int) < (n:Int):=by rw [HN.o];omega
  have j2:(0:Int)≤(j:Int):=by omega
  have i1:Di (some k)=(k:Int):=rfl;have i2:¬ (k:Int) < 0:=by omega
  have HD:=Hd (F1.o.nodes ds[j] (List.getElem_mem hj));have HE:=Hd (F1.o.bW ds[j] (List.getElem_mem hj));obtain ⟨ad,rfl,hab,hcx⟩:=F1.o.at_ j hj;obtain ⟨s0,s1⟩:=bK (a:=ad.add (j * 2)) hcx;have v0:=V1.o.cell 0;have u0:=U1.o.cell 0;rw [i1];clear hcx hi i1 hk HL F1 V1;generalize ds[j]=d at *;have u1:=U1.o.cell 1;go_wp2_with fail;clear s0 s1 v0 u0;go_loopw [5,7] (fun v i wr=>∃ q t:Nat,q≤d.xs.length∧v= .int .i64 (iG ((d.xs.map (·.nd)).take q) ino:Nat)∧i= .int .i64 q∧wr=w1.drewN t∧iG ((d.xs.map (·.nd)).take q) ino≤1000 * q) (fun _ i _=>d.xs.length - (intOf i).toNat);case atStart=>exact ⟨0,0,Nat.zero_le _,rfl,rfl,rfl,Nat.le_refl _⟩
  case round=>
   generalize wr=ws at *;obtain ⟨q,t,hq,rfl,rfl,rfl,hle⟩:=hrel;have hlen:=HD.o.2;have WQ:=Hd (bz hq (by omega));by_cases hlt:q < d.xs.length;case neg=>
    have q1:¬ (q:Int) < (d.xs.length:Int):=(by omega);have HC:=Hd (show (d.xs.map (·.nd)).take q=d.xs.map (·.nd) from List.take_of_length_le (by simp;omega));go_wp2_with fail;go_ret;exact ⟨by rw [HR.o,HC.o];rfl,below_drewN B1.o _⟩
   case pos=>
    have q1:(q:Int) < (d.xs.length:Int):=(by omega);have q2:(0:Int)≤(q:Int):=(by omega);obtain ⟨bd,hbd,hbb,hcy⟩:=HD.o.1 q hlt;obtain ⟨t0,t1,t2,t3,t4,t5,t6,t7⟩:=cK (a:=bd.add (q * 8)) hcy;have HX:=Hd (HE.o d.xs[q] (List.getElem_mem hlt));have HST:=Hd (show iG ((d.xs.map (·.nd)).take (q+1)) ino=iG ((d.xs.map (·.nd)).take q) ino+kG d.xs[q].nd.es ino by rw [sU _ _ _ (by simpa using hlt)];simp);clear hcy t0 t1 t2 t3 t4 t5 t6;generalize d.xs[q]=x at *;rw [hbd];go_wp2_with fail;go_loopw [5,8] (fun v i wr=>∃ r t' :Nat,r≤x.nd.es.length∧v= .int .i64 (iG ((d.xs.map (·.nd)).take q) ino+kG (x.nd.es.take r) ino:Nat)∧i= .int .i64 r∧wr=w1.drewN t' ∧kG (x.nd.es.take r) ino≤r) (fun _ i _=>x.nd.es.length - (intOf i).toNat);case atStart=>exact ⟨0,t,Nat.zero_le _,rfl,rfl,rfl,Nat.le_refl _⟩
    case round=>
     obtain ⟨r,t',hr,rfl,rfl,rfl,hle2⟩:=hrel;have hes:=HX.o.2.1;have WR:=Hd (bz hr (by omega));by_cases hrl:r < x.nd.es.length;case neg=>
      have r1:¬ (r:Int) < (x.nd.es.length:Int):=(by omega);have HC:=Hd (show kG (x.nd.es.take r) ino=kG x.nd.es ino by rw [List.take_of_length_le (by omega)]);have hb1:iG ((d.xs.map (·.nd)).take (q+1)) ino≤1000 * (q+1):=(by rw [HST.o, ← HC.o];omega);have HB1:=Hd hb1;clear hb1 hle hle2 hlen hes;obtain ⟨wq1,wq2⟩:=WQ.o;go_wp2_with fail;go_roundw;case rel=>exact ⟨q+1,_,hlt,by rw [HST.o,HC.o],by go_num,rfl,HB1.o⟩
      case measure=>exact aN hlt _ rfl
     case pos=>
      have r1:(r:Int) < (x.nd.es.length:Int):=(by omega);have r2:(0:Int)≤(r:Int):=(by omega);obtain ⟨cd,hcd,hcb,hcz⟩:=HX.o.1 r hrl;obtain ⟨e0,e1⟩:=fJ (a:=cd.add (r * 2)) hcz;have GH:=Hd (sS x.nd.es ino r hrl);have WV:=Hd (dA (q:=iG ((d.xs.map (·.nd)).take q) ino+kG (x.nd.es.take r) ino) (by omega));clear hcz e0;generalize x.nd.es[r]=y at *;generalize hcc:iG ((d.xs.map (·.nd)).take q) ino+kG (x.nd.es.take r) ino=cc at *;have HCC:=Hd hcc;clear hcc;rw [hcd] at t7;cases hb:(y.ino == ino) with
      | true=>
       have HR2:=Hd (show iG ((d.xs.map (·.nd)).take q) ino+kG (x.nd.es.take (r+1)) ino=cc+1∧kG (x.nd.es.take (r+1)) ino≤r+1 by rw [GH.o,hb, ← HCC.o];simp;omega);have HV:=Hd (show Value.int .i64 ((cc:Int)+1)=Value.int .i64 ((iG ((d.xs.map (·.nd)).take q) ino+kG (x.nd.es.take (r+1)) ino:Nat):Int) by rw [HR2.o.1];rfl);have HW:=Hd (show Value.int .i64 ((r:Int)+1)=Value.int .i64 ((r+1:Nat):Int) from rfl);clear GH hle hle2 hlen hes;go_upto_region 11 with fail;go_quiet (fail);obtain ⟨wr1,wr2⟩:=WR.o;obtain ⟨wv1,wv2⟩:=WV.o;go_wp2_with fail;clear wr1 wr2 wv1 wv2;go_roundw;case rel=>
        refine ⟨r+1,t' +nq,hrl,HV.o,HW.o,?_,HR2.o.2⟩;rfl
       case measure=>exact aN hrl _ rfl
      | false=>
       have HR2:=Hd (show iG ((d.xs.map (·.nd)).take q) ino+kG (x.nd.es.take (r+1)) ino=cc∧kG (x.nd.es.take (r+1)) ino≤r+1 by rw [GH.o,hb, ← HCC.o];simp;omega);have HV:=Hd (show Value.int .i64 (cc:Int)=Value.int .i64 ((iG ((d.xs.map (·.nd)).take q) ino+kG (x.nd.es.take (r+1)) ino:Nat):Int) by rw [HR2.o.1]);have HW:=Hd (show Value.int .i64 ((r:Int)+1)=Value.int .i64 ((r+1:Nat):Int) from rfl);clear GH hle hle2 hlen hes;go_upto_region 11 with fail;go_quiet (fail);obtain ⟨wr1,wr2⟩:=WR.o;obtain ⟨wv1,wv2⟩:=WV.o;go_wp2_with fail;clear wr1 wr2 wv1 wv2;go_roundw;case rel=>
        refine ⟨r+1,t' +nq,hrl,HV.o,HW.o,?_,HR2.o.2⟩;rfl
       case measure=>exact aN hrl _ rfl
structure DrS (ws wr:World) (xs:List Nm) (t:Int) (q:Nat) (v:Value):Prop where
 low:Below ws.heap.size ws wr
 o:∃ (A:Option Addr) (c:Nat) (L:List Nm),v= .slice A L.length c∧ax ENd wr ws.heap.size v L∧L=(xs.take q).filter (fun x=> !(x.nd.ino == t))
theorem drop_take {xs:List Nm} {t:Int} {q:Nat} (hq:q < xs.length):(xs.take (q+1)).filter (fun x=> !(x.nd.ino == t))=(xs.take q).filter (fun x=> !(x.nd.ino == t)) ++ (if xs[q].nd.ino == t then [] else [xs[q]]):=by
 rw [List.take_succ_eq_append_getElem hq,List.filter_append];congr 1;cases h:xs[q].nd.ino == t <;> simp [h]
theorem Au (xs:List Nm) (t:Int):(xs.filter (fun x=> !(x.nd.ino == t))).map (·.nd)=(xs.map (·.nd)).filter (fun n=> !(n.ino == t)):=by
 rw [List.filter_map];rfl
theorem Dw (j:Nat) (t:Int) (ds:List Dm) (A:Option Addr) (n c:Nat) (hn:n=ds.length) (hj:j < ds.length) (base:Nat) (w:World) (h:aC w base (.slice A n c) ds) (hbase:base≤w.heap.size):
  Calls Tryz.prog 230 #[fsV A n c,flV (j:Int) t] w fun e w' =>∃ ds' :List Dm,e= .returned (.tuple #[])∧aC w' base (.slice A n c) ds' ∧ds'.map Dm.dv=kH (ds.map Dm.dv) j t∧ds'.length=ds.length∧Below base w w' ∧∃ row,w.grownBy w' row∧∀ q,row=some q→(Value.slice A n c).ownBlock=some q∨∃ d∈ds,d.sl.ownBlock=some q:=by
 have HN:=Hd hn;have HB:=Hd hbase;have B0:=Hd (aT w #[.slice A n c] #[.int .i64 (j:Int), .int .i64 t] 28 44);have F0:=Hd (h.below B0.o);obtain ⟨A',c',eA,hat⟩:=F0.o.at;injection eA with eA eN eC;subst eA;clear eC eN c';have HL:=Hd (Aq (j:Int) t ds A n c hn _ hat);have V0:=Hd ((Blk.new w #[.slice A n c] 28).alloc (.cells #[.int .i64 (j:Int), .int .i64 t] 44));have U0:=Hd (show Blk ((w.alloc (.cells #[.slice A n c] 28)).alloc (.cells #[.int .i64 (j:Int), .int .i64 t] 44)) (w.heap.size+1) 44 #[.int .i64 (j:Int), .int .i64 t] by
  have h:=Blk.new (w.alloc (.cells #[.slice A n c] 28)) #[.int .i64 (j:Int), .int .i64 t] 44;simpa using h)
 have HD:=Hd (show kH (ds.map Dm.dv) (j:Int) t=if 0 < gY (ds.map Dm.dv) (j:Int) t then ds.map Dm.dv else kX (ds.map Dm.dv) j (fun d=> { d with ns:=d.ns.filter (fun n=> !(n.ino == t)) }) from rfl);have HOLD:=Hd (show ∀ g,g < base→g < w.heap.size from fun g hg=>by omega);clear hn hat h hbase;go_in;go_wp2_with fail;generalize (w.alloc (.cells #[.slice A n c] 28)).alloc (.cells #[.int .i64 (j:Int), .int .i64 t] 44)=w0 at *;refine HL.o.mono ?_;rintro e w1 ⟨rfl,hb⟩;have B1:=Hd (B0.o.trans (hb.mono B0.o.size));have F1:=Hd (F0.o.below hb);have V1:=Hd (V0.o.below hb);have U1:=Hd (U0.o.below hb);clear hb HL B0 F0 V0 U0;by_cases hc:0 < gY (ds.map Dm.dv) (j:Int) t;case pos=>
  have HR:=Hd (HD.o.trans (if_pos hc));go_wp2_with fail;refine bodyPost_ret (results_none rfl _ _ _) rfl ?_;exact ⟨ds,rfl,F1.o,HR.o.symm,rfl,B1.o.mono HB.o,none,bD (World.grownBy.refl w none) B1.o,fun q e=>by cases e⟩
 case neg=>
  have HR:=Hd (HD.o.trans (if_neg hc));have HC:=Hd hc;have hc2:¬ gY (ds.map Dm.dv) (j:Int) t > 0:=hc;clear HD;have j1:(j:Int) < (n:Int):=by rw [HN.o];omega
  have j2:(0:Int)≤(j:Int):=by omega
  obtain ⟨g,hg0,hg1,hg2,hg4⟩:=aU F1.o.own (Nat.lt_of_le_of_lt (Nat.zero_le j) hj);clear hg4;subst hg0;have HD1:=Hd (F1.o.nodes ds[j] (List.getElem_mem hj));obtain ⟨ad,e0,hab,hcx⟩:=aQ F1.o.own j hj;injection e0 with e0;subst e0;obtain ⟨s0,s1⟩:=bK (a:=(⟨g,0,none⟩:Addr).add (j * 2)) hcx;rw [bL] at s1;replace s1:w1.cell? ⟨g,j * 2+1,none⟩=some (.slice ds[j].A ds[j].xs.length ds[j].c):=s1;clear s0;have v0:=V1.o.cell 0;have u0:=U1.o.cell 0;clear hcx hc;obtain ⟨d,hd⟩:∃ d,d=ds[j]:=⟨_,rfl⟩;have HDJ:=Hd hd;rw [← hd] at HD1 s1;clear hd;go_wp2_with fail;clear v0 u0;have S0:=Hd (show DrS w1 w1 d.xs t 0 (.slice none 0 0) from ⟨Below.refl _ _,none,0, [],rfl,ax.nil _ _,rfl⟩);have HS1:=Hd s1;clear s1;go_loopw [4,6] (fun v i wr=>∃ q:Nat,q≤d.xs.length∧i= .int .i64 q∧Hid (DrS w1 wr d.xs t q v)) (fun _ i _=>d.xs.length - (intOf i).toNat);case atStart=>exact ⟨0,Nat.zero_le _,rfl,S0⟩
  case round=>
   clear S0;obtain ⟨q,hq,rfl,HS⟩:=hrel;obtain ⟨Av,cv,L,rfl,hvo,hL⟩:=HS.o.o;have hlen:=HD1.o.2;have WQ:=Hd (bz hq (by omega));have HLL:=Hd (show L.length≤1000 by rw [hL];exact Nat.le_trans (List.length_filter_le _ _) (by rw [List.length_take];omega));by_cases hlt:q < d.xs.length;case pos=>
    have q1:(q:Int) < (d.xs.length:Int):=(by omega);have q2:(0:Int)≤(q:Int):=(by omega);obtain ⟨bd,hbd,hbb,hcy⟩:=aQ HD1.o.1 q hlt;have HCY:=Hd (show ∀ k,k < 8→wr.cell? ((bd.add (q * 8)).add k)=(ENd.C d.xs[q])[k]? from fun k hk=>by
     rw [← hcy k hk];exact HS.o.low.cell (by rw [av,av];exact hbb))
    have HTK:=Hd (drop_take (t:=t) hlt);rw [← hL] at HTK;obtain ⟨t0,t1,t2,t3,t4,t5,t6,t7⟩:=cK (a:=bd.add (q * 8)) HCY.o;have u1:=(U1.o.below HS.o.low).cell 1;have VO:=Hd hvo;have hgw:w1.heap.size≤wr.heap.size:=HS.o.low.size;clear hvo hL hlen hcy;generalize d.xs[q]=x at *;rw [hbd];cases hb:(x.nd.ino == t) with
    | true=>
     have HN:=Hd (show DrS w1 wr d.xs t (q+1) (.slice Av L.length cv) from ⟨HS.o.low,Av,cv,L,rfl,VO.o,by rw [HTK.o,hb];simp⟩);have hb2:(x.nd.ino != t)=false:=(by rw [bne,hb];rfl);clear HTK hb;go_upto_region 7 with fail;go_quiet (fail);obtain ⟨wq1,wq2⟩:=WQ.o;go_wp2_with fail;clear wq1 wq2;go_roundw;case rel=>exact ⟨q+1,hlt,rfl,Hd ⟨below_drewN HN.o.low _,HN.o.o⟩⟩
     case measure=>exact aN hlt _ rfl
    | false=>
     have hb2:(x.nd.ino != t)=true:=(by rw [bne,hb];rfl);have K8:=Hd (show ((d.xs.take (q+1)).filter (fun x=> !(x.nd.ino == t)))=L ++ [x] by rw [HTK.o,hb];rfl);clear HTK hb;go_upto_region 7 with fail;go_quiet (fail);have rM:=Hd (below_drewN HS.o.low nq);have VO2:=Hd (show ax ENd (wr.drewN nq) w1.heap.size (.slice Av L.length cv) L from VO.o);have K9:w1.heap.size≤(wr.drewN nq).heap.size:=hgw;go_upto_region 8 with fail;obtain ⟨t0,t1,t2,t3,t4,t5,t6,t7⟩:=show (wr.drewN nq).cell? (bd.add (q * 8))=some (.int .i64 x.nd.ino)∧_∧_∧_∧_∧_∧_∧_ from cK (w:=wr.drewN nq) (x:=x) (a:=bd.add (q * 8)) HCY.o;generalize wr.drewN nq=w3 at *;have RW:=Hd (aJ ENd w3 (ndC x.nd (.slice x.A x.nd.es.length x.c)) 145 x rfl (Nat.lt_succ_self w3.heap.size));have VO3:=Hd (VO2.o.alloc (.cells (ndC x.nd (.slice x.A x.nd.es.length x.c)) 145));have Dx:=Hd (rM.o.alloc rM.o.size (.cells (ndC x.nd (.slice x.A x.nd.es.length x.c)) 145));go_wp2_with (at_builtin;refine aj ENd rfl (.tmp 32) (.tmp 37) rfl w1.heap.size (.slice Av L.length cv) L rfl VO3.o (w3.heap.size+1) (some ⟨w3.heap.size,0,none⟩) 1 1 [x] rfl rfl RW.o (by have:=HLL.o;simp;omega) (by simp;omega) ?_);intro v9 w9 ho9 hg9 o5;obtain ⟨A9,c9,e9,_⟩:=ho9.at;rw [show (L ++ [x]).length=L.length+1 by simp] at e9;subst e9;have HN9:=Hd (show DrS w1 w9 d.xs t (q+1) (.slice A9 (L.length+1) c9) from ⟨Dx.o.grown hg9 Dx.o.size (fun k e=>VO3.o.ge k e),A9,c9,L ++ [x],by simp,ho9,K8.o.symm⟩);clear ho9 hg9 o5;obtain ⟨wq1,wq2⟩:=WQ.o;go_wp2_with fail;clear wq1 wq2;go_roundw;case rel=>exact ⟨q+1,hlt,rfl,HN9⟩
     case measure=>exact aN hlt _ rfl
   case neg=>
    have q1:¬ (q:Int) < (d.xs.length:Int):=(by omega);have hL2:L=d.xs.filter (fun x=> !(x.nd.ino == t)):=(by rw [hL,List.take_of_length_le (by omega)]);have hlow:=HS.o.low;have F2:=F1.o.below hlow;have hVo:=hvo;have v0:=(V1.o.below hlow).cell 0;have u0:=(U1.o.below hlow).cell 0;have s1:=(hlow.cell (p:=⟨g,j * 2+1,none⟩) hg2).trans HS1.o;have sf:=F2.own.free (j * 2+1);have hgv:∀ q,(Value.slice Av L.length cv).ownBlock=some q→w1.heap.size≤q:=fun q e=>hvo.ge q e;have hFS:=F2.J9 (j:=j) (i:=1) (u:= .slice Av L.length cv) (d' :=⟨d.nx,L,Av,cv⟩) hj (by omega) (by rw [← HDJ.o];rfl) ⟨hvo.low (Nat.le_trans (by have:=HB.o;omega) (Nat.le_of_lt (Nat.lt_of_le_of_lt hg1 hg2))),HLL.o⟩
     (fun x hx=>by
      rw [hL2] at hx;exact F2.bW ds[j] (List.getElem_mem hj) x (by rw [← HDJ.o];exact (List.mem_filter.1 hx).1))
     (fun k hk hkj q e r=>by
      have h1:=(F1.o.nodes ds[k] (List.getElem_mem hk)).1.lt q e;have h2:=hgv q r;omega)
    have HFS:=Hd hFS;have HON:=Hd (bD (bD (World.grownBy.refl w (some g)) B1.o) hlow);have HLW:=Hd ((B1.o.trans (hlow.mono B1.o.size)).mono HB.o);have HL2:=Hd (show (ds.set j (⟨d.nx,L,Av,cv⟩:Dm)).map Dm.dv=kX (ds.map Dm.dv) j (fun d=> { d with ns:=d.ns.filter (fun n=> !(n.ino == t)) }) from jb ds j hj _ _ (by
     rw [← HDJ.o,hL2];show (⟨d.nx,(d.xs.filter (fun x=> !(x.nd.ino == t))).map (·.nd)⟩:Dv)=⟨d.nx,(d.xs.map (·.nd)).filter (fun n=> !(n.ino == t))⟩;rw [Au]))
    clear hFS hVo hvo hL hL2 hlow F2 hlen hgv;go_wp2_with fail;refine bodyPost_end (results_none rfl _ _ _) rfl ?_;exact ⟨rfl,_,HFS.o,HL2.o.trans HR.o.symm,by rw [List.length_set],HLW.o.setCell (p:=⟨g,j * 2+1,none⟩) hg1 _,some g,aD HON.o (.inl rfl) _,fun q e=> .inl (by injection e with e;subst e;rfl)⟩
theorem fu (w:World) (cs ds es:Array Value) (s t u:TypeId):Below w.heap.size w (((w.alloc (.cells cs s)).alloc (.cells ds t)).alloc (.cells es u)):=
 (((Below.refl w.heap.size w).alloc (Nat.le_refl _) _).alloc (by simp) _).alloc (by simp;omega) _
theorem qU (x:Chg) (w:World):
  Calls Tryz.prog 229 #[flV x.dd x.di, .string x.nm,flV x.od x.oi,flV x.nd x.ni] w fun e w' =>∃ v,e= .returned v∧ax kJ w' w.heap.size v [x]∧Below w.heap.size w w' :=by
 have B0:=Hd (fu w #[.int .i64 x.dd, .int .i64 x.di] #[.int .i64 x.od, .int .i64 x.oi] #[.int .i64 x.nd, .int .i64 x.ni] 44 44 44);go_in;go_wp2_with fail;go_ret;refine ⟨_,rfl,?_,B0.o.alloc B0.o.size (.cells (chC x) 283)⟩;have h:=sV kJ (((w.alloc (.cells #[.int .i64 x.dd, .int .i64 x.di] 44)).alloc (.cells #[.int .i64 x.od, .int .i64 x.oi] 44)).alloc (.cells #[.int .i64 x.nd, .int .i64 x.ni] 44)) w.heap.size (chC x) x rfl B0.o.size;simp only [World.size_alloc] at h;exact h
theorem aL {fn:Func} {i j k:Nat} (h:fn.results=#[.cell i 28, .tmp j, .tmp k]) (tmps:Array Value) (w:World) (g:Nat) (v:Value) (hp:tmps.getD i undef= .pointer (some ⟨g,0,none⟩)) (hg:Blk w g 28 #[v]):
  (results fn tmps).run Tryz.prog w= .ok (.tuple #[.agg #[v],tmps.getD j undef,tmps.getD k undef]) w:=by
 have hp' :tmps[i]?.getD undef= .pointer (some ⟨g,0,none⟩):=by simpa using hp
 simp [results,h,hp',asAddr,run_loadVar_row w g 28 28 #[v] (0,0) _ hg Tryz.underlying28 rfl (bN v)]
theorem bf (A:Option Addr) (n c:Nat):(#[(.slice A n c:Value)]:Array Value).all (·.oneCell')=true:=by simp [Value.oneCell']
def jB (R:List Dv→List Chg→Prop) (w:World) (e:Ending) (w' :World):Prop:=
 Below w.heap.size w w' ∧((∃ k:Int,k≠0∧e= .returned (.tuple #[.agg #[.slice none 0 0], .slice none 0 0, .int .i64 k]))∨
  (∃ (A:Option Addr) (n c:Nat) (ds:List Dm) (v:Value) (cs:List Chg),n=ds.length∧e= .returned (.tuple #[fsV A n c,v, .int .i64 0])∧aC w' w.heap.size (.slice A n c) ds∧ax kJ w' w.heap.size v cs∧R (ds.map Dm.dv) cs))
structure OpF (w wr:World) (A:Option Addr) (n c:Nat) (ds:List Dm) (dev ino:Int) (r:Nat):Prop where
 low:Below w.heap.size w wr
 src:bV wr w.heap.size A ds
 V:Blk wr w.heap.size 28 #[.slice A n c]
 U:Blk wr (w.heap.size+1) 44 #[.int .i64 dev, .int .i64 ino]
 R:Blk wr r 28 #[.slice none 0 0]
 hr:w.heap.size+2≤r
 nl:n=ds.length
section
variable {w wr w' :World} {A:Option Addr} {n c r:Nat} {ds:List Dm} {dev ino:Int}
theorem OpF.grow (h:OpF w wr A n c ds dev ino r) (hb:Below wr.heap.size wr w'):OpF w w' A n c ds dev ino r:=
 ⟨h.low.trans (hb.mono h.low.size),h.src.keep hb h.low.size,h.V.below hb,h.U.below hb,h.R.below hb,h.hr,h.nl⟩
theorem OpF.keep (h:OpF w wr A n c ds dev ino r) {B:Nat} (hb:Below B wr w') (hB:r < B):OpF w w' A n c ds dev ino r:=
 ⟨h.low.trans (hb.mono (by have:=h.hr;omega)),h.src.keep hb (by have:=h.hr;omega),h.V.keep hb (by have:=h.hr;omega),h.U.keep hb (by have:=h.hr;omega),h.R.keep hb hB,h.hr,h.nl⟩
theorem OpF.alloc (h:OpF w wr A n c ds dev ino r) (o:Obj):OpF w (wr.alloc o) A n c ds dev ino r:=h.grow ((Below.refl _ _).alloc (Nat.le_refl _) _)
theorem OpF.files (h:OpF w wr A n c ds dev ino r):bV wr wr.heap.size A ds:=h.src.more h.low.size
theorem OpF.err (h:OpF w wr A n c ds dev ino r) (R:List Dv→List Chg→Prop) {k:Int} (hk:k≠0):jB R w (.returned (.tuple #[.agg #[.slice none 0 0], .slice none 0 0, .int .i64 k])) (wr.setRow r #[.slice none 0 0]):=
 ⟨ai h.low (by have:=h.hr;omega) _, .inl ⟨k,hk,rfl⟩⟩
end
theorem aC.spare {w w' :World} {base:Nat} {v:Value} {ds:List Dm} (h:aC w base v ds) {row:Option Nat} (hg:w.grownBy w' row) (hr:∀ q,row=some q→v.ownBlock=some q∨∃ d∈ds,d.sl.ownBlock=some q)
   {g:Nat} {t:TypeId} {cs:Array Value} (hb:Blk w g t cs) (h1:EDv.e≠t) (h2:ENd.e≠t):Blk w' g t cs:=hb.grown hg fun e=>by
 rcases hr g e with e2 | ⟨d,hd,e2⟩
 · exact ay h.own hb h1 e2
 · exact ay (h.nodes d hd).1 hb h2 e2
theorem aC.rO {w:World} {base:Nat} {A:Option Addr} {n c:Nat} {ds:List Dm} (h:aC w base (.slice A n c) ds):bV w w.heap.size A ds∧n=ds.length:=by
 obtain ⟨A',c',e,hat⟩:=h.at;injection e with e e2 _;subst e;exact ⟨hat,e2⟩
end Go.Proofs.YtollifnnpihfdaaGreatDoor
