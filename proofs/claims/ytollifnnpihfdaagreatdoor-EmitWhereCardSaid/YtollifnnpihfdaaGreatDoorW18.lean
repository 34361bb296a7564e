import Derived.Test.YtollifnnpihfdaaGreatDoorW17
set_option maxRecDepth 100000
set_option maxHeartbeats 64000000
set_option linter.all false
namespace Go.Proofs.YtollifnnpihfdaaGreatDoor
open Go.RowKit
theorem last_at (d:ByteArray) (k:Nat) (hk:d.size=k+1) (h:k < d.size):d.data.toList.getLast? =some d[k]:=by
 have hl:d.data.toList.length=k+1:=by rw [Array.length_toList];exact hk
 rw [List.getLast?_eq_getElem?,hl,Nat.add_sub_cancel,List.getElem?_eq_getElem (by omega)];rfl
theorem zm (d nm:ByteArray) (hd:d.size≤2000) (hn:nm.size≤2000) (w:World):
  Calls Tryz.prog 71 #[.string d, .string nm] w fun e w' =>e= .returned (.string (eB d nm))∧w=w' :=by
 have HJ:=Hd (show eB d nm=if (decide (0 < d.size) && (d.data.toList.getLast? == some 47))=true then d ++ nm else d ++ ⟨#[47]⟩ ++ nm from rfl);have hs1:(d.size:Int)+(nm.size:Int)≤4000:=by omega
 have hs2:d.size+nm.size≤4000:=by omega
 by_cases h0:0 < d.size;case neg=>
  have h0' :¬ (0:Int) < (d.size:Int):=by omega
  have HR:=Hd (HJ.o.trans (if_neg (by rw [decide_eq_false h0,Bool.false_and];decide)));clear HJ;go_in;go_wp2_with fail;go_ret;exact ⟨by rw [HR.o];rfl,rfl⟩
 case pos=>
  obtain ⟨k,hk⟩:∃ k,d.size=k+1:=⟨d.size - 1,by omega⟩;have hkd:k < d.size:=by omega
  have h0' :(0:Int) < (d.size:Int):=by omega
  have hl:=last_at d k hk hkd;have wk:IntKind.i64.wrap ((d.size:Int) - 1)=(k:Int):=by rw [show (d.size:Int) - 1=(k:Int) by omega];exact IntWalk.i64_in _ (by omega)
  have wk2:wrap64 ((d.size:Int) - 1)=(k:Int):=by rw [show (d.size:Int) - 1=(k:Int) by omega];exact IntWalk.wrap64_in _ (by omega)
  have k2:(0:Int)≤(k:Int):=by omega
  have k3:(k:Int) < (d.size:Int):=by omega
  cases hc:((d[k].toNat:Int) == 47) with
  | true=>
   have HR:=Hd (HJ.o.trans (if_pos (by
    have:d[k]=47:=by
     have h9:(d[k].toNat:Int)=47:=(by simpa using hc);exact UInt8.toNat_inj.1 (by show d[k].toNat=47;omega)
    rw [hl,this,decide_eq_true h0];decide)))
   clear HJ hl;go_in;go_wp2_with fail;go_ret;exact ⟨by rw [HR.o];rfl,rfl⟩
  | false=>
   have HR:=Hd (HJ.o.trans (if_neg (by
    rw [hl,decide_eq_true h0];intro h9;have h8:(some d[k] == some (47:UInt8))=true:=(by simpa using h9);have h7:d[k]=47:=(by simpa using h8);rw [h7] at hc;exact absurd hc (by decide))))
   clear HJ hl;go_in;go_wp2_with fail;go_ret;exact ⟨by rw [HR.o];rfl,rfl⟩
theorem qg (f:List Dv) (dev ino:Int):dS f dev ino=match aF f dev (upF f dev ino) with | some p=>(match p.es.find? (fun e:En=>e.ino == ino) with | some e=>e.nm | none=>⟨#[]⟩) | none=>⟨#[]⟩:=by
 unfold dS;cases aF f dev (upF f dev ino) with
 | none=>rfl
 | some p=>rfl
def mG (l:List En) (ino:Int):ByteArray:=match l.find? (fun e:En=>e.ino == ino) with | some e=>e.nm | none=>⟨#[]⟩
theorem mH {l:List En} {ino:Int} {k:Nat} (hk:k < l.length) (hn:∀ q (hq:q < k),(l[q].ino == ino)=false) (h:(l[k].ino == ino)=true):mG l ino=l[k].nm:=by
 unfold mG;have:l.find? (fun e:En=>e.ino == ino)=some l[k]:=by
  rw [List.find?_eq_some_iff_getElem];exact ⟨h,k,hk,rfl,fun j hj=>by rw [hn j hj];decide⟩
 rw [this]
theorem mI {l:List En} {ino:Int} (hn:∀ q (hq:q < l.length),(l[q].ino == ino)=false):mG l ino=⟨#[]⟩:=by
 unfold mG;have:l.find? (fun e:En=>e.ino == ino)=none:=by
  rw [List.find?_eq_none];intro m hm;obtain ⟨q,hq,rfl⟩:=List.getElem_of_mem hm;rw [hn q hq];decide
 rw [this]
structure NaS (w wr:World) (dev ino:Int) (es:List En) (gp:Nat) (nd:Nd) (Ae:Option Addr) (ce:Nat):Prop where
 low:Below w.heap.size w wr
 U:Blk wr (w.heap.size+1) 44 #[.int .i64 dev, .int .i64 ino]
 D:Blk wr gp 145 (ndC nd (.slice Ae es.length ce))
 E:AtE EEn wr wr.heap.size Ae es
 few:es.length≤1000
theorem Ei (dev ino:Int) (ds:List Dm) (A:Option Addr) (n c:Nat) (hn:n=ds.length) (w:World) (h:bV w w.heap.size A ds):
  Calls Tryz.prog 72 #[fsV A n c,flV dev ino] w fun e w' =>e= .returned (.string (dS (ds.map Dm.dv) dev ino))∧Below w.heap.size w w' :=by
 have HN:=Hd hn;have B0:=Hd (aT w #[.slice A n c] #[.int .i64 dev, .int .i64 ino] 28 44);have F0:=Hd (h.below B0.o);have V0:=Hd ((Blk.new w #[.slice A n c] 28).alloc (.cells #[.int .i64 dev, .int .i64 ino] 44));have U0:=Hd (show Blk ((w.alloc (.cells #[.slice A n c] 28)).alloc (.cells #[.int .i64 dev, .int .i64 ino] 44)) (w.heap.size+1) 44 #[.int .i64 dev, .int .i64 ino] by
  have h:=Blk.new (w.alloc (.cells #[.slice A n c] 28)) #[.int .i64 dev, .int .i64 ino] 44;simp only [World.size_alloc] at h;exact h)
 have HND:=Hd (qg (ds.map Dm.dv) dev ino);have GZ:=Hd (show upF (ds.map Dm.dv) dev ino=match aF (ds.map Dm.dv) dev ino with | some n=>n.par | none=>0 from rfl);clear h hn;go_in;go_wp2_with fail;generalize (w.alloc (.cells #[.slice A n c] 28)).alloc (.cells #[.int .i64 dev, .int .i64 ino] 44)=w0 at *;refine (bM dev ino ds A n c HN.o w0 F0.o).mono ?_;intro e w1 hp;cases hq:aF (ds.map Dm.dv) dev ino with
 | none=>
  rw [hq] at hp;obtain ⟨rfl,hb⟩:=hp;have HUP:=Hd (show upF (ds.map Dm.dv) dev ino=0 by rw [GZ.o,hq]);have B3:=Hd ((B0.o.trans (hb.mono B0.o.size)).alloc (B0.o.trans (hb.mono B0.o.size)).size (.cells ndZ 145));have F3:=Hd ((F0.o.below hb).below ((Below.refl w1.heap.size w1).alloc (Nat.le_refl _) (.cells ndZ 145)));have V3:=Hd ((V0.o.below hb).alloc (.cells ndZ 145));have U3:=Hd ((U0.o.below hb).alloc (.cells ndZ 145));have D3:=Hd (Blk.new w1 ndZ 145);clear hb hq GZ;go_upto_region 2 with fail;generalize w1.alloc (.cells ndZ 145)=w3 at *;have v0:=V3.o.cell 0;have u0:=U3.o.cell 0;have d5:=D3.o.cell 5;go_wp2_with fail;clear v0 u0 d5 B0 F0 V0 U0;refine (bM dev 0 ds A n c HN.o w3 F3.o).mono ?_;intro e w4 hp;cases hq2:aF (ds.map Dm.dv) dev 0 with
  | none=>
   rw [hq2] at hp;obtain ⟨rfl,hb⟩:=hp;have HR:=Hd (show dS (ds.map Dm.dv) dev ino=mG [] ino by rw [HND.o,HUP.o,hq2];rfl);have HS:=Hd (show NaS w (w4.alloc (.cells ndZ 145)) dev ino [] w4.heap.size zNd none 0 from ⟨(B3.o.trans (hb.mono B3.o.size)).alloc (B3.o.trans (hb.mono B3.o.size)).size _,(U3.o.below hb).alloc _,Blk.new w4 _ _,AtE.nil,Nat.zero_le _⟩);clear hb hq2;go_upto_region 3 with fail;generalize w4.alloc (.cells ndZ 145)=w5 at *;go_wp2_with fail;go_loopw [9] (fun ix wr=>ix= .int .i64 0∧wr=w5) (fun _ _=>0);case atStart=>exact ⟨rfl,rfl⟩
   case round=>
    obtain ⟨rfl,rfl⟩:=hrel;have d7:=HS.o.D.cell 7;go_wp2_with fail;go_ret;exact ⟨by rw [HR.o];rfl,HS.o.low⟩
  | some p=>
   rw [hq2] at hp;obtain ⟨Ap,cp,rfl,ho,hb,hsz⟩:=hp;have HR:=Hd (show dS (ds.map Dm.dv) dev ino=mG p.es ino by rw [HND.o,HUP.o,hq2];rfl);have HS:=Hd (show NaS w (w4.alloc (.cells (ndC p (.slice Ap p.es.length cp)) 145)) dev ino p.es w4.heap.size p Ap cp from ⟨(B3.o.trans (hb.mono B3.o.size)).alloc (B3.o.trans (hb.mono B3.o.size)).size _,(U3.o.below hb).alloc _,Blk.new w4 _ _,(aQ ho).below ((Below.refl w4.heap.size w4).alloc (Nat.le_refl _) _),hsz.1⟩);clear hb hq2 ho hsz;go_upto_region 3 with fail;generalize w4.alloc (.cells (ndC p (.slice Ap p.es.length cp)) 145)=w5 at *;generalize p.es=es at *;go_wp2_with fail;go_loopw [9] (fun ix wr=>∃ k t:Nat,k≤es.length∧ix= .int .i64 k∧wr=w5.drewN t∧Hid (∀ q (hq:q < k) (hql:q < es.length),(es[q].ino == ino)=false)) (fun ix _=>es.length - (intOf ix).toNat);case atStart=>exact ⟨0,0,Nat.zero_le _,rfl,rfl,Hd (fun q hq=>absurd hq (Nat.not_lt_zero q))⟩
   case round=>
    obtain ⟨k,t,hk,rfl,rfl,hno⟩:=hrel;have d7:=HS.o.D.cell 7;have u1:=HS.o.U.cell 1;have nD:=HS.o.few;have WK:=Hd (dA (q:=k) (by omega));by_cases hlt:k < es.length;case neg=>
     have k1:¬ (k:Int) < (es.length:Int):=(by omega);have HR2:=Hd (HR.o.trans (mI (fun q hq=>hno.o q (by omega) hq)));clear hno nD;go_wp2_with fail;go_ret;exact ⟨by rw [HR2.o];rfl,below_drewN HS.o.low _⟩
    case pos=>
     have k1:(k:Int) < (es.length:Int):=(by omega);have k2:(0:Int)≤(k:Int):=(by omega);obtain ⟨ad,rfl,hab,hcx⟩:=HS.o.E k hlt;obtain ⟨e0,e1⟩:=fJ (a:=ad.add (k * 2)) hcx;have HX:=Hd (fun h:(es[k].ino == ino)=true=>mH hlt (fun q hq=>hno.o q hq (by omega)) h);have HY:=Hd (fun h:(es[k].ino == ino)=false=>show ∀ q (hq:q < k+1) (hql:q < es.length),(es[q].ino == ino)=false from fun q hq hql=>by
      by_cases he:q=k
      · subst he;exact h
      · exact hno.o q (by omega) hql)
     clear hcx hno nD;generalize es[k]=x at *;cases hb:(x.ino == ino) with
     | true=>
      have HR2:=Hd (HR.o.trans (HX.o hb));clear HX HY;go_upto_region 6 with fail;go_quiet (fail);go_wp2_with fail;go_ret;exact ⟨by rw [HR2.o];rfl,below_drewN HS.o.low _⟩
     | false=>
      have HZ:=Hd (HY.o hb);clear HX HY;go_upto_region 6 with fail;go_quiet (fail);obtain ⟨wk1,wk2⟩:=WK.o;go_wp2_with fail;clear wk1 wk2;go_roundw;case rel=>exact ⟨k+1,t+nq,hlt,rfl,rfl,HZ⟩
      case measure=>exact aN hlt _ rfl
 | some nd=>
  rw [hq] at hp;obtain ⟨A2,c2,rfl,ho,hb,hsz⟩:=hp;have HUP:=Hd (show upF (ds.map Dm.dv) dev ino=nd.par by rw [GZ.o,hq]);have B3:=Hd ((B0.o.trans (hb.mono B0.o.size)).alloc (B0.o.trans (hb.mono B0.o.size)).size (.cells (ndC nd (.slice A2 nd.es.length c2)) 145));have F3:=Hd ((F0.o.below hb).below ((Below.refl w1.heap.size w1).alloc (Nat.le_refl _) (.cells (ndC nd (.slice A2 nd.es.length c2)) 145)));have V3:=Hd ((V0.o.below hb).alloc (.cells (ndC nd (.slice A2 nd.es.length c2)) 145));have U3:=Hd ((U0.o.below hb).alloc (.cells (ndC nd (.slice A2 nd.es.length c2)) 145));have D3:=Hd (Blk.new w1 (ndC nd (.slice A2 nd.es.length c2)) 145);clear hb hq GZ ho hsz;go_upto_region 2 with fail;generalize w1.alloc (.cells (ndC nd (.slice A2 nd.es.length c2)) 145)=w3 at *;have v0:=V3.o.cell 0;have u0:=U3.o.cell 0;have d5:=D3.o.cell 5;go_wp2_with fail;clear v0 u0 d5 B0 F0 V0 U0;refine (bM dev nd.par ds A n c HN.o w3 F3.o).mono ?_;intro e w4 hp;cases hq2:aF (ds.map Dm.dv) dev nd.par with
  | none=>
   rw [hq2] at hp;obtain ⟨rfl,hb⟩:=hp;have HR:=Hd (show dS (ds.map Dm.dv) dev ino=mG [] ino by rw [HND.o,HUP.o,hq2];rfl);have HS:=Hd (show NaS w (w4.alloc (.cells ndZ 145)) dev ino [] w4.heap.size zNd none 0 from ⟨(B3.o.trans (hb.mono B3.o.size)).alloc (B3.o.trans (hb.mono B3.o.size)).size _,(U3.o.below hb).alloc _,Blk.new w4 _ _,AtE.nil,Nat.zero_le _⟩);clear hb hq2;go_upto_region 3 with fail;generalize w4.alloc (.cells ndZ 145)=w5 at *;go_wp2_with fail;go_loopw [9] (fun ix wr=>ix= .int .i64 0∧wr=w5) (fun _ _=>0);case atStart=>exact ⟨rfl,rfl⟩
   case round=>
    obtain ⟨rfl,rfl⟩:=hrel;have d7:=HS.o.D.cell 7;go_wp2_with fail;go_ret;exact ⟨by rw [HR.o];rfl,HS.o.low⟩
  | some p=>
   rw [hq2] at hp;obtain ⟨Ap,cp,rfl,ho,hb,hsz⟩:=hp;have HR:=Hd (show dS (ds.map Dm.dv) dev ino=mG p.es ino by rw [HND.o,HUP.o,hq2];rfl);have HS:=Hd (show NaS w (w4.alloc (.cells (ndC p (.slice Ap p.es.length cp)) 145)) dev ino p.es w4.heap.size p Ap cp from ⟨(B3.o.trans (hb.mono B3.o.size)).alloc (B3.o.trans (hb.mono B3.o.size)).size _,(U3.o.below hb).alloc _,Blk.new w4 _ _,(aQ ho).below ((Below.refl w4.heap.size w4).alloc (Nat.le_refl _) _),hsz.1⟩);clear hb hq2 ho hsz;go_upto_region 3 with fail;generalize w4.alloc (.cells (ndC p (.slice Ap p.es.length cp)) 145)=w5 at *;generalize p.es=es at *;go_wp2_with fail;go_loopw [9] (fun ix wr=>∃ k t:Nat,k≤es.length∧ix= .int .i64 k∧wr=w5.drewN t∧Hid (∀ q (hq:q < k) (hql:q < es.length),(es[q].ino == ino)=false)) (fun ix _=>es.length - (intOf ix).toNat);case atStart=>exact ⟨0,0,Nat.zero_le _,rfl,rfl,Hd (fun q hq=>absurd hq (Nat.not_lt_zero q))⟩
   case round=>
    obtain ⟨k,t,hk,rfl,rfl,hno⟩:=hrel;have d7:=HS.o.D.cell 7;have u1:=HS.o.U.cell 1;have nD:=HS.o.few;have WK:=Hd (dA (q:=k) (by omega));by_cases hlt:k < es.length;case neg=>
     have k1:¬ (k:Int) < (es.length:Int):=(by omega);have HR2:=Hd (HR.o.trans (mI (fun q hq=>hno.o q (by omega) hq)));clear hno nD;go_wp2_with fail;go_ret;exact ⟨by rw [HR2.o];rfl,below_drewN HS.o.low _⟩
    case pos=>
     have k1:(k:Int) < (es.length:Int):=(by omega);have k2:(0:Int)≤(k:Int):=(by omega);obtain ⟨ad,rfl,hab,hcx⟩:=HS.o.E k hlt;obtain ⟨e0,e1⟩:=fJ (a:=ad.add (k * 2)) hcx;have HX:=Hd (fun h:(es[k].ino == ino)=true=>mH hlt (fun q hq=>hno.o q hq (by omega)) h);have HY:=Hd (fun h:(es[k].ino == ino)=false=>show ∀ q (hq:q < k+1) (hql:q < es.length),(es[q].ino == ino)=false from fun q hq hql=>by
      by_cases he:q=k
      · subst he;exact h
      · exact hno.o q (by omega) hql)
     clear hcx hno nD;generalize es[k]=x at *;cases hb:(x.ino == ino) with
     | true=>
      have HR2:=Hd (HR.o.trans (HX.o hb));clear HX HY;go_upto_region 6 with fail;go_quiet (fail);go_wp2_with fail;go_ret;exact ⟨by rw [HR2.o];rfl,below_drewN HS.o.low _⟩
     | false=>
      have HZ:=Hd (HY.o hb);clear HX HY;go_upto_region 6 with fail;go_quiet (fail);obtain ⟨wk1,wk2⟩:=WK.o;go_wp2_with fail;clear wk1 wk2;go_roundw;case rel=>exact ⟨k+1,t+nq,hlt,rfl,rfl,HZ⟩
      case measure=>exact aN hlt _ rfl
theorem vQ:1000 * 1000000≤281474976710656:=by decide
theorem kT {α:Type} (E:El α) {ops:Array Oper} {rest:List Oper} {o:Oper} {a:Act} {w:World} {Q:Exit→Act→World→Prop} (hgd:o.guard=none) (x:Operand) (ho:o.op= .makeSlice E.sl (.const (.int .i64 0)) x) (n:Nat) (hx:a.eval x= .int .i64 (n:Int)) (hn:n≤1000000) (base:Nat) (hbase:base≤w.heap.size)
  (h:∀ v' w',ax E w' base v' []→w.grownBy w' none→v' = .slice (some ⟨w.heap.size,0,none⟩) 0 n→wpList Tryz.prog ops Q rest (a.put o.dst v') w'):wpList Tryz.prog ops Q (o :: rest) a w:=by
 obtain ⟨i0,z,hi,hz,hs,hb,hzs⟩:=E.info;have hsm:i0.bytes * n≤281474976710656:=Nat.le_trans (Nat.mul_le_mul (by rw [hb];exact E.small) hn) vQ;exact wpList_make_own w hgd (.const (.int .i64 0)) x E.sl ho base E.e i0 z E.sz E.hu hi hz hs .i64 .i64 (n:Int) n rfl hx rfl hsm (by unfold maxLen;omega) hbase (fun w' h1 h2=>h _ w' h1 h2 rfl)
abbrev enC (x:En):Array Value:=#[.string x.nm, .int .i64 x.ino]
theorem JM (x:En):(Tryz.prog.info? 209).map (·.size)=some (enC x).size:=by show _=some 2;kernel_rfl
def Gh (v:Value) (w:World) (e:Ending) (w' :World):Prop:=e= .returned v∧Below w.heap.size w w'
theorem Cq {fn:Func} (h:fn.results=#[.cell 2 209]) (tmps:Array Value) (w:World) (g:Nat) (x:En) (hp:tmps.getD 2 undef= .pointer (some ⟨g,0,none⟩)) (hg:Blk w g 209 (enC x)):
  (results fn tmps).run Tryz.prog w= .ok (.agg (enC x)) w:=
 results_cell_row h tmps w g _ (enC x) (0,0) _ hp hg Tryz.underlying209 rfl (JM x)
theorem Cr {fn:Func} (h:fn.results=#[.cell 2 145]) (tmps:Array Value) (w:World) (g:Nat) (n:Nd) (v:Value) (hp:tmps.getD 2 undef= .pointer (some ⟨g,0,none⟩)) (hg:Blk w g 145 (ndC n v)):
  (results fn tmps).run Tryz.prog w= .ok (.agg (ndC n v)) w:=
 results_cell_row h tmps w g _ (ndC n v) (0,0) _ hp hg Tryz.underlying145 rfl (gB n v)
theorem Gi (x:En) (w:World):Calls Tryz.prog 260 #[.agg (enC x)] w (Gh (.agg (enC x)) w):=by
 go_in;go_wp2_with fail;refine bodyPost_ret (Cq (fn:=Tryz.f260) rfl _ _ (w.heap.size+1) x rfl (by first | exact Blk.row (by have:=Blk.new (w.alloc (.cells (enC x) 209)) (enC ⟨⟨#[]⟩,0⟩) 209;simpa using this) _ | (have:=Blk.new (w.alloc (.cells (enC x) 209)) (enC x) 209;simpa using this))) rfl ?_;exact ⟨rfl,by first | exact ((Below.refl _ _).alloc (Nat.le_refl _) _).alloc (by simp) _ | exact ai (((Below.refl _ _).alloc (Nat.le_refl _) _).alloc (by simp) _) (by simp) _⟩
def MS (L:List En) (w:World) (e:Ending) (w' :World):Prop:=∃ (A:Option Addr) (c:Nat),e= .returned (.slice A L.length c)∧ax EEn w' w.heap.size (.slice A L.length c) L∧Below w.heap.size w w'
theorem Cs (L:List En) (A:Option Addr) (n c:Nat) (hn:n=L.length) (hl:n≤1000) (w:World) (h:AtE EEn w w.heap.size A L):
   Calls Tryz.prog 259 #[.slice A n c, .func (.func 260) #[] #[]] w (MS L w):=by
 have HN:=Hd hn;have HA:=Hd h;have HL:=Hd hl;clear h hn hl;go_in;by_cases h0:n=0
 · have b0:=(bE (show (n:Int)=0 by omega)).1;have hL:L= []:=List.eq_nil_of_length_eq_zero (by have:=HN.o;omega);go_wp2_with fail;go_ret;subst hL;exact ⟨none,0,rfl,ax.nil _ _,Below.refl _ _⟩
 · have b0:=(aM (show (n:Int)≠0 by omega)).1;go_wp2_with (at_make;refine kT EEn rfl (.tmp 12) rfl n rfl (by have:=HL.o;omega) w.heap.size (Nat.le_refl _) ?_);intro v1 w1 ho1 hg1 hv1;subst hv1;have B1:=Hd ((Below.refl w.heap.size w).grown hg1 (Nat.le_refl _) (fun k e=>by cases e));have O1:=Hd ho1;clear ho1 hg1;go_wp2_with fail;go_loopw [5,16] (fun v i wr=>∃ (k:Nat) (A0:Option Addr) (n0 c0:Nat),k≤n∧v= .slice A0 n0 c0∧i= .int .i64 (k:Int)∧Hid (ax EEn wr w.heap.size (.slice A0 n0 c0) (L.take k))∧Hid (Below w.heap.size w wr)) (fun _ i _=>n - (intOf i).toNat);case atStart=>exact ⟨0,_,_,_,Nat.zero_le _,rfl,rfl,O1,B1⟩
   case round=>
    clear O1 B1;obtain ⟨k,A0,n0,c0,hk,rfl,rfl,HO,HB⟩:=hrel;by_cases hlt:k < n;case pos=>
     have hkl:k < L.length:=(by have:=HN.o;omega);have k0:(0:Int)≤(k:Int):=(by omega);have kn:(k:Int) < (n:Int):=(by omega);obtain ⟨q7,q8⟩:=bz (show k≤1000000 by have:=HL.o;omega) (Nat.le_refl _);obtain ⟨ad,rfl,hab,hcx⟩:=(HA.o.keep HB.o (Nat.le_refl _)) k hkl;obtain ⟨s0,s1⟩:=fJ (a:=ad.add (k * 2)) hcx;have HT:=Hd (show L.take (k+1)=L.take k ++ [L[k]] from by rw [List.take_add_one,List.getElem?_eq_getElem hkl];rfl);have HTL:=Hd (show (L.take k).length=k by rw [List.length_take];omega);clear hcx;generalize L[k]=x at *;have X1:=Hd (Blk.new wr (enC x) 209);have B1:=Hd (HB.o.alloc HB.o.size (.cells (enC x) 209));have O1:=Hd (HO.o.alloc (.cells (enC x) 209));clear HO HB;go_upto_region 7 with fail;clear s0 s1;generalize wr.alloc (.cells (enC x) 209)=w2 at *;have x0:=X1.o.cell 0;have x1:=X1.o.cell 1;go_wp2_with fail;refine (Gi x w2).mono ?_;rintro e w3 ⟨rfl,hb⟩;have B3:=Hd ((aa B1.o hb).alloc (aa B1.o hb).size (.cells (enC x) 209));have O3:=Hd ((O1.o.below hb).alloc (.cells (enC x) 209));have RW:=Hd (aJ EEn w3 (enC x) 209 x rfl (Nat.lt_succ_self w3.heap.size));clear hb x0 x1 B1 O1 X1;go_wp2_with (at_builtin;refine aj EEn rfl (.tmp 20) (.tmp 24) rfl w.heap.size (.slice A0 n0 c0) (L.take k) rfl O3.o (w3.heap.size+1) (some ⟨w3.heap.size,0,none⟩) 1 1 [x] rfl rfl RW.o (by rw [HTL.o];have:=HL.o;simp;omega) B3.o.size ?_);intro v6 w6 ho6 hg6 ja;have B6:=Hd (B3.o.grown hg6 B3.o.size (fun q e=>O3.o.ge q e));rw [← HT.o] at ho6;obtain ⟨A6,c6,e6,_⟩:=ho6.at;subst e6;have O6:=Hd ho6;clear ho6 hg6 ja;go_wp2_with fail;go_roundw;case rel=>exact ⟨k+1,_,_,_,by omega,rfl,by go_num,O6,B6⟩
     case measure=>simp [intOf];omega
    case neg=>
     obtain rfl:k=n:=(by omega);have kn:¬ (k:Int) < (k:Int):=(by omega);have hT:L.take k=L:=(by rw [HN.o];exact List.take_length);rw [hT] at HO;obtain ⟨A5,c5,e5,_⟩:=HO.o.at;injection e5 with h1 h2 h3;subst h1 h2 h3;go_wp2_with fail;go_ret;exact ⟨_,_,rfl,HO.o,HB.o⟩
def NcP (nd:Nd) (w:World) (e:Ending) (w' :World):Prop:=∃ (A:Option Addr) (c:Nat),e= .returned (.agg (ndC nd (.slice A nd.es.length c)))∧ax EEn w' w.heap.size (.slice A nd.es.length c) nd.es∧Below w.heap.size w w'
theorem Gj (nd:Nd) (A:Option Addr) (n c:Nat) (hn:n=nd.es.length) (hl:n≤1000) (w:World) (h:AtE EEn w w.heap.size A nd.es):
  Calls Tryz.prog 224 #[.agg (ndC nd (.slice A n c))] w (NcP nd w):=by
 have B0:=Hd (((Below.refl w.heap.size w).alloc (Nat.le_refl _) (.cells (ndC nd (.slice A n c)) 145)).alloc (by simp) (.cells ndZ 145));have X0:=Hd ((Blk.new w (ndC nd (.slice A n c)) 145).alloc (.cells ndZ 145));have R0:=Hd (show Blk ((w.alloc (.cells (ndC nd (.slice A n c)) 145)).alloc (.cells ndZ 145)) (w.heap.size+1) 145 ndZ by
  have h:=Blk.new (w.alloc (.cells (ndC nd (.slice A n c)) 145)) ndZ 145;simpa using h)
 have H0:=Hd ((h.keep B0.o (Nat.le_refl _)).more B0.o.size);have HN:=Hd hn;have HL:=Hd hl;clear h hn hl;go_in;go_upto_region 1 with fail;generalize (w.alloc (.cells (ndC nd (.slice A n c)) 145)).alloc (.cells ndZ 145)=w1 at *;have n7:=X0.o.cell 7;go_wp2_with fail;refine (Cs nd.es A n c HN.o HL.o w1 H0.o).mono ?_;rintro e w2 ⟨A2,c2,rfl,ho,hb⟩;have B2:=Hd (aa B0.o hb);have X2:=Hd (X0.o.below hb);have R2:=Hd (R0.o.below hb);have O2:=Hd (ho.low B0.o.size);have HW:=Hd B0.o.size;clear n7 ho B0 X0 R0 H0;have n7:=X2.o.cell 7;have f7:=X2.o.free 7;have XP:=Hd (show Blk (w2.setCell ⟨w.heap.size,7,none⟩ (.slice A2 nd.es.length c2)) w.heap.size 145 (ndC nd (.slice A2 nd.es.length c2)) from X2.o.put 7 _);have RP:=Hd (R2.o.af (.slice A2 nd.es.length c2) (show w.heap.size+1≠(⟨w.heap.size,7,none⟩:Addr).block from by simp));have BP:=Hd (B2.o.setCell (p:=⟨w.heap.size,7,none⟩) (Nat.le_refl _) (.slice A2 nd.es.length c2));have OP:=Hd (O2.o.bU (g:=w.heap.size) (i:=7) (ay O2.o X2.o (by decide)) (.slice A2 nd.es.length c2));go_upto_region 2 with fail;clear n7 f7 X2 R2 B2 O2;generalize w2.setCell ⟨w.heap.size,7,none⟩ (.slice A2 nd.es.length c2)=w3 at *;have c0:=XP.o.cell 0;have c1:=XP.o.cell 1;have c2' :=XP.o.cell 2;have c3:=XP.o.cell 3;have c4:=XP.o.cell 4;have c5:=XP.o.cell 5;have c6:=XP.o.cell 6;have c7:=XP.o.cell 7;go_wp2_with ((with_reducible refine ae ?_ 145 (.tmp 2) (.tmp 7) ?_ RP.o (ndC nd (.slice A2 nd.es.length c2)) ?_ ?_ ?_ ?_ ?_ ?_);(iterate 4 rfl);(exact gB _ _);rfl;(exact eX _ _ _ _));refine bodyPost_ret (Cr (fn:=Tryz.f224) rfl _ _ (w.heap.size+1) nd (.slice A2 nd.es.length c2) rfl (Blk.row RP.o _)) rfl ?_;exact ⟨A2,c2,rfl,OP.o.rZ (ay OP.o RP.o (by decide)) _,ai BP.o (by omega) _⟩
theorem Gl (dev ino:Int) (ds:List Dm) (A:Option Addr) (n c:Nat) (hn:n=ds.length) (w:World) (h:bV w w.heap.size A ds):
   Calls Tryz.prog 158 #[fsV A n c,flV dev ino] w (jN (aF (ds.map Dm.dv) dev ino) w):=by
 have HN:=Hd hn;have hs1:(w.alloc (.cells #[.slice A n c] 28)).heap.size=w.heap.size+1:=by simp
 have hs2:((w.alloc (.cells #[.slice A n c] 28)).alloc (.cells #[.int .i64 dev, .int .i64 ino] 44)).heap.size=w.heap.size+1+1:=by simp
 have B0:=Hd (show Below w.heap.size w (((w.alloc (.cells #[.slice A n c] 28)).alloc (.cells #[.int .i64 dev, .int .i64 ino] 44)).alloc (.cells ndZ 145)) from
   (((Below.refl w.heap.size w).alloc (Nat.le_refl _) _).alloc (by rw [hs1];omega) _).alloc (by rw [hs2];omega) _)
 have F0:=Hd (h.below B0.o);have R0:=Hd (show Blk (((w.alloc (.cells #[.slice A n c] 28)).alloc (.cells #[.int .i64 dev, .int .i64 ino] 44)).alloc (.cells ndZ 145)) (w.heap.size+1+1) 145 ndZ by
   have h:=Blk.new ((w.alloc (.cells #[.slice A n c] 28)).alloc (.cells #[.int .i64 dev, .int .i64 ino] 44)) ndZ 145;rw [hs2] at h;exact h)
 clear h hn hs1 hs2;go_in;go_wp2_with fail;generalize (((w.alloc (.cells #[.slice A n c] 28)).alloc (.cells #[.int .i64 dev, .int .i64 ino] 44)).alloc (.cells ndZ 145))=w1 at *;refine (Gg dev ino ds A n c HN.o w1 F0.o).mono ?_;rintro e w2 ⟨⟨hq,rfl⟩ | ⟨x,ad,hq,rfl,hab,hcx,hes,hsz⟩,hb⟩
 · have R2:=Hd (R0.o.below hb);have B2:=Hd (B0.o.trans (hb.mono B0.o.size));have HQ:=Hd hq;clear hq hb;go_wp2_with ((with_reducible refine ae ?_ 145 (.tmp 4) (.tmp 12) ?_ R2.o ndZ ?_ ?_ ?_ ?_ ?_ ?_);(iterate 4 rfl);(exact gB zNd _);rfl;(exact eX zNd _ _ _));refine bodyPost_ret (l6 (fn:=Tryz.f158) rfl _ _ (w.heap.size+1+1) zNd (.slice none 0 0) rfl (Blk.row R2.o _)) rfl ?_;rw [HQ.o];exact ⟨rfl,ai B2.o (by omega) _⟩
 · obtain ⟨t0,t1,t2,t3,t4,t5,t6,t7⟩:=cK (a:=ad) (fun j hj=>(hb.cell (by rw [av];exact hab)).trans (hcx j hj));have R2:=Hd (R0.o.below hb);have B2:=Hd (B0.o.trans (hb.mono B0.o.size));have E2:=Hd (hes.below hb);have HQ:=Hd hq;have HSZ:=Hd hsz;have HLW:=Hd (show w.heap.size≤w2.heap.size from B2.o.size);clear hq hb hcx hes hsz hab;go_wp2_with fail;refine (Gj x.nd x.A x.nd.es.length x.c rfl HSZ.o.1 w2 E2.o).mono ?_;rintro e w3 ⟨A3,c3,rfl,ho,hb⟩;have R3:=Hd (R2.o.below hb);have B3:=Hd (aa B2.o hb);have O3:=Hd (ho.low HLW.o);clear ho hb t0 t1 t2 t3 t4 t5 t6 t7;go_wp2_with ((with_reducible refine ae ?_ 145 (.tmp 4) (.tmp 16) ?_ R3.o (ndC x.nd (.slice A3 x.nd.es.length c3)) ?_ ?_ ?_ ?_ ?_ ?_);(iterate 4 rfl);(exact gB _ _);rfl;(exact eX _ _ _ _));refine bodyPost_ret (l6 (fn:=Tryz.f158) rfl _ _ (w.heap.size+1+1) x.nd (.slice A3 x.nd.es.length c3) rfl (Blk.row R3.o _)) rfl ?_;rw [HQ.o];exact ⟨A3,c3,rfl,O3.o.rZ (ay O3.o R3.o (by decide)) _,ai B3.o (by omega) _,HSZ.o⟩
def gX (f:List Dv) (dev ino:Int):Nd:=(aF f dev ino).getD zNd
theorem yM (f:List Dv) (dev ino:Int):bI f dev ino=((aF f dev ino).isSome && (gX f dev ino).kind == 2):=by
 unfold bI gX;cases aF f dev ino <;> rfl
theorem JN (f:List Dv) (dev ino:Int):dS f dev ino=mG (gX f dev (gX f dev ino).par).es ino:=by
 have e:upF f dev ino=(gX f dev ino).par:=by
  unfold upF gX;cases aF f dev ino <;> rfl
 rw [qg,e];generalize (gX f dev ino).par=q;unfold gX;cases aF f dev q <;> rfl
def NdP (f:List Dv) (dev ino:Int) (w:World) (e:Ending) (w' :World):Prop:=
 ∃ (A:Option Addr) (c:Nat),e= .returned (.tuple #[.agg (ndC (gX f dev ino) (.slice A (gX f dev ino).es.length c)), .bool (aF f dev ino).isSome])∧AtE EEn w' w'.heap.size A (gX f dev ino).es∧(gX f dev ino).es.length≤1000∧Below w.heap.size w w'
theorem vR (dev ino:Int) (ds:List Dm) (A:Option Addr) (n c:Nat) (hn:n=ds.length) (w:World) (h:bV w w.heap.size A ds):
  Calls Tryz.prog 158 #[fsV A n c,flV dev ino] w (NdP (ds.map Dm.dv) dev ino w):=by
 refine (Gl dev ino ds A n c hn w h).mono ?_;intro e w' hp;unfold NdP gX;cases hq:aF (ds.map Dm.dv) dev ino with
 | none=>
  rw [hq] at hp;obtain ⟨rfl,hb⟩:=hp;exact ⟨none,0,rfl,AtE.nil,Nat.zero_le _,hb⟩
 | some nd=>
  rw [hq] at hp;obtain ⟨A2,c2,rfl,ho,hb,hs⟩:=hp;exact ⟨A2,c2,rfl,aQ ho,hs.1,hb⟩
theorem zO (dev ino:Int) (ds:List Dm) (A:Option Addr) (n c:Nat) (hn:n=ds.length) (v:Value) (w:World) (h:bV w w.heap.size A ds):
  Calls Tryz.prog 95 #[.agg #[slV A n c,v],flV dev ino] w (Gh (.bool (bI (ds.map Dm.dv) dev ino)) w):=by
 have HN:=Hd hn;have B0:=Hd (aT w #[slV A n c,v] #[.int .i64 dev, .int .i64 ino] 31 44);have F0:=Hd (h.below B0.o);have HD:=Hd (yM (ds.map Dm.dv) dev ino);clear h hn;go_in;go_wp2_with fail;generalize (w.alloc (.cells #[slV A n c,v] 31)).alloc (.cells #[.int .i64 dev, .int .i64 ino] 44)=w0 at *;refine (vR dev ino ds A n c HN.o w0 F0.o).mono ?_;rintro e w1 ⟨A1,c1,rfl,_,_,hb⟩;have B1:=Hd (B0.o.trans (hb.mono B0.o.size));clear hb;generalize gX (ds.map Dm.dv) dev ino=nd at *;have D1:=Hd (Blk.new w1 (ndC nd (.slice A1 nd.es.length c1)) 145);have B2:=Hd (B1.o.alloc B1.o.size (.cells (ndC nd (.slice A1 nd.es.length c1)) 145));go_upto_region 2 with fail;generalize w1.alloc (.cells (ndC nd (.slice A1 nd.es.length c1)) 145)=w2 at *;have d1:=D1.o.cell 1;cases ho:(aF (ds.map Dm.dv) dev ino).isSome with
 | false=>
  rw [ho] at HD;go_wp2_with fail;go_ret;exact ⟨by rw [HD.o];rfl,B2.o⟩
 | true=>
  rw [ho] at HD;go_wp2_with fail;go_ret;exact ⟨by rw [HD.o];rfl,B2.o⟩
theorem vS (dev:Int) (u:Value) (ms:List Mt) (Am:Option Addr) (nm cm:Nat) (hn:nm=ms.length) (hl:nm≤1000) (w:World) (h:AtE EMt w w.heap.size Am ms):
  Calls Tryz.prog 159 #[.agg #[u,slV Am nm cm], .int .i64 dev] w (Gh (.tuple #[flV (onR ms dev).1 (onR ms dev).2.1, .bool (onR ms dev).2.2]) w):=by
 have HN:=Hd hn;have HL:=Hd hl;have B0:=Hd (aT w #[u,slV Am nm cm] #[.int .i64 0, .int .i64 0] 31 44);have M0:=Hd (h.below B0.o);have V0:=Hd ((Blk.new w #[u,slV Am nm cm] 31).alloc (.cells #[.int .i64 0, .int .i64 0] 44));have R0:=Hd (show Blk ((w.alloc (.cells #[u,slV Am nm cm] 31)).alloc (.cells #[.int .i64 0, .int .i64 0] 44)) (w.heap.size+1) 44 #[.int .i64 0, .int .i64 0] by
  have h:=Blk.new (w.alloc (.cells #[u,slV Am nm cm] 31)) #[.int .i64 0, .int .i64 0] 44;simp only [World.size_alloc] at h;exact h)
 have HR:=Hd (show onR ms dev=match onF ms dev with | some (a,b)=>(a,b,true) | none=>(0,0,false) from rfl);clear h hn hl;go_in;go_upto_region 1 with fail;generalize (w.alloc (.cells #[u,slV Am nm cm] 31)).alloc (.cells #[.int .i64 0, .int .i64 0] 44)=w0 at *;have v1:=V0.o.cell 1;go_wp2_with fail;clear v1;go_loopw [11] (fun i wr=>∃ k:Nat,k≤ms.length∧i= .int .i64 k∧Hid (Below w0.heap.size w0 wr)∧Hid (∀ q (hq:q < k) (hql:q < ms.length),(ms[q].dev == dev)=false)) (fun i _=>ms.length - (intOf i).toNat);case atStart=>exact ⟨0,Nat.zero_le _,rfl,Hd (Below.refl _ _),Hd (fun q hq=>absurd hq (Nat.not_lt_zero q))⟩
 case round=>
  obtain ⟨k,hk,rfl,hbw,hno⟩:=hrel;have hn:=HN.o;have WK:=Hd (dA (q:=k) (by have:=HL.o;omega));have R1:=Hd (R0.o.below hbw.o);have B1:=Hd (aa B0.o hbw.o);have M1:=Hd (M0.o.below hbw.o);by_cases hlt:k < ms.length;case neg=>
   have k1:¬ (k:Int) < (nm:Int):=(by omega);have HR2:=Hd (HR.o.trans (by rw [zk (fun q hq=>hno.o q (by omega) hq)]));clear hno hn;go_wp2_with ((with_reducible refine ae ?_ 44 (.tmp 4) (.tmp 22) ?_ R1.o #[.int .i64 0, .int .i64 0] ?_ ?_ ?_ ?_ ?_ ?_);(iterate 4 rfl);(exact dD _ _);rfl;(exact bQ _ _));refine bodyPost_ret (gH (fn:=Tryz.f159) rfl _ _ (w.heap.size+1) 0 0 rfl (Blk.row R1.o _)) rfl ?_;rw [HR2.o];exact ⟨rfl,ai B1.o (by omega) _⟩
  case pos=>
   have k1:(k:Int) < (nm:Int):=(by omega);have k2:(0:Int)≤(k:Int):=(by omega);obtain ⟨am,rfl,hab,hcx⟩:=M1.o k hlt;obtain ⟨m0,m1,m2⟩:=jR (a:=am.add (k * 3)) hcx;have HX:=Hd (fun h:(ms[k].dev == dev)=true=>zi hlt (fun q hq=>hno.o q hq (by omega)) h);have HY:=Hd (fun h:(ms[k].dev == dev)=false=>show ∀ q (hq:q < k+1) (hql:q < ms.length),(ms[q].dev == dev)=false from fun q hq hql=>by
    by_cases he:q=k
    · subst he;exact h
    · exact hno.o q (by omega) hql)
   clear hcx hno hn;generalize ms[k]=m at *;have X2:=Hd (Blk.new wr (mtC m) 199);have R2:=Hd (R1.o.alloc (.cells (mtC m) 199));have B2:=Hd (B1.o.alloc B1.o.size (.cells (mtC m) 199));have HB2:=Hd (hbw.o.alloc hbw.o.size (.cells (mtC m) 199));clear R1 B1 M1 hbw;go_upto_region 4 with fail;clear m0 m1 m2;generalize wr.alloc (.cells (mtC m) 199)=w2 at *;have x0:=X2.o.cell 0;have x1:=X2.o.cell 1;have x2:=X2.o.cell 2;cases hb:(m.dev == dev) with
   | true=>
    have HR2:=Hd (HR.o.trans (by rw [HX.o hb]));clear HX HY;go_wp2_with ((with_reducible refine ae ?_ 44 (.tmp 4) (.tmp 20) ?_ R2.o #[.int .i64 m.od, .int .i64 m.oi] ?_ ?_ ?_ ?_ ?_ ?_);(iterate 4 rfl);(exact dD _ _);rfl;(exact bQ _ _));refine bodyPost_ret (gH (fn:=Tryz.f159) rfl _ _ (w.heap.size+1) m.od m.oi rfl (Blk.row R2.o _)) rfl ?_;rw [HR2.o];exact ⟨rfl,ai B2.o (by omega) _⟩
   | false=>
    have HZ:=Hd (HY.o hb);clear HX HY;obtain ⟨wk1,wk2⟩:=WK.o;go_wp2_with fail;clear wk1 wk2;go_roundw;case rel=>exact ⟨k+1,hlt,rfl,HB2,HZ⟩
    case measure=>exact aN hlt _ rfl
theorem Gm (dev:Int) (u:Value) (ms:List Mt) (Am:Option Addr) (nm cm:Nat) (hn:nm=ms.length) (hl:nm≤1000) (w:World) (h:AtE EMt w w.heap.size Am ms):
   Calls Tryz.prog 96 #[.agg #[u,slV Am nm cm], .int .i64 dev] w (Gh (.bool (eU ms dev)) w):=by
 have B0:=Hd ((Below.refl w.heap.size w).alloc (Nat.le_refl _) (.cells #[u,slV Am nm cm] 31));have HO:=Hd (vS dev u ms Am nm cm hn hl _ (h.below B0.o));have HM:=Hd (tN ms dev);clear h hn;by_cases h0:dev=0
 · have b0:=(bE h0).1;have HM2:=Hd (show eU ms dev=true by rw [HM.o,b0];simp);clear HM;go_in;go_wp2_with fail;go_ret;exact ⟨by rw [HM2.o];rfl,B0.o⟩
 · have b0:=(aM h0).1;have HM2:=Hd (show eU ms dev=(onR ms dev).2.2 by rw [HM.o,b0];simp);clear HM;go_in;go_wp2_with fail;refine HO.o.mono ?_;rintro e w1 ⟨rfl,hb⟩;have B1:=Hd (B0.o.trans (hb.mono B0.o.size));clear hb HO;generalize onR ms dev=o at *;obtain ⟨a,b,o⟩:=o;have HB2:=Hd (B1.o.alloc B1.o.size (.cells #[.int .i64 a, .int .i64 b] 44));go_wp2_with fail;go_ret;exact ⟨by rw [HM2.o];rfl,HB2.o⟩
theorem Gn (dev ino:Int) (ds:List Dm) (A:Option Addr) (n c:Nat) (hn:n=ds.length) (v:Value) (w:World) (h:bV w w.heap.size A ds):
  Calls Tryz.prog 100 #[.agg #[slV A n c,v],flV dev ino] w (Gh (.string (dS (ds.map Dm.dv) dev ino)) w):=by
 have HN:=Hd hn;have B0:=Hd (aT w #[slV A n c,v] #[.int .i64 dev, .int .i64 ino] 31 44);have F0:=Hd (h.below B0.o);have V0:=Hd ((Blk.new w #[slV A n c,v] 31).alloc (.cells #[.int .i64 dev, .int .i64 ino] 44));have U0:=Hd (show Blk ((w.alloc (.cells #[slV A n c,v] 31)).alloc (.cells #[.int .i64 dev, .int .i64 ino] 44)) (w.heap.size+1) 44 #[.int .i64 dev, .int .i64 ino] by
  have h:=Blk.new (w.alloc (.cells #[slV A n c,v] 31)) #[.int .i64 dev, .int .i64 ino] 44;simp only [World.size_alloc] at h;exact h)
 have HND:=Hd (JN (ds.map Dm.dv) dev ino);clear h hn;go_in;go_wp2_with fail;generalize (w.alloc (.cells #[slV A n c,v] 31)).alloc (.cells #[.int .i64 dev, .int .i64 ino] 44)=w0 at *;refine (vR dev ino ds A n c HN.o w0 F0.o).mono ?_;rintro e w1 ⟨A1,c1,rfl,_,_,hb⟩;generalize gX (ds.map Dm.dv) dev ino=nd at *;have B3:=Hd ((B0.o.trans (hb.mono B0.o.size)).alloc (B0.o.trans (hb.mono B0.o.size)).size (.cells (ndC nd (.slice A1 nd.es.length c1)) 145));have F3:=Hd ((F0.o.below hb).below ((Below.refl w1.heap.size w1).alloc (Nat.le_refl _) (.cells (ndC nd (.slice A1 nd.es.length c1)) 145)));have V3:=Hd ((V0.o.below hb).alloc (.cells (ndC nd (.slice A1 nd.es.length c1)) 145));have U3:=Hd ((U0.o.below hb).alloc (.cells (ndC nd (.slice A1 nd.es.length c1)) 145));have D3:=Hd (Blk.new w1 (ndC nd (.slice A1 nd.es.length c1)) 145);clear hb;go_upto_region 2 with fail;generalize w1.alloc (.cells (ndC nd (.slice A1 nd.es.length c1)) 145)=w3 at *;have v0:=V3.o.cell 0;have u0:=U3.o.cell 0;have d5:=D3.o.cell 5;go_wp2_with fail;clear v0 u0 d5 B0 F0 V0 U0;refine (vR dev nd.par ds A n c HN.o w3 F3.o).mono ?_;rintro e w4 ⟨A4,c4,rfl,ho,hl,hb⟩;generalize gX (ds.map Dm.dv) dev nd.par=p at *;have HS:=Hd (show NaS w (w4.alloc (.cells (ndC p (.slice A4 p.es.length c4)) 145)) dev ino p.es w4.heap.size p A4 c4 from ⟨(B3.o.trans (hb.mono B3.o.size)).alloc (B3.o.trans (hb.mono B3.o.size)).size _,(U3.o.below hb).alloc _,Blk.new w4 _ _,ho.below ((Below.refl w4.heap.size w4).alloc (Nat.le_refl _) _),hl⟩);clear hb ho hl B3 F3 V3 U3 D3;go_upto_region 3 with fail;generalize w4.alloc (.cells (ndC p (.slice A4 p.es.length c4)) 145)=w5 at *;have d7:=HS.o.D.cell 7;generalize p.es=es at *;go_wp2_with fail;clear d7;go_loopw [32] (fun ix wr=>∃ k:Nat,k≤es.length∧ix= .int .i64 k∧Hid (Below w5.heap.size w5 wr)∧Hid (∀ q (hq:q < k) (hql:q < es.length),(es[q].ino == ino)=false)) (fun ix _=>es.length - (intOf ix).toNat);case atStart=>exact ⟨0,Nat.zero_le _,rfl,Hd (Below.refl _ _),Hd (fun q hq=>absurd hq (Nat.not_lt_zero q))⟩
 case round=>
  obtain ⟨k,hk,rfl,hbw,hno⟩:=hrel;have nD:=HS.o.few;have WK:=Hd (dA (q:=k) (by omega));have B6:=Hd (aa HS.o.low hbw.o);have U6:=Hd (HS.o.U.below hbw.o);by_cases hlt:k < es.length;case neg=>
   have k1:¬ (k:Int) < (es.length:Int):=(by omega);have HR2:=Hd (HND.o.trans (mI (fun q hq=>hno.o q (by omega) hq)));clear hno nD;go_wp2_with fail;go_ret;exact ⟨by rw [HR2.o];rfl,B6.o⟩
  case pos=>
   have k1:(k:Int) < (es.length:Int):=(by omega);have k2:(0:Int)≤(k:Int):=(by omega);obtain ⟨ad,rfl,hab,hcx⟩:=(HS.o.E.below hbw.o) k hlt;obtain ⟨e0,e1⟩:=fJ (a:=ad.add (k * 2)) hcx;have HX:=Hd (fun h:(es[k].ino == ino)=true=>mH hlt (fun q hq=>hno.o q hq (by omega)) h);have HY:=Hd (fun h:(es[k].ino == ino)=false=>show ∀ q (hq:q < k+1) (hql:q < es.length),(es[q].ino == ino)=false from fun q hq hql=>by
    by_cases he:q=k
    · subst he;exact h
    · exact hno.o q (by omega) hql)
   clear hcx hno nD;generalize es[k]=x at *;have X7:=Hd (Blk.new wr (enC x) 209);have U7:=Hd (U6.o.alloc (.cells (enC x) 209));have B7:=Hd (B6.o.alloc B6.o.size (.cells (enC x) 209));have HB7:=Hd (hbw.o.alloc hbw.o.size (.cells (enC x) 209));clear U6 B6 hbw;go_upto_region 6 with fail;clear e0 e1;generalize wr.alloc (.cells (enC x) 209)=w7 at *;have x0:=X7.o.cell 0;have x1:=X7.o.cell 1;have u1:=U7.o.cell 1;cases hb:(x.ino == ino) with
   | true=>
    have HR2:=Hd (HND.o.trans (HX.o hb));clear HX HY;go_wp2_with fail;go_ret;exact ⟨by rw [HR2.o];rfl,B7.o⟩
   | false=>
    have HZ:=Hd (HY.o hb);clear HX HY;obtain ⟨wk1,wk2⟩:=WK.o;go_wp2_with fail;clear wk1 wk2;go_roundw;case rel=>exact ⟨k+1,hlt,rfl,HB7,HZ⟩
    case measure=>exact aN hlt _ rfl
theorem oQ (l:List UInt8):Lib.hasSuffix l [47]=(l.getLast? == some 47):=by
 unfold Lib.hasSuffix;rcases List.eq_nil_or_concat l with h | ⟨r,a,h⟩
 · subst h;rfl
 · rw [h,List.concat_eq_append,List.getLast?_append];by_cases ha:a=47
   · subst ha;have: [47] <:+r ++ [47]:=List.suffix_append _ _;simp [this]
   · have hn:¬ [47] <:+r ++ [a]:=fun hs=>by
      obtain ⟨q,e⟩:=hs;have:=congrArg List.getLast? e;simp at this;exact ha this.symm
     have h1:List.isSuffixOf [47] (r ++ [a])=false:=by
      cases hq:List.isSuffixOf [47] (r ++ [a]) with
      | false=>rfl
      | true=>exact absurd (List.isSuffixOf_iff_suffix.1 hq) hn
     rw [h1];simp;intro h2;exact ha h2
theorem wm (d n:ByteArray):eB d n=if Lib.hasSuffix d.data.toList [47]=true then d ++ n else d ++ ⟨#[47]⟩ ++ n:=by
 unfold eB;rw [oQ];by_cases h:0 < d.size
 · rw [decide_eq_true h,Bool.true_and]
 · have hd:d.data.toList= []:=List.eq_nil_of_length_eq_zero (by rw [Array.length_toList];show d.size=0;omega);rw [decide_eq_false h,hd];rfl
theorem Gq (d nm:ByteArray) (hd:d.size≤100000000) (hn:nm.size≤2000) (w:World):
  Calls Tryz.prog 99 #[.string d, .string nm] w fun e w' =>e= .returned (.string (eB d nm))∧w=w' :=by
 have HJ:=Hd (wm d nm);have hs1:(d.size:Int)+(nm.size:Int)≤100002000:=by omega
 have hs2:d.size+nm.size≤100002000:=by omega
 have HS:=Hd (Tryz.strings_HasSuffix d ⟨#[47]⟩ w (by omega));go_in;go_wp2_with fail;refine HS.o.mono ?_;rintro e w1 ⟨rfl,rfl⟩;cases hb:Lib.hasSuffix d.data.toList [47] with
 | true=>
  have HR:=Hd (HJ.o.trans (if_pos hb));clear HJ;go_wp2_with fail;go_ret;exact ⟨by rw [HR.o];rfl,rfl⟩
 | false=>
  have HR:=Hd (HJ.o.trans (if_neg (by rw [hb];decide)));clear HJ;go_wp2_with fail;go_ret;exact ⟨by rw [HR.o];rfl,rfl⟩
end Go.Proofs.YtollifnnpihfdaaGreatDoor
