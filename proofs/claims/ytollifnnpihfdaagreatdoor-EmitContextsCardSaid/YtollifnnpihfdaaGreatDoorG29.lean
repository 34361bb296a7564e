import Derived.Test.YtollifnnpihfdaaGreatDoorG28
set_option maxRecDepth 100000
set_option maxHeartbeats 64000000
set_option linter.all false
namespace Go.Proofs.YtollifnnpihfdaaGreatDoor
open Go.RowKit
theorem last_at (d:ByteArray) (k:Nat) (hk:d.size=k+1) (h:k < d.size):d.data.toList.getLast? =some d[k]:=by
 have hl:d.data.toList.length=k+1:=by rw [Array.length_toList];exact hk
 rw [List.getLast?_eq_getElem?,hl,Nat.add_sub_cancel,List.getElem?_eq_getElem (by omega)];rfl
theorem FM (d nm:ByteArray) (hd:d.size≤2000) (hn:nm.size≤2000) (w:World):
  Calls Tryz.prog 71 #[.string d, .string nm] w fun e w' =>e= .returned (.string (iI d nm))∧w=w' :=by
 have HJ:=Hd (show iI d nm=if (decide (0 < d.size) && (d.data.toList.getLast? == some 47))=true then d ++ nm else d ++ ⟨#[47]⟩ ++ nm from rfl);have hs1:(d.size:Int)+(nm.size:Int)≤4000:=by omega
 have hs2:d.size+nm.size≤4000:=by omega
 by_cases h0:0 < d.size;case neg=>
  have h0' :¬ (0:Int) < (d.size:Int):=by omega
  have HR:=Hd (HJ.o.trans (if_neg (by rw [decide_eq_false h0,Bool.false_and];decide)));clear HJ;go_in;go_wp2_with fail;go_ret;exact ⟨by rw [HR.o];rfl,rfl⟩
 case pos=>
  obtain ⟨k,hk⟩:∃ k,d.size=k+1:=⟨d.size - 1,by omega⟩;have hkd:k < d.size:=by omega
  have h0' :(0:Int) < (d.size:Int):=by omega
  have hl:=last_at d k hk hkd;have wk:IntKind.i64.wrap ((d.size:Int) - 1)=(k:Int):=by rw [show (d.size:Int) - 1=(k:Int) by omega];exact IntWalk.i64_in _ (by omega)
  have wk2:wrap64 ((d.size:Int) - 1)=(k:Int):=by rw [show (d.size:Int) - 1=(k:Int) by omega];exact IntWalk.wrap64_in _ (by omega)
  have k2:(0:Int)≤(k:Int):=by omega
  have k3:(k:Int) < (d.size:Int):=by omega
  cases hc:((d[k].toNat:Int) == 47) with
  | true=>
   have HR:=Hd (HJ.o.trans (if_pos (by
    have:d[k]=47:=by
     have h9:(d[k].toNat:Int)=47:=(by simpa using hc);exact UInt8.toNat_inj.1 (by show d[k].toNat=47;omega)
    rw [hl,this,decide_eq_true h0];decide)))
   clear HJ hl;go_in;go_wp2_with fail;go_ret;exact ⟨by rw [HR.o];rfl,rfl⟩
  | false=>
   have HR:=Hd (HJ.o.trans (if_neg (by
    rw [hl,decide_eq_true h0];intro h9;have h8:(some d[k] == some (47:UInt8))=true:=(by simpa using h9);have h7:d[k]=47:=(by simpa using h8);rw [h7] at hc;exact absurd hc (by decide))))
   clear HJ hl;go_in;go_wp2_with fail;go_ret;exact ⟨by rw [HR.o];rfl,rfl⟩
theorem wS (f:List Dv) (dev ino:Int):fT f dev ino=match aG f dev (upF f dev ino) with | some p=>(match p.es.find? (fun e:En=>e.ino == ino) with | some e=>e.nm | none=>⟨#[]⟩) | none=>⟨#[]⟩:=by
 unfold fT;cases aG f dev (upF f dev ino) with
 | none=>rfl
 | some p=>rfl
def qx (l:List En) (ino:Int):ByteArray:=match l.find? (fun e:En=>e.ino == ino) with | some e=>e.nm | none=>⟨#[]⟩
theorem qy {l:List En} {ino:Int} {k:Nat} (hk:k < l.length) (hn:∀ q (hq:q < k),(l[q].ino == ino)=false) (h:(l[k].ino == ino)=true):qx l ino=l[k].nm:=by
 unfold qx;have:l.find? (fun e:En=>e.ino == ino)=some l[k]:=by
  rw [List.find?_eq_some_iff_getElem];exact ⟨h,k,hk,rfl,fun j hj=>by rw [hn j hj];decide⟩
 rw [this]
theorem qz {l:List En} {ino:Int} (hn:∀ q (hq:q < l.length),(l[q].ino == ino)=false):qx l ino=⟨#[]⟩:=by
 unfold qx;have:l.find? (fun e:En=>e.ino == ino)=none:=by
  rw [List.find?_eq_none];intro m hm;obtain ⟨q,hq,rfl⟩:=List.getElem_of_mem hm;rw [hn q hq];decide
 rw [this]
structure NaS (w wr:World) (dev ino:Int) (es:List En) (gp:Nat) (nd:Nd) (Ae:Option Addr) (ce:Nat):Prop where
 low:Below w.heap.size w wr
 U:Blk wr (w.heap.size+1) 44 #[.int .i64 dev, .int .i64 ino]
 D:Blk wr gp 145 (ndC nd (.slice Ae es.length ce))
 E:AtE EEn wr wr.heap.size Ae es
 few:es.length≤1000
theorem KI (dev ino:Int) (ds:List Dm) (A:Option Addr) (n c:Nat) (hn:n=ds.length) (w:World) (h:bR w w.heap.size A ds):
  Calls Tryz.prog 72 #[fsV A n c,flV dev ino] w fun e w' =>e= .returned (.string (fT (ds.map Dm.dv) dev ino))∧Below w.heap.size w w' :=by
 have HN:=Hd hn;have B0:=Hd (dI w #[.slice A n c] #[.int .i64 dev, .int .i64 ino] 28 44);have F0:=Hd (h.below B0.o);have V0:=Hd ((Blk.new w #[.slice A n c] 28).alloc (.cells #[.int .i64 dev, .int .i64 ino] 44));have U0:=Hd (show Blk ((w.alloc (.cells #[.slice A n c] 28)).alloc (.cells #[.int .i64 dev, .int .i64 ino] 44)) (w.heap.size+1) 44 #[.int .i64 dev, .int .i64 ino] by
  have h:=Blk.new (w.alloc (.cells #[.slice A n c] 28)) #[.int .i64 dev, .int .i64 ino] 44;simp only [World.size_alloc] at h;exact h)
 have HND:=Hd (wS (ds.map Dm.dv) dev ino);have Nj:=Hd (show upF (ds.map Dm.dv) dev ino=match aG (ds.map Dm.dv) dev ino with | some n=>n.par | none=>0 from rfl);clear h hn;go_in;go_wp2_with fail;generalize (w.alloc (.cells #[.slice A n c] 28)).alloc (.cells #[.int .i64 dev, .int .i64 ino] 44)=w0 at *;refine (fG dev ino ds A n c HN.o w0 F0.o).mono ?_;intro e w1 hp;cases hq:aG (ds.map Dm.dv) dev ino with
 | none=>
  rw [hq] at hp;obtain ⟨rfl,hb⟩:=hp;have HUP:=Hd (show upF (ds.map Dm.dv) dev ino=0 by rw [Nj.o,hq]);have B3:=Hd ((B0.o.trans (hb.mono B0.o.size)).alloc (B0.o.trans (hb.mono B0.o.size)).size (.cells ndZ 145));have F3:=Hd ((F0.o.below hb).below ((Below.refl w1.heap.size w1).alloc (Nat.le_refl _) (.cells ndZ 145)));have V3:=Hd ((V0.o.below hb).alloc (.cells ndZ 145));have U3:=Hd ((U0.o.below hb).alloc (.cells ndZ 145));have D3:=Hd (Blk.new w1 ndZ 145);clear hb hq Nj;go_upto_region 2 with fail;generalize w1.alloc (.cells ndZ 145)=w3 at *;have v0:=V3.o.cell 0;have u0:=U3.o.cell 0;have d5:=D3.o.cell 5;go_wp2_with fail;clear v0 u0 d5 B0 F0 V0 U0;refine (fG dev 0 ds A n c HN.o w3 F3.o).mono ?_;intro e w4 hp;cases hq2:aG (ds.map Dm.dv) dev 0 with
  | none=>
   rw [hq2] at hp;obtain ⟨rfl,hb⟩:=hp;have HR:=Hd (show fT (ds.map Dm.dv) dev ino=qx [] ino by rw [HND.o,HUP.o,hq2];rfl);have HS:=Hd (show NaS w (w4.alloc (.cells ndZ 145)) dev ino [] w4.heap.size zNd none 0 from ⟨(B3.o.trans (hb.mono B3.o.size)).alloc (B3.o.trans (hb.mono B3.o.size)).size _,(U3.o.below hb).alloc _,Blk.new w4 _ _,AtE.nil,Nat.zero_le _⟩);clear hb hq2;go_upto_region 3 with fail;generalize w4.alloc (.cells ndZ 145)=w5 at *;go_wp2_with fail;go_loopw [9] (fun ix wr=>ix= .int .i64 0∧wr=w5) (fun _ _=>0);case atStart=>exact ⟨rfl,rfl⟩
   case round=>
    obtain ⟨rfl,rfl⟩:=hrel;have d7:=HS.o.D.cell 7;go_wp2_with fail;go_ret;exact ⟨by rw [HR.o];rfl,HS.o.low⟩
  | some p=>
   rw [hq2] at hp;obtain ⟨Ap,cp,rfl,ho,hb,hsz⟩:=hp;have HR:=Hd (show fT (ds.map Dm.dv) dev ino=qx p.es ino by rw [HND.o,HUP.o,hq2];rfl);have HS:=Hd (show NaS w (w4.alloc (.cells (ndC p (.slice Ap p.es.length cp)) 145)) dev ino p.es w4.heap.size p Ap cp from ⟨(B3.o.trans (hb.mono B3.o.size)).alloc (B3.o.trans (hb.mono B3.o.size)).size _,(U3.o.below hb).alloc _,Blk.new w4 _ _,(bB ho).below ((Below.refl w4.heap.size w4).alloc (Nat.le_refl _) _),hsz.1⟩);clear hb hq2 ho hsz;go_upto_region 3 with fail;generalize w4.alloc (.cells (ndC p (.slice Ap p.es.length cp)) 145)=w5 at *;generalize p.es=es at *;go_wp2_with fail;go_loopw [9] (fun ix wr=>∃ k t:Nat,k≤es.length∧ix= .int .i64 k∧wr=w5.drewN t∧Hid (∀ q (hq:q < k) (hql:q < es.length),(es[q].ino == ino)=false)) (fun ix _=>es.length - (intOf ix).toNat);case atStart=>exact ⟨0,0,Nat.zero_le _,rfl,rfl,Hd (fun q hq=>absurd hq (Nat.not_lt_zero q))⟩
   case round=>
    obtain ⟨k,t,hk,rfl,rfl,hno⟩:=hrel;have d7:=HS.o.D.cell 7;have u1:=HS.o.U.cell 1;have lS:=HS.o.few;have WK:=Hd (eB (q:=k) (by omega));by_cases hlt:k < es.length;case neg=>
     have k1:¬ (k:Int) < (es.length:Int):=(by omega);have HR2:=Hd (HR.o.trans (qz (fun q hq=>hno.o q (by omega) hq)));clear hno lS;go_wp2_with fail;go_ret;exact ⟨by rw [HR2.o];rfl,below_drewN HS.o.low _⟩
    case pos=>
     have k1:(k:Int) < (es.length:Int):=(by omega);have k2:(0:Int)≤(k:Int):=(by omega);obtain ⟨ad,rfl,hab,hcx⟩:=HS.o.E k hlt;obtain ⟨e0,e1⟩:=iB (a:=ad.add (k * 2)) hcx;have HX:=Hd (fun h:(es[k].ino == ino)=true=>qy hlt (fun q hq=>hno.o q hq (by omega)) h);have HY:=Hd (fun h:(es[k].ino == ino)=false=>show ∀ q (hq:q < k+1) (hql:q < es.length),(es[q].ino == ino)=false from fun q hq hql=>by
      by_cases he:q=k
      · subst he;exact h
      · exact hno.o q (by omega) hql)
     clear hcx hno lS;generalize es[k]=x at *;cases hb:(x.ino == ino) with
     | true=>
      have HR2:=Hd (HR.o.trans (HX.o hb));clear HX HY;go_upto_region 6 with fail;go_quiet (fail);go_wp2_with fail;go_ret;exact ⟨by rw [HR2.o];rfl,below_drewN HS.o.low _⟩
     | false=>
      have HZ:=Hd (HY.o hb);clear HX HY;go_upto_region 6 with fail;go_quiet (fail);obtain ⟨wk1,wk2⟩:=WK.o;go_wp2_with fail;clear wk1 wk2;go_roundw;case rel=>exact ⟨k+1,t+nq,hlt,rfl,rfl,HZ⟩
      case measure=>exact bq hlt _ rfl
 | some nd=>
  rw [hq] at hp;obtain ⟨A2,c2,rfl,ho,hb,hsz⟩:=hp;have HUP:=Hd (show upF (ds.map Dm.dv) dev ino=nd.par by rw [Nj.o,hq]);have B3:=Hd ((B0.o.trans (hb.mono B0.o.size)).alloc (B0.o.trans (hb.mono B0.o.size)).size (.cells (ndC nd (.slice A2 nd.es.length c2)) 145));have F3:=Hd ((F0.o.below hb).below ((Below.refl w1.heap.size w1).alloc (Nat.le_refl _) (.cells (ndC nd (.slice A2 nd.es.length c2)) 145)));have V3:=Hd ((V0.o.below hb).alloc (.cells (ndC nd (.slice A2 nd.es.length c2)) 145));have U3:=Hd ((U0.o.below hb).alloc (.cells (ndC nd (.slice A2 nd.es.length c2)) 145));have D3:=Hd (Blk.new w1 (ndC nd (.slice A2 nd.es.length c2)) 145);clear hb hq Nj ho hsz;go_upto_region 2 with fail;generalize w1.alloc (.cells (ndC nd (.slice A2 nd.es.length c2)) 145)=w3 at *;have v0:=V3.o.cell 0;have u0:=U3.o.cell 0;have d5:=D3.o.cell 5;go_wp2_with fail;clear v0 u0 d5 B0 F0 V0 U0;refine (fG dev nd.par ds A n c HN.o w3 F3.o).mono ?_;intro e w4 hp;cases hq2:aG (ds.map Dm.dv) dev nd.par with
  | none=>
   rw [hq2] at hp;obtain ⟨rfl,hb⟩:=hp;have HR:=Hd (show fT (ds.map Dm.dv) dev ino=qx [] ino by rw [HND.o,HUP.o,hq2];rfl);have HS:=Hd (show NaS w (w4.alloc (.cells ndZ 145)) dev ino [] w4.heap.size zNd none 0 from ⟨(B3.o.trans (hb.mono B3.o.size)).alloc (B3.o.trans (hb.mono B3.o.size)).size _,(U3.o.below hb).alloc _,Blk.new w4 _ _,AtE.nil,Nat.zero_le _⟩);clear hb hq2;go_upto_region 3 with fail;generalize w4.alloc (.cells ndZ 145)=w5 at *;go_wp2_with fail;go_loopw [9] (fun ix wr=>ix= .int .i64 0∧wr=w5) (fun _ _=>0);case atStart=>exact ⟨rfl,rfl⟩
   case round=>
    obtain ⟨rfl,rfl⟩:=hrel;have d7:=HS.o.D.cell 7;go_wp2_with fail;go_ret;exact ⟨by rw [HR.o];rfl,HS.o.low⟩
  | some p=>
   rw [hq2] at hp;obtain ⟨Ap,cp,rfl,ho,hb,hsz⟩:=hp;have HR:=Hd (show fT (ds.map Dm.dv) dev ino=qx p.es ino by rw [HND.o,HUP.o,hq2];rfl);have HS:=Hd (show NaS w (w4.alloc (.cells (ndC p (.slice Ap p.es.length cp)) 145)) dev ino p.es w4.heap.size p Ap cp from ⟨(B3.o.trans (hb.mono B3.o.size)).alloc (B3.o.trans (hb.mono B3.o.size)).size _,(U3.o.below hb).alloc _,Blk.new w4 _ _,(bB ho).below ((Below.refl w4.heap.size w4).alloc (Nat.le_refl _) _),hsz.1⟩);clear hb hq2 ho hsz;go_upto_region 3 with fail;generalize w4.alloc (.cells (ndC p (.slice Ap p.es.length cp)) 145)=w5 at *;generalize p.es=es at *;go_wp2_with fail;go_loopw [9] (fun ix wr=>∃ k t:Nat,k≤es.length∧ix= .int .i64 k∧wr=w5.drewN t∧Hid (∀ q (hq:q < k) (hql:q < es.length),(es[q].ino == ino)=false)) (fun ix _=>es.length - (intOf ix).toNat);case atStart=>exact ⟨0,0,Nat.zero_le _,rfl,rfl,Hd (fun q hq=>absurd hq (Nat.not_lt_zero q))⟩
   case round=>
    obtain ⟨k,t,hk,rfl,rfl,hno⟩:=hrel;have d7:=HS.o.D.cell 7;have u1:=HS.o.U.cell 1;have lS:=HS.o.few;have WK:=Hd (eB (q:=k) (by omega));by_cases hlt:k < es.length;case neg=>
     have k1:¬ (k:Int) < (es.length:Int):=(by omega);have HR2:=Hd (HR.o.trans (qz (fun q hq=>hno.o q (by omega) hq)));clear hno lS;go_wp2_with fail;go_ret;exact ⟨by rw [HR2.o];rfl,below_drewN HS.o.low _⟩
    case pos=>
     have k1:(k:Int) < (es.length:Int):=(by omega);have k2:(0:Int)≤(k:Int):=(by omega);obtain ⟨ad,rfl,hab,hcx⟩:=HS.o.E k hlt;obtain ⟨e0,e1⟩:=iB (a:=ad.add (k * 2)) hcx;have HX:=Hd (fun h:(es[k].ino == ino)=true=>qy hlt (fun q hq=>hno.o q hq (by omega)) h);have HY:=Hd (fun h:(es[k].ino == ino)=false=>show ∀ q (hq:q < k+1) (hql:q < es.length),(es[q].ino == ino)=false from fun q hq hql=>by
      by_cases he:q=k
      · subst he;exact h
      · exact hno.o q (by omega) hql)
     clear hcx hno lS;generalize es[k]=x at *;cases hb:(x.ino == ino) with
     | true=>
      have HR2:=Hd (HR.o.trans (HX.o hb));clear HX HY;go_upto_region 6 with fail;go_quiet (fail);go_wp2_with fail;go_ret;exact ⟨by rw [HR2.o];rfl,below_drewN HS.o.low _⟩
     | false=>
      have HZ:=Hd (HY.o hb);clear HX HY;go_upto_region 6 with fail;go_quiet (fail);obtain ⟨wk1,wk2⟩:=WK.o;go_wp2_with fail;clear wk1 wk2;go_roundw;case rel=>exact ⟨k+1,t+nq,hlt,rfl,rfl,HZ⟩
      case measure=>exact bq hlt _ rfl
attribute [-go_sem] loadVar
attribute [local go_sem] EA EB Iu Iw Iy
attribute [local irreducible] aV fI
theorem Bq {t:Int} (h:DI t=true):t=1005∨t=1300∨t=1306∨t=1307∨t=1302∨t=1309:=by
 unfold DI at h;simp only [Bool.or_eq_true,beq_iff_eq] at h;omega
theorem FW {t:Int} (h:DI t=false):(t == 1005)=false∧(t == 1300)=false∧(t == 1306)=false∧(t == 1307)=false∧(t == 1302)=false∧(t == 1309)=false:=by
 unfold DI at h;simp only [Bool.or_eq_false_iff] at h;obtain ⟨⟨⟨⟨⟨h1,h2⟩,h3⟩,h4⟩,h5⟩,h6⟩:=h;exact ⟨h1,h2,h3,h4,h5,h6⟩
theorem Lr (xs:List Ru) (A:Option Addr) (n c:Nat) (hn:n=xs.length) (v2:Value) (cx:Ctx) (cr:aN) (Ai:Option Addr) (ni ci:Nat) (L:List (Itm×aD)) (hni:ni=L.length) (hlen:ni≤1000000) (t:Int) (w:World) (hR:jr w w.heap.size A xs) (hI:aU w w.heap.size Ai L):
  Calls Tryz.prog 25 #[.agg #[.slice A n c,v2],rq cx cr (.slice Ai ni ci), .int .i64 t] w (Lj (kg (xs.map (·.r)) cx cr.n (L.map (·.1)) t) w):=by
 have HN:=Hd hn;have HNI:=Hd hni;have HLN:=Hd hlen;have B0:=Hd (show Below w.heap.size w ((w.alloc (.cells #[.slice A n c,v2] 41)).alloc (.cells (aV cx cr (.slice Ai ni ci)) 54)) from ((Below.refl w.heap.size w).alloc (Nat.le_refl _) _).alloc (by simp) _);have V0:=Hd ((Blk.new w #[.slice A n c,v2] 41).alloc (.cells (aV cx cr (.slice Ai ni ci)) 54));have C0:=Hd (show aR ((w.alloc (.cells #[.slice A n c,v2] 41)).alloc (.cells (aV cx cr (.slice Ai ni ci)) 54)) (w.heap.size+1) cx cr (.slice Ai ni ci) by
  have h:=Blk.new (w.alloc (.cells #[.slice A n c,v2] 41)) (aV cx cr (.slice Ai ni ci)) 54;simpa using h)
 have R0:=Hd (hR.keep B0.o (Nat.le_refl _));have I0:=Hd (hI.keep B0.o (Nat.le_refl _));clear hR hI hn hni hlen;cases ht:DI t with
 | false=>
  have HE:=Hd (show kg (xs.map (·.r)) cx cr.n (L.map (·.1)) t=false by unfold kg;rw [ht];rfl);obtain ⟨n1,n2,n3,n4,n5,n6⟩:=FW ht;clear ht;go_in;go_wp2_with fail;go_ret;exact ⟨by rw [HE.o];rfl,B0.o⟩
 | true=>
  have HTY:=Hd ht;go_in;go_upto_region 1 with fail;generalize (w.alloc (.cells #[.slice A n c,v2] 41)).alloc (.cells (aV cx cr (.slice Ai ni ci)) 54)=W at *
  skip
  have h6:=Bq ht;clear ht;have c24:=C0.o.ty;have f24:=C0.o.free 24;have C1:=Hd (show aR (W.setCell ⟨w.heap.size+1,24,none⟩ (.int .i64 t)) (w.heap.size+1) { cx with ty:=t } cr (.slice Ai ni ci) by have h:=C0.o.put 24 (.int .i64 t);rw [xx] at h;exact h);have V1:=Hd (V0.o.af (.int .i64 t) (show w.heap.size≠(⟨w.heap.size+1,24,none⟩:Addr).block by simp));have B1:=Hd (B0.o.setCell (p:=⟨w.heap.size+1,24,none⟩) (by simp) (.int .i64 t));have K1:=Hd ((Below.refl w.heap.size W).setCell (p:=⟨w.heap.size+1,24,none⟩) (by simp) (.int .i64 t));have R1:=Hd (R0.o.keep K1.o (Nat.le_refl _));have I1:=Hd (I0.o.keep K1.o (Nat.le_refl _));have hl:=gH C1.o;have v0:=V1.o.cell 0;have vv0:=V0.o.cell 0;obtain ⟨o,ho⟩:∃ o,o=fI (xs.map (·.r)) 5 { cx with ty:=t } cr.n (L.map (·.1)):=⟨_,rfl⟩;have HEN:=Hd (fun h:o=none=>sU HTY.o (ho.symm.trans h));have HKX:=Hd (fun k (h:o=some k)=>show k < xs.length by simpa using wJ (ho.symm.trans h));have HES:=Hd (fun k (h:o=some k) (hkx:k < xs.length)=>show kg (xs.map (·.r)) cx cr.n (L.map (·.1)) t=(xs[k].r.ac == 1) by rw [sV HTY.o (ho.symm.trans h)];simp [hkx]);have HOO:=Hd ho;clear ho;rcases h6 with rfl | rfl | rfl | rfl | rfl | rfl;all_goals
   go_wp2_with fail;clear hl v0 vv0 c24 f24;refine (Lp xs A n c HN.o 5 _ cr Ai ni ci L HNI.o HLN.o _ (R1.o.more B1.o.size) (I1.o.more B1.o.size)).mono ?_;rintro e W2 ⟨rfl,hb⟩;have V2:=Hd (V1.o.below hb);have B2:=Hd (aa B1.o hb);have R2:=Hd ((R1.o.more B1.o.size).below hb);clear hb;have v0:=V2.o.cell 0;rw [← HOO.o];cases hf:o with
   | none=>
    have HE:=Hd (HEN.o hf);have hi:CG none=(-1:Int):=rfl;rw [hi];clear hf;go_wp2_with fail;go_ret;exact ⟨by rw [HE.o];rfl,B2.o⟩
   | some k=>
    have hkx:=HKX.o k hf;have HE:=Hd (HES.o k hf hkx);have hi:CG (some k)=(k:Int):=rfl;rw [hi];obtain ⟨ad,rfl,xJ,hcx⟩:=R2.o.at_ k hkx;obtain ⟨s0,s1,s2,s3,s4,s5,s6,s7⟩:=ma (a:=ad.add (k * 8)) hcx;clear hcx hf hi s0 s2 s3 s4 s5 s6 s7;have k1:(k:Int) < (n:Int):=(by have:=HN.o;omega);have k0:(0:Int)≤(k:Int):=(by omega);have kz:¬ (k:Int) < 0:=(by omega);generalize xs[k]=x at *;go_wp2_with fail;go_ret;exact ⟨by rw [HE.o];rfl,B2.o⟩
end Go.Proofs.YtollifnnpihfdaaGreatDoor
namespace Go.Proofs.YtollifnnpihfdaaGreatDoor
open Go.RowKit
theorem Pv (m:Nat) (n:Int) (w:World) (hm:m < 18446744073709551616):
   Calls Tryz.prog 257 #[.int .u64 (m:Int), .int .i64 n] w fun e w' =>e= .returned (.bool (hasB m n))∧w=w' :=by
 have HB:=Hd (uS m n.toNat hm);clear hm;by_cases h0:0≤n
 · by_cases h1:n < 32
   · have HH:=Hd (show hasB m n=m.testBit n.toNat by unfold hasB;simp [h0,h1]);go_in
     go_wp2
     go_ret;refine ⟨CE ?_,rfl⟩;rw [HH.o,HB.o];cases m.testBit n.toNat <;> rfl
   · have H:=Hd (show hasB m n=false by unfold hasB;simp;omega);go_in
     go_wp2
     go_ret;exact ⟨CE H.o.symm,rfl⟩
 · have H:=Hd (show hasB m n=false by unfold hasB;simp;omega);go_in
   go_wp2
   go_ret;exact ⟨CE H.o.symm,rfl⟩
theorem EC {c:Ctx} {n:Int} {is:List Itm} {hit:Bool} {r:Rul} (h:(r.ca == 0 || hasB r.ca n)=false):bQ c n is hit r=false:=by
 unfold bQ;rw [h];rfl
theorem ED {c:Ctx} {n:Int} {is:List Itm} {hit:Bool} {r:Rul} (h:r.ts.all (Tst.ev c is)=false):bQ c n is hit r=false:=by
 unfold bQ;rw [h];simp
theorem EE {c:Ctx} {n:Int} {is:List Itm} {hit:Bool} {r:Rul} (h:(r.ca == 0 || hasB r.ca n)=true) (k:r.ts.all (Tst.ev c is)=true):bQ c n is hit r=(r.wa == 0 || hit):=by
 unfold bQ;rw [h,k];simp
attribute [-go_sem] loadVar
attribute [local go_sem] EA EB Iu Iw Iy
attribute [local irreducible] aV hasB ai iC bQ
theorem Ls (r:Rul) (T:Option Addr) (tn tc:Nat) (htn:tn=r.ts.length) (hit:Bool) (cx:Ctx) (cr:aN) (Ai:Option Addr) (ni ci:Nat) (L:List (Itm×aD)) (hni:ni=L.length) (hlen:ni≤1000000) (hz:Jp r) (w:World) (hT:aY w w.heap.size T r.ts) (hI:aU w w.heap.size Ai L):
  Calls Tryz.prog 222 #[oF r (.slice T tn tc), .bool hit,rq cx cr (.slice Ai ni ci)] w (Lj (bQ cx cr.n (L.map (·.1)) hit r) w):=by
 have S0:=Hd (MtB.start w r (.slice T tn tc) cx cr (.slice Ai ni ci));have HT:=Hd (hT.keep S0.o.low (Nat.le_refl _));have HI:=Hd (hI.keep S0.o.low (Nat.le_refl _));have HN:=Hd htn;have HNI:=Hd hni;have HLN:=Hd hlen;have HZ:=Hd hz;clear hT hI htn hni hlen hz;go_in;go_upto_region 1 with fail;generalize (w.alloc (.cells (bK r (.slice T tn tc)) 90)).alloc (.cells (aV cx cr (.slice Ai ni ci)) 54)=W at *;have c2:=S0.o.R.c2;have c15:=S0.o.C.num;go_cut [20] (fun v wx=>v= .bool (!(r.ca == 0 || hasB r.ca cr.n))∧W=wx);case first=>
  cases hca:((r.ca:Int) != 0) with
  | false=>
   have hq:=Bj hca;go_wp2_with fail;go_meet;exact ⟨by rw [hq];rfl,rfl⟩
  | true=>
   have hq:=Bl hca;go_wp2_with fail;refine (Pv r.ca cr.n W HZ.o.ca).mono ?_;rintro e w1 ⟨rfl,rfl⟩;go_wp2_with fail;go_meet;exact ⟨by rw [hq];rfl,rfl⟩
 case rest=>
 obtain ⟨rfl,rfl⟩:=hcut;clear c2 c15;cases hbad:(r.ca == 0 || hasB r.ca cr.n) with
 | false=>
  have HR:=Hd (EC (c:=cx) (is:=L.map (·.1)) (hit:=hit) hbad);simp only [Bool.not_false];go_wp2_with fail;go_ret;exact ⟨aX HR.o.symm,S0.o.low⟩
 | true=>
  simp only [Bool.not_true];have HGD:=Hd hbad;clear hbad;have q3:=S0.o.R.c3;go_wp2_with fail;clear q3;go_loopw [24] (fun i wr=>∃ k:Nat,k≤r.ts.length∧i= .int .i64 (k:Int)∧Hid (∀ j (hj:j < r.ts.length),j < k→Tst.ev cx (L.map (·.1)) (r.ts[j]'hj)=true)∧Below W.heap.size W wr) (fun i _=>r.ts.length - (intOf i).toNat);case atStart=>exact ⟨0,Nat.zero_le _,rfl,Hd (fun j _ hj=>by omega),Below.refl _ _⟩
  case round=>
   obtain ⟨k,hk,rfl,hno,hb⟩:=hrel;have S1:=Hd (S0.o.below hb);have HT1:=Hd (HT.o.keep hb (by have:=S0.o.low.size;omega));have HI1:=Hd (HI.o.keep hb (by have:=S0.o.low.size;omega));have HB:=Hd hb;clear hb;by_cases hlt:k < r.ts.length;case pos=>
    obtain ⟨ad,rfl,xJ,hcx⟩:=HT1.o k hlt;have HCX:=Hd hcx;clear hcx;have HEV:=Hd (fun W' (h:aU W' W'.heap.size Ai L)=>JH cx cr Ai ni ci L HNI.o HLN.o (r.ts[k]'hlt).fd (r.ts[k]'hlt).op (r.ts[k]'hlt).nu (r.ts[k]'hlt).tx (r.ts[k]'hlt).ot (HZ.o.tx _ (List.getElem_mem hlt)) W' h);have HY:=Hd (show jZ cx (L.map (·.1)) (r.ts[k]'hlt).fd (r.ts[k]'hlt).op (r.ts[k]'hlt).nu (r.ts[k]'hlt).tx (r.ts[k]'hlt).ot=Tst.ev cx (L.map (·.1)) (r.ts[k]'hlt) from za _ _ _ _ _ _ _);have HST:=Hd (fun h=>tZ (p:=Tst.ev cx (L.map (·.1))) hlt h);have HNX:=Hd (show Tst.ev cx (L.map (·.1)) (r.ts[k]'hlt)=true→∀ j (hj:j < r.ts.length),j < k+1→Tst.ev cx (L.map (·.1)) (r.ts[j]'hj)=true from fun h j hj hjk=>by
     by_cases e:j=k
     · subst e;exact h
     · exact hno.o j hj (by omega))
    have k0:(0:Int)≤(k:Int):=(by omega);have kn:(k:Int) < (tn:Int):=(by have:=HN.o;omega);have kt:(k:Int) < (r.ts.length:Int):=(by omega);have hk9:k≤1000000:=by have:=HZ.o.ln;omega
    skip
    generalize r.ts[k]=t at *;clear hno;obtain ⟨fd,op,nu,tx,ot⟩:=t;simp only at HEV HY;have hl:=Bp (a:=ad.add (k * 5)) HCX.o;have T2:=Hd (Blk.new wr (bP fd op nu tx ot) 85);have S2:=Hd (S1.o.below ((Below.refl wr.heap.size wr).alloc (Nat.le_refl _) (.cells (bP fd op nu tx ot) 85)));have HB2:=Hd (HB.o.alloc HB.o.size (.cells (bP fd op nu tx ot) 85));have HI2:=Hd (HI1.o.keep ((Below.refl wr.heap.size wr).alloc (Nat.le_refl _) (.cells (bP fd op nu tx ot) 85)) (by have:=HB.o.size;have:=S0.o.low.size;omega));go_upto_region 6 with fail;clear hl;generalize wr.alloc (.cells (bP fd op nu tx ot) 85)=w2 at *;have hl1:=qN T2.o;have hl2:=gH S2.o.C;go_wp2_with fail;clear hl1 hl2;refine (HEV.o _ (HI2.o.more (by have:=HB2.o.size;have:=S0.o.low.size;omega))).mono ?_;rintro e w3 ⟨rfl,hb3⟩;rw [HY.o];have HB3:=Hd (aa HB2.o hb3);clear hb3;cases hev:Tst.ev cx (L.map (·.1)) ⟨fd,op,nu,tx,ot⟩ with
    | true=>
     have HF:=Hd (HNX.o hev);obtain ⟨q7,q8⟩:=bW hk9 (Nat.le_refl _);go_wp2_with fail;clear q7 q8;go_roundw;case rel=>exact ⟨k+1,by omega,by go_num,HF,HB3.o⟩
     case measure=>exact bq hlt _ rfl
    | false=>
     have HR:=Hd (ED (c:=cx) (n:=cr.n) (is:=L.map (·.1)) (hit:=hit) (HST.o hev));go_wp2_with fail;go_ret;exact ⟨aX HR.o.symm,S0.o.low.trans (HB3.o.mono S0.o.low.size)⟩
   case neg=>
    have hkn:k=r.ts.length:=(by omega);have q9:¬ (k:Int) < (tn:Int):=(by have:=HN.o;omega);have HR:=Hd (EE (hit:=hit) HGD.o (Bi (p:=Tst.ev cx (L.map (·.1))) fun j hj=>hno.o j hj (by omega)));have c4:=S1.o.R.c4;cases hwa:(r.wa == 0) with
    | true=>
     rw [hwa] at HR;go_wp2_with fail;go_ret;exact ⟨aX HR.o.symm,S0.o.low.trans (HB.o.mono S0.o.low.size)⟩
    | false=>
     rw [hwa] at HR;go_wp2_with fail;go_ret;exact ⟨aX HR.o.symm,S0.o.low.trans (HB.o.mono S0.o.low.size)⟩
end Go.Proofs.YtollifnnpihfdaaGreatDoor
