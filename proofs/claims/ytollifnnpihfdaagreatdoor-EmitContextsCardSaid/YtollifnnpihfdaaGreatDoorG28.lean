import Derived.Test.YtollifnnpihfdaaGreatDoorG27
import Derived.Test.YtollifnnpihfdaaGreatDoorG25
set_option maxRecDepth 100000
set_option maxHeartbeats 64000000
set_option linter.all false
namespace Go.Proofs.YtollifnnpihfdaaGreatDoor
open Go.RowKit
theorem Tryz.KG:(Tryz.prog.info? 199).map (fun i=>(i.zero,i.size,i.bytes))=some (some (.agg #[.int .i64 0, .int .i64 0, .int .i64 0]),3,24):=by kernel_rfl
abbrev mtC (m:Mt):Array Value:=#[.int .i64 m.dev, .int .i64 m.od, .int .i64 m.oi]
def EMt:El Mt where
 C m:= [.int .i64 m.dev, .int .i64 m.od, .int .i64 m.oi]
 e:=199
 sl:=29
 sz:=3
 bs:=24
 len _:=rfl
 one x u hu:=by simp at hu;rcases hu with rfl | rfl | rfl <;> rfl
 pos:=by omega
 small:=by omega
 hu:=Tryz.underlying29
 info:=by
  obtain ⟨i0,h1,h2,h3,h4⟩:=info_parts Tryz.KG;exact ⟨i0,_,h1,h2,h3,h4,rfl⟩
theorem qw {w:World} {a:Addr} {m:Mt} (h:∀ j,j < 3→w.cell? (a.add j)=(EMt.C m)[j]?):w.cell? a=some (.int .i64 m.dev)∧w.cell? ⟨a.block,a.off+1,none⟩=some (.int .i64 m.od)∧w.cell? ⟨a.block,a.off+2,none⟩=some (.int .i64 m.oi):=⟨h 0 (by omega),h 1 (by omega),h 2 (by omega)⟩
theorem dh {fn:Func} {i j:Nat} (h:fn.results=#[.tmp i, .tmp j]) (tmps:Array Value) (w:World):(results fn tmps).run Tryz.prog w= .ok (.tuple #[tmps.getD i undef,tmps.getD j undef]) w:=by
 simp [results,h]
abbrev slV (A:Option Addr) (n c:Nat):Value:= .slice A n c
abbrev spC (u m:Value):Array Value:=#[u,m]
def onR (ms:List Mt) (dev:Int):Int×Int×Bool:=match onF ms dev with | some (a,b)=>(a,b,true) | none=>(0,0,false)
theorem FK {ms:List Mt} {dev:Int} {k:Nat} (hk:k < ms.length) (hn:∀ q (hq:q < k),(ms[q].dev == dev)=false) (h:(ms[k].dev == dev)=true):onF ms dev=some (ms[k].od,ms[k].oi):=by
 unfold onF;have:ms.find? (fun m=>m.dev == dev)=some ms[k]:=by
  rw [List.find?_eq_some_iff_getElem];exact ⟨h,k,hk,rfl,fun j hj=>by rw [hn j hj];decide⟩
 rw [this];rfl
theorem FL {ms:List Mt} {dev:Int} (hn:∀ q (hq:q < ms.length),(ms[q].dev == dev)=false):onF ms dev=none:=by
 unfold onF;have:ms.find? (fun m=>m.dev == dev)=none:=by
  rw [List.find?_eq_none];intro m hm;obtain ⟨q,hq,rfl⟩:=List.getElem_of_mem hm;rw [hn q hq];decide
 rw [this];rfl
theorem ron (dev:Int) (A:Option Addr) (n c:Nat) (ms:List Mt) (Am:Option Addr) (nm cm:Nat) (hn:nm=ms.length) (hl:nm≤1000) (w:World) (h:AtE EMt w w.heap.size Am ms):
  Calls Tryz.prog 69 #[.agg #[slV A n c,slV Am nm cm], .int .i64 dev] w fun e w' =>e= .returned (.tuple #[flV (onR ms dev).1 (onR ms dev).2.1, .bool (onR ms dev).2.2])∧Below w.heap.size w w' :=by
 have HN:=Hd hn;have B0:=Hd (dI w #[slV A n c,slV Am nm cm] #[.int .i64 0, .int .i64 0] 31 44);have M0:=Hd (h.below B0.o);have V0:=Hd ((Blk.new w #[slV A n c,slV Am nm cm] 31).alloc (.cells #[.int .i64 0, .int .i64 0] 44));have R0:=Hd (show Blk ((w.alloc (.cells #[slV A n c,slV Am nm cm] 31)).alloc (.cells #[.int .i64 0, .int .i64 0] 44)) (w.heap.size+1) 44 #[.int .i64 0, .int .i64 0] by
  have h:=Blk.new (w.alloc (.cells #[slV A n c,slV Am nm cm] 31)) #[.int .i64 0, .int .i64 0] 44;simp only [World.size_alloc] at h;exact h)
 have HR:=Hd (show onR ms dev=match onF ms dev with | some (a,b)=>(a,b,true) | none=>(0,0,false) from rfl);clear h hn;go_in;go_wp2_with fail;generalize (w.alloc (.cells #[slV A n c,slV Am nm cm] 31)).alloc (.cells #[.int .i64 0, .int .i64 0] 44)=w0 at *;go_loopw [6] (fun i wr=>∃ k:Nat,k≤ms.length∧i= .int .i64 k∧wr=w0∧Hid (∀ q (hq:q < k) (hql:q < ms.length),(ms[q].dev == dev)=false)) (fun i _=>ms.length - (intOf i).toNat);case atStart=>exact ⟨0,Nat.zero_le _,rfl,rfl,Hd (fun q hq=>absurd hq (Nat.not_lt_zero q))⟩
 case round=>
  obtain ⟨k,hk,rfl,rfl,hno⟩:=hrel;have v1:=V0.o.cell 1;have hn:=HN.o;have WK:=Hd (eB (q:=k) (by omega));by_cases hlt:k < ms.length;case neg=>
   have k1:¬ (k:Int) < (nm:Int):=(by omega);have HR2:=Hd (HR.o.trans (by rw [FL (fun q hq=>hno.o q (by omega) hq)]));clear hno hn;go_wp2_with ((with_reducible refine ae ?_ 44 (.tmp 4) (.tmp 28) ?_ R0.o #[.int .i64 0, .int .i64 0] ?_ ?_ ?_ ?_ ?_ ?_);(iterate 4 rfl);(exact gK _ _);rfl;(exact dM _ _));refine bodyPost_ret (jd (fn:=Tryz.f69) rfl _ _ (w.heap.size+1) 0 0 rfl (Blk.row R0.o _)) rfl ?_;rw [HR2.o];exact ⟨rfl,ak B0.o (by omega) _⟩
  case pos=>
   have k1:(k:Int) < (nm:Int):=(by omega);have k2:(0:Int)≤(k:Int):=(by omega);obtain ⟨am,rfl,hab,hcx⟩:=M0.o k hlt;obtain ⟨m0,m1,m2⟩:=qw (a:=am.add (k * 3)) hcx;have HX:=Hd (fun h:(ms[k].dev == dev)=true=>FK hlt (fun q hq=>hno.o q hq (by omega)) h);have HY:=Hd (fun h:(ms[k].dev == dev)=false=>show ∀ q (hq:q < k+1) (hql:q < ms.length),(ms[q].dev == dev)=false from fun q hq hql=>by
    by_cases he:q=k
    · subst he;exact h
    · exact hno.o q (by omega) hql)
   clear hcx hno hn;generalize ms[k]=m at *;cases hb:(m.dev == dev) with
   | true=>
    have HR2:=Hd (HR.o.trans (by rw [HX.o hb]));clear HX HY;go_wp2_with ((with_reducible refine ae ?_ 44 (.tmp 4) (.tmp 27) ?_ R0.o #[.int .i64 m.od, .int .i64 m.oi] ?_ ?_ ?_ ?_ ?_ ?_);(iterate 4 rfl);(exact gK _ _);rfl;(exact dM _ _));refine bodyPost_ret (jd (fn:=Tryz.f69) rfl _ _ (w.heap.size+1) m.od m.oi rfl (Blk.row R0.o _)) rfl ?_;rw [HR2.o];exact ⟨rfl,ak B0.o (by omega) _⟩
   | false=>
    have HZ:=Hd (HY.o hb);clear HX HY;obtain ⟨wk1,wk2⟩:=WK.o;go_wp2_with fail;clear wk1 wk2;go_roundw;case rel=>exact ⟨k+1,hlt,rfl,by first | rfl | trivial,HZ⟩
    case measure=>exact bq hlt _ rfl
theorem AB (ms:List Mt) (dev:Int):iH ms dev=((onR ms dev).2.2 || dev == 0):=by
 unfold iH onR;cases onF ms dev <;> rfl
theorem yc (dev:Int) (A:Option Addr) (n c:Nat) (ms:List Mt) (Am:Option Addr) (nm cm:Nat) (hn:nm=ms.length) (hl:nm≤1000) (w:World) (h:AtE EMt w w.heap.size Am ms):
  Calls Tryz.prog 68 #[.agg #[slV A n c,slV Am nm cm], .int .i64 dev] w fun e w' =>e= .returned (.bool (iH ms dev))∧Below w.heap.size w w' :=by
 have B0:=Hd ((Below.refl w.heap.size w).alloc (Nat.le_refl _) (.cells #[slV A n c,slV Am nm cm] 31));have HO:=Hd (ron dev A n c ms Am nm cm hn hl _ (h.below B0.o));have HM:=Hd (AB ms dev);clear h hn;go_in;go_wp2_with fail;refine HO.o.mono ?_;rintro e w1 ⟨rfl,hb⟩;have B1:=Hd (B0.o.trans (hb.mono B0.o.size));clear hb HO;generalize onR ms dev=o at *;obtain ⟨a,b,o⟩:=o;have HB2:=Hd (B1.o.alloc B1.o.size (.cells #[.int .i64 a, .int .i64 b] 44));cases o with
 | true=>
  go_wp2_with fail;go_ret;exact ⟨by rw [HM.o];rfl,HB2.o⟩
 | false=>
  cases h0:dev == 0 with
  | true=>
   go_wp2_with fail;go_ret;exact ⟨by rw [HM.o,h0];rfl,HB2.o⟩
  | false=>
   go_wp2_with fail;go_ret;exact ⟨by rw [HM.o,h0];rfl,HB2.o⟩
def Jq (ms:List Mt) (d i:Int):Int×Bool:=match FJ ms d i with | some x=>(x,true) | none=>(0,false)
theorem Hw {ms:List Mt} {d i:Int} {k:Nat} (hk:k < ms.length) (hn:∀ q (hq:q < k),flB ms[q].od ms[q].oi d i=false) (h:flB ms[k].od ms[k].oi d i=true):FJ ms d i=some ms[k].dev:=by
 unfold FJ;have:ms.find? (fun m=>m.od == d && m.oi == i)=some ms[k]:=by
  rw [List.find?_eq_some_iff_getElem];exact ⟨h,k,hk,rfl,fun j hj=>by have:=hn j hj;unfold flB at this;rw [this];decide⟩
 rw [this];rfl
theorem Hy {ms:List Mt} {d i:Int} (hn:∀ q (hq:q < ms.length),flB ms[q].od ms[q].oi d i=false):FJ ms d i=none:=by
 unfold FJ;have:ms.find? (fun m=>m.od == d && m.oi == i)=none:=by
  rw [List.find?_eq_none];intro m hm;obtain ⟨q,hq,rfl⟩:=List.getElem_of_mem hm;have:=hn q hq;unfold flB at this;rw [this];decide
 rw [this];rfl
theorem KH (d i:Int) (A:Option Addr) (n c:Nat) (ms:List Mt) (Am:Option Addr) (nm cm:Nat) (hn:nm=ms.length) (hl:nm≤1000) (w:World) (h:AtE EMt w w.heap.size Am ms):
  Calls Tryz.prog 170 #[.agg #[slV A n c,slV Am nm cm],flV d i] w fun e w' =>e= .returned (.tuple #[.int .i64 (Jq ms d i).1, .bool (Jq ms d i).2])∧Below w.heap.size w w' :=by
 have HN:=Hd hn;have B0:=Hd (dI w #[slV A n c,slV Am nm cm] #[.int .i64 d, .int .i64 i] 31 44);have M0:=Hd (h.below B0.o);have V0:=Hd ((Blk.new w #[slV A n c,slV Am nm cm] 31).alloc (.cells #[.int .i64 d, .int .i64 i] 44));have R0:=Hd (show Blk ((w.alloc (.cells #[slV A n c,slV Am nm cm] 31)).alloc (.cells #[.int .i64 d, .int .i64 i] 44)) (w.heap.size+1) 44 #[.int .i64 d, .int .i64 i] by
  have h:=Blk.new (w.alloc (.cells #[slV A n c,slV Am nm cm] 31)) #[.int .i64 d, .int .i64 i] 44;simp only [World.size_alloc] at h;exact h)
 have HR:=Hd (show Jq ms d i=match FJ ms d i with | some x=>(x,true) | none=>(0,false) from rfl);have HFL:=fun a b c d (W:World)=>Ht a b c d W;clear h hn;go_in;go_wp2_with fail;generalize (w.alloc (.cells #[slV A n c,slV Am nm cm] 31)).alloc (.cells #[.int .i64 d, .int .i64 i] 44)=w0 at *;go_loopw [6] (fun ix wr=>∃ k t:Nat,k≤ms.length∧ix= .int .i64 k∧wr=w0.drewN t∧Hid (∀ q (hq:q < k) (hql:q < ms.length),flB ms[q].od ms[q].oi d i=false)) (fun ix _=>ms.length - (intOf ix).toNat);case atStart=>exact ⟨0,0,Nat.zero_le _,rfl,rfl,Hd (fun q hq=>absurd hq (Nat.not_lt_zero q))⟩
 case round=>
  obtain ⟨k,t,hk,rfl,rfl,hno⟩:=hrel;have v1:=V0.o.cell 1;have u0:=R0.o.cell 0;have u1:=R0.o.cell 1;have hn:=HN.o;have WK:=Hd (eB (q:=k) (by omega));by_cases hlt:k < ms.length;case neg=>
   have k1:¬ (k:Int) < (nm:Int):=(by omega);have HR2:=Hd (HR.o.trans (by rw [Hy (fun q hq=>hno.o q (by omega) hq)]));clear hno hn;go_wp2_with fail;refine bodyPost_ret (dh (fn:=Tryz.f170) rfl _ _) rfl ?_;exact ⟨by rw [HR2.o];rfl,below_drewN B0.o _⟩
  case pos=>
   have k1:(k:Int) < (nm:Int):=(by omega);have k2:(0:Int)≤(k:Int):=(by omega);obtain ⟨am,rfl,hab,hcx⟩:=M0.o k hlt;obtain ⟨m0,m1,m2⟩:=qw (a:=am.add (k * 3)) hcx;have HX:=Hd (fun h:flB ms[k].od ms[k].oi d i=true=>Hw hlt (fun q hq=>hno.o q hq (by omega)) h);have HY:=Hd (fun h:flB ms[k].od ms[k].oi d i=false=>show ∀ q (hq:q < k+1) (hql:q < ms.length),flB ms[q].od ms[q].oi d i=false from fun q hq hql=>by
    by_cases he:q=k
    · subst he;exact h
    · exact hno.o q (by omega) hql)
   clear hcx hno hn;generalize ms[k]=m at *;cases hb:flB m.od m.oi d i with
   | true=>
    have HR2:=Hd (HR.o.trans (by rw [HX.o hb]));clear HX HY;go_upto_region 4 with fail;go_quiet (fail);go_wp2_with fail;refine bodyPost_ret (dh (fn:=Tryz.f170) rfl _ _) rfl ?_;exact ⟨by rw [HR2.o];rfl,below_drewN B0.o _⟩
   | false=>
    have HZ:=Hd (HY.o hb);clear HX HY;go_upto_region 4 with fail;go_quiet (fail);obtain ⟨wk1,wk2⟩:=WK.o;go_wp2_with fail;clear wk1 wk2;go_roundw;case rel=>exact ⟨k+1,t+nq,hlt,rfl,rfl,HZ⟩
    case measure=>exact bq hlt _ rfl
def Ni (ms:List Mt) (d i:Int):Bool:=(FJ ms d i).isSome
theorem Hz (ms:List Mt) (d i:Int):Ni ms d i=(Jq ms d i).2:=by
 unfold Ni Jq;cases FJ ms d i <;> rfl
theorem OD (d i:Int) (A:Option Addr) (n c:Nat) (ms:List Mt) (Am:Option Addr) (nm cm:Nat) (hn:nm=ms.length) (hl:nm≤1000) (w:World) (h:AtE EMt w w.heap.size Am ms):
  Calls Tryz.prog 106 #[.agg #[slV A n c,slV Am nm cm],flV d i] w fun e w' =>e= .returned (.bool (Ni ms d i))∧Below w.heap.size w w' :=by
 have B0:=Hd (dI w #[slV A n c,slV Am nm cm] #[.int .i64 d, .int .i64 i] 31 44);have HO:=Hd (KH d i A n c ms Am nm cm hn hl _ (h.below B0.o));have HM:=Hd (Hz ms d i);clear h hn;go_in;go_wp2_with fail;refine HO.o.mono ?_;rintro e w1 ⟨rfl,hb⟩;have B1:=Hd (B0.o.trans (hb.mono B0.o.size));clear hb HO;go_wp2_with fail;go_ret;exact ⟨by rw [HM.o];rfl,B1.o⟩
theorem qK (c:Ctx) (r:aN) (A:Option Addr) (n cp:Nat):(aV c r (.slice A n cp)).all (·.oneCell')=true:=by simp [aV,Value.oneCell']
theorem vH (c:Ctx) (r:aN) (it:Value):iw.size=(aV c r it).size:=rfl
def iW (w:World) (base:Nat) (v:Value) (L:List (Itm×aD)):Prop:=w.ownsRow base 73 13 v L.length (L.flatMap fun p=>(az p.1 p.2).toList)
theorem iW.nil (w:World) (base:Nat):iW w base (.slice none 0 0) []:=World.ownsRow_nil _ _ _ _
theorem iW.alloc {w:World} {base:Nat} {v:Value} {L:List (Itm×aD)} (h:iW w base v L) (o:Obj):iW (w.alloc o) base v L:=World.ownsRow.alloc h o
theorem iW.ge {w:World} {base:Nat} {v:Value} {L:List (Itm×aD)} (h:iW w base v L):∀ r,v.ownBlock=some r→base≤r:=fun r hr=>(World.ownsRow.lt h r hr).1
theorem iW.only {w w' :World} {lo:Nat} {v:Value} {L:List (Itm×aD)} (h:iW w lo v L) {g:Nat} (hg:w.grownBy w' (some g)) (hlt:g < lo):iW w' lo v L:=
 World.ownsRow.kept h hg (by
  cases hv:v.ownBlock with
  | none=>exact .inl rfl
  | some k=>right;intro e;injection e with e;have:=h.ge k hv;omega)
theorem iW.setCell {w:World} {lo:Nat} {v:Value} {L:List (Itm×aD)} (h:iW w lo v L) {p:Addr} (hp:p.block < lo) (u:Value):iW (w.setCell p u) lo v L:=ownsRow_setCell_below h hp u
theorem iW.row {w:World} {lo g:Nat} {v:Value} {L:List (Itm×aD)} (h:iW w lo v L) (hg:g < lo) (cs:Array Value):iW (w.setRow g cs) lo v L:=
 World.ownsRow.kept h (row:=some g) ⟨rfl,rfl,rfl,by rw [setRow_size];exact Nat.le_refl _,fun i _ hne=>setRow_other _ g i cs (fun e=>hne (by rw [e]))⟩ (by
  cases hv:v.ownBlock with
  | none=>exact .inl rfl
  | some k=>right;intro e;injection e with e;have:=h.ge k hv;omega)
theorem iW.low {w:World} {lo lo' :Nat} {v:Value} {L:List (Itm×aD)} (h:iW w lo v L) (hb:lo' ≤lo):iW w lo' v L:=Joins.ownsRow_le h hb
theorem qL (i:Itm) (r:aD):(az i r).toList.length=13:=rfl
theorem fe:∀ (L:List (Itm×aD)) (k:Nat) (hk:k < L.length) (j:Nat),j < 13→(L.flatMap fun p=>(az p.1 p.2).toList)[k * 13+j]? =(az (L[k]'hk).1 (L[k]'hk).2)[j]?
 | [],k,hk,_,_=>by simp at hk
 | p :: L,0,_,j,hj=>by
  rw [List.flatMap_cons,List.getElem?_append_left (by rw [qL];omega)];simp
 | p :: L,k+1,hk,j,hj=>by
  have ih:=fe L k (by simp at hk;omega) j hj;rw [List.flatMap_cons,List.getElem?_append_right (by rw [qL];omega),qL,show (k+1) * 13+j - 13=k * 13+j by omega,ih];simp
theorem Lc (g a b:Nat):((⟨g,0,none⟩:Addr).add a).add b=⟨g,a+b,none⟩:=by
 unfold Addr.add;split
 · split
   · subst_vars;rfl
   · subst_vars;simp
 · split
   · subst_vars;simp
   · simp
theorem add_zero (g n:Nat):(⟨g,0,none⟩:Addr).add n=⟨g,n,none⟩:=by
 unfold Addr.add;split
 · subst_vars;rfl
 · simp
theorem iW.items {w:World} {base:Nat} {v:Value} {L:List (Itm×aD)} (h:iW w base v L):∃ A c,v= .slice A L.length c∧aU w w.heap.size A L:=by
 rcases Joins.ownsRow_forms h with ⟨rfl,h0⟩ | ⟨g,cap,rfl⟩
 · have:L= []:=List.eq_nil_of_length_eq_zero h0;subst this;exact ⟨none,0,rfl,aU.nil⟩
 · refine ⟨_,cap,rfl,fun k hk=>⟨_,rfl,(World.ownsRow.lt h g rfl).2,fun j hj=>?_⟩⟩;have hf:=fe L k hk j hj;have hs:j < (az (L[k]'hk).1 (L[k]'hk).2).size:=hj;rw [Array.getElem?_eq_getElem hs] at hf ⊢;have hc:=World.ownsRow.cells h (g:=g) rfl (k * 13+j) _ hf;rw [add_zero] at hc;rw [Lc];exact hc
theorem Tryz.Ld:(Tryz.prog.info? 73).map (fun i=>(i.zero,i.size,i.bytes))=some (some (.agg tT),13,128):=by kernel_rfl
theorem Il (w:World) (cs:Array Value) (t:TypeId) (j:Nat) (u:Value) (h:cs.toList[j]? =some u):(w.alloc (.cells cs t)).cell? ((⟨w.heap.size,0,none⟩:Addr).add j)=some u:=by
 rw [add_zero,(Blk.new w cs t).cell];simpa using h
theorem lV {ops:Array Oper} {o:Oper} {a:Act} {w:World} {K:Act→World→Prop} {Q:Exit→Act→World→Prop} {E:Prop} (hgd:o.guard=none) (s x:Operand) (ho:o.op= .call { callee:= .builtin .append,args:=#[s,x],argTypes:=#[52,52] })
  (base:Nat) (v:Value) (L:List (Itm×aD)) (hs:a.eval s=v) (hown:iW w base v L) (ad:Addr) (i:Itm) (r:aD) (hx:a.eval x= .slice (some ad) 1 1) (hr:∀ j u,(az i r).toList[j]? =some u→w.cell? (ad.add j)=some u) (hlen:L.length≤1000) (hbase:base≤w.heap.size)
  (h:∀ v' w',iW w' base v' (L ++ [(i,r)])→w.grownBy w' v.ownBlock→(v' = .slice none 0 0↔v= .slice none 0 0∧1=0)→K (a.put o.dst v') w'):
  if Region.wanted o (yielded ops a.tmps)=true then Oper.wp Tryz.prog o a w K Q else E:=by
 have hw:Region.wanted o (yielded ops a.tmps)=true:=by simp [Region.wanted,hgd]
 rw [if_pos hw];obtain ⟨i0,hi,hz0,hz1,hz2⟩:=info_parts Tryz.Ld;obtain ⟨v',w',hrun,h2,h3,h4⟩:=run_append_own (P:=Tryz.prog) w base 52 o.type 73 i0 _ 13 128 Tryz.underlying52 hi hz0 hz1 hz2 rfl (by omega) v L.length _ hown ad 1 1 (az i r).toList rfl hr (by
   intro u hu;have:=kE i r;rw [← Array.all_toList,List.all_eq_true] at this;exact this u hu) (by unfold maxLen;omega) (by omega) hbase
 unfold Oper.wp execOp;simp only [ho,resolve,invoke,builtin,Sem.run_bind,Sem.run_pure,Result.andThen_ok,List.map_toArray,List.map_cons,List.map_nil,hs,hx,hrun];exact h v' w' (by
  show w'.ownsRow base 73 13 v' (L ++ [(i,r)]).length ((L ++ [(i,r)]).flatMap fun p=>(az p.1 p.2).toList);rw [List.length_append,List.flatMap_append];simpa using h2) h3 h4
structure K1 (w wr:World) (base g:Nat) (b:Int) (gc:Nat) (c:Ctx) (r:aN) (it:Value):Prop where
 only:w.grownBy wr (some g)
 src:aB wr base g b
 rb:Blk wr w.heap.size 54 iw
 cb:Blk wr gc 54 (aV c r it)
 h2:w.heap.size < gc
 h3:g < w.heap.size
 h4:base≤w.heap.size
section
variable {w wr w' :World} {base g gc:Nat} {b b' :Int} {c:Ctx} {r:aN} {it:Value}
end
theorem Im (ph:Int) (p:Nat→Int) (comm exe:ByteArray) (au:Bool) (z:Int) (a:Nat→Int) (vp va:Sl):(#[.int .i64 ph, .int .i64 (p 0), .int .i64 (p 1), .int .i64 (p 2), .int .i64 (p 3), .int .i64 (p 4), .int .i64 (p 5), .int .i64 (p 6), .int .i64 (p 7), .int .i64 0, .int .i64 0, .string comm, .string exe, .slice none 0 0, .bool au, .int .i64 z, .int .i64 (a 0), .int .i64 (a 1), .int .i64 (a 2), .int .i64 (a 3),vp.v,va.v, .int .i64 0, .slice none 0 0, .int .i64 0]:Array Value)=aV ⟨ph,p,a,0,0,comm,exe⟩ ⟨0,0,⟨none,0,0⟩,au,z,vp,va⟩ (.slice none 0 0):=rfl
theorem Io {f:FuncId} {fn:Func} (_hf:Tryz.prog.funcs[f]? =some fn) (h:fn.results=#[.cell 2 54]) (tmps:Array Value) (w:World) (g:Nat) (c:Ctx) (r:aN) (it:Value) (hp:tmps.getD 2 undef= .pointer (some ⟨g,0,none⟩)) (hg:Blk w g 54 (aV c r it)):
  (results fn tmps).run Tryz.prog w= .ok (.agg (aV c r it)) w:=
 results_cell_row h tmps w g _ (aV c r it) (0,0) _ hp hg Tryz.underlying54 rfl (dK _ _ _)
theorem Ey {w:World} {lo:Nat} {v:Value} {L:List (Itm×aD)} (h:iW w lo v L):∃ A n c,v= .slice A n c:=by
 obtain ⟨A,c,e,_⟩:=h.items;exact ⟨A,_,c,e⟩
theorem Ez (i:Itm) (r:aD):(az i r).size=13:=rfl
theorem Be (i:Itm) (r:aD):Array.foldl (fun (cs:Array Value) (x:Value×Nat)=>cs.setIfInBounds x.snd x.fst) #[Value.string { data:=#[] },Value.string { data:=#[] },Value.int IntKind.i64 0,Value.int IntKind.i64 0,Value.string { data:=#[] },Value.int IntKind.i64 0,Value.int IntKind.i64 0,Value.int IntKind.i64 0,Value.int IntKind.i64 0,Value.int IntKind.i64 0,Value.int IntKind.i64 0,Value.int IntKind.i64 0,Value.int IntKind.i64 0] (az i r).zipIdx 0 13=az i r:=by
 unfold az;simp
attribute [local irreducible] aV az
end Go.Proofs.YtollifnnpihfdaaGreatDoor
namespace Go.Proofs.YtollifnnpihfdaaGreatDoor
open Go.RowKit
theorem aR.num {w:World} {g:Nat} {c:Ctx} {r:aN} {it:Value} (h:aR w g c r it):w.cell? ⟨g,15,none⟩=some (.int .i64 r.n):=h.cell 15
theorem xx (c:Ctx) (r:aN) (it:Value) (t:Int):(aV c r it).setIfInBounds 24 (.int .i64 t)=aV { c with ty:=t } r it:=rfl
structure MtB (w W:World) (r:Rul) (v:Value) (c:Ctx) (cr:aN) (it:Value):Prop where
 R:dF W w.heap.size r v
 C:aR W (w.heap.size+1) c cr it
 low:Below w.heap.size w W
theorem MtB.start (w:World) (r:Rul) (v:Value) (c:Ctx) (cr:aN) (it:Value):MtB w ((w.alloc (.cells (bK r v) 90)).alloc (.cells (aV c cr it) 54)) r v c cr it:=
 ⟨(Blk.new w _ _).alloc _,by have:=Blk.new (w.alloc (.cells (bK r v) 90)) (aV c cr it) 54;simpa using this,((Below.refl _ _).alloc (Nat.le_refl _) _).alloc (by simp) _⟩
theorem MtB.below {w W W' :World} {r:Rul} {v:Value} {c:Ctx} {cr:aN} {it:Value} (h:MtB w W r v c cr it) (hb:Below W.heap.size W W'):MtB w W' r v c cr it:=⟨h.R.below hb,h.C.below hb,aa h.low hb⟩
def yo (c:Ctx) (n:Int) (hit:Bool) (r:Rul):Bool:= !((r.ca == 0 || hasB r.ca n) && (r.wa == 0 || hit))
theorem Bh {c:Ctx} {n:Int} {is:List Itm} {hit:Bool} {r:Rul} (h:yo c n hit r=true):bQ c n is hit r=false:=by
 unfold yo at h;unfold bQ;revert h;cases (r.ca == 0 || hasB r.ca n) <;> cases (r.wa == 0 || hit) <;> simp
theorem pz {c:Ctx} {n:Int} {is:List Itm} {hit:Bool} {r:Rul} (h:yo c n hit r=false):bQ c n is hit r=r.ts.all (Tst.ev c is):=by
 unfold yo at h;unfold bQ;revert h;cases (r.ca == 0 || hasB r.ca n) <;> cases (r.wa == 0 || hit) <;> simp
theorem tZ {p:Tst→Bool} {l:List Tst} {k:Nat} (hk:k < l.length) (h:p (l[k]'hk)=false):l.all p=false:=by
 rw [List.all_eq_false];exact ⟨_,List.getElem_mem hk,by rw [h];decide⟩
theorem Bi {p:Tst→Bool} {l:List Tst} (h:∀ j (hj:j < l.length),p (l[j]'hj)=true):l.all p=true:=by
 rw [List.all_eq_true];intro x hx;obtain ⟨j,hj,rfl⟩:=List.getElem_of_mem hx;exact h j hj
theorem Bj {r:Rul} (h:((r.ca:Int) != 0)=false):(r.ca == 0)=true:=by simp at h ⊢;exact h
theorem Bl {r:Rul} (h:((r.ca:Int) != 0)=true):(r.ca == 0)=false:=by simp at h ⊢;exact h
theorem Bn {r:Rul} (h:(r.wa != 0)=false):(r.wa == 0)=true:=by simp at h ⊢;exact h
theorem Bo {r:Rul} (h:(r.wa != 0)=true):(r.wa == 0)=false:=by simp at h ⊢;exact h
def Lj (b:Bool) (w:World) (e:Ending) (w' :World):Prop:=e= .returned (.bool b)∧Below w.heap.size w w'
def Pt (o:Option Nat) (w:World) (e:Ending) (w' :World):Prop:=e= .returned (.int .i64 (CG o))∧Below w.heap.size w w'
theorem Iu (a:Addr) (w:World):(loadVar 86 a).run Tryz.prog w=(load a).run Tryz.prog w:=by
 unfold loadVar;simp [go_sem]
theorem Iw (a:Addr) (w:World):(loadVar 88 a).run Tryz.prog w=(load a).run Tryz.prog w:=by
 unfold loadVar;simp [go_sem]
theorem Iy (a:Addr) (w:World):(loadVar 38 a).run Tryz.prog w=(load a).run Tryz.prog w:=by
 unfold loadVar;simp [go_sem]
theorem Bp {w:World} {a:Addr} {t:Tst} (h:∀ j,j < 5→w.cell? (a.add j)=(rA t)[j]?):(loadVar 85 a).run Tryz.prog w= .ok (.agg (rA t)) w:=
 qM (fun j v hv=>by
  have hj:j < 5:=by
   rcases Nat.lt_or_ge j 5 with hj | hj
   · exact hj
   · rw [List.getElem?_eq_none (by show 5≤j;exact hj)] at hv;cases hv
  rw [h j hj];simpa using hv) Tryz.underlying85 rfl (uP _ _ _ _ _)
theorem ug {w:World} {a:Addr} {x:Ru} (h:∀ j,j < 8→w.cell? (a.add j)=(ERu.C x)[j]?):(loadVar 90 a).run Tryz.prog w= .ok (oF x.r x.sl) w:=
 qM (cs:=bK x.r x.sl) (fun j v hv=>by
  have hj:j < 8:=by
   rcases Nat.lt_or_ge j 8 with hj | hj
   · exact hj
   · rw [List.getElem?_eq_none (by show 8≤j;exact hj)] at hv;cases hv
  rw [h j hj];exact hv) Tryz.underlying90 rfl (iN _ _)
attribute [-go_sem] loadVar
attribute [local go_sem] EA EB Iu Iw Iy
attribute [local irreducible] aV hasB ai iC bQ
theorem Ll (r:Rul) (T:Option Addr) (tn tc:Nat) (htn:tn=r.ts.length) (hit:Bool) (cx:Ctx) (cr:aN) (Ai:Option Addr) (ni ci:Nat) (L:List (Itm×aD)) (hni:ni=L.length) (hlen:ni≤1000000) (hz:Jp r) (w:World) (hT:aY w w.heap.size T r.ts) (hI:aU w w.heap.size Ai L):
  Calls Tryz.prog 111 #[oF r (.slice T tn tc), .bool hit,rq cx cr (.slice Ai ni ci)] w (Lj (bQ cx cr.n (L.map (·.1)) hit r) w):=by
 have S0:=Hd (MtB.start w r (.slice T tn tc) cx cr (.slice Ai ni ci));have HT:=Hd (hT.keep S0.o.low (Nat.le_refl _));have HI:=Hd (hI.keep S0.o.low (Nat.le_refl _));have HN:=Hd htn;have HNI:=Hd hni;have HLN:=Hd hlen;have HZ:=Hd hz;clear hT hI htn hni hlen hz;go_in;go_upto_region 1 with fail;generalize (w.alloc (.cells (bK r (.slice T tn tc)) 90)).alloc (.cells (aV cx cr (.slice Ai ni ci)) 54)=W at *;have c2:=S0.o.R.c2;have c4:=S0.o.R.c4;have c15:=S0.o.C.num;go_cut [28] (fun v wx=>v= .bool (yo cx cr.n hit r)∧W=wx);case first=>
  cases hca:((r.ca:Int) != 0) with
  | false=>
   have hq:=Bj hca;cases hwa:(r.wa != 0) with
   | false=>
    have hr:=Bn hwa;go_wp2_with fail;go_meet;refine ⟨?_,rfl⟩;unfold yo;rw [hq,hr];rfl
   | true=>
    have hr:=Bo hwa;cases hit with
    | false=>
      go_wp2_with fail;go_meet;refine ⟨?_,rfl⟩;unfold yo;rw [hq,hr];rfl
    | true=>
      go_wp2_with fail;go_meet;refine ⟨?_,rfl⟩;unfold yo;rw [hq,hr];rfl
  | true=>
   have hq:=Bl hca;go_wp2_with fail;refine (Sm r.ca cr.n W HZ.o.ca).mono ?_;rintro e w1 ⟨rfl,rfl⟩;cases hh:hasB r.ca cr.n with
   | false=>
    go_wp2_with fail;go_meet;refine ⟨?_,rfl⟩;unfold yo;rw [hq,hh];rfl
   | true=>
    cases hwa:(r.wa != 0) with
    | false=>
      have hr:=Bn hwa;go_wp2_with fail;go_meet;refine ⟨?_,rfl⟩;unfold yo;rw [hq,hh,hr];rfl
    | true=>
      have hr:=Bo hwa;cases hit with
      | false=>
        go_wp2_with fail;go_meet;refine ⟨?_,rfl⟩;unfold yo;rw [hq,hh,hr];rfl
      | true=>
        go_wp2_with fail;go_meet;refine ⟨?_,rfl⟩;unfold yo;rw [hq,hh,hr];rfl
 case rest=>
 obtain ⟨rfl,rfl⟩:=hcut;clear c2 c4 c15;cases hbad:yo cx cr.n hit r with
 | true=>
  have HR:=Hd (Bh (is:=L.map (·.1)) hbad);go_wp2_with fail;go_ret;exact ⟨aX HR.o.symm,S0.o.low⟩
 | false=>
  go_wp2_with fail;go_loopw [7] (fun i wr=>∃ k:Nat,k≤r.ts.length∧i= .int .i64 (k:Int)∧Hid (∀ j (hj:j < r.ts.length),j < k→Tst.ev cx (L.map (·.1)) (r.ts[j]'hj)=true)∧Below W.heap.size W wr) (fun i _=>r.ts.length - (intOf i).toNat);case atStart=>exact ⟨0,Nat.zero_le _,rfl,Hd (fun j _ hj=>by omega),Below.refl _ _⟩
  case round=>
   obtain ⟨k,hk,rfl,hno,hb⟩:=hrel;have S1:=Hd (S0.o.below hb);have HT1:=Hd (HT.o.keep hb (by have:=S0.o.low.size;omega));have HI1:=Hd (HI.o.keep hb (by have:=S0.o.low.size;omega));have HB:=Hd hb;clear hb;have q3:=S1.o.R.c3;by_cases hlt:k < r.ts.length;case pos=>
    obtain ⟨ad,rfl,xJ,hcx⟩:=HT1.o k hlt;have HCX:=Hd hcx;clear hcx;have HEV:=Hd (fun W' (h:aU W' W'.heap.size Ai L)=>Le cx cr Ai ni ci L HNI.o HLN.o (r.ts[k]'hlt).fd (r.ts[k]'hlt).op (r.ts[k]'hlt).nu (r.ts[k]'hlt).tx (r.ts[k]'hlt).ot (HZ.o.tx _ (List.getElem_mem hlt)) W' h);have HY:=Hd (show iC cx (L.map (·.1)) (r.ts[k]'hlt).fd (r.ts[k]'hlt).op (r.ts[k]'hlt).nu (r.ts[k]'hlt).tx (r.ts[k]'hlt).ot=Tst.ev cx (L.map (·.1)) (r.ts[k]'hlt) from rfl);have HST:=Hd (fun h=>tZ (p:=Tst.ev cx (L.map (·.1))) hlt h);have HNX:=Hd (show Tst.ev cx (L.map (·.1)) (r.ts[k]'hlt)=true→∀ j (hj:j < r.ts.length),j < k+1→Tst.ev cx (L.map (·.1)) (r.ts[j]'hj)=true from fun h j hj hjk=>by
      by_cases e:j=k
      · subst e;exact h
      · exact hno.o j hj (by omega))
    have k0:(0:Int)≤(k:Int):=(by omega);have kn:(k:Int) < (tn:Int):=(by have:=HN.o;omega);have kt:(k:Int) < (r.ts.length:Int):=(by omega);have hk9:k≤1000000:=(by have:=HZ.o.ln;omega);obtain ⟨q7,q8⟩:=bW hk9 (Nat.le_refl _)
    skip
    generalize r.ts[k]=t at *;clear hno;obtain ⟨fd,op,nu,tx,ot⟩:=t;simp only at HEV HY;go_upto_region 6 with fail;refine wp_region_held_drew (S:=(fun W' =>Below wr.heap.size wr W')) (by kernel_rfl) (Below.refl _ _).drew (fun hHeld=>?_);refine tk hHeld 0 ?_ ?_ (tk hHeld 1 ?_ ?_ (tk hHeld 2 ?_ ?_ (tk hHeld 3 ?_ ?_ (tk hHeld 4 ?_ ?_ (tk hHeld 5 ?_ ?_ ?_)))));iterate 6
      rotate_left
      · intro w' hSw;have q3:=(S1.o.below hSw).R.c3;have hl:=Bp (fun j hj=>(hSw.cell (by rw [jl,jl];have:=HB.o.size;have:=S0.o.low.size;omega)).trans (HCX.o j hj));have Lm:=gH (S1.o.below hSw).C;go_simp;first | (with_reducible rfl) | (rw [if_neg (by first | omega | (simp;omega))])
    refine rdy1 6 (fun K hK=>?_);go_simp;go_at_call 173;refine (HEV.o _ ((HI1.o.keep hHeld (by have:=HB.o.size;have:=S0.o.low.size;omega)).more (by have:=HB.o.size;have:=S0.o.low.size;have:=hHeld.size;omega))).mono ?_;rintro e w2 ⟨rfl,hb2⟩;rw [HY.o];have hh:=hHeld.trans (hb2.mono hHeld.size);go_simp;refine hK.o _ _ hh (fun hHeld=>?_);clear hK K hb2 hh;refine tk hHeld 7 ?_ ?_ ?_;rotate_left
    · intro w' hSw;go_simp;first | (with_reducible rfl) | (rw [if_neg (by first | omega | (simp;omega))])
    refine wpAnyH_done (by kernel_rfl) ?_ _;have HB2:=Hd (HB.o.trans (hHeld.mono HB.o.size));clear q3;cases hev:Tst.ev cx (L.map (·.1)) ⟨fd,op,nu,tx,ot⟩ with
    | true=>
      have HF:=Hd (HNX.o hev);go_wp2_with fail;go_roundw;case rel=>exact ⟨k+1,by omega,by go_num,HF,HB2.o⟩
      case measure=>exact bq hlt _ rfl
    | false=>
      have HR:=Hd ((pz hbad).trans (HST.o hev));go_wp2_with fail;go_ret;exact ⟨aX HR.o.symm,S0.o.low.trans (HB2.o.mono S0.o.low.size)⟩
   case neg=>
    have hkn:k=r.ts.length:=(by omega);have q9:¬ (k:Int) < (tn:Int):=(by have:=HN.o;omega);have HR:=Hd ((pz (is:=L.map (·.1)) hbad).trans (Bi fun j hj=>hno.o j hj (by omega)));go_wp2_with fail;go_ret;exact ⟨aX HR.o.symm,S0.o.low.trans (HB.o.mono S0.o.low.size)⟩
theorem Lp (xs:List Ru) (A:Option Addr) (n c:Nat) (hn:n=xs.length) (li:Int) (cx:Ctx) (cr:aN) (Ai:Option Addr) (ni ci:Nat) (L:List (Itm×aD)) (hni:ni=L.length) (hlen:ni≤1000000) (w:World) (hR:jr w w.heap.size A xs) (hI:aU w w.heap.size Ai L):
  Calls Tryz.prog 64 #[.slice A n c, .int .i64 li, .slice none 0 0,rq cx cr (.slice Ai ni ci)] w (Pt (fI (xs.map (·.r)) li cx cr.n (L.map (·.1))) w):=by
 have HN:=Hd hn;have HNI:=Hd hni;have HLN:=Hd hlen;have B0:=Hd ((Below.refl w.heap.size w).alloc (Nat.le_refl _) (.cells (aV cx cr (.slice Ai ni ci)) 54));have C0:=Hd (show aR _ w.heap.size cx cr (.slice Ai ni ci) from Blk.new w (aV cx cr (.slice Ai ni ci)) 54);have R0:=Hd (hR.keep B0.o (Nat.le_refl _));have I0:=Hd (hI.keep B0.o (Nat.le_refl _));clear hR hI hn hni hlen;go_in;go_upto_region 1 with fail;generalize w.alloc (.cells (aV cx cr (.slice Ai ni ci)) 54)=W at *;go_wp2_with fail;go_loopw [9] (fun i wr=>∃ k:Nat,k≤xs.length∧i= .int .i64 (k:Int)∧Hid (∀ j (hj:j < xs.length),j < k→(fun r=>r.li == li && bQ cx cr.n (L.map (·.1)) false r) (xs[j]'hj).r=false)∧Below W.heap.size W wr) (fun i _=>xs.length - (intOf i).toNat);case atStart=>exact ⟨0,Nat.zero_le _,rfl,Hd (fun j _ hj=>by omega),Below.refl _ _⟩
 case round=>
  obtain ⟨k,hk,rfl,hno,hb⟩:=hrel;have C1:=Hd (C0.o.below hb);have R1:=Hd (R0.o.keep hb B0.o.size);have I1:=Hd (I0.o.keep hb B0.o.size);have HB:=Hd hb;have HBT:=Hd (aa B0.o hb);clear hb;have hn:=HN.o;by_cases hlt:k < xs.length;case pos=>
   have k1:(k:Int) < (n:Int):=(by omega);have k0:(0:Int)≤(k:Int):=(by omega);have kz:¬ (k:Int) < 0:=(by omega);have hk9:k≤1000000:=(by have:=R0.o.few;omega);obtain ⟨q7,q8⟩:=bW hk9 (Nat.le_refl _);obtain ⟨ad,rfl,xJ,hcx⟩:=R1.o.at_ k hlt;have HTS:=Hd (R1.o.ts xs[k] (List.getElem_mem hlt));have HCX:=Hd hcx;clear hcx;have HFS:=Hd (show (fun r=>r.li == li && bQ cx cr.n (L.map (·.1)) false r) (xs[k]'hlt).r=true→fI (xs.map (·.r)) li cx cr.n (L.map (·.1))=some k from fun h=>sS (by simpa using hlt) (fun j hj=>by rw [List.getElem_map];exact hno.o j (by omega) hj) (by rw [List.getElem_map];exact h));have HNX:=Hd (show (fun r=>r.li == li && bQ cx cr.n (L.map (·.1)) false r) (xs[k]'hlt).r=false→∀ j (hj:j < xs.length),j < k+1→(fun r=>r.li == li && bQ cx cr.n (L.map (·.1)) false r) (xs[j]'hj).r=false from fun h j hj hjk=>by
    by_cases e:j=k
    · subst e;exact h
    · exact hno.o j hj (by omega))
   generalize xs[k]=x at *;clear hno hn;obtain ⟨c0,c1,c2,c3,c4,c5,c6,c7⟩:=ma (a:=ad.add (k * 8)) HCX.o;clear c1 c2 c3 c4 c5 c6 c7;go_upto_region 4 with fail;cases hli:(x.r.li == li) with
   | false=>
    have HF:=Hd (HNX.o (by show ((x.r.li == li) && _)=false;rw [hli];rfl));clear HNX HFS;refine wp_region_held_drew (S:=(fun W' =>Below wr.heap.size wr W')) (by kernel_rfl) (Below.refl _ _).drew (fun hHeld=>?_);refine tk hHeld 0 ?_ ?_ (tk hHeld 1 ?_ ?_ (tk hHeld 2 ?_ ?_ (tk hHeld 3 ?_ ?_ (tk hHeld 4 ?_ ?_ (tk hHeld 5 ?_ ?_ (tk hHeld 6 ?_ ?_ (tk hHeld 7 ?_ ?_ ?_)))))));iterate 8
      rotate_left
      · intro w' hSw;have hl:=(hSw.cell (p:=ad.add (k * 8)) (by rw [aj];have:=HB.o.size;have:=B0.o.size;omega)).trans c0;go_simp;first | (with_reducible rfl) | (rw [if_neg (by first | omega | (simp;omega))])
    refine wpAnyH_take (i:=8) (v:=undef) rfl (by kernel_rfl) (by kernel_rfl) (by kernel_rfl) (fun _ _ _ h=>h) (Or.inr ⟨by kernel_rfl,rfl⟩) hHeld ?_;refine wpAnyH_take (i:=9) (v:=undef) rfl (by kernel_rfl) (by kernel_rfl) (by kernel_rfl) (fun _ _ _ h=>h) (Or.inr ⟨by kernel_rfl,rfl⟩) hHeld ?_;refine wpAnyH_take (i:=10) (v:=undef) rfl (by kernel_rfl) (by kernel_rfl) (by kernel_rfl) (fun _ _ _ h=>h) (Or.inr ⟨by kernel_rfl,rfl⟩) hHeld ?_;refine wpAnyH_take (i:=11) (v:=undef) rfl (by kernel_rfl) (by kernel_rfl) (by kernel_rfl) (fun _ _ _ h=>h) (Or.inr ⟨by kernel_rfl,rfl⟩) hHeld ?_;refine wpAnyH_take (i:=12) (v:=undef) rfl (by kernel_rfl) (by kernel_rfl) (by kernel_rfl) (fun _ _ _ h=>h) (Or.inr ⟨by kernel_rfl,rfl⟩) hHeld ?_;refine wpAnyH_take (i:=13) (v:=undef) rfl (by kernel_rfl) (by kernel_rfl) (by kernel_rfl) (fun _ _ _ h=>h) (Or.inr ⟨by kernel_rfl,rfl⟩) hHeld ?_;refine wpAnyH_take (i:=14) (v:=undef) rfl (by kernel_rfl) (by kernel_rfl) (by kernel_rfl) (fun _ _ _ h=>h) (Or.inr ⟨by kernel_rfl,rfl⟩) hHeld ?_;refine wpAnyH_take (i:=15) (v:=undef) rfl (by kernel_rfl) (by kernel_rfl) (by kernel_rfl) (fun _ _ _ h=>h) (Or.inr ⟨by kernel_rfl,rfl⟩) hHeld ?_;refine wpAnyH_take (i:=16) (v:=undef) rfl (by kernel_rfl) (by kernel_rfl) (by kernel_rfl) (fun _ _ _ h=>h) (Or.inr ⟨by kernel_rfl,rfl⟩) hHeld ?_;refine wpAnyH_take (i:=17) (v:=undef) rfl (by kernel_rfl) (by kernel_rfl) (by kernel_rfl) (fun _ _ _ h=>h) (Or.inr ⟨by kernel_rfl,rfl⟩) hHeld ?_;refine wpAnyH_take (i:=18) (v:=undef) rfl (by kernel_rfl) (by kernel_rfl) (by kernel_rfl) (fun _ _ _ h=>h) (Or.inr ⟨by kernel_rfl,rfl⟩) hHeld ?_;refine wpAnyH_take (i:=19) (v:=undef) rfl (by kernel_rfl) (by kernel_rfl) (by kernel_rfl) (fun _ _ _ h=>h) (Or.inr ⟨by kernel_rfl,rfl⟩) hHeld ?_;refine wpAnyH_take (i:=20) (v:=undef) rfl (by kernel_rfl) (by kernel_rfl) (by kernel_rfl) (fun _ _ _ h=>h) (Or.inr ⟨by kernel_rfl,rfl⟩) hHeld ?_;refine wpAnyH_take (i:=21) (v:=undef) rfl (by kernel_rfl) (by kernel_rfl) (by kernel_rfl) (fun _ _ _ h=>h) (Or.inr ⟨by kernel_rfl,rfl⟩) hHeld ?_;refine wpAnyH_take (i:=22) (v:=undef) rfl (by kernel_rfl) (by kernel_rfl) (by kernel_rfl) (fun _ _ _ h=>h) (Or.inr ⟨by kernel_rfl,rfl⟩) hHeld ?_;refine wpAnyH_take (i:=23) (v:=undef) rfl (by kernel_rfl) (by kernel_rfl) (by kernel_rfl) (fun _ _ _ h=>h) (Or.inr ⟨by kernel_rfl,rfl⟩) hHeld ?_;refine tk hHeld 24 ?_ ?_ ?_;rotate_left
    · intro w' hSw;go_simp;first | (with_reducible rfl) | (rw [if_neg (by first | omega | (simp;omega))])
    refine wpAnyH_done (by kernel_rfl) ?_ _;go_simp;have HB2:=Hd (HB.o.trans (hHeld.mono HB.o.size));go_wp2_with fail;clear q7 q8;go_roundw;case rel=>exact ⟨k+1,hlt,by go_num,HF,HB2.o⟩
    case measure=>exact bq hlt _ rfl
   | true=>
    refine wp_region_held_drew (S:=(fun W' =>Below wr.heap.size wr W')) (by kernel_rfl) (Below.refl _ _).drew (fun hHeld=>?_);refine tk hHeld 0 ?_ ?_ (tk hHeld 1 ?_ ?_ (tk hHeld 2 ?_ ?_ (tk hHeld 3 ?_ ?_ (tk hHeld 4 ?_ ?_ (tk hHeld 5 ?_ ?_ (tk hHeld 6 ?_ ?_ (tk hHeld 7 ?_ ?_ (tk hHeld 8 ?_ ?_ (tk hHeld 9 ?_ ?_ (tk hHeld 10 ?_ ?_ (tk hHeld 11 ?_ ?_ (tk hHeld 12 ?_ ?_ (tk hHeld 13 ?_ ?_ (tk hHeld 14 ?_ ?_ (tk hHeld 15 ?_ ?_ (tk hHeld 16 ?_ ?_ ?_))))))))))))))));iterate 17
      rotate_left
      · intro w' hSw;have hl:=(hSw.cell (p:=ad.add (k * 8)) (by rw [aj];have:=HB.o.size;have:=B0.o.size;omega)).trans c0;have Lm:=ug (a:=ad.add (k * 8)) (fun j hj=>(hSw.cell (by rw [aj,aj];have:=HB.o.size;have:=B0.o.size;omega)).trans (HCX.o j hj));go_simp;first | (with_reducible rfl) | (rw [if_neg (by first | omega | (simp;omega))])
    refine wpAnyH_take (i:=17) (v:=undef) rfl (by kernel_rfl) (by kernel_rfl) (by kernel_rfl) (fun _ _ _ h=>h) (Or.inr ⟨by kernel_rfl,rfl⟩) hHeld ?_;refine wpAnyH_take (i:=18) (v:=undef) rfl (by kernel_rfl) (by kernel_rfl) (by kernel_rfl) (fun _ _ _ h=>h) (Or.inr ⟨by kernel_rfl,rfl⟩) hHeld ?_;refine wpAnyH_take (i:=19) (v:=undef) rfl (by kernel_rfl) (by kernel_rfl) (by kernel_rfl) (fun _ _ _ h=>h) (Or.inr ⟨by kernel_rfl,rfl⟩) hHeld ?_;refine wpAnyH_take (i:=20) (v:=undef) rfl (by kernel_rfl) (by kernel_rfl) (by kernel_rfl) (fun _ _ _ h=>h) (Or.inr ⟨by kernel_rfl,rfl⟩) hHeld ?_;refine tk hHeld 21 ?_ ?_ (tk hHeld 22 ?_ ?_ ?_);iterate 2
      rotate_left
      · intro w' hSw;have hl:=gH (C1.o.below hSw);go_simp;first | (with_reducible rfl) | (rw [if_neg (by first | omega | (simp;omega))])
    refine rdy1 23 (fun K hK=>?_);go_simp;go_at_call 111;refine (Ll x.r x.A x.r.ts.length x.c rfl false cx cr Ai ni ci L HNI.o HLN.o HTS.o.2.siz _ ((HTS.o.1.keep hHeld (by have:=HB.o.size;have:=B0.o.size;omega)).more (by have:=HB.o.size;have:=B0.o.size;have:=hHeld.size;omega)) ((I1.o.keep hHeld (by have:=HB.o.size;have:=B0.o.size;omega)).more (by have:=HB.o.size;have:=B0.o.size;have:=hHeld.size;omega))).mono ?_;rintro e w2 ⟨rfl,hb2⟩;have hh:=hHeld.trans (hb2.mono hHeld.size);go_simp;refine hK.o _ _ hh (fun hHeld=>?_);clear hK K hb2 hh;refine tk hHeld 24 ?_ ?_ ?_;rotate_left
    · intro w' hSw;go_simp;first | (with_reducible rfl) | (rw [if_neg (by first | omega | (simp;omega))])
    refine wpAnyH_done (by kernel_rfl) ?_ _;go_simp;have HB2:=Hd (HB.o.trans (hHeld.mono HB.o.size));cases hm:bQ cx cr.n (L.map (·.1)) false x.r with
    | false=>
      have HF:=Hd (HNX.o (by show ((x.r.li == li) && _)=false;rw [hm,Bool.and_false]));go_wp2_with fail;clear q7 q8;go_roundw;case rel=>exact ⟨k+1,hlt,by go_num,HF,HB2.o⟩
      case measure=>exact bq hlt _ rfl
    | true=>
      have HF:=Hd (HFS.o (by show ((x.r.li == li) && _)=true;rw [hm,hli];rfl));go_wp2_with fail;go_ret;exact ⟨by rw [HF.o];rfl,B0.o.trans (HB2.o.mono B0.o.size)⟩
  case neg=>
   have k1:¬ (k:Int) < (n:Int):=(by omega);have HF:=Hd (show fI (xs.map (·.r)) li cx cr.n (L.map (·.1))=none from sQ (fun j hj=>by rw [List.getElem_map];exact hno.o j (by simpa using hj) (by simp at hj;omega)));go_wp2_with fail;go_ret;exact ⟨by rw [HF.o];rfl,HBT.o⟩
end Go.Proofs.YtollifnnpihfdaaGreatDoor
