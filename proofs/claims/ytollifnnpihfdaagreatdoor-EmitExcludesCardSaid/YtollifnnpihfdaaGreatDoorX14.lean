import Derived.Test.YtollifnnpihfdaaGreatDoorX12
set_option maxRecDepth 100000
set_option maxHeartbeats 64000000
set_option linter.all false
namespace Go.Proofs.YtollifnnpihfdaaGreatDoor
open Go.RowKit
theorem Tryz.EE:(Tryz.prog.info? 199).map (fun i=>(i.zero,i.size,i.bytes))=some (some (.agg #[.int .i64 0, .int .i64 0, .int .i64 0]),3,24):=by kernel_rfl
abbrev mtC (m:Mt):Array Value:=#[.int .i64 m.dev, .int .i64 m.od, .int .i64 m.oi]
def EMt:El Mt where
 C m:= [.int .i64 m.dev, .int .i64 m.od, .int .i64 m.oi]
 e:=199
 sl:=29
 sz:=3
 bs:=24
 len _:=rfl
 one x u hu:=by simp at hu;rcases hu with rfl | rfl | rfl <;> rfl
 pos:=by omega
 small:=by omega
 hu:=Tryz.underlying29
 info:=by
  obtain ⟨i0,h1,h2,h3,h4⟩:=info_parts Tryz.EE;exact ⟨i0,_,h1,h2,h3,h4,rfl⟩
theorem j4 {w:World} {a:Addr} {m:Mt} (h:∀ j,j < 3→w.cell? (a.add j)=(EMt.C m)[j]?):w.cell? a=some (.int .i64 m.dev)∧w.cell? ⟨a.block,a.off+1,none⟩=some (.int .i64 m.od)∧w.cell? ⟨a.block,a.off+2,none⟩=some (.int .i64 m.oi):=⟨h 0 (by omega),h 1 (by omega),h 2 (by omega)⟩
theorem gm {fn:Func} {i j:Nat} (h:fn.results=#[.tmp i, .tmp j]) (tmps:Array Value) (w:World):(results fn tmps).run Tryz.prog w= .ok (.tuple #[tmps.getD i undef,tmps.getD j undef]) w:=by
 simp [results,h]
abbrev slV (A:Option Addr) (n c:Nat):Value:= .slice A n c
abbrev spC (u m:Value):Array Value:=#[u,m]
def onR (ms:List Mt) (dev:Int):Int×Int×Bool:=match onF ms dev with | some (a,b)=>(a,b,true) | none=>(0,0,false)
theorem zP {ms:List Mt} {dev:Int} {k:Nat} (hk:k < ms.length) (hn:∀ q (hq:q < k),(ms[q].dev == dev)=false) (h:(ms[k].dev == dev)=true):onF ms dev=some (ms[k].od,ms[k].oi):=by
 unfold onF;have:ms.find? (fun m=>m.dev == dev)=some ms[k]:=by
  rw [List.find?_eq_some_iff_getElem];exact ⟨h,k,hk,rfl,fun j hj=>by rw [hn j hj];decide⟩
 rw [this];rfl
theorem zQ {ms:List Mt} {dev:Int} (hn:∀ q (hq:q < ms.length),(ms[q].dev == dev)=false):onF ms dev=none:=by
 unfold onF;have:ms.find? (fun m=>m.dev == dev)=none:=by
  rw [List.find?_eq_none];intro m hm;obtain ⟨q,hq,rfl⟩:=List.getElem_of_mem hm;rw [hn q hq];decide
 rw [this];rfl
theorem ron (dev:Int) (A:Option Addr) (n c:Nat) (ms:List Mt) (Am:Option Addr) (nm cm:Nat) (hn:nm=ms.length) (hl:nm≤1000) (w:World) (h:AtE EMt w w.heap.size Am ms):
  Calls Tryz.prog 69 #[.agg #[slV A n c,slV Am nm cm], .int .i64 dev] w fun e w' =>e= .returned (.tuple #[flV (onR ms dev).1 (onR ms dev).2.1, .bool (onR ms dev).2.2])∧Below w.heap.size w w' :=by
 have HN:=Hd hn;have B0:=Hd (aT w #[slV A n c,slV Am nm cm] #[.int .i64 0, .int .i64 0] 31 44);have M0:=Hd (h.below B0.o);have V0:=Hd ((Blk.new w #[slV A n c,slV Am nm cm] 31).alloc (.cells #[.int .i64 0, .int .i64 0] 44));have R0:=Hd (show Blk ((w.alloc (.cells #[slV A n c,slV Am nm cm] 31)).alloc (.cells #[.int .i64 0, .int .i64 0] 44)) (w.heap.size+1) 44 #[.int .i64 0, .int .i64 0] by
  have h:=Blk.new (w.alloc (.cells #[slV A n c,slV Am nm cm] 31)) #[.int .i64 0, .int .i64 0] 44;simp only [World.size_alloc] at h;exact h)
 have HR:=Hd (show onR ms dev=match onF ms dev with | some (a,b)=>(a,b,true) | none=>(0,0,false) from rfl);clear h hn;go_in;go_wp2_with fail;generalize (w.alloc (.cells #[slV A n c,slV Am nm cm] 31)).alloc (.cells #[.int .i64 0, .int .i64 0] 44)=w0 at *;go_loopw [6] (fun i wr=>∃ k:Nat,k≤ms.length∧i= .int .i64 k∧wr=w0∧Hid (∀ q (hq:q < k) (hql:q < ms.length),(ms[q].dev == dev)=false)) (fun i _=>ms.length - (intOf i).toNat);case atStart=>exact ⟨0,Nat.zero_le _,rfl,rfl,Hd (fun q hq=>absurd hq (Nat.not_lt_zero q))⟩
 case round=>
  obtain ⟨k,hk,rfl,rfl,hno⟩:=hrel;have v1:=V0.o.cell 1;have hn:=HN.o;have WK:=Hd (dE (q:=k) (by omega));by_cases hlt:k < ms.length;case neg=>
   have k1:¬ (k:Int) < (nm:Int):=(by omega);have HR2:=Hd (HR.o.trans (by rw [zQ (fun q hq=>hno.o q (by omega) hq)]));clear hno hn;go_wp2_with ((with_reducible refine ae ?_ 44 (.tmp 4) (.tmp 28) ?_ R0.o #[.int .i64 0, .int .i64 0] ?_ ?_ ?_ ?_ ?_ ?_);(iterate 4 rfl);(exact dH _ _);rfl;(exact bT _ _));refine bodyPost_ret (gP (fn:=Tryz.f69) rfl _ _ (w.heap.size+1) 0 0 rfl (Blk.row R0.o _)) rfl ?_;rw [HR2.o];exact ⟨rfl,ai B0.o (by omega) _⟩
  case pos=>
   have k1:(k:Int) < (nm:Int):=(by omega);have k2:(0:Int)≤(k:Int):=(by omega);obtain ⟨am,rfl,hab,hcx⟩:=M0.o k hlt;obtain ⟨m0,m1,m2⟩:=j4 (a:=am.add (k * 3)) hcx;have HX:=Hd (fun h:(ms[k].dev == dev)=true=>zP hlt (fun q hq=>hno.o q hq (by omega)) h);have HY:=Hd (fun h:(ms[k].dev == dev)=false=>show ∀ q (hq:q < k+1) (hql:q < ms.length),(ms[q].dev == dev)=false from fun q hq hql=>by
    by_cases he:q=k
    · subst he;exact h
    · exact hno.o q (by omega) hql)
   clear hcx hno hn;generalize ms[k]=m at *;cases hb:(m.dev == dev) with
   | true=>
    have HR2:=Hd (HR.o.trans (by rw [HX.o hb]));clear HX HY;go_wp2_with ((with_reducible refine ae ?_ 44 (.tmp 4) (.tmp 27) ?_ R0.o #[.int .i64 m.od, .int .i64 m.oi] ?_ ?_ ?_ ?_ ?_ ?_);(iterate 4 rfl);(exact dH _ _);rfl;(exact bT _ _));refine bodyPost_ret (gP (fn:=Tryz.f69) rfl _ _ (w.heap.size+1) m.od m.oi rfl (Blk.row R0.o _)) rfl ?_;rw [HR2.o];exact ⟨rfl,ai B0.o (by omega) _⟩
   | false=>
    have HZ:=Hd (HY.o hb);clear HX HY;obtain ⟨wk1,wk2⟩:=WK.o;go_wp2_with fail;clear wk1 wk2;go_roundw;case rel=>exact ⟨k+1,hlt,rfl,by first | rfl | trivial,HZ⟩
    case measure=>exact aL hlt _ rfl
theorem uD (ms:List Mt) (dev:Int):fq ms dev=((onR ms dev).2.2 || dev == 0):=by
 unfold fq onR;cases onF ms dev <;> rfl
theorem ou (dev:Int) (A:Option Addr) (n c:Nat) (ms:List Mt) (Am:Option Addr) (nm cm:Nat) (hn:nm=ms.length) (hl:nm≤1000) (w:World) (h:AtE EMt w w.heap.size Am ms):
  Calls Tryz.prog 68 #[.agg #[slV A n c,slV Am nm cm], .int .i64 dev] w fun e w' =>e= .returned (.bool (fq ms dev))∧Below w.heap.size w w' :=by
 have B0:=Hd ((Below.refl w.heap.size w).alloc (Nat.le_refl _) (.cells #[slV A n c,slV Am nm cm] 31));have HO:=Hd (ron dev A n c ms Am nm cm hn hl _ (h.below B0.o));have HM:=Hd (uD ms dev);clear h hn;go_in;go_wp2_with fail;refine HO.o.mono ?_;rintro e w1 ⟨rfl,hb⟩;have B1:=Hd (B0.o.trans (hb.mono B0.o.size));clear hb HO;generalize onR ms dev=o at *;obtain ⟨a,b,o⟩:=o;have HB2:=Hd (B1.o.alloc B1.o.size (.cells #[.int .i64 a, .int .i64 b] 44));cases o with
 | true=>
  go_wp2_with fail;go_ret;exact ⟨by rw [HM.o];rfl,HB2.o⟩
 | false=>
  cases h0:dev == 0 with
  | true=>
   go_wp2_with fail;go_ret;exact ⟨by rw [HM.o,h0];rfl,HB2.o⟩
  | false=>
   go_wp2_with fail;go_ret;exact ⟨by rw [HM.o,h0];rfl,HB2.o⟩
def DY (ms:List Mt) (d i:Int):Int×Bool:=match xR ms d i with | some x=>(x,true) | none=>(0,false)
theorem Bv {ms:List Mt} {d i:Int} {k:Nat} (hk:k < ms.length) (hn:∀ q (hq:q < k),flB ms[q].od ms[q].oi d i=false) (h:flB ms[k].od ms[k].oi d i=true):xR ms d i=some ms[k].dev:=by
 unfold xR;have:ms.find? (fun m=>m.od == d && m.oi == i)=some ms[k]:=by
  rw [List.find?_eq_some_iff_getElem];exact ⟨h,k,hk,rfl,fun j hj=>by have:=hn j hj;unfold flB at this;rw [this];decide⟩
 rw [this];rfl
theorem Bw {ms:List Mt} {d i:Int} (hn:∀ q (hq:q < ms.length),flB ms[q].od ms[q].oi d i=false):xR ms d i=none:=by
 unfold xR;have:ms.find? (fun m=>m.od == d && m.oi == i)=none:=by
  rw [List.find?_eq_none];intro m hm;obtain ⟨q,hq,rfl⟩:=List.getElem_of_mem hm;have:=hn q hq;unfold flB at this;rw [this];decide
 rw [this];rfl
theorem EF (d i:Int) (A:Option Addr) (n c:Nat) (ms:List Mt) (Am:Option Addr) (nm cm:Nat) (hn:nm=ms.length) (hl:nm≤1000) (w:World) (h:AtE EMt w w.heap.size Am ms):
  Calls Tryz.prog 170 #[.agg #[slV A n c,slV Am nm cm],flV d i] w fun e w' =>e= .returned (.tuple #[.int .i64 (DY ms d i).1, .bool (DY ms d i).2])∧Below w.heap.size w w' :=by
 have HN:=Hd hn;have B0:=Hd (aT w #[slV A n c,slV Am nm cm] #[.int .i64 d, .int .i64 i] 31 44);have M0:=Hd (h.below B0.o);have V0:=Hd ((Blk.new w #[slV A n c,slV Am nm cm] 31).alloc (.cells #[.int .i64 d, .int .i64 i] 44));have R0:=Hd (show Blk ((w.alloc (.cells #[slV A n c,slV Am nm cm] 31)).alloc (.cells #[.int .i64 d, .int .i64 i] 44)) (w.heap.size+1) 44 #[.int .i64 d, .int .i64 i] by
  have h:=Blk.new (w.alloc (.cells #[slV A n c,slV Am nm cm] 31)) #[.int .i64 d, .int .i64 i] 44;simp only [World.size_alloc] at h;exact h)
 have HR:=Hd (show DY ms d i=match xR ms d i with | some x=>(x,true) | none=>(0,false) from rfl);have HFL:=fun a b c d (W:World)=>uB a b c d W;clear h hn;go_in;go_wp2_with fail;generalize (w.alloc (.cells #[slV A n c,slV Am nm cm] 31)).alloc (.cells #[.int .i64 d, .int .i64 i] 44)=w0 at *;go_loopw [6] (fun ix wr=>∃ k t:Nat,k≤ms.length∧ix= .int .i64 k∧wr=w0.drewN t∧Hid (∀ q (hq:q < k) (hql:q < ms.length),flB ms[q].od ms[q].oi d i=false)) (fun ix _=>ms.length - (intOf ix).toNat);case atStart=>exact ⟨0,0,Nat.zero_le _,rfl,rfl,Hd (fun q hq=>absurd hq (Nat.not_lt_zero q))⟩
 case round=>
  obtain ⟨k,t,hk,rfl,rfl,hno⟩:=hrel;have v1:=V0.o.cell 1;have u0:=R0.o.cell 0;have u1:=R0.o.cell 1;have hn:=HN.o;have WK:=Hd (dE (q:=k) (by omega));by_cases hlt:k < ms.length;case neg=>
   have k1:¬ (k:Int) < (nm:Int):=(by omega);have HR2:=Hd (HR.o.trans (by rw [Bw (fun q hq=>hno.o q (by omega) hq)]));clear hno hn;go_wp2_with fail;refine bodyPost_ret (gm (fn:=Tryz.f170) rfl _ _) rfl ?_;exact ⟨by rw [HR2.o];rfl,below_drewN B0.o _⟩
  case pos=>
   have k1:(k:Int) < (nm:Int):=(by omega);have k2:(0:Int)≤(k:Int):=(by omega);obtain ⟨am,rfl,hab,hcx⟩:=M0.o k hlt;obtain ⟨m0,m1,m2⟩:=j4 (a:=am.add (k * 3)) hcx;have HX:=Hd (fun h:flB ms[k].od ms[k].oi d i=true=>Bv hlt (fun q hq=>hno.o q hq (by omega)) h);have HY:=Hd (fun h:flB ms[k].od ms[k].oi d i=false=>show ∀ q (hq:q < k+1) (hql:q < ms.length),flB ms[q].od ms[q].oi d i=false from fun q hq hql=>by
    by_cases he:q=k
    · subst he;exact h
    · exact hno.o q (by omega) hql)
   clear hcx hno hn;generalize ms[k]=m at *;cases hb:flB m.od m.oi d i with
   | true=>
    have HR2:=Hd (HR.o.trans (by rw [HX.o hb]));clear HX HY;go_upto_region 4 with fail;go_quiet (fail);go_wp2_with fail;refine bodyPost_ret (gm (fn:=Tryz.f170) rfl _ _) rfl ?_;exact ⟨by rw [HR2.o];rfl,below_drewN B0.o _⟩
   | false=>
    have HZ:=Hd (HY.o hb);clear HX HY;go_upto_region 4 with fail;go_quiet (fail);obtain ⟨wk1,wk2⟩:=WK.o;go_wp2_with fail;clear wk1 wk2;go_roundw;case rel=>exact ⟨k+1,t+nq,hlt,rfl,rfl,HZ⟩
    case measure=>exact aL hlt _ rfl
def Bz (ms:List Mt) (d i:Int):Bool:=(xR ms d i).isSome
theorem BC (ms:List Mt) (d i:Int):Bz ms d i=(DY ms d i).2:=by
 unfold Bz DY;cases xR ms d i <;> rfl
theorem EG (d i:Int) (A:Option Addr) (n c:Nat) (ms:List Mt) (Am:Option Addr) (nm cm:Nat) (hn:nm=ms.length) (hl:nm≤1000) (w:World) (h:AtE EMt w w.heap.size Am ms):
  Calls Tryz.prog 106 #[.agg #[slV A n c,slV Am nm cm],flV d i] w fun e w' =>e= .returned (.bool (Bz ms d i))∧Below w.heap.size w w' :=by
 have B0:=Hd (aT w #[slV A n c,slV Am nm cm] #[.int .i64 d, .int .i64 i] 31 44);have HO:=Hd (EF d i A n c ms Am nm cm hn hl _ (h.below B0.o));have HM:=Hd (BC ms d i);clear h hn;go_in;go_wp2_with fail;refine HO.o.mono ?_;rintro e w1 ⟨rfl,hb⟩;have B1:=Hd (B0.o.trans (hb.mono B0.o.size));clear hb HO;go_wp2_with fail;go_ret;exact ⟨by rw [HM.o];rfl,B1.o⟩
structure Ds where
 fd:Int
 d:Int
 i:Int
 fl:Int
structure Pc where
 pid:Int
 pp:Int
 ui:Int
 eu:Int
 gi:Int
 eg:Int
 au:Int
 se:Int
 cd:Int
 ci:Int
 co:ByteArray
 ex:ByteArray
 dl:Bool
structure Pm where
 p:Pc
 ds:List Ds
 A:Option Addr
 c:Nat
def Pm.sl (x:Pm):Value:= .slice x.A x.ds.length x.c
abbrev psC (p:Pc) (v:Value):Array Value:=#[.int .i64 p.pid, .int .i64 p.pp, .int .i64 p.ui, .int .i64 p.eu, .int .i64 p.gi, .int .i64 p.eg, .int .i64 p.au, .int .i64 p.se, .int .i64 p.cd, .int .i64 p.ci, .string p.co, .string p.ex,v, .bool p.dl]
def zPc:Pc:=⟨0,0,0,0,0,0,0,0,0,0,⟨#[]⟩,⟨#[]⟩,false⟩
theorem Tryz.EH:(Tryz.prog.info? 320).map (fun i=>(i.zero,i.size,i.bytes))=some (some (.agg #[.int .i64 0, .int .i64 0, .int .i64 0, .int .i64 0]),4,32):=by kernel_rfl
theorem Tryz.EI:(Tryz.prog.info? 47).map (fun i=>(i.zero,i.size,i.bytes))=some (some (.agg (psC zPc (.slice none 0 0))),14,144):=by kernel_rfl
def EDs:El Ds where
 C x:= [.int .i64 x.fd, .int .i64 x.d, .int .i64 x.i, .int .i64 x.fl]
 e:=320
 sl:=45
 sz:=4
 bs:=32
 len _:=rfl
 one x u hu:=by simp at hu;rcases hu with rfl | rfl | rfl | rfl <;> rfl
 pos:=by omega
 small:=by omega
 hu:=Tryz.underlying45
 info:=by
  obtain ⟨i0,h1,h2,h3,h4⟩:=info_parts Tryz.EH;exact ⟨i0,_,h1,h2,h3,h4,rfl⟩
def EPc:El Pm where
 C x:= [.int .i64 x.p.pid, .int .i64 x.p.pp, .int .i64 x.p.ui, .int .i64 x.p.eu, .int .i64 x.p.gi, .int .i64 x.p.eg, .int .i64 x.p.au, .int .i64 x.p.se, .int .i64 x.p.cd, .int .i64 x.p.ci, .string x.p.co, .string x.p.ex, .slice x.A x.ds.length x.c, .bool x.p.dl]
 e:=47
 sl:=32
 sz:=14
 bs:=144
 len _:=rfl
 one x u hu:=by simp at hu;rcases hu with rfl | rfl | rfl | rfl | rfl | rfl | rfl | rfl | rfl | rfl | rfl | rfl | rfl | rfl <;> rfl
 pos:=by omega
 small:=by omega
 hu:=Tryz.underlying32
 info:=by
  obtain ⟨i0,h1,h2,h3,h4⟩:=info_parts Tryz.EI;exact ⟨i0,_,h1,h2,h3,h4,rfl⟩
structure jH (w:World) (B:Nat) (A:Option Addr) (ps:List Pm):Prop where
 at_:AtE EPc w B A ps
 few:ps.length≤1000
 opens:∀ x∈ps,AtE EDs w B x.A x.ds∧x.ds.length≤1000
section
variable {w w' :World} {B B' :Nat} {A:Option Addr} {ps:List Pm}
theorem jH.keep (h:jH w B A ps) (hb:Below B' w w') (hB:B≤B'):jH w' B A ps:=
 ⟨h.at_.keep hb hB,h.few,fun x hx=>⟨(h.opens x hx).1.keep hb hB,(h.opens x hx).2⟩⟩
theorem jH.more (h:jH w B A ps) (hB:B≤B'):jH w B' A ps:=
 ⟨h.at_.more hB,h.few,fun x hx=>⟨(h.opens x hx).1.more hB,(h.opens x hx).2⟩⟩
theorem jH.below (h:jH w w.heap.size A ps) (hb:Below w.heap.size w w'):jH w' w'.heap.size A ps:=(h.keep hb (Nat.le_refl _)).more hb.size
end
theorem gQ (p:Pc) (v:Value):(Tryz.prog.info? 47).map (·.size)=some (psC p v).size:=by show _=some 14;kernel_rfl
theorem qH (p:Pc) (A:Option Addr) (n c:Nat):(psC p (.slice A n c)).all (·.oneCell')=true:=by simp [Value.oneCell']
theorem yh {x:Nd} (h:lJ x=true):x.tg.size≤128:=by
 unfold lJ at h;rw [Bool.and_eq_true] at h;have h2:=h.2;split at h2
 · unfold mG at h2;simp only [Bool.and_eq_true,decide_eq_true_eq] at h2;exact h2.2
 · have:x.tg.toList= []:=(by simpa using h2);have e:=congrArg List.length this;rw [ByteArray.toList_eq,Array.length_toList] at e;show x.tg.data.size≤128;rw [e];decide
theorem jI {w:World} {g:Nat} {x:Nd} {v:Value} (h:Blk w g 145 (ndC x v)):w.cell? ⟨g,0,none⟩=some (.int .i64 x.ino)∧w.cell? ⟨g,1,none⟩=some (.int .i64 x.kind)∧w.cell? ⟨g,2,none⟩=some (.int .i64 x.mode)∧w.cell? ⟨g,3,none⟩=some (.int .i64 x.uid)∧w.cell? ⟨g,4,none⟩=some (.int .i64 x.gid)∧w.cell? ⟨g,5,none⟩=some (.int .i64 x.par)∧w.cell? ⟨g,6,none⟩=some (.string x.tg)∧w.cell? ⟨g,7,none⟩=some v:=
 ⟨h.cell 0,h.cell 1,h.cell 2,h.cell 3,h.cell 4,h.cell 5,h.cell 6,h.cell 7⟩
theorem yj {α:Type} (x:α):∃ y, [x]= [y]:=⟨x,rfl⟩
theorem EO (dev ino:Int) (nm:ByteArray) (hm:nm.size≤1000) (x:Nd) (Ax:Option Addr) (nx cx:Nat) (hx:x.tg.size≤maxLen) (ds:List Dm) (A:Option Addr) (n c:Nat) (hn:n=ds.length) (hok:FOk (ds.map Dm.dv)) (w:World) (h:bZ w w.heap.size A ds):
  Calls Tryz.prog 168 #[fsV A n c,flV dev ino, .string nm, .agg (ndC x (.slice Ax nx cx))] w (jG (fun f' cs=>xO (ds.map Dm.dv) dev ino nm x f' ∧∃ y,cs= [y]) w):=by
 have HN:=Hd hn;have HM:=Hd hm;have HOK:=Hd hok;have HXS:=Hd hx;obtain ⟨hs,hxb⟩:=Jg w A n c ds hn dev ino h (ndC x (.slice Ax nx cx)) 145;have S0:=Hd hs;have X0:=Hd hxb;clear hs hxb h hn hok hx;have HM9:nm.size≤maxLen:=by unfold maxLen;omega
 have HM8:=Hd HM9;clear HM9 hm;go_in;go_wp2_with fail;generalize (((w.alloc (.cells #[.slice A n c] 28)).alloc (.cells #[.int .i64 dev, .int .i64 ino] 44)).alloc (.cells (ndC x (.slice Ax nx cx)) 145)).alloc (.cells #[.slice none 0 0] 28)=w0 at *;refine (jr dev ino nm HM8.o ds A n c HN.o w0 S0.o.files).mono ?_;rintro e w1 ⟨rfl,hb⟩;have S1:=Hd (S0.o.grow hb);have X1:=Hd (X0.o.below hb);clear hb;by_cases hp:bf (ds.map Dm.dv) dev ino nm=0;case neg=>
  have HK:=Hd hp;obtain ⟨p1,p2⟩:=aN hp;clear hp;go_wp2_with ((with_reducible refine ae ?_ 28 (.tmp 8) (.tmp 30) ?_ S1.o.R #[.slice none 0 0] ?_ ?_ ?_ ?_ ?_ ?_);(iterate 4 rfl);(exact bQ _);rfl;(exact bn _ _ _));refine bodyPost_ret (aM (fn:=Tryz.f168) rfl _ _ _ (.slice none 0 0) rfl (Blk.row S1.o.R _)) rfl ?_;exact S1.o.err _ HK.o
 case pos=>
 have HP0:=Hd hp;rw [hp];clear hp;have v0:=S1.o.V.cell 0;have u0:=S1.o.U.cell 0;have u1:=S1.o.U.cell 1;obtain ⟨x0,x1,x2,x3,x4,x5,x6,x7⟩:=jI X1.o;go_wp2_with fail;clear v0 u0 u1 x0 x1 x2 x3 x4 x5 x6 x7;refine (tC x _ HXS.o w1).mono ?_;rintro e w2 ⟨rfl,hb⟩;have S2:=Hd (S1.o.grow hb);have X2:=Hd (X1.o.below hb);clear hb;cases hpl:lJ x with
 | false=>
  clear hpl;go_wp2_with ((with_reducible refine ae ?_ 28 (.tmp 8) (.tmp 30) ?_ S2.o.R #[.slice none 0 0] ?_ ?_ ?_ ?_ ?_ ?_);(iterate 4 rfl);(exact bQ _);rfl;(exact bn _ _ _));refine bodyPost_ret (aM (fn:=Tryz.f168) rfl _ _ _ (.slice none 0 0) rfl (Blk.row S2.o.R _)) rfl ?_;exact S2.o.err _ (by decide)
 | true=>
  have HPL:=Hd (yh hpl);clear hpl;have v0:=S2.o.V.cell 0;have u0:=S2.o.U.cell 0;have u1:=S2.o.U.cell 1;obtain ⟨x0,x1,x2,x3,x4,x5,x6,x7⟩:=jI X2.o;go_wp2_with fail;clear v0 u0 u1 x0 x1 x2 x3 x4 x5 x6 x7;refine (fE dev ino nm ds A n c HN.o w2 S2.o.files).mono ?_;rintro e w4 ⟨rfl,hb⟩;have S4:=Hd (S2.o.grow hb);have X4:=Hd (X2.o.below hb);clear hb;generalize hr:cB (ds.map Dm.dv) dev ino nm=rr at *;obtain ⟨ke,r1,r2⟩:=rr;by_cases hz:ke=0;case pos=>
   subst hz;have S5:=Hd (S4.o.alloc (.cells #[.int .i64 r1, .int .i64 r2] 44));go_wp2_with ((with_reducible refine ae ?_ 28 (.tmp 8) (.tmp 41) ?_ S5.o.R #[.slice none 0 0] ?_ ?_ ?_ ?_ ?_ ?_);(iterate 4 rfl);(exact bQ _);rfl;(exact bn _ _ _));refine bodyPost_ret (aM (fn:=Tryz.f168) rfl _ _ _ (.slice none 0 0) rfl (Blk.row S5.o.R _)) rfl ?_;exact S5.o.err _ (by decide)
  case neg=>
  have HKE:=Hd hz;have HLK:=Hd hr;obtain ⟨p1,p4⟩:=aN hz;clear hz hr;obtain ⟨nd1,hn1,hk1,xS⟩:=bC HP0.o;obtain ⟨ki,hki⟩:=fH hn1;obtain ⟨j,hj,hkj,hdj,hxx⟩:=dQ hki;clear hxx;subst hdj;have HP1:=Hd hn1;clear hn1 hk1 xS hki hkj;have S5:=Hd (S4.o.alloc (.cells #[.int .i64 r1, .int .i64 r2] 44));have X5:=Hd (X4.o.alloc (.cells #[.int .i64 r1, .int .i64 r2] 44));clear S4 X4 S2 X2 S1 X1;have j1:(j:Int) < (n:Int):=by rw [HN.o];omega
  have j2:(0:Int)≤(j:Int):=by omega
  obtain ⟨ad,hA,hab,hcx⟩:=S5.o.src.at_ j hj;subst hA;obtain ⟨s0,s1⟩:=bM (a:=ad.add (j * 2)) hcx;clear hcx;have HJD:=Hd (show eZ (ds.map Dm.dv) (j:Int)=some ds[j].dv from by rw [dG (by omega) (by rw [Int.toNat_natCast];exact hj)];rfl);have HNL:=Hd (S5.o.src.nodes ds[j] (List.getElem_mem hj)).2;go_upto_region 9 with fail;generalize w4.alloc (.cells #[.int .i64 r1, .int .i64 r2] 44)=w5 at *;clear p1 p4;have v0:=S5.o.V.cell 0;have u0:=S5.o.U.cell 0;have u1:=S5.o.U.cell 1;generalize hdd:ds[j]=d at *;have HDD:=Hd hdd;clear hdd;have S6:=Hd (S5.o.alloc (.cells (dvC d.nx (.slice d.A d.xs.length d.c)) 142));have X6:=Hd (X5.o.alloc (.cells (dvC d.nx (.slice d.A d.xs.length d.c)) 142));have D6:=Hd (Blk.new w5 (dvC d.nx (.slice d.A d.xs.length d.c)) 142);go_upto_region 10 with fail;clear v0 u0 u1;clear s0 s1;generalize w5.alloc (.cells (dvC d.nx (.slice d.A d.xs.length d.c)) 142)=w6 at *;have d0:=D6.o.cell 0;have d1:=D6.o.cell 1;by_cases h16:d.xs.length < 16;case neg=>
   have q1:(16:Int)≤(d.xs.length:Int):=(by omega);clear h16;go_wp2_with ((with_reducible refine ae ?_ 28 (.tmp 8) (.tmp 62) ?_ S6.o.R #[.slice none 0 0] ?_ ?_ ?_ ?_ ?_ ?_);(iterate 4 rfl);(exact bQ _);rfl;(exact bn _ _ _));refine bodyPost_ret (aM (fn:=Tryz.f168) rfl _ _ _ (.slice none 0 0) rfl (Blk.row S6.o.R _)) rfl ?_;exact S6.o.err _ (by decide)
  case pos=>
  have H16:=Hd h16;have q1:¬ (16:Int)≤(d.xs.length:Int):=by omega
  clear h16;by_cases hnx:d.nx=1073741824;case pos=>
   have q2:=(bH hnx).1;clear hnx;go_wp2_with ((with_reducible refine ae ?_ 28 (.tmp 8) (.tmp 62) ?_ S6.o.R #[.slice none 0 0] ?_ ?_ ?_ ?_ ?_ ?_);(iterate 4 rfl);(exact bQ _);rfl;(exact bn _ _ _));refine bodyPost_ret (aM (fn:=Tryz.f168) rfl _ _ _ (.slice none 0 0) rfl (Blk.row S6.o.R _)) rfl ?_;exact S6.o.err _ (by decide)
  case neg=>
  have HNX:=Hd hnx;have q2:=(aN hnx).1;clear hnx;have v0:=S6.o.V.cell 0;have u0:=S6.o.U.cell 0;have u1:=S6.o.U.cell 1;go_wp2_with fail;clear v0 u0 u1;clear d0 d1 q1 q2;refine (tL (j:Int) ino ds (some ad) n c HN.o w6 S6.o.files).mono ?_;rintro e w7 ⟨rfl,hb⟩;have S7:=Hd (S6.o.grow hb);have X7:=Hd (X6.o.below hb);have D7:=Hd (D6.o.below hb);clear hb;cases hf:jO (ds.map Dm.dv) (j:Int) ino with
  | true=>
   clear hf;go_wp2_with ((with_reducible refine ae ?_ 28 (.tmp 8) (.tmp 62) ?_ S7.o.R #[.slice none 0 0] ?_ ?_ ?_ ?_ ?_ ?_);(iterate 4 rfl);(exact bQ _);rfl;(exact bn _ _ _));refine bodyPost_ret (aM (fn:=Tryz.f168) rfl _ _ _ (.slice none 0 0) rfl (Blk.row S7.o.R _)) rfl ?_;exact S7.o.err _ (by decide)
  | false=>
   have HF:=Hd hf;clear hf S5 X5 S6 X6 D6;have v0:=S7.o.V.cell 0;have u0:=S7.o.U.cell 0;have u1:=S7.o.U.cell 1;go_wp2_with fail;clear v0 u0 u1;refine (jF ds (some ad) n c HN.o w7 S7.o.files).mono ?_;rintro e w8 ⟨v8,es,rfl,ho8,he8,hb⟩;have S8:=Hd ((S7.o.grow hb));have X8:=Hd (X7.o.below hb);have D8:=Hd (D7.o.below hb);obtain ⟨A8,c8,rfl,_⟩:=ho8.at;have HR7:=Hd (show w.heap.size+1+1+1 < w7.heap.size from S7.o.R.lt);have HB7:=Hd (show w7.heap.size≤w8.heap.size from hb.size);have HE:=Hd he8;have HEL:es.length=ds.length:=(by have:=congrArg List.length he8;simpa using this);have HLN:=Hd HEL;have hje:j < es.length:=(by rw [HEL];exact hj);have HJE:=Hd (show eZ (es.map Dm.dv) (j:Int)=some es[j].dv from by rw [dG (by omega) (by rw [Int.toNat_natCast];exact hje)];rfl);have HDE:=Hd (show es[j].dv=d.dv from by have h1:=HJE.o;rw [HE.o,HJD.o] at h1;injection h1 with h1;exact h1.symm);obtain ⟨g8,BL,DZ,Js,BM⟩:=aX ho8.own (by omega);subst BL;clear BM HEL;have S9:=Hd (S8.o.alloc (.cells #[.slice (some ⟨g8,0,none⟩) es.length c8] 28));have X9:=Hd (X8.o.alloc (.cells #[.slice (some ⟨g8,0,none⟩) es.length c8] 28));have D9:=Hd (D8.o.alloc (.cells #[.slice (some ⟨g8,0,none⟩) es.length c8] 28));have O9:=Hd (Blk.new w8 #[.slice (some ⟨g8,0,none⟩) es.length c8] 28);have HO9:=Hd (ho8.below ((Below.refl w8.heap.size w8).alloc (Nat.le_refl _) (.cells #[.slice (some ⟨g8,0,none⟩) es.length c8] 28)));clear hb ho8 he8 S7 X7 D7 S8 X8 D8;go_upto_region 13 with fail;generalize w8.alloc (.cells #[.slice (some ⟨g8,0,none⟩) es.length c8] 28)=w9 at *;have d0:=D9.o.cell 0;have v0:=S9.o.V.cell 0;have u0:=S9.o.U.cell 0;have u1:=S9.o.U.cell 1;obtain ⟨x0,x1,x2,x3,x4,x5,x6,x7⟩:=jI X9.o;have S10:=Hd (S9.o.alloc (.cells (ndC ⟨d.nx,x.kind,x.mode,x.uid,x.gid,0,x.tg, []⟩ (.slice none 0 0)) 145));have X10:=Hd (X9.o.alloc (.cells (ndC ⟨d.nx,x.kind,x.mode,x.uid,x.gid,0,x.tg, []⟩ (.slice none 0 0)) 145));have O10:=Hd (O9.o.alloc (.cells (ndC ⟨d.nx,x.kind,x.mode,x.uid,x.gid,0,x.tg, []⟩ (.slice none 0 0)) 145));have Y10:=Hd (Blk.new w9 (ndC ⟨d.nx,x.kind,x.mode,x.uid,x.gid,0,x.tg, []⟩ (.slice none 0 0)) 145);have JD:=Hd (HO9.o.below ((Below.refl w9.heap.size w9).alloc (Nat.le_refl _) (.cells (ndC ⟨d.nx,x.kind,x.mode,x.uid,x.gid,0,x.tg, []⟩ (.slice none 0 0)) 145)));have HW9:=Hd (show w8.heap.size < w9.heap.size from O9.o.lt);have IB:=Hd (HO9.o.new (g:=w9.heap.size) (Nat.le_refl _));go_upto_region 14 with fail;clear d0;clear v0 u0 u1 x0 x1 x2 x3 x4 x5 x6 x7;clear S9 X9 O9 HO9 D9;generalize w9.alloc (.cells (ndC ⟨d.nx,x.kind,x.mode,x.uid,x.gid,0,x.tg, []⟩ (.slice none 0 0)) 145)=w10 at *;have v0:=S10.o.V.cell 0;have u0:=S10.o.U.cell 0;have u1:=S10.o.U.cell 1;obtain ⟨x0,x1,x2,x3,x4,x5,x6,x7⟩:=jI X10.o;go_upto_if 80 with fail;go_cut [] (fun wx=>OpF w wx (some ad) n c ds (j:Int) ino (w.heap.size+1+1+1)∧Blk wx w8.heap.size 28 #[(.slice (some ⟨g8,0,none⟩) es.length c8)]∧Blk wx w9.heap.size 145 (ndC (il d.dv x ino) (.slice none 0 0))∧aC wx w7.heap.size (.slice (some ⟨g8,0,none⟩) es.length c8) es);case first=>
    by_cases hkd:x.kind=2;case pos=>
      have q3:=(bH hkd).1;have y5:=Y10.o.cell 5;have yf:=Y10.o.free 5;have SA:=S10.o.keep (B:=w9.heap.size) ((Below.refl w9.heap.size w10).setCell (p:=⟨w9.heap.size,5,none⟩) (Nat.le_refl _) (.int .i64 ino)) (by have:=HR7.o;have:=HB7.o;have:=HW9.o;omega);have OA:=O10.o.af (p:=⟨w9.heap.size,5,none⟩) (.int .i64 ino) (by show w8.heap.size≠w9.heap.size;have:=HW9.o;omega);have HYN:=Hd (show il d.dv x ino=⟨d.nx,x.kind,x.mode,x.uid,x.gid,ino,x.tg, []⟩ by unfold il;rw [if_pos hkd];rfl);have YA:=Y10.o.put 5 (.int .i64 ino);have HOA:=JD.o.far (av w10 w9.heap.size 5 (.int .i64 ino)) (fun q e=>by injection e with e;subst e;exact IB.o);clear hkd;have SA:=Hd SA;have OA:=Hd OA;have YA:=Hd YA;have HOA:=Hd HOA;go_wp2_with fail;go_meet;exact ⟨SA.o,OA.o,by rw [HYN.o];exact YA.o,HOA.o⟩
    case neg=>
      have q3:=(aN hkd).1;have HYN:=Hd (show il d.dv x ino=⟨d.nx,x.kind,x.mode,x.uid,x.gid,0,x.tg, []⟩ by unfold il;rw [if_neg hkd];rfl);clear hkd;go_wp2_with fail;go_meet;exact ⟨S10.o,O10.o,by rw [HYN.o];exact Y10.o,JD.o⟩
   case rest=>
   obtain ⟨hS,hO,hY,hF⟩:=hcut;generalize wc=wa at *;have SA:=Hd hS;have OA:=Hd hO;have YA:=Hd hY;have HOA:=Hd hF;clear hS hO hY hF S10 X10 O10 Y10 JD;clear v0 u0 u1 x0 x1 x2 x3 x4 x5 x6 x7;go_upto_region 16 with fail;obtain ⟨N,hN⟩:∃ N,N=il d.dv x ino:=⟨_,rfl⟩;have HNN:=Hd hN;rw [← hN] at YA;clear hN;have hje:j < es.length:=(by rw [HLN.o];exact hj);have j3:(j:Int) < (es.length:Int):=(by omega);obtain ⟨ad8,e0,EN,zS⟩:=aR HOA.o.own j hje;injection e0 with e0;subst e0;obtain ⟨s00,s1⟩:=bM (a:=(⟨g8,0,none⟩:Addr).add (j * 2)) zS;rw [bO] at s1;replace s1:wa.cell? ⟨g8,j * 2+1,none⟩=some (.slice es[j].A es[j].xs.length es[j].c):=s1;clear s00 zS EN;obtain ⟨dj,hdj⟩:∃ dj,dj=es[j]:=⟨_,rfl⟩;have HDJ:=Hd hdj;rw [← hdj] at s1;clear hdj;have HDL:=Hd (show dj.xs.length≤15 by have h1:=congrArg (fun d:Dv=>d.ns.length) HDE.o;rw [← HDJ.o] at h1;have h2:=H16.o;simp [Dm.dv] at h1;omega);have JE:=Hd (show w7.heap.size≤wa.heap.size by have:=YA.o.lt;have:=HW9.o;have:=HB7.o;omega);have hw8:w8.heap.size < w9.heap.size:=HW9.o;have hw7:w7.heap.size≤w8.heap.size:=HB7.o;have hr7:w.heap.size+1+1+1 < w7.heap.size:=HR7.o;go_cut [] (fun wx=>∃ (A9:Option Addr) (c9:Nat),Below w7.heap.size wa wx∧aC wx w7.heap.size (.slice (some ⟨g8,0,none⟩) es.length c8) (es.set j ⟨dj.nx,dj.xs ++ [⟨N,none,0⟩],A9,c9⟩)∧Blk wx w8.heap.size 28 #[(.slice (some ⟨g8,0,none⟩) es.length c8)]∧Blk wx w9.heap.size 145 (ndC N (.slice none 0 0))∧(∀ q,(Value.slice A9 (dj.xs.length+1) c9).ownBlock=some q→q≠w9.heap.size));case first=>
    refine wp_region_held_drew (S:=(fun W=>Blk W w8.heap.size 28 #[(.slice (some ⟨g8,0,none⟩) es.length c8)]∧Blk W (w.heap.size+1) 44 #[.int .i64 (j:Int), .int .i64 ino]∧Blk W w9.heap.size 145 (ndC N (.slice none 0 0)))) (by kernel_rfl) ⟨OA.o,SA.o.U,YA.o⟩ (fun hHeld=>?_);refine tk hHeld 0 ?_ ?_ (tk hHeld 1 ?_ ?_ (tk hHeld 2 ?_ ?_ (tk hHeld 3 ?_ ?_ (tk hHeld 4 ?_ ?_ (tk hHeld 5 ?_ ?_ (tk hHeld 6 ?_ ?_ (tk hHeld 7 ?_ ?_ (tk hHeld 8 ?_ ?_ (tk hHeld 9 ?_ ?_ ?_)))))))));iterate 10
      rotate_left
      · intro W hSw;obtain ⟨z0,z1,z2⟩:=hSw;have o0:=z0.cell 0;have u0:=z1.cell 0;have u1:=z1.cell 1;go_simp;try (with_reducible rfl)
    refine tk hHeld 11 ?_ ?_ ?_;rotate_left
    · intro W hSw;obtain ⟨z0,z1,z2⟩:=hSw;obtain ⟨y0,y1,y2,y3,y4,y5,y6,y7⟩:=jI z2;go_simp;try (with_reducible rfl)
    have HOB:=Hd (HOA.o.below ((Below.refl wa.heap.size wa).alloc (Nat.le_refl _) (.cells (ndC N (.slice none 0 0)) 145)));have RW:=Hd (aI ENd wa (ndC N (.slice none 0 0)) 145 ⟨N,none,0⟩ (show (ndC N (.slice none 0 0)).toList= [_,_,_,_,_,_,_, .slice none N.es.length 0] by rw [HNN.o];rfl) (Nat.lt_succ_self wa.heap.size));have hhB:=show Blk (wa.alloc (.cells (ndC N (.slice none 0 0)) 145)) w8.heap.size 28 #[(.slice (some ⟨g8,0,none⟩) es.length c8)]∧Blk (wa.alloc (.cells (ndC N (.slice none 0 0)) 145)) (w.heap.size+1) 44 #[.int .i64 (j:Int), .int .i64 ino]∧Blk (wa.alloc (.cells (ndC N (.slice none 0 0)) 145)) w9.heap.size 145 (ndC N (.slice none 0 0)) from ⟨OA.o.alloc _,SA.o.U.alloc _,YA.o.alloc _⟩;have s1B:=((Below.refl wa.heap.size wa).alloc (Nat.le_refl _) (.cells (ndC N (.slice none 0 0)) 145)).cell (p:=⟨g8,j * 2+1,none⟩) (show g8 < wa.heap.size from HOA.o.own.lt g8 rfl);rw [s1] at s1B;refine wpAnyH_ready (rs:= [10,12]) (by kernel_rfl) (by simp) ?_;refine AllReadyH.cons rfl (fun K hK=>?_) (AllReadyH.cons rfl (fun K hK=>?_) AllReadyH.nil);all_goals
      (first | ((go_simp);(refine hK.o _ _ ⟨OA.o,SA.o.U,YA.o⟩ (fun hHeld=>?_));(clear hK K);(refine wpAnyH_ready (rs:= [12]) (by kernel_rfl) (by simp) ?_);(refine AllReadyH.cons rfl (fun K hK=>?_) AllReadyH.nil);(go_simp);(refine hK.o _ _ hhB (fun hHeld=>?_));(clear hK K)) | ((go_simp);(refine hK.o _ _ hhB (fun hHeld=>?_));(clear hK K);(refine wpAnyH_ready (rs:= [10]) (by kernel_rfl) (by simp) ?_);(refine AllReadyH.cons rfl (fun K hK=>?_) AllReadyH.nil);(go_simp);(refine hK.o _ _ hhB (fun hHeld=>?_));(clear hK K)));refine rdy1 13 (fun K hK=>?_);refine aQ ENd (by rfl) (.tmp 94) (.tmp 96) (by rfl) w7.heap.size (.slice dj.A dj.xs.length dj.c) dj.xs (by rfl) (by have h9:=(HOB.o.nodes _ (List.getElem_mem hje)).1;rw [← HDJ.o] at h9;exact h9) (wa.heap.size+1) (some ⟨wa.heap.size,0,none⟩) 1 1 [⟨N,none,0⟩] (by rfl) (by rfl) (by exact RW.o) (by have:=HDL.o;rw [List.length_singleton];omega) (by have:=JE.o;show w7.heap.size≤_;simp;omega) ?_;intro v6 w6b ho6 hg6 iL;have hg6:(wa.alloc (.cells (ndC N (.slice none 0 0)) 145)).grownBy w6b (Value.slice dj.A dj.xs.length dj.c).ownBlock:=⟨hg6.os,hg6.tape,hg6.output,hg6.size,hg6.block⟩;have iL:v6.ownBlock=(Value.slice dj.A dj.xs.length dj.c).ownBlock∨v6.ownBlock=some (wa.alloc (.cells (ndC N (.slice none 0 0)) 145)).heap.size:=iL;obtain ⟨A9,c9,e9,_⟩:=ho6.at;rw [show (dj.xs ++ [(⟨N,none,0⟩:Nm)]).length=dj.xs.length+1 by simp] at e9;subst e9;have hrow:∀ q,(Value.slice dj.A dj.xs.length dj.c).ownBlock=some q→(Value.slice (some ⟨g8,0,none⟩) es.length c8).ownBlock=some q∨∃ d∈es,d.sl.ownBlock=some q:=fun q e=> .inr ⟨es[j],List.getElem_mem hje,by rw [← HDJ.o];exact e⟩;have hh6:Blk w6b w8.heap.size 28 #[(.slice (some ⟨g8,0,none⟩) es.length c8)]∧Blk w6b (w.heap.size+1) 44 #[.int .i64 (j:Int), .int .i64 ino]∧Blk w6b w9.heap.size 145 (ndC N (.slice none 0 0)):=⟨HOB.o.spare hg6 hrow hhB.1 (by decide) (by decide),HOB.o.spare hg6 hrow hhB.2.1 (by decide) (by decide),hhB.2.2.grown hg6 (fun e=>IB.o.2.1 es[j] (List.getElem_mem hje) (by rw [← HDJ.o];exact e))⟩;have hv6:ax EDv w6b w7.heap.size (.slice (some ⟨g8,0,none⟩) es.length c8) es:=HOB.o.own.far hg6 (fun q e r=>aB HOB.o.own (HOB.o.nodes _ (List.getElem_mem hje)).1 (show (142:Nat)≠145 by decide) q e (by rw [← HDJ.o];exact r));obtain ⟨ad9,e0,JF,ES⟩:=aR hv6 j hje;injection e0 with e0;subst e0;obtain ⟨s00,s16⟩:=bM (a:=(⟨g8,0,none⟩:Addr).add (j * 2)) ES;rw [bO, ← HDJ.o] at s16;replace s16:w6b.cell? ⟨g8,j * 2+1,none⟩=some (.slice dj.A dj.xs.length dj.c):=s16;have sf6:=hv6.free (j * 2+1);have HFS:=Hd (HOB.o.addN hje HDJ.o (by simp) ho6 hg6 iL (by have:=HDL.o;omega) ⟨by show N.es= [];rw [HNN.o];rfl,rfl,rfl⟩ (by show iP N;rw [HNN.o];exact ⟨Nat.zero_le _,by show x.tg.size≤1000;have:=HPL.o;omega,fun e he=>by cases he⟩));have HLW:=Hd (show Below w7.heap.size wa (w6b.setCell ⟨g8,j * 2+1,none⟩ (.slice A9 (dj.xs.length+1) c9)) from (((Below.refl w7.heap.size wa).alloc JE.o (.cells (ndC N (.slice none 0 0)) 145)).grown hg6 (by have:=JE.o;simp;omega) (fun q e=>(HOB.o.nodes _ (List.getElem_mem hje)).1.ge q (by rw [← HDJ.o];exact e))).setCell (p:=⟨g8,j * 2+1,none⟩) (by exact DZ) _);have hh7:∀ u:Value,Blk (w6b.setCell ⟨g8,j * 2+1,none⟩ u) w8.heap.size 28 #[(.slice (some ⟨g8,0,none⟩) es.length c8)]∧Blk (w6b.setCell ⟨g8,j * 2+1,none⟩ u) (w.heap.size+1) 44 #[.int .i64 (j:Int), .int .i64 ino]∧Blk (w6b.setCell ⟨g8,j * 2+1,none⟩ u) w9.heap.size 145 (ndC N (.slice none 0 0)):=fun u=>⟨hh6.1.af _ (by show w8.heap.size≠g8;omega),hh6.2.1.af _ (by show w.heap.size+1≠g8;omega),hh6.2.2.af _ (by show w9.heap.size≠g8;omega)⟩;have HAY:=Hd (show ∀ q,(Value.slice A9 (dj.xs.length+1) c9).ownBlock=some q→q≠w9.heap.size from fun q e e2=>by
        subst e2;rcases iL with h | h
        · exact IB.o.2.1 es[j] (List.getElem_mem hje) (by rw [← HDJ.o, ← e,h])
        · rw [h] at e;injection e with e;simp only [World.size_alloc] at e;have:=YA.o.lt;omega)
      clear hg6 iL ho6 hv6 ES JF s00 hrow;refine hK.o _ _ hh6 (fun hHeld=>?_);clear hK K;refine tk hHeld 14 ?_ ?_ (tk hHeld 15 ?_ ?_ ?_);iterate 2
        rotate_left
        · intro W hSw;go_simp;try (with_reducible rfl)
      refine rdy1 16 (fun K hK=>?_);go_simp;refine hK.o _ _ (hh7 _) (fun hHeld=>?_);clear hK K;refine wpAnyH_done (by kernel_rfl) ?_ _;go_wp2_with fail;go_meet;exact ⟨A9,c9,HLW.o,HFS.o,(hh7 _).1,(hh7 _).2.2,HAY.o⟩
   case rest=>
    obtain ⟨A9,c9,hlow,hfs,hob,hyb,hay⟩:=hcut;have HAY:=Hd hay;clear hay;have SB:=Hd (SA.o.keep hlow hr7);clear SA OA YA HOA s1;have HL1:=Hd (show (es.set j (⟨dj.nx,dj.xs ++ [(⟨N,none,0⟩:Nm)],A9,c9⟩:Dm)).length=es.length from List.length_set ..);have hj1:j < (es.set j (⟨dj.nx,dj.xs ++ [(⟨N,none,0⟩:Nm)],A9,c9⟩:Dm)).length:=(by rw [HL1.o];exact hje);have hg1:(es.set j (⟨dj.nx,dj.xs ++ [(⟨N,none,0⟩:Nm)],A9,c9⟩:Dm))[j]=(⟨dj.nx,dj.xs ++ [(⟨N,none,0⟩:Nm)],A9,c9⟩:Dm):=List.getElem_set_self ..  ;obtain ⟨ad9,e0,JF,ES⟩:=aR hfs.own j hj1;injection e0 with e0;subst e0;obtain ⟨s0,s00⟩:=bM (a:=(⟨g8,0,none⟩:Addr).add (j * 2)) ES;rw [bO,hg1] at s0;replace s0:wc.cell? ⟨g8,j * 2,none⟩=some (.int .i64 dj.nx):=s0;have sf:wc.frozen? ⟨g8,j * 2,none⟩=false:=hfs.own.free (j * 2);have JG:=hfs.nodes _ (List.getElem_mem hj1);have JH:=hfs.cu _ (List.getElem_mem hj1);rw [hg1] at JG JH;have ET:=hfs.K7 (i:=0) (u:= .int .i64 (dj.nx+1)) (d' :=(⟨dj.nx+1,dj.xs ++ [(⟨N,none,0⟩:Nm)],A9,c9⟩:Dm)) hj1 (by omega) (by rw [hg1];rfl) JG JH (fun k hk hkj q e=>by have h9:=hfs.other hk hj1 hkj e;rw [hg1] at h9;exact h9);rw [List.set_set] at ET;replace ET:aC (wc.setCell ⟨g8,j * 2,none⟩ (.int .i64 (dj.nx+1))) w7.heap.size (.slice (some ⟨g8,0,none⟩) es.length c8) (es.set j (⟨dj.nx+1,dj.xs ++ [(⟨N,none,0⟩:Nm)],A9,c9⟩:Dm)):=ET;have HM2:=Hd (show (es.set j (⟨dj.nx+1,dj.xs ++ [(⟨N,none,0⟩:Nm)],A9,c9⟩:Dm)).map Dm.dv=lI (ds.map Dm.dv) j (fun d=>⟨d.nx+1,d.ns ++ [il d x ino]⟩) from by
      rw [jh es j hje (⟨dj.nx+1,dj.xs ++ [(⟨N,none,0⟩:Nm)],A9,c9⟩:Dm) (fun d=>⟨d.nx+1,d.ns ++ [il d x ino]⟩) (by rw [← HDJ.o];have h9:=HDE.o;rw [← HDJ.o] at h9;rw [h9];show (⟨dj.nx+1,(dj.xs ++ [(⟨N,none,0⟩:Nm)]).map (·.nd)⟩:Dv)=_;rw [List.map_append,HNN.o];have h8:=congrArg Dv.nx h9;have h7:=congrArg Dv.ns h9;simp only [Dm.dv] at h8 h7 ⊢;rw [h8,h7];rfl),HE.o])
    have Ll:=Hd (show dj.nx=d.nx by have h9:=congrArg Dv.nx HDE.o;rw [← HDJ.o] at h9;exact h9);have HDM:=Hd (show DOk NoZ d.dv from HOK.o.2.2 _ (bz HJD.o));have wx1:IntKind.i64.wrap (dj.nx+1)=dj.nx+1:=IntWalk.i64_in _ (by have h1:=HDM.o.nx2;have h2:=HDM.o.nxm;have h3:=Ll.o;simp only [Dm.dv] at h1 h2;omega);have wx2:wrap64 (dj.nx+1)=dj.nx+1:=IntWalk.wrap64_in _ (by have h1:=HDM.o.nx2;have h2:=HDM.o.nxm;have h3:=Ll.o;simp only [Dm.dv] at h1 h2;omega);have SC:=Hd (SB.o.keep (B:=w7.heap.size) ((Below.refl _ wc).setCell (p:=⟨g8,j * 2,none⟩) (by exact DZ) (.int .i64 (dj.nx+1))) hr7);have OC:=Hd (hob.af (p:=⟨g8,j * 2,none⟩) (.int .i64 (dj.nx+1)) (by show w8.heap.size≠g8;omega));have YC:=Hd (hyb.af (p:=⟨g8,j * 2,none⟩) (.int .i64 (dj.nx+1)) (by show w9.heap.size≠g8;omega));have JI:=Hd ET;have ML:=Hd (show w7.heap.size≤(wc.setCell ⟨g8,j * 2,none⟩ (.int .i64 (dj.nx+1))).heap.size by have:=OC.o.lt;omega);have o0:=hob.cell 0;have u0:=SB.o.U.cell 0;clear ET hfs hob hyb hlow JG JH ES s00 JF hg1 hj1;go_upto_region 18 with fail;clear o0 u0 s0 sf wx1 wx2 SB;generalize wc.setCell ⟨g8,j * 2,none⟩ (.int .i64 (dj.nx+1))=w11 at *;have o0:=OC.o.cell 0;have u0:=SC.o.U.cell 0;have u1:=SC.o.U.cell 1;have y0:=YC.o.cell 0;have HDV:=Hd (show eZ ((es.set j (⟨dj.nx+1,dj.xs ++ [(⟨N,none,0⟩:Nm)],A9,c9⟩:Dm)).map Dm.dv) (j:Int)=some ⟨d.nx+1,d.dv.ns ++ [il d.dv x ino]⟩ from by rw [HM2.o,show lI (ds.map Dm.dv) j _=lI (ds.map Dm.dv) ((j:Int).toNat) _ from rfl,dS HJD.o];exact bA HJD.o _);have hp1:=HP1.o;obtain ⟨d3,hd3,hm3,hi3⟩:=aG hp1;rw [HJD.o] at hd3;injection hd3 with hd3;subst hd3;obtain ⟨k4,hk4,_⟩:=fC HDV.o (List.mem_append_left _ hm3) hi3;have HK4:=Hd hk4;clear hk4 hp1 hi3;go_wp2_with fail;refine (jv (j:Int) ino nm HM.o N.ino (es.set j (⟨dj.nx+1,dj.xs ++ [(⟨N,none,0⟩:Nm)],A9,c9⟩:Dm)) (some ⟨g8,0,none⟩) es.length c8 (by rw [List.length_set]) w7.heap.size w11 JI.o ML.o k4 HK4.o (fun nd hnd=>by
      obtain ⟨d5,hd5,hm5,_⟩:=aG hnd;rw [HDV.o] at hd5;injection hd5 with hd5;subst hd5;rcases List.mem_append.1 hm5 with hm5 | hm5
      · have:=(HDM.o.cu nd hm5).1;omega
      · rw [List.mem_singleton.1 hm5];exact Nat.zero_le _)).mono ?_
    rintro e w99 ⟨ds9,rfl,ho9,he9,hl9,hb9,xU,hg9,hr9⟩;have S9:=Hd (SC.o.keep hb9 hr7);have O9:=Hd (JI.o.spare hg9 hr9 OC.o (by decide) (by decide));have HNY:=Hd (show (∀ q,xU=some q→q≠w9.heap.size) from fun q e e2=>by
      subst e2;rcases hr9 _ e with h | ⟨dd,hdd,h⟩
      · have h2:g8=w9.heap.size:=(by injection h);omega
      · rcases gW hdd with h2 | h2
        · rw [h2] at h;exact HAY.o _ (by have h3:(Value.slice A9 (dj.xs ++ [(⟨N,none,0⟩:Nm)]).length c9).ownBlock=some w9.heap.size:=h;simpa using h3) rfl
        · exact IB.o.2.1 dd h2 h)
    have Y9:=Hd (YC.o.grown hg9 (fun e=>HNY.o _ e rfl));have HO9:=Hd ho9;have HE9:=Hd he9;have HR6:=HR7;clear ho9 hb9 hg9 hr9 he9 SC OC YC JI o0 u0 u1 y0;have Oq:=hw7;go_upto_region 19 with fail;refine wp_region_held_drew (S:=(fun W=>Blk W (w.heap.size+1) 44 #[.int .i64 (j:Int), .int .i64 ino]∧Blk W (w9.heap.size) 145 (ndC N (.slice none 0 0))∧Blk W (w8.heap.size) 28 #[(.slice (some ⟨g8,0,none⟩) es.length c8)])) (by kernel_rfl) ⟨S9.o.U,Y9.o,O9.o⟩ (fun hHeld=>?_);refine tk hHeld 0 ?_ ?_ (tk hHeld 1 ?_ ?_ (tk hHeld 2 ?_ ?_ (tk hHeld 3 ?_ ?_ (tk hHeld 4 ?_ ?_ (tk hHeld 5 ?_ ?_ (tk hHeld 6 ?_ ?_ (tk hHeld 7 ?_ ?_ (tk hHeld 8 ?_ ?_ ?_))))))));iterate 9
      rotate_left
      · intro W hSw;obtain ⟨y0,y1,y2⟩:=hSw;have Ji:=y0.cell 0;have Jj:=y0.cell 1;have Jk:=y1.cell 0;have Jl:=y1.cell 1;have Ot:=y1.cell 2;have Ou:=y1.cell 3;have Ov:=y1.cell 4;have Ow:=y1.cell 5;have Ox:=y1.cell 6;have Oy:=y1.cell 7;have Jm:=y2.cell 0;have Oz:=y2.cell 1;have OB:=y2.cell 2;go_simp;try (with_reducible rfl)
    refine rdy1 9 (fun K hK=>?_);go_simp;go_at_call 229;refine (rM ⟨(j:Int),ino,nm,0,0,(j:Int),N.ino⟩ _).mono ?_;rintro e wz ⟨vz,rfl,hov,hbz⟩;have hbz:Below w99.heap.size w99 wz:=aa (Below.refl w99.heap.size w99).drew hbz;have hov:ax kY wz w99.heap.size vz [⟨(j:Int),ino,nm,0,0,(j:Int),N.ino⟩]:=hov;have hh:Blk wz (w.heap.size+1) 44 #[.int .i64 (j:Int), .int .i64 ino]∧Blk wz (w9.heap.size) 145 (ndC N (.slice none 0 0))∧Blk wz (w8.heap.size) 28 #[(.slice (some ⟨g8,0,none⟩) es.length c8)]:=⟨S9.o.U.below hbz,Y9.o.below hbz,O9.o.below hbz⟩;have RZ:=Hd (S9.o.R.below hbz);have HOV:=Hd hov;have HBZ:=Hd hbz;clear hbz hov;go_simp;refine hK.o _ _ hh (fun hHeld=>?_);clear hK K;have r0:=RZ.o.cell 0;have rf:=RZ.o.free 0;have hh2:∀ u:Value,Blk (wz.setCell ⟨(w.heap.size+1+1+1),0,none⟩ u) (w.heap.size+1) 44 #[.int .i64 (j:Int), .int .i64 ino]∧Blk (wz.setCell ⟨(w.heap.size+1+1+1),0,none⟩ u) (w9.heap.size) 145 (ndC N (.slice none 0 0))∧Blk (wz.setCell ⟨(w.heap.size+1+1+1),0,none⟩ u) (w8.heap.size) 28 #[(.slice (some ⟨g8,0,none⟩) es.length c8)]:=fun u=>⟨hh.1.af _ (by show _≠(w.heap.size+1+1+1);omega),hh.2.1.af _ (by show _≠(w.heap.size+1+1+1);omega),hh.2.2.af _ (by show _≠(w.heap.size+1+1+1);omega)⟩;refine rdy1 10 (fun K hK=>?_);go_simp;refine hK.o _ _ (hh2 _) (fun hHeld=>?_);clear hK K;clear hh2 hh r0 rf;refine tk hHeld 11 ?_ ?_ (tk hHeld 12 ?_ ?_ ?_);iterate 2
      rotate_left
      · intro W hSw;go_simp;try (with_reducible rfl)
    refine wpAnyH_done (by kernel_rfl) ?_ _;go_wp2_with fail;refine bodyPost_ret (aM (fn:=Tryz.f168) rfl _ _ (w.heap.size+1+1+1) (.slice (some ⟨g8,0,none⟩) es.length c8) rfl (RZ.o.put 0 _)) rfl ?_;have hof:=(HO9.o.below HBZ.o).far (av wz ((w.heap.size+1+1+1)) 0 (.slice (some ⟨g8,0,none⟩) es.length c8)) (fun q e=>by injection e with e;subst e;exact (HO9.o.below HBZ.o).old (by have:=HR6.o;omega));refine ⟨(S9.o.low.trans (HBZ.o.mono S9.o.low.size)).setCell (p:=⟨(w.heap.size+1+1+1),0,none⟩) (by show w.heap.size≤(w.heap.size+1+1+1);omega) _, .inr ⟨(some ⟨g8,0,none⟩),es.length,c8,ds9,vz, [⟨(j:Int),ino,nm,0,0,(j:Int),N.ino⟩],hof.sJ.2,rfl,hof.low (by have:=HR6.o;omega),(HOV.o.bY (g:=(w.heap.size+1+1+1)) (i:=0) (fun e=>by have:=HOV.o.ge _ e;have:=S9.o.R.lt;omega) _).low S9.o.low.size,⟨⟨HP0.o,HPL.o,by rw [HLK.o];exact HKE.o,HF.o,d.dv,HJD.o,by have:=H16.o;simp [Dm.dv];exact this,HNX.o,by rw [HE9.o,HM2.o,HNN.o];rfl⟩,yj _⟩⟩⟩
theorem last_at (d:ByteArray) (k:Nat) (hk:d.size=k+1) (h:k < d.size):d.data.toList.getLast? =some d[k]:=by
 have hl:d.data.toList.length=k+1:=by rw [Array.length_toList];exact hk
 rw [List.getLast?_eq_getElem?,hl,Nat.add_sub_cancel,List.getElem?_eq_getElem (by omega)];rfl
theorem zT (d nm:ByteArray) (hd:d.size≤2000) (hn:nm.size≤2000) (w:World):
  Calls Tryz.prog 71 #[.string d, .string nm] w fun e w' =>e= .returned (.string (eQ d nm))∧w=w' :=by
 have HJ:=Hd (show eQ d nm=if (decide (0 < d.size) && (d.data.toList.getLast? == some 47))=true then d ++ nm else d ++ ⟨#[47]⟩ ++ nm from rfl);have hs1:(d.size:Int)+(nm.size:Int)≤4000:=by omega
 have hs2:d.size+nm.size≤4000:=by omega
 by_cases h0:0 < d.size;case neg=>
  have h0' :¬ (0:Int) < (d.size:Int):=by omega
  have HR:=Hd (HJ.o.trans (if_neg (by rw [decide_eq_false h0,Bool.false_and];decide)));clear HJ;go_in;go_wp2_with fail;go_ret;exact ⟨by rw [HR.o];rfl,rfl⟩
 case pos=>
  obtain ⟨k,hk⟩:∃ k,d.size=k+1:=⟨d.size - 1,by omega⟩;have hkd:k < d.size:=by omega
  have h0' :(0:Int) < (d.size:Int):=by omega
  have hl:=last_at d k hk hkd;have wk:IntKind.i64.wrap ((d.size:Int) - 1)=(k:Int):=by rw [show (d.size:Int) - 1=(k:Int) by omega];exact IntWalk.i64_in _ (by omega)
  have wk2:wrap64 ((d.size:Int) - 1)=(k:Int):=by rw [show (d.size:Int) - 1=(k:Int) by omega];exact IntWalk.wrap64_in _ (by omega)
  have k2:(0:Int)≤(k:Int):=by omega
  have k3:(k:Int) < (d.size:Int):=by omega
  cases hc:((d[k].toNat:Int) == 47) with
  | true=>
   have HR:=Hd (HJ.o.trans (if_pos (by
    have:d[k]=47:=by
     have h9:(d[k].toNat:Int)=47:=(by simpa using hc);exact UInt8.toNat_inj.1 (by show d[k].toNat=47;omega)
    rw [hl,this,decide_eq_true h0];decide)))
   clear HJ hl;go_in;go_wp2_with fail;go_ret;exact ⟨by rw [HR.o];rfl,rfl⟩
  | false=>
   have HR:=Hd (HJ.o.trans (if_neg (by
    rw [hl,decide_eq_true h0];intro h9;have h8:(some d[k] == some (47:UInt8))=true:=(by simpa using h9);have h7:d[k]=47:=(by simpa using h8);rw [h7] at hc;exact absurd hc (by decide))))
   clear HJ hl;go_in;go_wp2_with fail;go_ret;exact ⟨by rw [HR.o];rfl,rfl⟩
theorem qL (f:List Dv) (dev ino:Int):dY f dev ino=match aD f dev (upF f dev ino) with | some p=>(match p.es.find? (fun e:En=>e.ino == ino) with | some e=>e.nm | none=>⟨#[]⟩) | none=>⟨#[]⟩:=by
 unfold dY;cases aD f dev (upF f dev ino) with
 | none=>rfl
 | some p=>rfl
def mU (l:List En) (ino:Int):ByteArray:=match l.find? (fun e:En=>e.ino == ino) with | some e=>e.nm | none=>⟨#[]⟩
theorem mV {l:List En} {ino:Int} {k:Nat} (hk:k < l.length) (hn:∀ q (hq:q < k),(l[q].ino == ino)=false) (h:(l[k].ino == ino)=true):mU l ino=l[k].nm:=by
 unfold mU;have:l.find? (fun e:En=>e.ino == ino)=some l[k]:=by
  rw [List.find?_eq_some_iff_getElem];exact ⟨h,k,hk,rfl,fun j hj=>by rw [hn j hj];decide⟩
 rw [this]
theorem mW {l:List En} {ino:Int} (hn:∀ q (hq:q < l.length),(l[q].ino == ino)=false):mU l ino=⟨#[]⟩:=by
 unfold mU;have:l.find? (fun e:En=>e.ino == ino)=none:=by
  rw [List.find?_eq_none];intro m hm;obtain ⟨q,hq,rfl⟩:=List.getElem_of_mem hm;rw [hn q hq];decide
 rw [this]
structure NaS (w wr:World) (dev ino:Int) (es:List En) (gp:Nat) (nd:Nd) (Ae:Option Addr) (ce:Nat):Prop where
 low:Below w.heap.size w wr
 U:Blk wr (w.heap.size+1) 44 #[.int .i64 dev, .int .i64 ino]
 D:Blk wr gp 145 (ndC nd (.slice Ae es.length ce))
 E:AtE EEn wr wr.heap.size Ae es
 few:es.length≤1000
theorem E8 (dev ino:Int) (ds:List Dm) (A:Option Addr) (n c:Nat) (hn:n=ds.length) (w:World) (h:bZ w w.heap.size A ds):
  Calls Tryz.prog 72 #[fsV A n c,flV dev ino] w fun e w' =>e= .returned (.string (dY (ds.map Dm.dv) dev ino))∧Below w.heap.size w w' :=by
 have HN:=Hd hn;have B0:=Hd (aT w #[.slice A n c] #[.int .i64 dev, .int .i64 ino] 28 44);have F0:=Hd (h.below B0.o);have V0:=Hd ((Blk.new w #[.slice A n c] 28).alloc (.cells #[.int .i64 dev, .int .i64 ino] 44));have U0:=Hd (show Blk ((w.alloc (.cells #[.slice A n c] 28)).alloc (.cells #[.int .i64 dev, .int .i64 ino] 44)) (w.heap.size+1) 44 #[.int .i64 dev, .int .i64 ino] by
  have h:=Blk.new (w.alloc (.cells #[.slice A n c] 28)) #[.int .i64 dev, .int .i64 ino] 44;simp only [World.size_alloc] at h;exact h)
 have HND:=Hd (qL (ds.map Dm.dv) dev ino);have IC:=Hd (show upF (ds.map Dm.dv) dev ino=match aD (ds.map Dm.dv) dev ino with | some n=>n.par | none=>0 from rfl);clear h hn;go_in;go_wp2_with fail;generalize (w.alloc (.cells #[.slice A n c] 28)).alloc (.cells #[.int .i64 dev, .int .i64 ino] 44)=w0 at *;refine (bP dev ino ds A n c HN.o w0 F0.o).mono ?_;intro e w1 hp;cases hq:aD (ds.map Dm.dv) dev ino with
 | none=>
  rw [hq] at hp;obtain ⟨rfl,hb⟩:=hp;have HUP:=Hd (show upF (ds.map Dm.dv) dev ino=0 by rw [IC.o,hq]);have B3:=Hd ((B0.o.trans (hb.mono B0.o.size)).alloc (B0.o.trans (hb.mono B0.o.size)).size (.cells ndZ 145));have F3:=Hd ((F0.o.below hb).below ((Below.refl w1.heap.size w1).alloc (Nat.le_refl _) (.cells ndZ 145)));have V3:=Hd ((V0.o.below hb).alloc (.cells ndZ 145));have U3:=Hd ((U0.o.below hb).alloc (.cells ndZ 145));have D3:=Hd (Blk.new w1 ndZ 145);clear hb hq IC;go_upto_region 2 with fail;generalize w1.alloc (.cells ndZ 145)=w3 at *;have v0:=V3.o.cell 0;have u0:=U3.o.cell 0;have d5:=D3.o.cell 5;go_wp2_with fail;clear v0 u0 d5 B0 F0 V0 U0;refine (bP dev 0 ds A n c HN.o w3 F3.o).mono ?_;intro e w4 hp;cases hq2:aD (ds.map Dm.dv) dev 0 with
  | none=>
   rw [hq2] at hp;obtain ⟨rfl,hb⟩:=hp;have HR:=Hd (show dY (ds.map Dm.dv) dev ino=mU [] ino by rw [HND.o,HUP.o,hq2];rfl);have HS:=Hd (show NaS w (w4.alloc (.cells ndZ 145)) dev ino [] w4.heap.size zNd none 0 from ⟨(B3.o.trans (hb.mono B3.o.size)).alloc (B3.o.trans (hb.mono B3.o.size)).size _,(U3.o.below hb).alloc _,Blk.new w4 _ _,AtE.nil,Nat.zero_le _⟩);clear hb hq2;go_upto_region 3 with fail;generalize w4.alloc (.cells ndZ 145)=w5 at *;go_wp2_with fail;go_loopw [9] (fun ix wr=>ix= .int .i64 0∧wr=w5) (fun _ _=>0);case atStart=>exact ⟨rfl,rfl⟩
   case round=>
    obtain ⟨rfl,rfl⟩:=hrel;have d7:=HS.o.D.cell 7;go_wp2_with fail;go_ret;exact ⟨by rw [HR.o];rfl,HS.o.low⟩
  | some p=>
   rw [hq2] at hp;obtain ⟨Ap,cp,rfl,ho,hb,hsz⟩:=hp;have HR:=Hd (show dY (ds.map Dm.dv) dev ino=mU p.es ino by rw [HND.o,HUP.o,hq2];rfl);have HS:=Hd (show NaS w (w4.alloc (.cells (ndC p (.slice Ap p.es.length cp)) 145)) dev ino p.es w4.heap.size p Ap cp from ⟨(B3.o.trans (hb.mono B3.o.size)).alloc (B3.o.trans (hb.mono B3.o.size)).size _,(U3.o.below hb).alloc _,Blk.new w4 _ _,(aR ho).below ((Below.refl w4.heap.size w4).alloc (Nat.le_refl _) _),hsz.1⟩);clear hb hq2 ho hsz;go_upto_region 3 with fail;generalize w4.alloc (.cells (ndC p (.slice Ap p.es.length cp)) 145)=w5 at *;generalize p.es=es at *;go_wp2_with fail;go_loopw [9] (fun ix wr=>∃ k t:Nat,k≤es.length∧ix= .int .i64 k∧wr=w5.drewN t∧Hid (∀ q (hq:q < k) (hql:q < es.length),(es[q].ino == ino)=false)) (fun ix _=>es.length - (intOf ix).toNat);case atStart=>exact ⟨0,0,Nat.zero_le _,rfl,rfl,Hd (fun q hq=>absurd hq (Nat.not_lt_zero q))⟩
   case round=>
    obtain ⟨k,t,hk,rfl,rfl,hno⟩:=hrel;have d7:=HS.o.D.cell 7;have u1:=HS.o.U.cell 1;have nS:=HS.o.few;have WK:=Hd (dE (q:=k) (by omega));by_cases hlt:k < es.length;case neg=>
     have k1:¬ (k:Int) < (es.length:Int):=(by omega);have HR2:=Hd (HR.o.trans (mW (fun q hq=>hno.o q (by omega) hq)));clear hno nS;go_wp2_with fail;go_ret;exact ⟨by rw [HR2.o];rfl,below_drewN HS.o.low _⟩
    case pos=>
     have k1:(k:Int) < (es.length:Int):=(by omega);have k2:(0:Int)≤(k:Int):=(by omega);obtain ⟨ad,rfl,hab,hcx⟩:=HS.o.E k hlt;obtain ⟨e0,e1⟩:=fT (a:=ad.add (k * 2)) hcx;have HX:=Hd (fun h:(es[k].ino == ino)=true=>mV hlt (fun q hq=>hno.o q hq (by omega)) h);have HY:=Hd (fun h:(es[k].ino == ino)=false=>show ∀ q (hq:q < k+1) (hql:q < es.length),(es[q].ino == ino)=false from fun q hq hql=>by
      by_cases he:q=k
      · subst he;exact h
      · exact hno.o q (by omega) hql)
     clear hcx hno nS;generalize es[k]=x at *;cases hb:(x.ino == ino) with
     | true=>
      have HR2:=Hd (HR.o.trans (HX.o hb));clear HX HY;go_upto_region 6 with fail;go_quiet (fail);go_wp2_with fail;go_ret;exact ⟨by rw [HR2.o];rfl,below_drewN HS.o.low _⟩
     | false=>
      have HZ:=Hd (HY.o hb);clear HX HY;go_upto_region 6 with fail;go_quiet (fail);obtain ⟨wk1,wk2⟩:=WK.o;go_wp2_with fail;clear wk1 wk2;go_roundw;case rel=>exact ⟨k+1,t+nq,hlt,rfl,rfl,HZ⟩
      case measure=>exact aL hlt _ rfl
 | some nd=>
  rw [hq] at hp;obtain ⟨A2,c2,rfl,ho,hb,hsz⟩:=hp;have HUP:=Hd (show upF (ds.map Dm.dv) dev ino=nd.par by rw [IC.o,hq]);have B3:=Hd ((B0.o.trans (hb.mono B0.o.size)).alloc (B0.o.trans (hb.mono B0.o.size)).size (.cells (ndC nd (.slice A2 nd.es.length c2)) 145));have F3:=Hd ((F0.o.below hb).below ((Below.refl w1.heap.size w1).alloc (Nat.le_refl _) (.cells (ndC nd (.slice A2 nd.es.length c2)) 145)));have V3:=Hd ((V0.o.below hb).alloc (.cells (ndC nd (.slice A2 nd.es.length c2)) 145));have U3:=Hd ((U0.o.below hb).alloc (.cells (ndC nd (.slice A2 nd.es.length c2)) 145));have D3:=Hd (Blk.new w1 (ndC nd (.slice A2 nd.es.length c2)) 145);clear hb hq IC ho hsz;go_upto_region 2 with fail;generalize w1.alloc (.cells (ndC nd (.slice A2 nd.es.length c2)) 145)=w3 at *;have v0:=V3.o.cell 0;have u0:=U3.o.cell 0;have d5:=D3.o.cell 5;go_wp2_with fail;clear v0 u0 d5 B0 F0 V0 U0;refine (bP dev nd.par ds A n c HN.o w3 F3.o).mono ?_;intro e w4 hp;cases hq2:aD (ds.map Dm.dv) dev nd.par with
  | none=>
   rw [hq2] at hp;obtain ⟨rfl,hb⟩:=hp;have HR:=Hd (show dY (ds.map Dm.dv) dev ino=mU [] ino by rw [HND.o,HUP.o,hq2];rfl);have HS:=Hd (show NaS w (w4.alloc (.cells ndZ 145)) dev ino [] w4.heap.size zNd none 0 from ⟨(B3.o.trans (hb.mono B3.o.size)).alloc (B3.o.trans (hb.mono B3.o.size)).size _,(U3.o.below hb).alloc _,Blk.new w4 _ _,AtE.nil,Nat.zero_le _⟩);clear hb hq2;go_upto_region 3 with fail;generalize w4.alloc (.cells ndZ 145)=w5 at *;go_wp2_with fail;go_loopw [9] (fun ix wr=>ix= .int .i64 0∧wr=w5) (fun _ _=>0);case atStart=>exact ⟨rfl,rfl⟩
   case round=>
    obtain ⟨rfl,rfl⟩:=hrel;have d7:=HS.o.D.cell 7;go_wp2_with fail;go_ret;exact ⟨by rw [HR.o];rfl,HS.o.low⟩
  | some p=>
   rw [hq2] at hp;obtain ⟨Ap,cp,rfl,ho,hb,hsz⟩:=hp;have HR:=Hd (show dY (ds.map Dm.dv) dev ino=mU p.es ino by rw [HND.o,HUP.o,hq2];rfl);have HS:=Hd (show NaS w (w4.alloc (.cells (ndC p (.slice Ap p.es.length cp)) 145)) dev ino p.es w4.heap.size p Ap cp from ⟨(B3.o.trans (hb.mono B3.o.size)).alloc (B3.o.trans (hb.mono B3.o.size)).size _,(U3.o.below hb).alloc _,Blk.new w4 _ _,(aR ho).below ((Below.refl w4.heap.size w4).alloc (Nat.le_refl _) _),hsz.1⟩);clear hb hq2 ho hsz;go_upto_region 3 with fail;generalize w4.alloc (.cells (ndC p (.slice Ap p.es.length cp)) 145)=w5 at *;generalize p.es=es at *;go_wp2_with fail;go_loopw [9] (fun ix wr=>∃ k t:Nat,k≤es.length∧ix= .int .i64 k∧wr=w5.drewN t∧Hid (∀ q (hq:q < k) (hql:q < es.length),(es[q].ino == ino)=false)) (fun ix _=>es.length - (intOf ix).toNat);case atStart=>exact ⟨0,0,Nat.zero_le _,rfl,rfl,Hd (fun q hq=>absurd hq (Nat.not_lt_zero q))⟩
   case round=>
    obtain ⟨k,t,hk,rfl,rfl,hno⟩:=hrel;have d7:=HS.o.D.cell 7;have u1:=HS.o.U.cell 1;have nS:=HS.o.few;have WK:=Hd (dE (q:=k) (by omega));by_cases hlt:k < es.length;case neg=>
     have k1:¬ (k:Int) < (es.length:Int):=(by omega);have HR2:=Hd (HR.o.trans (mW (fun q hq=>hno.o q (by omega) hq)));clear hno nS;go_wp2_with fail;go_ret;exact ⟨by rw [HR2.o];rfl,below_drewN HS.o.low _⟩
    case pos=>
     have k1:(k:Int) < (es.length:Int):=(by omega);have k2:(0:Int)≤(k:Int):=(by omega);obtain ⟨ad,rfl,hab,hcx⟩:=HS.o.E k hlt;obtain ⟨e0,e1⟩:=fT (a:=ad.add (k * 2)) hcx;have HX:=Hd (fun h:(es[k].ino == ino)=true=>mV hlt (fun q hq=>hno.o q hq (by omega)) h);have HY:=Hd (fun h:(es[k].ino == ino)=false=>show ∀ q (hq:q < k+1) (hql:q < es.length),(es[q].ino == ino)=false from fun q hq hql=>by
      by_cases he:q=k
      · subst he;exact h
      · exact hno.o q (by omega) hql)
     clear hcx hno nS;generalize es[k]=x at *;cases hb:(x.ino == ino) with
     | true=>
      have HR2:=Hd (HR.o.trans (HX.o hb));clear HX HY;go_upto_region 6 with fail;go_quiet (fail);go_wp2_with fail;go_ret;exact ⟨by rw [HR2.o];rfl,below_drewN HS.o.low _⟩
     | false=>
      have HZ:=Hd (HY.o hb);clear HX HY;go_upto_region 6 with fail;go_quiet (fail);obtain ⟨wk1,wk2⟩:=WK.o;go_wp2_with fail;clear wk1 wk2;go_roundw;case rel=>exact ⟨k+1,t+nq,hlt,rfl,rfl,HZ⟩
      case measure=>exact aL hlt _ rfl
def cz (w:World) (B:Nat) (A:Option Addr) (L:List (Itm×bB)):Prop:=∀ k (hk:k < L.length),∃ ad:Addr,A=some ad∧ad.block < B∧∀ j,j < 13→w.cell? ((ad.add (k * 13)).add j)=(aO (L[k]'hk).1 (L[k]'hk).2)[j]?
theorem add_block (a:Addr) (n:Nat):(a.add n).block=a.block:=by unfold Addr.add;split <;> rfl
theorem cz.keep {w w' :World} {B B' :Nat} {A:Option Addr} {L:List (Itm×bB)} (h:cz w B A L) (hb:Below B' w w') (hB:B≤B'):cz w' B A L:=fun k hk=>by
 obtain ⟨ad,e,hl,hc⟩:=h k hk;exact ⟨ad,e,hl,fun j hj=>(hb.cell (by rw [add_block,add_block];omega)).trans (hc j hj)⟩
theorem cz.more {w:World} {B B' :Nat} {A:Option Addr} {L:List (Itm×bB)} (h:cz w B A L) (hB:B≤B'):cz w B' A L:=fun k hk=>by
 obtain ⟨ad,e,hl,hc⟩:=h k hk;exact ⟨ad,e,by omega,hc⟩
theorem cz.nil {w:World} {B:Nat} {A:Option Addr} :cz w B A []:=fun k hk=>by simp at hk
def irZ:bB:=⟨⟨#[]⟩,⟨#[]⟩,0,0,⟨#[]⟩,0,0,0⟩
theorem Fx (w:World) (fd op nu:Int) (tx:ByteArray) (ot:Int) (c:Ctx) (r:bN) (it:Value):
  jR ((w.alloc (.cells (aV fd op nu tx ot) 85)).alloc (.cells (bE c r it) 54)) w.heap.size fd op nu tx ot∧
  bU ((w.alloc (.cells (aV fd op nu tx ot) 85)).alloc (.cells (bE c r it) 54)) (w.heap.size+1) c r it∧
  Below w.heap.size w ((w.alloc (.cells (aV fd op nu tx ot) 85)).alloc (.cells (bE c r it) 54))∧((w.alloc (.cells (aV fd op nu tx ot) 85)).alloc (.cells (bE c r it) 54)).heap.size=w.heap.size+1+1:=by
 refine ⟨(Blk.new w _ _).alloc _,?_,((Below.refl _ _).alloc (Nat.le_refl _) _).alloc (by simp) _,by simp⟩;have:=Blk.new (w.alloc (.cells (aV fd op nu tx ot) 85)) (bE c r it) 54;simpa using this
theorem ib {P:Program} {ops:Array Oper} {rest:List Oper} {o:Oper} {a:Act} {w:World} {Q:Exit→Act→World→Prop} (hgd:Region.wanted o (yielded ops a.tmps)=true) (ty:TypeId) (x:Operand) (ho:o.op= .load ty x)
  {g:Nat} {t:TypeId} {cs:Array Value} (hg:Blk w g t cs) (hx:a.eval x= .pointer (some ⟨g,0,none⟩)) (d:TypeDesc)
  (hu:P.underlying ty=some d) (hd:(match d with | .struct _ | .array _ _=>true | _=>false)=true) (hi:(P.info? ty).map (·.size)=some cs.size)
  (h:wpList P ops Q rest (a.put o.dst (.agg cs)) w):wpList P ops Q (o :: rest) a w:=
 wpList_step fun K hK=>by simp only [hgd,if_true];exact wp_load_row ty x ho g hx t cs (0,0) d hg hu hd hi (hK _ _ h)
attribute [local irreducible] bE jQ pX fK oH
end Go.Proofs.YtollifnnpihfdaaGreatDoor
