import Derived.Test.YtollifnnpihfdaaGreatDoorB13
import Derived.Test.YtollifnnpihfdaaGreatDoorB14
import Derived.Test.YtollifnnpihfdaaGreatDoorB16
set_option maxRecDepth 100000
set_option maxHeartbeats 64000000
set_option linter.all false
namespace Go.Proofs.YtollifnnpihfdaaGreatDoor
open Go.RowKit
theorem Tryz.FK:(Tryz.prog.info? 199).map (fun i=>(i.zero,i.size,i.bytes))=some (some (.agg #[.int .i64 0, .int .i64 0, .int .i64 0]),3,24):=by kernel_rfl
abbrev mtC (m:Mt):Array Value:=#[.int .i64 m.dev, .int .i64 m.od, .int .i64 m.oi]
def EMt:El Mt where
 C m:= [.int .i64 m.dev, .int .i64 m.od, .int .i64 m.oi]
 e:=199
 sl:=29
 sz:=3
 bs:=24
 len _:=rfl
 one x u hu:=by simp at hu;rcases hu with rfl | rfl | rfl <;> rfl
 pos:=by omega
 small:=by omega
 hu:=Tryz.underlying29
 info:=by
  obtain ⟨i0,h1,h2,h3,h4⟩:=info_parts Tryz.FK;exact ⟨i0,_,h1,h2,h3,h4,rfl⟩
theorem kJ {w:World} {a:Addr} {m:Mt} (h:∀ j,j < 3→w.cell? (a.add j)=(EMt.C m)[j]?):w.cell? a=some (.int .i64 m.dev)∧w.cell? ⟨a.block,a.off+1,none⟩=some (.int .i64 m.od)∧w.cell? ⟨a.block,a.off+2,none⟩=some (.int .i64 m.oi):=⟨h 0 (by omega),h 1 (by omega),h 2 (by omega)⟩
theorem gG {fn:Func} {i j:Nat} (h:fn.results=#[.tmp i, .tmp j]) (tmps:Array Value) (w:World):(results fn tmps).run Tryz.prog w= .ok (.tuple #[tmps.getD i undef,tmps.getD j undef]) w:=by
 simp [results,h]
abbrev slV (A:Option Addr) (n c:Nat):Value:= .slice A n c
abbrev spC (u m:Value):Array Value:=#[u,m]
def onR (ms:List Mt) (dev:Int):Int×Int×Bool:=match onF ms dev with | some (a,b)=>(a,b,true) | none=>(0,0,false)
theorem Bj {ms:List Mt} {dev:Int} {k:Nat} (hk:k < ms.length) (hn:∀ q (hq:q < k),(ms[q].dev == dev)=false) (h:(ms[k].dev == dev)=true):onF ms dev=some (ms[k].od,ms[k].oi):=by
 unfold onF;have:ms.find? (fun m=>m.dev == dev)=some ms[k]:=by
  rw [List.find?_eq_some_iff_getElem];exact ⟨h,k,hk,rfl,fun j hj=>by rw [hn j hj];decide⟩
 rw [this];rfl
theorem Bl {ms:List Mt} {dev:Int} (hn:∀ q (hq:q < ms.length),(ms[q].dev == dev)=false):onF ms dev=none:=by
 unfold onF;have:ms.find? (fun m=>m.dev == dev)=none:=by
  rw [List.find?_eq_none];intro m hm;obtain ⟨q,hq,rfl⟩:=List.getElem_of_mem hm;rw [hn q hq];decide
 rw [this];rfl
theorem ron (dev:Int) (A:Option Addr) (n c:Nat) (ms:List Mt) (Am:Option Addr) (nm cm:Nat) (hn:nm=ms.length) (hl:nm≤1000) (w:World) (h:AtE EMt w w.heap.size Am ms):
  Calls Tryz.prog 69 #[.agg #[slV A n c,slV Am nm cm], .int .i64 dev] w fun e w' =>e= .returned (.tuple #[flV (onR ms dev).1 (onR ms dev).2.1, .bool (onR ms dev).2.2])∧Below w.heap.size w w' :=by
 have HN:=Hd hn;have B0:=Hd (aT w #[slV A n c,slV Am nm cm] #[.int .i64 0, .int .i64 0] 31 44);have M0:=Hd (h.below B0.o);have V0:=Hd ((Blk.new w #[slV A n c,slV Am nm cm] 31).alloc (.cells #[.int .i64 0, .int .i64 0] 44));have R0:=Hd (show Blk ((w.alloc (.cells #[slV A n c,slV Am nm cm] 31)).alloc (.cells #[.int .i64 0, .int .i64 0] 44)) (w.heap.size+1) 44 #[.int .i64 0, .int .i64 0] by
  have h:=Blk.new (w.alloc (.cells #[slV A n c,slV Am nm cm] 31)) #[.int .i64 0, .int .i64 0] 44;simp only [World.size_alloc] at h;exact h)
 have HR:=Hd (show onR ms dev=match onF ms dev with | some (a,b)=>(a,b,true) | none=>(0,0,false) from rfl);clear h hn;go_in;go_wp2_with fail;generalize (w.alloc (.cells #[slV A n c,slV Am nm cm] 31)).alloc (.cells #[.int .i64 0, .int .i64 0] 44)=w0 at *;go_loopw [6] (fun i wr=>∃ k:Nat,k≤ms.length∧i= .int .i64 k∧wr=w0∧Hid (∀ q (hq:q < k) (hql:q < ms.length),(ms[q].dev == dev)=false)) (fun i _=>ms.length - (intOf i).toNat);case atStart=>exact ⟨0,Nat.zero_le _,rfl,rfl,Hd (fun q hq=>absurd hq (Nat.not_lt_zero q))⟩
 case round=>
  obtain ⟨k,hk,rfl,rfl,hno⟩:=hrel;have v1:=V0.o.cell 1;have hn:=HN.o;have WK:=Hd (dH (q:=k) (by omega));by_cases hlt:k < ms.length;case neg=>
   have k1:¬ (k:Int) < (nm:Int):=(by omega);have HR2:=Hd (HR.o.trans (by rw [Bl (fun q hq=>hno.o q (by omega) hq)]));clear hno hn;go_wp2_with ((with_reducible refine ae ?_ 44 (.tmp 4) (.tmp 28) ?_ R0.o #[.int .i64 0, .int .i64 0] ?_ ?_ ?_ ?_ ?_ ?_);(iterate 4 rfl);(exact dK _ _);rfl;(exact bU _ _));refine bodyPost_ret (ic (fn:=Tryz.f69) rfl _ _ (w.heap.size+1) 0 0 rfl (Blk.row R0.o _)) rfl ?_;rw [HR2.o];exact ⟨rfl,ai B0.o (by omega) _⟩
  case pos=>
   have k1:(k:Int) < (nm:Int):=(by omega);have k2:(0:Int)≤(k:Int):=(by omega);obtain ⟨am,rfl,hab,hcx⟩:=M0.o k hlt;obtain ⟨m0,m1,m2⟩:=kJ (a:=am.add (k * 3)) hcx;have HX:=Hd (fun h:(ms[k].dev == dev)=true=>Bj hlt (fun q hq=>hno.o q hq (by omega)) h);have HY:=Hd (fun h:(ms[k].dev == dev)=false=>show ∀ q (hq:q < k+1) (hql:q < ms.length),(ms[q].dev == dev)=false from fun q hq hql=>by
    by_cases he:q=k
    · subst he;exact h
    · exact hno.o q (by omega) hql)
   clear hcx hno hn;generalize ms[k]=m at *;cases hb:(m.dev == dev) with
   | true=>
    have HR2:=Hd (HR.o.trans (by rw [HX.o hb]));clear HX HY;go_wp2_with ((with_reducible refine ae ?_ 44 (.tmp 4) (.tmp 27) ?_ R0.o #[.int .i64 m.od, .int .i64 m.oi] ?_ ?_ ?_ ?_ ?_ ?_);(iterate 4 rfl);(exact dK _ _);rfl;(exact bU _ _));refine bodyPost_ret (ic (fn:=Tryz.f69) rfl _ _ (w.heap.size+1) m.od m.oi rfl (Blk.row R0.o _)) rfl ?_;rw [HR2.o];exact ⟨rfl,ai B0.o (by omega) _⟩
   | false=>
    have HZ:=Hd (HY.o hb);clear HX HY;obtain ⟨wk1,wk2⟩:=WK.o;go_wp2_with fail;clear wk1 wk2;go_roundw;case rel=>exact ⟨k+1,hlt,rfl,by first | rfl | trivial,HZ⟩
    case measure=>exact aN hlt _ rfl
theorem vM (ms:List Mt) (dev:Int):fE ms dev=((onR ms dev).2.2 || dev == 0):=by
 unfold fE onR;cases onF ms dev <;> rfl
theorem pq (dev:Int) (A:Option Addr) (n c:Nat) (ms:List Mt) (Am:Option Addr) (nm cm:Nat) (hn:nm=ms.length) (hl:nm≤1000) (w:World) (h:AtE EMt w w.heap.size Am ms):
  Calls Tryz.prog 68 #[.agg #[slV A n c,slV Am nm cm], .int .i64 dev] w fun e w' =>e= .returned (.bool (fE ms dev))∧Below w.heap.size w w' :=by
 have B0:=Hd ((Below.refl w.heap.size w).alloc (Nat.le_refl _) (.cells #[slV A n c,slV Am nm cm] 31));have HO:=Hd (ron dev A n c ms Am nm cm hn hl _ (h.below B0.o));have HM:=Hd (vM ms dev);clear h hn;go_in;go_wp2_with fail;refine HO.o.mono ?_;rintro e w1 ⟨rfl,hb⟩;have B1:=Hd (B0.o.trans (hb.mono B0.o.size));clear hb HO;generalize onR ms dev=o at *;obtain ⟨a,b,o⟩:=o;have HB2:=Hd (B1.o.alloc B1.o.size (.cells #[.int .i64 a, .int .i64 b] 44));cases o with
 | true=>
  go_wp2_with fail;go_ret;exact ⟨by rw [HM.o];rfl,HB2.o⟩
 | false=>
  cases h0:dev == 0 with
  | true=>
   go_wp2_with fail;go_ret;exact ⟨by rw [HM.o,h0];rfl,HB2.o⟩
  | false=>
   go_wp2_with fail;go_ret;exact ⟨by rw [HM.o,h0];rfl,HB2.o⟩
def EO (ms:List Mt) (d i:Int):Int×Bool:=match za ms d i with | some x=>(x,true) | none=>(0,false)
theorem CR {ms:List Mt} {d i:Int} {k:Nat} (hk:k < ms.length) (hn:∀ q (hq:q < k),flB ms[q].od ms[q].oi d i=false) (h:flB ms[k].od ms[k].oi d i=true):za ms d i=some ms[k].dev:=by
 unfold za;have:ms.find? (fun m=>m.od == d && m.oi == i)=some ms[k]:=by
  rw [List.find?_eq_some_iff_getElem];exact ⟨h,k,hk,rfl,fun j hj=>by have:=hn j hj;unfold flB at this;rw [this];decide⟩
 rw [this];rfl
theorem CS {ms:List Mt} {d i:Int} (hn:∀ q (hq:q < ms.length),flB ms[q].od ms[q].oi d i=false):za ms d i=none:=by
 unfold za;have:ms.find? (fun m=>m.od == d && m.oi == i)=none:=by
  rw [List.find?_eq_none];intro m hm;obtain ⟨q,hq,rfl⟩:=List.getElem_of_mem hm;have:=hn q hq;unfold flB at this;rw [this];decide
 rw [this];rfl
theorem FM (d i:Int) (A:Option Addr) (n c:Nat) (ms:List Mt) (Am:Option Addr) (nm cm:Nat) (hn:nm=ms.length) (hl:nm≤1000) (w:World) (h:AtE EMt w w.heap.size Am ms):
  Calls Tryz.prog 170 #[.agg #[slV A n c,slV Am nm cm],flV d i] w fun e w' =>e= .returned (.tuple #[.int .i64 (EO ms d i).1, .bool (EO ms d i).2])∧Below w.heap.size w w' :=by
 have HN:=Hd hn;have B0:=Hd (aT w #[slV A n c,slV Am nm cm] #[.int .i64 d, .int .i64 i] 31 44);have M0:=Hd (h.below B0.o);have V0:=Hd ((Blk.new w #[slV A n c,slV Am nm cm] 31).alloc (.cells #[.int .i64 d, .int .i64 i] 44));have R0:=Hd (show Blk ((w.alloc (.cells #[slV A n c,slV Am nm cm] 31)).alloc (.cells #[.int .i64 d, .int .i64 i] 44)) (w.heap.size+1) 44 #[.int .i64 d, .int .i64 i] by
  have h:=Blk.new (w.alloc (.cells #[slV A n c,slV Am nm cm] 31)) #[.int .i64 d, .int .i64 i] 44;simp only [World.size_alloc] at h;exact h)
 have HR:=Hd (show EO ms d i=match za ms d i with | some x=>(x,true) | none=>(0,false) from rfl);have HFL:=fun a b c d (W:World)=>vK a b c d W;clear h hn;go_in;go_wp2_with fail;generalize (w.alloc (.cells #[slV A n c,slV Am nm cm] 31)).alloc (.cells #[.int .i64 d, .int .i64 i] 44)=w0 at *;go_loopw [6] (fun ix wr=>∃ k t:Nat,k≤ms.length∧ix= .int .i64 k∧wr=w0.drewN t∧Hid (∀ q (hq:q < k) (hql:q < ms.length),flB ms[q].od ms[q].oi d i=false)) (fun ix _=>ms.length - (intOf ix).toNat);case atStart=>exact ⟨0,0,Nat.zero_le _,rfl,rfl,Hd (fun q hq=>absurd hq (Nat.not_lt_zero q))⟩
 case round=>
  obtain ⟨k,t,hk,rfl,rfl,hno⟩:=hrel;have v1:=V0.o.cell 1;have u0:=R0.o.cell 0;have u1:=R0.o.cell 1;have hn:=HN.o;have WK:=Hd (dH (q:=k) (by omega));by_cases hlt:k < ms.length;case neg=>
   have k1:¬ (k:Int) < (nm:Int):=(by omega);have HR2:=Hd (HR.o.trans (by rw [CS (fun q hq=>hno.o q (by omega) hq)]));clear hno hn;go_wp2_with fail;refine bodyPost_ret (gG (fn:=Tryz.f170) rfl _ _) rfl ?_;exact ⟨by rw [HR2.o];rfl,below_drewN B0.o _⟩
  case pos=>
   have k1:(k:Int) < (nm:Int):=(by omega);have k2:(0:Int)≤(k:Int):=(by omega);obtain ⟨am,rfl,hab,hcx⟩:=M0.o k hlt;obtain ⟨m0,m1,m2⟩:=kJ (a:=am.add (k * 3)) hcx;have HX:=Hd (fun h:flB ms[k].od ms[k].oi d i=true=>CR hlt (fun q hq=>hno.o q hq (by omega)) h);have HY:=Hd (fun h:flB ms[k].od ms[k].oi d i=false=>show ∀ q (hq:q < k+1) (hql:q < ms.length),flB ms[q].od ms[q].oi d i=false from fun q hq hql=>by
    by_cases he:q=k
    · subst he;exact h
    · exact hno.o q (by omega) hql)
   clear hcx hno hn;generalize ms[k]=m at *;cases hb:flB m.od m.oi d i with
   | true=>
    have HR2:=Hd (HR.o.trans (by rw [HX.o hb]));clear HX HY;go_upto_region 4 with fail;go_quiet (fail);go_wp2_with fail;refine bodyPost_ret (gG (fn:=Tryz.f170) rfl _ _) rfl ?_;exact ⟨by rw [HR2.o];rfl,below_drewN B0.o _⟩
   | false=>
    have HZ:=Hd (HY.o hb);clear HX HY;go_upto_region 4 with fail;go_quiet (fail);obtain ⟨wk1,wk2⟩:=WK.o;go_wp2_with fail;clear wk1 wk2;go_roundw;case rel=>exact ⟨k+1,t+nq,hlt,rfl,rfl,HZ⟩
    case measure=>exact aN hlt _ rfl
def CU (ms:List Mt) (d i:Int):Bool:=(za ms d i).isSome
theorem CV (ms:List Mt) (d i:Int):CU ms d i=(EO ms d i).2:=by
 unfold CU EO;cases za ms d i <;> rfl
theorem FN (d i:Int) (A:Option Addr) (n c:Nat) (ms:List Mt) (Am:Option Addr) (nm cm:Nat) (hn:nm=ms.length) (hl:nm≤1000) (w:World) (h:AtE EMt w w.heap.size Am ms):
  Calls Tryz.prog 106 #[.agg #[slV A n c,slV Am nm cm],flV d i] w fun e w' =>e= .returned (.bool (CU ms d i))∧Below w.heap.size w w' :=by
 have B0:=Hd (aT w #[slV A n c,slV Am nm cm] #[.int .i64 d, .int .i64 i] 31 44);have HO:=Hd (FM d i A n c ms Am nm cm hn hl _ (h.below B0.o));have HM:=Hd (CV ms d i);clear h hn;go_in;go_wp2_with fail;refine HO.o.mono ?_;rintro e w1 ⟨rfl,hb⟩;have B1:=Hd (B0.o.trans (hb.mono B0.o.size));clear hb HO;go_wp2_with fail;go_ret;exact ⟨by rw [HM.o];rfl,B1.o⟩
structure Ds where
 fd:Int
 d:Int
 i:Int
 fl:Int
structure Pc where
 pid:Int
 pp:Int
 ui:Int
 eu:Int
 gi:Int
 eg:Int
 au:Int
 se:Int
 cd:Int
 ci:Int
 co:ByteArray
 ex:ByteArray
 dl:Bool
structure Pm where
 p:Pc
 ds:List Ds
 A:Option Addr
 c:Nat
def Pm.sl (x:Pm):Value:= .slice x.A x.ds.length x.c
abbrev psC (p:Pc) (v:Value):Array Value:=#[.int .i64 p.pid, .int .i64 p.pp, .int .i64 p.ui, .int .i64 p.eu, .int .i64 p.gi, .int .i64 p.eg, .int .i64 p.au, .int .i64 p.se, .int .i64 p.cd, .int .i64 p.ci, .string p.co, .string p.ex,v, .bool p.dl]
def zPc:Pc:=⟨0,0,0,0,0,0,0,0,0,0,⟨#[]⟩,⟨#[]⟩,false⟩
theorem Tryz.FO:(Tryz.prog.info? 320).map (fun i=>(i.zero,i.size,i.bytes))=some (some (.agg #[.int .i64 0, .int .i64 0, .int .i64 0, .int .i64 0]),4,32):=by kernel_rfl
theorem Tryz.FP:(Tryz.prog.info? 47).map (fun i=>(i.zero,i.size,i.bytes))=some (some (.agg (psC zPc (.slice none 0 0))),14,144):=by kernel_rfl
def EDs:El Ds where
 C x:= [.int .i64 x.fd, .int .i64 x.d, .int .i64 x.i, .int .i64 x.fl]
 e:=320
 sl:=45
 sz:=4
 bs:=32
 len _:=rfl
 one x u hu:=by simp at hu;rcases hu with rfl | rfl | rfl | rfl <;> rfl
 pos:=by omega
 small:=by omega
 hu:=Tryz.underlying45
 info:=by
  obtain ⟨i0,h1,h2,h3,h4⟩:=info_parts Tryz.FO;exact ⟨i0,_,h1,h2,h3,h4,rfl⟩
def EPc:El Pm where
 C x:= [.int .i64 x.p.pid, .int .i64 x.p.pp, .int .i64 x.p.ui, .int .i64 x.p.eu, .int .i64 x.p.gi, .int .i64 x.p.eg, .int .i64 x.p.au, .int .i64 x.p.se, .int .i64 x.p.cd, .int .i64 x.p.ci, .string x.p.co, .string x.p.ex, .slice x.A x.ds.length x.c, .bool x.p.dl]
 e:=47
 sl:=32
 sz:=14
 bs:=144
 len _:=rfl
 one x u hu:=by simp at hu;rcases hu with rfl | rfl | rfl | rfl | rfl | rfl | rfl | rfl | rfl | rfl | rfl | rfl | rfl | rfl <;> rfl
 pos:=by omega
 small:=by omega
 hu:=Tryz.underlying32
 info:=by
  obtain ⟨i0,h1,h2,h3,h4⟩:=info_parts Tryz.FP;exact ⟨i0,_,h1,h2,h3,h4,rfl⟩
structure jZ (w:World) (B:Nat) (A:Option Addr) (ps:List Pm):Prop where
 at_:AtE EPc w B A ps
 few:ps.length≤1000
 opens:∀ x∈ps,AtE EDs w B x.A x.ds∧x.ds.length≤1000
section
variable {w w' :World} {B B' :Nat} {A:Option Addr} {ps:List Pm}
theorem jZ.keep (h:jZ w B A ps) (hb:Below B' w w') (hB:B≤B'):jZ w' B A ps:=
 ⟨h.at_.keep hb hB,h.few,fun x hx=>⟨(h.opens x hx).1.keep hb hB,(h.opens x hx).2⟩⟩
theorem jZ.more (h:jZ w B A ps) (hB:B≤B'):jZ w B' A ps:=
 ⟨h.at_.more hB,h.few,fun x hx=>⟨(h.opens x hx).1.more hB,(h.opens x hx).2⟩⟩
theorem jZ.below (h:jZ w w.heap.size A ps) (hb:Below w.heap.size w w'):jZ w' w'.heap.size A ps:=(h.keep hb (Nat.le_refl _)).more hb.size
end
theorem ig (p:Pc) (v:Value):(Tryz.prog.info? 47).map (·.size)=some (psC p v).size:=by show _=some 14;kernel_rfl
theorem rQ (p:Pc) (A:Option Addr) (n c:Nat):(psC p (.slice A n c)).all (·.oneCell')=true:=by simp [Value.oneCell']
theorem cK {a w w' :World} {g:Nat} (h:a.grownBy w (some g)) (k:w.grownBy w' (some g)):a.grownBy w' (some g):=
 ⟨k.os.trans h.os,k.tape.trans h.tape,k.output.trans h.output,Nat.le_trans h.size k.size,fun i hi hne=>(k.block i (Nat.lt_of_lt_of_le hi h.size) hne).trans (h.block i hi hne)⟩
theorem jq {a w:World} {g k:Nat} (h:a.grownBy w (some g)) (hk:a.heap.size≤k) (cs:Array Value):a.grownBy (w.setRow k cs) (some g):=
 ⟨h.os,h.tape,h.output,by rw [setRow_size];exact h.size,fun i hi hne=>(setRow_other w k i cs (by omega)).trans (h.block i hi hne)⟩
section
variable {w wr w' :World} {base g lo n c:Nat} {b b' :Int} {A:Option Addr} {ds:List Dm}
theorem Blk.src {wr w' :World} {g k:Nat} {t:TypeId} {cs:Array Value} (h:Blk wr k t cs) (hg:wr.grownBy w' (some g)) (hne:k≠g):Blk w' k t cs:=h.grown hg (fun e=>hne (by injection e with e;exact e.symm))
end
theorem iW {fn:Func} {i:Nat} (h:fn.results=#[.cell i 44]) (tmps:Array Value) (w:World) (g:Nat) (d k:Int) (hp:tmps.getD i undef= .pointer (some ⟨g,0,none⟩)) (hg:Blk w g 44 #[.int .i64 d, .int .i64 k]):
  (results fn tmps).run Tryz.prog w= .ok (flV d k) w:=
 results_cell_row h tmps w g _ #[.int .i64 d, .int .i64 k] (0,0) _ hp hg Tryz.underlying44 rfl (dK d k)
def dD (w:World) (g:Nat):Nat→List Value→World
 | _, []=>w
 | o,u :: us=>dD (w.setCell ⟨g,o,none⟩ u) g (o+1) us
def vS (xs:List Value):Nat→List Value→List Value
 | _, []=>xs
 | o,u :: us=>vS (xs.set o u) (o+1) us
theorem cO {a:World} {g:Nat} :∀ (us:List Value) (o:Nat) {w:World},a.grownBy w (some g)→a.grownBy (dD w g o us) (some g)
 | [],_,_,h=>h
 | u :: us,o,w,h=>cO us (o+1) (aF h (.inl rfl) u)
theorem rR:∀ (us:List Value) (o:Nat) (xs:List Value),o+us.length≤xs.length→∀ i,(vS xs o us)[i]? =if o≤i∧i < o+us.length then us[i - o]? else xs[i]?
 | [],o,xs,_,i=>by
  rw [if_neg (by simp)];rfl
 | u :: us,o,xs,h,i=>by
  rw [List.length_cons] at h;unfold vS;rw [rR us (o+1) _ (by rw [List.length_set];omega) i];by_cases h1:i=o
  · subst h1;rw [if_neg (by omega),if_pos (by rw [List.length_cons];omega),List.getElem?_set,if_pos rfl,if_pos (by omega),Nat.sub_self];rfl
  · by_cases h2:o+1≤i∧i < o+1+us.length
    · rw [if_pos h2,if_pos (by rw [List.length_cons];omega),show i - o=(i - (o+1))+1 by omega];rfl
    · rw [if_neg h2,if_neg (by rw [List.length_cons];omega),List.getElem?_set,if_neg (by omega)]
theorem rT {base g n c:Nat} {e:TypeId} {sz:Nat} :∀ (us:List Value) (o:Nat) {w:World} {xs:List Value},w.ownsRow base e sz (.slice (some ⟨g,0,none⟩) n c) n xs→(dD w g o us).ownsRow base e sz (.slice (some ⟨g,0,none⟩) n c) n (vS xs o us)
 | [],_,_,_,h=>h
 | u :: us,o,_,_,h=>rT us (o+1) (World.ownsRow.stored h o u).1
section
variable {α:Type} {E:El α} {w:World} {base g n c:Nat} {L:List α}
theorem El.vT (E:El α) (L:List α) (k:Nat) (hk:k < L.length) (x' :α):vS (L.flatMap E.C) (k * E.sz) (E.C x')=(L.set k x').flatMap E.C:=by
 have hlen:k * E.sz+(E.C x').length≤(L.flatMap E.C).length:=by
   rw [E.flat,E.len];have:(k+1) * E.sz≤L.length * E.sz:=Nat.mul_le_mul_right _ hk;rw [Nat.succ_mul] at this;exact this
 refine List.ext_getElem? fun i=>?_;rw [rR _ _ _ hlen,E.len];have hdiv:i=i / E.sz * E.sz+i % E.sz:=by rw [Nat.mul_comm];exact (Nat.div_add_mod i E.sz).symm
 have hm:=Nat.mod_lt i E.pos;have hpos:=E.pos;by_cases hi:i / E.sz < L.length
 · have h2:=E.dX (L.set k x') (i / E.sz) (by rw [List.length_set];exact hi) (i % E.sz) hm;have h3:=E.dX L (i / E.sz) hi (i % E.sz) hm;rw [← hdiv] at h2 h3;rw [h2];by_cases hik:i / E.sz=k
   · have e1:k * E.sz≤i∧i < k * E.sz+E.sz:=by
      rw [← hik];constructor
      · omega
      · omega
     rw [if_pos e1];have e2:i - k * E.sz=i % E.sz:=(by rw [← hik];omega);rw [e2,List.getElem_set,if_pos hik.symm]
   · have e1:¬ (k * E.sz≤i∧i < k * E.sz+E.sz):=fun ⟨a,b⟩=>hik (by
      refine Nat.div_eq_of_lt_le ?_ ?_
      · exact a
      · show i < (k+1) * E.sz;rw [Nat.succ_mul];exact b)
     rw [if_neg e1,h3,List.getElem_set,if_neg (fun e=>hik e.symm)]
 · have hge:L.length * E.sz≤i:=by
     have:L.length * E.sz≤i / E.sz * E.sz:=Nat.mul_le_mul_right _ (by omega);omega
   rw [List.getElem?_eq_none (l:=(L.set k x').flatMap E.C) (by rw [E.flat,List.length_set];exact hge),if_neg (fun ⟨a,b⟩=>by
     have:(k+1) * E.sz≤L.length * E.sz:=Nat.mul_le_mul_right _ hk;rw [Nat.succ_mul] at this;omega),List.getElem?_eq_none (by rw [E.flat];exact hge)]
theorem ax.puts (h:ax E w base (.slice (some ⟨g,0,none⟩) n c) L) {k:Nat} {x' :α} (hk:k < L.length):ax E (dD w g (k * E.sz) (E.C x')) base (.slice (some ⟨g,0,none⟩) n c) (L.set k x'):=by
 have hl:L.length=n:=by
  obtain ⟨A,c',e,_⟩:=h.at;injection e with _ e _;exact e.symm
 unfold ax at h ⊢;rw [List.length_set, ← El.vT E L k hk x'];rw [hl] at h ⊢;exact rT _ _ h
end
theorem aC.Kt {w:World} {base:Nat} {v:Value} {ds:List Dm} (h:aC w base v ds) {j k g:Nat} (hj:j < ds.length) (hk:k < ds[j].xs.length) (hA:ds[j].A=some ⟨g,0,none⟩) {x' :Nm} (hsz:jg x'.nd)
   (ho:ax EEn w base x'.sl x'.nd.es):aC (dD w g (k * 8) (ENd.C x')) base v (ds.set j ⟨ds[j].nx,ds[j].xs.set k x',ds[j].A,ds[j].c⟩):=by
 have hd:=(h.nodes _ (List.getElem_mem hj));have hown:(ds[j].sl).ownBlock=some g:=by show (Value.slice ds[j].A _ _).ownBlock=_;rw [hA];rfl
 have hgc:=cO (ENd.C x') (k * 8) (World.grownBy.refl w (some g));have hne:∀ {x:Nm},ax EEn w base x.sl x.nd.es→∀ q,x.sl.ownBlock=some q→some g≠some q:=fun {x} hx q e r=>by
   injection r with r;subst r;exact aB hx hd.1 (show (209:Nat)≠145 by decide) _ e hown
 have hv:ax EDv (dD w g (k * 8) (ENd.C x')) base v (ds.set j ⟨ds[j].nx,ds[j].xs.set k x',ds[j].A,ds[j].c⟩):=by
   have h1:=h.own.far hgc (fun q e r=>by
     injection r with r;subst r;exact aB h.own hd.1 (show (142:Nat)≠145 by decide) _ e hown)
   have e:(ds.set j ⟨ds[j].nx,ds[j].xs.set k x',ds[j].A,ds[j].c⟩).flatMap EDv.C=ds.flatMap EDv.C:=by
     have:=El.kG EDv (x' :=⟨ds[j].nx,ds[j].xs.set k x',ds[j].A,ds[j].c⟩) (j:=0) (u:= .int .i64 ds[j].nx) ds j hj (by show _=List.set [_,_] 0 _;simp [EDv]) (by show 0 < 2;omega);rw [← this];refine List.ext_getElem? fun q=>?_;rw [List.getElem?_set];split
     · rename_i hq;subst hq;have hf:=EDv.dX ds j hj 0 (by show 0 < 2;omega);split
       · rw [hf];rfl
       · rename_i hlt;rw [List.getElem?_eq_none (by omega)]
     · rfl
   unfold ax at h1 ⊢;rw [e,List.length_set];exact h1
 refine h.JW hj hgc hv ⟨?_,?_⟩ ?_ ?_ ?_
 · show ax ENd _ base (.slice ds[j].A (ds[j].xs.set k x').length ds[j].c) (ds[j].xs.set k x');have h1:ax ENd w base (.slice ds[j].A ds[j].xs.length ds[j].c) ds[j].xs:=hd.1;rw [hA] at h1 ⊢;rw [List.length_set];exact h1.puts hk
 · show (ds[j].xs.set k x').length≤1000;rw [List.length_set];exact hd.2
 · intro y hy;rcases iA hy with rfl | hy
   · exact ⟨ho.far hgc (fun q e r=>hne ho q e r),hsz⟩
   · have h2:=h.cu _ (List.getElem_mem hj) y hy;exact ⟨h2.1.far hgc (fun q e r=>hne h2.1 q e r),h2.2⟩
 · intro q hq hqj g' e;refine ⟨fun r=>?_,?_⟩
   · injection r with r;subst r;exact h.other hq hj hqj e hown
   · intro r;exact h.other hq hj hqj e (by
       have r:(Value.slice ds[j].A (ds[j].xs.set k x').length ds[j].c).ownBlock=some g' :=r;show (Value.slice ds[j].A _ _).ownBlock=_;rw [hA] at r ⊢;exact r)
 · intro d hd' x hx' q e r;exact hne (h.cu d hd' x hx').1 q e r
def nO (R:List Dv→Prop) (w:World) (e:Ending) (w' :World):Prop:=
 Below w.heap.size w w' ∧((∃ k:Int,k≠0∧e= .returned (.tuple #[.agg #[.slice none 0 0], .int .i64 k]))∨
  (∃ (A:Option Addr) (n c:Nat) (ds:List Dm),n=ds.length∧e= .returned (.tuple #[fsV A n c, .int .i64 0])∧aC w' w.heap.size (.slice A n c) ds∧R (ds.map Dm.dv)))
theorem OpF.Mx {w wr:World} {A:Option Addr} {n c r:Nat} {ds:List Dm} {dev ino:Int} (h:OpF w wr A n c ds dev ino r) (R:List Dv→Prop) {k:Int} (hk:k≠0):nO R w (.returned (.tuple #[.agg #[.slice none 0 0], .int .i64 k])) (wr.setRow r #[.slice none 0 0]):=
 ⟨ai h.low (by have:=h.hr;omega) _, .inl ⟨k,hk,rfl⟩⟩
theorem nP {w:World} {g b o:Nat} {us:List Value} {t:TypeId} {cs:Array Value} (h:Blk w b t cs) (hne:b≠g):Blk (dD w g o us) b t cs:=h.grown (cO us o (World.grownBy.refl w (some g))) (fun e=>hne (by injection e with e;exact e.symm))
theorem vU {w:World} {g o:Nat} {us:List Value} {p:Addr} {v:Value} (h:w.cell? p=some v) (hp:p.block < w.heap.size) (hne:p.block≠g):(dD w g o us).cell? p=some v:=
 (World.cell?_of_block ((cO us o (World.grownBy.refl w (some g))).block p.block hp (fun e=>hne (by injection e)))).trans h
theorem Gc (dev ino mode uid gid:Int) (ds:List Dm) (A:Option Addr) (n c:Nat) (hn:n=ds.length) (hok:FOk (ds.map Dm.dv)) (w:World) (h:bZ w w.heap.size A ds):
  Calls Tryz.prog 167 #[fsV A n c,flV dev ino, .int .i64 mode, .int .i64 uid, .int .i64 gid] w (nO (fun f' =>yL (ds.map Dm.dv) dev ino mode uid gid f') w):=by
 have HN:=Hd hn;have HOK:=Hd hok;have S0:=Hd (J5 w A n c ds hn dev ino h);clear h hn hok;go_in;go_wp2_with fail;generalize ((w.alloc (.cells #[.slice A n c] 28)).alloc (.cells #[.int .i64 dev, .int .i64 ino] 44)).alloc (.cells #[.slice none 0 0] 28)=w0 at *;refine (bQ dev ino ds A n c HN.o w0 S0.o.files).mono ?_;intro e w2 hp;cases hq:aD (ds.map Dm.dv) dev ino with
 | none=>
  rw [hq] at hp;obtain ⟨rfl,hb⟩:=hp;have S2:=Hd ((S0.o.grow hb).alloc (.cells ndZ 145));clear hb hq;go_wp2_with ((with_reducible refine ae ?_ 28 (.tmp 10) (.tmp 23) ?_ S2.o.R #[.slice none 0 0] ?_ ?_ ?_ ?_ ?_ ?_);(iterate 4 rfl);(exact bR _);rfl;(exact bg _ _ _));refine bodyPost_ret (nN (fn:=Tryz.f167) rfl _ _ _ (.slice none 0 0) rfl (Blk.row S2.o.R _)) rfl ?_;exact S2.o.Mx _ (by decide)
 | some nd=>
  rw [hq] at hp;obtain ⟨A2,c2,rfl,ho,hb,hsz⟩:=hp;obtain ⟨ki,hki⟩:=fO hq;obtain ⟨j,hj,hkj,hdj,hxx⟩:=dR hki;clear hxx;subst hdj;have HKI:=Hd hki;have HQ:=Hd hq;have HSZ:=Hd hsz;clear hki hq hsz;have S2:=Hd ((S0.o.grow hb).alloc (.cells (ndC nd (.slice A2 nd.es.length c2)) 145));have D2:=Hd (Blk.new w2 (ndC nd (.slice A2 nd.es.length c2)) 145);have HO2:=Hd (ho.alloc (.cells (ndC nd (.slice A2 nd.es.length c2)) 145));have HW2:=Hd (show ∀ q,(Value.slice A2 nd.es.length c2).ownBlock=some q→q < w2.heap.size from fun q e=>ho.lt q e);have HR0:=Hd (show w.heap.size+1+1 < w0.heap.size from S0.o.R.lt);have NN:=Hd (show w.heap.size+1+1 < w2.heap.size from Nat.lt_of_lt_of_le S0.o.R.lt hb.size);have HW0:=Hd (show w0.heap.size≤w2.heap.size from hb.size);clear ho hb S0;go_upto_region 4 with fail;generalize w2.alloc (.cells (ndC nd (.slice A2 nd.es.length c2)) 145)=w3 at *;obtain ⟨d0,d1,d2,d3,d4,d5,d6,d7⟩:=j4 D2.o;have f2:=D2.o.free 2;have f3:=D2.o.free 3;have f4:=D2.o.free 4;have hr2:=S2.o.R.lt;have hrw:w.heap.size+1+1 < w2.heap.size:=NN.o;let w4:=((w3.setCell ⟨w2.heap.size,2,none⟩ (.int .i64 mode)).setCell ⟨w2.heap.size,3,none⟩ (.int .i64 uid)).setCell ⟨w2.heap.size,4,none⟩ (.int .i64 gid);have hb4:Below w2.heap.size w3 w4:=(((Below.refl w2.heap.size w3).setCell (p:=⟨w2.heap.size,2,none⟩) (Nat.le_refl _) _).setCell (p:=⟨w2.heap.size,3,none⟩) (Nat.le_refl _) _).setCell (p:=⟨w2.heap.size,4,none⟩) (Nat.le_refl _) _;have S4:=Hd (S2.o.keep hb4 hrw);have D4:=Hd (show Blk w4 w2.heap.size 145 (ndC (lI mode uid gid nd) (.slice A2 nd.es.length c2)) from ((D2.o.put 2 (.int .i64 mode)).put 3 (.int .i64 uid)).put 4 (.int .i64 gid));have HO4:=Hd (show ax EEn w4 w0.heap.size (.slice A2 nd.es.length c2) nd.es from ((HO2.o.bH (g:=w2.heap.size) (i:=2) (fun e=>by have:=HW2.o _ e;omega) _).bH (g:=w2.heap.size) (i:=3) (fun e=>by have:=HW2.o _ e;omega) _).bH (g:=w2.heap.size) (i:=4) (fun e=>by have:=HW2.o _ e;omega) _);clear hb4 hr2;go_upto_region 5 with fail;clear d0 d1 d2 d3 d4 d5 d6 d7 f2 f3 f4 D2 S2 HO2;obtain ⟨w5,hw5⟩:∃ w5,w5=w4:=⟨_,rfl⟩;have MB:((w3.setCell ⟨w2.heap.size,2,none⟩ (.int .i64 mode)).setCell ⟨w2.heap.size,3,none⟩ (.int .i64 uid)).setCell ⟨w2.heap.size,4,none⟩ (.int .i64 gid)=w5:=hw5.symm;rw [MB];rw [← hw5] at S4 D4 HO4;clear MB hw5 w4;obtain ⟨d0,d1,d2,d3,d4,d5,d6,d7⟩:=j4 D4.o;go_wp2_with fail;clear d0 d1 d2 d3 d4 d5 d6 d7;refine (uP (lI mode uid gid nd) (.slice A2 nd.es.length c2) (by have:=HSZ.o.2.1;unfold maxLen;show nd.tg.size≤_;omega) w5).mono ?_;rintro e w6 ⟨rfl,hb⟩;have S6:=Hd (S4.o.grow hb);have D6:=Hd (D4.o.below hb);have HO6:=Hd (HO4.o.below hb);clear hb S4 D4 HO4;cases hpl:mg (lI mode uid gid nd) with
  | false=>
   clear hpl;go_wp2_with ((with_reducible refine ae ?_ 28 (.tmp 10) (.tmp 33) ?_ S6.o.R #[.slice none 0 0] ?_ ?_ ?_ ?_ ?_ ?_);(iterate 4 rfl);(exact bR _);rfl;(exact bg _ _ _));refine bodyPost_ret (nN (fn:=Tryz.f167) rfl _ _ _ (.slice none 0 0) rfl (Blk.row S6.o.R _)) rfl ?_;exact S6.o.Mx _ (by decide)
  | true=>
   clear hpl;have v0:=S6.o.V.cell 0;have u0:=S6.o.U.cell 0;have u1:=S6.o.U.cell 1;go_wp2_with fail;clear v0 u0 u1;refine (jX ds A n c HN.o w6 S6.o.files).mono ?_;rintro e w8 ⟨v8,es,rfl,ho8,he8,hb⟩;obtain ⟨A8,c8,rfl,_⟩:=ho8.at;have HE:=Hd he8;have HEL:es.length=ds.length:=(by have:=congrArg List.length he8;simpa using this);have HLN:=Hd HEL;have hje:j < es.length:=(by rw [HEL];exact hj);have HKE:=Hd (show fD (es.map Dm.dv) (j:Int) ino=some ki by rw [HE.o];exact HKI.o);have hke:ki < es[j].xs.length:=by
     have h1:=HKE.o;unfold fD at h1;rw [dJ (by omega) (by rw [Int.toNat_natCast];exact hje)] at h1;have h2:jh (es[j].xs.map (·.nd)) ino=some ki:=h1;have h3:=(iU h2).1;simpa using h3
   have HND:=Hd (show es[j].xs[ki].nd=nd from by
     obtain ⟨j5,hj5,hk5,e5,e6⟩:=dR (ds:=es) HKE.o;have e7:j=j5:=(by omega);subst e7;rw [HE.o,HQ.o] at e6;injection e6 with e6;exact e6.symm)
   obtain ⟨g8,Db,ES,Ki,Dc⟩:=aW ho8.own (by omega);subst Db;clear Dc HEL;have HB6:=Hd (show w6.heap.size≤w8.heap.size from hb.size);have S7:=Hd (S6.o.grow hb);have D7:=Hd (D6.o.below hb);have HO7:=Hd (HO6.o.below hb);have HR6:=Hd (show w.heap.size+1+1 < w6.heap.size from S6.o.R.lt);have HD6:=Hd (show w2.heap.size < w6.heap.size from D6.o.lt);have HQ6:=Hd (show ∀ q,(Value.slice A2 nd.es.length c2).ownBlock=some q→q < w6.heap.size from fun q e=>HO6.o.lt q e);clear hb he8 S6 D6 HO6;have S9:=Hd (S7.o.alloc (.cells #[(.slice (some ⟨g8,0,none⟩) es.length c8)] 28));have D9:=Hd (D7.o.alloc (.cells #[(.slice (some ⟨g8,0,none⟩) es.length c8)] 28));have O9:=Hd (Blk.new w8 #[(.slice (some ⟨g8,0,none⟩) es.length c8)] 28);have HO9:=Hd (HO7.o.below ((Below.refl w8.heap.size w8).alloc (Nat.le_refl _) (.cells #[(.slice (some ⟨g8,0,none⟩) es.length c8)] 28)));have HF9:=Hd (ho8.below ((Below.refl w8.heap.size w8).alloc (Nat.le_refl _) (.cells #[(.slice (some ⟨g8,0,none⟩) es.length c8)] 28)));clear ho8 S7 D7 HO7;go_upto_region 8 with fail;generalize w8.alloc (.cells #[(.slice (some ⟨g8,0,none⟩) es.length c8)] 28)=w9 at *;have j2:(0:Int)≤(j:Int):=(by omega);have j3:(j:Int) < (es.length:Int):=(by omega);have k2:(0:Int)≤(ki:Int):=(by omega);have k3:(ki:Int) < (es[j].xs.length:Int):=(by omega);obtain ⟨ad8,e0,FV,Bn⟩:=aU HF9.o.own j hje;injection e0 with e0;subst e0;obtain ⟨s00,s1⟩:=bO (a:=(⟨g8,0,none⟩:Addr).add (j * 2)) Bn;rw [bP] at s1;replace s1:w9.cell? ⟨g8,j * 2+1,none⟩=some (.slice es[j].A es[j].xs.length es[j].c):=s1;clear s00 Bn FV;obtain ⟨gn,zo,hgn1,hgn2,Ko⟩:=aW (HF9.o.nodes _ (List.getElem_mem hje)).1 (by omega);clear Ko;have HGN:=Hd zo;rw [zo] at s1;have hgg:g8≠gn:=fun e=>aB HF9.o.own (HF9.o.nodes _ (List.getElem_mem hje)).1 (show (142:Nat)≠145 by decide) g8 rfl (by show (Value.slice es[j].A _ _).ownBlock=_;rw [zo,e];rfl);clear zo;obtain ⟨m,hm⟩:∃ m,m=es[j].xs.length:=⟨_,rfl⟩;have HM:=Hd hm;obtain ⟨cj,hcj⟩:∃ cj,cj=es[j].c:=⟨_,rfl⟩;rw [← hm, ← hcj] at s1;rw [← hm] at k3;clear hm hcj;have hr6:=HR6.o;have hd6:=HD6.o;have hb6:=HB6.o;have PY:w8.heap.size < w9.heap.size:=O9.o.lt;have HAT:=Hd HF9.o.uy.1;have HRI:=Hd (show ∀ W:World,Below w9.heap.size w9 W→Calls Tryz.prog 117 #[fsV (some ⟨g8,0,none⟩) es.length c8,flV (j:Int) ino] W fun e w' =>e= .returned (.int .i64 (ki:Int))∧Below W.heap.size W w' from fun W hW=>by
     have:=kR (j:Int) ino es (some ⟨g8,0,none⟩) es.length c8 rfl W (HAT.o.below hW);rw [HKE.o] at this;exact this)
   have Kq:g8 < w9.heap.size:=HF9.o.own.lt g8 rfl;refine wp_region_held_drew (S:=(fun W=>Blk W w8.heap.size 28 #[(.slice (some ⟨g8,0,none⟩) es.length c8)]∧Blk W (w.heap.size+1) 44 #[.int .i64 (j:Int), .int .i64 ino]∧Blk W w2.heap.size 145 (ndC (lI mode uid gid nd) (.slice A2 nd.es.length c2))∧W.cell? ⟨g8,j * 2+1,none⟩=some (.slice (some ⟨gn,0,none⟩) m cj))) (by kernel_rfl) ⟨O9.o,S9.o.U,D9.o,s1⟩ (fun hHeld=>?_);refine tk hHeld 0 ?_ ?_ (tk hHeld 1 ?_ ?_ (tk hHeld 2 ?_ ?_ (tk hHeld 3 ?_ ?_ (tk hHeld 4 ?_ ?_ (tk hHeld 5 ?_ ?_ (tk hHeld 6 ?_ ?_ (tk hHeld 7 ?_ ?_ (tk hHeld 8 ?_ ?_ ?_))))))));iterate 9
     rotate_left
     · intro W hSw;obtain ⟨z0,z1,z2,z3⟩:=hSw;have o0:=z0.cell 0;have u0:=z1.cell 0;have u1:=z1.cell 1;go_simp;try (with_reducible rfl)
   refine tk hHeld 10 ?_ ?_ ?_;rotate_left
   · intro W hSw;obtain ⟨z0,z1,z2,z3⟩:=hSw;obtain ⟨y0,y1,y2,y3,y4,y5,y6,y7⟩:=j4 z2;go_simp;try (with_reducible rfl)
   refine rdy1 9 (fun K hK=>?_);go_simp;go_at_call 117;refine (HRI.o _ (Below.refl w9.heap.size w9).drew).mono ?_;rintro e wz ⟨rfl,hbz⟩;have hbz:Below w9.heap.size w9 wz:=aa (Below.refl w9.heap.size w9).drew hbz;have hh:Blk wz w8.heap.size 28 #[(.slice (some ⟨g8,0,none⟩) es.length c8)]∧Blk wz (w.heap.size+1) 44 #[.int .i64 (j:Int), .int .i64 ino]∧Blk wz w2.heap.size 145 (ndC (lI mode uid gid nd) (.slice A2 nd.es.length c2))∧wz.cell? ⟨g8,j * 2+1,none⟩=some (.slice (some ⟨gn,0,none⟩) m cj):=⟨O9.o.below hbz,S9.o.U.below hbz,D9.o.below hbz,(hbz.cell (p:=⟨g8,j * 2+1,none⟩) Kq).trans s1⟩;have HFZ:=Hd (HF9.o.below hbz);have HOZ:=Hd (HO9.o.below hbz);have SZ:=Hd (S9.o.grow hbz);have hwz:w9.heap.size≤wz.heap.size:=hbz.size;clear hbz;go_simp;refine hK.o _ _ hh (fun hHeld=>?_);clear hK K;refine tk hHeld 11 ?_ ?_ ?_;rotate_left
   · intro W hSw;go_simp;try (with_reducible rfl)
   have hnz:=aU (HFZ.o.nodes _ (List.getElem_mem hje)).1 ki hke;obtain ⟨bd,hbd,hbb,hcy⟩:=hnz;rw [HGN.o] at hbd;injection hbd with hbd;subst hbd;obtain ⟨n0,n1,n2,n3,n4,n5,n6,n7⟩:=dh (a:=(⟨gn,0,none⟩:Addr).add (ki * 8)) hcy;rw [bP] at n0 n1 n2 n3 n4 n5 n6 n7;have hfr:∀ i,wz.frozen? ⟨gn,i,none⟩=false:=fun i=>by
     have h9:ax ENd wz w6.heap.size (.slice es[j].A es[j].xs.length es[j].c) es[j].xs:=(HFZ.o.nodes _ (List.getElem_mem hje)).1;rw [HGN.o] at h9;exact h9.free i
   have g0:=hfr (ki * 8);have g1:=hfr (ki * 8+1);have g2:=hfr (ki * 8+2);have g3:=hfr (ki * 8+3);have g4:=hfr (ki * 8+4);have g5:=hfr (ki * 8+5);have g6:=hfr (ki * 8+6);have g7:=hfr (ki * 8+7);clear hcy hfr hbb;have HFS:=Hd ((HFZ.o.low (b:=w0.heap.size) (by have:=HW0.o;omega)).Kt hje hke HGN.o (x' :=(⟨lI mode uid gid nd,A2,c2⟩:Nm)) (by show jg (lI mode uid gid nd);exact HSZ.o) HOZ.o);have hh2:(fun W:World=>Blk W w8.heap.size 28 #[(.slice (some ⟨g8,0,none⟩) es.length c8)]∧Blk W (w.heap.size+1) 44 #[.int .i64 (j:Int), .int .i64 ino]∧Blk W w2.heap.size 145 (ndC (lI mode uid gid nd) (.slice A2 nd.es.length c2))∧W.cell? ⟨g8,j * 2+1,none⟩=some (.slice (some ⟨gn,0,none⟩) m cj)) (dD wz gn (ki * 8) (ENd.C (⟨lI mode uid gid nd,A2,c2⟩:Nm))):=⟨nP hh.1 (fun e=>ay (HFZ.o.nodes _ (List.getElem_mem hje)).1 hh.1 (by decide) (by show (Value.slice es[j].A _ _).ownBlock=_;rw [HGN.o,e];rfl)),nP hh.2.1 (by omega),nP hh.2.2.1 (by omega),vU hh.2.2.2 (by show g8 < wz.heap.size;omega) hgg⟩;have SY:=Hd (show OpF w (dD wz gn (ki * 8) (ENd.C (⟨lI mode uid gid nd,A2,c2⟩:Nm))) A n c ds (j:Int) ino (w.heap.size+1+1) from SZ.o.keep (B:=w6.heap.size) ((Below.refl w6.heap.size wz).grown (cO _ _ (World.grownBy.refl wz (some gn))) (by omega) (fun q e=>by injection e with e;omega)) hr6);refine rdy1 12 (fun K hK=>?_);go_simp;refine hK.o _ _ hh2 (fun hHeld=>?_);clear hK K;clear n0 n1 n2 n3 n4 n5 n6 n7 g0 g1 g2 g3 g4 g5 g6 g7;refine wpAnyH_done (by kernel_rfl) ?_ _;have OY:=Hd hh2.1;clear hh hh2;obtain ⟨wy,hwy⟩:∃ wy,wy=dD wz gn (ki * 8) (ENd.C (⟨lI mode uid gid nd,A2,c2⟩:Nm)):=⟨_,rfl⟩;have hwn:((((((((wz.setCell ⟨gn,ki * 8,none⟩ (.int .i64 (lI mode uid gid nd).ino)).setCell ⟨gn,ki * 8+1,none⟩ (.int .i64 (lI mode uid gid nd).kind)).setCell ⟨gn,ki * 8+2,none⟩ (.int .i64 (lI mode uid gid nd).mode)).setCell ⟨gn,ki * 8+3,none⟩ (.int .i64 (lI mode uid gid nd).uid)).setCell ⟨gn,ki * 8+4,none⟩ (.int .i64 (lI mode uid gid nd).gid)).setCell ⟨gn,ki * 8+5,none⟩ (.int .i64 (lI mode uid gid nd).par)).setCell ⟨gn,ki * 8+6,none⟩ (.string (lI mode uid gid nd).tg)).setCell ⟨gn,ki * 8+7,none⟩ (.slice A2 nd.es.length c2))=wy:=hwy.symm;rw [hwn];rw [← hwy] at OY SY HFS;clear hwn hwy;have o0:=OY.o.cell 0;go_wp2_with ((with_reducible refine ae ?_ 28 (.tmp 10) (.tmp 48) ?_ SY.o.R #[(.slice (some ⟨g8,0,none⟩) es.length c8)] ?_ ?_ ?_ ?_ ?_ ?_);(iterate 4 rfl);(exact bR _);rfl;(exact bg _ _ _));refine bodyPost_ret (nN (fn:=Tryz.f167) rfl _ _ (w.heap.size+1+1) (.slice (some ⟨g8,0,none⟩) es.length c8) rfl (Blk.row SY.o.R _)) rfl ?_;have hof:=HFS.o.far (aA wy (w.heap.size+1+1) #[(.slice (some ⟨g8,0,none⟩) es.length c8)]) (fun q e=>by injection e with e;subst e;exact HFS.o.old (by have:=HR0.o;omega));exact ⟨ai SY.o.low (by omega) _, .inr ⟨_,_,_,_,hof.uy.2,rfl,hof.low (by have:=HR0.o;omega),ki,HKI.o,by rw [qQ es j ki hje hke (⟨lI mode uid gid nd,A2,c2⟩:Nm) (lI mode uid gid) (by rw [HND.o]),HE.o];rfl⟩⟩
theorem last_at (d:ByteArray) (k:Nat) (hk:d.size=k+1) (h:k < d.size):d.data.toList.getLast? =some d[k]:=by
 have hl:d.data.toList.length=k+1:=by rw [Array.length_toList];exact hk
 rw [List.getLast?_eq_getElem?,hl,Nat.add_sub_cancel,List.getElem?_eq_getElem (by omega)];rfl
theorem Bo (d nm:ByteArray) (hd:d.size≤2000) (hn:nm.size≤2000) (w:World):
  Calls Tryz.prog 71 #[.string d, .string nm] w fun e w' =>e= .returned (.string (eX d nm))∧w=w' :=by
 have HJ:=Hd (show eX d nm=if (decide (0 < d.size) && (d.data.toList.getLast? == some 47))=true then d ++ nm else d ++ ⟨#[47]⟩ ++ nm from rfl);have hs1:(d.size:Int)+(nm.size:Int)≤4000:=by omega
 have hs2:d.size+nm.size≤4000:=by omega
 by_cases h0:0 < d.size;case neg=>
  have h0' :¬ (0:Int) < (d.size:Int):=by omega
  have HR:=Hd (HJ.o.trans (if_neg (by rw [decide_eq_false h0,Bool.false_and];decide)));clear HJ;go_in;go_wp2_with fail;go_ret;exact ⟨by rw [HR.o];rfl,rfl⟩
 case pos=>
  obtain ⟨k,hk⟩:∃ k,d.size=k+1:=⟨d.size - 1,by omega⟩;have hkd:k < d.size:=by omega
  have h0' :(0:Int) < (d.size:Int):=by omega
  have hl:=last_at d k hk hkd;have wk:IntKind.i64.wrap ((d.size:Int) - 1)=(k:Int):=by rw [show (d.size:Int) - 1=(k:Int) by omega];exact IntWalk.i64_in _ (by omega)
  have wk2:wrap64 ((d.size:Int) - 1)=(k:Int):=by rw [show (d.size:Int) - 1=(k:Int) by omega];exact IntWalk.wrap64_in _ (by omega)
  have k2:(0:Int)≤(k:Int):=by omega
  have k3:(k:Int) < (d.size:Int):=by omega
  cases hc:((d[k].toNat:Int) == 47) with
  | true=>
   have HR:=Hd (HJ.o.trans (if_pos (by
    have:d[k]=47:=by
     have h9:(d[k].toNat:Int)=47:=(by simpa using hc);exact UInt8.toNat_inj.1 (by show d[k].toNat=47;omega)
    rw [hl,this,decide_eq_true h0];decide)))
   clear HJ hl;go_in;go_wp2_with fail;go_ret;exact ⟨by rw [HR.o];rfl,rfl⟩
  | false=>
   have HR:=Hd (HJ.o.trans (if_neg (by
    rw [hl,decide_eq_true h0];intro h9;have h8:(some d[k] == some (47:UInt8))=true:=(by simpa using h9);have h7:d[k]=47:=(by simpa using h8);rw [h7] at hc;exact absurd hc (by decide))))
   clear HJ hl;go_in;go_wp2_with fail;go_ret;exact ⟨by rw [HR.o];rfl,rfl⟩
theorem rV (f:List Dv) (dev ino:Int):dZ f dev ino=match aD f dev (upF f dev ino) with | some p=>(match p.es.find? (fun e:En=>e.ino == ino) with | some e=>e.nm | none=>⟨#[]⟩) | none=>⟨#[]⟩:=by
 unfold dZ;cases aD f dev (upF f dev ino) with
 | none=>rfl
 | some p=>rfl
def nQ (l:List En) (ino:Int):ByteArray:=match l.find? (fun e:En=>e.ino == ino) with | some e=>e.nm | none=>⟨#[]⟩
theorem nR {l:List En} {ino:Int} {k:Nat} (hk:k < l.length) (hn:∀ q (hq:q < k),(l[q].ino == ino)=false) (h:(l[k].ino == ino)=true):nQ l ino=l[k].nm:=by
 unfold nQ;have:l.find? (fun e:En=>e.ino == ino)=some l[k]:=by
  rw [List.find?_eq_some_iff_getElem];exact ⟨h,k,hk,rfl,fun j hj=>by rw [hn j hj];decide⟩
 rw [this]
theorem nS {l:List En} {ino:Int} (hn:∀ q (hq:q < l.length),(l[q].ino == ino)=false):nQ l ino=⟨#[]⟩:=by
 unfold nQ;have:l.find? (fun e:En=>e.ino == ino)=none:=by
  rw [List.find?_eq_none];intro m hm;obtain ⟨q,hq,rfl⟩:=List.getElem_of_mem hm;rw [hn q hq];decide
 rw [this]
structure NaS (w wr:World) (dev ino:Int) (es:List En) (gp:Nat) (nd:Nd) (Ae:Option Addr) (ce:Nat):Prop where
 low:Below w.heap.size w wr
 U:Blk wr (w.heap.size+1) 44 #[.int .i64 dev, .int .i64 ino]
 D:Blk wr gp 145 (ndC nd (.slice Ae es.length ce))
 E:AtE EEn wr wr.heap.size Ae es
 few:es.length≤1000
theorem Gi (dev ino:Int) (ds:List Dm) (A:Option Addr) (n c:Nat) (hn:n=ds.length) (w:World) (h:bZ w w.heap.size A ds):
  Calls Tryz.prog 72 #[fsV A n c,flV dev ino] w fun e w' =>e= .returned (.string (dZ (ds.map Dm.dv) dev ino))∧Below w.heap.size w w' :=by
 have HN:=Hd hn;have B0:=Hd (aT w #[.slice A n c] #[.int .i64 dev, .int .i64 ino] 28 44);have F0:=Hd (h.below B0.o);have V0:=Hd ((Blk.new w #[.slice A n c] 28).alloc (.cells #[.int .i64 dev, .int .i64 ino] 44));have U0:=Hd (show Blk ((w.alloc (.cells #[.slice A n c] 28)).alloc (.cells #[.int .i64 dev, .int .i64 ino] 44)) (w.heap.size+1) 44 #[.int .i64 dev, .int .i64 ino] by
  have h:=Blk.new (w.alloc (.cells #[.slice A n c] 28)) #[.int .i64 dev, .int .i64 ino] 44;simp only [World.size_alloc] at h;exact h)
 have HND:=Hd (rV (ds.map Dm.dv) dev ino);have JE:=Hd (show upF (ds.map Dm.dv) dev ino=match aD (ds.map Dm.dv) dev ino with | some n=>n.par | none=>0 from rfl);clear h hn;go_in;go_wp2_with fail;generalize (w.alloc (.cells #[.slice A n c] 28)).alloc (.cells #[.int .i64 dev, .int .i64 ino] 44)=w0 at *;refine (bQ dev ino ds A n c HN.o w0 F0.o).mono ?_;intro e w1 hp;cases hq:aD (ds.map Dm.dv) dev ino with
 | none=>
  rw [hq] at hp;obtain ⟨rfl,hb⟩:=hp;have HUP:=Hd (show upF (ds.map Dm.dv) dev ino=0 by rw [JE.o,hq]);have B3:=Hd ((B0.o.trans (hb.mono B0.o.size)).alloc (B0.o.trans (hb.mono B0.o.size)).size (.cells ndZ 145));have F3:=Hd ((F0.o.below hb).below ((Below.refl w1.heap.size w1).alloc (Nat.le_refl _) (.cells ndZ 145)));have V3:=Hd ((V0.o.below hb).alloc (.cells ndZ 145));have U3:=Hd ((U0.o.below hb).alloc (.cells ndZ 145));have D3:=Hd (Blk.new w1 ndZ 145);clear hb hq JE;go_upto_region 2 with fail;generalize w1.alloc (.cells ndZ 145)=w3 at *;have v0:=V3.o.cell 0;have u0:=U3.o.cell 0;have d5:=D3.o.cell 5;go_wp2_with fail;clear v0 u0 d5 B0 F0 V0 U0;refine (bQ dev 0 ds A n c HN.o w3 F3.o).mono ?_;intro e w4 hp;cases hq2:aD (ds.map Dm.dv) dev 0 with
  | none=>
   rw [hq2] at hp;obtain ⟨rfl,hb⟩:=hp;have HR:=Hd (show dZ (ds.map Dm.dv) dev ino=nQ [] ino by rw [HND.o,HUP.o,hq2];rfl);have HS:=Hd (show NaS w (w4.alloc (.cells ndZ 145)) dev ino [] w4.heap.size zNd none 0 from ⟨(B3.o.trans (hb.mono B3.o.size)).alloc (B3.o.trans (hb.mono B3.o.size)).size _,(U3.o.below hb).alloc _,Blk.new w4 _ _,AtE.nil,Nat.zero_le _⟩);clear hb hq2;go_upto_region 3 with fail;generalize w4.alloc (.cells ndZ 145)=w5 at *;go_wp2_with fail;go_loopw [9] (fun ix wr=>ix= .int .i64 0∧wr=w5) (fun _ _=>0);case atStart=>exact ⟨rfl,rfl⟩
   case round=>
    obtain ⟨rfl,rfl⟩:=hrel;have d7:=HS.o.D.cell 7;go_wp2_with fail;go_ret;exact ⟨by rw [HR.o];rfl,HS.o.low⟩
  | some p=>
   rw [hq2] at hp;obtain ⟨Ap,cp,rfl,ho,hb,hsz⟩:=hp;have HR:=Hd (show dZ (ds.map Dm.dv) dev ino=nQ p.es ino by rw [HND.o,HUP.o,hq2];rfl);have HS:=Hd (show NaS w (w4.alloc (.cells (ndC p (.slice Ap p.es.length cp)) 145)) dev ino p.es w4.heap.size p Ap cp from ⟨(B3.o.trans (hb.mono B3.o.size)).alloc (B3.o.trans (hb.mono B3.o.size)).size _,(U3.o.below hb).alloc _,Blk.new w4 _ _,(aU ho).below ((Below.refl w4.heap.size w4).alloc (Nat.le_refl _) _),hsz.1⟩);clear hb hq2 ho hsz;go_upto_region 3 with fail;generalize w4.alloc (.cells (ndC p (.slice Ap p.es.length cp)) 145)=w5 at *;generalize p.es=es at *;go_wp2_with fail;go_loopw [9] (fun ix wr=>∃ k t:Nat,k≤es.length∧ix= .int .i64 k∧wr=w5.drewN t∧Hid (∀ q (hq:q < k) (hql:q < es.length),(es[q].ino == ino)=false)) (fun ix _=>es.length - (intOf ix).toNat);case atStart=>exact ⟨0,0,Nat.zero_le _,rfl,rfl,Hd (fun q hq=>absurd hq (Nat.not_lt_zero q))⟩
   case round=>
    obtain ⟨k,t,hk,rfl,rfl,hno⟩:=hrel;have d7:=HS.o.D.cell 7;have u1:=HS.o.U.cell 1;have oO:=HS.o.few;have WK:=Hd (dH (q:=k) (by omega));by_cases hlt:k < es.length;case neg=>
     have k1:¬ (k:Int) < (es.length:Int):=(by omega);have HR2:=Hd (HR.o.trans (nS (fun q hq=>hno.o q (by omega) hq)));clear hno oO;go_wp2_with fail;go_ret;exact ⟨by rw [HR2.o];rfl,below_drewN HS.o.low _⟩
    case pos=>
     have k1:(k:Int) < (es.length:Int):=(by omega);have k2:(0:Int)≤(k:Int):=(by omega);obtain ⟨ad,rfl,hab,hcx⟩:=HS.o.E k hlt;obtain ⟨e0,e1⟩:=gy (a:=ad.add (k * 2)) hcx;have HX:=Hd (fun h:(es[k].ino == ino)=true=>nR hlt (fun q hq=>hno.o q hq (by omega)) h);have HY:=Hd (fun h:(es[k].ino == ino)=false=>show ∀ q (hq:q < k+1) (hql:q < es.length),(es[q].ino == ino)=false from fun q hq hql=>by
      by_cases he:q=k
      · subst he;exact h
      · exact hno.o q (by omega) hql)
     clear hcx hno oO;generalize es[k]=x at *;cases hb:(x.ino == ino) with
     | true=>
      have HR2:=Hd (HR.o.trans (HX.o hb));clear HX HY;go_upto_region 6 with fail;go_quiet (fail);go_wp2_with fail;go_ret;exact ⟨by rw [HR2.o];rfl,below_drewN HS.o.low _⟩
     | false=>
      have HZ:=Hd (HY.o hb);clear HX HY;go_upto_region 6 with fail;go_quiet (fail);obtain ⟨wk1,wk2⟩:=WK.o;go_wp2_with fail;clear wk1 wk2;go_roundw;case rel=>exact ⟨k+1,t+nq,hlt,rfl,rfl,HZ⟩
      case measure=>exact aN hlt _ rfl
 | some nd=>
  rw [hq] at hp;obtain ⟨A2,c2,rfl,ho,hb,hsz⟩:=hp;have HUP:=Hd (show upF (ds.map Dm.dv) dev ino=nd.par by rw [JE.o,hq]);have B3:=Hd ((B0.o.trans (hb.mono B0.o.size)).alloc (B0.o.trans (hb.mono B0.o.size)).size (.cells (ndC nd (.slice A2 nd.es.length c2)) 145));have F3:=Hd ((F0.o.below hb).below ((Below.refl w1.heap.size w1).alloc (Nat.le_refl _) (.cells (ndC nd (.slice A2 nd.es.length c2)) 145)));have V3:=Hd ((V0.o.below hb).alloc (.cells (ndC nd (.slice A2 nd.es.length c2)) 145));have U3:=Hd ((U0.o.below hb).alloc (.cells (ndC nd (.slice A2 nd.es.length c2)) 145));have D3:=Hd (Blk.new w1 (ndC nd (.slice A2 nd.es.length c2)) 145);clear hb hq JE ho hsz;go_upto_region 2 with fail;generalize w1.alloc (.cells (ndC nd (.slice A2 nd.es.length c2)) 145)=w3 at *;have v0:=V3.o.cell 0;have u0:=U3.o.cell 0;have d5:=D3.o.cell 5;go_wp2_with fail;clear v0 u0 d5 B0 F0 V0 U0;refine (bQ dev nd.par ds A n c HN.o w3 F3.o).mono ?_;intro e w4 hp;cases hq2:aD (ds.map Dm.dv) dev nd.par with
  | none=>
   rw [hq2] at hp;obtain ⟨rfl,hb⟩:=hp;have HR:=Hd (show dZ (ds.map Dm.dv) dev ino=nQ [] ino by rw [HND.o,HUP.o,hq2];rfl);have HS:=Hd (show NaS w (w4.alloc (.cells ndZ 145)) dev ino [] w4.heap.size zNd none 0 from ⟨(B3.o.trans (hb.mono B3.o.size)).alloc (B3.o.trans (hb.mono B3.o.size)).size _,(U3.o.below hb).alloc _,Blk.new w4 _ _,AtE.nil,Nat.zero_le _⟩);clear hb hq2;go_upto_region 3 with fail;generalize w4.alloc (.cells ndZ 145)=w5 at *;go_wp2_with fail;go_loopw [9] (fun ix wr=>ix= .int .i64 0∧wr=w5) (fun _ _=>0);case atStart=>exact ⟨rfl,rfl⟩
   case round=>
    obtain ⟨rfl,rfl⟩:=hrel;have d7:=HS.o.D.cell 7;go_wp2_with fail;go_ret;exact ⟨by rw [HR.o];rfl,HS.o.low⟩
  | some p=>
   rw [hq2] at hp;obtain ⟨Ap,cp,rfl,ho,hb,hsz⟩:=hp;have HR:=Hd (show dZ (ds.map Dm.dv) dev ino=nQ p.es ino by rw [HND.o,HUP.o,hq2];rfl);have HS:=Hd (show NaS w (w4.alloc (.cells (ndC p (.slice Ap p.es.length cp)) 145)) dev ino p.es w4.heap.size p Ap cp from ⟨(B3.o.trans (hb.mono B3.o.size)).alloc (B3.o.trans (hb.mono B3.o.size)).size _,(U3.o.below hb).alloc _,Blk.new w4 _ _,(aU ho).below ((Below.refl w4.heap.size w4).alloc (Nat.le_refl _) _),hsz.1⟩);clear hb hq2 ho hsz;go_upto_region 3 with fail;generalize w4.alloc (.cells (ndC p (.slice Ap p.es.length cp)) 145)=w5 at *;generalize p.es=es at *;go_wp2_with fail;go_loopw [9] (fun ix wr=>∃ k t:Nat,k≤es.length∧ix= .int .i64 k∧wr=w5.drewN t∧Hid (∀ q (hq:q < k) (hql:q < es.length),(es[q].ino == ino)=false)) (fun ix _=>es.length - (intOf ix).toNat);case atStart=>exact ⟨0,0,Nat.zero_le _,rfl,rfl,Hd (fun q hq=>absurd hq (Nat.not_lt_zero q))⟩
   case round=>
    obtain ⟨k,t,hk,rfl,rfl,hno⟩:=hrel;have d7:=HS.o.D.cell 7;have u1:=HS.o.U.cell 1;have oO:=HS.o.few;have WK:=Hd (dH (q:=k) (by omega));by_cases hlt:k < es.length;case neg=>
     have k1:¬ (k:Int) < (es.length:Int):=(by omega);have HR2:=Hd (HR.o.trans (nS (fun q hq=>hno.o q (by omega) hq)));clear hno oO;go_wp2_with fail;go_ret;exact ⟨by rw [HR2.o];rfl,below_drewN HS.o.low _⟩
    case pos=>
     have k1:(k:Int) < (es.length:Int):=(by omega);have k2:(0:Int)≤(k:Int):=(by omega);obtain ⟨ad,rfl,hab,hcx⟩:=HS.o.E k hlt;obtain ⟨e0,e1⟩:=gy (a:=ad.add (k * 2)) hcx;have HX:=Hd (fun h:(es[k].ino == ino)=true=>nR hlt (fun q hq=>hno.o q hq (by omega)) h);have HY:=Hd (fun h:(es[k].ino == ino)=false=>show ∀ q (hq:q < k+1) (hql:q < es.length),(es[q].ino == ino)=false from fun q hq hql=>by
      by_cases he:q=k
      · subst he;exact h
      · exact hno.o q (by omega) hql)
     clear hcx hno oO;generalize es[k]=x at *;cases hb:(x.ino == ino) with
     | true=>
      have HR2:=Hd (HR.o.trans (HX.o hb));clear HX HY;go_upto_region 6 with fail;go_quiet (fail);go_wp2_with fail;go_ret;exact ⟨by rw [HR2.o];rfl,below_drewN HS.o.low _⟩
     | false=>
      have HZ:=Hd (HY.o hb);clear HX HY;go_upto_region 6 with fail;go_quiet (fail);obtain ⟨wk1,wk2⟩:=WK.o;go_wp2_with fail;clear wk1 wk2;go_roundw;case rel=>exact ⟨k+1,t+nq,hlt,rfl,rfl,HZ⟩
      case measure=>exact aN hlt _ rfl
def NR (w:World) (e:Ending) (w' :World):Prop:=(∃ b:Bool,e= .returned (.bool b))∧Below w.heap.size w w'
def Gv (u:Int) (w:World) (e:Ending) (w' :World):Prop:=e= .returned (.bool (decide (0≤u) && decide (u < 4294967295)))∧w=w'
theorem NS (nd:Nd) (v:Value) (u g p:Int) (w:World):
  Calls Tryz.prog 248 #[.agg (ndC nd v), .int .i64 u, .int .i64 g, .int .i64 p] w (NR w):=by
 have B0:=Hd ((Below.refl w.heap.size w).alloc (Nat.le_refl _) (.cells (ndC nd v) 145));have N0:=Hd (Blk.new w (ndC nd v) 145);by_cases hp:p < 0;case pos=>
  go_in;go_wp2_with fail;go_ret;exact ⟨⟨_,rfl⟩,B0.o⟩
 case neg=>
  by_cases hp7:7 < p;case pos=>
   go_in;go_wp2_with fail;go_ret;exact ⟨⟨_,rfl⟩,B0.o⟩
  case neg=>
   cases hu:(u == 0) with
   | true=>
    go_in;go_upto_region 1 with fail;generalize w.alloc (.cells (ndC nd v) 145)=w0 at *;have n1:=N0.o.cell 1;have n2:=N0.o.cell 2;cases h1:(bits BinOp.and IntKind.i64 p 1 == 0) with
    | true=>
     go_wp2_with fail;go_ret;exact ⟨⟨_,rfl⟩,B0.o⟩
    | false=>
     cases h2:(nd.kind == 2) with
     | true=>
      go_wp2_with fail;go_ret;exact ⟨⟨_,rfl⟩,B0.o⟩
     | false=>
      go_wp2_with fail;go_ret;exact ⟨⟨_,rfl⟩,B0.o⟩
   | false=>
    cases hu2:(u == nd.uid) with
    | true=>
     go_in;go_upto_region 1 with fail;generalize w.alloc (.cells (ndC nd v) 145)=w0 at *;have n2:=N0.o.cell 2;have n3:=N0.o.cell 3;have n4:=N0.o.cell 4;go_wp2_with fail;go_ret;exact ⟨⟨_,rfl⟩,B0.o⟩
    | false=>
     cases hg:(g == nd.gid) with
     | true=>
      go_in;go_upto_region 1 with fail;generalize w.alloc (.cells (ndC nd v) 145)=w0 at *;have n2:=N0.o.cell 2;have n3:=N0.o.cell 3;have n4:=N0.o.cell 4;go_wp2_with fail;go_ret;exact ⟨⟨_,rfl⟩,B0.o⟩
     | false=>
      go_in;go_upto_region 1 with fail;generalize w.alloc (.cells (ndC nd v) 145)=w0 at *;have n2:=N0.o.cell 2;have n3:=N0.o.cell 3;have n4:=N0.o.cell 4;go_wp2_with fail;go_ret;exact ⟨⟨_,rfl⟩,B0.o⟩
theorem wG (u:Int) (w:World):
  Calls Tryz.prog 250 #[.int .i64 u] w (Gv u w):=by
 by_cases h:0≤u;case pos=>
  have HR:=Hd (show (decide (0≤u) && decide (u < 4294967295))=decide (u < 4294967295) by rw [decide_eq_true h,Bool.true_and]);go_in;go_wp2_with fail;go_ret;exact ⟨by rw [HR.o];rfl,rfl⟩
 case neg=>
  have HR:=Hd (show (decide (0≤u) && decide (u < 4294967295))=false by rw [decide_eq_false h,Bool.false_and]);go_in;go_wp2_with fail;go_ret;exact ⟨by rw [HR.o];rfl,rfl⟩
def lU (b:Bool) (x y z:Int):Int×Int×Int:=if b then (z,z,0) else if (z == x || z == y) then (x,z,0) else (0,0,1)
def NT (b:Bool) (x y z:Int) (w:World) (e:Ending) (w' :World):Prop:=e= .returned (.tuple #[.int .i64 (lU b x y z).1, .int .i64 (lU b x y z).2.1, .int .i64 (lU b x y z).2.2])∧w=w'
theorem kK {fn:Func} {i j k:Nat} (h:fn.results=#[.tmp i, .tmp j, .tmp k]) (tmps:Array Value) (w:World):(results fn tmps).run Tryz.prog w= .ok (.tuple #[tmps.getD i undef,tmps.getD j undef,tmps.getD k undef]) w:=by
 simp [results,h]
theorem wH (b:Bool) (x y z:Int) (w:World):
  Calls Tryz.prog 251 #[.bool b, .int .i64 x, .int .i64 y, .int .i64 z] w (NT b x y z w):=by
 cases b with
 | true=>
  go_in;go_wp2_with fail;refine bodyPost_ret (kK (fn:=Tryz.f251) rfl _ _) rfl ?_;exact ⟨rfl,rfl⟩
 | false=>
  cases h1:(z == x) with
  | true=>
   have HR:=Hd (show lU false x y z=(x,z,0) by unfold lU;rw [h1];rfl);go_in;go_wp2_with fail;refine bodyPost_ret (kK (fn:=Tryz.f251) rfl _ _) rfl ?_;exact ⟨by rw [HR.o];rfl,rfl⟩
  | false=>
   cases h2:(z == y) with
   | true=>
    have HR:=Hd (show lU false x y z=(x,z,0) by unfold lU;rw [h1,h2];rfl);go_in;go_wp2_with fail;refine bodyPost_ret (kK (fn:=Tryz.f251) rfl _ _) rfl ?_;exact ⟨by rw [HR.o];rfl,rfl⟩
   | false=>
    have HR:=Hd (show lU false x y z=(0,0,1) by unfold lU;rw [h1,h2];rfl);go_in;go_wp2_with fail;refine bodyPost_ret (kK (fn:=Tryz.f251) rfl _ _) rfl ?_;exact ⟨by rw [HR.o];rfl,rfl⟩
abbrev lh:Array Value:=#[.string ⟨#[]⟩, .string ⟨#[]⟩, .int .i64 0, .int .i64 0, .string ⟨#[]⟩, .int .i64 0, .int .i64 0, .int .i64 0, .int .i64 0, .int .i64 0, .int .i64 0, .int .i64 0, .int .i64 0]
theorem zA (i:Itm) (r:bE):lh.size=(bf i r).size:=rfl
theorem kL (i:Itm) (r:bE):(bf i r).all (·.oneCell')=true:=by simp [bf,Value.oneCell']
section
variable {w wr w' :World} {base g gc:Nat} {b b' :Int} {i:Itm} {r:bE}
end
structure J0 (w wr:World) (base g:Nat) (b:Int):Prop where
 only:w.grownBy wr (some g)
 src:aV wr base g b
 rb:Blk wr w.heap.size 73 lh
 h3:g < w.heap.size
 h4:base≤w.heap.size
attribute [local irreducible] bf
end Go.Proofs.YtollifnnpihfdaaGreatDoor
