import Derived.Test.YtollifnnpihfdaaGreatDoorW14
import Derived.Test.YtollifnnpihfdaaGreatDoorW16
set_option maxRecDepth 100000
set_option maxHeartbeats 64000000
set_option linter.all false
namespace Go.Proofs.YtollifnnpihfdaaGreatDoor
open Go.RowKit
theorem Tryz.DI:(Tryz.prog.info? 199).map (fun i=>(i.zero,i.size,i.bytes))=some (some (.agg #[.int .i64 0, .int .i64 0, .int .i64 0]),3,24):=by kernel_rfl
abbrev mtC (m:Mt):Array Value:=#[.int .i64 m.dev, .int .i64 m.od, .int .i64 m.oi]
def EMt:El Mt where
 C m:= [.int .i64 m.dev, .int .i64 m.od, .int .i64 m.oi]
 e:=199
 sl:=29
 sz:=3
 bs:=24
 len _:=rfl
 one x u hu:=by simp at hu;rcases hu with rfl | rfl | rfl <;> rfl
 pos:=by omega
 small:=by omega
 hu:=Tryz.underlying29
 info:=by
  obtain ⟨i0,h1,h2,h3,h4⟩:=info_parts Tryz.DI;exact ⟨i0,_,h1,h2,h3,h4,rfl⟩
theorem jR {w:World} {a:Addr} {m:Mt} (h:∀ j,j < 3→w.cell? (a.add j)=(EMt.C m)[j]?):w.cell? a=some (.int .i64 m.dev)∧w.cell? ⟨a.block,a.off+1,none⟩=some (.int .i64 m.od)∧w.cell? ⟨a.block,a.off+2,none⟩=some (.int .i64 m.oi):=⟨h 0 (by omega),h 1 (by omega),h 2 (by omega)⟩
theorem fP {fn:Func} {i j:Nat} (h:fn.results=#[.tmp i, .tmp j]) (tmps:Array Value) (w:World):(results fn tmps).run Tryz.prog w= .ok (.tuple #[tmps.getD i undef,tmps.getD j undef]) w:=by
 simp [results,h]
abbrev slV (A:Option Addr) (n c:Nat):Value:= .slice A n c
abbrev spC (u m:Value):Array Value:=#[u,m]
def onR (ms:List Mt) (dev:Int):Int×Int×Bool:=match onF ms dev with | some (a,b)=>(a,b,true) | none=>(0,0,false)
theorem zi {ms:List Mt} {dev:Int} {k:Nat} (hk:k < ms.length) (hn:∀ q (hq:q < k),(ms[q].dev == dev)=false) (h:(ms[k].dev == dev)=true):onF ms dev=some (ms[k].od,ms[k].oi):=by
 unfold onF;have:ms.find? (fun m=>m.dev == dev)=some ms[k]:=by
  rw [List.find?_eq_some_iff_getElem];exact ⟨h,k,hk,rfl,fun j hj=>by rw [hn j hj];decide⟩
 rw [this];rfl
theorem zk {ms:List Mt} {dev:Int} (hn:∀ q (hq:q < ms.length),(ms[q].dev == dev)=false):onF ms dev=none:=by
 unfold onF;have:ms.find? (fun m=>m.dev == dev)=none:=by
  rw [List.find?_eq_none];intro m hm;obtain ⟨q,hq,rfl⟩:=List.getElem_of_mem hm;rw [hn q hq];decide
 rw [this];rfl
theorem ron (dev:Int) (A:Option Addr) (n c:Nat) (ms:List Mt) (Am:Option Addr) (nm cm:Nat) (hn:nm=ms.length) (hl:nm≤1000) (w:World) (h:AtE EMt w w.heap.size Am ms):
  Calls Tryz.prog 69 #[.agg #[slV A n c,slV Am nm cm], .int .i64 dev] w fun e w' =>e= .returned (.tuple #[flV (onR ms dev).1 (onR ms dev).2.1, .bool (onR ms dev).2.2])∧Below w.heap.size w w' :=by
 have HN:=Hd hn;have B0:=Hd (aT w #[slV A n c,slV Am nm cm] #[.int .i64 0, .int .i64 0] 31 44);have M0:=Hd (h.below B0.o);have V0:=Hd ((Blk.new w #[slV A n c,slV Am nm cm] 31).alloc (.cells #[.int .i64 0, .int .i64 0] 44));have R0:=Hd (show Blk ((w.alloc (.cells #[slV A n c,slV Am nm cm] 31)).alloc (.cells #[.int .i64 0, .int .i64 0] 44)) (w.heap.size+1) 44 #[.int .i64 0, .int .i64 0] by
  have h:=Blk.new (w.alloc (.cells #[slV A n c,slV Am nm cm] 31)) #[.int .i64 0, .int .i64 0] 44;simp only [World.size_alloc] at h;exact h)
 have HR:=Hd (show onR ms dev=match onF ms dev with | some (a,b)=>(a,b,true) | none=>(0,0,false) from rfl);clear h hn;go_in;go_wp2_with fail;generalize (w.alloc (.cells #[slV A n c,slV Am nm cm] 31)).alloc (.cells #[.int .i64 0, .int .i64 0] 44)=w0 at *;go_loopw [6] (fun i wr=>∃ k:Nat,k≤ms.length∧i= .int .i64 k∧wr=w0∧Hid (∀ q (hq:q < k) (hql:q < ms.length),(ms[q].dev == dev)=false)) (fun i _=>ms.length - (intOf i).toNat);case atStart=>exact ⟨0,Nat.zero_le _,rfl,rfl,Hd (fun q hq=>absurd hq (Nat.not_lt_zero q))⟩
 case round=>
  obtain ⟨k,hk,rfl,rfl,hno⟩:=hrel;have v1:=V0.o.cell 1;have hn:=HN.o;have WK:=Hd (dA (q:=k) (by omega));by_cases hlt:k < ms.length;case neg=>
   have k1:¬ (k:Int) < (nm:Int):=(by omega);have HR2:=Hd (HR.o.trans (by rw [zk (fun q hq=>hno.o q (by omega) hq)]));clear hno hn;go_wp2_with ((with_reducible refine ae ?_ 44 (.tmp 4) (.tmp 28) ?_ R0.o #[.int .i64 0, .int .i64 0] ?_ ?_ ?_ ?_ ?_ ?_);(iterate 4 rfl);(exact dD _ _);rfl;(exact bQ _ _));refine bodyPost_ret (gH (fn:=Tryz.f69) rfl _ _ (w.heap.size+1) 0 0 rfl (Blk.row R0.o _)) rfl ?_;rw [HR2.o];exact ⟨rfl,ai B0.o (by omega) _⟩
  case pos=>
   have k1:(k:Int) < (nm:Int):=(by omega);have k2:(0:Int)≤(k:Int):=(by omega);obtain ⟨am,rfl,hab,hcx⟩:=M0.o k hlt;obtain ⟨m0,m1,m2⟩:=jR (a:=am.add (k * 3)) hcx;have HX:=Hd (fun h:(ms[k].dev == dev)=true=>zi hlt (fun q hq=>hno.o q hq (by omega)) h);have HY:=Hd (fun h:(ms[k].dev == dev)=false=>show ∀ q (hq:q < k+1) (hql:q < ms.length),(ms[q].dev == dev)=false from fun q hq hql=>by
    by_cases he:q=k
    · subst he;exact h
    · exact hno.o q (by omega) hql)
   clear hcx hno hn;generalize ms[k]=m at *;cases hb:(m.dev == dev) with
   | true=>
    have HR2:=Hd (HR.o.trans (by rw [HX.o hb]));clear HX HY;go_wp2_with ((with_reducible refine ae ?_ 44 (.tmp 4) (.tmp 27) ?_ R0.o #[.int .i64 m.od, .int .i64 m.oi] ?_ ?_ ?_ ?_ ?_ ?_);(iterate 4 rfl);(exact dD _ _);rfl;(exact bQ _ _));refine bodyPost_ret (gH (fn:=Tryz.f69) rfl _ _ (w.heap.size+1) m.od m.oi rfl (Blk.row R0.o _)) rfl ?_;rw [HR2.o];exact ⟨rfl,ai B0.o (by omega) _⟩
   | false=>
    have HZ:=Hd (HY.o hb);clear HX HY;obtain ⟨wk1,wk2⟩:=WK.o;go_wp2_with fail;clear wk1 wk2;go_roundw;case rel=>exact ⟨k+1,hlt,rfl,by first | rfl | trivial,HZ⟩
    case measure=>exact aN hlt _ rfl
theorem tN (ms:List Mt) (dev:Int):eU ms dev=((onR ms dev).2.2 || dev == 0):=by
 unfold eU onR;cases onF ms dev <;> rfl
theorem nQ (dev:Int) (A:Option Addr) (n c:Nat) (ms:List Mt) (Am:Option Addr) (nm cm:Nat) (hn:nm=ms.length) (hl:nm≤1000) (w:World) (h:AtE EMt w w.heap.size Am ms):
  Calls Tryz.prog 68 #[.agg #[slV A n c,slV Am nm cm], .int .i64 dev] w fun e w' =>e= .returned (.bool (eU ms dev))∧Below w.heap.size w w' :=by
 have B0:=Hd ((Below.refl w.heap.size w).alloc (Nat.le_refl _) (.cells #[slV A n c,slV Am nm cm] 31));have HO:=Hd (ron dev A n c ms Am nm cm hn hl _ (h.below B0.o));have HM:=Hd (tN ms dev);clear h hn;go_in;go_wp2_with fail;refine HO.o.mono ?_;rintro e w1 ⟨rfl,hb⟩;have B1:=Hd (B0.o.trans (hb.mono B0.o.size));clear hb HO;generalize onR ms dev=o at *;obtain ⟨a,b,o⟩:=o;have HB2:=Hd (B1.o.alloc B1.o.size (.cells #[.int .i64 a, .int .i64 b] 44));cases o with
 | true=>
  go_wp2_with fail;go_ret;exact ⟨by rw [HM.o];rfl,HB2.o⟩
 | false=>
  cases h0:dev == 0 with
  | true=>
   go_wp2_with fail;go_ret;exact ⟨by rw [HM.o,h0];rfl,HB2.o⟩
  | false=>
   go_wp2_with fail;go_ret;exact ⟨by rw [HM.o,h0];rfl,HB2.o⟩
def CV (ms:List Mt) (d i:Int):Int×Bool:=match xh ms d i with | some x=>(x,true) | none=>(0,false)
theorem AB {ms:List Mt} {d i:Int} {k:Nat} (hk:k < ms.length) (hn:∀ q (hq:q < k),flB ms[q].od ms[q].oi d i=false) (h:flB ms[k].od ms[k].oi d i=true):xh ms d i=some ms[k].dev:=by
 unfold xh;have:ms.find? (fun m=>m.od == d && m.oi == i)=some ms[k]:=by
  rw [List.find?_eq_some_iff_getElem];exact ⟨h,k,hk,rfl,fun j hj=>by have:=hn j hj;unfold flB at this;rw [this];decide⟩
 rw [this];rfl
theorem AJ {ms:List Mt} {d i:Int} (hn:∀ q (hq:q < ms.length),flB ms[q].od ms[q].oi d i=false):xh ms d i=none:=by
 unfold xh;have:ms.find? (fun m=>m.od == d && m.oi == i)=none:=by
  rw [List.find?_eq_none];intro m hm;obtain ⟨q,hq,rfl⟩:=List.getElem_of_mem hm;have:=hn q hq;unfold flB at this;rw [this];decide
 rw [this];rfl
theorem DJ (d i:Int) (A:Option Addr) (n c:Nat) (ms:List Mt) (Am:Option Addr) (nm cm:Nat) (hn:nm=ms.length) (hl:nm≤1000) (w:World) (h:AtE EMt w w.heap.size Am ms):
  Calls Tryz.prog 170 #[.agg #[slV A n c,slV Am nm cm],flV d i] w fun e w' =>e= .returned (.tuple #[.int .i64 (CV ms d i).1, .bool (CV ms d i).2])∧Below w.heap.size w w' :=by
 have HN:=Hd hn;have B0:=Hd (aT w #[slV A n c,slV Am nm cm] #[.int .i64 d, .int .i64 i] 31 44);have M0:=Hd (h.below B0.o);have V0:=Hd ((Blk.new w #[slV A n c,slV Am nm cm] 31).alloc (.cells #[.int .i64 d, .int .i64 i] 44));have R0:=Hd (show Blk ((w.alloc (.cells #[slV A n c,slV Am nm cm] 31)).alloc (.cells #[.int .i64 d, .int .i64 i] 44)) (w.heap.size+1) 44 #[.int .i64 d, .int .i64 i] by
  have h:=Blk.new (w.alloc (.cells #[slV A n c,slV Am nm cm] 31)) #[.int .i64 d, .int .i64 i] 44;simp only [World.size_alloc] at h;exact h)
 have HR:=Hd (show CV ms d i=match xh ms d i with | some x=>(x,true) | none=>(0,false) from rfl);have HFL:=fun a b c d (W:World)=>tK a b c d W;clear h hn;go_in;go_wp2_with fail;generalize (w.alloc (.cells #[slV A n c,slV Am nm cm] 31)).alloc (.cells #[.int .i64 d, .int .i64 i] 44)=w0 at *;go_loopw [6] (fun ix wr=>∃ k t:Nat,k≤ms.length∧ix= .int .i64 k∧wr=w0.drewN t∧Hid (∀ q (hq:q < k) (hql:q < ms.length),flB ms[q].od ms[q].oi d i=false)) (fun ix _=>ms.length - (intOf ix).toNat);case atStart=>exact ⟨0,0,Nat.zero_le _,rfl,rfl,Hd (fun q hq=>absurd hq (Nat.not_lt_zero q))⟩
 case round=>
  obtain ⟨k,t,hk,rfl,rfl,hno⟩:=hrel;have v1:=V0.o.cell 1;have u0:=R0.o.cell 0;have u1:=R0.o.cell 1;have hn:=HN.o;have WK:=Hd (dA (q:=k) (by omega));by_cases hlt:k < ms.length;case neg=>
   have k1:¬ (k:Int) < (nm:Int):=(by omega);have HR2:=Hd (HR.o.trans (by rw [AJ (fun q hq=>hno.o q (by omega) hq)]));clear hno hn;go_wp2_with fail;refine bodyPost_ret (fP (fn:=Tryz.f170) rfl _ _) rfl ?_;exact ⟨by rw [HR2.o];rfl,below_drewN B0.o _⟩
  case pos=>
   have k1:(k:Int) < (nm:Int):=(by omega);have k2:(0:Int)≤(k:Int):=(by omega);obtain ⟨am,rfl,hab,hcx⟩:=M0.o k hlt;obtain ⟨m0,m1,m2⟩:=jR (a:=am.add (k * 3)) hcx;have HX:=Hd (fun h:flB ms[k].od ms[k].oi d i=true=>AB hlt (fun q hq=>hno.o q hq (by omega)) h);have HY:=Hd (fun h:flB ms[k].od ms[k].oi d i=false=>show ∀ q (hq:q < k+1) (hql:q < ms.length),flB ms[q].od ms[q].oi d i=false from fun q hq hql=>by
    by_cases he:q=k
    · subst he;exact h
    · exact hno.o q (by omega) hql)
   clear hcx hno hn;generalize ms[k]=m at *;cases hb:flB m.od m.oi d i with
   | true=>
    have HR2:=Hd (HR.o.trans (by rw [HX.o hb]));clear HX HY;go_upto_region 4 with fail;go_quiet (fail);go_wp2_with fail;refine bodyPost_ret (fP (fn:=Tryz.f170) rfl _ _) rfl ?_;exact ⟨by rw [HR2.o];rfl,below_drewN B0.o _⟩
   | false=>
    have HZ:=Hd (HY.o hb);clear HX HY;go_upto_region 4 with fail;go_quiet (fail);obtain ⟨wk1,wk2⟩:=WK.o;go_wp2_with fail;clear wk1 wk2;go_roundw;case rel=>exact ⟨k+1,t+nq,hlt,rfl,rfl,HZ⟩
    case measure=>exact aN hlt _ rfl
def AL (ms:List Mt) (d i:Int):Bool:=(xh ms d i).isSome
theorem AO (ms:List Mt) (d i:Int):AL ms d i=(CV ms d i).2:=by
 unfold AL CV;cases xh ms d i <;> rfl
theorem DK (d i:Int) (A:Option Addr) (n c:Nat) (ms:List Mt) (Am:Option Addr) (nm cm:Nat) (hn:nm=ms.length) (hl:nm≤1000) (w:World) (h:AtE EMt w w.heap.size Am ms):
  Calls Tryz.prog 106 #[.agg #[slV A n c,slV Am nm cm],flV d i] w fun e w' =>e= .returned (.bool (AL ms d i))∧Below w.heap.size w w' :=by
 have B0:=Hd (aT w #[slV A n c,slV Am nm cm] #[.int .i64 d, .int .i64 i] 31 44);have HO:=Hd (DJ d i A n c ms Am nm cm hn hl _ (h.below B0.o));have HM:=Hd (AO ms d i);clear h hn;go_in;go_wp2_with fail;refine HO.o.mono ?_;rintro e w1 ⟨rfl,hb⟩;have B1:=Hd (B0.o.trans (hb.mono B0.o.size));clear hb HO;go_wp2_with fail;go_ret;exact ⟨by rw [HM.o];rfl,B1.o⟩
theorem cu {a w w' :World} {g:Nat} (h:a.grownBy w (some g)) (k:w.grownBy w' (some g)):a.grownBy w' (some g):=
 ⟨k.os.trans h.os,k.tape.trans h.tape,k.output.trans h.output,Nat.le_trans h.size k.size,fun i hi hne=>(k.block i (Nat.lt_of_lt_of_le hi h.size) hne).trans (h.block i hi hne)⟩
theorem iQ {a w:World} {g k:Nat} (h:a.grownBy w (some g)) (hk:a.heap.size≤k) (cs:Array Value):a.grownBy (w.setRow k cs) (some g):=
 ⟨h.os,h.tape,h.output,by rw [setRow_size];exact h.size,fun i hi hne=>(setRow_other w k i cs (by omega)).trans (h.block i hi hne)⟩
section
variable {w wr w' :World} {base g lo n c:Nat} {b b' :Int} {A:Option Addr} {ds:List Dm}
theorem Blk.src {wr w' :World} {g k:Nat} {t:TypeId} {cs:Array Value} (h:Blk wr k t cs) (hg:wr.grownBy w' (some g)) (hne:k≠g):Blk w' k t cs:=h.grown hg (fun e=>hne (by injection e with e;exact e.symm))
end
theorem iB {fn:Func} {i:Nat} (h:fn.results=#[.cell i 44]) (tmps:Array Value) (w:World) (g:Nat) (d k:Int) (hp:tmps.getD i undef= .pointer (some ⟨g,0,none⟩)) (hg:Blk w g 44 #[.int .i64 d, .int .i64 k]):
  (results fn tmps).run Tryz.prog w= .ok (flV d k) w:=
 results_cell_row h tmps w g _ #[.int .i64 d, .int .i64 k] (0,0) _ hp hg Tryz.underlying44 rfl (dD d k)
theorem fQ (u m:Value):(Tryz.prog.info? 31).map (·.size)=some (spC u m).size:=by show _=some 2;kernel_rfl
theorem dW (A:Option Addr) (n c:Nat) (Am:Option Addr) (nm cm:Nat):(spC (slV A n c) (slV Am nm cm)).all (·.oneCell')=true:=by simp [Value.oneCell']
theorem Ee {fn:Func} {i:Nat} (h:fn.results=#[.cell i 31]) (tmps:Array Value) (w:World) (g:Nat) (u m:Value) (hp:tmps.getD i undef= .pointer (some ⟨g,0,none⟩)) (hg:Blk w g 31 (spC u m)):
  (results fn tmps).run Tryz.prog w= .ok (.agg (spC u m)) w:=
 results_cell_row h tmps w g _ (spC u m) (0,0) _ hp hg Tryz.underlying31 rfl (fQ u m)
theorem dx {fn:Func} {i j:Nat} (h:fn.results=#[.cell i 31, .tmp j]) (tmps:Array Value) (w:World) (g:Nat) (u m:Value) (hp:tmps.getD i undef= .pointer (some ⟨g,0,none⟩)) (hg:Blk w g 31 (spC u m)):
  (results fn tmps).run Tryz.prog w= .ok (.tuple #[.agg (spC u m),tmps.getD j undef]) w:=by
 have hp' :tmps[i]?.getD undef= .pointer (some ⟨g,0,none⟩):=by simpa using hp
 simp [results,h,hp',asAddr,run_loadVar_row w g 31 31 (spC u m) (0,0) _ hg Tryz.underlying31 rfl (fQ u m)]
def Ef (f:List Dv) (ms:List Mt) (w:World) (e:Ending) (w' :World):Prop:=
 ∃ (A:Option Addr) (n c:Nat) (Am:Option Addr) (nm cm:Nat) (ds:List Dm),e= .returned (.agg (spC (slV A n c) (slV Am nm cm)))∧aC w' w.heap.size (slV A n c) ds∧ds.map Dm.dv=f∧ax EMt w' w.heap.size (slV Am nm cm) ms∧Below w.heap.size w w'
theorem o8 (ds:List Dm) (A:Option Addr) (n c:Nat) (hn:n=ds.length) (ms:List Mt) (Am:Option Addr) (nm cm:Nat) (hnm:nm=ms.length) (hl:nm≤1000) (w:World) (hf:bV w w.heap.size A ds) (hm:AtE EMt w w.heap.size Am ms):
   Calls Tryz.prog 107 #[.agg #[slV A n c,slV Am nm cm]] w (Ef (ds.map Dm.dv) ms w):=by
 have HN:=Hd hn;have HNM:=Hd hnm;have B0:=Hd (aT w #[slV A n c,slV Am nm cm] #[.slice none 0 0, .slice none 0 0] 31 31);have F0:=Hd (hf.below B0.o);have M0:=Hd (hm.below B0.o);have V0:=Hd ((Blk.new w #[slV A n c,slV Am nm cm] 31).alloc (.cells #[.slice none 0 0, .slice none 0 0] 31));have R0:=Hd (show Blk ((w.alloc (.cells #[slV A n c,slV Am nm cm] 31)).alloc (.cells #[.slice none 0 0, .slice none 0 0] 31)) (w.heap.size+1) 31 #[.slice none 0 0, .slice none 0 0] by
   have h:=Blk.new (w.alloc (.cells #[slV A n c,slV Am nm cm] 31)) #[.slice none 0 0, .slice none 0 0] 31;simp only [World.size_alloc] at h;exact h)
 clear hf hm hn hnm;go_in;go_upto_region 1 with fail;generalize (w.alloc (.cells #[slV A n c,slV Am nm cm] 31)).alloc (.cells #[.slice none 0 0, .slice none 0 0] 31)=w0 at *;refine wp_region_held_drew (S:=(fun W=>Blk W w.heap.size 31 #[slV A n c,slV Am nm cm])) (by kernel_rfl) V0.o (fun hHeld=>?_);refine tk hHeld 0 ?_ ?_ (tk hHeld 1 ?_ ?_ (tk hHeld 3 ?_ ?_ (tk hHeld 4 ?_ ?_ ?_)));iterate 4
   rotate_left
   · intro W hSw;have v0:=hSw.cell 0;have v1:=hSw.cell 1;go_simp;try (with_reducible rfl)
 refine rdy1 2 (fun K hK=>?_);go_simp;go_at_call 171;refine (jA ds A n c HN.o _ (F0.o.below (Below.refl w0.heap.size w0).drew)).mono ?_;rintro e w1 ⟨v,es,rfl,ho,he,hb⟩;have hb:Below w0.heap.size w0 w1:=aa (Below.refl w0.heap.size w0).drew hb;obtain ⟨A1,c1,rfl,_⟩:=ho.at;have F1:=Hd (show aC w1 w0.heap.size (.slice A1 es.length c1) es from ho);have HE:=Hd he;have B1:=Hd (B0.o.trans (hb.mono B0.o.size));have V1:=Hd (V0.o.below hb);have R1:=Hd (R0.o.below hb);have M1:=Hd (M0.o.below hb);have hw0:w0.heap.size≤w1.heap.size:=hb.size;have hr0:=R0.o.lt;have hww:=B0.o.size;clear ho he hb V0 R0 F0 M0;go_simp;refine hK.o _ _ V1.o (fun hHeld=>?_);clear hK K;refine rdy1 5 (fun K hK=>?_);refine aP EMt (by rfl) (.const (.slice none 0 0)) (.tmp 7) (by rfl) w1.heap.size (.slice none 0 0) [] (by rfl) (ax.nil _ _) w1.heap.size Am nm cm ms (by rfl) HNM.o M1.o (by have:=HNM.o;simp;omega) (Nat.le_refl _) ?_;intro v2 w2 ho2 hg2 Eg;have ho2:ax EMt w2 w1.heap.size v2 ms:=ho2;obtain ⟨A2,c2,rfl,_⟩:=ho2.at;have hnone:∀ {q:Nat},(Value.slice none 0 0).ownBlock≠some q:=fun e=>by cases e
 have V2:=Hd (V1.o.grown hg2 hnone);have R2:=Hd (R1.o.grown hg2 hnone);have F2:=Hd (F1.o.far hg2 (fun q e=>absurd e hnone));have O2:=Hd ho2;have B2:=Hd (B1.o.grown hg2 B1.o.size (fun q e=>absurd e hnone));have hw1:w1.heap.size≤w2.heap.size:=hg2.size;clear ho2 hg2 Eg V1 R1 F1 M1 B1;refine hK.o _ _ V2.o (fun hHeld=>?_);clear hK K;refine tk hHeld 6 ?_ ?_ ?_;rotate_left
 · intro W hSw;go_simp;try (with_reducible rfl)
 have r0:=R2.o.cell 0;have r1:=R2.o.cell 1;have f0:=R2.o.free 0;have f1:=R2.o.free 1;have hh:∀ u v:Value,Blk ((w2.setCell ⟨w.heap.size+1,0,none⟩ u).setCell ⟨w.heap.size+1,1,none⟩ v) w.heap.size 31 #[slV A n c,slV Am nm cm]:=fun u v=>(V2.o.af _ (by show w.heap.size≠w.heap.size+1;omega)).af _ (by show w.heap.size≠w.heap.size+1;omega);refine rdy1 7 (fun K hK=>?_);go_simp;refine hK.o _ _ (hh _ _) (fun hHeld=>?_);clear hK K;clear r0 r1 f0 f1 hh;refine wpAnyH_done (by kernel_rfl) ?_ _;go_wp2_with fail;refine bodyPost_ret (Ee (fn:=Tryz.f107) rfl _ _ (w.heap.size+1) (.slice A1 es.length c1) (.slice A2 ms.length c2) rfl ((R2.o.put 0 _).put 1 _)) rfl ?_;have g1:=ak w2 (w.heap.size+1) 0 (.slice A1 es.length c1);have g2:=ak (w2.setCell ⟨w.heap.size+1,0,none⟩ (.slice A1 es.length c1)) (w.heap.size+1) 1 (.slice A2 ms.length c2);exact ⟨A1,es.length,c1,A2,ms.length,c2,es,rfl,(((F2.o.far g1 (fun q e=>by injection e with e;subst e;exact F2.o.old hr0)).far g2 (fun q e=>by injection e with e;subst e;exact F2.o.old hr0)).low hww),HE.o,
   (((O2.o.far g1 (fun q e r=>by injection r with r;have:=O2.o.ge q e;omega)).far g2 (fun q e r=>by injection r with r;have:=O2.o.ge q e;omega)).low (by omega)),(B2.o.setCell (p:=⟨w.heap.size+1,0,none⟩) (by show w.heap.size≤w.heap.size+1;omega) _).setCell (p:=⟨w.heap.size+1,1,none⟩) (by show w.heap.size≤w.heap.size+1;omega) _⟩
def nS (R:List Dv→List Mt→Prop) (w:World) (e:Ending) (w' :World):Prop:=
 Below w.heap.size w w' ∧((∃ k:Int,k≠0∧e= .returned (.tuple #[.agg (spC (slV none 0 0) (slV none 0 0)), .int .i64 k]))∨
  (∃ (A:Option Addr) (n c:Nat) (Am:Option Addr) (nm cm:Nat) (ds:List Dm) (ms:List Mt),e= .returned (.tuple #[.agg (spC (slV A n c) (slV Am nm cm)), .int .i64 0])∧aC w' w.heap.size (slV A n c) ds∧ax EMt w' w.heap.size (slV Am nm cm) ms∧R (ds.map Dm.dv) ms))
structure SpF (w wr:World) (A:Option Addr) (n c:Nat) (ds:List Dm) (Am:Option Addr) (nm cm:Nat) (ms:List Mt) (r:Nat):Prop where
 low:Below w.heap.size w wr
 src:bV wr w.heap.size A ds
 mts:AtE EMt wr w.heap.size Am ms
 V:Blk wr w.heap.size 31 #[slV A n c,slV Am nm cm]
 R:Blk wr r 31 #[.slice none 0 0, .slice none 0 0]
 hr:w.heap.size+1≤r
section
variable {w wr w' :World} {A Am:Option Addr} {n c nm cm r:Nat} {ds:List Dm} {ms:List Mt}
theorem SpF.grow (h:SpF w wr A n c ds Am nm cm ms r) (hb:Below wr.heap.size wr w'):SpF w w' A n c ds Am nm cm ms r:=
 ⟨h.low.trans (hb.mono h.low.size),h.src.keep hb h.low.size,h.mts.keep hb h.low.size,h.V.below hb,h.R.below hb,h.hr⟩
theorem SpF.keep (h:SpF w wr A n c ds Am nm cm ms r) {B:Nat} (hb:Below B wr w') (hB:r < B):SpF w w' A n c ds Am nm cm ms r:=
 ⟨h.low.trans (hb.mono (by have:=h.hr;omega)),h.src.keep hb (by have:=h.hr;omega),h.mts.keep hb (by have:=h.hr;omega),h.V.keep hb (by have:=h.hr;omega),h.R.keep hb hB,h.hr⟩
theorem SpF.alloc (h:SpF w wr A n c ds Am nm cm ms r) (o:Obj):SpF w (wr.alloc o) A n c ds Am nm cm ms r:=h.grow ((Below.refl _ _).alloc (Nat.le_refl _) _)
theorem SpF.files (h:SpF w wr A n c ds Am nm cm ms r):bV wr wr.heap.size A ds:=h.src.more h.low.size
theorem SpF.aR (h:SpF w wr A n c ds Am nm cm ms r):AtE EMt wr wr.heap.size Am ms:=h.mts.more h.low.size
theorem SpF.err (h:SpF w wr A n c ds Am nm cm ms r) (R:List Dv→List Mt→Prop) {k:Int} (hk:k≠0):nS R w (.returned (.tuple #[.agg (spC (slV none 0 0) (slV none 0 0)), .int .i64 k])) (wr.setRow r #[.slice none 0 0, .slice none 0 0]):=
 ⟨ai h.low (by have:=h.hr;omega) _, .inl ⟨k,hk,rfl⟩⟩
end
def zo (f:List Dv) (ms:List Mt) (dev d i:Int) (f' :List Dv) (ms' :List Mt):Prop:=
 1≤dev∧dev < f.length∧bI f d i=true∧eU ms d=true∧eU ms dev=false∧f' =f∧ms' =ms ++ [⟨dev,d,i⟩]
theorem SOk.add {f f' :List Dv} {ms ms' :List Mt} {dev d i:Int} (h:SOk f ms) (hr:zo f ms dev d i f' ms'):SOk f' ms' :=by
 obtain ⟨h1,h2,h3,h4,h5,rfl,rfl⟩:=hr;exact ⟨h.1, .app h.2 h1 h2 h5 h4 h3⟩
theorem zq (dev d i:Int) (ds:List Dm) (A:Option Addr) (n c:Nat) (hn:n=ds.length) (ms:List Mt) (Am:Option Addr) (nm cm:Nat) (hnm:nm=ms.length) (hl:nm≤999) (w:World) (hf:bV w w.heap.size A ds) (hm:AtE EMt w w.heap.size Am ms):
  Calls Tryz.prog 59 #[.agg #[slV A n c,slV Am nm cm], .int .i64 dev,flV d i] w (nS (zo (ds.map Dm.dv) ms dev d i) w):=by
 have HN:=Hd hn;have HNM:=Hd hnm;have HL:=Hd hl;have B0:=fu w #[slV A n c,slV Am nm cm] #[.int .i64 d, .int .i64 i] #[.slice none 0 0, .slice none 0 0] 31 44 31;have h2:=Blk.new (w.alloc (.cells #[slV A n c,slV Am nm cm] 31)) #[.int .i64 d, .int .i64 i] 44;have h3:=Blk.new ((w.alloc (.cells #[slV A n c,slV Am nm cm] 31)).alloc (.cells #[.int .i64 d, .int .i64 i] 44)) #[.slice none 0 0, .slice none 0 0] 31;simp only [World.size_alloc] at h2 h3;have S0:=Hd (show SpF w (((w.alloc (.cells #[slV A n c,slV Am nm cm] 31)).alloc (.cells #[.int .i64 d, .int .i64 i] 44)).alloc (.cells #[.slice none 0 0, .slice none 0 0] 31)) A n c ds Am nm cm ms (w.heap.size+1+1) from ⟨B0,hf.keep B0 (Nat.le_refl _),hm.keep B0 (Nat.le_refl _),((Blk.new w _ _).alloc _).alloc _,h3,by omega⟩);have U0:=Hd (h2.alloc (.cells #[.slice none 0 0, .slice none 0 0] 31));clear B0 h2 h3 hf hm hn hnm hl;go_in;go_upto_region 1 with fail;generalize ((w.alloc (.cells #[slV A n c,slV Am nm cm] 31)).alloc (.cells #[.int .i64 d, .int .i64 i] 44)).alloc (.cells #[.slice none 0 0, .slice none 0 0] 31)=w0 at *;have v0:=S0.o.V.cell 0;have v1:=S0.o.V.cell 1;have u0:=U0.o.cell 0;have u1:=U0.o.cell 1;by_cases hd1:dev < 1;case pos=>
  go_wp2_with ((with_reducible refine ae ?_ 31 (.tmp 6) (.tmp 21) ?_ S0.o.R #[.slice none 0 0, .slice none 0 0] ?_ ?_ ?_ ?_ ?_ ?_);(iterate 4 rfl);(exact fQ _ _);rfl;(exact dW _ _ _ _ _ _));refine bodyPost_ret (dx (fn:=Tryz.f59) rfl _ _ _ (.slice none 0 0) (.slice none 0 0) rfl (Blk.row S0.o.R _)) rfl ?_;exact S0.o.err _ (by decide)
 case neg=>
  by_cases hd2:(n:Int)≤dev;case pos=>
   go_wp2_with ((with_reducible refine ae ?_ 31 (.tmp 6) (.tmp 21) ?_ S0.o.R #[.slice none 0 0, .slice none 0 0] ?_ ?_ ?_ ?_ ?_ ?_);(iterate 4 rfl);(exact fQ _ _);rfl;(exact dW _ _ _ _ _ _));refine bodyPost_ret (dx (fn:=Tryz.f59) rfl _ _ _ (.slice none 0 0) (.slice none 0 0) rfl (Blk.row S0.o.R _)) rfl ?_;exact S0.o.err _ (by decide)
  case neg=>
   have HD1:=Hd (show 1≤dev by omega);have HD2:=Hd (show dev < (ds.map Dm.dv).length by have:=HN.o;simp;omega);go_wp2_with fail;clear hd1 hd2;clear v0 v1 u0 u1;refine (bM d i ds A n c HN.o w0 S0.o.files).mono ?_;intro e w1 hp;cases hq:aF (ds.map Dm.dv) d i with
   | none=>
    rw [hq] at hp;obtain ⟨rfl,hb⟩:=hp;have S1:=Hd ((S0.o.grow hb).alloc (.cells ndZ 145));clear hb hq;go_wp2_with ((with_reducible refine ae ?_ 31 (.tmp 6) (.tmp 31) ?_ S1.o.R #[.slice none 0 0, .slice none 0 0] ?_ ?_ ?_ ?_ ?_ ?_);(iterate 4 rfl);(exact fQ _ _);rfl;(exact dW _ _ _ _ _ _));refine bodyPost_ret (dx (fn:=Tryz.f59) rfl _ _ _ (.slice none 0 0) (.slice none 0 0) rfl (Blk.row S1.o.R _)) rfl ?_;exact S1.o.err _ (by decide)
   | some nd=>
    rw [hq] at hp;obtain ⟨A2,c2,rfl,ho,hb,hsz⟩:=hp;have S1:=Hd ((S0.o.grow hb).alloc (.cells (ndC nd (.slice A2 nd.es.length c2)) 145));have U1:=Hd ((U0.o.below hb).alloc (.cells (ndC nd (.slice A2 nd.es.length c2)) 145));have D1:=Hd (Blk.new w1 (ndC nd (.slice A2 nd.es.length c2)) 145);have HDI:=Hd (show bI (ds.map Dm.dv) d i=(nd.kind == 2) by unfold bI;rw [hq]);clear hb hq ho hsz S0 U0;go_upto_region 6 with fail;generalize w1.alloc (.cells (ndC nd (.slice A2 nd.es.length c2)) 145)=w2 at *;have d1:=D1.o.cell 1;by_cases hk:nd.kind=2;case neg=>
     have p2:=(aM hk).2;clear hk;go_wp2_with ((with_reducible refine ae ?_ 31 (.tmp 6) (.tmp 35) ?_ S1.o.R #[.slice none 0 0, .slice none 0 0] ?_ ?_ ?_ ?_ ?_ ?_);(iterate 4 rfl);(exact fQ _ _);rfl;(exact dW _ _ _ _ _ _));refine bodyPost_ret (dx (fn:=Tryz.f59) rfl _ _ _ (.slice none 0 0) (.slice none 0 0) rfl (Blk.row S1.o.R _)) rfl ?_;exact S1.o.err _ (by decide)
    case pos=>
     have p2:=(bE hk).2;have HDI:=Hd (HDI.o.trans (bE hk).1);clear hk;have v0:=S1.o.V.cell 0;have v1:=S1.o.V.cell 1;have u0:=U1.o.cell 0;have u1:=U1.o.cell 1;go_wp2_with fail;clear v0 v1 u0 u1;clear d1 p2;refine (nQ d A n c ms Am nm cm HNM.o (by have:=HL.o;omega) w2 S1.o.aR).mono ?_;rintro e w3 ⟨rfl,hb⟩;have S3:=Hd (S1.o.grow hb);have U3:=Hd (U1.o.below hb);clear hb;cases hmd:eU ms d with
     | false=>
      clear hmd;go_wp2_with ((with_reducible refine ae ?_ 31 (.tmp 6) (.tmp 47) ?_ S3.o.R #[.slice none 0 0, .slice none 0 0] ?_ ?_ ?_ ?_ ?_ ?_);(iterate 4 rfl);(exact fQ _ _);rfl;(exact dW _ _ _ _ _ _));refine bodyPost_ret (dx (fn:=Tryz.f59) rfl _ _ _ (.slice none 0 0) (.slice none 0 0) rfl (Blk.row S3.o.R _)) rfl ?_;exact S3.o.err _ (by decide)
     | true=>
      have HMD:=Hd hmd;clear hmd;have v0:=S3.o.V.cell 0;have v1:=S3.o.V.cell 1;have u0:=U3.o.cell 0;have u1:=U3.o.cell 1;by_cases hdd:d=dev;case pos=>
       have p1:=(bE hdd).1;clear hdd;go_wp2_with ((with_reducible refine ae ?_ 31 (.tmp 6) (.tmp 47) ?_ S3.o.R #[.slice none 0 0, .slice none 0 0] ?_ ?_ ?_ ?_ ?_ ?_);(iterate 4 rfl);(exact fQ _ _);rfl;(exact dW _ _ _ _ _ _));refine bodyPost_ret (dx (fn:=Tryz.f59) rfl _ _ _ (.slice none 0 0) (.slice none 0 0) rfl (Blk.row S3.o.R _)) rfl ?_;exact S3.o.err _ (by decide)
      case neg=>
       have p1:=(aM hdd).1;clear hdd;go_wp2_with fail;clear v0 v1 u0 u1;clear p1;refine (nQ dev A n c ms Am nm cm HNM.o (by have:=HL.o;omega) w3 S3.o.aR).mono ?_;rintro e w4 ⟨rfl,hb⟩;have S4:=Hd (S3.o.grow hb);have U4:=Hd (U3.o.below hb);clear hb;cases hmv:eU ms dev with
       | true=>
        clear hmv;go_wp2_with ((with_reducible refine ae ?_ 31 (.tmp 6) (.tmp 56) ?_ S4.o.R #[.slice none 0 0, .slice none 0 0] ?_ ?_ ?_ ?_ ?_ ?_);(iterate 4 rfl);(exact fQ _ _);rfl;(exact dW _ _ _ _ _ _));refine bodyPost_ret (dx (fn:=Tryz.f59) rfl _ _ _ (.slice none 0 0) (.slice none 0 0) rfl (Blk.row S4.o.R _)) rfl ?_;exact S4.o.err _ (by decide)
       | false=>
        have HMV:=Hd hmv;clear hmv;have v0:=S4.o.V.cell 0;have v1:=S4.o.V.cell 1;have u0:=U4.o.cell 0;have u1:=U4.o.cell 1;go_wp2_with fail;clear v0 v1 u0 u1;refine (DK d i A n c ms Am nm cm HNM.o (by have:=HL.o;omega) w4 S4.o.aR).mono ?_;rintro e w5 ⟨rfl,hb⟩;have S5:=Hd (S4.o.grow hb);have U5:=Hd (U4.o.below hb);clear hb;cases hcv:AL ms d i with
        | true=>
         clear hcv;go_wp2_with ((with_reducible refine ae ?_ 31 (.tmp 6) (.tmp 56) ?_ S5.o.R #[.slice none 0 0, .slice none 0 0] ?_ ?_ ?_ ?_ ?_ ?_);(iterate 4 rfl);(exact fQ _ _);rfl;(exact dW _ _ _ _ _ _));refine bodyPost_ret (dx (fn:=Tryz.f59) rfl _ _ _ (.slice none 0 0) (.slice none 0 0) rfl (Blk.row S5.o.R _)) rfl ?_;exact S5.o.err _ (by decide)
        | false=>
         clear hcv S1 U1 S3 U3 S4 U4;have v0:=S5.o.V.cell 0;have v1:=S5.o.V.cell 1;have u0:=U5.o.cell 0;have u1:=U5.o.cell 1;go_wp2_with fail;clear v0 v1 u0 u1;refine (o8 ds A n c HN.o ms Am nm cm HNM.o (by have:=HL.o;omega) w5 S5.o.files S5.o.aR).mono ?_;rintro e w6 ⟨A6,n6,c6,A7,n7,c7,es,rfl,hfs,he,hms,hb⟩;have S6:=Hd (S5.o.grow hb);have U6:=Hd (U5.o.below hb);have HR5:=Hd S5.o.R.lt;have HW5:=Hd (show w5.heap.size≤w6.heap.size from hb.size);have hn7:n7=ms.length:=(by obtain ⟨_,_,e,_⟩:=hms.at;injection e);subst hn7;have S7:=Hd (S6.o.alloc (.cells (spC (slV A6 n6 c6) (slV A7 ms.length c7)) 31));have U7:=Hd (U6.o.alloc (.cells (spC (slV A6 n6 c6) (slV A7 ms.length c7)) 31));have O7:=Hd (Blk.new w6 (spC (slV A6 n6 c6) (slV A7 ms.length c7)) 31);have F7:=Hd (hfs.below ((Below.refl w6.heap.size w6).alloc (Nat.le_refl _) (.cells (spC (slV A6 n6 c6) (slV A7 ms.length c7)) 31)));have M7:=Hd (hms.below ((Below.refl w6.heap.size w6).alloc (Nat.le_refl _) (.cells (spC (slV A6 n6 c6) (slV A7 ms.length c7)) 31)));have HE:=Hd he;clear hfs he hms hb S5 U5 S6 U6;go_upto_region 13 with fail;generalize w6.alloc (.cells (spC (slV A6 n6 c6) (slV A7 ms.length c7)) 31)=w7 at *;have o1:=O7.o.cell 1;have u0:=U7.o.cell 0;have u1:=U7.o.cell 1;have RW:=Hd (aJ EMt w7 (mtC ⟨dev,d,i⟩) 199 ⟨dev,d,i⟩ rfl (Nat.lt_succ_self w7.heap.size));have M8:=Hd (M7.o.alloc (.cells (mtC ⟨dev,d,i⟩) 199));have ho7:w6.heap.size < w7.heap.size:=O7.o.lt;have hw5:=HW5.o;have hr5:=HR5.o;go_wp2_with (at_builtin;refine aj EMt rfl (.tmp 60) (.tmp 64) rfl w5.heap.size (slV A7 ms.length c7) ms rfl M8.o (w7.heap.size+1) (some ⟨w7.heap.size,0,none⟩) 1 1 [⟨dev,d,i⟩] rfl rfl RW.o (by have:=HL.o;have:=HNM.o;simp;omega) (by simp;omega) ?_);intro v9 w9 ho9 hg9 o5;obtain ⟨A9,c9,e9,_⟩:=ho9.at;rw [show (ms ++ [(⟨dev,d,i⟩:Mt)]).length=ms.length+1 by simp] at e9;subst e9;clear o1 u0 u1;have hge:∀ q,(Value.slice A7 ms.length c7).ownBlock=some q→w5.heap.size≤q:=fun q e=>M7.o.ge q e;have Dk:(Value.slice A7 ms.length c7).ownBlock≠some w6.heap.size:=ay M7.o O7.o (by decide);have S9:=Hd ((S7.o.alloc (.cells (mtC ⟨dev,d,i⟩) 199)).keep (B:=w5.heap.size) ((Below.refl w5.heap.size _).grown hg9 (by simp;omega) (fun q e=>hge q e)) hr5);have O9:=Hd ((O7.o.alloc (.cells (mtC ⟨dev,d,i⟩) 199)).grown hg9 Dk);have F9:=Hd ((F7.o.below ((Below.refl w7.heap.size w7).alloc (Nat.le_refl _) (.cells (mtC ⟨dev,d,i⟩) 199))).far hg9 (fun q e=>⟨fun e2=>aB M7.o F7.o.own (show (199:Nat)≠142 by decide) q e e2,fun dd hdd e2=>aB M7.o (F7.o.nodes dd hdd).1 (show (199:Nat)≠145 by decide) q e e2,fun dd hdd y hy e2=>aB M7.o (F7.o.bW dd hdd y hy).1 (show (199:Nat)≠209 by decide) q e e2⟩));have HO9:=Hd ho9;have hn9:(Value.slice A9 (ms.length+1) c9).ownBlock≠some w6.heap.size:=ay ho9 O9.o (by decide);clear ho9 hg9 o5 hge Dk S7 U7 O7 F7 M7 M8 RW;have o1:=O9.o.cell 1;have of:=O9.o.free 1;have gc:=ak w9 w6.heap.size 1 (.slice A9 (ms.length+1) c9);have S10:=Hd (S9.o.keep (B:=w5.heap.size) ((Below.refl w5.heap.size w9).setCell (p:=⟨w6.heap.size,1,none⟩) hw5 (.slice A9 (ms.length+1) c9)) hr5);have O10:=Hd (show Blk (w9.setCell ⟨w6.heap.size,1,none⟩ (.slice A9 (ms.length+1) c9)) w6.heap.size 31 (spC (slV A6 n6 c6) (slV A9 (ms.length+1) c9)) from O9.o.put 1 _);have F10:=Hd (F9.o.far gc (fun q e=>by injection e with e;subst e;exact ⟨ay F9.o.own O9.o (by decide),fun dd hdd=>ay (F9.o.nodes dd hdd).1 O9.o (by decide),fun dd hdd y hy=>ay (F9.o.bW dd hdd y hy).1 O9.o (by decide)⟩));have M10:=Hd (HO9.o.far gc (fun q e r=>by injection r with r;subst r;exact hn9 e));clear gc hn9 S9 O9 F9 HO9;go_upto_region 14 with fail;clear o1 of;generalize w9.setCell ⟨w6.heap.size,1,none⟩ (.slice A9 (ms.length+1) c9)=w10 at *;go_wp2_with (first | ((with_reducible refine az ?_ 31 (.tmp 10) ?_ O10.o ?_ _ Tryz.underlying31 ?_ ?_ ?_);(iterate 4 rfl);exact fQ _ _) | ((with_reducible refine ae ?_ 31 (.tmp 6) (.tmp 67) ?_ S10.o.R (spC (slV A6 n6 c6) (slV A9 (ms.length+1) c9)) ?_ ?_ ?_ ?_ ?_ ?_);(iterate 4 rfl);(exact fQ _ _);rfl;(exact dW _ _ _ _ _ _)));refine bodyPost_ret (dx (fn:=Tryz.f59) rfl _ _ (w.heap.size+1+1) (slV A6 n6 c6) (slV A9 (ms.length+1) c9) rfl (Blk.row S10.o.R _)) rfl ?_;have gr:=aA w10 (w.heap.size+1+1) (spC (slV A6 n6 c6) (slV A9 (ms.length+1) c9));exact ⟨ai S10.o.low (by omega) _, .inr ⟨A6,n6,c6,A9,ms.length+1,c9,es,ms ++ [⟨dev,d,i⟩],rfl,(F10.o.far gr (fun q e=>by injection e with e;subst e;exact F10.o.old hr5)).low (by omega),(M10.o.far gr (fun q e r=>by injection r with r;have:=M10.o.ge q e;omega)).low (by omega),HD1.o,HD2.o,HDI.o,HMD.o,HMV.o,HE.o,rfl⟩⟩
end Go.Proofs.YtollifnnpihfdaaGreatDoor
