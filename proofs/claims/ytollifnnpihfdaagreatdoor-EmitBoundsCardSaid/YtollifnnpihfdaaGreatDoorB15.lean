import Derived.Test.YtollifnnpihfdaaGreatDoorB07
import Derived.Deep.DrawnRows
import Derived.Lib.MapLaws
set_option maxRecDepth 100000
set_option maxHeartbeats 64000000
set_option linter.all false
namespace Go.Proofs.YtollifnnpihfdaaGreatDoor
open Go.RowKit
structure Pr where
 nm:ByteArray
 kd:Int
 nu:Int
 tx:ByteArray
structure Rc where
 ty:Int
 ti:Int
 se:Int
 ps:List Pr
abbrev prV (p:Pr):Value:=Gn p.nm p.kd p.nu p.tx
abbrev rcC (r:Rc) (v:Value):Array Value:=#[.int .i64 r.ty, .int .i64 r.ti, .int .i64 r.se,v]
theorem Tryz.Gp:(Tryz.prog.info? 79).map (fun i=>(i.zero,i.size,i.bytes))=some (some (.agg #[.string ⟨#[]⟩, .int .i64 0, .int .i64 0, .string ⟨#[]⟩]),4,48):=by kernel_rfl
theorem Tryz.Gq:(Tryz.prog.info? 77).map (fun i=>(i.zero,i.size,i.bytes))=some (some (.agg #[.int .i64 0, .int .i64 0, .int .i64 0, .slice none 0 0]),4,48):=by kernel_rfl
def EP:El Pr where
 C p:= [.string p.nm, .int .i64 p.kd, .int .i64 p.nu, .string p.tx]
 e:=79
 sl:=75
 sz:=4
 bs:=48
 len _:=rfl
 one p u hu:=by simp at hu;rcases hu with rfl | rfl | rfl | rfl <;> rfl
 pos:=by omega
 small:=by omega
 hu:=Tryz.underlying75
 info:=by
  obtain ⟨i0,h1,h2,h3,h4⟩:=info_parts Tryz.Gp;exact ⟨i0,_,h1,h2,h3,h4,rfl⟩
structure Rm where
 r:Rc
 A:Option Addr
 c:Nat
abbrev Rm.sl (x:Rm):Value:= .slice x.A x.r.ps.length x.c
def ER:El Rm where
 C x:= [.int .i64 x.r.ty, .int .i64 x.r.ti, .int .i64 x.r.se, .slice x.A x.r.ps.length x.c]
 e:=77
 sl:=65
 sz:=4
 bs:=48
 len _:=rfl
 one x u hu:=by simp at hu;rcases hu with rfl | rfl | rfl | rfl <;> rfl
 pos:=by omega
 small:=by omega
 hu:=Tryz.underlying65
 info:=by
  obtain ⟨i0,h1,h2,h3,h4⟩:=info_parts Tryz.Gq;exact ⟨i0,_,h1,h2,h3,h4,rfl⟩
theorem KD (r:Rc) (v:Value):(Tryz.prog.info? 77).map (·.size)=some (rcC r v).size:=by show _=some 4;kernel_rfl
abbrev RcB (w:World) (g:Nat) (r:Rc) (v:Value):Prop:=Blk w g 77 (rcC r v)
theorem nT {w:World} {a:Addr} {p:Pr} (h:∀ j,j < 4→w.cell? (a.add j)=(EP.C p)[j]?):
  w.cell? a=some (.string p.nm)∧w.cell? ⟨a.block,a.off+1,none⟩=some (.int .i64 p.kd)∧w.cell? ⟨a.block,a.off+2,none⟩=some (.int .i64 p.nu)∧w.cell? ⟨a.block,a.off+3,none⟩=some (.string p.tx):=
 ⟨h 0 (by omega),h 1 (by omega),h 2 (by omega),h 3 (by omega)⟩
theorem nU {w:World} {a:Addr} {x:Rm} (h:∀ j,j < 4→w.cell? (a.add j)=(ER.C x)[j]?):
  w.cell? a=some (.int .i64 x.r.ty)∧w.cell? ⟨a.block,a.off+1,none⟩=some (.int .i64 x.r.ti)∧w.cell? ⟨a.block,a.off+2,none⟩=some (.int .i64 x.r.se)∧w.cell? ⟨a.block,a.off+3,none⟩=some (.slice x.A x.r.ps.length x.c):=
 ⟨h 0 (by omega),h 1 (by omega),h 2 (by omega),h 3 (by omega)⟩
theorem wm (w:World):ax EP (w.alloc (.cells #[] 79)) w.heap.size (.slice (some ⟨w.heap.size,0,none⟩) 0 0) []:=
 ⟨rfl, .inr ⟨w.heap.size,0,#[],rfl,Nat.le_refl _,heap_alloc_new w _,Nat.le_refl _,by unfold maxLen;omega,rfl,rfl⟩⟩
theorem Gr (ad:Addr) (n c:Nat) (w:World):(binOp .eql 75 (.slice (some ad) n c) (.slice none 0 0)).run Tryz.prog w= .ok (.bool false) w:=by show _=_;kernel_rfl
theorem Di (n c:Nat) (w:World):(binOp .eql 75 (.slice none n c) (.slice none 0 0)).run Tryz.prog w= .ok (.bool true) w:=by show _=_;kernel_rfl
def wo (n:Nat) (ps:List Pr) (w:World) (e:Ending) (w' :World):Prop:=∃ (A:Option Addr) (c:Nat),e= .returned (.slice A n c)∧ax EP w' w.heap.size (.slice A n c) ps∧Below w.heap.size w w'
theorem wu {w w' :World} {o:Obj} (h:(w.alloc o).grownBy w' (Value.slice (some ⟨w.heap.size,0,none⟩) 0 0).ownBlock):Below w.heap.size w w' :=
 ((Below.refl w.heap.size w).alloc (Nat.le_refl _) o).trans ⟨h.os,h.tape,h.output,h.size,fun i hi=>h.block i (by simp;omega) (fun e=>by injection e with e;simp at e;omega)⟩
theorem wE (A:Option Addr) (n c:Nat) (ps:List Pr) (hn:n=ps.length) (hl:n≤1000) (w:World) (h:AtE EP w w.heap.size A ps):
   Calls Tryz.prog 66 #[.slice A n c] w (wo n ps w):=by
 subst hn;rcases A with _ | ad
 · have hM:ps= []:=by
    cases ps with
    | nil=>rfl
    | cons s r=>obtain ⟨ad,e,_⟩:=h 0 (by simp);cases e
   subst hM;clear h hl;have hq:=Di 0 c;go_in;go_wp2_with fail;go_ret;exact ⟨none,0,rfl,ax.nil _ _,Below.refl _ _⟩
 · have HB:=Hd (show Below w.heap.size w (w.alloc (.cells #[] 79)) from (Below.refl _ _).alloc (Nat.le_refl _) _);have HA:=Hd (h.below HB.o);clear h;have hq:=Gr ad ps.length c;go_in;go_wp2_with (refine aj EP rfl (.tmp 5) (.tmp 6) rfl w.heap.size (.slice (some ⟨w.heap.size,0,none⟩) 0 0) [] rfl (wm w) _ (some ad) ps.length c ps rfl rfl HA.o (by simp;omega) (by simp) ?_;intro v6 w6 ho6 hg6 iR);obtain ⟨A',c',e6,_⟩:=ax.at (show ax EP w6 w.heap.size v6 ps from ho6);subst e6;go_ret;exact ⟨A',c',rfl,ho6,wu hg6⟩
structure kX (w:World) (A:Option Addr) (L:List Rm):Prop where
 at' :AtE ER w w.heap.size A L
 ps:∀ x∈L,AtE EP w w.heap.size x.A x.r.ps
 ln:∀ x∈L,x.r.ps.length≤1000
theorem kX.below {w w' :World} {A:Option Addr} {L:List Rm} (h:kX w A L) (hb:Below w.heap.size w w'):kX w' A L:=⟨h.at'.below hb,fun x hx=>(h.ps x hx).below hb,h.ln⟩
structure uz (w wr:World) (s:Int) (L:List Rm) (k:Nat) (v:Value) (M:List Rm):Prop where
 own:ax ER wr w.heap.size v M
 rs:M.map (·.r)=(L.take k).map fun x=> { x.r with se:=s }
 ps:∀ x∈M,ax EP wr w.heap.size x.sl x.r.ps∧∀ b,x.sl.ownBlock=some b→v.ownBlock≠some b
 low:Below w.heap.size w wr
theorem uz.below {w wr w' :World} {s:Int} {L M:List Rm} {k:Nat} {v:Value} (h:uz w wr s L k v M) (hb:Below wr.heap.size wr w'):uz w w' s L k v M:=
 ⟨h.own.below hb,h.rs,fun x hx=>⟨(h.ps x hx).1.below hb,(h.ps x hx).2⟩,aa h.low hb⟩
theorem uz.len {w wr:World} {s:Int} {L M:List Rm} {k:Nat} {v:Value} (h:uz w wr s L k v M) (hk:k≤L.length):M.length=k:=by
 have:=congrArg List.length h.rs;rw [List.length_map,List.length_map,List.length_take] at this;omega
def wF (s:Int) (n:Nat) (L:List Rm) (w:World) (e:Ending) (w' :World):Prop:=
 ∃ (A:Option Addr) (c:Nat) (M:List Rm),e= .returned (.slice A n c)∧M.length=n∧kX w' A M∧M.map (·.r)=(L.map fun x=> { x.r with se:=s })∧Below w.heap.size w w'
theorem zx {s:Int} {L M:List Rm} (h:M.map (·.r)=(L.map fun x=>({ x.r with se:=s } :Rc))) (hl:∀ x∈L,x.r.ps.length≤1000):∀ x∈M,x.r.ps.length≤1000:=fun x hx=>by
 have:x.r∈M.map (·.r):=List.mem_map.2 ⟨x,hx,rfl⟩;rw [h] at this;obtain ⟨y,hy,e⟩:=List.mem_map.1 this;rw [← e];exact hl y hy
theorem uz.app {w w2 w' :World} {s:Int} {L M:List Rm} {k:Nat} {v v' :Value} {x y:Rm} (h:uz w w2 s L k v M) (hk:L[k]? =some x) (hy:y.r= { x.r with se:=s }) (hp:ax EP w2 w.heap.size y.sl y.r.ps) (hf:∀ b,y.sl.ownBlock=some b→v.ownBlock≠some b)
   (ho:ax ER w' w.heap.size v' (M ++ [y])) (hg:w2.grownBy w' v.ownBlock) (hat:v'.ownBlock=v.ownBlock∨v'.ownBlock=some w2.heap.size):uz w w' s L (k+1) v' (M ++ [y]):=by
 have hlow:Below w.heap.size w2 w' :=⟨hg.os,hg.tape,hg.output,hg.size,fun i hi=>hg.block i (by have:=h.low.size;omega) (fun e=>by have:=h.own.ge i e.symm;omega)⟩;have hps:∀ z:Rm,ax EP w2 w.heap.size z.sl z.r.ps→(∀ b,z.sl.ownBlock=some b→v.ownBlock≠some b)→ax EP w' w.heap.size z.sl z.r.ps∧∀ b,z.sl.ownBlock=some b→v'.ownBlock≠some b:=fun z h1 h2=>
   ⟨h1.far hg h2,fun b hb=>by
     rcases hat with e | e
     · rw [e];exact h2 b hb
     · rw [e];intro e2;injection e2 with e2;have:=h1.lt b hb;omega⟩
 refine ⟨ho,?_,fun z hz=>?_,h.low.trans hlow⟩
 · obtain ⟨hlt,he⟩:=List.getElem?_eq_some_iff.1 hk;rw [List.map_append,h.rs,List.take_succ_eq_append_getElem hlt,List.map_append,he];simp [hy]
 · rcases List.mem_append.1 hz with hz | hz
   · exact hps z (h.ps z hz).1 (h.ps z hz).2
   · rw [List.mem_singleton.1 hz];exact hps y hp hf
theorem uz.cell {w wr:World} {s:Int} {L M:List Rm} {k g:Nat} {v:Value} (h:uz w wr s L k v M) (hg:w.heap.size≤g) (hv:v.ownBlock≠some g) (hx:∀ x∈M,x.sl.ownBlock≠some g) (i:Nat) (u:Value):uz w (wr.setCell ⟨g,i,none⟩ u) s L k v M:=
 ⟨h.own.bH hv _,h.rs,fun x hm=>⟨(h.ps x hm).1.bH (hx x hm) _,(h.ps x hm).2⟩,h.low.setCell (by show w.heap.size≤g;omega) _⟩
theorem Bt (A:Option Addr) (n c:Nat) (L:List Rm) (s:Int) (hn:n=L.length) (hl:n≤1000) (w:World) (h:kX w A L):
  Calls Tryz.prog 27 #[.slice A n c, .int .i64 s] w (wF s n L w):=by
 have H:=Hd h;have HN:=Hd hn;clear h hn;go_in;go_wp2_with fail;go_loopw [5,10] (fun v i wr=>∃ (k:Nat) (M:List Rm),k≤n∧i= .int .i64 (k:Int)∧uz w wr s L k v M) (fun _ i _=>n - (intOf i).toNat);case atStart=>exact ⟨0, [],Nat.zero_le _,rfl,ax.nil _ _,rfl,fun x hx=>(by cases hx),Below.refl _ _⟩
 case round=>
  obtain ⟨k,M,hk,rfl,hst⟩:=hrel;generalize u5=v at *;have ST:=Hd hst;have hML:=hst.len (by have:=HN.o;omega);by_cases hlt:k < n
  · have hkL:k < L.length:=(by rw [← HN.o];exact hlt);have hr:=H.o.below (w' :=wr) (by have:=hst.low;exact this);obtain ⟨ad,rfl,hbl,hc⟩:=hr.at' k hkL;obtain ⟨s0,s1,s2,s3⟩:=nU (a:=ad.add (k * 4)) hc;have HX:=Hd (List.getElem?_eq_getElem hkL);have HPX:=Hd (hr.ps _ (List.getElem_mem hkL));have HLX:=Hd (hr.ln _ (List.getElem_mem hkL));clear hc hr hst;generalize L[k]=x at *;have k0:(0:Int)≤(k:Int):=(by omega);have kn:(k:Int) < (n:Int):=(by omega);have ST1:=Hd (ST.o.below ((Below.refl wr.heap.size wr).alloc (Nat.le_refl _) (.cells (rcC x.r x.sl) 77)));have X1:=Hd (Blk.new wr (rcC x.r x.sl) 77);have HP1:=Hd (HPX.o.below ((Below.refl wr.heap.size wr).alloc (Nat.le_refl _) (.cells (rcC x.r x.sl) 77)));have hv0:v.ownBlock≠some wr.heap.size:=fun e=>by have:=ST.o.own.lt _ e;omega
    have hx0:∀ x∈M,x.sl.ownBlock≠some wr.heap.size:=fun x hx e=>by have:=(ST.o.ps x hx).1.lt _ e;omega
    have hwr:w.heap.size≤wr.heap.size:=ST.o.low.size;go_wp2_with fail;refine (wE x.A x.r.ps.length x.c x.r.ps rfl HLX.o _ HP1.o).mono ?_;rintro e w1 ⟨A',c',rfl,hoc,hb1⟩;have ST2:=ST1.o.below hb1;have X2:=Blk.below X1.o hb1;have c3:=X2.cell 3;have c2:=X2.cell 2;have f3:=X2.free 3;have f2:=X2.free 2;have X3:=Hd (show RcB ((w1.setCell ⟨wr.heap.size,3,none⟩ (.slice A' x.r.ps.length c')).setCell ⟨wr.heap.size,2,none⟩ (.int .i64 s)) wr.heap.size { x.r with se:=s } (.slice A' x.r.ps.length c') from Blk.put (Blk.put X2 3 (.slice A' x.r.ps.length c')) 2 (.int .i64 s));have ST3:=Hd ((ST2.cell hwr hv0 hx0 3 (.slice A' x.r.ps.length c')).cell hwr hv0 hx0 2 (.int .i64 s));have hne:(Value.slice A' x.r.ps.length c').ownBlock≠some wr.heap.size:=fun e=>by have:=hoc.ge _ e;simp at this;omega
    have OC:=Hd (((hoc.bH (i:=3) hne (.slice A' x.r.ps.length c')).bH (i:=2) hne (.int .i64 s)).low (base:=w.heap.size) (by simp;omega));have HVF:=Hd (show ∀ b,(Value.slice A' x.r.ps.length c').ownBlock=some b→v.ownBlock≠some b from fun b hb e=>by have:=hoc.ge _ hb;have:=ST.o.own.lt _ e;simp at *;omega);clear ST1 X1 HP1 hoc hb1 ST2 X2 s0 s1 s2 s3 hbl hv0 hx0 hne;go_upto_region 7 with fail;clear c3 c2 f3 f2;generalize (w1.setCell ⟨wr.heap.size,3,none⟩ (.slice A' x.r.ps.length c')).setCell ⟨wr.heap.size,2,none⟩ (.int .i64 s)=w2 at *;have ST4:=Hd (ST3.o.below ((Below.refl w2.heap.size w2).alloc (Nat.le_refl _) (.cells (rcC { x.r with se:=s } (.slice A' x.r.ps.length c')) 77)));have OC4:=Hd (OC.o.alloc (.cells (rcC { x.r with se:=s } (.slice A' x.r.ps.length c')) 77));have RW:=Hd (aI ER w2 (rcC { x.r with se:=s } (.slice A' x.r.ps.length c')) 77 ⟨{ x.r with se:=s },A',c'⟩ rfl (Nat.lt_succ_self w2.heap.size));go_wp2_with (first | ((with_reducible refine az ?_ 77 (.tmp 7) ?_ X3.o ?_ _ Tryz.underlying77 ?_ ?_ ?_);(iterate 4 rfl);exact KD _ _) | (refine aj ER rfl (.tmp 20) (.tmp 22) rfl w.heap.size v M rfl ST4.o.own (w2.heap.size+1) (some ⟨w2.heap.size,0,none⟩) 1 1 [⟨{ x.r with se:=s },A',c'⟩] rfl rfl RW.o (by simp;omega) (by have:=ST4.o.low.size;exact this) ?_;intro v6 w6 ho6 hg6 iR))
    have ST5:=Hd (ST4.o.app (y:=⟨{ x.r with se:=s },A',c'⟩) HX.o rfl OC4.o HVF.o ho6 hg6 iR);clear ho6 hg6 iR;go_wp2_with fail;go_roundw;case rel=>exact ⟨k+1,M ++ [⟨{ x.r with se:=s },A',c'⟩],by omega,by go_num,ST5.o⟩
    case measure=>simp [intOf];omega
  · have hkn:k=n:=(by omega);subst hkn;have d1:¬ (k:Int) < (k:Int):=(by omega);obtain ⟨T,c',hf,hT⟩:=ST.o.own.at;subst hf;have HT:=Hd (show kX wr T M∧M.map (·.r)=L.map (fun x=>({ x.r with se:=s } :Rc)) from by
     have hrs:=ST.o.rs;rw [show k=L.length from HN.o,List.take_length] at hrs;refine ⟨⟨hT,fun x hx=>?_,zx hrs H.o.ln⟩,hrs⟩;obtain ⟨T',c2,e2,ht2⟩:=(ST.o.ps x hx).1.at;injection e2 with e2;rw [e2];exact ht2)
    have HLM:=Hd hML;rw [show (Value.slice T M.length c')=Value.slice T k c' by rw [hML]];clear hML hst;go_wp2_with fail;go_ret;exact ⟨T,c',M,rfl,HLM.o,HT.o.1,HT.o.2,ST.o.low⟩
abbrev prA (p:Pr):Array Value:=#[.string p.nm, .int .i64 p.kd, .int .i64 p.nu, .string p.tx]
theorem Gs (p:Pr):(prA p).all (·.oneCell')=true:=by simp [Value.oneCell']
theorem KE (p:Pr):(Tryz.prog.info? 79).map (·.size)=some (prA p).size:=by show _=some 4;kernel_rfl
theorem kY {fn:Func} (h:fn.results=#[.cell 4 79]) (tmps:Array Value) (w:World) (g:Nat) (p:Pr) (hp:tmps.getD 4 undef= .pointer (some ⟨g,0,none⟩)) (hg:Blk w g 79 (prA p)):
  (results fn tmps).run Tryz.prog w= .ok (prV p) w:=
 results_cell_row h tmps w g _ (prA p) (0,0) _ hp hg Tryz.underlying79 rfl (by show _=some 4;kernel_rfl)
theorem eF (s:ByteArray) (n:Int) (w:World):Calls Tryz.prog 48 #[.string s, .int .i64 n] w fun e w' =>e= .returned (prV ⟨s,1,n,⟨#[]⟩⟩)∧Below w.heap.size w w' :=by
 go_in;go_wp2_with fail;refine bodyPost_ret (kY (fn:=Tryz.f48) rfl _ _ w.heap.size ⟨s,1,n,⟨#[]⟩⟩ rfl (Blk.new w _ _)) rfl ?_;exact ⟨rfl,(Below.refl _ _).alloc (Nat.le_refl _) _⟩
theorem Gt (s t:ByteArray) (ht:t.size≤640) (w:World):Calls Tryz.prog 47 #[.string s, .string t] w fun e w' =>e= .returned (prV ⟨s,2,0,t⟩)∧Below w.heap.size w w' :=by
 have h1:¬ (640:Int) < (t.size:Int):=by omega
 go_in;go_wp2_with fail;refine bodyPost_ret (kY (fn:=Tryz.f47) rfl _ _ w.heap.size ⟨s,2,0,t⟩ rfl (Blk.new w _ _)) rfl ?_;exact ⟨rfl,(Below.refl _ _).alloc (Nat.le_refl _) _⟩
theorem Gu (s:ByteArray) (w:World):Calls Tryz.prog 50 #[.string s, .string ⟨#[]⟩] w fun e w' =>e= .returned (prV ⟨s,3,0,⟨#[]⟩⟩)∧Below w.heap.size w w' :=by
 go_in;go_wp2_with fail;refine bodyPost_ret (kY (fn:=Tryz.f50) rfl _ _ w.heap.size ⟨s,3,0,⟨#[]⟩⟩ rfl (Blk.new w _ _)) rfl ?_;exact ⟨rfl,(Below.refl _ _).alloc (Nat.le_refl _) _⟩
theorem si {P:Program} {w:World} {a:Addr} {ty:TypeId} {cs:Array Value} {d:TypeDesc} (h:∀ j v,cs.toList[j]? =some v→w.cell? (a.add j)=some v)
  (hu:P.underlying ty=some d) (hd:(match d with | .struct _ | .array _ _=>true | _=>false)=true) (hi:(P.info? ty).map (·.size)=some cs.size):
  (loadVar ty a).run P w= .ok (.agg cs) w:=by
 have hl:(loadCells a cs.toList.length).run P w= .ok cs.toList.toArray w:=run_loadCells_list (P:=P) w a cs.toList h;cases hq:P.info? ty with
 | none=>simp [hq] at hi
 | some i=>
  have hs:i.size=cs.size:=by simpa [hq] using hi
  have hagg:(isAgg ty).run P w= .ok true w:=by
   unfold isAgg;rw [Sem.run_bind,run_underlying hu w];cases d <;> simp_all
  simp only [Array.length_toList,Array.toArray_toList] at hl;simp [loadVar,Sem.run_bind,hagg,sizeOf,typeInfo,hq,hs,hl]
theorem lv3 (a:Addr) (w:World):(loadVar 3 a).run Tryz.prog w=(load a).run Tryz.prog w:=by
 unfold loadVar;simp [go_sem]
theorem ET (a:Addr) (w:World):(loadVar 65 a).run Tryz.prog w=(load a).run Tryz.prog w:=by
 unfold loadVar;simp [go_sem]
theorem EU (a:Addr) (w:World):(loadVar 38 a).run Tryz.prog w=(load a).run Tryz.prog w:=by
 unfold loadVar;simp [go_sem]
theorem JF (g o j:Nat):(⟨g,o,none⟩:Addr).add j=⟨g,o+j,none⟩:=by
 unfold Addr.add;split
 · subst_vars;rfl
 · rfl
attribute [-go_sem] loadVar
attribute [local go_sem] lv3 ET EU
end Go.Proofs.YtollifnnpihfdaaGreatDoor
namespace Go.Proofs.YtollifnnpihfdaaGreatDoor
open Go.RowKit
theorem fT {P:Program} {ops:Array Oper} {o:Oper} {a:Act} {w:World} {K:Act→World→Prop} {Q:Exit→Act→World→Prop} {F:Prop} (hgd:o.guard=none) (t:TypeId) (parts:Array (Nat×Operand)) (ho:o.op= .build t parts)
  (cells:Array Value) (hf:P.built t (parts.map fun (i,x)=>(i,a.eval x)).toList=some cells) (h:K (a.put o.dst (.agg cells)) w):
  if Region.wanted o (yielded ops a.tmps)=true then Oper.wp P o a w K Q else F:=by
 have hw:Region.wanted o (yielded ops a.tmps)=true:=by simp [Region.wanted,hgd]
 rw [if_pos hw];exact wp_build t parts ho (by rw [hf];rfl) (by rw [hf];exact h)
theorem ag {P:Program} {ops:Array Oper} {o:Oper} {a:Act} {w:World} {K:Act→World→Prop} {Q:Exit→Act→World→Prop} {F:Prop} (hgd:o.guard=none) (ty:TypeId) (x y:Operand) (ho:o.op= .store ty x y)
  {g:Nat} {t:TypeId} {old:Array Value} (hg:Blk w g t old) (cells:Array Value) (hx:a.eval x= .pointer (some ⟨g,0,none⟩)) (hy:a.eval y= .agg cells)
  (hi:(P.info? ty).map (·.size)=some cells.size) (hold:old.size=cells.size) (h1:cells.all (·.oneCell')=true) (h:K (a.put o.dst undef) (w.setRow g cells)):
  if Region.wanted o (yielded ops a.tmps)=true then Oper.wp P o a w K Q else F:=by
 have hw:Region.wanted o (yielded ops a.tmps)=true:=by simp [Region.wanted,hgd]
 rw [if_pos hw];exact wp_store_row ty x y ho g cells hx hy t old hg hi hold h1 h
structure Sl where
 A:Option Addr
 n:Nat
 c:Nat
abbrev Sl.v (s:Sl):Value:= .slice s.A s.n s.c
structure eH where
 d:Int
 i:Int
 o:Sl
 u:Bool
 n:Int
 ps:Sl
 gs:Sl
structure bE where
 gv:ByteArray
 pa:ByteArray
 dd:Int
 di:Int
 nm:ByteArray
 ro:Int
 mo:Int
 pe:Int
def gT (c:Ctx) (r:eH) (it:Value):Array Value:=#[.int .i64 c.ph, .int .i64 (c.p 0), .int .i64 (c.p 1), .int .i64 (c.p 2), .int .i64 (c.p 3), .int .i64 (c.p 4), .int .i64 (c.p 5), .int .i64 (c.p 6), .int .i64 (c.p 7), .int .i64 r.d, .int .i64 r.i, .string c.comm, .string c.exe,r.o.v, .bool r.u, .int .i64 r.n, .int .i64 (c.a 0), .int .i64 (c.a 1), .int .i64 (c.a 2), .int .i64 (c.a 3),r.ps.v,r.gs.v, .int .i64 c.ex,it, .int .i64 c.ty]
def bf (i:Itm) (r:bE):Array Value:=#[.string r.gv, .string r.pa, .int .i64 r.dd, .int .i64 r.di, .string r.nm, .int .i64 i.dev, .int .i64 i.ino, .int .i64 r.ro, .int .i64 i.kind, .int .i64 r.mo, .int .i64 i.uid, .int .i64 i.gid, .int .i64 r.pe]
abbrev MH (c:Ctx) (r:eH) (it:Value):Value:= .agg (gT c r it)
abbrev GA (i:Itm) (r:bE):Value:= .agg (bf i r)
section
variable {w:World} {g:Nat} {c:Ctx} {r:eH} {it:Value} {i:Itm} {ir:bE}
abbrev iK (w:World) (g:Nat) (c:Ctx) (r:eH) (it:Value):Prop:=Blk w g 54 (gT c r it)
abbrev iL (w:World) (g:Nat) (i:Itm) (r:bE):Prop:=Blk w g 73 (bf i r)
theorem iK.a0 (h:iK w g c r it):w.cell? ⟨g,16,none⟩=some (.int .i64 (c.a 0)):=h.cell 16
theorem iK.ex (h:iK w g c r it):w.cell? ⟨g,22,none⟩=some (.int .i64 c.ex):=h.cell 22
theorem iK.ty (h:iK w g c r it):w.cell? ⟨g,24,none⟩=some (.int .i64 c.ty):=h.cell 24
theorem iK.c9 (h:iK w g c r it):w.cell? ⟨g,9,none⟩=some (.int .i64 r.d):=h.cell 9
theorem iK.c10 (h:iK w g c r it):w.cell? ⟨g,10,none⟩=some (.int .i64 r.i):=h.cell 10
theorem iK.items (h:iK w g c r it):w.cell? ⟨g,23,none⟩=some it:=h.cell 23
theorem iL.dev (h:iL w g i ir):w.cell? ⟨g,5,none⟩=some (.int .i64 i.dev):=h.cell 5
theorem iL.ino (h:iL w g i ir):w.cell? ⟨g,6,none⟩=some (.int .i64 i.ino):=h.cell 6
theorem iL.kind (h:iL w g i ir):w.cell? ⟨g,8,none⟩=some (.int .i64 i.kind):=h.cell 8
theorem iL.uid (h:iL w g i ir):w.cell? ⟨g,10,none⟩=some (.int .i64 i.uid):=h.cell 10
theorem iL.gid (h:iL w g i ir):w.cell? ⟨g,11,none⟩=some (.int .i64 i.gid):=h.cell 11
theorem sD (c:Ctx) (r:eH) (it:Value):(Tryz.prog.info? 54).map (·.size)=some (gT c r it).size:=by show _=some 25;kernel_rfl
theorem jQ (i:Itm) (r:bE):(Tryz.prog.info? 73).map (·.size)=some (bf i r).size:=by show _=some 13;kernel_rfl
end
attribute [local irreducible] gT bf
end Go.Proofs.YtollifnnpihfdaaGreatDoor
namespace Go.Proofs.YtollifnnpihfdaaGreatDoor
def NV (c:UInt8):Bool:=decide (48≤c.toNat) && decide (c.toNat≤57)
def NW (l:List UInt8):Nat:=l.foldl (fun v c=>10 * v+(c.toNat - 48)) 0
def GD (l:List UInt8):Bool:=decide (1≤l.length) && decide (l.length≤4) && !(l.head? == some 48 && decide (1 < l.length))
def KL (s:ByteArray):Option Nat:=if GD s.data.toList && s.data.toList.all NV then some (NW s.data.toList) else none
def zB (c:UInt8) (s:ByteArray):List ByteArray:=Lib.splitB ⟨#[c]⟩ 0 (Lib.countB s ⟨#[c]⟩) s
def KM:List ByteArray→Option (Nat×Nat)
 | [x]=>(KL x).map fun n=>(n,n)
 | [x,y]=>match KL x,KL y with
  | some a,some b=>if a≤b then some (a,b) else none
  | _,_=>none
 | _=>none
def KN (s:ByteArray):Option (Nat×Nat):=KM (zB 45 s)
def nums (x:ByteArray):List Nat:=match KN x with
 | some (a,b)=>List.range' a (min (b+1) 32 - a)
 | none=> []
def gJ (x:ByteArray):Bool:=decide (x.size≠0)
open Go.RowKit
theorem ll (w:World) (base:Nat) (ty:TypeId) (v:Value) (L:List ByteArray) (B:Nat) (A:Option Addr) (n c:Nat) (ss:List ByteArray) (hn:n=ss.length) (hown:bJ w base v L) (hr:bD w B A ss) (hlen:L.length+ss.length≤1000000) (hbase:base≤w.heap.size):
   ∃ v' w',(Builtin.append_ #[49,49] ty #[v, .slice A n c]).run Tryz.prog w= .ok v' w' ∧bJ w' base v' (L ++ ss)∧w.grownBy w' v.ownBlock∧(v'.ownBlock=v.ownBlock∨v'.ownBlock=some w.heap.size):=by
 subst hn;obtain ⟨i0,hi,hz0,hz1,hz2⟩:=info_parts Tryz.GG;have h:=hown.o;rcases A with _ | ad
 · have hss:ss= []:=by
     cases ss with
     | nil=>rfl
     | cons s r=>obtain ⟨ad,e,_⟩:=hr 0 (by simp);cases e
   subst hss;refine ⟨v,w,?_,by simpa using hown,World.grownBy.refl w _, .inl rfl⟩;rcases h.2 with ⟨rfl,_⟩ | ⟨g,cap,cur,rfl,_,_,hnc,_⟩
   · simp [Builtin.append_,run_underlying Tryz.underlying49,sizeOf,typeInfo,hi,Builtin.lenOf,Builtin.firstCells]
   · simp [Builtin.append_,run_underlying Tryz.underlying49,sizeOf,typeInfo,hi,Builtin.lenOf,Builtin.firstCells,hnc,storeCells]
 · obtain ⟨v',w',hrun,h2,h3,_,h5⟩:=run_append_own_at (P:=Tryz.prog) w base 49 ty 9 i0 _ 1 16 Tryz.underlying49 hi hz0 hz1 hz2 rfl (by omega) v L.length _ h ad ss.length c (ss.map Value.string) (by simp) (fun j u hu=>by
     have hj:j < ss.length:=(by have:=(List.getElem?_eq_some_iff.1 hu).1;simpa using this);obtain ⟨ad',e,_,hc⟩:=hr j hj;cases e;rw [hc, ← hu,List.getElem?_map,List.getElem?_eq_getElem hj];rfl) (by
     intro u hu;obtain ⟨s,_,rfl⟩:=List.mem_map.1 hu;rfl) (by unfold maxLen;omega) (by omega) hbase
   refine ⟨v',w',hrun,?_,h3,h5⟩;show w'.ownsRow base 9 1 v' (L ++ ss).length ((L ++ ss).map Value.string);simpa using h2
theorem iM {o:Oper} {a:Act} {w:World} {K:Act→World→Prop} {Q:Exit→Act→World→Prop} (s x:Operand) (ho:o.op= .call { callee:= .builtin .append,args:=#[s,x],argTypes:=#[49,49] })
  (base:Nat) (v:Value) (L:List ByteArray) (hs:a.eval s=v) (hown:bJ w base v L) (B:Nat) (A:Option Addr) (n c:Nat) (ss:List ByteArray) (hx:a.eval x= .slice A n c) (hn:n=ss.length) (hr:bD w B A ss) (hlen:L.length+ss.length≤1000000) (hbase:base≤w.heap.size)
  (h:∀ v' w',bJ w' base v' (L ++ ss)→w.grownBy w' v.ownBlock→(v'.ownBlock=v.ownBlock∨v'.ownBlock=some w.heap.size)→K (a.put o.dst v') w'):o.wp Tryz.prog a w K Q:=by
 obtain ⟨v',w',hrun,h2,h3,h4⟩:=ll w base o.type v L B A n c ss hn hown hr hlen hbase;unfold Oper.wp execOp;simp only [ho,resolve,invoke,builtin,Sem.run_bind,Sem.run_pure,Result.andThen_ok,List.map_toArray,List.map_cons,List.map_nil,hs,hx,hrun];exact h v' w' h2 h3 h4
theorem fe {ops:Array Oper} {rest:List Oper} {o:Oper} {a:Act} {w:World} {Q:Exit→Act→World→Prop} (hgd:o.guard=none) (s x:Operand) (ho:o.op= .call { callee:= .builtin .append,args:=#[s,x],argTypes:=#[49,49] })
  (base:Nat) (v:Value) (L:List ByteArray) (hs:a.eval s=v) (hown:bJ w base v L) (B:Nat) (A:Option Addr) (n c:Nat) (ss:List ByteArray) (hx:a.eval x= .slice A n c) (hn:n=ss.length) (hr:bD w B A ss) (hlen:L.length+ss.length≤1000000) (hbase:base≤w.heap.size)
  (h:∀ v' w',bJ w' base v' (L ++ ss)→w.grownBy w' v.ownBlock→(v'.ownBlock=v.ownBlock∨v'.ownBlock=some w.heap.size)→wpList Tryz.prog ops Q rest (a.put o.dst v') w'):wpList Tryz.prog ops Q (o :: rest) a w:=
 wpList_plain hgd fun _ hK=>iM s x ho base v L hs hown B A n c ss hx hn hr hlen hbase fun v' w' h2 h3 h4=>hK _ _ (h v' w' h2 h3 h4)
theorem dO {ops:Array Oper} {o:Oper} {a:Act} {w:World} {K:Act→World→Prop} {Q:Exit→Act→World→Prop} {E:Prop} (hgd:o.guard=none) (s x:Operand) (ho:o.op= .call { callee:= .builtin .append,args:=#[s,x],argTypes:=#[49,49] })
  (base:Nat) (v:Value) (L:List ByteArray) (hs:a.eval s=v) (hown:bJ w base v L) (B:Nat) (A:Option Addr) (n c:Nat) (ss:List ByteArray) (hx:a.eval x= .slice A n c) (hn:n=ss.length) (hr:bD w B A ss) (hlen:L.length+ss.length≤1000000) (hbase:base≤w.heap.size)
  (h:∀ v' w',bJ w' base v' (L ++ ss)→w.grownBy w' v.ownBlock→(v'.ownBlock=v.ownBlock∨v'.ownBlock=some w.heap.size)→K (a.put o.dst v') w'):
  if Region.wanted o (yielded ops a.tmps)=true then Oper.wp Tryz.prog o a w K Q else E:=by
 have hw:Region.wanted o (yielded ops a.tmps)=true:=by simp [Region.wanted,hgd]
 rw [if_pos hw];exact iM s x ho base v L hs hown B A n c ss hx hn hr hlen hbase h
theorem bJ.ge {w:World} {base:Nat} {v:Value} {L:List ByteArray} (h:bJ w base v L):∀ r,v.ownBlock=some r→base≤r:=fun r hr=>(World.ownsRow.lt h r hr).1
theorem bJ.strs {w:World} {base:Nat} {v:Value} {L:List ByteArray} (h:bJ w base v L):∃ A c,v= .slice A L.length c∧bD w w.heap.size A L:=by
 rcases Joins.ownsRow_forms h.o with ⟨rfl,h0⟩ | ⟨g,cap,rfl⟩
 · have:L= []:=List.eq_nil_of_length_eq_zero h0;subst this;exact ⟨none,0,rfl,bD.nil⟩
 · refine ⟨_,cap,rfl,fun k hk=>⟨_,rfl,(h.o.lt g rfl).2,?_⟩⟩;exact World.ownsRow.cells h (g:=g) rfl k _ (by rw [List.getElem?_map,List.getElem?_eq_getElem hk];rfl)
theorem wT (w:World) (x:ByteArray) (t:TypeId):bD (w.alloc (.cells #[.string x] t)) (w.heap.size+1) (some ⟨w.heap.size,0,none⟩) [x]:=fun k hk=>by
 have hk:k=0:=by simp at hk;omega
 subst hk;exact ⟨_,rfl,by show w.heap.size < _;omega,by show World.cell? _ ⟨w.heap.size,0,none⟩=_;rw [(Blk.new w #[.string x] t).cell];rfl⟩
theorem bJ.mM {w w1 wr w2:World} {v v' :Value} {L L' :List ByteArray} (ho:bJ w1 w.heap.size v L) (hb:Below w.heap.size w wr) {o:Obj} (hw:w1=wr.alloc o) (hg:w1.grownBy w2 v.ownBlock) (_h:bJ w2 w.heap.size v' L'):Below w.heap.size w w2:=by
 subst hw;have h1:=hb.alloc hb.size o;exact h1.grown hg (by have:=hb.size;simp;omega) (fun r hr=>ho.ge r hr)
theorem pM (D:List ByteArray) (x:ByteArray):(D ++ [x]).filter gJ=D.filter gJ ++ (if x.size=0 then [] else [x]):=by
 rw [List.filter_append];congr 1;by_cases h:x.size=0
 · simp [gJ,h]
 · simp [gJ,h]
theorem pO {D:List ByteArray} {x:ByteArray} (h:x.size≠0):(D ++ [x]).filter gJ=D.filter gJ ++ [x]:=by rw [pM,if_neg h]
theorem pQ {D:List ByteArray} {x:ByteArray} (h:x.size=0):(D ++ [x]).filter gJ=D.filter gJ:=by rw [pM,if_pos h,List.append_nil]
def GH (s:ByteArray) (w:World) (e:Ending) (w' :World):Prop:=∃ (v:Value) (L:List ByteArray) (a b:Bool),e= .returned (.tuple #[v, .bool a, .bool b])∧IsW 47 s L∧bJ w' w.heap.size v (L.filter gJ)∧Below w.heap.size w w'
theorem zC (D:List ByteArray):(D.filter gJ).length≤D.length:=List.length_filter_le _ _
theorem wU (s:ByteArray) (w:World) (hs:s.size≤100000):Calls Tryz.prog 192 #[.string s] w (GH s w):=by
 go_in;go_wp2_with fail;go_loopw [5,6,7] (fun v m i wr=>∃ (D:List ByteArray) (mk ik:Nat),m= .int .i64 (mk:Int)∧i= .int .i64 (ik:Int)∧bJ wr w.heap.size v (D.filter gJ)∧Below w.heap.size w wr∧Hid ((ik≤s.size∧iq 47 s D mk ik)∨(ik=s.size+1∧IsW 47 s D))∧D.length≤100001∧mk≤s.size+1) (fun _ _ i _=>s.size+2 - (intOf i).toNat);case atStart=>exact ⟨[],0,0,rfl,rfl,bJ.nil _ _,Below.refl _ _,Hd (.inl ⟨Nat.zero_le _,iq.start 47 s⟩),by simp,by omega⟩
 case round=>
  obtain ⟨D,mk,ik,rfl,rfl,hown,hb,hst,hD,hm⟩:=hrel;have hfl:=zC D;by_cases hle:ik≤s.size
  · have hc:iq 47 s D mk ik:=by
      rcases hst.o with ⟨_,h⟩ | ⟨h,_⟩
      · exact h
      · omega
    have h1:=hc.le;have h3:=hc.count;have HST:=Hd hc;clear hst hc;by_cases hlt:ik < s.size
    · have n1:((ik:Int) == (s.size:Int))=false:=(by rw [beq_eq_false_iff_ne];omega);by_cases hcc:s[ik]=47
      · have t1:((s[ik].toNat:Int) == 47)=true:=(by rw [hcc];rfl);have HC:=Hd (HST.o.cut hlt hcc);clear hcc;by_cases hem:mk < ik
        · have HF:=Hd (pO (D:=D) (x:=s.extract mk ik) (by rw [ByteArray.size_extract];omega));go_wp2_with (at_builtin;refine fe rfl (.tmp 27) (.tmp 32) rfl w.heap.size _ (D.filter gJ) rfl (hown.alloc _) (wr.heap.size+1) (some ⟨wr.heap.size,0,none⟩) 1 1 [s.extract mk ik] rfl rfl (wT wr _ 9) (by simp;omega) (by have:=hb.size;simp;omega) ?_;intro v4 w4 tL hg4 zD);have hb4:=bJ.mM (hown.alloc _) hb rfl hg4 tL;clear hg4 zD hb hown;go_wp2_with fail;go_roundw;case rel=>exact ⟨D ++ [s.extract mk ik],ik+1,ik+1,by go_num,by go_num,by rw [HF.o];exact tL,hb4,Hd (.inl ⟨by omega,HC.o⟩),by rw [List.length_append,List.length_singleton];omega,by omega⟩
          case measure=>simp [intOf];omega
        · have HF:=Hd (pQ (D:=D) (x:=s.extract mk ik) (by rw [ByteArray.size_extract];omega));go_wp2_with fail;go_roundw;case rel=>exact ⟨D ++ [s.extract mk ik],ik+1,ik+1,by go_num,by go_num,by rw [HF.o];exact hown,hb,Hd (.inl ⟨by omega,HC.o⟩),by rw [List.length_append,List.length_singleton];omega,by omega⟩
          case measure=>simp [intOf];omega
      · have t1:((s[ik].toNat:Int) == 47)=false:=by
          rw [beq_eq_false_iff_ne];intro e;exact hcc (UInt8.toNat_inj.1 (by show s[ik].toNat=47;omega))
        have HC:=Hd (HST.o.next hlt hcc);clear hcc;go_wp2_with fail;go_roundw;case rel=>exact ⟨D,mk,ik+1,rfl,by go_num,hown,hb,Hd (.inl ⟨by omega,HC.o⟩),hD,hm⟩
        case measure=>simp [intOf];omega
    · obtain rfl:ik=s.size:=(by omega);have n1:((s.size:Int) == (s.size:Int))=true:=(by simp);have HC:=Hd HST.o.done;by_cases hem:mk < s.size
      · have HF:=Hd (pO (D:=D) (x:=s.extract mk s.size) (by rw [ByteArray.size_extract];omega));go_wp2_with (at_builtin;refine fe rfl (.tmp 27) (.tmp 32) rfl w.heap.size _ (D.filter gJ) rfl (hown.alloc _) (wr.heap.size+1) (some ⟨wr.heap.size,0,none⟩) 1 1 [s.extract mk s.size] rfl rfl (wT wr _ 9) (by simp;omega) (by have:=hb.size;simp;omega) ?_;intro v4 w4 tL hg4 zD);have hb4:=bJ.mM (hown.alloc _) hb rfl hg4 tL;clear hg4 zD hb hown;go_wp2_with fail;go_roundw;case rel=>exact ⟨D ++ [s.extract mk s.size],s.size+1,s.size+1,by go_num,by go_num,by rw [HF.o];exact tL,hb4,Hd (.inr ⟨rfl,HC.o⟩),by rw [List.length_append,List.length_singleton];omega,by omega⟩
        case measure=>simp [intOf]
      · have HF:=Hd (pQ (D:=D) (x:=s.extract mk s.size) (by rw [ByteArray.size_extract];omega));go_wp2_with fail;go_roundw;case rel=>exact ⟨D ++ [s.extract mk s.size],s.size+1,s.size+1,by go_num,by go_num,by rw [HF.o];exact hown,hb,Hd (.inr ⟨rfl,HC.o⟩),by rw [List.length_append,List.length_singleton];omega,by omega⟩
        case measure=>simp [intOf]
  · have hw:IsW 47 s D:=by
      rcases hst.o with ⟨h,_⟩ | ⟨_,h⟩
      · omega
      · exact h
    have HW:=Hd hw;clear hst hw;go_wp2_with fail;by_cases hz:0 < s.size
    · have d1:decide ((0:Int) < (s.size:Int))=true:=decide_eq_true (by omega);have z0:(0:Int) < (s.size:Int):=(by omega);have z1:(1:Int)≤(s.size:Int):=(by omega);have z2:s.size - 1 < s.size:=(by omega);have c0:(0:Int)≤(s.size:Int) - 1:=(by omega);have c1:(s.size:Int) - 1 < (s.size:Int):=(by omega);have c2:IntKind.i64.wrap ((s.size:Int) - 1)=(s.size:Int) - 1:=IntWalk.i64_in _ (by omega);have c3:((s.size:Int) - 1).toNat=s.size - 1:=(by omega);go_quiet (fail);go_wp2_with fail;refine bodyPost_ret (v:= .tuple #[_, .bool _, .bool _]) (by simp [results,Tryz.results192,go_sem];exact ⟨rfl,rfl,rfl⟩) rfl ?_;exact ⟨_,D,_,_,rfl,HW.o,hown.below (below_drewN (Below.refl _ _) _),below_drewN hb _⟩
    · have d1:decide ((0:Int) < (s.size:Int))=false:=decide_eq_false (by omega);go_quiet (fail);go_wp2_with fail;refine bodyPost_ret (v:= .tuple #[_, .bool _, .bool _]) (by simp [results,Tryz.results192,go_sem];exact ⟨rfl,rfl,rfl⟩) rfl ?_;exact ⟨_,D,_,_,rfl,HW.o,hown.below (below_drewN (Below.refl _ _) _),below_drewN hb _⟩
open Go
section
variable {P:Program} {ops:Array Oper} {Q:Exit→Act→World→Prop} {md:Region.Mode} {S:World→Prop}
def mO (md:Region.Mode) (ops:Array Oper):Nat→Nat→Nat→Bool
 | 0,r,j=>r == j
 | f+1,r,j=>r == j || ((ops[j]?).map fun o=>o.after.toList.any fun e=>Region.binds md e && mO md ops f r e.on).getD false
def sG (md:Region.Mode) (ops:Array Oper) (p:Nat→Bool) (j:Nat):Bool:=((ops[j]?).map fun o=>o.after.toList.all fun e=> !Region.binds md e || p e.on).getD false
def sH (md:Region.Mode) (ops:Array Oper) (listed:Array Bool) (rem:List Nat):Bool:=
 listed.size == ops.size && rem.all (fun i=>decide (i < ops.size) && !listed.getD i true) &&
 (List.range ops.size).all (fun i=> !listed.getD i false || sG md ops (fun k=>listed.getD k false) i) &&
 rem.all (fun i=>sG md ops (fun k=>decide (k < i) && (listed.getD k false || rem.contains k)) i) &&
 (List.range ops.size).all (fun j=>listed.getD j false || rem.contains j || rem.all (fun r=>mO md ops 8 r j)) && decide rem.Nodup
theorem lv {p:Nat→Bool} {j:Nat} (h:sG md ops p j=true):∃ o,ops[j]? =some o∧∀ e∈o.after,Region.binds md e=true→p e.on=true:=by
 unfold sG at h;cases ho:ops[j]? with
 | none=>rw [ho] at h;cases h
 | some o=>
  rw [ho] at h;refine ⟨o,rfl,fun e he hb=>?_⟩;have h1:=List.all_eq_true.1 h e (Array.mem_toList_iff.2 he);rw [hb] at h1;simpa using h1
theorem nZ {listed:Array Bool} (hc:∀ i,listed.getD i false=true→∃ o,ops[i]? =some o∧∀ e∈o.after,Region.binds md e=true→listed.getD e.on false=true):
  ∀ (f r j:Nat),mO md ops f r j=true→listed.getD j false=true→listed.getD r false=true:=by
 intro f;induction f with
 | zero=>intro r j h hj;have:=eq_of_beq h;subst this;exact hj
 | succ f ih=>
  intro r j h hj;unfold mO at h;rcases Bool.or_eq_true_iff.1 h with h | h
  · have:=eq_of_beq h;subst this;exact hj
  · obtain ⟨o,ho,hall⟩:=hc j hj;rw [ho] at h;obtain ⟨e,he,hb⟩:=List.any_eq_true.1 h;obtain ⟨hb1,hb2⟩:=Bool.and_eq_true_iff.1 hb;exact ih r e.on hb2 (hall e (Array.mem_toList_iff.1 he) hb1)
theorem pU {listed:Array Bool} (hc:∀ i,listed.getD i false=true→∃ o,ops[i]? =some o∧∀ e∈o.after,Region.binds md e=true→listed.getD e.on false=true)
   {r j:Nat} (hne:r≠j) (hr:mO md ops 8 r j=true) {o:Oper} (ho:ops[j]? =some o) (hall:∀ e∈o.after,Region.binds md e=true→listed.getD e.on false=true):listed.getD r false=true:=by
 unfold mO at hr;rcases Bool.or_eq_true_iff.1 hr with h | h
 · exact absurd (eq_of_beq h) hne
 · rw [ho] at h;obtain ⟨e,he,hb⟩:=List.any_eq_true.1 h;obtain ⟨hb1,hb2⟩:=Bool.and_eq_true_iff.1 hb;exact nZ hc 7 r e.on hb2 (hall e (Array.mem_toList_iff.1 he) hb1)
theorem kM (l:Array Bool) (i j:Nat) (d:Bool):(l.setIfInBounds i true).getD j d=if i=j∧i < l.size then true else l.getD j d:=by
 simp only [Array.getD_eq_getD_getElem?,Array.getElem?_setIfInBounds];by_cases h:i=j
 · subst h;by_cases h2:i < l.size
   · simp [h2]
   · simp [h2]
 · simp [h]
theorem tN (rem:List Nat) (l:Array Bool) (j:Nat):(rem.foldl (fun l i=>l.setIfInBounds i true) l)[j]? =if j∈rem∧j < l.size then some true else l[j]? :=by
 induction rem generalizing l with
 | nil=>simp
 | cons x rem ih=>
  rw [List.foldl_cons,ih,Array.size_setIfInBounds,Array.getElem?_setIfInBounds];by_cases h1:j < l.size
  · by_cases h2:j∈rem
    · simp [h1,h2]
    · by_cases h3:x=j
      · subst h3;simp [h1,h2]
      · simp [h1,h2,h3,Ne.symm h3]
  · by_cases h3:x=j
    · subst h3;simp [h1]
    · simp [h1,h3]
theorem ry (rem:List Nat) (J:World→Prop) (V:Nat→Value→World→Prop) (A:(Nat→Value)→Act) (bW:Array Bool) (fuel' oh:Nat) (hfu:oh=fuel' +rem.length)
  (hok:sH md ops bW rem=true)
  (hput:∀ i o u v,ops[i]? =some o→i∈rem→(A u).put o.dst v=A (fun j=>if j=i then v else u j))
  (hstep:∀ i o u w,ops[i]? =some o→i∈rem→S w→J w→(∀ e∈o.after,Region.binds md e=true→e.on∈rem→V e.on (u e.on) w)→
    wpOp P ops Q i (fun a' w' =>∃ v,a' =(A u).put o.dst v∧V i v w' ∧S w' ∧J w' ∧∀ j∈rem,∀ x,V j x w→V j x w') (A u) w)
  (u0:Nat→Value) (w:World) (hS:S w) (hJ:J w)
  (hend:∀ u w,S w→J w→(∀ i∈rem,V i (u i) w)→wpAnyH P md ops Q S fuel' (rem.foldl (fun l i=>l.setIfInBounds i true) bW) (A u) w):
  wpAnyH P md ops Q S oh bW (A u0) w:=by
 subst hfu;unfold sH at hok;simp only [Bool.and_eq_true,List.all_eq_true,List.mem_range,Bool.or_eq_true,Bool.not_eq_true',decide_eq_true_eq,beq_iff_eq,List.contains_iff_mem] at hok;obtain ⟨⟨⟨⟨⟨hsz,KO⟩,hcl⟩,hpre⟩,hoth⟩,hnd⟩:=hok
 suffices H:∀ (c:Nat) (left:List Nat) (listed:Array Bool) (u:Nat→Value) (w:World),left.Nodup→left.length=c→(∀ i,i∈left→i∈rem)→listed.size=ops.size→
    (∀ i,listed.getD i false=true→∃ o,ops[i]? =some o∧∀ e∈o.after,Region.binds md e=true→listed.getD e.on false=true)→
    (∀ i,i ∉ rem→listed[i]? =bW[i]?)→(∀ i∈rem,listed.getD i false= !left.contains i)→(∀ i∈rem,i ∉ left→V i (u i) w)→S w→J w→
    wpAnyH P md ops Q S (fuel' +c) listed (A u) w by
  refine H rem.length rem bW u0 w hnd rfl (fun _ h=>h) hsz ?_ (fun _ _=>rfl) ?_ (fun i h1 h2=>absurd h1 h2) hS hJ
  · intro i hi;have hlt:i < ops.size:=by
      rcases Nat.lt_or_ge i ops.size with h | h
      · exact h
      · rw [Array.getD_eq_getD_getElem?,Array.getElem?_eq_none (by omega)] at hi;cases hi
    rcases hcl i hlt with h | h
    · rw [h] at hi;cases hi
    · exact lv h
  · intro i hi;obtain ⟨h1,h2⟩:=KO i hi;rw [show rem.contains i=true from by simpa using hi];have h3:i < bW.size:=(by omega);simp only [Array.getD_eq_getD_getElem?,Array.getElem?_eq_getElem h3,Option.getD_some] at h2 ⊢;simpa using h2
 intro c;induction c with
 | zero=>
  intro left listed u w _ hlen _ hls _ hout hin hV hS hJ;have hl:left= []:=List.eq_nil_of_length_eq_zero hlen;subst hl;have he:listed=rem.foldl (fun l i=>l.setIfInBounds i true) bW:=by
    apply Array.ext_getElem?;intro i;rw [tN];by_cases hi:i∈rem
    · have h1:=(KO i hi).1;have h2:=hin i hi;have h3:i < listed.size:=(by omega);rw [if_pos ⟨hi,by omega⟩];simp only [Array.getD_eq_getD_getElem?,Array.getElem?_eq_getElem h3,Option.getD_some] at h2 ⊢;rw [h2];rfl
    · rw [if_neg (fun h=>hi h.1)];exact hout i hi
  subst he;exact hend u w hS hJ (fun i hi=>hV i hi (by simp))
 | succ c ih=>
  intro left listed u w hnd hlen hsub hls hcl' hout hin hV hS hJ;have hmin:∃ i,i∈left∧∀ k∈left,i≤k:=by
    have:left≠ []:=(by intro e;subst e;cases hlen);clear hlen hnd hsub hV hin;induction left with
    | nil=>exact absurd rfl this
    | cons x l ih=>
      by_cases hl:l= []
      · subst hl;exact ⟨x,List.mem_cons_self ..,fun k hk=>by rw [List.mem_singleton] at hk;omega⟩
      · obtain ⟨i,h1,h2⟩:=ih hl;by_cases hx:x≤i
        · exact ⟨x,List.mem_cons_self ..,fun k hk=>by rcases List.mem_cons.1 hk with rfl | hk;exact Nat.le_refl _;exact Nat.le_trans hx (h2 k hk)⟩
        · exact ⟨i,List.mem_cons_of_mem _ h1,fun k hk=>by rcases List.mem_cons.1 hk with rfl | hk;omega;exact h2 k hk⟩
  have hun:∀ i∈left,listed.getD i true=false:=fun i hi=>by
    have h1:=hin i (hsub i hi);have h3:i < listed.size:=(by have:=(KO i (hsub i hi)).1;omega);rw [show left.contains i=true from by simpa using hi] at h1;simp only [Array.getD_eq_getD_getElem?,Array.getElem?_eq_getElem h3,Option.getD_some] at h1 ⊢;rw [h1];rfl
  have GK:∃ i,i∈Region.ready md ops listed:=by
    obtain ⟨i,hi,hm⟩:=hmin;obtain ⟨o,ho,hp⟩:=lv (hpre i (hsub i hi));refine ⟨i,mem_ready.2 ⟨hun i hi,o,ho,fun e he hb=>?_⟩⟩;have h1:=hp e he hb;simp only [Bool.and_eq_true,decide_eq_true_eq,Bool.or_eq_true,List.contains_iff_mem] at h1;obtain ⟨hlt,h1⟩:=h1;by_cases hr:e.on∈rem
    · rw [hin _ hr];have:e.on ∉ left:=fun h=>by have:=hm _ h;omega
      simpa using this
    · rcases h1 with h1 | h1
      · rw [Array.getD_eq_getD_getElem?,hout _ hr, ← Array.getD_eq_getD_getElem?];exact h1
      · exact absurd h1 hr
  refine ⟨fun h=>?_,fun i hi=>?_⟩
  · obtain ⟨i,hi⟩:=GK;rw [h] at hi;cases hi
  · obtain ⟨MI,o,ho,hall⟩:=mem_ready.1 hi;have hlt:i < ops.size:=(Array.getElem?_eq_some_iff.1 ho).1;have hil:i < listed.size:=(by omega);have MJ:listed.getD i false=false:=by
      simp only [Array.getD_eq_getD_getElem?,Array.getElem?_eq_getElem hil,Option.getD_some] at MI ⊢;exact MI
    by_cases hir:i∈rem
    · have GL:i∈left:=by
        have h1:=hin i hir;rw [MJ] at h1;simpa using h1.symm
      refine wpOp_mono ?_ (hstep i o u w ho hir hS hJ (fun e he hb hr=>hV _ hr ?_))
      · rintro a' w' ⟨v,rfl,hv,hS',hJ',hk⟩;refine ⟨hS',?_⟩;rw [hput i o u v ho hir];refine ih (left.erase i) (listed.setIfInBounds i true) _ w' (hnd.erase i) (by rw [List.length_erase_of_mem GL,hlen];rfl) (fun k hk' =>hsub k (List.mem_of_mem_erase hk')) (by rw [Array.size_setIfInBounds];exact hls) ?_ ?_ ?_ ?_ hS' hJ'
        · intro k hkk;rw [kM] at hkk;split at hkk
          · rename_i h;obtain ⟨rfl,_⟩:=h;exact ⟨o,ho,fun e he hb=>by rw [kM];split;rfl;exact hall e he hb⟩
          · obtain ⟨o',ho',h'⟩:=hcl' k hkk;exact ⟨o',ho',fun e he hb=>by rw [kM];split;rfl;exact h' e he hb⟩
        · intro k hkr;rw [Array.getElem?_setIfInBounds_ne (fun e=>hkr (by rw [← e];exact hir))];exact hout k hkr
        · intro k hkr;rw [kM];by_cases hik:i=k
          · subst hik;rw [if_pos ⟨rfl,hil⟩];have:i ∉ left.erase i:=fun h=>by
              have:=(List.Nodup.mem_erase_iff hnd).1 h;exact this.1 rfl
            simp [this]
          · rw [if_neg (fun h=>hik h.1),hin k hkr];congr 1;have:k∈left.erase i↔k∈left:=List.mem_erase_of_ne (Ne.symm hik);by_cases hkl:k∈left
            · simp [hkl,this]
            · simp [hkl,this]
        · intro k hkr hkl;by_cases hik:k=i
          · subst hik;simp only [if_true];exact hv
          · simp only [hik,if_false];refine hk k hkr _ (hV k hkr (fun h=>hkl ((List.mem_erase_of_ne hik).2 h)))
      · have h1:=hall e he hb;rw [hin _ hr] at h1;simpa using h1
    · exfalso;obtain ⟨r,hr⟩:∃ r,r∈left:=(by obtain ⟨r,hr,_⟩:=hmin;exact ⟨r,hr⟩);have h0:bW.getD i false=false:=by
        rw [Array.getD_eq_getD_getElem?, ← hout i hir, ← Array.getD_eq_getD_getElem?];exact MJ
      rcases hoth i hlt with (h1 | h1) | h1
      · rw [h0] at h1;cases h1
      · exact hir h1
      · have h2:=pU hcl' (fun e=>hir (by rw [← e];exact hsub r hr)) (h1 r (hsub r hr)) ho hall;rw [hin r (hsub r hr),show left.contains r=true from by simpa using hr] at h2;cases h2
end
section
variable {P:Program} {ops:Array Oper} {Q:Exit→Act→World→Prop} {md:Region.Mode} {S J:World→Prop} {V:Nat→Value→World→Prop} {A:(Nat→Value)→Act} {G:World→World→Prop} {all:List Nat}
def wV (md:Region.Mode) (o:Oper) (j:Nat):Bool:=o.after.toList.any fun e=>Region.binds md e && e.on == j
def GM (ops:Array Oper) (A:(Nat→Value)→Act) (rem:List Nat):Prop:=∀ i∈rem,∀ o,ops[i]? =some o→∀ u v,(A u).put o.dst v=A (fun j=>if j=i then v else u j)
def aY (P:Program) (ops:Array Oper) (Q:Exit→Act→World→Prop) (md:Region.Mode) (S:World→Prop) (J:World→Prop) (V:Nat→Value→World→Prop) (A:(Nat→Value)→Act) (G:World→World→Prop) (all rem:List Nat):Prop:=
 ∀ i∈rem,∀ o,ops[i]? =some o→∀ u w,S w→J w→(∀ j,all.contains j=true→wV md o j=true→V j (u j) w)→∀ K:Act→World→Prop,Shut (∀ v a' w',a' =(A u).put o.dst v→V i v w' →G w w' →K a' w')→
  if Region.wanted o (yielded ops (A u).tmps)=true then Oper.wp P o (A u) w K Q else K ((A u).put o.dst undef) w
theorem aY.nil:aY P ops Q md S J V A G all []:=fun _ h=>by cases h
theorem aY.cons {i:Nat} {o:Oper} {rem:List Nat} (ho:ops[i]? =some o)
   (h:∀ u w,S w→J w→(∀ j,all.contains j=true→wV md o j=true→V j (u j) w)→∀ K:Act→World→Prop,Shut (∀ v a' w',a' =(A u).put o.dst v→V i v w' →G w w' →K a' w')→
    if Region.wanted o (yielded ops (A u).tmps)=true then Oper.wp P o (A u) w K Q else K ((A u).put o.dst undef) w)
   (t:aY P ops Q md S J V A G all rem):aY P ops Q md S J V A G all (i :: rem):=fun k hk o' ho' =>by
 rcases List.mem_cons.1 hk with rfl | hk
 · rw [ho] at ho';injection ho' with ho';subst ho';exact h
 · exact t k hk o' ho'
theorem rz (rem:List Nat) (J:World→Prop) (V:Nat→Value→World→Prop) (A:(Nat→Value)→Act) (G:World→World→Prop) {bW:Array Bool} (fuel' :Nat) {oh:Nat} (hfu:oh=fuel' +rem.length)
  (hok:sH md ops bW rem=true) (hG:∀ w w',G w w' →(S w→S w')∧(J w→J w')∧∀ j x,V j x w→V j x w') (hput:GM ops A rem) (hstep:aY P ops Q md S J V A G rem rem)
  {a:Act} (u0:Nat→Value) (ha:a=A u0) {w:World} (hS:S w) (hJ:J w)
  (hend:∀ u w,S w→J w→(∀ i,rem.contains i=true→V i (u i) w)→wpAnyH P md ops Q S fuel' (rem.foldl (fun l i=>l.setIfInBounds i true) bW) (A u) w):
  wpAnyH P md ops Q S oh bW a w:=by
 subst ha;refine ry rem J V A bW fuel' oh hfu hok (fun i o u v ho hi=>hput i hi o ho u v) (fun i o u w ho hi hS hJ hpre=>?_) u0 w hS hJ (fun u w hS hJ hV=>hend u w hS hJ (fun i hi=>hV i (by simpa using hi)));refine wpOp_step ho (fun K hK=>hstep i hi o ho u w hS hJ (fun j hj hw=>?_) K (fun v a' w' h0 h1 h3=>hK _ _ ⟨v,h0,h1,(hG w w' h3).1 hS,(hG w w' h3).2.1 hJ,fun j _ x hx=>(hG w w' h3).2.2 j x hx⟩));unfold wV at hw;obtain ⟨e,he,hb⟩:=List.any_eq_true.1 hw;obtain ⟨hb1,hb2⟩:=Bool.and_eq_true_iff.1 hb;have:=eq_of_beq hb2;subst this;exact hpre e (Array.mem_toList_iff.1 he) hb1 (by simpa using hj)
def MK (u:Nat→Value) (k:Nat) (x:Value) (j:Nat):Value:=if j=k then x else u j
theorem pV {u:Nat→Value} {k:Nat} {x:Value} (h:u k=x):MK u k x=u:=by
 funext j;unfold MK;split
 · rename_i e;rw [e];exact h.symm
 · rfl
def bN (a:Act) (ds:List (Nat×Tmp)) (u:Nat→Value):Act:=ds.foldl (fun a p=>a.put (some p.2) (u p.1)) a
theorem bY (a:Act) (p:Nat×Tmp) (ds:List (Nat×Tmp)) (u:Nat→Value):bN a (p :: ds) u=bN (a.put (some p.2) (u p.1)) ds u:=rfl
theorem pW (d:Tmp) (v:Value):∀ (ds:List (Nat×Tmp)) (a:Act) (u:Nat→Value),(∀ p∈ds,p.2≠d)→bN (a.put (some d) v) ds u=(bN a ds u).put (some d) v
 | [],_,_,_=>rfl
 | p :: ds,a,u,h=>by
  rw [bY,bY, ← pW d v ds _ u (fun q hq=>h q (List.mem_cons_of_mem _ hq)),Act.put_comm];intro e he;injection he with he;subst he;intro h2;injection h2 with h2;exact h p (List.mem_cons_self ..) h2
theorem iY:∀ (ds:List (Nat×Tmp)) (a:Act) (u u' :Nat→Value),(∀ p∈ds,u p.1=u' p.1)→bN a ds u=bN a ds u'
 | [],_,_,_,_=>rfl
 | p :: ds,a,u,u',h=>by
  rw [bY,bY,h p (List.mem_cons_self ..)];exact iY ds _ u u' (fun q hq=>h q (List.mem_cons_of_mem _ hq))
theorem wW (a:Act) (d:Tmp) (v v' :Value):(a.put (some d) v).put (some d) v' =a.put (some d) v' :=by
 simp [Act.put]
theorem pX (i:Nat) (d:Tmp) (v:Value):∀ (ds:List (Nat×Tmp)) (a:Act) (u:Nat→Value),(ds.map (·.1)).Nodup→(ds.map (·.2)).Nodup→(i,d)∈ds→(bN a ds u).put (some d) v=bN a ds (fun j=>if j=i then v else u j)
 | [],_,_,_,_,h=>by cases h
 | p :: ds,a,u,h1,h2,h=>by
  rw [List.map_cons,List.nodup_cons] at h1 h2;rcases List.mem_cons.1 h with h | h
  · subst h;rw [bY,bY, ← pW d v ds _ u (fun q hq e=>h2.1 (List.mem_map.2 ⟨q,hq,e⟩)),wW,if_pos rfl];exact iY ds _ _ _ (fun q hq=>by rw [if_neg (fun e=>h1.1 (List.mem_map.2 ⟨q,hq,e⟩))])
  · have hne:p.1≠i:=fun e=>h1.1 (List.mem_map.2 ⟨(i,d),h,e.symm⟩);rw [bY,bY,if_neg hne];exact pX i d v ds _ u h1.2 h2.2 h
theorem zG (a:Act) (d:Tmp):a.put (some d) (a.tmps.getD d undef)=a:=by
 obtain ⟨ts,ds⟩:=a;simp only [Act.put];congr 1;apply Array.ext_getElem?;intro k;rw [Array.getElem?_setIfInBounds];by_cases h:d=k
 · subst h;rw [if_pos rfl];by_cases h2:d < ts.size
   · rw [if_pos h2,Array.getD_eq_getD_getElem?,Array.getElem?_eq_getElem h2];rfl
   · rw [if_neg h2,Array.getElem?_eq_none (Nat.le_of_not_lt h2)]
 · rw [if_neg h]
def ML (a:Act) (ds:List (Nat×Tmp)) (i:Nat):Value:=match ds.find? (fun p=>p.1 == i) with | some p=>a.tmps.getD p.2 undef | none=>undef
theorem mP (a:Act) (u:Nat→Value):∀ ds:List (Nat×Tmp),(∀ p∈ds,u p.1=a.tmps.getD p.2 undef)→bN a ds u=a
 | [],_=>rfl
 | p :: ds,h=>by
  rw [bY,h p (List.mem_cons_self ..),zG];exact mP a u ds (fun q hq=>h q (List.mem_cons_of_mem _ hq))
theorem mQ:∀ (ds:List (Nat×Tmp)),(ds.map (·.1)).Nodup→∀ p∈ds,ds.find? (fun q=>q.1 == p.1)=some p
 | [],_,_,h=>by cases h
 | x :: ds,h1,p,h=>by
  rw [List.map_cons,List.nodup_cons] at h1;rcases List.mem_cons.1 h with h | h
  · subst h;simp
  · have hne:(x.1 == p.1)=false:=by
     simp only [beq_eq_false_iff_ne,ne_eq];exact fun e=>h1.1 (List.mem_map.2 ⟨p,h,e.symm⟩)
    rw [List.find?_cons,hne];exact mQ ds h1.2 p h
def zH (ops:Array Oper) (rem:List Nat) (ds:List (Nat×Tmp)):Bool:=
 rem.all (fun i=>match ops[i]? with | some o=>(match o.dst with | some d=>ds.contains (i,d) | none=>ds.all (fun p=>p.1 != i)) | none=>true) && decide (ds.map (·.1)).Nodup && decide (ds.map (·.2)).Nodup
theorem tO {rem:List Nat} {ds:List (Nat×Tmp)} (h:zH ops rem ds=true) (a:Act):GM ops (bN a ds) rem:=fun i hi o ho u v=>by
 unfold zH at h;simp only [Bool.and_eq_true,decide_eq_true_eq] at h;obtain ⟨⟨h1,h2⟩,h3⟩:=h;have h4:=List.all_eq_true.1 h1 i hi;rw [ho] at h4;simp only at h4;cases hd:o.dst with
 | some d=>
  rw [hd] at h4;exact pX i d v ds a u h2 h3 (by simpa using h4)
 | none=>
  rw [hd] at h4;refine iY ds a _ _ (fun p hp=>?_);have h5:=List.all_eq_true.1 h4 p hp;rw [if_neg (by simpa using h5)]
theorem bn (rem:List Nat) (ds:List (Nat×Tmp)) (J:World→Prop) (V:Nat→Value→World→Prop) (G:World→World→Prop) {bW:Array Bool} (fuel' :Nat) {oh:Nat} {a:Act} {w:World} (hS:S w) (hJ:J w) (hfu:oh=fuel' +rem.length)
  (hok:sH md ops bW rem=true) (hds:zH ops rem ds=true) (hG:∀ w w',G w w' →(S w→S w')∧(J w→J w')∧∀ j x,V j x w→V j x w') (hstep:aY P ops Q md S J V (bN a ds) G rem rem)
  (hend:∀ u w,S w→J w→(∀ i,rem.contains i=true→V i (u i) w)→wpAnyH P md ops Q S fuel' (rem.foldl (fun l i=>l.setIfInBounds i true) bW) (bN a ds u) w):
  wpAnyH P md ops Q S oh bW a w:=by
 refine rz rem J V (bN a ds) G fuel' hfu hok hG (tO hds a) hstep (ML a ds) (mP a _ ds (fun p hp=>?_)).symm hS hJ hend;have h1:(ds.map (·.1)).Nodup:=by
  unfold zH at hds;simp only [Bool.and_eq_true,decide_eq_true_eq] at hds;exact hds.1.2
 unfold ML;rw [mQ ds h1 p hp]
end
end Go.Proofs.YtollifnnpihfdaaGreatDoor
